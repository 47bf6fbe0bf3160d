/- Walks of package object: Parse. -/
import Derived.Test.YtnioljagmimojaaObjD
import Derived.Test.YtnioljagmimojaaAux
set_option linter.unusedVariables false
set_option linter.unusedSimpArgs false
namespace Go.Proofs.Ytnioljagmimojaa
open Go.RowKit Cb

def readsGo : Nat → List UInt8 → Int → List (Int × Int) × List UInt8 × Int
  | 0, bs, e => ([], bs, e)
  | n + 1, bs, e =>
    let a := numR 1073741824 bs e
    let b := numR 1099511627776 a.2.1 a.2.2
    let r := readsGo n b.2.1 b.2.2
    ((a.1, b.1) :: r.1, r.2)
def writesGo : Nat → List UInt8 → Int → List (Int × ByteArray) × List UInt8 × Int
  | 0, bs, e => ([], bs, e)
  | n + 1, bs, e =>
    let a := numR 1073741824 bs e
    let b := textR 48 a.2.1 a.2.2
    let r := writesGo n b.2.1 b.2.2
    ((a.1, (⟨b.1.toArray⟩ : ByteArray)) :: r.1, r.2)
theorem numGo_le (limit : Int) (h : 0 ≤ limit) (bs : List UInt8) : ∀ k n, (numGo limit k n bs).1 ≤ limit := by
  induction bs with
  | nil => intro k n; simpa [numGo] using h
  | cons x bs ih =>
    intro k n; unfold numGo
    split
    · exact h
    · split
      · split
        · exact h
        · rename_i hh; simp only [not_or, Int.not_lt] at hh; exact hh.2
      · exact ih _ _
theorem numR_le (limit : Int) (h : 0 ≤ limit) (bs : List UInt8) (e : Int) : (numR limit bs e).1 ≤ limit := by
  unfold numR; split; exact numGo_le _ h _ _ _; exact h
theorem readsGo_len : ∀ n bs e, (readsGo n bs e).1.length = n
  | 0, _, _ => rfl
  | n + 1, bs, e => by simp only [readsGo, List.length_cons]; rw [readsGo_len n]
theorem writesGo_len : ∀ n bs e, (writesGo n bs e).1.length = n
  | 0, _, _ => rfl
  | n + 1, bs, e => by simp only [writesGo, List.length_cons]; rw [writesGo_len n]
abbrev Tx := Int × List (Int × Int) × List (Int × ByteArray)
def parseT (bs : List UInt8) : Tx × List UInt8 × Int :=
  let a := numR 1099511627776 bs 0
  let n := numR 16 a.2.1 a.2.2
  let r := readsGo n.1.toNat n.2.1 n.2.2
  let m := numR 16 r.2.1 r.2.2
  let x := writesGo m.1.toNat m.2.1 m.2.2
  ((a.1, r.1, x.1), x.2)
def parseR (bs : List UInt8) : Option Tx :=
  let t := parseT bs
  if endR t.2.1 t.2.2 = 0 ∧ rightB t.1.1 t.1.2.1 t.1.2.2 = true then some t.1 else none
theorem info_read : Info Try.prog 77 (.agg #[.int .i64 0, .int .i64 0]) 2 16 := by unfold Info; kernel_rfl
theorem info_write : Info Try.prog 63 (.agg #[.int .i64 0, .string ⟨#[]⟩]) 2 24 := by unfold Info; kernel_rfl
theorem info_tx : Info Try.prog 33 (.agg #[.int .i64 0, .slice none 0 0, .slice none 0 0]) 3 56 := by unfold Info; kernel_rfl

def ParsePost (bs : List UInt8) (w : World) (e : Ending) (w' : World) : Prop :=
  (∃ id rs ws vr vw, parseR bs = some (id, rs, ws) ∧ e = .returned (.tuple #[.agg #[.int .i64 id, vr, vw], .int .i64 0]) ∧ Chg No w w' ∧ Sl (Lt w.heap.size) w' vr rs ∧ Sl (Lt w.heap.size) w' vw ws) ∨
  (parseR bs = none ∧ e = .returned (.tuple #[.agg #[.int .i64 0, .slice none 0 0, .slice none 0 0], .int .i64 1]) ∧ Chg No w w')
theorem endR_zero (bs : List UInt8) (e : Int) : endR bs e = 0 ∨ endR bs e ≠ 0 := Classical.em _
set_option maxRecDepth 100000 in
set_option maxHeartbeats 1000000 in
theorem parse_any (s : ByteArray) (w : World) (hs : s.size ≤ 1000000) :
    Calls Try.prog 15 #[.string s] w (ParsePost s.data.toList w) := by
  have hsl : s.data.toList.length = s.size := by rw [Array.length_toList]; rfl
  obtain ⟨i0, hi0, hi1, hi2, hi3⟩ := info_parts info_tx
  obtain ⟨id, bs1, e1, h1⟩ : ∃ id bs1 e1, numR 1099511627776 s.data.toList 0 = (id, bs1, e1) := ⟨_, _, _, rfl⟩
  obtain ⟨n, bs2, e2, h2⟩ : ∃ n bs2 e2, numR 16 bs1 e1 = (n, bs2, e2) := ⟨_, _, _, rfl⟩
  have hn0 : 0 ≤ n := by have := numR_nonneg 16 bs1 e1; rw [h2] at this; exact this
  have hn1 : n ≤ 16 := by have := numR_le 16 (by omega) bs1 e1; rw [h2] at this; exact this
  obtain ⟨N, rfl⟩ := Int.eq_ofNat_of_zero_le hn0
  obtain ⟨rs, bs3, e3, h3⟩ : ∃ rs bs3 e3, readsGo N bs2 e2 = (rs, bs3, e3) := ⟨_, _, _, rfl⟩
  obtain ⟨m, bs4, e4, h4⟩ : ∃ m bs4 e4, numR 16 bs3 e3 = (m, bs4, e4) := ⟨_, _, _, rfl⟩
  have hm0 : 0 ≤ m := by have := numR_nonneg 16 bs3 e3; rw [h4] at this; exact this
  have hm1 : m ≤ 16 := by have := numR_le 16 (by omega) bs3 e3; rw [h4] at this; exact this
  obtain ⟨M, rfl⟩ := Int.eq_ofNat_of_zero_le hm0
  obtain ⟨ws, bs5, e5, h5⟩ : ∃ ws bs5 e5, writesGo M bs4 e4 = (ws, bs5, e5) := ⟨_, _, _, rfl⟩
  have hT : parseT s.data.toList = ((id, rs, ws), bs5, e5) := by simp [parseT, h1, h2, h3, h4, h5]
  have hrl : rs.length = N := by have := readsGo_len N bs2 e2; rw [h3] at this; exact this
  have hwl : ws.length = M := by have := writesGo_len M bs4 e4; rw [h5] at this; exact this
  have HT := Lib.hid hT; have H1 := Lib.hid h1; have H2 := Lib.hid h2; have H3 := Lib.hid h3; have H4 := Lib.hid h4; have H5 := Lib.hid h5; have Hrl := Lib.hid hrl; have Hwl := Lib.hid hwl
  clear hT h1 h2 h3 h4 h5 hn0 hm0 hrl hwl
  go_enter Try.func15, Try.ntmps15
  go_wp2_with (first | (with_reducible refine stop_append ?_) | (with_reducible refine stop_copy ?_) | (with_reducible refine stop_make ?_) | (with_reducible refine stop_lookup ?_) | (with_reducible refine stop_update ?_) | (with_reducible refine stop_slice ?_) | (with_reducible refine stop_range ?_) | (with_reducible refine stop_next ?_) | (with_reducible refine stop_convert ⟨_, rfl⟩ ?_) | (with_reducible refine stop_convertB ⟨_, _, _, rfl⟩ ?_) | (with_reducible refine stop_eqSlice ⟨_, _, rfl⟩ ?_))
  refine step_conv_sb No Try.underlying9 Try.underlying78 Try.underlying5 rfl (not_no _) ?_
  intro v0 w1 hs1 hc1
  have ho1 := hc1.obj (alloc_obj w _) (not_no _)
  have hc01 := ((Chg.refl No w).alloc _).trans hc1
  obtain ⟨q2, hq2⟩ : ∃ q2, q2 = w.heap.size := ⟨_, rfl⟩
  rw [← hq2] at ho1 ⊢
  have hq2' : w.heap.size ≤ q2 := by omega
  clear hc1 hq2
  go_wp2_with (first | (with_reducible refine stop_append ?_) | (with_reducible refine stop_copy ?_) | (with_reducible refine stop_make ?_) | (with_reducible refine stop_lookup ?_) | (with_reducible refine stop_update ?_) | (with_reducible refine stop_slice ?_) | (with_reducible refine stop_range ?_) | (with_reducible refine stop_next ?_) | (with_reducible refine stop_convert ⟨_, rfl⟩ ?_) | (with_reducible refine stop_convertB ⟨_, _, _, rfl⟩ ?_) | (with_reducible refine stop_eqSlice ⟨_, _, rfl⟩ ?_))
  refine (newreader_any No v0 _ _ hs1 (by omega)).mono ?_
  rintro e w2 ⟨p, rfl, hr2, hc2, hp2⟩
  have ho2 := hc2.obj ho1 (not_no _)
  have hc02 := hc01.trans hc2
  have hqp : q2 ≠ p := by have := lt_of_heap ho1; omega
  have hp : w.heap.size ≤ p := by have := hc01.size; omega
  clear hs1 ho1 hc2 hc01 hp2
  go_wp2_with (first | (with_reducible refine stop_append ?_) | (with_reducible refine stop_copy ?_) | (with_reducible refine stop_make ?_) | (with_reducible refine stop_lookup ?_) | (with_reducible refine stop_update ?_) | (with_reducible refine stop_slice ?_) | (with_reducible refine stop_range ?_) | (with_reducible refine stop_next ?_) | (with_reducible refine stop_convert ⟨_, rfl⟩ ?_) | (with_reducible refine stop_convertB ⟨_, _, _, rfl⟩ ?_) | (with_reducible refine stop_eqSlice ⟨_, _, rfl⟩ ?_))
  have c := rnum_all p _ _ 1099511627776 w2 hr2 (by omega) (by omega)
  rw [H1.out] at c
  refine c.mono ?_
  clear c
  rintro e w3 ⟨rfl, hr3, hc3⟩
  have ho3 := hc3.obj ho2 hqp
  have hc03 : Chg No w w3 := hc02.trans' hc3 (fun _ _ f => f) (fun i hi f => by simp [At] at f; omega)
  clear hr2 ho2 hc02 hc3
  go_wp2_with (first | (with_reducible refine stop_append ?_) | (with_reducible refine stop_copy ?_) | (with_reducible refine stop_make ?_) | (with_reducible refine stop_lookup ?_) | (with_reducible refine stop_update ?_) | (with_reducible refine stop_slice ?_) | (with_reducible refine stop_range ?_) | (with_reducible refine stop_next ?_) | (with_reducible refine stop_convert ⟨_, rfl⟩ ?_) | (with_reducible refine stop_convertB ⟨_, _, _, rfl⟩ ?_) | (with_reducible refine stop_eqSlice ⟨_, _, rfl⟩ ?_))
  have ha := (Chg.refl No w3).alloc (.cells #[.int .i64 id, .slice none 0 0, .slice none 0 0] 33)
  have ho4 := ha.obj ho3 (not_no _)
  have hr4 := hr3.keep ha (fun _ _ f => f.elim) (not_no _)
  have hc04 := hc03.trans ha
  have hb4 := alloc_obj w3 (.cells #[.int .i64 id, .slice none 0 0, .slice none 0 0] 33)
  have hplt : p < w3.heap.size := by obtain ⟨_, _, _, h⟩ := hr3; exact lt_of_heap h
  have hqlt : q2 < w3.heap.size := lt_of_heap ho3
  have hq5 : w.heap.size ≤ w3.heap.size := hc03.size
  generalize w3.alloc (.cells #[.int .i64 id, .slice none 0 0, .slice none 0 0] 33) = w4 at ho4 hr4 hc04 hb4 ⊢
  generalize w3.heap.size = q5 at hb4 hplt hqlt hq5 ⊢
  clear ha ho3 hr3 hc03
  have c := rnum_all p _ _ 16 w4 hr4 (by omega) (by omega)
  rw [H2.out] at c
  refine c.mono ?_
  clear c
  rintro e w5 ⟨rfl, hr5, hc5⟩
  have ho5 := hc5.obj ho4 hqp
  have hb5 := hc5.obj hb4 (show ¬ At p q5 by simp [At]; omega)
  have hc05 : Chg No w w5 := hc04.trans' hc5 (fun _ _ f => f) (fun i hi f => by simp [At] at f; omega)
  have hB5 : q5 < w5.heap.size := lt_of_heap hb5
  clear hr4 ho4 hc04 hc5 hb4
  go_wp2_with (first | (with_reducible refine stop_append ?_) | (with_reducible refine stop_copy ?_) | (with_reducible refine stop_make ?_) | (with_reducible refine stop_lookup ?_) | (with_reducible refine stop_update ?_) | (with_reducible refine stop_slice ?_) | (with_reducible refine stop_range ?_) | (with_reducible refine stop_next ?_) | (with_reducible refine stop_convert ⟨_, rfl⟩ ?_) | (with_reducible refine stop_convertB ⟨_, _, _, rfl⟩ ?_) | (with_reducible refine stop_eqSlice ⟨_, _, rfl⟩ ?_))
  go_loopw [14] (fun v14 wr => ∃ (k : Nat) (acc : List (Int × Int)) (bs' : List UInt8) (e' : Int) (v : Value), k ≤ N ∧ v14 = .int .i64 k ∧ wr.heap[q5]? = some (.cells #[.int .i64 id, v, .slice none 0 0] 33 (0, 0)) ∧ wr.heap[q2]? = some (.cells #[.int .i64 0, .slice none 0 0, .slice none 0 0] 33 (0, 0)) ∧
      Own No wr w5.heap.size 77 v acc ∧ Rdr wr p bs' e' ∧ Chg No w wr ∧ w5.heap.size ≤ wr.heap.size ∧ acc.length = k ∧ readsGo N bs2 e2 = (acc ++ (readsGo (N - k) bs' e').1, (readsGo (N - k) bs' e').2)) (fun v14 _ => N - (intOf v14).toNat)
  case atStart => exact ⟨0, [], bs2, e2, _, by omega, rfl, hb5, ho5, Own.nil _ _ _ _, hr5, hc05, Nat.le_refl _, rfl, by simp⟩
  case round =>
    obtain ⟨k, acc, bs', e', v, hk, rfl, hb, ho, hown, hr, hc, hsz, hal, hgo⟩ := hrel
    have Hgo := Lib.hid hgo; have Hal := Lib.hid hal
    clear hgo hal hb5 ho5 hr5 hc05
    by_cases hlt : k < N
    · obtain ⟨f, bs6, e6, h6⟩ : ∃ f bs6 e6, numR 1073741824 bs' e' = (f, bs6, e6) := ⟨_, _, _, rfl⟩
      obtain ⟨g, bs7, e7, h7⟩ : ∃ g bs7 e7, numR 1099511627776 bs6 e6 = (g, bs7, e7) := ⟨_, _, _, rfl⟩
      have hgo2 : readsGo (N - k) bs' e' = ((f, g) :: (readsGo (N - (k + 1)) bs7 e7).1, (readsGo (N - (k + 1)) bs7 e7).2) := by
        rw [show N - k = (N - (k + 1)) + 1 by omega]; simp only [readsGo, h6, h7]
      have Hgo2 := Lib.hid hgo2; have H6 := Lib.hid h6; have H7 := Lib.hid h7
      clear hgo2 h6 h7
      have b1 := cell_obj (i := 1) hb rfl
      obtain ⟨wo, rfl⟩ : ∃ wo : World, wo = wr := ⟨_, rfl⟩
      go_wp2_with (first | (with_reducible refine stop_append ?_) | (with_reducible refine stop_copy ?_) | (with_reducible refine stop_make ?_) | (with_reducible refine stop_lookup ?_) | (with_reducible refine stop_update ?_) | (with_reducible refine stop_slice ?_) | (with_reducible refine stop_range ?_) | (with_reducible refine stop_next ?_) | (with_reducible refine stop_convert ⟨_, rfl⟩ ?_) | (with_reducible refine stop_convertB ⟨_, _, _, rfl⟩ ?_) | (with_reducible refine stop_eqSlice ⟨_, _, rfl⟩ ?_))
      refine rt_start (fun W => W.cell? ⟨q5, 1, none⟩ = some v) (by kernel_rfl) ?_
      ((refine rt_yes (i := 0) (oi := { dst := some 16, op := Go.Op.fieldAddr 33 (Go.Operand.tmp 5) 1, type := 0, pos := "object.go:77", after := #[], guard := none }) (v := ?_) rfl (by kernel_rfl) (by kernel_rfl) (by kernel_rfl) (fun _ _ _ h => h) rfl ?_ ?_); rotate_left; focus (intro W hW; (try dsimp only at hW); go_split_ands; go_simp; (try (simp (disch := omega) only [IntWalk.i64_in]; (try go_simp))); (try (split; (next => omega); (try go_simp))); try rfl; done))
      try simp only [Act.put, List.setIfInBounds_toArray, List.set_cons_zero, List.set_cons_succ]
      ((refine rt_yes (i := 1) (oi := { dst := some 17, op := Go.Op.load 30 (Go.Operand.tmp 16), type := 30, pos := "object.go:77", after := #[{ on := 0, ground := Go.Ground.data }], guard := none }) (v := ?_) rfl (by kernel_rfl) (by kernel_rfl) (by kernel_rfl) (fun _ _ _ h => h) rfl ?_ ?_); rotate_left; focus (intro W hW; (try dsimp only at hW); go_split_ands; go_simp; (try (simp (disch := omega) only [IntWalk.i64_in]; (try go_simp))); (try (split; (next => omega); (try go_simp))); try rfl; done))
      try simp only [Act.put, List.setIfInBounds_toArray, List.set_cons_zero, List.set_cons_succ]
      ((refine rt_yes (i := 2) (oi := { dst := some 18, op := Go.Op.move (Go.Operand.tmp 4), type := 83, pos := "object.go:77", after := #[], guard := none }) (v := ?_) rfl (by kernel_rfl) (by kernel_rfl) (by kernel_rfl) (fun _ _ _ h => h) rfl ?_ ?_); rotate_left; focus (intro W hW; (try dsimp only at hW); go_split_ands; go_simp; (try (simp (disch := omega) only [IntWalk.i64_in]; (try go_simp))); (try (split; (next => omega); (try go_simp))); try rfl; done))
      try simp only [Act.put, List.setIfInBounds_toArray, List.set_cons_zero, List.set_cons_succ]
      ((refine rt_yes (i := 4) (oi := { dst := some 20, op := Go.Op.move (Go.Operand.tmp 4), type := 83, pos := "object.go:77", after := #[], guard := none }) (v := ?_) rfl (by kernel_rfl) (by kernel_rfl) (by kernel_rfl) (fun _ _ _ h => h) rfl ?_ ?_); rotate_left; focus (intro W hW; (try dsimp only at hW); go_split_ands; go_simp; (try (simp (disch := omega) only [IntWalk.i64_in]; (try go_simp))); (try (split; (next => omega); (try go_simp))); try rfl; done))
      try simp only [Act.put, List.setIfInBounds_toArray, List.set_cons_zero, List.set_cons_succ]
      -- ready: [3]
      refine rt_k (fun W => W.cell? ⟨q5, 1, none⟩ = some v) (i := 3) (oi := { dst := some 19, op := Go.Op.call { callee := Go.Callee.value (Go.Operand.func 40), args := #[Go.Operand.tmp 18, Go.Operand.const (Go.Value.int Go.IntKind.i64 1073741824)], argTypes := #[83, 3] }, type := 3, pos := "object.go:77", after := #[{ on := 2, ground := Go.Ground.data }], guard := none }) (by kernel_rfl) b1 (fun _ h => h) rfl (by rfl) (fun K hK => ?_)
      go_simp
      have c := rnum_all p _ _ 1073741824 wo.drew hr (by omega) (by omega)
      rw [H6.out] at c
      refine c.mono ?_
      clear c
      rintro e w6 ⟨rfl, hr6, hc6⟩
      have hc6 : Chg (At p) wo w6 := ((Chg.refl _ wo).drew).trans hc6
      have hb6 := hc6.obj hb (show ¬ At p q5 by simp [At]; omega)
      have b6 : (fun W => W.cell? ⟨q5, 1, none⟩ = some v) w6 := cell_obj (i := 1) hb6 rfl
      refine hK _ _ ?_
      clear hK K
      try simp only [Act.put, List.setIfInBounds_toArray, List.set_cons_zero, List.set_cons_succ]
      -- ready: [5]
      refine rt_k (fun W => W.cell? ⟨q5, 1, none⟩ = some v) (i := 5) (oi := { dst := some 21, op := Go.Op.call { callee := Go.Callee.value (Go.Operand.func 40), args := #[Go.Operand.tmp 20, Go.Operand.const (Go.Value.int Go.IntKind.i64 1099511627776)], argTypes := #[83, 3] }, type := 3, pos := "object.go:77", after := #[{ on := 4, ground := Go.Ground.data }, { on := 3, ground := Go.Ground.chain }], guard := none }) (by kernel_rfl) b6 (fun _ h => h) rfl (by rfl) (fun K hK => ?_)
      go_simp
      have c := rnum_all p _ _ 1099511627776 w6 hr6 (by omega) (by omega)
      rw [H7.out] at c
      refine c.mono ?_
      clear c
      rintro e w7 ⟨rfl, hr7, hc7⟩
      have hc67 : Chg (At p) wo w7 := hc6.trans hc7
      have hb7 := hc67.obj hb (show ¬ At p q5 by simp [At]; omega)
      have b7 : (fun W => W.cell? ⟨q5, 1, none⟩ = some v) w7 := cell_obj (i := 1) hb7 rfl
      refine hK _ _ ?_
      clear hK K
      try simp only [Act.put, List.setIfInBounds_toArray, List.set_cons_zero, List.set_cons_succ]
      ((refine rt_yes (i := 6) (oi := { dst := some 22, op := Go.Op.build 77 #[(0, Go.Operand.tmp 19), (1, Go.Operand.tmp 21)], type := 77, pos := "object.go:77", after := #[{ on := 3, ground := Go.Ground.data }, { on := 5, ground := Go.Ground.data }], guard := none }) (v := ?_) rfl (by kernel_rfl) (by kernel_rfl) (by kernel_rfl) (fun _ _ _ h => h) rfl ?_ ?_); rotate_left; focus (intro W hW; (try dsimp only at hW); go_split_ands; go_simp; (try (simp (disch := omega) only [IntWalk.i64_in]; (try go_simp))); (try (split; (next => omega); (try go_simp))); try rfl; done))
      try simp only [Act.put, List.setIfInBounds_toArray, List.set_cons_zero, List.set_cons_succ]
      -- ready: [7]
      refine rt_k (fun W => W.cell? ⟨q5, 1, none⟩ = some v) (i := 7) (oi := { dst := some 23, op := Go.Op.buildSlice 30 1 #[(0, Go.Operand.tmp 22)], type := 30, pos := "object.go:77", after := #[{ on := 6, ground := Go.Ground.data }], guard := none }) (by kernel_rfl) b7 (fun _ h => h) rfl (by rfl) (fun K hK => ?_)
      go_simp
      refine hK _ _ ?_
      clear hK K
      try simp only [Act.put, List.setIfInBounds_toArray, List.set_cons_zero, List.set_cons_succ]
      -- ready: [8]
      have hne : ∀ i, v.ownBlock = some i → ¬ At p i := fun i h f => by have := (hown.lt i h).1; simp [At] at f; omega
      have hown7 := (hown.keepFlat hc67 hne).alloc (.cells #[.int .i64 f, .int .i64 g] 77)
      have b7a : (fun W => W.cell? ⟨q5, 1, none⟩ = some v) (w7.alloc (.cells #[.int .i64 f, .int .i64 g] 77)) := ((Chg.refl No w7).alloc _).cell b7 (not_no _)
      refine rt_append_flat (α := Int × Int) (fun W => W.cell? ⟨q5, 1, none⟩ = some v) (i := 8) (by kernel_rfl) b7a (fun _ h => h) rfl rfl Try.underlying30 info_read rfl hown7 rfl rfl (Sl.lit1 (F := No) (y := (f, g)) rfl ⟨[.int .i64 f], [.int .i64 g], rfl, rfl, rfl⟩ (not_no _)) (by have := Hal.out; simp; omega) (by have := Hal.out; simp [show Rep.n (Int × Int) = 2 from rfl]; omega) (by have := hc67.size; simp; omega) ?_
      intro v8 w8 hown8 hg8
      obtain ⟨A8, c8, rfl⟩ := hown8.slice
      rw [show (acc ++ [(f, g)]).length = acc.length + 1 by simp] at hown8
      have hvq5 : ¬ OB v q5 := fun h => by have := (hown.lt _ h).1; omega
      have hvq2 : ¬ OB v q2 := fun h => by have := (hown.lt _ h).1; omega
      have hvp : ¬ OB v p := fun h => by have := (hown.lt _ h).1; omega
      have hc78 : Chg (OB v) w7 w8 := ((Chg.refl (OB v) w7).alloc _).trans hg8.chg
      have hb8 := hc78.obj hb7 hvq5
      have ho8 := hc78.obj (hc67.obj ho hqp) hvq2
      have hr8 := hr7.keep hc78 (fun k _ h => by have := (hown.lt _ h).1; omega) hvp
      have b8 : (fun W => W.cell? ⟨q5, 1, none⟩ = some v) w8 := cell_obj (i := 1) hb8 rfl
      have f8 := free_obj (i := 1) hb8
      try simp only [Act.put, List.setIfInBounds_toArray, List.set_cons_zero, List.set_cons_succ]
      ((refine rt_yes (i := 9) (oi := { dst := some 25, op := Go.Op.fieldAddr 33 (Go.Operand.tmp 5) 1, type := 0, pos := "object.go:77", after := #[{ on := 0, ground := Go.Ground.phase }, { on := 1, ground := Go.Ground.phase }, { on := 2, ground := Go.Ground.phase }, { on := 3, ground := Go.Ground.phase }, { on := 4, ground := Go.Ground.phase }, { on := 5, ground := Go.Ground.phase }, { on := 6, ground := Go.Ground.phase }, { on := 7, ground := Go.Ground.phase }, { on := 8, ground := Go.Ground.phase }], guard := none }) (v := ?_) rfl (by kernel_rfl) (by kernel_rfl) (by kernel_rfl) (fun _ _ _ h => h) rfl ?_ ?_); rotate_left; focus (intro W hW; (try dsimp only at hW); go_split_ands; go_simp; (try (simp (disch := omega) only [IntWalk.i64_in]; (try go_simp))); (try (split; (next => omega); (try go_simp))); try rfl; done))
      try simp only [Act.put, List.setIfInBounds_toArray, List.set_cons_zero, List.set_cons_succ]
      -- ready: [10]
      refine rt_k (fun W => W.cell? ⟨q5, 1, none⟩ = some v) (i := 10) (oi := { dst := none, op := Go.Op.store 30 (Go.Operand.tmp 25) (Go.Operand.tmp 24), type := 0, pos := "object.go:77", after := #[{ on := 9, ground := Go.Ground.data }, { on := 8, ground := Go.Ground.data }, { on := 8, ground := Go.Ground.chain }, { on := 0, ground := Go.Ground.phase }, { on := 1, ground := Go.Ground.phase }, { on := 2, ground := Go.Ground.phase }, { on := 3, ground := Go.Ground.phase }, { on := 4, ground := Go.Ground.phase }, { on := 5, ground := Go.Ground.phase }, { on := 6, ground := Go.Ground.phase }, { on := 7, ground := Go.Ground.phase }, { on := 8, ground := Go.Ground.phase }], guard := none }) (by kernel_rfl) b8 (fun _ h => h) rfl (by rfl) (fun K hK => ?_)
      go_simp
      refine hK _ _ ?_
      clear hK K
      try simp only [Act.put, List.setIfInBounds_toArray, List.set_cons_zero, List.set_cons_succ]
      -- ready: []
      refine rt_done (by kernel_rfl)  ?_
      go_wp2_with (first | (with_reducible refine stop_append ?_) | (with_reducible refine stop_copy ?_) | (with_reducible refine stop_make ?_) | (with_reducible refine stop_lookup ?_) | (with_reducible refine stop_update ?_) | (with_reducible refine stop_slice ?_) | (with_reducible refine stop_range ?_) | (with_reducible refine stop_next ?_) | (with_reducible refine stop_convert ⟨_, rfl⟩ ?_) | (with_reducible refine stop_convertB ⟨_, _, _, rfl⟩ ?_) | (with_reducible refine stop_eqSlice ⟨_, _, rfl⟩ ?_))
      go_roundw
      case rel =>
        have hq : ∀ i, OB v i → w.heap.size ≤ i := fun i h => by have := (hown.lt _ h).1; omega
        have hown9 : ∀ i, (Value.slice A8 (acc.length + 1) c8).ownBlock = some i → ¬ At q5 i := fun i h s => by have := (hown8.lt _ h).1; simp [At] at s; omega
        have e1 := Hgo.out
        rw [Hgo2.out] at e1
        exact ⟨k + 1, acc ++ [(f, g)], bs7, e7, _, by omega, by go_num, obj_set hb8 rfl, obj_set_other ho8 (by omega), hown8.keepFlat (chg_set _) hown9,
          hr8.keep (chg_set _) (fun i _ h => by simp [At] at h; omega) (by simp [At]; omega),
          ((hc.old hc67 (fun i h => by simp [At] at h; omega)).old hc78 hq).old (chg_set _) (fun i h => by simp [At] at h; omega),
          by have := hc67.size; have := hc78.size; simp; omega, by have := Hal.out; simp; omega, by rw [e1]; simp⟩
      case measure => simp [intOf]; omega
    · obtain rfl : k = N := by omega
      have hacc : acc = rs ∧ bs' = bs3 ∧ e' = e3 := by
        have := Hgo.out; rw [H3.out, Nat.sub_self] at this; simp [readsGo] at this; exact ⟨this.1.symm, this.2.1.symm, this.2.2.symm⟩
      obtain ⟨rfl, rfl, rfl⟩ := hacc
      have hslc := hown.slice
      obtain ⟨Av, cv, rfl⟩ := hslc
      clear Hgo Hal H2
      generalize hvr : Value.slice Av acc.length cv = vr at *
      have Hvr := Lib.hid hvr; clear hvr
      obtain ⟨w6, rfl⟩ : ∃ w6 : World, w6 = wr := ⟨_, rfl⟩
      have hB6 : q5 < w6.heap.size := lt_of_heap hb
      go_wp2_with (first | (with_reducible refine stop_append ?_) | (with_reducible refine stop_copy ?_) | (with_reducible refine stop_make ?_) | (with_reducible refine stop_lookup ?_) | (with_reducible refine stop_update ?_) | (with_reducible refine stop_slice ?_) | (with_reducible refine stop_range ?_) | (with_reducible refine stop_next ?_) | (with_reducible refine stop_convert ⟨_, rfl⟩ ?_) | (with_reducible refine stop_convertB ⟨_, _, _, rfl⟩ ?_) | (with_reducible refine stop_eqSlice ⟨_, _, rfl⟩ ?_))
      have c := rnum_all p _ _ 16 w6 hr (by omega) (by omega)
      rw [H4.out] at c
      refine c.mono ?_
      clear c
      rintro e w7 ⟨rfl, hr7, hc7⟩
      have hnep : ∀ i, vr.ownBlock = some i → ¬ At p i := fun i h f => by have := (hown.lt i h).1; simp [At] at f; omega
      have hown7 := hown.keepFlat hc7 hnep
      have hb7 := hc7.obj hb (show ¬ At p q5 by simp [At]; omega)
      have ho7 := hc7.obj ho hqp
      have hc07 := hc.old hc7 (fun i h => by simp [At] at h; omega)
      have hsz7 := hc7.size
      clear hb ho hown hr hc hc7 hnep
      go_wp2_with (first | (with_reducible refine stop_append ?_) | (with_reducible refine stop_copy ?_) | (with_reducible refine stop_make ?_) | (with_reducible refine stop_lookup ?_) | (with_reducible refine stop_update ?_) | (with_reducible refine stop_slice ?_) | (with_reducible refine stop_range ?_) | (with_reducible refine stop_next ?_) | (with_reducible refine stop_convert ⟨_, rfl⟩ ?_) | (with_reducible refine stop_convertB ⟨_, _, _, rfl⟩ ?_) | (with_reducible refine stop_eqSlice ⟨_, _, rfl⟩ ?_))
      have hvr7 := fun i h => (hown7.lt i h).2
      have hvr5 := fun i h => (hown7.lt i h).1
      go_loopw [29] (fun v29 wr => ∃ (k : Nat) (ac2 : List (Int × ByteArray)) (bs' : List UInt8) (e' : Int) (v : Value), k ≤ M ∧ v29 = .int .i64 k ∧ wr.heap[q5]? = some (.cells #[.int .i64 id, vr, v] 33 (0, 0)) ∧ wr.heap[q2]? = some (.cells #[.int .i64 0, .slice none 0 0, .slice none 0 0] 33 (0, 0)) ∧
        Own No wr w5.heap.size 77 vr acc ∧ Own No wr w7.heap.size 63 v ac2 ∧ Rdr wr p bs' e' ∧ Chg No w wr ∧ w7.heap.size ≤ wr.heap.size ∧ ac2.length = k ∧ writesGo M bs4 e4 = (ac2 ++ (writesGo (M - k) bs' e').1, (writesGo (M - k) bs' e').2)) (fun v29 _ => M - (intOf v29).toNat)
      case atStart => exact ⟨0, [], bs4, e4, _, by omega, rfl, hb7, ho7, hown7, Own.nil _ _ _ _, hr7, hc07, Nat.le_refl _, rfl, by simp⟩
      case round =>
        obtain ⟨k, ac2, bs', e', v, hk2, rfl, hb, ho, hown, hown2, hr, hc, hsz2, hal, hgo⟩ := hrel
        have Hgo := Lib.hid hgo; have Hal := Lib.hid hal
        clear hgo hal hb7 ho7 hr7 hc07 hown7
        by_cases hlt2 : k < M
        · obtain ⟨f, bs6, e6, h6⟩ : ∃ f bs6 e6, numR 1073741824 bs' e' = (f, bs6, e6) := ⟨_, _, _, rfl⟩
          obtain ⟨g, bs7, e7, h7⟩ : ∃ g bs7 e7, textR 48 bs6 e6 = (g, bs7, e7) := ⟨_, _, _, rfl⟩
          have hgo2 : writesGo (M - k) bs' e' = ((f, (⟨g.toArray⟩ : ByteArray)) :: (writesGo (M - (k + 1)) bs7 e7).1, (writesGo (M - (k + 1)) bs7 e7).2) := by
            rw [show M - k = (M - (k + 1)) + 1 by omega]; simp only [writesGo, h6, h7]
          have Hgo2 := Lib.hid hgo2; have H6 := Lib.hid h6; have H7 := Lib.hid h7
          clear hgo2 h6 h7
          have b1 := cell_obj (i := 2) hb rfl
          obtain ⟨wo, rfl⟩ : ∃ wo : World, wo = wr := ⟨_, rfl⟩
          go_wp2_with (first | (with_reducible refine stop_append ?_) | (with_reducible refine stop_copy ?_) | (with_reducible refine stop_make ?_) | (with_reducible refine stop_lookup ?_) | (with_reducible refine stop_update ?_) | (with_reducible refine stop_slice ?_) | (with_reducible refine stop_range ?_) | (with_reducible refine stop_next ?_) | (with_reducible refine stop_convert ⟨_, rfl⟩ ?_) | (with_reducible refine stop_convertB ⟨_, _, _, rfl⟩ ?_) | (with_reducible refine stop_eqSlice ⟨_, _, rfl⟩ ?_))
          refine rt_start (fun W => W.cell? ⟨q5, 2, none⟩ = some v) (by kernel_rfl) ?_
          ((refine rt_yes (i := 0) (oi := { dst := some 31, op := Go.Op.fieldAddr 33 (Go.Operand.tmp 5) 2, type := 0, pos := "object.go:80", after := #[], guard := none }) (v := ?_) rfl (by kernel_rfl) (by kernel_rfl) (by kernel_rfl) (fun _ _ _ h => h) rfl ?_ ?_); rotate_left; focus (intro W hW; (try dsimp only at hW); go_split_ands; go_simp; (try (simp (disch := omega) only [IntWalk.i64_in]; (try go_simp))); (try (split; (next => omega); (try go_simp))); try rfl; done))
          try simp only [Act.put, List.setIfInBounds_toArray, List.set_cons_zero, List.set_cons_succ]
          ((refine rt_yes (i := 1) (oi := { dst := some 32, op := Go.Op.load 31 (Go.Operand.tmp 31), type := 31, pos := "object.go:80", after := #[{ on := 0, ground := Go.Ground.data }], guard := none }) (v := ?_) rfl (by kernel_rfl) (by kernel_rfl) (by kernel_rfl) (fun _ _ _ h => h) rfl ?_ ?_); rotate_left; focus (intro W hW; (try dsimp only at hW); go_split_ands; go_simp; (try (simp (disch := omega) only [IntWalk.i64_in]; (try go_simp))); (try (split; (next => omega); (try go_simp))); try rfl; done))
          try simp only [Act.put, List.setIfInBounds_toArray, List.set_cons_zero, List.set_cons_succ]
          ((refine rt_yes (i := 2) (oi := { dst := some 33, op := Go.Op.move (Go.Operand.tmp 4), type := 83, pos := "object.go:80", after := #[], guard := none }) (v := ?_) rfl (by kernel_rfl) (by kernel_rfl) (by kernel_rfl) (fun _ _ _ h => h) rfl ?_ ?_); rotate_left; focus (intro W hW; (try dsimp only at hW); go_split_ands; go_simp; (try (simp (disch := omega) only [IntWalk.i64_in]; (try go_simp))); (try (split; (next => omega); (try go_simp))); try rfl; done))
          try simp only [Act.put, List.setIfInBounds_toArray, List.set_cons_zero, List.set_cons_succ]
          ((refine rt_yes (i := 4) (oi := { dst := some 35, op := Go.Op.move (Go.Operand.tmp 4), type := 83, pos := "object.go:80", after := #[], guard := none }) (v := ?_) rfl (by kernel_rfl) (by kernel_rfl) (by kernel_rfl) (fun _ _ _ h => h) rfl ?_ ?_); rotate_left; focus (intro W hW; (try dsimp only at hW); go_split_ands; go_simp; (try (simp (disch := omega) only [IntWalk.i64_in]; (try go_simp))); (try (split; (next => omega); (try go_simp))); try rfl; done))
          try simp only [Act.put, List.setIfInBounds_toArray, List.set_cons_zero, List.set_cons_succ]
          -- ready: [3]
          refine rt_k (fun W => W.cell? ⟨q5, 2, none⟩ = some v) (i := 3) (oi := { dst := some 34, op := Go.Op.call { callee := Go.Callee.value (Go.Operand.func 40), args := #[Go.Operand.tmp 33, Go.Operand.const (Go.Value.int Go.IntKind.i64 1073741824)], argTypes := #[83, 3] }, type := 3, pos := "object.go:80", after := #[{ on := 2, ground := Go.Ground.data }], guard := none }) (by kernel_rfl) b1 (fun _ h => h) rfl (by rfl) (fun K hK => ?_)
          go_simp
          have c := rnum_all p _ _ 1073741824 wo.drew hr (by omega) (by omega)
          rw [H6.out] at c
          refine c.mono ?_
          clear c
          rintro e w8 ⟨rfl, hr8, hc8⟩
          have hc8 : Chg (At p) wo w8 := ((Chg.refl _ wo).drew).trans hc8
          have hb8 := hc8.obj hb (show ¬ At p q5 by simp [At]; omega)
          have b8 : (fun W => W.cell? ⟨q5, 2, none⟩ = some v) w8 := cell_obj (i := 2) hb8 rfl
          refine hK _ _ ?_
          clear hK K
          try simp only [Act.put, List.setIfInBounds_toArray, List.set_cons_zero, List.set_cons_succ]
          -- ready: [5]
          refine rt_k (fun W => W.cell? ⟨q5, 2, none⟩ = some v) (i := 5) (oi := { dst := some 36, op := Go.Op.call { callee := Go.Callee.value (Go.Operand.func 41), args := #[Go.Operand.tmp 35, Go.Operand.const (Go.Value.int Go.IntKind.i64 48)], argTypes := #[83, 3] }, type := 9, pos := "object.go:80", after := #[{ on := 4, ground := Go.Ground.data }, { on := 3, ground := Go.Ground.chain }], guard := none }) (by kernel_rfl) b8 (fun _ h => h) rfl (by rfl) (fun K hK => ?_)
          go_simp
          have c := rtext_all p _ _ 48 w8 hr8 (by omega) (by omega)
          rw [H7.out] at c
          refine c.mono ?_
          clear c
          rintro e w9 ⟨rfl, hr9, hc9⟩
          have hc89 : Chg (At p) wo w9 := hc8.trans hc9
          have hb9 := hc89.obj hb (show ¬ At p q5 by simp [At]; omega)
          have b9 : (fun W => W.cell? ⟨q5, 2, none⟩ = some v) w9 := cell_obj (i := 2) hb9 rfl
          refine hK _ _ ?_
          clear hK K
          try simp only [Act.put, List.setIfInBounds_toArray, List.set_cons_zero, List.set_cons_succ]
          ((refine rt_yes (i := 6) (oi := { dst := some 37, op := Go.Op.build 63 #[(0, Go.Operand.tmp 34), (1, Go.Operand.tmp 36)], type := 63, pos := "object.go:80", after := #[{ on := 3, ground := Go.Ground.data }, { on := 5, ground := Go.Ground.data }], guard := none }) (v := ?_) rfl (by kernel_rfl) (by kernel_rfl) (by kernel_rfl) (fun _ _ _ h => h) rfl ?_ ?_); rotate_left; focus (intro W hW; (try dsimp only at hW); go_split_ands; go_simp; (try (simp (disch := omega) only [IntWalk.i64_in]; (try go_simp))); (try (split; (next => omega); (try go_simp))); try rfl; done))
          try simp only [Act.put, List.setIfInBounds_toArray, List.set_cons_zero, List.set_cons_succ]
          -- ready: [7]
          refine rt_k (fun W => W.cell? ⟨q5, 2, none⟩ = some v) (i := 7) (oi := { dst := some 38, op := Go.Op.buildSlice 31 1 #[(0, Go.Operand.tmp 37)], type := 31, pos := "object.go:80", after := #[{ on := 6, ground := Go.Ground.data }], guard := none }) (by kernel_rfl) b9 (fun _ h => h) rfl (by rfl) (fun K hK => ?_)
          go_simp
          refine hK _ _ ?_
          clear hK K
          try simp only [Act.put, List.setIfInBounds_toArray, List.set_cons_zero, List.set_cons_succ]
          -- ready: [8]
          have hne : ∀ i, v.ownBlock = some i → ¬ At p i := fun i h f => by have := (hown2.lt i h).1; simp [At] at f; omega
          have hnr : ∀ i, vr.ownBlock = some i → ¬ At p i := fun i h f => by have := (hown.lt i h).1; simp [At] at f; omega
          have hown9 := (hown2.keepFlat hc89 hne).alloc (.cells #[.int .i64 f, .string ⟨g.toArray⟩] 63)
          have b9a : (fun W => W.cell? ⟨q5, 2, none⟩ = some v) (w9.alloc (.cells #[.int .i64 f, .string ⟨g.toArray⟩] 63)) := ((Chg.refl No w9).alloc _).cell b9 (not_no _)
          refine rt_append_flat (α := Int × ByteArray) (fun W => W.cell? ⟨q5, 2, none⟩ = some v) (i := 8) (by kernel_rfl) b9a (fun _ h => h) rfl rfl Try.underlying31 info_write rfl hown9 rfl rfl (Sl.lit1 (F := No) (y := (f, (⟨g.toArray⟩ : ByteArray))) rfl ⟨[.int .i64 f], [.string ⟨g.toArray⟩], rfl, rfl, rfl⟩ (not_no _)) (by have := Hal.out; simp; omega) (by have := Hal.out; simp [show Rep.n (Int × ByteArray) = 2 from rfl]; omega) (by have := hc89.size; simp; omega) ?_
          intro v10 w10 hown10 hg10
          obtain ⟨A10, c10, rfl⟩ := hown10.slice
          rw [show (ac2 ++ [(f, (⟨g.toArray⟩ : ByteArray))]).length = ac2.length + 1 by simp] at hown10
          have hvq5 : ¬ OB v q5 := fun h => by have := (hown2.lt _ h).1; omega
          have hvq2 : ¬ OB v q2 := fun h => by have := (hown2.lt _ h).1; omega
          have hvp : ¬ OB v p := fun h => by have := (hown2.lt _ h).1; omega
          have hc910 : Chg (OB v) w9 w10 := ((Chg.refl (OB v) w9).alloc _).trans hg10.chg
          have hb10 := hc910.obj hb9 hvq5
          have ho10 := hc910.obj (hc89.obj ho hqp) hvq2
          have hr10 := hr9.keep hc910 (fun k _ h => by have := (hown2.lt _ h).1; omega) hvp
          have hor10 := (hown.keepFlat hc89 hnr).keepFlat hc910 (fun i h s => by have := hvr7 i h; have := (hown2.lt _ s).1; omega)
          have b10 : (fun W => W.cell? ⟨q5, 2, none⟩ = some v) w10 := cell_obj (i := 2) hb10 rfl
          have f10 := free_obj (i := 2) hb10
          try simp only [Act.put, List.setIfInBounds_toArray, List.set_cons_zero, List.set_cons_succ]
          ((refine rt_yes (i := 9) (oi := { dst := some 40, op := Go.Op.fieldAddr 33 (Go.Operand.tmp 5) 2, type := 0, pos := "object.go:80", after := #[{ on := 0, ground := Go.Ground.phase }, { on := 1, ground := Go.Ground.phase }, { on := 2, ground := Go.Ground.phase }, { on := 3, ground := Go.Ground.phase }, { on := 4, ground := Go.Ground.phase }, { on := 5, ground := Go.Ground.phase }, { on := 6, ground := Go.Ground.phase }, { on := 7, ground := Go.Ground.phase }, { on := 8, ground := Go.Ground.phase }], guard := none }) (v := ?_) rfl (by kernel_rfl) (by kernel_rfl) (by kernel_rfl) (fun _ _ _ h => h) rfl ?_ ?_); rotate_left; focus (intro W hW; (try dsimp only at hW); go_split_ands; go_simp; (try (simp (disch := omega) only [IntWalk.i64_in]; (try go_simp))); (try (split; (next => omega); (try go_simp))); try rfl; done))
          try simp only [Act.put, List.setIfInBounds_toArray, List.set_cons_zero, List.set_cons_succ]
          -- ready: [10]
          refine rt_k (fun W => W.cell? ⟨q5, 2, none⟩ = some v) (i := 10) (oi := { dst := none, op := Go.Op.store 31 (Go.Operand.tmp 40) (Go.Operand.tmp 39), type := 0, pos := "object.go:80", after := #[{ on := 9, ground := Go.Ground.data }, { on := 8, ground := Go.Ground.data }, { on := 8, ground := Go.Ground.chain }, { on := 0, ground := Go.Ground.phase }, { on := 1, ground := Go.Ground.phase }, { on := 2, ground := Go.Ground.phase }, { on := 3, ground := Go.Ground.phase }, { on := 4, ground := Go.Ground.phase }, { on := 5, ground := Go.Ground.phase }, { on := 6, ground := Go.Ground.phase }, { on := 7, ground := Go.Ground.phase }, { on := 8, ground := Go.Ground.phase }], guard := none }) (by kernel_rfl) b10 (fun _ h => h) rfl (by rfl) (fun K hK => ?_)
          go_simp
          refine hK _ _ ?_
          clear hK K
          try simp only [Act.put, List.setIfInBounds_toArray, List.set_cons_zero, List.set_cons_succ]
          -- ready: []
          refine rt_done (by kernel_rfl)  ?_
          go_wp2_with (first | (with_reducible refine stop_append ?_) | (with_reducible refine stop_copy ?_) | (with_reducible refine stop_make ?_) | (with_reducible refine stop_lookup ?_) | (with_reducible refine stop_update ?_) | (with_reducible refine stop_slice ?_) | (with_reducible refine stop_range ?_) | (with_reducible refine stop_next ?_) | (with_reducible refine stop_convert ⟨_, rfl⟩ ?_) | (with_reducible refine stop_convertB ⟨_, _, _, rfl⟩ ?_) | (with_reducible refine stop_eqSlice ⟨_, _, rfl⟩ ?_))
          go_roundw
          case rel =>
            have hq : ∀ i, OB v i → w.heap.size ≤ i := fun i h => by have := (hown2.lt _ h).1; omega
            have hown11 : ∀ i, (Value.slice A10 (ac2.length + 1) c10).ownBlock = some i → ¬ At q5 i := fun i h s => by have := (hown10.lt _ h).1; simp [At] at s; omega
            have hor11 : ∀ i, vr.ownBlock = some i → ¬ At q5 i := fun i h s => by have := hvr5 i h; simp [At] at s; omega
            have e1 := Hgo.out
            rw [Hgo2.out] at e1
            exact ⟨k + 1, ac2 ++ [(f, (⟨g.toArray⟩ : ByteArray))], bs7, e7, _, by omega, by go_num, obj_set hb10 rfl, obj_set_other ho10 (by omega), hor10.keepFlat (chg_set _) hor11, hown10.keepFlat (chg_set _) hown11,
              hr10.keep (chg_set _) (fun i _ h => by simp [At] at h; omega) (by simp [At]; omega),
              ((hc.old hc89 (fun i h => by simp [At] at h; omega)).old hc910 hq).old (chg_set _) (fun i h => by simp [At] at h; omega),
              by have := hc89.size; have := hc910.size; simp; omega, by have := Hal.out; simp; omega, by rw [e1]; simp⟩
          case measure => simp [intOf]; omega
        · obtain rfl : k = M := by omega
          have hacc : ac2 = ws ∧ bs' = bs5 ∧ e' = e5 := by
            have := Hgo.out; rw [H5.out, Nat.sub_self] at this; simp [writesGo] at this; exact ⟨this.1.symm, this.2.1.symm, this.2.2.symm⟩
          obtain ⟨rfl, rfl, rfl⟩ := hacc
          have hsl1 : Sl (Or (At q2) (Lt w.heap.size)) wr vr acc := hown.slFlat (fun i h f => by have := (hown.lt i h).1; simp [At, Cb.Or, Lt] at f; omega)
          have hsl2 : Sl (Or (At q2) (Lt w.heap.size)) wr v ac2 := hown2.slFlat (fun i h f => by have := (hown2.lt i h).1; simp [At, Cb.Or, Lt] at f; omega)
          have b0 := cell_obj (i := 0) hb rfl
          have b1 := cell_obj (i := 1) hb rfl
          have b2 := cell_obj (i := 2) hb rfl
          have hra : acc.length * 16 ≤ 140737488351232 := by have := Hrl.out; omega
          have hwa : ac2.length * 16 ≤ 140737488351232 := by have := Hal.out; omega
          clear Hgo Hal H5 H4 H3 H1 hown hown2
          have hP : parseR s.data.toList = if endR bs' e' = 0 ∧ rightB id acc ac2 = true then some (id, acc, ac2) else none := by simp [parseR, HT.out]
          have c := end_any p _ _ wr hr
          have z0 := cell_obj (i := 0) ho rfl
          have z1 := cell_obj (i := 1) ho rfl
          have z2 := cell_obj (i := 2) ho rfl
          have f0 := free_obj (i := 0) ho
          have f1 := free_obj (i := 1) ho
          have f2 := free_obj (i := 2) ho
          have Hc := Lib.hid c
          by_cases hE : endR bs' e' = 0
          · rw [hE] at Hc
            have cr := right_tx (Or (At q2) (Lt w.heap.size)) id vr v acc ac2 wr hsl1 hsl2 hra hwa
            have Hcr := Lib.hid cr
            clear c cr
            by_cases hR : rightB id acc ac2 = true
            · rw [hR] at Hcr
              rw [if_pos ⟨hE, hR⟩] at hP
              have HP := Lib.hid hP
              clear hP hE hR HT
              go_wp2_with (first | (with_reducible refine stop_append ?_) | (with_reducible refine stop_copy ?_) | (with_reducible refine stop_make ?_) | (with_reducible refine stop_lookup ?_) | (with_reducible refine stop_update ?_) | (with_reducible refine stop_slice ?_) | (with_reducible refine stop_range ?_) | (with_reducible refine stop_next ?_) | (with_reducible refine stop_convert ⟨_, rfl⟩ ?_) | (with_reducible refine stop_convertB ⟨_, _, _, rfl⟩ ?_) | (with_reducible refine stop_eqSlice ⟨_, _, rfl⟩ ?_))
              refine Hc.out.mono ?_
              rintro e w11 ⟨rfl, rfl⟩
              go_wp2_with (first | (with_reducible refine stop_append ?_) | (with_reducible refine stop_copy ?_) | (with_reducible refine stop_make ?_) | (with_reducible refine stop_lookup ?_) | (with_reducible refine stop_update ?_) | (with_reducible refine stop_slice ?_) | (with_reducible refine stop_range ?_) | (with_reducible refine stop_next ?_) | (with_reducible refine stop_convert ⟨_, rfl⟩ ?_) | (with_reducible refine stop_convertB ⟨_, _, _, rfl⟩ ?_) | (with_reducible refine stop_eqSlice ⟨_, _, rfl⟩ ?_))
              refine Hcr.out.mono ?_
              rintro e w12 ⟨rfl, hc12⟩
              have z0 := hc12.cell z0 (not_no _)
              have z1 := hc12.cell z1 (not_no _)
              have z2 := hc12.cell z2 (not_no _)
              have ho12 := hc12.obj ho (not_no _)
              have hb12 := hc12.obj hb (not_no _)
              have b0 := cell_obj (i := 0) hb12 rfl
              have b1 := cell_obj (i := 1) hb12 rfl
              have b2 := cell_obj (i := 2) hb12 rfl
              have f0 := free_obj (i := 0) ho12
              have f1 := free_obj (i := 1) ho12
              have f2 := free_obj (i := 2) ho12
              have hs1 := hsl1.keepNo hc12
              have hs2 := hsl2.keepNo hc12
              have hcw := hc.trans hc12
              clear hb ho hc12 hsl1 hsl2 hr Hcr Hc
              obtain ⟨Ar, cr, rfl⟩ : ∃ A c, vr = .slice A acc.length c := by obtain ⟨A, c, e, _⟩ := hs1; exact ⟨A, c, e⟩
              obtain ⟨Aw, cw, rfl⟩ : ∃ A c, v = .slice A ac2.length c := by obtain ⟨A, c, e, _⟩ := hs2; exact ⟨A, c, e⟩
              go_wp2_with (first | (with_reducible refine stop_append ?_) | (with_reducible refine stop_copy ?_) | (with_reducible refine stop_make ?_) | (with_reducible refine stop_lookup ?_) | (with_reducible refine stop_update ?_) | (with_reducible refine stop_slice ?_) | (with_reducible refine stop_range ?_) | (with_reducible refine stop_next ?_) | (with_reducible refine stop_convert ⟨_, rfl⟩ ?_) | (with_reducible refine stop_convertB ⟨_, _, _, rfl⟩ ?_) | (with_reducible refine stop_eqSlice ⟨_, _, rfl⟩ ?_))
              refine bodyPost_ret (v := .tuple #[.agg #[.int .i64 id, .slice Ar acc.length cr, .slice Aw ac2.length cw], .int .i64 0]) (by simp [results, Try.results15, go_sem, *]) rfl ?_
              have hl : ∀ {n : Nat} i, i < n → At q2 i → Or (At q2) (Lt w.heap.size) i := fun _ _ h => .inl h
              exact .inl ⟨id, acc, ac2, _, _, HP.out, rfl, ((hcw.old (chg_set _) (fun i h => by simp [At] at h; omega)).old (chg_set _) (fun i h => by simp [At] at h; omega)).old (chg_set _) (fun i h => by simp [At] at h; omega), (((hs1.keep ((chg_set _).weak hl)).keep ((chg_set _).weak hl)).keep ((chg_set _).weak hl)).weak (fun _ _ f => .inr f), (((hs2.keep ((chg_set _).weak hl)).keep ((chg_set _).weak hl)).keep ((chg_set _).weak hl)).weak (fun _ _ f => .inr f)⟩
            · rw [if_neg (fun h => hR h.2)] at hP
              have hR : rightB id acc ac2 = false := by simpa using hR
              rw [hR] at Hcr
              have HP := Lib.hid hP
              clear hP hE hR HT hsl1 hsl2
              go_wp2_with (first | (with_reducible refine stop_append ?_) | (with_reducible refine stop_copy ?_) | (with_reducible refine stop_make ?_) | (with_reducible refine stop_lookup ?_) | (with_reducible refine stop_update ?_) | (with_reducible refine stop_slice ?_) | (with_reducible refine stop_range ?_) | (with_reducible refine stop_next ?_) | (with_reducible refine stop_convert ⟨_, rfl⟩ ?_) | (with_reducible refine stop_convertB ⟨_, _, _, rfl⟩ ?_) | (with_reducible refine stop_eqSlice ⟨_, _, rfl⟩ ?_))
              refine Hc.out.mono ?_
              rintro e w11 ⟨rfl, rfl⟩
              go_wp2_with (first | (with_reducible refine stop_append ?_) | (with_reducible refine stop_copy ?_) | (with_reducible refine stop_make ?_) | (with_reducible refine stop_lookup ?_) | (with_reducible refine stop_update ?_) | (with_reducible refine stop_slice ?_) | (with_reducible refine stop_range ?_) | (with_reducible refine stop_next ?_) | (with_reducible refine stop_convert ⟨_, rfl⟩ ?_) | (with_reducible refine stop_convertB ⟨_, _, _, rfl⟩ ?_) | (with_reducible refine stop_eqSlice ⟨_, _, rfl⟩ ?_))
              refine Hcr.out.mono ?_
              rintro e w12 ⟨rfl, hc12⟩
              have z0 := hc12.cell z0 (not_no _)
              have z1 := hc12.cell z1 (not_no _)
              have z2 := hc12.cell z2 (not_no _)
              have ho12 := hc12.obj ho (not_no _)
              have f0 := free_obj (i := 0) ho12
              have f1 := free_obj (i := 1) ho12
              have f2 := free_obj (i := 2) ho12
              have hcw := hc.trans hc12
              clear hb ho hc12 hr Hcr Hc
              go_wp2_with (first | (with_reducible refine stop_append ?_) | (with_reducible refine stop_copy ?_) | (with_reducible refine stop_make ?_) | (with_reducible refine stop_lookup ?_) | (with_reducible refine stop_update ?_) | (with_reducible refine stop_slice ?_) | (with_reducible refine stop_range ?_) | (with_reducible refine stop_next ?_) | (with_reducible refine stop_convert ⟨_, rfl⟩ ?_) | (with_reducible refine stop_convertB ⟨_, _, _, rfl⟩ ?_) | (with_reducible refine stop_eqSlice ⟨_, _, rfl⟩ ?_))
              refine bodyPost_ret (v := .tuple #[.agg #[.int .i64 0, .slice none 0 0, .slice none 0 0], .int .i64 1]) (by simp [results, Try.results15, go_sem, *]) rfl ?_
              exact .inr ⟨HP.out, rfl, ((hcw.old (chg_set _) (fun i h => by simp [At] at h; omega)).old (chg_set _) (fun i h => by simp [At] at h; omega)).old (chg_set _) (fun i h => by simp [At] at h; omega)⟩
          · rw [if_neg (fun h => hE h.1)] at hP
            have HP := Lib.hid hP
            have hE1 : (endR bs' e' == 0) = false := by simpa using hE
            have hE2 : (endR bs' e' != 0) = true := by simpa using hE
            generalize endR bs' e' = E at *
            clear hP hE HT hsl1 hsl2 c
            go_wp2_with (first | (with_reducible refine stop_append ?_) | (with_reducible refine stop_copy ?_) | (with_reducible refine stop_make ?_) | (with_reducible refine stop_lookup ?_) | (with_reducible refine stop_update ?_) | (with_reducible refine stop_slice ?_) | (with_reducible refine stop_range ?_) | (with_reducible refine stop_next ?_) | (with_reducible refine stop_convert ⟨_, rfl⟩ ?_) | (with_reducible refine stop_convertB ⟨_, _, _, rfl⟩ ?_) | (with_reducible refine stop_eqSlice ⟨_, _, rfl⟩ ?_))
            refine Hc.out.mono ?_
            rintro e w11 ⟨rfl, rfl⟩
            go_wp2_with (first | (with_reducible refine stop_append ?_) | (with_reducible refine stop_copy ?_) | (with_reducible refine stop_make ?_) | (with_reducible refine stop_lookup ?_) | (with_reducible refine stop_update ?_) | (with_reducible refine stop_slice ?_) | (with_reducible refine stop_range ?_) | (with_reducible refine stop_next ?_) | (with_reducible refine stop_convert ⟨_, rfl⟩ ?_) | (with_reducible refine stop_convertB ⟨_, _, _, rfl⟩ ?_) | (with_reducible refine stop_eqSlice ⟨_, _, rfl⟩ ?_))
            refine bodyPost_ret (v := .tuple #[.agg #[.int .i64 0, .slice none 0 0, .slice none 0 0], .int .i64 1]) (by simp [results, Try.results15, go_sem, *]) rfl ?_
            exact .inr ⟨HP.out, rfl, ((hc.old (chg_set _) (fun i h => by simp [At] at h; omega)).old (chg_set _) (fun i h => by simp [At] at h; omega)).old (chg_set _) (fun i h => by simp [At] at h; omega)⟩
end Go.Proofs.Ytnioljagmimojaa
