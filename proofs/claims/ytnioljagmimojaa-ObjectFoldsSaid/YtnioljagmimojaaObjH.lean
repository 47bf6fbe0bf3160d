/- Walks of package object: Clone, Ask. -/
import Derived.Test.YtnioljagmimojaaObjG
import Derived.Test.YtnioljagmimojaaLawO
import Derived.Test.YtnioljagmimojaaRow
import Derived.Laws.Cover3
set_option linter.unusedVariables false
set_option linter.unusedSimpArgs false
namespace Go.Proofs.Ytnioljagmimojaa
open Go.RowKit Cb

theorem eq_nil_run {t e : TypeId} (h : Try.prog.underlying t = some (.slice e)) (A : Option Addr) (n c : Nat) (W : World) : (binOp .eql t (.slice A n c) (.slice none 0 0)).run Try.prog W = .ok (.bool A.isNone) W := by
  unfold binOp; simp [go_sem, run_equal_slice_nil W t e A n c h]
set_option maxRecDepth 100000 in
set_option maxHeartbeats 1000000 in
theorem clone_any (F : Nat → Prop) (v : Value) (ws : List (Int × ByteArray)) (w : World) (h : Sl F w v ws) (hl : ws.length ≤ 1000) :
    Calls Try.prog 56 #[v] w fun e w' => ∃ v', e = .returned v' ∧ Chg No w w' ∧ Sl (Lt w.heap.size) w' v' ws := by
  obtain ⟨A, c, rfl⟩ := h.slice
  have heq := fun n => eq_nil_run Try.underlying31 A n c
  cases A with
  | none =>
    have hnil : ws = [] := by
      obtain ⟨A', c', e, _, h | ⟨b, o, rfl, _⟩⟩ := h
      · exact h
      · cases e
    subst hnil
    go_enter Try.func56, Try.ntmps56
    go_wp2_with (first | (with_reducible refine stop_append ?_) | (with_reducible refine stop_copy ?_) | (with_reducible refine stop_make ?_) | (with_reducible refine stop_lookup ?_) | (with_reducible refine stop_update ?_) | (with_reducible refine stop_slice ?_) | (with_reducible refine stop_range ?_) | (with_reducible refine stop_next ?_) | (with_reducible refine stop_convert ⟨_, rfl⟩ ?_) | (with_reducible refine stop_convertB ⟨_, _, _, rfl⟩ ?_))
    go_ret
    exact ⟨_, rfl, Chg.refl _ _, Sl.nil _ _ _ _⟩
  | some a =>
    have hc0 := (Chg.refl No w).alloc (.cells #[] 63)
    have h1 := h.keepNo hc0
    have own0 := Own.made0 (α := Int × ByteArray) No w 63
    go_enter Try.func56, Try.ntmps56
    go_wp2_with (first | (with_reducible refine stop_append ?_) | (with_reducible refine stop_copy ?_) | (with_reducible refine stop_make ?_) | (with_reducible refine stop_lookup ?_) | (with_reducible refine stop_update ?_) | (with_reducible refine stop_slice ?_) | (with_reducible refine stop_range ?_) | (with_reducible refine stop_next ?_) | (with_reducible refine stop_convert ⟨_, rfl⟩ ?_) | (with_reducible refine stop_convertB ⟨_, _, _, rfl⟩ ?_))
    generalize hw0 : w.alloc (.cells #[] 63) = w0 at *
    have hsz : w.heap.size ≤ w0.heap.size := hc0.size
    refine step_append_flat (α := Int × ByteArray) (ys := ws) Try.underlying31 info_write rfl own0 rfl rfl h1 (by simp; omega) (by simp; omega) hsz ?_
    intro v1 w1 hown hg
    rw [List.nil_append] at hown
    have hc1 : Chg No w w1 := hc0.grew hg (fun k hk => by simp [Value.ownBlock] at hk; omega)
    have hsl : Sl (Lt w.heap.size) w1 v1 ws := hown.slFlat (fun k hk f => by have := (hown.lt k hk).1; simp only [Lt] at f; omega)
    have Hsl := Lib.hid hsl
    clear hsl hown hg own0 h1
    go_wp2_with (first | (with_reducible refine stop_append ?_) | (with_reducible refine stop_copy ?_) | (with_reducible refine stop_make ?_) | (with_reducible refine stop_lookup ?_) | (with_reducible refine stop_update ?_) | (with_reducible refine stop_slice ?_) | (with_reducible refine stop_range ?_) | (with_reducible refine stop_next ?_) | (with_reducible refine stop_convert ⟨_, rfl⟩ ?_) | (with_reducible refine stop_convertB ⟨_, _, _, rfl⟩ ?_) | (with_reducible refine stop_eqSlice ⟨_, _, rfl⟩ ?_))
    go_ret
    exact ⟨_, rfl, hc1, Hsl.out⟩
def askT (s : Store) (id : Int) (fs : List Int) (ws : List (Int × ByteArray)) : Tx := (id, fs.map (fun f => (f, verS s f)), ws)
def askE (s : Store) (t : Tx) : Int := if rightB t.1 t.2.1 t.2.2 = true then (if (mget s.ids t.1).isSome = true then 221 else 0) else 1
def askR (s : Store) (t : Tx) : Tx := if askE s t = 0 then t else (0, [], [])
def AskPost (t : Tx) (x : Int) (w : World) (e : Ending) (w' : World) : Prop :=
  ∃ v1 v2, e = .returned (.tuple #[.agg #[.int .i64 t.1, v1, v2], .int .i64 x]) ∧ Chg No w w' ∧ Sl (Lt w.heap.size) w' v1 t.2.1 ∧ Sl (Lt w.heap.size) w' v2 t.2.2
theorem ask_no {s : Store} {t : Tx} {x : Int} {w w' : World} (hE : askE s t = x) (hx : x ≠ 0) (hc : Chg No w w') :
    AskPost (askR s t) (askE s t) w (.returned (.tuple #[.agg #[.int .i64 0, .slice none 0 0, .slice none 0 0], .int .i64 x])) w' := by
  unfold askR; rw [hE, if_neg hx]; exact ⟨_, _, rfl, hc, Sl.nil _ _ _ _, Sl.nil _ _ _ _⟩
theorem ask_yes {s : Store} {t : Tx} {v1 v2 : Value} {w w' : World} (hE : askE s t = 0) (hc : Chg No w w') (h1 : Sl (Lt w.heap.size) w' v1 t.2.1) (h2 : Sl (Lt w.heap.size) w' v2 t.2.2) :
    AskPost (askR s t) (askE s t) w (.returned (.tuple #[.agg #[.int .i64 t.1, v1, v2], .int .i64 0])) w' := by
  unfold askR; rw [hE, if_pos rfl]; exact ⟨_, _, rfl, hc, h1, h2⟩
set_option maxRecDepth 100000 in
set_option maxHeartbeats 1000000 in
theorem ask_any (F G : Nat → Prop) (p rc ri : Nat) (s : Store) (id : Int) (vf vw : Value) (fs : List Int) (ws : List (Int × ByteArray)) (w : World) (h : Sto w p rc ri s) (hf : Sl F w vf fs) (hw : Sl G w vw ws) (hfl : fs.length ≤ 1000) (hwl : ws.length ≤ 1000) :
    Calls Try.prog 24 #[.pointer (some ⟨p, 0, none⟩), .int .i64 id, vf, vw] w (AskPost (askR s (askT s id fs ws)) (askE s (askT s id fs ws)) w) := by
  obtain ⟨AF, cF, rfl⟩ := hf.slice
  have hc0 := (Chg.refl No w).alloc (.cells #[.int .i64 0, .slice none 0 0, .slice none 0 0] 33)
  have o8 := alloc_obj w (.cells #[.int .i64 0, .slice none 0 0, .slice none 0 0] 33)
  go_enter Try.func24, Try.ntmps24
  go_wp2_with (first | (with_reducible refine stop_append ?_) | (with_reducible refine stop_copy ?_) | (with_reducible refine stop_make ?_) | (with_reducible refine stop_lookup ?_) | (with_reducible refine stop_update ?_) | (with_reducible refine stop_slice ?_) | (with_reducible refine stop_range ?_) | (with_reducible refine stop_next ?_) | (with_reducible refine stop_convert ⟨_, rfl⟩ ?_) | (with_reducible refine stop_convertB ⟨_, _, _, rfl⟩ ?_) | (with_reducible refine stop_eqSlice ⟨_, _, rfl⟩ ?_))
  generalize w.alloc (.cells #[.int .i64 0, .slice none 0 0, .slice none 0 0] 33) = w0 at *
  obtain ⟨q8, hq8⟩ : ∃ q, q = w.heap.size := ⟨_, rfl⟩
  rw [← hq8] at o8 ⊢
  refine (clone_any G vw ws w0 (hw.keepNo hc0) hwl).mono ?_
  rintro e w1 ⟨vc, rfl, hc1, hsc⟩
  obtain ⟨AC, cC, rfl⟩ := hsc.slice
  have hsc : Sl (Or (Lt w0.heap.size) (Ge w1.heap.size)) w1 (.slice AC ws.length cC) ws := hsc.weak (fun b hb h => h.elim (fun h => h) (fun h => by simp only [Ge] at h; omega))
  have hlt0 : w.heap.size < w0.heap.size := by have := lt_of_heap o8; omega
  have hw8 : w.heap.size ≤ q8 := by omega
  have hq80 : q8 < w0.heap.size := by omega
  clear hq8
  go_wp2_with (first | (with_reducible refine stop_append ?_) | (with_reducible refine stop_copy ?_) | (with_reducible refine stop_make ?_) | (with_reducible refine stop_lookup ?_) | (with_reducible refine stop_update ?_) | (with_reducible refine stop_slice ?_) | (with_reducible refine stop_range ?_) | (with_reducible refine stop_next ?_) | (with_reducible refine stop_convert ⟨_, rfl⟩ ?_) | (with_reducible refine stop_convertB ⟨_, _, _, rfl⟩ ?_) | (with_reducible refine stop_eqSlice ⟨_, _, rfl⟩ ?_))
  have hc12 := (Chg.refl No w1).alloc (.cells #[.int .i64 id, .slice none 0 0, .slice AC ws.length cC] 33)
  have o10 := alloc_obj w1 (.cells #[.int .i64 id, .slice none 0 0, .slice AC ws.length cC] 33)
  have o8 := (hc1.trans hc12).obj o8 (not_no _)
  have hsc := hsc.keepNo hc12
  have hc02 := (hc0.trans hc1).trans hc12
  have hq10 : q8 < w1.heap.size := by have := hc1.size; omega
  generalize w1.alloc (.cells #[.int .i64 id, .slice none 0 0, .slice AC ws.length cC] 33) = w2 at *
  generalize w1.heap.size = q10 at *
  obtain ⟨n0, hn0⟩ : ∃ n, n = w0.heap.size := ⟨_, rfl⟩
  rw [← hn0] at hsc
  have hq8n : q8 < n0 := by omega
  have hwn0 : w.heap.size < n0 := by omega
  clear hn0
  have hlt10 := lt_of_heap o10
  clear hc0 hc1 hc12 hlt0 hw
  obtain ⟨RV, hRV⟩ : ∃ RV : Int → Int × Int, RV = fun f => (f, verS s f) := ⟨_, rfl⟩
  have Hf := Lib.hid hf; have Hs := Lib.hid h; have Hw := Lib.hid hsc
  clear hf h hsc
  go_loopw [21] (fun v21 wr => ∃ (k : Nat) (v : Value), k ≤ fs.length ∧ v21 = .int .i64 k ∧ wr.heap[q8]? = some (.cells #[.int .i64 0, .slice none 0 0, .slice none 0 0] 33 (0, 0)) ∧ wr.heap[q10]? = some (.cells #[.int .i64 id, v, .slice AC ws.length cC] 33 (0, 0)) ∧
      Own No wr w2.heap.size 77 v ((fs.take k).map RV) ∧ Chg No w wr ∧ w2.heap.size ≤ wr.heap.size ∧ Sl (Or (Lt n0) (Ge q10)) wr (.slice AC ws.length cC) ws) (fun v21 _ => fs.length - (intOf v21).toNat)
  case atStart => exact ⟨0, _, by omega, rfl, o8, o10, by simpa using Own.nil _ _ _ _, hc02, Nat.le_refl _, Hw.out⟩
  case round =>
    obtain ⟨k, v, hk, rfl, ho8, ho10, hown, hc, hsz, hsw⟩ := hrel
    clear o8 o10 hc02
    by_cases hlt : k < fs.length
    · obtain ⟨b, o, d, rfl, _, hbl, rfl, ha⟩ := (Hf.out.keepNo hc).get k hlt
      have ha0 := ha 0 _ rfl
      simp only [show Rep.n Int = 1 from rfl, Nat.mul_one, Nat.add_zero] at ha0
      have hsn : (fs.take (k + 1)).map RV = (fs.take k).map RV ++ [RV fs[k]] := by rw [List.take_succ_eq_append_getElem hlt, List.map_append]; rfl
      have Hsn := Lib.hid hsn
      clear ha hsn
      generalize fs[k] = x at ha0 Hsn
      have hst := Hs.out.keepNo hc
      have b1 := cell_obj (i := 1) ho10 rfl
      have p0 := cell_obj (i := 0) hst.1 rfl
      have hr : ∀ W, Sto W p rc ri s → (Instr.lookup 103 (.map (some rc)) (.int .i64 x) false).run Try.prog W = .ok (.agg #[.string (valS s x), .int .i64 (verS s x)]) W := fun W hW => run_cells hW x
      have hx : RV x = (x, verS s x) := by rw [hRV]
      rw [hx] at Hsn
      clear hx
      generalize valS s x = vv at hr
      generalize verS s x = vn at hr Hsn
      have Hr := Lib.hid hr
      clear hr
      go_wp2_with (first | (with_reducible refine stop_append ?_) | (with_reducible refine stop_copy ?_) | (with_reducible refine stop_make ?_) | (with_reducible refine stop_lookup ?_) | (with_reducible refine stop_update ?_) | (with_reducible refine stop_slice ?_) | (with_reducible refine stop_range ?_) | (with_reducible refine stop_next ?_) | (with_reducible refine stop_convert ⟨_, rfl⟩ ?_) | (with_reducible refine stop_convertB ⟨_, _, _, rfl⟩ ?_) | (with_reducible refine stop_eqSlice ⟨_, _, rfl⟩ ?_))
      have hS : (fun W => W.cell? ⟨q10, 1, none⟩ = some v ∧ W.cell? ⟨p, 0, none⟩ = some (.map (some rc)) ∧ (Instr.lookup 103 (.map (some rc)) (.int .i64 x) false).run Try.prog W = .ok (.agg #[.string vv, .int .i64 vn]) W) wr.drew := ⟨b1, p0, Hr.out _ (hst.keepNo (Chg.refl No wr).drew)⟩
      refine rt_start (fun W => W.cell? ⟨q10, 1, none⟩ = some v ∧ W.cell? ⟨p, 0, none⟩ = some (.map (some rc)) ∧ (Instr.lookup 103 (.map (some rc)) (.int .i64 x) false).run Try.prog W = .ok (.agg #[.string vv, .int .i64 vn]) W) (by kernel_rfl) ?_
      ((refine rt_yes (i := 0) (oi := { dst := some 25, op := Go.Op.fieldAddr 33 (Go.Operand.tmp 10) 1, type := 0, pos := "object.go:145", after := #[], guard := none }) (v := ?_) rfl (by kernel_rfl) (by kernel_rfl) (by kernel_rfl) (fun _ _ _ h => h) rfl ?_ ?_); rotate_left; focus (intro W hW; (try dsimp only at hW); go_split_ands; go_simp; (try (simp (disch := omega) only [IntWalk.i64_in]; (try go_simp))); (try (split; (next => omega); (try go_simp))); try rfl; done))
      try simp only [Act.put, List.setIfInBounds_toArray, List.set_cons_zero, List.set_cons_succ]
      ((refine rt_yes (i := 1) (oi := { dst := some 26, op := Go.Op.load 30 (Go.Operand.tmp 25), type := 30, pos := "object.go:145", after := #[{ on := 0, ground := Go.Ground.data }], guard := none }) (v := ?_) rfl (by kernel_rfl) (by kernel_rfl) (by kernel_rfl) (fun _ _ _ h => h) rfl ?_ ?_); rotate_left; focus (intro W hW; (try dsimp only at hW); go_split_ands; go_simp; (try (simp (disch := omega) only [IntWalk.i64_in]; (try go_simp))); (try (split; (next => omega); (try go_simp))); try rfl; done))
      try simp only [Act.put, List.setIfInBounds_toArray, List.set_cons_zero, List.set_cons_succ]
      ((refine rt_yes (i := 2) (oi := { dst := some 27, op := Go.Op.move (Go.Operand.tmp 12), type := 3, pos := "object.go:145", after := #[], guard := none }) (v := ?_) rfl (by kernel_rfl) (by kernel_rfl) (by kernel_rfl) (fun _ _ _ h => h) rfl ?_ ?_); rotate_left; focus (intro W hW; (try dsimp only at hW); go_split_ands; go_simp; (try (simp (disch := omega) only [IntWalk.i64_in]; (try go_simp))); (try (split; (next => omega); (try go_simp))); try rfl; done))
      try simp only [Act.put, List.setIfInBounds_toArray, List.set_cons_zero, List.set_cons_succ]
      ((refine rt_yes (i := 3) (oi := { dst := some 28, op := Go.Op.move (Go.Operand.tmp 0), type := 46, pos := "object.go:145", after := #[], guard := none }) (v := ?_) rfl (by kernel_rfl) (by kernel_rfl) (by kernel_rfl) (fun _ _ _ h => h) rfl ?_ ?_); rotate_left; focus (intro W hW; (try dsimp only at hW); go_split_ands; go_simp; (try (simp (disch := omega) only [IntWalk.i64_in]; (try go_simp))); (try (split; (next => omega); (try go_simp))); try rfl; done))
      try simp only [Act.put, List.setIfInBounds_toArray, List.set_cons_zero, List.set_cons_succ]
      ((refine rt_yes (i := 4) (oi := { dst := some 29, op := Go.Op.nilCheck (Go.Operand.tmp 28), type := 0, pos := "object.go:145", after := #[{ on := 3, ground := Go.Ground.data }], guard := none }) (v := ?_) rfl (by kernel_rfl) (by kernel_rfl) (by kernel_rfl) (fun _ _ _ h => h) rfl ?_ ?_); rotate_left; focus (intro W hW; (try dsimp only at hW); go_split_ands; go_simp; (try (simp (disch := omega) only [IntWalk.i64_in]; (try go_simp))); (try (split; (next => omega); (try go_simp))); try rfl; done))
      try simp only [Act.put, List.setIfInBounds_toArray, List.set_cons_zero, List.set_cons_succ]
      ((refine rt_yes (i := 5) (oi := { dst := some 30, op := Go.Op.fieldAddr 106 (Go.Operand.tmp 29) 0, type := 0, pos := "object.go:145", after := #[{ on := 4, ground := Go.Ground.data }], guard := none }) (v := ?_) rfl (by kernel_rfl) (by kernel_rfl) (by kernel_rfl) (fun _ _ _ h => h) rfl ?_ ?_); rotate_left; focus (intro W hW; (try dsimp only at hW); go_split_ands; go_simp; (try (simp (disch := omega) only [IntWalk.i64_in]; (try go_simp))); (try (split; (next => omega); (try go_simp))); try rfl; done))
      try simp only [Act.put, List.setIfInBounds_toArray, List.set_cons_zero, List.set_cons_succ]
      ((refine rt_yes (i := 6) (oi := { dst := some 31, op := Go.Op.load 103 (Go.Operand.tmp 30), type := 103, pos := "object.go:145", after := #[{ on := 5, ground := Go.Ground.data }], guard := none }) (v := ?_) rfl (by kernel_rfl) (by kernel_rfl) (by kernel_rfl) (fun _ _ _ h => h) rfl ?_ ?_); rotate_left; focus (intro W hW; (try dsimp only at hW); go_split_ands; go_simp; (try (simp (disch := omega) only [IntWalk.i64_in]; (try go_simp))); (try (split; (next => omega); (try go_simp))); try rfl; done))
      try simp only [Act.put, List.setIfInBounds_toArray, List.set_cons_zero, List.set_cons_succ]
      ((refine rt_yes (i := 7) (oi := { dst := some 32, op := Go.Op.move (Go.Operand.tmp 12), type := 3, pos := "object.go:145", after := #[], guard := none }) (v := ?_) rfl (by kernel_rfl) (by kernel_rfl) (by kernel_rfl) (fun _ _ _ h => h) rfl ?_ ?_); rotate_left; focus (intro W hW; (try dsimp only at hW); go_split_ands; go_simp; (try (simp (disch := omega) only [IntWalk.i64_in]; (try go_simp))); (try (split; (next => omega); (try go_simp))); try rfl; done))
      try simp only [Act.put, List.setIfInBounds_toArray, List.set_cons_zero, List.set_cons_succ]
      ((refine rt_yes (i := 8) (oi := { dst := some 33, op := Go.Op.lookup 103 (Go.Operand.tmp 31) (Go.Operand.tmp 32) false, type := 108, pos := "object.go:145", after := #[{ on := 6, ground := Go.Ground.data }, { on := 7, ground := Go.Ground.data }], guard := none }) (v := ?_) rfl (by kernel_rfl) (by kernel_rfl) (by kernel_rfl) (fun _ _ _ h => h) rfl ?_ ?_); rotate_left; focus (intro W hW; (try dsimp only at hW); go_split_ands; go_simp; (try (simp (disch := omega) only [IntWalk.i64_in]; (try go_simp))); (try (split; (next => omega); (try go_simp))); try rfl; done))
      try simp only [Act.put, List.setIfInBounds_toArray, List.set_cons_zero, List.set_cons_succ]
      ((refine rt_yes (i := 9) (oi := { dst := some 34, op := Go.Op.field 108 (Go.Operand.tmp 33) 1, type := 3, pos := "object.go:145", after := #[{ on := 8, ground := Go.Ground.data }], guard := none }) (v := ?_) rfl (by kernel_rfl) (by kernel_rfl) (by kernel_rfl) (fun _ _ _ h => h) rfl ?_ ?_); rotate_left; focus (intro W hW; (try dsimp only at hW); go_split_ands; go_simp; (try (simp (disch := omega) only [IntWalk.i64_in]; (try go_simp))); (try (split; (next => omega); (try go_simp))); try rfl; done))
      try simp only [Act.put, List.setIfInBounds_toArray, List.set_cons_zero, List.set_cons_succ]
      ((refine rt_yes (i := 10) (oi := { dst := some 35, op := Go.Op.build 77 #[(0, Go.Operand.tmp 27), (1, Go.Operand.tmp 34)], type := 77, pos := "object.go:145", after := #[{ on := 2, ground := Go.Ground.data }, { on := 9, ground := Go.Ground.data }], guard := none }) (v := ?_) rfl (by kernel_rfl) (by kernel_rfl) (by kernel_rfl) (fun _ _ _ h => h) rfl ?_ ?_); rotate_left; focus (intro W hW; (try dsimp only at hW); go_split_ands; go_simp; (try (simp (disch := omega) only [IntWalk.i64_in]; (try go_simp))); (try (split; (next => omega); (try go_simp))); try rfl; done))
      try simp only [Act.put, List.setIfInBounds_toArray, List.set_cons_zero, List.set_cons_succ]
      -- ready: [11]
      refine rt_k (fun W => W.cell? ⟨q10, 1, none⟩ = some v ∧ W.cell? ⟨p, 0, none⟩ = some (.map (some rc)) ∧ (Instr.lookup 103 (.map (some rc)) (.int .i64 x) false).run Try.prog W = .ok (.agg #[.string vv, .int .i64 vn]) W) (i := 11) (oi := { dst := some 36, op := Go.Op.buildSlice 30 1 #[(0, Go.Operand.tmp 35)], type := 30, pos := "object.go:145", after := #[{ on := 10, ground := Go.Ground.data }], guard := none }) (by kernel_rfl) hS (fun _ h => h) rfl (by rfl) (fun K hK => ?_)
      go_simp
      refine hK _ _ ?_
      clear hK K
      try simp only [Act.put, List.setIfInBounds_toArray, List.set_cons_zero, List.set_cons_succ]
      -- ready: [12]
      have ca := (Chg.refl No wr).drew.alloc (.cells #[.int .i64 x, .int .i64 vn] 77)
      have hS' : (fun W => W.cell? ⟨q10, 1, none⟩ = some v ∧ W.cell? ⟨p, 0, none⟩ = some (.map (some rc)) ∧ (Instr.lookup 103 (.map (some rc)) (.int .i64 x) false).run Try.prog W = .ok (.agg #[.string vv, .int .i64 vn]) W) (wr.drew.alloc (.cells #[.int .i64 x, .int .i64 vn] 77)) := ⟨ca.cell b1 (not_no _), ca.cell p0 (not_no _), Hr.out _ (hst.keepNo ca)⟩
      have hown5 := hown.keepFlat ca (fun _ _ f => f)
      have hlen : ((fs.take k).map RV).length = k := by rw [List.length_map, List.length_take]; omega
      refine rt_append_flat (α := Int × Int) (fun W => W.cell? ⟨q10, 1, none⟩ = some v ∧ W.cell? ⟨p, 0, none⟩ = some (.map (some rc)) ∧ (Instr.lookup 103 (.map (some rc)) (.int .i64 x) false).run Try.prog W = .ok (.agg #[.string vv, .int .i64 vn]) W) (i := 12) (by kernel_rfl) hS' (fun _ h => h) rfl rfl Try.underlying30 info_read rfl hown5 rfl rfl (Sl.lit1 (F := No) (y := (x, vn)) rfl ⟨[.int .i64 x], [.int .i64 vn], rfl, rfl, rfl⟩ (not_no _)) (by rw [hlen]; simp; omega) (by rw [hlen]; simp [show Rep.n (Int × Int) = 2 from rfl]; omega) (by have := ca.size; simp; omega) ?_
      intro v8 w8 hown8 hg8
      obtain ⟨A8, c8, rfl⟩ := hown8.slice
      rw [← Hsn.out] at hown8
      have hl8 : ((fs.take k).map RV ++ [(x, vn)]).length = k + 1 := by rw [List.length_append, hlen]; rfl
      have hl9 : ((fs.take (k + 1)).map RV).length = k + 1 := by rw [List.length_map, List.length_take]; omega
      rw [hl8] at hg8 ⊢
      rw [hl9] at hown8
      have hvb : ∀ i, OB v i → w2.heap.size ≤ i := fun i h => (hown.lt _ h).1
      have hn8 : ¬ OB v q8 := fun h => by have := hvb _ h; omega
      have hn10 : ¬ OB v q10 := fun h => by have := hvb _ h; omega
      have hc78 : Chg (OB v) wr w8 := ca.of_no.trans hg8.chg
      have ho8' := hc78.obj ho8 hn8
      have ho10' := hc78.obj ho10 hn10
      have hst8 := hst.keep hc78 (fun i hi h => by have := hvb _ h; have := Hs.out.lt i hi; have := hc.size; omega)
      have b8 : (fun W => W.cell? ⟨q10, 1, none⟩ = some v ∧ W.cell? ⟨p, 0, none⟩ = some (.map (some rc)) ∧ (Instr.lookup 103 (.map (some rc)) (.int .i64 x) false).run Try.prog W = .ok (.agg #[.string vv, .int .i64 vn]) W) w8 := ⟨cell_obj (i := 1) ho10' rfl, cell_obj (i := 0) hst8.1 rfl, Hr.out _ hst8⟩
      have f8 := free_obj (i := 1) ho10'
      try simp only [Act.put, List.setIfInBounds_toArray, List.set_cons_zero, List.set_cons_succ]
      ((refine rt_yes (i := 13) (oi := { dst := some 38, op := Go.Op.fieldAddr 33 (Go.Operand.tmp 10) 1, type := 0, pos := "object.go:145", after := #[{ on := 0, ground := Go.Ground.phase }, { on := 1, ground := Go.Ground.phase }, { on := 2, ground := Go.Ground.phase }, { on := 3, ground := Go.Ground.phase }, { on := 4, ground := Go.Ground.phase }, { on := 5, ground := Go.Ground.phase }, { on := 6, ground := Go.Ground.phase }, { on := 7, ground := Go.Ground.phase }, { on := 8, ground := Go.Ground.phase }, { on := 9, ground := Go.Ground.phase }, { on := 10, ground := Go.Ground.phase }, { on := 11, ground := Go.Ground.phase }, { on := 12, ground := Go.Ground.phase }], guard := none }) (v := ?_) rfl (by kernel_rfl) (by kernel_rfl) (by kernel_rfl) (fun _ _ _ h => h) rfl ?_ ?_); rotate_left; focus (intro W hW; (try dsimp only at hW); go_split_ands; go_simp; (try (simp (disch := omega) only [IntWalk.i64_in]; (try go_simp))); (try (split; (next => omega); (try go_simp))); try rfl; done))
      try simp only [Act.put, List.setIfInBounds_toArray, List.set_cons_zero, List.set_cons_succ]
      -- ready: [14]
      refine rt_k (fun W => W.cell? ⟨q10, 1, none⟩ = some v ∧ W.cell? ⟨p, 0, none⟩ = some (.map (some rc)) ∧ (Instr.lookup 103 (.map (some rc)) (.int .i64 x) false).run Try.prog W = .ok (.agg #[.string vv, .int .i64 vn]) W) (i := 14) (oi := { dst := none, op := Go.Op.store 30 (Go.Operand.tmp 38) (Go.Operand.tmp 37), type := 0, pos := "object.go:145", after := #[{ on := 13, ground := Go.Ground.data }, { on := 12, ground := Go.Ground.data }, { on := 12, ground := Go.Ground.chain }, { on := 0, ground := Go.Ground.phase }, { on := 1, ground := Go.Ground.phase }, { on := 2, ground := Go.Ground.phase }, { on := 3, ground := Go.Ground.phase }, { on := 4, ground := Go.Ground.phase }, { on := 5, ground := Go.Ground.phase }, { on := 6, ground := Go.Ground.phase }, { on := 7, ground := Go.Ground.phase }, { on := 8, ground := Go.Ground.phase }, { on := 9, ground := Go.Ground.phase }, { on := 10, ground := Go.Ground.phase }, { on := 11, ground := Go.Ground.phase }, { on := 12, ground := Go.Ground.phase }], guard := none }) (by kernel_rfl) b8 (fun _ h => h) rfl (by rfl) (fun K hK => ?_)
      go_simp
      refine hK _ _ ?_
      clear hK K
      try simp only [Act.put, List.setIfInBounds_toArray, List.set_cons_zero, List.set_cons_succ]
      -- ready: []
      refine rt_done (by kernel_rfl)  ?_
      go_wp2_with (first | (with_reducible refine stop_append ?_) | (with_reducible refine stop_copy ?_) | (with_reducible refine stop_make ?_) | (with_reducible refine stop_lookup ?_) | (with_reducible refine stop_update ?_) | (with_reducible refine stop_slice ?_) | (with_reducible refine stop_range ?_) | (with_reducible refine stop_next ?_) | (with_reducible refine stop_convert ⟨_, rfl⟩ ?_) | (with_reducible refine stop_convertB ⟨_, _, _, rfl⟩ ?_) | (with_reducible refine stop_eqSlice ⟨_, _, rfl⟩ ?_))
      go_roundw
      case rel =>
        have hq : ∀ i, OB v i → w.heap.size ≤ i := fun i h => by have := (hown.lt _ h).1; omega
        refine ⟨k + 1, _, by omega, by go_num, obj_set_other ho8' (by omega), obj_set ho10' rfl, hown8.keepFlat (chg_set _) (fun i h s => by have := (hown8.lt _ h).1; simp [At] at s; omega), (hc.old hc78 hq).old (chg_set _) (fun i h => by simp [At] at h; omega), by have := hc78.size; simp; omega, (hsw.keep (hc78.weak (fun i _ h => .inr (by have := hvb _ h; simp only [Ge]; omega)))).keep ((chg_set _).weak (fun i _ h => .inr (by simp only [At] at h; simp only [Ge]; omega)))⟩
      case measure => simp [intOf]; omega
    · obtain rfl : k = fs.length := by omega
      rw [List.take_length] at hown
      have hst := Hs.out.keepNo hc
      have hs1 : Sl (Or (At q8) (Lt w.heap.size)) wr v (fs.map RV) := hown.slFlat (fun i h f => by have := (hown.lt i h).1; simp [At, Cb.Or, Lt] at f; omega)
      have hs2 : Sl (Or (At q8) (Lt w.heap.size)) wr (.slice AC ws.length cC) ws := hsw.weak (fun b _ h => .inl (by simp only [At, Cb.Or, Lt] at h ⊢; omega))
      have hp1 := cell_obj (i := 1) hst.1 rfl
      have hr := run_ids hst id true
      have hcr := right_tx _ id v (.slice AC ws.length cC) (fs.map RV) ws wr hs1 hs2 (by simp; omega) (by omega)
      rw [hRV] at hs1 hcr
      obtain ⟨Av, cv, rfl⟩ := hs1.slice
      have hml : (fs.map fun f => (f, verS s f)).length = fs.length := List.length_map _
      have hE1 : rightB id (fs.map fun f => (f, verS s f)) ws = false → askE s (askT s id fs ws) = 1 := fun h => by simp [askE, askT, h]
      have hE2 : rightB id (fs.map fun f => (f, verS s f)) ws = true → (mget s.ids id).isSome = true → askE s (askT s id fs ws) = 221 := fun h h' => by simp [askE, askT, h, h']
      have hE3 : rightB id (fs.map fun f => (f, verS s f)) ws = true → (mget s.ids id).isSome = false → askE s (askT s id fs ws) = 0 := fun h h' => by simp [askE, askT, h, h']
      have b0 := cell_obj (i := 0) ho10 rfl
      have b1 := cell_obj (i := 1) ho10 rfl
      have b2 := cell_obj (i := 2) ho10 rfl
      rw [hml] at b1 hs1 hcr ho10
      have HE1 := Lib.hid hE1; have HE2 := Lib.hid hE2; have HE3 := Lib.hid hE3
      have Hcr := Lib.hid hcr; have Hs1 := Lib.hid hs1; have Hs2 := Lib.hid hs2
      clear hE1 hE2 hE3 hcr hs1 hs2 hown hml
      generalize (mget s.ids id).getD false = b3 at *
      generalize rightB id (fs.map fun f => (f, verS s f)) ws = rb at *
      generalize (mget s.ids id).isSome = cm at *
      go_wp2_with (first | (with_reducible refine stop_append ?_) | (with_reducible refine stop_copy ?_) | (with_reducible refine stop_make ?_) | (with_reducible refine stop_update ?_) | (with_reducible refine stop_slice ?_) | (with_reducible refine stop_range ?_) | (with_reducible refine stop_next ?_) | (with_reducible refine stop_convert ⟨_, rfl⟩ ?_) | (with_reducible refine stop_convertB ⟨_, _, _, rfl⟩ ?_) | (with_reducible refine stop_eqSlice ⟨_, _, rfl⟩ ?_))
      refine Hcr.out.mono ?_
      rintro e w4 ⟨rfl, hc4⟩
      have hc04 := hc.trans hc4
      have ho8b := hc4.obj ho8 (not_no _)
      have ho10b := hc4.obj ho10 (not_no _)
      have z0 := cell_obj (i := 0) ho8b rfl
      have z1 := cell_obj (i := 1) ho8b rfl
      have z2 := cell_obj (i := 2) ho8b rfl
      have f0 := free_obj (i := 0) ho8b
      have f1 := free_obj (i := 1) ho8b
      have f2 := free_obj (i := 2) ho8b
      have b0 := cell_obj (i := 0) ho10b rfl
      have b1 := cell_obj (i := 1) ho10b rfl
      have b2 := cell_obj (i := 2) ho10b rfl
      have Ks1 := Lib.hid (Hs1.out.keepNo hc4)
      have Ks2 := Lib.hid (Hs2.out.keepNo hc4)
      have hA : ∀ i, At q8 i → w.heap.size ≤ i := fun i h => by simp only [At] at h; omega
      have hl : ∀ {n : Nat} i, i < n → At q8 i → Or (At q8) (Lt w.heap.size) i := fun _ _ h => .inl h
      clear hc hc4 ho8 ho10 Hs1 Hs2 Hcr hr hRV Hf Hw Hs hst hsw o8 hsc
      cases rb
      · skip
        go_wp2_with (first | (with_reducible refine stop_append ?_) | (with_reducible refine stop_copy ?_) | (with_reducible refine stop_make ?_) | (with_reducible refine stop_lookup ?_) | (with_reducible refine stop_update ?_) | (with_reducible refine stop_slice ?_) | (with_reducible refine stop_range ?_) | (with_reducible refine stop_next ?_) | (with_reducible refine stop_convert ⟨_, rfl⟩ ?_) | (with_reducible refine stop_convertB ⟨_, _, _, rfl⟩ ?_) | (with_reducible refine stop_eqSlice ⟨_, _, rfl⟩ ?_))
        refine bodyPost_ret (v := .tuple #[.agg #[.int .i64 0, .slice none 0 0, .slice none 0 0], .int .i64 1]) (by simp [results, Try.results24, go_sem, *]) rfl ?_
        exact ask_no (by simpa using HE1.out) (by decide) (((hc04.old (chg_set _) hA).old (chg_set _) hA).old (chg_set _) hA)
      · cases cm
        · skip
          go_wp2_with (first | (with_reducible refine stop_append ?_) | (with_reducible refine stop_copy ?_) | (with_reducible refine stop_make ?_) | (with_reducible refine stop_lookup ?_) | (with_reducible refine stop_update ?_) | (with_reducible refine stop_slice ?_) | (with_reducible refine stop_range ?_) | (with_reducible refine stop_next ?_) | (with_reducible refine stop_convert ⟨_, rfl⟩ ?_) | (with_reducible refine stop_convertB ⟨_, _, _, rfl⟩ ?_) | (with_reducible refine stop_eqSlice ⟨_, _, rfl⟩ ?_))
          refine bodyPost_ret (v := .tuple #[.agg #[.int .i64 id, .slice Av fs.length cv, .slice AC ws.length cC], .int .i64 0]) (by simp [results, Try.results24, go_sem, *]) rfl ?_
          exact ask_yes (t := askT s id fs ws) (by simpa using HE3.out) (((hc04.old (chg_set _) hA).old (chg_set _) hA).old (chg_set _) hA) ((((Ks1.out.keep ((chg_set _).weak hl)).keep ((chg_set _).weak hl)).keep ((chg_set _).weak hl)).weak (fun _ _ f => .inr f)) ((((Ks2.out.keep ((chg_set _).weak hl)).keep ((chg_set _).weak hl)).keep ((chg_set _).weak hl)).weak (fun _ _ f => .inr f))
        · skip
          go_wp2_with (first | (with_reducible refine stop_append ?_) | (with_reducible refine stop_copy ?_) | (with_reducible refine stop_make ?_) | (with_reducible refine stop_lookup ?_) | (with_reducible refine stop_update ?_) | (with_reducible refine stop_slice ?_) | (with_reducible refine stop_range ?_) | (with_reducible refine stop_next ?_) | (with_reducible refine stop_convert ⟨_, rfl⟩ ?_) | (with_reducible refine stop_convertB ⟨_, _, _, rfl⟩ ?_) | (with_reducible refine stop_eqSlice ⟨_, _, rfl⟩ ?_))
          refine bodyPost_ret (v := .tuple #[.agg #[.int .i64 0, .slice none 0 0, .slice none 0 0], .int .i64 221]) (by simp [results, Try.results24, go_sem, *]) rfl ?_
          exact ask_no (by simpa using HE2.out) (by decide) (((hc04.old (chg_set _) hA).old (chg_set _) hA).old (chg_set _) hA)
end Go.Proofs.Ytnioljagmimojaa
