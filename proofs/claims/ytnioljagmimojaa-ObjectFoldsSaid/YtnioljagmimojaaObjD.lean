/- Walks of package object: Data. -/
import Derived.Test.YtnioljagmimojaaObjC
set_option linter.unusedVariables false
set_option linter.unusedSimpArgs false
namespace Go.Proofs.Ytnioljagmimojaa
open Go.RowKit Cb

def encR (r : Int × Int) : List UInt8 := encs [r.1, r.2]
def encW (x : Int × ByteArray) : List UInt8 := encs [x.1] ++ encText x.2
def encTx (id : Int) (rs : List (Int × Int)) (ws : List (Int × ByteArray)) : List UInt8 :=
  encs [id, (rs.length : Int)] ++ (rs.map encR).flatten ++ encs [(ws.length : Int)] ++ (ws.map encW).flatten
theorem num_lit (F : Nat → Prop) (base : Nat) (bs : List UInt8) (v : Value) (xs : List Int) (n q : Nat) (C : Array Value) (w : World) (hq : q = w.heap.size) (hC : C = (xs.map (Value.int .i64)).toArray) (hn : n = xs.length) (hr : ∀ n ∈ xs, 0 ≤ n ∧ n ≤ 4611686018427387904)
    (ho : Own F w base 5 v bs) (hbase : base ≤ w.heap.size) (hroom : bs.length + 10 * xs.length ≤ 100000000000000) :
    Calls Try.prog 35 #[v, .slice (some ⟨q, 0, none⟩) n n] (w.alloc (.cells C 3)) fun e w' => ∃ v', e = .returned (.tuple #[v', .bool true]) ∧ Own F w' base 5 v' (bs ++ encs xs) ∧ Grew w w' v v' := by
  subst hq
  refine (num_any F base bs v _ xs _ (Sl.lit (ds := xs.map fun x => [Value.int .i64 x]) (by rw [flatten_single]; exact hC) (by simp) (fun i h h' => by simp only [List.getElem_map]; rfl) (fun h => ?_) hn (Nat.le_refl _)) hr (ho.alloc _) (by simp; omega) hroom).mono ?_
  · have := (ho.lt _ h).2; omega
  · rintro e w1 ⟨v1, rfl, ho1, hg1⟩
    exact ⟨v1, rfl, ho1, ((Grew.refl w v).alloc _).trans hg1⟩
theorem map_snoc {α β : Type} (f : α → List β) (xs : List α) (k : Nat) (h : k < xs.length) : ((xs.take (k + 1)).map f).flatten = ((xs.take k).map f).flatten ++ f xs[k] := by
  rw [List.take_succ_eq_append_getElem h, List.map_append, List.flatten_append]; simp
theorem flatten_le {α β : Type} (f : α → List β) (xs : List α) (n : Nat) (h : ∀ x ∈ xs, (f x).length ≤ n) : ((xs.map f).flatten).length ≤ n * xs.length := by
  induction xs with
  | nil => simp
  | cons x r ih => simp only [List.map_cons, List.flatten_cons, List.length_append, List.length_cons]; have := h x (by simp); have := ih (fun y hy => h y (by simp [hy])); rw [Nat.mul_add]; omega
theorem inB_iff (n k : Int) : inB n k = true ↔ 0 ≤ n ∧ n ≤ k := by simp [inB]
theorem risB_iff (l : List Int) : risB l = true → (∀ x ∈ l, 0 ≤ x ∧ x ≤ 1073741824) ∧ l.length ≤ 16 := by
  intro h
  simp only [risB, Bool.and_eq_true, List.all_eq_true, decide_eq_true_eq] at h
  refine ⟨fun x hx => ?_, h.2⟩
  obtain ⟨i, hi, rfl⟩ := List.mem_iff_getElem.1 hx
  have := h.1 i (by simpa using hi)
  rw [okAt_get l i l[i] (List.getElem?_eq_getElem hi)] at this
  simp at this; exact this.1
theorem rightB_iff {id : Int} {rs : List (Int × Int)} {ws : List (Int × ByteArray)} (h : rightB id rs ws = true) :
    (0 ≤ id ∧ id ≤ 1099511627776) ∧ (∀ r ∈ rs, (0 ≤ r.1 ∧ r.1 ≤ 1073741824) ∧ (0 ≤ r.2 ∧ r.2 ≤ 1099511627776)) ∧ rs.length ≤ 16 ∧ (∀ x ∈ ws, (0 ≤ x.1 ∧ x.1 ≤ 1073741824) ∧ x.2.size ≤ 48) ∧ ws.length ≤ 16 := by
  simp only [rightB, Bool.and_eq_true, Bool.not_eq_true', inB_iff] at h
  obtain ⟨⟨⟨h1, h2⟩, h3⟩, h4, h5⟩ := h
  have h2 := risB_iff _ h2; have h3 := risB_iff _ h3
  rw [List.any_eq_false] at h4 h5
  refine ⟨h1, fun r hr => ⟨h2.1 r.1 (List.mem_map.2 ⟨r, hr, rfl⟩), ?_⟩, by simpa using h2.2, fun x hx => ⟨h3.1 x.1 (List.mem_map.2 ⟨x, hx, rfl⟩), ?_⟩, by simpa using h3.2⟩
  · have := h4 r hr; simp only [badR, Bool.not_eq_true', Bool.not_eq_false] at this; exact (inB_iff _ _).1 this
  · have := h5 x hx; simp [badW] at this; omega
theorem encR_len (r : Int × Int) (h1 : 0 ≤ r.1 ∧ r.1 ≤ 1099511627776) (h2 : 0 ≤ r.2 ∧ r.2 ≤ 1099511627776) : (encR r).length ≤ 18 := by
  have := encs_len [r.1, r.2] (by simp; omega); simpa [encR] using this
theorem encW_len (x : Int × ByteArray) (h1 : 0 ≤ x.1 ∧ x.1 ≤ 1099511627776) (h2 : x.2.size ≤ 65536) : (encW x).length ≤ 70000 := by
  have h3 := encs_len [x.1] (by simp; omega)
  have h4 := encNat_len9 x.2.size (by omega)
  have h5 : x.2.data.toList.length = x.2.size := by rw [Array.length_toList]; rfl
  simp only [encW, encText, List.length_append, List.length_cons, List.length_nil] at h3 ⊢; omega
theorem data_no (F : Nat → Prop) (id : Int) (vr vw : Value) (rs : List (Int × Int)) (ws : List (Int × ByteArray)) (w : World) (hr : Sl F w vr rs) (hw : Sl F w vw ws) (hl : rs.length * 16 ≤ 140737488351232) (hl2 : ws.length * 16 ≤ 140737488351232) (hb : rightB id rs ws = false) :
    Calls Try.prog 12 #[.agg #[.int .i64 id, vr, vw]] w fun e w' => e = .returned (.tuple #[.string ⟨#[]⟩, .int .i64 1]) ∧ Chg No w w' := by
  have hc0 := (Chg.refl No w).alloc (.cells #[.int .i64 id, vr, vw] 33)
  have hcall := right_tx F id vr vw rs ws _ (hr.keepNo hc0) (hw.keepNo hc0) hl hl2
  rw [hb] at hcall
  have Hcall := Lib.hid hcall
  clear hb hcall hr hw
  go_enter Try.func12, Try.ntmps12
  go_wp2_with (first | (with_reducible refine stop_append ?_) | (with_reducible refine stop_copy ?_) | (with_reducible refine stop_make ?_) | (with_reducible refine stop_lookup ?_) | (with_reducible refine stop_update ?_) | (with_reducible refine stop_slice ?_) | (with_reducible refine stop_range ?_) | (with_reducible refine stop_next ?_) | (with_reducible refine stop_convert ⟨_, rfl⟩ ?_) | (with_reducible refine stop_convertB ⟨_, _, _, rfl⟩ ?_) | (with_reducible refine stop_eqSlice ⟨_, _, rfl⟩ ?_))
  refine Hcall.out.mono ?_
  rintro e w1 ⟨rfl, hc1⟩
  go_wp2_with (first | (with_reducible refine stop_append ?_) | (with_reducible refine stop_copy ?_) | (with_reducible refine stop_make ?_) | (with_reducible refine stop_lookup ?_) | (with_reducible refine stop_update ?_) | (with_reducible refine stop_slice ?_) | (with_reducible refine stop_range ?_) | (with_reducible refine stop_next ?_) | (with_reducible refine stop_convert ⟨_, rfl⟩ ?_) | (with_reducible refine stop_convertB ⟨_, _, _, rfl⟩ ?_) | (with_reducible refine stop_eqSlice ⟨_, _, rfl⟩ ?_))
  go_ret2
  exact ⟨rfl, hc0.trans hc1⟩
set_option maxRecDepth 100000 in
set_option maxHeartbeats 1000000 in
theorem data_yes (F : Nat → Prop) (id : Int) (vr vw : Value) (rs : List (Int × Int)) (ws : List (Int × ByteArray)) (w : World) (hr : Sl F w vr rs) (hw : Sl F w vw ws) (hb : rightB id rs ws = true) :
    Calls Try.prog 12 #[.agg #[.int .i64 id, vr, vw]] w fun e w' => e = .returned (.tuple #[.string ⟨(encTx id rs ws).toArray⟩, .int .i64 0]) ∧ Chg No w w' := by
  obtain ⟨hid, hrs, hrl, hws, hwl⟩ := rightB_iff hb
  have hc0 := (Chg.refl No w).alloc (.cells #[.int .i64 id, vr, vw] 33)
  have ho := alloc_obj w (.cells #[.int .i64 id, vr, vw] 33)
  have hcall := right_tx F id vr vw rs ws _ (hr.keepNo hc0) (hw.keepNo hc0) (by omega) (by omega)
  rw [hb] at hcall
  obtain ⟨AR, cR, rfl, hcR, _⟩ := _root_.id hr
  obtain ⟨AW, cW, rfl, hcW, _⟩ := _root_.id hw
  have Hcall := Lib.hid hcall
  have Hrs := Lib.hid hrs; have Hws := Lib.hid hws
  clear hb hcall hrs hws
  go_enter Try.func12, Try.ntmps12
  go_wp2_with (first | (with_reducible refine stop_append ?_) | (with_reducible refine stop_copy ?_) | (with_reducible refine stop_make ?_) | (with_reducible refine stop_lookup ?_) | (with_reducible refine stop_update ?_) | (with_reducible refine stop_slice ?_) | (with_reducible refine stop_range ?_) | (with_reducible refine stop_next ?_) | (with_reducible refine stop_convert ⟨_, rfl⟩ ?_) | (with_reducible refine stop_convertB ⟨_, _, _, rfl⟩ ?_) | (with_reducible refine stop_eqSlice ⟨_, _, rfl⟩ ?_))
  refine Hcall.out.mono ?_
  rintro e w1 ⟨rfl, hc1⟩
  have ho1 := hc1.obj ho (not_no _)
  have hc01 := hc0.trans hc1
  have q0 := cell_obj (i := 0) ho1 rfl
  have q1 := cell_obj (i := 1) ho1 rfl
  generalize w.alloc (.cells #[.int .i64 id, .slice AR rs.length cR, .slice AW ws.length cW] 33) = w0 at *
  generalize w.heap.size = q at *
  go_wp2_with (first | (with_reducible refine stop_append ?_) | (with_reducible refine stop_copy ?_) | (with_reducible refine stop_make ?_) | (with_reducible refine stop_lookup ?_) | (with_reducible refine stop_update ?_) | (with_reducible refine stop_slice ?_) | (with_reducible refine stop_range ?_) | (with_reducible refine stop_next ?_) | (with_reducible refine stop_convert ⟨_, rfl⟩ ?_) | (with_reducible refine stop_convertB ⟨_, _, _, rfl⟩ ?_) | (with_reducible refine stop_eqSlice ⟨_, _, rfl⟩ ?_))
  refine (num_lit No w1.heap.size [] _ [id, (rs.length : Int)] 2 _ _ _ rfl rfl rfl (by simp; omega) (Own.nil _ _ _ _) (Nat.le_refl _) (by simp)).mono ?_
  rintro e w2 ⟨v2, rfl, hB, hg2⟩
  have hc2 : Chg No w1 w2 := (Chg.refl No w1).grew hg2 (fun _ h => by simp [Value.ownBlock] at h)
  simp only [List.nil_append] at hB
  have hl0 := encs_len [id, (rs.length : Int)] (by simp; omega)
  generalize hE0 : encs [id, (rs.length : Int)] = E0 at hB hl0
  have HE0 := Lib.hid hE0; clear hE0
  have p1 := hc2.cell q1 (not_no _)
  go_wp2_with (first | (with_reducible refine stop_append ?_) | (with_reducible refine stop_copy ?_) | (with_reducible refine stop_make ?_) | (with_reducible refine stop_lookup ?_) | (with_reducible refine stop_update ?_) | (with_reducible refine stop_slice ?_) | (with_reducible refine stop_range ?_) | (with_reducible refine stop_next ?_) | (with_reducible refine stop_convert ⟨_, rfl⟩ ?_) | (with_reducible refine stop_convertB ⟨_, _, _, rfl⟩ ?_) | (with_reducible refine stop_eqSlice ⟨_, _, rfl⟩ ?_))
  go_loopw [4, 26] (fun v4 v26 wr => ∃ k : Nat, k ≤ rs.length ∧ v26 = .int .i64 k ∧ Own No wr w1.heap.size 5 v4 (E0 ++ ((rs.take k).map encR).flatten) ∧ Chg No w1 wr) (fun _ v26 _ => rs.length - (intOf v26).toNat)
  case atStart => exact ⟨0, by omega, rfl, by simpa using hB, hc2⟩
  case round =>
    obtain ⟨k, hk, rfl, hB1, hc3⟩ := hrel
    have hc03 := hc01.trans hc3
    by_cases hlt : k < rs.length
    · obtain ⟨b, o, d, rfl, _, hbl, ⟨d1, d2, rfl, rfl, rfl⟩, ha⟩ := (hr.keepNo hc03).get k hlt
      have ha0 := ha 0 _ rfl
      have ha1 := ha 1 _ rfl
      simp only [show Rep.n (Int × Int) = 2 from rfl, Nat.add_zero] at ha0 ha1
      have hrk := Hrs.out _ (List.getElem_mem hlt)
      have Hsn := Lib.hid (map_snoc encR rs k hlt)
      have hpl := flatten_le encR (rs.take k) 18 (fun x hx => encR_len x (by have := Hrs.out x (List.mem_of_mem_take hx); omega) (by have := Hrs.out x (List.mem_of_mem_take hx); omega))
      rw [List.length_take] at hpl
      clear ha
      generalize rs[k] = x at ha0 ha1 hrk Hsn
      obtain ⟨f, ver⟩ := x
      simp only at ha0 ha1 hrk
      obtain ⟨⟨hf0, hf1⟩, hv0, hv1⟩ := hrk
      clear hr hw
      go_wp2_with (first | (with_reducible refine stop_append ?_) | (with_reducible refine stop_copy ?_) | (with_reducible refine stop_make ?_) | (with_reducible refine stop_lookup ?_) | (with_reducible refine stop_update ?_) | (with_reducible refine stop_slice ?_) | (with_reducible refine stop_range ?_) | (with_reducible refine stop_next ?_) | (with_reducible refine stop_convert ⟨_, rfl⟩ ?_) | (with_reducible refine stop_convertB ⟨_, _, _, rfl⟩ ?_) | (with_reducible refine stop_eqSlice ⟨_, _, rfl⟩ ?_))
      refine (num_lit No w1.heap.size _ _ [f, ver] 2 _ _ _ (by simp) rfl rfl (by simp; omega) (hB1.alloc _) (by have := hc3.size; simp; omega) (by simp only [List.length_append, List.length_cons, List.length_nil] at hl0 ⊢; omega)).mono ?_
      rintro e w4 ⟨v4, rfl, hB4, hg4⟩
      have hB4' : Own No w4 w1.heap.size 5 v4 (E0 ++ ((rs.take (k + 1)).map encR).flatten) := by rw [Hsn.out]; simpa [encR] using hB4
      have hc4 : Chg No w1 w4 := (hc3.alloc _).grew hg4 (fun i h => .inr (hB1.lt i h).1)
      clear hB4
      go_wp2_with (first | (with_reducible refine stop_append ?_) | (with_reducible refine stop_copy ?_) | (with_reducible refine stop_make ?_) | (with_reducible refine stop_lookup ?_) | (with_reducible refine stop_update ?_) | (with_reducible refine stop_slice ?_) | (with_reducible refine stop_range ?_) | (with_reducible refine stop_next ?_) | (with_reducible refine stop_convert ⟨_, rfl⟩ ?_) | (with_reducible refine stop_convertB ⟨_, _, _, rfl⟩ ?_) | (with_reducible refine stop_eqSlice ⟨_, _, rfl⟩ ?_))
      go_roundw
      case rel => exact ⟨k + 1, by omega, by go_num, hB4', hc4⟩
      case measure => simp [intOf]; omega
    · obtain rfl : k = rs.length := by omega
      rw [List.take_length] at hB1
      have p2 := (hc3.cell (cell_obj (i := 2) ho1 rfl) (not_no _))
      have hl1 := flatten_le encR rs 18 (fun x hx => encR_len x (by have := Hrs.out x hx; omega) (by have := Hrs.out x hx; omega))
      clear hr
      go_wp2_with (first | (with_reducible refine stop_append ?_) | (with_reducible refine stop_copy ?_) | (with_reducible refine stop_make ?_) | (with_reducible refine stop_lookup ?_) | (with_reducible refine stop_update ?_) | (with_reducible refine stop_slice ?_) | (with_reducible refine stop_range ?_) | (with_reducible refine stop_next ?_) | (with_reducible refine stop_convert ⟨_, rfl⟩ ?_) | (with_reducible refine stop_convertB ⟨_, _, _, rfl⟩ ?_) | (with_reducible refine stop_eqSlice ⟨_, _, rfl⟩ ?_))
      refine (num_lit No w1.heap.size _ _ [(ws.length : Int)] 1 _ _ _ rfl rfl rfl (by simp; omega) hB1 hc3.size (by simp only [List.length_append, List.length_cons, List.length_nil] at hl0 ⊢; omega)).mono ?_
      rintro e w5 ⟨v5, rfl, hB5, hg5⟩
      have hc5 : Chg No w1 w5 := hc3.grew hg5 (fun i h => .inr (hB1.lt i h).1)
      have hl2 := encs_len [(ws.length : Int)] (by simp; omega)
      generalize hE1 : E0 ++ (rs.map encR).flatten ++ encs [(ws.length : Int)] = E1 at hB5
      have hE1l : E1.length ≤ 18 + 18 * 16 + 9 := by rw [← hE1]; simp only [List.length_append, List.length_cons, List.length_nil] at hl0 hl2 ⊢; omega
      have HE1 := Lib.hid hE1; clear hE1 hl0 hl1 hl2
      have p3 := (hc5.cell (cell_obj (i := 2) ho1 rfl) (not_no _))
      go_wp2_with (first | (with_reducible refine stop_append ?_) | (with_reducible refine stop_copy ?_) | (with_reducible refine stop_make ?_) | (with_reducible refine stop_lookup ?_) | (with_reducible refine stop_update ?_) | (with_reducible refine stop_slice ?_) | (with_reducible refine stop_range ?_) | (with_reducible refine stop_next ?_) | (with_reducible refine stop_convert ⟨_, rfl⟩ ?_) | (with_reducible refine stop_convertB ⟨_, _, _, rfl⟩ ?_) | (with_reducible refine stop_eqSlice ⟨_, _, rfl⟩ ?_))
      go_loopw [4, 53] (fun v4 v53 wr => ∃ k : Nat, k ≤ ws.length ∧ v53 = .int .i64 k ∧ Own No wr w1.heap.size 5 v4 (E1 ++ ((ws.take k).map encW).flatten) ∧ Chg No w1 wr) (fun _ v53 _ => ws.length - (intOf v53).toNat)
      case atStart => exact ⟨0, by omega, rfl, by simpa using hB5, hc5⟩
      case round =>
        obtain ⟨k, hk, rfl, hB6, hc6⟩ := hrel
        have hc06 := hc01.trans hc6
        by_cases hlt : k < ws.length
        · obtain ⟨b, o, d, rfl, _, hbl, ⟨d1, d2, rfl, rfl, rfl⟩, ha⟩ := (hw.keepNo hc06).get k hlt
          have ha0 := ha 0 _ rfl
          have ha1 := ha 1 _ rfl
          simp only [show Rep.n (Int × ByteArray) = 2 from rfl, Nat.add_zero] at ha0 ha1
          have hwk := Hws.out _ (List.getElem_mem hlt)
          have Hsn := Lib.hid (map_snoc encW ws k hlt)
          have hpl := flatten_le encW (ws.take k) 70000 (fun x hx => encW_len x (by have := Hws.out x (List.mem_of_mem_take hx); omega) (by have := Hws.out x (List.mem_of_mem_take hx); omega))
          rw [List.length_take] at hpl
          clear ha
          generalize ws[k] = x at ha0 ha1 hwk Hsn
          obtain ⟨f, s⟩ := x
          simp only at ha0 ha1 hwk
          obtain ⟨⟨hf0, hf1⟩, hsl⟩ := hwk
          clear hw
          have hq0 := cell_obj (i := 0) (alloc_obj wr (.cells #[.int .i64 f, .string s] 63)) rfl
          go_wp2_with (first | (with_reducible refine stop_append ?_) | (with_reducible refine stop_copy ?_) | (with_reducible refine stop_make ?_) | (with_reducible refine stop_lookup ?_) | (with_reducible refine stop_update ?_) | (with_reducible refine stop_slice ?_) | (with_reducible refine stop_range ?_) | (with_reducible refine stop_next ?_) | (with_reducible refine stop_convert ⟨_, rfl⟩ ?_) | (with_reducible refine stop_convertB ⟨_, _, _, rfl⟩ ?_) | (with_reducible refine stop_eqSlice ⟨_, _, rfl⟩ ?_))
          refine (num_lit No w1.heap.size _ _ [f] 1 _ _ _ (by simp) rfl rfl (by simp; omega) (hB6.alloc _) (by have := hc6.size; simp; omega) (by simp only [List.length_append, List.length_cons, List.length_nil]; omega)).mono ?_
          rintro e w7 ⟨v7, rfl, hB7, hg7⟩
          have hc7 : Chg No w1 w7 := (hc6.alloc _).grew hg7 (fun i h => .inr (hB6.lt i h).1)
          have hq1 : w7.cell? ⟨wr.heap.size, 1, none⟩ = some (.string s) := by
            refine hg7.chg.cell (cell_obj (i := 1) (alloc_obj wr (.cells #[.int .i64 f, .string s] 63)) rfl) (fun h => ?_)
            have := (hB6.lt _ h).2; simp at this
          have hl1 := encs_len [f] (by simp; omega)
          go_wp2_with (first | (with_reducible refine stop_append ?_) | (with_reducible refine stop_copy ?_) | (with_reducible refine stop_make ?_) | (with_reducible refine stop_lookup ?_) | (with_reducible refine stop_update ?_) | (with_reducible refine stop_slice ?_) | (with_reducible refine stop_range ?_) | (with_reducible refine stop_next ?_) | (with_reducible refine stop_convert ⟨_, rfl⟩ ?_) | (with_reducible refine stop_convertB ⟨_, _, _, rfl⟩ ?_) | (with_reducible refine stop_eqSlice ⟨_, _, rfl⟩ ?_))
          refine (text_any No w1.heap.size _ _ s _ hB7 hc7.size (by omega) (by simp only [List.length_append, List.length_cons, List.length_nil] at hl1 ⊢; omega)).mono ?_
          rintro e w8 ⟨v8, rfl, hB8, hg8⟩
          have hB8' : Own No w8 w1.heap.size 5 v8 (E1 ++ ((ws.take (k + 1)).map encW).flatten) := by rw [Hsn.out]; simpa [encW] using hB8
          have hc8 : Chg No w1 w8 := hc7.grew hg8 (fun i h => .inr (hB7.lt i h).1)
          clear hB8
          go_wp2_with (first | (with_reducible refine stop_append ?_) | (with_reducible refine stop_copy ?_) | (with_reducible refine stop_make ?_) | (with_reducible refine stop_lookup ?_) | (with_reducible refine stop_update ?_) | (with_reducible refine stop_slice ?_) | (with_reducible refine stop_range ?_) | (with_reducible refine stop_next ?_) | (with_reducible refine stop_convert ⟨_, rfl⟩ ?_) | (with_reducible refine stop_convertB ⟨_, _, _, rfl⟩ ?_) | (with_reducible refine stop_eqSlice ⟨_, _, rfl⟩ ?_))
          go_roundw
          case rel => exact ⟨k + 1, by omega, by go_num, hB8', hc8⟩
          case measure => simp [intOf]; omega
        · obtain rfl : k = ws.length := by omega
          rw [List.take_length] at hB6
          have hs6 := hB6.sl (fun _ _ f => f)
          have hfin : E1 ++ (ws.map encW).flatten = encTx id rs ws := by rw [← HE1.out, ← HE0.out]; rfl
          rw [hfin] at hs6
          clear hfin
          obtain ⟨A6, n6, c6, rfl⟩ : ∃ A n c, u4 = .slice A n c := by obtain ⟨A, c, e, _⟩ := hs6; exact ⟨_, _, _, e⟩
          clear hw
          go_wp2_with (first | (with_reducible refine stop_append ?_) | (with_reducible refine stop_copy ?_) | (with_reducible refine stop_make ?_) | (with_reducible refine stop_lookup ?_) | (with_reducible refine stop_update ?_) | (with_reducible refine stop_slice ?_) | (with_reducible refine stop_range ?_) | (with_reducible refine stop_next ?_) | (with_reducible refine stop_convert ⟨_, rfl⟩ ?_) | (with_reducible refine stop_convertB ⟨_, _, _, rfl⟩ ?_) | (with_reducible refine stop_eqSlice ⟨_, _, rfl⟩ ?_))
          refine step_conv_bs Try.underlying78 Try.underlying5 Try.underlying9 rfl hs6 ?_
          go_wp2_with (first | (with_reducible refine stop_append ?_) | (with_reducible refine stop_copy ?_) | (with_reducible refine stop_make ?_) | (with_reducible refine stop_lookup ?_) | (with_reducible refine stop_update ?_) | (with_reducible refine stop_slice ?_) | (with_reducible refine stop_range ?_) | (with_reducible refine stop_next ?_) | (with_reducible refine stop_convert ⟨_, rfl⟩ ?_) | (with_reducible refine stop_convertB ⟨_, _, _, rfl⟩ ?_) | (with_reducible refine stop_eqSlice ⟨_, _, rfl⟩ ?_))
          go_ret2
          exact ⟨rfl, hc06⟩
end Go.Proofs.Ytnioljagmimojaa
