/- Texts RegB, RegC, RegD, RegE, RegO, RegP, RegR, RegU, RegV, Alo, RepJ, OrsA, RepA, Mor, RepB, RepC. -/
import Derived.Test.YtbjpoamnglfjeaaMg7
import Derived.Scope
/- Walks of package register: a row of the caller's own. -/
set_option linter.unusedVariables false
set_option linter.unusedSimpArgs false
namespace Go.Proofs.Ytbjpoamnglfjeaa
open Go.RowKit Cb

theorem set3 {w : World} {q : Nat} {a b c : Value} {T : TypeId} {fz : Nat × Nat} (h : w.heap[q]? = some (.cells #[a, b, c] T fz)) (x y z : Value) :
    (((w.setCell ⟨q, 0, none⟩ x).setCell ⟨q, 1, none⟩ y).setCell ⟨q, 2, none⟩ z).heap[q]? = some (.cells #[x, y, z] T fz) ∧ Chg (At q) w (((w.setCell ⟨q, 0, none⟩ x).setCell ⟨q, 1, none⟩ y).setCell ⟨q, 2, none⟩ z) :=
  ⟨obj_set (obj_set (obj_set h rfl) rfl) rfl, ((chg_set x).trans (chg_set y)).trans (chg_set z)⟩
theorem set5 {w : World} {q : Nat} {a b c d e : Value} {T : TypeId} {fz : Nat × Nat} (h : w.heap[q]? = some (.cells #[a, b, c, d, e] T fz)) (x y z t u : Value) :
    (((((w.setCell ⟨q, 0, none⟩ x).setCell ⟨q, 1, none⟩ y).setCell ⟨q, 2, none⟩ z).setCell ⟨q, 3, none⟩ t).setCell ⟨q, 4, none⟩ u).heap[q]? = some (.cells #[x, y, z, t, u] T fz) ∧ Chg (At q) w (((((w.setCell ⟨q, 0, none⟩ x).setCell ⟨q, 1, none⟩ y).setCell ⟨q, 2, none⟩ z).setCell ⟨q, 3, none⟩ t).setCell ⟨q, 4, none⟩ u) :=
  ⟨obj_set (obj_set (obj_set (obj_set (obj_set h rfl) rfl) rfl) rfl) rfl, ((((chg_set x).trans (chg_set y)).trans (chg_set z)).trans (chg_set t)).trans (chg_set u)⟩
/-- A row's value. -/
def rowV (t : Int) (vq vs vt : Value) (o : Bool) : Value := .agg #[.int .i64 t, vq, vs, vt, .bool o]
theorem vinfo_ints : Info Try.prog 46 (.slice none 0 0) 1 24 := by unfold Info; kernel_rfl
set_option maxRecDepth 100000 in
set_option maxHeartbeats 4000000 in
theorem own_any (t : Int) (vq vs vt : Value) (o : Bool) (q : List Int) (s : List (List Int)) (l : List Ent) (w : World) (hq : Sl No w vq q) (hs : Sl No w vs s) (ht : Sl No w vt l)
    (hlq : q.length ≤ 1000000) (hls : s.length ≤ 1000000) (hbs : ∀ x ∈ s, x.length ≤ 1000000) (hlt : l.length ≤ 2199023255488) (hbt : ∀ e ∈ l, e.2.2.1.length ≤ 1000000) :
    Calls Try.prog 67 #[rowV t vq vs vt o] w fun e w' => ∃ vq' vs' vt', e = .returned (rowV t vq' vs' vt' o) ∧ Chg No w w' ∧ Sl (Lt w.heap.size) w' vq' q ∧ Sl (Lt w.heap.size) w' vs' s ∧ Sl (Lt w.heap.size) w' vt' l := by
  have Hq := Lib.hid (fun W (hW : Chg No w W) => vclone_any _ _ q W (hq.keepNo hW) hlq)
  have Ht := Lib.hid (fun W (hW : Chg No w W) => regents_any _ l W (ht.keepNo hW) hlt hbt)
  have Hs := Lib.hid (fun W (hW : Chg No w W) => (Sl.up hs (Nat.le_refl _)).keepNo hW)
  have Hbs := Lib.hid hbs
  obtain ⟨Aq, cq, rfl⟩ := hq.slice
  obtain ⟨As, cs, rfl⟩ := hs.slice
  obtain ⟨At0, ct, rfl⟩ := ht.slice
  clear hq hs ht hbs hbt
  unfold rowV
  go_enter Try.func67, Try.ntmps67
  have o1 := ((Chg.refl No (w.alloc (.cells #[.int .i64 t, .slice Aq q.length cq, .slice As s.length cs, .slice At0 l.length ct, .bool o] 88))).alloc (.cells #[.int .i64 0, .slice none 0 0, .slice none 0 0, .slice none 0 0, .bool false] 88)).obj (alloc_obj w (.cells #[.int .i64 t, .slice Aq q.length cq, .slice As s.length cs, .slice At0 l.length ct, .bool o] 88)) (not_no _)
  have o2 := alloc_obj (w.alloc (.cells #[.int .i64 t, .slice Aq q.length cq, .slice As s.length cs, .slice At0 l.length ct, .bool o] 88)) (.cells #[.int .i64 0, .slice none 0 0, .slice none 0 0, .slice none 0 0, .bool false] 88)
  have hc0 := ((Chg.refl No w).alloc (.cells #[.int .i64 t, .slice Aq q.length cq, .slice As s.length cs, .slice At0 l.length ct, .bool o] 88)).alloc (.cells #[.int .i64 0, .slice none 0 0, .slice none 0 0, .slice none 0 0, .bool false] 88)
  have hz : (w.alloc (.cells #[.int .i64 t, .slice Aq q.length cq, .slice As s.length cs, .slice At0 l.length ct, .bool o] 88)).heap.size = w.heap.size + 1 := by simp
  rw [hz] at o2
  go_wp2_with (with_reducible first | refine stop_append ?_ | refine stop_copy ?_ | refine stop_make ?_ | refine stop_lookup ?_ | refine stop_update ?_ | refine stop_slice ?_ | refine stop_range ?_ | refine stop_next ?_ | refine stop_convert ⟨_, rfl⟩ ?_ | refine stop_convertB ⟨_, _, _, rfl⟩ ?_ | refine stop_eqSlice ⟨_, _, rfl⟩ ?_)
  generalize (w.alloc (.cells #[.int .i64 t, .slice Aq q.length cq, .slice As s.length cs, .slice At0 l.length ct, .bool o] 88)).alloc (.cells #[.int .i64 0, .slice none 0 0, .slice none 0 0, .slice none 0 0, .bool false] 88) = w0 at *
  obtain ⟨q1, hq1⟩ : ∃ p, p = w.heap.size := ⟨_, rfl⟩
  obtain ⟨q2, hq2⟩ : ∃ p, p = w.heap.size + 1 := ⟨_, rfl⟩
  rw [← hq2] at o2 ⊢
  rw [← hq1] at o1 ⊢
  have Hq1 := Lib.hid hq1; have Hq2 := Lib.hid hq2
  clear hq1 hq2 hz
  have HS := Lib.hid (show ∀ W, Chg No w0 W → (fun W => W.cell? ⟨q1, 0, none⟩ = some (.int .i64 t) ∧ W.cell? ⟨q1, 1, none⟩ = some (.slice Aq q.length cq)) W from fun W hW => ⟨cell_obj (hW.obj o1 (not_no _)) rfl, cell_obj (hW.obj o1 (not_no _)) rfl⟩)
  have cd := (Chg.refl No w0).drew
  refine rt_start (fun W => W.cell? ⟨q1, 0, none⟩ = some (.int .i64 t) ∧ W.cell? ⟨q1, 1, none⟩ = some (.slice Aq q.length cq)) (by kernel_rfl) ?_
  iterate 6 ((refine rt_nx [] (v := ?_) rfl (by kernel_rfl) (fun _ _ _ h => h) rfl ?_ ?_; rotate_left; focus (intro W hW; (try dsimp only at hW); go_split_ands; go_simp; (try (simp (disch := omega) only [IntWalk.i64_in]; (try go_simp))); (try (split; (next => omega); (try go_simp))); try rfl; done)); try simp only [Act.put, List.setIfInBounds_toArray, List.set_cons_zero, List.set_cons_succ, Nat.reduceAdd])
  refine rt_two (i := 6) (j := 8) (oi := { dst := some 12, op := .call { callee := .value (.func 66), args := #[.tmp 11], argTypes := #[46] }, type := 46, pos := "register.go:38", after := #[{ on := 5, ground := .data }], guard := none }) (oj := { dst := some 3, op := .alloc 68, type := 0, pos := "register.go:38", after := #[], guard := none }) (by kernel_rfl) (HS.out _ cd) rfl rfl rfl rfl (fun K hK => ?_) (fun K hK => ?_)
  rotate_left
  focus
    go_simp
    refine hK _ _ ?_
    clear hK K
    try simp only [Act.put, List.setIfInBounds_toArray, List.set_cons_zero, List.set_cons_succ]
    have o5 := (Chg.refl No (w0.alloc (.cells #[.int .i64 0, .slice none 0 0, .slice none 0 0] 68))).drew.obj (alloc_obj w0 (.cells #[.int .i64 0, .slice none 0 0, .slice none 0 0] 68)) (not_no _)
    have cdA : Chg No w0 (w0.alloc (.cells #[.int .i64 0, .slice none 0 0, .slice none 0 0] 68)).drew := ((Chg.refl No w0).alloc (.cells #[.int .i64 0, .slice none 0 0, .slice none 0 0] 68)).drew
    generalize w0.alloc (.cells #[.int .i64 0, .slice none 0 0, .slice none 0 0] 68) = wB at *
    obtain ⟨q5, hq⟩ : ∃ q, q = w0.heap.size := ⟨_, rfl⟩
    rw [← hq] at o5 ⊢
    have hq5 : w0.heap.size ≤ q5 := by omega
    clear hq
    refine rt_kx (fun W => W.cell? ⟨q1, 0, none⟩ = some (.int .i64 t) ∧ W.cell? ⟨q1, 1, none⟩ = some (.slice Aq q.length cq)) 6 (by kernel_rfl) (HS.out _ cdA) (fun _ h => h) rfl (by rfl) (fun K hK => ?_)
    go_simp
    refine (Hq.out _ (hc0.trans cdA)).mono ?_
    rintro e w7 ⟨vn, rfl, hc7, hsn⟩
    obtain ⟨An, cn, rfl⟩ := hsn.slice
    have cd7 := cdA.trans hc7
    have hql := lt_of_heap o5
    have hcz := (hc0.trans cdA).size
    replace hsn := hsn.weak (G := Or (Lt w0.heap.size) (At q5)) (fun b _ hb => by
      simp only [Lt]
      rcases hb with hb | hb
      · simp only [Lt] at hb; omega
      · simp only [At] at hb; omega)
    replace o5 := hc7.obj o5 (not_no _)
    clear hc7 cdA hql hcz
    refine hK _ _ ?_
    clear hK K
    try simp only [Act.put, List.setIfInBounds_toArray, List.set_cons_zero, List.set_cons_succ]
    ((refine rt_nx [] (v := ?_) rfl (by kernel_rfl) (fun _ _ _ h => h) rfl ?_ ?_; rotate_left; focus (intro W hW; (try dsimp only at hW); go_split_ands; go_simp; (try (simp (disch := omega) only [IntWalk.i64_in]; (try go_simp))); (try (split; (next => omega); (try go_simp))); try rfl; done)); try simp only [Act.put, List.setIfInBounds_toArray, List.set_cons_zero, List.set_cons_succ, Nat.reduceAdd])
    have z0 := cell_obj (i := 0) o5 rfl
    have z1 := cell_obj (i := 1) o5 rfl
    have z2 := cell_obj (i := 2) o5 rfl
    have f0 := free_obj (i := 0) o5
    have f1 := free_obj (i := 1) o5
    have f2 := free_obj (i := 2) o5
    refine rt_kx (fun W => W.cell? ⟨q1, 0, none⟩ = some (.int .i64 t) ∧ W.cell? ⟨q1, 1, none⟩ = some (.slice Aq q.length cq)) 9 (by kernel_rfl) (HS.out _ cd7) (fun _ h => h) rfl (by rfl) (fun K hK => ?_)
    go_simp
    refine hK _ _ ?_
    clear hK K
    try simp only [Act.put, List.setIfInBounds_toArray, List.set_cons_zero, List.set_cons_succ]
    refine rt_done (by kernel_rfl)  ?_
    obtain ⟨p5, hcs⟩ := set3 o5 (.int .i64 t) (.slice An q.length cn) (.slice none 0 0)
    have hsu := (hsn.keep (hcs.weak (fun i _ hi => .inr hi)))
    have hcu : Chg No w0 (((w7.setCell ⟨q5, 0, none⟩ (.int .i64 t)).setCell ⟨q5, 1, none⟩ (.slice An q.length cn)).setCell ⟨q5, 2, none⟩ (.slice none 0 0)) := cd7.old hcs (fun i h => by simp only [At] at h; omega)
    clear z0 z1 z2 f0 f1 f2 o5 cd7 hcs hsn
    generalize (((w7.setCell ⟨q5, 0, none⟩ (.int .i64 t)).setCell ⟨q5, 1, none⟩ (.slice An q.length cn)).setCell ⟨q5, 2, none⟩ (.slice none 0 0)) = u at p5 hcu hsu ⊢
  rotate_left
  focus
    go_simp
    refine (Hq.out _ (hc0.trans cd)).mono ?_
    rintro e w6 ⟨vn, rfl, hc6, hsn⟩
    obtain ⟨An, cn, rfl⟩ := hsn.slice
    have cd6 := cd.trans hc6
    have hcz := (hc0.trans cd).size
    have hdw : w0.drew.heap.size = w0.heap.size := rfl
    replace hsn := (hsn.weak (G := Or (Lt w0.heap.size) (At w6.heap.size)) (fun b hb' hb => by
      simp only [Lt]
      rcases hb with hb | hb
      · simp only [Lt] at hb; omega
      · simp only [At] at hb; omega)).keepNo ((Chg.refl No w6).alloc (.cells #[.int .i64 0, .slice none 0 0, .slice none 0 0] 68))
    clear hc6 hcz hdw
    refine hK _ _ ?_
    clear hK K
    try simp only [Act.put, List.setIfInBounds_toArray, List.set_cons_zero, List.set_cons_succ]
    ((refine rt_nx [] (v := ?_) rfl (by kernel_rfl) (fun _ _ _ h => h) rfl ?_ ?_; rotate_left; focus (intro W hW; (try dsimp only at hW); go_split_ands; go_simp; (try (simp (disch := omega) only [IntWalk.i64_in]; (try go_simp))); (try (split; (next => omega); (try go_simp))); try rfl; done)); try simp only [Act.put, List.setIfInBounds_toArray, List.set_cons_zero, List.set_cons_succ, Nat.reduceAdd])
    refine rt_kx (fun W => W.cell? ⟨q1, 0, none⟩ = some (.int .i64 t) ∧ W.cell? ⟨q1, 1, none⟩ = some (.slice Aq q.length cq)) 8 (by kernel_rfl) (HS.out _ cd6) (fun _ h => h) rfl (by rfl) (fun K hK => ?_)
    go_simp
    refine hK _ _ ?_
    clear hK K
    try simp only [Act.put, List.setIfInBounds_toArray, List.set_cons_zero, List.set_cons_succ]
    have o5 := alloc_obj w6 (.cells #[.int .i64 0, .slice none 0 0, .slice none 0 0] 68)
    have cd7 := cd6.alloc (.cells #[.int .i64 0, .slice none 0 0, .slice none 0 0] 68)
    have hq5 : w0.heap.size ≤ w6.heap.size := cd6.size
    generalize w6.alloc (.cells #[.int .i64 0, .slice none 0 0, .slice none 0 0] 68) = w7 at *
    generalize w6.heap.size = q5 at *
    clear cd6
    have z0 := cell_obj (i := 0) o5 rfl
    have z1 := cell_obj (i := 1) o5 rfl
    have z2 := cell_obj (i := 2) o5 rfl
    have f0 := free_obj (i := 0) o5
    have f1 := free_obj (i := 1) o5
    have f2 := free_obj (i := 2) o5
    refine rt_kx (fun W => W.cell? ⟨q1, 0, none⟩ = some (.int .i64 t) ∧ W.cell? ⟨q1, 1, none⟩ = some (.slice Aq q.length cq)) 9 (by kernel_rfl) (HS.out _ cd7) (fun _ h => h) rfl (by rfl) (fun K hK => ?_)
    go_simp
    refine hK _ _ ?_
    clear hK K
    try simp only [Act.put, List.setIfInBounds_toArray, List.set_cons_zero, List.set_cons_succ]
    refine rt_done (by kernel_rfl)  ?_
    obtain ⟨p5, hcs⟩ := set3 o5 (.int .i64 t) (.slice An q.length cn) (.slice none 0 0)
    have hsu := (hsn.keep (hcs.weak (fun i _ hi => .inr hi)))
    have hcu : Chg No w0 (((w7.setCell ⟨q5, 0, none⟩ (.int .i64 t)).setCell ⟨q5, 1, none⟩ (.slice An q.length cn)).setCell ⟨q5, 2, none⟩ (.slice none 0 0)) := cd7.old hcs (fun i h => by simp only [At] at h; omega)
    clear z0 z1 z2 f0 f1 f2 o5 cd7 hcs hsn
    generalize (((w7.setCell ⟨q5, 0, none⟩ (.int .i64 t)).setCell ⟨q5, 1, none⟩ (.slice An q.length cn)).setCell ⟨q5, 2, none⟩ (.slice none 0 0)) = u at p5 hcu hsu ⊢
  all_goals
    clear cd HS
    have hc0u := hc0.trans hcu
    have hq1l := lt_of_heap o1
    have hq2l := lt_of_heap o2
    have hne1 : q5 ≠ q1 := by omega
    have hne2 : q5 ≠ q2 := by omega
    replace o1 := hcu.obj o1 (not_no _)
    replace o2 := hcu.obj o2 (not_no _)
    have b2 := cell_obj (i := 2) o1 rfl
    have hw0 := hc0.size
    have hq5l := lt_of_heap p5
    have Hsu := Lib.hid hsu
    clear hsu hcu hq1l
    go_wp2_with (with_reducible first | refine stop_append ?_ | refine stop_copy ?_ | refine stop_make ?_ | refine stop_lookup ?_ | refine stop_update ?_ | refine stop_slice ?_ | refine stop_range ?_ | refine stop_next ?_ | refine stop_convert ⟨_, rfl⟩ ?_ | refine stop_convertB ⟨_, _, _, rfl⟩ ?_ | refine stop_eqSlice ⟨_, _, rfl⟩ ?_)
    go_loopw [18] (fun v18 wr => ∃ (k : Nat) (v3 : Value), k ≤ s.length ∧ v18 = .int .i64 k ∧ Chg (At q5) u wr ∧ wr.heap[q5]? = some (.cells #[.int .i64 t, .slice An q.length cn, v3] 68 (0, 0)) ∧ Cb.Own (Or (Lt w0.heap.size) (At q5)) wr u.heap.size 46 v3 (s.take k)) (fun v18 _ => s.length - (intOf v18).toNat)
    case atStart => exact ⟨0, .slice none 0 0, by omega, rfl, Chg.refl _ _, p5, Cb.Own.nil _ _ _ _⟩
    case round =>
      clear p5 b2
      obtain ⟨k, v3, hk, rfl, hcr, p5, hown⟩ := hrel
      have hcw : Chg No w wr := hc0u.old hcr (fun i h => by simp only [At] at h; omega)
      by_cases hlt2 : k < s.length
      · obtain ⟨b, ob, vx, rfl, _, hbl, hx0, hux⟩ := rowT_get (Hs.out wr hcw) k hlt2
        have htk := List.take_succ_eq_append_getElem hlt2
        have hxl := Hbs.out _ (List.getElem_mem hlt2)
        have hlen : (s.take k).length = k := by simp; omega
        generalize s[k] = x at *
        generalize s.take k = acc at *
        obtain ⟨Ax, cx, rfl⟩ := hux.slice
        obtain ⟨A3, c3, rfl⟩ := hown.slice
        have Hcl := Lib.hid (fun W (hW : Chg No wr W) => vclone_any _ _ x W (hux.keepNo hW) hxl)
        have Hown := Lib.hid hown
        have Htk := Lib.hid htk
        have Hlen := Lib.hid hlen
        clear hown htk hlen hux
        go_wp2_with (with_reducible first | refine stop_append ?_ | refine stop_copy ?_ | refine stop_make ?_ | refine stop_lookup ?_ | refine stop_update ?_ | refine stop_slice ?_ | refine stop_range ?_ | refine stop_next ?_ | refine stop_convert ⟨_, rfl⟩ ?_ | refine stop_convertB ⟨_, _, _, rfl⟩ ?_ | refine stop_eqSlice ⟨_, _, rfl⟩ ?_)
        have HS2 := Lib.hid (show ∀ W, Chg No wr W → (fun W => W.cell? ⟨q5, 2, none⟩ = some (.slice A3 acc.length c3)) W from fun W hW => cell_obj (hW.obj p5 (not_no _)) rfl)
        have cd := (Chg.refl No wr).drew
        refine rt_start (fun W => W.cell? ⟨q5, 2, none⟩ = some (.slice A3 acc.length c3)) (by kernel_rfl) ?_
        iterate 3 ((refine rt_nx [] (v := ?_) rfl (by kernel_rfl) (fun _ _ _ h => h) rfl ?_ ?_; rotate_left; focus (intro W hW; (try dsimp only at hW); go_split_ands; go_simp; (try (simp (disch := omega) only [IntWalk.i64_in]; (try go_simp))); (try (split; (next => omega); (try go_simp))); try rfl; done)); try simp only [Act.put, List.setIfInBounds_toArray, List.set_cons_zero, List.set_cons_succ, Nat.reduceAdd])
        refine rt_kx (fun W => W.cell? ⟨q5, 2, none⟩ = some (.slice A3 acc.length c3)) 3 (by kernel_rfl) (HS2.out _ cd) (fun _ h => h) rfl (by rfl) (fun K hK => ?_)
        go_simp
        refine (Hcl.out _ cd).mono ?_
        rintro e w3 ⟨vn, rfl, hc3, hsn⟩
        obtain ⟨Am, cm, rfl⟩ := hsn.slice
        have cd3 := cd.trans hc3
        refine hK _ _ ?_
        clear hK K
        try simp only [Act.put, List.setIfInBounds_toArray, List.set_cons_zero, List.set_cons_succ]
        refine rt_kx (fun W => W.cell? ⟨q5, 2, none⟩ = some (.slice A3 acc.length c3)) 4 (by kernel_rfl) (HS2.out _ cd3) (fun _ h => h) rfl (by rfl) (fun K hK => ?_)
        go_simp
        refine hK _ _ ?_
        clear hK K
        try simp only [Act.put, List.setIfInBounds_toArray, List.set_cons_zero, List.set_cons_succ]
        have hcu0 := hcr.size
        have hwr0 := hcw.size
        have hwu0 := hc0u.size
        have hobl : ∀ i, OB (.slice A3 acc.length c3) i → u.heap.size ≤ i ∧ i < wr.heap.size := fun i hi => Hown.out.lt i hi
        have hdr : wr.drew.heap.size = wr.heap.size := rfl
        have hlit : Sl (Or (Or (Lt w0.heap.size) (At q5)) (OB (.slice A3 acc.length c3))) (w3.alloc (.cells #[.slice Am x.length cm] 46)) (.slice (some ⟨w3.heap.size, 0, none⟩) 1 1) [x] :=
          Sl.lit1 rfl ⟨_, rfl, hsn.weak (fun b _ hb => by
            simp only [Lt]
            rcases hb with (hb | hb) | hb
            · simp only [Lt] at hb; omega
            · simp only [At] at hb; omega
            · have := hobl _ hb; omega)⟩ (fun hb => by
            have := cd3.size
            rcases hb with (hb | hb) | hb
            · simp only [Lt] at hb; omega
            · simp only [At] at hb; omega
            · have := hobl _ hb; omega)
        have cd4 := cd3.alloc (.cells #[.slice Am x.length cm] 46)
        refine rt_append_sl (α := List Int) (F := Or (Lt w0.heap.size) (At q5)) (G := Or (Or (Lt w0.heap.size) (At q5)) (OB (.slice A3 acc.length c3))) (fun W => W.cell? ⟨q5, 2, none⟩ = some (.slice A3 acc.length c3)) (i := 5) (by kernel_rfl) (HS2.out _ cd4) (fun _ h => h) rfl rfl Try.underlying61 vinfo_ints rfl (Hown.out.keep cd4 (fun _ _ f => f.elim) (fun _ _ f => f)) rfl rfl hlit (fun i _ hi => hi) (by have := Hlen.out; simp; omega) (by have := Hlen.out; simp; omega) (by have := cd4.size; omega) ?_
        intro v6 w6 hown6 hg6
        rw [← Htk.out] at hown6
        obtain ⟨A6, c6, e6⟩ := hown6.slice
        rw [show (s.take (k + 1)).length = k + 1 by simp; omega] at e6
        subst e6
        have ho6 := hg6.chg.obj (cd4.obj p5 (not_no _)) (fun h => by have := hobl _ h; omega)
        have hcr6 : Chg (At q5) u w6 := (hcr.trans cd4.of_no).grew hg6 (fun i hi => .inr (hobl i hi).1)
        have z2 := cell_obj (i := 2) ho6 rfl
        have f2 := free_obj (i := 2) ho6
        have Hown6 := Lib.hid hown6
        clear hown6 hlit hg6
        try simp only [Act.put, List.setIfInBounds_toArray, List.set_cons_zero, List.set_cons_succ, Nat.reduceAdd]
        ((refine rt_nx [] (v := ?_) rfl (by kernel_rfl) (fun _ _ _ h => h) rfl ?_ ?_; rotate_left; focus (intro W hW; (try dsimp only at hW); go_split_ands; go_simp; (try (simp (disch := omega) only [IntWalk.i64_in]; (try go_simp))); (try (split; (next => omega); (try go_simp))); try rfl; done)); try simp only [Act.put, List.setIfInBounds_toArray, List.set_cons_zero, List.set_cons_succ, Nat.reduceAdd])
        refine rt_kx (fun W => W.cell? ⟨q5, 2, none⟩ = some (.slice A3 acc.length c3)) 7 (by kernel_rfl) z2 (fun _ h => h) rfl (by rfl) (fun K hK => ?_)
        go_simp
        refine hK _ _ ?_
        clear hK K
        try simp only [Act.put, List.setIfInBounds_toArray, List.set_cons_zero, List.set_cons_succ]
        refine rt_done (by kernel_rfl)  ?_
        have ho7 := obj_set (i := 2) (u := .slice A6 (k + 1) c6) ho6 rfl
        have hcr7 : Chg (At q5) u (w6.setCell ⟨q5, 2, none⟩ (.slice A6 (k + 1) c6)) := hcr6.setCell (p := ⟨q5, 2, none⟩) (.inl rfl) _
        have Hown7 := Lib.hid (Hown6.out.keep (chg_set (b := q5) (i := 2) (.slice A6 (k + 1) c6)) (fun b _ hb => .inr hb) (fun i hi h => by have := (Hown6.out.lt i hi).1; simp only [At] at h; omega))
        clear z2 f2 ho6
        generalize w6.setCell ⟨q5, 2, none⟩ (.slice A6 (k + 1) c6) = w7 at *
        go_wp2_with (with_reducible first | refine stop_append ?_ | refine stop_copy ?_ | refine stop_make ?_ | refine stop_lookup ?_ | refine stop_update ?_ | refine stop_slice ?_ | refine stop_range ?_ | refine stop_next ?_ | refine stop_convert ⟨_, rfl⟩ ?_ | refine stop_convertB ⟨_, _, _, rfl⟩ ?_ | refine stop_eqSlice ⟨_, _, rfl⟩ ?_)
        go_roundw
        case rel => exact ⟨k + 1, _, by omega, by go_num, hcr7, ho7, Hown7.out⟩
        case measure => simp [intOf]; omega
      · obtain rfl : k = s.length := by omega
        rw [List.take_length] at hown
        obtain ⟨A3, c3, rfl⟩ := hown.slice
        have hcu0 := hcr.size
        have Hvs := Lib.hid (hown.sl (fun i hi h => by
          have := (hown.lt i hi).1
          have := hc0u.size
          rcases h with h | h
          · simp only [Lt] at h; omega
          · simp only [At] at h; omega))
        have Hvq := Lib.hid (Hsu.out.keep (hcr.weak (fun i _ hi => .inr hi)))
        clear hown
        have o1r := hcr.obj o1 (fun h => hne1 h.symm)
        have o2r := hcr.obj o2 (fun h => hne2 h.symm)
        clear o1 o2
        go_wp2_with (with_reducible first | refine stop_append ?_ | refine stop_copy ?_ | refine stop_make ?_ | refine stop_lookup ?_ | refine stop_update ?_ | refine stop_slice ?_ | refine stop_range ?_ | refine stop_next ?_ | refine stop_convert ⟨_, rfl⟩ ?_ | refine stop_convertB ⟨_, _, _, rfl⟩ ?_ | refine stop_eqSlice ⟨_, _, rfl⟩ ?_)
        have HS3 := Lib.hid (show ∀ W, Chg No wr W → (fun W => W.cell? ⟨q5, 0, none⟩ = some (.int .i64 t) ∧ W.cell? ⟨q5, 1, none⟩ = some (.slice An q.length cn) ∧ W.cell? ⟨q5, 2, none⟩ = some (.slice A3 s.length c3) ∧ W.cell? ⟨q1, 3, none⟩ = some (.slice At0 l.length ct) ∧ W.cell? ⟨q1, 4, none⟩ = some (.bool o)) W from fun W hW => ⟨cell_obj (hW.obj p5 (not_no _)) rfl, cell_obj (hW.obj p5 (not_no _)) rfl, cell_obj (hW.obj p5 (not_no _)) rfl, cell_obj (hW.obj o1r (not_no _)) rfl, cell_obj (hW.obj o1r (not_no _)) rfl⟩)
        have cd := (Chg.refl No wr).drew
        refine rt_start (fun W => W.cell? ⟨q5, 0, none⟩ = some (.int .i64 t) ∧ W.cell? ⟨q5, 1, none⟩ = some (.slice An q.length cn) ∧ W.cell? ⟨q5, 2, none⟩ = some (.slice A3 s.length c3) ∧ W.cell? ⟨q1, 3, none⟩ = some (.slice At0 l.length ct) ∧ W.cell? ⟨q1, 4, none⟩ = some (.bool o)) (by kernel_rfl) ?_
        iterate 5 ((refine rt_nx [] (v := ?_) rfl (by kernel_rfl) (fun _ _ _ h => h) rfl ?_ ?_; rotate_left; focus (intro W hW; (try dsimp only at hW); go_split_ands; go_simp; (try (simp (disch := omega) only [IntWalk.i64_in]; (try go_simp))); (try (split; (next => omega); (try go_simp))); try rfl; done)); try simp only [Act.put, List.setIfInBounds_toArray, List.set_cons_zero, List.set_cons_succ, Nat.reduceAdd])
        refine rt_kx (fun W => W.cell? ⟨q5, 0, none⟩ = some (.int .i64 t) ∧ W.cell? ⟨q5, 1, none⟩ = some (.slice An q.length cn) ∧ W.cell? ⟨q5, 2, none⟩ = some (.slice A3 s.length c3) ∧ W.cell? ⟨q1, 3, none⟩ = some (.slice At0 l.length ct) ∧ W.cell? ⟨q1, 4, none⟩ = some (.bool o)) 3 (by kernel_rfl) (HS3.out _ cd) (fun _ h => h) rfl (by rfl) (fun K hK => ?_)
        go_simp
        refine (Ht.out _ (hcw.trans cd)).mono ?_
        rintro e w3 ⟨vn, rfl, hc3, hsn⟩
        obtain ⟨Al, cl, rfl⟩ := hsn.slice
        have cd3 := cd.trans hc3
        have o23 := cd3.obj o2r (not_no _)
        have hs3 := HS3.out _ cd3
        have Hsn := Lib.hid hsn
        clear o2r hsn
        have z0 := cell_obj (i := 0) o23 rfl
        have z1 := cell_obj (i := 1) o23 rfl
        have z2 := cell_obj (i := 2) o23 rfl
        have z3 := cell_obj (i := 3) o23 rfl
        have z4 := cell_obj (i := 4) o23 rfl
        have f0 := free_obj (i := 0) o23
        have f1 := free_obj (i := 1) o23
        have f2 := free_obj (i := 2) o23
        have f3 := free_obj (i := 3) o23
        have f4 := free_obj (i := 4) o23
        refine hK _ _ ?_
        clear hK K
        try simp only [Act.put, List.setIfInBounds_toArray, List.set_cons_zero, List.set_cons_succ]
        ((refine rt_nx [] (v := ?_) rfl (by kernel_rfl) (fun _ _ _ h => h) rfl ?_ ?_; rotate_left; focus (intro W hW; (try dsimp only at hW); go_split_ands; go_simp; (try (simp (disch := omega) only [IntWalk.i64_in]; (try go_simp))); (try (split; (next => omega); (try go_simp))); try rfl; done)); try simp only [Act.put, List.setIfInBounds_toArray, List.set_cons_zero, List.set_cons_succ, Nat.reduceAdd])
        refine rt_kx (fun W => W.cell? ⟨q5, 0, none⟩ = some (.int .i64 t) ∧ W.cell? ⟨q5, 1, none⟩ = some (.slice An q.length cn) ∧ W.cell? ⟨q5, 2, none⟩ = some (.slice A3 s.length c3) ∧ W.cell? ⟨q1, 3, none⟩ = some (.slice At0 l.length ct) ∧ W.cell? ⟨q1, 4, none⟩ = some (.bool o)) 7 (by kernel_rfl) hs3 (fun _ h => h) rfl (by rfl) (fun K hK => ?_)
        go_simp
        refine hK _ _ ?_
        clear hK K
        try simp only [Act.put, List.setIfInBounds_toArray, List.set_cons_zero, List.set_cons_succ]
        refine rt_done (by kernel_rfl)  ?_
        obtain ⟨o9, hc9⟩ := set5 o23 (.int .i64 t) (.slice An q.length cn) (.slice A3 s.length c3) (.slice Al l.length cl) (.bool o)
        clear z0 z1 z2 z3 z4 f0 f1 f2 f3 f4 hs3 o23
        generalize ((((w3.setCell ⟨q2, 0, none⟩ (.int .i64 t)).setCell ⟨q2, 1, none⟩ (.slice An q.length cn)).setCell ⟨q2, 2, none⟩ (.slice A3 s.length c3)).setCell ⟨q2, 3, none⟩ (.slice Al l.length cl)).setCell ⟨q2, 4, none⟩ (.bool o) = w9 at *
        have z0 := cell_obj (i := 0) o9 rfl
        have z1 := cell_obj (i := 1) o9 rfl
        have z2 := cell_obj (i := 2) o9 rfl
        have z3 := cell_obj (i := 3) o9 rfl
        have z4 := cell_obj (i := 4) o9 rfl
        have hq2w : w.heap.size ≤ q2 := by have := Hq2.out; omega
        have hcw9 : Chg No w w9 := (hcw.trans cd3).old hc9 (fun i h => by simp only [At] at h; omega)
        have hdr : wr.drew.heap.size = wr.heap.size := rfl
        have hcwz := hcw.size
        have hwu0 := hc0u.size
        have Hvq9 := Lib.hid (((Hvq.out.keepNo cd3).keep (hc9.weak (fun i _ hi => .inl (by simp only [At] at hi; simp only [Lt]; omega)))).weak (G := Lt w.heap.size) (fun i _ hi => .inl (by simp only [Lt] at *; omega)))
        have Hvs9 := Lib.hid (((Hvs.out.keepNo cd3).keep (hc9.weak (fun i _ hi => .inl (by simp only [At] at hi; simp only [Lt]; omega)))).weak (G := Lt w.heap.size) (fun i _ hi => .inl (by simp only [Lt] at *; omega)))
        have Hvt9 := Lib.hid (((Hsn.out).keep (hc9.weak (fun i _ hi => by simp only [At] at hi; simp only [Lt]; omega))).weak (G := Lt w.heap.size) (fun i _ hi => by simp only [Lt] at *; omega))
        go_wp2_with (with_reducible first | refine stop_append ?_ | refine stop_copy ?_ | refine stop_make ?_ | refine stop_lookup ?_ | refine stop_update ?_ | refine stop_slice ?_ | refine stop_range ?_ | refine stop_next ?_ | refine stop_convert ⟨_, rfl⟩ ?_ | refine stop_convertB ⟨_, _, _, rfl⟩ ?_ | refine stop_eqSlice ⟨_, _, rfl⟩ ?_)
        refine bodyPost_ret (v := .agg #[.int .i64 t, .slice An q.length cn, .slice A3 s.length c3, .slice Al l.length cl, .bool o]) (by simp [results, Try.results67, go_sem, *]) rfl ?_
        exact ⟨_, _, _, rfl, hcw9, Hvq9.out, Hvs9.out, Hvt9.out⟩
end Go.Proofs.Ytbjpoamnglfjeaa


/- Walks of package register: what a register is in memory; New, First. -/
set_option linter.unusedVariables false
set_option linter.unusedSimpArgs false
namespace Go.Proofs.Ytbjpoamnglfjeaa
open Go.RowKit Cb

/-- A term's row: term, sequencers, shards, tail, over. -/
abbrev Rw := Int × List Int × List (List Int) × List Ent × Bool
def rwC (r : Rw) (vq vs vt : Value) : List Value := [.int .i64 r.1, vq, vs, vt, .bool r.2.2.2.2]
theorem rw_cs {F : Nat → Prop} {w : World} {r : Rw} {d : List Value} (h : Rep.cs F w r d) : ∃ vq vs vt, d = rwC r vq vs vt ∧ Sl F w vq r.2.1 ∧ Sl F w vs r.2.2.1 ∧ Sl F w vt r.2.2.2.1 := by
  obtain ⟨d1, d2, rfl, rfl, ⟨d3, d4, rfl, ⟨vq, rfl, hq⟩, ⟨d5, d6, rfl, ⟨vs, rfl, hs⟩, ⟨d7, d8, rfl, ⟨vt, rfl, ht⟩, rfl⟩⟩⟩⟩ := h
  exact ⟨vq, vs, vt, rfl, hq, hs, ht⟩
theorem rw_mk {F : Nat → Prop} {w : World} (r : Rw) {vq vs vt : Value} (hq : Sl F w vq r.2.1) (hs : Sl F w vs r.2.2.1) (ht : Sl F w vt r.2.2.2.1) : Rep.cs F w r (rwC r vq vs vt) :=
  ⟨[_], _, rfl, rfl, [_], _, rfl, ⟨_, rfl, hq⟩, [_], _, rfl, ⟨_, rfl, hs⟩, [_], [_], rfl, ⟨_, rfl, ht⟩, rfl⟩
theorem rw_n : Rep.n Rw = 5 := rfl
theorem own_lit1 {α : Type} [Rep α] {F : Nat → Prop} {w : World} {T : TypeId} {y : α} {d : List Value} {C : Array Value} (hC : C = d.toArray)
    (hd : Rep.cs (Or F (OB (.slice (some ⟨w.heap.size, 0, none⟩) 1 1))) (w.alloc (.cells C T)) y d) : Cb.Own F (w.alloc (.cells C T)) w.heap.size T (.slice (some ⟨w.heap.size, 0, none⟩) 1 1) [y] := by
  have hl := Rep.len hd
  refine ⟨[d], rfl, fun i h h' => ?_, by simp [hl], .inr ⟨_, 1, C, rfl, Nat.le_refl _, alloc_obj _ _, by simp, by simp [maxLen], by simp [hC, hl], by simp [hC, ← hl]⟩⟩
  simp only [List.length_singleton, Nat.lt_one_iff] at h
  subst h
  exact hd
theorem own_base {α : Type} [Rep α] {F : Nat → Prop} {w : World} {base base' : Nat} {T : TypeId} {v : Value} {xs : List α} (h : Cb.Own F w base T v xs) (hb : base' ≤ base) : Cb.Own F w base' T v xs := by
  obtain ⟨ds, hl, hd, ho1, ho2⟩ := h
  exact ⟨ds, hl, hd, ho1, ho2.imp id (fun ⟨g, cap, cur, a, b, c⟩ => ⟨g, cap, cur, a, Nat.le_trans hb b, c⟩)⟩
def RegS (w : World) (B p : Nat) (rows : List Rw) : Prop :=
  ∃ v, w.heap[p]? = some (.cells #[v] 137 (0, 0)) ∧ B ≤ p ∧ Cb.Own (Or (Lt B) (At p)) w B 88 v rows ∧ ∀ k, v.ownBlock = some k → k ≠ p
theorem RegS.lt {w : World} {B p : Nat} {rows : List Rw} (h : RegS w B p rows) : p < w.heap.size := by
  obtain ⟨v, h1, _⟩ := h; exact lt_of_heap h1
theorem RegS.keep {w w' : World} {B p : Nat} {rows : List Rw} {G : Nat → Prop} (h : RegS w B p rows) (hc : Chg G w w') (hG : ∀ k, k < w.heap.size → G k → k < B) : RegS w' B p rows := by
  obtain ⟨v, h1, h2, h3, h4⟩ := h
  exact ⟨v, hc.obj h1 (fun g => by have := hG p (lt_of_heap h1) g; omega), h2, h3.keep hc (fun b hb g => .inl (by simp only [Lt]; exact hG b hb g)) (fun k hk g => by have := h3.lt k hk; have := hG k (by omega) g; omega), h4⟩
theorem RegS.keepNo {w w' : World} {B p : Nat} {rows : List Rw} (h : RegS w B p rows) (hc : Chg No w w') : RegS w' B p rows := h.keep hc (fun _ _ f => f.elim)
set_option maxRecDepth 100000 in
set_option maxHeartbeats 1000000 in
theorem new_no (F G : Nat → Prop) (t : Int) (vq vs : Value) (q : List Int) (s : List (List Int)) (w : World) (hq : Sl F w vq q) (hs : Sl G w vs s) (hlq : q.length * 8 ≤ 140737488351232) (hls : s.length ≤ 17592186044416) (hb : ∀ x ∈ s, x.length * 8 ≤ 140737488351232)
    (hr : rightC t q s = false) : Calls Try.prog 30 #[cfgV t vq vs] w fun e w' => e = .returned (.tuple #[.pointer none, .int .i64 1]) ∧ Chg No w w' := by
  have Hr := Lib.hid (fun W (hW : Chg No w W) => tright_any F G t vq vs q s W (hq.keepNo hW) (hs.keepNo hW) hlq hls hb)
  rw [hr] at Hr
  clear hr
  obtain ⟨Aq, cq, rfl⟩ := hq.slice
  obtain ⟨As, cs, rfl⟩ := hs.slice
  clear hq hs hb
  unfold cfgV at *
  have o1 := alloc_obj w (.cells #[.int .i64 t, .slice Aq q.length cq, .slice As s.length cs] 68)
  have hc0 := (Chg.refl No w).alloc (.cells #[.int .i64 t, .slice Aq q.length cq, .slice As s.length cs] 68)
  have a0 := cell_obj (i := 0) o1 rfl
  have a1 := cell_obj (i := 1) o1 rfl
  have a2 := cell_obj (i := 2) o1 rfl
  go_enter Try.func30, Try.ntmps30
  go_wp2_with (with_reducible first | refine stop_append ?_ | refine stop_copy ?_ | refine stop_make ?_ | refine stop_lookup ?_ | refine stop_update ?_ | refine stop_slice ?_ | refine stop_range ?_ | refine stop_next ?_ | refine stop_convert ⟨_, rfl⟩ ?_ | refine stop_convertB ⟨_, _, _, rfl⟩ ?_ | refine stop_eqSlice ⟨_, _, rfl⟩ ?_)
  refine (Hr.out _ hc0).mono ?_
  rintro e w1 ⟨rfl, hc1⟩
  go_wp2_with (with_reducible first | refine stop_append ?_ | refine stop_copy ?_ | refine stop_make ?_ | refine stop_lookup ?_ | refine stop_update ?_ | refine stop_slice ?_ | refine stop_range ?_ | refine stop_next ?_ | refine stop_convert ⟨_, rfl⟩ ?_ | refine stop_convertB ⟨_, _, _, rfl⟩ ?_ | refine stop_eqSlice ⟨_, _, rfl⟩ ?_)
  go_ret2
  exact ⟨rfl, hc0.trans hc1⟩
set_option maxRecDepth 100000 in
set_option maxHeartbeats 1000000 in
theorem new_yes (t : Int) (vq vs : Value) (q : List Int) (s : List (List Int)) (w : World) (hq : Sl No w vq q) (hs : Sl No w vs s)
    (hr : rightC t q s = true) : Calls Try.prog 30 #[cfgV t vq vs] w fun e w' => ∃ p, e = .returned (.tuple #[.pointer (some ⟨p, 0, none⟩), .int .i64 0]) ∧ Chg No w w' ∧ RegS w' w.heap.size p [(t, q, s, [], false)] := by
  obtain ⟨_, ⟨_, h7⟩, ⟨_, h8⟩, _, hall⟩ := rightC_iff.1 hr
  have h3 : ∀ x ∈ s, x.length ≤ 3 := fun x hx => by
    have := hall x hx
    simp only [shardB, Bool.and_eq_true, decide_eq_true_eq] at this
    exact this.1.2
  have Hr := Lib.hid (fun W (hW : Chg No w W) => tright_any No No t vq vs q s W (hq.keepNo hW) (hs.keepNo hW) (by omega) (by omega) (fun x hx => by have := h3 x hx; omega))
  rw [hr] at Hr
  have Ho := Lib.hid (fun W (hW : Chg No w W) => own_any t vq vs (.slice none 0 0) false q s [] W (hq.keepNo hW) (hs.keepNo hW) (Sl.nil _ _ _ _) (by omega) (by omega) (fun x hx => by have := h3 x hx; omega) (by simp) (fun _ h => by cases h))
  unfold rowV at Ho
  clear hr hall h3
  obtain ⟨Aq, cq, rfl⟩ := hq.slice
  obtain ⟨As, cs, rfl⟩ := hs.slice
  clear hq hs
  unfold cfgV at *
  have o1 := alloc_obj w (.cells #[.int .i64 t, .slice Aq q.length cq, .slice As s.length cs] 68)
  have hc0 := (Chg.refl No w).alloc (.cells #[.int .i64 t, .slice Aq q.length cq, .slice As s.length cs] 68)
  have a0 := cell_obj (i := 0) o1 rfl
  have a1 := cell_obj (i := 1) o1 rfl
  have a2 := cell_obj (i := 2) o1 rfl
  go_enter Try.func30, Try.ntmps30
  go_wp2_with (with_reducible first | refine stop_append ?_ | refine stop_copy ?_ | refine stop_make ?_ | refine stop_lookup ?_ | refine stop_update ?_ | refine stop_slice ?_ | refine stop_range ?_ | refine stop_next ?_ | refine stop_convert ⟨_, rfl⟩ ?_ | refine stop_convertB ⟨_, _, _, rfl⟩ ?_ | refine stop_eqSlice ⟨_, _, rfl⟩ ?_)
  generalize w.alloc (.cells #[.int .i64 t, .slice Aq q.length cq, .slice As s.length cs] 68) = w0 at *
  refine (Hr.out _ hc0).mono ?_
  rintro e w1 ⟨rfl, hc1⟩
  replace a0 := hc1.cell a0 (not_no _)
  replace a1 := hc1.cell a1 (not_no _)
  replace a2 := hc1.cell a2 (not_no _)
  have hcw1 := hc0.trans hc1
  clear o1
  go_wp2_with (with_reducible first | refine stop_append ?_ | refine stop_copy ?_ | refine stop_make ?_ | refine stop_lookup ?_ | refine stop_update ?_ | refine stop_slice ?_ | refine stop_range ?_ | refine stop_next ?_ | refine stop_convert ⟨_, rfl⟩ ?_ | refine stop_convertB ⟨_, _, _, rfl⟩ ?_ | refine stop_eqSlice ⟨_, _, rfl⟩ ?_)
  refine (Ho.out _ hcw1).mono ?_
  rintro e w2 ⟨vq', vs', vt', rfl, hc2, hq2, hs2, ht2⟩
  obtain ⟨Bq, dq, rfl⟩ := hq2.slice
  obtain ⟨Bs, ds, rfl⟩ := hs2.slice
  obtain ⟨Bt, dt, rfl⟩ := ht2.slice
  have hw1 := hcw1.size
  have hw2 := hc2.size
  have hwk : ∀ b, b < w2.heap.size → Or (Or (Lt w.heap.size) (At (w2.heap.size + 1))) (OB (.slice (some ⟨w2.heap.size, 0, none⟩) 1 1)) b → b < w1.heap.size := fun b hb h => by
    rcases h with (h | h) | h
    · simp only [Lt] at h; omega
    · simp only [At] at h; omega
    · simp only [OB, Value.ownBlock, Option.some.injEq] at h; omega
  have hca := (Chg.refl No w2).alloc (.cells #[.int .i64 t, .slice Bq q.length dq, .slice Bs s.length ds, .slice Bt ([] : List Ent).length dt, .bool false] 88)
  have hown := own_lit1 (F := Or (Lt w.heap.size) (At (w2.heap.size + 1))) (T := 88) (w := w2) (y := ((t, q, s, [], false) : Rw)) (d := rwC (t, q, s, [], false) (.slice Bq q.length dq) (.slice Bs s.length ds) (.slice Bt ([] : List Ent).length dt)) rfl
    (rw_mk (t, q, s, [], false) ((hq2.weak hwk).keepNo hca) ((hs2.weak hwk).keepNo hca) ((ht2.weak hwk).keepNo hca))
  simp only [rwC, List.length_nil] at hown
  simp only [List.length_nil] at hca ⊢
  have Hown := Lib.hid (own_base hown (base' := w.heap.size) (by omega))
  have hcw2 := hcw1.trans hc2
  clear hown hwk hq2 hs2 ht2 a0 a1 a2
  have he : (w2.alloc (.cells #[.int .i64 t, .slice Bq q.length dq, .slice Bs s.length ds, .slice Bt 0 dt, .bool false] 88)).heap.size = w2.heap.size + 1 := by simp
  have hob := alloc_obj (w2.alloc (.cells #[.int .i64 t, .slice Bq q.length dq, .slice Bs s.length ds, .slice Bt 0 dt, .bool false] 88)) (.cells #[.slice (some ⟨w2.heap.size, 0, none⟩) 1 1] 137)
  rw [he] at hob
  have hcb := (Chg.refl No (w2.alloc (.cells #[.int .i64 t, .slice Bq q.length dq, .slice Bs s.length ds, .slice Bt 0 dt, .bool false] 88))).alloc (.cells #[.slice (some ⟨w2.heap.size, 0, none⟩) 1 1] 137)
  have Hob := Lib.hid hob
  have Hcb := Lib.hid hcb
  have Hca := Lib.hid hca
  clear hob hcb hca he
  go_wp2_with (with_reducible first | refine stop_append ?_ | refine stop_copy ?_ | refine stop_make ?_ | refine stop_lookup ?_ | refine stop_update ?_ | refine stop_slice ?_ | refine stop_range ?_ | refine stop_next ?_ | refine stop_convert ⟨_, rfl⟩ ?_ | refine stop_convertB ⟨_, _, _, rfl⟩ ?_ | refine stop_eqSlice ⟨_, _, rfl⟩ ?_)
  go_ret2
  exact ⟨w2.heap.size + 1, rfl, (hcw2.trans Hca.out).trans Hcb.out, _, Hob.out, by omega, Hown.out.keep Hcb.out (fun _ _ f => f.elim) (fun _ _ f => f), fun k hk => by simp only [Value.ownBlock, Option.some.injEq] at hk; omega⟩
end Go.Proofs.Ytbjpoamnglfjeaa


/- Walks of package register: First, Current, at. -/
set_option linter.unusedVariables false
set_option linter.unusedSimpArgs false
namespace Go.Proofs.Ytbjpoamnglfjeaa
open Go.RowKit Cb

theorem rg_row {w : World} {B p : Nat} {rows : List Rw} (h : RegS w B p rows) (h0 : 0 < rows.length) :
    ∃ g c, w.cell? ⟨p, 0, none⟩ = some (.slice (some ⟨g, 0, none⟩) rows.length c) ∧ g ≠ p ∧ B ≤ g ∧ g < w.heap.size := by
  obtain ⟨v, h1, h2, h3, h4⟩ := h
  have hlt := h3.lt
  obtain ⟨ds, hl, hd, ho1, ho2⟩ := h3
  rcases ho2 with ⟨rfl, hn⟩ | ⟨g, cap, cur, rfl, hb, hg, _⟩
  · omega
  · exact ⟨g, cap, cell_obj h1 rfl, h4 g rfl, hb, lt_of_heap hg⟩
theorem rg_get {w : World} {B p : Nat} {rows : List Rw} (h : RegS w B p rows) {g n c : Nat} (hc : w.cell? ⟨p, 0, none⟩ = some (.slice (some ⟨g, 0, none⟩) n c)) (i : Nat) (hi : i < rows.length) :
    ∃ vq vs vt, w.cell? ⟨g, i * 5, none⟩ = some (.int .i64 rows[i].1) ∧ w.cell? ⟨g, i * 5 + 1, none⟩ = some vq ∧ w.cell? ⟨g, i * 5 + 2, none⟩ = some vs ∧ w.cell? ⟨g, i * 5 + 3, none⟩ = some vt ∧ w.cell? ⟨g, i * 5 + 4, none⟩ = some (.bool rows[i].2.2.2.2) ∧
      Sl (Lt B) w vq rows[i].2.1 ∧ Sl (Lt B) w vs rows[i].2.2.1 ∧ Sl (Lt B) w vt rows[i].2.2.2.1 := by
  obtain ⟨v, h1, h2, h3, h4⟩ := h
  have e := cell_obj (i := 0) h1 rfl
  rw [hc] at e
  obtain rfl := Option.some.inj e
  have hlt := h3.lt
  obtain ⟨b, o, d, e1, _, hb, hd, ha⟩ := (h3.sl (fun k hk hf => by
    have := hlt k hk
    rcases hf with hf | hf
    · simp only [Lt] at hf; omega
    · exact h4 k hk hf)).get i hi
  cases e1
  obtain ⟨vq, vs, vt, rfl, hq, hs, ht⟩ := rw_cs hd
  have k0 := ha 0 _ rfl; have k1 := ha 1 _ rfl; have k2 := ha 2 _ rfl; have k3 := ha 3 _ rfl; have k4 := ha 4 _ rfl
  simp only [rw_n, Nat.zero_add, Nat.add_zero] at k0 k1 k2 k3 k4
  exact ⟨vq, vs, vt, k0, k1, k2, k3, k4, hq.weak (fun _ _ f => .inl f), hs.weak (fun _ _ f => .inl f), ht.weak (fun _ _ f => .inl f)⟩
def TailB (l : List Ent) : Prop := l.length ≤ 2199023255488 ∧ ∀ e ∈ l, e.2.2.1.length ≤ 1000000
/-- What a tail that is handed in may be. -/
def TailI (l : List Ent) : Prop := l.length ≤ 2199023255488 ∧ ∀ e ∈ l, e.2.2.1.length ≤ 17592186043904
/-- The terms follow one another. -/
def RowsI (rows : List Rw) : Prop := 0 < rows.length ∧ rows.length ≤ 64 ∧ ∀ i (h : i < rows.length), rows[i].1 = (rows.headD (0, [], [], [], false)).1 + i ∧ rightC rows[i].1 rows[i].2.1 rows[i].2.2.1 = true ∧ TailB rows[i].2.2.2.1
def firstR (rows : List Rw) : Int := (rows.headD (0, [], [], [], false)).1
theorem first_get {rows : List Rw} (h : RowsI rows) (i : Nat) (hi : i < rows.length) : rows[i].1 = firstR rows + i := (h.2.2 i hi).1
theorem first_bound {rows : List Rw} (h : RowsI rows) : 1 ≤ firstR rows ∧ firstR rows + (rows.length - 1 : Nat) ≤ 64 := by
  have hn : 0 < rows.length := h.1
  have hn2 : rows.length - 1 < rows.length := by omega
  have r1 := (rightC_iff.1 (h.2.2 0 hn).2.1).1
  have r2 := (rightC_iff.1 (h.2.2 (rows.length - 1) hn2).2.1).1
  rw [first_get h 0 hn] at r1
  rw [first_get h _ hn2] at r2
  simp only [Int.natCast_zero, Int.add_zero] at r1
  omega
set_option maxRecDepth 100000 in
set_option maxHeartbeats 1000000 in
theorem rfirst_any (B p : Nat) (rows : List Rw) (w : World) (h : RegS w B p rows) (hi : RowsI rows) :
    Calls Try.prog 35 #[.pointer (some ⟨p, 0, none⟩)] w fun e w' => e = .returned (.int .i64 (firstR rows)) ∧ Chg No w w' := by
  obtain ⟨g, c, hc, -⟩ := rg_row h hi.1
  obtain ⟨vq, vs, vt, a0, -⟩ := rg_get h hc 0 hi.1
  rw [first_get hi 0 hi.1] at a0
  simp only [Nat.zero_mul, Int.natCast_zero, Int.add_zero] at a0
  have h0 := hi.1
  clear h hi
  generalize firstR rows = f at *
  go_enter Try.func35, Try.ntmps35
  go_wp2_with (with_reducible first | refine stop_append ?_ | refine stop_copy ?_ | refine stop_make ?_ | refine stop_lookup ?_ | refine stop_update ?_ | refine stop_slice ?_ | refine stop_range ?_ | refine stop_next ?_ | refine stop_convert ⟨_, rfl⟩ ?_ | refine stop_convertB ⟨_, _, _, rfl⟩ ?_ | refine stop_eqSlice ⟨_, _, rfl⟩ ?_)
  go_ret
  exact ⟨rfl, Chg.refl _ _⟩
set_option maxRecDepth 100000 in
set_option maxHeartbeats 1000000 in
theorem rcurrent_any (B p : Nat) (rows : List Rw) (w : World) (h : RegS w B p rows) (hi : RowsI rows) :
    Calls Try.prog 36 #[.pointer (some ⟨p, 0, none⟩)] w fun e w' => e = .returned (.int .i64 (firstR rows + (rows.length - 1 : Nat))) ∧ Chg No w w' := by
  obtain ⟨g, c, hc, -⟩ := rg_row h hi.1
  obtain ⟨vq, vs, vt, a0, -⟩ := rg_get h hc (rows.length - 1) (by have := hi.1; omega)
  rw [first_get hi (rows.length - 1) (by have := hi.1; omega)] at a0
  have h0 := hi.1
  have h64 := hi.2.1
  clear h hi
  generalize firstR rows = f at *
  obtain ⟨m, hm⟩ : ∃ m, m = rows.length - 1 := ⟨_, rfl⟩
  rw [← hm] at a0 ⊢
  generalize rows.length = n at *
  have hw : IntKind.i64.wrap ((n : Int) - 1) = (m : Int) := by rw [IntWalk.i64_in _ (by omega)]; omega
  have hw2 : (n : Int) - 1 = (m : Int) := by omega
  have hmn : m < n := by omega
  have hmn2 : (m : Int) < n := by omega
  clear hm h0
  go_enter Try.func36, Try.ntmps36
  go_wp2_with (with_reducible first | refine stop_append ?_ | refine stop_copy ?_ | refine stop_make ?_ | refine stop_lookup ?_ | refine stop_update ?_ | refine stop_slice ?_ | refine stop_range ?_ | refine stop_next ?_ | refine stop_convert ⟨_, rfl⟩ ?_ | refine stop_convertB ⟨_, _, _, rfl⟩ ?_ | refine stop_eqSlice ⟨_, _, rfl⟩ ?_)
  refine pl_start (fun W => W.cell? ⟨p, 0, none⟩ = some (.slice (some ⟨g, 0, none⟩) n c) ∧ W.cell? ⟨g, m * 5, none⟩ = some (.int .i64 (f + m)) ∧ Chg No w W) (by kernel_rfl) (by kernel_rfl) ⟨hc, a0, (Chg.refl No w).drew⟩ ?_
  iterate 15 ((refine pl_nx [] (v := ?_) rfl (by kernel_rfl) rfl ?_ ?_; rotate_left; focus (intro W hW; (try dsimp only at hW); go_split_ands; go_simp; (try (simp (disch := omega) only [IntWalk.i64_in]; (try go_simp))); (try (split; (next => omega); (try go_simp))); try rfl; done)); try simp only [Act.put, List.setIfInBounds_toArray, List.set_cons_zero, List.set_cons_succ, Nat.reduceAdd])
  refine pl_done (by kernel_rfl)  ?_
  rintro w2 ⟨_, _, hc2⟩
  go_wp2_with (with_reducible first | refine stop_append ?_ | refine stop_copy ?_ | refine stop_make ?_ | refine stop_lookup ?_ | refine stop_update ?_ | refine stop_slice ?_ | refine stop_range ?_ | refine stop_next ?_ | refine stop_convert ⟨_, rfl⟩ ?_ | refine stop_convertB ⟨_, _, _, rfl⟩ ?_ | refine stop_eqSlice ⟨_, _, rfl⟩ ?_)
  go_ret
  exact ⟨rfl, hc2⟩
set_option maxRecDepth 100000 in
set_option maxHeartbeats 1000000 in
theorem rat_yes (B p : Nat) (rows : List Rw) (w : World) (h : RegS w B p rows) (hi : RowsI rows) {g n c : Nat} (hc : w.cell? ⟨p, 0, none⟩ = some (.slice (some ⟨g, 0, none⟩) n c)) (hn : n = rows.length) (i : Nat) (hlt : i < rows.length) :
    Calls Try.prog 69 #[.pointer (some ⟨p, 0, none⟩), .int .i64 (firstR rows + i)] w fun e w' => e = .returned (.pointer (some ⟨g, i * 5, none⟩)) ∧ Chg No w w' := by
  subst hn
  have Hf := Lib.hid (fun W (hW : Chg No w W) => rfirst_any B p rows W (h.keepNo hW) hi)
  have Hcur := Lib.hid (fun W (hW : Chg No w W) => rcurrent_any B p rows W (h.keepNo hW) hi)
  obtain ⟨hb1, hb2⟩ := first_bound hi
  have h64 := hi.2.1
  clear h hi
  generalize firstR rows = f at *
  obtain ⟨t, ht⟩ : ∃ t, t = f + i := ⟨_, rfl⟩
  obtain ⟨l, hl⟩ : ∃ l, l = f + (rows.length - 1 : Nat) := ⟨_, rfl⟩
  rw [← hl] at Hcur
  rw [← ht]
  have k1 : ¬ t < f := by omega
  have k2 : ¬ l < t := by omega
  have hw : IntKind.i64.wrap (t - f) = (i : Int) := by rw [ht]; rw [IntWalk.i64_in _ (by omega)]; omega
  have hw2 : t - f = (i : Int) := by omega
  clear hb1 hb2 ht hl
  go_enter Try.func69, Try.ntmps69
  go_wp2_with (with_reducible first | refine stop_append ?_ | refine stop_copy ?_ | refine stop_make ?_ | refine stop_lookup ?_ | refine stop_update ?_ | refine stop_slice ?_ | refine stop_range ?_ | refine stop_next ?_ | refine stop_convert ⟨_, rfl⟩ ?_ | refine stop_convertB ⟨_, _, _, rfl⟩ ?_ | refine stop_eqSlice ⟨_, _, rfl⟩ ?_)
  refine (Hf.out _ (Chg.refl _ _)).mono ?_
  rintro e w1 ⟨rfl, hc1⟩
  go_wp2_with (with_reducible first | refine stop_append ?_ | refine stop_copy ?_ | refine stop_make ?_ | refine stop_lookup ?_ | refine stop_update ?_ | refine stop_slice ?_ | refine stop_range ?_ | refine stop_next ?_ | refine stop_convert ⟨_, rfl⟩ ?_ | refine stop_convertB ⟨_, _, _, rfl⟩ ?_ | refine stop_eqSlice ⟨_, _, rfl⟩ ?_)
  refine (Hcur.out _ hc1).mono ?_
  rintro e w2 ⟨rfl, hc2⟩
  have hcw := hc1.trans hc2
  go_wp2_with (with_reducible first | refine stop_append ?_ | refine stop_copy ?_ | refine stop_make ?_ | refine stop_lookup ?_ | refine stop_update ?_ | refine stop_slice ?_ | refine stop_range ?_ | refine stop_next ?_ | refine stop_convert ⟨_, rfl⟩ ?_ | refine stop_convertB ⟨_, _, _, rfl⟩ ?_ | refine stop_eqSlice ⟨_, _, rfl⟩ ?_)
  refine pl_start (fun W => W.cell? ⟨p, 0, none⟩ = some (.slice (some ⟨g, 0, none⟩) rows.length c) ∧ Chg No w W) (by kernel_rfl) (by kernel_rfl) ⟨hcw.cell hc (not_no _), hcw.drew⟩ ?_
  iterate 6 ((refine pl_nx [] (v := ?_) rfl (by kernel_rfl) rfl ?_ ?_; rotate_left; focus (intro W hW; (try dsimp only at hW); go_split_ands; go_simp; (try (simp (disch := omega) only [IntWalk.i64_in]; (try go_simp))); (try (split; (next => omega); (try go_simp))); try rfl; done)); try simp only [Act.put, List.setIfInBounds_toArray, List.set_cons_zero, List.set_cons_succ, Nat.reduceAdd])
  refine pl_callx 6 (.int .i64 f) rfl (by kernel_rfl) rfl (by exact (fun W hW => (Hf.out W hW.2).mono fun e w' h => ⟨h.1, h.2.cell hW.1 (not_no _), hW.2.trans h.2⟩)) (fun W => by kernel_rfl) ?_
  try simp only [Act.put, List.setIfInBounds_toArray, List.set_cons_zero, List.set_cons_succ, Nat.reduceAdd]
  iterate 3 ((refine pl_nx [] (v := ?_) rfl (by kernel_rfl) rfl ?_ ?_; rotate_left; focus (intro W hW; (try dsimp only at hW); go_split_ands; go_simp; (try (simp (disch := omega) only [IntWalk.i64_in]; (try go_simp))); (try (split; (next => omega); (try go_simp))); try rfl; done)); try simp only [Act.put, List.setIfInBounds_toArray, List.set_cons_zero, List.set_cons_succ, Nat.reduceAdd])
  refine pl_done (by kernel_rfl)  ?_
  rintro w4 ⟨_, hc4⟩
  go_wp2_with (with_reducible first | refine stop_append ?_ | refine stop_copy ?_ | refine stop_make ?_ | refine stop_lookup ?_ | refine stop_update ?_ | refine stop_slice ?_ | refine stop_range ?_ | refine stop_next ?_ | refine stop_convert ⟨_, rfl⟩ ?_ | refine stop_convertB ⟨_, _, _, rfl⟩ ?_ | refine stop_eqSlice ⟨_, _, rfl⟩ ?_)
  go_ret
  exact ⟨rfl, hc4⟩
set_option maxRecDepth 100000 in
set_option maxHeartbeats 1000000 in
theorem rat_no (B p : Nat) (rows : List Rw) (w : World) (h : RegS w B p rows) (hi : RowsI rows) (t : Int) (ht : t < firstR rows ∨ firstR rows + (rows.length - 1 : Nat) < t) :
    Calls Try.prog 69 #[.pointer (some ⟨p, 0, none⟩), .int .i64 t] w fun e w' => e = .returned (.pointer none) ∧ Chg No w w' := by
  have Hf := Lib.hid (fun W (hW : Chg No w W) => rfirst_any B p rows W (h.keepNo hW) hi)
  have Hcur := Lib.hid (fun W (hW : Chg No w W) => rcurrent_any B p rows W (h.keepNo hW) hi)
  clear h hi
  generalize firstR rows = f at *
  generalize f + (rows.length - 1 : Nat) = l at *
  by_cases k1 : t < f
  · clear ht
    go_enter Try.func69, Try.ntmps69
    go_wp2_with (with_reducible first | refine stop_append ?_ | refine stop_copy ?_ | refine stop_make ?_ | refine stop_lookup ?_ | refine stop_update ?_ | refine stop_slice ?_ | refine stop_range ?_ | refine stop_next ?_ | refine stop_convert ⟨_, rfl⟩ ?_ | refine stop_convertB ⟨_, _, _, rfl⟩ ?_ | refine stop_eqSlice ⟨_, _, rfl⟩ ?_)
    refine (Hf.out _ (Chg.refl _ _)).mono ?_
    rintro e w1 ⟨rfl, hc1⟩
    go_wp2_with (with_reducible first | refine stop_append ?_ | refine stop_copy ?_ | refine stop_make ?_ | refine stop_lookup ?_ | refine stop_update ?_ | refine stop_slice ?_ | refine stop_range ?_ | refine stop_next ?_ | refine stop_convert ⟨_, rfl⟩ ?_ | refine stop_convertB ⟨_, _, _, rfl⟩ ?_ | refine stop_eqSlice ⟨_, _, rfl⟩ ?_)
    go_ret
    exact ⟨rfl, hc1⟩
  · have k2 : l < t := by omega
    clear ht
    go_enter Try.func69, Try.ntmps69
    go_wp2_with (with_reducible first | refine stop_append ?_ | refine stop_copy ?_ | refine stop_make ?_ | refine stop_lookup ?_ | refine stop_update ?_ | refine stop_slice ?_ | refine stop_range ?_ | refine stop_next ?_ | refine stop_convert ⟨_, rfl⟩ ?_ | refine stop_convertB ⟨_, _, _, rfl⟩ ?_ | refine stop_eqSlice ⟨_, _, rfl⟩ ?_)
    refine (Hf.out _ (Chg.refl _ _)).mono ?_
    rintro e w1 ⟨rfl, hc1⟩
    go_wp2_with (with_reducible first | refine stop_append ?_ | refine stop_copy ?_ | refine stop_make ?_ | refine stop_lookup ?_ | refine stop_update ?_ | refine stop_slice ?_ | refine stop_range ?_ | refine stop_next ?_ | refine stop_convert ⟨_, rfl⟩ ?_ | refine stop_convertB ⟨_, _, _, rfl⟩ ?_ | refine stop_eqSlice ⟨_, _, rfl⟩ ?_)
    refine (Hcur.out _ hc1).mono ?_
    rintro e w2 ⟨rfl, hc2⟩
    go_wp2_with (with_reducible first | refine stop_append ?_ | refine stop_copy ?_ | refine stop_make ?_ | refine stop_lookup ?_ | refine stop_update ?_ | refine stop_slice ?_ | refine stop_range ?_ | refine stop_next ?_ | refine stop_convert ⟨_, rfl⟩ ?_ | refine stop_convertB ⟨_, _, _, rfl⟩ ?_ | refine stop_eqSlice ⟨_, _, rfl⟩ ?_)
    go_ret
    exact ⟨rfl, hc1.trans hc2⟩
end Go.Proofs.Ytbjpoamnglfjeaa


/- Walks of package register: Row. -/
set_option linter.unusedVariables false
set_option linter.unusedSimpArgs false
namespace Go.Proofs.Ytbjpoamnglfjeaa
open Go.RowKit Cb

theorem right_small {t : Int} {q : List Int} {s : List (List Int)} (hr : rightC t q s = true) : q.length ≤ 7 ∧ s.length ≤ 8 ∧ ∀ x ∈ s, x.length ≤ 3 := by
  obtain ⟨_, ⟨_, h7⟩, ⟨_, h8⟩, _, hall⟩ := rightC_iff.1 hr
  refine ⟨h7, h8, fun x hx => ?_⟩
  have := hall x hx
  simp only [shardB, Bool.and_eq_true, decide_eq_true_eq] at this
  exact this.1.2
set_option maxRecDepth 100000 in
set_option maxHeartbeats 1000000 in
theorem rrow_no (B p : Nat) (rows : List Rw) (w : World) (h : RegS w B p rows) (hi : RowsI rows) (t : Int) (ht : t < firstR rows ∨ firstR rows + (rows.length - 1 : Nat) < t) :
    Calls Try.prog 43 #[.pointer (some ⟨p, 0, none⟩), .int .i64 t] w fun e w' => e = .returned (.tuple #[.agg #[.int .i64 0, .slice none 0 0, .slice none 0 0, .slice none 0 0, .bool false], .int .i64 141]) ∧ Chg No w w' := by
  have Hat := Lib.hid (fun W (hW : Chg No w W) => rat_no B p rows W (h.keepNo hW) hi t ht)
  clear h hi ht
  have o4 := alloc_obj w (.cells #[.int .i64 0, .slice none 0 0, .slice none 0 0, .slice none 0 0, .bool false] 88)
  have hca := (Chg.refl No w).alloc (.cells #[.int .i64 0, .slice none 0 0, .slice none 0 0, .slice none 0 0, .bool false] 88)
  go_enter Try.func43, Try.ntmps43
  go_wp2_with (with_reducible first | refine stop_append ?_ | refine stop_copy ?_ | refine stop_make ?_ | refine stop_lookup ?_ | refine stop_update ?_ | refine stop_slice ?_ | refine stop_range ?_ | refine stop_next ?_ | refine stop_convert ⟨_, rfl⟩ ?_ | refine stop_convertB ⟨_, _, _, rfl⟩ ?_ | refine stop_eqSlice ⟨_, _, rfl⟩ ?_)
  generalize w.alloc (.cells #[.int .i64 0, .slice none 0 0, .slice none 0 0, .slice none 0 0, .bool false] 88) = w0 at *
  obtain ⟨q4, hq4⟩ : ∃ p, p = w.heap.size := ⟨_, rfl⟩
  rw [← hq4] at o4 ⊢
  have hge : w.heap.size ≤ q4 := by omega
  clear hq4
  refine (Hat.out _ hca).mono ?_
  rintro e w1 ⟨rfl, hc1⟩
  have o41 := hc1.obj o4 (not_no _)
  have hcw := hca.trans hc1
  clear o4 hc1 hca
  have z0 := cell_obj (i := 0) o41 rfl
  have z1 := cell_obj (i := 1) o41 rfl
  have z2 := cell_obj (i := 2) o41 rfl
  have z3 := cell_obj (i := 3) o41 rfl
  have z4 := cell_obj (i := 4) o41 rfl
  have f0 := free_obj (i := 0) o41
  have f1 := free_obj (i := 1) o41
  have f2 := free_obj (i := 2) o41
  have f3 := free_obj (i := 3) o41
  have f4 := free_obj (i := 4) o41
  go_wp2_with (with_reducible first | refine stop_append ?_ | refine stop_copy ?_ | refine stop_make ?_ | refine stop_lookup ?_ | refine stop_update ?_ | refine stop_slice ?_ | refine stop_range ?_ | refine stop_next ?_ | refine stop_convert ⟨_, rfl⟩ ?_ | refine stop_convertB ⟨_, _, _, rfl⟩ ?_ | refine stop_eqSlice ⟨_, _, rfl⟩ ?_)
  refine bodyPost_ret (v := .tuple #[.agg #[.int .i64 0, .slice none 0 0, .slice none 0 0, .slice none 0 0, .bool false], .int .i64 141]) (by simp [results, Try.results43, go_sem, *]) rfl ?_
  refine ⟨rfl, ?_⟩
  repeat (first | exact hcw | refine Chg.setCell ?_ (.inr hge) _)
set_option maxRecDepth 100000 in
set_option maxHeartbeats 1000000 in
theorem rrow_yes (B p : Nat) (rows : List Rw) (w : World) (h : RegS w B p rows) (hi : RowsI rows) (i : Nat) (hlt : i < rows.length) :
    Calls Try.prog 43 #[.pointer (some ⟨p, 0, none⟩), .int .i64 (firstR rows + i)] w fun e w' => ∃ vq vs vt, e = .returned (.tuple #[.agg #[.int .i64 (firstR rows + i), vq, vs, vt, .bool rows[i].2.2.2.2], .int .i64 0]) ∧ Chg No w w' ∧
      Sl (Lt w.heap.size) w' vq rows[i].2.1 ∧ Sl (Lt w.heap.size) w' vs rows[i].2.2.1 ∧ Sl (Lt w.heap.size) w' vt rows[i].2.2.2.1 := by
  obtain ⟨g, c, hc, -, -, hgl⟩ := rg_row h hi.1
  have Hat := Lib.hid (fun W (hW : Chg No w W) => rat_yes B p rows W (h.keepNo hW) hi (hW.cell hc (not_no _)) rfl i hlt)
  obtain ⟨vq, vs, vt, a0, a1, a2, a3, a4, hsq, hss, hst⟩ := rg_get h hc i hlt
  have ht := first_get hi i hlt
  obtain ⟨-, hr, htl, hte⟩ := hi.2.2 i hlt
  obtain ⟨h7, h8, h3⟩ := right_small hr
  rw [← ht] at Hat
  rw [← ht]
  have Hown := Lib.hid (fun W (hW : Chg No w W) => own_any rows[i].1 vq vs vt rows[i].2.2.2.2 _ _ _ W (hsq.no.keepNo hW) (hss.no.keepNo hW) (hst.no.keepNo hW) (by omega) (by omega) (fun x hx => by have := h3 x hx; omega) htl hte)
  unfold rowV at Hown
  clear ht hr htl hte h7 h8 h3 h hi hc
  obtain ⟨Aq, cq, rfl⟩ := hsq.slice
  obtain ⟨As, cs, rfl⟩ := hss.slice
  obtain ⟨Al, cl, rfl⟩ := hst.slice
  clear hsq hss hst
  generalize rows[i] = r at *
  obtain ⟨t, q, s, l, ov⟩ := r
  simp only at *
  have o4 := alloc_obj w (.cells #[.int .i64 0, .slice none 0 0, .slice none 0 0, .slice none 0 0, .bool false] 88)
  have hca := (Chg.refl No w).alloc (.cells #[.int .i64 0, .slice none 0 0, .slice none 0 0, .slice none 0 0, .bool false] 88)
  go_enter Try.func43, Try.ntmps43
  go_wp2_with (with_reducible first | refine stop_append ?_ | refine stop_copy ?_ | refine stop_make ?_ | refine stop_lookup ?_ | refine stop_update ?_ | refine stop_slice ?_ | refine stop_range ?_ | refine stop_next ?_ | refine stop_convert ⟨_, rfl⟩ ?_ | refine stop_convertB ⟨_, _, _, rfl⟩ ?_ | refine stop_eqSlice ⟨_, _, rfl⟩ ?_)
  generalize w.alloc (.cells #[.int .i64 0, .slice none 0 0, .slice none 0 0, .slice none 0 0, .bool false] 88) = w0 at *
  obtain ⟨q4, hq4⟩ : ∃ p, p = w.heap.size := ⟨_, rfl⟩
  rw [← hq4] at o4 ⊢
  have hge : w.heap.size ≤ q4 := by omega
  clear hq4
  refine (Hat.out _ hca).mono ?_
  rintro e w1 ⟨rfl, hc1⟩
  have o41 := hc1.obj o4 (not_no _)
  have hcw := hca.trans hc1
  clear o4 hc1 hca
  replace a0 := hcw.cell a0 (not_no _)
  replace a1 := hcw.cell a1 (not_no _)
  replace a2 := hcw.cell a2 (not_no _)
  replace a3 := hcw.cell a3 (not_no _)
  replace a4 := hcw.cell a4 (not_no _)
  go_wp2_with (with_reducible first | refine stop_append ?_ | refine stop_copy ?_ | refine stop_make ?_ | refine stop_lookup ?_ | refine stop_update ?_ | refine stop_slice ?_ | refine stop_range ?_ | refine stop_next ?_ | refine stop_convert ⟨_, rfl⟩ ?_ | refine stop_convertB ⟨_, _, _, rfl⟩ ?_ | refine stop_eqSlice ⟨_, _, rfl⟩ ?_)
  refine (Hown.out _ hcw).mono ?_
  rintro e w2 ⟨vq', vs', vt', rfl, hc2, hq2, hs2, ht2⟩
  obtain ⟨Bq, dq, rfl⟩ := hq2.slice
  obtain ⟨Bs, ds, rfl⟩ := hs2.slice
  obtain ⟨Bt, dt, rfl⟩ := ht2.slice
  have hql := lt_of_heap o41
  have o42 := hc2.obj o41 (not_no _)
  have hcw2 := hcw.trans hc2
  have hw1 := hcw.size
  clear a0 a1 a2 a3 a4 o41 hc2
  have z0 := cell_obj (i := 0) o42 rfl
  have z1 := cell_obj (i := 1) o42 rfl
  have z2 := cell_obj (i := 2) o42 rfl
  have z3 := cell_obj (i := 3) o42 rfl
  have z4 := cell_obj (i := 4) o42 rfl
  have f0 := free_obj (i := 0) o42
  have f1 := free_obj (i := 1) o42
  have f2 := free_obj (i := 2) o42
  have f3 := free_obj (i := 3) o42
  have f4 := free_obj (i := 4) o42
  have Hq2 := Lib.hid hq2; have Hs2 := Lib.hid hs2; have Ht2 := Lib.hid ht2
  clear hq2 hs2 ht2
  go_wp2_with (with_reducible first | refine stop_append ?_ | refine stop_copy ?_ | refine stop_make ?_ | refine stop_lookup ?_ | refine stop_update ?_ | refine stop_slice ?_ | refine stop_range ?_ | refine stop_next ?_ | refine stop_convert ⟨_, rfl⟩ ?_ | refine stop_convertB ⟨_, _, _, rfl⟩ ?_ | refine stop_eqSlice ⟨_, _, rfl⟩ ?_)
  refine bodyPost_ret (v := .tuple #[.agg #[.int .i64 t, .slice Bq q.length dq, .slice Bs s.length ds, .slice Bt l.length dt, .bool ov], .int .i64 0]) (by simp [results, Try.results43, go_sem, *]) rfl ?_
  obtain ⟨o9, hc9⟩ := set5 o42 (.int .i64 t) (.slice Bq q.length dq) (.slice Bs s.length ds) (.slice Bt l.length dt) (.bool ov)
  have hk : ∀ i, i < w2.heap.size → At q4 i → Lt w1.heap.size i := fun i _ h => by simp only [At] at h; simp only [Lt]; omega
  have hk2 : ∀ i, Lt w.heap.size i → Lt w1.heap.size i := fun i h => by simp only [Lt] at *; omega
  exact ⟨_, _, _, rfl, hcw2.old hc9 (fun i h => by simp only [At] at h; omega), (Hq2.out.keep (hc9.weak hk)).weak (fun i _ h => hk2 i h), (Hs2.out.keep (hc9.weak hk)).weak (fun i _ h => hk2 i h), (Ht2.out.keep (hc9.weak hk)).weak (fun i _ h => hk2 i h)⟩
end Go.Proofs.Ytbjpoamnglfjeaa


/- Walks of package register: fits. -/
set_option linter.unusedVariables false
set_option linter.unusedSimpArgs false
namespace Go.Proofs.Ytbjpoamnglfjeaa
open Go.RowKit Cb

/-- What a pointer to a row is: none, or the number of shards can be read. -/
def RowP (w : World) (px : Option Addr) (nn : Option Nat) : Prop :=
  (px = none ∧ nn = none) ∨ ∃ g o ns As cs, px = some ⟨g, o, none⟩ ∧ nn = some ns ∧ w.cell? ⟨g, o + 2, none⟩ = some (.slice As ns cs)
theorem RowP.keep {w w' : World} {px : Option Addr} {nn : Option Nat} (h : RowP w px nn) (hc : Chg No w w') : RowP w' px nn := by
  rcases h with h | ⟨g, o, ns, As, cs, h1, h2, h3⟩
  · exact .inl h
  · exact .inr ⟨g, o, ns, As, cs, h1, h2, hc.cell h3 (not_no _)⟩
end Go.Proofs.Ytbjpoamnglfjeaa


/- A cell of a row of the call's own is written. It speaks of no program. -/
set_option linter.unusedVariables false
set_option linter.unusedSimpArgs false
namespace Go.Proofs.Ytbjpoamnglfjeaa
open Go.RowKit Cb

theorem own_weak {α : Type} [Rep α] {F G : Nat → Prop} {w : World} {base : Nat} {T : TypeId} {v : Value} {xs : List α} (h : Cb.Own F w base T v xs) (hG : ∀ b, G b → F b) : Cb.Own G w base T v xs := by
  obtain ⟨ds, hl, hd, ho⟩ := h
  exact ⟨ds, hl, fun i hi hi' => Rep.weak (hd i hi hi') (fun b _ hb => hb.imp (hG b) id), ho⟩
/-- A register that is clear of F. -/
def RegX (F : Nat → Prop) (w : World) (B p : Nat) (rows : List Rw) : Prop :=
  ∃ v, w.heap[p]? = some (.cells #[v] 137 (0, 0)) ∧ B ≤ p ∧ Cb.Own (Or F (At p)) w B 88 v rows ∧ ∀ k, v.ownBlock = some k → k ≠ p
theorem RegX.toS {F : Nat → Prop} {w : World} {B p : Nat} {rows : List Rw} (h : RegX F w B p rows) (hF : ∀ k, k < B → F k) : RegS w B p rows := by
  obtain ⟨v, h1, h2, h3, h4⟩ := h
  exact ⟨v, h1, h2, own_weak h3 (fun b hb => hb.imp (fun h => hF b h) id), h4⟩
theorem RegX.keepNo {F : Nat → Prop} {w w' : World} {B p : Nat} {rows : List Rw} (h : RegX F w B p rows) (hc : Chg No w w') : RegX F w' B p rows := by
  obtain ⟨v, h1, h2, h3, h4⟩ := h
  exact ⟨v, hc.obj h1 (not_no _), h2, h3.keep hc (fun _ _ f => f.elim) (fun _ _ f => f), h4⟩
/-- What is written lies in F, and not in the register's own blocks. -/
theorem RegX.keep {F G : Nat → Prop} {w w' : World} {B p : Nat} {rows : List Rw} (h : RegX F w B p rows) (hc : Chg G w w') (hG : ∀ k, k < w.heap.size → G k → F k) (hp : ¬ G p) (hv : ∀ v, w.cell? ⟨p, 0, none⟩ = some v → ∀ k, v.ownBlock = some k → ¬ G k) : RegX F w' B p rows := by
  obtain ⟨v, h1, h2, h3, h4⟩ := h
  exact ⟨v, hc.obj h1 hp, h2, h3.keep hc (fun b hb g => .inl (hG b hb g)) (hv v (cell_obj h1 rfl)), h4⟩
/-- A register becomes clear of a new block. -/
theorem RegX.more {F G : Nat → Prop} {w : World} {B p : Nat} {rows : List Rw} (h : RegX F w B p rows) (hG : ∀ k, k < w.heap.size → G k → F k) : RegX G w B p rows := by
  obtain ⟨v, h1, h2, ⟨ds, hl, hd, ho⟩, h4⟩ := h
  exact ⟨v, h1, h2, ⟨ds, hl, fun i hi hi' => Rep.weak (hd i hi hi') (fun b hb hg => by
    rcases hg with (hg | hg) | hg
    · exact .inl (.inl (hG b hb hg))
    · exact .inl (.inr hg)
    · exact .inr hg), ho⟩, h4⟩
end Go.Proofs.Ytbjpoamnglfjeaa


/- Walks of package register: at, for any term; what an install does to the rows. -/
set_option linter.unusedVariables false
set_option linter.unusedSimpArgs false
namespace Go.Proofs.Ytbjpoamnglfjeaa
open Go.RowKit Cb

def atR (rows : List Rw) (t : Int) : Option Nat := if firstR rows ≤ t ∧ t ≤ firstR rows + (rows.length - 1 : Nat) then some (t - firstR rows).toNat else none
def rowA (rows : List Rw) (i : Nat) : Rw := rows.getD i (0, [], [], [], false)
theorem rowA_get (rows : List Rw) (i : Nat) (h : i < rows.length) : rowA rows i = rows[i] := by simp [rowA, h]
theorem atR_some {rows : List Rw} (hi : 0 < rows.length) {t : Int} {i : Nat} (h : atR rows t = some i) : i < rows.length ∧ t = firstR rows + i := by
  unfold atR at h
  split at h
  · next hc => cases h; omega
  · cases h
theorem atR_none {rows : List Rw} {t : Int} (h : atR rows t = none) : t < firstR rows ∨ firstR rows + (rows.length - 1 : Nat) < t := by
  unfold atR at h
  split at h
  · cases h
  · omega
/-- The register's own blocks. -/
def RegF (w : World) (p : Nat) : Nat → Prop := fun k => k = p ∨ ∃ v, w.cell? ⟨p, 0, none⟩ = some v ∧ v.ownBlock = some k
theorem regF_of {w w' : World} {p : Nat} (h : w'.cell? ⟨p, 0, none⟩ = w.cell? ⟨p, 0, none⟩) {k : Nat} (hk : RegF w' p k) : RegF w p k := by
  unfold RegF at *
  rwa [h] at hk
theorem regS_cell {w : World} {B p : Nat} {rows : List Rw} (h : RegS w B p rows) : ∃ v, w.cell? ⟨p, 0, none⟩ = some v ∧ ∀ k, v.ownBlock = some k → B ≤ k ∧ k < w.heap.size := by
  obtain ⟨v, h1, h2, h3, h4⟩ := h
  exact ⟨v, cell_obj h1 rfl, h3.lt⟩
theorem regF_no {w w' : World} {B p : Nat} {rows : List Rw} (h : RegS w B p rows) (hc : Chg No w w') {k : Nat} (hk : RegF w' p k) : RegF w p k := by
  obtain ⟨v, h1, -⟩ := regS_cell h
  exact regF_of (by rw [hc.cell h1 (not_no _), h1]) hk
/-- A block that lies, and is none of the register's. -/
def Off (w : World) (p b : Nat) : Prop := b < w.heap.size ∧ ¬ RegF w p b
theorem Off.no {w w' : World} {B p b : Nat} {rows : List Rw} (h : Off w p b) (hr : RegS w B p rows) (hc : Chg No w w') : Off w' p b :=
  ⟨by have := hc.size; have := h.1; omega, fun hk => h.2 (regF_no hr hc hk)⟩
/-- What an install did to memory. -/
def Inst (w w' : World) (p : Nat) : Prop := Chg (RegF w p) w w' ∧ ∀ k, RegF w' p k → RegF w p k ∨ w.heap.size ≤ k
theorem Off.obj {w w' : World} {p b : Nat} (h : Off w p b) (hc : Inst w w' p) {o : Obj} (ho : w.heap[b]? = some o) : w'.heap[b]? = some o := hc.1.obj ho h.2
theorem Inst.no {w w' : World} {B p : Nat} {rows : List Rw} (hr : RegS w B p rows) (hc : Chg No w w') : Inst w w' p := ⟨hc.of_no, fun k hk => .inl (regF_no hr hc hk)⟩
theorem entR_cut {e : Ent} (h : entR e = true) : e.2.2.1.length ≤ 8 := by
  unfold entR at h
  rw [Bool.and_eq_true] at h
  obtain ⟨_, h⟩ := h
  split at h
  · rw [Bool.and_eq_true] at h; exact (vright_iff.1 h.1).2.1
  · split at h
    · simp only [Bool.and_eq_true, decide_eq_true_eq] at h; omega
    · cases h
end Go.Proofs.Ytbjpoamnglfjeaa


/- Package register: Install as a whole; what installs keep (no program in sight). -/
set_option linter.unusedVariables false
set_option linter.unusedSimpArgs false
namespace Go.Proofs.Ytbjpoamnglfjeaa
open Go.RowKit Cb

def CfgI (q : List Int) (s : List (List Int)) : Prop := q.length * 8 ≤ 140737488351232 ∧ s.length * 24 ≤ 140737488351232 ∧ ∀ x ∈ s, x.length * 8 ≤ 140737488351232
/-- Every row but the last is over. -/
def OverI (rows : List Rw) : Prop := ∀ i (h : i < rows.length), rows[i].2.2.2.2 = decide (i + 1 < rows.length)
/-- What a register always is. -/
def RegI (rows : List Rw) : Prop := RowsI rows ∧ OverI rows
theorem new_reg {t : Int} {q : List Int} {s : List (List Int)} (hr : rightC t q s = true) : RegI [(t, q, s, [], false)] :=
  ⟨⟨by simp, by simp, fun i h => by
    match i, h with
    | 0, _ => exact ⟨by simp, hr, by simp [TailB]⟩⟩, fun i h => by
    match i, h with
    | 0, _ => simp⟩
end Go.Proofs.Ytbjpoamnglfjeaa


/- Walks of the register's laws: few, mine, entries. -/
set_option linter.unusedVariables false
set_option linter.unusedSimpArgs false
namespace Go.Proofs.Ytbjpoamnglfjeaa
open Go.RowKit Cb

/-- A configuration, and an operation of a script. -/
abbrev Cfg := Int × List Int × List (List Int)
abbrev Op := Cfg × List Ent
theorem info_rent : Info Try.prog 52 (.agg #[.int .i64 0, .int .i64 0, .slice none 0 0, .int .i64 0, .int .i64 0, .int .i64 0]) 6 64 := by unfold Info; kernel_rfl
set_option maxRecDepth 100000 in
set_option maxHeartbeats 1000000 in
theorem mine16_any (v : Value) (l : List Ent) (w : World) (h : Sl No w v l) (hl : l.length * 64 ≤ 140737488355328) :
    Calls Try.prog 50 #[v] w fun e w' => ∃ v', e = .returned v' ∧ Chg No w w' ∧ Sl No w' v' l := by
  obtain ⟨A, c, rfl⟩ := h.slice
  have H := Lib.hid h
  clear h
  go_enter Try.func50, Try.ntmps50
  go_wp2_with (with_reducible first | refine stop_append ?_ | refine stop_copy ?_ | refine stop_make ?_ | refine stop_lookup ?_ | refine stop_update ?_ | refine stop_slice ?_ | refine stop_range ?_ | refine stop_next ?_ | refine stop_convert ⟨_, rfl⟩ ?_ | refine stop_convertB ⟨_, _, _, rfl⟩ ?_ | refine stop_eqSlice ⟨_, _, rfl⟩ ?_)
  go_loopw [3, 5, 8] (fun v3 _ v8 wr => ∃ k : Nat, k ≤ l.length ∧ v8 = .int .i64 k ∧ Chg No w wr ∧ Cb.Own No wr w.heap.size 58 v3 (l.take k)) (fun _ _ v8 _ => l.length - (intOf v8).toNat)
  case atStart => exact ⟨0, by omega, rfl, Chg.refl _ _, Cb.Own.nil _ _ _ _⟩
  case round =>
    obtain ⟨k, hk, rfl, hc1, hown⟩ := hrel
    by_cases hlt : k < l.length
    · have hgs : Sl (Ge w.heap.size) wr (.slice A l.length c) l := (Sl.up H.out (Nat.le_refl _)).keepNo hc1
      obtain ⟨b, o, vc, rfl, hnb, hbl, hsv, a0, a1, a2, a3, a4, a5⟩ := ent_get hgs k hlt
      have htk := List.take_succ_eq_append_getElem hlt
      clear hgs
      generalize l[k] = x at a0 a1 a2 a3 a4 a5 hsv htk
      have Hsv := Lib.hid hsv
      have Hcs := Lib.hid (ent_mk x hsv)
      obtain ⟨n, kd, cut, tag, t, u⟩ := x
      simp only [entC] at a0 a1 a2 a3 a4 a5 Hcs
      obtain ⟨Av, cv, rfl⟩ := hsv.slice
      have hlen : (l.take k).length = k := by simp; omega
      generalize l.take k = acc at hlen htk hown
      have Htk := Lib.hid htk
      have Hlen := Lib.hid hlen
      obtain ⟨A3, c3, rfl⟩ := hown.slice
      have Hown := Lib.hid hown
      clear hsv hown htk hlen
      go_wp2_with (with_reducible first | refine stop_append ?_ | refine stop_copy ?_ | refine stop_make ?_ | refine stop_lookup ?_ | refine stop_update ?_ | refine stop_slice ?_ | refine stop_range ?_ | refine stop_next ?_ | refine stop_convert ⟨_, rfl⟩ ?_ | refine stop_convertB ⟨_, _, _, rfl⟩ ?_ | refine stop_eqSlice ⟨_, _, rfl⟩ ?_)
      have hca := (Chg.refl No wr).alloc (.cells #[.int .i64 n, .int .i64 kd, .slice Av cut.length cv, .int .i64 tag, .int .i64 t, .int .i64 u] 52)
      have hcb := hca.alloc (.cells #[.int .i64 n, .int .i64 kd, .slice Av cut.length cv, .int .i64 tag, .int .i64 t, .int .i64 u] 58)
      generalize hw4 : wr.alloc (.cells #[.int .i64 n, .int .i64 kd, .slice Av cut.length cv, .int .i64 tag, .int .i64 t, .int .i64 u] 52) = w4 at hca hcb ⊢
      have e4 : w4.heap.size = wr.heap.size + 1 := by rw [← hw4]; simp
      rw [← e4]
      have hobl : ∀ i, OB (.slice A3 acc.length c3) i → w.heap.size ≤ i ∧ i < wr.heap.size := fun i hi => Hown.out.lt i hi
      have hlit : Sl (OB (.slice A3 acc.length c3)) (w4.alloc (.cells #[.int .i64 n, .int .i64 kd, .slice Av cut.length cv, .int .i64 tag, .int .i64 t, .int .i64 u] 58)) (.slice (some ⟨w4.heap.size, 0, none⟩) 1 1) [(n, kd, cut, tag, t, u)] :=
        Sl.lit1 rfl (Rep.weak (Rep.keep Hcs.out hca.of_no) (fun i _ hi => (hobl i hi).1)) (fun hi => by have := hobl _ hi; omega)
      refine step_append_sl (α := Ent) (F := No) (G := OB (.slice A3 acc.length c3)) Try.underlying28 info_ent rfl (Hown.out.keep hcb (fun _ _ f => f) (fun _ _ f => f)) rfl rfl hlit (fun i _ hi => hi.elim (fun f => f.elim) id) (by have := Hlen.out; simp; omega) (by have := Hlen.out; simp [ent_n]; omega) (by have := hc1.size; have := hcb.size; omega) ?_
      intro v6 w6 hown6 hg6
      rw [← Htk.out] at hown6
      have hcw : Chg No w w6 := (hc1.trans hcb).grew hg6 (fun i hi => .inr (hobl i hi).1)
      have Hown6 := Lib.hid hown6
      clear hown6 hg6 hlit
      go_wp2_with (with_reducible first | refine stop_append ?_ | refine stop_copy ?_ | refine stop_make ?_ | refine stop_lookup ?_ | refine stop_update ?_ | refine stop_slice ?_ | refine stop_range ?_ | refine stop_next ?_ | refine stop_convert ⟨_, rfl⟩ ?_ | refine stop_convertB ⟨_, _, _, rfl⟩ ?_ | refine stop_eqSlice ⟨_, _, rfl⟩ ?_)
      go_roundw
      case rel => exact ⟨k + 1, by omega, by go_num, hcw, Hown6.out⟩
      case measure => simp [intOf]; omega
    · obtain rfl : k = l.length := by omega
      rw [List.take_length] at hown
      have Hown := Lib.hid hown
      obtain ⟨A3, c3, rfl⟩ := hown.slice
      clear hown
      go_wp2_with (with_reducible first | refine stop_append ?_ | refine stop_copy ?_ | refine stop_make ?_ | refine stop_lookup ?_ | refine stop_update ?_ | refine stop_slice ?_ | refine stop_range ?_ | refine stop_next ?_ | refine stop_convert ⟨_, rfl⟩ ?_ | refine stop_convertB ⟨_, _, _, rfl⟩ ?_ | refine stop_eqSlice ⟨_, _, rfl⟩ ?_)
      go_ret
      exact ⟨_, rfl, hc1, Hown.out.sl (fun _ _ f => f)⟩
end Go.Proofs.Ytbjpoamnglfjeaa


/- A region in which an allocation may come ahead of a call or behind it. It speaks of no program. -/
set_option linter.unusedVariables false
namespace Cb
open Go
section
variable {P : Program} {Q : Exit → Act → World → Prop} {S S' : World → Prop} {fuel : Nat} {l : List Oper} {lb : List Bool} {i j : Nat} {oi oj : Oper} {a : Act} {w : World}
def readyTwo (l : List Oper) (lb lbq : List Bool) (i j : Nat) : Bool := (Region.ready .any l.toArray lb.toArray == [i, j] || Region.ready .any l.toArray lb.toArray == [j, i]) && (readyIs l lbq j && readyIs l (lb.set j true) i)
theorem wanted_none {o : Oper} (h : o.guard = none) (f : Nat → Option Bool) : Region.wanted o f = true := by unfold Region.wanted; rw [h]
/-- A call (it answers mk x) and an allocation in any order; behind the call the quiet operations are taken that need it alone. -/
theorem rt_call_alloc (S' : World → Prop) (i j : Nat) {γ : Type} (mk : γ → Value) {T : TypeId} {Z : Array Value} {f : FuncId} {args : Array Value} (Post : (Nat → Prop) → γ → World → Prop) {fuel nq : Nat} {lbq : List Bool} {aq : γ → Act}
    (hi : nth l i = some oi) (hj : nth l j = some oj)
    (hq : ∀ x W, S W → RT P l.toArray Q S (fuel + 1) lbq.toArray (aq x) W → RT P l.toArray Q S (fuel + 1 + nq) (lb.set i true).toArray (a.put oi.dst (mk x)) W)
    (hq' : ∀ x u W, S W → RT P l.toArray Q S fuel (lbq.set j true).toArray ((aq x).put oj.dst u) W → RT P l.toArray Q S (fuel + nq) ((lb.set i true).set j true).toArray ((a.put oi.dst (mk x)).put oj.dst u) W)
    (hr : readyTwo l lb lbq i j = true) (hgi : oi.guard = none) (hgj : oj.guard = none) (hd : ∀ d, oi.dst = some d → oj.dst ≠ some d)
    (hS : ∀ W, Chg No w W → S W) (hSS : ∀ W, S' W → S W)
    (hal : ∀ (b : Operand → Value) (W : World), (execOp b oj).run P W = .ok (.value (.pointer (some ⟨W.heap.size, 0, none⟩))) (W.alloc (.cells Z T)))
    (hent : ∀ W, (execOp a.eval oi).run P W = .ok (.enter f args) W) (hent' : ∀ x W, (execOp (a.put oj.dst x).eval oi).run P W = .ok (.enter f args) W)
    (hcall : ∀ W, Chg No w W → Calls P f args W fun e W' => ∃ x, e = .returned (mk x) ∧ Chg No W W' ∧ Post (Lt W.heap.size) x W')
    (hkeep : ∀ F x W W', Post F x W → Chg No W W' → Post F x W') (hweak : ∀ F G x W, Post F x W → (∀ b, b < W.heap.size → G b → F b) → Post G x W)
    (hk : ∀ x q W', Chg No w W' → W'.heap[q]? = some (.cells Z T (0, 0)) → w.heap.size ≤ q → Post (Or (Lt w.heap.size) (At q)) x W' →
      RT P l.toArray Q S' fuel (lbq.set j true).toArray ((aq x).put oj.dst (.pointer (some ⟨q, 0, none⟩))) W') :
    RT P l.toArray Q S (fuel + 1 + nq + 1) lb.toArray a w := by
  simp only [readyTwo, Bool.and_eq_true, Bool.or_eq_true, beq_iff_eq] at hr
  obtain ⟨hr, hr1, hr2⟩ := hr
  have hS0 := hS w (Chg.refl No w)
  have e1 : (lb.toArray.setIfInBounds i true) = (lb.set i true).toArray := by simp
  have e2 : (lb.toArray.setIfInBounds j true) = (lb.set j true).toArray := by simp
  have A : ∀ K : Act → World → Prop, (∀ a' w', RT P l.toArray Q S (fuel + 1 + nq) (lb.toArray.setIfInBounds i true) a' w' → K a' w') → oi.wp P a w K Q := fun K hK => by
    unfold Oper.wp
    rw [hent w]
    refine Calls.mono (hcall w (Chg.refl No w)) fun e W' h => ?_
    obtain ⟨x, rfl, hc, hp⟩ := h
    refine hK _ _ ?_
    rw [e1]
    refine hq x W' (hS _ hc) ?_
    have hc2 := hc.alloc (.cells Z T)
    refine rt_kx S j hr1 (hS _ hc) (fun _ h => h) hj (wanted_none hgj _) (fun K2 hK2 => ?_)
    unfold Oper.wp
    rw [hal]
    refine hK2 _ _ (RT.weak hSS (hk x W'.heap.size _ hc2 (alloc_obj _ _) hc.size (hkeep _ _ _ _ (hweak _ _ _ _ hp (fun b hb g => ?_)) ((Chg.refl No W').alloc _))))
    rcases g with g | g
    · exact g
    · simp only [At] at g; omega
  have B : ∀ K : Act → World → Prop, (∀ a' w', RT P l.toArray Q S (fuel + 1 + nq) (lb.toArray.setIfInBounds j true) a' w' → K a' w') → oj.wp P a w K Q := fun K hK => by
    unfold Oper.wp
    rw [hal]
    refine hK _ _ ?_
    rw [e2]
    have hc := (Chg.refl No w).alloc (.cells Z T)
    have ef : fuel + 1 + nq = fuel + nq + 1 := by omega
    rw [ef]
    refine rt_kx S i hr2 (hS _ hc) (fun _ h => h) hi (wanted_none hgi _) (fun K2 hK2 => ?_)
    unfold Oper.wp
    rw [hent']
    refine Calls.mono (hcall _ hc) fun e W' h => ?_
    obtain ⟨x, rfl, hc2, hp⟩ := h
    have h3 := hk x w.heap.size W' (hc.trans hc2) (hc2.obj (alloc_obj w _) (not_no _)) (Nat.le_refl _) (hweak _ _ _ _ hp (fun b hb g => by
      simp only [Lt, World.size_alloc]
      rcases g with g | g
      · simp only [Lt] at g; omega
      · simp only [At] at g; omega))
    have h4 := hq' x _ W' (hS _ (hc.trans hc2)) (RT.weak hSS h3)
    rw [Act.put_comm a (mk x) _ hd] at h4
    have e3 : (lb.set i true).set j true = (lb.set j true).set i true := by
      by_cases hij : i = j
      · subst hij; rfl
      · exact List.set_comm _ _ hij
    rw [e3] at h4
    exact hK2 _ _ h4
  rcases hr with hr | hr
  · exact rt_two hr hS0 (nth_ops hi) (nth_ops hj) (wanted_none hgi _) (wanted_none hgj _) A B
  · exact rt_two hr hS0 (nth_ops hj) (nth_ops hi) (wanted_none hgj _) (wanted_none hgi _) B A
/-- Two allocations in any order. -/
theorem rt_alloc_alloc (S' : World → Prop) (i j : Nat) {T U : TypeId} {Z Y : Array Value}
    (hi : nth l i = some oi) (hj : nth l j = some oj) (hr : readyTwo l lb (lb.set i true) i j = true) (hgi : oi.guard = none) (hgj : oj.guard = none) (hd : ∀ d, oi.dst = some d → oj.dst ≠ some d)
    (hS : ∀ W, Chg No w W → S W) (hSS : ∀ W, S' W → S W)
    (hal : ∀ (b : Operand → Value) (W : World), (execOp b oi).run P W = .ok (.value (.pointer (some ⟨W.heap.size, 0, none⟩))) (W.alloc (.cells Z T)))
    (hbl : ∀ (b : Operand → Value) (W : World), (execOp b oj).run P W = .ok (.value (.pointer (some ⟨W.heap.size, 0, none⟩))) (W.alloc (.cells Y U)))
    (hk : ∀ q1 q2 W', Chg No w W' → W'.heap[q1]? = some (.cells Z T (0, 0)) → W'.heap[q2]? = some (.cells Y U (0, 0)) → w.heap.size ≤ q1 → w.heap.size ≤ q2 → q1 ≠ q2 →
      RT P l.toArray Q S' fuel ((lb.set i true).set j true).toArray ((a.put oi.dst (.pointer (some ⟨q1, 0, none⟩))).put oj.dst (.pointer (some ⟨q2, 0, none⟩))) W') :
    RT P l.toArray Q S (fuel + 1 + 1) lb.toArray a w := by
  simp only [readyTwo, Bool.and_eq_true, Bool.or_eq_true, beq_iff_eq] at hr
  obtain ⟨hr, hr1, hr2⟩ := hr
  have hS0 := hS w (Chg.refl No w)
  have e1 : (lb.toArray.setIfInBounds i true) = (lb.set i true).toArray := by simp
  have e2 : (lb.toArray.setIfInBounds j true) = (lb.set j true).toArray := by simp
  have A : ∀ K : Act → World → Prop, (∀ a' w', RT P l.toArray Q S (fuel + 1) (lb.toArray.setIfInBounds i true) a' w' → K a' w') → oi.wp P a w K Q := fun K hK => by
    unfold Oper.wp
    rw [hal]
    refine hK _ _ ?_
    rw [e1]
    have hc := (Chg.refl No w).alloc (.cells Z T)
    refine rt_kx S j hr1 (hS _ hc) (fun _ h => h) hj (wanted_none hgj _) (fun K2 hK2 => ?_)
    unfold Oper.wp
    rw [hbl]
    exact hK2 _ _ (RT.weak hSS (hk _ _ _ (hc.alloc (.cells Y U)) (((Chg.refl No _).alloc (.cells Y U)).obj (alloc_obj w _) (not_no _)) (alloc_obj _ _) (Nat.le_refl _) hc.size (by simp)))
  have B : ∀ K : Act → World → Prop, (∀ a' w', RT P l.toArray Q S (fuel + 1) (lb.toArray.setIfInBounds j true) a' w' → K a' w') → oj.wp P a w K Q := fun K hK => by
    unfold Oper.wp
    rw [hbl]
    refine hK _ _ ?_
    rw [e2]
    have hc := (Chg.refl No w).alloc (.cells Y U)
    refine rt_kx S i hr2 (hS _ hc) (fun _ h => h) hi (wanted_none hgi _) (fun K2 hK2 => ?_)
    unfold Oper.wp
    rw [hal]
    have h3 := hk _ _ _ (hc.alloc (.cells Z T)) (alloc_obj _ _) (((Chg.refl No _).alloc (.cells Z T)).obj (alloc_obj w _) (not_no _)) hc.size (Nat.le_refl _) (by simp)
    rw [Act.put_comm a _ _ hd] at h3
    have e3 : (lb.set i true).set j true = (lb.set j true).set i true := by
      by_cases hij : i = j
      · subst hij; rfl
      · exact List.set_comm _ _ hij
    rw [e3] at h3
    exact hK2 _ _ (RT.weak hSS h3)
  rcases hr with hr | hr
  · exact rt_two hr hS0 (nth_ops hi) (nth_ops hj) (wanted_none hgi _) (wanted_none hgj _) A B
  · exact rt_two hr hS0 (nth_ops hj) (nth_ops hi) (wanted_none hgj _) (wanted_none hgi _) B A
end
end Cb


/- Walks of the replay's laws: few. -/
set_option linter.unusedVariables false
set_option linter.unusedSimpArgs false
namespace Go.Proofs.Ytbjpoamnglfjeaa
open Go.RowKit Cb

/-- An operation of a replay's script. -/
abbrev Op16 := Int × Int × Op × List Ent × Bool
theorem op16_get {F : Nat → Prop} {w : World} {A : Option Addr} {n c : Nat} {l : List Op16} (h : Sl F w (.slice A n c) l) (k : Nat) (hk : k < l.length) :
    ∃ b o vq vs vt vl, A = some ⟨b, o, none⟩ ∧ ¬ F b ∧ b < w.heap.size ∧ Sl F w vq l[k].2.2.1.1.2.1 ∧ Sl F w vs l[k].2.2.1.1.2.2 ∧ Sl F w vt l[k].2.2.1.2 ∧ Sl F w vl l[k].2.2.2.1 ∧ w.cell? ⟨b, o + k * 8, none⟩ = some (.int .i64 l[k].1) ∧ w.cell? ⟨b, o + k * 8 + 1, none⟩ = some (.int .i64 l[k].2.1) ∧
      w.cell? ⟨b, o + k * 8 + 2, none⟩ = some (.int .i64 l[k].2.2.1.1.1) ∧ w.cell? ⟨b, o + k * 8 + 3, none⟩ = some vq ∧ w.cell? ⟨b, o + k * 8 + 4, none⟩ = some vs ∧ w.cell? ⟨b, o + k * 8 + 5, none⟩ = some vt ∧ w.cell? ⟨b, o + k * 8 + 6, none⟩ = some vl ∧ w.cell? ⟨b, o + k * 8 + 7, none⟩ = some (.bool l[k].2.2.2.2) := by
  obtain ⟨b, o, d, rfl, hF, hb, hd, ha⟩ := h.get k hk
  obtain ⟨d1, d2, rfl, rfl, d3, d4, rfl, rfl, d5, d6, rfl, ⟨e1, e2, rfl, ⟨e3, e4, rfl, rfl, ⟨e5, e6, rfl, ⟨vq, rfl, hq⟩, ⟨vs, rfl, hs⟩⟩⟩, ⟨vt, rfl, ht⟩⟩, d7, d8, rfl, ⟨vl, rfl, hl⟩, rfl⟩ := hd
  exact ⟨b, o, vq, vs, vt, vl, rfl, hF, hb, hq, hs, ht, hl, ha 0 _ rfl, ha 1 _ rfl, ha 2 _ rfl, ha 3 _ rfl, ha 4 _ rfl, ha 5 _ rfl, ha 6 _ rfl, ha 7 _ rfl⟩
def Op16I (o : Op16) : Prop := CfgI o.2.2.1.1.2.1 o.2.2.1.1.2.2 ∧ TailI o.2.2.1.2 ∧ TailI o.2.2.2.1 ∧ o.2.2.1.2.length + o.2.2.2.1.length ≤ 2199023255488
end Go.Proofs.Ytbjpoamnglfjeaa


/- An order in memory whose blocks are any set; Add keeps to it. Walk of package order: Add. -/
set_option linter.unusedVariables false
set_option linter.unusedSimpArgs false
namespace Go.Proofs.Ytbjpoamnglfjeaa
open Go.RowKit Cb
attribute [local go_sem] Oper.semAt_some

/-- S, and all blocks that came since. -/
def Up (S : Nat → Prop) (w w' : World) : Nat → Prop := fun k => S k ∨ (w.heap.size ≤ k ∧ k < w'.heap.size)
structure OrsV (w : World) (S : Nat → Prop) (p : Nat) (lv rv av : Value) (st : OSt) : Prop where
  obj : w.heap[p]? = some (.cells #[lv, rv, av] 122 (0, 0))
  hp : S p
  hhi : ∀ k, S k → k < w.heap.size
  sl : Sl (fun k => ¬ S k ∨ k = p ∨ OB rv k ∨ OB av k) w lv st.last
  rr : RowT (fun k => ¬ S k ∨ k = p ∨ OB av k) w 0 124 rv st.runs
  ra : RowT (fun k => ¬ S k ∨ k = p ∨ OB rv k) w 0 3 av st.after
  ob : ∀ k, OB rv k ∨ OB av k → k < w.heap.size
/-- An order whose blocks lie in S. -/
def Ors (w : World) (S : Nat → Prop) (p : Nat) (st : OSt) : Prop := ∃ lv rv av, OrsV w S p lv rv av st
theorem OrsV.keep {w w' : World} {S : Nat → Prop} {p : Nat} {lv rv av : Value} {st : OSt} {G : Nat → Prop} (h : OrsV w S p lv rv av st) (hc : Chg G w w') (hG : ∀ k, G k → ¬ S k) : OrsV w' S p lv rv av st where
  obj := hc.obj h.obj (fun g => hG p g h.hp)
  hp := h.hp
  hhi := fun k hk => Nat.lt_of_lt_of_le (h.hhi k hk) hc.size
  sl := h.sl.keep (hc.weak (fun k _ g => .inl (hG k g)))
  rr := h.rr.keep hc (fun k _ g => .inl (hG k g))
  ra := h.ra.keep hc (fun k _ g => .inl (hG k g))
  ob := fun k hk => Nat.lt_of_lt_of_le (h.ob k hk) hc.size
theorem Ors.keep {w w' : World} {S : Nat → Prop} {p : Nat} {st : OSt} {G : Nat → Prop} (h : Ors w S p st) (hc : Chg G w w') (hG : ∀ k, G k → ¬ S k) : Ors w' S p st := by
  obtain ⟨lv, rv, av, h⟩ := h; exact ⟨lv, rv, av, h.keep hc hG⟩
theorem Ors.keepNo {w w' : World} {S : Nat → Prop} {p : Nat} {st : OSt} (h : Ors w S p st) (hc : Chg No w w') : Ors w' S p st := h.keep hc (fun _ f => f.elim)
theorem OrsV.keepNo {w w' : World} {S : Nat → Prop} {p : Nat} {lv rv av : Value} {st : OSt} (h : OrsV w S p lv rv av st) (hc : Chg No w w') : OrsV w' S p lv rv av st := h.keep hc (fun _ f => f.elim)
theorem OrsV.more {w : World} {S T : Nat → Prop} {p : Nat} {lv rv av : Value} {st : OSt} (h : OrsV w S p lv rv av st) (hT : ∀ k, S k → T k) (hw : ∀ k, T k → k < w.heap.size) : OrsV w T p lv rv av st where
  obj := h.obj
  hp := hT p h.hp
  hhi := hw
  sl := h.sl.weak (fun k _ g => g.imp (fun g s => g (hT k s)) id)
  rr := h.rr.weak (fun k _ g => g.imp (fun g s => g (hT k s)) id)
  ra := h.ra.weak (fun k _ g => g.imp (fun g s => g (hT k s)) id)
  ob := h.ob
theorem OrsV.ord {w : World} {S : Nat → Prop} {p : Nat} {lv rv av : Value} {st : OSt} (h : OrsV w S p lv rv av st) : OrdV w 0 w.heap.size p lv rv av st where
  obj := h.obj
  hp := ⟨Nat.zero_le _, h.hhi p h.hp⟩
  hhi := Nat.le_refl _
  sl := h.sl.weak (fun k hk g => by rcases g with g | g | g; omega; omega; exact .inr g)
  rr := h.rr.weak (fun k hk g => by rcases g with g | g | g; omega; omega; exact .inr g)
  ra := h.ra.weak (fun k hk g => by rcases g with g | g | g; omega; omega; exact .inr g)
  ob := fun k hk => h.ob k hk
theorem Ors.ord {w : World} {S : Nat → Prop} {p : Nat} {st : OSt} (h : Ors w S p st) : Ord w 0 w.heap.size p st := by obtain ⟨lv, rv, av, h⟩ := h; exact ⟨lv, rv, av, h.ord⟩
/-- One that was just laid. -/
theorem Ord.ors {w : World} {lo hi p : Nat} {st : OSt} (h : Ord w lo hi p st) : Ors w (fun k => lo ≤ k ∧ k < hi) p st := by
  obtain ⟨lv, rv, av, h⟩ := h
  have e : ∀ (X : Nat → Prop) k, ¬ (lo ≤ k ∧ k < hi) ∨ X k → k < lo ∨ hi ≤ k ∨ X k := fun X k g => by
    rcases g with g | g
    · by_cases hk : k < lo
      · exact .inl hk
      · exact .inr (.inl (by omega))
    · exact .inr (.inr g)
  refine ⟨lv, rv, av, { obj := h.obj, hp := h.hp, hhi := fun k hk => Nat.lt_of_lt_of_le hk.2 h.hhi, sl := h.sl.weak (fun k _ g => e (fun k => k = p ∨ OB rv k ∨ OB av k) k g), rr := ?_, ra := ?_, ob := fun k hk => Nat.lt_of_lt_of_le (h.ob k hk) h.hhi }⟩
  · rcases h.rr with h1 | h1
    · exact .inl ⟨h1.1.down (Nat.zero_le _), fun k hk g => h1.2 k hk (e (fun k => k = p ∨ OB av k) k g)⟩
    · exact .inr ⟨h1.1.weak (fun k _ g => e (fun k => k = p ∨ OB av k) k g), h1.2⟩
  · rcases h.ra with h1 | h1
    · exact .inl ⟨h1.1.down (Nat.zero_le _), fun k hk g => h1.2 k hk (e (fun k => k = p ∨ OB rv k) k g)⟩
    · exact .inr ⟨h1.1.weak (fun k _ g => e (fun k => k = p ∨ OB rv k) k g), h1.2⟩
theorem Ors.up {w0 w : World} {S : Nat → Prop} {p : Nat} {st : OSt} (h : Ors w S p st) : Ors w (Up S w0 w) p st := by
  obtain ⟨lv, rv, av, h⟩ := h
  exact ⟨lv, rv, av, h.more (fun k hk => .inl hk) (fun k hk => by rcases hk with hk | hk; exact h.hhi k hk; omega)⟩
def AdsPost (r : OSt × Int) (S : Nat → Prop) (p : Nat) (w : World) (x : Ending) (w' : World) : Prop :=
  x = .returned (.int .i64 r.2) ∧ Chg S w w' ∧ Ors w' (Up S w w') p r.1
/-- An order whose runs are being appended to: its other rows lie in S, the runs too or from B on. -/
structure OrsL (W : World) (S : Nat → Prop) (B p : Nat) (lv rv av : Value) (st : OSt) : Prop where
  obj : W.heap[p]? = some (.cells #[lv, rv, av] 122 (0, 0))
  hp : S p
  hB : (∀ k, S k → k < B) ∧ B ≤ W.heap.size
  sl : Sl (fun k => ¬ S k ∨ k = p ∨ OB rv k ∨ OB av k) W lv st.last
  rr : (Cb.Own No W 0 124 rv st.runs ∧ ∀ k, OB rv k → k ≠ p ∧ ¬ OB av k ∧ (S k ∨ B ≤ k)) ∨ (Sl (fun k => ¬ S k ∨ k = p ∨ OB av k) W rv st.runs ∧ ∃ A n, rv = .slice A n n)
  ra : RowT (fun k => ¬ S k ∨ k = p ∨ OB rv k) W 0 3 av st.after
  rb : ∀ k, OB rv k → k < W.heap.size
  ab : ∀ k, OB av k → k < W.heap.size
def UpB (S : Nat → Prop) (B : Nat) (W : World) : Nat → Prop := fun k => S k ∨ (B ≤ k ∧ k < W.heap.size)
theorem OrsV.loop {w : World} {S : Nat → Prop} {B p : Nat} {lv rv av : Value} {st : OSt} (h : OrsV w S p lv rv av st) (hB : ∀ k, S k → k < B) (hw : B ≤ w.heap.size) : OrsL w S B p lv rv av st where
  obj := h.obj
  hp := h.hp
  hB := ⟨hB, hw⟩
  sl := h.sl
  rr := by
    rcases h.rr with ⟨h1, h2⟩ | h1
    · exact .inl ⟨h1, fun k hk => ⟨fun e => h2 k hk (.inr (.inl e)), fun e => h2 k hk (.inr (.inr e)), .inl (Classical.byContradiction fun e => h2 k hk (.inl e))⟩⟩
    · exact .inr h1
  ra := h.ra
  rb := fun k hk => h.ob k (.inl hk)
  ab := fun k hk => h.ob k (.inr hk)
theorem OrsL.ord {W : World} {S : Nat → Prop} {B p : Nat} {lv rv av : Value} {st : OSt} (h : OrsL W S B p lv rv av st) : OrsV W (UpB S B W) p lv rv av st where
  obj := h.obj
  hp := .inl h.hp
  hhi := fun k hk => by rcases hk with hk | hk; (have := h.hB.1 k hk; have := h.hB.2; omega); exact hk.2
  sl := h.sl.weak (fun b hb g => g.imp (fun g s => g (.inl s)) id)
  rr := by
    rcases h.rr with ⟨h1, h2⟩ | ⟨h1, h2⟩
    · exact .inl ⟨h1, fun k hk g => by
        have hl := (h1.lt k hk).2
        obtain ⟨a, b, c⟩ := h2 k hk
        rcases g with g | g | g
        · exact g (c.imp id (fun c => ⟨c, hl⟩))
        · exact a g
        · exact b g⟩
    · exact .inr ⟨h1.weak (fun b hb g => g.imp (fun g s => g (.inl s)) id), h2⟩
  ra := h.ra.weak (fun b hb g => g.imp (fun g s => g (.inl s)) id)
  ob := fun k hk => hk.elim (h.rb k) (h.ab k)
theorem OrsL.row {W : World} {S : Nat → Prop} {B p : Nat} {lv rv av : Value} {st : OSt} (h : OrsL W S B p lv rv av st) : RowT (fun k => ¬ UpB S B W k ∨ k = p ∨ OB av k) W 0 124 rv st.runs := h.ord.rr
theorem OrsL.turn {W W' : World} {S : Nat → Prop} {B p : Nat} {lv rv av : Value} {st : OSt} {row : Option Nat} (h : OrsL W S B p lv rv av st) (hg : W.grownBy W' row) (hr : ∀ r, row = some r → B ≤ r ∧ ∃ o : Obj, W.heap[r]? = some o ∧ o.isCells = false) : OrsL W' S B p lv rv av st := by
  have hc : Chg (fun k => B ≤ k ∧ row = some k) W W' := (Chg.refl _ W).grown hg (fun k e => .inl ⟨(hr k e).1, e⟩)
  have hS : ∀ k, B ≤ k → ¬ S k := fun k hk s => by have := h.hB.1 k s; omega
  exact { obj := turn_obj h.obj hg (fun r e => (hr r e).2), hp := h.hp, hB := ⟨h.hB.1, Nat.le_trans h.hB.2 hg.size⟩,
          sl := h.sl.keep (hc.weak (fun k _ g => .inl (hS k g.1))),
          rr := by
            rcases h.rr with ⟨h1, h2⟩ | ⟨h1, h2⟩
            · refine .inl ⟨h1.keepFlat hc (fun k hk g => ?_), h2⟩
              obtain ⟨C, T, fz, hcell⟩ := h1.cells k hk
              obtain ⟨o, ho, hoc⟩ := (hr k g.2).2
              rw [hcell] at ho
              cases ho
              simp [Obj.isCells] at hoc
            · exact .inr ⟨h1.keep (hc.weak (fun k _ g => .inl (hS k g.1))), h2⟩
          ra := h.ra.keep hc (fun k _ g => .inl (hS k g.1)), rb := fun k hk => Nat.lt_of_lt_of_le (h.rb k hk) hg.size, ab := fun k hk => Nat.lt_of_lt_of_le (h.ab k hk) hg.size }
theorem OrsL.keepNo {W W' : World} {S : Nat → Prop} {B p : Nat} {lv rv av : Value} {st : OSt} (h : OrsL W S B p lv rv av st) (hc : Chg No W W') : OrsL W' S B p lv rv av st where
  obj := hc.obj h.obj (not_no _)
  hp := h.hp
  hB := ⟨h.hB.1, Nat.le_trans h.hB.2 hc.size⟩
  sl := h.sl.keepNo hc
  rr := by
    rcases h.rr with ⟨h1, h2⟩ | ⟨h1, h2⟩
    · exact .inl ⟨h1.keepFlat hc (fun _ _ f => f), h2⟩
    · exact .inr ⟨h1.keepNo hc, h2⟩
  ra := h.ra.keepNo hc
  rb := fun k hk => Nat.lt_of_lt_of_le (h.rb k hk) hc.size
  ab := fun k hk => Nat.lt_of_lt_of_le (h.ab k hk) hc.size
theorem OrsL.app {W W5 : World} {S : Nat → Prop} {B p : Nat} {lv rv v' av : Value} {st : OSt} {x : Rn} (h : OrsL W S B p lv rv av st) (hown : Cb.Own No W5 0 124 v' (st.runs ++ [x]))
    (hc : Chg (fun k => OB rv k ∧ ¬ (¬ UpB S B W k ∨ k = p ∨ OB av k) ∧ IsC W k) W W5) (hb : ∀ k, OB v' k → (OB rv k ∧ ¬ (¬ UpB S B W k ∨ k = p ∨ OB av k)) ∨ W.heap.size ≤ k) :
    OrsL (W5.setCell ⟨p, 1, none⟩ v') S B p lv v' av ⟨st.last, st.runs ++ [x], st.after⟩ ∧ Chg (fun k => (OB rv k ∧ ¬ (¬ UpB S B W k ∨ k = p ∨ OB av k) ∧ IsC W k) ∨ k = p) W (W5.setCell ⟨p, 1, none⟩ v') := by
  have hs := chg_set (w := W5) (b := p) (i := 1) v'
  have hpW := lt_of_heap h.obj
  have hBW := h.hB
  have hSW : ∀ k, S k → k < W.heap.size := fun k s => by have := hBW.1 k s; omega
  have hcc : Chg (fun k => (OB rv k ∧ ¬ (¬ UpB S B W k ∨ k = p ∨ OB av k) ∧ IsC W k) ∨ k = p) W (W5.setCell ⟨p, 1, none⟩ v') := hc.trans' hs (fun k _ g => .inl g) (fun k _ g => .inr g)
  have hown' : Cb.Own No (W5.setCell ⟨p, 1, none⟩ v') 0 124 v' (st.runs ++ [x]) := hown.keepFlat hs (fun k hk g => by
    simp only [At] at g
    rcases hb k hk with f | f
    · exact f.2 (.inr (.inl g))
    · omega)
  refine ⟨{ obj := obj_set (hc.obj h.obj (fun g => g.2.1 (.inr (.inl rfl)))) rfl, hp := h.hp, hB := ⟨h.hB.1, Nat.le_trans h.hB.2 hcc.size⟩, sl := ?_, rr := .inl ⟨hown', ?_⟩, ra := ?_, rb := fun k hk => (hown'.lt k hk).2, ab := fun k hk => Nat.lt_of_lt_of_le (h.ab k hk) hcc.size }, hcc⟩
  · refine (h.sl.keep (hcc.weak (fun k _ g => ?_))).weak (fun k _ g => ?_)
    · rcases g with g | g
      · exact .inr (.inr (.inl g.1))
      · exact .inr (.inl g)
    · rcases g with g | g | g | g
      · exact .inl g
      · exact .inr (.inl g)
      · rcases hb k g with f | f
        · exact .inr (.inr (.inl f.1))
        · exact .inl (fun s => by have := hSW k s; omega)
      · exact .inr (.inr (.inr g))
  · intro k hk
    rcases hb k hk with f | f
    · refine ⟨fun e => f.2 (.inr (.inl e)), fun e => f.2 (.inr (.inr e)), ?_⟩
      have hu : UpB S B W k := Classical.byContradiction fun e => f.2 (.inl e)
      exact hu.imp id (fun g => g.1)
    · exact ⟨by omega, fun e => by have := h.ab k e; omega, .inr (by omega)⟩
  · refine (h.ra.keep hcc (fun k _ g => ?_)).weak (fun k _ g => ?_)
    · rcases g with g | g
      · exact .inr (.inr g.1)
      · exact .inr (.inl g)
    · rcases g with g | g | g
      · exact .inl g
      · exact .inr (.inl g)
      · rcases hb k g with f | f
        · exact .inr (.inr f.1)
        · exact .inl (fun s => by have := hSW k s; omega)
theorem OrsV.app {W W5 : World} {S : Nat → Prop} {p : Nat} {lv rv v' av : Value} {st : OSt} {x : Int} (h : OrsV W S p lv rv av st) (hown : Cb.Own No W5 0 3 v' (st.after ++ [x]))
    (hc : Chg (fun k => OB av k ∧ ¬ (¬ S k ∨ k = p ∨ OB rv k) ∧ IsC W k) W W5) (hb : ∀ k, OB v' k → (OB av k ∧ ¬ (¬ S k ∨ k = p ∨ OB rv k)) ∨ W.heap.size ≤ k) :
    Ors (W5.setCell ⟨p, 2, none⟩ v') (Up S W (W5.setCell ⟨p, 2, none⟩ v')) p ⟨st.last, st.runs, st.after ++ [x]⟩ ∧ Chg S W (W5.setCell ⟨p, 2, none⟩ v') ∧ Chg (fun k => (OB av k ∧ ¬ (¬ S k ∨ k = p ∨ OB rv k) ∧ IsC W k) ∨ k = p) W (W5.setCell ⟨p, 2, none⟩ v') := by
  have hs := chg_set (w := W5) (b := p) (i := 2) v'
  have hpW := lt_of_heap h.obj
  have hhi := h.hhi
  have hcc : Chg (fun k => (OB av k ∧ ¬ (¬ S k ∨ k = p ∨ OB rv k) ∧ IsC W k) ∨ k = p) W (W5.setCell ⟨p, 2, none⟩ v') := hc.trans' hs (fun k _ g => .inl g) (fun k _ g => .inr g)
  have hsz := hcc.size
  have hown' : Cb.Own No (W5.setCell ⟨p, 2, none⟩ v') 0 3 v' (st.after ++ [x]) := hown.keepFlat hs (fun k hk g => by
    simp only [At] at g
    rcases hb k hk with f | f
    · exact f.2 (.inr (.inl g))
    · omega)
  refine ⟨⟨lv, rv, v', { obj := obj_set (hc.obj h.obj (fun g => g.2.1 (.inr (.inl rfl)))) rfl, hp := .inl h.hp, hhi := fun k hk => by rcases hk with hk | hk; (have := hhi k hk; omega); exact hk.2, sl := ?_, rr := ?_, ra := .inl ⟨hown', ?_⟩, ob := ?_ }⟩, hcc.weak (fun k _ g => ?_), hcc⟩
  · refine (h.sl.keep (hcc.weak (fun k _ g => ?_))).weak (fun k hk g => ?_)
    · rcases g with g | g
      · exact .inr (.inr (.inr g.1))
      · exact .inr (.inl g)
    · rcases g with g | g | g | g
      · exact .inl (fun s => g (.inl s))
      · exact .inr (.inl g)
      · exact .inr (.inr (.inl g))
      · rcases hb k g with f | f
        · exact .inr (.inr (.inr f.1))
        · exact .inl (fun s => by have := hhi k s; omega)
  · refine (h.rr.keep hcc (fun k _ g => ?_)).weak (fun k hk g => ?_)
    · rcases g with g | g
      · exact .inr (.inr g.1)
      · exact .inr (.inl g)
    · rcases g with g | g | g
      · exact .inl (fun s => g (.inl s))
      · exact .inr (.inl g)
      · rcases hb k g with f | f
        · exact .inr (.inr f.1)
        · exact .inl (fun s => by have := hhi k s; omega)
  · intro k hk g
    have hlt := hown'.lt k hk
    rcases hb k hk with f | f
    · rcases g with g | g | g
      · exact f.2 (.inl (fun s => g (.inl s)))
      · exact f.2 (.inr (.inl g))
      · exact f.2 (.inr (.inr g))
    · rcases g with g | g | g
      · exact g (.inr ⟨f, hlt.2⟩)
      · omega
      · have := h.ob k (.inl g); omega
  · intro k hk
    rcases hk with hk | hk
    · have := h.ob k (.inl hk); omega
    · exact (hown'.lt k hk).2
  · rcases g with g | g
    · exact Classical.byContradiction fun e => g.2.1 (.inl e)
    · subst g; exact h.hp
theorem OrsV.turn {W W' : World} {S : Nat → Prop} {p : Nat} {lv rv av : Value} {st : OSt} {row : Option Nat} (h : OrsV W S p lv rv av st) (hg : W.grownBy W' row) (hr : ∀ r, row = some r → ∃ o : Obj, W.heap[r]? = some o ∧ o.isCells = false) : OrsV W' S p lv rv av st where
  obj := turn_obj h.obj hg hr
  hp := h.hp
  hhi := fun k hk => Nat.lt_of_lt_of_le (h.hhi k hk) hg.size
  sl := sl_turn h.sl hg hr
  rr := row_turn h.rr hg hr
  ra := row_turn h.ra hg hr
  ob := fun k hk => Nat.lt_of_lt_of_le (h.ob k hk) hg.size
/-- A new last cut, that lies in blocks which came since B. -/
theorem OrsV.setlast {W W1 : World} {S : Nat → Prop} {p : Nat} {lv v' rv av : Value} {st : OSt} {cut : List Int} (h : OrsV W S p lv rv av st) (hc : Chg No W W1) (hs : Sl (Lt W.heap.size) W1 v' cut) :
    OrsV (W1.setCell ⟨p, 0, none⟩ v') (Up S W W1) p v' rv av ⟨cut, st.runs, st.after⟩ := by
  have h1 := h.keepNo hc
  have hp := h.hhi p h.hp
  have hsz := hc.size
  have hset := chg_set (w := W1) (b := p) (i := 0) v'
  have hsz2 : (W1.setCell ⟨p, 0, none⟩ v').heap.size = W1.heap.size := by simp
  refine { obj := obj_set h1.obj rfl, hp := .inl h.hp, hhi := fun k hk => by rcases hk with hk | hk; (have := h.hhi k hk; omega); omega, sl := ?_, rr := ?_, ra := ?_, ob := fun k hk => by have := h.ob k hk; omega }
  · refine (hs.keep (hset.weak (fun k _ g => by simp only [At] at g; simp only [Lt]; omega))).weak (fun b hb g => ?_)
    simp only [Lt]
    rcases g with g | g | g | g
    · exact Classical.byContradiction fun e => g (.inr ⟨by omega, by omega⟩)
    · omega
    · exact h.ob b (.inl g)
    · exact h.ob b (.inr g)
  · exact (h1.rr.keep hset (fun k _ g => .inr (.inl g))).weak (fun b hb g => g.imp (fun g s => g (.inl s)) id)
  · exact (h1.ra.keep hset (fun k _ g => .inr (.inl g))).weak (fun b hb g => g.imp (fun g s => g (.inl s)) id)
/-- Between two rounds of Add's loop. -/
def AdsI (w : World) (S : Nat → Prop) (B p q2 q3 qa qb : Nat) (lv av vv : Value) (cut : List Int) (E : Array Value) (st : OSt) (pre : List Rn) (W : World) : Prop :=
  ∃ rv, OrsL W S B p lv rv av ⟨st.last, st.runs ++ pre, st.after⟩ ∧ W.heap[q2]? = some (.cells #[.pointer (some ⟨p, 0, none⟩)] 25 (0, 0)) ∧ W.heap[q3]? = some (.cells E 58 (0, 0)) ∧
    W.heap[qa]? = some (.cells #[.pointer (some ⟨p, 0, none⟩)] 25 (0, 0)) ∧ W.heap[qb]? = some (.cells #[vv] 46 (0, 0)) ∧ Sl (fun k => S k ∨ B ≤ k) W vv cut ∧ Chg S w W
section
variable {w W W' : World} {S : Nat → Prop} {B p q2 q3 qa qb : Nat} {lv av vv : Value} {cut : List Int} {E : Array Value} {st : OSt} {pre : List Rn}
theorem AdsI.turn {row : Option Nat} (h : AdsI w S B p q2 q3 qa qb lv av vv cut E st pre W) (hw : w.heap.size ≤ B) (hg : W.grownBy W' row) (hr : ∀ r, row = some r → B ≤ r ∧ ∃ o : Obj, W.heap[r]? = some o ∧ o.isCells = false) :
    AdsI w S B p q2 q3 qa qb lv av vv cut E st pre W' := by
  obtain ⟨rv, h1, h2, h3, h4, h5, h6, h7⟩ := h
  have hr2 : ∀ r, row = some r → ∃ o : Obj, W.heap[r]? = some o ∧ o.isCells = false := fun r e => (hr r e).2
  exact ⟨rv, h1.turn hg hr, turn_obj h2 hg hr2, turn_obj h3 hg hr2, turn_obj h4 hg hr2, turn_obj h5 hg hr2,
    h6.keep ((Chg.refl _ W).grown hg (fun k e => .inl (.inr (hr k e).1))), h7.grown hg (fun k e => .inr (by have := (hr k e).1; omega))⟩
theorem AdsI.no (h : AdsI w S B p q2 q3 qa qb lv av vv cut E st pre W) (hc : Chg No W W') : AdsI w S B p q2 q3 qa qb lv av vv cut E st pre W' := by
  obtain ⟨rv, h1, h2, h3, h4, h5, h6, h7⟩ := h
  exact ⟨rv, h1.keepNo hc, hc.obj h2 (not_no _), hc.obj h3 (not_no _), hc.obj h4 (not_no _), hc.obj h5 (not_no _), h6.keepNo hc, h7.trans hc.of_no⟩
theorem AdsI.brq (h : AdsI w S B p q2 q3 qa qb lv av vv cut E st pre W) : BrQ B p qa qb lv vv st.last cut W := by
  obtain ⟨rv, h1, h2, h3, h4, h5, h6, h7⟩ := h
  exact ⟨cell_obj (i := 0) h4 rfl, cell_obj (i := 0) h5 rfl, cell_obj (i := 0) h1.obj rfl, h1.sl.weak (fun k _ g => .inl (fun s => by have := h1.hB.1 k s; simp only [Ge] at g; omega)), h6.weak (fun k _ g => .inr g), h1.hB.2⟩
theorem AdsI.app {W5 : World} {rv v' : Value} {x : Rn} {rs : List Rn} (hrs : rs = st.runs ++ pre) (h1 : OrsL W S B p lv rv av ⟨st.last, rs, st.after⟩) (h2 : W.heap[q2]? = some (.cells #[.pointer (some ⟨p, 0, none⟩)] 25 (0, 0))) (h3 : W.heap[q3]? = some (.cells E 58 (0, 0)))
    (h4 : W.heap[qa]? = some (.cells #[.pointer (some ⟨p, 0, none⟩)] 25 (0, 0))) (h5 : W.heap[qb]? = some (.cells #[vv] 46 (0, 0))) (h6 : Sl (fun k => S k ∨ B ≤ k) W vv cut) (h7 : Chg S w W)
    (hq : (¬ S q2 ∧ q2 < B) ∧ (¬ S q3 ∧ q3 < B) ∧ (¬ S qa ∧ qa < B) ∧ (¬ S qb ∧ qb < B)) (hw : w.heap.size ≤ B)
    (hown : Cb.Own No W5 0 124 v' (rs ++ [x])) (hc : Chg (fun k => OB rv k ∧ ¬ (¬ UpB S B W k ∨ k = p ∨ OB av k) ∧ IsC W k) W W5) (hb : ∀ k, OB v' k → (OB rv k ∧ ¬ (¬ UpB S B W k ∨ k = p ∨ OB av k)) ∨ W.heap.size ≤ k) :
    KeepsFrom B W (W5.setCell ⟨p, 1, none⟩ v') ∧ AdsI w S B p q2 q3 qa qb lv av vv cut E st (pre ++ [x]) (W5.setCell ⟨p, 1, none⟩ v') := by
  subst hrs
  obtain ⟨k1, k2⟩ := h1.app hown hc hb
  have hge : ∀ k, ((OB rv k ∧ ¬ (¬ UpB S B W k ∨ k = p ∨ OB av k) ∧ IsC W k) ∨ k = p) → S k ∨ B ≤ k := fun k g => by
    rcases g with g | g
    · have hu : UpB S B W k := Classical.byContradiction fun e => g.2.1 (.inl e)
      exact hu.imp id (fun g => g.1)
    · subst g; exact .inl h1.hp
  have hno : ∀ q, ¬ S q → q < B → ¬ ((OB rv q ∧ ¬ (¬ UpB S B W q ∨ q = p ∨ OB av q) ∧ IsC W q) ∨ q = p) := fun q a b g => by
    rcases hge q g with g | g
    · exact a g
    · omega
  refine ⟨keeps_of_chg k2 (fun k o g ho => ?_), v', by rw [← List.append_assoc]; exact k1, k2.obj h2 (hno _ hq.1.1 hq.1.2), k2.obj h3 (hno _ hq.2.1.1 hq.2.1.2), k2.obj h4 (hno _ hq.2.2.1.1 hq.2.2.1.2), k2.obj h5 (hno _ hq.2.2.2.1 hq.2.2.2.2), h6.keep (k2.weak (fun k _ g => hge k g)), ?_⟩
  · rcases g with ⟨_, _, C, T, fz, hC⟩ | rfl
    · rw [hC] at ho; cases ho; rfl
    · rw [h1.obj] at ho; cases ho; rfl
  · refine h7.trans' k2 (fun _ _ g => g) (fun k hk g => ?_)
    rcases hge k g with g | g
    · exact g
    · omega
end
set_option maxRecDepth 100000 in
set_option maxHeartbeats 4000000 in
theorem oadds_any {sh p : Nat} {S : Nat → Prop} {st : OSt} {w : World} (h : Ors w S p st) (hI : Inv sh st) (e : Ent) (v : Value) (hs : Sl S w v e.2.2.1) (hl : e.2.2.1.length * 8 ≤ 140737488355328) :
    Calls Try.prog 26 #[.pointer (some ⟨p, 0, none⟩), entV e v] w (AdsPost (addF st e) S p w) := by
  have hright := Lib.hid (fun W hW => eright_any _ e v W (hs.keepNo (w' := W) hW) hl)
  have hent := Lib.hid (fun W hW => oentries_any (h.ord.keepNo (w' := W) hW) hI)
  have Hs := Lib.hid hs
  have H := Lib.hid h
  have HI := Lib.hid hI
  obtain ⟨n, k, cut, tag, t, u⟩ := e
  simp only at hs hl
  obtain ⟨A, c, rfl, hcl, _⟩ := id hs
  have hpl : p < w.heap.size := by obtain ⟨lv, rv, av, h⟩ := h; exact lt_of_heap h.obj
  have hc0 : Chg No w ((w.alloc (.cells #[.pointer (some ⟨p, 0, none⟩)] 25)).alloc (.cells #[.int .i64 n, .int .i64 k, .slice A cut.length c, .int .i64 tag, .int .i64 t, .int .i64 u] 58)) := ((Chg.refl No w).alloc _).alloc _
  have o2 : ((w.alloc (.cells #[.pointer (some ⟨p, 0, none⟩)] 25)).alloc (.cells #[.int .i64 n, .int .i64 k, .slice A cut.length c, .int .i64 tag, .int .i64 t, .int .i64 u] 58)).heap[w.heap.size]? = some (.cells #[.pointer (some ⟨p, 0, none⟩)] 25 (0, 0)) :=
    ((Chg.refl No _).alloc _).obj (alloc_obj w _) (not_no _)
  have o3 : ((w.alloc (.cells #[.pointer (some ⟨p, 0, none⟩)] 25)).alloc (.cells #[.int .i64 n, .int .i64 k, .slice A cut.length c, .int .i64 tag, .int .i64 t, .int .i64 u] 58)).heap[w.heap.size + 1]? = some (.cells #[.int .i64 n, .int .i64 k, .slice A cut.length c, .int .i64 tag, .int .i64 t, .int .i64 u] 58 (0, 0)) := by
    have := alloc_obj (w.alloc (.cells #[.pointer (some ⟨p, 0, none⟩)] 25)) (.cells #[.int .i64 n, .int .i64 k, .slice A cut.length c, .int .i64 tag, .int .i64 t, .int .i64 u] 58)
    rw [World.size_alloc] at this
    exact this
  have hmany := hI.many
  have hafter : 1 ≤ st.after.length := by obtain ⟨a, ha⟩ := hI.aft; simp [ha]
  have hstay : ∀ x W, Chg No w W → addF st (n, k, cut, tag, t, u) = (st, x) → AdsPost (addF st (n, k, cut, tag, t, u)) S p w (.returned (.int .i64 x)) W := fun x W hW he => by
    rw [he]; exact ⟨rfl, hW.of_no, (H.out.keepNo hW).up⟩
  have Hstay := Lib.hid hstay
  have hAdd := Lib.hid (show addF st (n, k, cut, tag, t, u) = addF st (n, k, cut, tag, t, u) from rfl)
  have hq : w.heap.size < w.heap.size + 1 := by omega
  unfold entV at *
  simp only at *
  clear hs h hI hstay
  refine calls_of_marks Try.func26 rfl ?_
  simp only [Try.ntmps26, List.size_toArray, List.length_cons, List.length_nil, Nat.reduceAdd, Nat.reduceSub, Array.replicate_succ, Array.replicate_zero, List.push_toArray, List.append_toArray, List.nil_append, List.cons_append]
  go_wp2_with (with_reducible first | refine stop_append ?_ | refine stop_copy ?_ | refine stop_make ?_ | refine stop_lookup ?_ | refine stop_update ?_ | refine stop_slice ?_ | refine stop_range ?_ | refine stop_next ?_ | refine stop_convert ⟨_, rfl⟩ ?_ | refine stop_convertB ⟨_, _, _, rfl⟩ ?_ | refine stop_eqSlice ⟨_, _, rfl⟩ ?_)
  generalize (w.alloc (.cells #[.pointer (some ⟨p, 0, none⟩)] 25)).alloc (.cells #[.int .i64 n, .int .i64 k, .slice A cut.length c, .int .i64 tag, .int .i64 t, .int .i64 u] 58) = w0 at *
  generalize hq3 : w.heap.size + 1 = q3 at *
  generalize hq2 : w.heap.size = q2 at *
  have b2 : w0.cell? ⟨q2, 0, none⟩ = some (.pointer (some ⟨p, 0, none⟩)) := cell_obj (i := 0) o2 rfl
  have d0 : w0.cell? ⟨q3, 0, none⟩ = some (.int .i64 n) := cell_obj (i := 0) o3 rfl
  have d1 : w0.cell? ⟨q3, 1, none⟩ = some (.int .i64 k) := cell_obj (i := 1) o3 rfl
  have d2 : w0.cell? ⟨q3, 2, none⟩ = some (.slice A cut.length c) := cell_obj (i := 2) o3 rfl
  have d3 : w0.cell? ⟨q3, 3, none⟩ = some (.int .i64 tag) := cell_obj (i := 3) o3 rfl
  have d4 : w0.cell? ⟨q3, 4, none⟩ = some (.int .i64 t) := cell_obj (i := 4) o3 rfl
  have d5 : w0.cell? ⟨q3, 5, none⟩ = some (.int .i64 u) := cell_obj (i := 5) o3 rfl
  have hS : ∀ W, Chg No w0 W → (fun W => W.cell? ⟨q2, 0, none⟩ = some (.pointer (some ⟨p, 0, none⟩)) ∧ W.cell? ⟨q3, 0, none⟩ = some (.int .i64 n) ∧ W.cell? ⟨q3, 1, none⟩ = some (.int .i64 k) ∧ W.cell? ⟨q3, 2, none⟩ = some (.slice A cut.length c) ∧ W.cell? ⟨q3, 3, none⟩ = some (.int .i64 tag) ∧ W.cell? ⟨q3, 4, none⟩ = some (.int .i64 t) ∧ W.cell? ⟨q3, 5, none⟩ = some (.int .i64 u) ∧ Chg No w0 W) W := fun W h => ⟨h.cell b2 (not_no _), h.cell d0 (not_no _), h.cell d1 (not_no _), h.cell d2 (not_no _), h.cell d3 (not_no _), h.cell d4 (not_no _), h.cell d5 (not_no _), h⟩
  have HS := Lib.hid hS
  have s0 := hS _ (Chg.refl No w0).drew
  clear b2 d0 d1 d2 d3 d4 d5 hS
  cases hb : entR (n, k, cut, tag, t, u) with
  | false =>
    have hres := Lib.hid (show addF st (n, k, cut, tag, t, u) = (st, 150) by unfold addF; rw [if_neg (fun h => by rw [hb] at h; cases h.1)])
    rw [hb] at hright
    refine pl_start (fun W => W.cell? ⟨q2, 0, none⟩ = some (.pointer (some ⟨p, 0, none⟩)) ∧ W.cell? ⟨q3, 0, none⟩ = some (.int .i64 n) ∧ W.cell? ⟨q3, 1, none⟩ = some (.int .i64 k) ∧ W.cell? ⟨q3, 2, none⟩ = some (.slice A cut.length c) ∧ W.cell? ⟨q3, 3, none⟩ = some (.int .i64 tag) ∧ W.cell? ⟨q3, 4, none⟩ = some (.int .i64 t) ∧ W.cell? ⟨q3, 5, none⟩ = some (.int .i64 u) ∧ Chg No w0 W) (by kernel_rfl) (by kernel_rfl) s0 ?_
    ((refine pl_nx [] (v := ?_) rfl (by kernel_rfl) rfl ?_ ?_; rotate_left; focus (intro W hW; (try dsimp only at hW); go_split_ands; go_simp; (try (simp (disch := omega) only [IntWalk.i64_in]; (try go_simp))); (try (split; (next => omega); (try go_simp))); try rfl; done)); try simp only [Act.put, List.setIfInBounds_toArray, List.set_cons_zero, List.set_cons_succ, Nat.reduceAdd])
    refine pl_callx 1 (.bool false) rfl (by kernel_rfl) rfl (by exact (fun W hW => (hright.out W (hc0.trans hW.2.2.2.2.2.2.2)).mono fun x w' h => ⟨h.1, HS.out _ (hW.2.2.2.2.2.2.2.trans h.2)⟩)) (fun W => by kernel_rfl) ?_
    try simp only [Act.put, List.setIfInBounds_toArray, List.set_cons_zero, List.set_cons_succ, Nat.reduceAdd]
    iterate 2 ((refine pl_nx [] (v := ?_) rfl (by kernel_rfl) rfl ?_ ?_; rotate_left; focus (intro W hW; (try dsimp only at hW); go_split_ands; go_simp; (try (simp (disch := omega) only [IntWalk.i64_in]; (try go_simp))); (try (split; (next => omega); (try go_simp))); try rfl; done)); try simp only [Act.put, List.setIfInBounds_toArray, List.set_cons_zero, List.set_cons_succ, Nat.reduceAdd])
    iterate 3 ((first | (refine pl_nn [] rfl (by kernel_rfl) rfl ?_) | (refine pl_nx [] (v := ?_) rfl (by kernel_rfl) rfl ?_ ?_; rotate_left; focus (intro W hW; (try dsimp only at hW); go_split_ands; go_simp; (try (simp (disch := omega) only [IntWalk.i64_in]; (try go_simp))); (try (split; (next => omega); (try go_simp))); try rfl; done))); try simp only [Act.put, List.setIfInBounds_toArray, List.set_cons_zero, List.set_cons_succ, Nat.reduceAdd])
    refine pl_nox 7 (by kernel_rfl) rfl rfl ?_
    try simp only [Act.put, List.setIfInBounds_toArray, List.set_cons_zero, List.set_cons_succ, Nat.reduceAdd]
    iterate 2 ((first | (refine pl_nn [] rfl (by kernel_rfl) rfl ?_) | (refine pl_nx [] (v := ?_) rfl (by kernel_rfl) rfl ?_ ?_; rotate_left; focus (intro W hW; (try dsimp only at hW); go_split_ands; go_simp; (try (simp (disch := omega) only [IntWalk.i64_in]; (try go_simp))); (try (split; (next => omega); (try go_simp))); try rfl; done))); try simp only [Act.put, List.setIfInBounds_toArray, List.set_cons_zero, List.set_cons_succ, Nat.reduceAdd])
    ((refine pl_nx [] (v := ?_) rfl (by kernel_rfl) rfl ?_ ?_; rotate_left; focus (intro W hW; (try dsimp only at hW); go_split_ands; go_simp; (try (simp (disch := omega) only [IntWalk.i64_in]; (try go_simp))); (try (split; (next => omega); (try go_simp))); try rfl; done)); try simp only [Act.put, List.setIfInBounds_toArray, List.set_cons_zero, List.set_cons_succ, Nat.reduceAdd])
    refine pl_done (by kernel_rfl)  ?_
    rintro w1 ⟨_, _, _, _, _, _, _, hc1⟩
    go_wp2_with (with_reducible first | refine stop_append ?_ | refine stop_copy ?_ | refine stop_make ?_ | refine stop_lookup ?_ | refine stop_update ?_ | refine stop_slice ?_ | refine stop_range ?_ | refine stop_next ?_ | refine stop_convert ⟨_, rfl⟩ ?_ | refine stop_convertB ⟨_, _, _, rfl⟩ ?_ | refine stop_eqSlice ⟨_, _, rfl⟩ ?_)
    refine marks_ret (results_tmp rfl _ _ _) ?_
    exact Hstay.out _ _ (hc0.trans hc1) hres.out
  | true =>
    rw [hb] at hright
    have Hb := Lib.hid hb
    clear hb
    refine pl_start (fun W => W.cell? ⟨q2, 0, none⟩ = some (.pointer (some ⟨p, 0, none⟩)) ∧ W.cell? ⟨q3, 0, none⟩ = some (.int .i64 n) ∧ W.cell? ⟨q3, 1, none⟩ = some (.int .i64 k) ∧ W.cell? ⟨q3, 2, none⟩ = some (.slice A cut.length c) ∧ W.cell? ⟨q3, 3, none⟩ = some (.int .i64 tag) ∧ W.cell? ⟨q3, 4, none⟩ = some (.int .i64 t) ∧ W.cell? ⟨q3, 5, none⟩ = some (.int .i64 u) ∧ Chg No w0 W) (by kernel_rfl) (by kernel_rfl) s0 ?_
    ((refine pl_nx [] (v := ?_) rfl (by kernel_rfl) rfl ?_ ?_; rotate_left; focus (intro W hW; (try dsimp only at hW); go_split_ands; go_simp; (try (simp (disch := omega) only [IntWalk.i64_in]; (try go_simp))); (try (split; (next => omega); (try go_simp))); try rfl; done)); try simp only [Act.put, List.setIfInBounds_toArray, List.set_cons_zero, List.set_cons_succ, Nat.reduceAdd])
    refine pl_callx 1 (.bool true) rfl (by kernel_rfl) rfl (by exact (fun W hW => (hright.out W (hc0.trans hW.2.2.2.2.2.2.2)).mono fun x w' h => ⟨h.1, HS.out _ (hW.2.2.2.2.2.2.2.trans h.2)⟩)) (fun W => by kernel_rfl) ?_
    try simp only [Act.put, List.setIfInBounds_toArray, List.set_cons_zero, List.set_cons_succ, Nat.reduceAdd]
    iterate 2 ((refine pl_nx [] (v := ?_) rfl (by kernel_rfl) rfl ?_ ?_; rotate_left; focus (intro W hW; (try dsimp only at hW); go_split_ands; go_simp; (try (simp (disch := omega) only [IntWalk.i64_in]; (try go_simp))); (try (split; (next => omega); (try go_simp))); try rfl; done)); try simp only [Act.put, List.setIfInBounds_toArray, List.set_cons_zero, List.set_cons_succ, Nat.reduceAdd])
    iterate 3 ((first | (refine pl_nn [] rfl (by kernel_rfl) rfl ?_) | (refine pl_nx [] (v := ?_) rfl (by kernel_rfl) rfl ?_ ?_; rotate_left; focus (intro W hW; (try dsimp only at hW); go_split_ands; go_simp; (try (simp (disch := omega) only [IntWalk.i64_in]; (try go_simp))); (try (split; (next => omega); (try go_simp))); try rfl; done))); try simp only [Act.put, List.setIfInBounds_toArray, List.set_cons_zero, List.set_cons_succ, Nat.reduceAdd])
    refine pl_callx 7 (.int .i64 (st.after.length - 1)) rfl (by kernel_rfl) rfl (by exact (fun W hW => (hent.out W (hc0.trans hW.2.2.2.2.2.2.2)).mono fun x w' h => ⟨h.1, by rw [← h.2]; exact hW⟩)) (fun W => by kernel_rfl) ?_
    try simp only [Act.put, List.setIfInBounds_toArray, List.set_cons_zero, List.set_cons_succ, Nat.reduceAdd]
    iterate 2 ((first | (refine pl_nn [] rfl (by kernel_rfl) rfl ?_) | (refine pl_nx [] (v := ?_) rfl (by kernel_rfl) rfl ?_ ?_; rotate_left; focus (intro W hW; (try dsimp only at hW); go_split_ands; go_simp; (try (simp (disch := omega) only [IntWalk.i64_in]; (try go_simp))); (try (split; (next => omega); (try go_simp))); try rfl; done))); try simp only [Act.put, List.setIfInBounds_toArray, List.set_cons_zero, List.set_cons_succ, Nat.reduceAdd])
    ((refine pl_nx [] (v := ?_) rfl (by kernel_rfl) rfl ?_ ?_; rotate_left; focus (intro W hW; (try dsimp only at hW); go_split_ands; go_simp; (try (simp (disch := omega) only [IntWalk.i64_in]; (try go_simp))); (try (split; (next => omega); (try go_simp))); try rfl; done)); try simp only [Act.put, List.setIfInBounds_toArray, List.set_cons_zero, List.set_cons_succ, Nat.reduceAdd])
    refine pl_done (by kernel_rfl)  ?_
    rintro w1 ⟨_, _, _, _, _, _, _, hc1⟩
    have hcw1 := hc0.trans hc1
    have s1 := HS.out w1 hc1
    by_cases hn : n = st.after.length
    · have hn2 : (n != (st.after.length : Int) - 1 + 1) = false := by simp; omega
      have hn3 : (n == (st.after.length : Int)) = true := by simpa using hn
      have Hn := Lib.hid hn
      clear hn
      by_cases hk : k = 1
      · subst hk
        obtain ⟨s12, _, s11, s13, _, _, _, _⟩ := s1
        obtain ⟨lv, rv, av, hv⟩ := H.out.keepNo hcw1
        obtain ⟨A0, c0, rfl⟩ := hv.sl.slice
        have cp : w1.cell? ⟨p, 0, none⟩ = some (.slice A0 st.last.length c0) := cell_obj (i := 0) hv.obj rfl
        have h8 := (vright_iff.1 HI.out.right).2.1
        have hcov := Lib.hid (fun W hW => vcovers_any _ _ _ _ cut st.last W (Hs.out.keepNo (w' := W) (hcw1.trans hW)) (hv.sl.keepNo hW) hl (by omega))
        have htot := Lib.hid (fun W hW => vtotal_any _ _ cut W (Hs.out.keepNo (w' := W) (hcw1.trans hW)) hl)
        cases hcv : coversB cut st.last with
        | false =>
          have hres := Lib.hid (show addF st (n, 1, cut, tag, t, u) = (st, 150) by unfold addF; rw [if_pos ⟨Hb.out, Hn.out⟩]; simp only [if_true]; rw [if_neg (by rw [hcv]; simp)])
          rw [hcv] at hcov
          clear hcv
          go_wp2_with (with_reducible first | refine stop_append ?_ | refine stop_copy ?_ | refine stop_make ?_ | refine stop_lookup ?_ | refine stop_update ?_ | refine stop_slice ?_ | refine stop_range ?_ | refine stop_next ?_ | refine stop_convert ⟨_, rfl⟩ ?_ | refine stop_convertB ⟨_, _, _, rfl⟩ ?_ | refine stop_eqSlice ⟨_, _, rfl⟩ ?_)
          refine pl_start (fun W => W.cell? ⟨q2, 0, none⟩ = some (.pointer (some ⟨p, 0, none⟩)) ∧ W.cell? ⟨q3, 2, none⟩ = some (.slice A cut.length c) ∧ W.cell? ⟨p, 0, none⟩ = some (.slice A0 st.last.length c0) ∧ Chg No w1 W) (by kernel_rfl) (by kernel_rfl) ⟨s12, s13, cp, (Chg.refl No w1).drew⟩ ?_
          iterate 6 ((refine pl_nx [] (v := ?_) rfl (by kernel_rfl) rfl ?_ ?_; rotate_left; focus (intro W hW; (try dsimp only at hW); go_split_ands; go_simp; (try (simp (disch := omega) only [IntWalk.i64_in]; (try go_simp))); (try (split; (next => omega); (try go_simp))); try rfl; done)); try simp only [Act.put, List.setIfInBounds_toArray, List.set_cons_zero, List.set_cons_succ, Nat.reduceAdd])
          refine pl_callx 6 (.bool false) rfl (by kernel_rfl) rfl (by exact (fun W hW => (hcov.out W hW.2.2.2).mono fun x w' h => ⟨h.1, h.2.cell hW.1 (not_no _), h.2.cell hW.2.1 (not_no _), h.2.cell hW.2.2.1 (not_no _), hW.2.2.2.trans h.2⟩)) (fun W => by kernel_rfl) ?_
          try simp only [Act.put, List.setIfInBounds_toArray, List.set_cons_zero, List.set_cons_succ, Nat.reduceAdd]
          iterate 2 ((refine pl_nx [] (v := ?_) rfl (by kernel_rfl) rfl ?_ ?_; rotate_left; focus (intro W hW; (try dsimp only at hW); go_split_ands; go_simp; (try (simp (disch := omega) only [IntWalk.i64_in]; (try go_simp))); (try (split; (next => omega); (try go_simp))); try rfl; done)); try simp only [Act.put, List.setIfInBounds_toArray, List.set_cons_zero, List.set_cons_succ, Nat.reduceAdd])
          refine pl_done (by kernel_rfl)  ?_
          rintro w2 ⟨_, _, _, hc2⟩
          go_wp2_with (with_reducible first | refine stop_append ?_ | refine stop_copy ?_ | refine stop_make ?_ | refine stop_lookup ?_ | refine stop_update ?_ | refine stop_slice ?_ | refine stop_range ?_ | refine stop_next ?_ | refine stop_convert ⟨_, rfl⟩ ?_ | refine stop_convertB ⟨_, _, _, rfl⟩ ?_ | refine stop_eqSlice ⟨_, _, rfl⟩ ?_)
          refine marks_ret (results_tmp rfl _ _ _) ?_
          exact Hstay.out _ _ (hcw1.trans hc2) hres.out
        | true =>
          rw [hcv] at hcov
          have Hcv := Lib.hid hcv
          clear hcv
          go_wp2_with (with_reducible first | refine stop_append ?_ | refine stop_copy ?_ | refine stop_make ?_ | refine stop_lookup ?_ | refine stop_update ?_ | refine stop_slice ?_ | refine stop_range ?_ | refine stop_next ?_ | refine stop_convert ⟨_, rfl⟩ ?_ | refine stop_convertB ⟨_, _, _, rfl⟩ ?_ | refine stop_eqSlice ⟨_, _, rfl⟩ ?_)
          refine pl_start (fun W => W.cell? ⟨q2, 0, none⟩ = some (.pointer (some ⟨p, 0, none⟩)) ∧ W.cell? ⟨q3, 2, none⟩ = some (.slice A cut.length c) ∧ W.cell? ⟨p, 0, none⟩ = some (.slice A0 st.last.length c0) ∧ Chg No w1 W) (by kernel_rfl) (by kernel_rfl) ⟨s12, s13, cp, (Chg.refl No w1).drew⟩ ?_
          iterate 6 ((refine pl_nx [] (v := ?_) rfl (by kernel_rfl) rfl ?_ ?_; rotate_left; focus (intro W hW; (try dsimp only at hW); go_split_ands; go_simp; (try (simp (disch := omega) only [IntWalk.i64_in]; (try go_simp))); (try (split; (next => omega); (try go_simp))); try rfl; done)); try simp only [Act.put, List.setIfInBounds_toArray, List.set_cons_zero, List.set_cons_succ, Nat.reduceAdd])
          refine pl_callx 6 (.bool true) rfl (by kernel_rfl) rfl (by exact (fun W hW => (hcov.out W hW.2.2.2).mono fun x w' h => ⟨h.1, h.2.cell hW.1 (not_no _), h.2.cell hW.2.1 (not_no _), h.2.cell hW.2.2.1 (not_no _), hW.2.2.2.trans h.2⟩)) (fun W => by kernel_rfl) ?_
          try simp only [Act.put, List.setIfInBounds_toArray, List.set_cons_zero, List.set_cons_succ, Nat.reduceAdd]
          iterate 2 ((refine pl_nx [] (v := ?_) rfl (by kernel_rfl) rfl ?_ ?_; rotate_left; focus (intro W hW; (try dsimp only at hW); go_split_ands; go_simp; (try (simp (disch := omega) only [IntWalk.i64_in]; (try go_simp))); (try (split; (next => omega); (try go_simp))); try rfl; done)); try simp only [Act.put, List.setIfInBounds_toArray, List.set_cons_zero, List.set_cons_succ, Nat.reduceAdd])
          refine pl_done (by kernel_rfl)  ?_
          rintro w2 ⟨s12, s13, cp, hc2⟩
          by_cases hbig : 1000000 < total cut
          · have hres := Lib.hid (show addF st (n, 1, cut, tag, t, u) = (st, 1) by unfold addF; rw [if_pos ⟨Hb.out, Hn.out⟩]; simp only [if_true]; rw [if_pos Hcv.out, if_pos hbig])
            go_wp2_with (with_reducible first | refine stop_append ?_ | refine stop_copy ?_ | refine stop_make ?_ | refine stop_lookup ?_ | refine stop_update ?_ | refine stop_slice ?_ | refine stop_range ?_ | refine stop_next ?_ | refine stop_convert ⟨_, rfl⟩ ?_ | refine stop_convertB ⟨_, _, _, rfl⟩ ?_ | refine stop_eqSlice ⟨_, _, rfl⟩ ?_)
            refine (htot.out _ hc2).mono ?_
            rintro x w3 ⟨rfl, hc3⟩
            go_wp2_with (with_reducible first | refine stop_append ?_ | refine stop_copy ?_ | refine stop_make ?_ | refine stop_lookup ?_ | refine stop_update ?_ | refine stop_slice ?_ | refine stop_range ?_ | refine stop_next ?_ | refine stop_convert ⟨_, rfl⟩ ?_ | refine stop_convertB ⟨_, _, _, rfl⟩ ?_ | refine stop_eqSlice ⟨_, _, rfl⟩ ?_)
            refine marks_ret (results_tmp rfl _ _ _) ?_
            exact Hstay.out _ _ ((hcw1.trans hc2).trans hc3) hres.out
          · have hres := Lib.hid (show addF st (n, 1, cut, tag, t, u) = (⟨cut, st.runs ++ bringsF st.len 0 st.last cut, st.after ++ [total cut]⟩, 0) by unfold addF; rw [if_pos ⟨Hb.out, Hn.out⟩]; simp only [if_true]; rw [if_pos Hcv.out, if_neg hbig])
            go_wp2_with (with_reducible first | refine stop_append ?_ | refine stop_copy ?_ | refine stop_make ?_ | refine stop_lookup ?_ | refine stop_update ?_ | refine stop_slice ?_ | refine stop_range ?_ | refine stop_next ?_ | refine stop_convert ⟨_, rfl⟩ ?_ | refine stop_convertB ⟨_, _, _, rfl⟩ ?_ | refine stop_eqSlice ⟨_, _, rfl⟩ ?_)
            refine (htot.out _ hc2).mono ?_
            rintro x w3 ⟨rfl, hc3⟩
            have s12 := hc3.cell s12 (not_no _)
            have s13 := hc3.cell s13 (not_no _)
            have cp := hc3.cell cp (not_no _)
            have hv3 := hv.keep (hc2.trans hc3) (fun _ f => f.elim)
            have hcw3 := (hcw1.trans hc2).trans hc3
            have o2 := ((hc1.trans hc2).trans hc3).obj o2 (not_no _)
            have o3 := ((hc1.trans hc2).trans hc3).obj o3 (not_no _)
            have hq3s : q3 < w3.heap.size := lt_of_heap o3
            clear hc2 hc3 hv hcov HS s0 hent hright
            go_wp2_with (with_reducible first | refine stop_append ?_ | refine stop_copy ?_ | refine stop_make ?_ | refine stop_lookup ?_ | refine stop_update ?_ | refine stop_slice ?_ | refine stop_range ?_ | refine stop_next ?_ | refine stop_convert ⟨_, rfl⟩ ?_ | refine stop_convertB ⟨_, _, _, rfl⟩ ?_ | refine stop_eqSlice ⟨_, _, rfl⟩ ?_)
            refine (brings_any p A cut.length c _).mono ?_
            rintro x w4 ⟨rfl, rfl⟩
            go_wp2_with (with_reducible first | refine stop_append ?_ | refine stop_copy ?_ | refine stop_make ?_ | refine stop_lookup ?_ | refine stop_update ?_ | refine stop_slice ?_ | refine stop_range ?_ | refine stop_next ?_ | refine stop_convert ⟨_, rfl⟩ ?_ | refine stop_convertB ⟨_, _, _, rfl⟩ ?_ | refine stop_eqSlice ⟨_, _, rfl⟩ ?_)
            obtain ⟨ws, hws⟩ : ∃ W, W = (w3.alloc (.cells #[.pointer (some ⟨p, 0, none⟩)] 25)).alloc (.cells #[.slice A cut.length c] 46) := ⟨_, rfl⟩
            have hcs : Chg No w3 ws := by rw [hws]; exact ((Chg.refl No w3).alloc _).alloc _
            have oa : ws.heap[w3.heap.size]? = some (.cells #[.pointer (some ⟨p, 0, none⟩)] 25 (0, 0)) := by rw [hws]; exact ((Chg.refl No _).alloc _).obj (alloc_obj w3 _) (not_no _)
            have ob : ws.heap[w3.heap.size + 1]? = some (.cells #[.slice A cut.length c] 46 (0, 0)) := by
              have := alloc_obj (w3.alloc (.cells #[.pointer (some ⟨p, 0, none⟩)] 25)) (.cells #[.slice A cut.length c] 46)
              rw [World.size_alloc] at this
              rw [hws]; exact this
            have hB : ws.heap.size = w3.heap.size + 1 + 1 := by rw [hws]; simp
            rw [← hws]
            clear hws s12 s13 cp s11
            have o2 := hcs.obj o2 (not_no _)
            have o3 := hcs.obj o3 (not_no _)
            have hvs := hv3.keep hcs (fun _ f => f.elim)
            have hws3 : w.heap.size ≤ w3.heap.size := hcw3.size
            obtain ⟨hgr, hgv, hge⟩ := covers_iff.1 Hcv.out
            have hhi : ∀ k, S k → k < w.heap.size := by obtain ⟨_, _, _, h⟩ := H.out; exact h.hhi
            have hI0 : AdsI w S ws.heap.size p q2 q3 w3.heap.size (w3.heap.size + 1) (.slice A0 st.last.length c0) av (.slice A cut.length c) cut #[.int .i64 n, .int .i64 1, .slice A cut.length c, .int .i64 tag, .int .i64 t, .int .i64 u] st [] ws :=
              ⟨rv, by rw [List.append_nil]; exact hvs.loop (fun k s => by have := hhi k s; omega) (Nat.le_refl _), o2, o3, oa, ob, (Hs.out.keepNo (hcw3.trans hcs)).weak (fun b hb g => by rcases g with g | g; exact g; omega), (hcw3.trans hcs).of_no⟩
            have hpB : p < ws.heap.size := by omega
            have hwB : w.heap.size ≤ ws.heap.size := by omega
            refine wp_rangeFunc_box (α := Rn) (encs := encR) (gf := 95) (lb := #[.pointer (some ⟨w3.heap.size, 0, none⟩), .pointer (some ⟨w3.heap.size + 1, 0, none⟩)]) rfl (fun args W => by kernel_rfl) (BrQ ws.heap.size p w3.heap.size (w3.heap.size + 1) (.slice A0 st.last.length c0) (.slice A cut.length c) st.last cut) (xs := bringsF st.len 0 st.last cut)
              (brings_stops (H.out.keepNo (hcw3.trans hcs)).ord HI.out hge (by have := hge.len; omega) (fun x hx => ((vright_iff.1 hgr).2.2 x hx).2) hI0.brq) (fun _ => rfl) (AdsI w S ws.heap.size p q2 q3 w3.heap.size (w3.heap.size + 1) (.slice A0 st.last.length c0) av (.slice A cut.length c) cut #[.int .i64 n, .int .i64 1, .slice A cut.length c, .int .i64 tag, .int .i64 t, .int .i64 u] st) (fun _ _ h => h.brq) (fun s W W' row h hg hr => h.turn hwB hg hr) (fun W W' row h hg hr => h.turn hg hr (by omega) (by omega) hpB) hI0 5 124 (fun x => #[.int .i64 x.1, .int .i64 x.2.1.1, .int .i64 x.2.1.2, .int .i64 x.2.2]) (fun b W => p < W.heap.size ∧ ∀ u, W.cell? ⟨p, 1, none⟩ = some u → ¬ OB u b)
              (fun pre W W' h hc => by
                obtain ⟨rv', h1, _⟩ := h
                refine ⟨Nat.lt_of_lt_of_le (lt_of_heap h1.obj) hc.size, fun u hu => ?_⟩
                have := hc.cell (cell_obj (i := 1) h1.obj rfl) (not_no _)
                rw [this] at hu
                cases hu
                exact fun e => by have := h1.rb _ e; omega)
              (fun b W W' row h hg hr => ⟨Nat.lt_of_lt_of_le h.1 hg.size, fun u hu => h.2 u (by
                rw [← World.cell?_of_block (w := W) (a := ⟨p, 1, none⟩) (hg.block p h.1 (fun e => by have := (hr p e.symm).1; omega))]; exact hu)⟩) ?assign (fun _ _ _ h hc => h.no hc) (fun _ _ h => by obtain ⟨_, h, _⟩ := h; exact h.hB.2) ?body ?done
            case assign =>
              intro l pre x W K hi0 hK
              rw [show wideAt (some l) = Fence.wide.inRound l from rfl]
              dsimp only [encR] at hK ⊢
              have HK := Lib.hid hK
              clear hK
              gi_wp2
              have hk := HK.out _ ((Chg.refl No W).alloc _) (alloc_obj W _)
              simp only [List.zip_toArray, List.zip_cons_cons, List.zip_nil_right, List.foldl_toArray, List.foldl_cons, List.foldl_nil, List.setIfInBounds_toArray, List.set_cons_zero, List.set_cons_succ] at hk
              exact hk
            case body =>
              intro l pre x b W hi0 hbB hbo hz hlen
              dsimp only [encR]
              obtain ⟨rv', h1, h2, h3, h4, h5, h6, h7⟩ := hi0
              obtain ⟨rs, hrs⟩ : ∃ rs, rs = st.runs ++ pre := ⟨_, rfl⟩
              rw [← hrs] at h1
              have Hrsl := Lib.hid (show rs.length = st.runs.length + pre.length by rw [hrs]; simp)
              have Hrs := Lib.hid hrs
              clear hrs
              obtain ⟨A6, c6, rfl⟩ := h1.row.slice
              have b2 := cell_obj (i := 0) h2 rfl
              have bp := cell_obj (i := 1) h1.obj rfl
              simp only [List.zip_toArray, List.zip_cons_cons, List.zip_nil_right, List.foldl_toArray, List.foldl_cons, List.foldl_nil, List.setIfInBounds_toArray, List.set_cons_zero, List.set_cons_succ]
              refine wpIn_block ?_
              obtain ⟨x0, ⟨x1, x2⟩, x3⟩ := x
              simp only at hbo ⊢
              have e0 : W.cell? ⟨b, 0, none⟩ = some (.int .i64 x0) := cell_obj (i := 0) hbo rfl
              have e1 : W.cell? ⟨b, 1, none⟩ = some (.int .i64 x1) := cell_obj (i := 1) hbo rfl
              have e2 : W.cell? ⟨b, 2, none⟩ = some (.int .i64 x2) := cell_obj (i := 2) hbo rfl
              have e3 : W.cell? ⟨b, 3, none⟩ = some (.int .i64 x3) := cell_obj (i := 3) hbo rfl
              have b2 : W.cell? ⟨q2, 0, none⟩ = some (.pointer (some ⟨p, 0, none⟩)) := cell_obj (i := 0) h2 rfl
              have bp : W.cell? ⟨p, 1, none⟩ = some (.slice A6 rs.length c6) := cell_obj (i := 1) h1.obj rfl
              have hlen2 := brings_len st.last cut st.len 0
              have hruns := HI.out.runsLen
              refine rti_start (fun W => W.cell? ⟨q2, 0, none⟩ = some (.pointer (some ⟨p, 0, none⟩)) ∧ W.cell? ⟨p, 1, none⟩ = some (.slice A6 rs.length c6) ∧ W.cell? ⟨b, 0, none⟩ = some (.int .i64 x0) ∧ W.cell? ⟨b, 1, none⟩ = some (.int .i64 x1) ∧ W.cell? ⟨b, 2, none⟩ = some (.int .i64 x2) ∧ W.cell? ⟨b, 3, none⟩ = some (.int .i64 x3)) (r := some l) (by kernel_rfl) (by kernel_rfl) ?_
              iterate 6 ((refine rt_nx [] (v := ?_) rfl (by kernel_rfl) (fun _ _ _ h => h) rfl ?_ ?_; rotate_left; focus (intro W hW; (try dsimp only at hW); go_split_ands; go_simp; (try (simp (disch := omega) only [IntWalk.i64_in]; (try go_simp))); (try (split; (next => omega); (try go_simp))); try rfl; done)); try simp only [Act.put, List.setIfInBounds_toArray, List.set_cons_zero, List.set_cons_succ, Nat.reduceAdd])
              have t0 : (fun W => W.cell? ⟨q2, 0, none⟩ = some (.pointer (some ⟨p, 0, none⟩)) ∧ W.cell? ⟨p, 1, none⟩ = some (.slice A6 rs.length c6) ∧ W.cell? ⟨b, 0, none⟩ = some (.int .i64 x0) ∧ W.cell? ⟨b, 1, none⟩ = some (.int .i64 x1) ∧ W.cell? ⟨b, 2, none⟩ = some (.int .i64 x2) ∧ W.cell? ⟨b, 3, none⟩ = some (.int .i64 x3)) W.drew := ⟨b2, bp, e0, e1, e2, e3⟩
              refine rt_kx (fun W => W.cell? ⟨q2, 0, none⟩ = some (.pointer (some ⟨p, 0, none⟩)) ∧ W.cell? ⟨p, 1, none⟩ = some (.slice A6 rs.length c6) ∧ W.cell? ⟨b, 0, none⟩ = some (.int .i64 x0) ∧ W.cell? ⟨b, 1, none⟩ = some (.int .i64 x1) ∧ W.cell? ⟨b, 2, none⟩ = some (.int .i64 x2) ∧ W.cell? ⟨b, 3, none⟩ = some (.int .i64 x3)) 6 (by kernel_rfl) t0 (fun _ h => h) rfl (by rfl) (fun K hK => ?_)
              go_simp
              refine hK _ _ ?_
              clear hK K
              try simp only [Act.put, List.setIfInBounds_toArray, List.set_cons_zero, List.set_cons_succ]
              have hc3 : Chg No W (W.drew.alloc (.cells #[.int .i64 x0, .int .i64 x1, .int .i64 x2, .int .i64 x3] 124)) := (Chg.refl No W).drew.alloc _
              have t3 : (fun W => W.cell? ⟨q2, 0, none⟩ = some (.pointer (some ⟨p, 0, none⟩)) ∧ W.cell? ⟨p, 1, none⟩ = some (.slice A6 rs.length c6) ∧ W.cell? ⟨b, 0, none⟩ = some (.int .i64 x0) ∧ W.cell? ⟨b, 1, none⟩ = some (.int .i64 x1) ∧ W.cell? ⟨b, 2, none⟩ = some (.int .i64 x2) ∧ W.cell? ⟨b, 3, none⟩ = some (.int .i64 x3)) (W.drew.alloc (.cells #[.int .i64 x0, .int .i64 x1, .int .i64 x2, .int .i64 x3] 124)) := ⟨hc3.cell b2 (not_no _), hc3.cell bp (not_no _), hc3.cell e0 (not_no _), hc3.cell e1 (not_no _), hc3.cell e2 (not_no _), hc3.cell e3 (not_no _)⟩
              have hzb := hz.2 _ bp
              have hp1 := h1.hp
              have hB1 := h1.hB
              have h14 := h1.keepNo hc3
              refine rt_append_row (α := Int × (Int × Int) × Int) (fun W => W.cell? ⟨q2, 0, none⟩ = some (.pointer (some ⟨p, 0, none⟩)) ∧ W.cell? ⟨p, 1, none⟩ = some (.slice A6 rs.length c6) ∧ W.cell? ⟨b, 0, none⟩ = some (.int .i64 x0) ∧ W.cell? ⟨b, 1, none⟩ = some (.int .i64 x1) ∧ W.cell? ⟨b, 2, none⟩ = some (.int .i64 x2) ∧ W.cell? ⟨b, 3, none⟩ = some (.int .i64 x3)) (i := 7) (by kernel_rfl) t3 (fun _ h => h) rfl rfl Try.underlying120 info_run rfl h14.row rfl rfl (Sl.lit1 (F := No) (y := (x0, (x1, x2), x3)) rfl ⟨[_], [_, _, _], rfl, rfl, [_, _], [_], rfl, ⟨[_], [_], rfl, rfl, rfl⟩, rfl⟩ (not_no _)) (by simp) (by have := Hrsl.out; simp; omega) (by have := Hrsl.out; simp [show Rep.n (Int × (Int × Int) × Int) = 4 from rfl]; omega) (Nat.zero_le _) ?_
              intro v5 w5 hown5 hc5 hb5
              have hnq : ∀ q, q2 ≤ q → q < ws.heap.size → ¬ UpB S ws.heap.size W q := fun q a1 a2 e => by rcases e with e | e; (have := hhi q e; omega); omega
              have hnq' : ∀ q, q2 ≤ q → q < ws.heap.size → ¬ UpB S ws.heap.size (W.drew.alloc (.cells #[.int .i64 x0, .int .i64 x1, .int .i64 x2, .int .i64 x3] 124)) q := fun q a1 a2 e => by rcases e with e | e; (have := hhi q e; omega); omega
              have t5 : (fun W => W.cell? ⟨q2, 0, none⟩ = some (.pointer (some ⟨p, 0, none⟩)) ∧ W.cell? ⟨p, 1, none⟩ = some (.slice A6 rs.length c6) ∧ W.cell? ⟨b, 0, none⟩ = some (.int .i64 x0) ∧ W.cell? ⟨b, 1, none⟩ = some (.int .i64 x1) ∧ W.cell? ⟨b, 2, none⟩ = some (.int .i64 x2) ∧ W.cell? ⟨b, 3, none⟩ = some (.int .i64 x3)) w5 := ⟨hc5.cell t3.1 (fun g => g.2.1 (.inl (hnq' q2 (by omega) (by omega)))), hc5.cell t3.2.1 (fun g => g.2.1 (.inr (.inl rfl))), hc5.cell t3.2.2.1 (fun g => hzb g.1), hc5.cell t3.2.2.2.1 (fun g => hzb g.1), hc5.cell t3.2.2.2.2.1 (fun g => hzb g.1), hc5.cell t3.2.2.2.2.2 (fun g => hzb g.1)⟩
              have o5 := hc5.obj h14.obj (fun g => g.2.1 (.inr (.inl rfl)))
              have f5 := free_obj (i := 1) o5
              have c5 := t5.2.1
              have hfin := AdsI.app (w := w) (cut := cut) Hrs.out h14 (hc3.obj h2 (not_no _)) (hc3.obj h3 (not_no _)) (hc3.obj h4 (not_no _)) (hc3.obj h5 (not_no _)) (h6.keepNo hc3) (h7.trans hc3.of_no) ⟨⟨fun s => by have := hhi q2 s; omega, by omega⟩, ⟨fun s => by have := hhi q3 s; omega, by omega⟩, ⟨fun s => by have := hhi _ s; omega, by omega⟩, ⟨fun s => by have := hhi _ s; omega, by omega⟩⟩ hwB hown5 hc5 hb5
              obtain ⟨A7, c7, rfl⟩ := hown5.slice
              rw [show (rs ++ [(x0, (x1, x2), x3)]).length = rs.length + 1 by simp] at hfin
              have Hfin := Lib.hid hfin
              have Hc3 := Lib.hid hc3
              clear hown5 hb5 hfin o5 hc5
              try simp only [Act.put, List.setIfInBounds_toArray, List.set_cons_zero, List.set_cons_succ, Nat.reduceAdd]
              iterate 2 ((refine rt_nx [] (v := ?_) rfl (by kernel_rfl) (fun _ _ _ h => h) rfl ?_ ?_; rotate_left; focus (intro W hW; (try dsimp only at hW); go_split_ands; go_simp; (try (simp (disch := omega) only [IntWalk.i64_in]; (try go_simp))); (try (split; (next => omega); (try go_simp))); try rfl; done)); try simp only [Act.put, List.setIfInBounds_toArray, List.set_cons_zero, List.set_cons_succ, Nat.reduceAdd])
              refine rt_kx (fun W => W.cell? ⟨q2, 0, none⟩ = some (.pointer (some ⟨p, 0, none⟩)) ∧ W.cell? ⟨p, 1, none⟩ = some (.slice A6 rs.length c6) ∧ W.cell? ⟨b, 0, none⟩ = some (.int .i64 x0) ∧ W.cell? ⟨b, 1, none⟩ = some (.int .i64 x1) ∧ W.cell? ⟨b, 2, none⟩ = some (.int .i64 x2) ∧ W.cell? ⟨b, 3, none⟩ = some (.int .i64 x3)) 10 (by kernel_rfl) t5 (fun _ h => h) rfl (by rfl) (fun K hK => ?_)
              go_simp
              refine hK _ _ ?_
              clear hK K
              try simp only [Act.put, List.setIfInBounds_toArray, List.set_cons_zero, List.set_cons_succ]
              refine rt_done (by kernel_rfl)  ?_
              exact ⟨(keeps_of_chg (G := No) Hc3.out (fun _ _ f _ => f.elim)).trans Hfin.out.1, fun _ => Hfin.out.2.brq, Hfin.out.2⟩
            case done =>
              intro D W hD hi0 hK
              obtain ⟨rv', h1, h2, h3, h4, h5, h6, h7⟩ := hi0
              have hpD : p < D := by omega
              have hUs : ∀ k, k < w.heap.size → UpB S ws.heap.size W k → S k := fun k h g => by rcases g with g | g; exact g; omega
              have hp1 := h1.hp
              have hWB := h1.hB
              have hord := h1.ord
              obtain ⟨A7, c7, rfl⟩ := h1.ra.slice
              have s1 : W.cell? ⟨q2, 0, none⟩ = some (.pointer (some ⟨p, 0, none⟩)) := cell_obj (i := 0) h2 rfl
              have s2 : W.cell? ⟨q3, 2, none⟩ = some (.slice A cut.length c) := cell_obj (i := 2) h3 rfl
              have p0 : W.cell? ⟨p, 0, none⟩ = some (.slice A0 st.last.length c0) := cell_obj (i := 0) h1.obj rfl
              have hpf := free_obj (i := 0) h1.obj
              go_wp2_with (with_reducible first | refine stop_append ?_ | refine stop_copy ?_ | refine stop_make ?_ | refine stop_lookup ?_ | refine stop_update ?_ | refine stop_slice ?_ | refine stop_range ?_ | refine stop_next ?_ | refine stop_convert ⟨_, rfl⟩ ?_ | refine stop_convertB ⟨_, _, _, rfl⟩ ?_ | refine stop_eqSlice ⟨_, _, rfl⟩ ?_)
              refine rt_start (fun W => W.cell? ⟨q2, 0, none⟩ = some (.pointer (some ⟨p, 0, none⟩)) ∧ W.cell? ⟨q3, 2, none⟩ = some (.slice A cut.length c)) (by kernel_rfl) ?_
              iterate 3 ((refine rt_nx [] (v := ?_) rfl (by kernel_rfl) (fun _ _ _ h => h) rfl ?_ ?_; rotate_left; focus (intro W hW; (try dsimp only at hW); go_split_ands; go_simp; (try (simp (disch := omega) only [IntWalk.i64_in]; (try go_simp))); (try (split; (next => omega); (try go_simp))); try rfl; done)); try simp only [Act.put, List.setIfInBounds_toArray, List.set_cons_zero, List.set_cons_succ, Nat.reduceAdd])
              have t0 : (fun W => W.cell? ⟨q2, 0, none⟩ = some (.pointer (some ⟨p, 0, none⟩)) ∧ W.cell? ⟨q3, 2, none⟩ = some (.slice A cut.length c)) W.drew := ⟨s1, s2⟩
              refine rt_kx (fun W => W.cell? ⟨q2, 0, none⟩ = some (.pointer (some ⟨p, 0, none⟩)) ∧ W.cell? ⟨q3, 2, none⟩ = some (.slice A cut.length c)) 3 (by kernel_rfl) t0 (fun _ h => h) rfl (by rfl) (fun K hK => ?_)
              go_simp
              refine (vclone_any _ _ cut _ ((h6.keepNo (Chg.refl No W).drew)) (by have := hge.len; omega)).mono ?_
              rintro x w5 ⟨v5, rfl, hc5, hs5⟩
              have hc5 : Chg No W w5 := (Chg.refl No W).drew.trans hc5
              have t5 : (fun W => W.cell? ⟨q2, 0, none⟩ = some (.pointer (some ⟨p, 0, none⟩)) ∧ W.cell? ⟨q3, 2, none⟩ = some (.slice A cut.length c)) w5 := ⟨hc5.cell s1 (not_no _), hc5.cell s2 (not_no _)⟩
              refine hK _ _ ?_
              clear hK K
              try simp only [Act.put, List.setIfInBounds_toArray, List.set_cons_zero, List.set_cons_succ]
              iterate 2 ((refine rt_nx [] (v := ?_) rfl (by kernel_rfl) (fun _ _ _ h => h) rfl ?_ ?_; rotate_left; focus (intro W hW; (try dsimp only at hW); go_split_ands; go_simp; (try (simp (disch := omega) only [IntWalk.i64_in]; (try go_simp))); (try (split; (next => omega); (try go_simp))); try rfl; done)); try simp only [Act.put, List.setIfInBounds_toArray, List.set_cons_zero, List.set_cons_succ, Nat.reduceAdd])
              have o5 := hc5.obj h1.obj (not_no _)
              have f5 := free_obj (i := 0) o5
              have c5 := cell_obj (i := 0) o5 rfl
              have hv6 := hord.setlast hc5 hs5
              obtain ⟨A5, c5', rfl⟩ := hs5.slice
              refine rt_kx (fun W => W.cell? ⟨q2, 0, none⟩ = some (.pointer (some ⟨p, 0, none⟩)) ∧ W.cell? ⟨q3, 2, none⟩ = some (.slice A cut.length c)) 6 (by kernel_rfl) t5 (fun _ h => h) rfl (by rfl) (fun K hK => ?_)
              go_simp
              refine hK _ _ ?_
              clear hK K
              try simp only [Act.put, List.setIfInBounds_toArray, List.set_cons_zero, List.set_cons_succ]
              refine rt_done (by kernel_rfl)  ?_
              have hset := chg_set (w := w5) (b := p) (i := 0) (.slice A5 cut.length c5')
              have hq2p : ¬ At p q2 := by simp only [At]; omega
              have hDp : ¬ At p D := by simp only [At]; omega
              have s1 := hset.cell t5.1 hq2p
              have hK6 := hset.obj (hc5.obj hK (not_no _)) hDp
              have hsz6 : (w5.setCell ⟨p, 0, none⟩ (.slice A5 cut.length c5')).heap.size = w5.heap.size := by simp
              have hcw6 : Chg (S) w (w5.setCell ⟨p, 0, none⟩ (.slice A5 cut.length c5')) := (h7.trans hc5.of_no).trans (hset.weak (fun k _ g => by simp only [At] at g; subst g; exact h1.hp))
              have htot6 : Sl S w (.slice A cut.length c) cut := Hs.out
              have hcl8 : cut.length ≤ 8 := by have := hge.len; omega
              have hD5 : D < w5.heap.size := lt_of_heap (hc5.obj hK (not_no _))
              have hsz5 := hc5.size
              clear o5 f5 c5 s2 p0 hpf t5 t0 hset hK
              generalize w5.setCell ⟨p, 0, none⟩ (.slice A5 cut.length c5') = w6 at hv6 s1 hK6 hsz6 hcw6 ⊢
              have p0 : w6.cell? ⟨p, 0, none⟩ = some (.slice A5 cut.length c5') := cell_obj (i := 0) hv6.obj rfl
              have p2 : w6.cell? ⟨p, 2, none⟩ = some (.slice A7 st.after.length c7) := cell_obj (i := 2) hv6.obj rfl
              go_wp2_with (with_reducible first | refine stop_append ?_ | refine stop_copy ?_ | refine stop_make ?_ | refine stop_lookup ?_ | refine stop_update ?_ | refine stop_slice ?_ | refine stop_range ?_ | refine stop_next ?_ | refine stop_convert ⟨_, rfl⟩ ?_ | refine stop_convertB ⟨_, _, _, rfl⟩ ?_ | refine stop_eqSlice ⟨_, _, rfl⟩ ?_)
              refine rt_start (fun W => W.cell? ⟨q2, 0, none⟩ = some (.pointer (some ⟨p, 0, none⟩)) ∧ W.cell? ⟨p, 0, none⟩ = some (.slice A5 cut.length c5') ∧ W.cell? ⟨p, 2, none⟩ = some (.slice A7 st.after.length c7)) (by kernel_rfl) ?_
              iterate 9 ((refine rt_nx [] (v := ?_) rfl (by kernel_rfl) (fun _ _ _ h => h) rfl ?_ ?_; rotate_left; focus (intro W hW; (try dsimp only at hW); go_split_ands; go_simp; (try (simp (disch := omega) only [IntWalk.i64_in]; (try go_simp))); (try (split; (next => omega); (try go_simp))); try rfl; done)); try simp only [Act.put, List.setIfInBounds_toArray, List.set_cons_zero, List.set_cons_succ, Nat.reduceAdd])
              have t0 : (fun W => W.cell? ⟨q2, 0, none⟩ = some (.pointer (some ⟨p, 0, none⟩)) ∧ W.cell? ⟨p, 0, none⟩ = some (.slice A5 cut.length c5') ∧ W.cell? ⟨p, 2, none⟩ = some (.slice A7 st.after.length c7)) w6.drew := ⟨s1, p0, p2⟩
              refine rt_kx (fun W => W.cell? ⟨q2, 0, none⟩ = some (.pointer (some ⟨p, 0, none⟩)) ∧ W.cell? ⟨p, 0, none⟩ = some (.slice A5 cut.length c5') ∧ W.cell? ⟨p, 2, none⟩ = some (.slice A7 st.after.length c7)) 9 (by kernel_rfl) t0 (fun _ h => h) rfl (by rfl) (fun K hK => ?_)
              go_simp
              refine (vtotal_any _ _ cut _ (hv6.sl.keepNo (Chg.refl No w6).drew) (by omega)).mono ?_
              rintro x w7 ⟨rfl, hc7⟩
              have hc7 : Chg No w6 w7 := (Chg.refl No w6).drew.trans hc7
              have t7 : (fun W => W.cell? ⟨q2, 0, none⟩ = some (.pointer (some ⟨p, 0, none⟩)) ∧ W.cell? ⟨p, 0, none⟩ = some (.slice A5 cut.length c5') ∧ W.cell? ⟨p, 2, none⟩ = some (.slice A7 st.after.length c7)) w7 := ⟨hc7.cell s1 (not_no _), hc7.cell p0 (not_no _), hc7.cell p2 (not_no _)⟩
              refine hK _ _ ?_
              clear hK K
              try simp only [Act.put, List.setIfInBounds_toArray, List.set_cons_zero, List.set_cons_succ]
              refine rt_kx (fun W => W.cell? ⟨q2, 0, none⟩ = some (.pointer (some ⟨p, 0, none⟩)) ∧ W.cell? ⟨p, 0, none⟩ = some (.slice A5 cut.length c5') ∧ W.cell? ⟨p, 2, none⟩ = some (.slice A7 st.after.length c7)) 10 (by kernel_rfl) t7 (fun _ h => h) rfl (by rfl) (fun K hK => ?_)
              go_simp
              refine hK _ _ ?_
              clear hK K
              try simp only [Act.put, List.setIfInBounds_toArray, List.set_cons_zero, List.set_cons_succ]
              have hc8 : Chg No w6 (w7.alloc (.cells #[.int .i64 (total cut)] 3)) := hc7.alloc _
              have t8 : (fun W => W.cell? ⟨q2, 0, none⟩ = some (.pointer (some ⟨p, 0, none⟩)) ∧ W.cell? ⟨p, 0, none⟩ = some (.slice A5 cut.length c5') ∧ W.cell? ⟨p, 2, none⟩ = some (.slice A7 st.after.length c7)) (w7.alloc (.cells #[.int .i64 (total cut)] 3)) := ⟨hc8.cell s1 (not_no _), hc8.cell p0 (not_no _), hc8.cell p2 (not_no _)⟩
              have hv8 := hv6.keepNo hc8
              refine rt_append_row (α := Int) (fun W => W.cell? ⟨q2, 0, none⟩ = some (.pointer (some ⟨p, 0, none⟩)) ∧ W.cell? ⟨p, 0, none⟩ = some (.slice A5 cut.length c5') ∧ W.cell? ⟨p, 2, none⟩ = some (.slice A7 st.after.length c7)) (i := 11) (by kernel_rfl) t8 (fun _ h => h) rfl rfl Try.underlying46 vinfo_int rfl hv8.ra rfl rfl (Sl.lit1 (F := No) (y := total cut) rfl rfl (not_no _)) (by simp) (by simp; omega) (by simp; omega) (Nat.zero_le _) ?_
              intro v9 w9 hown9 hc9 hb9
              have hq2r : ∀ q, q2 ≤ q → q < ws.heap.size → ¬ Up (UpB S ws.heap.size W) W w5 q := fun q a1 a2 e => by rcases e with (e | e) | e; (have := hhi q e; omega); omega; omega
              have t9 : (fun W => W.cell? ⟨q2, 0, none⟩ = some (.pointer (some ⟨p, 0, none⟩)) ∧ W.cell? ⟨p, 0, none⟩ = some (.slice A5 cut.length c5') ∧ W.cell? ⟨p, 2, none⟩ = some (.slice A7 st.after.length c7)) w9 := ⟨hc9.cell t8.1 (fun g => g.2.1 (.inl (hq2r q2 (by omega) (by omega)))), hc9.cell t8.2.1 (fun g => g.2.1 (.inr (.inl rfl))), hc9.cell t8.2.2 (fun g => g.2.1 (.inr (.inl rfl)))⟩
              have hK9 := hc9.obj (hc8.obj hK6 (not_no _)) (fun g => by obtain ⟨_, _, _, hC⟩ := g.2.2; rw [hc8.obj hK6 (not_no _)] at hC; cases hC)
              have o9 := hc9.obj hv8.obj (fun g => g.2.1 (.inr (.inl rfl)))
              have f9 := free_obj (i := 2) o9
              have c9 := t9.2.2
              have hfin := hv8.app hown9 hc9 hb9
              obtain ⟨A9, c9', rfl⟩ := hown9.slice
              rw [show (st.after ++ [total cut]).length = st.after.length + 1 by simp] at hfin
              have hKf := (chg_set (w := w9) (b := p) (i := 2) (.slice A9 (st.after.length + 1) c9')).obj hK9 hDp
              have Hfin := Lib.hid hfin
              have Hchg := Lib.hid ((hcw6.trans hc8.of_no).trans' (H := S) hfin.2.2 (fun _ _ g => g) (fun k hk g => by
                rcases g with g | g
                · have h4 : Up (UpB S ws.heap.size W) W w5 k := Classical.byContradiction fun e => g.2.1 (.inl e)
                  rcases h4 with h4 | h4
                  · exact hUs k hk h4
                  · omega
                · subst g; exact hp1))
              clear hown9 hb9 hfin o9 hc9
              try simp only [Act.put, List.setIfInBounds_toArray, List.set_cons_zero, List.set_cons_succ, Nat.reduceAdd]
              iterate 2 ((refine rt_nx [] (v := ?_) rfl (by kernel_rfl) (fun _ _ _ h => h) rfl ?_ ?_; rotate_left; focus (intro W hW; (try dsimp only at hW); go_split_ands; go_simp; (try (simp (disch := omega) only [IntWalk.i64_in]; (try go_simp))); (try (split; (next => omega); (try go_simp))); try rfl; done)); try simp only [Act.put, List.setIfInBounds_toArray, List.set_cons_zero, List.set_cons_succ, Nat.reduceAdd])
              refine rt_kx (fun W => W.cell? ⟨q2, 0, none⟩ = some (.pointer (some ⟨p, 0, none⟩)) ∧ W.cell? ⟨p, 0, none⟩ = some (.slice A5 cut.length c5') ∧ W.cell? ⟨p, 2, none⟩ = some (.slice A7 st.after.length c7)) 14 (by kernel_rfl) t9 (fun _ h => h) rfl (by rfl) (fun K hK => ?_)
              go_simp
              refine hK _ _ ?_
              clear hK K
              try simp only [Act.put, List.setIfInBounds_toArray, List.set_cons_zero, List.set_cons_succ]
              refine rt_done (by kernel_rfl)  ?_
              go_wp2_with (with_reducible first | refine stop_append ?_ | refine stop_copy ?_ | refine stop_make ?_ | refine stop_lookup ?_ | refine stop_update ?_ | refine stop_slice ?_ | refine stop_range ?_ | refine stop_next ?_ | refine stop_convert ⟨_, rfl⟩ ?_ | refine stop_convertB ⟨_, _, _, rfl⟩ ?_ | refine stop_eqSlice ⟨_, _, rfl⟩ ?_)
              refine marks_ret1 hKf (results_tmp rfl _ _ _) ?_
              rw [hres.out]
              refine ⟨rfl, Hchg.out.trans' (chg_put (G := At D) rfl) (fun _ _ g => g) (fun k hk g => by simp only [At] at g; omega), ?_⟩
              obtain ⟨lv', rv', av', hv'⟩ := Hfin.out.1
              have hgp := grownBy_putObj' (w9.setCell ⟨p, 2, none⟩ (.slice A9 (st.after.length + 1) c9')) D (.deferred none)
              have := hv'.turn hgp (fun r e => by cases e; exact ⟨_, hKf, rfl⟩)
              exact ⟨lv', rv', av', this.more (fun k hk => by
                have hl := this.hhi k hk
                have h8 := hc8.size
                rcases hk with ((hk | hk) | hk) | hk
                · exact .inl hk
                · exact .inr ⟨by omega, hl⟩
                · exact .inr ⟨by omega, hl⟩
                · exact .inr ⟨by omega, hl⟩) (fun k hk => by
                rcases hk with hk | hk
                · exact this.hhi k (.inl (.inl (.inl hk)))
                · exact hk.2)⟩
      · have hk2 : (k == 1) = false := by simpa using hk
        have hres := Lib.hid (show addF st (n, k, cut, tag, t, u) = (⟨st.last, st.runs, st.after ++ [st.len]⟩, 0) by unfold addF; rw [if_pos ⟨Hb.out, Hn.out⟩, if_neg hk])
        clear hk
        obtain ⟨s12, _, s11, _, _, _, _, _⟩ := s1
        obtain ⟨lv, rv, av, hv⟩ := H.out.keepNo hcw1
        obtain ⟨A2, c2, rfl⟩ := hv.ra.slice
        have cp : w1.cell? ⟨p, 2, none⟩ = some (.slice A2 st.after.length c2) := cell_obj (i := 2) hv.obj rfl
        have ha1 := hv.hhi
        have hq2h : ¬ S q2 := fun s => by obtain ⟨_, _, _, h⟩ := H.out; have := h.hhi q2 s; omega
        have hqp : q2 ≠ p := by omega
        go_wp2_with (with_reducible first | refine stop_append ?_ | refine stop_copy ?_ | refine stop_make ?_ | refine stop_lookup ?_ | refine stop_update ?_ | refine stop_slice ?_ | refine stop_range ?_ | refine stop_next ?_ | refine stop_convert ⟨_, rfl⟩ ?_ | refine stop_convertB ⟨_, _, _, rfl⟩ ?_ | refine stop_eqSlice ⟨_, _, rfl⟩ ?_)
        refine rt_start (fun W => W.cell? ⟨q2, 0, none⟩ = some (.pointer (some ⟨p, 0, none⟩)) ∧ W.cell? ⟨p, 2, none⟩ = some (.slice A2 st.after.length c2)) (by kernel_rfl) ?_
        iterate 6 ((refine rt_nx [] (v := ?_) rfl (by kernel_rfl) (fun _ _ _ h => h) rfl ?_ ?_; rotate_left; focus (intro W hW; (try dsimp only at hW); go_split_ands; go_simp; (try (simp (disch := omega) only [IntWalk.i64_in]; (try go_simp))); (try (split; (next => omega); (try go_simp))); try rfl; done)); try simp only [Act.put, List.setIfInBounds_toArray, List.set_cons_zero, List.set_cons_succ, Nat.reduceAdd])
        have t0 : (fun W => W.cell? ⟨q2, 0, none⟩ = some (.pointer (some ⟨p, 0, none⟩)) ∧ W.cell? ⟨p, 2, none⟩ = some (.slice A2 st.after.length c2)) w1.drew := ⟨s12, cp⟩
        refine rt_kx (fun W => W.cell? ⟨q2, 0, none⟩ = some (.pointer (some ⟨p, 0, none⟩)) ∧ W.cell? ⟨p, 2, none⟩ = some (.slice A2 st.after.length c2)) 6 (by kernel_rfl) t0 (fun _ h => h) rfl (by rfl) (fun K hK => ?_)
        go_simp
        refine (olen_any (H.out.keepNo hcw1.drew).ord HI.out).mono ?_
        rintro x w2 ⟨rfl, hc2⟩
        have hc2 : Chg No w1 w2 := (Chg.refl No w1).drew.trans hc2
        have t2 : (fun W => W.cell? ⟨q2, 0, none⟩ = some (.pointer (some ⟨p, 0, none⟩)) ∧ W.cell? ⟨p, 2, none⟩ = some (.slice A2 st.after.length c2)) w2 := ⟨hc2.cell s12 (not_no _), hc2.cell cp (not_no _)⟩
        refine hK _ _ ?_
        clear hK K
        try simp only [Act.put, List.setIfInBounds_toArray, List.set_cons_zero, List.set_cons_succ]
        refine rt_kx (fun W => W.cell? ⟨q2, 0, none⟩ = some (.pointer (some ⟨p, 0, none⟩)) ∧ W.cell? ⟨p, 2, none⟩ = some (.slice A2 st.after.length c2)) 7 (by kernel_rfl) t2 (fun _ h => h) rfl (by rfl) (fun K hK => ?_)
        go_simp
        refine hK _ _ ?_
        clear hK K
        try simp only [Act.put, List.setIfInBounds_toArray, List.set_cons_zero, List.set_cons_succ]
        have hc3 : Chg No w1 (w2.alloc (.cells #[.int .i64 st.len] 3)) := hc2.alloc _
        have t3 : (fun W => W.cell? ⟨q2, 0, none⟩ = some (.pointer (some ⟨p, 0, none⟩)) ∧ W.cell? ⟨p, 2, none⟩ = some (.slice A2 st.after.length c2)) (w2.alloc (.cells #[.int .i64 st.len] 3)) := ⟨hc3.cell s12 (not_no _), hc3.cell cp (not_no _)⟩
        have hv3 := hv.keep hc3 (fun _ f => f.elim)
        refine rt_append_row (α := Int) (fun W => W.cell? ⟨q2, 0, none⟩ = some (.pointer (some ⟨p, 0, none⟩)) ∧ W.cell? ⟨p, 2, none⟩ = some (.slice A2 st.after.length c2)) (i := 8) (by kernel_rfl) t3 (fun _ h => h) rfl rfl Try.underlying46 vinfo_int rfl hv3.ra rfl rfl (Sl.lit1 (F := No) (y := st.len) rfl rfl (not_no _)) (by simp) (by simp; omega) (by simp; omega) (by have := hv3.hp; have := hv3.hhi; omega) ?_
        intro v5 w5 hown5 hc5 hb5
        have t5 : (fun W => W.cell? ⟨q2, 0, none⟩ = some (.pointer (some ⟨p, 0, none⟩)) ∧ W.cell? ⟨p, 2, none⟩ = some (.slice A2 st.after.length c2)) w5 := ⟨hc5.cell t3.1 (fun g => g.2.1 (.inl hq2h)), hc5.cell t3.2 (fun g => g.2.1 (.inr (.inl rfl)))⟩
        have o5 := hc5.obj hv3.obj (fun g => g.2.1 (.inr (.inl rfl)))
        have f5 := free_obj (i := 2) o5
        have c5 := t5.2
        have hfin := hv3.app hown5 hc5 hb5
        obtain ⟨A5, c5', rfl⟩ := hown5.slice
        rw [show (st.after ++ [st.len]).length = st.after.length + 1 by simp] at hfin
        have Hfin := Lib.hid hfin
        clear hown5 hb5 hfin o5
        try simp only [Act.put, List.setIfInBounds_toArray, List.set_cons_zero, List.set_cons_succ, Nat.reduceAdd]
        iterate 2 ((refine rt_nx [] (v := ?_) rfl (by kernel_rfl) (fun _ _ _ h => h) rfl ?_ ?_; rotate_left; focus (intro W hW; (try dsimp only at hW); go_split_ands; go_simp; (try (simp (disch := omega) only [IntWalk.i64_in]; (try go_simp))); (try (split; (next => omega); (try go_simp))); try rfl; done)); try simp only [Act.put, List.setIfInBounds_toArray, List.set_cons_zero, List.set_cons_succ, Nat.reduceAdd])
        refine rt_kx (fun W => W.cell? ⟨q2, 0, none⟩ = some (.pointer (some ⟨p, 0, none⟩)) ∧ W.cell? ⟨p, 2, none⟩ = some (.slice A2 st.after.length c2)) 11 (by kernel_rfl) t5 (fun _ h => h) rfl (by rfl) (fun K hK => ?_)
        go_simp
        refine hK _ _ ?_
        clear hK K
        try simp only [Act.put, List.setIfInBounds_toArray, List.set_cons_zero, List.set_cons_succ]
        refine rt_done (by kernel_rfl)  ?_
        go_wp2_with (with_reducible first | refine stop_append ?_ | refine stop_copy ?_ | refine stop_make ?_ | refine stop_lookup ?_ | refine stop_update ?_ | refine stop_slice ?_ | refine stop_range ?_ | refine stop_next ?_ | refine stop_convert ⟨_, rfl⟩ ?_ | refine stop_convertB ⟨_, _, _, rfl⟩ ?_ | refine stop_eqSlice ⟨_, _, rfl⟩ ?_)
        refine marks_ret (results_tmp rfl _ _ _) ?_
        rw [hres.out]
        exact ⟨rfl, (hcw1.trans hc3).of_no.trans Hfin.out.2.1, by
          obtain ⟨_, _, _, hf⟩ := Hfin.out.1
          exact ⟨_, _, _, hf.more (fun k hk => hk.imp id (fun g => ⟨by have := (hcw1.trans hc3).size; omega, g.2⟩)) (fun k hk => by rcases hk with hk | hk; exact hf.hhi k (.inl hk); exact hk.2)⟩⟩
    · have hn2 : (n != (st.after.length : Int) - 1 + 1) = true := by simp; omega
      have hn3 : (n == (st.after.length : Int)) = false := by simpa using hn
      have hres := Lib.hid (show addF st (n, k, cut, tag, t, u) = (st, 150) by unfold addF; rw [if_neg (fun h => hn h.2)])
      clear hn
      go_wp2_with (with_reducible first | refine stop_append ?_ | refine stop_copy ?_ | refine stop_make ?_ | refine stop_lookup ?_ | refine stop_update ?_ | refine stop_slice ?_ | refine stop_range ?_ | refine stop_next ?_ | refine stop_convert ⟨_, rfl⟩ ?_ | refine stop_convertB ⟨_, _, _, rfl⟩ ?_ | refine stop_eqSlice ⟨_, _, rfl⟩ ?_)
      refine marks_ret (results_tmp rfl _ _ _) ?_
      exact Hstay.out _ _ hcw1 hres.out
end Go.Proofs.Ytbjpoamnglfjeaa


/- A replay in memory; walks of package replay: New, forward. -/
set_option linter.unusedVariables false
set_option linter.unusedSimpArgs false
namespace Go.Proofs.Ytbjpoamnglfjeaa
open Go.RowKit Cb

structure RSt where
  term : Int
  ent : Nat
  cnt : Nat
  fed : Int → List Ent
  o : Option OSt
def OrdAt (w : World) (So : Nat → Prop) (ov : Value) : Option OSt → Prop
  | none => ov = .pointer none
  | some o => ∃ po, ov = .pointer (some ⟨po, 0, none⟩) ∧ Ors w So po o ∧ ∃ sh, Inv sh o
structure RplV (w : World) (S So : Nat → Prop) (p r : Nat) (m : List (Int × Value)) (ov : Value) (st : RSt) : Prop where
  obj : w.heap[p]? = some (.cells #[.int .i64 st.term, .int .i64 st.ent, .int .i64 st.cnt, .map (some r), ov] 155 (0, 0))
  map : MapAt w r (Value.int .i64) id m
  hS : ∀ k, S k → k < w.heap.size
  hp : S p
  hr : S r
  hpr : p ≠ r
  hSo : ∀ k, So k → S k ∧ k ≠ p ∧ k ≠ r
  fed : ∀ t, Sl (fun k => ¬ S k ∨ k = p ∨ k = r ∨ So k) w ((mget m t).getD (.slice none 0 0)) (st.fed t)
  tb : ∀ t, TailB (st.fed t)
  ord : OrdAt w So ov st.o
/-- A replay whose blocks are S. -/
def Rpl (w : World) (S : Nat → Prop) (p : Nat) (st : RSt) : Prop := ∃ So r m ov, RplV w S So p r m ov st
theorem OrdAt.keep {w w' : World} {So G : Nat → Prop} {ov : Value} {o : Option OSt} (h : OrdAt w So ov o) (hc : Chg G w w') (hG : ∀ k, k < w.heap.size → G k → ¬ So k) : OrdAt w' So ov o := by
  cases o with
  | none => exact h
  | some o =>
    obtain ⟨po, rfl, h, hi⟩ := h
    obtain ⟨lv, rv, av, hv⟩ := h
    exact ⟨po, rfl, ⟨lv, rv, av, hv.keep (hc.weak (G := fun k => ¬ So k) (fun k hk g => hG k hk g)) (fun _ g => g)⟩, hi⟩
theorem RplV.keep {w w' : World} {S So G : Nat → Prop} {p r : Nat} {m : List (Int × Value)} {ov : Value} {st : RSt} (h : RplV w S So p r m ov st) (hc : Chg G w w') (hG : ∀ k, k < w.heap.size → G k → ¬ S k) : RplV w' S So p r m ov st where
  obj := hc.obj h.obj (fun g => hG p (h.hS p h.hp) g h.hp)
  map := h.map.keep hc (fun g => hG r (h.hS r h.hr) g h.hr)
  hS := fun k hk => Nat.lt_of_lt_of_le (h.hS k hk) hc.size
  hp := h.hp
  hr := h.hr
  hpr := h.hpr
  hSo := h.hSo
  fed := fun t => (h.fed t).keep (hc.weak (fun k hk g => .inl (hG k hk g)))
  tb := h.tb
  ord := h.ord.keep hc (fun k hk g s => hG k hk g (h.hSo k s).1)
theorem RplV.keepNo {w w' : World} {S So : Nat → Prop} {p r : Nat} {m : List (Int × Value)} {ov : Value} {st : RSt} (h : RplV w S So p r m ov st) (hc : Chg No w w') : RplV w' S So p r m ov st := h.keep hc (fun _ _ f => f.elim)
theorem Rpl.keep {w w' : World} {S G : Nat → Prop} {p : Nat} {st : RSt} (h : Rpl w S p st) (hc : Chg G w w') (hG : ∀ k, k < w.heap.size → G k → ¬ S k) : Rpl w' S p st := by
  obtain ⟨So, r, m, ov, h⟩ := h; exact ⟨So, r, m, ov, h.keep hc hG⟩
theorem Rpl.keepNo {w w' : World} {S : Nat → Prop} {p : Nat} {st : RSt} (h : Rpl w S p st) (hc : Chg No w w') : Rpl w' S p st := h.keep hc (fun _ _ f => f.elim)
theorem RplV.more {w : World} {S T So : Nat → Prop} {p r : Nat} {m : List (Int × Value)} {ov : Value} {st : RSt} (h : RplV w S So p r m ov st) (hT : ∀ k, S k → T k) (hw : ∀ k, T k → k < w.heap.size) : RplV w T So p r m ov st where
  obj := h.obj
  map := h.map
  hS := hw
  hp := hT p h.hp
  hr := hT r h.hr
  hpr := h.hpr
  hSo := fun k hk => ⟨hT k (h.hSo k hk).1, (h.hSo k hk).2⟩
  fed := fun t => (h.fed t).weak (fun k _ g => g.imp (fun g s => g (hT k s)) id)
  tb := h.tb
  ord := h.ord
theorem Rpl.more {w : World} {S T : Nat → Prop} {p : Nat} {st : RSt} (h : Rpl w S p st) (hT : ∀ k, S k → T k) (hw : ∀ k, T k → k < w.heap.size) : Rpl w T p st := by
  obtain ⟨So, r, m, ov, h⟩ := h; exact ⟨So, r, m, ov, h.more hT hw⟩
theorem Rpl.lt {w : World} {S : Nat → Prop} {p : Nat} {st : RSt} (h : Rpl w S p st) : ∀ k, S k → k < w.heap.size := by obtain ⟨So, r, m, ov, h⟩ := h; exact h.hS
theorem Rpl.up {w0 w : World} {S : Nat → Prop} {p : Nat} {st : RSt} (h : Rpl w S p st) : Rpl w (Up S w0 w) p st :=
  h.more (fun _ hk => .inl hk) (fun k hk => by rcases hk with hk | hk; exact h.lt k hk; exact hk.2)
/-- A register that lies below n. -/
def Ex (B n : Nat) : Nat → Prop := fun k => k < B ∨ n ≤ k
def RegN (B n : Nat) (w : World) (g : Nat) (rows : List Rw) : Prop := RegX (Ex B n) w B g rows ∧ n ≤ w.heap.size ∧ g < n ∧ ∀ v, w.cell? ⟨g, 0, none⟩ = some v → ∀ k, v.ownBlock = some k → k < n
theorem RegN.toS {B n g : Nat} {w : World} {rows : List Rw} (h : RegN B n w g rows) : RegS w B g rows := h.1.toS (fun k hk => .inl hk)
theorem RegN.keep {B n g : Nat} {w w' : World} {rows : List Rw} {G : Nat → Prop} (h : RegN B n w g rows) (hc : Chg G w w') (hG : ∀ k, k < w.heap.size → G k → n ≤ k) : RegN B n w' g rows := by
  obtain ⟨h1, h2, h3, h4⟩ := h
  have hg : ¬ (n ≤ g) := by omega
  have hc' : Chg (Ge n) w w' := hc.weak hG
  refine ⟨h1.keep hc' (fun k _ g => .inr g) hg (fun v hv k hk g => by have := h4 v hv k hk; simp only [Ge] at g; omega), Nat.le_trans h2 hc.size, h3, fun v hv k hk => ?_⟩
  obtain ⟨u, hu, _⟩ := regS_cell (RegX.toS h1 (fun k hk => .inl hk))
  have := hc'.cell hu hg
  rw [hv] at this
  cases this
  exact h4 _ hu k hk
theorem RegN.keepNo {B n g : Nat} {w w' : World} {rows : List Rw} (h : RegN B n w g rows) (hc : Chg No w w') : RegN B n w' g rows := h.keep hc (fun _ _ f => f.elim)
theorem RegS.regN {B g : Nat} {w : World} {rows : List Rw} (h : RegS w B g rows) : RegN B w.heap.size w g rows := by
  refine ⟨?_, Nat.le_refl _, h.lt, fun v hv k hk => ?_⟩
  · exact RegX.more (F := Lt B) h (fun k hk g => by rcases g with g | g; exact g; omega)
  · obtain ⟨u, hu, h2⟩ := regS_cell h
    rw [hv] at hu; cases hu
    exact (h2 k hk).2
set_option maxRecDepth 100000 in
set_option maxHeartbeats 1000000 in
theorem rpnew_yes (t : Int) (w : World) (h1 : 1 ≤ t) (h64 : t ≤ 64) : Calls Try.prog 48 #[.int .i64 t] w fun e w' => ∃ p, e = .returned (.tuple #[.pointer (some ⟨p, 0, none⟩), .int .i64 0]) ∧ Chg No w w' ∧ Rpl w' (fun k => w.heap.size ≤ k ∧ k < w'.heap.size) p ⟨t, 0, 0, fun _ => [], none⟩ := by
  have h2 : ¬ t < 1 := by omega
  have h3 : ¬ 64 < t := by omega
  have hm := MapAt.made w (Value.int .i64) (id : Value → Value)
  have ho := alloc_obj (w.alloc (.map #[] 0)) (.cells #[.int .i64 t, .int .i64 0, .int .i64 0, .map (some w.heap.size), .pointer none] 155)
  have hc := ((Chg.refl No w).alloc (.map #[] 0)).alloc (.cells #[.int .i64 t, .int .i64 0, .int .i64 0, .map (some w.heap.size), .pointer none] 155)
  have hm2 := hm.keep ((Chg.refl No (w.alloc (.map #[] 0))).alloc (.cells #[.int .i64 t, .int .i64 0, .int .i64 0, .map (some w.heap.size), .pointer none] 155)) (not_no _)
  have hz : (w.alloc (.map #[] 0)).heap.size = w.heap.size + 1 := by simp
  have hz2 : ((w.alloc (.map #[] 0)).alloc (.cells #[.int .i64 t, .int .i64 0, .int .i64 0, .map (some w.heap.size), .pointer none] 155)).heap.size = w.heap.size + 1 + 1 := by simp
  rw [hz] at ho
  have Ho := Lib.hid ho
  have Hm := Lib.hid hm2
  have Hc := Lib.hid hc
  have Hz := Lib.hid hz2
  clear hm hm2 ho hc hz hz2
  have hmm := @run_makeMap Try.prog
  go_enter Try.func48, Try.ntmps48
  go_wp2_with (with_reducible first | refine stop_append ?_ | refine stop_copy ?_ | refine stop_make ?_ | refine stop_lookup ?_ | refine stop_update ?_ | refine stop_slice ?_ | refine stop_range ?_ | refine stop_next ?_ | refine stop_convert ⟨_, rfl⟩ ?_ | refine stop_convertB ⟨_, _, _, rfl⟩ ?_ | refine stop_eqSlice ⟨_, _, rfl⟩ ?_)
  go_ret2
  exact ⟨_, rfl, Hc.out, fun _ => False, w.heap.size, [], .pointer none, { obj := Ho.out, map := Hm.out, hS := fun k hk => hk.2, hp := ⟨by omega, by rw [Hz.out]; omega⟩, hr := ⟨Nat.le_refl _, by rw [Hz.out]; omega⟩, hpr := by omega, hSo := fun _ f => f.elim, fed := fun t => Sl.nil _ _ _ _, tb := fun _ => ⟨by simp, by simp⟩, ord := rfl }⟩
set_option maxRecDepth 100000 in
set_option maxHeartbeats 1000000 in
theorem forward_any (S So : Nat → Prop) (p r : Nat) (m : List (Int × Value)) (ov : Value) (st : RSt) (w : World) (h : RplV w S So p r m ov st) (ht : st.term ≤ 1000000 ∧ -1000000 ≤ st.term) :
    Calls Try.prog 89 #[.pointer (some ⟨p, 0, none⟩)] w fun e w' => e = .returned (.tuple #[]) ∧ Chg (At p) w w' ∧ w'.heap.size = w.heap.size ∧ RplV w' S (fun _ => False) p r m (.pointer none) ⟨st.term + 1, 0, 0, st.fed, none⟩ := by
  have H := Lib.hid h
  have c0 := cell_obj (i := 0) h.obj rfl
  have ho := h.obj
  have f0 := free_obj (i := 0) ho
  have f1 := free_obj (i := 1) ho
  have f2 := free_obj (i := 2) ho
  have f3 := free_obj (i := 4) ho
  have c1 := cell_obj (i := 1) ho rfl
  have c2 := cell_obj (i := 2) ho rfl
  have c4 := cell_obj (i := 4) ho rfl
  clear h
  go_enter Try.func89, Try.ntmps89
  go_wp2_with (with_reducible first | refine stop_append ?_ | refine stop_copy ?_ | refine stop_make ?_ | refine stop_lookup ?_ | refine stop_update ?_ | refine stop_slice ?_ | refine stop_range ?_ | refine stop_next ?_ | refine stop_convert ⟨_, rfl⟩ ?_ | refine stop_convertB ⟨_, _, _, rfl⟩ ?_ | refine stop_eqSlice ⟨_, _, rfl⟩ ?_)
  go_end0
  have hset := chg_set (w := w) (b := p) (i := 0) (.int .i64 (st.term + 1))
  have k1 := (((hset.setCell (p := ⟨p, 1, none⟩) (.inl rfl) (.int .i64 0)).setCell (p := ⟨p, 2, none⟩) (.inl rfl) (.int .i64 0)).setCell (p := ⟨p, 4, none⟩) (.inl rfl) (.pointer none))
  refine ⟨rfl, k1, by simp, { obj := obj_set (obj_set (obj_set (obj_set ho rfl) rfl) rfl) rfl, map := H.out.map.keep k1 (fun g => H.out.hpr g.symm), hS := fun k hk => by have := H.out.hS k hk; simpa using this, hp := H.out.hp, hr := H.out.hr, hpr := H.out.hpr, hSo := fun _ f => f.elim, fed := fun t => ((H.out.fed t).keep (k1.weak (fun k _ g => .inr (.inl g)))).weak (fun k _ g => ?_), tb := H.out.tb, ord := rfl }⟩
  rcases g with g | g | g | g
  · exact .inl g
  · exact .inr (.inl g)
  · exact .inr (.inr (.inl g))
  · exact g.elim
end Go.Proofs.Ytbjpoamnglfjeaa


/- More laws: guarded operations that stand still, a number of an own row is written. They speak of no program. -/
set_option linter.unusedVariables false
namespace Cb
open Go Go.RowKit
section
variable {α : Type} {P : Program} {rest : List Oper} {Q : Exit → Act → World → Prop} {a : Act} {w : World} {OPS : Array Oper}
theorem step_run_g {o : Oper} {v : Value} {w' : World} (hg : Region.wanted o (yielded OPS a.tmps) = true) (hr : (execOp a.eval o).run P w = .ok (.value v) w')
    (h : wpList P OPS Q rest (a.put o.dst v) w') : wpList P OPS Q (o :: rest) a w := by
  unfold wpList
  rw [if_pos hg]
  refine .inl ?_
  unfold Oper.wp
  rw [hr]
  exact h
theorem step_slice_g [Rep α] {F : Nat → Prop} {d : Option Tmp} {x : Operand} {t ty e : TypeId} {p : String} {af : Array Edge} {gd : Option (Nat × Bool)} {z : Value} {bytes : Nat} {lo hi : Option Operand}
    (hg : Region.wanted ⟨d, .slice t x lo hi none, ty, p, af, gd⟩ (yielded OPS a.tmps) = true)
    (ht : P.underlying t = some (.slice e)) (hi' : Info P e z (Rep.n α) bytes) {A : Option Addr} {n c l h : Nat} {xs : List α} (hs : Sl F w (.slice A n c) xs) (hx : a.eval x = .slice A n c)
    (hl : Bound a lo 0 l) (hh : Bound a hi n h) (h1 : l ≤ h) (h2 : h ≤ xs.length)
    (hk : ∀ A' c', Sl F w (.slice A' (h - l) c') ((xs.take h).drop l) → wpList P OPS Q rest (a.put d (.slice A' (h - l) c')) w) :
    Stop (wpList P OPS Q (⟨d, .slice t x lo hi none, ty, p, af, gd⟩ :: rest) a w) := by
  obtain ⟨A', c', hr, hs'⟩ := run_slice ht hi' hs hl hh h1 h2 hx
  refine step_run_g hg (v := .slice A' (h - l) c') (w' := w) ?_ (hk A' c' hs')
  have := hr
  rcases hl with ⟨rfl, rfl⟩ | ⟨o, kd, rfl, ho⟩ <;> rcases hh with ⟨rfl, rfl⟩ | ⟨o2, kd2, rfl, ho2⟩ <;>
    · simp only [Option.map_some, Option.map_none] at this
      simp only [execOp, Instr.sliceAt, Sem.run_bind, run_underlying ht, Option.map_some, Option.map_none, this, Result.andThen_ok, Sem.run_pure]
end
end Cb


/- Walks of package replay: what is known of the term. -/
set_option linter.unusedVariables false
set_option linter.unusedSimpArgs false
namespace Go.Proofs.Ytbjpoamnglfjeaa
open Go.RowKit Cb

theorem zEnts : (Try.prog.info? 28).bind (·.zero) = some (.slice none 0 0) := by kernel_rfl
/-- What is known: the entries, whether the term is over, the code, the replay behind it. -/
def knownG (st : RSt) (n : Nat) (over : Bool) (tail : List Ent) : List Ent × Bool × Int × RSt :=
  let st' : RSt := ⟨st.term, st.ent, st.cnt, st.fed, some (st.o.getD (newF n))⟩
  if over then
    (if (ofF (newF n) tail).2 = tail.length ∧ (st.fed st.term).length ≤ tail.length ∧ st.fed st.term = tail.take (st.fed st.term).length then (tail, true, 0, st') else ([], true, 160, st'))
  else (st.fed st.term, false, 0, st')
def knownF (rows : List Rw) (st : RSt) : List Ent × Bool × Int × RSt :=
  match atR rows st.term with
  | none => ([], false, 161, st)
  | some i => knownG st (rowA rows i).2.2.1.length (rowA rows i).2.2.2.2 (rowA rows i).2.2.2.1
def KnOut (w : World) (S : Nat → Prop) (p r : Nat) (m : List (Int × Value)) (k : List Ent × Bool × Int × RSt) (e : Ending) (w' : World) : Prop :=
  ∃ v' So' ov', e = .returned (.tuple #[v', .bool k.2.1, .int .i64 k.2.2.1]) ∧ Chg (At p) w w' ∧ RplV w' (Up S w w') So' p r m ov' k.2.2.2 ∧ Sl (fun b => b = p ∨ So' b) w' v' k.1
theorem RplV.up {w0 w : World} {S So : Nat → Prop} {p r : Nat} {m : List (Int × Value)} {ov : Value} {st : RSt} (h : RplV w S So p r m ov st) : RplV w (Up S w0 w) So p r m ov st :=
  h.more (fun _ hk => .inl hk) (fun k hk => by rcases hk with hk | hk; exact h.hS k hk; exact hk.2)
theorem RplV.rise {w0 w5 w : World} {S So : Nat → Prop} {p r : Nat} {m : List (Int × Value)} {ov : Value} {st : RSt} (h : RplV w (Up S w0 w5) So p r m ov st) (hs : w5.heap.size ≤ w.heap.size) : RplV w (Up S w0 w) So p r m ov st :=
  h.more (fun k hk => hk.imp id (fun g => ⟨g.1, by omega⟩)) (fun k hk => by rcases hk with hk | hk; exact h.hS k (.inl hk); exact hk.2)
/-- The order that was just laid is put in. -/
theorem RplV.fresh {w w1 w2 : World} {S So : Nat → Prop} {p r po n : Nat} {m : List (Int × Value)} {ov : Value} {st : RSt} {o : OSt} (h : RplV w S So p r m ov st) (h1 : Chg No w w1) (h2 : Chg No w1 w2) (ho : Ord w2 w1.heap.size w2.heap.size po o) (hI : Inv n o) :
    RplV (w2.setCell ⟨p, 4, none⟩ (.pointer (some ⟨po, 0, none⟩))) (Up S w (w2.setCell ⟨p, 4, none⟩ (.pointer (some ⟨po, 0, none⟩)))) (fun k => w1.heap.size ≤ k ∧ k < w2.heap.size) p r m (.pointer (some ⟨po, 0, none⟩)) ⟨st.term, st.ent, st.cnt, st.fed, some o⟩ ∧
      Chg (At p) w2 (w2.setCell ⟨p, 4, none⟩ (.pointer (some ⟨po, 0, none⟩))) := by
  have hc := h1.trans h2
  have hk := h.keepNo hc
  have hs := chg_set (w := w2) (b := p) (i := 4) (.pointer (some ⟨po, 0, none⟩))
  have hz : (w2.setCell ⟨p, 4, none⟩ (.pointer (some ⟨po, 0, none⟩))).heap.size = w2.heap.size := by simp
  have a1 := h1.size
  have a2 := h2.size
  have hp := h.hS p h.hp
  have hr := h.hS r h.hr
  obtain ⟨lv, rv, av, hv⟩ := ho.ors
  refine ⟨{ obj := obj_set hk.obj rfl, map := hk.map.keep hs (fun g => h.hpr g.symm), hS := ?_, hp := .inl h.hp, hr := .inl h.hr, hpr := h.hpr, hSo := fun k hk => ⟨.inr ⟨by omega, by omega⟩, by omega, by omega⟩, fed := fun t => ?_, tb := h.tb, ord := ⟨po, rfl, ⟨lv, rv, av, hv.keep hs (fun k g => by simp only [At] at g; omega)⟩, n, hI⟩ }, hs⟩
  · intro k hk'
    rcases hk' with hk' | hk'
    · have := h.hS k hk'; omega
    · exact hk'.2
  · have hf := (h.fed t).weak (G := fun k => ¬ Up S w (w2.setCell ⟨p, 4, none⟩ (.pointer (some ⟨po, 0, none⟩))) k ∨ k = p ∨ k = r ∨ (w1.heap.size ≤ k ∧ k < w2.heap.size)) (fun k hk g => by
      rcases g with g | g | g | g
      · exact .inl (fun s => g (.inl s))
      · exact .inr (.inl g)
      · exact .inr (.inr (.inl g))
      · omega)
    exact (hf.keepNo hc).keep (hs.weak (fun k _ g => .inr (.inl g)))
set_option maxRecDepth 100000 in
set_option maxHeartbeats 8000000 in
theorem known_on (S So : Nat → Prop) (p r g : Nat) (m : List (Int × Value)) (ov : Value) (st : RSt) (q : List Int) (s : List (List Int)) (l : List Ent) (w : World) (H : Hid (RplV w S So p r m ov st))
    (Hrow : Hid (Calls Try.prog 43 #[.pointer (some ⟨g, 0, none⟩), .int .i64 st.term] w fun e w' => ∃ vq vs vt, e = .returned (.tuple #[.agg #[.int .i64 st.term, vq, vs, vt, .bool false], .int .i64 0]) ∧ Chg No w w' ∧
      Sl (Lt w.heap.size) w' vq q ∧ Sl (Lt w.heap.size) w' vs s ∧ Sl (Lt w.heap.size) w' vt l)) (h1 : 1 ≤ s.length) (h8 : s.length ≤ 8) (htl : l.length ≤ 2199023255488) (hte : ∀ e ∈ l, e.2.2.1.length ≤ 1000000) :
    Calls Try.prog 88 #[.pointer (some ⟨p, 0, none⟩), .pointer (some ⟨g, 0, none⟩)] w (KnOut w S p r m (knownG st s.length false l)) := by
  have c0 := cell_obj (i := 0) H.out.obj rfl
  have Hlk := Lib.hid (fun W (hW : Chg No w W) => show (Instr.lookup 153 (.map (some r)) (.int .i64 st.term) false).run Try.prog W = .ok ((mget m st.term).getD (.slice none 0 0)) W by simpa using run_lookup klN Try.underlying153 zEnts (H.out.keepNo hW).map st.term false)
  obtain ⟨fv, hfv⟩ : ∃ v, v = (mget m st.term).getD (.slice none 0 0) := ⟨_, rfl⟩
  have Hfl := Lib.hid (fun W (S' So' : Nat → Prop) ov' st' (hW : RplV W S' So' p r m ov' st') (he : st'.fed = st.fed) => show Sl (fun k => ¬ S' k ∨ k = p ∨ k = r ∨ So' k) W fv (st.fed st.term) by rw [hfv, ← he]; exact hW.fed st.term)
  have Hfs := Lib.hid (show ∃ A c, fv = .slice A (st.fed st.term).length c from (Hfl.out w S So ov st H.out rfl).slice)
  rw [← hfv] at Hlk
  clear hfv
  obtain ⟨Af, cf, rfl⟩ := Hfs.out
  have htb := H.out.tb st.term
  go_enter Try.func88, Try.ntmps88
  go_wp2_with (with_reducible first | refine stop_append ?_ | refine stop_copy ?_ | refine stop_make ?_ | refine stop_lookup ?_ | refine stop_update ?_ | refine stop_slice ?_ | refine stop_range ?_ | refine stop_next ?_ | refine stop_convert ⟨_, rfl⟩ ?_ | refine stop_convertB ⟨_, _, _, rfl⟩ ?_ | refine stop_eqSlice ⟨_, _, rfl⟩ ?_)
  refine Hrow.out.mono ?_
  rintro e w1 ⟨vq, vs, vt, rfl, hc1, sq, ss, sl⟩
  obtain ⟨Bq, dq, rfl⟩ := sq.slice
  obtain ⟨Bs, ds, rfl⟩ := ss.slice
  obtain ⟨Bt, dt, rfl⟩ := sl.slice
  have o7 := alloc_obj w1 (.cells #[.int .i64 st.term, .slice Bq q.length dq, .slice Bs s.length ds, .slice Bt l.length dt, .bool false] 88)
  have hc2 := (Chg.refl No w1).alloc (.cells #[.int .i64 st.term, .slice Bq q.length dq, .slice Bs s.length ds, .slice Bt l.length dt, .bool false] 88)
  have Sl1 := Lib.hid sl
  clear sq ss sl Hrow
  go_wp2_with (with_reducible first | refine stop_append ?_ | refine stop_copy ?_ | refine stop_make ?_ | refine stop_lookup ?_ | refine stop_update ?_ | refine stop_slice ?_ | refine stop_range ?_ | refine stop_next ?_ | refine stop_convert ⟨_, rfl⟩ ?_ | refine stop_convertB ⟨_, _, _, rfl⟩ ?_ | refine stop_eqSlice ⟨_, _, rfl⟩ ?_)
  generalize w1.alloc (.cells #[.int .i64 st.term, .slice Bq q.length dq, .slice Bs s.length ds, .slice Bt l.length dt, .bool false] 88) = w2 at *
  obtain ⟨b7, hb7⟩ : ∃ b, b = w1.heap.size := ⟨_, rfl⟩
  rw [← hb7] at o7 ⊢
  have Hb7 := Lib.hid hb7
  clear hb7
  have hcw2 := hc1.trans hc2
  have hk2 := H.out.keepNo hcw2
  refine pl_start (fun W => W.cell? ⟨b7, 2, none⟩ = some (.slice Bs s.length ds) ∧ W.cell? ⟨p, 0, none⟩ = some (.int .i64 st.term) ∧ W.cell? ⟨p, 3, none⟩ = some (.map (some r)) ∧ (Instr.lookup 153 (.map (some r)) (.int .i64 st.term) false).run Try.prog W = .ok (.slice Af (st.fed st.term).length cf) W ∧ Chg No w2 W) (by kernel_rfl) (by kernel_rfl) ⟨cell_obj (i := 2) ((Chg.refl No w2).drew.obj o7 (not_no _)) rfl, cell_obj (i := 0) hk2.obj rfl, cell_obj (i := 3) hk2.obj rfl, Hlk.out _ hcw2.drew, (Chg.refl No w2).drew⟩ ?_
  iterate 15 ((refine pl_nx [] (v := ?_) rfl (by kernel_rfl) rfl ?_ ?_; rotate_left; focus (intro W hW; (try dsimp only at hW); go_split_ands; go_simp; (try (simp (disch := omega) only [IntWalk.i64_in]; (try go_simp))); (try (split; (next => omega); (try go_simp))); try rfl; done)); try simp only [Act.put, List.setIfInBounds_toArray, List.set_cons_zero, List.set_cons_succ, Nat.reduceAdd])
  refine pl_done (by kernel_rfl)  ?_
  rintro w3 ⟨-, -, -, -, hc3⟩
  have hcw3 := hcw2.trans hc3
  have o73 := hc3.obj o7 (not_no _)
  have hk3 := H.out.keepNo hcw3
  have c4 := cell_obj (i := 4) hk3.obj rfl
  have b2 := cell_obj (i := 2) o73 rfl
  have hI := inv_new s.length h1 h8
  have hpw := H.out.hS p H.out.hp
  have Hbw := Lib.hid (show p ≠ b7 by have := Hb7.out; have := hc1.size; omega)
  rcases ho : st.o with _ | o
  focus
    obtain rfl : ov = .pointer none := by have := H.out.ord; rw [ho] at this; exact this
    have Ho := Lib.hid ho
    clear ho
    go_wp2_with (with_reducible first | refine stop_append ?_ | refine stop_copy ?_ | refine stop_make ?_ | refine stop_lookup ?_ | refine stop_update ?_ | refine stop_slice ?_ | refine stop_range ?_ | refine stop_next ?_ | refine stop_convert ⟨_, rfl⟩ ?_ | refine stop_convertB ⟨_, _, _, rfl⟩ ?_ | refine stop_eqSlice ⟨_, _, rfl⟩ ?_)
    refine (onew_yes s.length w3 h1 h8).mono ?_
    rintro e w4 ⟨po, rfl, hc4, hord⟩
    have b1 := cell_obj (i := 3) (hc4.obj o73 (not_no _)) rfl
    have b4 := cell_obj (i := 4) (hc4.obj o73 (not_no _)) rfl
    have hbp := Hbw.out
    have hbp2 : b7 ≠ p := fun e => hbp e.symm
    obtain ⟨hk5, hc5⟩ := H.out.fresh hcw3 hc4 hord hI
    have o75 := hc5.obj (hc4.obj o73 (not_no _)) (show ¬ At p b7 from fun e => Hbw.out e.symm)
    have hk4 := H.out.keepNo (hcw3.trans hc4)
    have k4 := cell_obj (i := 4) hk4.obj rfl
    have f4 := free_obj (i := 4) hk4.obj
    have hcw5 := (hcw3.trans hc4).of_no.trans hc5
    have sl5 := ((Sl1.out.weak (G := fun k => k = p ∨ (w3.heap.size ≤ k ∧ k < w4.heap.size)) (fun k hk g => by
      rcases g with g | g
      · subst g; exact hpw
      · have := (hc2.trans hc3).size; omega)).keepNo ((hc2.trans hc3).trans hc4)).keep (hc5.weak (fun k _ g => .inl g))
    go_wp2_with (with_reducible first | refine stop_append ?_ | refine stop_copy ?_ | refine stop_make ?_ | refine stop_lookup ?_ | refine stop_update ?_ | refine stop_slice ?_ | refine stop_range ?_ | refine stop_next ?_ | refine stop_convert ⟨_, rfl⟩ ?_ | refine stop_convertB ⟨_, _, _, rfl⟩ ?_ | refine stop_eqSlice ⟨_, _, rfl⟩ ?_)
    generalize w4.setCell ⟨p, 4, none⟩ (.pointer (some ⟨po, 0, none⟩)) = w5 at *
    obtain ⟨So', hSo'⟩ : ∃ X : Nat → Prop, X = fun k => w3.heap.size ≤ k ∧ k < w4.heap.size := ⟨_, rfl⟩
    rw [← hSo'] at hk5
    rw [show (fun k => k = p ∨ w3.heap.size ≤ k ∧ k < w4.heap.size) = fun k => k = p ∨ So' k by rw [hSo']] at sl5
    obtain ⟨o', ho'⟩ : ∃ o', o' = newF (s.length : Int) := ⟨_, rfl⟩
    obtain ⟨ov', hov'⟩ : ∃ o' : Value, o' = .pointer (some ⟨po, 0, none⟩) := ⟨_, rfl⟩
    rw [← ho', ← hov'] at hk5
    have Hg := Lib.hid (show ∀ ov l, knownG st s.length ov l = knownG ⟨st.term, st.ent, st.cnt, st.fed, some o'⟩ s.length ov l by intro ov l; unfold knownG; rw [Ho.out, ho']; rfl)
    clear ho' hov' hSo'
  trace_state
  rotate_left
  focus
    have Ho := Lib.hid ho
    obtain ⟨po, rfl, -⟩ : ∃ po, ov = .pointer (some ⟨po, 0, none⟩) ∧ True := by have := H.out.ord; rw [ho] at this; obtain ⟨po, h, _⟩ := this; exact ⟨po, h, trivial⟩
    have hk5 := (H.out.keepNo hcw3).up (w0 := w)
    have hcw5 : Chg (At p) w w3 := hcw3.of_no
    have b1 := cell_obj (i := 3) o73 rfl
    have b4 := cell_obj (i := 4) o73 rfl
    have o75 := o73
    have hlw := H.out.hS
    have hso := H.out.hSo
    have sl5 := (Sl1.out.weak (G := fun k => k = p ∨ So k) (fun k hk g => by
      rcases g with g | g
      · subst g; exact hpw
      · exact hlw k (hso k g).1)).keepNo (hc2.trans hc3)
    rw [show st = ⟨st.term, st.ent, st.cnt, st.fed, some o⟩ by rw [← Ho.out]] at hk5
    have Hg := Lib.hid (show ∀ ov l, knownG st s.length ov l = knownG ⟨st.term, st.ent, st.cnt, st.fed, some o⟩ s.length ov l by intro ov l; rw [← Ho.out])
    clear ho
    go_wp2_with (with_reducible first | refine stop_append ?_ | refine stop_copy ?_ | refine stop_make ?_ | refine stop_lookup ?_ | refine stop_update ?_ | refine stop_slice ?_ | refine stop_range ?_ | refine stop_next ?_ | refine stop_convert ⟨_, rfl⟩ ?_ | refine stop_convertB ⟨_, _, _, rfl⟩ ?_ | refine stop_eqSlice ⟨_, _, rfl⟩ ?_)
    obtain ⟨w5, rfl⟩ : ∃ W : World, W = w3 := ⟨_, rfl⟩
    obtain ⟨So', rfl⟩ : ∃ X : Nat → Prop, X = So := ⟨_, rfl⟩
    obtain ⟨o', rfl⟩ : ∃ X : OSt, X = o := ⟨_, rfl⟩
    obtain ⟨ov', hov'⟩ : ∃ o' : Value, o' = .pointer (some ⟨po, 0, none⟩) := ⟨_, rfl⟩
    rw [← hov'] at hk5
    clear hov'
  all_goals
    rw [Hg.out]
    go_ret3
    exact ⟨_, So', ov', rfl, hcw5, hk5, (Hfl.out _ _ _ _ _ hk5 rfl).weak (fun k _ g => by rcases g with g | g; exact .inr (.inl g); exact .inr (.inr (.inr g)))⟩
set_option maxRecDepth 100000 in
set_option maxHeartbeats 8000000 in
theorem known_over (S So : Nat → Prop) (p r g : Nat) (m : List (Int × Value)) (ov : Value) (st : RSt) (q : List Int) (s : List (List Int)) (l : List Ent) (w : World) (H : Hid (RplV w S So p r m ov st))
    (Hrow : Hid (Calls Try.prog 43 #[.pointer (some ⟨g, 0, none⟩), .int .i64 st.term] w fun e w' => ∃ vq vs vt, e = .returned (.tuple #[.agg #[.int .i64 st.term, vq, vs, vt, .bool true], .int .i64 0]) ∧ Chg No w w' ∧
      Sl (Lt w.heap.size) w' vq q ∧ Sl (Lt w.heap.size) w' vs s ∧ Sl (Lt w.heap.size) w' vt l)) (h1 : 1 ≤ s.length) (h8 : s.length ≤ 8) (htl : l.length ≤ 2199023255488) (hte : ∀ e ∈ l, e.2.2.1.length ≤ 1000000) :
    Calls Try.prog 88 #[.pointer (some ⟨p, 0, none⟩), .pointer (some ⟨g, 0, none⟩)] w (KnOut w S p r m (knownG st s.length true l)) := by
  have c0 := cell_obj (i := 0) H.out.obj rfl
  have Hlk := Lib.hid (fun W (hW : Chg No w W) => show (Instr.lookup 153 (.map (some r)) (.int .i64 st.term) false).run Try.prog W = .ok ((mget m st.term).getD (.slice none 0 0)) W by simpa using run_lookup klN Try.underlying153 zEnts (H.out.keepNo hW).map st.term false)
  obtain ⟨fv, hfv⟩ : ∃ v, v = (mget m st.term).getD (.slice none 0 0) := ⟨_, rfl⟩
  have Hfl := Lib.hid (fun W (S' So' : Nat → Prop) ov' st' (hW : RplV W S' So' p r m ov' st') (he : st'.fed = st.fed) => show Sl (fun k => ¬ S' k ∨ k = p ∨ k = r ∨ So' k) W fv (st.fed st.term) by rw [hfv, ← he]; exact hW.fed st.term)
  have Hfs := Lib.hid (show ∃ A c, fv = .slice A (st.fed st.term).length c from (Hfl.out w S So ov st H.out rfl).slice)
  rw [← hfv] at Hlk
  clear hfv
  obtain ⟨Af, cf, rfl⟩ := Hfs.out
  have htb := H.out.tb st.term
  go_enter Try.func88, Try.ntmps88
  go_wp2_with (with_reducible first | refine stop_append ?_ | refine stop_copy ?_ | refine stop_make ?_ | refine stop_lookup ?_ | refine stop_update ?_ | refine stop_slice ?_ | refine stop_range ?_ | refine stop_next ?_ | refine stop_convert ⟨_, rfl⟩ ?_ | refine stop_convertB ⟨_, _, _, rfl⟩ ?_ | refine stop_eqSlice ⟨_, _, rfl⟩ ?_)
  refine Hrow.out.mono ?_
  rintro e w1 ⟨vq, vs, vt, rfl, hc1, sq, ss, sl⟩
  obtain ⟨Bq, dq, rfl⟩ := sq.slice
  obtain ⟨Bs, ds, rfl⟩ := ss.slice
  obtain ⟨Bt, dt, rfl⟩ := sl.slice
  have o7 := alloc_obj w1 (.cells #[.int .i64 st.term, .slice Bq q.length dq, .slice Bs s.length ds, .slice Bt l.length dt, .bool true] 88)
  have hc2 := (Chg.refl No w1).alloc (.cells #[.int .i64 st.term, .slice Bq q.length dq, .slice Bs s.length ds, .slice Bt l.length dt, .bool true] 88)
  have Sl1 := Lib.hid sl
  clear sq ss sl Hrow
  go_wp2_with (with_reducible first | refine stop_append ?_ | refine stop_copy ?_ | refine stop_make ?_ | refine stop_lookup ?_ | refine stop_update ?_ | refine stop_slice ?_ | refine stop_range ?_ | refine stop_next ?_ | refine stop_convert ⟨_, rfl⟩ ?_ | refine stop_convertB ⟨_, _, _, rfl⟩ ?_ | refine stop_eqSlice ⟨_, _, rfl⟩ ?_)
  generalize w1.alloc (.cells #[.int .i64 st.term, .slice Bq q.length dq, .slice Bs s.length ds, .slice Bt l.length dt, .bool true] 88) = w2 at *
  obtain ⟨b7, hb7⟩ : ∃ b, b = w1.heap.size := ⟨_, rfl⟩
  rw [← hb7] at o7 ⊢
  have Hb7 := Lib.hid hb7
  clear hb7
  have hcw2 := hc1.trans hc2
  have hk2 := H.out.keepNo hcw2
  refine pl_start (fun W => W.cell? ⟨b7, 2, none⟩ = some (.slice Bs s.length ds) ∧ W.cell? ⟨p, 0, none⟩ = some (.int .i64 st.term) ∧ W.cell? ⟨p, 3, none⟩ = some (.map (some r)) ∧ (Instr.lookup 153 (.map (some r)) (.int .i64 st.term) false).run Try.prog W = .ok (.slice Af (st.fed st.term).length cf) W ∧ Chg No w2 W) (by kernel_rfl) (by kernel_rfl) ⟨cell_obj (i := 2) ((Chg.refl No w2).drew.obj o7 (not_no _)) rfl, cell_obj (i := 0) hk2.obj rfl, cell_obj (i := 3) hk2.obj rfl, Hlk.out _ hcw2.drew, (Chg.refl No w2).drew⟩ ?_
  iterate 15 ((refine pl_nx [] (v := ?_) rfl (by kernel_rfl) rfl ?_ ?_; rotate_left; focus (intro W hW; (try dsimp only at hW); go_split_ands; go_simp; (try (simp (disch := omega) only [IntWalk.i64_in]; (try go_simp))); (try (split; (next => omega); (try go_simp))); try rfl; done)); try simp only [Act.put, List.setIfInBounds_toArray, List.set_cons_zero, List.set_cons_succ, Nat.reduceAdd])
  refine pl_done (by kernel_rfl)  ?_
  rintro w3 ⟨-, -, -, -, hc3⟩
  have hcw3 := hcw2.trans hc3
  have o73 := hc3.obj o7 (not_no _)
  have hk3 := H.out.keepNo hcw3
  have c4 := cell_obj (i := 4) hk3.obj rfl
  have b2 := cell_obj (i := 2) o73 rfl
  have hI := inv_new s.length h1 h8
  have hpw := H.out.hS p H.out.hp
  have Hbw := Lib.hid (show p ≠ b7 by have := Hb7.out; have := hc1.size; omega)
  rcases ho : st.o with _ | o
  focus
    obtain rfl : ov = .pointer none := by have := H.out.ord; rw [ho] at this; exact this
    have Ho := Lib.hid ho
    clear ho
    go_wp2_with (with_reducible first | refine stop_append ?_ | refine stop_copy ?_ | refine stop_make ?_ | refine stop_lookup ?_ | refine stop_update ?_ | refine stop_slice ?_ | refine stop_range ?_ | refine stop_next ?_ | refine stop_convert ⟨_, rfl⟩ ?_ | refine stop_convertB ⟨_, _, _, rfl⟩ ?_ | refine stop_eqSlice ⟨_, _, rfl⟩ ?_)
    refine (onew_yes s.length w3 h1 h8).mono ?_
    rintro e w4 ⟨po, rfl, hc4, hord⟩
    have b1 := cell_obj (i := 3) (hc4.obj o73 (not_no _)) rfl
    have b4 := cell_obj (i := 4) (hc4.obj o73 (not_no _)) rfl
    have hbp := Hbw.out
    have hbp2 : b7 ≠ p := fun e => hbp e.symm
    obtain ⟨hk5, hc5⟩ := H.out.fresh hcw3 hc4 hord hI
    have o75 := hc5.obj (hc4.obj o73 (not_no _)) (show ¬ At p b7 from fun e => Hbw.out e.symm)
    have hk4 := H.out.keepNo (hcw3.trans hc4)
    have k4 := cell_obj (i := 4) hk4.obj rfl
    have f4 := free_obj (i := 4) hk4.obj
    have hcw5 := (hcw3.trans hc4).of_no.trans hc5
    have sl5 := ((Sl1.out.weak (G := fun k => k = p ∨ (w3.heap.size ≤ k ∧ k < w4.heap.size)) (fun k hk g => by
      rcases g with g | g
      · subst g; exact hpw
      · have := (hc2.trans hc3).size; omega)).keepNo ((hc2.trans hc3).trans hc4)).keep (hc5.weak (fun k _ g => .inl g))
    go_wp2_with (with_reducible first | refine stop_append ?_ | refine stop_copy ?_ | refine stop_make ?_ | refine stop_lookup ?_ | refine stop_update ?_ | refine stop_slice ?_ | refine stop_range ?_ | refine stop_next ?_ | refine stop_convert ⟨_, rfl⟩ ?_ | refine stop_convertB ⟨_, _, _, rfl⟩ ?_ | refine stop_eqSlice ⟨_, _, rfl⟩ ?_)
    generalize w4.setCell ⟨p, 4, none⟩ (.pointer (some ⟨po, 0, none⟩)) = w5 at *
    obtain ⟨So', hSo'⟩ : ∃ X : Nat → Prop, X = fun k => w3.heap.size ≤ k ∧ k < w4.heap.size := ⟨_, rfl⟩
    rw [← hSo'] at hk5
    rw [show (fun k => k = p ∨ w3.heap.size ≤ k ∧ k < w4.heap.size) = fun k => k = p ∨ So' k by rw [hSo']] at sl5
    obtain ⟨o', ho'⟩ : ∃ o', o' = newF (s.length : Int) := ⟨_, rfl⟩
    obtain ⟨ov', hov'⟩ : ∃ o' : Value, o' = .pointer (some ⟨po, 0, none⟩) := ⟨_, rfl⟩
    rw [← ho', ← hov'] at hk5
    have Hg := Lib.hid (show ∀ ov l, knownG st s.length ov l = knownG ⟨st.term, st.ent, st.cnt, st.fed, some o'⟩ s.length ov l by intro ov l; unfold knownG; rw [Ho.out, ho']; rfl)
    clear ho' hov' hSo'
  trace_state
  rotate_left
  focus
    have Ho := Lib.hid ho
    obtain ⟨po, rfl, -⟩ : ∃ po, ov = .pointer (some ⟨po, 0, none⟩) ∧ True := by have := H.out.ord; rw [ho] at this; obtain ⟨po, h, _⟩ := this; exact ⟨po, h, trivial⟩
    have hk5 := (H.out.keepNo hcw3).up (w0 := w)
    have hcw5 : Chg (At p) w w3 := hcw3.of_no
    have b1 := cell_obj (i := 3) o73 rfl
    have b4 := cell_obj (i := 4) o73 rfl
    have o75 := o73
    have hlw := H.out.hS
    have hso := H.out.hSo
    have sl5 := (Sl1.out.weak (G := fun k => k = p ∨ So k) (fun k hk g => by
      rcases g with g | g
      · subst g; exact hpw
      · exact hlw k (hso k g).1)).keepNo (hc2.trans hc3)
    rw [show st = ⟨st.term, st.ent, st.cnt, st.fed, some o⟩ by rw [← Ho.out]] at hk5
    have Hg := Lib.hid (show ∀ ov l, knownG st s.length ov l = knownG ⟨st.term, st.ent, st.cnt, st.fed, some o⟩ s.length ov l by intro ov l; rw [← Ho.out])
    clear ho
    go_wp2_with (with_reducible first | refine stop_append ?_ | refine stop_copy ?_ | refine stop_make ?_ | refine stop_lookup ?_ | refine stop_update ?_ | refine stop_slice ?_ | refine stop_range ?_ | refine stop_next ?_ | refine stop_convert ⟨_, rfl⟩ ?_ | refine stop_convertB ⟨_, _, _, rfl⟩ ?_ | refine stop_eqSlice ⟨_, _, rfl⟩ ?_)
    obtain ⟨w5, rfl⟩ : ∃ W : World, W = w3 := ⟨_, rfl⟩
    obtain ⟨So', rfl⟩ : ∃ X : Nat → Prop, X = So := ⟨_, rfl⟩
    obtain ⟨o', rfl⟩ : ∃ X : OSt, X = o := ⟨_, rfl⟩
    obtain ⟨ov', hov'⟩ : ∃ o' : Value, o' = .pointer (some ⟨po, 0, none⟩) := ⟨_, rfl⟩
    rw [← hov'] at hk5
    clear hov'
  all_goals
    have Hof := Lib.hid (oof_yes s.length (.slice Bt l.length dt) l w5 h1 h8 sl5.no (by omega) (fun e he => by have := hte e he; omega))
    refine Hof.out.mono ?_
    rintro e w6 ⟨pq, rfl, hc6, -⟩
    obtain ⟨n, hn⟩ : ∃ n, n = (ofF (newF s.length) l).2 := ⟨_, rfl⟩
    rw [← hn]
    have Hn := Lib.hid hn
    clear hn
    have hk6 := (hk5.keepNo hc6).rise hc6.size
    have hcw6 := hcw5.trans hc6.of_no
    have b6 := cell_obj (i := 3) (hc6.obj o75 (not_no _)) rfl
    have sl6 := sl5.keepNo hc6
    have fl6 := (Hfl.out _ _ _ _ _ hk6 rfl)
    clear b1 b4 o75 o73 o7 b2 sl5 Hof hc6
    by_cases hnl : n = l.length
    · by_cases hfl : (st.fed st.term).length ≤ l.length
      · have g1 : (n != l.length) = false := by simp; omega
        have g2 : ((n : Int) != (l.length : Int)) = false := by simp; omega
        have g3 : ¬ n < (st.fed st.term).length := by omega
        have g4 : ¬ (n : Int) < ((st.fed st.term).length : Int) := by omega
        have Hnl := Lib.hid hnl
        clear hnl
        go_wp2_with (with_reducible first | refine stop_append ?_ | refine stop_copy ?_ | refine stop_make ?_ | refine stop_lookup ?_ | refine stop_update ?_ | refine stop_slice ?_ | refine stop_range ?_ | refine stop_next ?_ | refine stop_convert ⟨_, rfl⟩ ?_ | refine stop_convertB ⟨_, _, _, rfl⟩ ?_ | refine stop_eqSlice ⟨_, _, rfl⟩ ?_)
        refine step_slice_g (α := Ent) (l := 0) (h := (st.fed st.term).length) (by kernel_rfl) Try.underlying28 info_ent sl6 (by kernel_rfl) Bound.none (Bound.some (kd := .i64) (by kernel_rfl)) (by omega) hfl ?_
        intro A7 c7 s7
        have Heq := Lib.hid (eqents_any _ _ _ _ (st.fed st.term) ((l.take (st.fed st.term).length).drop 0) w6 fl6 s7 htb.1 (by simp; omega) htb.2 (fun x hx => by have := hte x (List.mem_of_mem_take (by simpa using hx)); omega))
        rw [List.drop_zero, Nat.sub_zero] at Heq
        rw [Nat.sub_zero]
        by_cases heq : st.fed st.term = l.take (st.fed st.term).length
        · have Hk := Lib.hid (show knownG ⟨st.term, st.ent, st.cnt, st.fed, some o'⟩ s.length true l = (l, true, 0, ⟨st.term, st.ent, st.cnt, st.fed, some o'⟩) by unfold knownG; simp only [if_true]; rw [if_pos ⟨by rw [← Hn.out]; exact Hnl.out, hfl, heq⟩]; rfl)
          rw [decide_eq_true heq] at Heq
          clear heq
          go_wp2_with (with_reducible first | refine stop_append ?_ | refine stop_copy ?_ | refine stop_make ?_ | refine stop_lookup ?_ | refine stop_update ?_ | refine stop_slice ?_ | refine stop_range ?_ | refine stop_next ?_ | refine stop_convert ⟨_, rfl⟩ ?_ | refine stop_convertB ⟨_, _, _, rfl⟩ ?_ | refine stop_eqSlice ⟨_, _, rfl⟩ ?_)
          refine Heq.out.mono ?_
          rintro e w7 ⟨rfl, hc7⟩
          have b7 := hc7.cell b6 (not_no _)
          go_wp2_with (with_reducible first | refine stop_append ?_ | refine stop_copy ?_ | refine stop_make ?_ | refine stop_lookup ?_ | refine stop_update ?_ | refine stop_slice ?_ | refine stop_range ?_ | refine stop_next ?_ | refine stop_convert ⟨_, rfl⟩ ?_ | refine stop_convertB ⟨_, _, _, rfl⟩ ?_ | refine stop_eqSlice ⟨_, _, rfl⟩ ?_)
          go_ret3
          rw [Hg.out, Hk.out]
          exact ⟨_, So', ov', rfl, hcw6.trans hc7.of_no, (hk6.keepNo hc7).rise hc7.size, sl6.keepNo hc7⟩
        · have Hk := Lib.hid (show knownG ⟨st.term, st.ent, st.cnt, st.fed, some o'⟩ s.length true l = ([], true, 160, ⟨st.term, st.ent, st.cnt, st.fed, some o'⟩) by unfold knownG; simp only [if_true]; rw [if_neg (fun h => heq h.2.2)]; rfl)
          rw [decide_eq_false heq] at Heq
          clear heq
          go_wp2_with (with_reducible first | refine stop_append ?_ | refine stop_copy ?_ | refine stop_make ?_ | refine stop_lookup ?_ | refine stop_update ?_ | refine stop_slice ?_ | refine stop_range ?_ | refine stop_next ?_ | refine stop_convert ⟨_, rfl⟩ ?_ | refine stop_convertB ⟨_, _, _, rfl⟩ ?_ | refine stop_eqSlice ⟨_, _, rfl⟩ ?_)
          refine Heq.out.mono ?_
          rintro e w7 ⟨rfl, hc7⟩
          go_wp2_with (with_reducible first | refine stop_append ?_ | refine stop_copy ?_ | refine stop_make ?_ | refine stop_lookup ?_ | refine stop_update ?_ | refine stop_slice ?_ | refine stop_range ?_ | refine stop_next ?_ | refine stop_convert ⟨_, rfl⟩ ?_ | refine stop_convertB ⟨_, _, _, rfl⟩ ?_ | refine stop_eqSlice ⟨_, _, rfl⟩ ?_)
          go_ret3
          rw [Hg.out, Hk.out]
          exact ⟨_, So', ov', rfl, hcw6.trans hc7.of_no, (hk6.keepNo hc7).rise hc7.size, Sl.nil _ _ _ _⟩
      · have g1 : (n != l.length) = false := by simp; omega
        have g2 : ((n : Int) != (l.length : Int)) = false := by simp; omega
        have g3 : n < (st.fed st.term).length := by omega
        have g4 : (n : Int) < ((st.fed st.term).length : Int) := by omega
        clear hnl
        have Hk := Lib.hid (show knownG ⟨st.term, st.ent, st.cnt, st.fed, some o'⟩ s.length true l = ([], true, 160, ⟨st.term, st.ent, st.cnt, st.fed, some o'⟩) by unfold knownG; simp only [if_true]; rw [if_neg (fun h => hfl h.2.1)]; rfl)
        go_wp2_with (with_reducible first | refine stop_append ?_ | refine stop_copy ?_ | refine stop_make ?_ | refine stop_lookup ?_ | refine stop_update ?_ | refine stop_slice ?_ | refine stop_range ?_ | refine stop_next ?_ | refine stop_convert ⟨_, rfl⟩ ?_ | refine stop_convertB ⟨_, _, _, rfl⟩ ?_ | refine stop_eqSlice ⟨_, _, rfl⟩ ?_)
        go_ret3
        rw [Hg.out, Hk.out]
        exact ⟨_, So', ov', rfl, hcw6, hk6, Sl.nil _ _ _ _⟩
    · have g1 : (n != l.length) = true := by simp; omega
      have g2 : ((n : Int) != (l.length : Int)) = true := by simp; omega
      have Hk := Lib.hid (show knownG ⟨st.term, st.ent, st.cnt, st.fed, some o'⟩ s.length true l = ([], true, 160, ⟨st.term, st.ent, st.cnt, st.fed, some o'⟩) by unfold knownG; simp only [if_true]; rw [if_neg (fun h => hnl (by rw [Hn.out]; exact h.1))]; rfl)
      go_wp2_with (with_reducible first | refine stop_append ?_ | refine stop_copy ?_ | refine stop_make ?_ | refine stop_lookup ?_ | refine stop_update ?_ | refine stop_slice ?_ | refine stop_range ?_ | refine stop_next ?_ | refine stop_convert ⟨_, rfl⟩ ?_ | refine stop_convertB ⟨_, _, _, rfl⟩ ?_ | refine stop_eqSlice ⟨_, _, rfl⟩ ?_)
      go_ret3
      rw [Hg.out, Hk.out]
      exact ⟨_, So', ov', rfl, hcw6, hk6, Sl.nil _ _ _ _⟩
set_option maxRecDepth 100000 in
set_option maxHeartbeats 8000000 in
theorem known_any (S So : Nat → Prop) (p r B g : Nat) (m : List (Int × Value)) (ov : Value) (st : RSt) (rows : List Rw) (w : World) (h : RplV w S So p r m ov st) (hreg : RegS w B g rows) (hi : RowsI rows) :
    Calls Try.prog 88 #[.pointer (some ⟨p, 0, none⟩), .pointer (some ⟨g, 0, none⟩)] w (KnOut w S p r m (knownF rows st)) := by
  have H := Lib.hid h
  have c0 := cell_obj (i := 0) h.obj rfl
  unfold knownF
  cases hat : atR rows st.term with
  | none =>
    have Hrow := Lib.hid (rrow_no B g rows w hreg hi st.term (atR_none hat))
    clear h hreg
    go_enter Try.func88, Try.ntmps88
    go_wp2_with (with_reducible first | refine stop_append ?_ | refine stop_copy ?_ | refine stop_make ?_ | refine stop_lookup ?_ | refine stop_update ?_ | refine stop_slice ?_ | refine stop_range ?_ | refine stop_next ?_ | refine stop_convert ⟨_, rfl⟩ ?_ | refine stop_convertB ⟨_, _, _, rfl⟩ ?_ | refine stop_eqSlice ⟨_, _, rfl⟩ ?_)
    refine Hrow.out.mono ?_
    rintro e w1 ⟨rfl, hc1⟩
    go_wp2_with (with_reducible first | refine stop_append ?_ | refine stop_copy ?_ | refine stop_make ?_ | refine stop_lookup ?_ | refine stop_update ?_ | refine stop_slice ?_ | refine stop_range ?_ | refine stop_next ?_ | refine stop_convert ⟨_, rfl⟩ ?_ | refine stop_convertB ⟨_, _, _, rfl⟩ ?_ | refine stop_eqSlice ⟨_, _, rfl⟩ ?_)
    go_ret3
    have hc2 := hc1.alloc (.cells #[.int .i64 0, .slice none 0 0, .slice none 0 0, .slice none 0 0, .bool false] 88)
    exact ⟨_, _, _, rfl, hc2.of_no, (H.out.keepNo hc2).up, Sl.nil _ _ _ _⟩
  | some i =>
    obtain ⟨hlt, hti⟩ := atR_some hi.1 hat
    have Hrow := Lib.hid (rrow_yes B g rows w hreg hi i hlt)
    rw [← hti] at Hrow
    obtain ⟨-, hr, htl, hte⟩ := hi.2.2 i hlt
    obtain ⟨-, h8, -⟩ := right_small hr
    have h1 : 1 ≤ rows[i].2.2.1.length := (rightC_iff.1 hr).2.2.1.1
    simp only [rowA_get rows i hlt]
    clear h hreg hat hti hr hi
    generalize rows[i] = rw at *
    obtain ⟨t', q, s, l, ovr⟩ := rw
    rcases ovr with _ | _
    · exact known_on S So p r g m ov st q s l w H Hrow h1 h8 htl hte
    · exact known_over S So p r g m ov st q s l w H Hrow h1 h8 htl hte
end Go.Proofs.Ytbjpoamnglfjeaa


/- Walks of package replay: what tells a record, and telling it. -/
set_option linter.unusedVariables false
set_option linter.unusedSimpArgs false
namespace Go.Proofs.Ytbjpoamnglfjeaa
open Go.RowKit Cb

abbrev Rcd := (Int × Int) × List Int × ByteArray
def recV (r : Rcd) (vt : Value) : Value := .agg #[.int .i64 r.1.1, .int .i64 r.1.2, vt, .string r.2.2]
def dataF (t s l : Int) : Rcd := ((t, l % 1000000), [s + 1], ⟨#[120]⟩)
theorem set4 {w : World} {q : Nat} {a b c d : Value} {T : TypeId} {fz : Nat × Nat} (h : w.heap[q]? = some (.cells #[a, b, c, d] T fz)) (x y z t : Value) :
    ((((w.setCell ⟨q, 0, none⟩ x).setCell ⟨q, 1, none⟩ y).setCell ⟨q, 2, none⟩ z).setCell ⟨q, 3, none⟩ t).heap[q]? = some (.cells #[x, y, z, t] T fz) ∧ Chg (At q) w ((((w.setCell ⟨q, 0, none⟩ x).setCell ⟨q, 1, none⟩ y).setCell ⟨q, 2, none⟩ z).setCell ⟨q, 3, none⟩ t) :=
  ⟨obj_set (obj_set (obj_set (obj_set h rfl) rfl) rfl) rfl, (((chg_set _).setCell (p := ⟨q, 1, none⟩) (.inl rfl) _).setCell (p := ⟨q, 2, none⟩) (.inl rfl) _).setCell (p := ⟨q, 3, none⟩) (.inl rfl) _⟩
set_option maxRecDepth 100000 in
set_option maxHeartbeats 1000000 in
theorem data_any (t s l : Int) (w : World) (hs : 0 ≤ s ∧ s ≤ 1000) (hl : 0 ≤ l) :
    Calls Try.prog 91 #[.int .i64 t, .int .i64 s, .int .i64 l] w fun e w' => ∃ vt, e = .returned (recV (dataF t s l) vt) ∧ Chg No w w' ∧ Sl (Lt w.heap.size) w' vt [s + 1] := by
  have hm : Int.tmod l 1000000 = l % 1000000 := Int.tmod_eq_emod_of_nonneg hl
  have o1 := alloc_obj w (.cells #[.int .i64 t, .int .i64 (l % 1000000), .slice (some ⟨w.heap.size + 1, 0, none⟩) 1 1, .string ⟨#[120]⟩] 104)
  have hsl := Sl.lit1 (F := Lt w.heap.size) (w := w.alloc (.cells #[.int .i64 t, .int .i64 (l % 1000000), .slice (some ⟨w.heap.size + 1, 0, none⟩) 1 1, .string ⟨#[120]⟩] 104)) (T := 3) (y := s + 1) (d := [.int .i64 (s + 1)]) rfl rfl (by simp [Lt])
  have o2 := ((Chg.refl No _).alloc (.cells #[.int .i64 (s + 1)] 3)).obj o1 (not_no _)
  have Hsl := Lib.hid hsl
  have c0 := cell_obj (i := 0) o2 rfl
  have c1 := cell_obj (i := 1) o2 rfl
  have c2 := cell_obj (i := 2) o2 rfl
  have c3 := cell_obj (i := 3) o2 rfl
  clear hsl o1 o2
  go_enter Try.func91, Try.ntmps91
  go_wp2_with (with_reducible first | refine stop_append ?_ | refine stop_copy ?_ | refine stop_make ?_ | refine stop_lookup ?_ | refine stop_update ?_ | refine stop_slice ?_ | refine stop_range ?_ | refine stop_next ?_ | refine stop_convert ⟨_, rfl⟩ ?_ | refine stop_convertB ⟨_, _, _, rfl⟩ ?_ | refine stop_eqSlice ⟨_, _, rfl⟩ ?_)
  refine bodyPost_ret (v := .agg #[.int .i64 t, .int .i64 (l % 1000000), .slice (some ⟨w.heap.size + 1, 0, none⟩) 1 1, .string ⟨#[120]⟩]) (by simp [results, Try.results91, go_sem, *]) rfl ?_
  have h := Hsl.out
  rw [World.size_alloc] at h
  exact ⟨_, rfl, ((Chg.refl No w).alloc _).alloc _, h⟩
/-- What a function that tells a record of a place answers. -/
def GetPost (r : Option Rcd) (w : World) (e : Ending) (w' : World) : Prop :=
  Chg No w w' ∧ ((∃ x vt, r = some x ∧ e = .returned (.tuple #[recV x vt, .int .i64 0]) ∧ Sl (Lt w.heap.size) w' vt x.2.1) ∨ (r = none ∧ e = .returned (.tuple #[recV ((0, 0), [], ⟨#[]⟩) (.slice none 0 0), .int .i64 91])))
set_option maxRecDepth 100000 in
set_option maxHeartbeats 1000000 in
theorem bad_any (t s l : Int) (w : World) : Calls Try.prog 52 #[.int .i64 t, .int .i64 s, .int .i64 l] w (GetPost none w) := by
  have o1 := alloc_obj w (.cells #[.int .i64 0, .int .i64 0, .slice none 0 0, .string ⟨#[]⟩] 104)
  have c0 := cell_obj (i := 0) o1 rfl
  have c1 := cell_obj (i := 1) o1 rfl
  have c2 := cell_obj (i := 2) o1 rfl
  have c3 := cell_obj (i := 3) o1 rfl
  clear o1
  go_enter Try.func52, Try.ntmps52
  go_wp2_with (with_reducible first | refine stop_append ?_ | refine stop_copy ?_ | refine stop_make ?_ | refine stop_lookup ?_ | refine stop_update ?_ | refine stop_slice ?_ | refine stop_range ?_ | refine stop_next ?_ | refine stop_convert ⟨_, rfl⟩ ?_ | refine stop_convertB ⟨_, _, _, rfl⟩ ?_ | refine stop_eqSlice ⟨_, _, rfl⟩ ?_)
  refine bodyPost_ret (v := .tuple #[.agg #[.int .i64 0, .int .i64 0, .slice none 0 0, .string ⟨#[]⟩], .int .i64 91]) (by simp [results, Try.results52, go_sem, *]) rfl ?_
  exact ⟨(Chg.refl No w).alloc _, .inr ⟨rfl, rfl⟩⟩
set_option maxRecDepth 100000 in
set_option maxHeartbeats 1000000 in
theorem good_any (t s l : Int) (w : World) (hs : 0 ≤ s ∧ s ≤ 1000) (hl : 0 ≤ l) : Calls Try.prog 53 #[.int .i64 t, .int .i64 s, .int .i64 l] w (GetPost (some (dataF t s l)) w) := by
  have o1 := alloc_obj w (.cells #[.int .i64 0, .int .i64 0, .slice none 0 0, .string ⟨#[]⟩] 104)
  have hc1 := (Chg.refl No w).alloc (.cells #[.int .i64 0, .int .i64 0, .slice none 0 0, .string ⟨#[]⟩] 104)
  have Hd := Lib.hid (fun W => data_any t s l W hs hl)
  go_enter Try.func53, Try.ntmps53
  go_wp2_with (with_reducible first | refine stop_append ?_ | refine stop_copy ?_ | refine stop_make ?_ | refine stop_lookup ?_ | refine stop_update ?_ | refine stop_slice ?_ | refine stop_range ?_ | refine stop_next ?_ | refine stop_convert ⟨_, rfl⟩ ?_ | refine stop_convertB ⟨_, _, _, rfl⟩ ?_ | refine stop_eqSlice ⟨_, _, rfl⟩ ?_)
  generalize w.alloc (.cells #[.int .i64 0, .int .i64 0, .slice none 0 0, .string ⟨#[]⟩] 104) = w0 at *
  obtain ⟨q, hq⟩ : ∃ q, q = w.heap.size := ⟨_, rfl⟩
  rw [← hq] at o1 ⊢
  have hql := lt_of_heap o1
  have hqw : w.heap.size ≤ q := by omega
  clear hq
  refine (Hd.out _).mono ?_
  rintro e w1 ⟨vt, rfl, hc, hsl⟩
  obtain ⟨A, c, rfl⟩ := hsl.slice
  have o11 := hc.obj o1 (not_no _)
  have hcw := hc1.trans hc
  have hsz := hc1.size
  have Hsl := Lib.hid hsl
  clear o1 hc hsl
  have f0 := free_obj (i := 0) o11
  have f1 := free_obj (i := 1) o11
  have f2 := free_obj (i := 2) o11
  have f3 := free_obj (i := 3) o11
  have z0 := cell_obj (i := 0) o11 rfl
  have z1 := cell_obj (i := 1) o11 rfl
  have z2 := cell_obj (i := 2) o11 rfl
  have z3 := cell_obj (i := 3) o11 rfl
  simp only [dataF, recV] at *
  go_wp2_with (with_reducible first | refine stop_append ?_ | refine stop_copy ?_ | refine stop_make ?_ | refine stop_lookup ?_ | refine stop_update ?_ | refine stop_slice ?_ | refine stop_range ?_ | refine stop_next ?_ | refine stop_convert ⟨_, rfl⟩ ?_ | refine stop_convertB ⟨_, _, _, rfl⟩ ?_ | refine stop_eqSlice ⟨_, _, rfl⟩ ?_)
  refine bodyPost_ret (v := .tuple #[.agg #[.int .i64 t, .int .i64 (l % 1000000), .slice A 1 c, .string ⟨#[120]⟩], .int .i64 0]) (by simp [results, Try.results53, go_sem, *]) rfl ?_
  obtain ⟨k1, k2⟩ := set4 o11 (.int .i64 t) (.int .i64 (l % 1000000)) (.slice A 1 c) (.string ⟨#[120]⟩)
  exact ⟨hcw.old k2 (fun i h => by simp only [At] at h; omega), .inl ⟨_, _, rfl, rfl, (Hsl.out.keep (k2.weak (fun i _ h => by simp only [At] at h; simp only [Lt]; omega))).weak (fun i _ h => by simp only [Lt] at *; omega)⟩⟩
end Go.Proofs.Ytbjpoamnglfjeaa

