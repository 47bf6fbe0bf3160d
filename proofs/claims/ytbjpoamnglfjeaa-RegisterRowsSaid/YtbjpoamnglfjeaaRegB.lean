/- Walks of package register: a row of the caller's own. -/
import Derived.Test.YtbjpoamnglfjeaaRegA
set_option linter.unusedVariables false
set_option linter.unusedSimpArgs false
namespace Go.Proofs.Ytbjpoamnglfjeaa
open Go.RowKit Cb

theorem set3 {w : World} {q : Nat} {a b c : Value} {T : TypeId} {fz : Nat × Nat} (h : w.heap[q]? = some (.cells #[a, b, c] T fz)) (x y z : Value) :
    (((w.setCell ⟨q, 0, none⟩ x).setCell ⟨q, 1, none⟩ y).setCell ⟨q, 2, none⟩ z).heap[q]? = some (.cells #[x, y, z] T fz) ∧ Chg (At q) w (((w.setCell ⟨q, 0, none⟩ x).setCell ⟨q, 1, none⟩ y).setCell ⟨q, 2, none⟩ z) :=
  ⟨obj_set (obj_set (obj_set h rfl) rfl) rfl, ((chg_set x).trans (chg_set y)).trans (chg_set z)⟩
theorem set5 {w : World} {q : Nat} {a b c d e : Value} {T : TypeId} {fz : Nat × Nat} (h : w.heap[q]? = some (.cells #[a, b, c, d, e] T fz)) (x y z t u : Value) :
    (((((w.setCell ⟨q, 0, none⟩ x).setCell ⟨q, 1, none⟩ y).setCell ⟨q, 2, none⟩ z).setCell ⟨q, 3, none⟩ t).setCell ⟨q, 4, none⟩ u).heap[q]? = some (.cells #[x, y, z, t, u] T fz) ∧ Chg (At q) w (((((w.setCell ⟨q, 0, none⟩ x).setCell ⟨q, 1, none⟩ y).setCell ⟨q, 2, none⟩ z).setCell ⟨q, 3, none⟩ t).setCell ⟨q, 4, none⟩ u) :=
  ⟨obj_set (obj_set (obj_set (obj_set (obj_set h rfl) rfl) rfl) rfl) rfl, ((((chg_set x).trans (chg_set y)).trans (chg_set z)).trans (chg_set t)).trans (chg_set u)⟩
/-- A row's value. -/
def rowV (t : Int) (vq vs vt : Value) (o : Bool) : Value := .agg #[.int .i64 t, vq, vs, vt, .bool o]
theorem vinfo_ints : Info Try.prog 46 (.slice none 0 0) 1 24 := by unfold Info; kernel_rfl
set_option maxRecDepth 100000 in
set_option maxHeartbeats 4000000 in
theorem own_any (t : Int) (vq vs vt : Value) (o : Bool) (q : List Int) (s : List (List Int)) (l : List Ent) (w : World) (hq : Sl No w vq q) (hs : Sl No w vs s) (ht : Sl No w vt l)
    (hlq : q.length ≤ 1000000) (hls : s.length ≤ 1000000) (hbs : ∀ x ∈ s, x.length ≤ 1000000) (hlt : l.length ≤ 2199023255488) (hbt : ∀ e ∈ l, e.2.2.1.length ≤ 1000000) :
    Calls Try.prog 67 #[rowV t vq vs vt o] w fun e w' => ∃ vq' vs' vt', e = .returned (rowV t vq' vs' vt' o) ∧ Chg No w w' ∧ Sl (Lt w.heap.size) w' vq' q ∧ Sl (Lt w.heap.size) w' vs' s ∧ Sl (Lt w.heap.size) w' vt' l := by
  have Hq := Lib.hid (fun W (hW : Chg No w W) => vclone_any _ _ q W (hq.keepNo hW) hlq)
  have Ht := Lib.hid (fun W (hW : Chg No w W) => regents_any _ l W (ht.keepNo hW) hlt hbt)
  have Hs := Lib.hid (fun W (hW : Chg No w W) => (Sl.up hs (Nat.le_refl _)).keepNo hW)
  have Hbs := Lib.hid hbs
  obtain ⟨Aq, cq, rfl⟩ := hq.slice
  obtain ⟨As, cs, rfl⟩ := hs.slice
  obtain ⟨At0, ct, rfl⟩ := ht.slice
  clear hq hs ht hbs hbt
  unfold rowV
  go_enter Try.func67, Try.ntmps67
  have o1 := ((Chg.refl No (w.alloc (.cells #[.int .i64 t, .slice Aq q.length cq, .slice As s.length cs, .slice At0 l.length ct, .bool o] 88))).alloc (.cells #[.int .i64 0, .slice none 0 0, .slice none 0 0, .slice none 0 0, .bool false] 88)).obj (alloc_obj w (.cells #[.int .i64 t, .slice Aq q.length cq, .slice As s.length cs, .slice At0 l.length ct, .bool o] 88)) (not_no _)
  have o2 := alloc_obj (w.alloc (.cells #[.int .i64 t, .slice Aq q.length cq, .slice As s.length cs, .slice At0 l.length ct, .bool o] 88)) (.cells #[.int .i64 0, .slice none 0 0, .slice none 0 0, .slice none 0 0, .bool false] 88)
  have hc0 := ((Chg.refl No w).alloc (.cells #[.int .i64 t, .slice Aq q.length cq, .slice As s.length cs, .slice At0 l.length ct, .bool o] 88)).alloc (.cells #[.int .i64 0, .slice none 0 0, .slice none 0 0, .slice none 0 0, .bool false] 88)
  have hz : (w.alloc (.cells #[.int .i64 t, .slice Aq q.length cq, .slice As s.length cs, .slice At0 l.length ct, .bool o] 88)).heap.size = w.heap.size + 1 := by simp
  rw [hz] at o2
  go_wp2_with (first | (with_reducible refine stop_append ?_) | (with_reducible refine stop_copy ?_) | (with_reducible refine stop_make ?_) | (with_reducible refine stop_lookup ?_) | (with_reducible refine stop_update ?_) | (with_reducible refine stop_slice ?_) | (with_reducible refine stop_range ?_) | (with_reducible refine stop_next ?_) | (with_reducible refine stop_convert ⟨_, rfl⟩ ?_) | (with_reducible refine stop_convertB ⟨_, _, _, rfl⟩ ?_) | (with_reducible refine stop_eqSlice ⟨_, _, rfl⟩ ?_))
  generalize (w.alloc (.cells #[.int .i64 t, .slice Aq q.length cq, .slice As s.length cs, .slice At0 l.length ct, .bool o] 88)).alloc (.cells #[.int .i64 0, .slice none 0 0, .slice none 0 0, .slice none 0 0, .bool false] 88) = w0 at *
  obtain ⟨q1, hq1⟩ : ∃ p, p = w.heap.size := ⟨_, rfl⟩
  obtain ⟨q2, hq2⟩ : ∃ p, p = w.heap.size + 1 := ⟨_, rfl⟩
  rw [← hq2] at o2 ⊢
  rw [← hq1] at o1 ⊢
  have Hq1 := Lib.hid hq1; have Hq2 := Lib.hid hq2
  clear hq1 hq2 hz
  have HS := Lib.hid (show ∀ W, Chg No w0 W → (fun W => W.cell? ⟨q1, 0, none⟩ = some (.int .i64 t) ∧ W.cell? ⟨q1, 1, none⟩ = some (.slice Aq q.length cq)) W from fun W hW => ⟨cell_obj (hW.obj o1 (not_no _)) rfl, cell_obj (hW.obj o1 (not_no _)) rfl⟩)
  have cd := (Chg.refl No w0).drew
  refine rt_start (fun W => W.cell? ⟨q1, 0, none⟩ = some (.int .i64 t) ∧ W.cell? ⟨q1, 1, none⟩ = some (.slice Aq q.length cq)) (by kernel_rfl) ?_
  ((refine rt_yes (i := 0) (oi := { dst := some 6, op := Go.Op.fieldAddr 88 (Go.Operand.tmp 1) 0, type := 0, pos := "register.go:38", after := #[], guard := none }) (v := ?_) rfl (by kernel_rfl) (by kernel_rfl) (by kernel_rfl) (fun _ _ _ h => h) rfl ?_ ?_); rotate_left; focus (intro W hW; (try dsimp only at hW); go_split_ands; go_simp; (try (simp (disch := omega) only [IntWalk.i64_in]; (try go_simp))); (try (split; (next => omega); (try go_simp))); try rfl; done))
  try simp only [Act.put, List.setIfInBounds_toArray, List.set_cons_zero, List.set_cons_succ]
  ((refine rt_yes (i := 1) (oi := { dst := some 7, op := Go.Op.fieldAddr 68 (Go.Operand.tmp 6) 0, type := 0, pos := "register.go:38", after := #[{ on := 0, ground := Go.Ground.data }], guard := none }) (v := ?_) rfl (by kernel_rfl) (by kernel_rfl) (by kernel_rfl) (fun _ _ _ h => h) rfl ?_ ?_); rotate_left; focus (intro W hW; (try dsimp only at hW); go_split_ands; go_simp; (try (simp (disch := omega) only [IntWalk.i64_in]; (try go_simp))); (try (split; (next => omega); (try go_simp))); try rfl; done))
  try simp only [Act.put, List.setIfInBounds_toArray, List.set_cons_zero, List.set_cons_succ]
  ((refine rt_yes (i := 2) (oi := { dst := some 8, op := Go.Op.load 3 (Go.Operand.tmp 7), type := 3, pos := "register.go:38", after := #[{ on := 1, ground := Go.Ground.data }], guard := none }) (v := ?_) rfl (by kernel_rfl) (by kernel_rfl) (by kernel_rfl) (fun _ _ _ h => h) rfl ?_ ?_); rotate_left; focus (intro W hW; (try dsimp only at hW); go_split_ands; go_simp; (try (simp (disch := omega) only [IntWalk.i64_in]; (try go_simp))); (try (split; (next => omega); (try go_simp))); try rfl; done))
  try simp only [Act.put, List.setIfInBounds_toArray, List.set_cons_zero, List.set_cons_succ]
  ((refine rt_yes (i := 3) (oi := { dst := some 9, op := Go.Op.fieldAddr 88 (Go.Operand.tmp 1) 0, type := 0, pos := "register.go:38", after := #[], guard := none }) (v := ?_) rfl (by kernel_rfl) (by kernel_rfl) (by kernel_rfl) (fun _ _ _ h => h) rfl ?_ ?_); rotate_left; focus (intro W hW; (try dsimp only at hW); go_split_ands; go_simp; (try (simp (disch := omega) only [IntWalk.i64_in]; (try go_simp))); (try (split; (next => omega); (try go_simp))); try rfl; done))
  try simp only [Act.put, List.setIfInBounds_toArray, List.set_cons_zero, List.set_cons_succ]
  ((refine rt_yes (i := 4) (oi := { dst := some 10, op := Go.Op.fieldAddr 68 (Go.Operand.tmp 9) 1, type := 0, pos := "register.go:38", after := #[{ on := 3, ground := Go.Ground.data }], guard := none }) (v := ?_) rfl (by kernel_rfl) (by kernel_rfl) (by kernel_rfl) (fun _ _ _ h => h) rfl ?_ ?_); rotate_left; focus (intro W hW; (try dsimp only at hW); go_split_ands; go_simp; (try (simp (disch := omega) only [IntWalk.i64_in]; (try go_simp))); (try (split; (next => omega); (try go_simp))); try rfl; done))
  try simp only [Act.put, List.setIfInBounds_toArray, List.set_cons_zero, List.set_cons_succ]
  ((refine rt_yes (i := 5) (oi := { dst := some 11, op := Go.Op.load 46 (Go.Operand.tmp 10), type := 46, pos := "register.go:38", after := #[{ on := 4, ground := Go.Ground.data }], guard := none }) (v := ?_) rfl (by kernel_rfl) (by kernel_rfl) (by kernel_rfl) (fun _ _ _ h => h) rfl ?_ ?_); rotate_left; focus (intro W hW; (try dsimp only at hW); go_split_ands; go_simp; (try (simp (disch := omega) only [IntWalk.i64_in]; (try go_simp))); (try (split; (next => omega); (try go_simp))); try rfl; done))
  try simp only [Act.put, List.setIfInBounds_toArray, List.set_cons_zero, List.set_cons_succ]
  -- ready: [6, 8]
  refine rt_two (i := 6) (j := 8) (oi := { dst := some 12, op := Go.Op.call { callee := Go.Callee.value (Go.Operand.func 66), args := #[Go.Operand.tmp 11], argTypes := #[46] }, type := 46, pos := "register.go:38", after := #[{ on := 5, ground := Go.Ground.data }], guard := none }) (oj := { dst := some 3, op := Go.Op.alloc 68, type := 0, pos := "register.go:38", after := #[], guard := none }) (by kernel_rfl) (HS.out _ cd) rfl rfl rfl rfl (fun K hK => ?_) (fun K hK => ?_)
  rotate_left
  focus
    go_simp
    refine hK _ _ ?_
    clear hK K
    try simp only [Act.put, List.setIfInBounds_toArray, List.set_cons_zero, List.set_cons_succ]
    -- ready: [6]
    have o5 := (Chg.refl No (w0.alloc (.cells #[.int .i64 0, .slice none 0 0, .slice none 0 0] 68))).drew.obj (alloc_obj w0 (.cells #[.int .i64 0, .slice none 0 0, .slice none 0 0] 68)) (not_no _)
    have cdA : Chg No w0 (w0.alloc (.cells #[.int .i64 0, .slice none 0 0, .slice none 0 0] 68)).drew := ((Chg.refl No w0).alloc (.cells #[.int .i64 0, .slice none 0 0, .slice none 0 0] 68)).drew
    generalize w0.alloc (.cells #[.int .i64 0, .slice none 0 0, .slice none 0 0] 68) = wB at *
    obtain ⟨q5, hq⟩ : ∃ q, q = w0.heap.size := ⟨_, rfl⟩
    rw [← hq] at o5 ⊢
    have hq5 : w0.heap.size ≤ q5 := by omega
    clear hq
    refine rt_k (fun W => W.cell? ⟨q1, 0, none⟩ = some (.int .i64 t) ∧ W.cell? ⟨q1, 1, none⟩ = some (.slice Aq q.length cq)) (i := 6) (oi := { dst := some 12, op := Go.Op.call { callee := Go.Callee.value (Go.Operand.func 66), args := #[Go.Operand.tmp 11], argTypes := #[46] }, type := 46, pos := "register.go:38", after := #[{ on := 5, ground := Go.Ground.data }], guard := none }) (by kernel_rfl) (HS.out _ cdA) (fun _ h => h) rfl (by rfl) (fun K hK => ?_)
    go_simp
    refine (Hq.out _ (hc0.trans cdA)).mono ?_
    rintro e w7 ⟨vn, rfl, hc7, hsn⟩
    obtain ⟨An, cn, rfl⟩ := hsn.slice
    have cd7 := cdA.trans hc7
    have hql := lt_of_heap o5
    have hcz := (hc0.trans cdA).size
    replace hsn := hsn.weak (G := Or (Lt w0.heap.size) (At q5)) (fun b _ hb => by
      simp only [Lt]
      rcases hb with hb | hb
      · simp only [Lt] at hb; omega
      · simp only [At] at hb; omega)
    replace o5 := hc7.obj o5 (not_no _)
    clear hc7 cdA hql hcz
    refine hK _ _ ?_
    clear hK K
    try simp only [Act.put, List.setIfInBounds_toArray, List.set_cons_zero, List.set_cons_succ]
    ((refine rt_yes (i := 7) (oi := { dst := some 13, op := Go.Op.build 68 #[(0, Go.Operand.tmp 8), (1, Go.Operand.tmp 12)], type := 68, pos := "register.go:38", after := #[{ on := 2, ground := Go.Ground.data }, { on := 6, ground := Go.Ground.data }], guard := none }) (v := ?_) rfl (by kernel_rfl) (by kernel_rfl) (by kernel_rfl) (fun _ _ _ h => h) rfl ?_ ?_); rotate_left; focus (intro W hW; (try dsimp only at hW); go_split_ands; go_simp; (try (simp (disch := omega) only [IntWalk.i64_in]; (try go_simp))); (try (split; (next => omega); (try go_simp))); try rfl; done))
    try simp only [Act.put, List.setIfInBounds_toArray, List.set_cons_zero, List.set_cons_succ]
    -- ready: [9]
    have z0 := cell_obj (i := 0) o5 rfl
    have z1 := cell_obj (i := 1) o5 rfl
    have z2 := cell_obj (i := 2) o5 rfl
    have f0 := free_obj (i := 0) o5
    have f1 := free_obj (i := 1) o5
    have f2 := free_obj (i := 2) o5
    refine rt_k (fun W => W.cell? ⟨q1, 0, none⟩ = some (.int .i64 t) ∧ W.cell? ⟨q1, 1, none⟩ = some (.slice Aq q.length cq)) (i := 9) (oi := { dst := none, op := Go.Op.store 68 (Go.Operand.tmp 3) (Go.Operand.tmp 13), type := 0, pos := "register.go:38", after := #[{ on := 8, ground := Go.Ground.data }, { on := 7, ground := Go.Ground.data }, { on := 6, ground := Go.Ground.chain }, { on := 0, ground := Go.Ground.phase }, { on := 1, ground := Go.Ground.phase }, { on := 2, ground := Go.Ground.phase }, { on := 3, ground := Go.Ground.phase }, { on := 4, ground := Go.Ground.phase }, { on := 5, ground := Go.Ground.phase }, { on := 6, ground := Go.Ground.phase }, { on := 7, ground := Go.Ground.phase }, { on := 8, ground := Go.Ground.phase }], guard := none }) (by kernel_rfl) (HS.out _ cd7) (fun _ h => h) rfl (by rfl) (fun K hK => ?_)
    go_simp
    refine hK _ _ ?_
    clear hK K
    try simp only [Act.put, List.setIfInBounds_toArray, List.set_cons_zero, List.set_cons_succ]
    -- ready: []
    refine rt_done (by kernel_rfl)  ?_
    obtain ⟨p5, hcs⟩ := set3 o5 (.int .i64 t) (.slice An q.length cn) (.slice none 0 0)
    have hsu := (hsn.keep (hcs.weak (fun i _ hi => .inr hi)))
    have hcu : Chg No w0 (((w7.setCell ⟨q5, 0, none⟩ (.int .i64 t)).setCell ⟨q5, 1, none⟩ (.slice An q.length cn)).setCell ⟨q5, 2, none⟩ (.slice none 0 0)) := cd7.old hcs (fun i h => by simp only [At] at h; omega)
    clear z0 z1 z2 f0 f1 f2 o5 cd7 hcs hsn
    generalize (((w7.setCell ⟨q5, 0, none⟩ (.int .i64 t)).setCell ⟨q5, 1, none⟩ (.slice An q.length cn)).setCell ⟨q5, 2, none⟩ (.slice none 0 0)) = u at p5 hcu hsu ⊢
  rotate_left
  focus
    go_simp
    refine (Hq.out _ (hc0.trans cd)).mono ?_
    rintro e w6 ⟨vn, rfl, hc6, hsn⟩
    obtain ⟨An, cn, rfl⟩ := hsn.slice
    have cd6 := cd.trans hc6
    have hcz := (hc0.trans cd).size
    have hdw : w0.drew.heap.size = w0.heap.size := rfl
    replace hsn := (hsn.weak (G := Or (Lt w0.heap.size) (At w6.heap.size)) (fun b hb' hb => by
      simp only [Lt]
      rcases hb with hb | hb
      · simp only [Lt] at hb; omega
      · simp only [At] at hb; omega)).keepNo ((Chg.refl No w6).alloc (.cells #[.int .i64 0, .slice none 0 0, .slice none 0 0] 68))
    clear hc6 hcz hdw
    refine hK _ _ ?_
    clear hK K
    try simp only [Act.put, List.setIfInBounds_toArray, List.set_cons_zero, List.set_cons_succ]
    ((refine rt_yes (i := 7) (oi := { dst := some 13, op := Go.Op.build 68 #[(0, Go.Operand.tmp 8), (1, Go.Operand.tmp 12)], type := 68, pos := "register.go:38", after := #[{ on := 2, ground := Go.Ground.data }, { on := 6, ground := Go.Ground.data }], guard := none }) (v := ?_) rfl (by kernel_rfl) (by kernel_rfl) (by kernel_rfl) (fun _ _ _ h => h) rfl ?_ ?_); rotate_left; focus (intro W hW; (try dsimp only at hW); go_split_ands; go_simp; (try (simp (disch := omega) only [IntWalk.i64_in]; (try go_simp))); (try (split; (next => omega); (try go_simp))); try rfl; done))
    try simp only [Act.put, List.setIfInBounds_toArray, List.set_cons_zero, List.set_cons_succ]
    -- ready: [8]
    refine rt_k (fun W => W.cell? ⟨q1, 0, none⟩ = some (.int .i64 t) ∧ W.cell? ⟨q1, 1, none⟩ = some (.slice Aq q.length cq)) (i := 8) (oi := { dst := some 3, op := Go.Op.alloc 68, type := 0, pos := "register.go:38", after := #[], guard := none }) (by kernel_rfl) (HS.out _ cd6) (fun _ h => h) rfl (by rfl) (fun K hK => ?_)
    go_simp
    refine hK _ _ ?_
    clear hK K
    try simp only [Act.put, List.setIfInBounds_toArray, List.set_cons_zero, List.set_cons_succ]
    -- ready: [9]
    have o5 := alloc_obj w6 (.cells #[.int .i64 0, .slice none 0 0, .slice none 0 0] 68)
    have cd7 := cd6.alloc (.cells #[.int .i64 0, .slice none 0 0, .slice none 0 0] 68)
    have hq5 : w0.heap.size ≤ w6.heap.size := cd6.size
    generalize w6.alloc (.cells #[.int .i64 0, .slice none 0 0, .slice none 0 0] 68) = w7 at *
    generalize w6.heap.size = q5 at *
    clear cd6
    have z0 := cell_obj (i := 0) o5 rfl
    have z1 := cell_obj (i := 1) o5 rfl
    have z2 := cell_obj (i := 2) o5 rfl
    have f0 := free_obj (i := 0) o5
    have f1 := free_obj (i := 1) o5
    have f2 := free_obj (i := 2) o5
    refine rt_k (fun W => W.cell? ⟨q1, 0, none⟩ = some (.int .i64 t) ∧ W.cell? ⟨q1, 1, none⟩ = some (.slice Aq q.length cq)) (i := 9) (oi := { dst := none, op := Go.Op.store 68 (Go.Operand.tmp 3) (Go.Operand.tmp 13), type := 0, pos := "register.go:38", after := #[{ on := 8, ground := Go.Ground.data }, { on := 7, ground := Go.Ground.data }, { on := 6, ground := Go.Ground.chain }, { on := 0, ground := Go.Ground.phase }, { on := 1, ground := Go.Ground.phase }, { on := 2, ground := Go.Ground.phase }, { on := 3, ground := Go.Ground.phase }, { on := 4, ground := Go.Ground.phase }, { on := 5, ground := Go.Ground.phase }, { on := 6, ground := Go.Ground.phase }, { on := 7, ground := Go.Ground.phase }, { on := 8, ground := Go.Ground.phase }], guard := none }) (by kernel_rfl) (HS.out _ cd7) (fun _ h => h) rfl (by rfl) (fun K hK => ?_)
    go_simp
    refine hK _ _ ?_
    clear hK K
    try simp only [Act.put, List.setIfInBounds_toArray, List.set_cons_zero, List.set_cons_succ]
    -- ready: []
    refine rt_done (by kernel_rfl)  ?_
    obtain ⟨p5, hcs⟩ := set3 o5 (.int .i64 t) (.slice An q.length cn) (.slice none 0 0)
    have hsu := (hsn.keep (hcs.weak (fun i _ hi => .inr hi)))
    have hcu : Chg No w0 (((w7.setCell ⟨q5, 0, none⟩ (.int .i64 t)).setCell ⟨q5, 1, none⟩ (.slice An q.length cn)).setCell ⟨q5, 2, none⟩ (.slice none 0 0)) := cd7.old hcs (fun i h => by simp only [At] at h; omega)
    clear z0 z1 z2 f0 f1 f2 o5 cd7 hcs hsn
    generalize (((w7.setCell ⟨q5, 0, none⟩ (.int .i64 t)).setCell ⟨q5, 1, none⟩ (.slice An q.length cn)).setCell ⟨q5, 2, none⟩ (.slice none 0 0)) = u at p5 hcu hsu ⊢
  all_goals
    clear cd HS
    have hc0u := hc0.trans hcu
    have hq1l := lt_of_heap o1
    have hq2l := lt_of_heap o2
    have hne1 : q5 ≠ q1 := by omega
    have hne2 : q5 ≠ q2 := by omega
    replace o1 := hcu.obj o1 (not_no _)
    replace o2 := hcu.obj o2 (not_no _)
    have b2 := cell_obj (i := 2) o1 rfl
    have hw0 := hc0.size
    have hq5l := lt_of_heap p5
    have Hsu := Lib.hid hsu
    clear hsu hcu hq1l
    go_wp2_with (first | (with_reducible refine stop_append ?_) | (with_reducible refine stop_copy ?_) | (with_reducible refine stop_make ?_) | (with_reducible refine stop_lookup ?_) | (with_reducible refine stop_update ?_) | (with_reducible refine stop_slice ?_) | (with_reducible refine stop_range ?_) | (with_reducible refine stop_next ?_) | (with_reducible refine stop_convert ⟨_, rfl⟩ ?_) | (with_reducible refine stop_convertB ⟨_, _, _, rfl⟩ ?_) | (with_reducible refine stop_eqSlice ⟨_, _, rfl⟩ ?_))
    go_loopw [18] (fun v18 wr => ∃ (k : Nat) (v3 : Value), k ≤ s.length ∧ v18 = .int .i64 k ∧ Chg (At q5) u wr ∧ wr.heap[q5]? = some (.cells #[.int .i64 t, .slice An q.length cn, v3] 68 (0, 0)) ∧ Cb.Own (Or (Lt w0.heap.size) (At q5)) wr u.heap.size 46 v3 (s.take k)) (fun v18 _ => s.length - (intOf v18).toNat)
    case atStart => exact ⟨0, .slice none 0 0, by omega, rfl, Chg.refl _ _, p5, Cb.Own.nil _ _ _ _⟩
    case round =>
      clear p5 b2
      obtain ⟨k, v3, hk, rfl, hcr, p5, hown⟩ := hrel
      have hcw : Chg No w wr := hc0u.old hcr (fun i h => by simp only [At] at h; omega)
      by_cases hlt2 : k < s.length
      · obtain ⟨b, ob, vx, rfl, _, hbl, hx0, hux⟩ := rowT_get (Hs.out wr hcw) k hlt2
        have htk := List.take_succ_eq_append_getElem hlt2
        have hxl := Hbs.out _ (List.getElem_mem hlt2)
        have hlen : (s.take k).length = k := by simp; omega
        generalize s[k] = x at *
        generalize s.take k = acc at *
        obtain ⟨Ax, cx, rfl⟩ := hux.slice
        obtain ⟨A3, c3, rfl⟩ := hown.slice
        have Hcl := Lib.hid (fun W (hW : Chg No wr W) => vclone_any _ _ x W (hux.keepNo hW) hxl)
        have Hown := Lib.hid hown
        have Htk := Lib.hid htk
        have Hlen := Lib.hid hlen
        clear hown htk hlen hux
        go_wp2_with (first | (with_reducible refine stop_append ?_) | (with_reducible refine stop_copy ?_) | (with_reducible refine stop_make ?_) | (with_reducible refine stop_lookup ?_) | (with_reducible refine stop_update ?_) | (with_reducible refine stop_slice ?_) | (with_reducible refine stop_range ?_) | (with_reducible refine stop_next ?_) | (with_reducible refine stop_convert ⟨_, rfl⟩ ?_) | (with_reducible refine stop_convertB ⟨_, _, _, rfl⟩ ?_) | (with_reducible refine stop_eqSlice ⟨_, _, rfl⟩ ?_))
        have HS2 := Lib.hid (show ∀ W, Chg No wr W → (fun W => W.cell? ⟨q5, 2, none⟩ = some (.slice A3 acc.length c3)) W from fun W hW => cell_obj (hW.obj p5 (not_no _)) rfl)
        have cd := (Chg.refl No wr).drew
        refine rt_start (fun W => W.cell? ⟨q5, 2, none⟩ = some (.slice A3 acc.length c3)) (by kernel_rfl) ?_
        ((refine rt_yes (i := 0) (oi := { dst := some 22, op := Go.Op.fieldAddr 68 (Go.Operand.tmp 3) 2, type := 0, pos := "register.go:40", after := #[], guard := none }) (v := ?_) rfl (by kernel_rfl) (by kernel_rfl) (by kernel_rfl) (fun _ _ _ h => h) rfl ?_ ?_); rotate_left; focus (intro W hW; (try dsimp only at hW); go_split_ands; go_simp; (try (simp (disch := omega) only [IntWalk.i64_in]; (try go_simp))); (try (split; (next => omega); (try go_simp))); try rfl; done))
        try simp only [Act.put, List.setIfInBounds_toArray, List.set_cons_zero, List.set_cons_succ]
        ((refine rt_yes (i := 1) (oi := { dst := some 23, op := Go.Op.load 61 (Go.Operand.tmp 22), type := 61, pos := "register.go:40", after := #[{ on := 0, ground := Go.Ground.data }], guard := none }) (v := ?_) rfl (by kernel_rfl) (by kernel_rfl) (by kernel_rfl) (fun _ _ _ h => h) rfl ?_ ?_); rotate_left; focus (intro W hW; (try dsimp only at hW); go_split_ands; go_simp; (try (simp (disch := omega) only [IntWalk.i64_in]; (try go_simp))); (try (split; (next => omega); (try go_simp))); try rfl; done))
        try simp only [Act.put, List.setIfInBounds_toArray, List.set_cons_zero, List.set_cons_succ]
        ((refine rt_yes (i := 2) (oi := { dst := some 24, op := Go.Op.move (Go.Operand.tmp 5), type := 46, pos := "register.go:40", after := #[], guard := none }) (v := ?_) rfl (by kernel_rfl) (by kernel_rfl) (by kernel_rfl) (fun _ _ _ h => h) rfl ?_ ?_); rotate_left; focus (intro W hW; (try dsimp only at hW); go_split_ands; go_simp; (try (simp (disch := omega) only [IntWalk.i64_in]; (try go_simp))); (try (split; (next => omega); (try go_simp))); try rfl; done))
        try simp only [Act.put, List.setIfInBounds_toArray, List.set_cons_zero, List.set_cons_succ]
        -- ready: [3]
        refine rt_k (fun W => W.cell? ⟨q5, 2, none⟩ = some (.slice A3 acc.length c3)) (i := 3) (oi := { dst := some 25, op := Go.Op.call { callee := Go.Callee.value (Go.Operand.func 66), args := #[Go.Operand.tmp 24], argTypes := #[46] }, type := 46, pos := "register.go:40", after := #[{ on := 2, ground := Go.Ground.data }], guard := none }) (by kernel_rfl) (HS2.out _ cd) (fun _ h => h) rfl (by rfl) (fun K hK => ?_)
        go_simp
        refine (Hcl.out _ cd).mono ?_
        rintro e w3 ⟨vn, rfl, hc3, hsn⟩
        obtain ⟨Am, cm, rfl⟩ := hsn.slice
        have cd3 := cd.trans hc3
        refine hK _ _ ?_
        clear hK K
        try simp only [Act.put, List.setIfInBounds_toArray, List.set_cons_zero, List.set_cons_succ]
        -- ready: [4]
        refine rt_k (fun W => W.cell? ⟨q5, 2, none⟩ = some (.slice A3 acc.length c3)) (i := 4) (oi := { dst := some 26, op := Go.Op.buildSlice 61 1 #[(0, Go.Operand.tmp 25)], type := 61, pos := "register.go:40", after := #[{ on := 3, ground := Go.Ground.data }], guard := none }) (by kernel_rfl) (HS2.out _ cd3) (fun _ h => h) rfl (by rfl) (fun K hK => ?_)
        go_simp
        refine hK _ _ ?_
        clear hK K
        try simp only [Act.put, List.setIfInBounds_toArray, List.set_cons_zero, List.set_cons_succ]
        -- ready: [5]
        have hcu0 := hcr.size
        have hwr0 := hcw.size
        have hwu0 := hc0u.size
        have hobl : ∀ i, OB (.slice A3 acc.length c3) i → u.heap.size ≤ i ∧ i < wr.heap.size := fun i hi => Hown.out.lt i hi
        have hdr : wr.drew.heap.size = wr.heap.size := rfl
        have hlit : Sl (Or (Or (Lt w0.heap.size) (At q5)) (OB (.slice A3 acc.length c3))) (w3.alloc (.cells #[.slice Am x.length cm] 46)) (.slice (some ⟨w3.heap.size, 0, none⟩) 1 1) [x] :=
          Sl.lit1 rfl ⟨_, rfl, hsn.weak (fun b _ hb => by
            simp only [Lt]
            rcases hb with (hb | hb) | hb
            · simp only [Lt] at hb; omega
            · simp only [At] at hb; omega
            · have := hobl _ hb; omega)⟩ (fun hb => by
            have := cd3.size
            rcases hb with (hb | hb) | hb
            · simp only [Lt] at hb; omega
            · simp only [At] at hb; omega
            · have := hobl _ hb; omega)
        have cd4 := cd3.alloc (.cells #[.slice Am x.length cm] 46)
        refine rt_append_sl (α := List Int) (F := Or (Lt w0.heap.size) (At q5)) (G := Or (Or (Lt w0.heap.size) (At q5)) (OB (.slice A3 acc.length c3))) (fun W => W.cell? ⟨q5, 2, none⟩ = some (.slice A3 acc.length c3)) (i := 5) (by kernel_rfl) (HS2.out _ cd4) (fun _ h => h) rfl rfl Try.underlying61 vinfo_ints rfl (Hown.out.keep cd4 (fun _ _ f => f.elim) (fun _ _ f => f)) rfl rfl hlit (fun i _ hi => hi) (by have := Hlen.out; simp; omega) (by have := Hlen.out; simp; omega) (by have := cd4.size; omega) ?_
        intro v6 w6 hown6 hg6
        rw [← Htk.out] at hown6
        obtain ⟨A6, c6, e6⟩ := hown6.slice
        rw [show (s.take (k + 1)).length = k + 1 by simp; omega] at e6
        subst e6
        have ho6 := hg6.chg.obj (cd4.obj p5 (not_no _)) (fun h => by have := hobl _ h; omega)
        have hcr6 : Chg (At q5) u w6 := (hcr.trans cd4.of_no).grew hg6 (fun i hi => .inr (hobl i hi).1)
        have z2 := cell_obj (i := 2) ho6 rfl
        have f2 := free_obj (i := 2) ho6
        have Hown6 := Lib.hid hown6
        clear hown6 hlit hg6
        try simp only [Act.put, List.setIfInBounds_toArray, List.set_cons_zero, List.set_cons_succ]
        ((refine rt_yes (i := 6) (oi := { dst := some 28, op := Go.Op.fieldAddr 68 (Go.Operand.tmp 3) 2, type := 0, pos := "register.go:40", after := #[{ on := 0, ground := Go.Ground.phase }, { on := 1, ground := Go.Ground.phase }, { on := 2, ground := Go.Ground.phase }, { on := 3, ground := Go.Ground.phase }, { on := 4, ground := Go.Ground.phase }, { on := 5, ground := Go.Ground.phase }], guard := none }) (v := ?_) rfl (by kernel_rfl) (by kernel_rfl) (by kernel_rfl) (fun _ _ _ h => h) rfl ?_ ?_); rotate_left; focus (intro W hW; (try dsimp only at hW); go_split_ands; go_simp; (try (simp (disch := omega) only [IntWalk.i64_in]; (try go_simp))); (try (split; (next => omega); (try go_simp))); try rfl; done))
        try simp only [Act.put, List.setIfInBounds_toArray, List.set_cons_zero, List.set_cons_succ]
        -- ready: [7]
        refine rt_k (fun W => W.cell? ⟨q5, 2, none⟩ = some (.slice A3 acc.length c3)) (i := 7) (oi := { dst := none, op := Go.Op.store 61 (Go.Operand.tmp 28) (Go.Operand.tmp 27), type := 0, pos := "register.go:40", after := #[{ on := 6, ground := Go.Ground.data }, { on := 5, ground := Go.Ground.data }, { on := 5, ground := Go.Ground.chain }, { on := 0, ground := Go.Ground.phase }, { on := 1, ground := Go.Ground.phase }, { on := 2, ground := Go.Ground.phase }, { on := 3, ground := Go.Ground.phase }, { on := 4, ground := Go.Ground.phase }, { on := 5, ground := Go.Ground.phase }], guard := none }) (by kernel_rfl) z2 (fun _ h => h) rfl (by rfl) (fun K hK => ?_)
        go_simp
        refine hK _ _ ?_
        clear hK K
        try simp only [Act.put, List.setIfInBounds_toArray, List.set_cons_zero, List.set_cons_succ]
        -- ready: []
        refine rt_done (by kernel_rfl)  ?_
        have ho7 := obj_set (i := 2) (u := .slice A6 (k + 1) c6) ho6 rfl
        have hcr7 : Chg (At q5) u (w6.setCell ⟨q5, 2, none⟩ (.slice A6 (k + 1) c6)) := hcr6.setCell (p := ⟨q5, 2, none⟩) (.inl rfl) _
        have Hown7 := Lib.hid (Hown6.out.keep (chg_set (b := q5) (i := 2) (.slice A6 (k + 1) c6)) (fun b _ hb => .inr hb) (fun i hi h => by have := (Hown6.out.lt i hi).1; simp only [At] at h; omega))
        clear z2 f2 ho6
        generalize w6.setCell ⟨q5, 2, none⟩ (.slice A6 (k + 1) c6) = w7 at *
        go_wp2_with (first | (with_reducible refine stop_append ?_) | (with_reducible refine stop_copy ?_) | (with_reducible refine stop_make ?_) | (with_reducible refine stop_lookup ?_) | (with_reducible refine stop_update ?_) | (with_reducible refine stop_slice ?_) | (with_reducible refine stop_range ?_) | (with_reducible refine stop_next ?_) | (with_reducible refine stop_convert ⟨_, rfl⟩ ?_) | (with_reducible refine stop_convertB ⟨_, _, _, rfl⟩ ?_) | (with_reducible refine stop_eqSlice ⟨_, _, rfl⟩ ?_))
        go_roundw
        case rel => exact ⟨k + 1, _, by omega, by go_num, hcr7, ho7, Hown7.out⟩
        case measure => simp [intOf]; omega
      · obtain rfl : k = s.length := by omega
        rw [List.take_length] at hown
        obtain ⟨A3, c3, rfl⟩ := hown.slice
        have hcu0 := hcr.size
        have Hvs := Lib.hid (hown.sl (fun i hi h => by
          have := (hown.lt i hi).1
          have := hc0u.size
          rcases h with h | h
          · simp only [Lt] at h; omega
          · simp only [At] at h; omega))
        have Hvq := Lib.hid (Hsu.out.keep (hcr.weak (fun i _ hi => .inr hi)))
        clear hown
        have o1r := hcr.obj o1 (fun h => hne1 h.symm)
        have o2r := hcr.obj o2 (fun h => hne2 h.symm)
        clear o1 o2
        go_wp2_with (first | (with_reducible refine stop_append ?_) | (with_reducible refine stop_copy ?_) | (with_reducible refine stop_make ?_) | (with_reducible refine stop_lookup ?_) | (with_reducible refine stop_update ?_) | (with_reducible refine stop_slice ?_) | (with_reducible refine stop_range ?_) | (with_reducible refine stop_next ?_) | (with_reducible refine stop_convert ⟨_, rfl⟩ ?_) | (with_reducible refine stop_convertB ⟨_, _, _, rfl⟩ ?_) | (with_reducible refine stop_eqSlice ⟨_, _, rfl⟩ ?_))
        have HS3 := Lib.hid (show ∀ W, Chg No wr W → (fun W => W.cell? ⟨q5, 0, none⟩ = some (.int .i64 t) ∧ W.cell? ⟨q5, 1, none⟩ = some (.slice An q.length cn) ∧ W.cell? ⟨q5, 2, none⟩ = some (.slice A3 s.length c3) ∧ W.cell? ⟨q1, 3, none⟩ = some (.slice At0 l.length ct) ∧ W.cell? ⟨q1, 4, none⟩ = some (.bool o)) W from fun W hW => ⟨cell_obj (hW.obj p5 (not_no _)) rfl, cell_obj (hW.obj p5 (not_no _)) rfl, cell_obj (hW.obj p5 (not_no _)) rfl, cell_obj (hW.obj o1r (not_no _)) rfl, cell_obj (hW.obj o1r (not_no _)) rfl⟩)
        have cd := (Chg.refl No wr).drew
        refine rt_start (fun W => W.cell? ⟨q5, 0, none⟩ = some (.int .i64 t) ∧ W.cell? ⟨q5, 1, none⟩ = some (.slice An q.length cn) ∧ W.cell? ⟨q5, 2, none⟩ = some (.slice A3 s.length c3) ∧ W.cell? ⟨q1, 3, none⟩ = some (.slice At0 l.length ct) ∧ W.cell? ⟨q1, 4, none⟩ = some (.bool o)) (by kernel_rfl) ?_
        ((refine rt_yes (i := 0) (oi := { dst := some 30, op := Go.Op.load 68 (Go.Operand.tmp 3), type := 68, pos := "register.go:42", after := #[], guard := none }) (v := ?_) rfl (by kernel_rfl) (by kernel_rfl) (by kernel_rfl) (fun _ _ _ h => h) rfl ?_ ?_); rotate_left; focus (intro W hW; (try dsimp only at hW); go_split_ands; go_simp; (try (simp (disch := omega) only [IntWalk.i64_in]; (try go_simp))); (try (split; (next => omega); (try go_simp))); try rfl; done))
        try simp only [Act.put, List.setIfInBounds_toArray, List.set_cons_zero, List.set_cons_succ]
        ((refine rt_yes (i := 1) (oi := { dst := some 31, op := Go.Op.fieldAddr 88 (Go.Operand.tmp 1) 1, type := 0, pos := "register.go:42", after := #[], guard := none }) (v := ?_) rfl (by kernel_rfl) (by kernel_rfl) (by kernel_rfl) (fun _ _ _ h => h) rfl ?_ ?_); rotate_left; focus (intro W hW; (try dsimp only at hW); go_split_ands; go_simp; (try (simp (disch := omega) only [IntWalk.i64_in]; (try go_simp))); (try (split; (next => omega); (try go_simp))); try rfl; done))
        try simp only [Act.put, List.setIfInBounds_toArray, List.set_cons_zero, List.set_cons_succ]
        ((refine rt_yes (i := 2) (oi := { dst := some 32, op := Go.Op.load 28 (Go.Operand.tmp 31), type := 28, pos := "register.go:42", after := #[{ on := 1, ground := Go.Ground.data }], guard := none }) (v := ?_) rfl (by kernel_rfl) (by kernel_rfl) (by kernel_rfl) (fun _ _ _ h => h) rfl ?_ ?_); rotate_left; focus (intro W hW; (try dsimp only at hW); go_split_ands; go_simp; (try (simp (disch := omega) only [IntWalk.i64_in]; (try go_simp))); (try (split; (next => omega); (try go_simp))); try rfl; done))
        try simp only [Act.put, List.setIfInBounds_toArray, List.set_cons_zero, List.set_cons_succ]
        ((refine rt_yes (i := 4) (oi := { dst := some 34, op := Go.Op.fieldAddr 88 (Go.Operand.tmp 1) 2, type := 0, pos := "register.go:42", after := #[], guard := none }) (v := ?_) rfl (by kernel_rfl) (by kernel_rfl) (by kernel_rfl) (fun _ _ _ h => h) rfl ?_ ?_); rotate_left; focus (intro W hW; (try dsimp only at hW); go_split_ands; go_simp; (try (simp (disch := omega) only [IntWalk.i64_in]; (try go_simp))); (try (split; (next => omega); (try go_simp))); try rfl; done))
        try simp only [Act.put, List.setIfInBounds_toArray, List.set_cons_zero, List.set_cons_succ]
        ((refine rt_yes (i := 5) (oi := { dst := some 35, op := Go.Op.load 4 (Go.Operand.tmp 34), type := 4, pos := "register.go:42", after := #[{ on := 4, ground := Go.Ground.data }], guard := none }) (v := ?_) rfl (by kernel_rfl) (by kernel_rfl) (by kernel_rfl) (fun _ _ _ h => h) rfl ?_ ?_); rotate_left; focus (intro W hW; (try dsimp only at hW); go_split_ands; go_simp; (try (simp (disch := omega) only [IntWalk.i64_in]; (try go_simp))); (try (split; (next => omega); (try go_simp))); try rfl; done))
        try simp only [Act.put, List.setIfInBounds_toArray, List.set_cons_zero, List.set_cons_succ]
        -- ready: [3]
        refine rt_k (fun W => W.cell? ⟨q5, 0, none⟩ = some (.int .i64 t) ∧ W.cell? ⟨q5, 1, none⟩ = some (.slice An q.length cn) ∧ W.cell? ⟨q5, 2, none⟩ = some (.slice A3 s.length c3) ∧ W.cell? ⟨q1, 3, none⟩ = some (.slice At0 l.length ct) ∧ W.cell? ⟨q1, 4, none⟩ = some (.bool o)) (i := 3) (oi := { dst := some 33, op := Go.Op.call { callee := Go.Callee.value (Go.Operand.func 72), args := #[Go.Operand.tmp 32], argTypes := #[28] }, type := 28, pos := "register.go:42", after := #[{ on := 2, ground := Go.Ground.data }], guard := none }) (by kernel_rfl) (HS3.out _ cd) (fun _ h => h) rfl (by rfl) (fun K hK => ?_)
        go_simp
        refine (Ht.out _ (hcw.trans cd)).mono ?_
        rintro e w3 ⟨vn, rfl, hc3, hsn⟩
        obtain ⟨Al, cl, rfl⟩ := hsn.slice
        have cd3 := cd.trans hc3
        have o23 := cd3.obj o2r (not_no _)
        have hs3 := HS3.out _ cd3
        have Hsn := Lib.hid hsn
        clear o2r hsn
        have z0 := cell_obj (i := 0) o23 rfl
        have z1 := cell_obj (i := 1) o23 rfl
        have z2 := cell_obj (i := 2) o23 rfl
        have z3 := cell_obj (i := 3) o23 rfl
        have z4 := cell_obj (i := 4) o23 rfl
        have f0 := free_obj (i := 0) o23
        have f1 := free_obj (i := 1) o23
        have f2 := free_obj (i := 2) o23
        have f3 := free_obj (i := 3) o23
        have f4 := free_obj (i := 4) o23
        refine hK _ _ ?_
        clear hK K
        try simp only [Act.put, List.setIfInBounds_toArray, List.set_cons_zero, List.set_cons_succ]
        ((refine rt_yes (i := 6) (oi := { dst := some 36, op := Go.Op.build 88 #[(0, Go.Operand.tmp 30), (1, Go.Operand.tmp 33), (2, Go.Operand.tmp 35)], type := 88, pos := "register.go:42", after := #[{ on := 0, ground := Go.Ground.data }, { on := 3, ground := Go.Ground.data }, { on := 5, ground := Go.Ground.data }], guard := none }) (v := ?_) rfl (by kernel_rfl) (by kernel_rfl) (by kernel_rfl) (fun _ _ _ h => h) rfl ?_ ?_); rotate_left; focus (intro W hW; (try dsimp only at hW); go_split_ands; go_simp; (try (simp (disch := omega) only [IntWalk.i64_in]; (try go_simp))); (try (split; (next => omega); (try go_simp))); try rfl; done))
        try simp only [Act.put, List.setIfInBounds_toArray, List.set_cons_zero, List.set_cons_succ]
        -- ready: [7]
        refine rt_k (fun W => W.cell? ⟨q5, 0, none⟩ = some (.int .i64 t) ∧ W.cell? ⟨q5, 1, none⟩ = some (.slice An q.length cn) ∧ W.cell? ⟨q5, 2, none⟩ = some (.slice A3 s.length c3) ∧ W.cell? ⟨q1, 3, none⟩ = some (.slice At0 l.length ct) ∧ W.cell? ⟨q1, 4, none⟩ = some (.bool o)) (i := 7) (oi := { dst := none, op := Go.Op.store 88 (Go.Operand.tmp 2) (Go.Operand.tmp 36), type := 0, pos := "register.go:42", after := #[{ on := 6, ground := Go.Ground.data }, { on := 3, ground := Go.Ground.chain }, { on := 0, ground := Go.Ground.phase }, { on := 1, ground := Go.Ground.phase }, { on := 2, ground := Go.Ground.phase }, { on := 3, ground := Go.Ground.phase }, { on := 4, ground := Go.Ground.phase }, { on := 5, ground := Go.Ground.phase }, { on := 6, ground := Go.Ground.phase }], guard := none }) (by kernel_rfl) hs3 (fun _ h => h) rfl (by rfl) (fun K hK => ?_)
        go_simp
        refine hK _ _ ?_
        clear hK K
        try simp only [Act.put, List.setIfInBounds_toArray, List.set_cons_zero, List.set_cons_succ]
        -- ready: []
        refine rt_done (by kernel_rfl)  ?_
        obtain ⟨o9, hc9⟩ := set5 o23 (.int .i64 t) (.slice An q.length cn) (.slice A3 s.length c3) (.slice Al l.length cl) (.bool o)
        clear z0 z1 z2 z3 z4 f0 f1 f2 f3 f4 hs3 o23
        generalize ((((w3.setCell ⟨q2, 0, none⟩ (.int .i64 t)).setCell ⟨q2, 1, none⟩ (.slice An q.length cn)).setCell ⟨q2, 2, none⟩ (.slice A3 s.length c3)).setCell ⟨q2, 3, none⟩ (.slice Al l.length cl)).setCell ⟨q2, 4, none⟩ (.bool o) = w9 at *
        have z0 := cell_obj (i := 0) o9 rfl
        have z1 := cell_obj (i := 1) o9 rfl
        have z2 := cell_obj (i := 2) o9 rfl
        have z3 := cell_obj (i := 3) o9 rfl
        have z4 := cell_obj (i := 4) o9 rfl
        have hq2w : w.heap.size ≤ q2 := by have := Hq2.out; omega
        have hcw9 : Chg No w w9 := (hcw.trans cd3).old hc9 (fun i h => by simp only [At] at h; omega)
        have hdr : wr.drew.heap.size = wr.heap.size := rfl
        have hcwz := hcw.size
        have hwu0 := hc0u.size
        have Hvq9 := Lib.hid (((Hvq.out.keepNo cd3).keep (hc9.weak (fun i _ hi => .inl (by simp only [At] at hi; simp only [Lt]; omega)))).weak (G := Lt w.heap.size) (fun i _ hi => .inl (by simp only [Lt] at *; omega)))
        have Hvs9 := Lib.hid (((Hvs.out.keepNo cd3).keep (hc9.weak (fun i _ hi => .inl (by simp only [At] at hi; simp only [Lt]; omega)))).weak (G := Lt w.heap.size) (fun i _ hi => .inl (by simp only [Lt] at *; omega)))
        have Hvt9 := Lib.hid (((Hsn.out).keep (hc9.weak (fun i _ hi => by simp only [At] at hi; simp only [Lt]; omega))).weak (G := Lt w.heap.size) (fun i _ hi => by simp only [Lt] at *; omega))
        go_wp2_with (first | (with_reducible refine stop_append ?_) | (with_reducible refine stop_copy ?_) | (with_reducible refine stop_make ?_) | (with_reducible refine stop_lookup ?_) | (with_reducible refine stop_update ?_) | (with_reducible refine stop_slice ?_) | (with_reducible refine stop_range ?_) | (with_reducible refine stop_next ?_) | (with_reducible refine stop_convert ⟨_, rfl⟩ ?_) | (with_reducible refine stop_convertB ⟨_, _, _, rfl⟩ ?_) | (with_reducible refine stop_eqSlice ⟨_, _, rfl⟩ ?_))
        refine bodyPost_ret (v := .agg #[.int .i64 t, .slice An q.length cn, .slice A3 s.length c3, .slice Al l.length cl, .bool o]) (by simp [results, Try.results67, go_sem, *]) rfl ?_
        exact ⟨_, _, _, rfl, hcw9, Hvq9.out, Hvs9.out, Hvt9.out⟩
end Go.Proofs.Ytbjpoamnglfjeaa
