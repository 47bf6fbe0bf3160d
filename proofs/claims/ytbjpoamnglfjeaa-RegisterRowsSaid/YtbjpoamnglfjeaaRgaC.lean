/- Walks of package register: a row of the caller's own, which may be written. -/
import Derived.Test.YtbjpoamnglfjeaaRegE
set_option linter.unusedVariables false
set_option linter.unusedSimpArgs false
namespace Go.Proofs.Ytbjpoamnglfjeaa
open Go.RowKit Cb

/-- A slice value's block may be written. -/
def Thaw (F : Nat → Prop) (w : World) (v : Value) : Prop := ∀ b o n c, v = .slice (some ⟨b, o, none⟩) n c → ¬ F b ∧ ∃ C T, w.heap[b]? = some (.cells C T (0, 0))
theorem Thaw.keep {F : Nat → Prop} {w w' : World} {v : Value} (h : Thaw F w v) (hc : Chg F w w') : Thaw F w' v := fun b o n c e => by
  obtain ⟨h1, C, T, h2⟩ := h b o n c e
  exact ⟨h1, C, T, hc.obj h2 h1⟩
theorem Thaw.weak {F G : Nat → Prop} {w : World} {v : Value} (h : Thaw F w v) (hG : ∀ b, b < w.heap.size → G b → F b) : Thaw G w v := fun b o n c e => by
  obtain ⟨h1, C, T, h2⟩ := h b o n c e
  exact ⟨fun g => h1 (hG b (lt_of_heap h2) g), C, T, h2⟩
theorem own_thaw {α : Type} [Rep α] {F G : Nat → Prop} {w : World} {base : Nat} {T : TypeId} {v : Value} {xs : List α} (h : Cb.Own F w base T v xs) (hG : ∀ k, v.ownBlock = some k → ¬ G k) : Thaw G w v := fun b o n c e => by
  obtain ⟨ds, hl, hd, ho1, ho2⟩ := h
  rcases ho2 with ⟨rfl, hn⟩ | ⟨g, cap, cur, rfl, hb, hg, _⟩
  · cases e
  · have hk := hG g rfl
    cases e
    exact ⟨hk, cur, T, hg⟩
/-- A row that may be written. -/
structure SlT {α : Type} [Rep α] (F : Nat → Prop) (w : World) (v : Value) (xs : List α) : Prop where
  sl : Sl F w v xs
  th : Thaw F w v
section
variable {α : Type} [Rep α] {F G : Nat → Prop} {w w' : World} {v : Value} {xs : List α}
theorem SlT.keep (h : SlT F w v xs) (hc : Chg F w w') : SlT F w' v xs := ⟨h.sl.keep hc, h.th.keep hc⟩
theorem SlT.keepNo (h : SlT F w v xs) (hc : Chg No w w') : SlT F w' v xs := h.keep hc.of_no
theorem SlT.weak (h : SlT F w v xs) (hG : ∀ b, b < w.heap.size → G b → F b) : SlT G w v xs := ⟨h.sl.weak hG, h.th.weak hG⟩
theorem SlT.slice (h : SlT F w v xs) : ∃ A c, v = .slice A xs.length c := h.sl.slice
end
/-- A row of numbers that may be written. -/
structure Fr where
  l : List Int
instance : Rep Fr where
  n := 1
  cs F w x c := ∃ v, c = [v] ∧ SlT F w v x.l
  len := by rintro F w x c ⟨v, rfl, _⟩; rfl
  one := by rintro F w x c ⟨v, rfl, ⟨⟨A, cc, rfl, _⟩, _⟩⟩; simp [Value.oneCell']
  keep := by rintro F w w' x c ⟨v, rfl, h⟩ hc; exact ⟨v, rfl, h.keep hc⟩
  weak := by rintro F G w x c ⟨v, rfl, h⟩ hG; exact ⟨v, rfl, h.weak hG⟩
theorem sl_unfr {F : Nat → Prop} {w : World} {v : Value} {s : List (List Int)} (h : Sl F w v (s.map Fr.mk)) : Sl F w v s := by
  obtain ⟨A, c, e, hl, hr⟩ := h
  rw [List.length_map] at e hl
  refine ⟨A, c, e, hl, ?_⟩
  rcases hr with hr | ⟨b, o, e1, hb, hlt, hr⟩
  · left; exact List.map_eq_nil_iff.1 hr
  · right
    refine ⟨b, o, e1, hb, hlt, fun i hi => ?_⟩
    obtain ⟨d, hd, ha⟩ := hr i (by simpa using hi)
    rw [List.getElem_map] at hd
    obtain ⟨v, rfl, h1⟩ := hd
    exact ⟨[v], ⟨v, rfl, h1.sl⟩, ha⟩
set_option maxRecDepth 100000 in
set_option maxHeartbeats 1000000 in
theorem vclonef_any (F : Nat → Prop) (v : Value) (ws : List Int) (w : World) (h : Sl F w v ws) (hl : ws.length ≤ 1000000) :
    Calls Try.prog 66 #[v] w fun e w' => ∃ v', e = .returned v' ∧ Chg No w w' ∧ SlT (Lt w.heap.size) w' v' ws := by
  obtain ⟨A, c, rfl⟩ := h.slice
  have heq := fun n => veq_nil_run Try.underlying46 A n c
  cases A with
  | none =>
    have hnil : ws = [] := by
      obtain ⟨A', c', e, _, h | ⟨b, o, rfl, _⟩⟩ := h
      · exact h
      · cases e
    subst hnil
    go_enter Try.func66, Try.ntmps66
    go_wp2_with (first | (with_reducible refine stop_append ?_) | (with_reducible refine stop_copy ?_) | (with_reducible refine stop_make ?_) | (with_reducible refine stop_lookup ?_) | (with_reducible refine stop_update ?_) | (with_reducible refine stop_slice ?_) | (with_reducible refine stop_range ?_) | (with_reducible refine stop_next ?_) | (with_reducible refine stop_convert ⟨_, rfl⟩ ?_) | (with_reducible refine stop_convertB ⟨_, _, _, rfl⟩ ?_))
    go_ret
    exact ⟨_, rfl, Chg.refl _ _, ⟨Sl.nil _ _ _ _, fun b o n c h => by cases h⟩⟩
  | some a =>
    have hc0 := (Chg.refl No w).alloc (.cells #[] 3)
    have h1 := h.keepNo hc0
    have own0 := Own.made0 (α := Int) No w 3
    go_enter Try.func66, Try.ntmps66
    go_wp2_with (first | (with_reducible refine stop_append ?_) | (with_reducible refine stop_copy ?_) | (with_reducible refine stop_make ?_) | (with_reducible refine stop_lookup ?_) | (with_reducible refine stop_update ?_) | (with_reducible refine stop_slice ?_) | (with_reducible refine stop_range ?_) | (with_reducible refine stop_next ?_) | (with_reducible refine stop_convert ⟨_, rfl⟩ ?_) | (with_reducible refine stop_convertB ⟨_, _, _, rfl⟩ ?_))
    generalize hw0 : w.alloc (.cells #[] 3) = w0 at *
    have hsz : w.heap.size ≤ w0.heap.size := hc0.size
    refine step_append_flat (α := Int) (ys := ws) Try.underlying46 vinfo_int rfl own0 rfl rfl h1 (by simp; omega) (by simp; omega) hsz ?_
    intro v1 w1 hown hg
    rw [List.nil_append] at hown
    have hc1 : Chg No w w1 := hc0.grew hg (fun k hk => by simp [Value.ownBlock] at hk; omega)
    have hsl : Sl (Lt w.heap.size) w1 v1 ws := hown.slFlat (fun k hk f => by have := (hown.lt k hk).1; simp only [Lt] at f; omega)
    have Hsl := Lib.hid hsl
    have Hth := Lib.hid (own_thaw hown (G := Lt w.heap.size) (fun k hk f => by have := (hown.lt k hk).1; simp only [Lt] at f; omega))
    clear hsl hown hg own0 h1
    go_wp2_with (first | (with_reducible refine stop_append ?_) | (with_reducible refine stop_copy ?_) | (with_reducible refine stop_make ?_) | (with_reducible refine stop_lookup ?_) | (with_reducible refine stop_update ?_) | (with_reducible refine stop_slice ?_) | (with_reducible refine stop_range ?_) | (with_reducible refine stop_next ?_) | (with_reducible refine stop_convert ⟨_, rfl⟩ ?_) | (with_reducible refine stop_convertB ⟨_, _, _, rfl⟩ ?_) | (with_reducible refine stop_eqSlice ⟨_, _, rfl⟩ ?_))
    go_ret
    exact ⟨_, rfl, hc1, ⟨Hsl.out, Hth.out⟩⟩
set_option maxRecDepth 100000 in
set_option maxHeartbeats 4000000 in
theorem ownf_any (t : Int) (vq vs vt : Value) (o : Bool) (q : List Int) (s : List (List Int)) (l : List Ent) (w : World) (hq : Sl No w vq q) (hs : Sl No w vs s) (ht : Sl No w vt l)
    (hlq : q.length ≤ 1000000) (hls : s.length ≤ 1000000) (hbs : ∀ x ∈ s, x.length ≤ 1000000) (hlt : l.length ≤ 2199023255488) (hbt : ∀ e ∈ l, e.2.2.1.length ≤ 1000000) :
    Calls Try.prog 67 #[rowV t vq vs vt o] w fun e w' => ∃ vq' vs' vt', e = .returned (rowV t vq' vs' vt' o) ∧ Chg No w w' ∧ SlT (Lt w.heap.size) w' vq' q ∧ Sl (Lt w.heap.size) w' vs' (s.map Fr.mk) ∧ Sl (Lt w.heap.size) w' vt' l := by
  have Hq := Lib.hid (fun W (hW : Chg No w W) => vclonef_any _ _ q W (hq.keepNo hW) hlq)
  have Ht := Lib.hid (fun W (hW : Chg No w W) => regents_any _ l W (ht.keepNo hW) hlt hbt)
  have Hs := Lib.hid (fun W (hW : Chg No w W) => (Sl.up hs (Nat.le_refl _)).keepNo hW)
  have Hbs := Lib.hid hbs
  obtain ⟨Aq, cq, rfl⟩ := hq.slice
  obtain ⟨As, cs, rfl⟩ := hs.slice
  obtain ⟨At0, ct, rfl⟩ := ht.slice
  clear hq hs ht hbs hbt
  unfold rowV
  go_enter Try.func67, Try.ntmps67
  have o1 := ((Chg.refl No (w.alloc (.cells #[.int .i64 t, .slice Aq q.length cq, .slice As s.length cs, .slice At0 l.length ct, .bool o] 88))).alloc (.cells #[.int .i64 0, .slice none 0 0, .slice none 0 0, .slice none 0 0, .bool false] 88)).obj (alloc_obj w (.cells #[.int .i64 t, .slice Aq q.length cq, .slice As s.length cs, .slice At0 l.length ct, .bool o] 88)) (not_no _)
  have o2 := alloc_obj (w.alloc (.cells #[.int .i64 t, .slice Aq q.length cq, .slice As s.length cs, .slice At0 l.length ct, .bool o] 88)) (.cells #[.int .i64 0, .slice none 0 0, .slice none 0 0, .slice none 0 0, .bool false] 88)
  have hc0 := ((Chg.refl No w).alloc (.cells #[.int .i64 t, .slice Aq q.length cq, .slice As s.length cs, .slice At0 l.length ct, .bool o] 88)).alloc (.cells #[.int .i64 0, .slice none 0 0, .slice none 0 0, .slice none 0 0, .bool false] 88)
  have hz : (w.alloc (.cells #[.int .i64 t, .slice Aq q.length cq, .slice As s.length cs, .slice At0 l.length ct, .bool o] 88)).heap.size = w.heap.size + 1 := by simp
  rw [hz] at o2
  go_wp2_with (first | (with_reducible refine stop_append ?_) | (with_reducible refine stop_copy ?_) | (with_reducible refine stop_make ?_) | (with_reducible refine stop_lookup ?_) | (with_reducible refine stop_update ?_) | (with_reducible refine stop_slice ?_) | (with_reducible refine stop_range ?_) | (with_reducible refine stop_next ?_) | (with_reducible refine stop_convert ⟨_, rfl⟩ ?_) | (with_reducible refine stop_convertB ⟨_, _, _, rfl⟩ ?_) | (with_reducible refine stop_eqSlice ⟨_, _, rfl⟩ ?_))
  generalize (w.alloc (.cells #[.int .i64 t, .slice Aq q.length cq, .slice As s.length cs, .slice At0 l.length ct, .bool o] 88)).alloc (.cells #[.int .i64 0, .slice none 0 0, .slice none 0 0, .slice none 0 0, .bool false] 88) = w0 at *
  obtain ⟨q1, hq1⟩ : ∃ p, p = w.heap.size := ⟨_, rfl⟩
  obtain ⟨q2, hq2⟩ : ∃ p, p = w.heap.size + 1 := ⟨_, rfl⟩
  rw [← hq2] at o2 ⊢
  rw [← hq1] at o1 ⊢
  have Hq1 := Lib.hid hq1; have Hq2 := Lib.hid hq2
  clear hq1 hq2 hz
  have HS := Lib.hid (show ∀ W, Chg No w0 W → (fun W => W.cell? ⟨q1, 0, none⟩ = some (.int .i64 t) ∧ W.cell? ⟨q1, 1, none⟩ = some (.slice Aq q.length cq)) W from fun W hW => ⟨cell_obj (hW.obj o1 (not_no _)) rfl, cell_obj (hW.obj o1 (not_no _)) rfl⟩)
  have cd := (Chg.refl No w0).drew
  refine rt_start (fun W => W.cell? ⟨q1, 0, none⟩ = some (.int .i64 t) ∧ W.cell? ⟨q1, 1, none⟩ = some (.slice Aq q.length cq)) (by kernel_rfl) ?_
  ((refine rt_yes (i := 0) (oi := { dst := some 6, op := Go.Op.fieldAddr 88 (Go.Operand.tmp 1) 0, type := 0, pos := "register.go:38", after := #[], guard := none }) (v := ?_) rfl (by kernel_rfl) (by kernel_rfl) (by kernel_rfl) (fun _ _ _ h => h) rfl ?_ ?_); rotate_left; focus (intro W hW; (try dsimp only at hW); go_split_ands; go_simp; (try (simp (disch := omega) only [IntWalk.i64_in]; (try go_simp))); (try (split; (next => omega); (try go_simp))); try rfl; done))
  try simp only [Act.put, List.setIfInBounds_toArray, List.set_cons_zero, List.set_cons_succ]
  ((refine rt_yes (i := 1) (oi := { dst := some 7, op := Go.Op.fieldAddr 68 (Go.Operand.tmp 6) 0, type := 0, pos := "register.go:38", after := #[{ on := 0, ground := Go.Ground.data }], guard := none }) (v := ?_) rfl (by kernel_rfl) (by kernel_rfl) (by kernel_rfl) (fun _ _ _ h => h) rfl ?_ ?_); rotate_left; focus (intro W hW; (try dsimp only at hW); go_split_ands; go_simp; (try (simp (disch := omega) only [IntWalk.i64_in]; (try go_simp))); (try (split; (next => omega); (try go_simp))); try rfl; done))
  try simp only [Act.put, List.setIfInBounds_toArray, List.set_cons_zero, List.set_cons_succ]
  ((refine rt_yes (i := 2) (oi := { dst := some 8, op := Go.Op.load 3 (Go.Operand.tmp 7), type := 3, pos := "register.go:38", after := #[{ on := 1, ground := Go.Ground.data }], guard := none }) (v := ?_) rfl (by kernel_rfl) (by kernel_rfl) (by kernel_rfl) (fun _ _ _ h => h) rfl ?_ ?_); rotate_left; focus (intro W hW; (try dsimp only at hW); go_split_ands; go_simp; (try (simp (disch := omega) only [IntWalk.i64_in]; (try go_simp))); (try (split; (next => omega); (try go_simp))); try rfl; done))
  try simp only [Act.put, List.setIfInBounds_toArray, List.set_cons_zero, List.set_cons_succ]
  ((refine rt_yes (i := 3) (oi := { dst := some 9, op := Go.Op.fieldAddr 88 (Go.Operand.tmp 1) 0, type := 0, pos := "register.go:38", after := #[], guard := none }) (v := ?_) rfl (by kernel_rfl) (by kernel_rfl) (by kernel_rfl) (fun _ _ _ h => h) rfl ?_ ?_); rotate_left; focus (intro W hW; (try dsimp only at hW); go_split_ands; go_simp; (try (simp (disch := omega) only [IntWalk.i64_in]; (try go_simp))); (try (split; (next => omega); (try go_simp))); try rfl; done))
  try simp only [Act.put, List.setIfInBounds_toArray, List.set_cons_zero, List.set_cons_succ]
  ((refine rt_yes (i := 4) (oi := { dst := some 10, op := Go.Op.fieldAddr 68 (Go.Operand.tmp 9) 1, type := 0, pos := "register.go:38", after := #[{ on := 3, ground := Go.Ground.data }], guard := none }) (v := ?_) rfl (by kernel_rfl) (by kernel_rfl) (by kernel_rfl) (fun _ _ _ h => h) rfl ?_ ?_); rotate_left; focus (intro W hW; (try dsimp only at hW); go_split_ands; go_simp; (try (simp (disch := omega) only [IntWalk.i64_in]; (try go_simp))); (try (split; (next => omega); (try go_simp))); try rfl; done))
  try simp only [Act.put, List.setIfInBounds_toArray, List.set_cons_zero, List.set_cons_succ]
  ((refine rt_yes (i := 5) (oi := { dst := some 11, op := Go.Op.load 46 (Go.Operand.tmp 10), type := 46, pos := "register.go:38", after := #[{ on := 4, ground := Go.Ground.data }], guard := none }) (v := ?_) rfl (by kernel_rfl) (by kernel_rfl) (by kernel_rfl) (fun _ _ _ h => h) rfl ?_ ?_); rotate_left; focus (intro W hW; (try dsimp only at hW); go_split_ands; go_simp; (try (simp (disch := omega) only [IntWalk.i64_in]; (try go_simp))); (try (split; (next => omega); (try go_simp))); try rfl; done))
  try simp only [Act.put, List.setIfInBounds_toArray, List.set_cons_zero, List.set_cons_succ]
  -- ready: [6, 8]
  refine rt_two (i := 6) (j := 8) (oi := { dst := some 12, op := Go.Op.call { callee := Go.Callee.value (Go.Operand.func 66), args := #[Go.Operand.tmp 11], argTypes := #[46] }, type := 46, pos := "register.go:38", after := #[{ on := 5, ground := Go.Ground.data }], guard := none }) (oj := { dst := some 3, op := Go.Op.alloc 68, type := 0, pos := "register.go:38", after := #[], guard := none }) (by kernel_rfl) (HS.out _ cd) rfl rfl rfl rfl (fun K hK => ?_) (fun K hK => ?_)
  rotate_left
  focus
    go_simp
    refine hK _ _ ?_
    clear hK K
    try simp only [Act.put, List.setIfInBounds_toArray, List.set_cons_zero, List.set_cons_succ]
    -- ready: [6]
    have o5 := (Chg.refl No (w0.alloc (.cells #[.int .i64 0, .slice none 0 0, .slice none 0 0] 68))).drew.obj (alloc_obj w0 (.cells #[.int .i64 0, .slice none 0 0, .slice none 0 0] 68)) (not_no _)
    have cdA : Chg No w0 (w0.alloc (.cells #[.int .i64 0, .slice none 0 0, .slice none 0 0] 68)).drew := ((Chg.refl No w0).alloc (.cells #[.int .i64 0, .slice none 0 0, .slice none 0 0] 68)).drew
    generalize w0.alloc (.cells #[.int .i64 0, .slice none 0 0, .slice none 0 0] 68) = wB at *
    obtain ⟨q5, hq⟩ : ∃ q, q = w0.heap.size := ⟨_, rfl⟩
    rw [← hq] at o5 ⊢
    have hq5 : w0.heap.size ≤ q5 := by omega
    clear hq
    refine rt_k (fun W => W.cell? ⟨q1, 0, none⟩ = some (.int .i64 t) ∧ W.cell? ⟨q1, 1, none⟩ = some (.slice Aq q.length cq)) (i := 6) (oi := { dst := some 12, op := Go.Op.call { callee := Go.Callee.value (Go.Operand.func 66), args := #[Go.Operand.tmp 11], argTypes := #[46] }, type := 46, pos := "register.go:38", after := #[{ on := 5, ground := Go.Ground.data }], guard := none }) (by kernel_rfl) (HS.out _ cdA) (fun _ h => h) rfl (by rfl) (fun K hK => ?_)
    go_simp
    refine (Hq.out _ (hc0.trans cdA)).mono ?_
    rintro e w7 ⟨vn, rfl, hc7, hsn⟩
    obtain ⟨An, cn, rfl⟩ := hsn.slice
    have cd7 := cdA.trans hc7
    have hql := lt_of_heap o5
    have hcz := (hc0.trans cdA).size
    replace hsn := hsn.weak (G := Or (Lt w0.heap.size) (At q5)) (fun b _ hb => by
      simp only [Lt]
      rcases hb with hb | hb
      · simp only [Lt] at hb; omega
      · simp only [At] at hb; omega)
    replace o5 := hc7.obj o5 (not_no _)
    clear hc7 cdA hql hcz
    refine hK _ _ ?_
    clear hK K
    try simp only [Act.put, List.setIfInBounds_toArray, List.set_cons_zero, List.set_cons_succ]
    ((refine rt_yes (i := 7) (oi := { dst := some 13, op := Go.Op.build 68 #[(0, Go.Operand.tmp 8), (1, Go.Operand.tmp 12)], type := 68, pos := "register.go:38", after := #[{ on := 2, ground := Go.Ground.data }, { on := 6, ground := Go.Ground.data }], guard := none }) (v := ?_) rfl (by kernel_rfl) (by kernel_rfl) (by kernel_rfl) (fun _ _ _ h => h) rfl ?_ ?_); rotate_left; focus (intro W hW; (try dsimp only at hW); go_split_ands; go_simp; (try (simp (disch := omega) only [IntWalk.i64_in]; (try go_simp))); (try (split; (next => omega); (try go_simp))); try rfl; done))
    try simp only [Act.put, List.setIfInBounds_toArray, List.set_cons_zero, List.set_cons_succ]
    -- ready: [9]
    have z0 := cell_obj (i := 0) o5 rfl
    have z1 := cell_obj (i := 1) o5 rfl
    have z2 := cell_obj (i := 2) o5 rfl
    have f0 := free_obj (i := 0) o5
    have f1 := free_obj (i := 1) o5
    have f2 := free_obj (i := 2) o5
    refine rt_k (fun W => W.cell? ⟨q1, 0, none⟩ = some (.int .i64 t) ∧ W.cell? ⟨q1, 1, none⟩ = some (.slice Aq q.length cq)) (i := 9) (oi := { dst := none, op := Go.Op.store 68 (Go.Operand.tmp 3) (Go.Operand.tmp 13), type := 0, pos := "register.go:38", after := #[{ on := 8, ground := Go.Ground.data }, { on := 7, ground := Go.Ground.data }, { on := 6, ground := Go.Ground.chain }, { on := 0, ground := Go.Ground.phase }, { on := 1, ground := Go.Ground.phase }, { on := 2, ground := Go.Ground.phase }, { on := 3, ground := Go.Ground.phase }, { on := 4, ground := Go.Ground.phase }, { on := 5, ground := Go.Ground.phase }, { on := 6, ground := Go.Ground.phase }, { on := 7, ground := Go.Ground.phase }, { on := 8, ground := Go.Ground.phase }], guard := none }) (by kernel_rfl) (HS.out _ cd7) (fun _ h => h) rfl (by rfl) (fun K hK => ?_)
    go_simp
    refine hK _ _ ?_
    clear hK K
    try simp only [Act.put, List.setIfInBounds_toArray, List.set_cons_zero, List.set_cons_succ]
    -- ready: []
    refine rt_done (by kernel_rfl)  ?_
    obtain ⟨p5, hcs⟩ := set3 o5 (.int .i64 t) (.slice An q.length cn) (.slice none 0 0)
    have hsu := (hsn.keep (hcs.weak (fun i _ hi => .inr hi)))
    have hcu : Chg No w0 (((w7.setCell ⟨q5, 0, none⟩ (.int .i64 t)).setCell ⟨q5, 1, none⟩ (.slice An q.length cn)).setCell ⟨q5, 2, none⟩ (.slice none 0 0)) := cd7.old hcs (fun i h => by simp only [At] at h; omega)
    clear z0 z1 z2 f0 f1 f2 o5 cd7 hcs hsn
    generalize (((w7.setCell ⟨q5, 0, none⟩ (.int .i64 t)).setCell ⟨q5, 1, none⟩ (.slice An q.length cn)).setCell ⟨q5, 2, none⟩ (.slice none 0 0)) = u at p5 hcu hsu ⊢
  rotate_left
  focus
    go_simp
    refine (Hq.out _ (hc0.trans cd)).mono ?_
    rintro e w6 ⟨vn, rfl, hc6, hsn⟩
    obtain ⟨An, cn, rfl⟩ := hsn.slice
    have cd6 := cd.trans hc6
    have hcz := (hc0.trans cd).size
    have hdw : w0.drew.heap.size = w0.heap.size := rfl
    replace hsn := (hsn.weak (G := Or (Lt w0.heap.size) (At w6.heap.size)) (fun b hb' hb => by
      simp only [Lt]
      rcases hb with hb | hb
      · simp only [Lt] at hb; omega
      · simp only [At] at hb; omega)).keepNo ((Chg.refl No w6).alloc (.cells #[.int .i64 0, .slice none 0 0, .slice none 0 0] 68))
    clear hc6 hcz hdw
    refine hK _ _ ?_
    clear hK K
    try simp only [Act.put, List.setIfInBounds_toArray, List.set_cons_zero, List.set_cons_succ]
    ((refine rt_yes (i := 7) (oi := { dst := some 13, op := Go.Op.build 68 #[(0, Go.Operand.tmp 8), (1, Go.Operand.tmp 12)], type := 68, pos := "register.go:38", after := #[{ on := 2, ground := Go.Ground.data }, { on := 6, ground := Go.Ground.data }], guard := none }) (v := ?_) rfl (by kernel_rfl) (by kernel_rfl) (by kernel_rfl) (fun _ _ _ h => h) rfl ?_ ?_); rotate_left; focus (intro W hW; (try dsimp only at hW); go_split_ands; go_simp; (try (simp (disch := omega) only [IntWalk.i64_in]; (try go_simp))); (try (split; (next => omega); (try go_simp))); try rfl; done))
    try simp only [Act.put, List.setIfInBounds_toArray, List.set_cons_zero, List.set_cons_succ]
    -- ready: [8]
    refine rt_k (fun W => W.cell? ⟨q1, 0, none⟩ = some (.int .i64 t) ∧ W.cell? ⟨q1, 1, none⟩ = some (.slice Aq q.length cq)) (i := 8) (oi := { dst := some 3, op := Go.Op.alloc 68, type := 0, pos := "register.go:38", after := #[], guard := none }) (by kernel_rfl) (HS.out _ cd6) (fun _ h => h) rfl (by rfl) (fun K hK => ?_)
    go_simp
    refine hK _ _ ?_
    clear hK K
    try simp only [Act.put, List.setIfInBounds_toArray, List.set_cons_zero, List.set_cons_succ]
    -- ready: [9]
    have o5 := alloc_obj w6 (.cells #[.int .i64 0, .slice none 0 0, .slice none 0 0] 68)
    have cd7 := cd6.alloc (.cells #[.int .i64 0, .slice none 0 0, .slice none 0 0] 68)
    have hq5 : w0.heap.size ≤ w6.heap.size := cd6.size
    generalize w6.alloc (.cells #[.int .i64 0, .slice none 0 0, .slice none 0 0] 68) = w7 at *
    generalize w6.heap.size = q5 at *
    clear cd6
    have z0 := cell_obj (i := 0) o5 rfl
    have z1 := cell_obj (i := 1) o5 rfl
    have z2 := cell_obj (i := 2) o5 rfl
    have f0 := free_obj (i := 0) o5
    have f1 := free_obj (i := 1) o5
    have f2 := free_obj (i := 2) o5
    refine rt_k (fun W => W.cell? ⟨q1, 0, none⟩ = some (.int .i64 t) ∧ W.cell? ⟨q1, 1, none⟩ = some (.slice Aq q.length cq)) (i := 9) (oi := { dst := none, op := Go.Op.store 68 (Go.Operand.tmp 3) (Go.Operand.tmp 13), type := 0, pos := "register.go:38", after := #[{ on := 8, ground := Go.Ground.data }, { on := 7, ground := Go.Ground.data }, { on := 6, ground := Go.Ground.chain }, { on := 0, ground := Go.Ground.phase }, { on := 1, ground := Go.Ground.phase }, { on := 2, ground := Go.Ground.phase }, { on := 3, ground := Go.Ground.phase }, { on := 4, ground := Go.Ground.phase }, { on := 5, ground := Go.Ground.phase }, { on := 6, ground := Go.Ground.phase }, { on := 7, ground := Go.Ground.phase }, { on := 8, ground := Go.Ground.phase }], guard := none }) (by kernel_rfl) (HS.out _ cd7) (fun _ h => h) rfl (by rfl) (fun K hK => ?_)
    go_simp
    refine hK _ _ ?_
    clear hK K
    try simp only [Act.put, List.setIfInBounds_toArray, List.set_cons_zero, List.set_cons_succ]
    -- ready: []
    refine rt_done (by kernel_rfl)  ?_
    obtain ⟨p5, hcs⟩ := set3 o5 (.int .i64 t) (.slice An q.length cn) (.slice none 0 0)
    have hsu := (hsn.keep (hcs.weak (fun i _ hi => .inr hi)))
    have hcu : Chg No w0 (((w7.setCell ⟨q5, 0, none⟩ (.int .i64 t)).setCell ⟨q5, 1, none⟩ (.slice An q.length cn)).setCell ⟨q5, 2, none⟩ (.slice none 0 0)) := cd7.old hcs (fun i h => by simp only [At] at h; omega)
    clear z0 z1 z2 f0 f1 f2 o5 cd7 hcs hsn
    generalize (((w7.setCell ⟨q5, 0, none⟩ (.int .i64 t)).setCell ⟨q5, 1, none⟩ (.slice An q.length cn)).setCell ⟨q5, 2, none⟩ (.slice none 0 0)) = u at p5 hcu hsu ⊢
  all_goals
    clear cd HS
    have hc0u := hc0.trans hcu
    have hq1l := lt_of_heap o1
    have hq2l := lt_of_heap o2
    have hne1 : q5 ≠ q1 := by omega
    have hne2 : q5 ≠ q2 := by omega
    replace o1 := hcu.obj o1 (not_no _)
    replace o2 := hcu.obj o2 (not_no _)
    have b2 := cell_obj (i := 2) o1 rfl
    have hw0 := hc0.size
    have hq5l := lt_of_heap p5
    have Hsu := Lib.hid hsu
    clear hsu hcu hq1l
    go_wp2_with (first | (with_reducible refine stop_append ?_) | (with_reducible refine stop_copy ?_) | (with_reducible refine stop_make ?_) | (with_reducible refine stop_lookup ?_) | (with_reducible refine stop_update ?_) | (with_reducible refine stop_slice ?_) | (with_reducible refine stop_range ?_) | (with_reducible refine stop_next ?_) | (with_reducible refine stop_convert ⟨_, rfl⟩ ?_) | (with_reducible refine stop_convertB ⟨_, _, _, rfl⟩ ?_) | (with_reducible refine stop_eqSlice ⟨_, _, rfl⟩ ?_))
    go_loopw [18] (fun v18 wr => ∃ (k : Nat) (v3 : Value), k ≤ s.length ∧ v18 = .int .i64 k ∧ Chg (At q5) u wr ∧ wr.heap[q5]? = some (.cells #[.int .i64 t, .slice An q.length cn, v3] 68 (0, 0)) ∧ Cb.Own (Or (Lt w0.heap.size) (At q5)) wr u.heap.size 46 v3 ((s.take k).map Fr.mk)) (fun v18 _ => s.length - (intOf v18).toNat)
    case atStart => exact ⟨0, .slice none 0 0, by omega, rfl, Chg.refl _ _, p5, Cb.Own.nil _ _ _ _⟩
    case round =>
      clear p5 b2
      obtain ⟨k, v3, hk, rfl, hcr, p5, hown⟩ := hrel
      have hcw : Chg No w wr := hc0u.old hcr (fun i h => by simp only [At] at h; omega)
      by_cases hlt2 : k < s.length
      · obtain ⟨b, ob, vx, rfl, _, hbl, hx0, hux⟩ := rowT_get (Hs.out wr hcw) k hlt2
        have htk : (s.take (k + 1)).map Fr.mk = (s.take k).map Fr.mk ++ [Fr.mk s[k]] := by rw [List.take_succ_eq_append_getElem hlt2, List.map_append]; rfl
        have hxl := Hbs.out _ (List.getElem_mem hlt2)
        have hlen : ((s.take k).map Fr.mk).length = k := by simp; omega
        generalize s[k] = x at *
        generalize (s.take k).map Fr.mk = acc at *
        obtain ⟨Ax, cx, rfl⟩ := hux.slice
        obtain ⟨A3, c3, rfl⟩ := hown.slice
        have Hcl := Lib.hid (fun W (hW : Chg No wr W) => vclonef_any _ _ x W (hux.keepNo hW) hxl)
        have Hown := Lib.hid hown
        have Htk := Lib.hid htk
        have Hlen := Lib.hid hlen
        clear hown htk hlen hux
        go_wp2_with (first | (with_reducible refine stop_append ?_) | (with_reducible refine stop_copy ?_) | (with_reducible refine stop_make ?_) | (with_reducible refine stop_lookup ?_) | (with_reducible refine stop_update ?_) | (with_reducible refine stop_slice ?_) | (with_reducible refine stop_range ?_) | (with_reducible refine stop_next ?_) | (with_reducible refine stop_convert ⟨_, rfl⟩ ?_) | (with_reducible refine stop_convertB ⟨_, _, _, rfl⟩ ?_) | (with_reducible refine stop_eqSlice ⟨_, _, rfl⟩ ?_))
        have HS2 := Lib.hid (show ∀ W, Chg No wr W → (fun W => W.cell? ⟨q5, 2, none⟩ = some (.slice A3 acc.length c3)) W from fun W hW => cell_obj (hW.obj p5 (not_no _)) rfl)
        have cd := (Chg.refl No wr).drew
        refine rt_start (fun W => W.cell? ⟨q5, 2, none⟩ = some (.slice A3 acc.length c3)) (by kernel_rfl) ?_
        ((refine rt_yes (i := 0) (oi := { dst := some 22, op := Go.Op.fieldAddr 68 (Go.Operand.tmp 3) 2, type := 0, pos := "register.go:40", after := #[], guard := none }) (v := ?_) rfl (by kernel_rfl) (by kernel_rfl) (by kernel_rfl) (fun _ _ _ h => h) rfl ?_ ?_); rotate_left; focus (intro W hW; (try dsimp only at hW); go_split_ands; go_simp; (try (simp (disch := omega) only [IntWalk.i64_in]; (try go_simp))); (try (split; (next => omega); (try go_simp))); try rfl; done))
        try simp only [Act.put, List.setIfInBounds_toArray, List.set_cons_zero, List.set_cons_succ]
        ((refine rt_yes (i := 1) (oi := { dst := some 23, op := Go.Op.load 61 (Go.Operand.tmp 22), type := 61, pos := "register.go:40", after := #[{ on := 0, ground := Go.Ground.data }], guard := none }) (v := ?_) rfl (by kernel_rfl) (by kernel_rfl) (by kernel_rfl) (fun _ _ _ h => h) rfl ?_ ?_); rotate_left; focus (intro W hW; (try dsimp only at hW); go_split_ands; go_simp; (try (simp (disch := omega) only [IntWalk.i64_in]; (try go_simp))); (try (split; (next => omega); (try go_simp))); try rfl; done))
        try simp only [Act.put, List.setIfInBounds_toArray, List.set_cons_zero, List.set_cons_succ]
        ((refine rt_yes (i := 2) (oi := { dst := some 24, op := Go.Op.move (Go.Operand.tmp 5), type := 46, pos := "register.go:40", after := #[], guard := none }) (v := ?_) rfl (by kernel_rfl) (by kernel_rfl) (by kernel_rfl) (fun _ _ _ h => h) rfl ?_ ?_); rotate_left; focus (intro W hW; (try dsimp only at hW); go_split_ands; go_simp; (try (simp (disch := omega) only [IntWalk.i64_in]; (try go_simp))); (try (split; (next => omega); (try go_simp))); try rfl; done))
        try simp only [Act.put, List.setIfInBounds_toArray, List.set_cons_zero, List.set_cons_succ]
        -- ready: [3]
        refine rt_k (fun W => W.cell? ⟨q5, 2, none⟩ = some (.slice A3 acc.length c3)) (i := 3) (oi := { dst := some 25, op := Go.Op.call { callee := Go.Callee.value (Go.Operand.func 66), args := #[Go.Operand.tmp 24], argTypes := #[46] }, type := 46, pos := "register.go:40", after := #[{ on := 2, ground := Go.Ground.data }], guard := none }) (by kernel_rfl) (HS2.out _ cd) (fun _ h => h) rfl (by rfl) (fun K hK => ?_)
        go_simp
        refine (Hcl.out _ cd).mono ?_
        rintro e w3 ⟨vn, rfl, hc3, hsn⟩
        obtain ⟨Am, cm, rfl⟩ := hsn.slice
        have cd3 := cd.trans hc3
        refine hK _ _ ?_
        clear hK K
        try simp only [Act.put, List.setIfInBounds_toArray, List.set_cons_zero, List.set_cons_succ]
        -- ready: [4]
        refine rt_k (fun W => W.cell? ⟨q5, 2, none⟩ = some (.slice A3 acc.length c3)) (i := 4) (oi := { dst := some 26, op := Go.Op.buildSlice 61 1 #[(0, Go.Operand.tmp 25)], type := 61, pos := "register.go:40", after := #[{ on := 3, ground := Go.Ground.data }], guard := none }) (by kernel_rfl) (HS2.out _ cd3) (fun _ h => h) rfl (by rfl) (fun K hK => ?_)
        go_simp
        refine hK _ _ ?_
        clear hK K
        try simp only [Act.put, List.setIfInBounds_toArray, List.set_cons_zero, List.set_cons_succ]
        -- ready: [5]
        have hcu0 := hcr.size
        have hwr0 := hcw.size
        have hwu0 := hc0u.size
        have hobl : ∀ i, OB (.slice A3 acc.length c3) i → u.heap.size ≤ i ∧ i < wr.heap.size := fun i hi => Hown.out.lt i hi
        have hdr : wr.drew.heap.size = wr.heap.size := rfl
        have hlit : Sl (Or (Or (Lt w0.heap.size) (At q5)) (OB (.slice A3 acc.length c3))) (w3.alloc (.cells #[.slice Am x.length cm] 46)) (.slice (some ⟨w3.heap.size, 0, none⟩) 1 1) [Fr.mk x] :=
          Sl.lit1 rfl ⟨_, rfl, hsn.weak (fun b _ hb => by
            simp only [Lt]
            rcases hb with (hb | hb) | hb
            · simp only [Lt] at hb; omega
            · simp only [At] at hb; omega
            · have := hobl _ hb; omega)⟩ (fun hb => by
            have := cd3.size
            rcases hb with (hb | hb) | hb
            · simp only [Lt] at hb; omega
            · simp only [At] at hb; omega
            · have := hobl _ hb; omega)
        have cd4 := cd3.alloc (.cells #[.slice Am x.length cm] 46)
        refine rt_append_sl (α := Fr) (F := Or (Lt w0.heap.size) (At q5)) (G := Or (Or (Lt w0.heap.size) (At q5)) (OB (.slice A3 acc.length c3))) (fun W => W.cell? ⟨q5, 2, none⟩ = some (.slice A3 acc.length c3)) (i := 5) (by kernel_rfl) (HS2.out _ cd4) (fun _ h => h) rfl rfl Try.underlying61 vinfo_ints rfl (Hown.out.keep cd4 (fun _ _ f => f.elim) (fun _ _ f => f)) rfl rfl hlit (fun i _ hi => hi) (by have := Hlen.out; simp; omega) (by have := Hlen.out; simp; omega) (by have := cd4.size; omega) ?_
        intro v6 w6 hown6 hg6
        rw [← Htk.out] at hown6
        obtain ⟨A6, c6, e6⟩ := hown6.slice
        rw [show ((s.take (k + 1)).map Fr.mk).length = k + 1 by simp; omega] at e6
        subst e6
        have ho6 := hg6.chg.obj (cd4.obj p5 (not_no _)) (fun h => by have := hobl _ h; omega)
        have hcr6 : Chg (At q5) u w6 := (hcr.trans cd4.of_no).grew hg6 (fun i hi => .inr (hobl i hi).1)
        have z2 := cell_obj (i := 2) ho6 rfl
        have f2 := free_obj (i := 2) ho6
        have Hown6 := Lib.hid hown6
        clear hown6 hlit hg6
        try simp only [Act.put, List.setIfInBounds_toArray, List.set_cons_zero, List.set_cons_succ]
        ((refine rt_yes (i := 6) (oi := { dst := some 28, op := Go.Op.fieldAddr 68 (Go.Operand.tmp 3) 2, type := 0, pos := "register.go:40", after := #[{ on := 0, ground := Go.Ground.phase }, { on := 1, ground := Go.Ground.phase }, { on := 2, ground := Go.Ground.phase }, { on := 3, ground := Go.Ground.phase }, { on := 4, ground := Go.Ground.phase }, { on := 5, ground := Go.Ground.phase }], guard := none }) (v := ?_) rfl (by kernel_rfl) (by kernel_rfl) (by kernel_rfl) (fun _ _ _ h => h) rfl ?_ ?_); rotate_left; focus (intro W hW; (try dsimp only at hW); go_split_ands; go_simp; (try (simp (disch := omega) only [IntWalk.i64_in]; (try go_simp))); (try (split; (next => omega); (try go_simp))); try rfl; done))
        try simp only [Act.put, List.setIfInBounds_toArray, List.set_cons_zero, List.set_cons_succ]
        -- ready: [7]
        refine rt_k (fun W => W.cell? ⟨q5, 2, none⟩ = some (.slice A3 acc.length c3)) (i := 7) (oi := { dst := none, op := Go.Op.store 61 (Go.Operand.tmp 28) (Go.Operand.tmp 27), type := 0, pos := "register.go:40", after := #[{ on := 6, ground := Go.Ground.data }, { on := 5, ground := Go.Ground.data }, { on := 5, ground := Go.Ground.chain }, { on := 0, ground := Go.Ground.phase }, { on := 1, ground := Go.Ground.phase }, { on := 2, ground := Go.Ground.phase }, { on := 3, ground := Go.Ground.phase }, { on := 4, ground := Go.Ground.phase }, { on := 5, ground := Go.Ground.phase }], guard := none }) (by kernel_rfl) z2 (fun _ h => h) rfl (by rfl) (fun K hK => ?_)
        go_simp
        refine hK _ _ ?_
        clear hK K
        try simp only [Act.put, List.setIfInBounds_toArray, List.set_cons_zero, List.set_cons_succ]
        -- ready: []
        refine rt_done (by kernel_rfl)  ?_
        have ho7 := obj_set (i := 2) (u := .slice A6 (k + 1) c6) ho6 rfl
        have hcr7 : Chg (At q5) u (w6.setCell ⟨q5, 2, none⟩ (.slice A6 (k + 1) c6)) := hcr6.setCell (p := ⟨q5, 2, none⟩) (.inl rfl) _
        have Hown7 := Lib.hid (Hown6.out.keep (chg_set (b := q5) (i := 2) (.slice A6 (k + 1) c6)) (fun b _ hb => .inr hb) (fun i hi h => by have := (Hown6.out.lt i hi).1; simp only [At] at h; omega))
        clear z2 f2 ho6
        generalize w6.setCell ⟨q5, 2, none⟩ (.slice A6 (k + 1) c6) = w7 at *
        go_wp2_with (first | (with_reducible refine stop_append ?_) | (with_reducible refine stop_copy ?_) | (with_reducible refine stop_make ?_) | (with_reducible refine stop_lookup ?_) | (with_reducible refine stop_update ?_) | (with_reducible refine stop_slice ?_) | (with_reducible refine stop_range ?_) | (with_reducible refine stop_next ?_) | (with_reducible refine stop_convert ⟨_, rfl⟩ ?_) | (with_reducible refine stop_convertB ⟨_, _, _, rfl⟩ ?_) | (with_reducible refine stop_eqSlice ⟨_, _, rfl⟩ ?_))
        go_roundw
        case rel => exact ⟨k + 1, _, by omega, by go_num, hcr7, ho7, Hown7.out⟩
        case measure => simp [intOf]; omega
      · obtain rfl : k = s.length := by omega
        rw [List.take_length] at hown
        obtain ⟨A3, c3, e3⟩ := hown.slice
        rw [List.length_map] at e3
        subst e3
        have hcu0 := hcr.size
        have Hvs := Lib.hid (hown.sl (fun i hi h => by
          have := (hown.lt i hi).1
          have := hc0u.size
          rcases h with h | h
          · simp only [Lt] at h; omega
          · simp only [At] at h; omega))
        have Hvq := Lib.hid (Hsu.out.keep (hcr.weak (fun i _ hi => .inr hi)))
        clear hown
        have o1r := hcr.obj o1 (fun h => hne1 h.symm)
        have o2r := hcr.obj o2 (fun h => hne2 h.symm)
        clear o1 o2
        go_wp2_with (first | (with_reducible refine stop_append ?_) | (with_reducible refine stop_copy ?_) | (with_reducible refine stop_make ?_) | (with_reducible refine stop_lookup ?_) | (with_reducible refine stop_update ?_) | (with_reducible refine stop_slice ?_) | (with_reducible refine stop_range ?_) | (with_reducible refine stop_next ?_) | (with_reducible refine stop_convert ⟨_, rfl⟩ ?_) | (with_reducible refine stop_convertB ⟨_, _, _, rfl⟩ ?_) | (with_reducible refine stop_eqSlice ⟨_, _, rfl⟩ ?_))
        have HS3 := Lib.hid (show ∀ W, Chg No wr W → (fun W => W.cell? ⟨q5, 0, none⟩ = some (.int .i64 t) ∧ W.cell? ⟨q5, 1, none⟩ = some (.slice An q.length cn) ∧ W.cell? ⟨q5, 2, none⟩ = some (.slice A3 s.length c3) ∧ W.cell? ⟨q1, 3, none⟩ = some (.slice At0 l.length ct) ∧ W.cell? ⟨q1, 4, none⟩ = some (.bool o)) W from fun W hW => ⟨cell_obj (hW.obj p5 (not_no _)) rfl, cell_obj (hW.obj p5 (not_no _)) rfl, cell_obj (hW.obj p5 (not_no _)) rfl, cell_obj (hW.obj o1r (not_no _)) rfl, cell_obj (hW.obj o1r (not_no _)) rfl⟩)
        have cd := (Chg.refl No wr).drew
        refine rt_start (fun W => W.cell? ⟨q5, 0, none⟩ = some (.int .i64 t) ∧ W.cell? ⟨q5, 1, none⟩ = some (.slice An q.length cn) ∧ W.cell? ⟨q5, 2, none⟩ = some (.slice A3 s.length c3) ∧ W.cell? ⟨q1, 3, none⟩ = some (.slice At0 l.length ct) ∧ W.cell? ⟨q1, 4, none⟩ = some (.bool o)) (by kernel_rfl) ?_
        ((refine rt_yes (i := 0) (oi := { dst := some 30, op := Go.Op.load 68 (Go.Operand.tmp 3), type := 68, pos := "register.go:42", after := #[], guard := none }) (v := ?_) rfl (by kernel_rfl) (by kernel_rfl) (by kernel_rfl) (fun _ _ _ h => h) rfl ?_ ?_); rotate_left; focus (intro W hW; (try dsimp only at hW); go_split_ands; go_simp; (try (simp (disch := omega) only [IntWalk.i64_in]; (try go_simp))); (try (split; (next => omega); (try go_simp))); try rfl; done))
        try simp only [Act.put, List.setIfInBounds_toArray, List.set_cons_zero, List.set_cons_succ]
        ((refine rt_yes (i := 1) (oi := { dst := some 31, op := Go.Op.fieldAddr 88 (Go.Operand.tmp 1) 1, type := 0, pos := "register.go:42", after := #[], guard := none }) (v := ?_) rfl (by kernel_rfl) (by kernel_rfl) (by kernel_rfl) (fun _ _ _ h => h) rfl ?_ ?_); rotate_left; focus (intro W hW; (try dsimp only at hW); go_split_ands; go_simp; (try (simp (disch := omega) only [IntWalk.i64_in]; (try go_simp))); (try (split; (next => omega); (try go_simp))); try rfl; done))
        try simp only [Act.put, List.setIfInBounds_toArray, List.set_cons_zero, List.set_cons_succ]
        ((refine rt_yes (i := 2) (oi := { dst := some 32, op := Go.Op.load 28 (Go.Operand.tmp 31), type := 28, pos := "register.go:42", after := #[{ on := 1, ground := Go.Ground.data }], guard := none }) (v := ?_) rfl (by kernel_rfl) (by kernel_rfl) (by kernel_rfl) (fun _ _ _ h => h) rfl ?_ ?_); rotate_left; focus (intro W hW; (try dsimp only at hW); go_split_ands; go_simp; (try (simp (disch := omega) only [IntWalk.i64_in]; (try go_simp))); (try (split; (next => omega); (try go_simp))); try rfl; done))
        try simp only [Act.put, List.setIfInBounds_toArray, List.set_cons_zero, List.set_cons_succ]
        ((refine rt_yes (i := 4) (oi := { dst := some 34, op := Go.Op.fieldAddr 88 (Go.Operand.tmp 1) 2, type := 0, pos := "register.go:42", after := #[], guard := none }) (v := ?_) rfl (by kernel_rfl) (by kernel_rfl) (by kernel_rfl) (fun _ _ _ h => h) rfl ?_ ?_); rotate_left; focus (intro W hW; (try dsimp only at hW); go_split_ands; go_simp; (try (simp (disch := omega) only [IntWalk.i64_in]; (try go_simp))); (try (split; (next => omega); (try go_simp))); try rfl; done))
        try simp only [Act.put, List.setIfInBounds_toArray, List.set_cons_zero, List.set_cons_succ]
        ((refine rt_yes (i := 5) (oi := { dst := some 35, op := Go.Op.load 4 (Go.Operand.tmp 34), type := 4, pos := "register.go:42", after := #[{ on := 4, ground := Go.Ground.data }], guard := none }) (v := ?_) rfl (by kernel_rfl) (by kernel_rfl) (by kernel_rfl) (fun _ _ _ h => h) rfl ?_ ?_); rotate_left; focus (intro W hW; (try dsimp only at hW); go_split_ands; go_simp; (try (simp (disch := omega) only [IntWalk.i64_in]; (try go_simp))); (try (split; (next => omega); (try go_simp))); try rfl; done))
        try simp only [Act.put, List.setIfInBounds_toArray, List.set_cons_zero, List.set_cons_succ]
        -- ready: [3]
        refine rt_k (fun W => W.cell? ⟨q5, 0, none⟩ = some (.int .i64 t) ∧ W.cell? ⟨q5, 1, none⟩ = some (.slice An q.length cn) ∧ W.cell? ⟨q5, 2, none⟩ = some (.slice A3 s.length c3) ∧ W.cell? ⟨q1, 3, none⟩ = some (.slice At0 l.length ct) ∧ W.cell? ⟨q1, 4, none⟩ = some (.bool o)) (i := 3) (oi := { dst := some 33, op := Go.Op.call { callee := Go.Callee.value (Go.Operand.func 72), args := #[Go.Operand.tmp 32], argTypes := #[28] }, type := 28, pos := "register.go:42", after := #[{ on := 2, ground := Go.Ground.data }], guard := none }) (by kernel_rfl) (HS3.out _ cd) (fun _ h => h) rfl (by rfl) (fun K hK => ?_)
        go_simp
        refine (Ht.out _ (hcw.trans cd)).mono ?_
        rintro e w3 ⟨vn, rfl, hc3, hsn⟩
        obtain ⟨Al, cl, rfl⟩ := hsn.slice
        have cd3 := cd.trans hc3
        have o23 := cd3.obj o2r (not_no _)
        have hs3 := HS3.out _ cd3
        have Hsn := Lib.hid hsn
        clear o2r hsn
        have z0 := cell_obj (i := 0) o23 rfl
        have z1 := cell_obj (i := 1) o23 rfl
        have z2 := cell_obj (i := 2) o23 rfl
        have z3 := cell_obj (i := 3) o23 rfl
        have z4 := cell_obj (i := 4) o23 rfl
        have f0 := free_obj (i := 0) o23
        have f1 := free_obj (i := 1) o23
        have f2 := free_obj (i := 2) o23
        have f3 := free_obj (i := 3) o23
        have f4 := free_obj (i := 4) o23
        refine hK _ _ ?_
        clear hK K
        try simp only [Act.put, List.setIfInBounds_toArray, List.set_cons_zero, List.set_cons_succ]
        ((refine rt_yes (i := 6) (oi := { dst := some 36, op := Go.Op.build 88 #[(0, Go.Operand.tmp 30), (1, Go.Operand.tmp 33), (2, Go.Operand.tmp 35)], type := 88, pos := "register.go:42", after := #[{ on := 0, ground := Go.Ground.data }, { on := 3, ground := Go.Ground.data }, { on := 5, ground := Go.Ground.data }], guard := none }) (v := ?_) rfl (by kernel_rfl) (by kernel_rfl) (by kernel_rfl) (fun _ _ _ h => h) rfl ?_ ?_); rotate_left; focus (intro W hW; (try dsimp only at hW); go_split_ands; go_simp; (try (simp (disch := omega) only [IntWalk.i64_in]; (try go_simp))); (try (split; (next => omega); (try go_simp))); try rfl; done))
        try simp only [Act.put, List.setIfInBounds_toArray, List.set_cons_zero, List.set_cons_succ]
        -- ready: [7]
        refine rt_k (fun W => W.cell? ⟨q5, 0, none⟩ = some (.int .i64 t) ∧ W.cell? ⟨q5, 1, none⟩ = some (.slice An q.length cn) ∧ W.cell? ⟨q5, 2, none⟩ = some (.slice A3 s.length c3) ∧ W.cell? ⟨q1, 3, none⟩ = some (.slice At0 l.length ct) ∧ W.cell? ⟨q1, 4, none⟩ = some (.bool o)) (i := 7) (oi := { dst := none, op := Go.Op.store 88 (Go.Operand.tmp 2) (Go.Operand.tmp 36), type := 0, pos := "register.go:42", after := #[{ on := 6, ground := Go.Ground.data }, { on := 3, ground := Go.Ground.chain }, { on := 0, ground := Go.Ground.phase }, { on := 1, ground := Go.Ground.phase }, { on := 2, ground := Go.Ground.phase }, { on := 3, ground := Go.Ground.phase }, { on := 4, ground := Go.Ground.phase }, { on := 5, ground := Go.Ground.phase }, { on := 6, ground := Go.Ground.phase }], guard := none }) (by kernel_rfl) hs3 (fun _ h => h) rfl (by rfl) (fun K hK => ?_)
        go_simp
        refine hK _ _ ?_
        clear hK K
        try simp only [Act.put, List.setIfInBounds_toArray, List.set_cons_zero, List.set_cons_succ]
        -- ready: []
        refine rt_done (by kernel_rfl)  ?_
        obtain ⟨o9, hc9⟩ := set5 o23 (.int .i64 t) (.slice An q.length cn) (.slice A3 s.length c3) (.slice Al l.length cl) (.bool o)
        clear z0 z1 z2 z3 z4 f0 f1 f2 f3 f4 hs3 o23
        generalize ((((w3.setCell ⟨q2, 0, none⟩ (.int .i64 t)).setCell ⟨q2, 1, none⟩ (.slice An q.length cn)).setCell ⟨q2, 2, none⟩ (.slice A3 s.length c3)).setCell ⟨q2, 3, none⟩ (.slice Al l.length cl)).setCell ⟨q2, 4, none⟩ (.bool o) = w9 at *
        have z0 := cell_obj (i := 0) o9 rfl
        have z1 := cell_obj (i := 1) o9 rfl
        have z2 := cell_obj (i := 2) o9 rfl
        have z3 := cell_obj (i := 3) o9 rfl
        have z4 := cell_obj (i := 4) o9 rfl
        have hq2w : w.heap.size ≤ q2 := by have := Hq2.out; omega
        have hcw9 : Chg No w w9 := (hcw.trans cd3).old hc9 (fun i h => by simp only [At] at h; omega)
        have hdr : wr.drew.heap.size = wr.heap.size := rfl
        have hcwz := hcw.size
        have hwu0 := hc0u.size
        have Hvq9 := Lib.hid (((Hvq.out.keepNo cd3).keep (hc9.weak (fun i _ hi => .inl (by simp only [At] at hi; simp only [Lt]; omega)))).weak (G := Lt w.heap.size) (fun i _ hi => .inl (by simp only [Lt] at *; omega)))
        have Hvs9 := Lib.hid (((Hvs.out.keepNo cd3).keep (hc9.weak (fun i _ hi => .inl (by simp only [At] at hi; simp only [Lt]; omega)))).weak (G := Lt w.heap.size) (fun i _ hi => .inl (by simp only [Lt] at *; omega)))
        have Hvt9 := Lib.hid (((Hsn.out).keep (hc9.weak (fun i _ hi => by simp only [At] at hi; simp only [Lt]; omega))).weak (G := Lt w.heap.size) (fun i _ hi => by simp only [Lt] at *; omega))
        go_wp2_with (first | (with_reducible refine stop_append ?_) | (with_reducible refine stop_copy ?_) | (with_reducible refine stop_make ?_) | (with_reducible refine stop_lookup ?_) | (with_reducible refine stop_update ?_) | (with_reducible refine stop_slice ?_) | (with_reducible refine stop_range ?_) | (with_reducible refine stop_next ?_) | (with_reducible refine stop_convert ⟨_, rfl⟩ ?_) | (with_reducible refine stop_convertB ⟨_, _, _, rfl⟩ ?_) | (with_reducible refine stop_eqSlice ⟨_, _, rfl⟩ ?_))
        refine bodyPost_ret (v := .agg #[.int .i64 t, .slice An q.length cn, .slice A3 s.length c3, .slice Al l.length cl, .bool o]) (by simp [results, Try.results67, go_sem, *]) rfl ?_
        exact ⟨_, _, _, rfl, hcw9, Hvq9.out, Hvs9.out, Hvt9.out⟩
set_option maxRecDepth 100000 in
set_option maxHeartbeats 1000000 in
theorem rrowf_yes (B p : Nat) (rows : List Rw) (w : World) (h : RegS w B p rows) (hi : RowsI rows) (i : Nat) (hlt : i < rows.length) :
    Calls Try.prog 43 #[.pointer (some ⟨p, 0, none⟩), .int .i64 (firstR rows + i)] w fun e w' => ∃ vq vs vt, e = .returned (.tuple #[.agg #[.int .i64 (firstR rows + i), vq, vs, vt, .bool rows[i].2.2.2.2], .int .i64 0]) ∧ Chg No w w' ∧
      SlT (Lt w.heap.size) w' vq rows[i].2.1 ∧ Sl (Lt w.heap.size) w' vs (rows[i].2.2.1.map Fr.mk) ∧ Sl (Lt w.heap.size) w' vt rows[i].2.2.2.1 := by
  obtain ⟨g, c, hc, -, -, hgl⟩ := rg_row h hi.1
  have Hat := Lib.hid (fun W (hW : Chg No w W) => rat_yes B p rows W (h.keepNo hW) hi (hW.cell hc (not_no _)) rfl i hlt)
  obtain ⟨vq, vs, vt, a0, a1, a2, a3, a4, hsq, hss, hst⟩ := rg_get h hc i hlt
  have ht := first_get hi i hlt
  obtain ⟨-, hr, htl, hte⟩ := hi.2.2 i hlt
  obtain ⟨h7, h8, h3⟩ := right_small hr
  rw [← ht] at Hat
  rw [← ht]
  have Hown := Lib.hid (fun W (hW : Chg No w W) => ownf_any rows[i].1 vq vs vt rows[i].2.2.2.2 _ _ _ W (hsq.no.keepNo hW) (hss.no.keepNo hW) (hst.no.keepNo hW) (by omega) (by omega) (fun x hx => by have := h3 x hx; omega) htl hte)
  unfold rowV at Hown
  clear ht hr htl hte h7 h8 h3 h hi hc
  obtain ⟨Aq, cq, rfl⟩ := hsq.slice
  obtain ⟨As, cs, rfl⟩ := hss.slice
  obtain ⟨Al, cl, rfl⟩ := hst.slice
  clear hsq hss hst
  generalize rows[i] = r at *
  obtain ⟨t, q, s, l, ov⟩ := r
  simp only at *
  have o4 := alloc_obj w (.cells #[.int .i64 0, .slice none 0 0, .slice none 0 0, .slice none 0 0, .bool false] 88)
  have hca := (Chg.refl No w).alloc (.cells #[.int .i64 0, .slice none 0 0, .slice none 0 0, .slice none 0 0, .bool false] 88)
  go_enter Try.func43, Try.ntmps43
  go_wp2_with (first | (with_reducible refine stop_append ?_) | (with_reducible refine stop_copy ?_) | (with_reducible refine stop_make ?_) | (with_reducible refine stop_lookup ?_) | (with_reducible refine stop_update ?_) | (with_reducible refine stop_slice ?_) | (with_reducible refine stop_range ?_) | (with_reducible refine stop_next ?_) | (with_reducible refine stop_convert ⟨_, rfl⟩ ?_) | (with_reducible refine stop_convertB ⟨_, _, _, rfl⟩ ?_) | (with_reducible refine stop_eqSlice ⟨_, _, rfl⟩ ?_))
  generalize w.alloc (.cells #[.int .i64 0, .slice none 0 0, .slice none 0 0, .slice none 0 0, .bool false] 88) = w0 at *
  obtain ⟨q4, hq4⟩ : ∃ p, p = w.heap.size := ⟨_, rfl⟩
  rw [← hq4] at o4 ⊢
  have hge : w.heap.size ≤ q4 := by omega
  clear hq4
  refine (Hat.out _ hca).mono ?_
  rintro e w1 ⟨rfl, hc1⟩
  have o41 := hc1.obj o4 (not_no _)
  have hcw := hca.trans hc1
  clear o4 hc1 hca
  replace a0 := hcw.cell a0 (not_no _)
  replace a1 := hcw.cell a1 (not_no _)
  replace a2 := hcw.cell a2 (not_no _)
  replace a3 := hcw.cell a3 (not_no _)
  replace a4 := hcw.cell a4 (not_no _)
  go_wp2_with (first | (with_reducible refine stop_append ?_) | (with_reducible refine stop_copy ?_) | (with_reducible refine stop_make ?_) | (with_reducible refine stop_lookup ?_) | (with_reducible refine stop_update ?_) | (with_reducible refine stop_slice ?_) | (with_reducible refine stop_range ?_) | (with_reducible refine stop_next ?_) | (with_reducible refine stop_convert ⟨_, rfl⟩ ?_) | (with_reducible refine stop_convertB ⟨_, _, _, rfl⟩ ?_) | (with_reducible refine stop_eqSlice ⟨_, _, rfl⟩ ?_))
  refine (Hown.out _ hcw).mono ?_
  rintro e w2 ⟨vq', vs', vt', rfl, hc2, hq2, hs2, ht2⟩
  obtain ⟨Bq, dq, rfl⟩ := hq2.slice
  obtain ⟨Bs, ds, e2⟩ := hs2.slice
  rw [List.length_map] at e2
  subst e2
  obtain ⟨Bt, dt, rfl⟩ := ht2.slice
  have hql := lt_of_heap o41
  have o42 := hc2.obj o41 (not_no _)
  have hcw2 := hcw.trans hc2
  have hw1 := hcw.size
  clear a0 a1 a2 a3 a4 o41 hc2
  have z0 := cell_obj (i := 0) o42 rfl
  have z1 := cell_obj (i := 1) o42 rfl
  have z2 := cell_obj (i := 2) o42 rfl
  have z3 := cell_obj (i := 3) o42 rfl
  have z4 := cell_obj (i := 4) o42 rfl
  have f0 := free_obj (i := 0) o42
  have f1 := free_obj (i := 1) o42
  have f2 := free_obj (i := 2) o42
  have f3 := free_obj (i := 3) o42
  have f4 := free_obj (i := 4) o42
  have Hq2 := Lib.hid hq2; have Hs2 := Lib.hid hs2; have Ht2 := Lib.hid ht2
  clear hq2 hs2 ht2
  go_wp2_with (first | (with_reducible refine stop_append ?_) | (with_reducible refine stop_copy ?_) | (with_reducible refine stop_make ?_) | (with_reducible refine stop_lookup ?_) | (with_reducible refine stop_update ?_) | (with_reducible refine stop_slice ?_) | (with_reducible refine stop_range ?_) | (with_reducible refine stop_next ?_) | (with_reducible refine stop_convert ⟨_, rfl⟩ ?_) | (with_reducible refine stop_convertB ⟨_, _, _, rfl⟩ ?_) | (with_reducible refine stop_eqSlice ⟨_, _, rfl⟩ ?_))
  refine bodyPost_ret (v := .tuple #[.agg #[.int .i64 t, .slice Bq q.length dq, .slice Bs s.length ds, .slice Bt l.length dt, .bool ov], .int .i64 0]) (by simp [results, Try.results43, go_sem, *]) rfl ?_
  obtain ⟨o9, hc9⟩ := set5 o42 (.int .i64 t) (.slice Bq q.length dq) (.slice Bs s.length ds) (.slice Bt l.length dt) (.bool ov)
  have hk : ∀ i, i < w2.heap.size → At q4 i → Lt w1.heap.size i := fun i _ h => by simp only [At] at h; simp only [Lt]; omega
  have hk2 : ∀ i, Lt w.heap.size i → Lt w1.heap.size i := fun i h => by simp only [Lt] at *; omega
  exact ⟨_, _, _, rfl, hcw2.old hc9 (fun i h => by simp only [At] at h; omega), (Hq2.out.keep (hc9.weak hk)).weak (fun i _ h => hk2 i h), (Hs2.out.keep (hc9.weak hk)).weak (fun i _ h => hk2 i h), (Ht2.out.keep (hc9.weak hk)).weak (fun i _ h => hk2 i h)⟩
end Go.Proofs.Ytbjpoamnglfjeaa
