/- Walks of package term: which configurations may be. -/
import Derived.Test.YtbjpoamnglfjeaaTerA
set_option linter.unusedVariables false
set_option linter.unusedSimpArgs false
namespace Go.Proofs.Ytbjpoamnglfjeaa
open Go.RowKit Cb

def shardB (l : List Int) : Bool := decide (1 ≤ l.length ∧ l.length ≤ 3) && nodesB l
def rightC (t : Int) (q : List Int) (s : List (List Int)) : Bool :=
  decide (1 ≤ t ∧ t ≤ 64) && decide (q.length % 2 = 1 ∧ q.length ≤ 7) && decide (1 ≤ s.length ∧ s.length ≤ 8) && nodesB q && !s.any (fun l => !shardB l)
theorem rightC_iff {t : Int} {q : List Int} {s : List (List Int)} : rightC t q s = true ↔ (1 ≤ t ∧ t ≤ 64) ∧ (q.length % 2 = 1 ∧ q.length ≤ 7) ∧ (1 ≤ s.length ∧ s.length ≤ 8) ∧ nodesB q = true ∧ ∀ l ∈ s, shardB l = true := by
  simp only [rightC, Bool.and_eq_true, decide_eq_true_eq, Bool.not_eq_true', List.any_eq_false, and_assoc]
  simp
theorem tright1_any (F : Nat → Prop) (v : Value) (xs : List Int) (w : World) (hs : Sl F w v xs) (hl : xs.length * 8 ≤ 140737488355328) :
    Calls Try.prog 85 #[v] w fun e w' => e = .returned (.bool (!shardB xs)) ∧ Chg No w w' := by
  have Hu := Lib.hid (tunlike_any F v xs w hs hl)
  obtain ⟨A, c, rfl⟩ := hs.slice
  clear hs
  have hcase : (xs.length = 0 ∧ shardB xs = false) ∨ (1 ≤ xs.length ∧ 3 < xs.length ∧ shardB xs = false) ∨ (1 ≤ xs.length ∧ xs.length ≤ 3 ∧ shardB xs = nodesB xs) := by
    by_cases h1 : 1 ≤ xs.length
    · by_cases h3 : xs.length ≤ 3
      · exact .inr (.inr ⟨h1, h3, by simp [shardB, h1, h3]⟩)
      · exact .inr (.inl ⟨h1, by omega, by simp [shardB, h3]⟩)
    · exact .inl ⟨by omega, by simp [shardB, h1]⟩
  rcases hcase with ⟨h1, h2⟩ | ⟨h1, h3, h2⟩ | ⟨h1, h3, h2⟩
  · rw [h2, h1]
    go_enter Try.func85, Try.ntmps85
    go_wp2_with (first | (with_reducible refine stop_append ?_) | (with_reducible refine stop_copy ?_) | (with_reducible refine stop_make ?_) | (with_reducible refine stop_lookup ?_) | (with_reducible refine stop_update ?_) | (with_reducible refine stop_slice ?_) | (with_reducible refine stop_range ?_) | (with_reducible refine stop_next ?_) | (with_reducible refine stop_convert ⟨_, rfl⟩ ?_) | (with_reducible refine stop_convertB ⟨_, _, _, rfl⟩ ?_) | (with_reducible refine stop_eqSlice ⟨_, _, rfl⟩ ?_))
    go_ret
    exact ⟨rfl, Chg.refl _ _⟩
  · rw [h2]
    have h1' : ¬ xs.length = 0 := by omega
    go_enter Try.func85, Try.ntmps85
    go_wp2_with (first | (with_reducible refine stop_append ?_) | (with_reducible refine stop_copy ?_) | (with_reducible refine stop_make ?_) | (with_reducible refine stop_lookup ?_) | (with_reducible refine stop_update ?_) | (with_reducible refine stop_slice ?_) | (with_reducible refine stop_range ?_) | (with_reducible refine stop_next ?_) | (with_reducible refine stop_convert ⟨_, rfl⟩ ?_) | (with_reducible refine stop_convertB ⟨_, _, _, rfl⟩ ?_) | (with_reducible refine stop_eqSlice ⟨_, _, rfl⟩ ?_))
    go_ret
    exact ⟨rfl, Chg.refl _ _⟩
  · rw [h2]
    have h1' : ¬ xs.length = 0 := by omega
    have h3' : ¬ 3 < xs.length := by omega
    clear h2
    generalize nodesB xs = b at *
    go_enter Try.func85, Try.ntmps85
    go_wp2_with (first | (with_reducible refine stop_append ?_) | (with_reducible refine stop_copy ?_) | (with_reducible refine stop_make ?_) | (with_reducible refine stop_lookup ?_) | (with_reducible refine stop_update ?_) | (with_reducible refine stop_slice ?_) | (with_reducible refine stop_range ?_) | (with_reducible refine stop_next ?_) | (with_reducible refine stop_convert ⟨_, rfl⟩ ?_) | (with_reducible refine stop_convertB ⟨_, _, _, rfl⟩ ?_) | (with_reducible refine stop_eqSlice ⟨_, _, rfl⟩ ?_))
    refine Hu.out.mono ?_
    rintro e w1 ⟨rfl, hc⟩
    go_wp2_with (first | (with_reducible refine stop_append ?_) | (with_reducible refine stop_copy ?_) | (with_reducible refine stop_make ?_) | (with_reducible refine stop_lookup ?_) | (with_reducible refine stop_update ?_) | (with_reducible refine stop_slice ?_) | (with_reducible refine stop_range ?_) | (with_reducible refine stop_next ?_) | (with_reducible refine stop_convert ⟨_, rfl⟩ ?_) | (with_reducible refine stop_convertB ⟨_, _, _, rfl⟩ ?_) | (with_reducible refine stop_eqSlice ⟨_, _, rfl⟩ ?_))
    go_ret
    refine ⟨?_, hc⟩
    show Ending.returned (.bool (decide ((xs.length : Int) < 1) || decide (3 < (xs.length : Int)) || !b)) = _
    rw [decide_eq_false (by omega), decide_eq_false (by omega)]
    rfl
def idxT (p : List Int → Bool) (l : List (List Int)) : Int := match l.findIdx? p with | some i => i | none => -1
set_option maxRecDepth 100000 in
set_option maxHeartbeats 1000000 in
theorem indexT_any (F : Nat → Prop) (v : Value) (l : List (List Int)) (p : List Int → Bool) (g : FuncId) (hg : ∀ args W, (callFunc g args).run Try.prog W = .ok (.enter g args) W) (w : World) (hs : Sl F w v l) (hl : l.length ≤ 17592186044416)
    (hp : ∀ i (h : i < l.length) u W, Chg No w W → Sl F W u l[i] → Calls Try.prog g #[u] W fun e w' => e = .returned (.bool (p l[i])) ∧ Chg No W w') :
    Calls Try.prog 105 #[v, .func (.func g) #[] #[]] w fun e w' => e = .returned (.int .i64 (idxT p l)) ∧ Chg No w w' := by
  obtain ⟨A, c, rfl⟩ := hs.slice
  have Hp := Lib.hid hp; have Hs := Lib.hid hs
  clear hp hs
  go_enter Try.func105, Try.ntmps105
  go_wp2_with (first | (with_reducible refine stop_append ?_) | (with_reducible refine stop_copy ?_) | (with_reducible refine stop_make ?_) | (with_reducible refine stop_lookup ?_) | (with_reducible refine stop_update ?_) | (with_reducible refine stop_slice ?_) | (with_reducible refine stop_range ?_) | (with_reducible refine stop_next ?_) | (with_reducible refine stop_convert ⟨_, rfl⟩ ?_) | (with_reducible refine stop_convertB ⟨_, _, _, rfl⟩ ?_) | (with_reducible refine stop_eqSlice ⟨_, _, rfl⟩ ?_))
  go_loopw [8] (fun v8 wr => ∃ k : Nat, k ≤ l.length ∧ v8 = .int .i64 k ∧ Chg No w wr ∧ ∀ i (h : i < l.length), i < k → p l[i] = false) (fun v8 _ => l.length - (intOf v8).toNat)
  case atStart => exact ⟨0, by omega, rfl, Chg.refl _ _, fun _ _ h => absurd h (by omega)⟩
  case round =>
    obtain ⟨k, hk, rfl, hc1, hall⟩ := hrel
    have Hall := Lib.hid hall; clear hall
    by_cases hlt : k < l.length
    · obtain ⟨b, o, u, rfl, _, hbl, ha0, hu⟩ := rowT_get (Hs.out.keepNo hc1) k hlt
      have Hcall := Lib.hid (Hp.out k hlt u wr hc1 hu)
      obtain ⟨Au, cu, rfl⟩ := hu.slice
      clear hu
      cases hpx : p l[k] with
      | true =>
        have Hi := Lib.hid (show idxT p l = k by
          simp only [idxT]
          rw [show l.findIdx? p = some k from List.findIdx?_eq_some_iff_getElem.2 ⟨hlt, hpx, fun j hj => by rw [Hall.out j (by omega) hj]; simp⟩])
        rw [hpx] at Hcall
        clear hpx
        generalize l[k] = x at *
        go_wp2_with (first | (with_reducible refine stop_append ?_) | (with_reducible refine stop_copy ?_) | (with_reducible refine stop_make ?_) | (with_reducible refine stop_lookup ?_) | (with_reducible refine stop_update ?_) | (with_reducible refine stop_slice ?_) | (with_reducible refine stop_range ?_) | (with_reducible refine stop_next ?_) | (with_reducible refine stop_convert ⟨_, rfl⟩ ?_) | (with_reducible refine stop_convertB ⟨_, _, _, rfl⟩ ?_) | (with_reducible refine stop_eqSlice ⟨_, _, rfl⟩ ?_))
        refine Hcall.out.mono ?_
        rintro e w1 ⟨rfl, hc2⟩
        go_wp2_with (first | (with_reducible refine stop_append ?_) | (with_reducible refine stop_copy ?_) | (with_reducible refine stop_make ?_) | (with_reducible refine stop_lookup ?_) | (with_reducible refine stop_update ?_) | (with_reducible refine stop_slice ?_) | (with_reducible refine stop_range ?_) | (with_reducible refine stop_next ?_) | (with_reducible refine stop_convert ⟨_, rfl⟩ ?_) | (with_reducible refine stop_convertB ⟨_, _, _, rfl⟩ ?_) | (with_reducible refine stop_eqSlice ⟨_, _, rfl⟩ ?_))
        go_ret
        rw [Hi.out]
        exact ⟨rfl, hc1.trans hc2⟩
      | false =>
        rw [hpx] at Hcall
        have Hpx := Lib.hid (show ∀ i (h : i < l.length), i < k + 1 → p l[i] = false from fun i h hi => by
          rcases Nat.lt_or_ge i k with h' | h'
          · exact Hall.out i h h'
          · obtain rfl : i = k := by omega
            exact hpx)
        clear hpx
        generalize l[k] = x at *
        go_wp2_with (first | (with_reducible refine stop_append ?_) | (with_reducible refine stop_copy ?_) | (with_reducible refine stop_make ?_) | (with_reducible refine stop_lookup ?_) | (with_reducible refine stop_update ?_) | (with_reducible refine stop_slice ?_) | (with_reducible refine stop_range ?_) | (with_reducible refine stop_next ?_) | (with_reducible refine stop_convert ⟨_, rfl⟩ ?_) | (with_reducible refine stop_convertB ⟨_, _, _, rfl⟩ ?_) | (with_reducible refine stop_eqSlice ⟨_, _, rfl⟩ ?_))
        refine Hcall.out.mono ?_
        rintro e w1 ⟨rfl, hc2⟩
        go_wp2_with (first | (with_reducible refine stop_append ?_) | (with_reducible refine stop_copy ?_) | (with_reducible refine stop_make ?_) | (with_reducible refine stop_lookup ?_) | (with_reducible refine stop_update ?_) | (with_reducible refine stop_slice ?_) | (with_reducible refine stop_range ?_) | (with_reducible refine stop_next ?_) | (with_reducible refine stop_convert ⟨_, rfl⟩ ?_) | (with_reducible refine stop_convertB ⟨_, _, _, rfl⟩ ?_) | (with_reducible refine stop_eqSlice ⟨_, _, rfl⟩ ?_))
        go_roundw
        case rel => exact ⟨k + 1, by omega, by go_num, hc1.trans hc2, Hpx.out⟩
        case measure => simp [intOf]; omega
    · have Hi := Lib.hid (show idxT p l = -1 by
        simp only [idxT]
        rw [List.findIdx?_eq_none_iff.2 (fun x hx => by
          obtain ⟨i, hi, rfl⟩ := List.mem_iff_getElem.1 hx
          exact Hall.out i hi (by omega))])
      go_wp2_with (first | (with_reducible refine stop_append ?_) | (with_reducible refine stop_copy ?_) | (with_reducible refine stop_make ?_) | (with_reducible refine stop_lookup ?_) | (with_reducible refine stop_update ?_) | (with_reducible refine stop_slice ?_) | (with_reducible refine stop_range ?_) | (with_reducible refine stop_next ?_) | (with_reducible refine stop_convert ⟨_, rfl⟩ ?_) | (with_reducible refine stop_convertB ⟨_, _, _, rfl⟩ ?_) | (with_reducible refine stop_eqSlice ⟨_, _, rfl⟩ ?_))
      go_ret
      rw [Hi.out]
      exact ⟨rfl, hc1⟩
theorem containsT_any (F : Nat → Prop) (v : Value) (l : List (List Int)) (p : List Int → Bool) (g : FuncId) (hg : ∀ args W, (callFunc g args).run Try.prog W = .ok (.enter g args) W) (w : World) (hs : Sl F w v l) (hl : l.length ≤ 17592186044416)
    (hp : ∀ i (h : i < l.length) u W, Chg No w W → Sl F W u l[i] → Calls Try.prog g #[u] W fun e w' => e = .returned (.bool (p l[i])) ∧ Chg No W w') :
    Calls Try.prog 86 #[v, .func (.func g) #[] #[]] w fun e w' => e = .returned (.bool (l.any p)) ∧ Chg No w w' := by
  have Hcall := Lib.hid (indexT_any F v l p g hg w hs hl hp)
  clear hp hs
  have hr : (0 ≤ idxT p l ∧ l.any p = true) ∨ (idxT p l < 0 ∧ l.any p = false) := by
    simp only [idxT]
    cases h : l.findIdx? p with
    | some i =>
      left
      obtain ⟨hi, hpi, _⟩ := List.findIdx?_eq_some_iff_getElem.1 h
      exact ⟨by simp, List.any_eq_true.2 ⟨_, List.getElem_mem hi, hpi⟩⟩
    | none =>
      right
      exact ⟨by simp, by rw [List.any_eq_false]; intro x hx; rw [List.findIdx?_eq_none_iff.1 h x hx]; simp⟩
  generalize idxT p l = i at Hcall hr
  generalize l.any p = r at hr ⊢
  rcases hr with ⟨hi, hr⟩ | ⟨hi, hr⟩
  all_goals
    have Hr := Lib.hid hr; clear hr
    have hib := hi
    go_enter Try.func86, Try.ntmps86
    go_wp2_with (first | (with_reducible refine stop_append ?_) | (with_reducible refine stop_copy ?_) | (with_reducible refine stop_make ?_) | (with_reducible refine stop_lookup ?_) | (with_reducible refine stop_update ?_) | (with_reducible refine stop_slice ?_) | (with_reducible refine stop_range ?_) | (with_reducible refine stop_next ?_) | (with_reducible refine stop_convert ⟨_, rfl⟩ ?_) | (with_reducible refine stop_convertB ⟨_, _, _, rfl⟩ ?_) | (with_reducible refine stop_eqSlice ⟨_, _, rfl⟩ ?_))
    refine Hcall.out.mono ?_
    rintro e w1 ⟨rfl, hc2⟩
    go_wp2_with (first | (with_reducible refine stop_append ?_) | (with_reducible refine stop_copy ?_) | (with_reducible refine stop_make ?_) | (with_reducible refine stop_lookup ?_) | (with_reducible refine stop_update ?_) | (with_reducible refine stop_slice ?_) | (with_reducible refine stop_range ?_) | (with_reducible refine stop_next ?_) | (with_reducible refine stop_convert ⟨_, rfl⟩ ?_) | (with_reducible refine stop_convertB ⟨_, _, _, rfl⟩ ?_) | (with_reducible refine stop_eqSlice ⟨_, _, rfl⟩ ?_))
    go_ret
    rw [Hr.out]
    exact ⟨by simp [hi], hc2⟩
/-- A configuration's three values. -/
def cfgV (t : Int) (vq vs : Value) : Value := .agg #[.int .i64 t, vq, vs]
set_option maxRecDepth 100000 in
set_option maxHeartbeats 1000000 in
theorem tright_any (F G : Nat → Prop) (t : Int) (vq vs : Value) (q : List Int) (s : List (List Int)) (w : World) (hq : Sl F w vq q) (hs : Sl G w vs s) (hlq : q.length * 8 ≤ 140737488351232) (hls : s.length ≤ 17592186044416) (hb : ∀ x ∈ s, x.length * 8 ≤ 140737488351232) :
    Calls Try.prog 45 #[cfgV t vq vs] w fun e w' => e = .returned (.bool (rightC t q s)) ∧ Chg No w w' := by
  have Hq := Lib.hid (fun W (hW : Chg No w W) => tunlike_any F vq q W (hq.keepNo hW) (by omega))
  have Hc := Lib.hid (fun W (hW : Chg No w W) => containsT_any G vs s (fun l => !shardB l) 85 (fun args W => by kernel_rfl) W (hs.keepNo hW) hls (fun i h u W' hW' hu => tright1_any G u s[i] W' hu (by have := hb _ (List.getElem_mem h); omega)))
  obtain ⟨Aq, cq, rfl⟩ := hq.slice
  obtain ⟨As, cs, rfl⟩ := hs.slice
  clear hq hs
  have hrt : rightC t q s = (decide (1 ≤ t ∧ t ≤ 64) && decide (q.length % 2 = 1 ∧ q.length ≤ 7) && decide (1 ≤ s.length ∧ s.length ≤ 8) && nodesB q && !s.any (fun l => !shardB l)) := rfl
  generalize s.any (fun l => !shardB l) = sa at *
  generalize nodesB q = qn at *
  generalize rightC t q s = R at *
  have Hrt := Lib.hid hrt
  clear hrt hb
  unfold cfgV
  go_enter Try.func45, Try.ntmps45
  have ho := alloc_obj w (.cells #[.int .i64 t, .slice Aq q.length cq, .slice As s.length cs] 68)
  have hca := (Chg.refl No w).alloc (.cells #[.int .i64 t, .slice Aq q.length cq, .slice As s.length cs] 68)
  have a0 := cell_obj (i := 0) ho rfl
  have a1 := cell_obj (i := 1) ho rfl
  have a2 := cell_obj (i := 2) ho rfl
  go_wp2_with (first | (with_reducible refine stop_append ?_) | (with_reducible refine stop_copy ?_) | (with_reducible refine stop_make ?_) | (with_reducible refine stop_lookup ?_) | (with_reducible refine stop_update ?_) | (with_reducible refine stop_slice ?_) | (with_reducible refine stop_range ?_) | (with_reducible refine stop_next ?_) | (with_reducible refine stop_convert ⟨_, rfl⟩ ?_) | (with_reducible refine stop_convertB ⟨_, _, _, rfl⟩ ?_) | (with_reducible refine stop_eqSlice ⟨_, _, rfl⟩ ?_))
  clear ho
  generalize w.alloc (.cells #[.int .i64 t, .slice Aq q.length cq, .slice As s.length cs] 68) = w1 at *
  generalize w.heap.size = p at *
  refine pl_start (fun W => W.cell? ⟨p, 1, none⟩ = some (.slice Aq q.length cq) ∧ W.cell? ⟨p, 2, none⟩ = some (.slice As s.length cs) ∧ Chg No w1 W) (by kernel_rfl) (by kernel_rfl) ⟨a1, a2, (Chg.refl _ _).drew⟩ ?_
  ((refine pl_yes (i := 0) (oi := { dst := some 6, op := Go.Op.fieldAddr 68 (Go.Operand.tmp 1) 1, type := 0, pos := "term.go:39", after := #[], guard := none }) (v := ?_) rfl (by kernel_rfl) (by kernel_rfl) rfl ?_ ?_); rotate_left; focus (intro W hW; (try dsimp only at hW); go_split_ands; go_simp; (try (simp (disch := omega) only [IntWalk.i64_in]; (try go_simp))); (try (split; (next => omega); (try go_simp))); try rfl; done))
  try simp only [Act.put, List.setIfInBounds_toArray, List.set_cons_zero, List.set_cons_succ]
  ((refine pl_yes (i := 1) (oi := { dst := some 7, op := Go.Op.load 46 (Go.Operand.tmp 6), type := 46, pos := "term.go:39", after := #[{ on := 0, ground := Go.Ground.data }], guard := none }) (v := ?_) rfl (by kernel_rfl) (by kernel_rfl) rfl ?_ ?_); rotate_left; focus (intro W hW; (try dsimp only at hW); go_split_ands; go_simp; (try (simp (disch := omega) only [IntWalk.i64_in]; (try go_simp))); (try (split; (next => omega); (try go_simp))); try rfl; done))
  try simp only [Act.put, List.setIfInBounds_toArray, List.set_cons_zero, List.set_cons_succ]
  ((refine pl_yes (i := 2) (oi := { dst := some 8, op := Go.Op.call { callee := Go.Callee.builtin Go.Builtin.len, args := #[Go.Operand.tmp 7], argTypes := #[46] }, type := 3, pos := "term.go:39", after := #[{ on := 1, ground := Go.Ground.data }], guard := none }) (v := ?_) rfl (by kernel_rfl) (by kernel_rfl) rfl ?_ ?_); rotate_left; focus (intro W hW; (try dsimp only at hW); go_split_ands; go_simp; (try (simp (disch := omega) only [IntWalk.i64_in]; (try go_simp))); (try (split; (next => omega); (try go_simp))); try rfl; done))
  try simp only [Act.put, List.setIfInBounds_toArray, List.set_cons_zero, List.set_cons_succ]
  ((refine pl_yes (i := 3) (oi := { dst := some 9, op := Go.Op.fieldAddr 68 (Go.Operand.tmp 1) 2, type := 0, pos := "term.go:39", after := #[], guard := none }) (v := ?_) rfl (by kernel_rfl) (by kernel_rfl) rfl ?_ ?_); rotate_left; focus (intro W hW; (try dsimp only at hW); go_split_ands; go_simp; (try (simp (disch := omega) only [IntWalk.i64_in]; (try go_simp))); (try (split; (next => omega); (try go_simp))); try rfl; done))
  try simp only [Act.put, List.setIfInBounds_toArray, List.set_cons_zero, List.set_cons_succ]
  ((refine pl_yes (i := 4) (oi := { dst := some 10, op := Go.Op.load 61 (Go.Operand.tmp 9), type := 61, pos := "term.go:39", after := #[{ on := 3, ground := Go.Ground.data }], guard := none }) (v := ?_) rfl (by kernel_rfl) (by kernel_rfl) rfl ?_ ?_); rotate_left; focus (intro W hW; (try dsimp only at hW); go_split_ands; go_simp; (try (simp (disch := omega) only [IntWalk.i64_in]; (try go_simp))); (try (split; (next => omega); (try go_simp))); try rfl; done))
  try simp only [Act.put, List.setIfInBounds_toArray, List.set_cons_zero, List.set_cons_succ]
  ((refine pl_yes (i := 5) (oi := { dst := some 11, op := Go.Op.call { callee := Go.Callee.builtin Go.Builtin.len, args := #[Go.Operand.tmp 10], argTypes := #[61] }, type := 3, pos := "term.go:39", after := #[{ on := 4, ground := Go.Ground.data }], guard := none }) (v := ?_) rfl (by kernel_rfl) (by kernel_rfl) rfl ?_ ?_); rotate_left; focus (intro W hW; (try dsimp only at hW); go_split_ands; go_simp; (try (simp (disch := omega) only [IntWalk.i64_in]; (try go_simp))); (try (split; (next => omega); (try go_simp))); try rfl; done))
  try simp only [Act.put, List.setIfInBounds_toArray, List.set_cons_zero, List.set_cons_succ]
  ((refine pl_yes (i := 6) (oi := { dst := some 3, op := Go.Op.assign (Go.Operand.tmp 8), type := 3, pos := "term.go:39", after := #[{ on := 2, ground := Go.Ground.data }, { on := 0, ground := Go.Ground.phase }, { on := 1, ground := Go.Ground.phase }, { on := 2, ground := Go.Ground.phase }, { on := 3, ground := Go.Ground.textOnly Go.Departure.lateStores }, { on := 4, ground := Go.Ground.textOnly Go.Departure.lateStores }, { on := 5, ground := Go.Ground.textOnly Go.Departure.lateStoresUnsure }], guard := none }) (v := ?_) rfl (by kernel_rfl) (by kernel_rfl) rfl ?_ ?_); rotate_left; focus (intro W hW; (try dsimp only at hW); go_split_ands; go_simp; (try (simp (disch := omega) only [IntWalk.i64_in]; (try go_simp))); (try (split; (next => omega); (try go_simp))); try rfl; done))
  try simp only [Act.put, List.setIfInBounds_toArray, List.set_cons_zero, List.set_cons_succ]
  ((refine pl_yes (i := 7) (oi := { dst := some 4, op := Go.Op.assign (Go.Operand.tmp 11), type := 3, pos := "term.go:39", after := #[{ on := 5, ground := Go.Ground.data }, { on := 6, ground := Go.Ground.chain }, { on := 0, ground := Go.Ground.phase }, { on := 1, ground := Go.Ground.phase }, { on := 2, ground := Go.Ground.phase }, { on := 3, ground := Go.Ground.phase }, { on := 4, ground := Go.Ground.phase }, { on := 5, ground := Go.Ground.phase }, { on := 6, ground := Go.Ground.phase }], guard := none }) (v := ?_) rfl (by kernel_rfl) (by kernel_rfl) rfl ?_ ?_); rotate_left; focus (intro W hW; (try dsimp only at hW); go_split_ands; go_simp; (try (simp (disch := omega) only [IntWalk.i64_in]; (try go_simp))); (try (split; (next => omega); (try go_simp))); try rfl; done))
  try simp only [Act.put, List.setIfInBounds_toArray, List.set_cons_zero, List.set_cons_succ]
  -- ready: []
  refine pl_done (by kernel_rfl)  ?_
  rintro w2 ⟨_, _, hc2⟩
  replace a0 := hc2.cell a0 (not_no _)
  replace a1 := hc2.cell a1 (not_no _)
  replace a2 := hc2.cell a2 (not_no _)
  replace hca := hca.trans hc2
  clear hc2
  have hcase : (t < 1 ∧ R = false) ∨ (¬ t < 1 ∧ 64 < t ∧ R = false) ∨ (¬ t < 1 ∧ ¬ 64 < t ∧ q.length % 2 = 0 ∧ R = false) ∨
      (¬ t < 1 ∧ ¬ 64 < t ∧ q.length % 2 = 1 ∧ 7 < q.length ∧ R = false) ∨
      (¬ t < 1 ∧ ¬ 64 < t ∧ q.length % 2 = 1 ∧ ¬ 7 < q.length ∧ s.length = 0 ∧ R = false) ∨
      (¬ t < 1 ∧ ¬ 64 < t ∧ q.length % 2 = 1 ∧ ¬ 7 < q.length ∧ ¬ s.length = 0 ∧ 8 < s.length ∧ R = false) ∨
      (¬ t < 1 ∧ ¬ 64 < t ∧ q.length % 2 = 1 ∧ ¬ 7 < q.length ∧ ¬ s.length = 0 ∧ ¬ 8 < s.length ∧ R = (qn && !sa)) := by
    rw [Hrt.out]
    by_cases h1 : t < 1
    · exact .inl ⟨h1, by simp [show ¬ 1 ≤ t by omega]⟩
    by_cases h2 : 64 < t
    · exact .inr (.inl ⟨h1, h2, by simp [show ¬ t ≤ 64 by omega]⟩)
    by_cases h3 : q.length % 2 = 0
    · exact .inr (.inr (.inl ⟨h1, h2, h3, by simp [h3]⟩))
    have h3 : q.length % 2 = 1 := by omega
    by_cases h4 : 7 < q.length
    · exact .inr (.inr (.inr (.inl ⟨h1, h2, h3, h4, by simp [show ¬ q.length ≤ 7 by omega]⟩)))
    by_cases h5 : s.length = 0
    · exact .inr (.inr (.inr (.inr (.inl ⟨h1, h2, h3, h4, h5, by simp [h5]⟩))))
    by_cases h6 : 8 < s.length
    · exact .inr (.inr (.inr (.inr (.inr (.inl ⟨h1, h2, h3, h4, h5, h6, by simp [show ¬ s.length ≤ 8 by omega]⟩)))))
    · exact .inr (.inr (.inr (.inr (.inr (.inr ⟨h1, h2, h3, h4, h5, h6, by simp [h3, show 1 ≤ t by omega, show t ≤ 64 by omega, show q.length ≤ 7 by omega, show s.length ≤ 8 by omega, show 1 ≤ s.length by omega]⟩)))))
  clear Hrt
  rcases hcase with ⟨h1, hr⟩ | ⟨h1, h2, hr⟩ | ⟨h1, h2, h3, hr⟩ | ⟨h1, h2, h3, h4, hr⟩ | ⟨h1, h2, h3, h4, h5, hr⟩ | ⟨h1, h2, h3, h4, h5, h6, hr⟩ | ⟨h1, h2, h3, h4, h5, h6, hr⟩
  · have Hr := Lib.hid hr
    clear hr
    go_wp2_with (first | (with_reducible refine stop_append ?_) | (with_reducible refine stop_copy ?_) | (with_reducible refine stop_make ?_) | (with_reducible refine stop_lookup ?_) | (with_reducible refine stop_update ?_) | (with_reducible refine stop_slice ?_) | (with_reducible refine stop_range ?_) | (with_reducible refine stop_next ?_) | (with_reducible refine stop_convert ⟨_, rfl⟩ ?_) | (with_reducible refine stop_convertB ⟨_, _, _, rfl⟩ ?_) | (with_reducible refine stop_eqSlice ⟨_, _, rfl⟩ ?_))
    go_ret
    exact ⟨by rw [Hr.out]; rfl, hca⟩
  · have Hr := Lib.hid hr
    clear hr
    go_wp2_with (first | (with_reducible refine stop_append ?_) | (with_reducible refine stop_copy ?_) | (with_reducible refine stop_make ?_) | (with_reducible refine stop_lookup ?_) | (with_reducible refine stop_update ?_) | (with_reducible refine stop_slice ?_) | (with_reducible refine stop_range ?_) | (with_reducible refine stop_next ?_) | (with_reducible refine stop_convert ⟨_, rfl⟩ ?_) | (with_reducible refine stop_convertB ⟨_, _, _, rfl⟩ ?_) | (with_reducible refine stop_eqSlice ⟨_, _, rfl⟩ ?_))
    go_ret
    exact ⟨by rw [Hr.out]; rfl, hca⟩
  · have Hr := Lib.hid hr
    clear hr
    go_wp2_with (first | (with_reducible refine stop_append ?_) | (with_reducible refine stop_copy ?_) | (with_reducible refine stop_make ?_) | (with_reducible refine stop_lookup ?_) | (with_reducible refine stop_update ?_) | (with_reducible refine stop_slice ?_) | (with_reducible refine stop_range ?_) | (with_reducible refine stop_next ?_) | (with_reducible refine stop_convert ⟨_, rfl⟩ ?_) | (with_reducible refine stop_convertB ⟨_, _, _, rfl⟩ ?_) | (with_reducible refine stop_eqSlice ⟨_, _, rfl⟩ ?_))
    go_ret
    exact ⟨by rw [Hr.out]; rfl, hca⟩
  · have Hr := Lib.hid hr
    clear hr
    go_wp2_with (first | (with_reducible refine stop_append ?_) | (with_reducible refine stop_copy ?_) | (with_reducible refine stop_make ?_) | (with_reducible refine stop_lookup ?_) | (with_reducible refine stop_update ?_) | (with_reducible refine stop_slice ?_) | (with_reducible refine stop_range ?_) | (with_reducible refine stop_next ?_) | (with_reducible refine stop_convert ⟨_, rfl⟩ ?_) | (with_reducible refine stop_convertB ⟨_, _, _, rfl⟩ ?_) | (with_reducible refine stop_eqSlice ⟨_, _, rfl⟩ ?_))
    go_ret
    exact ⟨by rw [Hr.out]; rfl, hca⟩
  · have Hr := Lib.hid hr
    clear hr
    go_wp2_with (first | (with_reducible refine stop_append ?_) | (with_reducible refine stop_copy ?_) | (with_reducible refine stop_make ?_) | (with_reducible refine stop_lookup ?_) | (with_reducible refine stop_update ?_) | (with_reducible refine stop_slice ?_) | (with_reducible refine stop_range ?_) | (with_reducible refine stop_next ?_) | (with_reducible refine stop_convert ⟨_, rfl⟩ ?_) | (with_reducible refine stop_convertB ⟨_, _, _, rfl⟩ ?_) | (with_reducible refine stop_eqSlice ⟨_, _, rfl⟩ ?_))
    go_ret
    exact ⟨by rw [Hr.out]; rfl, hca⟩
  · have Hr := Lib.hid hr
    clear hr
    go_wp2_with (first | (with_reducible refine stop_append ?_) | (with_reducible refine stop_copy ?_) | (with_reducible refine stop_make ?_) | (with_reducible refine stop_lookup ?_) | (with_reducible refine stop_update ?_) | (with_reducible refine stop_slice ?_) | (with_reducible refine stop_range ?_) | (with_reducible refine stop_next ?_) | (with_reducible refine stop_convert ⟨_, rfl⟩ ?_) | (with_reducible refine stop_convertB ⟨_, _, _, rfl⟩ ?_) | (with_reducible refine stop_eqSlice ⟨_, _, rfl⟩ ?_))
    go_ret
    exact ⟨by rw [Hr.out]; rfl, hca⟩
  · have Hr := Lib.hid hr
    clear hr
    have k1 : ((q.length : Int) % 2 == 0) = false := by simp; omega
    have k2 : ¬ (7 < (q.length : Int)) := by omega
    have k3 : ¬ ((s.length : Int) < 1) := by omega
    have k4 : ¬ (8 < (s.length : Int)) := by omega
    clear h3 h4 h5 h6
    go_wp2_with (first | (with_reducible refine stop_append ?_) | (with_reducible refine stop_copy ?_) | (with_reducible refine stop_make ?_) | (with_reducible refine stop_lookup ?_) | (with_reducible refine stop_update ?_) | (with_reducible refine stop_slice ?_) | (with_reducible refine stop_range ?_) | (with_reducible refine stop_next ?_) | (with_reducible refine stop_convert ⟨_, rfl⟩ ?_) | (with_reducible refine stop_convertB ⟨_, _, _, rfl⟩ ?_) | (with_reducible refine stop_eqSlice ⟨_, _, rfl⟩ ?_))
    refine (Hq.out _ hca).mono ?_
    rintro e w3 ⟨rfl, hc3⟩
    replace a2 := hc3.cell a2 (not_no _)
    have hca3 := hca.trans hc3
    cases qn
    · go_wp2_with (first | (with_reducible refine stop_append ?_) | (with_reducible refine stop_copy ?_) | (with_reducible refine stop_make ?_) | (with_reducible refine stop_lookup ?_) | (with_reducible refine stop_update ?_) | (with_reducible refine stop_slice ?_) | (with_reducible refine stop_range ?_) | (with_reducible refine stop_next ?_) | (with_reducible refine stop_convert ⟨_, rfl⟩ ?_) | (with_reducible refine stop_convertB ⟨_, _, _, rfl⟩ ?_) | (with_reducible refine stop_eqSlice ⟨_, _, rfl⟩ ?_))
      go_ret
      exact ⟨by rw [Hr.out]; rfl, hca3⟩
    · go_wp2_with (first | (with_reducible refine stop_append ?_) | (with_reducible refine stop_copy ?_) | (with_reducible refine stop_make ?_) | (with_reducible refine stop_lookup ?_) | (with_reducible refine stop_update ?_) | (with_reducible refine stop_slice ?_) | (with_reducible refine stop_range ?_) | (with_reducible refine stop_next ?_) | (with_reducible refine stop_convert ⟨_, rfl⟩ ?_) | (with_reducible refine stop_convertB ⟨_, _, _, rfl⟩ ?_) | (with_reducible refine stop_eqSlice ⟨_, _, rfl⟩ ?_))
      refine (Hc.out _ hca3).mono ?_
      rintro e w4 ⟨rfl, hc4⟩
      go_wp2_with (first | (with_reducible refine stop_append ?_) | (with_reducible refine stop_copy ?_) | (with_reducible refine stop_make ?_) | (with_reducible refine stop_lookup ?_) | (with_reducible refine stop_update ?_) | (with_reducible refine stop_slice ?_) | (with_reducible refine stop_range ?_) | (with_reducible refine stop_next ?_) | (with_reducible refine stop_convert ⟨_, rfl⟩ ?_) | (with_reducible refine stop_convertB ⟨_, _, _, rfl⟩ ?_) | (with_reducible refine stop_eqSlice ⟨_, _, rfl⟩ ?_))
      go_ret
      exact ⟨by rw [Hr.out]; rfl, hca3.trans hc4⟩
end Go.Proofs.Ytbjpoamnglfjeaa
