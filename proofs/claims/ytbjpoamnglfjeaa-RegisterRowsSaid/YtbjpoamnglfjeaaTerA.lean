/- Walks of package term: which nodes are unlike, which configurations may be. -/
import Derived.Test.YtbjpoamnglfjeaaVecA
import Derived.Test.YtbjpoamnglfjeaaMap
set_option linter.unusedVariables false
set_option linter.unusedSimpArgs false
namespace Go.Proofs.Ytbjpoamnglfjeaa
open Go.RowKit Cb

def NodesP (xs : List Int) : Prop := (∀ x ∈ xs, 0 ≤ x ∧ x < 16) ∧ xs.Nodup
instance (xs : List Int) : Decidable (NodesP xs) := by unfold NodesP; exact inferInstance
def nodesB (xs : List Int) : Bool := decide (NodesP xs)
theorem nodes_nil : nodesB [] = true := by simp [nodesB, NodesP]
theorem nodes_out {xs : List Int} {x : Int} (h : x ∈ xs) (hx : ¬ (0 ≤ x ∧ x < 16)) : nodesB xs = false := decide_eq_false (fun hp => hx (hp.1 x h))
theorem nodes_dup {xs : List Int} {k : Nat} (hk : k < xs.length) (h : xs[k] ∈ xs.take k) : nodesB xs = false := decide_eq_false (fun hp => by
  obtain ⟨i, hi, e⟩ := List.mem_iff_getElem.1 h
  rw [List.length_take] at hi
  rw [List.getElem_take] at e
  exact (List.pairwise_iff_getElem.1 (List.nodup_iff_pairwise_ne.1 hp.2)) i k (by omega) hk (by omega) e)
theorem nodes_step {xs : List Int} {k : Nat} (hk : k < xs.length) (h : nodesB (xs.take k) = true) (hx : 0 ≤ xs[k] ∧ xs[k] < 16) (hn : xs[k] ∉ xs.take k) : nodesB (xs.take (k + 1)) = true := by
  obtain ⟨h1, h2⟩ := of_decide_eq_true h
  refine decide_eq_true ⟨?_, ?_⟩
  · rw [List.take_succ_eq_append_getElem hk]
    intro x hx'
    rcases List.mem_append.1 hx' with h' | h'
    · exact h1 x h'
    · rw [List.mem_singleton.1 h']; exact hx
  · rw [List.take_succ_eq_append_getElem hk, List.nodup_append]
    refine ⟨h2, by simp, ?_⟩
    intro a ha b hb
    rw [List.mem_singleton.1 hb]
    intro e
    rw [e] at ha
    exact hn ha
theorem nodes_len {xs : List Int} (h : nodesB xs = true) : xs.length ≤ 16 := by
  obtain ⟨h1, h2⟩ := of_decide_eq_true h
  have := (List.nodup_iff_pairwise_ne.1 h2)
  have hn : (xs.map Int.toNat).Nodup := by
    rw [List.nodup_iff_pairwise_ne, List.pairwise_map]
    refine (List.nodup_iff_pairwise_ne.1 h2).imp_of_mem ?_
    intro a b ha hb hab e
    have := h1 a ha; have := h1 b hb
    omega
  have := List.Nodup.length_le_of_subset (l₂ := List.range 16) hn (fun y hy => by
    obtain ⟨x, hx, rfl⟩ := List.mem_map.1 hy
    have := h1 x hx
    simp; omega)
  simpa using this
theorem intT_get {F : Nat → Prop} {w : World} {A : Option Addr} {n c : Nat} {l : List Int} (h : Sl F w (.slice A n c) l) (k : Nat) (hk : k < l.length) :
    ∃ b o, A = some ⟨b, o, none⟩ ∧ ¬ F b ∧ b < w.heap.size ∧ w.cell? ⟨b, o + k, none⟩ = some (.int .i64 l[k]) := by
  obtain ⟨b, o, d, rfl, hF, hb, rfl, ha⟩ := h.get k hk
  refine ⟨b, o, rfl, hF, hb, ?_⟩
  have := ha 0 _ rfl
  simpa [show Rep.n Int = 1 from rfl] using this
theorem rowT_get {F : Nat → Prop} {w : World} {A : Option Addr} {n c : Nat} {l : List (List Int)} (h : Sl F w (.slice A n c) l) (k : Nat) (hk : k < l.length) :
    ∃ b o v, A = some ⟨b, o, none⟩ ∧ ¬ F b ∧ b < w.heap.size ∧ w.cell? ⟨b, o + k, none⟩ = some v ∧ Sl F w v l[k] := by
  obtain ⟨b, o, d, rfl, hF, hb, ⟨v, rfl, hv⟩, ha⟩ := h.get k hk
  refine ⟨b, o, v, rfl, hF, hb, ?_, hv⟩
  have := ha 0 _ rfl
  simpa [show Rep.n (List Int) = 1 from rfl] using this
theorem klN : KeyLaw Try.prog 3 (Value.int .i64) := keyLaw_int Try.underlying3
theorem zBoolN : (Try.prog.info? 4).bind (·.zero) = some (.bool false) := by kernel_rfl
def MetP (m : List (Int × Bool)) (xs : List Int) : Prop := ∀ x, (mget m x).getD false = decide (x ∈ xs)
theorem met_nil : MetP [] [] := fun x => by simp [mget]
theorem met_set {m : List (Int × Bool)} {xs : List Int} (h : MetP m xs) (y : Int) : MetP (mset m y true) (xs ++ [y]) := fun x => by
  rw [mget_mset]
  split
  · rename_i e; subst e; simp
  · rename_i e; rw [h x]; simp [e]
theorem run_met {w : World} {r : Nat} {m : List (Int × Bool)} {xs : List Int} (h : MapAt w r (.int .i64) .bool m) (hm : MetP m xs) (x : Int) :
    (Instr.lookup 173 (.map (some r)) (.int .i64 x) false).run Try.prog w = .ok (.bool (decide (x ∈ xs))) w := by
  have := run_lookup klN Try.underlying173 zBoolN h x false
  rw [this, ← hm x]
  cases mget m x <;> rfl
set_option maxRecDepth 100000 in
set_option maxHeartbeats 1000000 in
theorem tunlike_any (F : Nat → Prop) (v : Value) (xs : List Int) (w : World) (hs : Sl F w v xs) (hl : xs.length * 8 ≤ 140737488355328) :
    Calls Try.prog 84 #[v] w fun e w' => e = .returned (.bool (nodesB xs)) ∧ Chg No w w' := by
  have Hs := Lib.hid (fun W (hW : Chg No w W) => hs.keepNo hW)
  obtain ⟨A, c, rfl⟩ := hs.slice
  clear hs
  have hmm := @run_makeMap Try.prog
  go_enter Try.func84, Try.ntmps84
  go_wp2_with (first | (with_reducible refine stop_append ?_) | (with_reducible refine stop_copy ?_) | (with_reducible refine stop_make ?_) | (with_reducible refine stop_lookup ?_) | (with_reducible refine stop_update ?_) | (with_reducible refine stop_slice ?_) | (with_reducible refine stop_range ?_) | (with_reducible refine stop_next ?_) | (with_reducible refine stop_convert ⟨_, rfl⟩ ?_) | (with_reducible refine stop_convertB ⟨_, _, _, rfl⟩ ?_) | (with_reducible refine stop_eqSlice ⟨_, _, rfl⟩ ?_))
  have hm0 := MapAt.made w (.int .i64) Value.bool (κ := Int) (β := Bool)
  have hc0 := (Chg.refl No w).alloc (.map #[] 0)
  generalize w.alloc (.map #[] 0) = w0 at *
  obtain ⟨r, hr⟩ : ∃ r, r = w.heap.size := ⟨_, rfl⟩
  rw [← hr] at hm0 ⊢
  have Hr := Lib.hid hr
  clear hr hmm
  go_loopw [9] (fun v9 wr => ∃ (k : Nat) (m : List (Int × Bool)), k ≤ xs.length ∧ v9 = .int .i64 k ∧ Chg No w wr ∧ MapAt wr r (.int .i64) .bool m ∧ MetP m (xs.take k) ∧ nodesB (xs.take k) = true) (fun v9 _ => xs.length - (intOf v9).toNat)
  case atStart => exact ⟨0, [], by omega, rfl, hc0, hm0, by simpa using met_nil, by simpa using nodes_nil⟩
  case round =>
    obtain ⟨k, m, hk, rfl, hc, hmap, hmet, hnod⟩ := hrel
    have Hnod := Lib.hid hnod
    clear hnod hm0
    by_cases hlt : k < xs.length
    · obtain ⟨b, o, rfl, _, hbl, hx0⟩ := intT_get (Hs.out wr hc) k hlt
      have hlook := run_met hmap hmet xs[k]
      have Hmap := Lib.hid hmap
      have Hmet := Lib.hid (met_set hmet xs[k])
      rw [← List.take_succ_eq_append_getElem hlt] at Hmet
      have Hbad := Lib.hid (fun h => nodes_out (List.getElem_mem hlt) h)
      have Hdup := Lib.hid (nodes_dup hlt)
      have Hgo := Lib.hid (nodes_step hlt Hnod.out)
      clear hmap hmet
      by_cases hin : xs[k] ∈ xs.take k
      · rw [decide_eq_true hin] at hlook
        have hd := Hdup.out hin
        clear Hbad Hdup Hgo Hnod
        generalize xs[k] = x at *
        have Hd := Lib.hid hd
        clear hd hin
        rcases (show x < 0 ∨ (¬ x < 0 ∧ 16 ≤ x) ∨ (¬ x < 0 ∧ ¬ 16 ≤ x) by omega) with h | ⟨h, h2⟩ | ⟨h, h2⟩
        · go_wp2_with (first | (with_reducible refine stop_append ?_) | (with_reducible refine stop_copy ?_) | (with_reducible refine stop_make ?_) | (with_reducible refine stop_update ?_) | (with_reducible refine stop_slice ?_) | (with_reducible refine stop_range ?_) | (with_reducible refine stop_next ?_) | (with_reducible refine stop_convert ⟨_, rfl⟩ ?_) | (with_reducible refine stop_convertB ⟨_, _, _, rfl⟩ ?_) | (with_reducible refine stop_eqSlice ⟨_, _, rfl⟩ ?_))
          go_ret
          exact ⟨by rw [Hd.out]; rfl, hc⟩
        · go_wp2_with (first | (with_reducible refine stop_append ?_) | (with_reducible refine stop_copy ?_) | (with_reducible refine stop_make ?_) | (with_reducible refine stop_update ?_) | (with_reducible refine stop_slice ?_) | (with_reducible refine stop_range ?_) | (with_reducible refine stop_next ?_) | (with_reducible refine stop_convert ⟨_, rfl⟩ ?_) | (with_reducible refine stop_convertB ⟨_, _, _, rfl⟩ ?_) | (with_reducible refine stop_eqSlice ⟨_, _, rfl⟩ ?_))
          go_ret
          exact ⟨by rw [Hd.out]; rfl, hc⟩
        · go_wp2_with (first | (with_reducible refine stop_append ?_) | (with_reducible refine stop_copy ?_) | (with_reducible refine stop_make ?_) | (with_reducible refine stop_update ?_) | (with_reducible refine stop_slice ?_) | (with_reducible refine stop_range ?_) | (with_reducible refine stop_next ?_) | (with_reducible refine stop_convert ⟨_, rfl⟩ ?_) | (with_reducible refine stop_convertB ⟨_, _, _, rfl⟩ ?_) | (with_reducible refine stop_eqSlice ⟨_, _, rfl⟩ ?_))
          go_ret
          exact ⟨by rw [Hd.out]; rfl, hc⟩
      · rw [decide_eq_false hin] at hlook
        have hgo := fun h => Hgo.out h hin
        have hbad := Hbad.out
        clear Hbad Hdup Hgo Hnod hin
        generalize xs[k] = x at *
        have Hgo := Lib.hid hgo
        have Hbad := Lib.hid hbad
        clear hgo hbad
        rcases (show x < 0 ∨ (¬ x < 0 ∧ 16 ≤ x) ∨ (¬ x < 0 ∧ ¬ 16 ≤ x) by omega) with h | ⟨h, h2⟩ | ⟨h, h2⟩
        · go_wp2_with (first | (with_reducible refine stop_append ?_) | (with_reducible refine stop_copy ?_) | (with_reducible refine stop_make ?_) | (with_reducible refine stop_update ?_) | (with_reducible refine stop_slice ?_) | (with_reducible refine stop_range ?_) | (with_reducible refine stop_next ?_) | (with_reducible refine stop_convert ⟨_, rfl⟩ ?_) | (with_reducible refine stop_convertB ⟨_, _, _, rfl⟩ ?_) | (with_reducible refine stop_eqSlice ⟨_, _, rfl⟩ ?_))
          go_ret
          exact ⟨by rw [Hbad.out (by omega)]; rfl, hc⟩
        · go_wp2_with (first | (with_reducible refine stop_append ?_) | (with_reducible refine stop_copy ?_) | (with_reducible refine stop_make ?_) | (with_reducible refine stop_update ?_) | (with_reducible refine stop_slice ?_) | (with_reducible refine stop_range ?_) | (with_reducible refine stop_next ?_) | (with_reducible refine stop_convert ⟨_, rfl⟩ ?_) | (with_reducible refine stop_convertB ⟨_, _, _, rfl⟩ ?_) | (with_reducible refine stop_eqSlice ⟨_, _, rfl⟩ ?_))
          go_ret
          exact ⟨by rw [Hbad.out (by omega)]; rfl, hc⟩
        · have Hg := Lib.hid (Hgo.out (by omega))
          go_wp2_with (first | (with_reducible refine stop_append ?_) | (with_reducible refine stop_copy ?_) | (with_reducible refine stop_make ?_) | (with_reducible refine stop_update ?_) | (with_reducible refine stop_slice ?_) | (with_reducible refine stop_range ?_) | (with_reducible refine stop_next ?_) | (with_reducible refine stop_convert ⟨_, rfl⟩ ?_) | (with_reducible refine stop_convertB ⟨_, _, _, rfl⟩ ?_) | (with_reducible refine stop_eqSlice ⟨_, _, rfl⟩ ?_))
          refine step_update klN Try.underlying173 Hmap.out x true rfl rfl rfl ?_
          intro w6 hm6 hc6
          have Hm6 := Lib.hid hm6
          have hcw6 : Chg No w w6 := hc.old hc6 (fun i h => by have := Hr.out; simp only [At] at h; omega)
          clear hm6 hlook
          go_wp2_with (first | (with_reducible refine stop_append ?_) | (with_reducible refine stop_copy ?_) | (with_reducible refine stop_make ?_) | (with_reducible refine stop_lookup ?_) | (with_reducible refine stop_update ?_) | (with_reducible refine stop_slice ?_) | (with_reducible refine stop_range ?_) | (with_reducible refine stop_next ?_) | (with_reducible refine stop_convert ⟨_, rfl⟩ ?_) | (with_reducible refine stop_convertB ⟨_, _, _, rfl⟩ ?_) | (with_reducible refine stop_eqSlice ⟨_, _, rfl⟩ ?_))
          go_roundw
          case rel => exact ⟨k + 1, _, by omega, by go_num, hcw6, Hm6.out, Hmet.out, Hg.out⟩
          case measure => simp [intOf]; omega
    · obtain rfl : k = xs.length := by omega
      rw [List.take_length] at Hnod
      go_wp2_with (first | (with_reducible refine stop_append ?_) | (with_reducible refine stop_copy ?_) | (with_reducible refine stop_make ?_) | (with_reducible refine stop_lookup ?_) | (with_reducible refine stop_update ?_) | (with_reducible refine stop_slice ?_) | (with_reducible refine stop_range ?_) | (with_reducible refine stop_next ?_) | (with_reducible refine stop_convert ⟨_, rfl⟩ ?_) | (with_reducible refine stop_convertB ⟨_, _, _, rfl⟩ ?_) | (with_reducible refine stop_eqSlice ⟨_, _, rfl⟩ ?_))
      go_ret
      exact ⟨by rw [Hnod.out]; rfl, hc⟩
end Go.Proofs.Ytbjpoamnglfjeaa
