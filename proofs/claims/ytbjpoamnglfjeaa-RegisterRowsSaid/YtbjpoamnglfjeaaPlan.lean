/- A region whose order is open, of which each operation leaves one value whatever came before it: it is walked in one order, and the world is known by S alone. They speak of no program. -/
import Derived.Test.YtbjpoamnglfjeaaRegT
set_option linter.unusedVariables false
namespace Cb
open Go
section
variable {P : Program} {ops : Array Oper} {Q : Exit → Act → World → Prop} {S S' : World → Prop} {fuel : Nat} {listed : Array Bool} {a : Act} {w : World}

def NextTo (P : Program) (S : World → Prop) (v : Value) : Result Next → Prop
  | .ok (.value u) w' => u = v ∧ S w'
  | .ok .skip w' => v = undef ∧ S w'
  | .ok (.enter f args) w' => Calls P f args w' fun e w'' => e = .returned v ∧ S w''
  | _ => False
/-- In every world that meets S the operation leaves v, and a world that meets S. -/
def Fix (P : Program) (ops : Array Oper) (S : World → Prop) (o : Oper) (v : Value) (a : Act) : Prop :=
  (Region.wanted o (yielded ops a.tmps) = true ∧ ∀ w, S w → NextTo P S v ((execOp a.eval o).run P w)) ∨
  (Region.wanted o (yielded ops a.tmps) = false ∧ v = undef)
theorem Fix.wpOp {i : Nat} {o : Oper} {v : Value} {a : Act} (hi : ops[i]? = some o) (hy : Fix P ops S o v a)
    {K : Act → World → Prop} {w : World} (hS : S w) (h : ∀ w', S w' → K (a.put o.dst v) w') : wpOp P ops Q i K a w := by
  unfold Go.wpOp
  simp only [hi]
  rcases hy with ⟨hw, hv⟩ | ⟨hw, rfl⟩
  · simp only [hw, if_true]
    have := hv w hS
    refine .inl ?_
    unfold Oper.wp
    generalize (execOp a.eval o).run P w = r at this ⊢
    cases r with
    | halt x w' => exact this.elim
    | ok n w' =>
      cases n <;> simp only [NextTo] at this
      case value u => obtain ⟨rfl, hs⟩ := this; exact h _ hs
      case skip => obtain ⟨rfl, hs⟩ := this; exact h _ hs
      case enter f args =>
        refine Calls.mono this fun e w'' he => ?_
        obtain ⟨rfl, hs⟩ := he
        exact h _ hs
  · simp only [hw, Bool.false_eq_true, if_false]; exact h _ hS
theorem Fix.of_same {o : Oper} {v : Value} {a a' : Act} (hy : Fix P ops S o v a) (he : execOp a'.eval o = execOp a.eval o)
    (hw : Region.wanted o (yielded ops a'.tmps) = Region.wanted o (yielded ops a.tmps)) : Fix P ops S o v a' := by
  unfold Fix at *
  rw [he, hw]
  exact hy
def FreeOf (ops : Array Oper) (listed : Array Bool) (i : Nat) (oi : Oper) : Prop :=
  ∀ j oj, ops[j]? = some oj → j ≠ i → listed.getD j true = false → (∀ e ∈ oj.after, Region.binds .any e = true → e.on ≠ i) → oi.apart ops oj = true
inductive Plan (P : Program) (ops : Array Oper) (Q : Exit → Act → World → Prop) (S : World → Prop) : Nat → Array Bool → Act → Prop
  | done {n : Nat} {listed : Array Bool} {a : Act} : Region.ready .any ops listed = [] → (∀ w, S w → Q .normal a w) → Plan P ops Q S n listed a
  | step {n : Nat} {listed : Array Bool} {a : Act} (i : Nat) (oi : Oper) (v : Value) : ops[i]? = some oi → FreeOf ops listed i oi → i ∈ Region.ready .any ops listed → Fix P ops S oi v a →
      Plan P ops Q S n (listed.setIfInBounds i true) (a.put oi.dst v) → Plan P ops Q S (n + 1) listed a
theorem Plan.pull (hsel : ∀ (j : Nat) (o : Oper) cs b, ops[j]? = some o → o.op ≠ .select cs b) {n : Nat} {listed : Array Bool} {a : Act} (h : Plan P ops Q S n listed a) :
    ∀ j, j ∈ Region.ready .any ops listed → ∃ m oj v, n = m + 1 ∧ ops[j]? = some oj ∧ Fix P ops S oj v a ∧ Plan P ops Q S m (listed.setIfInBounds j true) (a.put oj.dst v) := by
  induction h with
  | done hr _ => intro j hj; rw [hr] at hj; cases hj
  | step i oi v hi hfree hr hfix hrest ih =>
    rename_i n listed a
    intro j hj
    by_cases hji : j = i
    · subst hji; exact ⟨n, oi, v, rfl, hi, hfix, hrest⟩
    · obtain ⟨m, oj, u, rfl, hoj, hf, hp⟩ := ih j (ready_mono hj hji)
      obtain ⟨hjun, oj', hoj', hall⟩ := mem_ready.1 hj
      rw [hoj] at hoj'; cases hoj'
      have hnot : ∀ e ∈ oj.after, Region.binds .any e = true → e.on ≠ i := fun e he hb heq => by
        have h1 := hall e he hb
        have h0 := (mem_ready.1 hr).1
        rw [heq] at h1
        rcases Nat.lt_or_ge i listed.size with h' | h'
        · simp [h'] at h0 h1; rw [h0] at h1; cases h1
        · simp [Array.getElem?_eq_none h'] at h1
      obtain ⟨h1, h2, h3⟩ := Oper.apart_spec (hfree j oj hoj hji hjun hnot)
      have hsi : ∀ cs b, oi.op ≠ .select cs b := fun cs b => hsel i oi cs b hi
      have hsj : ∀ cs b, oj.op ≠ .select cs b := fun cs b => hsel j oj cs b hoj
      refine ⟨m + 1, oj, u, rfl, hoj, hf.of_same (execOp_put oj hsj a oi.dst v h1).symm (wanted_put oj a oi.dst v h1).symm, ?_⟩
      refine .step i oi v hi ?_ (ready_mono hr (Ne.symm hji)) (hfix.of_same (execOp_put oi hsi a oj.dst u h3) (wanted_put oi a oj.dst u h3)) ?_
      · intro k ok hk hki hun hno
        refine hfree k ok hk hki ?_ hno
        by_cases hjk : j = k
        · subst hjk; exact hjun
        · rw [getD_set_ne true hjk] at hun; exact hun
      · rw [← Act.put_comm a v u h2, Array.setIfInBounds_comm _ _ hji]
        exact hp
theorem Plan.any (hsel : ∀ (j : Nat) (o : Oper) cs b, ops[j]? = some o → o.op ≠ .select cs b) : ∀ (n : Nat) (listed : Array Bool) (a : Act), Plan P ops Q S n listed a → ∀ w, S w → wpAnyT P ops Q S n listed a w := by
  intro n
  induction n with
  | zero =>
    intro listed a h w hS
    cases h with
    | done hr hq => exact ⟨hr, hq w hS⟩
  | succ n ih =>
    intro listed a h w hS
    refine ⟨fun hr => ?_, fun j hj => ?_⟩
    · cases h with
      | done _ hq => exact hq w hS
      | step i oi v _ _ hi _ _ => rw [hr] at hi; cases hi
    · obtain ⟨m, oj, v, e, hoj, hf, hp⟩ := h.pull hsel j hj
      obtain rfl : n = m := by omega
      exact hf.wpOp hoj hS fun w' hS' => ⟨fun _ => hS', ih _ _ hp w' hS'⟩
theorem rt_plan (hs : Region.noSelect ops = true) (hS : S w) (h : Plan P ops Q S fuel listed a) : RT P ops Q S fuel listed a w :=
  ⟨fun _ => hS, Plan.any (Region.noSelect_spec hs) _ _ _ h w hS⟩
theorem pl_start (S : World → Prop) {id : Nat} {l : List Oper} (hm : P.follows .mixedOrders = true) (hs : Region.noSelect l.toArray = true) (hS : S w.drew) (h : Plan P l.toArray Q S l.length (Array.replicate l.length false) a) :
    (Code.region id l.toArray true).wp P Q a w := rt_start S hm (rt_plan hs hS h)
theorem pl_yes {i : Nat} {oi : Oper} {v : Value} (hi : ops[i]? = some oi)
    (hf : Region.free .any ops listed i = true) (hr : (Region.ready .any ops listed).contains i = true) (hw : Region.wanted oi (yielded ops a.tmps) = true) (hy : ∀ w, S w → (execOp a.eval oi).run P w = .ok (.value v) w)
    (h : Plan P ops Q S fuel (listed.setIfInBounds i true) (a.put oi.dst v)) : Plan P ops Q S (fuel + 1) listed a :=
  .step i oi v hi (Region.free_spec hi hf) (by simpa using hr) (.inl ⟨hw, fun w hS => by rw [hy w hS]; exact ⟨rfl, hS⟩⟩) h
theorem pl_no {i : Nat} {oi : Oper} (hi : ops[i]? = some oi)
    (hf : Region.free .any ops listed i = true) (hr : (Region.ready .any ops listed).contains i = true) (hw : Region.wanted oi (yielded ops a.tmps) = false)
    (h : Plan P ops Q S fuel (listed.setIfInBounds i true) (a.put oi.dst undef)) : Plan P ops Q S (fuel + 1) listed a :=
  .step i oi undef hi (Region.free_spec hi hf) (by simpa using hr) (.inr ⟨hw, rfl⟩) h
theorem pl_call {i : Nat} {oi : Oper} (v : Value) {f : FuncId} {args : Array Value} (hi : ops[i]? = some oi)
    (hf : Region.free .any ops listed i = true) (hr : (Region.ready .any ops listed).contains i = true) (hw : Region.wanted oi (yielded ops a.tmps) = true)
    (hc : ∀ w, S w → Calls P f args w fun e w' => e = .returned v ∧ S w') (hy : ∀ w, (execOp a.eval oi).run P w = .ok (.enter f args) w)
    (h : Plan P ops Q S fuel (listed.setIfInBounds i true) (a.put oi.dst v)) : Plan P ops Q S (fuel + 1) listed a :=
  .step i oi v hi (Region.free_spec hi hf) (by simpa using hr) (.inl ⟨hw, fun w hS => by rw [hy w]; exact hc w hS⟩) h
theorem pl_done (hr : Region.ready .any ops listed = []) (h : ∀ w, S w → Q .normal a w) : Plan P ops Q S fuel listed a := .done hr h
/-- Either of two may come now. -/
theorem rt_two {i j : Nat} {oi oj : Oper} (hr : Region.ready .any ops listed = [i, j]) (hS : S w) (hi : ops[i]? = some oi) (hj : ops[j]? = some oj) (hwi : Region.wanted oi (yielded ops a.tmps) = true) (hwj : Region.wanted oj (yielded ops a.tmps) = true)
    (h1 : ∀ K : Act → World → Prop, (∀ a' w', RT P ops Q S fuel (listed.setIfInBounds i true) a' w' → K a' w') → oi.wp P a w K Q)
    (h2 : ∀ K : Act → World → Prop, (∀ a' w', RT P ops Q S fuel (listed.setIfInBounds j true) a' w' → K a' w') → oj.wp P a w K Q) : RT P ops Q S (fuel + 1) listed a w :=
  ⟨fun _ => hS, fun h0 => absurd (hr ▸ h0) (by simp), hr ▸ (fun k hk => by
    unfold wpOp
    rcases List.mem_cons.1 hk with rfl | hk
    · simp only [hi, hwi, if_true]; exact .inl (h1 _ fun _ _ h => h)
    · obtain rfl := List.mem_singleton.1 hk
      simp only [hj, hwj, if_true]; exact .inl (h2 _ fun _ _ h => h))⟩
theorem RT.weak {S S' : World → Prop} (hS : ∀ w, S' w → S w) (h : RT P ops Q S' fuel listed a w) : RT P ops Q S fuel listed a w := ⟨fun hn => hS _ (h.1 hn), wpAnyT_weak hS _ _ _ _ h.2⟩
end
end Cb
