/- Texts Reg, RegT, Plan, Aux. -/
import Derived.Test.YticimjplegbagaaMg2
import Derived.OrdersHeld
import Derived.Deep.RegionHeld3
/- A region whose order is open, walked in one order: what only reads is taken first, in every world that meets S. They speak of no program. -/
namespace Cb
open Go
section
variable {P : Program} {ops : Array Oper} {Q : Exit → Act → World → Prop} {S S' : World → Prop} {fuel : Nat} {listed : Array Bool} {a : Act} {w : World}

/-- The world meets S, and whatever order comes, all is well. -/
def RG (P : Program) (ops : Array Oper) (Q : Exit → Act → World → Prop) (S : World → Prop) (fuel : Nat) (listed : Array Bool) (a : Act) (w : World) : Prop :=
  S w ∧ wpAnyH P .any ops Q S fuel listed a w
theorem reg_start (S : World → Prop) {id : Nat} {l : List Oper} (hm : P.follows .mixedOrders = true) (h : RG P l.toArray Q S l.length (Array.replicate l.length false) a w.drew) :
    (Code.region id l.toArray true).wp P Q a w := wp_region_held hm (by simpa using h.2)
theorem reg_q {i : Nat} {oi : Oper} {v : Value} (hi : ops[i]? = some oi) (hy : YieldsIf P ops S oi v a)
    (hs : Region.noSelect ops = true) (hf : Region.free .any ops listed i = true) (hr : (Region.ready .any ops listed).contains i = true)
    (hQ : ∀ c a w, Q (.panic c) (a.put oi.dst v) w → Q (.panic c) a w)
    (h : RG P ops Q S fuel (listed.setIfInBounds i true) (a.put oi.dst v) w) : RG P ops Q S (fuel + 1) listed a w :=
  ⟨h.1, wpAnyH_take hi hs hf hr hQ hy h.1 h.2⟩
theorem reg_yes {i : Nat} {oi : Oper} {v : Value} (hi : ops[i]? = some oi) 
    (hs : Region.noSelect ops = true) (hf : Region.free .any ops listed i = true) (hr : (Region.ready .any ops listed).contains i = true)
    (hQ : ∀ c a w, Q (.panic c) (a.put oi.dst v) w → Q (.panic c) a w) (hw : Region.wanted oi (yielded ops a.tmps) = true) (hy : ∀ w, S w → (execOp a.eval oi).run P w = .ok (.value v) w)
    (h : RG P ops Q S fuel (listed.setIfInBounds i true) (a.put oi.dst v) w) : RG P ops Q S (fuel + 1) listed a w := reg_q hi (.inl ⟨hw, hy⟩) hs hf hr hQ h
theorem reg_done (hr : Region.ready .any ops listed = []) (hS : S w) (h : Q .normal a w) : RG P ops Q S fuel listed a w := ⟨hS, wpAnyH_done hr h fuel⟩
theorem YieldsIf.no {o : Oper} (hw : Region.wanted o (yielded ops a.tmps) = false) : YieldsIf P ops S o undef a := .inr ⟨hw, rfl⟩
end
end Cb


/- The same for a region whose last operation may change what the others read: S is asked only while something is still to come. They speak of no program. -/
set_option linter.unusedVariables false
namespace Cb
open Go
section
variable {P : Program} {ops : Array Oper} {Q : Exit → Act → World → Prop} {S S' : World → Prop} {fuel : Nat} {listed : Array Bool} {a : Act} {w : World}

/-- Every edge leads back. -/
def backB (ops : Array Oper) : Bool := (List.range ops.size).all fun i => match ops[i]? with | some o => o.after.all fun e => !Region.binds .any e || decide (e.on < i) | none => true
/-- Somebody who has not come yet waits for i. -/
def waiterB (ops : Array Oper) (listed : Array Bool) (i : Nat) : Bool :=
  (List.range ops.size).any fun z => !listed.getD z true && match ops[z]? with | some o => o.after.any fun e => Region.binds .any e && e.on == i | none => false
theorem waiterB_spec {i : Nat} (h : waiterB ops listed i = true) : ∃ z oz, ops[z]? = some oz ∧ listed.getD z true = false ∧ ∃ e ∈ oz.after, Region.binds .any e = true ∧ e.on = i := by
  simp only [waiterB, List.any_eq_true, List.mem_range, Bool.and_eq_true, Bool.not_eq_true'] at h
  obtain ⟨z, hz, hl, h⟩ := h
  cases ho : ops[z]? with
  | none => simp [ho] at h
  | some o =>
    simp only [ho] at h
    obtain ⟨e, he, hb⟩ := Array.any_eq_true'.1 h
    simp only [Bool.and_eq_true, beq_iff_eq] at hb
    exact ⟨z, o, ho, hl, e, he, hb⟩
theorem ready_ne {z : Nat} {oz : Oper} (hb : backB ops = true) : ∀ (n z : Nat), z < n → ∀ oz, ops[z]? = some oz → listed.getD z true = false → Region.ready .any ops listed ≠ [] := by
  intro n
  induction n with
  | zero => intro z h; omega
  | succ n ih =>
    intro z hz oz ho hl
    by_cases hr : ∀ e ∈ oz.after, Region.binds .any e = true → listed.getD e.on false = true
    · intro h
      have : z ∈ Region.ready .any ops listed := mem_ready.2 ⟨hl, oz, ho, hr⟩
      rw [h] at this; cases this
    · simp only [Classical.not_forall] at hr
      obtain ⟨e, he, hbd, hne⟩ := hr
      have hlt : e.on < z := by
        simp only [backB, List.all_eq_true, List.mem_range] at hb
        have := hb z (Array.getElem?_eq_some_iff.1 ho).1
        rw [ho] at this
        have := (Array.all_eq_true_iff_forall_mem.1 this) e he
        simpa [hbd] using this
      have hsz : e.on < ops.size := by have := (Array.getElem?_eq_some_iff.1 ho).1; omega
      by_cases hls : e.on < listed.size
      · refine ih e.on (by omega) _ (Array.getElem?_eq_some_iff.2 ⟨hsz, rfl⟩) ?_
        simp [hls] at hne ⊢; exact hne
      · -- the list is too short: then z itself is beyond it, and counts as listed
        have : ¬ z < listed.size := by omega
        simp [Array.getElem?_eq_none (by omega : listed.size ≤ z)] at hl

def wpAnyT (P : Program) (ops : Array Oper) (Q : Exit → Act → World → Prop) (S : World → Prop) : Nat → Array Bool → Act → World → Prop
  | 0, listed, a, w => Region.ready .any ops listed = [] ∧ Q .normal a w
  | fuel + 1, listed, a, w =>
    (Region.ready .any ops listed = [] → Q .normal a w) ∧
    ∀ i ∈ Region.ready .any ops listed, wpOp P ops Q i (fun a' w' => (Region.ready .any ops (listed.setIfInBounds i true) ≠ [] → S w') ∧ wpAnyT P ops Q S fuel (listed.setIfInBounds i true) a' w') a w
theorem wpAny_of_T : ∀ (fuel : Nat) (listed : Array Bool) (a : Act) (w : World), wpAnyT P ops Q S fuel listed a w → wpAny P .any ops Q fuel listed a w
  | 0, _, _, _, h => h
  | fuel + 1, _, _, _, h => ⟨h.1, fun i hi => wpOp_mono (fun a' w' h' => wpAny_of_T fuel _ a' w' h'.2) (h.2 i hi)⟩
theorem wpAnyT_weak (hS : ∀ w, S' w → S w) : ∀ (fuel : Nat) (listed : Array Bool) (a : Act) (w : World), wpAnyT P ops Q S' fuel listed a w → wpAnyT P ops Q S fuel listed a w
  | 0, _, _, _, h => h
  | fuel + 1, _, _, _, h => ⟨h.1, fun i hi => wpOp_mono (fun a' w' h' => ⟨fun hr => hS _ (h'.1 hr), wpAnyT_weak hS fuel _ a' w' h'.2⟩) (h.2 i hi)⟩
theorem wpAnyT_first {i : Nat} {oi : Oper} {v : Value} (hbk : backB ops = true) (hi : ops[i]? = some oi) (hsel : ∀ (j : Nat) (o : Oper) cs b, ops[j]? = some o → o.op ≠ .select cs b)
    (hQ : ∀ c a w, Q (.panic c) (a.put oi.dst v) w → Q (.panic c) a w) :
    ∀ (fuel : Nat) (listed : Array Bool) (a : Act) (w : World),
      (∀ j oj, ops[j]? = some oj → j ≠ i → listed.getD j true = false → (∀ e ∈ oj.after, Region.binds .any e = true → e.on ≠ i) → oi.apart ops oj = true) →
      (∃ z oz, ops[z]? = some oz ∧ listed.getD z true = false ∧ ∃ e ∈ oz.after, Region.binds .any e = true ∧ e.on = i) →
      i ∈ Region.ready .any ops listed → YieldsIf P ops S oi v a → S w →
      wpAnyT P ops Q S fuel (listed.setIfInBounds i true) (a.put oi.dst v) w → wpAnyT P ops Q S (fuel + 1) listed a w := by
  intro fuel
  induction fuel with
  | zero =>
    intro listed a w _ _ hr hy hS H
    refine ⟨fun h => (by rw [h] at hr; cases hr), fun j hj => ?_⟩
    by_cases hji : j = i
    · subst hji; exact hy.wpOp hi hS ⟨fun _ => hS, H⟩
    · have := ready_mono hj hji
      rw [H.1] at this
      cases this
  | succ fuel ih =>
    intro listed a w hfree hz hr hy hS H
    refine ⟨fun h => (by rw [h] at hr; cases hr), fun j hj => ?_⟩
    by_cases hji : j = i
    · subst hji; exact hy.wpOp hi hS ⟨fun _ => hS, H⟩
    · have h1 := H.2 j (ready_mono hj hji)
      obtain ⟨hjun, oj, hoj, hall⟩ := mem_ready.1 hj
      have hnot : ∀ e ∈ oj.after, Region.binds .any e = true → e.on ≠ i := fun e he hb heq => by
        have h1 := hall e he hb
        have h0 := (mem_ready.1 hr).1
        rw [heq] at h1
        rcases Nat.lt_or_ge i listed.size with h' | h'
        · simp [h'] at h0 h1; rw [h0] at h1; cases h1
        · simp [Array.getElem?_eq_none h'] at h1
      have h2 := wpOp_putIf hoj (hfree j oj hoj hji hjun hnot) (fun cs b => hsel i oi cs b hi) (fun cs b => hsel j oj cs b hoj) hQ hy h1
      have hfree' : ∀ k ok, ops[k]? = some ok → k ≠ i → (listed.setIfInBounds j true).getD k true = false →
          (∀ e ∈ ok.after, Region.binds .any e = true → e.on ≠ i) → oi.apart ops ok = true := fun k ok hk hki hun hno => by
        refine hfree k ok hk hki ?_ hno
        by_cases hjk : j = k
        · subst hjk; exact hjun
        · rw [getD_set_ne true hjk] at hun; exact hun
      obtain ⟨z, oz, hoz, hzun, e, he, hb, heq⟩ := hz
      have hzj : j ≠ z := fun h => by
        subst h
        rw [hoj] at hoz; cases hoz
        exact hnot e he hb heq
      have hzi : i ≠ z := fun h => by
        subst h
        have hlt : e.on < i := by
          simp only [backB, List.all_eq_true, List.mem_range] at hbk
          have := hbk i (Array.getElem?_eq_some_iff.1 hoz).1
          rw [hoz] at this
          have := (Array.all_eq_true_iff_forall_mem.1 this) e he
          simpa [hb] using this
        omega
      have hz' : ∃ z oz, ops[z]? = some oz ∧ (listed.setIfInBounds j true).getD z true = false ∧ ∃ e ∈ oz.after, Region.binds .any e = true ∧ e.on = i :=
        ⟨z, oz, hoz, by rw [getD_set_ne true hzj]; exact hzun, e, he, hb, heq⟩
      have hne : Region.ready .any ops ((listed.setIfInBounds i true).setIfInBounds j true) ≠ [] :=
        ready_ne (z := z) (oz := oz) hbk (z + 1) z (by omega) oz hoz (by rw [getD_set_ne true hzj, getD_set_ne true hzi]; exact hzun)
      refine wpOp_mono (fun a' w' h3 => ?_) h2
      have hSw := h3.2.1 hne
      refine ⟨fun _ => hSw, ih (listed.setIfInBounds j true) a' w' hfree' hz' (ready_mono hr (Ne.symm hji)) h3.1 hSw ?_⟩
      rw [Array.setIfInBounds_comm _ _ hji]
      exact h3.2.2
def RT (P : Program) (ops : Array Oper) (Q : Exit → Act → World → Prop) (S : World → Prop) (fuel : Nat) (listed : Array Bool) (a : Act) (w : World) : Prop :=
  (Region.ready .any ops listed ≠ [] → S w) ∧ wpAnyT P ops Q S fuel listed a w
theorem rt_start (S : World → Prop) {id : Nat} {l : List Oper} (hm : P.follows .mixedOrders = true) (h : RT P l.toArray Q S l.length (Array.replicate l.length false) a w.drew) :
    (Code.region id l.toArray true).wp P Q a w := wp_region_any hm (wpAny_of_T _ _ _ _ (by simpa using h.2))
theorem rt_q {i : Nat} {oi : Oper} {v : Value} (hi : ops[i]? = some oi) (hy : YieldsIf P ops S oi v a)
    (hs : (Region.noSelect ops && backB ops) = true) (hf : (Region.free .any ops listed i && waiterB ops listed i && (!(Region.ready .any ops (listed.setIfInBounds i true)).isEmpty)) = true) (hr : (Region.ready .any ops listed).contains i = true)
    (hQ : ∀ c a w, Q (.panic c) (a.put oi.dst v) w → Q (.panic c) a w)
    (h : RT P ops Q S fuel (listed.setIfInBounds i true) (a.put oi.dst v) w) : RT P ops Q S (fuel + 1) listed a w := by
  simp only [Bool.and_eq_true, Bool.not_eq_true', List.isEmpty_eq_false_iff] at hs hf
  have hS := h.1 hf.2
  exact ⟨fun _ => hS, wpAnyT_first hs.2 hi (Region.noSelect_spec hs.1) hQ fuel listed a w (Region.free_spec hi hf.1.1) (waiterB_spec hf.1.2) (by simpa using hr) hy hS h.2⟩
theorem rt_yes {i : Nat} {oi : Oper} {v : Value} (hi : ops[i]? = some oi)
    (hs : (Region.noSelect ops && backB ops) = true) (hf : (Region.free .any ops listed i && waiterB ops listed i && (!(Region.ready .any ops (listed.setIfInBounds i true)).isEmpty)) = true) (hr : (Region.ready .any ops listed).contains i = true)
    (hQ : ∀ c a w, Q (.panic c) (a.put oi.dst v) w → Q (.panic c) a w) (hw : Region.wanted oi (yielded ops a.tmps) = true) (hy : ∀ w, S w → (execOp a.eval oi).run P w = .ok (.value v) w)
    (h : RT P ops Q S fuel (listed.setIfInBounds i true) (a.put oi.dst v) w) : RT P ops Q S (fuel + 1) listed a w := rt_q hi (.inl ⟨hw, hy⟩) hs hf hr hQ h
theorem rt_no {i : Nat} {oi : Oper} (hi : ops[i]? = some oi)
    (hs : (Region.noSelect ops && backB ops) = true) (hf : (Region.free .any ops listed i && waiterB ops listed i && (!(Region.ready .any ops (listed.setIfInBounds i true)).isEmpty)) = true) (hr : (Region.ready .any ops listed).contains i = true)
    (hQ : ∀ c a w, Q (.panic c) (a.put oi.dst undef) w → Q (.panic c) a w) (hw : Region.wanted oi (yielded ops a.tmps) = false)
    (h : RT P ops Q S fuel (listed.setIfInBounds i true) (a.put oi.dst undef) w) : RT P ops Q S (fuel + 1) listed a w := rt_q hi (.inr ⟨hw, rfl⟩) hs hf hr hQ h
theorem rt_done (hr : Region.ready .any ops listed = []) (h : Q .normal a w) : RT P ops Q S fuel listed a w :=
  ⟨fun h => absurd hr h, match fuel with | 0 => ⟨hr, h⟩ | _ + 1 => ⟨fun _ => h, by rw [hr]; simp⟩⟩
theorem rt_e (S' : World → Prop) {i : Nat} {oi : Oper} (hr : Region.ready .any ops listed = [i]) (hS : S w) (hSS : ∀ w, S' w → S w) (hi : ops[i]? = some oi) (hw : Region.wanted oi (yielded ops a.tmps) = true)
    (h : oi.wp P a w (fun a' w' => RT P ops Q S' fuel (listed.setIfInBounds i true) a' w') Q) : RT P ops Q S (fuel + 1) listed a w :=
  ⟨fun _ => hS, fun h0 => absurd (hr ▸ h0) (by simp), hr ▸ (fun j hj => by
    obtain rfl := List.mem_singleton.1 hj
    unfold wpOp
    simp only [hi, hw, if_true]
    exact .inl (Oper.wp_mono (fun a' w' h' => ⟨fun hn => hSS _ (h'.1 hn), wpAnyT_weak hSS _ _ _ _ h'.2⟩) h))⟩
theorem rt_k (S' : World → Prop) {i : Nat} {oi : Oper} (hr : Region.ready .any ops listed = [i]) (hS : S w) (hSS : ∀ w, S' w → S w) (hi : ops[i]? = some oi) (hw : Region.wanted oi (yielded ops a.tmps) = true)
    (h : ∀ K : Act → World → Prop, (∀ a' w', RT P ops Q S' fuel (listed.setIfInBounds i true) a' w' → K a' w') → oi.wp P a w K Q) : RT P ops Q S (fuel + 1) listed a w :=
  rt_e S' hr hS hSS hi hw (h _ fun _ _ h => h)
theorem rt_run (S' : World → Prop) {i : Nat} {oi : Oper} {v : Value} {w' : World} (hr : Region.ready .any ops listed = [i]) (hS : S w) (hSS : ∀ w, S' w → S w) (hi : ops[i]? = some oi) (hw : Region.wanted oi (yielded ops a.tmps) = true)
    (hrun : (execOp a.eval oi).run P w = .ok (.value v) w') (h : RT P ops Q S' fuel (listed.setIfInBounds i true) (a.put oi.dst v) w') : RT P ops Q S (fuel + 1) listed a w :=
  rt_e S' hr hS hSS hi hw (by unfold Oper.wp; rw [hrun]; exact h)
theorem rt_append_flat {α : Type} [Rep α] [Flat α] (S' : World → Prop) {i : Nat} {d : Option Tmp} {s x : Operand} {t ty : TypeId} {p : String} {af : Array Edge} {gd : Option (Nat × Bool)} {F G : Nat → Prop} {base : Nat} {e : TypeId} {z : Value} {bytes : Nat}
    (hr : Region.ready .any ops listed = [i]) (hS : S w) (hSS : ∀ w, S' w → S w) (hi0 : ops[i]? = some ⟨d, .call ⟨.builtin .append, #[s, x], #[t, t]⟩, ty, p, af, gd⟩)
    (hw : Region.wanted ⟨d, .call ⟨.builtin .append, #[s, x], #[t, t]⟩, ty, p, af, gd⟩ (yielded ops a.tmps) = true)
    (ht : P.underlying t = some (.slice e)) (hi : Info P e z (Rep.n α) bytes) (hz : z.cells.size = Rep.n α)
    {v : Value} {A : Option Addr} {n c : Nat} {xs ys : List α} (hown : Own F w base e v xs) (hs : a.eval s = v) (hx : a.eval x = .slice A n c)
    (hy : Sl G w (.slice A n c) ys)
    (h63 : xs.length + ys.length ≤ 140737488351232) (hbytes : (xs.length + ys.length) * bytes ≤ 140737488355328) (hbase : base ≤ w.heap.size)
    (h : ∀ v' w', Own F w' base e v' (xs ++ ys) → Grew w w' v v' → RT P ops Q S' fuel (listed.setIfInBounds i true) (a.put d v') w') : RT P ops Q S (fuel + 1) listed a w := by
  obtain ⟨v', w', hrun, h1, h2⟩ := run_append_flat (a := a) (o := ⟨d, .call ⟨.builtin .append, #[s, x], #[t, t]⟩, ty, p, af, gd⟩) rfl ht hi hz hown hs hx hy h63 hbytes hbase
  exact rt_run S' hr hS hSS hi0 hw hrun (h v' w' h1 h2)
theorem rt_append_sl {α : Type} [Rep α] (S' : World → Prop) {i : Nat} {d : Option Tmp} {s x : Operand} {t ty : TypeId} {p : String} {af : Array Edge} {gd : Option (Nat × Bool)} {F G : Nat → Prop} {base : Nat} {e : TypeId} {z : Value} {bytes : Nat}
    (hr : Region.ready .any ops listed = [i]) (hS : S w) (hSS : ∀ w, S' w → S w) (hi0 : ops[i]? = some ⟨d, .call ⟨.builtin .append, #[s, x], #[t, t]⟩, ty, p, af, gd⟩)
    (hw : Region.wanted ⟨d, .call ⟨.builtin .append, #[s, x], #[t, t]⟩, ty, p, af, gd⟩ (yielded ops a.tmps) = true)
    (ht : P.underlying t = some (.slice e)) (hi : Info P e z (Rep.n α) bytes) (hz : z.cells.size = Rep.n α)
    {v : Value} {A : Option Addr} {n c : Nat} {xs ys : List α} (hown : Own F w base e v xs) (hs : a.eval s = v) (hx : a.eval x = .slice A n c)
    (hy : Sl G w (.slice A n c) ys) (hG : ∀ b, b < w.heap.size → Or F (OB v) b → G b)
    (h63 : xs.length + ys.length ≤ 140737488351232) (hbytes : (xs.length + ys.length) * bytes ≤ 140737488355328) (hbase : base ≤ w.heap.size)
    (h : ∀ v' w', Own F w' base e v' (xs ++ ys) → Grew w w' v v' → RT P ops Q S' fuel (listed.setIfInBounds i true) (a.put d v') w') : RT P ops Q S (fuel + 1) listed a w := by
  obtain ⟨v', w', hrun, h1, h2⟩ := run_append_sl (a := a) (o := ⟨d, .call ⟨.builtin .append, #[s, x], #[t, t]⟩, ty, p, af, gd⟩) rfl ht hi hz hown hs hx hy hG h63 hbytes hbase
  exact rt_run S' hr hS hSS hi0 hw hrun (h v' w' h1 h2)
end
theorem Own.keepFlat {α : Type} [Rep α] [Flat α] {F G : Nat → Prop} {w w' : World} {base : Nat} {T : TypeId} {v : Value} {xs : List α} (h : Own F w base T v xs) (hc : Chg G w w')
    (hv : ∀ k, v.ownBlock = some k → ¬ G k) : Own F w' base T v xs := by
  obtain ⟨ds, hl, hd, ho⟩ := h
  refine ⟨ds, hl, fun i hi hi' => Flat.flat (hd i hi hi'), ho.1, ?_⟩
  rcases ho.2 with hn | ⟨g, cap, cur, rfl, hb, hg, rest⟩
  · exact .inl hn
  · exact .inr ⟨g, cap, cur, rfl, hb, hc.obj hg (hv g rfl), rest⟩
end Cb


/- A region whose order is open, of which each operation leaves one value whatever came before it: it is walked in one order, and the world is known by S alone. They speak of no program. -/
set_option linter.unusedVariables false
namespace Cb
open Go
section
variable {P : Program} {ops : Array Oper} {Q : Exit → Act → World → Prop} {S S' : World → Prop} {fuel : Nat} {listed : Array Bool} {a : Act} {w : World}

def NextTo (P : Program) (S : World → Prop) (v : Value) : Result Next → Prop
  | .ok (.value u) w' => u = v ∧ S w'
  | .ok .skip w' => v = undef ∧ S w'
  | .ok (.enter f args) w' => Calls P f args w' fun e w'' => e = .returned v ∧ S w''
  | _ => False
/-- In every world that meets S the operation leaves v, and a world that meets S. -/
def Fix (P : Program) (ops : Array Oper) (S : World → Prop) (o : Oper) (v : Value) (a : Act) : Prop :=
  (Region.wanted o (yielded ops a.tmps) = true ∧ ∀ w, S w → NextTo P S v ((execOp a.eval o).run P w)) ∨
  (Region.wanted o (yielded ops a.tmps) = false ∧ v = undef)
theorem Fix.wpOp {i : Nat} {o : Oper} {v : Value} {a : Act} (hi : ops[i]? = some o) (hy : Fix P ops S o v a)
    {K : Act → World → Prop} {w : World} (hS : S w) (h : ∀ w', S w' → K (a.put o.dst v) w') : wpOp P ops Q i K a w := by
  unfold Go.wpOp
  simp only [hi]
  rcases hy with ⟨hw, hv⟩ | ⟨hw, rfl⟩
  · simp only [hw, if_true]
    have := hv w hS
    refine .inl ?_
    unfold Oper.wp
    generalize (execOp a.eval o).run P w = r at this ⊢
    cases r with
    | halt x w' => exact this.elim
    | ok n w' =>
      cases n <;> simp only [NextTo] at this
      case value u => obtain ⟨rfl, hs⟩ := this; exact h _ hs
      case skip => obtain ⟨rfl, hs⟩ := this; exact h _ hs
      case enter f args =>
        refine Calls.mono this fun e w'' he => ?_
        obtain ⟨rfl, hs⟩ := he
        exact h _ hs
  · simp only [hw, Bool.false_eq_true, if_false]; exact h _ hS
theorem Fix.of_same {o : Oper} {v : Value} {a a' : Act} (hy : Fix P ops S o v a) (he : execOp a'.eval o = execOp a.eval o)
    (hw : Region.wanted o (yielded ops a'.tmps) = Region.wanted o (yielded ops a.tmps)) : Fix P ops S o v a' := by
  unfold Fix at *
  rw [he, hw]
  exact hy
def FreeOf (ops : Array Oper) (listed : Array Bool) (i : Nat) (oi : Oper) : Prop :=
  ∀ j oj, ops[j]? = some oj → j ≠ i → listed.getD j true = false → (∀ e ∈ oj.after, Region.binds .any e = true → e.on ≠ i) → oi.apart ops oj = true
inductive Plan (P : Program) (ops : Array Oper) (Q : Exit → Act → World → Prop) (S : World → Prop) : Nat → Array Bool → Act → Prop
  | done {n : Nat} {listed : Array Bool} {a : Act} : Region.ready .any ops listed = [] → (∀ w, S w → Q .normal a w) → Plan P ops Q S n listed a
  | step {n : Nat} {listed : Array Bool} {a : Act} (i : Nat) (oi : Oper) (v : Value) : ops[i]? = some oi → FreeOf ops listed i oi → i ∈ Region.ready .any ops listed → Fix P ops S oi v a →
      Plan P ops Q S n (listed.setIfInBounds i true) (a.put oi.dst v) → Plan P ops Q S (n + 1) listed a
theorem Plan.pull (hsel : ∀ (j : Nat) (o : Oper) cs b, ops[j]? = some o → o.op ≠ .select cs b) {n : Nat} {listed : Array Bool} {a : Act} (h : Plan P ops Q S n listed a) :
    ∀ j, j ∈ Region.ready .any ops listed → ∃ m oj v, n = m + 1 ∧ ops[j]? = some oj ∧ Fix P ops S oj v a ∧ Plan P ops Q S m (listed.setIfInBounds j true) (a.put oj.dst v) := by
  induction h with
  | done hr _ => intro j hj; rw [hr] at hj; cases hj
  | step i oi v hi hfree hr hfix hrest ih =>
    rename_i n listed a
    intro j hj
    by_cases hji : j = i
    · subst hji; exact ⟨n, oi, v, rfl, hi, hfix, hrest⟩
    · obtain ⟨m, oj, u, rfl, hoj, hf, hp⟩ := ih j (ready_mono hj hji)
      obtain ⟨hjun, oj', hoj', hall⟩ := mem_ready.1 hj
      rw [hoj] at hoj'; cases hoj'
      have hnot : ∀ e ∈ oj.after, Region.binds .any e = true → e.on ≠ i := fun e he hb heq => by
        have h1 := hall e he hb
        have h0 := (mem_ready.1 hr).1
        rw [heq] at h1
        rcases Nat.lt_or_ge i listed.size with h' | h'
        · simp [h'] at h0 h1; rw [h0] at h1; cases h1
        · simp [Array.getElem?_eq_none h'] at h1
      obtain ⟨h1, h2, h3⟩ := Oper.apart_spec (hfree j oj hoj hji hjun hnot)
      have hsi : ∀ cs b, oi.op ≠ .select cs b := fun cs b => hsel i oi cs b hi
      have hsj : ∀ cs b, oj.op ≠ .select cs b := fun cs b => hsel j oj cs b hoj
      refine ⟨m + 1, oj, u, rfl, hoj, hf.of_same (execOp_put oj hsj a oi.dst v h1).symm (wanted_put oj a oi.dst v h1).symm, ?_⟩
      refine .step i oi v hi ?_ (ready_mono hr (Ne.symm hji)) (hfix.of_same (execOp_put oi hsi a oj.dst u h3) (wanted_put oi a oj.dst u h3)) ?_
      · intro k ok hk hki hun hno
        refine hfree k ok hk hki ?_ hno
        by_cases hjk : j = k
        · subst hjk; exact hjun
        · rw [getD_set_ne true hjk] at hun; exact hun
      · rw [← Act.put_comm a v u h2, Array.setIfInBounds_comm _ _ hji]
        exact hp
theorem Plan.any (hsel : ∀ (j : Nat) (o : Oper) cs b, ops[j]? = some o → o.op ≠ .select cs b) : ∀ (n : Nat) (listed : Array Bool) (a : Act), Plan P ops Q S n listed a → ∀ w, S w → wpAnyT P ops Q S n listed a w := by
  intro n
  induction n with
  | zero =>
    intro listed a h w hS
    cases h with
    | done hr hq => exact ⟨hr, hq w hS⟩
  | succ n ih =>
    intro listed a h w hS
    refine ⟨fun hr => ?_, fun j hj => ?_⟩
    · cases h with
      | done _ hq => exact hq w hS
      | step i oi v _ _ hi _ _ => rw [hr] at hi; cases hi
    · obtain ⟨m, oj, v, e, hoj, hf, hp⟩ := h.pull hsel j hj
      obtain rfl : n = m := by omega
      exact hf.wpOp hoj hS fun w' hS' => ⟨fun _ => hS', ih _ _ hp w' hS'⟩
theorem rt_plan (hs : Region.noSelect ops = true) (hS : S w) (h : Plan P ops Q S fuel listed a) : RT P ops Q S fuel listed a w :=
  ⟨fun _ => hS, Plan.any (Region.noSelect_spec hs) _ _ _ h w hS⟩
theorem pl_start (S : World → Prop) {id : Nat} {l : List Oper} (hm : P.follows .mixedOrders = true) (hs : Region.noSelect l.toArray = true) (hS : S w.drew) (h : Plan P l.toArray Q S l.length (Array.replicate l.length false) a) :
    (Code.region id l.toArray true).wp P Q a w := rt_start S hm (rt_plan hs hS h)
theorem pl_yes {i : Nat} {oi : Oper} {v : Value} (hi : ops[i]? = some oi)
    (hf : Region.free .any ops listed i = true) (hr : (Region.ready .any ops listed).contains i = true) (hw : Region.wanted oi (yielded ops a.tmps) = true) (hy : ∀ w, S w → (execOp a.eval oi).run P w = .ok (.value v) w)
    (h : Plan P ops Q S fuel (listed.setIfInBounds i true) (a.put oi.dst v)) : Plan P ops Q S (fuel + 1) listed a :=
  .step i oi v hi (Region.free_spec hi hf) (by simpa using hr) (.inl ⟨hw, fun w hS => by rw [hy w hS]; exact ⟨rfl, hS⟩⟩) h
theorem pl_no {i : Nat} {oi : Oper} (hi : ops[i]? = some oi)
    (hf : Region.free .any ops listed i = true) (hr : (Region.ready .any ops listed).contains i = true) (hw : Region.wanted oi (yielded ops a.tmps) = false)
    (h : Plan P ops Q S fuel (listed.setIfInBounds i true) (a.put oi.dst undef)) : Plan P ops Q S (fuel + 1) listed a :=
  .step i oi undef hi (Region.free_spec hi hf) (by simpa using hr) (.inr ⟨hw, rfl⟩) h
theorem pl_call {i : Nat} {oi : Oper} (v : Value) {f : FuncId} {args : Array Value} (hi : ops[i]? = some oi)
    (hf : Region.free .any ops listed i = true) (hr : (Region.ready .any ops listed).contains i = true) (hw : Region.wanted oi (yielded ops a.tmps) = true)
    (hc : ∀ w, S w → Calls P f args w fun e w' => e = .returned v ∧ S w') (hy : ∀ w, (execOp a.eval oi).run P w = .ok (.enter f args) w)
    (h : Plan P ops Q S fuel (listed.setIfInBounds i true) (a.put oi.dst v)) : Plan P ops Q S (fuel + 1) listed a :=
  .step i oi v hi (Region.free_spec hi hf) (by simpa using hr) (.inl ⟨hw, fun w hS => by rw [hy w]; exact hc w hS⟩) h
theorem pl_done (hr : Region.ready .any ops listed = []) (h : ∀ w, S w → Q .normal a w) : Plan P ops Q S fuel listed a := .done hr h
/-- Either of two may come now. -/
theorem rt_two {i j : Nat} {oi oj : Oper} (hr : Region.ready .any ops listed = [i, j]) (hS : S w) (hi : ops[i]? = some oi) (hj : ops[j]? = some oj) (hwi : Region.wanted oi (yielded ops a.tmps) = true) (hwj : Region.wanted oj (yielded ops a.tmps) = true)
    (h1 : ∀ K : Act → World → Prop, (∀ a' w', RT P ops Q S fuel (listed.setIfInBounds i true) a' w' → K a' w') → oi.wp P a w K Q)
    (h2 : ∀ K : Act → World → Prop, (∀ a' w', RT P ops Q S fuel (listed.setIfInBounds j true) a' w' → K a' w') → oj.wp P a w K Q) : RT P ops Q S (fuel + 1) listed a w :=
  ⟨fun _ => hS, fun h0 => absurd (hr ▸ h0) (by simp), hr ▸ (fun k hk => by
    unfold wpOp
    rcases List.mem_cons.1 hk with rfl | hk
    · simp only [hi, hwi, if_true]; exact .inl (h1 _ fun _ _ h => h)
    · obtain rfl := List.mem_singleton.1 hk
      simp only [hj, hwj, if_true]; exact .inl (h2 _ fun _ _ h => h))⟩
theorem RT.weak {S S' : World → Prop} (hS : ∀ w, S' w → S w) (h : RT P ops Q S' fuel listed a w) : RT P ops Q S fuel listed a w := ⟨fun hn => hS _ (h.1 hn), wpAnyT_weak hS _ _ _ _ h.2⟩
end
/-! The same in few words: the next quiet operation is found by reckoning. -/
section
variable {P : Program} {Q : Exit → Act → World → Prop} {S S' : World → Prop} {fuel : Nat} {l : List Oper} {lb : List Bool} {late : List Nat} {i j : Nat} {oi oj : Oper} {v : Value} {a : Act} {w : World}
def nth : List Oper → Nat → Option Oper
  | [], _ => none
  | o :: _, 0 => some o
  | _ :: r, n + 1 => nth r n
def lbn : List Bool → Nat → Bool → Bool
  | [], _, d => d
  | b :: _, 0, _ => b
  | _ :: r, n + 1, d => lbn r n d
def memN : List Nat → Nat → Bool
  | [], _ => false
  | x :: r, n => Nat.beq x n || memN r n
def quietB (o : Op) : Bool := match o with
  | .move _ | .assign _ | .pick _ _ _ | .nilCheck _ | .binOp _ _ _ _ _ | .unOp _ _ _ | .convert _ _ _ | .fieldAddr _ _ _ | .field _ _ _ | .indexAddr _ _ _ | .extract _ _ | .slice _ _ _ _ _ | .build _ _ | .load _ _ | .lookup _ _ _ _ | .index _ _ _ => true
  | .call ⟨.builtin b, _, _⟩ => match b with | .len | .cap | .min | .max => true | _ => false
  | _ => false
def readyB (lb : List Bool) : List Edge → Bool
  | [] => true
  | e :: r => (!Region.binds .any e || lbn lb e.on false) && readyB lb r
def nextGo (lb : List Bool) (late : List Nat) : List Oper → Nat → Option (Nat × Oper)
  | [], _ => none
  | o :: r, i => bif !lbn lb i true && (quietB o.op && (!memN late i && readyB lb o.after.toList)) then some (i, o) else nextGo lb late r (i + 1)
theorem nth_get : ∀ (l : List Oper) (i : Nat), nth l i = l[i]?
  | [], _ => by simp [nth]
  | _ :: _, 0 => rfl
  | _ :: r, n + 1 => by simp [nth, nth_get r n]
theorem next_get : ∀ (r : List Oper) (k : Nat), nextGo lb late r k = some (i, oi) → ∃ m, i = k + m ∧ r[m]? = some oi
  | [], _, h => by cases h
  | o :: r, k, h => by
    unfold nextGo at h
    cases hb : (!lbn lb k true && (quietB o.op && (!memN late k && readyB lb o.after.toList))) with
    | true => rw [hb] at h; cases h; exact ⟨0, rfl, rfl⟩
    | false =>
      rw [hb] at h
      obtain ⟨m, h1, h2⟩ := next_get r (k + 1) h
      exact ⟨m + 1, by omega, by simpa using h2⟩
theorem next_ops (h : nextGo lb late l 0 = some (i, oi)) : l.toArray[i]? = some oi := by
  obtain ⟨m, rfl, h2⟩ := next_get l 0 h
  simpa using h2
theorem nth_ops (h : nth l i = some oi) : l.toArray[i]? = some oi := by rw [nth_get] at h; simpa using h
/-- All that an operation must meet that is taken first. -/
def chkT (l : List Oper) (lb : List Bool) (i : Nat) : Bool :=
  (Region.noSelect l.toArray && backB l.toArray) && ((Region.free .any l.toArray lb.toArray i && waiterB l.toArray lb.toArray i && (!(Region.ready .any l.toArray (lb.toArray.setIfInBounds i true)).isEmpty)) && (Region.ready .any l.toArray lb.toArray).contains i)
def chkP (l : List Oper) (lb : List Bool) (i : Nat) : Bool := Region.free .any l.toArray lb.toArray i && (Region.ready .any l.toArray lb.toArray).contains i
theorem rt_nx (late : List Nat) (hn : nextGo lb late l 0 = some (i, oi)) (hc : chkT l lb i = true) (hQ : ∀ c a w, Q (.panic c) (a.put oi.dst v) w → Q (.panic c) a w) (hw : Region.wanted oi (yielded l.toArray a.tmps) = true)
    (hy : ∀ w, S w → (execOp a.eval oi).run P w = .ok (.value v) w) (h : RT P l.toArray Q S fuel (lb.set i true).toArray (a.put oi.dst v) w) : RT P l.toArray Q S (fuel + 1) lb.toArray a w := by
  simp only [chkT, Bool.and_eq_true] at hc
  exact rt_yes (next_ops hn) (by simp only [hc, Bool.and_self]) (by simp only [hc, Bool.and_self]) hc.2.2 hQ hw hy (by simpa using h)
theorem rt_nn (late : List Nat) (hn : nextGo lb late l 0 = some (i, oi)) (hc : chkT l lb i = true) (hQ : ∀ c a w, Q (.panic c) (a.put oi.dst undef) w → Q (.panic c) a w) (hw : Region.wanted oi (yielded l.toArray a.tmps) = false)
    (h : RT P l.toArray Q S fuel (lb.set i true).toArray (a.put oi.dst undef) w) : RT P l.toArray Q S (fuel + 1) lb.toArray a w := by
  simp only [chkT, Bool.and_eq_true] at hc
  exact rt_no (next_ops hn) (by simp only [hc, Bool.and_self]) (by simp only [hc, Bool.and_self]) hc.2.2 hQ hw (by simpa using h)
theorem pl_nx (late : List Nat) (hn : nextGo lb late l 0 = some (i, oi)) (hc : chkP l lb i = true) (hw : Region.wanted oi (yielded l.toArray a.tmps) = true)
    (hy : ∀ w, S w → (execOp a.eval oi).run P w = .ok (.value v) w) (h : Plan P l.toArray Q S fuel (lb.set i true).toArray (a.put oi.dst v)) : Plan P l.toArray Q S (fuel + 1) lb.toArray a := by
  simp only [chkP, Bool.and_eq_true] at hc
  exact pl_yes (next_ops hn) hc.1 hc.2 hw hy (by simpa using h)
theorem pl_nn (late : List Nat) (hn : nextGo lb late l 0 = some (i, oi)) (hc : chkP l lb i = true) (hw : Region.wanted oi (yielded l.toArray a.tmps) = false)
    (h : Plan P l.toArray Q S fuel (lb.set i true).toArray (a.put oi.dst undef)) : Plan P l.toArray Q S (fuel + 1) lb.toArray a := by
  simp only [chkP, Bool.and_eq_true] at hc
  exact pl_no (next_ops hn) hc.1 hc.2 hw (by simpa using h)
def readyIs (l : List Oper) (lb : List Bool) (i : Nat) : Bool := Region.ready .any l.toArray lb.toArray == [i]
theorem rt_kx (S' : World → Prop) (i : Nat) (hr : readyIs l lb i = true) (hS : S w) (hSS : ∀ w, S' w → S w) (hi : nth l i = some oi) (hw : Region.wanted oi (yielded l.toArray a.tmps) = true)
    (h : ∀ K : Act → World → Prop, (∀ a' w', RT P l.toArray Q S' fuel (lb.set i true).toArray a' w' → K a' w') → oi.wp P a w K Q) : RT P l.toArray Q S (fuel + 1) lb.toArray a w :=
  rt_k S' (by simpa [readyIs] using hr) hS hSS (nth_ops hi) hw (fun K hK => h K (fun a' w' h' => hK a' w' (by simpa using h')))
theorem pl_nox (i : Nat) (hc : chkP l lb i = true) (hi : nth l i = some oi) (hw : Region.wanted oi (yielded l.toArray a.tmps) = false)
    (h : Plan P l.toArray Q S fuel (lb.set i true).toArray (a.put oi.dst undef)) : Plan P l.toArray Q S (fuel + 1) lb.toArray a := by
  simp only [chkP, Bool.and_eq_true] at hc
  exact pl_no (nth_ops hi) hc.1 hc.2 hw (by simpa using h)
theorem pl_callx (i : Nat) (v : Value) {f : FuncId} {args : Array Value} (hi : nth l i = some oi) (hc : chkP l lb i = true) (hw : Region.wanted oi (yielded l.toArray a.tmps) = true)
    (hcall : ∀ w, S w → Calls P f args w fun e w' => e = .returned v ∧ S w') (hy : ∀ w, (execOp a.eval oi).run P w = .ok (.enter f args) w)
    (h : Plan P l.toArray Q S fuel (lb.set i true).toArray (a.put oi.dst v)) : Plan P l.toArray Q S (fuel + 1) lb.toArray a := by
  simp only [chkP, Bool.and_eq_true] at hc
  exact pl_call v (nth_ops hi) hc.1 hc.2 hw hcall hy (by simpa using h)
theorem pl_yesx (i : Nat) (v : Value) (hi : nth l i = some oi) (hc : chkP l lb i = true) (hw : Region.wanted oi (yielded l.toArray a.tmps) = true) (hy : ∀ w, S w → (execOp a.eval oi).run P w = .ok (.value v) w)
    (h : Plan P l.toArray Q S fuel (lb.set i true).toArray (a.put oi.dst v)) : Plan P l.toArray Q S (fuel + 1) lb.toArray a := by
  simp only [chkP, Bool.and_eq_true] at hc
  exact pl_yes (nth_ops hi) hc.1 hc.2 hw hy (by simpa using h)
end
end Cb


/- Small laws that came later. They speak of no program. -/
set_option linter.unusedVariables false
namespace Cb
open Go
variable {α : Type}
theorem Chg.old {F : Nat → Prop} {a b c : World} (h : Chg No a b) (k : Chg F b c) (hF : ∀ i, F i → a.heap.size ≤ i) : Chg No a c :=
  h.trans' k (fun _ _ f => f) (fun i hi f => by have := hF i f; omega)
theorem obj_set {w : World} {b i : Nat} {C C' : Array Value} {T : TypeId} {fz : Nat × Nat} {u : Value} (h : w.heap[b]? = some (.cells C T fz)) (hC : C.setIfInBounds i u = C') : (w.setCell ⟨b, i, none⟩ u).heap[b]? = some (.cells C' T fz) := by
  rw [set_obj h, hC]
theorem Own.slFlat [Rep α] [Flat α] {F G : Nat → Prop} {w : World} {base : Nat} {T : TypeId} {v : Value} {xs : List α} (h : Own F w base T v xs) (hG : ∀ k, v.ownBlock = some k → ¬ G k) : Sl G w v xs := by
  obtain ⟨ds, hl, hd, ho⟩ := h
  exact Own.sl (F := G) ⟨ds, hl, fun i hi hi' => Flat.flat (hd i hi hi'), ho⟩ hG
theorem Sl.no [Rep α] {F : Nat → Prop} {w : World} {v : Value} {xs : List α} (h : Sl F w v xs) : Sl No w v xs := h.weak (fun _ _ f => f.elim)
def Lt (n : Nat) : Nat → Prop := fun k => k < n
theorem Sl.slice [Rep α] {F : Nat → Prop} {w : World} {v : Value} {xs : List α} (h : Sl F w v xs) : ∃ A c, v = .slice A xs.length c := by
  obtain ⟨A, c, e, _⟩ := h; exact ⟨A, c, e⟩
end Cb

