/- A region whose order is open, walked in one order: what only reads is taken first, in every world that meets S. They speak of no program. -/
import Derived.Test.YtbjpoamnglfjeaaEng2
import Derived.OrdersHeld
import Derived.Deep.RegionHeld3
namespace Cb
open Go
section
variable {P : Program} {ops : Array Oper} {Q : Exit → Act → World → Prop} {S S' : World → Prop} {fuel : Nat} {listed : Array Bool} {a : Act} {w : World}

theorem wpAnyH_weak (hS : ∀ w, S' w → S w) : ∀ (fuel : Nat) (listed : Array Bool) (a : Act) (w : World), wpAnyH P .any ops Q S' fuel listed a w → wpAnyH P .any ops Q S fuel listed a w
  | 0, _, _, _, h => h
  | fuel + 1, _, _, _, h => ⟨h.1, fun i hi => wpOp_mono (fun a' w' h' => ⟨hS _ h'.1, wpAnyH_weak hS fuel _ a' w' h'.2⟩) (h.2 i hi)⟩

/-- The world meets S, and whatever order comes, all is well. -/
def RG (P : Program) (ops : Array Oper) (Q : Exit → Act → World → Prop) (S : World → Prop) (fuel : Nat) (listed : Array Bool) (a : Act) (w : World) : Prop :=
  S w ∧ wpAnyH P .any ops Q S fuel listed a w
theorem reg_start (S : World → Prop) {id : Nat} {l : List Oper} (hm : P.follows .mixedOrders = true) (h : RG P l.toArray Q S l.length (Array.replicate l.length false) a w.drew) :
    (Code.region id l.toArray true).wp P Q a w := wp_region_held hm (by simpa using h.2)
theorem reg_q {i : Nat} {oi : Oper} {v : Value} (hi : ops[i]? = some oi) (hy : YieldsIf P ops S oi v a)
    (hs : Region.noSelect ops = true) (hf : Region.free .any ops listed i = true) (hr : (Region.ready .any ops listed).contains i = true)
    (hQ : ∀ c a w, Q (.panic c) (a.put oi.dst v) w → Q (.panic c) a w)
    (h : RG P ops Q S fuel (listed.setIfInBounds i true) (a.put oi.dst v) w) : RG P ops Q S (fuel + 1) listed a w :=
  ⟨h.1, wpAnyH_take hi hs hf hr hQ hy h.1 h.2⟩
theorem reg_yes {i : Nat} {oi : Oper} {v : Value} (hi : ops[i]? = some oi) 
    (hs : Region.noSelect ops = true) (hf : Region.free .any ops listed i = true) (hr : (Region.ready .any ops listed).contains i = true)
    (hQ : ∀ c a w, Q (.panic c) (a.put oi.dst v) w → Q (.panic c) a w) (hw : Region.wanted oi (yielded ops a.tmps) = true) (hy : ∀ w, S w → (execOp a.eval oi).run P w = .ok (.value v) w)
    (h : RG P ops Q S fuel (listed.setIfInBounds i true) (a.put oi.dst v) w) : RG P ops Q S (fuel + 1) listed a w := reg_q hi (.inl ⟨hw, hy⟩) hs hf hr hQ h
theorem reg_no {i : Nat} {oi : Oper} (hi : ops[i]? = some oi) 
    (hs : Region.noSelect ops = true) (hf : Region.free .any ops listed i = true) (hr : (Region.ready .any ops listed).contains i = true)
    (hQ : ∀ c a w, Q (.panic c) (a.put oi.dst undef) w → Q (.panic c) a w) (hw : Region.wanted oi (yielded ops a.tmps) = false)
    (h : RG P ops Q S fuel (listed.setIfInBounds i true) (a.put oi.dst undef) w) : RG P ops Q S (fuel + 1) listed a w := reg_q hi (.inr ⟨hw, rfl⟩) hs hf hr hQ h
theorem reg_done (hr : Region.ready .any ops listed = []) (hS : S w) (h : Q .normal a w) : RG P ops Q S fuel listed a w := ⟨hS, wpAnyH_done hr h fuel⟩
theorem reg_e (S' : World → Prop) {i : Nat} {oi : Oper} (hr : Region.ready .any ops listed = [i]) (hS : S w) (hSS : ∀ w, S' w → S w) (hi : ops[i]? = some oi) (hw : Region.wanted oi (yielded ops a.tmps) = true)
    (h : oi.wp P a w (fun a' w' => RG P ops Q S' fuel (listed.setIfInBounds i true) a' w') Q) : RG P ops Q S (fuel + 1) listed a w :=
  ⟨hS, wpAnyH_all hr (by simp) (fun j hj => by
    obtain rfl := List.mem_singleton.1 hj
    unfold wpOp
    simp only [hi, hw, if_true]
    exact .inl (Oper.wp_mono (fun a' w' h' => ⟨hSS _ h'.1, wpAnyH_weak hSS _ _ _ _ h'.2⟩) h))⟩
/-- It is not carried out: its guard says no. -/
theorem reg_skip {i : Nat} {oi : Oper} (hr : Region.ready .any ops listed = [i]) (hS : S w) (hi : ops[i]? = some oi) (hw : Region.wanted oi (yielded ops a.tmps) = false)
    (h : RG P ops Q S fuel (listed.setIfInBounds i true) (a.put oi.dst undef) w) : RG P ops Q S (fuel + 1) listed a w :=
  ⟨hS, wpAnyH_all hr (by simp) (fun j hj => by
    obtain rfl := List.mem_singleton.1 hj
    unfold wpOp
    simp only [hi, hw, Bool.false_eq_true, if_false]
    exact h)⟩
theorem YieldsIf.no {o : Oper} (hw : Region.wanted o (yielded ops a.tmps) = false) : YieldsIf P ops S o undef a := .inr ⟨hw, rfl⟩
theorem YieldsIf.yes {o : Oper} {v : Value} (hw : Region.wanted o (yielded ops a.tmps) = true) (h : ∀ w, S w → (execOp a.eval o).run P w = .ok (.value v) w) : YieldsIf P ops S o v a := .inl ⟨hw, h⟩
/-- One operation that runs to a value. -/
theorem reg_run (S' : World → Prop) {i : Nat} {oi : Oper} {v : Value} {w' : World} (hr : Region.ready .any ops listed = [i]) (hS : S w) (hSS : ∀ w, S' w → S w) (hi : ops[i]? = some oi) (hw : Region.wanted oi (yielded ops a.tmps) = true)
    (hrun : (execOp a.eval oi).run P w = .ok (.value v) w') (h : RG P ops Q S' fuel (listed.setIfInBounds i true) (a.put oi.dst v) w') : RG P ops Q S (fuel + 1) listed a w :=
  reg_e S' hr hS hSS hi hw (by unfold Oper.wp; rw [hrun]; exact h)
theorem reg_unit (S' : World → Prop) {i : Nat} {oi : Oper} {w' : World} (hr : Region.ready .any ops listed = [i]) (hS : S w) (hSS : ∀ w, S' w → S w) (hi : ops[i]? = some oi) (hw : Region.wanted oi (yielded ops a.tmps) = true)
    (hrun : (execOp a.eval oi).run P w = .ok .skip w') (h : RG P ops Q S' fuel (listed.setIfInBounds i true) (a.put oi.dst undef) w') : RG P ops Q S (fuel + 1) listed a w :=
  reg_e S' hr hS hSS hi hw (by unfold Oper.wp; rw [hrun]; exact h)
/-- The one that may come now, run by the walk's own steps: 'go_simp'. -/
theorem reg_k (S' : World → Prop) {i : Nat} {oi : Oper} (hr : Region.ready .any ops listed = [i]) (hS : S w) (hSS : ∀ w, S' w → S w) (hi : ops[i]? = some oi) (hw : Region.wanted oi (yielded ops a.tmps) = true)
    (h : ∀ K : Act → World → Prop, (∀ a' w', RG P ops Q S' fuel (listed.setIfInBounds i true) a' w' → K a' w') → oi.wp P a w K Q) : RG P ops Q S (fuel + 1) listed a w :=
  reg_e S' hr hS hSS hi hw (h _ fun _ _ h => h)
/-- A call, by its contract. -/
theorem reg_call (S' : World → Prop) {i : Nat} {oi : Oper} {f : FuncId} {args : Array Value} {R : Ending → World → Prop} (hr : Region.ready .any ops listed = [i]) (hS : S w) (hSS : ∀ w, S' w → S w) (hi : ops[i]? = some oi) (hw : Region.wanted oi (yielded ops a.tmps) = true)
    (hrun : (execOp a.eval oi).run P w = .ok (.enter f args) w) (hc : Calls P f args w R)
    (h : ∀ e w', R e w' → ∃ v, e = .returned v ∧ RG P ops Q S' fuel (listed.setIfInBounds i true) (a.put oi.dst v) w') : RG P ops Q S (fuel + 1) listed a w :=
  reg_e S' hr hS hSS hi hw (by
    unfold Oper.wp
    rw [hrun]
    refine Calls.mono hc fun e w' he => ?_
    obtain ⟨v, rfl, h⟩ := h e w' he
    exact h)
/-- append to a row of the call's own, of what points to nothing. -/
theorem reg_append_flat {α : Type} [Rep α] [Flat α] (S' : World → Prop) {i : Nat} {d : Option Tmp} {s x : Operand} {t ty : TypeId} {p : String} {af : Array Edge} {gd : Option (Nat × Bool)} {F G : Nat → Prop} {base : Nat} {e : TypeId} {z : Value} {bytes : Nat}
    (hr : Region.ready .any ops listed = [i]) (hS : S w) (hSS : ∀ w, S' w → S w) (hi0 : ops[i]? = some ⟨d, .call ⟨.builtin .append, #[s, x], #[t, t]⟩, ty, p, af, gd⟩)
    (hw : Region.wanted ⟨d, .call ⟨.builtin .append, #[s, x], #[t, t]⟩, ty, p, af, gd⟩ (yielded ops a.tmps) = true)
    (ht : P.underlying t = some (.slice e)) (hi : Info P e z (Rep.n α) bytes) (hz : z.cells.size = Rep.n α)
    {v : Value} {A : Option Addr} {n c : Nat} {xs ys : List α} (hown : Own F w base e v xs) (hs : a.eval s = v) (hx : a.eval x = .slice A n c)
    (hy : Sl G w (.slice A n c) ys)
    (h63 : xs.length + ys.length ≤ 140737488351232) (hbytes : (xs.length + ys.length) * bytes ≤ 140737488355328) (hbase : base ≤ w.heap.size)
    (h : ∀ v' w', Own F w' base e v' (xs ++ ys) → Grew w w' v v' → RG P ops Q S' fuel (listed.setIfInBounds i true) (a.put d v') w') : RG P ops Q S (fuel + 1) listed a w := by
  obtain ⟨v', w', hrun, h1, h2⟩ := run_append_flat (a := a) (o := ⟨d, .call ⟨.builtin .append, #[s, x], #[t, t]⟩, ty, p, af, gd⟩) rfl ht hi hz hown hs hx hy h63 hbytes hbase
  exact reg_run S' hr hS hSS hi0 hw hrun (h v' w' h1 h2)
theorem reg_append_sl {α : Type} [Rep α] (S' : World → Prop) {i : Nat} {d : Option Tmp} {s x : Operand} {t ty : TypeId} {p : String} {af : Array Edge} {gd : Option (Nat × Bool)} {F G : Nat → Prop} {base : Nat} {e : TypeId} {z : Value} {bytes : Nat}
    (hr : Region.ready .any ops listed = [i]) (hS : S w) (hSS : ∀ w, S' w → S w) (hi0 : ops[i]? = some ⟨d, .call ⟨.builtin .append, #[s, x], #[t, t]⟩, ty, p, af, gd⟩)
    (hw : Region.wanted ⟨d, .call ⟨.builtin .append, #[s, x], #[t, t]⟩, ty, p, af, gd⟩ (yielded ops a.tmps) = true)
    (ht : P.underlying t = some (.slice e)) (hi : Info P e z (Rep.n α) bytes) (hz : z.cells.size = Rep.n α)
    {v : Value} {A : Option Addr} {n c : Nat} {xs ys : List α} (hown : Own F w base e v xs) (hs : a.eval s = v) (hx : a.eval x = .slice A n c)
    (hy : Sl G w (.slice A n c) ys) (hG : ∀ b, b < w.heap.size → Or F (OB v) b → G b)
    (h63 : xs.length + ys.length ≤ 140737488351232) (hbytes : (xs.length + ys.length) * bytes ≤ 140737488355328) (hbase : base ≤ w.heap.size)
    (h : ∀ v' w', Own F w' base e v' (xs ++ ys) → Grew w w' v v' → RG P ops Q S' fuel (listed.setIfInBounds i true) (a.put d v') w') : RG P ops Q S (fuel + 1) listed a w := by
  obtain ⟨v', w', hrun, h1, h2⟩ := run_append_sl (a := a) (o := ⟨d, .call ⟨.builtin .append, #[s, x], #[t, t]⟩, ty, p, af, gd⟩) rfl ht hi hz hown hs hx hy hG h63 hbytes hbase
  exact reg_run S' hr hS hSS hi0 hw hrun (h v' w' h1 h2)
end
end Cb
