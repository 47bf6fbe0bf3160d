/- Texts Fen. -/
import Derived.Test.YtbjpoamnglfjeaaMg5
import Derived.RangeFuncNested
import Derived.RangeFuncBound
import Derived.RangeFuncCalls
import Derived.RangeFuncLeaves
import Derived.OrdersIn
import Derived.TacticsIn
/- A range over a function, from a walk without a fence: regions whose order is open in a round; the way out of a function that holds such a loop. They speak of no program. -/
set_option linter.unusedVariables false
namespace Cb
open Go Go.RowKit
section
variable {P : Program} {ops : Array Oper} {Q : Exit → Act → World → Prop} {K : Act → World → Prop} {a : Act} {w : World} {n : Nat}

/-- The wide fence, in a round or not. -/
def wideAt (r : Option Nat) : Fence := { Fence.wide with round := r }
def noDefer (ops : Array Oper) : Bool := (List.range ops.size).all fun i => match ops[i]? with | some o => (match o.op with | .defer _ => false | _ => true) | none => true
theorem noDefer_spec (h : noDefer ops = true) {i : Nat} {o : Oper} (ho : ops[i]? = some o) : ∀ c, o.op ≠ .defer c := by
  intro c hc
  simp only [noDefer, List.all_eq_true, List.mem_range] at h
  have := h i (Array.getElem?_eq_some_iff.1 ho).1
  rw [ho] at this
  simp [hc] at this
def Only (K : Act → World → Prop) : Exit → Act → World → Prop
  | .normal, a, w => K a w
  | _, _, _ => False
theorem only_out : ¬ LetsOut (Only K) := fun ⟨_, _, h⟩ => h
theorem calls_at {r : Option Nat} {f : FuncId} {args : Array Value} {R : Ending → World → Prop} (h : Calls P f args w R) : CallsIn (wideAt r) n P f args w R :=
  show CallsIn Fence.wide n P f args w R from callsIn_wide.2 h
theorem rows_at {r : Option Nat} {row : String} {args : Array Value} {R : Value → World → Prop} (h : Rows P row args w R) : RowsIn (wideAt r) n P row args w R := by
  intro c cs _
  obtain ⟨v, w', hr, hs⟩ := h c cs
  exact ⟨v, w', hr, StepsIn.mono (fun m _ => fenced_wide P m) (StepsIn.of_steps hs)⟩
theorem oper_at {r : Option Nat} {o : Oper} (ho : ∀ c, o.op ≠ .defer c) {next : Act → World → Prop} (h : o.wp P a w next (Only K)) : o.wpIn (wideAt r) n P a w next Q := by
  refine ⟨fun f _ => trivial, ?_⟩
  have hs : (o.semAt (wideAt r).round a.eval) = execOp a.eval o := by
    cases r with
    | none => exact Oper.semAt_none _ _
    | some l => exact Oper.semAt_some l _ _ ho
  rw [hs]
  unfold Oper.wp at h
  generalize (execOp a.eval o).run P w = res at h ⊢
  cases res with
  | ok x w' =>
    cases x <;> simp only [Oper.upon, Oper.uponIn] at h ⊢ <;>
      first
        | exact h
        | exact h.elim
        | exact ⟨fun hd => by simp [wideAt, Fence.wide] at hd, (calls_at (n := n - 1) h).mono (fun e w'' he => by cases e <;> first | exact he | exact he.elim | exact (only_out he).elim)⟩
        | exact ⟨fun hd => by simp [wideAt, Fence.wide] at hd, rows_at h⟩
  | halt x w' => cases x <;> simp only [Oper.upon, Oper.uponIn] at h ⊢ <;> first | exact h | exact h.elim
theorem opAt_of {r : Option Nat} (hd : noDefer ops = true) {i : Nat} {next next' : Act → World → Prop} (hn : ∀ a w, next a w → next' a w) (h : wpOp P ops (Only K) i next a w) : wpOpIn (wideAt r) n P ops Q i next' a w := by
  unfold wpOp at h
  unfold wpOpIn
  cases ho : ops[i]? with
  | none => simp only [ho] at h ⊢; exact hn _ _ h
  | some o =>
    simp only [ho] at h ⊢
    split at h
    · rename_i hw
      rw [if_pos hw]
      rcases h with h | h
      · exact oper_at (noDefer_spec hd ho) (Oper.wp_mono hn h)
      · exact (only_out h.2).elim
    · rename_i hw
      rw [if_neg hw]
      exact ⟨fun f _ => trivial, hn _ _ h⟩
theorem anyAt_of {r : Option Nat} (hd : noDefer ops = true) (hK : ∀ a w, K a w → Q .normal a w) : ∀ (fuel : Nat) (listed : Array Bool) (a : Act) (w : World), wpAny P .any ops (Only K) fuel listed a w → wpAnyIn (wideAt r) n P .any ops Q fuel listed a w
  | 0, _, _, _, h => ⟨h.1, hK _ _ h.2⟩
  | fuel + 1, _, _, _, h => ⟨fun hr => hK _ _ (h.1 hr), fun i hi => opAt_of hd (anyAt_of hd hK fuel _) (h.2 i hi)⟩
theorem rti_start (S : World → Prop) {r : Option Nat} {id : Nat} {l : List Oper} (hm : P.follows .mixedOrders = true) (hd : noDefer l.toArray = true) (h : RT P l.toArray (Only (Q .normal)) S l.length (Array.replicate l.length false) a w.drew) :
    (Code.region id l.toArray true).wpIn (wideAt r) n P Q a w := wpIn_region_any hm (anyAt_of hd (fun _ _ h => h) _ _ _ _ (wpAny_of_T _ _ _ _ (by simpa using h.2)))
end
section
variable {P : Program} {fn : Func} {R : Ending → World → Prop} {a : Act} {w : World} {n : Nat}
/-- A function's contract, where its body holds a range over a function. -/
def MPost (P : Program) (fn : Func) (R : Ending → World → Prop) : Exit → Act → World → Prop
  | .normal, a, w => bodyPostM Fence.wide 9 P fn R .normal a w
  | .ret, a, w => bodyPostM Fence.wide 9 P fn R .ret a w
  | _, _, _ => False
theorem calls_of_marks {f : FuncId} {c : Code} {args : Array Value} (hf : P.funcs[f]? = some fn) (hb : fn.body = some c)
    (h : c.wp P (MPost P fn R) { tmps := args ++ Array.replicate (fn.ntmps - args.size) undef, defers := [] } w) : Calls P f args w R :=
  callsIn_wide.1 (callsIn_of_wp_marks (F := Fence.wide) (n := 9) hf hb trivial (wpIn_mono (wpIn_wide.2 h) (fun e a w q => by cases e <;> first | exact q | exact q.elim)))
theorem marks_ret {t : Array Value} {v : Value} (hr : (results fn t).run P w = .ok v w) (h : R (.returned v) w) : MPost P fn R .ret { tmps := t, defers := [] } w := ⟨v, hr, h⟩
/-- Behind the loop. -/
theorem marks_ret1 {t : Array Value} {v : Value} {D : Nat} (hK : w.heap[D]? = some (.deferred (some []))) (hr : (results fn t).run P (w.putObj D (.deferred none)) = .ok v (w.putObj D (.deferred none)))
    (h : R (.returned v) (w.putObj D (.deferred none))) : MPost P fn R .ret { tmps := t, defers := [{ target := .collected D, args := #[] }] } w :=
  ⟨by simp, .inl ⟨_, _, rfl, run_takeDeferred hK, v, hr, h⟩⟩
theorem turn_obj {w' : World} {row : Option Nat} {b : Nat} {C : Array Value} {T : TypeId} {fz : Nat × Nat} (h : w.heap[b]? = some (.cells C T fz)) (hg : w.grownBy w' row) (hr : ∀ r, row = some r → ∃ o : Obj, w.heap[r]? = some o ∧ o.isCells = false) :
    w'.heap[b]? = some (.cells C T fz) := by
  refine (hg.block b (lt_of_heap h) (fun e => ?_)).trans h
  obtain ⟨o, ho, hc⟩ := hr b e.symm
  rw [h] at ho
  cases ho
  simp [Obj.isCells] at hc
theorem chg_put {G : Nat → Prop} {D : Nat} {o : Obj} (hG : G D) : Chg G w (w.putObj D o) :=
  (Chg.refl G w).grown (grownBy_putObj' w D o) (fun k e => by cases e; exact .inl hG)
end
theorem keeps_of_chg {B : Nat} {G : Nat → Prop} {W W' : World} (h : Chg G W W') (hG : ∀ k o, G k → W.heap[k]? = some o → o.isCells = true) : KeepsFrom B W W' :=
  ⟨h.size, fun k o _ hk ho => h.obj hk (fun g => by rw [hG k o g hk] at ho; cases ho)⟩
/-- A loop whose body never leaves. -/
theorem wp_rangeFunc {α : Type} {P : Program} {Q : Exit → Act → World → Prop} {a : Act} {w : World} {g : Operand} {ps : Array Tmp} {assign body : Code} {gf : Nat} {lb : Array Value}
    (hg : a.eval g = .func (.func gf) #[] lb) (eg : ∀ args w, (callFunc gf args).run P w = .ok (.enter gf args) w)
    {encs : α → Array Value} (Qk : World → Prop) {xs : List α} (hseq : SeqStopsK Fence.wide 8 P gf lb encs (fun A B => Qk A → Qk B) (fun ys => ys = xs) (fun _ => True) xs.length w)
    (hQk : ∀ (W : World) (l : Nat) (o o' : Obj), w.heap.size ≤ l → W.heap[l]? = some o → o.isCells = false → Qk W → Qk (W.putObj l o')) (hps : ∀ x, (encs x).size = ps.size)
    (I : List α → World → Prop) (hI : OwnFrom w.heap.size I) (h0 : I [] w) (Ax : α → Act → World → Prop) (hAx : ∀ x a', OwnFrom w.heap.size (fun (_ : Unit) W => Ax x a' W))
    (hassign : ∀ (l : Nat) (pre : List α) (x : α) (W : World) (K : Act → World → Prop), I pre W → (∀ a' W', KeepsFrom w.heap.size W W' → (Qk W → Qk W') → I pre W' → Ax x a' W' → K a' W') →
      assign.wpIn (wideAt (some l)) 7 P (Exit.then K (fun _ _ _ => False)) { tmps := (ps.zip (encs x)).foldl (fun t (p, v) => t.setIfInBounds p v) a.tmps, defers := [] } W)
    (hbody : ∀ (l : Nat) (pre : List α) (x : α) (a' : Act) (W : World), I pre W → Ax x a' W → pre.length < xs.length → body.wpIn (wideAt (some l)) 7 P (ownPostG w.heap.size (fun A B => Qk A → Qk B) I (fun _ _ _ => False) (pre ++ [x]) W) a' W)
    (hdone : ∀ (D : Nat) (W : World), w.heap.size ≤ D → I xs W → W.heap[D]? = some (.deferred (some [])) → Q .normal { a with defers := { target := .collected D, args := #[] } :: a.defers } W) :
    (Code.rangeFunc g ps assign body).wp P Q a w :=
  (wpIn_wide (n := 9)).1 (wpIn_rangeFunc_ownH (F := Fence.wide) (n := 9) rfl (by omega) hg trivial eg hseq (fun h k q => k (h q)) (fun W l o o' hl h hc _ q => hQk W l o o' hl h hc q)
    (Below.refl _ _) hps I (fun _ _ _ => False) hI (fun _ _ _ _ _ h _ _ => h) h0 Ax hAx hassign (fun l pre x a' W _ _ hi hx hl => hbody l pre x a' W hi hx hl)
    (fun D ys W hD hy hi hK => hdone D W hD (by rw [← hy]; exact hi) hK) (fun _ _ _ _ _ _ h _ => h.elim))
/-- The same; the loop's variable is boxed. -/
theorem wp_rangeFunc_box {α : Type} {P : Program} {Q : Exit → Act → World → Prop} {a : Act} {w : World} {g : Operand} {ps : Array Tmp} {assign body : Code} {gf : Nat} {lb : Array Value}
    (hg : a.eval g = .func (.func gf) #[] lb) (eg : ∀ args w, (callFunc gf args).run P w = .ok (.enter gf args) w)
    {encs : α → Array Value} (Qk : World → Prop) {xs : List α} (hseq : SeqStopsK Fence.wide 8 P gf lb encs (fun A B => Qk A → Qk B) (fun ys => ys = xs) (fun _ => True) xs.length w)
    (hps : ∀ x, (encs x).size = ps.size)
    (I : List α → World → Prop) (hIQ : ∀ pre W, I pre W → Qk W) (hI : OwnFrom w.heap.size I) (hQk : ∀ (W W' : World) (row : Option Nat), Qk W → W.grownBy W' row → (∀ r, row = some r → w.heap.size ≤ r ∧ ∃ o : Obj, W.heap[r]? = some o ∧ o.isCells = false) → Qk W') (h0 : I [] w) (d : Nat) (T : TypeId) (C : α → Array Value) (Z : Nat → World → Prop) (hZ0 : ∀ pre W W', I pre W → Chg No W W' → Z W.heap.size W') (hZt : ∀ b (W W' : World) (row : Option Nat), Z b W → W.grownBy W' row → (∀ r, row = some r → w.heap.size ≤ r ∧ ∃ o : Obj, W.heap[r]? = some o ∧ o.isCells = false) → Z b W')
    (hassign : ∀ (l : Nat) (pre : List α) (x : α) (W : World) (K : Act → World → Prop), I pre W → (∀ W', Chg No W W' → W'.heap[W.heap.size]? = some (.cells (C x) T (0, 0)) →
        K { tmps := ((ps.zip (encs x)).foldl (fun t (p, v) => t.setIfInBounds p v) a.tmps).setIfInBounds d (.pointer (some ⟨W.heap.size, 0, none⟩)), defers := [] } W') →
      assign.wpIn (wideAt (some l)) 7 P (Exit.then K (fun _ _ _ => False)) { tmps := (ps.zip (encs x)).foldl (fun t (p, v) => t.setIfInBounds p v) a.tmps, defers := [] } W)
    (hno : ∀ pre W W', I pre W → Chg No W W' → I pre W') (hsz : ∀ pre W, I pre W → w.heap.size ≤ W.heap.size)
    (hbody : ∀ (l : Nat) (pre : List α) (x : α) (b : Nat) (W : World), I pre W → w.heap.size ≤ b → W.heap[b]? = some (.cells (C x) T (0, 0)) → Z b W → pre.length < xs.length →
      body.wpIn (wideAt (some l)) 7 P (ownPostG w.heap.size (fun A B => Qk A → Qk B) I (fun _ _ _ => False) (pre ++ [x]) W) { tmps := ((ps.zip (encs x)).foldl (fun t (p, v) => t.setIfInBounds p v) a.tmps).setIfInBounds d (.pointer (some ⟨b, 0, none⟩)), defers := [] } W)
    (hdone : ∀ (D : Nat) (W : World), w.heap.size ≤ D → I xs W → W.heap[D]? = some (.deferred (some [])) → Q .normal { a with defers := { target := .collected D, args := #[] } :: a.defers } W) :
    (Code.rangeFunc g ps assign body).wp P Q a w :=
  wp_rangeFunc hg eg Qk hseq (fun W l o o' hl h hc q => hQk W _ (some l) q (grownBy_putObj' W l o') (fun r e => by cases e; exact ⟨hl, o, h, hc⟩)) hps I hI h0
    (fun x a' W => ∃ b, w.heap.size ≤ b ∧ W.heap[b]? = some (.cells (C x) T (0, 0)) ∧ Z b W ∧ a' = { tmps := ((ps.zip (encs x)).foldl (fun t (p, v) => t.setIfInBounds p v) a.tmps).setIfInBounds d (.pointer (some ⟨b, 0, none⟩)), defers := [] })
    (fun x a' _ W W' row ⟨b, hb, ho, hz, e⟩ hgr hr => ⟨b, hb, turn_obj ho hgr (fun r e => (hr r e).2), hZt b W W' row hz hgr hr, e⟩)
    (fun l pre x W K hi hK => hassign l pre x W K hi (fun W' hc ho => hK _ _ (keeps_of_chg (G := No) hc (fun _ _ f _ => f.elim)) (fun _ => hIQ _ _ (hno _ _ _ hi hc)) (hno _ _ _ hi hc) ⟨_, hsz _ _ hi, ho, hZ0 _ _ _ hi hc, rfl⟩))
    (fun l pre x a' W hi ⟨b, hb, ho, hz, e⟩ hl => by subst e; exact hbody l pre x b W hi hb ho hz hl) hdone
end Cb

