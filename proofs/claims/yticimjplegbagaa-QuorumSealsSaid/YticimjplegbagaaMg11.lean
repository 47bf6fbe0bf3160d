/- Texts Fen, RowO, FenL. -/
import Derived.Test.YticimjplegbagaaMg10
import Derived.RangeFuncNested
import Derived.RangeFuncBound
import Derived.RangeFuncCalls
import Derived.RangeFuncLeaves
import Derived.OrdersIn
import Derived.TacticsIn
/- A range over a function, from a walk without a fence: regions whose order is open in a round; the way out of a function that holds such a loop. They speak of no program. -/
set_option linter.unusedVariables false
namespace Cb
open Go Go.RowKit
section
variable {P : Program} {ops : Array Oper} {Q : Exit → Act → World → Prop} {K : Act → World → Prop} {a : Act} {w : World} {n : Nat}

/-- The wide fence, in a round or not. -/
def wideAt (r : Option Nat) : Fence := { Fence.wide with round := r }
def noDefer (ops : Array Oper) : Bool := (List.range ops.size).all fun i => match ops[i]? with | some o => (match o.op with | .defer _ => false | _ => true) | none => true
theorem noDefer_spec (h : noDefer ops = true) {i : Nat} {o : Oper} (ho : ops[i]? = some o) : ∀ c, o.op ≠ .defer c := by
  intro c hc
  simp only [noDefer, List.all_eq_true, List.mem_range] at h
  have := h i (Array.getElem?_eq_some_iff.1 ho).1
  rw [ho] at this
  simp [hc] at this
def Only (K : Act → World → Prop) : Exit → Act → World → Prop
  | .normal, a, w => K a w
  | _, _, _ => False
theorem only_out : ¬ LetsOut (Only K) := fun ⟨_, _, h⟩ => h
theorem calls_at {r : Option Nat} {f : FuncId} {args : Array Value} {R : Ending → World → Prop} (h : Calls P f args w R) : CallsIn (wideAt r) n P f args w R :=
  show CallsIn Fence.wide n P f args w R from callsIn_wide.2 h
theorem rows_at {r : Option Nat} {row : String} {args : Array Value} {R : Value → World → Prop} (h : Rows P row args w R) : RowsIn (wideAt r) n P row args w R := by
  intro c cs _
  obtain ⟨v, w', hr, hs⟩ := h c cs
  exact ⟨v, w', hr, StepsIn.mono (fun m _ => fenced_wide P m) (StepsIn.of_steps hs)⟩
theorem oper_at {r : Option Nat} {o : Oper} (ho : ∀ c, o.op ≠ .defer c) {next : Act → World → Prop} (h : o.wp P a w next (Only K)) : o.wpIn (wideAt r) n P a w next Q := by
  refine ⟨fun f _ => trivial, ?_⟩
  have hs : (o.semAt (wideAt r).round a.eval) = execOp a.eval o := by
    cases r with
    | none => exact Oper.semAt_none _ _
    | some l => exact Oper.semAt_some l _ _ ho
  rw [hs]
  unfold Oper.wp at h
  generalize (execOp a.eval o).run P w = res at h ⊢
  cases res with
  | ok x w' =>
    cases x <;> simp only [Oper.upon, Oper.uponIn] at h ⊢ <;>
      first
        | exact h
        | exact h.elim
        | exact ⟨fun hd => by simp [wideAt, Fence.wide] at hd, (calls_at (n := n - 1) h).mono (fun e w'' he => by cases e <;> first | exact he | exact he.elim | exact (only_out he).elim)⟩
        | exact ⟨fun hd => by simp [wideAt, Fence.wide] at hd, rows_at h⟩
  | halt x w' => cases x <;> simp only [Oper.upon, Oper.uponIn] at h ⊢ <;> first | exact h | exact h.elim
end
section
variable {P : Program} {fn : Func} {R : Ending → World → Prop} {a : Act} {w : World} {n : Nat}
/-- A function's contract, where its body holds a range over a function. -/
def MPost (P : Program) (fn : Func) (R : Ending → World → Prop) : Exit → Act → World → Prop
  | .normal, a, w => bodyPostM Fence.wide 9 P fn R .normal a w
  | .ret, a, w => bodyPostM Fence.wide 9 P fn R .ret a w
  | _, _, _ => False
theorem calls_of_marks {f : FuncId} {c : Code} {args : Array Value} (hf : P.funcs[f]? = some fn) (hb : fn.body = some c)
    (h : c.wp P (MPost P fn R) { tmps := args ++ Array.replicate (fn.ntmps - args.size) undef, defers := [] } w) : Calls P f args w R :=
  callsIn_wide.1 (callsIn_of_wp_marks (F := Fence.wide) (n := 9) hf hb trivial (wpIn_mono (wpIn_wide.2 h) (fun e a w q => by cases e <;> first | exact q | exact q.elim)))
theorem marks_ret {t : Array Value} {v : Value} (hr : (results fn t).run P w = .ok v w) (h : R (.returned v) w) : MPost P fn R .ret { tmps := t, defers := [] } w := ⟨v, hr, h⟩
theorem turn_obj {w' : World} {row : Option Nat} {b : Nat} {C : Array Value} {T : TypeId} {fz : Nat × Nat} (h : w.heap[b]? = some (.cells C T fz)) (hg : w.grownBy w' row) (hr : ∀ r, row = some r → ∃ o : Obj, w.heap[r]? = some o ∧ o.isCells = false) :
    w'.heap[b]? = some (.cells C T fz) := by
  refine (hg.block b (lt_of_heap h) (fun e => ?_)).trans h
  obtain ⟨o, ho, hc⟩ := hr b e.symm
  rw [h] at ho
  cases ho
  simp [Obj.isCells] at hc
theorem chg_put {G : Nat → Prop} {D : Nat} {o : Obj} (hG : G D) : Chg G w (w.putObj D o) :=
  (Chg.refl G w).grown (grownBy_putObj' w D o) (fun k e => by cases e; exact .inl hG)
end
theorem keeps_of_chg {B : Nat} {G : Nat → Prop} {W W' : World} (h : Chg G W W') (hG : ∀ k o, G k → W.heap[k]? = some o → o.isCells = true) : KeepsFrom B W W' :=
  ⟨h.size, fun k o _ hk ho => h.obj hk (fun g => by rw [hG k o g hk] at ho; cases ho)⟩
/-- A loop whose body never leaves. -/
theorem wp_rangeFunc {α : Type} {P : Program} {Q : Exit → Act → World → Prop} {a : Act} {w : World} {g : Operand} {ps : Array Tmp} {assign body : Code} {gf : Nat} {lb : Array Value}
    (hg : a.eval g = .func (.func gf) #[] lb) (eg : ∀ args w, (callFunc gf args).run P w = .ok (.enter gf args) w)
    {encs : α → Array Value} (Qk : World → Prop) {xs : List α} (hseq : SeqStopsK Fence.wide 8 P gf lb encs (fun A B => Qk A → Qk B) (fun ys => ys = xs) (fun _ => True) xs.length w)
    (hQk : ∀ (W : World) (l : Nat) (o o' : Obj), w.heap.size ≤ l → W.heap[l]? = some o → o.isCells = false → Qk W → Qk (W.putObj l o')) (hps : ∀ x, (encs x).size = ps.size)
    (I : List α → World → Prop) (hI : OwnFrom w.heap.size I) (h0 : I [] w) (Ax : α → Act → World → Prop) (hAx : ∀ x a', OwnFrom w.heap.size (fun (_ : Unit) W => Ax x a' W))
    (hassign : ∀ (l : Nat) (pre : List α) (x : α) (W : World) (K : Act → World → Prop), I pre W → (∀ a' W', KeepsFrom w.heap.size W W' → (Qk W → Qk W') → I pre W' → Ax x a' W' → K a' W') →
      assign.wpIn (wideAt (some l)) 7 P (Exit.then K (fun _ _ _ => False)) { tmps := (ps.zip (encs x)).foldl (fun t (p, v) => t.setIfInBounds p v) a.tmps, defers := [] } W)
    (hbody : ∀ (l : Nat) (pre : List α) (x : α) (a' : Act) (W : World), I pre W → Ax x a' W → pre.length < xs.length → body.wpIn (wideAt (some l)) 7 P (ownPostG w.heap.size (fun A B => Qk A → Qk B) I (fun _ _ _ => False) (pre ++ [x]) W) a' W)
    (hdone : ∀ (D : Nat) (W : World), w.heap.size ≤ D → I xs W → W.heap[D]? = some (.deferred (some [])) → Q .normal { a with defers := { target := .collected D, args := #[] } :: a.defers } W) :
    (Code.rangeFunc g ps assign body).wp P Q a w :=
  (wpIn_wide (n := 9)).1 (wpIn_rangeFunc_ownH (F := Fence.wide) (n := 9) rfl (by omega) hg trivial eg hseq (fun h k q => k (h q)) (fun W l o o' hl h hc _ q => hQk W l o o' hl h hc q)
    (Below.refl _ _) hps I (fun _ _ _ => False) hI (fun _ _ _ _ _ h _ _ => h) h0 Ax hAx hassign (fun l pre x a' W _ _ hi hx hl => hbody l pre x a' W hi hx hl)
    (fun D ys W hD hy hi hK => hdone D W hD (by rw [← hy]; exact hi) hK) (fun _ _ _ _ _ _ h _ => h.elim))
end Cb


/- A row of plain values that an object holds and appends to. It speaks of no program. -/
set_option linter.unusedVariables false
namespace Cb
open Go Go.Deep
section
variable {P : Program} {OPS : Array Oper} {Q : Exit → Act → World → Prop} {w : World} {a : Act} {rest : List Oper} {α : Type}
/-- Either it is the holder's own, clear of F, or there is no room behind it (then an append lays a new one). -/
def RowT [Rep α] (F : Nat → Prop) (w : World) (lo : Nat) (T : TypeId) (v : Value) (xs : List α) : Prop :=
  (Own No w lo T v xs ∧ ∀ k, OB v k → ¬ F k) ∨ (Sl F w v xs ∧ ∃ A n, v = .slice A n n)
theorem RowT.sl [Rep α] [Flat α] {F : Nat → Prop} {lo : Nat} {T : TypeId} {v : Value} {xs : List α} (h : RowT F w lo T v xs) : Sl F w v xs := by
  rcases h with h | h
  · exact h.1.slFlat h.2
  · exact h.1
theorem RowT.slice [Rep α] {F : Nat → Prop} {lo : Nat} {T : TypeId} {v : Value} {xs : List α} (h : RowT F w lo T v xs) : ∃ A c, v = .slice A xs.length c := by
  rcases h with h | h
  · exact h.1.slice
  · exact h.1.slice
theorem RowT.keep [Rep α] [Flat α] {F G : Nat → Prop} {w' : World} {lo : Nat} {T : TypeId} {v : Value} {xs : List α} (h : RowT F w lo T v xs) (hc : Chg G w w') (hG : ∀ k, k < w.heap.size → G k → F k) : RowT F w' lo T v xs := by
  rcases h with h | h
  · exact .inl ⟨h.1.keepFlat hc (fun k hk g => h.2 k hk (hG k (h.1.lt k hk).2 g)), h.2⟩
  · exact .inr ⟨h.1.keep (hc.weak hG), h.2⟩
theorem RowT.keepNo [Rep α] [Flat α] {F : Nat → Prop} {w' : World} {lo : Nat} {T : TypeId} {v : Value} {xs : List α} (h : RowT F w lo T v xs) (hc : Chg No w w') : RowT F w' lo T v xs := h.keep hc (fun _ _ f => f.elim)
theorem RowT.weak [Rep α] {F G : Nat → Prop} {lo : Nat} {T : TypeId} {v : Value} {xs : List α} (h : RowT F w lo T v xs) (hG : ∀ k, k < w.heap.size → G k → F k) : RowT G w lo T v xs := by
  rcases h with h | h
  · exact .inl ⟨h.1, fun k hk g => h.2 k hk (hG k (h.1.lt k hk).2 g)⟩
  · exact .inr ⟨h.1.weak hG, h.2⟩
/-- A block that an own row lies in holds cells. -/
theorem Own.cells [Rep α] {F : Nat → Prop} {b : Nat} {T : TypeId} {v : Value} {xs : List α} (h : Own F w b T v xs) : ∀ k, OB v k → ∃ C T' fz, w.heap[k]? = some (.cells C T' fz) := by
  obtain ⟨ds, h1, h2, h3, h4⟩ := h
  rcases h4 with ⟨rfl, _⟩ | ⟨g, cap, cur, rfl, hb0, hg, rest⟩
  · intro k hk; simp [OB, Value.ownBlock] at hk
  · intro k hk
    simp only [OB, Value.ownBlock, Option.some.injEq] at hk
    subst hk
    exact ⟨_, _, _, hg⟩
def IsC (w : World) (k : Nat) : Prop := ∃ C T fz, w.heap[k]? = some (.cells C T fz)
end
section
variable {P : Program} {ops : Array Oper} {Q : Exit → Act → World → Prop} {S : World → Prop} {fuel : Nat} {listed : Array Bool} {a : Act} {w : World}
end
end Cb


/- More of a range over a function: straight regions in a round; a loop in which such ranges stand: many marks at the way out. It speaks of no program. -/
set_option linter.unusedVariables false
namespace Cb
open Go Go.RowKit
section
variable {P : Program} {ops : Array Oper} {Q : Exit → Act → World → Prop} {n : Nat}
theorem listAt_of {r : Option Nat} : ∀ (rest : List Oper) (a : Act) (w : World), (∀ o ∈ rest, ∀ c, o.op ≠ .defer c) → wpList P ops (Only (Q .normal)) rest a w → wpListIn (wideAt r) n P ops Q rest a w
  | [], a, w, _, h => h
  | o :: rest, a, w, hd, h => by
    have ih := fun a w => listAt_of (r := r) rest a w (fun x hx => hd x (by simp [hx]))
    unfold wpList at h
    unfold wpListIn
    split at h
    · rename_i hw
      rw [if_pos hw]
      rcases h with h | h
      · exact oper_at (hd o (by simp)) (Oper.wp_mono ih h)
      · exact (only_out h.2).elim
    · rename_i hw
      rw [if_neg hw]
      exact ⟨fun f _ => trivial, ih _ _ h⟩
theorem lini_start {r : Option Nat} {id : Nat} {l : List Oper} {a : Act} {w : World} (hd : noDefer l.toArray = true) (h : wpList P l.toArray (Only (Q .normal)) l a w) :
    (Code.region id l.toArray false).wpIn (wideAt r) n P Q a w :=
  wpIn_region_lit (listAt_of l a w (fun o ho => by
    obtain ⟨i, hi, rfl⟩ := List.mem_iff_getElem.1 ho
    exact noDefer_spec hd (i := i) (by simp [hi])) h)
end
section
variable {P : Program} {fn : Func} {R : Ending → World → Prop} {n : Nat}
/-- The marks that ranges over functions left. -/
def marks (Ds : List Nat) : List Deferred := Ds.map fun D => { target := .collected D, args := #[] }
/-- Their blocks, none of which holds a call. -/
def Marked (w : World) (Ds : List Nat) : Prop := Ds.Nodup ∧ ∀ D ∈ Ds, w.heap[D]? = some (.deferred (some []))
theorem Marked.keep {w w' : World} {Ds : List Nat} {G : Nat → Prop} (h : Marked w Ds) (hc : Chg G w w') (hG : ∀ D ∈ Ds, ¬ G D) : Marked w' Ds := ⟨h.1, fun D hD => hc.obj (h.2 D hD) (hG D hD)⟩
theorem Marked.no {w w' : World} {Ds : List Nat} (h : Marked w Ds) (hc : Chg No w w') : Marked w' Ds := h.keep hc (fun _ _ f => f)
theorem Marked.lt {w : World} {Ds : List Nat} (h : Marked w Ds) : ∀ D ∈ Ds, D < w.heap.size := fun D hD => lt_of_heap (h.2 D hD)
theorem Marked.ne {w : World} {Ds : List Nat} (h : Marked w Ds) {k : Nat} (hk : IsC w k) : ∀ D ∈ Ds, D ≠ k := fun D hD e => by
  subst e
  obtain ⟨C, T, fz, hC⟩ := hk
  rw [h.2 D hD] at hC
  cases hC
theorem marks_retN {t : Array Value} {v : Value} : ∀ (Ds : List Nat) (w : World), Marked w Ds → (∀ W, Chg (fun k => k ∈ Ds) w W → (results fn t).run P W = .ok v W ∧ R (.returned v) W) → MPost P fn R .ret { tmps := t, defers := marks Ds } w
  | [], w, _, h => by
    obtain ⟨h1, h2⟩ := h w (Chg.refl _ _)
    exact marks_ret h1 h2
  | D :: Ds, w, hm, h => by
    have hD := hm.2 D (by simp)
    have hnd := List.nodup_cons.1 hm.1
    have hc : Chg (At D) w (w.putObj D (.deferred none)) := chg_put rfl
    have ih := marks_retN Ds (w.putObj D (.deferred none)) ⟨hnd.2, fun E hE => hc.obj (hm.2 E (by simp [hE])) (fun e => hnd.1 (by simp only [At] at e; subst e; exact hE))⟩
      (fun W hW => h W (hc.trans' hW (fun k _ g => by simp only [At] at g; simp [g]) (fun k _ g => by simp [g])))
    exact ⟨by simp, .inl ⟨_, _, rfl, run_takeDeferred hD, ih⟩⟩
end
/-- A loop whose body never leaves; the loop's variable is set. -/
theorem wp_rangeFunc_set {α : Type} {P : Program} {Q : Exit → Act → World → Prop} {a : Act} {w : World} {g : Operand} {ps : Array Tmp} {assign body : Code} {gf : Nat} {lb : Array Value}
    (hg : a.eval g = .func (.func gf) #[] lb) (eg : ∀ args w, (callFunc gf args).run P w = .ok (.enter gf args) w)
    {encs : α → Array Value} (Qk : World → Prop) {xs : List α} (hseq : SeqStopsK Fence.wide 8 P gf lb encs (fun A B => Qk A → Qk B) (fun ys => ys = xs) (fun _ => True) xs.length w)
    (hps : ∀ x, (encs x).size = ps.size)
    (I : List α → World → Prop) (hI : OwnFrom w.heap.size I) (hQk : ∀ (W W' : World) (row : Option Nat), Qk W → W.grownBy W' row → (∀ r, row = some r → w.heap.size ≤ r ∧ ∃ o : Obj, W.heap[r]? = some o ∧ o.isCells = false) → Qk W') (h0 : I [] w) (d : Nat) (V : α → Value)
    (hassign : ∀ (l : Nat) (pre : List α) (x : α) (W : World) (K : Act → World → Prop), I pre W →
        K { tmps := ((ps.zip (encs x)).foldl (fun t (p, v) => t.setIfInBounds p v) a.tmps).setIfInBounds d (V x), defers := [] } W →
      assign.wpIn (wideAt (some l)) 7 P (Exit.then K (fun _ _ _ => False)) { tmps := (ps.zip (encs x)).foldl (fun t (p, v) => t.setIfInBounds p v) a.tmps, defers := [] } W)
    (hbody : ∀ (l : Nat) (pre : List α) (x : α) (W : World), I pre W → pre.length < xs.length →
      body.wpIn (wideAt (some l)) 7 P (ownPostG w.heap.size (fun A B => Qk A → Qk B) I (fun _ _ _ => False) (pre ++ [x]) W) { tmps := ((ps.zip (encs x)).foldl (fun t (p, v) => t.setIfInBounds p v) a.tmps).setIfInBounds d (V x), defers := [] } W)
    (hdone : ∀ (D : Nat) (W : World), w.heap.size ≤ D → I xs W → W.heap[D]? = some (.deferred (some [])) → Q .normal { a with defers := { target := .collected D, args := #[] } :: a.defers } W) :
    (Code.rangeFunc g ps assign body).wp P Q a w :=
  wp_rangeFunc hg eg Qk hseq (fun W l o o' hl h hc q => hQk W _ (some l) q (grownBy_putObj' W l o') (fun r e => by cases e; exact ⟨hl, o, h, hc⟩)) hps I hI h0
    (fun x a' W => a' = { tmps := ((ps.zip (encs x)).foldl (fun t (p, v) => t.setIfInBounds p v) a.tmps).setIfInBounds d (V x), defers := [] })
    (fun x a' _ W W' row e _ _ => e)
    (fun l pre x W K hi hK => hassign l pre x W K hi (hK _ _ (KeepsFrom.refl _ _) (fun h => h) hi rfl))
    (fun l pre x a' W hi e hl => by subst e; exact hbody l pre x W hi hl) hdone
end Cb

