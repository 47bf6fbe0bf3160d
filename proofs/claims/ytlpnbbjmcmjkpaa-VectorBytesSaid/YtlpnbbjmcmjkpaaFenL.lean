/- More of a range over a function: straight regions in a round; a loop in which such ranges stand: many marks at the way out. It speaks of no program. -/
import Derived.Test.YtlpnbbjmcmjkpaaFen
import Derived.Test.YtlpnbbjmcmjkpaaRowO
set_option linter.unusedVariables false
namespace Cb
open Go Go.RowKit
section
variable {P : Program} {ops : Array Oper} {Q : Exit → Act → World → Prop} {n : Nat}
theorem listAt_of {r : Option Nat} : ∀ (rest : List Oper) (a : Act) (w : World), (∀ o ∈ rest, ∀ c, o.op ≠ .defer c) → wpList P ops (Only (Q .normal)) rest a w → wpListIn (wideAt r) n P ops Q rest a w
  | [], a, w, _, h => h
  | o :: rest, a, w, hd, h => by
    have ih := fun a w => listAt_of (r := r) rest a w (fun x hx => hd x (by simp [hx]))
    unfold wpList at h
    unfold wpListIn
    split at h
    · rename_i hw
      rw [if_pos hw]
      rcases h with h | h
      · exact oper_at (hd o (by simp)) (Oper.wp_mono ih h)
      · exact (only_out h.2).elim
    · rename_i hw
      rw [if_neg hw]
      exact ⟨fun f _ => trivial, ih _ _ h⟩
theorem lini_start {r : Option Nat} {id : Nat} {l : List Oper} {a : Act} {w : World} (hd : noDefer l.toArray = true) (h : wpList P l.toArray (Only (Q .normal)) l a w) :
    (Code.region id l.toArray false).wpIn (wideAt r) n P Q a w :=
  wpIn_region_lit (listAt_of l a w (fun o ho => by
    obtain ⟨i, hi, rfl⟩ := List.mem_iff_getElem.1 ho
    exact noDefer_spec hd (i := i) (by simp [hi])) h)
end
section
variable {P : Program} {fn : Func} {R : Ending → World → Prop} {n : Nat}
/-- The marks that ranges over functions left. -/
def marks (Ds : List Nat) : List Deferred := Ds.map fun D => { target := .collected D, args := #[] }
theorem marks_cons (D : Nat) (Ds : List Nat) : ({ target := .collected D, args := #[] } : Deferred) :: marks Ds = marks (D :: Ds) := rfl
/-- Their blocks, none of which holds a call. -/
def Marked (w : World) (Ds : List Nat) : Prop := Ds.Nodup ∧ ∀ D ∈ Ds, w.heap[D]? = some (.deferred (some []))
theorem Marked.keep {w w' : World} {Ds : List Nat} {G : Nat → Prop} (h : Marked w Ds) (hc : Chg G w w') (hG : ∀ D ∈ Ds, ¬ G D) : Marked w' Ds := ⟨h.1, fun D hD => hc.obj (h.2 D hD) (hG D hD)⟩
theorem Marked.no {w w' : World} {Ds : List Nat} (h : Marked w Ds) (hc : Chg No w w') : Marked w' Ds := h.keep hc (fun _ _ f => f)
theorem Marked.lt {w : World} {Ds : List Nat} (h : Marked w Ds) : ∀ D ∈ Ds, D < w.heap.size := fun D hD => lt_of_heap (h.2 D hD)
theorem Marked.ne {w : World} {Ds : List Nat} (h : Marked w Ds) {k : Nat} (hk : IsC w k) : ∀ D ∈ Ds, D ≠ k := fun D hD e => by
  subst e
  obtain ⟨C, T, fz, hC⟩ := hk
  rw [h.2 D hD] at hC
  cases hC
theorem marks_retN {t : Array Value} {v : Value} : ∀ (Ds : List Nat) (w : World), Marked w Ds → (∀ W, Chg (fun k => k ∈ Ds) w W → (results fn t).run P W = .ok v W ∧ R (.returned v) W) → MPost P fn R .ret { tmps := t, defers := marks Ds } w
  | [], w, _, h => by
    obtain ⟨h1, h2⟩ := h w (Chg.refl _ _)
    exact marks_ret h1 h2
  | D :: Ds, w, hm, h => by
    have hD := hm.2 D (by simp)
    have hnd := List.nodup_cons.1 hm.1
    have hc : Chg (At D) w (w.putObj D (.deferred none)) := chg_put rfl
    have ih := marks_retN Ds (w.putObj D (.deferred none)) ⟨hnd.2, fun E hE => hc.obj (hm.2 E (by simp [hE])) (fun e => hnd.1 (by simp only [At] at e; subst e; exact hE))⟩
      (fun W hW => h W (hc.trans' hW (fun k _ g => by simp only [At] at g; simp [g]) (fun k _ g => by simp [g])))
    exact ⟨by simp, .inl ⟨_, _, rfl, run_takeDeferred hD, ih⟩⟩
end
/-- A loop whose body never leaves; the loop's variable is set. -/
theorem wp_rangeFunc_set {α : Type} {P : Program} {Q : Exit → Act → World → Prop} {a : Act} {w : World} {g : Operand} {ps : Array Tmp} {assign body : Code} {gf : Nat} {lb : Array Value}
    (hg : a.eval g = .func (.func gf) #[] lb) (eg : ∀ args w, (callFunc gf args).run P w = .ok (.enter gf args) w)
    {encs : α → Array Value} (Qk : World → Prop) {xs : List α} (hseq : SeqStopsK Fence.wide 8 P gf lb encs (fun A B => Qk A → Qk B) (fun ys => ys = xs) (fun _ => True) xs.length w)
    (hps : ∀ x, (encs x).size = ps.size)
    (I : List α → World → Prop) (hI : OwnFrom w.heap.size I) (hQk : ∀ (W W' : World) (row : Option Nat), Qk W → W.grownBy W' row → (∀ r, row = some r → w.heap.size ≤ r ∧ ∃ o : Obj, W.heap[r]? = some o ∧ o.isCells = false) → Qk W') (h0 : I [] w) (d : Nat) (V : α → Value)
    (hassign : ∀ (l : Nat) (pre : List α) (x : α) (W : World) (K : Act → World → Prop), I pre W →
        K { tmps := ((ps.zip (encs x)).foldl (fun t (p, v) => t.setIfInBounds p v) a.tmps).setIfInBounds d (V x), defers := [] } W →
      assign.wpIn (wideAt (some l)) 7 P (Exit.then K (fun _ _ _ => False)) { tmps := (ps.zip (encs x)).foldl (fun t (p, v) => t.setIfInBounds p v) a.tmps, defers := [] } W)
    (hbody : ∀ (l : Nat) (pre : List α) (x : α) (W : World), I pre W → pre.length < xs.length →
      body.wpIn (wideAt (some l)) 7 P (ownPostG w.heap.size (fun A B => Qk A → Qk B) I (fun _ _ _ => False) (pre ++ [x]) W) { tmps := ((ps.zip (encs x)).foldl (fun t (p, v) => t.setIfInBounds p v) a.tmps).setIfInBounds d (V x), defers := [] } W)
    (hdone : ∀ (D : Nat) (W : World), w.heap.size ≤ D → I xs W → W.heap[D]? = some (.deferred (some [])) → Q .normal { a with defers := { target := .collected D, args := #[] } :: a.defers } W) :
    (Code.rangeFunc g ps assign body).wp P Q a w :=
  wp_rangeFunc hg eg Qk hseq (fun W l o o' hl h hc q => hQk W _ (some l) q (grownBy_putObj' W l o') (fun r e => by cases e; exact ⟨hl, o, h, hc⟩)) hps I hI h0
    (fun x a' W => a' = { tmps := ((ps.zip (encs x)).foldl (fun t (p, v) => t.setIfInBounds p v) a.tmps).setIfInBounds d (V x), defers := [] })
    (fun x a' _ W W' row e _ _ => e)
    (fun l pre x W K hi hK => hassign l pre x W K hi (hK _ _ (KeepsFrom.refl _ _) (fun h => h) hi rfl))
    (fun l pre x a' W hi e hl => by subst e; exact hbody l pre x W hi hl) hdone
end Cb
