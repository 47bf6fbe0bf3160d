/- Texts OrdC, OrdD, OrdE, Map, TerA, TerB, RegA, RegF, RegG. -/
import Derived.Test.YtbjpoamnglfjeaaMg5
import Derived.OwnWalkIn
import Derived.TacticsInMore
import Derived.LoopNIn
import Derived.LoopIn
import Derived.Shelf.Abstract
import Derived.Shelf.RegionOpen
import Derived.RangeFuncNested
import Derived.RangeFuncBound
import Derived.RangeFuncCalls
import Derived.RangeFuncLeaves
import Derived.OrdersIn
import Derived.TacticsIn
/- Walks of package order: New; the runs that a cut brings, told one by one. -/
set_option linter.unusedVariables false
set_option linter.unusedSimpArgs false
namespace Go.Proofs.Ytbjpoamnglfjeaa
open Go.RowKit Cb
attribute [local go_sem] Oper.semAt_some

/-- What the iterator reads between two rounds. -/
structure BrQ (B p q2 q3 : Nat) (lv vv : Value) (last v : List Int) (W : World) : Prop where
  c2 : W.cell? ⟨q2, 0, none⟩ = some (.pointer (some ⟨p, 0, none⟩))
  c3 : W.cell? ⟨q3, 0, none⟩ = some vv
  cp : W.cell? ⟨p, 0, none⟩ = some lv
  sl : Sl (Ge B) W lv last
  sv : Sl (Ge B) W vv v
  sz : B ≤ W.heap.size
theorem BrQ.keepNo {B p q2 q3 : Nat} {lv vv : Value} {last v : List Int} {W W' : World} (h : BrQ B p q2 q3 lv vv last v W) (hc : Chg No W W') : BrQ B p q2 q3 lv vv last v W' :=
  ⟨hc.cell h.c2 (not_no _), hc.cell h.c3 (not_no _), hc.cell h.cp (not_no _), h.sl.keepNo hc, h.sv.keepNo hc, Nat.le_trans h.sz hc.size⟩
end Go.Proofs.Ytbjpoamnglfjeaa


/- Walks of package order: Add. -/
set_option linter.unusedVariables false
set_option linter.unusedSimpArgs false
namespace Go.Proofs.Ytbjpoamnglfjeaa
open Go.RowKit Cb
attribute [local go_sem] Oper.semAt_some

def In (lo hi : Nat) : Nat → Prop := fun k => lo ≤ k ∧ k < hi
/-- An order whose runs are being appended to: its other rows lie below B, the runs below h0 or from B on. -/
structure OrdL (W : World) (lo h0 B p : Nat) (lv rv av : Value) (st : OSt) : Prop where
  obj : W.heap[p]? = some (.cells #[lv, rv, av] 122 (0, 0))
  hp : lo ≤ p ∧ p < h0
  hB : h0 ≤ B ∧ B ≤ W.heap.size
  sl : Sl (fun k => k < lo ∨ B ≤ k ∨ k = p ∨ OB rv k ∨ OB av k) W lv st.last
  rr : (Cb.Own No W lo 124 rv st.runs ∧ ∀ k, OB rv k → k ≠ p ∧ ¬ OB av k) ∨ (Sl (fun k => k < lo ∨ B ≤ k ∨ k = p ∨ OB av k) W rv st.runs ∧ ∃ A n, rv = .slice A n n)
  ra : RowT (fun k => k < lo ∨ B ≤ k ∨ k = p ∨ OB rv k) W lo 3 av st.after
  rb : ∀ k, OB rv k → (k < h0 ∨ B ≤ k) ∧ k < W.heap.size
  ab : ∀ k, OB av k → k < h0
theorem OrdL.ord {W : World} {lo h0 B p : Nat} {lv rv av : Value} {st : OSt} (h : OrdL W lo h0 B p lv rv av st) : OrdV W lo W.heap.size p lv rv av st where
  obj := h.obj
  hp := ⟨h.hp.1, by have := h.hp.2; have := h.hB; omega⟩
  hhi := Nat.le_refl _
  sl := h.sl.weak (fun b hb g => by rcases g with g | g | g; exact .inl g; omega; exact .inr (.inr g))
  rr := by
    rcases h.rr with ⟨h1, h2⟩ | ⟨h1, h2⟩
    · exact .inl ⟨h1, fun k hk g => by
        have := h1.lt k hk
        rcases g with g | g | g | g
        · omega
        · omega
        · exact (h2 k hk).1 g
        · exact (h2 k hk).2 g⟩
    · exact .inr ⟨h1.weak (fun b hb g => by rcases g with g | g | g; exact .inl g; omega; exact .inr (.inr g)), h2⟩
  ra := h.ra.weak (fun b hb g => by rcases g with g | g | g; exact .inl g; omega; exact .inr (.inr g))
  ob := fun k hk => by
    rcases hk with hk | hk
    · exact (h.rb k hk).2
    · have := h.ab k hk; have := h.hB; omega
theorem OrdL.row {W : World} {lo h0 B p : Nat} {lv rv av : Value} {st : OSt} (h : OrdL W lo h0 B p lv rv av st) : RowT (fun k => k < lo ∨ W.heap.size ≤ k ∨ k = p ∨ OB av k) W lo 124 rv st.runs := h.ord.rr
theorem OrdL.keepNo {W W' : World} {lo h0 B p : Nat} {lv rv av : Value} {st : OSt} (h : OrdL W lo h0 B p lv rv av st) (hc : Chg No W W') : OrdL W' lo h0 B p lv rv av st where
  obj := hc.obj h.obj (not_no _)
  hp := h.hp
  hB := ⟨h.hB.1, Nat.le_trans h.hB.2 hc.size⟩
  sl := h.sl.keepNo hc
  rr := by
    rcases h.rr with ⟨h1, h2⟩ | ⟨h1, h2⟩
    · exact .inl ⟨h1.keepFlat hc (fun _ _ f => f), h2⟩
    · exact .inr ⟨h1.keepNo hc, h2⟩
  ra := h.ra.keepNo hc
  rb := fun k hk => ⟨(h.rb k hk).1, Nat.lt_of_lt_of_le (h.rb k hk).2 hc.size⟩
  ab := h.ab
/-- Between two rounds of Add's loop. -/
def AddI (w : World) (lo hi B p q2 q3 qa qb : Nat) (lv av vv : Value) (cut : List Int) (E : Array Value) (st : OSt) (pre : List Rn) (W : World) : Prop :=
  ∃ rv, OrdL W lo hi B p lv rv av ⟨st.last, st.runs ++ pre, st.after⟩ ∧ W.heap[q2]? = some (.cells #[.pointer (some ⟨p, 0, none⟩)] 25 (0, 0)) ∧ W.heap[q3]? = some (.cells E 58 (0, 0)) ∧
    W.heap[qa]? = some (.cells #[.pointer (some ⟨p, 0, none⟩)] 25 (0, 0)) ∧ W.heap[qb]? = some (.cells #[vv] 46 (0, 0)) ∧ Sl (Ge lo) W vv cut ∧ Chg (In lo hi) w W
section
variable {w W W' : World} {lo hi B p q2 q3 qa qb : Nat} {lv av vv : Value} {cut : List Int} {E : Array Value} {st : OSt} {pre : List Rn}
theorem AddI.no (h : AddI w lo hi B p q2 q3 qa qb lv av vv cut E st pre W) (hc : Chg No W W') : AddI w lo hi B p q2 q3 qa qb lv av vv cut E st pre W' := by
  obtain ⟨rv, h1, h2, h3, h4, h5, h6, h7⟩ := h
  exact ⟨rv, h1.keepNo hc, hc.obj h2 (not_no _), hc.obj h3 (not_no _), hc.obj h4 (not_no _), hc.obj h5 (not_no _), h6.keepNo hc, h7.trans hc.of_no⟩
end
end Go.Proofs.Ytbjpoamnglfjeaa


/- Walks of package order and of its laws: entries in memory, mine, few, Of. -/
set_option linter.unusedVariables false
set_option linter.unusedSimpArgs false
namespace Go.Proofs.Ytbjpoamnglfjeaa
open Go.RowKit Cb

/-- An entry's cells. -/
def entC (e : Ent) (v : Value) : List Value := [.int .i64 e.1, .int .i64 e.2.1, v, .int .i64 e.2.2.2.1, .int .i64 e.2.2.2.2.1, .int .i64 e.2.2.2.2.2]
theorem ent_cs {F : Nat → Prop} {w : World} {e : Ent} {d : List Value} (h : Rep.cs F w e d) : ∃ v, d = entC e v ∧ Sl F w v e.2.2.1 := by
  obtain ⟨d1, d2, rfl, rfl, ⟨d3, d4, rfl, rfl, ⟨d5, d6, rfl, ⟨v, rfl, hv⟩, ⟨d7, d8, rfl, rfl, ⟨d9, d10, rfl, rfl, rfl⟩⟩⟩⟩⟩ := h
  exact ⟨v, rfl, hv⟩
theorem ent_mk {F : Nat → Prop} {w : World} (e : Ent) {v : Value} (h : Sl F w v e.2.2.1) : Rep.cs F w e (entC e v) :=
  ⟨[_], _, rfl, rfl, [_], _, rfl, rfl, [_], _, rfl, ⟨v, rfl, h⟩, [_], _, rfl, rfl, [_], [_], rfl, rfl, rfl⟩
theorem ent_n : Rep.n Ent = 6 := rfl
theorem info_ent : Info Try.prog 58 (.agg #[.int .i64 0, .int .i64 0, .slice none 0 0, .int .i64 0, .int .i64 0, .int .i64 0]) 6 64 := by unfold Info; kernel_rfl
/-- One entry of a row. -/
theorem ent_get {F : Nat → Prop} {w : World} {A : Option Addr} {n c : Nat} {l : List Ent} (h : Sl F w (.slice A n c) l) (k : Nat) (hk : k < l.length) :
    ∃ b o v, A = some ⟨b, o, none⟩ ∧ ¬ F b ∧ b < w.heap.size ∧ Sl F w v l[k].2.2.1 ∧ w.cell? ⟨b, o + k * 6, none⟩ = some (.int .i64 l[k].1) ∧ w.cell? ⟨b, o + k * 6 + 1, none⟩ = some (.int .i64 l[k].2.1) ∧ w.cell? ⟨b, o + k * 6 + 2, none⟩ = some v ∧
      w.cell? ⟨b, o + k * 6 + 3, none⟩ = some (.int .i64 l[k].2.2.2.1) ∧ w.cell? ⟨b, o + k * 6 + 4, none⟩ = some (.int .i64 l[k].2.2.2.2.1) ∧ w.cell? ⟨b, o + k * 6 + 5, none⟩ = some (.int .i64 l[k].2.2.2.2.2) := by
  obtain ⟨b, o, d, rfl, hF, hb, hd, ha⟩ := h.get k hk
  obtain ⟨v, rfl, hv⟩ := ent_cs hd
  exact ⟨b, o, v, rfl, hF, hb, hv, ha 0 _ rfl, ha 1 _ rfl, ha 2 _ rfl, ha 3 _ rfl, ha 4 _ rfl, ha 5 _ rfl⟩
theorem Sl.up {α : Type} [Rep α] {w : World} {v : Value} {xs : List α} (h : Sl No w v xs) {n : Nat} (hn : w.heap.size ≤ n) : Sl (Ge n) w v xs := h.weak (fun b hb g => by simp only [Ge] at g; omega)

end Go.Proofs.Ytbjpoamnglfjeaa


/- Maps: what a map holds, in the order in which its keys came; lookup, store, delete, len. They speak of no program. -/
set_option linter.unusedVariables false
set_option linter.unusedSimpArgs false
namespace Cb
open Go
variable {κ : Type} {β : Type} {P : Program} {w : World}

/-- Block r is a map that holds these keys and values. -/
def MapAt (w : World) (r : Nat) (kv : κ → Value) (vv : β → Value) (m : List (κ × β)) : Prop :=
  ∃ (es : Array MapEntry) (clk : Nat), w.heap[r]? = some (.map es clk) ∧ es.toList.map (fun e => (e.key, e.val)) = m.map (fun x => (kv x.1, vv x.2)) ∧
    es.toList.Pairwise (fun a b => a.born < b.born) ∧ ∀ e ∈ es.toList, e.born < clk
theorem MapAt.keep {kv : κ → Value} {vv : β → Value} {m : List (κ × β)} {F : Nat → Prop} {w' : World} {r : Nat} (h : MapAt w r kv vv m) (hc : Chg F w w') (hF : ¬ F r) : MapAt w' r kv vv m := by
  obtain ⟨es, clk, hh, h⟩ := h
  exact ⟨es, clk, hc.obj hh hF, h⟩
theorem MapAt.lt {kv : κ → Value} {vv : β → Value} {m : List (κ × β)} {r : Nat} (h : MapAt w r kv vv m) : r < w.heap.size := by
  obtain ⟨es, clk, hh, _⟩ := h; exact lt_of_heap hh
theorem MapAt.made (w : World) (kv : κ → Value) (vv : β → Value) : MapAt (w.alloc (.map #[] 0)) w.heap.size kv vv [] :=
  ⟨#[], 0, alloc_obj _ _, rfl, List.Pairwise.nil, fun _ h => by simp at h⟩

/-- What the model asks of keys of one type, all answered. -/
structure KeyLaw [DecidableEq κ] (P : Program) (K : TypeId) (kv : κ → Value) : Prop where
  check : ∀ b k w, (Instr.checkKey b 10000 K (kv k)).run P w = .ok () w
  same : ∀ k, Instr.sameBits 10000 (kv k) (kv k) = true
  find : ∀ k (ks : List κ) (es : List MapEntry) w, es.map (·.key) = ks.map kv → (Instr.findKey K (kv k) es).run P w = .ok ((ks.findIdx? (fun x => decide (x = k))).map (fun i => (i, (es.getD i default).val))) w

def mget [DecidableEq κ] (m : List (κ × β)) (k : κ) : Option β := (m.find? (fun x => decide (x.1 = k))).map (·.2)
def mset [DecidableEq κ] : List (κ × β) → κ → β → List (κ × β)
  | [], k, b => [(k, b)]
  | x :: m, k, b => if x.1 = k then (k, b) :: m else x :: mset m k b
theorem mget_mset [DecidableEq κ] (m : List (κ × β)) (k k' : κ) (b : β) : mget (mset m k b) k' = if k' = k then some b else mget m k' := by
  induction m with
  | nil => simp only [mset, mget, List.find?_cons, List.find?_nil]; by_cases h : k = k'; subst h; simp; rw [if_neg (fun e => h e.symm)]; simp [h]
  | cons x m ih =>
    obtain ⟨a, c⟩ := x
    simp only [mset]
    by_cases h : a = k
    · subst h
      rw [if_pos rfl]
      simp only [mget, List.find?_cons]
      by_cases h' : a = k'
      · subst h'; simp
      · rw [if_neg (fun e => h' e.symm)]; simp [h']
    · rw [if_neg h]
      simp only [mget, List.find?_cons] at ih ⊢
      by_cases h' : a = k'
      · subst h'; simp [h]
      · simpa [h'] using ih

theorem findIdx_mget [DecidableEq κ] (m : List (κ × β)) (k : κ) : ((m.map (·.1)).findIdx? (fun x => decide (x = k))) = none ∧ mget m k = none ∨
    ∃ i b, (m.map (·.1)).findIdx? (fun x => decide (x = k)) = some i ∧ m[i]? = some (k, b) ∧ mget m k = some b ∧ mset m k = fun c => m.set i (k, c) := by
  induction m with
  | nil => left; simp [mget]
  | cons x m ih =>
    obtain ⟨a, c⟩ := x
    by_cases h : a = k
    · right
      subst h
      exact ⟨0, c, by simp [List.findIdx?_cons], rfl, by simp [mget], by funext d; simp [mset]⟩
    · rcases ih with ⟨h1, h2⟩ | ⟨i, b, h1, h2, h3, h4⟩
      · left
        simp only [List.map_cons, List.findIdx?_cons, h, decide_false, Bool.false_eq_true, if_false, h1, mget, List.find?_cons] at h2 ⊢
        exact ⟨rfl, h2⟩
      · right
        refine ⟨i + 1, b, ?_, by simpa using h2, ?_, ?_⟩
        · simp only [List.map_cons, List.findIdx?_cons, h, decide_false, Bool.false_eq_true, if_false, h1]; rfl
        · simp only [mget, List.find?_cons, h, decide_false] at h3 ⊢; exact h3
        · funext d; simp only [mset, h, if_false, List.set_cons_succ, h4]
theorem mset_new [DecidableEq κ] (m : List (κ × β)) (k : κ) (b : β) (h : mget m k = none) : mset m k b = m ++ [(k, b)] := by
  induction m with
  | nil => rfl
  | cons x m ih =>
    obtain ⟨a, c⟩ := x
    by_cases h' : a = k
    · subst h'; simp [mget] at h
    · simp only [mget, List.find?_cons, h', decide_false] at h
      simp only [mset, h', if_false, List.cons_append]; rw [ih h]

theorem keyLaw_int {K : TypeId} {q : IntKind} (hK : P.underlying K = some (.int q)) : KeyLaw P K (Value.int q) where
  check b k w := by rw [show (10000 : Nat) = 9999 + 1 from rfl, Instr.checkKey]; simp only [Sem.run_bind, run_underlying hK, Result.andThen_ok, Sem.run_pure]
  same k := by rw [show (10000 : Nat) = 9999 + 1 from rfl]; simp only [Instr.sameBits, beq_self_eq_true, Bool.and_self]
  find k ks es w he := by
    have key : ∀ (es : List MapEntry) (ks : List Int) (i : Nat), es.map (·.key) = ks.map (Value.int q) →
        Instr.findNow (.int q) (.int q k) es i = some ((ks.findIdx? (fun x => decide (x = k))).map (fun j => (i + j, (es.getD j default).val))) := by
      intro es
      induction es with
      | nil => intro ks i h; obtain rfl : ks = [] := by simpa using h.symm
               simp [Instr.findNow]
      | cons e es ih =>
        intro ks i h
        cases ks with
        | nil => simp at h
        | cons x ks =>
          simp only [List.map_cons, List.cons.injEq] at h
          simp only [Instr.findNow, h.1, Instr.sameNow, if_true]
          by_cases hx : x = k
          · subst hx; simp [List.findIdx?_cons]
          · have : (k == x) = false := by simp; exact fun h => hx h.symm
            rw [this]; simp only
            rw [ih ks (i + 1) h.2]
            simp only [List.findIdx?_cons, hx, decide_false, Bool.false_eq_true, if_false, Option.map_map]
            congr 1
            cases ks.findIdx? (fun x => decide (x = k)) with
            | none => rfl
            | some j => simp; omega
    simp only [Instr.findKey, Sem.run_bind, run_underlying hK, Result.andThen_ok, key es ks 0 he]
    simp

theorem run_getObj {r : Nat} {es : Array MapEntry} {clk : Nat} (h : w.heap[r]? = some (.map es clk)) : (getObj r).run P w = .ok (.map es clk) w := by
  unfold getObj; simp only [Sem.run, h]
theorem run_setObj {r : Nat} {es : Array MapEntry} {clk : Nat} (h : w.heap[r]? = some (.map es clk)) (o : Obj) : (setObj r o).run P w = .ok () { w with heap := w.heap.setIfInBounds r o } := by
  unfold setObj; simp only [Sem.run, h]
/-- v, ok := m[k] and v := m[k]. -/
theorem run_lookup [DecidableEq κ] {T K E : TypeId} {kv : κ → Value} {vv : β → Value} {m : List (κ × β)} {r : Nat} {z : Value} (KL : KeyLaw P K kv) (hT : P.underlying T = some (.map K E)) (hz : (P.info? E).bind (·.zero) = some z)
    (h : MapAt w r kv vv m) (k : κ) (ok : Bool) :
    (Instr.lookup T (.map (some r)) (kv k) ok).run P w = .ok (if ok then .tuple #[((mget m k).map vv).getD z, .bool (mget m k).isSome] else ((mget m k).map vv).getD z) w := by
  obtain ⟨es, clk, hh, hm, _⟩ := h
  have hk : es.toList.map (·.key) = (m.map (·.1)).map kv := by
    have := congrArg (List.map (·.1)) hm; simpa [List.map_map, Function.comp_def] using this
  have hf := KL.find k (m.map (·.1)) es.toList w hk
  have hzero : (zeroValue E).run P w = .ok z w := by
    cases hi : P.info? E with
    | none => simp [hi] at hz
    | some i => simp [hi] at hz; simp [zeroValue, typeInfo, hi, hz]
  rcases findIdx_mget m k with ⟨h1, h2⟩ | ⟨i, b, h1, h2, h3, _⟩
  · rw [h1] at hf
    cases ok <;> simp only [Instr.lookup, Sem.run_bind, run_underlying hT, Result.andThen_ok, run_getObj hh, Sem.run_pure, KL.check, hf, hzero, h2, Option.map_none, Option.getD_none, Option.isSome_none, if_true, Bool.false_eq_true, if_false]
  · rw [h1] at hf
    have hv : (es.toList.getD i default).val = vv b := by
      have := congrArg (fun l => l[i]?) hm
      simp only [List.getElem?_map, h2, Option.map_some] at this
      cases he : es.toList[i]? with
      | none => rw [he] at this; simp at this
      | some e =>
        rw [he] at this
        simp only [Option.map_some, Option.some.injEq, Prod.mk.injEq] at this
        rw [List.getD_eq_getElem?_getD, he]; exact this.2
    rw [Option.map_some, hv] at hf
    cases ok <;> simp only [Instr.lookup, Sem.run_bind, run_underlying hT, Result.andThen_ok, run_getObj hh, Sem.run_pure, KL.check, hf, h3, Option.map_some, Option.getD_some, Option.isSome_some, if_true, Bool.false_eq_true, if_false]

/-- m[k] = v. -/
theorem run_update [DecidableEq κ] {T K E : TypeId} {kv : κ → Value} {vv : β → Value} {m : List (κ × β)} {r : Nat} (KL : KeyLaw P K kv) (hT : P.underlying T = some (.map K E))
    (h : MapAt w r kv vv m) (k : κ) (b : β) :
    ∃ w', (Instr.mapUpdate T (.map (some r)) (kv k) (vv b)).run P w = .ok () w' ∧ MapAt w' r kv vv (mset m k b) ∧ Chg (At r) w w' := by
  obtain ⟨es, clk, hh, hm, hb, hc⟩ := h
  have hk : es.toList.map (·.key) = (m.map (·.1)).map kv := by
    have := congrArg (List.map (·.1)) hm; simpa [List.map_map, Function.comp_def] using this
  have hf := KL.find k (m.map (·.1)) es.toList w hk
  have hlt := lt_of_heap hh
  have hchg : ∀ o, Chg (At r) w { w with heap := w.heap.setIfInBounds r o } := fun o =>
    ⟨rfl, rfl, rfl, by simp, fun i _ hn => by simp only [Array.getElem?_setIfInBounds]; rw [if_neg (fun e => hn e.symm)]⟩
  have hat : ∀ o, ({ w with heap := w.heap.setIfInBounds r o } : World).heap[r]? = some o := fun o => by
    simp [hlt]
  rcases findIdx_mget m k with ⟨h1, h2⟩ | ⟨i, c, h1, h2, h3, h4⟩
  · rw [h1] at hf
    refine ⟨_, by simp only [Instr.mapUpdate, Sem.run_bind, run_underlying hT, Result.andThen_ok, run_getObj hh, KL.check, hf, Option.map_none, run_setObj hh]; rfl, ⟨_, _, hat _, ?_, ?_, ?_⟩, hchg _⟩
    · rw [mset_new m k b h2]; simp [hm]
    · simp only [Array.toList_push, List.pairwise_append, List.pairwise_cons, List.mem_singleton]
      exact ⟨hb, ⟨by simp, List.Pairwise.nil⟩, fun a ha x hx => by subst hx; exact hc a ha⟩
    · intro e he
      simp only [Array.toList_push, List.mem_append, List.mem_singleton] at he
      rcases he with he | rfl
      · have := hc e he; omega
      · simp
  · rw [h1] at hf
    have hei : ∃ e, es.toList[i]? = some e ∧ e.key = kv k := by
      have := congrArg (fun l => l[i]?) hm
      simp only [List.getElem?_map, h2, Option.map_some] at this
      cases he : es.toList[i]? with
      | none => rw [he] at this; simp at this
      | some e =>
        rw [he] at this
        simp only [Option.map_some, Option.some.injEq, Prod.mk.injEq] at this
        exact ⟨e, rfl, this.1⟩
    obtain ⟨e, he, hek⟩ := hei
    have hea : es[i]? = some e := by simpa using he
    refine ⟨_, by simp only [Instr.mapUpdate, Sem.run_bind, run_underlying hT, Result.andThen_ok, run_getObj hh, KL.check, hf, Option.map_some, Instr.keyThatStays, hea, hek, Option.getD_some, KL.same, if_true, Sem.run_pure, run_setObj hh]; rfl, ⟨_, _, hat _, ?_, ?_, ?_⟩, hchg _⟩
    · rw [h4]
      have hset : (es.modify i fun e => { e with key := kv k, val := vv b }).toList = es.toList.set i { e with key := kv k, val := vv b } := by
        apply List.ext_getElem?
        intro j
        simp only [Array.getElem?_toList, Array.getElem?_modify, List.getElem?_set]
        by_cases hij : i = j
        · subst hij
          have : i < es.toList.length := (List.getElem?_eq_some_iff.1 he).1
          simp [hea, this]
          simpa using this
        · simp [hij]
      rw [hset, List.map_set, hm, List.map_set]
    · have hset : (es.modify i fun e => { e with key := kv k, val := vv b }).toList.map (·.born) = es.toList.map (·.born) := by
        apply List.ext_getElem?
        intro j
        simp only [List.getElem?_map, Array.getElem?_toList, Array.getElem?_modify]
        split <;> simp
        cases es[j]? <;> rfl
      have h' : ∀ (l : List MapEntry), l.Pairwise (fun a b => a.born < b.born) ↔ (l.map (·.born)).Pairwise (· < ·) := fun l => by rw [List.pairwise_map]
      rw [h', hset, ← h']; exact hb
    · intro x hx
      have hmem : x.born ∈ (es.modify i fun e => { e with key := kv k, val := vv b }).toList.map (·.born) := List.mem_map.2 ⟨x, hx, rfl⟩
      have hset : (es.modify i fun e => { e with key := kv k, val := vv b }).toList.map (·.born) = es.toList.map (·.born) := by
        apply List.ext_getElem?
        intro j
        simp only [List.getElem?_map, Array.getElem?_toList, Array.getElem?_modify]
        split <;> simp
        cases es[j]? <;> rfl
      rw [hset] at hmem
      obtain ⟨y, hy, e⟩ := List.mem_map.1 hmem
      rw [← e]; exact hc y hy

section
variable {Q : Exit → Act → World → Prop} {a : Act} {OPS : Array Oper} {rest : List Oper}
theorem step_unit {o : Oper} {w' : World} (hg : o.guard = none) (hr : (execOp a.eval o).run P w = .ok .skip w')
    (h : wpList P OPS Q rest (a.put o.dst undef) w') : wpList P OPS Q (o :: rest) a w :=
  wpList_plain hg fun K hK => by unfold Oper.wp; rw [hr]; exact hK _ _ h
theorem run_update_op [DecidableEq κ] {o : Oper} {x y v : Operand} {T K E : TypeId} {kv : κ → Value} {vv : β → Value} {m : List (κ × β)} {r : Nat} (ho : o.op = .mapUpdate T x y v)
    (KL : KeyLaw P K kv) (hT : P.underlying T = some (.map K E)) (h : MapAt w r kv vv m) (k : κ) (b : β) (hx : a.eval x = .map (some r)) (hy : a.eval y = kv k) (hv : a.eval v = vv b) :
    ∃ w', (execOp a.eval o).run P w = .ok .skip w' ∧ MapAt w' r kv vv (mset m k b) ∧ Chg (At r) w w' := by
  obtain ⟨w', hr, h1, h2⟩ := run_update KL hT h k b
  exact ⟨w', by simp only [execOp, ho, hx, hy, hv, Sem.run_bind, hr, Result.andThen_ok, Sem.run_pure], h1, h2⟩
theorem step_update [DecidableEq κ] {d : Option Tmp} {x y v : Operand} {ty T K E : TypeId} {p : String} {af : Array Edge} {kv : κ → Value} {vv : β → Value} {m : List (κ × β)} {r : Nat}
    (KL : KeyLaw P K kv) (hT : P.underlying T = some (.map K E)) (h : MapAt w r kv vv m) (k : κ) (b : β) (hx : a.eval x = .map (some r)) (hy : a.eval y = kv k) (hv : a.eval v = vv b)
    (hk : ∀ w', MapAt w' r kv vv (mset m k b) → Chg (At r) w w' → wpList P OPS Q rest (a.put d undef) w') :
    Stop (wpList P OPS Q (⟨d, .mapUpdate T x y v, ty, p, af, none⟩ :: rest) a w) := by
  obtain ⟨w', hr, h1, h2⟩ := run_update_op (a := a) (o := ⟨d, .mapUpdate T x y v, ty, p, af, none⟩) rfl KL hT h k b hx hy hv
  exact step_unit rfl hr (hk w' h1 h2)
end
section
variable {ops : Array Oper} {Q : Exit → Act → World → Prop} {S : World → Prop} {fuel : Nat} {listed : Array Bool} {a : Act}
end
end Cb


/- Walks of package term: which nodes are unlike, which configurations may be. -/
set_option linter.unusedVariables false
set_option linter.unusedSimpArgs false
namespace Go.Proofs.Ytbjpoamnglfjeaa
open Go.RowKit Cb

def NodesP (xs : List Int) : Prop := (∀ x ∈ xs, 0 ≤ x ∧ x < 16) ∧ xs.Nodup
instance (xs : List Int) : Decidable (NodesP xs) := by unfold NodesP; exact inferInstance
def nodesB (xs : List Int) : Bool := decide (NodesP xs)
theorem nodes_nil : nodesB [] = true := by simp [nodesB, NodesP]
theorem nodes_out {xs : List Int} {x : Int} (h : x ∈ xs) (hx : ¬ (0 ≤ x ∧ x < 16)) : nodesB xs = false := decide_eq_false (fun hp => hx (hp.1 x h))
theorem nodes_dup {xs : List Int} {k : Nat} (hk : k < xs.length) (h : xs[k] ∈ xs.take k) : nodesB xs = false := decide_eq_false (fun hp => by
  obtain ⟨i, hi, e⟩ := List.mem_iff_getElem.1 h
  rw [List.length_take] at hi
  rw [List.getElem_take] at e
  exact (List.pairwise_iff_getElem.1 (List.nodup_iff_pairwise_ne.1 hp.2)) i k (by omega) hk (by omega) e)
theorem nodes_step {xs : List Int} {k : Nat} (hk : k < xs.length) (h : nodesB (xs.take k) = true) (hx : 0 ≤ xs[k] ∧ xs[k] < 16) (hn : xs[k] ∉ xs.take k) : nodesB (xs.take (k + 1)) = true := by
  obtain ⟨h1, h2⟩ := of_decide_eq_true h
  refine decide_eq_true ⟨?_, ?_⟩
  · rw [List.take_succ_eq_append_getElem hk]
    intro x hx'
    rcases List.mem_append.1 hx' with h' | h'
    · exact h1 x h'
    · rw [List.mem_singleton.1 h']; exact hx
  · rw [List.take_succ_eq_append_getElem hk, List.nodup_append]
    refine ⟨h2, by simp, ?_⟩
    intro a ha b hb
    rw [List.mem_singleton.1 hb]
    intro e
    rw [e] at ha
    exact hn ha
theorem intT_get {F : Nat → Prop} {w : World} {A : Option Addr} {n c : Nat} {l : List Int} (h : Sl F w (.slice A n c) l) (k : Nat) (hk : k < l.length) :
    ∃ b o, A = some ⟨b, o, none⟩ ∧ ¬ F b ∧ b < w.heap.size ∧ w.cell? ⟨b, o + k, none⟩ = some (.int .i64 l[k]) := by
  obtain ⟨b, o, d, rfl, hF, hb, rfl, ha⟩ := h.get k hk
  refine ⟨b, o, rfl, hF, hb, ?_⟩
  have := ha 0 _ rfl
  simpa [show Rep.n Int = 1 from rfl] using this
theorem rowT_get {F : Nat → Prop} {w : World} {A : Option Addr} {n c : Nat} {l : List (List Int)} (h : Sl F w (.slice A n c) l) (k : Nat) (hk : k < l.length) :
    ∃ b o v, A = some ⟨b, o, none⟩ ∧ ¬ F b ∧ b < w.heap.size ∧ w.cell? ⟨b, o + k, none⟩ = some v ∧ Sl F w v l[k] := by
  obtain ⟨b, o, d, rfl, hF, hb, ⟨v, rfl, hv⟩, ha⟩ := h.get k hk
  refine ⟨b, o, v, rfl, hF, hb, ?_, hv⟩
  have := ha 0 _ rfl
  simpa [show Rep.n (List Int) = 1 from rfl] using this
theorem klN : KeyLaw Try.prog 3 (Value.int .i64) := keyLaw_int Try.underlying3
theorem zBoolN : (Try.prog.info? 4).bind (·.zero) = some (.bool false) := by kernel_rfl
def MetP (m : List (Int × Bool)) (xs : List Int) : Prop := ∀ x, (mget m x).getD false = decide (x ∈ xs)
theorem met_nil : MetP [] [] := fun x => by simp [mget]
theorem met_set {m : List (Int × Bool)} {xs : List Int} (h : MetP m xs) (y : Int) : MetP (mset m y true) (xs ++ [y]) := fun x => by
  rw [mget_mset]
  split
  · rename_i e; subst e; simp
  · rename_i e; rw [h x]; simp [e]
theorem run_met {w : World} {r : Nat} {m : List (Int × Bool)} {xs : List Int} (h : MapAt w r (.int .i64) .bool m) (hm : MetP m xs) (x : Int) :
    (Instr.lookup 173 (.map (some r)) (.int .i64 x) false).run Try.prog w = .ok (.bool (decide (x ∈ xs))) w := by
  have := run_lookup klN Try.underlying173 zBoolN h x false
  rw [this, ← hm x]
  cases mget m x <;> rfl
set_option maxRecDepth 100000 in
set_option maxHeartbeats 1000000 in
theorem tunlike_any (F : Nat → Prop) (v : Value) (xs : List Int) (w : World) (hs : Sl F w v xs) (hl : xs.length * 8 ≤ 140737488355328) :
    Calls Try.prog 84 #[v] w fun e w' => e = .returned (.bool (nodesB xs)) ∧ Chg No w w' := by
  have Hs := Lib.hid (fun W (hW : Chg No w W) => hs.keepNo hW)
  obtain ⟨A, c, rfl⟩ := hs.slice
  clear hs
  have hmm := @run_makeMap Try.prog
  go_enter Try.func84, Try.ntmps84
  go_wp2_with (with_reducible first | refine stop_append ?_ | refine stop_copy ?_ | refine stop_make ?_ | refine stop_lookup ?_ | refine stop_update ?_ | refine stop_slice ?_ | refine stop_range ?_ | refine stop_next ?_ | refine stop_convert ⟨_, rfl⟩ ?_ | refine stop_convertB ⟨_, _, _, rfl⟩ ?_ | refine stop_eqSlice ⟨_, _, rfl⟩ ?_)
  have hm0 := MapAt.made w (.int .i64) Value.bool (κ := Int) (β := Bool)
  have hc0 := (Chg.refl No w).alloc (.map #[] 0)
  generalize w.alloc (.map #[] 0) = w0 at *
  obtain ⟨r, hr⟩ : ∃ r, r = w.heap.size := ⟨_, rfl⟩
  rw [← hr] at hm0 ⊢
  have Hr := Lib.hid hr
  clear hr hmm
  go_loopw [9] (fun v9 wr => ∃ (k : Nat) (m : List (Int × Bool)), k ≤ xs.length ∧ v9 = .int .i64 k ∧ Chg No w wr ∧ MapAt wr r (.int .i64) .bool m ∧ MetP m (xs.take k) ∧ nodesB (xs.take k) = true) (fun v9 _ => xs.length - (intOf v9).toNat)
  case atStart => exact ⟨0, [], by omega, rfl, hc0, hm0, by simpa using met_nil, by simpa using nodes_nil⟩
  case round =>
    obtain ⟨k, m, hk, rfl, hc, hmap, hmet, hnod⟩ := hrel
    have Hnod := Lib.hid hnod
    clear hnod hm0
    by_cases hlt : k < xs.length
    · obtain ⟨b, o, rfl, _, hbl, hx0⟩ := intT_get (Hs.out wr hc) k hlt
      have hlook := run_met hmap hmet xs[k]
      have Hmap := Lib.hid hmap
      have Hmet := Lib.hid (met_set hmet xs[k])
      rw [← List.take_succ_eq_append_getElem hlt] at Hmet
      have Hbad := Lib.hid (fun h => nodes_out (List.getElem_mem hlt) h)
      have Hdup := Lib.hid (nodes_dup hlt)
      have Hgo := Lib.hid (nodes_step hlt Hnod.out)
      clear hmap hmet
      by_cases hin : xs[k] ∈ xs.take k
      · rw [decide_eq_true hin] at hlook
        have hd := Hdup.out hin
        clear Hbad Hdup Hgo Hnod
        generalize xs[k] = x at *
        have Hd := Lib.hid hd
        clear hd hin
        rcases (show x < 0 ∨ (¬ x < 0 ∧ 16 ≤ x) ∨ (¬ x < 0 ∧ ¬ 16 ≤ x) by omega) with h | ⟨h, h2⟩ | ⟨h, h2⟩
        · go_wp2_with (with_reducible first | refine stop_append ?_ | refine stop_copy ?_ | refine stop_make ?_ | refine stop_update ?_ | refine stop_slice ?_ | refine stop_range ?_ | refine stop_next ?_ | refine stop_convert ⟨_, rfl⟩ ?_ | refine stop_convertB ⟨_, _, _, rfl⟩ ?_ | refine stop_eqSlice ⟨_, _, rfl⟩ ?_)
          go_ret
          exact ⟨by rw [Hd.out]; rfl, hc⟩
        · go_wp2_with (with_reducible first | refine stop_append ?_ | refine stop_copy ?_ | refine stop_make ?_ | refine stop_update ?_ | refine stop_slice ?_ | refine stop_range ?_ | refine stop_next ?_ | refine stop_convert ⟨_, rfl⟩ ?_ | refine stop_convertB ⟨_, _, _, rfl⟩ ?_ | refine stop_eqSlice ⟨_, _, rfl⟩ ?_)
          go_ret
          exact ⟨by rw [Hd.out]; rfl, hc⟩
        · go_wp2_with (with_reducible first | refine stop_append ?_ | refine stop_copy ?_ | refine stop_make ?_ | refine stop_update ?_ | refine stop_slice ?_ | refine stop_range ?_ | refine stop_next ?_ | refine stop_convert ⟨_, rfl⟩ ?_ | refine stop_convertB ⟨_, _, _, rfl⟩ ?_ | refine stop_eqSlice ⟨_, _, rfl⟩ ?_)
          go_ret
          exact ⟨by rw [Hd.out]; rfl, hc⟩
      · rw [decide_eq_false hin] at hlook
        have hgo := fun h => Hgo.out h hin
        have hbad := Hbad.out
        clear Hbad Hdup Hgo Hnod hin
        generalize xs[k] = x at *
        have Hgo := Lib.hid hgo
        have Hbad := Lib.hid hbad
        clear hgo hbad
        rcases (show x < 0 ∨ (¬ x < 0 ∧ 16 ≤ x) ∨ (¬ x < 0 ∧ ¬ 16 ≤ x) by omega) with h | ⟨h, h2⟩ | ⟨h, h2⟩
        · go_wp2_with (with_reducible first | refine stop_append ?_ | refine stop_copy ?_ | refine stop_make ?_ | refine stop_update ?_ | refine stop_slice ?_ | refine stop_range ?_ | refine stop_next ?_ | refine stop_convert ⟨_, rfl⟩ ?_ | refine stop_convertB ⟨_, _, _, rfl⟩ ?_ | refine stop_eqSlice ⟨_, _, rfl⟩ ?_)
          go_ret
          exact ⟨by rw [Hbad.out (by omega)]; rfl, hc⟩
        · go_wp2_with (with_reducible first | refine stop_append ?_ | refine stop_copy ?_ | refine stop_make ?_ | refine stop_update ?_ | refine stop_slice ?_ | refine stop_range ?_ | refine stop_next ?_ | refine stop_convert ⟨_, rfl⟩ ?_ | refine stop_convertB ⟨_, _, _, rfl⟩ ?_ | refine stop_eqSlice ⟨_, _, rfl⟩ ?_)
          go_ret
          exact ⟨by rw [Hbad.out (by omega)]; rfl, hc⟩
        · have Hg := Lib.hid (Hgo.out (by omega))
          go_wp2_with (with_reducible first | refine stop_append ?_ | refine stop_copy ?_ | refine stop_make ?_ | refine stop_update ?_ | refine stop_slice ?_ | refine stop_range ?_ | refine stop_next ?_ | refine stop_convert ⟨_, rfl⟩ ?_ | refine stop_convertB ⟨_, _, _, rfl⟩ ?_ | refine stop_eqSlice ⟨_, _, rfl⟩ ?_)
          refine step_update klN Try.underlying173 Hmap.out x true rfl rfl rfl ?_
          intro w6 hm6 hc6
          have Hm6 := Lib.hid hm6
          have hcw6 : Chg No w w6 := hc.old hc6 (fun i h => by have := Hr.out; simp only [At] at h; omega)
          clear hm6 hlook
          go_wp2_with (with_reducible first | refine stop_append ?_ | refine stop_copy ?_ | refine stop_make ?_ | refine stop_lookup ?_ | refine stop_update ?_ | refine stop_slice ?_ | refine stop_range ?_ | refine stop_next ?_ | refine stop_convert ⟨_, rfl⟩ ?_ | refine stop_convertB ⟨_, _, _, rfl⟩ ?_ | refine stop_eqSlice ⟨_, _, rfl⟩ ?_)
          go_roundw
          case rel => exact ⟨k + 1, _, by omega, by go_num, hcw6, Hm6.out, Hmet.out, Hg.out⟩
          case measure => simp [intOf]; omega
    · obtain rfl : k = xs.length := by omega
      rw [List.take_length] at Hnod
      go_wp2_with (with_reducible first | refine stop_append ?_ | refine stop_copy ?_ | refine stop_make ?_ | refine stop_lookup ?_ | refine stop_update ?_ | refine stop_slice ?_ | refine stop_range ?_ | refine stop_next ?_ | refine stop_convert ⟨_, rfl⟩ ?_ | refine stop_convertB ⟨_, _, _, rfl⟩ ?_ | refine stop_eqSlice ⟨_, _, rfl⟩ ?_)
      go_ret
      exact ⟨by rw [Hnod.out]; rfl, hc⟩
end Go.Proofs.Ytbjpoamnglfjeaa


/- Walks of package term: which configurations may be. -/
set_option linter.unusedVariables false
set_option linter.unusedSimpArgs false
namespace Go.Proofs.Ytbjpoamnglfjeaa
open Go.RowKit Cb

def shardB (l : List Int) : Bool := decide (1 ≤ l.length ∧ l.length ≤ 3) && nodesB l
def rightC (t : Int) (q : List Int) (s : List (List Int)) : Bool :=
  decide (1 ≤ t ∧ t ≤ 64) && decide (q.length % 2 = 1 ∧ q.length ≤ 7) && decide (1 ≤ s.length ∧ s.length ≤ 8) && nodesB q && !s.any (fun l => !shardB l)
theorem rightC_iff {t : Int} {q : List Int} {s : List (List Int)} : rightC t q s = true ↔ (1 ≤ t ∧ t ≤ 64) ∧ (q.length % 2 = 1 ∧ q.length ≤ 7) ∧ (1 ≤ s.length ∧ s.length ≤ 8) ∧ nodesB q = true ∧ ∀ l ∈ s, shardB l = true := by
  simp only [rightC, Bool.and_eq_true, decide_eq_true_eq, Bool.not_eq_true', List.any_eq_false, and_assoc]
  simp
theorem tright1_any (F : Nat → Prop) (v : Value) (xs : List Int) (w : World) (hs : Sl F w v xs) (hl : xs.length * 8 ≤ 140737488355328) :
    Calls Try.prog 85 #[v] w fun e w' => e = .returned (.bool (!shardB xs)) ∧ Chg No w w' := by
  have Hu := Lib.hid (tunlike_any F v xs w hs hl)
  obtain ⟨A, c, rfl⟩ := hs.slice
  clear hs
  have hcase : (xs.length = 0 ∧ shardB xs = false) ∨ (1 ≤ xs.length ∧ 3 < xs.length ∧ shardB xs = false) ∨ (1 ≤ xs.length ∧ xs.length ≤ 3 ∧ shardB xs = nodesB xs) := by
    by_cases h1 : 1 ≤ xs.length
    · by_cases h3 : xs.length ≤ 3
      · exact .inr (.inr ⟨h1, h3, by simp [shardB, h1, h3]⟩)
      · exact .inr (.inl ⟨h1, by omega, by simp [shardB, h3]⟩)
    · exact .inl ⟨by omega, by simp [shardB, h1]⟩
  rcases hcase with ⟨h1, h2⟩ | ⟨h1, h3, h2⟩ | ⟨h1, h3, h2⟩
  · rw [h2, h1]
    go_enter Try.func85, Try.ntmps85
    go_wp2_with (with_reducible first | refine stop_append ?_ | refine stop_copy ?_ | refine stop_make ?_ | refine stop_lookup ?_ | refine stop_update ?_ | refine stop_slice ?_ | refine stop_range ?_ | refine stop_next ?_ | refine stop_convert ⟨_, rfl⟩ ?_ | refine stop_convertB ⟨_, _, _, rfl⟩ ?_ | refine stop_eqSlice ⟨_, _, rfl⟩ ?_)
    go_ret
    exact ⟨rfl, Chg.refl _ _⟩
  · rw [h2]
    have h1' : ¬ xs.length = 0 := by omega
    go_enter Try.func85, Try.ntmps85
    go_wp2_with (with_reducible first | refine stop_append ?_ | refine stop_copy ?_ | refine stop_make ?_ | refine stop_lookup ?_ | refine stop_update ?_ | refine stop_slice ?_ | refine stop_range ?_ | refine stop_next ?_ | refine stop_convert ⟨_, rfl⟩ ?_ | refine stop_convertB ⟨_, _, _, rfl⟩ ?_ | refine stop_eqSlice ⟨_, _, rfl⟩ ?_)
    go_ret
    exact ⟨rfl, Chg.refl _ _⟩
  · rw [h2]
    have h1' : ¬ xs.length = 0 := by omega
    have h3' : ¬ 3 < xs.length := by omega
    clear h2
    generalize nodesB xs = b at *
    go_enter Try.func85, Try.ntmps85
    go_wp2_with (with_reducible first | refine stop_append ?_ | refine stop_copy ?_ | refine stop_make ?_ | refine stop_lookup ?_ | refine stop_update ?_ | refine stop_slice ?_ | refine stop_range ?_ | refine stop_next ?_ | refine stop_convert ⟨_, rfl⟩ ?_ | refine stop_convertB ⟨_, _, _, rfl⟩ ?_ | refine stop_eqSlice ⟨_, _, rfl⟩ ?_)
    refine Hu.out.mono ?_
    rintro e w1 ⟨rfl, hc⟩
    go_wp2_with (with_reducible first | refine stop_append ?_ | refine stop_copy ?_ | refine stop_make ?_ | refine stop_lookup ?_ | refine stop_update ?_ | refine stop_slice ?_ | refine stop_range ?_ | refine stop_next ?_ | refine stop_convert ⟨_, rfl⟩ ?_ | refine stop_convertB ⟨_, _, _, rfl⟩ ?_ | refine stop_eqSlice ⟨_, _, rfl⟩ ?_)
    go_ret
    refine ⟨?_, hc⟩
    show Ending.returned (.bool (decide ((xs.length : Int) < 1) || decide (3 < (xs.length : Int)) || !b)) = _
    rw [decide_eq_false (by omega), decide_eq_false (by omega)]
    rfl
def idxT (p : List Int → Bool) (l : List (List Int)) : Int := match l.findIdx? p with | some i => i | none => -1
set_option maxRecDepth 100000 in
set_option maxHeartbeats 1000000 in
theorem indexT_any (F : Nat → Prop) (v : Value) (l : List (List Int)) (p : List Int → Bool) (g : FuncId) (hg : ∀ args W, (callFunc g args).run Try.prog W = .ok (.enter g args) W) (w : World) (hs : Sl F w v l) (hl : l.length ≤ 17592186044416)
    (hp : ∀ i (h : i < l.length) u W, Chg No w W → Sl F W u l[i] → Calls Try.prog g #[u] W fun e w' => e = .returned (.bool (p l[i])) ∧ Chg No W w') :
    Calls Try.prog 105 #[v, .func (.func g) #[] #[]] w fun e w' => e = .returned (.int .i64 (idxT p l)) ∧ Chg No w w' := by
  obtain ⟨A, c, rfl⟩ := hs.slice
  have Hp := Lib.hid hp; have Hs := Lib.hid hs
  clear hp hs
  go_enter Try.func105, Try.ntmps105
  go_wp2_with (with_reducible first | refine stop_append ?_ | refine stop_copy ?_ | refine stop_make ?_ | refine stop_lookup ?_ | refine stop_update ?_ | refine stop_slice ?_ | refine stop_range ?_ | refine stop_next ?_ | refine stop_convert ⟨_, rfl⟩ ?_ | refine stop_convertB ⟨_, _, _, rfl⟩ ?_ | refine stop_eqSlice ⟨_, _, rfl⟩ ?_)
  go_loopw [8] (fun v8 wr => ∃ k : Nat, k ≤ l.length ∧ v8 = .int .i64 k ∧ Chg No w wr ∧ ∀ i (h : i < l.length), i < k → p l[i] = false) (fun v8 _ => l.length - (intOf v8).toNat)
  case atStart => exact ⟨0, by omega, rfl, Chg.refl _ _, fun _ _ h => absurd h (by omega)⟩
  case round =>
    obtain ⟨k, hk, rfl, hc1, hall⟩ := hrel
    have Hall := Lib.hid hall; clear hall
    by_cases hlt : k < l.length
    · obtain ⟨b, o, u, rfl, _, hbl, ha0, hu⟩ := rowT_get (Hs.out.keepNo hc1) k hlt
      have Hcall := Lib.hid (Hp.out k hlt u wr hc1 hu)
      obtain ⟨Au, cu, rfl⟩ := hu.slice
      clear hu
      cases hpx : p l[k] with
      | true =>
        have Hi := Lib.hid (show idxT p l = k by
          simp only [idxT]
          rw [show l.findIdx? p = some k from List.findIdx?_eq_some_iff_getElem.2 ⟨hlt, hpx, fun j hj => by rw [Hall.out j (by omega) hj]; simp⟩])
        rw [hpx] at Hcall
        clear hpx
        generalize l[k] = x at *
        go_wp2_with (with_reducible first | refine stop_append ?_ | refine stop_copy ?_ | refine stop_make ?_ | refine stop_lookup ?_ | refine stop_update ?_ | refine stop_slice ?_ | refine stop_range ?_ | refine stop_next ?_ | refine stop_convert ⟨_, rfl⟩ ?_ | refine stop_convertB ⟨_, _, _, rfl⟩ ?_ | refine stop_eqSlice ⟨_, _, rfl⟩ ?_)
        refine Hcall.out.mono ?_
        rintro e w1 ⟨rfl, hc2⟩
        go_wp2_with (with_reducible first | refine stop_append ?_ | refine stop_copy ?_ | refine stop_make ?_ | refine stop_lookup ?_ | refine stop_update ?_ | refine stop_slice ?_ | refine stop_range ?_ | refine stop_next ?_ | refine stop_convert ⟨_, rfl⟩ ?_ | refine stop_convertB ⟨_, _, _, rfl⟩ ?_ | refine stop_eqSlice ⟨_, _, rfl⟩ ?_)
        go_ret
        rw [Hi.out]
        exact ⟨rfl, hc1.trans hc2⟩
      | false =>
        rw [hpx] at Hcall
        have Hpx := Lib.hid (show ∀ i (h : i < l.length), i < k + 1 → p l[i] = false from fun i h hi => by
          rcases Nat.lt_or_ge i k with h' | h'
          · exact Hall.out i h h'
          · obtain rfl : i = k := by omega
            exact hpx)
        clear hpx
        generalize l[k] = x at *
        go_wp2_with (with_reducible first | refine stop_append ?_ | refine stop_copy ?_ | refine stop_make ?_ | refine stop_lookup ?_ | refine stop_update ?_ | refine stop_slice ?_ | refine stop_range ?_ | refine stop_next ?_ | refine stop_convert ⟨_, rfl⟩ ?_ | refine stop_convertB ⟨_, _, _, rfl⟩ ?_ | refine stop_eqSlice ⟨_, _, rfl⟩ ?_)
        refine Hcall.out.mono ?_
        rintro e w1 ⟨rfl, hc2⟩
        go_wp2_with (with_reducible first | refine stop_append ?_ | refine stop_copy ?_ | refine stop_make ?_ | refine stop_lookup ?_ | refine stop_update ?_ | refine stop_slice ?_ | refine stop_range ?_ | refine stop_next ?_ | refine stop_convert ⟨_, rfl⟩ ?_ | refine stop_convertB ⟨_, _, _, rfl⟩ ?_ | refine stop_eqSlice ⟨_, _, rfl⟩ ?_)
        go_roundw
        case rel => exact ⟨k + 1, by omega, by go_num, hc1.trans hc2, Hpx.out⟩
        case measure => simp [intOf]; omega
    · have Hi := Lib.hid (show idxT p l = -1 by
        simp only [idxT]
        rw [List.findIdx?_eq_none_iff.2 (fun x hx => by
          obtain ⟨i, hi, rfl⟩ := List.mem_iff_getElem.1 hx
          exact Hall.out i hi (by omega))])
      go_wp2_with (with_reducible first | refine stop_append ?_ | refine stop_copy ?_ | refine stop_make ?_ | refine stop_lookup ?_ | refine stop_update ?_ | refine stop_slice ?_ | refine stop_range ?_ | refine stop_next ?_ | refine stop_convert ⟨_, rfl⟩ ?_ | refine stop_convertB ⟨_, _, _, rfl⟩ ?_ | refine stop_eqSlice ⟨_, _, rfl⟩ ?_)
      go_ret
      rw [Hi.out]
      exact ⟨rfl, hc1⟩
theorem containsT_any (F : Nat → Prop) (v : Value) (l : List (List Int)) (p : List Int → Bool) (g : FuncId) (hg : ∀ args W, (callFunc g args).run Try.prog W = .ok (.enter g args) W) (w : World) (hs : Sl F w v l) (hl : l.length ≤ 17592186044416)
    (hp : ∀ i (h : i < l.length) u W, Chg No w W → Sl F W u l[i] → Calls Try.prog g #[u] W fun e w' => e = .returned (.bool (p l[i])) ∧ Chg No W w') :
    Calls Try.prog 86 #[v, .func (.func g) #[] #[]] w fun e w' => e = .returned (.bool (l.any p)) ∧ Chg No w w' := by
  have Hcall := Lib.hid (indexT_any F v l p g hg w hs hl hp)
  clear hp hs
  have hr : (0 ≤ idxT p l ∧ l.any p = true) ∨ (idxT p l < 0 ∧ l.any p = false) := by
    simp only [idxT]
    cases h : l.findIdx? p with
    | some i =>
      left
      obtain ⟨hi, hpi, _⟩ := List.findIdx?_eq_some_iff_getElem.1 h
      exact ⟨by simp, List.any_eq_true.2 ⟨_, List.getElem_mem hi, hpi⟩⟩
    | none =>
      right
      exact ⟨by simp, by rw [List.any_eq_false]; intro x hx; rw [List.findIdx?_eq_none_iff.1 h x hx]; simp⟩
  generalize idxT p l = i at Hcall hr
  generalize l.any p = r at hr ⊢
  rcases hr with ⟨hi, hr⟩ | ⟨hi, hr⟩
  all_goals
    have Hr := Lib.hid hr; clear hr
    have hib := hi
    go_enter Try.func86, Try.ntmps86
    go_wp2_with (with_reducible first | refine stop_append ?_ | refine stop_copy ?_ | refine stop_make ?_ | refine stop_lookup ?_ | refine stop_update ?_ | refine stop_slice ?_ | refine stop_range ?_ | refine stop_next ?_ | refine stop_convert ⟨_, rfl⟩ ?_ | refine stop_convertB ⟨_, _, _, rfl⟩ ?_ | refine stop_eqSlice ⟨_, _, rfl⟩ ?_)
    refine Hcall.out.mono ?_
    rintro e w1 ⟨rfl, hc2⟩
    go_wp2_with (with_reducible first | refine stop_append ?_ | refine stop_copy ?_ | refine stop_make ?_ | refine stop_lookup ?_ | refine stop_update ?_ | refine stop_slice ?_ | refine stop_range ?_ | refine stop_next ?_ | refine stop_convert ⟨_, rfl⟩ ?_ | refine stop_convertB ⟨_, _, _, rfl⟩ ?_ | refine stop_eqSlice ⟨_, _, rfl⟩ ?_)
    go_ret
    rw [Hr.out]
    exact ⟨by simp [hi], hc2⟩
/-- A configuration's three values. -/
def cfgV (t : Int) (vq vs : Value) : Value := .agg #[.int .i64 t, vq, vs]
set_option maxRecDepth 100000 in
set_option maxHeartbeats 1000000 in
theorem tright_any (F G : Nat → Prop) (t : Int) (vq vs : Value) (q : List Int) (s : List (List Int)) (w : World) (hq : Sl F w vq q) (hs : Sl G w vs s) (hlq : q.length * 8 ≤ 140737488351232) (hls : s.length ≤ 17592186044416) (hb : ∀ x ∈ s, x.length * 8 ≤ 140737488351232) :
    Calls Try.prog 45 #[cfgV t vq vs] w fun e w' => e = .returned (.bool (rightC t q s)) ∧ Chg No w w' := by
  have Hq := Lib.hid (fun W (hW : Chg No w W) => tunlike_any F vq q W (hq.keepNo hW) (by omega))
  have Hc := Lib.hid (fun W (hW : Chg No w W) => containsT_any G vs s (fun l => !shardB l) 85 (fun args W => by kernel_rfl) W (hs.keepNo hW) hls (fun i h u W' hW' hu => tright1_any G u s[i] W' hu (by have := hb _ (List.getElem_mem h); omega)))
  obtain ⟨Aq, cq, rfl⟩ := hq.slice
  obtain ⟨As, cs, rfl⟩ := hs.slice
  clear hq hs
  have hrt : rightC t q s = (decide (1 ≤ t ∧ t ≤ 64) && decide (q.length % 2 = 1 ∧ q.length ≤ 7) && decide (1 ≤ s.length ∧ s.length ≤ 8) && nodesB q && !s.any (fun l => !shardB l)) := rfl
  generalize s.any (fun l => !shardB l) = sa at *
  generalize nodesB q = qn at *
  generalize rightC t q s = R at *
  have Hrt := Lib.hid hrt
  clear hrt hb
  unfold cfgV
  go_enter Try.func45, Try.ntmps45
  have ho := alloc_obj w (.cells #[.int .i64 t, .slice Aq q.length cq, .slice As s.length cs] 68)
  have hca := (Chg.refl No w).alloc (.cells #[.int .i64 t, .slice Aq q.length cq, .slice As s.length cs] 68)
  have a0 := cell_obj (i := 0) ho rfl
  have a1 := cell_obj (i := 1) ho rfl
  have a2 := cell_obj (i := 2) ho rfl
  go_wp2_with (with_reducible first | refine stop_append ?_ | refine stop_copy ?_ | refine stop_make ?_ | refine stop_lookup ?_ | refine stop_update ?_ | refine stop_slice ?_ | refine stop_range ?_ | refine stop_next ?_ | refine stop_convert ⟨_, rfl⟩ ?_ | refine stop_convertB ⟨_, _, _, rfl⟩ ?_ | refine stop_eqSlice ⟨_, _, rfl⟩ ?_)
  clear ho
  generalize w.alloc (.cells #[.int .i64 t, .slice Aq q.length cq, .slice As s.length cs] 68) = w1 at *
  generalize w.heap.size = p at *
  refine pl_start (fun W => W.cell? ⟨p, 1, none⟩ = some (.slice Aq q.length cq) ∧ W.cell? ⟨p, 2, none⟩ = some (.slice As s.length cs) ∧ Chg No w1 W) (by kernel_rfl) (by kernel_rfl) ⟨a1, a2, (Chg.refl _ _).drew⟩ ?_
  ((refine pl_yes (i := 0) (oi := { dst := some 6, op := .fieldAddr 68 (.tmp 1) 1, type := 0, pos := "term.go:39", after := #[], guard := none }) (v := ?_) rfl (by kernel_rfl) (by kernel_rfl) rfl ?_ ?_); rotate_left; focus (intro W hW; (try dsimp only at hW); go_split_ands; go_simp; (try (simp (disch := omega) only [IntWalk.i64_in]; (try go_simp))); (try (split; (next => omega); (try go_simp))); try rfl; done))
  try simp only [Act.put, List.setIfInBounds_toArray, List.set_cons_zero, List.set_cons_succ]
  ((refine pl_yes (i := 1) (oi := { dst := some 7, op := .load 46 (.tmp 6), type := 46, pos := "term.go:39", after := #[{ on := 0, ground := .data }], guard := none }) (v := ?_) rfl (by kernel_rfl) (by kernel_rfl) rfl ?_ ?_); rotate_left; focus (intro W hW; (try dsimp only at hW); go_split_ands; go_simp; (try (simp (disch := omega) only [IntWalk.i64_in]; (try go_simp))); (try (split; (next => omega); (try go_simp))); try rfl; done))
  try simp only [Act.put, List.setIfInBounds_toArray, List.set_cons_zero, List.set_cons_succ]
  ((refine pl_yes (i := 2) (oi := { dst := some 8, op := .call { callee := .builtin .len, args := #[.tmp 7], argTypes := #[46] }, type := 3, pos := "term.go:39", after := #[{ on := 1, ground := .data }], guard := none }) (v := ?_) rfl (by kernel_rfl) (by kernel_rfl) rfl ?_ ?_); rotate_left; focus (intro W hW; (try dsimp only at hW); go_split_ands; go_simp; (try (simp (disch := omega) only [IntWalk.i64_in]; (try go_simp))); (try (split; (next => omega); (try go_simp))); try rfl; done))
  try simp only [Act.put, List.setIfInBounds_toArray, List.set_cons_zero, List.set_cons_succ]
  ((refine pl_yes (i := 3) (oi := { dst := some 9, op := .fieldAddr 68 (.tmp 1) 2, type := 0, pos := "term.go:39", after := #[], guard := none }) (v := ?_) rfl (by kernel_rfl) (by kernel_rfl) rfl ?_ ?_); rotate_left; focus (intro W hW; (try dsimp only at hW); go_split_ands; go_simp; (try (simp (disch := omega) only [IntWalk.i64_in]; (try go_simp))); (try (split; (next => omega); (try go_simp))); try rfl; done))
  try simp only [Act.put, List.setIfInBounds_toArray, List.set_cons_zero, List.set_cons_succ]
  ((refine pl_yes (i := 4) (oi := { dst := some 10, op := .load 61 (.tmp 9), type := 61, pos := "term.go:39", after := #[{ on := 3, ground := .data }], guard := none }) (v := ?_) rfl (by kernel_rfl) (by kernel_rfl) rfl ?_ ?_); rotate_left; focus (intro W hW; (try dsimp only at hW); go_split_ands; go_simp; (try (simp (disch := omega) only [IntWalk.i64_in]; (try go_simp))); (try (split; (next => omega); (try go_simp))); try rfl; done))
  try simp only [Act.put, List.setIfInBounds_toArray, List.set_cons_zero, List.set_cons_succ]
  ((refine pl_yes (i := 5) (oi := { dst := some 11, op := .call { callee := .builtin .len, args := #[.tmp 10], argTypes := #[61] }, type := 3, pos := "term.go:39", after := #[{ on := 4, ground := .data }], guard := none }) (v := ?_) rfl (by kernel_rfl) (by kernel_rfl) rfl ?_ ?_); rotate_left; focus (intro W hW; (try dsimp only at hW); go_split_ands; go_simp; (try (simp (disch := omega) only [IntWalk.i64_in]; (try go_simp))); (try (split; (next => omega); (try go_simp))); try rfl; done))
  try simp only [Act.put, List.setIfInBounds_toArray, List.set_cons_zero, List.set_cons_succ]
  ((refine pl_yes (i := 6) (oi := { dst := some 3, op := .assign (.tmp 8), type := 3, pos := "term.go:39", after := #[{ on := 2, ground := .data }, { on := 0, ground := .phase }, { on := 1, ground := .phase }, { on := 2, ground := .phase }, { on := 3, ground := .textOnly .lateStores }, { on := 4, ground := .textOnly .lateStores }, { on := 5, ground := .textOnly .lateStoresUnsure }], guard := none }) (v := ?_) rfl (by kernel_rfl) (by kernel_rfl) rfl ?_ ?_); rotate_left; focus (intro W hW; (try dsimp only at hW); go_split_ands; go_simp; (try (simp (disch := omega) only [IntWalk.i64_in]; (try go_simp))); (try (split; (next => omega); (try go_simp))); try rfl; done))
  try simp only [Act.put, List.setIfInBounds_toArray, List.set_cons_zero, List.set_cons_succ]
  ((refine pl_yes (i := 7) (oi := { dst := some 4, op := .assign (.tmp 11), type := 3, pos := "term.go:39", after := #[{ on := 5, ground := .data }, { on := 6, ground := .chain }, { on := 0, ground := .phase }, { on := 1, ground := .phase }, { on := 2, ground := .phase }, { on := 3, ground := .phase }, { on := 4, ground := .phase }, { on := 5, ground := .phase }, { on := 6, ground := .phase }], guard := none }) (v := ?_) rfl (by kernel_rfl) (by kernel_rfl) rfl ?_ ?_); rotate_left; focus (intro W hW; (try dsimp only at hW); go_split_ands; go_simp; (try (simp (disch := omega) only [IntWalk.i64_in]; (try go_simp))); (try (split; (next => omega); (try go_simp))); try rfl; done))
  try simp only [Act.put, List.setIfInBounds_toArray, List.set_cons_zero, List.set_cons_succ]
  refine pl_done (by kernel_rfl)  ?_
  rintro w2 ⟨_, _, hc2⟩
  replace a0 := hc2.cell a0 (not_no _)
  replace a1 := hc2.cell a1 (not_no _)
  replace a2 := hc2.cell a2 (not_no _)
  replace hca := hca.trans hc2
  clear hc2
  have hcase : (t < 1 ∧ R = false) ∨ (¬ t < 1 ∧ 64 < t ∧ R = false) ∨ (¬ t < 1 ∧ ¬ 64 < t ∧ q.length % 2 = 0 ∧ R = false) ∨
      (¬ t < 1 ∧ ¬ 64 < t ∧ q.length % 2 = 1 ∧ 7 < q.length ∧ R = false) ∨
      (¬ t < 1 ∧ ¬ 64 < t ∧ q.length % 2 = 1 ∧ ¬ 7 < q.length ∧ s.length = 0 ∧ R = false) ∨
      (¬ t < 1 ∧ ¬ 64 < t ∧ q.length % 2 = 1 ∧ ¬ 7 < q.length ∧ ¬ s.length = 0 ∧ 8 < s.length ∧ R = false) ∨
      (¬ t < 1 ∧ ¬ 64 < t ∧ q.length % 2 = 1 ∧ ¬ 7 < q.length ∧ ¬ s.length = 0 ∧ ¬ 8 < s.length ∧ R = (qn && !sa)) := by
    rw [Hrt.out]
    by_cases h1 : t < 1
    · exact .inl ⟨h1, by simp [show ¬ 1 ≤ t by omega]⟩
    by_cases h2 : 64 < t
    · exact .inr (.inl ⟨h1, h2, by simp [show ¬ t ≤ 64 by omega]⟩)
    by_cases h3 : q.length % 2 = 0
    · exact .inr (.inr (.inl ⟨h1, h2, h3, by simp [h3]⟩))
    have h3 : q.length % 2 = 1 := by omega
    by_cases h4 : 7 < q.length
    · exact .inr (.inr (.inr (.inl ⟨h1, h2, h3, h4, by simp [show ¬ q.length ≤ 7 by omega]⟩)))
    by_cases h5 : s.length = 0
    · exact .inr (.inr (.inr (.inr (.inl ⟨h1, h2, h3, h4, h5, by simp [h5]⟩))))
    by_cases h6 : 8 < s.length
    · exact .inr (.inr (.inr (.inr (.inr (.inl ⟨h1, h2, h3, h4, h5, h6, by simp [show ¬ s.length ≤ 8 by omega]⟩)))))
    · exact .inr (.inr (.inr (.inr (.inr (.inr ⟨h1, h2, h3, h4, h5, h6, by simp [h3, show 1 ≤ t by omega, show t ≤ 64 by omega, show q.length ≤ 7 by omega, show s.length ≤ 8 by omega, show 1 ≤ s.length by omega]⟩)))))
  clear Hrt
  rcases hcase with ⟨h1, hr⟩ | ⟨h1, h2, hr⟩ | ⟨h1, h2, h3, hr⟩ | ⟨h1, h2, h3, h4, hr⟩ | ⟨h1, h2, h3, h4, h5, hr⟩ | ⟨h1, h2, h3, h4, h5, h6, hr⟩ | ⟨h1, h2, h3, h4, h5, h6, hr⟩
  · have Hr := Lib.hid hr
    clear hr
    go_wp2_with (with_reducible first | refine stop_append ?_ | refine stop_copy ?_ | refine stop_make ?_ | refine stop_lookup ?_ | refine stop_update ?_ | refine stop_slice ?_ | refine stop_range ?_ | refine stop_next ?_ | refine stop_convert ⟨_, rfl⟩ ?_ | refine stop_convertB ⟨_, _, _, rfl⟩ ?_ | refine stop_eqSlice ⟨_, _, rfl⟩ ?_)
    go_ret
    exact ⟨by rw [Hr.out]; rfl, hca⟩
  · have Hr := Lib.hid hr
    clear hr
    go_wp2_with (with_reducible first | refine stop_append ?_ | refine stop_copy ?_ | refine stop_make ?_ | refine stop_lookup ?_ | refine stop_update ?_ | refine stop_slice ?_ | refine stop_range ?_ | refine stop_next ?_ | refine stop_convert ⟨_, rfl⟩ ?_ | refine stop_convertB ⟨_, _, _, rfl⟩ ?_ | refine stop_eqSlice ⟨_, _, rfl⟩ ?_)
    go_ret
    exact ⟨by rw [Hr.out]; rfl, hca⟩
  · have Hr := Lib.hid hr
    clear hr
    go_wp2_with (with_reducible first | refine stop_append ?_ | refine stop_copy ?_ | refine stop_make ?_ | refine stop_lookup ?_ | refine stop_update ?_ | refine stop_slice ?_ | refine stop_range ?_ | refine stop_next ?_ | refine stop_convert ⟨_, rfl⟩ ?_ | refine stop_convertB ⟨_, _, _, rfl⟩ ?_ | refine stop_eqSlice ⟨_, _, rfl⟩ ?_)
    go_ret
    exact ⟨by rw [Hr.out]; rfl, hca⟩
  · have Hr := Lib.hid hr
    clear hr
    go_wp2_with (with_reducible first | refine stop_append ?_ | refine stop_copy ?_ | refine stop_make ?_ | refine stop_lookup ?_ | refine stop_update ?_ | refine stop_slice ?_ | refine stop_range ?_ | refine stop_next ?_ | refine stop_convert ⟨_, rfl⟩ ?_ | refine stop_convertB ⟨_, _, _, rfl⟩ ?_ | refine stop_eqSlice ⟨_, _, rfl⟩ ?_)
    go_ret
    exact ⟨by rw [Hr.out]; rfl, hca⟩
  · have Hr := Lib.hid hr
    clear hr
    go_wp2_with (with_reducible first | refine stop_append ?_ | refine stop_copy ?_ | refine stop_make ?_ | refine stop_lookup ?_ | refine stop_update ?_ | refine stop_slice ?_ | refine stop_range ?_ | refine stop_next ?_ | refine stop_convert ⟨_, rfl⟩ ?_ | refine stop_convertB ⟨_, _, _, rfl⟩ ?_ | refine stop_eqSlice ⟨_, _, rfl⟩ ?_)
    go_ret
    exact ⟨by rw [Hr.out]; rfl, hca⟩
  · have Hr := Lib.hid hr
    clear hr
    go_wp2_with (with_reducible first | refine stop_append ?_ | refine stop_copy ?_ | refine stop_make ?_ | refine stop_lookup ?_ | refine stop_update ?_ | refine stop_slice ?_ | refine stop_range ?_ | refine stop_next ?_ | refine stop_convert ⟨_, rfl⟩ ?_ | refine stop_convertB ⟨_, _, _, rfl⟩ ?_ | refine stop_eqSlice ⟨_, _, rfl⟩ ?_)
    go_ret
    exact ⟨by rw [Hr.out]; rfl, hca⟩
  · have Hr := Lib.hid hr
    clear hr
    have k1 : ((q.length : Int) % 2 == 0) = false := by simp; omega
    have k2 : ¬ (7 < (q.length : Int)) := by omega
    have k3 : ¬ ((s.length : Int) < 1) := by omega
    have k4 : ¬ (8 < (s.length : Int)) := by omega
    clear h3 h4 h5 h6
    go_wp2_with (with_reducible first | refine stop_append ?_ | refine stop_copy ?_ | refine stop_make ?_ | refine stop_lookup ?_ | refine stop_update ?_ | refine stop_slice ?_ | refine stop_range ?_ | refine stop_next ?_ | refine stop_convert ⟨_, rfl⟩ ?_ | refine stop_convertB ⟨_, _, _, rfl⟩ ?_ | refine stop_eqSlice ⟨_, _, rfl⟩ ?_)
    refine (Hq.out _ hca).mono ?_
    rintro e w3 ⟨rfl, hc3⟩
    replace a2 := hc3.cell a2 (not_no _)
    have hca3 := hca.trans hc3
    cases qn
    · go_wp2_with (with_reducible first | refine stop_append ?_ | refine stop_copy ?_ | refine stop_make ?_ | refine stop_lookup ?_ | refine stop_update ?_ | refine stop_slice ?_ | refine stop_range ?_ | refine stop_next ?_ | refine stop_convert ⟨_, rfl⟩ ?_ | refine stop_convertB ⟨_, _, _, rfl⟩ ?_ | refine stop_eqSlice ⟨_, _, rfl⟩ ?_)
      go_ret
      exact ⟨by rw [Hr.out]; rfl, hca3⟩
    · go_wp2_with (with_reducible first | refine stop_append ?_ | refine stop_copy ?_ | refine stop_make ?_ | refine stop_lookup ?_ | refine stop_update ?_ | refine stop_slice ?_ | refine stop_range ?_ | refine stop_next ?_ | refine stop_convert ⟨_, rfl⟩ ?_ | refine stop_convertB ⟨_, _, _, rfl⟩ ?_ | refine stop_eqSlice ⟨_, _, rfl⟩ ?_)
      refine (Hc.out _ hca3).mono ?_
      rintro e w4 ⟨rfl, hc4⟩
      go_wp2_with (with_reducible first | refine stop_append ?_ | refine stop_copy ?_ | refine stop_make ?_ | refine stop_lookup ?_ | refine stop_update ?_ | refine stop_slice ?_ | refine stop_range ?_ | refine stop_next ?_ | refine stop_convert ⟨_, rfl⟩ ?_ | refine stop_convertB ⟨_, _, _, rfl⟩ ?_ | refine stop_eqSlice ⟨_, _, rfl⟩ ?_)
      go_ret
      exact ⟨by rw [Hr.out]; rfl, hca3.trans hc4⟩
end Go.Proofs.Ytbjpoamnglfjeaa


/- Walks of package register: entries of the caller's own. -/
set_option linter.unusedVariables false
set_option linter.unusedSimpArgs false
namespace Go.Proofs.Ytbjpoamnglfjeaa
open Go.RowKit Cb

set_option maxRecDepth 100000 in
set_option maxHeartbeats 1000000 in
theorem regents_any (v : Value) (l : List Ent) (w : World) (h : Sl No w v l) (hl : l.length ≤ 2199023255488) (hcb : ∀ e ∈ l, e.2.2.1.length ≤ 1000000) :
    Calls Try.prog 72 #[v] w fun e w' => ∃ v', e = .returned v' ∧ Chg No w w' ∧ Sl (Lt w.heap.size) w' v' l := by
  obtain ⟨A, c, rfl⟩ := h.slice
  have H := Lib.hid h
  have Hcb := Lib.hid hcb
  clear h hcb
  go_enter Try.func72, Try.ntmps72
  go_wp2_with (with_reducible first | refine stop_append ?_ | refine stop_copy ?_ | refine stop_make ?_ | refine stop_lookup ?_ | refine stop_update ?_ | refine stop_slice ?_ | refine stop_range ?_ | refine stop_next ?_ | refine stop_convert ⟨_, rfl⟩ ?_ | refine stop_convertB ⟨_, _, _, rfl⟩ ?_ | refine stop_eqSlice ⟨_, _, rfl⟩ ?_)
  go_loopw [3, 8] (fun v3 v8 wr => ∃ k : Nat, k ≤ l.length ∧ v8 = .int .i64 k ∧ Chg No w wr ∧ Cb.Own (Lt w.heap.size) wr w.heap.size 58 v3 (l.take k)) (fun _ v8 _ => l.length - (intOf v8).toNat)
  case atStart => exact ⟨0, by omega, rfl, Chg.refl _ _, Cb.Own.nil _ _ _ _⟩
  case round =>
    obtain ⟨k, hk, rfl, hc1, hown⟩ := hrel
    by_cases hlt : k < l.length
    · have hgs : Sl (Ge w.heap.size) wr (.slice A l.length c) l := (Sl.up H.out (Nat.le_refl _)).keepNo hc1
      obtain ⟨b, o, vc, rfl, hnb, hbl, hsv, a0, a1, a2, a3, a4, a5⟩ := ent_get hgs k hlt
      have htk := List.take_succ_eq_append_getElem hlt
      have hcl := Hcb.out _ (List.getElem_mem hlt)
      clear hgs
      generalize l[k] = x at a0 a1 a2 a3 a4 a5 hsv htk hcl
      have Hsv := Lib.hid hsv
      obtain ⟨n, kd, cut, tag, t, u⟩ := x
      simp only [entC] at a0 a1 a2 a3 a4 a5 hcl Hsv
      obtain ⟨Av, cv, rfl⟩ := hsv.slice
      have hlen : (l.take k).length = k := by simp; omega
      generalize l.take k = acc at hlen htk hown
      have Htk := Lib.hid htk
      have Hlen := Lib.hid hlen
      obtain ⟨A3, c3, rfl⟩ := hown.slice
      have Hown := Lib.hid hown
      clear hsv hown htk hlen
      have hca := (Chg.refl No wr).alloc (.cells #[.int .i64 n, .int .i64 kd, .slice Av cut.length cv, .int .i64 tag, .int .i64 t, .int .i64 u] 58)
      have ho := alloc_obj wr (.cells #[.int .i64 n, .int .i64 kd, .slice Av cut.length cv, .int .i64 tag, .int .i64 t, .int .i64 u] 58)
      have b2 := cell_obj (i := 2) ho rfl
      have Hclone := Lib.hid (vclone_any _ _ cut _ (Hsv.out.keepNo hca) hcl)
      go_wp2_with (with_reducible first | refine stop_append ?_ | refine stop_copy ?_ | refine stop_make ?_ | refine stop_lookup ?_ | refine stop_update ?_ | refine stop_slice ?_ | refine stop_range ?_ | refine stop_next ?_ | refine stop_convert ⟨_, rfl⟩ ?_ | refine stop_convertB ⟨_, _, _, rfl⟩ ?_ | refine stop_eqSlice ⟨_, _, rfl⟩ ?_)
      generalize wr.alloc (.cells #[.int .i64 n, .int .i64 kd, .slice Av cut.length cv, .int .i64 tag, .int .i64 t, .int .i64 u] 58) = w4 at *
      have hql := lt_of_heap ho
      refine Hclone.out.mono ?_
      rintro e w5 ⟨vn, rfl, hc5, hsn⟩
      obtain ⟨An, cn, rfl⟩ := hsn.slice
      have Hsn := Lib.hid hsn
      clear hsn b2 a0 a1 a2 a3 a4 a5
      have ho5 := hc5.obj ho (not_no _)
      obtain ⟨p, hp⟩ : ∃ p, p = wr.heap.size := ⟨_, rfl⟩
      rw [← hp] at ho5 hql ⊢
      have Hp := Lib.hid hp
      clear hp ho
      have c0 := cell_obj (i := 0) ho5 rfl
      have c1 := cell_obj (i := 1) ho5 rfl
      have c2 := cell_obj (i := 2) ho5 rfl
      have c3' := cell_obj (i := 3) ho5 rfl
      have c4 := cell_obj (i := 4) ho5 rfl
      have c5 := cell_obj (i := 5) ho5 rfl
      have f2 := free_obj (i := 2) ho5
      go_wp2_with (with_reducible first | refine stop_append ?_ | refine stop_copy ?_ | refine stop_make ?_ | refine stop_lookup ?_ | refine stop_update ?_ | refine stop_slice ?_ | refine stop_range ?_ | refine stop_next ?_ | refine stop_convert ⟨_, rfl⟩ ?_ | refine stop_convertB ⟨_, _, _, rfl⟩ ?_ | refine stop_eqSlice ⟨_, _, rfl⟩ ?_)
      have e6 : (w5.setCell ⟨p, 2, none⟩ (.slice An cut.length cn)).heap.size = w5.heap.size := by simp
      have hc6 : Chg (At p) w5 (w5.setCell ⟨p, 2, none⟩ (.slice An cut.length cn)) := chg_set _
      clear c0 c1 c2 c3' c4 c5 f2 ho5
      generalize w5.setCell ⟨p, 2, none⟩ (.slice An cut.length cn) = w6 at *
      rw [← e6]
      have hc16 : Chg No wr w6 := (hca.trans hc5).old hc6 (fun i h => by have := Hp.out; simp only [At] at h; omega)
      have hc67 := (Chg.refl No w6).alloc (.cells #[.int .i64 n, .int .i64 kd, .slice An cut.length cn, .int .i64 tag, .int .i64 t, .int .i64 u] 58)
      have hobl : ∀ i, OB (.slice A3 acc.length c3) i → w.heap.size ≤ i ∧ i < wr.heap.size := fun i hi => Hown.out.lt i hi
      have hw4 := hca.size
      have hw1 := hc1.size
      have hsn6 : Sl (Or (Lt w.heap.size) (OB (.slice A3 acc.length c3))) w6 (.slice An cut.length cn) cut :=
        ((Hsn.out.weak (G := Or (Or (Lt w.heap.size) (OB (.slice A3 acc.length c3))) (At p)) (fun i _ hi => by
          simp only [Lt]
          rcases hi with (hi | hi) | hi
          · simp only [Lt] at hi; omega
          · have := hobl i hi; omega
          · simp only [At] at hi; omega)).keep (hc6.weak (fun i _ hi => .inr hi))).weak (fun i _ hi => .inl hi)
      have hlit : Sl (Or (Lt w.heap.size) (OB (.slice A3 acc.length c3))) (w6.alloc (.cells #[.int .i64 n, .int .i64 kd, .slice An cut.length cn, .int .i64 tag, .int .i64 t, .int .i64 u] 58)) (.slice (some ⟨w6.heap.size, 0, none⟩) 1 1) [(n, kd, cut, tag, t, u)] :=
        Sl.lit1 rfl (ent_mk (n, kd, cut, tag, t, u) hsn6) (fun hi => by
          have := hc16.size
          rcases hi with hi | hi
          · simp only [Lt] at hi; omega
          · have := hobl _ hi; omega)
      refine step_append_sl (α := Ent) (F := Lt w.heap.size) (G := Or (Lt w.heap.size) (OB (.slice A3 acc.length c3))) Try.underlying28 info_ent rfl (Hown.out.keep (hc16.trans hc67) (fun _ _ f => f.elim) (fun _ _ f => f)) rfl rfl hlit (fun i _ hi => hi) (by have := Hlen.out; simp; omega) (by have := Hlen.out; simp [ent_n]; omega) (by have := hc16.size; have := hc67.size; omega) ?_
      intro v6 w8 hown6 hg6
      rw [← Htk.out] at hown6
      have hcw : Chg No w w8 := ((hc1.trans hc16).trans hc67).grew hg6 (fun i hi => .inr (hobl i hi).1)
      have Hown6 := Lib.hid hown6
      clear hown6 hg6 hlit hsn6
      go_wp2_with (with_reducible first | refine stop_append ?_ | refine stop_copy ?_ | refine stop_make ?_ | refine stop_lookup ?_ | refine stop_update ?_ | refine stop_slice ?_ | refine stop_range ?_ | refine stop_next ?_ | refine stop_convert ⟨_, rfl⟩ ?_ | refine stop_convertB ⟨_, _, _, rfl⟩ ?_ | refine stop_eqSlice ⟨_, _, rfl⟩ ?_)
      go_roundw
      case rel => exact ⟨k + 1, by omega, by go_num, hcw, Hown6.out⟩
      case measure => simp [intOf]; omega
    · obtain rfl : k = l.length := by omega
      rw [List.take_length] at hown
      have Hown := Lib.hid hown
      obtain ⟨A3, c3, rfl⟩ := hown.slice
      clear hown
      go_wp2_with (with_reducible first | refine stop_append ?_ | refine stop_copy ?_ | refine stop_make ?_ | refine stop_lookup ?_ | refine stop_update ?_ | refine stop_slice ?_ | refine stop_range ?_ | refine stop_next ?_ | refine stop_convert ⟨_, rfl⟩ ?_ | refine stop_convertB ⟨_, _, _, rfl⟩ ?_ | refine stop_eqSlice ⟨_, _, rfl⟩ ?_)
      go_ret
      exact ⟨_, rfl, hc1, Hown.out.sl (fun i hi f => by have := (Hown.out.lt i hi).1; simp only [Lt] at f; omega)⟩
end Go.Proofs.Ytbjpoamnglfjeaa


/- Walks of package entry for a register: Same; rows of entries compared. -/
set_option linter.unusedVariables false
set_option linter.unusedSimpArgs false
namespace Go.Proofs.Ytbjpoamnglfjeaa
open Go.RowKit Cb

set_option maxRecDepth 100000 in
set_option maxHeartbeats 1000000 in
theorem esame_any (F G : Nat → Prop) (x y : Ent) (v u : Value) (w : World) (hx : Sl F w v x.2.2.1) (hy : Sl G w u y.2.2.1) (hl : x.2.2.1.length ≤ 1000000) (hl' : y.2.2.1.length ≤ 17592186044416) :
    Calls Try.prog 71 #[entV x v, entV y u] w fun e w' => e = .returned (.bool (decide (x = y))) ∧ Chg No w w' := by
  have Hq := Lib.hid (fun W (hW : Chg No w W) => vequal_any F G v u _ _ W (hx.keepNo hW) (hy.keepNo hW) hl hl')
  obtain ⟨n, k, cut, tag, t, p⟩ := x
  obtain ⟨n', k', cut', tag', t', p'⟩ := y
  simp only at *
  obtain ⟨A, c, rfl⟩ := hx.slice
  obtain ⟨B, d, rfl⟩ := hy.slice
  clear hx hy
  have hr : decide (((n, k, cut, tag, t, p) : Ent) = (n', k', cut', tag', t', p')) = (decide (n = n') && (decide (k = k') && (decide (cut = cut') && (decide (tag = tag') && (decide (t = t') && decide (p = p')))))) := by
    simp only [Prod.mk.injEq, Bool.decide_and]
  rw [hr]
  clear hr
  unfold entV
  simp only
  generalize decide (cut = cut') = cb at *
  have o1 := ((Chg.refl No (w.alloc (.cells #[.int .i64 n, .int .i64 k, .slice A cut.length c, .int .i64 tag, .int .i64 t, .int .i64 p] 58))).alloc (.cells #[.int .i64 n', .int .i64 k', .slice B cut'.length d, .int .i64 tag', .int .i64 t', .int .i64 p'] 58)).obj (alloc_obj w (.cells #[.int .i64 n, .int .i64 k, .slice A cut.length c, .int .i64 tag, .int .i64 t, .int .i64 p] 58)) (not_no _)
  have o2 := alloc_obj (w.alloc (.cells #[.int .i64 n, .int .i64 k, .slice A cut.length c, .int .i64 tag, .int .i64 t, .int .i64 p] 58)) (.cells #[.int .i64 n', .int .i64 k', .slice B cut'.length d, .int .i64 tag', .int .i64 t', .int .i64 p'] 58)
  have hz : (w.alloc (.cells #[.int .i64 n, .int .i64 k, .slice A cut.length c, .int .i64 tag, .int .i64 t, .int .i64 p] 58)).heap.size = w.heap.size + 1 := by simp
  have hc0 := ((Chg.refl No w).alloc (.cells #[.int .i64 n, .int .i64 k, .slice A cut.length c, .int .i64 tag, .int .i64 t, .int .i64 p] 58)).alloc (.cells #[.int .i64 n', .int .i64 k', .slice B cut'.length d, .int .i64 tag', .int .i64 t', .int .i64 p'] 58)
  rw [hz] at o2
  clear hz
  have a0 := cell_obj (i := 0) o1 rfl
  have a1 := cell_obj (i := 1) o1 rfl
  have a2 := cell_obj (i := 2) o1 rfl
  have a3 := cell_obj (i := 3) o1 rfl
  have a4 := cell_obj (i := 4) o1 rfl
  have a5 := cell_obj (i := 5) o1 rfl
  have b0 := cell_obj (i := 0) o2 rfl
  have b1 := cell_obj (i := 1) o2 rfl
  have b2 := cell_obj (i := 2) o2 rfl
  have b3 := cell_obj (i := 3) o2 rfl
  have b4 := cell_obj (i := 4) o2 rfl
  have b5 := cell_obj (i := 5) o2 rfl
  clear o1 o2
  by_cases h1 : n = n'
  · subst h1
    by_cases h2 : k = k'
    · subst h2
      simp only [decide_true, Bool.true_and]
      go_enter Try.func71, Try.ntmps71
      go_wp2_with (with_reducible first | refine stop_append ?_ | refine stop_copy ?_ | refine stop_make ?_ | refine stop_lookup ?_ | refine stop_update ?_ | refine stop_slice ?_ | refine stop_range ?_ | refine stop_next ?_ | refine stop_convert ⟨_, rfl⟩ ?_ | refine stop_convertB ⟨_, _, _, rfl⟩ ?_ | refine stop_eqSlice ⟨_, _, rfl⟩ ?_)
      generalize (w.alloc (.cells #[.int .i64 n, .int .i64 k, .slice A cut.length c, .int .i64 tag, .int .i64 t, .int .i64 p] 58)).alloc (.cells #[.int .i64 n, .int .i64 k, .slice B cut'.length d, .int .i64 tag', .int .i64 t', .int .i64 p'] 58) = w0 at *
      generalize w.heap.size + 1 = q2 at *
      generalize w.heap.size = q1 at *
      refine (Hq.out _ hc0).mono ?_
      rintro e w1 ⟨rfl, hc1⟩
      have hcw1 := hc0.trans hc1
      replace a3 := hc1.cell a3 (not_no _)
      replace a4 := hc1.cell a4 (not_no _)
      replace a5 := hc1.cell a5 (not_no _)
      replace b3 := hc1.cell b3 (not_no _)
      replace b4 := hc1.cell b4 (not_no _)
      replace b5 := hc1.cell b5 (not_no _)
      clear a0 a1 b0 b1 a2 b2 hc1
      cases cb
      · go_wp2_with (with_reducible first | refine stop_append ?_ | refine stop_copy ?_ | refine stop_make ?_ | refine stop_lookup ?_ | refine stop_update ?_ | refine stop_slice ?_ | refine stop_range ?_ | refine stop_next ?_ | refine stop_convert ⟨_, rfl⟩ ?_ | refine stop_convertB ⟨_, _, _, rfl⟩ ?_ | refine stop_eqSlice ⟨_, _, rfl⟩ ?_)
        go_ret
        exact ⟨rfl, hcw1⟩
      · by_cases h3 : tag = tag'
        · subst h3
          by_cases h4 : t = t'
          · subst h4
            by_cases h5 : p = p'
            · subst h5
              go_wp2_with (with_reducible first | refine stop_append ?_ | refine stop_copy ?_ | refine stop_make ?_ | refine stop_lookup ?_ | refine stop_update ?_ | refine stop_slice ?_ | refine stop_range ?_ | refine stop_next ?_ | refine stop_convert ⟨_, rfl⟩ ?_ | refine stop_convertB ⟨_, _, _, rfl⟩ ?_ | refine stop_eqSlice ⟨_, _, rfl⟩ ?_)
              go_ret
              exact ⟨by simp, hcw1⟩
            · have e5 : (p == p') = false := by simpa using h5
              go_wp2_with (with_reducible first | refine stop_append ?_ | refine stop_copy ?_ | refine stop_make ?_ | refine stop_lookup ?_ | refine stop_update ?_ | refine stop_slice ?_ | refine stop_range ?_ | refine stop_next ?_ | refine stop_convert ⟨_, rfl⟩ ?_ | refine stop_convertB ⟨_, _, _, rfl⟩ ?_ | refine stop_eqSlice ⟨_, _, rfl⟩ ?_)
              go_ret
              exact ⟨by simp [h5], hcw1⟩
          · have e4 : (t == t') = false := by simpa using h4
            go_wp2_with (with_reducible first | refine stop_append ?_ | refine stop_copy ?_ | refine stop_make ?_ | refine stop_lookup ?_ | refine stop_update ?_ | refine stop_slice ?_ | refine stop_range ?_ | refine stop_next ?_ | refine stop_convert ⟨_, rfl⟩ ?_ | refine stop_convertB ⟨_, _, _, rfl⟩ ?_ | refine stop_eqSlice ⟨_, _, rfl⟩ ?_)
            go_ret
            exact ⟨by simp [h4], hcw1⟩
        · have e3 : (tag == tag') = false := by simpa using h3
          go_wp2_with (with_reducible first | refine stop_append ?_ | refine stop_copy ?_ | refine stop_make ?_ | refine stop_lookup ?_ | refine stop_update ?_ | refine stop_slice ?_ | refine stop_range ?_ | refine stop_next ?_ | refine stop_convert ⟨_, rfl⟩ ?_ | refine stop_convertB ⟨_, _, _, rfl⟩ ?_ | refine stop_eqSlice ⟨_, _, rfl⟩ ?_)
          go_ret
          exact ⟨by simp [h3], hcw1⟩
    · have h1 : (k == k') = false := by simpa using h2
      rw [decide_eq_false h2]
      clear h2
      go_enter Try.func71, Try.ntmps71
      go_wp2_with (with_reducible first | refine stop_append ?_ | refine stop_copy ?_ | refine stop_make ?_ | refine stop_lookup ?_ | refine stop_update ?_ | refine stop_slice ?_ | refine stop_range ?_ | refine stop_next ?_ | refine stop_convert ⟨_, rfl⟩ ?_ | refine stop_convertB ⟨_, _, _, rfl⟩ ?_ | refine stop_eqSlice ⟨_, _, rfl⟩ ?_)
      go_ret
      exact ⟨by simp, hc0⟩
  · have h2 : (n == n') = false := by simpa using h1
    rw [decide_eq_false h1]
    clear h1
    go_enter Try.func71, Try.ntmps71
    go_wp2_with (with_reducible first | refine stop_append ?_ | refine stop_copy ?_ | refine stop_make ?_ | refine stop_lookup ?_ | refine stop_update ?_ | refine stop_slice ?_ | refine stop_range ?_ | refine stop_next ?_ | refine stop_convert ⟨_, rfl⟩ ?_ | refine stop_convertB ⟨_, _, _, rfl⟩ ?_ | refine stop_eqSlice ⟨_, _, rfl⟩ ?_)
    go_ret
    exact ⟨by simp, hc0⟩
end Go.Proofs.Ytbjpoamnglfjeaa


/- Walks for a register: rows of entries compared by entry.Same. -/
set_option linter.unusedVariables false
set_option linter.unusedSimpArgs false
namespace Go.Proofs.Ytbjpoamnglfjeaa
open Go.RowKit Cb

set_option maxRecDepth 100000 in
set_option maxHeartbeats 2000000 in
theorem eqents_any (F G : Nat → Prop) (v u : Value) (xs ys : List Ent) (w : World) (h : Sl F w v xs) (h' : Sl G w u ys) (hl : xs.length ≤ 2199023255488) (hl' : ys.length ≤ 17592186044416) (hb : ∀ x ∈ xs, x.2.2.1.length ≤ 1000000) (hb' : ∀ x ∈ ys, x.2.2.1.length ≤ 17592186044416) :
    Calls Try.prog 70 #[v, u, .func (.func 71) #[] #[]] w fun e w' => e = .returned (.bool (decide (xs = ys))) ∧ Chg No w w' := by
  obtain ⟨A, c, rfl⟩ := h.slice
  obtain ⟨B, d, rfl⟩ := h'.slice
  have H := Lib.hid h; have H' := Lib.hid h'; have Hb := Lib.hid hb; have Hb' := Lib.hid hb'
  clear h h' hb hb'
  by_cases hlen : xs.length = ys.length
  · go_enter Try.func70, Try.ntmps70
    have Hlen := Lib.hid hlen
    rw [← hlen] at H' hl' ⊢
    clear hlen
    go_wp2_with (with_reducible first | refine stop_append ?_ | refine stop_copy ?_ | refine stop_make ?_ | refine stop_lookup ?_ | refine stop_update ?_ | refine stop_slice ?_ | refine stop_range ?_ | refine stop_next ?_ | refine stop_convert ⟨_, rfl⟩ ?_ | refine stop_convertB ⟨_, _, _, rfl⟩ ?_ | refine stop_eqSlice ⟨_, _, rfl⟩ ?_)
    go_loopw [7, 17] (fun _ v17 wr => ∃ k : Nat, k ≤ xs.length ∧ v17 = .int .i64 k ∧ Chg No w wr ∧ xs.take k = ys.take k) (fun _ v17 _ => xs.length - (intOf v17).toNat)
    case atStart => exact ⟨0, by omega, rfl, Chg.refl _ _, rfl⟩
    case round =>
      obtain ⟨k, hk, rfl, hc, he⟩ := hrel
      have He := Lib.hid he; clear he
      by_cases hlt : k < xs.length
      · have hlt' : k < ys.length := by have := Hlen.out; omega
        obtain ⟨b, o, vx, rfl, _, hbl, hux, a0, a1, a2, a3, a4, a5⟩ := ent_get (H.out.keepNo hc) k hlt
        have hgy : Sl G w (.slice B xs.length d) ys := H'.out
        obtain ⟨b', o', vy, rfl, _, hbl', huy, c0, c1, c2, c3, c4, c5⟩ := ent_get (hgy.keepNo hc) k hlt'
        have hsx : xs.take (k + 1) = xs.take k ++ [xs[k]] := List.take_succ_eq_append_getElem hlt
        have hsy : ys.take (k + 1) = ys.take k ++ [ys[k]] := List.take_succ_eq_append_getElem hlt'
        have hxy : xs[k] ≠ ys[k] → xs ≠ ys := fun h e => h (by subst e; rfl)
        have hbx := Hb.out _ (List.getElem_mem hlt)
        have hby := Hb'.out _ (List.getElem_mem hlt')
        clear hgy
        generalize xs[k] = x at *
        generalize ys[k] = y at *
        have Hcall := Lib.hid (fun W (hW : Chg No wr W) => esame_any F G x y vx vy W (hux.keepNo hW) (huy.keepNo hW) hbx hby)
        obtain ⟨Ax, cx, rfl⟩ := hux.slice
        obtain ⟨Ay, cy, rfl⟩ := huy.slice
        have Hsx := Lib.hid hsx; have Hsy := Lib.hid hsy; have Hxy := Lib.hid hxy
        clear hsx hsy hxy hux huy
        obtain ⟨res, hres⟩ : ∃ r, r = decide (x = y) := ⟨_, rfl⟩
        rw [← hres] at Hcall
        have Hres := Lib.hid hres
        clear hres
        have Hxe := Lib.hid (show res = true → x = y from fun h => of_decide_eq_true (Hres.out ▸ h))
        have Hxn := Lib.hid (show res = false → x ≠ y from fun h => of_decide_eq_false (Hres.out ▸ h))
        have Hgo := Lib.hid (show res = true → xs.take (k + 1) = ys.take (k + 1) from fun h => by rw [Hsx.out, Hsy.out, He.out, Hxe.out h])
        have Hno := Lib.hid (show res = false → decide (xs = ys) = false from fun h => decide_eq_false (Hxy.out (Hxn.out h)))
        clear Hres Hxe Hxn Hxy Hsx Hsy
        obtain ⟨n, kd, cut, tag, t, p⟩ := x
        obtain ⟨n', kd', cut', tag', t', p'⟩ := y
        unfold entV at Hcall
        simp only at *
        have hcA := (Chg.refl No wr).alloc (.cells #[.int .i64 n, .int .i64 kd, .slice Ax cut.length cx, .int .i64 tag, .int .i64 t, .int .i64 p] 58)
        have o1 := ((Chg.refl No (wr.alloc (.cells #[.int .i64 n, .int .i64 kd, .slice Ax cut.length cx, .int .i64 tag, .int .i64 t, .int .i64 p] 58))).alloc (.cells #[.int .i64 n', .int .i64 kd', .slice Ay cut'.length cy, .int .i64 tag', .int .i64 t', .int .i64 p'] 58)).obj (alloc_obj wr (.cells #[.int .i64 n, .int .i64 kd, .slice Ax cut.length cx, .int .i64 tag, .int .i64 t, .int .i64 p] 58)) (not_no _)
        have o2 := alloc_obj (wr.alloc (.cells #[.int .i64 n, .int .i64 kd, .slice Ax cut.length cx, .int .i64 tag, .int .i64 t, .int .i64 p] 58)) (.cells #[.int .i64 n', .int .i64 kd', .slice Ay cut'.length cy, .int .i64 tag', .int .i64 t', .int .i64 p'] 58)
        have hz : (wr.alloc (.cells #[.int .i64 n, .int .i64 kd, .slice Ax cut.length cx, .int .i64 tag, .int .i64 t, .int .i64 p] 58)).heap.size = wr.heap.size + 1 := by simp
        have hc0 := ((Chg.refl No wr).alloc (.cells #[.int .i64 n, .int .i64 kd, .slice Ax cut.length cx, .int .i64 tag, .int .i64 t, .int .i64 p] 58)).alloc (.cells #[.int .i64 n', .int .i64 kd', .slice Ay cut'.length cy, .int .i64 tag', .int .i64 t', .int .i64 p'] 58)
        rw [hz] at o2
        clear hz
        have e0 := hcA.cell c0 (not_no _)
        have e1 := hcA.cell c1 (not_no _)
        have e2 := hcA.cell c2 (not_no _)
        have e3 := hcA.cell c3 (not_no _)
        have e4 := hcA.cell c4 (not_no _)
        have e5 := hcA.cell c5 (not_no _)
        have g0 := cell_obj (i := 0) o1 rfl
        have g1 := cell_obj (i := 1) o1 rfl
        have g2 := cell_obj (i := 2) o1 rfl
        have g3 := cell_obj (i := 3) o1 rfl
        have g4 := cell_obj (i := 4) o1 rfl
        have g5 := cell_obj (i := 5) o1 rfl
        have f0 := cell_obj (i := 0) o2 rfl
        have f1 := cell_obj (i := 1) o2 rfl
        have f2 := cell_obj (i := 2) o2 rfl
        have f3 := cell_obj (i := 3) o2 rfl
        have f4 := cell_obj (i := 4) o2 rfl
        have f5 := cell_obj (i := 5) o2 rfl
        clear o1 o2 hcA
        cases res with
        | true =>
          have Hg := Lib.hid (Hgo.out rfl)
          clear Hgo Hno
          go_wp2_with (with_reducible first | refine stop_append ?_ | refine stop_copy ?_ | refine stop_make ?_ | refine stop_lookup ?_ | refine stop_update ?_ | refine stop_slice ?_ | refine stop_range ?_ | refine stop_next ?_ | refine stop_convert ⟨_, rfl⟩ ?_ | refine stop_convertB ⟨_, _, _, rfl⟩ ?_ | refine stop_eqSlice ⟨_, _, rfl⟩ ?_)
          refine (Hcall.out _ hc0).mono ?_
          rintro e w3 ⟨rfl, hc3⟩
          have hcw := (hc.trans hc0).trans hc3
          clear a0 a1 a2 a3 a4 a5 c0 c1 c2 c3 c4 c5 e0 e1 e2 e3 e4 e5 g0 g1 g2 g3 g4 g5 f0 f1 f2 f3 f4 f5
          go_wp2_with (with_reducible first | refine stop_append ?_ | refine stop_copy ?_ | refine stop_make ?_ | refine stop_lookup ?_ | refine stop_update ?_ | refine stop_slice ?_ | refine stop_range ?_ | refine stop_next ?_ | refine stop_convert ⟨_, rfl⟩ ?_ | refine stop_convertB ⟨_, _, _, rfl⟩ ?_ | refine stop_eqSlice ⟨_, _, rfl⟩ ?_)
          go_roundw
          case rel => exact ⟨k + 1, by omega, by go_num, hcw, Hg.out⟩
          case measure => simp [intOf]; omega
        | false =>
          have Hg := Lib.hid (Hno.out rfl)
          clear Hgo Hno
          go_wp2_with (with_reducible first | refine stop_append ?_ | refine stop_copy ?_ | refine stop_make ?_ | refine stop_lookup ?_ | refine stop_update ?_ | refine stop_slice ?_ | refine stop_range ?_ | refine stop_next ?_ | refine stop_convert ⟨_, rfl⟩ ?_ | refine stop_convertB ⟨_, _, _, rfl⟩ ?_ | refine stop_eqSlice ⟨_, _, rfl⟩ ?_)
          refine (Hcall.out _ hc0).mono ?_
          rintro e w3 ⟨rfl, hc3⟩
          have hcw := (hc.trans hc0).trans hc3
          clear a0 a1 a2 a3 a4 a5 c0 c1 c2 c3 c4 c5 e0 e1 e2 e3 e4 e5 g0 g1 g2 g3 g4 g5 f0 f1 f2 f3 f4 f5
          go_wp2_with (with_reducible first | refine stop_append ?_ | refine stop_copy ?_ | refine stop_make ?_ | refine stop_lookup ?_ | refine stop_update ?_ | refine stop_slice ?_ | refine stop_range ?_ | refine stop_next ?_ | refine stop_convert ⟨_, rfl⟩ ?_ | refine stop_convertB ⟨_, _, _, rfl⟩ ?_ | refine stop_eqSlice ⟨_, _, rfl⟩ ?_)
          go_ret
          exact ⟨by rw [Hg.out]; rfl, hcw⟩
      · obtain rfl : k = xs.length := by omega
        have he := He.out
        rw [List.take_length, Hlen.out, List.take_length] at he
        have Heq := Lib.hid he
        clear he He
        go_wp2_with (with_reducible first | refine stop_append ?_ | refine stop_copy ?_ | refine stop_make ?_ | refine stop_lookup ?_ | refine stop_update ?_ | refine stop_slice ?_ | refine stop_range ?_ | refine stop_next ?_ | refine stop_convert ⟨_, rfl⟩ ?_ | refine stop_convertB ⟨_, _, _, rfl⟩ ?_ | refine stop_eqSlice ⟨_, _, rfl⟩ ?_)
        go_ret
        exact ⟨by simp [Heq.out], hc⟩
  · have hne : ((xs.length : Int) != ys.length) = true := by simp; omega
    have hne2 : ((xs.length : Int) == ys.length) = false := by simp; omega
    have Hn := Lib.hid (show xs ≠ ys from fun e => hlen (by rw [e]))
    clear hlen
    go_enter Try.func70, Try.ntmps70
    go_wp2_with (with_reducible first | refine stop_append ?_ | refine stop_copy ?_ | refine stop_make ?_ | refine stop_lookup ?_ | refine stop_update ?_ | refine stop_slice ?_ | refine stop_range ?_ | refine stop_next ?_ | refine stop_convert ⟨_, rfl⟩ ?_ | refine stop_convertB ⟨_, _, _, rfl⟩ ?_ | refine stop_eqSlice ⟨_, _, rfl⟩ ?_)
    go_ret
    exact ⟨by simp [Hn.out], Chg.refl _ _⟩
end Go.Proofs.Ytbjpoamnglfjeaa

