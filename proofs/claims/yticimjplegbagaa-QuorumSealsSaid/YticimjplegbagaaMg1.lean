/- Texts Base, OrdP. -/
import Derived.Below
import Derived.Laws.OwnMore
import Derived.OneCell
/- Words and laws that speak of no program: what of memory may change, how plain values lie in memory, rows of the call's own. -/
namespace Cb
open Go
variable {α β : Type}

/-- Blocks outside F that were there are as they were. -/
structure Chg (F : Nat → Prop) (w w' : World) : Prop where
  os : w'.os = w.os
  tape : w'.tape = w.tape
  output : w'.output = w.output
  size : w.heap.size ≤ w'.heap.size
  block : ∀ k, k < w.heap.size → ¬ F k → w'.heap[k]? = w.heap[k]?

def No : Nat → Prop := fun _ => False
def At (p : Nat) : Nat → Prop := fun k => k = p
def Ge (p : Nat) : Nat → Prop := fun k => p ≤ k
theorem not_no (k : Nat) : ¬ No k := fun h => h

theorem Chg.refl (F : Nat → Prop) (w : World) : Chg F w w := ⟨rfl, rfl, rfl, Nat.le_refl _, fun _ _ _ => rfl⟩
theorem Chg.trans {F : Nat → Prop} {a b c : World} (h : Chg F a b) (k : Chg F b c) : Chg F a c :=
  ⟨k.os.trans h.os, k.tape.trans h.tape, k.output.trans h.output, Nat.le_trans h.size k.size,
    fun i hi hF => (k.block i (Nat.lt_of_lt_of_le hi h.size) hF).trans (h.block i hi hF)⟩
theorem Chg.trans' {F G H : Nat → Prop} {a b c : World} (h : Chg F a b) (k : Chg G b c) (hF : ∀ i, i < a.heap.size → F i → H i)
    (hG : ∀ i, i < a.heap.size → G i → H i) : Chg H a c :=
  ⟨k.os.trans h.os, k.tape.trans h.tape, k.output.trans h.output, Nat.le_trans h.size k.size,
    fun i hi hn => (k.block i (Nat.lt_of_lt_of_le hi h.size) (fun g => hn (hG i hi g))).trans (h.block i hi (fun f => hn (hF i hi f)))⟩
theorem Chg.weak {F G : Nat → Prop} {w w' : World} (h : Chg F w w') (hG : ∀ i, i < w.heap.size → F i → G i) : Chg G w w' :=
  ⟨h.os, h.tape, h.output, h.size, fun i hi hn => h.block i hi (fun f => hn (hG i hi f))⟩
theorem Chg.of_no {G : Nat → Prop} {w w' : World} (h : Chg No w w') : Chg G w w' := h.weak (fun _ _ f => f.elim)
theorem Chg.drew {F : Nat → Prop} {a w : World} (h : Chg F a w) : Chg F a w.drew := ⟨h.os, h.tape, h.output, h.size, h.block⟩
theorem Chg.alloc {F : Nat → Prop} {a w : World} (h : Chg F a w) (o : Obj) : Chg F a (w.alloc o) :=
  h.trans ⟨rfl, rfl, rfl, by simp, fun k hk _ => Below.heap_alloc _ _ _ hk⟩
where
  Below.heap_alloc (w : World) (o : Obj) (k : Nat) (h : k < w.heap.size) : (w.alloc o).heap[k]? = w.heap[k]? := Go.RowKit.Below.heap_alloc w o k h
theorem Chg.setCell {F : Nat → Prop} {a w : World} (h : Chg F a w) {p : Addr} (hp : F p.block ∨ a.heap.size ≤ p.block) (u : Value) : Chg F a (w.setCell p u) :=
  ⟨h.os, h.tape, h.output, by simpa [World.setCell] using h.size, fun k hk hn => by
    rw [Go.RowKit.Below.heap_setCell _ _ _ _ (fun e => by subst e; rcases hp with hp | hp; exact hn hp; omega)]
    exact h.block k hk hn⟩
theorem Chg.grown {F : Nat → Prop} {a w w' : World} {row : Option Nat} (h : Chg F a w) (hg : w.grownBy w' row)
    (hr : ∀ k, row = some k → F k ∨ a.heap.size ≤ k) : Chg F a w' :=
  ⟨hg.os.trans h.os, hg.tape.trans h.tape, hg.output.trans h.output, Nat.le_trans h.size hg.size, fun k hk hn =>
    (hg.block k (Nat.lt_of_lt_of_le hk h.size) (fun e => by rcases hr k e.symm with f | f; exact hn f; omega)).trans (h.block k hk hn)⟩
theorem Chg.below {w w' : World} (h : Chg No w w') : Go.RowKit.Below w.heap.size w w' := ⟨h.os, h.tape, h.output, h.size, fun k hk => h.block k hk (not_no k)⟩
theorem Chg.of_below {w w' : World} (h : Go.RowKit.Below w.heap.size w w') : Chg No w w' := ⟨h.os, h.tape, h.output, h.size, fun k hk _ => h.block k hk⟩
theorem Chg.cell {F : Nat → Prop} {w w' : World} (h : Chg F w w') {a : Addr} {v : Value} (hc : w.cell? a = some v) (hF : ¬ F a.block) : w'.cell? a = some v :=
  (World.cell?_of_block (h.block a.block (World.block_lt_of_cell? w a hc) hF)).trans hc
theorem lt_of_heap {w : World} {b : Nat} {o : Obj} (h : w.heap[b]? = some o) : b < w.heap.size := (Array.getElem?_eq_some_iff.1 h).1
theorem Chg.obj {F : Nat → Prop} {w w' : World} (h : Chg F w w') {b : Nat} {o : Obj} (hc : w.heap[b]? = some o) (hF : ¬ F b) : w'.heap[b]? = some o :=
  (h.block b (lt_of_heap hc) hF).trans hc

/-- How a plain value lies in cells; F: blocks that it keeps clear of. -/
class Rep (α : Type) where
  n : Nat
  cs : (Nat → Prop) → World → α → List Value → Prop
  len : ∀ {F w x c}, cs F w x c → c.length = n
  one : ∀ {F w x c}, cs F w x c → ∀ u ∈ c, u.oneCell' = true
  keep : ∀ {F w w' x c}, cs F w x c → Chg F w w' → cs F w' x c
  weak : ∀ {F G w x c}, cs F w x c → (∀ b, b < w.heap.size → G b → F b) → cs G w x c

instance : Rep Int where
  n := 1
  cs _ _ x c := c = [.int .i64 x]
  len h := by subst h; rfl
  one h := by subst h; simp [Value.oneCell']
  keep h _ := h
  weak h _ := h
instance : Rep UInt8 where
  n := 1
  cs _ _ x c := c = [.int .u8 x.toNat]
  len h := by subst h; rfl
  one h := by subst h; simp [Value.oneCell']
  keep h _ := h
  weak h _ := h
instance : Rep Bool where
  n := 1
  cs _ _ x c := c = [.bool x]
  len h := by subst h; rfl
  one h := by subst h; simp [Value.oneCell']
  keep h _ := h
  weak h _ := h
instance : Rep ByteArray where
  n := 1
  cs _ _ x c := c = [.string x]
  len h := by subst h; rfl
  one h := by subst h; simp [Value.oneCell']
  keep h _ := h
  weak h _ := h
instance [Rep α] [Rep β] : Rep (α × β) where
  n := Rep.n α + Rep.n β
  cs F w x c := ∃ a b, c = a ++ b ∧ Rep.cs F w x.1 a ∧ Rep.cs F w x.2 b
  len := by rintro F w x c ⟨a, b, rfl, ha, hb⟩; rw [List.length_append, Rep.len ha, Rep.len hb]
  one := by rintro F w x c ⟨a, b, rfl, ha, hb⟩ u hu; rcases List.mem_append.1 hu with h | h; exact Rep.one ha u h; exact Rep.one hb u h
  keep := by rintro F w w' x c ⟨a, b, rfl, ha, hb⟩ h; exact ⟨a, b, rfl, Rep.keep ha h, Rep.keep hb h⟩
  weak := by rintro F G w x c ⟨a, b, rfl, ha, hb⟩ h; exact ⟨a, b, rfl, Rep.weak ha h, Rep.weak hb h⟩

/-- The cells of a row of values, from an address on. -/
def Row [Rep α] (F : Nat → Prop) (w : World) (b o : Nat) (xs : List α) : Prop :=
  ∀ i (h : i < xs.length), ∃ d, Rep.cs F w xs[i] d ∧ ∀ j u, d[j]? = some u → w.cell? ⟨b, o + i * Rep.n α + j, none⟩ = some u
theorem Row.keep [Rep α] {F : Nat → Prop} {w w' : World} {b o : Nat} {xs : List α} (h : Row F w b o xs) (hb : xs ≠ [] → ¬ F b) (hc : Chg F w w') : Row F w' b o xs := by
  intro i hi
  obtain ⟨d, hd, hj⟩ := h i hi
  exact ⟨d, Rep.keep hd hc, fun j u hu => hc.cell (hj j u hu) (hb (fun e => by subst e; simp at hi))⟩
/-- A slice value reads as a list. -/
def Sl [Rep α] (F : Nat → Prop) (w : World) (v : Value) (xs : List α) : Prop :=
  ∃ A c, v = .slice A xs.length c ∧ xs.length ≤ c ∧ (xs = [] ∨ ∃ b o, A = some ⟨b, o, none⟩ ∧ ¬ F b ∧ b < w.heap.size ∧ Row F w b o xs)
theorem Sl.keep [Rep α] {F : Nat → Prop} {w w' : World} {v : Value} {xs : List α} (h : Sl F w v xs) (hc : Chg F w w') : Sl F w' v xs := by
  obtain ⟨A, c, rfl, hl, h | ⟨b, o, rfl, hb, hlt, hr⟩⟩ := h
  · exact ⟨A, c, rfl, hl, .inl h⟩
  · exact ⟨_, c, rfl, hl, .inr ⟨b, o, rfl, hb, Nat.lt_of_lt_of_le hlt hc.size, hr.keep (fun _ => hb) hc⟩⟩
theorem Sl.weak [Rep α] {F G : Nat → Prop} {w : World} {v : Value} {xs : List α} (h : Sl F w v xs) (hG : ∀ b, b < w.heap.size → G b → F b) : Sl G w v xs := by
  obtain ⟨A, c, rfl, hl, h | ⟨b, o, rfl, hb, hlt, hr⟩⟩ := h
  · exact ⟨A, c, rfl, hl, .inl h⟩
  · exact ⟨_, c, rfl, hl, .inr ⟨b, o, rfl, fun g => hb (hG b hlt g), hlt, fun i hi => by
      obtain ⟨d, hd, hj⟩ := hr i hi; exact ⟨d, Rep.weak hd hG, hj⟩⟩⟩
instance [Rep α] : Rep (List α) where
  n := 1
  cs F w x c := ∃ v, c = [v] ∧ Sl F w v x
  len := by rintro F w x c ⟨v, rfl, _⟩; rfl
  one := by rintro F w x c ⟨v, rfl, A, cc, rfl, _⟩; simp [Value.oneCell']
  keep := by rintro F w w' x c ⟨v, rfl, h⟩ hc; exact ⟨v, rfl, h.keep hc⟩
  weak := by rintro F G w x c ⟨v, rfl, h⟩ hG; exact ⟨v, rfl, h.weak hG⟩
theorem Sl.nil [Rep α] (F : Nat → Prop) (w : World) (A : Option Addr) (c : Nat) : Sl F w (.slice A 0 c) ([] : List α) := ⟨A, c, rfl, Nat.zero_le _, .inl rfl⟩
theorem Sl.keepNo [Rep α] {F : Nat → Prop} {w w' : World} {v : Value} {xs : List α} (h : Sl F w v xs) (hc : Chg No w w') : Sl F w' v xs := h.keep hc.of_no

/-- One element's cells. -/
theorem Sl.get [Rep α] {F : Nat → Prop} {w : World} {A : Option Addr} {n c : Nat} {xs : List α} (h : Sl F w (.slice A n c) xs) (k : Nat) (hk : k < xs.length) :
    ∃ b o d, A = some ⟨b, o, none⟩ ∧ ¬ F b ∧ b < w.heap.size ∧ Rep.cs F w xs[k] d ∧ ∀ j u, d[j]? = some u → w.cell? ⟨b, o + k * Rep.n α + j, none⟩ = some u := by
  obtain ⟨A', c', e, hl, h | ⟨b, o, rfl, hb, hlt, hr⟩⟩ := h
  · subst h; simp at hk
  · cases e
    obtain ⟨d, hd, hj⟩ := hr k hk
    exact ⟨b, o, d, rfl, hb, hlt, hd, hj⟩
theorem Sl.len [Rep α] {F : Nat → Prop} {w : World} {A : Option Addr} {n c : Nat} {xs : List α} (h : Sl F w (.slice A n c) xs) : n = xs.length ∧ xs.length ≤ c := by
  obtain ⟨A', c', e, hl, _⟩ := h; cases e; exact ⟨rfl, hl⟩

/-- The block in which an own row lies. -/
def OB (v : Value) : Nat → Prop := fun k => v.ownBlock = some k
def Or (F G : Nat → Prop) : Nat → Prop := fun k => F k ∨ G k
/-- A row of the call's own (a slice that is appended to) that reads as a list: what its elements point to lies clear of F and of the row. -/
def Own [Rep α] (F : Nat → Prop) (w : World) (base : Nat) (T : TypeId) (v : Value) (xs : List α) : Prop :=
  ∃ ds : List (List Value), ds.length = xs.length ∧ (∀ i (h : i < xs.length) (h' : i < ds.length), Rep.cs (Or F (OB v)) w xs[i] ds[i]) ∧ w.ownsRow base T (Rep.n α) v xs.length ds.flatten
/-- What an append to v0 did: the row may have been written, or there is a new one. -/
structure Grew (w w' : World) (v v' : Value) : Prop where
  by_ : w.grownBy w' v.ownBlock
  blk : ∀ k, v'.ownBlock = some k → v.ownBlock = some k ∨ w.heap.size ≤ k
theorem Grew.refl (w : World) (v : Value) : Grew w w v v := ⟨⟨rfl, rfl, rfl, Nat.le_refl _, fun _ _ _ => rfl⟩, fun _ h => .inl h⟩
theorem Grew.chg {w w' : World} {v v' : Value} (h : Grew w w' v v') : Chg (OB v) w w' :=
  ⟨h.by_.os, h.by_.tape, h.by_.output, h.by_.size, fun k hk hn => h.by_.block k hk (fun e => hn e.symm)⟩
theorem Grew.trans {a b c : World} {u v x : Value} (h : Grew a b u v) (k : Grew b c v x) : Grew a c u x := by
  have hs := h.by_.size
  refine ⟨⟨k.by_.os.trans h.by_.os, k.by_.tape.trans h.by_.tape, k.by_.output.trans h.by_.output, Nat.le_trans h.by_.size k.by_.size, fun i hi hn => ?_⟩, fun i hi => ?_⟩
  · rw [k.by_.block i (by omega) (fun e => by rcases h.blk i e.symm with f | f; exact hn f.symm; omega)]
    exact h.by_.block i hi hn
  · rcases k.blk i hi with f | f
    · exact h.blk i f
    · right; omega
theorem Grew.alloc {a b : World} {u v : Value} (h : Grew a b u v) (o : Obj) : Grew a (b.alloc o) u v :=
  ⟨⟨h.by_.os, h.by_.tape, h.by_.output, by have := h.by_.size; simp; omega, fun k hk hn => by
    rw [Go.RowKit.Below.heap_alloc _ _ _ (by have := h.by_.size; omega)]; exact h.by_.block k hk hn⟩, h.blk⟩
theorem Chg.grew {F : Nat → Prop} {a b c : World} {u v : Value} (h : Chg F a b) (g : Grew b c u v) (hu : ∀ k, u.ownBlock = some k → F k ∨ a.heap.size ≤ k) : Chg F a c :=
  h.grown g.by_ hu

theorem flatten_get {ds : List (List Value)} {n : Nat} (hn : ∀ d ∈ ds, d.length = n) (i j : Nat) (hi : i < ds.length) (hj : j < n) : ds.flatten[i * n + j]? = ds[i][j]? := by
  induction ds generalizing i with
  | nil => simp at hi
  | cons d r ih =>
    have hd := hn d (by simp)
    cases i with
    | zero => simp only [Nat.zero_mul, Nat.zero_add, List.flatten_cons, List.getElem_cons_zero]; rw [List.getElem?_append_left (by omega)]
    | succ i =>
      simp only [List.flatten_cons, List.getElem_cons_succ]
      rw [List.getElem?_append_right (by rw [hd, Nat.add_mul]; omega), hd, show (i + 1) * n + j - n = i * n + j by rw [Nat.add_mul]; omega]
      exact ih (fun d hd => hn d (by simp [hd])) i (by simpa using hi)
theorem Own.nil [Rep α] (F : Nat → Prop) (w : World) (base : Nat) (T : TypeId) : Own F w base T (.slice none 0 0) ([] : List α) :=
  ⟨[], rfl, fun _ h => absurd h (by simp), World.ownsRow_nil w base T _⟩
theorem Own.sl [Rep α] {F : Nat → Prop} {w : World} {base : Nat} {T : TypeId} {v : Value} {xs : List α} (h : Own F w base T v xs) (hF : ∀ k, v.ownBlock = some k → ¬ F k) : Sl F w v xs := by
  obtain ⟨ds, hl, hc, ho⟩ := h
  have hlen : ∀ d ∈ ds, d.length = Rep.n α := fun d hd => by
    obtain ⟨i, hi, rfl⟩ := List.mem_iff_getElem.1 hd
    exact Rep.len (hc i (by omega) hi)
  rcases id ho.2 with ⟨rfl, h0⟩ | ⟨g, cap, cur, rfl, hb, hg, hnc, hm, hs, ht⟩
  · exact ⟨none, 0, by rw [h0], by omega, .inl (List.eq_nil_of_length_eq_zero h0)⟩
  · refine ⟨_, cap, rfl, hnc, .inr ⟨g, 0, rfl, hF g rfl, lt_of_heap hg, fun i hi => ⟨ds[i], Rep.weak (hc i hi (by omega)) (fun b _ f => .inl f), fun j u hu => ?_⟩⟩⟩
    have hj : j < Rep.n α := by
      rw [← Rep.len (hc i hi (by omega))]; exact (List.getElem?_eq_some_iff.1 hu).1
    have := ho.cells (g := g) rfl (i * Rep.n α + j) u (by rw [flatten_get hlen i j (by omega) hj]; exact hu)
    simpa [Addr.add_lit] using this
theorem Own.keep [Rep α] {F G : Nat → Prop} {w w' : World} {base : Nat} {T : TypeId} {v : Value} {xs : List α} (h : Own F w base T v xs) (hc : Chg G w w')
    (hG : ∀ b, b < w.heap.size → G b → F b) (hv : ∀ k, v.ownBlock = some k → ¬ G k) : Own F w' base T v xs := by
  obtain ⟨ds, hl, hd, ho⟩ := h
  refine ⟨ds, hl, fun i hi hi' => Rep.keep (hd i hi hi') (hc.weak (fun b hb g => .inl (hG b hb g))), ho.1, ?_⟩
  rcases ho.2 with hn | ⟨g, cap, cur, rfl, hb, hg, rest⟩
  · exact .inl hn
  · exact .inr ⟨g, cap, cur, rfl, hb, hc.obj hg (hv g rfl), rest⟩
theorem Own.alloc [Rep α] {F : Nat → Prop} {w : World} {base : Nat} {T : TypeId} {v : Value} {xs : List α} (h : Own F w base T v xs) (o : Obj) : Own F (w.alloc o) base T v xs :=
  h.keep ((Chg.refl No w).alloc o) (fun _ _ f => f.elim) (fun _ _ f => f)
theorem Own.lt [Rep α] {F : Nat → Prop} {w : World} {base : Nat} {T : TypeId} {v : Value} {xs : List α} (h : Own F w base T v xs) : ∀ k, v.ownBlock = some k → base ≤ k ∧ k < w.heap.size := by
  obtain ⟨ds, _, _, ho⟩ := h; exact ho.lt
end Cb


/- An order in plain words: what entries bring, where each record stands. It speaks of no program. -/
set_option linter.unusedVariables false
set_option linter.unusedSimpArgs false
namespace Cb
/-- Number, Kind, Cut, Tag, Upto. -/
abbrev Ent := Int × Int × List Int × Int × Int × Int
/-- pos, first (shard, local), many. -/
abbrev Rn := Int × (Int × Int) × Int
def mayB (n : Int) : Bool := decide (0 ≤ n) && decide (n ≤ 1099511627776)
def vright (v : List Int) : Bool := decide (1 ≤ v.length) && decide (v.length ≤ 8) && !(v.any (fun n => !mayB n))
def kindB (a b : List Int) : Bool := vright a && vright b && decide (a.length = b.length)
def coversB (a b : List Int) : Bool := kindB a b && decide (List.zipWith max a b = a)
def wiB (n a b : Int) : Bool := decide (a ≤ n) && decide (n ≤ b)
def entR (e : Ent) : Bool :=
  wiB e.1 1 1099511627776 &&
    (if e.2.1 = 1 then vright e.2.2.1 && (decide (e.2.2.2.1 = 0) && (decide (e.2.2.2.2.1 = 0) && decide (e.2.2.2.2.2 = 0)))
     else if e.2.1 = 2 then decide (e.2.2.1.length = 0) && (wiB e.2.2.2.1 0 1073741824 && (wiB e.2.2.2.2.1 1 64 && wiB e.2.2.2.2.2 0 1099511627776)) else false)
theorem vright_iff {v : List Int} : vright v = true ↔ 1 ≤ v.length ∧ v.length ≤ 8 ∧ ∀ n ∈ v, 0 ≤ n ∧ n ≤ 1099511627776 := by
  have e : (!(v.any (fun n => !mayB n))) = true ↔ ∀ n ∈ v, 0 ≤ n ∧ n ≤ 1099511627776 := by
    simp [mayB]
  unfold vright
  rw [Bool.and_eq_true, e]
  simp only [Bool.and_eq_true, decide_eq_true_eq]
  exact ⟨fun h => ⟨h.1.1, h.1.2, h.2⟩, fun h => ⟨⟨h.1, h.2.1⟩, h.2.2⟩⟩
theorem zipMax {a b : List Int} (hl : a.length = b.length) : List.zipWith max a b = a ↔ ∀ i (h : i < a.length) (h' : i < b.length), b[i] ≤ a[i] := by
  constructor
  · intro h i hi hi'
    have := congrArg (fun l => l[i]?) h
    simp only [List.getElem?_zipWith, List.getElem?_eq_getElem hi, List.getElem?_eq_getElem hi', Option.some.injEq] at this
    omega
  · intro h
    apply List.ext_getElem
    · simp; omega
    · intro i h1 h2
      rw [List.getElem_zipWith]
      have := h i h2 (by omega)
      omega
/-- One cut is at least another one. -/
inductive Geq : List Int → List Int → Prop
  | nil : Geq [] []
  | cons {x y : Int} {a b : List Int} : y ≤ x → Geq a b → Geq (x :: a) (y :: b)
theorem geq_iff {a b : List Int} : Geq a b ↔ a.length = b.length ∧ ∀ i (h : i < a.length) (h' : i < b.length), b[i] ≤ a[i] := by
  constructor
  · intro h
    induction h with
    | nil => exact ⟨rfl, fun i h => absurd h (by simp)⟩
    | cons hxy _ ih =>
      refine ⟨by simp [ih.1], fun i h h' => ?_⟩
      cases i with
      | zero => simpa using hxy
      | succ i => simpa using ih.2 i (by simpa using h) (by simpa using h')
  · rintro ⟨hl, h⟩
    induction a generalizing b with
    | nil => cases b with
      | nil => exact .nil
      | cons y b => simp at hl
    | cons x a ih => cases b with
      | nil => simp at hl
      | cons y b => exact .cons (h 0 (by simp) (by simp)) (ih (by simpa using hl) (fun i h1 h2 => h (i + 1) (by simpa using h1) (by simpa using h2)))
theorem covers_iff {a b : List Int} : coversB a b = true ↔ vright a = true ∧ vright b = true ∧ Geq a b := by
  simp only [coversB, kindB, Bool.and_eq_true, decide_eq_true_eq, geq_iff]
  constructor
  · rintro ⟨⟨⟨ha, hb⟩, hl⟩, hz⟩; exact ⟨ha, hb, hl, (zipMax hl).1 hz⟩
  · rintro ⟨ha, hb, hl, h⟩; exact ⟨⟨⟨ha, hb⟩, hl⟩, (zipMax hl).2 h⟩
theorem Geq.sum {a b : List Int} (h : Geq a b) : b.sum ≤ a.sum := by
  induction h with
  | nil => simp
  | cons hxy _ ih => simp only [List.sum_cons]; omega
theorem Geq.len {a b : List Int} (h : Geq a b) : a.length = b.length := (geq_iff.1 h).1

structure OSt where
  last : List Int
  runs : List Rn
  after : List Int
def OSt.len (o : OSt) : Int := o.after.getLastD 0
/-- The places of a run. -/
def expand (r : Rn) : List (Int × Int) := (List.range r.2.2.toNat).map fun (i : Nat) => (r.2.1.1, r.2.1.2 + (i : Int))
def rowF (o : OSt) : List (Int × Int) := o.runs.flatMap expand
/-- Runs that stand one behind the other, from p to q. -/
def Contig (p : Int) : List Rn → Int → Prop
  | [], q => p = q
  | r :: rs, q => r.1 = p ∧ 0 < r.2.2 ∧ Contig (p + r.2.2) rs q
theorem Contig.append {p q s : Int} {a b : List Rn} (h : Contig p a q) (k : Contig q b s) : Contig p (a ++ b) s := by
  induction a generalizing p with
  | nil => cases h; exact k
  | cons r rs ih => exact ⟨h.1, h.2.1, ih h.2.2⟩
theorem Contig.len {p q : Int} {a : List Rn} (h : Contig p a q) : ((a.flatMap expand).length : Int) = q - p := by
  induction a generalizing p with
  | nil => cases h; simp
  | cons r rs ih =>
    have := ih h.2.2
    have h2 := h.2.1
    simp only [List.flatMap_cons, List.length_append, expand, List.length_map, List.length_range] at this ⊢
    omega
theorem Contig.runs {p q : Int} {a : List Rn} (h : Contig p a q) : (a.length : Int) ≤ q - p := by
  induction a generalizing p with
  | nil => cases h; simp
  | cons r rs ih => have := ih h.2.2; have := h.2.1; simp only [List.length_cons]; omega
/-- A row of places that goes on from so many of each shard. -/
inductive Steps : List Int → List (Int × Int) → List Int → Prop
  | nil (a : List Int) : Steps a [] a
  | cons {a b : List Int} {r : List (Int × Int)} (s : Nat) (h : s < a.length) : Steps (a.set s (a[s] + 1)) r b → Steps a (((s : Int), a[s]) :: r) b
theorem Steps.append {a b c : List Int} {x y : List (Int × Int)} (h : Steps a x b) (k : Steps b y c) : Steps a (x ++ y) c := by
  induction h with
  | nil => exact k
  | cons s h _ ih => exact .cons s h (ih k)
structure Inv (sh : Nat) (o : OSt) : Prop where
  len : o.last.length = sh
  right : vright o.last = true
  tot : o.last.sum ≤ 1000000
  aft : ∃ a, o.after = a ++ [o.last.sum]
  rise : ∀ i (h : i + 1 < o.after.length), o.after[i] ≤ o.after[i + 1]
  many : o.after.length ≤ 1099511627777
  contig : Contig 0 o.runs o.last.sum
  steps : Steps (List.replicate sh 0) (rowF o) o.last
  loc : ∀ r ∈ o.runs, 0 ≤ r.2.1.1 ∧ r.2.1.1 < sh ∧ 0 ≤ r.2.1.2 ∧ r.2.1.2 + r.2.2 ≤ 1099511627776
end Cb

