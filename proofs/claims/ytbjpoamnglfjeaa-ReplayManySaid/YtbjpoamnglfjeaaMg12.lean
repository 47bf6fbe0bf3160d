/- Texts Opn, RowV, RowE, RegX, RepX. -/
import Derived.Test.YtbjpoamnglfjeaaMg11
import Derived.Deep.Slices
/- What is handed in, opened: numbers, strings, rows, structs, one inside another. It speaks of no program. -/
set_option linter.unusedVariables false
namespace Cb
open Go Go.Deep Go.ChangeShapes Go.WideShapes
section
variable {P : Program}
def Opens (P : Program) (α : Type) [Rep α] (t : TypeId) (B : α → Prop) : Prop :=
  P.cellsOf t = Rep.n α ∧ ∀ (H : Type) (enc : TypeId × Value → H) (w : World) (base : Nat) (spare : Nat → Bool) (held : Bool) (n : Nat) (cs : List Value) (x : DataW H × List MemPlace), DataW.trod enc P w base spare held n t cs = some x →
    ∃ a : α, Rep.cs No w a cs ∧ ((∀ k ∈ x.1.weights P t, k ≤ reachBytes) → B a)
def Both {α β : Type} (B : α → Prop) (C : β → Prop) : α × β → Prop := fun x => B x.1 ∧ C x.2
def Each {α : Type} (k : Nat) (B : α → Prop) : List α → Prop := fun xs => xs.length * k ≤ reachBytes ∧ ∀ x ∈ xs, B x
def I64 : Int → Prop := fun x => -9223372036854775808 ≤ x ∧ x ≤ 9223372036854775807
theorem i64_of {n : Int} (h : (Lit.int .i64 n).wf = true) : I64 n := by
  simp only [Lit.wf, Bool.and_eq_true, decide_eq_true_eq] at h
  exact h
theorem opens_int {t : TypeId} (ht : P.underlying t = some (.int .i64)) (hc : P.cellsOf t = 1) : Opens P Int t I64 :=
  ⟨hc, fun H enc w base spare held n cs x h => by
    obtain ⟨q, e, _, hw⟩ := DataW.trod_int ht h
    exact ⟨q, e, fun _ => i64_of hw⟩⟩
theorem opens_slice {α : Type} [Rep α] {t e : TypeId} {B : α → Prop} (hpos : 0 < Rep.n α) (ht : P.underlying t = some (.slice e)) (hc : P.cellsOf t = 1) (he : Opens P α e B) :
    Opens P (List α) t (Each (P.bytesOf e) B) :=
  ⟨hc, fun H enc w base spare held n cs x h => by
    rcases open_slice ht h with ⟨rfl, rfl⟩ | ⟨a, len, cap, m, n, D, Pl, rfl, _, hl, hm, hmm, hxx, hx⟩
    · exact ⟨[], ⟨_, rfl, Sl.nil _ _ _ _⟩, fun _ => ⟨by simp, fun _ h => absurd h (by simp)⟩⟩
    · have hlm : len ≤ m := by rw [hmm]; split <;> omega
      by_cases hl0 : len = 0
      · subst hl0; exact ⟨[], ⟨_, rfl, Sl.nil _ _ _ _⟩, fun _ => ⟨by simp, fun _ h => absurd h (by simp)⟩⟩
      · have each : ∀ i, i < m → ∃ q : α × List Value, w.cells? base (a.add (i * P.cellsOf e)) (P.cellsOf e) = some q.2 ∧ Rep.cs No w q.1 q.2 ∧ ((∀ k ∈ (D i).weights P e, k ≤ reachBytes) → B q.1) := fun i hi => by
          obtain ⟨cs', h1, h2⟩ := hx i hi
          obtain ⟨q, h3, h4⟩ := he.2 H enc w base spare held _ _ _ h2
          exact ⟨(q, cs'), h1, h3, h4⟩
        obtain ⟨q0, _⟩ := each 0 (by omega)
        haveI : Inhabited (α × List Value) := ⟨q0⟩
        obtain ⟨q, hq⟩ := choose_lt each
        have hcell : ∀ i, i < m → ∀ j u, (q i).2[j]? = some u → w.cell? (a.add (i * P.cellsOf e + j)) = some u := fun i hi j u hu => by
          have := cells?_get (hq i hi).1 hu
          rwa [add_add] at this
        obtain ⟨b, off, spot⟩ := a
        have h0 := hq 0 (by omega)
        have hq0l := Rep.len h0.2.1
        obtain ⟨u0, hu0⟩ : ∃ u, (q 0).2[0]? = some u := ⟨_, List.getElem?_eq_getElem (by omega)⟩
        have hc0 := hcell 0 (by omega) 0 u0 hu0
        have hspot : spot = none := by
          have := World.cell?_spot hc0
          simpa [Addr.add] using this
        subst hspot
        have hb : b < w.heap.size := by
          have := World.block_lt_of_cell? w _ hc0
          rw [add_plain'] at this; exact this
        have hlen : ((List.range len).map fun i => (q i).1).length = len := by simp
        refine ⟨(List.range len).map fun i => (q i).1, ⟨_, rfl, some ⟨b, off, none⟩, cap, by rw [hlen], by rw [hlen]; exact hl, .inr ⟨b, off, rfl, not_no _, hb, fun i hi => ?_⟩⟩, fun hw => ⟨?_, fun x hx' => ?_⟩⟩
        · rw [hlen] at hi
          refine ⟨(q i).2, by rw [List.getElem_map, List.getElem_range]; exact (hq i (by omega)).2.1, fun j u hu => ?_⟩
          have := hcell i (by omega) j u hu
          rw [he.1, add_plain', ← Nat.add_assoc] at this
          exact this
        · rw [hlen]
          have := hw ((((List.range len).map D).length + ((List.range (m - len)).map fun j => D (len + j)).length) * P.bytesOf e) (by rw [hxx]; simp [DataW.weights, ht])
          simp only [List.length_map, List.length_range] at this
          exact Nat.le_trans (Nat.mul_le_mul_right _ (by omega)) this
        · obtain ⟨i, hi, rfl⟩ := List.mem_map.1 hx'
          have hi := List.mem_range.1 hi
          refine (hq i (by omega)).2.2 fun k hk => hw k ?_
          rw [hxx]
          simp only [DataW.weights, ht, List.mem_cons, List.mem_append]
          right; left
          exact mem_weightsAll hk (List.mem_map.2 ⟨i, List.mem_range.2 hi, rfl⟩)⟩
where
  cells?_get {w : World} {base : Nat} {a : Addr} {n : Nat} {cs : List Value} (h : w.cells? base a n = some cs) {j : Nat} {u : Value} (hu : cs[j]? = some u) : w.cell? (a.add j) = some u := by
    obtain ⟨_, hl, hg⟩ := World.cells?_some h
    rw [← hu]
    exact hg j (by have := (List.getElem?_eq_some_iff.1 hu).1; omega)
/-- The fields of a struct from an offset on. -/
def OpensF (P : Program) (α : Type) [Rep α] (fs : List Field) (off : Nat) (B : α → Prop) : Prop :=
  ∀ (H : Type) (enc : TypeId × Value → H) (w : World) (base : Nat) (spare : Nat → Bool) (held : Bool) (n : Nat) (cs : List Value) (xs : List (DataW H × List MemPlace)), cs.length = off + Rep.n α → xs.length = fs.length →
    (∀ (i : Nat) (f : Field), fs[i]? = some f → DataW.trod enc P w base spare held n f.type ((cs.drop f.offset).take (P.cellsOf f.type)) = xs[i]?) →
    ∃ a : α, Rep.cs No w a (cs.drop off) ∧ ((∀ k ∈ DataW.weightsEach P (fs.map (·.type)) (xs.map (·.1)), k ≤ reachBytes) → B a)
theorem opensF_one {α : Type} [Rep α] {f : Field} {off : Nat} {B : α → Prop} (ho : f.offset = off) (hf : Opens P α f.type B) : OpensF P α [f] off B :=
  fun H enc w base spare held n cs xs hl hx h => by
    match xs, hx with
    | [x], _ =>
      have h0 := h 0 f rfl
      rw [ho, hf.1, List.take_of_length_le (by rw [List.length_drop]; omega)] at h0
      simp only [List.getElem?_cons_zero] at h0
      obtain ⟨a, h1, h2⟩ := hf.2 H enc w base spare held n _ _ h0
      exact ⟨a, h1, fun hw => h2 fun k hk => hw k (by simp [DataW.weightsEach, hk])⟩
theorem opensF_cons {α β : Type} [Rep α] [Rep β] {f : Field} {fs : List Field} {off : Nat} {B : α → Prop} {C : β → Prop} (ho : f.offset = off) (hf : Opens P α f.type B) (hr : OpensF P β fs (off + Rep.n α) C) :
    OpensF P (α × β) (f :: fs) off (Both B C) :=
  fun H enc w base spare held n cs xs hl hx h => by
    match xs, hx with
    | x :: xs, hx =>
      have h0 := h 0 f rfl
      rw [ho, hf.1] at h0
      simp only [List.getElem?_cons_zero] at h0
      obtain ⟨a, h1, h2⟩ := hf.2 H enc w base spare held n _ _ h0
      obtain ⟨b, h3, h4⟩ := hr H enc w base spare held n cs xs (by rw [hl]; show off + (Rep.n α + Rep.n β) = _; omega) (by simpa using hx) (fun i g hg => by simpa using h (i + 1) g (by simpa using hg))
      refine ⟨(a, b), ⟨_, _, ?_, h1, h3⟩, fun hw => ⟨h2 fun k hk => hw k ?_, h4 fun k hk => hw k ?_⟩⟩
      · rw [← List.drop_drop, List.take_append_drop]
      · simp [DataW.weightsEach, hk]
      · simp [DataW.weightsEach, hk]
theorem opens_struct {α : Type} [Rep α] {t : TypeId} {fs : List Field} {B : α → Prop} (ht : P.underlying t = some (.struct fs.toArray)) (hc : P.cellsOf t = Rep.n α) (hf : OpensF P α fs 0 B) : Opens P α t B :=
  ⟨hc, fun H enc w base spare held n cs x h => by
    obtain ⟨xs, n, _, hdd, hlen, hxl, hh⟩ := DataW.trod_struct ht h
    obtain ⟨a, h1, h2⟩ := hf H enc w base spare held n cs xs (by rw [hlen, hc]; omega) (by simpa using hxl) (fun i f hf => hh i f (by simpa using hf))
    refine ⟨a, by simpa using h1, fun hw => h2 fun k hk => hw k ?_⟩
    rw [hdd]
    simp only [DataW.weights, ht]
    exact hk⟩
/-- A row that is handed in. -/
theorem opens_row {H : Type} {enc : TypeId × Value → H} {w : World} {base : Nat} {spare : Nat → Bool} {held : Bool} {α : Type} [Rep α] {t : TypeId} {B : List α → Prop} (ho : Opens P (List α) t B) {A : Option Addr} {n c : Nat} {d : DataW H} {ps : List MemPlace} (h : DataW.Trod enc P w base spare held t (.slice A n c) d ps) :
    ∃ xs : List α, Sl No w (.slice A n c) xs ∧ ((∀ k ∈ d.weights P t, k ≤ reachBytes) → B xs) := by
  obtain ⟨fuel, hf⟩ := h
  obtain ⟨a, ⟨v, e, h1⟩, h2⟩ := ho.2 H enc w base spare held fuel [.slice A n c] (d, ps) hf
  simp only [List.cons.injEq, and_true] at e
  subst e
  exact ⟨a, h1, h2⟩
/-- A struct that is handed in. -/
theorem opens_agg {H : Type} {enc : TypeId × Value → H} {w : World} {base : Nat} {spare : Nat → Bool} {held : Bool} {α : Type} [Rep α] {t : TypeId} {B : α → Prop} (ho : Opens P α t B) {cs : Array Value} {d : DataW H} {ps : List MemPlace} (h : DataW.Trod enc P w base spare held t (.agg cs) d ps) :
    ∃ x : α, Rep.cs No w x cs.toList ∧ ((∀ k ∈ d.weights P t, k ≤ reachBytes) → B x) := by
  obtain ⟨fuel, hf⟩ := h
  exact ho.2 H enc w base spare held fuel cs.toList (d, ps) hf
theorem sized_of {H : Type} {ts : List TypeId} {ds : List (DataW H)} {j : Nat} {t : TypeId} {d : DataW H} (h : (DataW.weightsEach P ts ds).all (· ≤ reachBytes) = true) (ht : ts[j]? = some t) (hd : ds[j]? = some d) : ∀ k ∈ d.weights P t, k ≤ reachBytes := fun k hk => by
  have := List.all_eq_true.1 h _ (DataW.weights_mem_each ht hd k hk)
  simpa using this
end
end Cb


/- Rows of numbers that are handed in, opened. -/
set_option linter.unusedVariables false
namespace Go.Proofs.Ytbjpoamnglfjeaa
open Go.ChangeShapes Go.WideShapes Go.ChangeAt Go.RowKit Cb

theorem opens_number : Opens Try.prog Int 3 I64 := opens_int Try.underlying3 (by kernel_rfl)
theorem bytes_number : Try.prog.bytesOf 3 = 8 := by kernel_rfl
set_option maxRecDepth 100000 in
theorem opens_numbers : Opens Try.prog (List Int) 46 (Each (Try.prog.bytesOf 3) I64) := opens_slice (by decide) Try.underlying46 (by kernel_rfl) opens_number
set_option maxRecDepth 100000 in
theorem opens_numrows : Opens Try.prog (List (List Int)) 61 (Each (Try.prog.bytesOf 46) (Each (Try.prog.bytesOf 3) I64)) := opens_slice (by decide) Try.underlying61 (by kernel_rfl) opens_numbers
theorem bytes_numbers : Try.prog.bytesOf 46 = 24 := by kernel_rfl
end Go.Proofs.Ytbjpoamnglfjeaa


/- Entries of the document's that are handed in, opened. -/
set_option linter.unusedVariables false
namespace Go.Proofs.Ytbjpoamnglfjeaa
open Go.ChangeShapes Go.WideShapes Go.ChangeAt Go.RowKit Cb

set_option maxRecDepth 100000 in
theorem opens_seq : Opens Try.prog (Int × Int) 50 (Both I64 I64) :=
  opens_struct Try.underlying50 (by kernel_rfl) (opensF_cons rfl opens_number (opensF_one rfl opens_number))
set_option maxRecDepth 100000 in
theorem opens_entry : Opens Try.prog Ent 52 (Both I64 (Both I64 (Both (Each (Try.prog.bytesOf 3) I64) (Both I64 (Both I64 I64))))) :=
  opens_struct Try.underlying52 (by kernel_rfl) (opensF_cons rfl opens_number (opensF_cons rfl opens_number (opensF_cons rfl opens_numbers (opensF_cons rfl opens_number (opensF_one rfl opens_seq)))))
theorem bytes_entry : Try.prog.bytesOf 52 = 64 := by kernel_rfl
set_option maxRecDepth 100000 in
theorem opens_entries : Opens Try.prog (List Ent) 22 (Each (Try.prog.bytesOf 52) (Both I64 (Both I64 (Both (Each (Try.prog.bytesOf 3) I64) (Both I64 (Both I64 I64)))))) :=
  opens_slice (by decide) Try.underlying22 (by kernel_rfl) opens_entry
end Go.Proofs.Ytbjpoamnglfjeaa


/- Configurations and scripts of installs that are handed in, opened. -/
set_option linter.unusedVariables false
namespace Go.Proofs.Ytbjpoamnglfjeaa
open Go.ChangeShapes Go.WideShapes Go.ChangeAt Go.RowKit Cb

set_option maxRecDepth 100000 in
theorem opens_cfg : Opens Try.prog Cfg 63 (Both I64 (Both (Each (Try.prog.bytesOf 3) I64) (Each (Try.prog.bytesOf 46) (Each (Try.prog.bytesOf 3) I64)))) :=
  opens_struct Try.underlying63 (by kernel_rfl) (opensF_cons rfl opens_number (opensF_cons rfl opens_numbers (opensF_one rfl opens_numrows)))
theorem cfgI_of {q : List Int} {s : List (List Int)} (h1 : (Each (Try.prog.bytesOf 3) I64) q) (h2 : (Each (Try.prog.bytesOf 46) (Each (Try.prog.bytesOf 3) I64)) s) : CfgI q s := by
  obtain ⟨h3, _⟩ := h1
  obtain ⟨h4, h5⟩ := h2
  rw [bytes_number] at h3
  rw [bytes_numbers] at h4
  simp only [reachBytes] at h3 h4
  refine ⟨by omega, by omega, fun x hx => ?_⟩
  have := (h5 x hx).1
  rw [bytes_number] at this
  simp only [reachBytes] at this
  omega
set_option maxRecDepth 100000 in
/-- A configuration that is handed in, with what it may hold. -/
theorem open_config {H : Type} {enc : TypeId × Value → H} {w : World} {base b0 : Nat} {spare : Nat → Bool} {held : Bool} {v : Value} {d : DataW H} {ps : List MemPlace} (hval : Value.okWide Try.prog w .any b0 63 v)
    (h : DataW.Trod enc Try.prog w base spare held 63 v d ps) (hz : ∀ k ∈ d.weights Try.prog 63, k ≤ reachBytes) :
    ∃ (t : Int) (q : List Int) (s : List (List Int)) (vq vs : Value), v = cfgV t vq vs ∧ I64 t ∧ Sl No w vq q ∧ Sl No w vs s ∧ CfgI q s := by
  obtain ⟨cs, rfl, _⟩ := okWide_struct Try.underlying63 hval
  obtain ⟨⟨t, q, s⟩, ⟨_, _, e, rfl, ⟨_, _, rfl, ⟨vq, rfl, hq⟩, ⟨vs, rfl, hs⟩⟩⟩, h2⟩ := opens_agg opens_cfg h
  obtain ⟨h3, h4, h5⟩ := h2 hz
  exact ⟨t, q, s, vq, vs, by rw [show cs = cs.toList.toArray by simp, e]; rfl, h3, hq, hs, cfgI_of h4 h5⟩
end Go.Proofs.Ytbjpoamnglfjeaa


/- Entries that are handed in, opened. -/
set_option linter.unusedVariables false
namespace Go.Proofs.Ytbjpoamnglfjeaa
open Go.ChangeShapes Go.WideShapes Go.ChangeAt Go.RowKit Cb
set_option maxRecDepth 100000 in
theorem open_tail {H : Type} {enc : TypeId × Value → H} {w : World} {base b0 : Nat} {spare : Nat → Bool} {held : Bool} {v : Value} {d : DataW H} {ps : List MemPlace} (hval : Value.okWide Try.prog w .any b0 22 v)
    (h : DataW.Trod enc Try.prog w base spare held 22 v d ps) (hz : ∀ k ∈ d.weights Try.prog 22, k ≤ reachBytes) :
    ∃ l : List Ent, Sl No w v l ∧ TailI l := by
  obtain ⟨a0, len, cap, rfl⟩ := okWide_slice Try.underlying22 hval
  obtain ⟨l, h1, h2⟩ := opens_row opens_entries h
  obtain ⟨h3, h4⟩ := h2 hz
  rw [bytes_entry] at h3
  simp only [reachBytes] at h3
  refine ⟨l, h1, by omega, fun e he => ?_⟩
  have := (h4 e he).2.2.1.1
  rw [bytes_number] at this
  simp only [reachBytes] at this
  omega
end Go.Proofs.Ytbjpoamnglfjeaa

