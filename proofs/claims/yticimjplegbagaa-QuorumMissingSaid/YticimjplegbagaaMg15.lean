/- Texts Opn, RowV, RowE, QuoO, QuoQ, QuoS. -/
import Derived.Test.YticimjplegbagaaMg14
import Derived.Deep.Slices
/- What is handed in, opened: numbers, strings, rows, structs, one inside another. It speaks of no program. -/
set_option linter.unusedVariables false
namespace Cb
open Go Go.Deep Go.ChangeShapes Go.WideShapes
section
variable {P : Program}
def Opens (P : Program) (α : Type) [Rep α] (t : TypeId) (B : α → Prop) : Prop :=
  P.cellsOf t = Rep.n α ∧ ∀ (H : Type) (enc : TypeId × Value → H) (w : World) (base : Nat) (spare : Nat → Bool) (held : Bool) (n : Nat) (cs : List Value) (x : DataW H × List MemPlace), DataW.trod enc P w base spare held n t cs = some x →
    ∃ a : α, Rep.cs No w a cs ∧ ((∀ k ∈ x.1.weights P t, k ≤ reachBytes) → B a)
def Both {α β : Type} (B : α → Prop) (C : β → Prop) : α × β → Prop := fun x => B x.1 ∧ C x.2
def Each {α : Type} (k : Nat) (B : α → Prop) : List α → Prop := fun xs => xs.length * k ≤ reachBytes ∧ ∀ x ∈ xs, B x
def Free {α : Type} : α → Prop := fun _ => True
def I64 : Int → Prop := fun x => -9223372036854775808 ≤ x ∧ x ≤ 9223372036854775807
theorem i64_of {n : Int} (h : (Lit.int .i64 n).wf = true) : I64 n := by
  simp only [Lit.wf, Bool.and_eq_true, decide_eq_true_eq] at h
  exact h
def Short : ByteArray → Prop := fun s => s.size ≤ reachBytes
theorem opens_int {t : TypeId} (ht : P.underlying t = some (.int .i64)) (hc : P.cellsOf t = 1) : Opens P Int t I64 :=
  ⟨hc, fun H enc w base spare held n cs x h => by
    obtain ⟨q, e, _, hw⟩ := DataW.trod_int ht h
    exact ⟨q, e, fun _ => i64_of hw⟩⟩
theorem opens_string {t : TypeId} (ht : P.underlying t = some .string) (hc : P.cellsOf t = 1) : Opens P ByteArray t Short :=
  ⟨hc, fun H enc w base spare held n cs x h => by
    obtain ⟨s, e, hx, _⟩ := DataW.trod_string ht h
    refine ⟨s, e, fun hb => ?_⟩
    unfold Short
    have := hb s.data.toList.length (by rw [hx]; simp [DataW.weights])
    have h5 : s.data.toList.length = s.size := by rw [Array.length_toList]; rfl
    omega⟩
theorem opens_slice {α : Type} [Rep α] {t e : TypeId} {B : α → Prop} (hpos : 0 < Rep.n α) (ht : P.underlying t = some (.slice e)) (hc : P.cellsOf t = 1) (he : Opens P α e B) :
    Opens P (List α) t (Each (P.bytesOf e) B) :=
  ⟨hc, fun H enc w base spare held n cs x h => by
    rcases open_slice ht h with ⟨rfl, rfl⟩ | ⟨a, len, cap, m, n, D, Pl, rfl, _, hl, hm, hmm, hxx, hx⟩
    · exact ⟨[], ⟨_, rfl, Sl.nil _ _ _ _⟩, fun _ => ⟨by simp, fun _ h => absurd h (by simp)⟩⟩
    · have hlm : len ≤ m := by rw [hmm]; split <;> omega
      by_cases hl0 : len = 0
      · subst hl0; exact ⟨[], ⟨_, rfl, Sl.nil _ _ _ _⟩, fun _ => ⟨by simp, fun _ h => absurd h (by simp)⟩⟩
      · have each : ∀ i, i < m → ∃ q : α × List Value, w.cells? base (a.add (i * P.cellsOf e)) (P.cellsOf e) = some q.2 ∧ Rep.cs No w q.1 q.2 ∧ ((∀ k ∈ (D i).weights P e, k ≤ reachBytes) → B q.1) := fun i hi => by
          obtain ⟨cs', h1, h2⟩ := hx i hi
          obtain ⟨q, h3, h4⟩ := he.2 H enc w base spare held _ _ _ h2
          exact ⟨(q, cs'), h1, h3, h4⟩
        obtain ⟨q0, _⟩ := each 0 (by omega)
        haveI : Inhabited (α × List Value) := ⟨q0⟩
        obtain ⟨q, hq⟩ := choose_lt each
        have hcell : ∀ i, i < m → ∀ j u, (q i).2[j]? = some u → w.cell? (a.add (i * P.cellsOf e + j)) = some u := fun i hi j u hu => by
          have := cells?_get (hq i hi).1 hu
          rwa [add_add] at this
        obtain ⟨b, off, spot⟩ := a
        have h0 := hq 0 (by omega)
        have hq0l := Rep.len h0.2.1
        obtain ⟨u0, hu0⟩ : ∃ u, (q 0).2[0]? = some u := ⟨_, List.getElem?_eq_getElem (by omega)⟩
        have hc0 := hcell 0 (by omega) 0 u0 hu0
        have hspot : spot = none := by
          have := World.cell?_spot hc0
          simpa [Addr.add] using this
        subst hspot
        have hb : b < w.heap.size := by
          have := World.block_lt_of_cell? w _ hc0
          rw [add_plain'] at this; exact this
        have hlen : ((List.range len).map fun i => (q i).1).length = len := by simp
        refine ⟨(List.range len).map fun i => (q i).1, ⟨_, rfl, some ⟨b, off, none⟩, cap, by rw [hlen], by rw [hlen]; exact hl, .inr ⟨b, off, rfl, not_no _, hb, fun i hi => ?_⟩⟩, fun hw => ⟨?_, fun x hx' => ?_⟩⟩
        · rw [hlen] at hi
          refine ⟨(q i).2, by rw [List.getElem_map, List.getElem_range]; exact (hq i (by omega)).2.1, fun j u hu => ?_⟩
          have := hcell i (by omega) j u hu
          rw [he.1, add_plain', ← Nat.add_assoc] at this
          exact this
        · rw [hlen]
          have := hw ((((List.range len).map D).length + ((List.range (m - len)).map fun j => D (len + j)).length) * P.bytesOf e) (by rw [hxx]; simp [DataW.weights, ht])
          simp only [List.length_map, List.length_range] at this
          exact Nat.le_trans (Nat.mul_le_mul_right _ (by omega)) this
        · obtain ⟨i, hi, rfl⟩ := List.mem_map.1 hx'
          have hi := List.mem_range.1 hi
          refine (hq i (by omega)).2.2 fun k hk => hw k ?_
          rw [hxx]
          simp only [DataW.weights, ht, List.mem_cons, List.mem_append]
          right; left
          exact mem_weightsAll hk (List.mem_map.2 ⟨i, List.mem_range.2 hi, rfl⟩)⟩
where
  cells?_get {w : World} {base : Nat} {a : Addr} {n : Nat} {cs : List Value} (h : w.cells? base a n = some cs) {j : Nat} {u : Value} (hu : cs[j]? = some u) : w.cell? (a.add j) = some u := by
    obtain ⟨_, hl, hg⟩ := World.cells?_some h
    rw [← hu]
    exact hg j (by have := (List.getElem?_eq_some_iff.1 hu).1; omega)
/-- The fields of a struct from an offset on. -/
def OpensF (P : Program) (α : Type) [Rep α] (fs : List Field) (off : Nat) (B : α → Prop) : Prop :=
  ∀ (H : Type) (enc : TypeId × Value → H) (w : World) (base : Nat) (spare : Nat → Bool) (held : Bool) (n : Nat) (cs : List Value) (xs : List (DataW H × List MemPlace)), cs.length = off + Rep.n α → xs.length = fs.length →
    (∀ (i : Nat) (f : Field), fs[i]? = some f → DataW.trod enc P w base spare held n f.type ((cs.drop f.offset).take (P.cellsOf f.type)) = xs[i]?) →
    ∃ a : α, Rep.cs No w a (cs.drop off) ∧ ((∀ k ∈ DataW.weightsEach P (fs.map (·.type)) (xs.map (·.1)), k ≤ reachBytes) → B a)
theorem opensF_one {α : Type} [Rep α] {f : Field} {off : Nat} {B : α → Prop} (ho : f.offset = off) (hf : Opens P α f.type B) : OpensF P α [f] off B :=
  fun H enc w base spare held n cs xs hl hx h => by
    match xs, hx with
    | [x], _ =>
      have h0 := h 0 f rfl
      rw [ho, hf.1, List.take_of_length_le (by rw [List.length_drop]; omega)] at h0
      simp only [List.getElem?_cons_zero] at h0
      obtain ⟨a, h1, h2⟩ := hf.2 H enc w base spare held n _ _ h0
      exact ⟨a, h1, fun hw => h2 fun k hk => hw k (by simp [DataW.weightsEach, hk])⟩
theorem opensF_cons {α β : Type} [Rep α] [Rep β] {f : Field} {fs : List Field} {off : Nat} {B : α → Prop} {C : β → Prop} (ho : f.offset = off) (hf : Opens P α f.type B) (hr : OpensF P β fs (off + Rep.n α) C) :
    OpensF P (α × β) (f :: fs) off (Both B C) :=
  fun H enc w base spare held n cs xs hl hx h => by
    match xs, hx with
    | x :: xs, hx =>
      have h0 := h 0 f rfl
      rw [ho, hf.1] at h0
      simp only [List.getElem?_cons_zero] at h0
      obtain ⟨a, h1, h2⟩ := hf.2 H enc w base spare held n _ _ h0
      obtain ⟨b, h3, h4⟩ := hr H enc w base spare held n cs xs (by rw [hl]; show off + (Rep.n α + Rep.n β) = _; omega) (by simpa using hx) (fun i g hg => by simpa using h (i + 1) g (by simpa using hg))
      refine ⟨(a, b), ⟨_, _, ?_, h1, h3⟩, fun hw => ⟨h2 fun k hk => hw k ?_, h4 fun k hk => hw k ?_⟩⟩
      · rw [← List.drop_drop, List.take_append_drop]
      · simp [DataW.weightsEach, hk]
      · simp [DataW.weightsEach, hk]
theorem opens_struct {α : Type} [Rep α] {t : TypeId} {fs : List Field} {B : α → Prop} (ht : P.underlying t = some (.struct fs.toArray)) (hc : P.cellsOf t = Rep.n α) (hf : OpensF P α fs 0 B) : Opens P α t B :=
  ⟨hc, fun H enc w base spare held n cs x h => by
    obtain ⟨xs, n, _, hdd, hlen, hxl, hh⟩ := DataW.trod_struct ht h
    obtain ⟨a, h1, h2⟩ := hf H enc w base spare held n cs xs (by rw [hlen, hc]; omega) (by simpa using hxl) (fun i f hf => hh i f (by simpa using hf))
    refine ⟨a, by simpa using h1, fun hw => h2 fun k hk => hw k ?_⟩
    rw [hdd]
    simp only [DataW.weights, ht]
    exact hk⟩
/-- A row that is handed in. -/
theorem opens_row {H : Type} {enc : TypeId × Value → H} {w : World} {base : Nat} {spare : Nat → Bool} {held : Bool} {α : Type} [Rep α] {t : TypeId} {B : List α → Prop} (ho : Opens P (List α) t B) {A : Option Addr} {n c : Nat} {d : DataW H} {ps : List MemPlace} (h : DataW.Trod enc P w base spare held t (.slice A n c) d ps) :
    ∃ xs : List α, Sl No w (.slice A n c) xs ∧ ((∀ k ∈ d.weights P t, k ≤ reachBytes) → B xs) := by
  obtain ⟨fuel, hf⟩ := h
  obtain ⟨a, ⟨v, e, h1⟩, h2⟩ := ho.2 H enc w base spare held fuel [.slice A n c] (d, ps) hf
  simp only [List.cons.injEq, and_true] at e
  subst e
  exact ⟨a, h1, h2⟩
/-- A struct that is handed in. -/
theorem opens_agg {H : Type} {enc : TypeId × Value → H} {w : World} {base : Nat} {spare : Nat → Bool} {held : Bool} {α : Type} [Rep α] {t : TypeId} {B : α → Prop} (ho : Opens P α t B) {cs : Array Value} {d : DataW H} {ps : List MemPlace} (h : DataW.Trod enc P w base spare held t (.agg cs) d ps) :
    ∃ x : α, Rep.cs No w x cs.toList ∧ ((∀ k ∈ d.weights P t, k ≤ reachBytes) → B x) := by
  obtain ⟨fuel, hf⟩ := h
  exact ho.2 H enc w base spare held fuel cs.toList (d, ps) hf
theorem sized_of {H : Type} {ts : List TypeId} {ds : List (DataW H)} {j : Nat} {t : TypeId} {d : DataW H} (h : (DataW.weightsEach P ts ds).all (· ≤ reachBytes) = true) (ht : ts[j]? = some t) (hd : ds[j]? = some d) : ∀ k ∈ d.weights P t, k ≤ reachBytes := fun k hk => by
  have := List.all_eq_true.1 h _ (DataW.weights_mem_each ht hd k hk)
  simpa using this
end
end Cb


/- Rows of numbers that are handed in, opened. -/
set_option linter.unusedVariables false
namespace Go.Proofs.Yticimjplegbagaa
open Go.ChangeShapes Go.WideShapes Go.ChangeAt Go.RowKit Cb

theorem opens_number : Opens Try.prog Int 3 I64 := opens_int Try.underlying3 (by kernel_rfl)
theorem bytes_number : Try.prog.bytesOf 3 = 8 := by kernel_rfl
set_option maxRecDepth 100000 in
theorem opens_numbers : Opens Try.prog (List Int) 22 (Each (Try.prog.bytesOf 3) I64) := opens_slice (by decide) Try.underlying22 (by kernel_rfl) opens_number
set_option maxRecDepth 100000 in
theorem opens_numrows : Opens Try.prog (List (List Int)) 23 (Each (Try.prog.bytesOf 22) (Each (Try.prog.bytesOf 3) I64)) := opens_slice (by decide) Try.underlying23 (by kernel_rfl) opens_numbers
theorem bytes_numbers : Try.prog.bytesOf 22 = 24 := by kernel_rfl
end Go.Proofs.Yticimjplegbagaa


/- Entries of the document's that are handed in, opened. -/
set_option linter.unusedVariables false
namespace Go.Proofs.Yticimjplegbagaa
open Go.ChangeShapes Go.WideShapes Go.ChangeAt Go.RowKit Cb

set_option maxRecDepth 100000 in
theorem opens_seq : Opens Try.prog (Int × Int) 60 (Both I64 I64) :=
  opens_struct Try.underlying60 (by kernel_rfl) (opensF_cons rfl opens_number (opensF_one rfl opens_number))
set_option maxRecDepth 100000 in
theorem opens_entry : Opens Try.prog Ent 66 (Both I64 (Both I64 (Both (Each (Try.prog.bytesOf 3) I64) (Both I64 (Both I64 I64))))) :=
  opens_struct Try.underlying66 (by kernel_rfl) (opensF_cons rfl opens_number (opensF_cons rfl opens_number (opensF_cons rfl opens_numbers (opensF_cons rfl opens_number (opensF_one rfl opens_seq)))))
end Go.Proofs.Yticimjplegbagaa


/- Configurations, scripts of calls, and what sealed replicas had, that are handed in, opened. -/
set_option linter.unusedVariables false
namespace Cb
open Go Go.Deep Go.ChangeShapes Go.WideShapes
theorem opens_bool {P : Program} {t : TypeId} (ht : P.underlying t = some .bool) (hc : P.cellsOf t = 1) : Opens P Bool t Free :=
  ⟨hc, fun H enc w base spare held n cs x h => by
    obtain ⟨q, e, _⟩ := DataW.trod_bool ht h
    exact ⟨q, e, fun _ => trivial⟩⟩
theorem Sl.map {α β : Type} [Rep α] [Rep β] {F : Nat → Prop} {w : World} {v : Value} {xs : List α} (f : α → β) (hn : Rep.n α = Rep.n β) (hf : ∀ x c, Rep.cs F w x c → Rep.cs F w (f x) c) (h : Sl F w v xs) : Sl F w v (xs.map f) := by
  obtain ⟨A, c, rfl, hl, h⟩ := h
  refine ⟨A, c, by rw [List.length_map], by rw [List.length_map]; exact hl, ?_⟩
  rcases h with rfl | ⟨b, o, rfl, hb, hlt, hr⟩
  · exact .inl rfl
  · refine .inr ⟨b, o, rfl, hb, hlt, fun i hi => ?_⟩
    obtain ⟨d, hd, hj⟩ := hr i (by simpa using hi)
    exact ⟨d, by rw [List.getElem_map]; exact hf _ _ hd, fun j u hu => by rw [← hn]; exact hj j u hu⟩
end Cb
namespace Go.Proofs.Yticimjplegbagaa
open Go.ChangeShapes Go.WideShapes Go.ChangeAt Go.RowKit Cb

abbrev RNM := Int × Int × Int × Int × Int × Int × Bool × Rcd × Ent × Int × Int × Cfg7
abbrev RNO := Int × Int × List Int × (Int × Int) × RNM
def toMsg (m : RNM) : Msg := ((m.1, m.2.1, m.2.2.1, m.2.2.2.1), (m.2.2.2.2.1, m.2.2.2.2.2.1), m.2.2.2.2.2.2.1, m.2.2.2.2.2.2.2.1, m.2.2.2.2.2.2.2.2.1, (m.2.2.2.2.2.2.2.2.2.1, m.2.2.2.2.2.2.2.2.2.2.1), m.2.2.2.2.2.2.2.2.2.2.2)
def toOp (o : RNO) : Op12 := ((o.1, o.2.1), o.2.2.1, o.2.2.2.1, toMsg o.2.2.2.2)
theorem msg_cs {F : Nat → Prop} {w : World} (m : RNM) (c : List Value) (h : Rep.cs F w m c) : Rep.cs F w (toMsg m) c := by
  obtain ⟨a, _, rfl, ha, b, _, rfl, hb, d, _, rfl, hd, e, _, rfl, he, f, _, rfl, hf, g, _, rfl, hg, i, _, rfl, hi, r, _, rfl, hr, n, _, rfl, hn, x, _, rfl, hx, y, z, rfl, hy, hz⟩ := h
  exact ⟨a ++ (b ++ (d ++ e)), (f ++ g) ++ (i ++ (r ++ (n ++ ((x ++ y) ++ z)))), by simp [List.append_assoc], ⟨a, _, rfl, ha, b, _, rfl, hb, d, e, rfl, hd, he⟩, f ++ g, _, rfl, ⟨f, g, rfl, hf, hg⟩, i, _, rfl, hi, r, _, rfl, hr, n, _, rfl, hn, x ++ y, z, rfl, ⟨x, y, rfl, hx, hy⟩, hz⟩
theorem op_cs {F : Nat → Prop} {w : World} (o : RNO) (c : List Value) (h : Rep.cs F w o c) : Rep.cs F w (toOp o) c := by
  obtain ⟨a, _, rfl, ha, b, _, rfl, hb, d, _, rfl, hd, e, f, rfl, he, hf⟩ := h
  exact ⟨a ++ b, d ++ (e ++ f), by simp [List.append_assoc], ⟨a, b, rfl, ha, hb⟩, d, _, rfl, hd, e, f, rfl, he, msg_cs _ _ hf⟩
set_option maxRecDepth 100000 in
theorem qopens_cfg : Opens Try.prog Cfg7 25 (Both I64 (Both (Each (Try.prog.bytesOf 3) I64) (Each (Try.prog.bytesOf 22) (Each (Try.prog.bytesOf 3) I64)))) :=
  opens_struct Try.underlying25 (by kernel_rfl) (opensF_cons rfl opens_number (opensF_cons rfl opens_numbers (opensF_one rfl opens_numrows)))
theorem qopens_string : Opens Try.prog ByteArray 9 Short := opens_string Try.underlying9 (by kernel_rfl)
theorem qopens_bool : Opens Try.prog Bool 4 Free := opens_bool Try.underlying4 (by kernel_rfl)
set_option maxRecDepth 100000 in
theorem qopens_id : Opens Try.prog (Int × Int) 62 (Both I64 I64) :=
  opens_struct Try.underlying62 (by kernel_rfl) (opensF_cons rfl opens_number (opensF_one rfl opens_number))
def BI : List Int → Prop := Each (Try.prog.bytesOf 3) I64
def BR : Rcd → Prop := Both (Both I64 I64) (Both BI Short)
def BE : Ent → Prop := Both I64 (Both I64 (Both BI (Both I64 (Both I64 I64))))
def BC : Cfg7 → Prop := Both I64 (Both BI (Each (Try.prog.bytesOf 22) BI))
def BM : RNM → Prop := Both I64 (Both I64 (Both I64 (Both I64 (Both I64 (Both I64 (Both Free (Both BR (Both BE (Both I64 (Both I64 BC))))))))))
def BO : RNO → Prop := Both I64 (Both I64 (Both BI (Both (Both I64 I64) BM)))
set_option maxRecDepth 100000 in
theorem qopens_record : Opens Try.prog Rcd 64 BR :=
  opens_struct Try.underlying64 (by kernel_rfl) (opensF_cons rfl qopens_id (opensF_cons rfl opens_numbers (opensF_one rfl qopens_string)))
set_option maxRecDepth 100000 in
theorem qopens_msg : Opens Try.prog RNM 68 BM :=
  opens_struct Try.underlying68 (by kernel_rfl) (opensF_cons rfl opens_number (opensF_cons rfl opens_number (opensF_cons rfl opens_number (opensF_cons rfl opens_number (opensF_cons rfl opens_number (opensF_cons rfl opens_number
    (opensF_cons rfl qopens_bool (opensF_cons rfl qopens_record (opensF_cons rfl opens_entry (opensF_cons rfl opens_number (opensF_cons rfl opens_number (opensF_one rfl qopens_cfg))))))))))))
set_option maxRecDepth 100000 in
theorem qopens_op : Opens Try.prog RNO 70 BO :=
  opens_struct Try.underlying70 (by kernel_rfl) (opensF_cons rfl opens_number (opensF_cons rfl opens_number (opensF_cons rfl opens_numbers (opensF_cons rfl opens_seq (opensF_one rfl qopens_msg)))))
theorem bytes_qop : Try.prog.bytesOf 70 = 304 := by kernel_rfl
set_option maxRecDepth 100000 in
theorem qopens_script : Opens Try.prog (List RNO) 55 (Each (Try.prog.bytesOf 70) BO) :=
  opens_slice (by decide) Try.underlying55 (by kernel_rfl) qopens_op
theorem bi_len {l : List Int} (h : BI l) : l.length ≤ 17592186044416 := by
  have := h.1
  rw [bytes_number] at this
  simp only [reachBytes] at this
  omega
def CfgI12 (q : List Int) (s : List (List Int)) : Prop := q.length * 8 ≤ 140737488351232 ∧ s.length * 24 ≤ 140737488351232 ∧ ∀ x ∈ s, x.length * 8 ≤ 140737488351232
theorem cfgq_of {q : List Int} {s : List (List Int)} (h1 : (Each (Try.prog.bytesOf 3) I64) q) (h2 : (Each (Try.prog.bytesOf 22) (Each (Try.prog.bytesOf 3) I64)) s) : CfgI12 q s := by
  obtain ⟨h3, _⟩ := h1
  obtain ⟨h4, h5⟩ := h2
  rw [bytes_number] at h3
  rw [bytes_numbers] at h4
  simp only [reachBytes] at h3 h4
  refine ⟨by omega, by omega, fun x hx => ?_⟩
  have := (h5 x hx).1
  rw [bytes_number] at this
  simp only [reachBytes] at this
  omega
set_option maxRecDepth 100000 in
/-- A configuration that is handed in, with what it may hold. -/
theorem qopen_config {H : Type} {enc : TypeId × Value → H} {w : World} {base b0 : Nat} {spare : Nat → Bool} {held : Bool} {v : Value} {d : DataW H} {ps : List MemPlace} (hval : Value.okWide Try.prog w .any b0 25 v)
    (h : DataW.Trod enc Try.prog w base spare held 25 v d ps) (hz : ∀ k ∈ d.weights Try.prog 25, k ≤ reachBytes) :
    ∃ (t : Int) (q : List Int) (s : List (List Int)) (vq vs : Value), v = cfgV t vq vs ∧ I64 t ∧ Sl No w vq q ∧ Sl No w vs s ∧ CfgI12 q s := by
  obtain ⟨cs, rfl, _⟩ := okWide_struct Try.underlying25 hval
  obtain ⟨⟨t, q, s⟩, ⟨_, _, e, rfl, ⟨_, _, rfl, ⟨vq, rfl, hq⟩, ⟨vs, rfl, hs⟩⟩⟩, h2⟩ := opens_agg qopens_cfg h
  obtain ⟨h3, h4, h5⟩ := h2 hz
  exact ⟨t, q, s, vq, vs, by rw [show cs = cs.toList.toArray by simp, e]; rfl, h3, hq, hs, cfgq_of h4 h5⟩
set_option maxRecDepth 100000 in
/-- A script that is handed in, with what it may hold. -/
theorem qopen_script {H : Type} {enc : TypeId × Value → H} {w : World} {base b0 : Nat} {spare : Nat → Bool} {held : Bool} {v : Value} {d : DataW H} {ps : List MemPlace} (hval : Value.okWide Try.prog w .any b0 55 v)
    (h : DataW.Trod enc Try.prog w base spare held 55 v d ps) (hz : ∀ k ∈ d.weights Try.prog 55, k ≤ reachBytes) :
    ∃ l : List Op12, Sl No w v l ∧ l.length ≤ 1000000000000 ∧ ∀ o ∈ l, OpI12 o := by
  obtain ⟨a0, len, cap, rfl⟩ := okWide_slice Try.underlying55 hval
  obtain ⟨l, h1, h2⟩ := opens_row qopens_script h
  obtain ⟨h3, h4⟩ := h2 hz
  rw [bytes_qop] at h3
  simp only [reachBytes] at h3
  refine ⟨l.map toOp, h1.map toOp rfl (fun x c hx => op_cs x c hx), by rw [List.length_map]; omega, fun o ho => ?_⟩
  obtain ⟨x, hx, rfl⟩ := List.mem_map.1 ho
  obtain ⟨_, _, hv, _, _, _, _, _, _, _, _, ⟨_, ht, hdt⟩, ⟨_, _, hc, _⟩, _, _, _, hq, hs⟩ := h4 x hx
  have hss := hs.1
  rw [bytes_numbers] at hss
  simp only [reachBytes] at hss
  unfold Short at hdt
  simp only [reachBytes] at hdt
  exact ⟨bi_len hv, bi_len ht, Nat.le_trans hdt (by decide), bi_len hc, bi_len hq, by simp only [toOp, toMsg]; omega⟩
end Go.Proofs.Yticimjplegbagaa


/- QuorumRises, walked: what is committed never falls, and is never more than there is. -/
set_option linter.unusedVariables false
set_option linter.unusedSimpArgs false
namespace Go.Proofs.Yticimjplegbagaa
open Go.RowKit Cb

theorem smc_of {t : Int} {q : List Int} {s : List (List Int)} (h : rightC t q s = true) : SmC q s := by
  obtain ⟨_, ⟨_, h7⟩, ⟨_, h8⟩, _, hall⟩ := rightC_iff.1 h
  refine ⟨by omega, by omega, fun x hx => ?_⟩
  have := hall x hx
  simp only [shardB, Bool.and_eq_true, decide_eq_true_eq] at this
  omega
theorem wt_parts {o : Op12} (h : wt12 o ≤ 3000) : o.2.1.length ≤ 1000000 ∧ MsgB o.2.2.2 := by
  unfold wt12 at h
  exact ⟨by omega, by omega, by omega, by omega⟩
/-- The operation's variable, as it lies behind the load. -/
theorem opC_one (x : Op12) {vv vt vc vq vs : Value} (h1 : vv.oneCell' = true) (h2 : vt.oneCell' = true) (h3 : vc.oneCell' = true) (h4 : vq.oneCell' = true) (h5 : vs.oneCell' = true) : (opC x vv vt vc vq vs).all (·.oneCell') = true := by
  have hi : ∀ k n, (Value.int k n).oneCell' = true := fun _ _ => rfl
  have hb : ∀ b, (Value.bool b).oneCell' = true := fun _ => rfl
  have hs : ∀ b, (Value.string b).oneCell' = true := fun _ => rfl
  simp [opC, h1, h2, h3, h4, h5, hi, hb, hs]
theorem sl_one {α : Type} [Rep α] {F : Nat → Prop} {w : World} {v : Value} {xs : List α} (h : Sl F w v xs) : v.oneCell' = true := by
  obtain ⟨A, c, rfl, _⟩ := h; rfl
theorem MsgS.one {F : Nat → Prop} {w : World} {m : Msg} {vt vc vq vs : Value} (h : MsgS F w m vt vc vq vs) : vt.oneCell' = true ∧ vc.oneCell' = true ∧ vq.oneCell' = true ∧ vs.oneCell' = true := ⟨sl_one h.t, sl_one h.c, sl_one h.q, sl_one h.s⟩
end Go.Proofs.Yticimjplegbagaa


/- QuorumMissing, walked: what a node is not known to have, and what it is, are together all entries. -/
set_option linter.unusedVariables false
set_option linter.unusedSimpArgs false
namespace Go.Proofs.Yticimjplegbagaa
open Go.RowKit Cb

def askM (x t n : Int) : Msg := ((4, x, 0, t), (0, n), false, ((0, 0), [], ⟨#[]⟩), (0, 0, [], 0, 0, 0), (0, 0), 0, [], [])
theorem ask_heard {K : Nat} {st : PSt} (h : PI K st) (hK : K ≤ 1000) {x : Int} (hx : x ∈ st.nodes) : heardF st (askM x st.t st.l.length) = (hearP st x st.l.length false, true) := by
  have hn := of_decide_eq_true h.nodes.1
  have hx1 := hn.1 x hx
  have ht := h.tt
  have hl := h.len
  have e1 : wiB x 0 15 = true := by simp only [wiB, Bool.and_eq_true, decide_eq_true_eq]; omega
  have e3 : wiB st.t 1 64 = true := by simp only [wiB, Bool.and_eq_true, decide_eq_true_eq]; omega
  have e4 : wiB (st.l.length : Int) 0 1099511627776 = true := by simp only [wiB, Bool.and_eq_true, decide_eq_true_eq]; omega
  have e5 : bare46 (askM x st.t st.l.length) = true := by simp [bare46, askM]
  have this : hearB st (askM x st.t st.l.length) = true := by
    show (decide ((4 : Int) = 4 ∨ (4 : Int) = 6) && ((wiB x 0 15 && (wiB 0 0 15 && (wiB st.t 1 64 && (wiB (st.l.length : Int) 0 1099511627776 && bare46 (askM x st.t st.l.length))))) && (decide (st.t = st.t) && (decide (x ∈ st.nodes) && decide ((st.l.length : Int) ≤ (st.l.length : Int)))))) = true
    rw [e1, e3, e4, e5]
    simp [hx, wiB]
  exact (if_pos this).trans rfl
theorem ask_has {K : Nat} {st : PSt} (h : PI K st) (x : Int) : hasF (hearP st x st.l.length false).m x = (st.l.length : Int) := by
  have := h.has x
  simp only [hearP, has_set, if_true]
  omega
theorem miss_num {K : Nat} {st : PSt} (h : PI K st) (n i : Nat) (hi : i < (st.l.drop n).length) : (st.l.drop n)[i].1 = (n : Int) + i + 1 := by
  rw [List.getElem_drop]
  rw [List.length_drop] at hi
  rw [h.num (n + i) (by omega)]
  omega

set_option maxRecDepth 100000 in
set_option maxHeartbeats 8000000 in
theorem qmissing_any (t : Int) (vq vs v : Value) (q : List Int) (s : List (List Int)) (l : List Op12) (w : World) (hq : Sl No w vq q) (hs : Sl No w vs s) (h : Sl No w v l) (hc : CfgI12 q s) (hl : l.length ≤ 1000000000000) (ho : ∀ o ∈ l, OpI12 o) (x0 : Int) :
    Calls Try.prog 6 #[cfgV t vq vs, v, .int .i64 x0] w fun e w' => e = .returned (.bool true) ∧ Chg No w w' := by
  have Hfew := Lib.hid (fun W (hW : Chg No w W) => fewq_any No No No t vq vs v q s l W (hq.keepNo hW) (hs.keepNo hW) (h.keepNo hW) (by have := hc.1; omega) (by have := hc.2.1; omega) (fun x hx => by have := hc.2.2 x hx; omega) hl ho)
  have Hno := Lib.hid (fun W (hW : Chg No w W) (hr : rightC t q s = false) => pnew_no t vq vs q s W (hq.keepNo hW) (hs.keepNo hW) (by have := hc.1; omega) (by have := hc.2.1; omega) hc.2.2 hr)
  have Hyes := Lib.hid (fun W (hW : Chg No w W) (hr : rightC t q s = true) => pnew_yes t vq vs q s W (hq.keepNo hW) (hs.keepNo hW) hr)
  have Hhas := Lib.hid (fun W (hW : Chg No w W) => has_any No vq q x0 W (hq.keepNo hW) (by have := hc.1; omega))
  obtain ⟨Aq, cq, rfl⟩ := hq.slice
  obtain ⟨As, cs, rfl⟩ := hs.slice
  obtain ⟨A, c, rfl⟩ := h.slice
  unfold cfgV at *
  have o1 := alloc_obj w (.cells #[.int .i64 t, .slice Aq q.length cq, .slice As s.length cs] 25)
  have hc0 := (Chg.refl No w).alloc (.cells #[.int .i64 t, .slice Aq q.length cq, .slice As s.length cs] 25)
  have a0 := cell_obj (i := 0) o1 rfl
  have a1 := cell_obj (i := 1) o1 rfl
  have a2 := cell_obj (i := 2) o1 rfl
  have hz0 : (w.alloc (.cells #[.int .i64 t, .slice Aq q.length cq, .slice As s.length cs] 25)).heap.size = w.heap.size + 1 := by simp
  have Hh := Lib.hid h
  clear h hs hq ho hc
  go_enter Try.func6, Try.ntmps6
  go_wp2_with (with_reducible first | refine stop_append ?_ | refine stop_copy ?_ | refine stop_make ?_ | refine stop_lookup ?_ | refine stop_update ?_ | refine stop_slice ?_ | refine stop_range ?_ | refine stop_next ?_ | refine stop_convert ⟨_, rfl⟩ ?_ | refine stop_convertB ⟨_, _, _, rfl⟩ ?_ | refine stop_eqSlice ⟨_, _, rfl⟩ ?_)
  generalize w.alloc (.cells #[.int .i64 t, .slice Aq q.length cq, .slice As s.length cs] 25) = w0 at *
  have Hw0 := Lib.hid hz0
  clear hz0
  obtain ⟨b, hb⟩ : ∃ b, b = w.heap.size := ⟨_, rfl⟩
  rw [← hb] at a0 a1 a2 ⊢
  have Hb := Lib.hid hb
  clear hb
  clear o1
  rcases hr : rightC t q s with _ | _
  · refine (Hno.out _ hc0 hr).mono ?_
    rintro e w1 ⟨rfl, hc1⟩
    clear hr
    go_wp2_with (with_reducible first | refine stop_append ?_ | refine stop_copy ?_ | refine stop_make ?_ | refine stop_lookup ?_ | refine stop_update ?_ | refine stop_slice ?_ | refine stop_range ?_ | refine stop_next ?_ | refine stop_convert ⟨_, rfl⟩ ?_ | refine stop_convertB ⟨_, _, _, rfl⟩ ?_ | refine stop_eqSlice ⟨_, _, rfl⟩ ?_)
    refine (qalive_any _).mono ?_
    rintro e w2 ⟨rfl, hc2⟩
    have hcw := (hc0.trans hc1).trans hc2
    go_wp2_with (with_reducible first | refine stop_append ?_ | refine stop_copy ?_ | refine stop_make ?_ | refine stop_lookup ?_ | refine stop_update ?_ | refine stop_slice ?_ | refine stop_range ?_ | refine stop_next ?_ | refine stop_convert ⟨_, rfl⟩ ?_ | refine stop_convertB ⟨_, _, _, rfl⟩ ?_ | refine stop_eqSlice ⟨_, _, rfl⟩ ?_)
    go_ret
    exact ⟨rfl, hcw⟩
  have hsm := smc_of hr
  have hpi := pi_new hr
  refine (Hyes.out _ hc0 hr).mono ?_
  rintro e w1 ⟨p, rfl, hc1, hp1⟩
  have hcw1 := hc0.trans hc1
  replace a0 := hc1.cell a0 (not_no _)
  replace a1 := hc1.cell a1 (not_no _)
  replace a2 := hc1.cell a2 (not_no _)
  have Hq7 := Lib.hid (rightC_iff.1 hr)
  have Hsm := Lib.hid hsm; have Hpi := Lib.hid hpi; have Hp1 := Lib.hid hp1
  clear hr hsm hpi hp1 Hno Hyes
  go_wp2_with (with_reducible first | refine stop_append ?_ | refine stop_copy ?_ | refine stop_make ?_ | refine stop_lookup ?_ | refine stop_update ?_ | refine stop_slice ?_ | refine stop_range ?_ | refine stop_next ?_ | refine stop_convert ⟨_, rfl⟩ ?_ | refine stop_convertB ⟨_, _, _, rfl⟩ ?_ | refine stop_eqSlice ⟨_, _, rfl⟩ ?_)
  refine (Hfew.out _ hcw1).mono ?_
  rintro e w2 ⟨⟨bf, rfl, hbf⟩, hc2⟩
  have hcw2 := hcw1.trans hc2
  have Hbf := Lib.hid hbf
  clear hbf Hfew
  cases bf
  · go_wp2_with (with_reducible first | refine stop_append ?_ | refine stop_copy ?_ | refine stop_make ?_ | refine stop_lookup ?_ | refine stop_update ?_ | refine stop_slice ?_ | refine stop_range ?_ | refine stop_next ?_ | refine stop_convert ⟨_, rfl⟩ ?_ | refine stop_convertB ⟨_, _, _, rfl⟩ ?_ | refine stop_eqSlice ⟨_, _, rfl⟩ ?_)
    refine (qalive_any _).mono ?_
    rintro e w3 ⟨rfl, hc3⟩
    have hcw := hcw2.trans hc3
    go_wp2_with (with_reducible first | refine stop_append ?_ | refine stop_copy ?_ | refine stop_make ?_ | refine stop_lookup ?_ | refine stop_update ?_ | refine stop_slice ?_ | refine stop_range ?_ | refine stop_next ?_ | refine stop_convert ⟨_, rfl⟩ ?_ | refine stop_convertB ⟨_, _, _, rfl⟩ ?_ | refine stop_eqSlice ⟨_, _, rfl⟩ ?_)
    go_ret
    exact ⟨rfl, hcw⟩
  have Hl60 := Lib.hid (Hbf.out rfl).1
  have Hwts := Lib.hid ((Hbf.out rfl).2 Hsm.out)
  obtain ⟨S1, hQ⟩ : ∃ S, Pri w2 S p ⟨t, s.length, q.length / 2 + 1, q, [], List.replicate s.length 0, [], false⟩ ∧ ∀ k, S k → b < k := ⟨_, Hp1.out.keepNo hc2, fun k hk => by have := Hw0.out; have := Hb.out; omega⟩
  obtain ⟨st0, hst0⟩ : ∃ st : PSt, st = ⟨t, s.length, q.length / 2 + 1, q, [], List.replicate s.length 0, [], false⟩ := ⟨_, rfl⟩
  rw [← hst0] at hQ Hpi
  have HQ := Lib.hid hQ
  have Hst1 := Lib.hid (show st0.t = t ∧ st0.nodes = q by rw [hst0]; exact ⟨rfl, rfl⟩)
  replace a0 := hc2.cell a0 (not_no _)
  replace a1 := hc2.cell a1 (not_no _)
  clear hQ hst0 Hp1 Hbf a2 hc0 hc1 hc2 hcw1
  go_wp2_with (with_reducible first | refine stop_append ?_ | refine stop_copy ?_ | refine stop_make ?_ | refine stop_lookup ?_ | refine stop_update ?_ | refine stop_slice ?_ | refine stop_range ?_ | refine stop_next ?_ | refine stop_convert ⟨_, rfl⟩ ?_ | refine stop_convertB ⟨_, _, _, rfl⟩ ?_ | refine stop_eqSlice ⟨_, _, rfl⟩ ?_)
  go_loopw [10, 35] (fun _ v35 wr => ∃ (k : Nat) (S : Nat → Prop) (st : PSt), k ≤ l.length ∧ v35 = .int .i64 k ∧ Chg No w wr ∧ Pri wr S p st ∧ PI k st ∧ (∀ k, S k → b < k) ∧ wr.cell? ⟨b, 0, none⟩ = some (.int .i64 t) ∧ wr.cell? ⟨b, 1, none⟩ = some (.slice Aq q.length cq) ∧ st.t = t ∧ st.nodes = q) (fun _ v35 _ => l.length - (intOf v35).toNat)
  case atStart => exact ⟨0, S1, st0, by omega, rfl, hcw2, HQ.out.1, Hpi.out, HQ.out.2, a0, a1, Hst1.out.1, Hst1.out.2⟩
  case round =>
    clear a0 a1
    obtain ⟨k, S, st, hk, rfl, hc1, hp, hpi, hS, a0, a1, ht, hq7⟩ := hrel
    have Hp := Lib.hid hp; have Hpi := Lib.hid hpi; have HS := Lib.hid hS; have Ht := Lib.hid ht; have Hqn := Lib.hid hq7
    clear hp hpi hS ht hq7
    by_cases hlt : k < l.length
    · obtain ⟨b4, o4, vv, vt, vc, vq4, vs4, rfl, -, hbl, sv, sm, hcells⟩ := op12_get ((Sl.up Hh.out (Nat.le_refl _)).keepNo hc1) k hlt
      have hwt := Nat.le_trans (wts_mem (List.getElem_mem hlt)) Hwts.out
      generalize l[k] = x at *
      obtain ⟨hx1, hx2⟩ := wt_parts hwt
      have Hsv := Lib.hid (fun W (hW : Chg S wr W) => sv.keep (hW.weak (fun i _ g => by have := HS.out i g; have := Hb.out; simp only [Ge]; omega)))
      have Hsm4 := Lib.hid (fun W (hW : Chg No wr W) => sm.keepNo hW)
      have Hone := Lib.hid (opC_one x (sl_one sv) sm.one.1 sm.one.2.1 sm.one.2.2.1 sm.one.2.2.2)
      have Hcells := Lib.hid hcells
      have Hx1 := Lib.hid hx1; have Hx2 := Lib.hid hx2
      clear sv sm hcells hwt hx1 hx2
      obtain ⟨wA, rfl⟩ : ∃ W : World, W = wr := ⟨_, rfl⟩
      go_wp2_with (with_reducible first | refine stop_append ?_ | refine stop_copy ?_ | refine stop_make ?_ | refine stop_lookup ?_ | refine stop_update ?_ | refine stop_slice ?_ | refine stop_range ?_ | refine stop_next ?_ | refine stop_convert ⟨_, rfl⟩ ?_ | refine stop_convertB ⟨_, _, _, rfl⟩ ?_ | refine stop_eqSlice ⟨_, _, rfl⟩ ?_ | refine stop_store ?_ | refine stop_alloc ?_ | refine stop_box ?_ | refine stop_load (t := 70) ?_)
      refine step_load_at b4 (o4 + k * 27) (opC x vv vt vc vq4 vs4) rfl Hcells.out Try.underlying70 rfl (by kernel_rfl) ?_
      go_wp2_with (with_reducible first | refine stop_append ?_ | refine stop_copy ?_ | refine stop_make ?_ | refine stop_lookup ?_ | refine stop_update ?_ | refine stop_slice ?_ | refine stop_range ?_ | refine stop_next ?_ | refine stop_convert ⟨_, rfl⟩ ?_ | refine stop_convertB ⟨_, _, _, rfl⟩ ?_ | refine stop_eqSlice ⟨_, _, rfl⟩ ?_ | refine stop_store ?_ | refine stop_alloc ?_ | refine stop_box ?_ | refine stop_load (t := 70) ?_)
      refine step_alloc (.agg #[.int .i64 0, .int .i64 0, .slice none 0 0, .int .i64 0, .int .i64 0, .int .i64 0, .int .i64 0, .int .i64 0, .int .i64 0, .int .i64 0, .int .i64 0, .bool false, .int .i64 0, .int .i64 0, .slice none 0 0, .string ⟨#[]⟩, .int .i64 0, .int .i64 0, .slice none 0 0, .int .i64 0, .int .i64 0, .int .i64 0, .int .i64 0, .int .i64 0, .int .i64 0, .slice none 0 0, .slice none 0 0]) #[.int .i64 0, .int .i64 0, .slice none 0 0, .int .i64 0, .int .i64 0, .int .i64 0, .int .i64 0, .int .i64 0, .int .i64 0, .int .i64 0, .int .i64 0, .bool false, .int .i64 0, .int .i64 0, .slice none 0 0, .string ⟨#[]⟩, .int .i64 0, .int .i64 0, .slice none 0 0, .int .i64 0, .int .i64 0, .int .i64 0, .int .i64 0, .int .i64 0, .int .i64 0, .slice none 0 0, .slice none 0 0] (by kernel_rfl) rfl ?_
      intro w2 o2 c2 s2
      go_wp2_with (with_reducible first | refine stop_append ?_ | refine stop_copy ?_ | refine stop_make ?_ | refine stop_lookup ?_ | refine stop_update ?_ | refine stop_slice ?_ | refine stop_range ?_ | refine stop_next ?_ | refine stop_convert ⟨_, rfl⟩ ?_ | refine stop_convertB ⟨_, _, _, rfl⟩ ?_ | refine stop_eqSlice ⟨_, _, rfl⟩ ?_ | refine stop_store ?_ | refine stop_alloc ?_ | refine stop_box ?_ | refine stop_load (t := 70) ?_)
      refine step_store_row wA.heap.size (opC x vv vt vc vq4 vs4) rfl rfl o2 (by kernel_rfl) rfl Hone.out ?_
      intro w3 o3 c3
      have hc3 := c2.old c3 (fun i h => by simp only [At] at h; omega)
      have hst := Hpi.out
      have hn7 : st.nodes.length ≤ 1000000 := by have := hst.nodes; omega
      have Hn7 := Lib.hid hn7
      clear o2 c2 s2 c3 hn7 hst
      go_wp2_with (with_reducible first | refine stop_append ?_ | refine stop_copy ?_ | refine stop_make ?_ | refine stop_lookup ?_ | refine stop_update ?_ | refine stop_slice ?_ | refine stop_range ?_ | refine stop_next ?_ | refine stop_convert ⟨_, rfl⟩ ?_ | refine stop_convertB ⟨_, _, _, rfl⟩ ?_ | refine stop_eqSlice ⟨_, _, rfl⟩ ?_ | refine stop_store ?_ | refine stop_alloc ?_ | refine stop_box ?_ | refine stop_load (t := 70) ?_)
      refine step_load_row wA.heap.size _ rfl o3 Try.underlying70 rfl (by kernel_rfl) ?_
      go_wp2_with (with_reducible first | refine stop_append ?_ | refine stop_copy ?_ | refine stop_make ?_ | refine stop_lookup ?_ | refine stop_update ?_ | refine stop_slice ?_ | refine stop_range ?_ | refine stop_next ?_ | refine stop_convert ⟨_, rfl⟩ ?_ | refine stop_convertB ⟨_, _, _, rfl⟩ ?_ | refine stop_eqSlice ⟨_, _, rfl⟩ ?_ | refine stop_store ?_ | refine stop_alloc ?_ | refine stop_box ?_ | refine stop_load (t := 70) ?_)
      have Hlaw := Lib.hid (does_law Hpi.out x)
      have Hd := Lib.hid (does_any S (Ge w.heap.size) p st x vv vt vc vq4 vs4 w3 (Hp.out.keepNo hc3) ((Hsv.out _ hc3.of_no).weak (fun i _ g => by have := HS.out i g; have := Hb.out; simp only [Ge]; omega)) (Hsm4.out _ hc3) Hx1.out Hx2.out Hn7.out (by have := Hpi.out.last8; omega) (by have := Hpi.out.len; have := Hl60.out; omega))
      generalize doesF st x = res at *
      refine Hd.out.mono ?_
      rintro e w6 ⟨vx, S6, rfl, hc6, hp6, hS6, hs6⟩
      have hlo : ∀ k, S k → w.heap.size ≤ k := fun k hk => by have := HS.out k hk; have := Hb.out; omega
      have hcw6 : Chg No w w6 := (hc1.trans hc3).old hc6 hlo
      have HS6 := Lib.hid (show ∀ k, S6 k → b < k from fun k g => by rcases hS6 k g with g | g; exact HS.out k g; (have := hc3.size; have := World.block_lt_of_cell? wA ⟨b, 0, none⟩ a0; simp only at this; omega))
      have Hp6 := Lib.hid hp6
      have Hlaw6 := Lib.hid (Hlaw.out.1)
      have Ht6 := Lib.hid (show res.1.t = t ∧ res.1.nodes = q from ⟨Hlaw.out.2.t.trans Ht.out, Hlaw.out.2.nodes.trans Hqn.out⟩)
      have hnb : ¬ S b := fun s => by have := HS.out b s; omega
      replace a0 := hc6.cell (hc3.cell a0 (not_no _)) hnb
      replace a1 := hc6.cell (hc3.cell a1 (not_no _)) hnb
      clear Hd hp6 hS6 hs6 Hlaw hc6 o3 hc3 hc1 Hsv Hsm4 Hcells Hone hlo hnb
      go_wp2_with (with_reducible first | refine stop_append ?_ | refine stop_copy ?_ | refine stop_make ?_ | refine stop_lookup ?_ | refine stop_update ?_ | refine stop_slice ?_ | refine stop_range ?_ | refine stop_next ?_ | refine stop_convert ⟨_, rfl⟩ ?_ | refine stop_convertB ⟨_, _, _, rfl⟩ ?_ | refine stop_eqSlice ⟨_, _, rfl⟩ ?_ | refine stop_store ?_ | refine stop_alloc ?_ | refine stop_box ?_ | refine stop_load (t := 70) ?_)
      go_roundw
      case rel => exact ⟨k + 1, S6, res.1, by omega, by go_num, hcw6, Hp6.out, Hlaw6.out, HS6.out, a0, a1, Ht6.out.1, Ht6.out.2⟩
      case measure => simp [intOf]; omega
    · obtain rfl : k = l.length := by omega
      have hK := Hl60.out
      have Hn7 := Lib.hid (show st.nodes.length ≤ 1000000 by have := Hpi.out.nodes; omega)
      have Hll := Lib.hid (show st.l.length ≤ 60 by have := Hpi.out.len; omega)
      have Hcb := Lib.hid (show ∀ e ∈ st.l, e.2.2.1.length ≤ 1000000 from fun e he => by have := ent_cut8 (Hpi.out.ents e he); omega)
      obtain ⟨wA, rfl⟩ : ∃ W : World, W = wr := ⟨_, rfl⟩
      have Hms := Lib.hid (pmissing_any S p st x0 wA Hp.out Hn7.out (by have := Hll.out; omega) Hcb.out (Hpi.out.has x0))
      have hmd : missF st x0 = if x0 ∈ q then st.l.drop (hasF st.m x0).toNat else [] := by unfold missF; rw [Hqn.out]
      have Hmd := Lib.hid hmd
      clear hmd hK
      generalize missF st x0 = mf at *
      go_wp2_with (with_reducible first | refine stop_append ?_ | refine stop_copy ?_ | refine stop_make ?_ | refine stop_lookup ?_ | refine stop_update ?_ | refine stop_slice ?_ | refine stop_range ?_ | refine stop_next ?_ | refine stop_convert ⟨_, rfl⟩ ?_ | refine stop_convertB ⟨_, _, _, rfl⟩ ?_ | refine stop_eqSlice ⟨_, _, rfl⟩ ?_)
      refine Hms.out.mono ?_
      rintro e w2 ⟨vm, rfl, hc2, hsm2⟩
      obtain ⟨Am, cm, rfl⟩ := hsm2.slice
      have Hsm2 := Lib.hid hsm2.no
      replace a0 := hc2.cell a0 (not_no _)
      replace a1 := hc2.cell a1 (not_no _)
      have hcw2 := hc1.trans hc2
      have Hp2 := Lib.hid (Hp.out.keepNo hc2)
      clear hsm2 hc1 hc2 Hms Hp
      go_wp2_with (with_reducible first | refine stop_append ?_ | refine stop_copy ?_ | refine stop_make ?_ | refine stop_lookup ?_ | refine stop_update ?_ | refine stop_slice ?_ | refine stop_range ?_ | refine stop_next ?_ | refine stop_convert ⟨_, rfl⟩ ?_ | refine stop_convertB ⟨_, _, _, rfl⟩ ?_ | refine stop_eqSlice ⟨_, _, rfl⟩ ?_)
      refine (Hhas.out _ hcw2).mono ?_
      rintro e w3 ⟨rfl, hc3⟩
      have hcw3 := hcw2.trans hc3
      replace a0 := hc3.cell a0 (not_no _)
      have Hp3 := Lib.hid (Hp2.out.keepNo hc3)
      have Hsm3 := Lib.hid (Hsm2.out.keepNo hc3)
      clear a1 hc3 hcw2 Hp2 Hsm2
      by_cases hx : x0 ∈ q
      rotate_left
      · obtain rfl : mf = [] := by rw [Hmd.out, if_neg hx]
        have hdx : decide (x0 ∈ q) = false := decide_eq_false hx
        rw [hdx]
        clear hx hdx
        go_wp2_with (with_reducible first | refine stop_append ?_ | refine stop_copy ?_ | refine stop_make ?_ | refine stop_lookup ?_ | refine stop_update ?_ | refine stop_slice ?_ | refine stop_range ?_ | refine stop_next ?_ | refine stop_convert ⟨_, rfl⟩ ?_ | refine stop_convertB ⟨_, _, _, rfl⟩ ?_ | refine stop_eqSlice ⟨_, _, rfl⟩ ?_)
        refine (qalive_any _).mono ?_
        rintro e w4 ⟨rfl, hc4⟩
        have hcw := hcw3.trans hc4
        go_wp2_with (with_reducible first | refine stop_append ?_ | refine stop_copy ?_ | refine stop_make ?_ | refine stop_lookup ?_ | refine stop_update ?_ | refine stop_slice ?_ | refine stop_range ?_ | refine stop_next ?_ | refine stop_convert ⟨_, rfl⟩ ?_ | refine stop_convertB ⟨_, _, _, rfl⟩ ?_ | refine stop_eqSlice ⟨_, _, rfl⟩ ?_)
        go_ret
        exact ⟨rfl, hcw⟩
      have hdx : decide (x0 ∈ q) = true := decide_eq_true hx
      rw [hdx]
      clear hdx
      obtain ⟨hN, hhN⟩ : ∃ n : Nat, hasF st.m x0 = n := ⟨(hasF st.m x0).toNat, by have := (Hpi.out.has x0).1; omega⟩
      have Hmf := Lib.hid (show mf = st.l.drop hN by rw [Hmd.out, if_pos hx, hhN, Int.toNat_natCast])
      have HhN := Lib.hid (show hN ≤ st.l.length by have := (Hpi.out.has x0).2; omega)
      have Hx := Lib.hid (show x0 ∈ st.nodes by rw [Hqn.out]; exact hx)
      have Hml := Lib.hid (show mf.length = st.l.length - hN by rw [Hmf.out, List.length_drop])
      have Hnum := Lib.hid (fun i (hi : i < mf.length) => show mf[i].1 = (hN : Int) + i + 1 by
        have e := Hmf.out
        subst e
        exact miss_num Hpi.out hN i hi)
      clear hx hhN
      have Hln := Lib.hid (fun W (hW : Chg No w3 W) => plen_any S p st W (Hp3.out.keepNo hW))
      obtain ⟨n, hn⟩ : ∃ n, n = st.l.length := ⟨_, rfl⟩
      rw [← hn] at Hln HhN Hml Hll
      have Hn := Lib.hid hn
      clear hn
      have Ha0 := Lib.hid (fun W (hW : Chg No w3 W) => hW.cell a0 (not_no _))
      clear a0
      go_wp2_with (with_reducible first | refine stop_append ?_ | refine stop_copy ?_ | refine stop_make ?_ | refine stop_lookup ?_ | refine stop_update ?_ | refine stop_slice ?_ | refine stop_range ?_ | refine stop_next ?_ | refine stop_convert ⟨_, rfl⟩ ?_ | refine stop_convertB ⟨_, _, _, rfl⟩ ?_ | refine stop_eqSlice ⟨_, _, rfl⟩ ?_)
      go_loopw [12, 13, 59] (fun _ _ v59 wr => ∃ k : Nat, k ≤ mf.length ∧ v59 = .int .i64 k ∧ Chg No w3 wr) (fun _ _ v59 _ => mf.length - (intOf v59).toNat)
      case atStart => exact ⟨0, by omega, rfl, Chg.refl _ _⟩
      case round =>
        obtain ⟨k, hk, rfl, hc4⟩ := hrel
        by_cases hlt : k < mf.length
        · obtain ⟨b5, o5, vx, rfl, _, hbl, hux, e0, e1, e2, e3, e4, e5⟩ := ent_get (Hsm3.out.keepNo hc4) k hlt
          have hnk := Hnum.out k hlt
          generalize mf[k] = y at *
          obtain ⟨y0, y1, y2, y3, y4, y5⟩ := y
          simp only at hnk e0 e1 e2 e3 e4 e5 hux
          subst hnk
          obtain ⟨Ay, cy, rfl⟩ := hux.slice
          have hcb := hc4.alloc (.cells #[.int .i64 (hN + k + 1), .int .i64 y1, .slice Ay y2.length cy, .int .i64 y3, .int .i64 y4, .int .i64 y5] 76)
          have o13 := alloc_obj wr (.cells #[.int .i64 (hN + k + 1), .int .i64 y1, .slice Ay y2.length cy, .int .i64 y3, .int .i64 y4, .int .i64 y5] 76)
          have f0 := cell_obj (i := 0) o13 (u := .int .i64 (hN + k + 1)) rfl
          clear hux o13
          have hml := Hml.out
          have hhn := HhN.out
          have hll := Hll.out
          have g1 : IntKind.i64.wrap ((n : Int) - (mf.length : Int)) = (hN : Int) := by rw [show (n : Int) - (mf.length : Int) = (hN : Int) by omega]; exact IntWalk.i64_in _ (by omega)
          have g2 : (n : Int) - (mf.length : Int) = (hN : Int) := by omega
          have g3 : IntKind.i64.wrap ((hN : Int) + k) = (hN : Int) + k := IntWalk.i64_in _ (by omega)
          have g4 : IntKind.i64.wrap ((hN : Int) + k + 1) = (hN : Int) + k + 1 := IntWalk.i64_in _ (by omega)
          have HK1 := Lib.hid (show k + 1 ≤ mf.length by omega)
          have hkb : k ≤ 60 := by omega
          have hNb : hN ≤ 60 := by omega
          clear hml hhn hll
          go_wp2_with (with_reducible first | refine stop_append ?_ | refine stop_copy ?_ | refine stop_make ?_ | refine stop_lookup ?_ | refine stop_update ?_ | refine stop_slice ?_ | refine stop_range ?_ | refine stop_next ?_ | refine stop_convert ⟨_, rfl⟩ ?_ | refine stop_convertB ⟨_, _, _, rfl⟩ ?_ | refine stop_eqSlice ⟨_, _, rfl⟩ ?_)
          generalize wr.alloc (.cells #[.int .i64 (hN + k + 1), .int .i64 y1, .slice Ay y2.length cy, .int .i64 y3, .int .i64 y4, .int .i64 y5] 76) = w5 at *
          generalize wr.heap.size = b13 at *
          refine pl_start (fun W => W.cell? ⟨b13, 0, none⟩ = some (.int .i64 (hN + k + 1)) ∧ Chg No w3 W) (by kernel_rfl) (by kernel_rfl) ⟨(Chg.refl No w5).drew.cell f0 (not_no _), hcb.drew⟩ ?_
          clear e0 e1 e2 e3 e4 e5 f0 hcb
          iterate 6 ((refine pl_nx [] (v := ?_) rfl (by kernel_rfl) rfl ?_ ?_; rotate_left; focus (intro W hW; (try dsimp only at hW); go_split_ands; go_simp; (try (simp (disch := omega) only [IntWalk.i64_in]; (try go_simp))); (try (split; (next => omega); (try go_simp))); try rfl; done)); try simp only [Act.put, List.setIfInBounds_toArray, List.set_cons_zero, List.set_cons_succ, Nat.reduceAdd])
          refine pl_callx 3 (.int .i64 n) rfl (by kernel_rfl) rfl (by exact (fun W hW => (Hln.out W hW.2).mono fun e w' h => ⟨h.1, h.2.cell hW.1 (not_no _), hW.2.trans h.2⟩)) (fun W => by kernel_rfl) ?_
          try simp only [Act.put, List.setIfInBounds_toArray, List.set_cons_zero, List.set_cons_succ, Nat.reduceAdd]
          iterate 4 ((refine pl_nx [] (v := ?_) rfl (by kernel_rfl) rfl ?_ ?_; rotate_left; focus (intro W hW; (try dsimp only at hW); go_split_ands; go_simp; (try (simp (disch := omega) only [IntWalk.i64_in]; (try go_simp))); (try (split; (next => omega); (try go_simp))); try rfl; done)); try simp only [Act.put, List.setIfInBounds_toArray, List.set_cons_zero, List.set_cons_succ, Nat.reduceAdd])
          refine pl_done (by kernel_rfl)  ?_
          rintro w6 ⟨-, hc6⟩
          go_wp2_with (with_reducible first | refine stop_append ?_ | refine stop_copy ?_ | refine stop_make ?_ | refine stop_lookup ?_ | refine stop_update ?_ | refine stop_slice ?_ | refine stop_range ?_ | refine stop_next ?_ | refine stop_convert ⟨_, rfl⟩ ?_ | refine stop_convertB ⟨_, _, _, rfl⟩ ?_ | refine stop_eqSlice ⟨_, _, rfl⟩ ?_)
          go_roundw
          case rel => exact ⟨k + 1, HK1.out, by go_num, hc6⟩
          case measure => have := HK1.out; simp [intOf]; omega
        · obtain rfl : k = mf.length := by omega
          obtain ⟨wB, rfl⟩ : ∃ W : World, W = wr := ⟨_, rfl⟩
          have a0 := Ha0.out _ hc4
          have hcw4 := hcw3.trans hc4
          have Hp4 := Lib.hid (Hp3.out.keepNo hc4)
          go_wp2_with (with_reducible first | refine stop_append ?_ | refine stop_copy ?_ | refine stop_make ?_ | refine stop_lookup ?_ | refine stop_update ?_ | refine stop_slice ?_ | refine stop_range ?_ | refine stop_next ?_ | refine stop_convert ⟨_, rfl⟩ ?_ | refine stop_convertB ⟨_, _, _, rfl⟩ ?_ | refine stop_eqSlice ⟨_, _, rfl⟩ ?_)
          have cd := (Chg.refl No wB).drew
          have HS18 := Lib.hid (show ∀ W, Chg S wB W → (fun W => W.cell? ⟨b, 0, none⟩ = some (.int .i64 t)) W from fun W hW => hW.cell a0 (fun s => by have := HS.out b s; omega))
          have Hln4 := Lib.hid (fun W (hW : Chg No wB W) => Hln.out W (hc4.trans hW))
          clear a0
          refine rt_start (fun W => W.cell? ⟨b, 0, none⟩ = some (.int .i64 t)) (by kernel_rfl) ?_
          iterate 5 ((refine rt_nx [] (v := ?_) rfl (by kernel_rfl) (fun _ _ _ h => h) rfl ?_ ?_; rotate_left; focus (intro W hW; (try dsimp only at hW); go_split_ands; go_simp; (try (simp (disch := omega) only [IntWalk.i64_in]; (try go_simp))); (try (split; (next => omega); (try go_simp))); try rfl; done)); try simp only [Act.put, List.setIfInBounds_toArray, List.set_cons_zero, List.set_cons_succ, Nat.reduceAdd])
          refine rt_kx (fun W => W.cell? ⟨b, 0, none⟩ = some (.int .i64 t)) 5 (by kernel_rfl) (HS18.out _ cd.of_no) (fun _ h => h) rfl (by rfl) (fun K hK => ?_)
          go_simp
          refine (Hln4.out _ cd).mono ?_
          rintro e w5 ⟨rfl, hc5⟩
          have cd5 := cd.trans hc5
          refine hK _ _ ?_
          clear hK K
          try simp only [Act.put, List.setIfInBounds_toArray, List.set_cons_zero, List.set_cons_succ]
          ((refine rt_nx [] (v := ?_) rfl (by kernel_rfl) (fun _ _ _ h => h) rfl ?_ ?_; rotate_left; focus (intro W hW; (try dsimp only at hW); go_split_ands; go_simp; (try (simp (disch := omega) only [IntWalk.i64_in]; (try go_simp))); (try (split; (next => omega); (try go_simp))); try rfl; done)); try simp only [Act.put, List.setIfInBounds_toArray, List.set_cons_zero, List.set_cons_succ, Nat.reduceAdd])
          refine rt_kx (fun W => W.cell? ⟨b, 0, none⟩ = some (.int .i64 t)) 7 (by kernel_rfl) (HS18.out _ cd5.of_no) (fun _ h => h) rfl (by rfl) (fun K hK => ?_)
          go_simp
          have hH := pheard_any S No p st (askM x0 t n) (.slice none 0 0) (.slice none 0 0) (.slice none 0 0) (.slice none 0 0) w5 (Hp4.out.keepNo cd5) ⟨Sl.nil _ _ _ _, Sl.nil _ _ _ _, Sl.nil _ _ _ _, Sl.nil _ _ _ _⟩ ⟨by simp [askM], by simp [askM], by simp [askM]⟩ Hn7.out
          rw [← Ht.out, Hn.out, ask_heard Hpi.out (by have := Hl60.out; omega) Hx.out, Ht.out] at hH
          have Hh2 := Lib.hid hH
          clear hH
          rw [← Hn.out] at Hh2
          refine Hh2.out.mono ?_
          rintro e w6 ⟨rfl, hc6, hp6⟩
          have Hp6 := Lib.hid hp6
          have cd6 : Chg S wB w6 := cd5.of_no.trans hc6
          have hcw6 : Chg No w w6 := (hcw4.trans cd5).old hc6 (fun k g => by have := HS.out k g; have := Hb.out; omega)
          clear hp6 hc6 Hh2
          refine hK _ _ ?_
          clear hK K
          try simp only [Act.put, List.setIfInBounds_toArray, List.set_cons_zero, List.set_cons_succ]
          refine rt_kx (fun W => W.cell? ⟨b, 0, none⟩ = some (.int .i64 t)) 8 (by kernel_rfl) (HS18.out _ cd6) (fun _ h => h) rfl (by rfl) (fun K hK => ?_)
          go_simp
          refine hK _ _ ?_
          clear hK K
          try simp only [Act.put, List.setIfInBounds_toArray, List.set_cons_zero, List.set_cons_succ]
          refine rt_done (by kernel_rfl)  ?_
          clear cd cd5 hc5 cd6
          go_wp2_with (with_reducible first | refine stop_append ?_ | refine stop_copy ?_ | refine stop_make ?_ | refine stop_lookup ?_ | refine stop_update ?_ | refine stop_slice ?_ | refine stop_range ?_ | refine stop_next ?_ | refine stop_convert ⟨_, rfl⟩ ?_ | refine stop_convertB ⟨_, _, _, rfl⟩ ?_ | refine stop_eqSlice ⟨_, _, rfl⟩ ?_)
          refine (qalive_any _).mono ?_
          rintro e w7 ⟨rfl, hc7⟩
          have hcw7 := hcw6.trans hc7
          have hms := pmissing_any S p (hearP st x0 n false) x0 w7 (Hp6.out.keepNo hc7) Hn7.out (by have := Hll.out; have := Hn.out; simp only [hearP]; omega) Hcb.out (by rw [Hn.out, ask_has Hpi.out x0]; simp only [hearP]; omega)
          have hmf : missF (hearP st x0 n false) x0 = [] := by
            unfold missF
            rw [Hn.out, ask_has Hpi.out x0, Int.toNat_natCast]
            simp [hearP]
          rw [hmf] at hms
          have Hms2 := Lib.hid hms
          clear hms hmf hc7
          go_wp2_with (with_reducible first | refine stop_append ?_ | refine stop_copy ?_ | refine stop_make ?_ | refine stop_lookup ?_ | refine stop_update ?_ | refine stop_slice ?_ | refine stop_range ?_ | refine stop_next ?_ | refine stop_convert ⟨_, rfl⟩ ?_ | refine stop_convertB ⟨_, _, _, rfl⟩ ?_ | refine stop_eqSlice ⟨_, _, rfl⟩ ?_)
          refine Hms2.out.mono ?_
          rintro e w8 ⟨v8, rfl, hc8, hs8⟩
          obtain ⟨A8, c8, rfl⟩ := hs8.slice
          have hcw8 := hcw7.trans hc8
          clear hs8
          go_wp2_with (with_reducible first | refine stop_append ?_ | refine stop_copy ?_ | refine stop_make ?_ | refine stop_lookup ?_ | refine stop_update ?_ | refine stop_slice ?_ | refine stop_range ?_ | refine stop_next ?_ | refine stop_convert ⟨_, rfl⟩ ?_ | refine stop_convertB ⟨_, _, _, rfl⟩ ?_ | refine stop_eqSlice ⟨_, _, rfl⟩ ?_)
          go_ret
          exact ⟨rfl, hcw8⟩
end Go.Proofs.Yticimjplegbagaa

