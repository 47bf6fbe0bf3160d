/- Texts Opn, RowV, RowE, QuoO, QuoQ, RdcB, RefZ, RdcD, RdcF, RdcG, RdcE, RdcH, QuoT, QuoV, QuoW, QuoX. -/
import Derived.Test.YticimjplegbagaaMg14
import Derived.Deep.Slices
/- What is handed in, opened: numbers, strings, rows, structs, one inside another. It speaks of no program. -/
set_option linter.unusedVariables false
namespace Cb
open Go Go.Deep Go.ChangeShapes Go.WideShapes
section
variable {P : Program}
def Opens (P : Program) (α : Type) [Rep α] (t : TypeId) (B : α → Prop) : Prop :=
  P.cellsOf t = Rep.n α ∧ ∀ (H : Type) (enc : TypeId × Value → H) (w : World) (base : Nat) (spare : Nat → Bool) (held : Bool) (n : Nat) (cs : List Value) (x : DataW H × List MemPlace), DataW.trod enc P w base spare held n t cs = some x →
    ∃ a : α, Rep.cs No w a cs ∧ ((∀ k ∈ x.1.weights P t, k ≤ reachBytes) → B a)
def Both {α β : Type} (B : α → Prop) (C : β → Prop) : α × β → Prop := fun x => B x.1 ∧ C x.2
def Each {α : Type} (k : Nat) (B : α → Prop) : List α → Prop := fun xs => xs.length * k ≤ reachBytes ∧ ∀ x ∈ xs, B x
def I64 : Int → Prop := fun x => -9223372036854775808 ≤ x ∧ x ≤ 9223372036854775807
theorem i64_of {n : Int} (h : (Lit.int .i64 n).wf = true) : I64 n := by
  simp only [Lit.wf, Bool.and_eq_true, decide_eq_true_eq] at h
  exact h
theorem opens_int {t : TypeId} (ht : P.underlying t = some (.int .i64)) (hc : P.cellsOf t = 1) : Opens P Int t I64 :=
  ⟨hc, fun H enc w base spare held n cs x h => by
    obtain ⟨q, e, _, hw⟩ := DataW.trod_int ht h
    exact ⟨q, e, fun _ => i64_of hw⟩⟩
theorem opens_slice {α : Type} [Rep α] {t e : TypeId} {B : α → Prop} (hpos : 0 < Rep.n α) (ht : P.underlying t = some (.slice e)) (hc : P.cellsOf t = 1) (he : Opens P α e B) :
    Opens P (List α) t (Each (P.bytesOf e) B) :=
  ⟨hc, fun H enc w base spare held n cs x h => by
    rcases open_slice ht h with ⟨rfl, rfl⟩ | ⟨a, len, cap, m, n, D, Pl, rfl, _, hl, hm, hmm, hxx, hx⟩
    · exact ⟨[], ⟨_, rfl, Sl.nil _ _ _ _⟩, fun _ => ⟨by simp, fun _ h => absurd h (by simp)⟩⟩
    · have hlm : len ≤ m := by rw [hmm]; split <;> omega
      by_cases hl0 : len = 0
      · subst hl0; exact ⟨[], ⟨_, rfl, Sl.nil _ _ _ _⟩, fun _ => ⟨by simp, fun _ h => absurd h (by simp)⟩⟩
      · have each : ∀ i, i < m → ∃ q : α × List Value, w.cells? base (a.add (i * P.cellsOf e)) (P.cellsOf e) = some q.2 ∧ Rep.cs No w q.1 q.2 ∧ ((∀ k ∈ (D i).weights P e, k ≤ reachBytes) → B q.1) := fun i hi => by
          obtain ⟨cs', h1, h2⟩ := hx i hi
          obtain ⟨q, h3, h4⟩ := he.2 H enc w base spare held _ _ _ h2
          exact ⟨(q, cs'), h1, h3, h4⟩
        obtain ⟨q0, _⟩ := each 0 (by omega)
        haveI : Inhabited (α × List Value) := ⟨q0⟩
        obtain ⟨q, hq⟩ := choose_lt each
        have hcell : ∀ i, i < m → ∀ j u, (q i).2[j]? = some u → w.cell? (a.add (i * P.cellsOf e + j)) = some u := fun i hi j u hu => by
          have := cells?_get (hq i hi).1 hu
          rwa [add_add] at this
        obtain ⟨b, off, spot⟩ := a
        have h0 := hq 0 (by omega)
        have hq0l := Rep.len h0.2.1
        obtain ⟨u0, hu0⟩ : ∃ u, (q 0).2[0]? = some u := ⟨_, List.getElem?_eq_getElem (by omega)⟩
        have hc0 := hcell 0 (by omega) 0 u0 hu0
        have hspot : spot = none := by
          have := World.cell?_spot hc0
          simpa [Addr.add] using this
        subst hspot
        have hb : b < w.heap.size := by
          have := World.block_lt_of_cell? w _ hc0
          rw [add_plain'] at this; exact this
        have hlen : ((List.range len).map fun i => (q i).1).length = len := by simp
        refine ⟨(List.range len).map fun i => (q i).1, ⟨_, rfl, some ⟨b, off, none⟩, cap, by rw [hlen], by rw [hlen]; exact hl, .inr ⟨b, off, rfl, not_no _, hb, fun i hi => ?_⟩⟩, fun hw => ⟨?_, fun x hx' => ?_⟩⟩
        · rw [hlen] at hi
          refine ⟨(q i).2, by rw [List.getElem_map, List.getElem_range]; exact (hq i (by omega)).2.1, fun j u hu => ?_⟩
          have := hcell i (by omega) j u hu
          rw [he.1, add_plain', ← Nat.add_assoc] at this
          exact this
        · rw [hlen]
          have := hw ((((List.range len).map D).length + ((List.range (m - len)).map fun j => D (len + j)).length) * P.bytesOf e) (by rw [hxx]; simp [DataW.weights, ht])
          simp only [List.length_map, List.length_range] at this
          exact Nat.le_trans (Nat.mul_le_mul_right _ (by omega)) this
        · obtain ⟨i, hi, rfl⟩ := List.mem_map.1 hx'
          have hi := List.mem_range.1 hi
          refine (hq i (by omega)).2.2 fun k hk => hw k ?_
          rw [hxx]
          simp only [DataW.weights, ht, List.mem_cons, List.mem_append]
          right; left
          exact mem_weightsAll hk (List.mem_map.2 ⟨i, List.mem_range.2 hi, rfl⟩)⟩
where
  cells?_get {w : World} {base : Nat} {a : Addr} {n : Nat} {cs : List Value} (h : w.cells? base a n = some cs) {j : Nat} {u : Value} (hu : cs[j]? = some u) : w.cell? (a.add j) = some u := by
    obtain ⟨_, hl, hg⟩ := World.cells?_some h
    rw [← hu]
    exact hg j (by have := (List.getElem?_eq_some_iff.1 hu).1; omega)
/-- The fields of a struct from an offset on. -/
def OpensF (P : Program) (α : Type) [Rep α] (fs : List Field) (off : Nat) (B : α → Prop) : Prop :=
  ∀ (H : Type) (enc : TypeId × Value → H) (w : World) (base : Nat) (spare : Nat → Bool) (held : Bool) (n : Nat) (cs : List Value) (xs : List (DataW H × List MemPlace)), cs.length = off + Rep.n α → xs.length = fs.length →
    (∀ (i : Nat) (f : Field), fs[i]? = some f → DataW.trod enc P w base spare held n f.type ((cs.drop f.offset).take (P.cellsOf f.type)) = xs[i]?) →
    ∃ a : α, Rep.cs No w a (cs.drop off) ∧ ((∀ k ∈ DataW.weightsEach P (fs.map (·.type)) (xs.map (·.1)), k ≤ reachBytes) → B a)
theorem opensF_one {α : Type} [Rep α] {f : Field} {off : Nat} {B : α → Prop} (ho : f.offset = off) (hf : Opens P α f.type B) : OpensF P α [f] off B :=
  fun H enc w base spare held n cs xs hl hx h => by
    match xs, hx with
    | [x], _ =>
      have h0 := h 0 f rfl
      rw [ho, hf.1, List.take_of_length_le (by rw [List.length_drop]; omega)] at h0
      simp only [List.getElem?_cons_zero] at h0
      obtain ⟨a, h1, h2⟩ := hf.2 H enc w base spare held n _ _ h0
      exact ⟨a, h1, fun hw => h2 fun k hk => hw k (by simp [DataW.weightsEach, hk])⟩
theorem opensF_cons {α β : Type} [Rep α] [Rep β] {f : Field} {fs : List Field} {off : Nat} {B : α → Prop} {C : β → Prop} (ho : f.offset = off) (hf : Opens P α f.type B) (hr : OpensF P β fs (off + Rep.n α) C) :
    OpensF P (α × β) (f :: fs) off (Both B C) :=
  fun H enc w base spare held n cs xs hl hx h => by
    match xs, hx with
    | x :: xs, hx =>
      have h0 := h 0 f rfl
      rw [ho, hf.1] at h0
      simp only [List.getElem?_cons_zero] at h0
      obtain ⟨a, h1, h2⟩ := hf.2 H enc w base spare held n _ _ h0
      obtain ⟨b, h3, h4⟩ := hr H enc w base spare held n cs xs (by rw [hl]; show off + (Rep.n α + Rep.n β) = _; omega) (by simpa using hx) (fun i g hg => by simpa using h (i + 1) g (by simpa using hg))
      refine ⟨(a, b), ⟨_, _, ?_, h1, h3⟩, fun hw => ⟨h2 fun k hk => hw k ?_, h4 fun k hk => hw k ?_⟩⟩
      · rw [← List.drop_drop, List.take_append_drop]
      · simp [DataW.weightsEach, hk]
      · simp [DataW.weightsEach, hk]
theorem opens_struct {α : Type} [Rep α] {t : TypeId} {fs : List Field} {B : α → Prop} (ht : P.underlying t = some (.struct fs.toArray)) (hc : P.cellsOf t = Rep.n α) (hf : OpensF P α fs 0 B) : Opens P α t B :=
  ⟨hc, fun H enc w base spare held n cs x h => by
    obtain ⟨xs, n, _, hdd, hlen, hxl, hh⟩ := DataW.trod_struct ht h
    obtain ⟨a, h1, h2⟩ := hf H enc w base spare held n cs xs (by rw [hlen, hc]; omega) (by simpa using hxl) (fun i f hf => hh i f (by simpa using hf))
    refine ⟨a, by simpa using h1, fun hw => h2 fun k hk => hw k ?_⟩
    rw [hdd]
    simp only [DataW.weights, ht]
    exact hk⟩
/-- A row that is handed in. -/
theorem opens_row {H : Type} {enc : TypeId × Value → H} {w : World} {base : Nat} {spare : Nat → Bool} {held : Bool} {α : Type} [Rep α] {t : TypeId} {B : List α → Prop} (ho : Opens P (List α) t B) {A : Option Addr} {n c : Nat} {d : DataW H} {ps : List MemPlace} (h : DataW.Trod enc P w base spare held t (.slice A n c) d ps) :
    ∃ xs : List α, Sl No w (.slice A n c) xs ∧ ((∀ k ∈ d.weights P t, k ≤ reachBytes) → B xs) := by
  obtain ⟨fuel, hf⟩ := h
  obtain ⟨a, ⟨v, e, h1⟩, h2⟩ := ho.2 H enc w base spare held fuel [.slice A n c] (d, ps) hf
  simp only [List.cons.injEq, and_true] at e
  subst e
  exact ⟨a, h1, h2⟩
/-- A struct that is handed in. -/
theorem opens_agg {H : Type} {enc : TypeId × Value → H} {w : World} {base : Nat} {spare : Nat → Bool} {held : Bool} {α : Type} [Rep α] {t : TypeId} {B : α → Prop} (ho : Opens P α t B) {cs : Array Value} {d : DataW H} {ps : List MemPlace} (h : DataW.Trod enc P w base spare held t (.agg cs) d ps) :
    ∃ x : α, Rep.cs No w x cs.toList ∧ ((∀ k ∈ d.weights P t, k ≤ reachBytes) → B x) := by
  obtain ⟨fuel, hf⟩ := h
  exact ho.2 H enc w base spare held fuel cs.toList (d, ps) hf
theorem sized_of {H : Type} {ts : List TypeId} {ds : List (DataW H)} {j : Nat} {t : TypeId} {d : DataW H} (h : (DataW.weightsEach P ts ds).all (· ≤ reachBytes) = true) (ht : ts[j]? = some t) (hd : ds[j]? = some d) : ∀ k ∈ d.weights P t, k ≤ reachBytes := fun k hk => by
  have := List.all_eq_true.1 h _ (DataW.weights_mem_each ht hd k hk)
  simpa using this
end
end Cb


/- Rows of numbers that are handed in, opened. -/
set_option linter.unusedVariables false
namespace Go.Proofs.Yticimjplegbagaa
open Go.ChangeShapes Go.WideShapes Go.ChangeAt Go.RowKit Cb

theorem opens_number : Opens Try.prog Int 3 I64 := opens_int Try.underlying3 (by kernel_rfl)
theorem bytes_number : Try.prog.bytesOf 3 = 8 := by kernel_rfl
set_option maxRecDepth 100000 in
theorem opens_numbers : Opens Try.prog (List Int) 22 (Each (Try.prog.bytesOf 3) I64) := opens_slice (by decide) Try.underlying22 (by kernel_rfl) opens_number
set_option maxRecDepth 100000 in
theorem opens_numrows : Opens Try.prog (List (List Int)) 23 (Each (Try.prog.bytesOf 22) (Each (Try.prog.bytesOf 3) I64)) := opens_slice (by decide) Try.underlying23 (by kernel_rfl) opens_numbers
theorem bytes_numbers : Try.prog.bytesOf 22 = 24 := by kernel_rfl
end Go.Proofs.Yticimjplegbagaa


/- Entries of the document's that are handed in, opened. -/
set_option linter.unusedVariables false
namespace Go.Proofs.Yticimjplegbagaa
open Go.ChangeShapes Go.WideShapes Go.ChangeAt Go.RowKit Cb

set_option maxRecDepth 100000 in
theorem opens_seq : Opens Try.prog (Int × Int) 60 (Both I64 I64) :=
  opens_struct Try.underlying60 (by kernel_rfl) (opensF_cons rfl opens_number (opensF_one rfl opens_number))
set_option maxRecDepth 100000 in
theorem opens_entry : Opens Try.prog Ent 66 (Both I64 (Both I64 (Both (Each (Try.prog.bytesOf 3) I64) (Both I64 (Both I64 I64))))) :=
  opens_struct Try.underlying66 (by kernel_rfl) (opensF_cons rfl opens_number (opensF_cons rfl opens_number (opensF_cons rfl opens_numbers (opensF_cons rfl opens_number (opensF_one rfl opens_seq)))))
theorem bytes_entry : Try.prog.bytesOf 66 = 64 := by kernel_rfl
set_option maxRecDepth 100000 in
theorem opens_entries : Opens Try.prog (List Ent) 27 (Each (Try.prog.bytesOf 66) (Both I64 (Both I64 (Both (Each (Try.prog.bytesOf 3) I64) (Both I64 (Both I64 I64)))))) :=
  opens_slice (by decide) Try.underlying27 (by kernel_rfl) opens_entry
end Go.Proofs.Yticimjplegbagaa


/- Configurations, scripts of calls, and what sealed replicas had, that are handed in, opened. -/
set_option linter.unusedVariables false
namespace Cb
open Go Go.Deep Go.ChangeShapes Go.WideShapes
theorem Sl.map {α β : Type} [Rep α] [Rep β] {F : Nat → Prop} {w : World} {v : Value} {xs : List α} (f : α → β) (hn : Rep.n α = Rep.n β) (hf : ∀ x c, Rep.cs F w x c → Rep.cs F w (f x) c) (h : Sl F w v xs) : Sl F w v (xs.map f) := by
  obtain ⟨A, c, rfl, hl, h⟩ := h
  refine ⟨A, c, by rw [List.length_map], by rw [List.length_map]; exact hl, ?_⟩
  rcases h with rfl | ⟨b, o, rfl, hb, hlt, hr⟩
  · exact .inl rfl
  · refine .inr ⟨b, o, rfl, hb, hlt, fun i hi => ?_⟩
    obtain ⟨d, hd, hj⟩ := hr i (by simpa using hi)
    exact ⟨d, by rw [List.getElem_map]; exact hf _ _ hd, fun j u hu => by rw [← hn]; exact hj j u hu⟩
end Cb
namespace Go.Proofs.Yticimjplegbagaa
open Go.ChangeShapes Go.WideShapes Go.ChangeAt Go.RowKit Cb

set_option maxRecDepth 100000 in
theorem qopens_cfg : Opens Try.prog Cfg7 25 (Both I64 (Both (Each (Try.prog.bytesOf 3) I64) (Each (Try.prog.bytesOf 22) (Each (Try.prog.bytesOf 3) I64)))) :=
  opens_struct Try.underlying25 (by kernel_rfl) (opensF_cons rfl opens_number (opensF_cons rfl opens_numbers (opensF_one rfl opens_numrows)))
def BI : List Int → Prop := Each (Try.prog.bytesOf 3) I64
def BE : Ent → Prop := Both I64 (Both I64 (Both BI (Both I64 (Both I64 I64))))
def CfgI12 (q : List Int) (s : List (List Int)) : Prop := q.length * 8 ≤ 140737488351232 ∧ s.length * 24 ≤ 140737488351232 ∧ ∀ x ∈ s, x.length * 8 ≤ 140737488351232
theorem cfgq_of {q : List Int} {s : List (List Int)} (h1 : (Each (Try.prog.bytesOf 3) I64) q) (h2 : (Each (Try.prog.bytesOf 22) (Each (Try.prog.bytesOf 3) I64)) s) : CfgI12 q s := by
  obtain ⟨h3, _⟩ := h1
  obtain ⟨h4, h5⟩ := h2
  rw [bytes_number] at h3
  rw [bytes_numbers] at h4
  simp only [reachBytes] at h3 h4
  refine ⟨by omega, by omega, fun x hx => ?_⟩
  have := (h5 x hx).1
  rw [bytes_number] at this
  simp only [reachBytes] at this
  omega
set_option maxRecDepth 100000 in
/-- A configuration that is handed in, with what it may hold. -/
theorem qopen_config {H : Type} {enc : TypeId × Value → H} {w : World} {base b0 : Nat} {spare : Nat → Bool} {held : Bool} {v : Value} {d : DataW H} {ps : List MemPlace} (hval : Value.okWide Try.prog w .any b0 25 v)
    (h : DataW.Trod enc Try.prog w base spare held 25 v d ps) (hz : ∀ k ∈ d.weights Try.prog 25, k ≤ reachBytes) :
    ∃ (t : Int) (q : List Int) (s : List (List Int)) (vq vs : Value), v = cfgV t vq vs ∧ I64 t ∧ Sl No w vq q ∧ Sl No w vs s ∧ CfgI12 q s := by
  obtain ⟨cs, rfl, _⟩ := okWide_struct Try.underlying25 hval
  obtain ⟨⟨t, q, s⟩, ⟨_, _, e, rfl, ⟨_, _, rfl, ⟨vq, rfl, hq⟩, ⟨vs, rfl, hs⟩⟩⟩, h2⟩ := opens_agg qopens_cfg h
  obtain ⟨h3, h4, h5⟩ := h2 hz
  exact ⟨t, q, s, vq, vs, by rw [show cs = cs.toList.toArray by simp, e]; rfl, h3, hq, hs, cfgq_of h4 h5⟩
abbrev Part := Int × List Ent
set_option maxRecDepth 100000 in
theorem qopens_part : Opens Try.prog Part 29 (Both I64 (Each (Try.prog.bytesOf 66) BE)) :=
  opens_struct Try.underlying29 (by kernel_rfl) (opensF_cons rfl opens_number (opensF_one rfl opens_entries))
theorem bytes_part : Try.prog.bytesOf 29 = 32 := by kernel_rfl
set_option maxRecDepth 100000 in
theorem qopens_parts : Opens Try.prog (List Part) 26 (Each (Try.prog.bytesOf 29) (Both I64 (Each (Try.prog.bytesOf 66) BE))) :=
  opens_slice (by decide) Try.underlying26 (by kernel_rfl) qopens_part
set_option maxRecDepth 100000 in
theorem qopen_parts {H : Type} {enc : TypeId × Value → H} {w : World} {base b0 : Nat} {spare : Nat → Bool} {held : Bool} {v : Value} {d : DataW H} {ps : List MemPlace} (hval : Value.okWide Try.prog w .any b0 26 v)
    (h : DataW.Trod enc Try.prog w base spare held 26 v d ps) (hz : ∀ k ∈ d.weights Try.prog 26, k ≤ reachBytes) :
    ∃ l : List Part, Sl No w v l ∧ l.length ≤ 10000000000000 ∧ ∀ o ∈ l, o.2.length ≤ 2199023255488 ∧ ∀ e ∈ o.2, e.2.2.1.length ≤ 17592186043904 := by
  obtain ⟨a0, len, cap, rfl⟩ := okWide_slice Try.underlying26 hval
  obtain ⟨l, h1, h2⟩ := opens_row qopens_parts h
  obtain ⟨h3, h4⟩ := h2 hz
  rw [bytes_part] at h3
  simp only [reachBytes] at h3
  refine ⟨l, h1, by omega, fun o ho => ?_⟩
  obtain ⟨_, h5, h6⟩ := h4 o ho
  rw [bytes_entry] at h5
  simp only [reachBytes] at h5
  refine ⟨by omega, fun e he => ?_⟩
  have := (h6 e he).2.2.1.1
  rw [bytes_number] at this
  simp only [reachBytes] at this
  omega
end Go.Proofs.Yticimjplegbagaa


/- QuorumRises, walked: what is committed never falls, and is never more than there is. -/
set_option linter.unusedVariables false
set_option linter.unusedSimpArgs false
namespace Go.Proofs.Yticimjplegbagaa
open Go.RowKit Cb

theorem sl_one {α : Type} [Rep α] {F : Nat → Prop} {w : World} {v : Value} {xs : List α} (h : Sl F w v xs) : v.oneCell' = true := by
  obtain ⟨A, c, rfl, _⟩ := h; rfl
theorem MsgS.one {F : Nat → Prop} {w : World} {m : Msg} {vt vc vq vs : Value} (h : MsgS F w m vt vc vq vs) : vt.oneCell' = true ∧ vc.oneCell' = true ∧ vq.oneCell' = true ∧ vs.oneCell' = true := ⟨sl_one h.t, sl_one h.c, sl_one h.q, sl_one h.s⟩
end Go.Proofs.Yticimjplegbagaa


/- Walks of the document's chapter 6: Right, Same. -/
set_option linter.unusedVariables false
set_option linter.unusedSimpArgs false
namespace Go.Proofs.Yticimjplegbagaa
open Go.RowKit Cb

theorem rightC_no {t : Int} {q : List Int} {s : List (List Int)} (h : ¬ ((1 ≤ t ∧ t ≤ 64) ∧ (q.length % 2 = 1 ∧ q.length ≤ 7) ∧ (1 ≤ s.length ∧ s.length ≤ 8) ∧ nodesB q = true ∧ ∀ l ∈ s, shardB l = true)) : rightC t q s = false := by
  rcases e : rightC t q s with _ | _
  · rfl
  · exact absurd (rightC_iff.1 e) h
set_option maxRecDepth 100000 in
set_option maxHeartbeats 4000000 in
theorem cright_any (F G : Nat → Prop) (t : Int) (vq vs : Value) (q : List Int) (s : List (List Int)) (w : World) (hq : Sl F w vq q) (hs : Sl G w vs s) (hlq : q.length * 8 ≤ 140737488351232) (hls : s.length ≤ 17592186044416) (hb : ∀ x ∈ s, x.length * 8 ≤ 140737488351232) :
    Calls Try.prog 11 #[cfgV t vq vs] w fun e w' => e = .returned (.bool (rightC t q s)) ∧ Chg No w w' := by
  have Hq := Lib.hid (fun W (hW : Chg No w W) => runlike_any F vq q W (hq.keepNo hW) (by omega))
  have Hs := Lib.hid (fun W (hW : Chg No w W) => hs.keepNo hW)
  have Hb := Lib.hid hb
  have Hno := Lib.hid (fun h => rightC_no (t := t) (q := q) (s := s) h)
  have Hyes := Lib.hid (fun h => (rightC_iff (t := t) (q := q) (s := s)).2 h)
  obtain ⟨Aq, cq, rfl⟩ := hq.slice
  obtain ⟨As, cs, rfl⟩ := hs.slice
  clear hq hs hb
  generalize rightC t q s = R at *
  unfold cfgV at *
  have o1 := alloc_obj w (.cells #[.int .i64 t, .slice Aq q.length cq, .slice As s.length cs] 25)
  have hc0 := (Chg.refl No w).alloc (.cells #[.int .i64 t, .slice Aq q.length cq, .slice As s.length cs] 25)
  have a0 := cell_obj (i := 0) o1 rfl
  have a1 := cell_obj (i := 1) o1 rfl
  have a2 := cell_obj (i := 2) o1 rfl
  by_cases h1 : t < 1
  · have Hr := Lib.hid (Hno.out (by omega))
    go_enter Try.func11, Try.ntmps11
    go_wp2_with (with_reducible first | refine stop_append ?_ | refine stop_copy ?_ | refine stop_make ?_ | refine stop_lookup ?_ | refine stop_update ?_ | refine stop_slice ?_ | refine stop_range ?_ | refine stop_next ?_ | refine stop_convert ⟨_, rfl⟩ ?_ | refine stop_convertB ⟨_, _, _, rfl⟩ ?_ | refine stop_eqSlice ⟨_, _, rfl⟩ ?_)
    go_ret
    exact ⟨by rw [Hr.out]; rfl, hc0⟩
  by_cases h2 : 64 < t
  · have Hr := Lib.hid (Hno.out (by omega))
    go_enter Try.func11, Try.ntmps11
    go_wp2_with (with_reducible first | refine stop_append ?_ | refine stop_copy ?_ | refine stop_make ?_ | refine stop_lookup ?_ | refine stop_update ?_ | refine stop_slice ?_ | refine stop_range ?_ | refine stop_next ?_ | refine stop_convert ⟨_, rfl⟩ ?_ | refine stop_convertB ⟨_, _, _, rfl⟩ ?_ | refine stop_eqSlice ⟨_, _, rfl⟩ ?_)
    go_ret
    exact ⟨by rw [Hr.out]; rfl, hc0⟩
  by_cases h3 : s.length = 0
  · have Hr := Lib.hid (Hno.out (by omega))
    have h3' : (s.length : Int) < 1 := by omega
    clear h3
    go_enter Try.func11, Try.ntmps11
    go_wp2_with (with_reducible first | refine stop_append ?_ | refine stop_copy ?_ | refine stop_make ?_ | refine stop_lookup ?_ | refine stop_update ?_ | refine stop_slice ?_ | refine stop_range ?_ | refine stop_next ?_ | refine stop_convert ⟨_, rfl⟩ ?_ | refine stop_convertB ⟨_, _, _, rfl⟩ ?_ | refine stop_eqSlice ⟨_, _, rfl⟩ ?_)
    go_ret
    exact ⟨by rw [Hr.out]; rfl, hc0⟩
  by_cases h4 : 8 < s.length
  · have Hr := Lib.hid (Hno.out (by omega))
    have h3' : ¬ (s.length : Int) < 1 := by omega
    have h4' : 8 < (s.length : Int) := by omega
    clear h3
    go_enter Try.func11, Try.ntmps11
    go_wp2_with (with_reducible first | refine stop_append ?_ | refine stop_copy ?_ | refine stop_make ?_ | refine stop_lookup ?_ | refine stop_update ?_ | refine stop_slice ?_ | refine stop_range ?_ | refine stop_next ?_ | refine stop_convert ⟨_, rfl⟩ ?_ | refine stop_convertB ⟨_, _, _, rfl⟩ ?_ | refine stop_eqSlice ⟨_, _, rfl⟩ ?_)
    go_ret
    exact ⟨by rw [Hr.out]; rfl, hc0⟩
  have h3' : ¬ (s.length : Int) < 1 := by omega
  have h4' : ¬ 8 < (s.length : Int) := by omega
  have H3 := Lib.hid h3
  clear h3
  go_enter Try.func11, Try.ntmps11
  go_wp2_with (with_reducible first | refine stop_append ?_ | refine stop_copy ?_ | refine stop_make ?_ | refine stop_lookup ?_ | refine stop_update ?_ | refine stop_slice ?_ | refine stop_range ?_ | refine stop_next ?_ | refine stop_convert ⟨_, rfl⟩ ?_ | refine stop_convertB ⟨_, _, _, rfl⟩ ?_ | refine stop_eqSlice ⟨_, _, rfl⟩ ?_)
  generalize w.alloc (.cells #[.int .i64 t, .slice Aq q.length cq, .slice As s.length cs] 25) = w0 at *
  generalize w.heap.size = b0 at *
  go_loopw [3] (fun v3 wr => ∃ k : Nat, k ≤ s.length ∧ v3 = .int .i64 k ∧ Chg No w0 wr ∧ ∀ x ∈ s.take k, shardB x = true) (fun v3 _ => s.length - (intOf v3).toNat)
  case atStart => exact ⟨0, by omega, rfl, Chg.refl _ _, by simp⟩
  case round =>
    obtain ⟨k, hk, rfl, hc, hall⟩ := hrel
    have Hall := Lib.hid hall
    have b1 := hc.cell a1 (not_no _)
    have b2 := hc.cell a2 (not_no _)
    have hcw := hc0.trans hc
    clear hall
    by_cases hlt : k < s.length
    · obtain ⟨b, o, u, rfl, _, hbl, hx0, hu⟩ := rowT_get (Hs.out wr hcw) k hlt
      have Hmem := Lib.hid (List.getElem_mem hlt)
      have Htk := Lib.hid (List.take_succ_eq_append_getElem hlt)
      have hxl := Hb.out _ (List.getElem_mem hlt)
      generalize s[k] = x at *
      have Hun := Lib.hid (fun W (hW : Chg No wr W) => runlike_any G u x W (hu.keepNo hW) (by omega))
      have Hbad := Lib.hid (fun (h : shardB x = false) => Hno.out (fun hh => by have := hh.2.2.2.2 x Hmem.out; rw [h] at this; cases this))
      obtain ⟨Au, cu, rfl⟩ := hu.slice
      clear hu
      by_cases e1 : x.length = 0
      · have Hr := Lib.hid (Hbad.out (by simp [shardB, e1]))
        have e1' : (x.length : Int) < 1 := by omega
        clear e1
        go_wp2_with (with_reducible first | refine stop_append ?_ | refine stop_copy ?_ | refine stop_make ?_ | refine stop_lookup ?_ | refine stop_update ?_ | refine stop_slice ?_ | refine stop_range ?_ | refine stop_next ?_ | refine stop_convert ⟨_, rfl⟩ ?_ | refine stop_convertB ⟨_, _, _, rfl⟩ ?_ | refine stop_eqSlice ⟨_, _, rfl⟩ ?_)
        go_ret
        exact ⟨by rw [Hr.out]; rfl, hcw⟩
      have e1' : ¬ (x.length : Int) < 1 := by omega
      by_cases e2 : 3 < x.length
      · have Hr := Lib.hid (Hbad.out (by simp [shardB]; omega))
        have e2' : 3 < (x.length : Int) := by omega
        clear e1
        go_wp2_with (with_reducible first | refine stop_append ?_ | refine stop_copy ?_ | refine stop_make ?_ | refine stop_lookup ?_ | refine stop_update ?_ | refine stop_slice ?_ | refine stop_range ?_ | refine stop_next ?_ | refine stop_convert ⟨_, rfl⟩ ?_ | refine stop_convertB ⟨_, _, _, rfl⟩ ?_ | refine stop_eqSlice ⟨_, _, rfl⟩ ?_)
        go_ret
        exact ⟨by rw [Hr.out]; rfl, hcw⟩
      have e2' : ¬ 3 < (x.length : Int) := by omega
      have Hsh := Lib.hid (show shardB x = nodesB x by unfold shardB; rw [decide_eq_true (by omega), Bool.true_and])
      obtain ⟨nb, hnb⟩ : ∃ o, o = nodesB x := ⟨_, rfl⟩
      rw [← hnb] at Hun Hsh
      clear hnb e1
      go_wp2_with (with_reducible first | refine stop_append ?_ | refine stop_copy ?_ | refine stop_make ?_ | refine stop_lookup ?_ | refine stop_update ?_ | refine stop_slice ?_ | refine stop_range ?_ | refine stop_next ?_ | refine stop_convert ⟨_, rfl⟩ ?_ | refine stop_convertB ⟨_, _, _, rfl⟩ ?_ | refine stop_eqSlice ⟨_, _, rfl⟩ ?_)
      refine (Hun.out _ (Chg.refl _ _)).mono ?_
      rintro e w2 ⟨rfl, hc2⟩
      have hcw2 := hcw.trans hc2
      have hc02 := hc.trans hc2
      rcases nb with _ | _
      · have Hr := Lib.hid (Hbad.out Hsh.out)
        go_wp2_with (with_reducible first | refine stop_append ?_ | refine stop_copy ?_ | refine stop_make ?_ | refine stop_lookup ?_ | refine stop_update ?_ | refine stop_slice ?_ | refine stop_range ?_ | refine stop_next ?_ | refine stop_convert ⟨_, rfl⟩ ?_ | refine stop_convertB ⟨_, _, _, rfl⟩ ?_ | refine stop_eqSlice ⟨_, _, rfl⟩ ?_)
        go_ret
        exact ⟨by rw [Hr.out]; rfl, hcw2⟩
      · go_wp2_with (with_reducible first | refine stop_append ?_ | refine stop_copy ?_ | refine stop_make ?_ | refine stop_lookup ?_ | refine stop_update ?_ | refine stop_slice ?_ | refine stop_range ?_ | refine stop_next ?_ | refine stop_convert ⟨_, rfl⟩ ?_ | refine stop_convertB ⟨_, _, _, rfl⟩ ?_ | refine stop_eqSlice ⟨_, _, rfl⟩ ?_)
        go_roundw
        case rel => exact ⟨k + 1, by omega, by go_num, hc02, by
          rw [Htk.out]
          intro y hy
          rcases List.mem_append.1 hy with h | h
          · exact Hall.out y h
          · rw [List.mem_singleton.1 h]; exact Hsh.out⟩
        case measure => simp [intOf]; omega
    · obtain rfl : k = s.length := by omega
      rw [List.take_length] at Hall
      by_cases hn : q.length = 1 ∨ q.length = 3 ∨ q.length = 5 ∨ q.length = 7
      · have Hfin := Lib.hid (show nodesB q = R by
          rcases e : nodesB q with _ | _
          · exact (Hno.out (fun hh => by have := hh.2.2.2.1; rw [e] at this; cases this)).symm
          · have h30 := H3.out
            exact (Hyes.out ⟨by omega, by omega, by omega, e, Hall.out⟩).symm)
        rcases hn with hn | hn | hn | hn
        all_goals
          simp only [hn] at b1 Hq
          go_wp2_with (with_reducible first | refine stop_append ?_ | refine stop_copy ?_ | refine stop_make ?_ | refine stop_lookup ?_ | refine stop_update ?_ | refine stop_slice ?_ | refine stop_range ?_ | refine stop_next ?_ | refine stop_convert ⟨_, rfl⟩ ?_ | refine stop_convertB ⟨_, _, _, rfl⟩ ?_ | refine stop_eqSlice ⟨_, _, rfl⟩ ?_)
          refine (Hq.out _ hcw).mono ?_
          rintro e w2 ⟨rfl, hc2⟩
          go_wp2_with (with_reducible first | refine stop_append ?_ | refine stop_copy ?_ | refine stop_make ?_ | refine stop_lookup ?_ | refine stop_update ?_ | refine stop_slice ?_ | refine stop_range ?_ | refine stop_next ?_ | refine stop_convert ⟨_, rfl⟩ ?_ | refine stop_convertB ⟨_, _, _, rfl⟩ ?_ | refine stop_eqSlice ⟨_, _, rfl⟩ ?_)
          go_ret
          exact ⟨by rw [← Hfin.out]; rfl, hcw.trans hc2⟩
      · have Hr := Lib.hid (Hno.out (fun hh => hn (by have := hh.2.1; omega)))
        have n1 : ((q.length : Int) == 1) = false := beq_false_of_ne (by omega)
        have n3 : ((q.length : Int) == 3) = false := beq_false_of_ne (by omega)
        have n5 : ((q.length : Int) == 5) = false := beq_false_of_ne (by omega)
        have n7 : ((q.length : Int) == 7) = false := beq_false_of_ne (by omega)
        clear hn
        go_wp2_with (with_reducible first | refine stop_append ?_ | refine stop_copy ?_ | refine stop_make ?_ | refine stop_lookup ?_ | refine stop_update ?_ | refine stop_slice ?_ | refine stop_range ?_ | refine stop_next ?_ | refine stop_convert ⟨_, rfl⟩ ?_ | refine stop_convertB ⟨_, _, _, rfl⟩ ?_ | refine stop_eqSlice ⟨_, _, rfl⟩ ?_)
        go_ret
        exact ⟨by rw [Hr.out]; rfl, hcw⟩
end Go.Proofs.Yticimjplegbagaa


/- Walks of the document's vector: Right, Kind, Covers, Same, Total, Max, Min, Gain, Set. -/
set_option linter.unusedVariables false
set_option linter.unusedSimpArgs false
namespace Go.Proofs.Yticimjplegbagaa
open Go.RowKit Cb

/-- One number of a row, its slice value as it is. -/
theorem num_in {F : Nat → Prop} {w : World} {A : Option Addr} {n c : Nat} {l : List Int} (h : Sl F w (.slice A n c) l) (k : Nat) (hk : k < l.length) :
    ∃ b o, A = some ⟨b, o, none⟩ ∧ ¬ F b ∧ b < w.heap.size ∧ w.cell? ⟨b, o + k, none⟩ = some (.int .i64 l[k]) := by
  obtain ⟨b, o, d, rfl, hF, hb, rfl, ha⟩ := h.get k hk
  refine ⟨b, o, rfl, hF, hb, ?_⟩
  have := ha 0 _ rfl
  simpa [show Rep.n Int = 1 from rfl] using this
theorem may_iff {n : Int} : mayB n = true ↔ 0 ≤ n ∧ n ≤ 1099511627776 := by simp [mayB]
theorem vright_all {xs : List Int} : vright xs = (xs.all mayB && (decide (1 ≤ xs.length) && decide (xs.length ≤ 8))) := by
  have e : (!(xs.any (fun n => !mayB n))) = xs.all mayB := by
    rw [Bool.eq_iff_iff]; simp
  unfold vright
  rw [e]
  cases xs.all mayB <;> cases decide (1 ≤ xs.length) <;> cases decide (xs.length ≤ 8) <;> rfl
set_option maxRecDepth 100000 in
set_option maxHeartbeats 1000000 in
theorem rright_any (F : Nat → Prop) (v : Value) (xs : List Int) (w : World) (h : Sl F w v xs) (hl : xs.length * 8 ≤ 140737488355328) :
    Calls Try.prog 87 #[v] w fun e w' => e = .returned (.bool (vright xs)) ∧ Chg No w w' := by
  obtain ⟨A, c, rfl⟩ := h.slice
  have H := Lib.hid h
  clear h
  go_enter Try.func87, Try.ntmps87
  go_wp2_with (with_reducible first | refine stop_append ?_ | refine stop_copy ?_ | refine stop_make ?_ | refine stop_lookup ?_ | refine stop_update ?_ | refine stop_slice ?_ | refine stop_range ?_ | refine stop_next ?_ | refine stop_convert ⟨_, rfl⟩ ?_ | refine stop_convertB ⟨_, _, _, rfl⟩ ?_ | refine stop_eqSlice ⟨_, _, rfl⟩ ?_)
  go_loopw [3] (fun v3 wr => ∃ k : Nat, k ≤ xs.length ∧ v3 = .int .i64 k ∧ Chg No w wr ∧ ∀ i (h : i < xs.length), i < k → mayB xs[i] = true) (fun v3 _ => xs.length - (intOf v3).toNat)
  case atStart => exact ⟨0, by omega, rfl, Chg.refl _ _, fun _ _ h => by omega⟩
  case round =>
    obtain ⟨k, hk, rfl, hc, hall⟩ := hrel
    have Hall := Lib.hid hall
    clear hall
    by_cases hlt : k < xs.length
    · obtain ⟨b, o, rfl, _, hbl, a0⟩ := num_in (H.out.keepNo hc) k hlt
      have Hbad := Lib.hid (show mayB xs[k] = false → vright xs = false from fun hm => by
        rw [vright_all, Bool.and_eq_false_iff]; left
        rw [List.all_eq_false]
        exact ⟨_, List.getElem_mem hlt, by simp [hm]⟩)
      have Hgo := Lib.hid (show mayB xs[k] = true → ∀ i (h : i < xs.length), i < k + 1 → mayB xs[i] = true from fun hm i h hi => by
        rcases Nat.lt_or_ge i k with h' | h'
        · exact Hall.out i h h'
        · obtain rfl : i = k := by omega
          exact hm)
      generalize xs[k] = x at *
      by_cases h0 : x < 0
      · have Hr := Lib.hid (Hbad.out (by simp [mayB]; omega))
        go_wp2_with (with_reducible first | refine stop_append ?_ | refine stop_copy ?_ | refine stop_make ?_ | refine stop_lookup ?_ | refine stop_update ?_ | refine stop_slice ?_ | refine stop_range ?_ | refine stop_next ?_ | refine stop_convert ⟨_, rfl⟩ ?_ | refine stop_convertB ⟨_, _, _, rfl⟩ ?_ | refine stop_eqSlice ⟨_, _, rfl⟩ ?_)
        go_ret
        rw [Hr.out]
        exact ⟨rfl, hc⟩
      · by_cases h1 : 1099511627776 < x
        · have Hr := Lib.hid (Hbad.out (by simp [mayB]; omega))
          go_wp2_with (with_reducible first | refine stop_append ?_ | refine stop_copy ?_ | refine stop_make ?_ | refine stop_lookup ?_ | refine stop_update ?_ | refine stop_slice ?_ | refine stop_range ?_ | refine stop_next ?_ | refine stop_convert ⟨_, rfl⟩ ?_ | refine stop_convertB ⟨_, _, _, rfl⟩ ?_ | refine stop_eqSlice ⟨_, _, rfl⟩ ?_)
          go_ret
          rw [Hr.out]
          exact ⟨rfl, hc⟩
        · have Hr := Lib.hid (Hgo.out (may_iff.2 ⟨by omega, by omega⟩))
          go_wp2_with (with_reducible first | refine stop_append ?_ | refine stop_copy ?_ | refine stop_make ?_ | refine stop_lookup ?_ | refine stop_update ?_ | refine stop_slice ?_ | refine stop_range ?_ | refine stop_next ?_ | refine stop_convert ⟨_, rfl⟩ ?_ | refine stop_convertB ⟨_, _, _, rfl⟩ ?_ | refine stop_eqSlice ⟨_, _, rfl⟩ ?_)
          go_roundw
          case rel => exact ⟨k + 1, by omega, by go_num, hc, Hr.out⟩
          case measure => simp [intOf]; omega
    · obtain rfl : k = xs.length := by omega
      have hall : xs.all mayB = true := List.all_eq_true.2 (fun x hx => by
        obtain ⟨i, hi, rfl⟩ := List.mem_iff_getElem.1 hx
        exact Hall.out i hi hi)
      have Hr := Lib.hid (show vright xs = (decide (1 ≤ xs.length) && decide (xs.length ≤ 8)) by rw [vright_all, hall]; rfl)
      clear hall
      by_cases h1 : 1 ≤ xs.length
      · by_cases h8 : xs.length ≤ 8
        · go_wp2_with (with_reducible first | refine stop_append ?_ | refine stop_copy ?_ | refine stop_make ?_ | refine stop_lookup ?_ | refine stop_update ?_ | refine stop_slice ?_ | refine stop_range ?_ | refine stop_next ?_ | refine stop_convert ⟨_, rfl⟩ ?_ | refine stop_convertB ⟨_, _, _, rfl⟩ ?_ | refine stop_eqSlice ⟨_, _, rfl⟩ ?_)
          go_ret
          rw [Hr.out]
          exact ⟨by simp [h1, h8]; try omega, hc⟩
        · go_wp2_with (with_reducible first | refine stop_append ?_ | refine stop_copy ?_ | refine stop_make ?_ | refine stop_lookup ?_ | refine stop_update ?_ | refine stop_slice ?_ | refine stop_range ?_ | refine stop_next ?_ | refine stop_convert ⟨_, rfl⟩ ?_ | refine stop_convertB ⟨_, _, _, rfl⟩ ?_ | refine stop_eqSlice ⟨_, _, rfl⟩ ?_)
          go_ret
          rw [Hr.out]
          exact ⟨by simp [h1, h8]; try omega, hc⟩
      · have hx0 : xs.length = 0 := by omega
        have Hr2 := Lib.hid (show vright xs = false by rw [Hr.out]; simp; omega)
        go_wp2_with (with_reducible first | refine stop_append ?_ | refine stop_copy ?_ | refine stop_make ?_ | refine stop_lookup ?_ | refine stop_update ?_ | refine stop_slice ?_ | refine stop_range ?_ | refine stop_next ?_ | refine stop_convert ⟨_, rfl⟩ ?_ | refine stop_convertB ⟨_, _, _, rfl⟩ ?_ | refine stop_eqSlice ⟨_, _, rfl⟩ ?_)
        go_ret
        rw [Hr2.out]
        exact ⟨by simp, hc⟩
theorem rkind_any (F G : Nat → Prop) (v u : Value) (xs ys : List Int) (w : World) (hs : Sl F w v xs) (ht : Sl G w u ys) (hl : xs.length * 8 ≤ 140737488355328) (hl' : ys.length * 8 ≤ 140737488355328) :
    Calls Try.prog 88 #[v, u] w fun e w' => e = .returned (.bool (kindB xs ys)) ∧ Chg No w w' := by
  have Hx := Lib.hid (rright_any F v xs w hs hl)
  have Hy := Lib.hid (fun W (hW : Chg No w W) => rright_any G u ys W (ht.keepNo hW) hl')
  obtain ⟨A, c, rfl⟩ := hs.slice
  obtain ⟨B, d, rfl⟩ := ht.slice
  clear hs ht
  cases hx : vright xs with
  | false =>
    rw [hx] at Hx
    have Hr := Lib.hid (show kindB xs ys = false by simp [kindB, hx])
    clear hx
    go_enter Try.func88, Try.ntmps88
    go_wp2_with (with_reducible first | refine stop_append ?_ | refine stop_copy ?_ | refine stop_make ?_ | refine stop_lookup ?_ | refine stop_update ?_ | refine stop_slice ?_ | refine stop_range ?_ | refine stop_next ?_ | refine stop_convert ⟨_, rfl⟩ ?_ | refine stop_convertB ⟨_, _, _, rfl⟩ ?_ | refine stop_eqSlice ⟨_, _, rfl⟩ ?_)
    refine Hx.out.mono ?_
    rintro e w1 ⟨rfl, hc1⟩
    go_wp2_with (with_reducible first | refine stop_append ?_ | refine stop_copy ?_ | refine stop_make ?_ | refine stop_lookup ?_ | refine stop_update ?_ | refine stop_slice ?_ | refine stop_range ?_ | refine stop_next ?_ | refine stop_convert ⟨_, rfl⟩ ?_ | refine stop_convertB ⟨_, _, _, rfl⟩ ?_ | refine stop_eqSlice ⟨_, _, rfl⟩ ?_)
    go_ret
    rw [Hr.out]; exact ⟨rfl, hc1⟩
  | true =>
    cases hy : vright ys with
    | false =>
      rw [hx] at Hx
      rw [hy] at Hy
      have Hr := Lib.hid (show kindB xs ys = false by simp [kindB, hy])
      clear hx hy
      go_enter Try.func88, Try.ntmps88
      go_wp2_with (with_reducible first | refine stop_append ?_ | refine stop_copy ?_ | refine stop_make ?_ | refine stop_lookup ?_ | refine stop_update ?_ | refine stop_slice ?_ | refine stop_range ?_ | refine stop_next ?_ | refine stop_convert ⟨_, rfl⟩ ?_ | refine stop_convertB ⟨_, _, _, rfl⟩ ?_ | refine stop_eqSlice ⟨_, _, rfl⟩ ?_)
      refine Hx.out.mono ?_
      rintro e w1 ⟨rfl, hc1⟩
      go_wp2_with (with_reducible first | refine stop_append ?_ | refine stop_copy ?_ | refine stop_make ?_ | refine stop_lookup ?_ | refine stop_update ?_ | refine stop_slice ?_ | refine stop_range ?_ | refine stop_next ?_ | refine stop_convert ⟨_, rfl⟩ ?_ | refine stop_convertB ⟨_, _, _, rfl⟩ ?_ | refine stop_eqSlice ⟨_, _, rfl⟩ ?_)
      refine (Hy.out _ hc1).mono ?_
      rintro e w2 ⟨rfl, hc2⟩
      go_wp2_with (with_reducible first | refine stop_append ?_ | refine stop_copy ?_ | refine stop_make ?_ | refine stop_lookup ?_ | refine stop_update ?_ | refine stop_slice ?_ | refine stop_range ?_ | refine stop_next ?_ | refine stop_convert ⟨_, rfl⟩ ?_ | refine stop_convertB ⟨_, _, _, rfl⟩ ?_ | refine stop_eqSlice ⟨_, _, rfl⟩ ?_)
      go_ret
      rw [Hr.out]; exact ⟨rfl, hc1.trans hc2⟩
    | true =>
      rw [hx] at Hx
      rw [hy] at Hy
      have Hr := Lib.hid (show kindB xs ys = decide (xs.length = ys.length) by simp [kindB, hx, hy])
      clear hx hy
      go_enter Try.func88, Try.ntmps88
      go_wp2_with (with_reducible first | refine stop_append ?_ | refine stop_copy ?_ | refine stop_make ?_ | refine stop_lookup ?_ | refine stop_update ?_ | refine stop_slice ?_ | refine stop_range ?_ | refine stop_next ?_ | refine stop_convert ⟨_, rfl⟩ ?_ | refine stop_convertB ⟨_, _, _, rfl⟩ ?_ | refine stop_eqSlice ⟨_, _, rfl⟩ ?_)
      refine Hx.out.mono ?_
      rintro e w1 ⟨rfl, hc1⟩
      go_wp2_with (with_reducible first | refine stop_append ?_ | refine stop_copy ?_ | refine stop_make ?_ | refine stop_lookup ?_ | refine stop_update ?_ | refine stop_slice ?_ | refine stop_range ?_ | refine stop_next ?_ | refine stop_convert ⟨_, rfl⟩ ?_ | refine stop_convertB ⟨_, _, _, rfl⟩ ?_ | refine stop_eqSlice ⟨_, _, rfl⟩ ?_)
      refine (Hy.out _ hc1).mono ?_
      rintro e w2 ⟨rfl, hc2⟩
      go_wp2_with (with_reducible first | refine stop_append ?_ | refine stop_copy ?_ | refine stop_make ?_ | refine stop_lookup ?_ | refine stop_update ?_ | refine stop_slice ?_ | refine stop_range ?_ | refine stop_next ?_ | refine stop_convert ⟨_, rfl⟩ ?_ | refine stop_convertB ⟨_, _, _, rfl⟩ ?_ | refine stop_eqSlice ⟨_, _, rfl⟩ ?_)
      go_ret
      rw [Hr.out]
      refine ⟨?_, hc1.trans hc2⟩
      by_cases he : xs.length = ys.length
      · simp [he]
      · simp [he]; try omega
set_option maxRecDepth 100000 in
set_option maxHeartbeats 1000000 in
theorem rcovers_any (F G : Nat → Prop) (v u : Value) (xs ys : List Int) (w : World) (hs : Sl F w v xs) (ht : Sl G w u ys) (hl : xs.length * 8 ≤ 140737488355328) (hl' : ys.length * 8 ≤ 140737488355328) :
    Calls Try.prog 74 #[v, u] w fun e w' => e = .returned (.bool (coversB xs ys)) ∧ Chg No w w' := by
  have Hk := Lib.hid (rkind_any F G v u xs ys w hs ht hl hl')
  have H := Lib.hid hs
  have H' := Lib.hid ht
  obtain ⟨A, c, rfl⟩ := hs.slice
  obtain ⟨B, d, rfl⟩ := ht.slice
  clear hs ht
  cases hk : kindB xs ys with
  | false =>
    rw [hk] at Hk
    have Hr := Lib.hid (show coversB xs ys = false by simp [coversB, hk])
    clear hk
    go_enter Try.func74, Try.ntmps74
    go_wp2_with (with_reducible first | refine stop_append ?_ | refine stop_copy ?_ | refine stop_make ?_ | refine stop_lookup ?_ | refine stop_update ?_ | refine stop_slice ?_ | refine stop_range ?_ | refine stop_next ?_ | refine stop_convert ⟨_, rfl⟩ ?_ | refine stop_convertB ⟨_, _, _, rfl⟩ ?_ | refine stop_eqSlice ⟨_, _, rfl⟩ ?_)
    refine Hk.out.mono ?_
    rintro e w1 ⟨rfl, hc1⟩
    go_wp2_with (with_reducible first | refine stop_append ?_ | refine stop_copy ?_ | refine stop_make ?_ | refine stop_lookup ?_ | refine stop_update ?_ | refine stop_slice ?_ | refine stop_range ?_ | refine stop_next ?_ | refine stop_convert ⟨_, rfl⟩ ?_ | refine stop_convertB ⟨_, _, _, rfl⟩ ?_ | refine stop_eqSlice ⟨_, _, rfl⟩ ?_)
    go_ret
    rw [Hr.out]; exact ⟨rfl, hc1⟩
  | true =>
    rw [hk] at Hk
    have Hkk := Lib.hid hk
    have Hlen := Lib.hid (kind_iff.1 hk).2.2
    have hx8 := (vright_iff.1 (kind_iff.1 hk).1).2.1
    rw [← (kind_iff.1 hk).2.2] at H' Hk ⊢
    clear hk hl'
    go_enter Try.func74, Try.ntmps74
    go_wp2_with (with_reducible first | refine stop_append ?_ | refine stop_copy ?_ | refine stop_make ?_ | refine stop_lookup ?_ | refine stop_update ?_ | refine stop_slice ?_ | refine stop_range ?_ | refine stop_next ?_ | refine stop_convert ⟨_, rfl⟩ ?_ | refine stop_convertB ⟨_, _, _, rfl⟩ ?_ | refine stop_eqSlice ⟨_, _, rfl⟩ ?_)
    refine Hk.out.mono ?_
    rintro e w1 ⟨rfl, hc1⟩
    go_wp2_with (with_reducible first | refine stop_append ?_ | refine stop_copy ?_ | refine stop_make ?_ | refine stop_lookup ?_ | refine stop_update ?_ | refine stop_slice ?_ | refine stop_range ?_ | refine stop_next ?_ | refine stop_convert ⟨_, rfl⟩ ?_ | refine stop_convertB ⟨_, _, _, rfl⟩ ?_ | refine stop_eqSlice ⟨_, _, rfl⟩ ?_)
    go_loopw [5] (fun v5 wr => ∃ k : Nat, k ≤ xs.length ∧ v5 = .int .i64 k ∧ Chg No w wr ∧ ∀ i (h : i < xs.length) (h' : i < ys.length), i < k → ys[i] ≤ xs[i]) (fun v5 _ => xs.length - (intOf v5).toNat)
    case atStart => exact ⟨0, by omega, rfl, hc1, fun _ _ _ h => by omega⟩
    case round =>
      obtain ⟨k, hk, rfl, hc, hall⟩ := hrel
      have Hall := Lib.hid hall
      clear hall
      by_cases hlt : k < xs.length
      · have hlt' : k < ys.length := by have := Hlen.out; omega
        obtain ⟨b, o, rfl, _, hbl, a0⟩ := num_in (H.out.keepNo hc) k hlt
        have hgy : Sl G w (.slice B xs.length d) ys := H'.out
        obtain ⟨b', o', rfl, _, hbl', b0⟩ := num_in (hgy.keepNo hc) k hlt'
        have Hbad := Lib.hid (show xs[k] < ys[k] → coversB xs ys = false from fun h => by
          rw [Bool.eq_false_iff]
          intro hcv
          have := (covers_at.1 hcv).2 k hlt hlt'
          omega)
        have Hgo := Lib.hid (show ¬ xs[k] < ys[k] → ∀ i (h : i < xs.length) (h' : i < ys.length), i < k + 1 → ys[i] ≤ xs[i] from fun hm i h h' hi => by
          rcases Nat.lt_or_ge i k with hik | hik
          · exact Hall.out i h h' hik
          · obtain rfl : i = k := by omega
            omega)
        clear hgy
        generalize xs[k] = x at *
        generalize ys[k] = y at *
        by_cases hxy : x < y
        · have Hr := Lib.hid (Hbad.out hxy)
          go_wp2_with (with_reducible first | refine stop_append ?_ | refine stop_copy ?_ | refine stop_make ?_ | refine stop_lookup ?_ | refine stop_update ?_ | refine stop_slice ?_ | refine stop_range ?_ | refine stop_next ?_ | refine stop_convert ⟨_, rfl⟩ ?_ | refine stop_convertB ⟨_, _, _, rfl⟩ ?_ | refine stop_eqSlice ⟨_, _, rfl⟩ ?_)
          refine reg_start (fun W => W.cell? ⟨b, o + k, none⟩ = some (.int .i64 x) ∧ W.cell? ⟨b', o' + k, none⟩ = some (.int .i64 y)) (by kernel_rfl) ?_
          ((refine reg_yes (i := 0) (oi := { dst := some 16, op := .move (.tmp 0), type := 22, pos := "ref.go:60", after := #[], guard := none }) (v := ?_) rfl (by kernel_rfl) (by kernel_rfl) (by kernel_rfl) (fun _ _ _ h => h) rfl ?_ ?_); rotate_left; focus (intro W hW; (try dsimp only at hW); go_split_ands; go_simp; (try (simp (disch := omega) only [IntWalk.i64_in]; (try go_simp))); (try (split; (next => omega); (try go_simp))); try rfl; done))
          try simp only [Act.put, List.setIfInBounds_toArray, List.set_cons_zero, List.set_cons_succ, Nat.reduceAdd]
          ((refine reg_yes (i := 1) (oi := { dst := some 17, op := .move (.tmp 5), type := 3, pos := "ref.go:60", after := #[], guard := none }) (v := ?_) rfl (by kernel_rfl) (by kernel_rfl) (by kernel_rfl) (fun _ _ _ h => h) rfl ?_ ?_); rotate_left; focus (intro W hW; (try dsimp only at hW); go_split_ands; go_simp; (try (simp (disch := omega) only [IntWalk.i64_in]; (try go_simp))); (try (split; (next => omega); (try go_simp))); try rfl; done))
          try simp only [Act.put, List.setIfInBounds_toArray, List.set_cons_zero, List.set_cons_succ, Nat.reduceAdd]
          ((refine reg_yes (i := 2) (oi := { dst := some 18, op := .indexAddr 22 (.tmp 16) (.tmp 17), type := 0, pos := "ref.go:60", after := #[{ on := 0, ground := .data }, { on := 1, ground := .data }], guard := none }) (v := ?_) rfl (by kernel_rfl) (by kernel_rfl) (by kernel_rfl) (fun _ _ _ h => h) rfl ?_ ?_); rotate_left; focus (intro W hW; (try dsimp only at hW); go_split_ands; go_simp; (try (simp (disch := omega) only [IntWalk.i64_in]; (try go_simp))); (try (split; (next => omega); (try go_simp))); try rfl; done))
          try simp only [Act.put, List.setIfInBounds_toArray, List.set_cons_zero, List.set_cons_succ, Nat.reduceAdd]
          ((refine reg_yes (i := 3) (oi := { dst := some 19, op := .load 3 (.tmp 18), type := 3, pos := "ref.go:60", after := #[{ on := 2, ground := .data }], guard := none }) (v := ?_) rfl (by kernel_rfl) (by kernel_rfl) (by kernel_rfl) (fun _ _ _ h => h) rfl ?_ ?_); rotate_left; focus (intro W hW; (try dsimp only at hW); go_split_ands; go_simp; (try (simp (disch := omega) only [IntWalk.i64_in]; (try go_simp))); (try (split; (next => omega); (try go_simp))); try rfl; done))
          try simp only [Act.put, List.setIfInBounds_toArray, List.set_cons_zero, List.set_cons_succ, Nat.reduceAdd]
          ((refine reg_yes (i := 4) (oi := { dst := some 20, op := .move (.tmp 1), type := 22, pos := "ref.go:60", after := #[], guard := none }) (v := ?_) rfl (by kernel_rfl) (by kernel_rfl) (by kernel_rfl) (fun _ _ _ h => h) rfl ?_ ?_); rotate_left; focus (intro W hW; (try dsimp only at hW); go_split_ands; go_simp; (try (simp (disch := omega) only [IntWalk.i64_in]; (try go_simp))); (try (split; (next => omega); (try go_simp))); try rfl; done))
          try simp only [Act.put, List.setIfInBounds_toArray, List.set_cons_zero, List.set_cons_succ, Nat.reduceAdd]
          ((refine reg_yes (i := 5) (oi := { dst := some 21, op := .move (.tmp 5), type := 3, pos := "ref.go:60", after := #[], guard := none }) (v := ?_) rfl (by kernel_rfl) (by kernel_rfl) (by kernel_rfl) (fun _ _ _ h => h) rfl ?_ ?_); rotate_left; focus (intro W hW; (try dsimp only at hW); go_split_ands; go_simp; (try (simp (disch := omega) only [IntWalk.i64_in]; (try go_simp))); (try (split; (next => omega); (try go_simp))); try rfl; done))
          try simp only [Act.put, List.setIfInBounds_toArray, List.set_cons_zero, List.set_cons_succ, Nat.reduceAdd]
          ((refine reg_yes (i := 6) (oi := { dst := some 22, op := .indexAddr 22 (.tmp 20) (.tmp 21), type := 0, pos := "ref.go:60", after := #[{ on := 4, ground := .data }, { on := 5, ground := .data }], guard := none }) (v := ?_) rfl (by kernel_rfl) (by kernel_rfl) (by kernel_rfl) (fun _ _ _ h => h) rfl ?_ ?_); rotate_left; focus (intro W hW; (try dsimp only at hW); go_split_ands; go_simp; (try (simp (disch := omega) only [IntWalk.i64_in]; (try go_simp))); (try (split; (next => omega); (try go_simp))); try rfl; done))
          try simp only [Act.put, List.setIfInBounds_toArray, List.set_cons_zero, List.set_cons_succ, Nat.reduceAdd]
          ((refine reg_yes (i := 7) (oi := { dst := some 23, op := .load 3 (.tmp 22), type := 3, pos := "ref.go:60", after := #[{ on := 6, ground := .data }], guard := none }) (v := ?_) rfl (by kernel_rfl) (by kernel_rfl) (by kernel_rfl) (fun _ _ _ h => h) rfl ?_ ?_); rotate_left; focus (intro W hW; (try dsimp only at hW); go_split_ands; go_simp; (try (simp (disch := omega) only [IntWalk.i64_in]; (try go_simp))); (try (split; (next => omega); (try go_simp))); try rfl; done))
          try simp only [Act.put, List.setIfInBounds_toArray, List.set_cons_zero, List.set_cons_succ, Nat.reduceAdd]
          ((refine reg_yes (i := 8) (oi := { dst := some 24, op := .binOp .lss 3 (.tmp 19) (.tmp 23) 3, type := 4, pos := "ref.go:60", after := #[{ on := 3, ground := .data }, { on := 7, ground := .data }], guard := none }) (v := ?_) rfl (by kernel_rfl) (by kernel_rfl) (by kernel_rfl) (fun _ _ _ h => h) rfl ?_ ?_); rotate_left; focus (intro W hW; (try dsimp only at hW); go_split_ands; go_simp; (try (simp (disch := omega) only [IntWalk.i64_in]; (try go_simp))); (try (split; (next => omega); (try go_simp))); try rfl; done))
          try simp only [Act.put, List.setIfInBounds_toArray, List.set_cons_zero, List.set_cons_succ, Nat.reduceAdd]
          refine reg_done (by kernel_rfl) (show (fun W => W.cell? ⟨b, o + k, none⟩ = some (.int .i64 x) ∧ W.cell? ⟨b', o' + k, none⟩ = some (.int .i64 y)) wr.drew from ⟨a0, b0⟩) ?_
          have hcd := hc.drew
          go_wp2_with (with_reducible first | refine stop_append ?_ | refine stop_copy ?_ | refine stop_make ?_ | refine stop_lookup ?_ | refine stop_update ?_ | refine stop_slice ?_ | refine stop_range ?_ | refine stop_next ?_ | refine stop_convert ⟨_, rfl⟩ ?_ | refine stop_convertB ⟨_, _, _, rfl⟩ ?_ | refine stop_eqSlice ⟨_, _, rfl⟩ ?_)
          go_ret
          rw [Hr.out]; exact ⟨rfl, hcd⟩
        · have Hr := Lib.hid (Hgo.out hxy)
          go_wp2_with (with_reducible first | refine stop_append ?_ | refine stop_copy ?_ | refine stop_make ?_ | refine stop_lookup ?_ | refine stop_update ?_ | refine stop_slice ?_ | refine stop_range ?_ | refine stop_next ?_ | refine stop_convert ⟨_, rfl⟩ ?_ | refine stop_convertB ⟨_, _, _, rfl⟩ ?_ | refine stop_eqSlice ⟨_, _, rfl⟩ ?_)
          refine reg_start (fun W => W.cell? ⟨b, o + k, none⟩ = some (.int .i64 x) ∧ W.cell? ⟨b', o' + k, none⟩ = some (.int .i64 y)) (by kernel_rfl) ?_
          ((refine reg_yes (i := 0) (oi := { dst := some 16, op := .move (.tmp 0), type := 22, pos := "ref.go:60", after := #[], guard := none }) (v := ?_) rfl (by kernel_rfl) (by kernel_rfl) (by kernel_rfl) (fun _ _ _ h => h) rfl ?_ ?_); rotate_left; focus (intro W hW; (try dsimp only at hW); go_split_ands; go_simp; (try (simp (disch := omega) only [IntWalk.i64_in]; (try go_simp))); (try (split; (next => omega); (try go_simp))); try rfl; done))
          try simp only [Act.put, List.setIfInBounds_toArray, List.set_cons_zero, List.set_cons_succ, Nat.reduceAdd]
          ((refine reg_yes (i := 1) (oi := { dst := some 17, op := .move (.tmp 5), type := 3, pos := "ref.go:60", after := #[], guard := none }) (v := ?_) rfl (by kernel_rfl) (by kernel_rfl) (by kernel_rfl) (fun _ _ _ h => h) rfl ?_ ?_); rotate_left; focus (intro W hW; (try dsimp only at hW); go_split_ands; go_simp; (try (simp (disch := omega) only [IntWalk.i64_in]; (try go_simp))); (try (split; (next => omega); (try go_simp))); try rfl; done))
          try simp only [Act.put, List.setIfInBounds_toArray, List.set_cons_zero, List.set_cons_succ, Nat.reduceAdd]
          ((refine reg_yes (i := 2) (oi := { dst := some 18, op := .indexAddr 22 (.tmp 16) (.tmp 17), type := 0, pos := "ref.go:60", after := #[{ on := 0, ground := .data }, { on := 1, ground := .data }], guard := none }) (v := ?_) rfl (by kernel_rfl) (by kernel_rfl) (by kernel_rfl) (fun _ _ _ h => h) rfl ?_ ?_); rotate_left; focus (intro W hW; (try dsimp only at hW); go_split_ands; go_simp; (try (simp (disch := omega) only [IntWalk.i64_in]; (try go_simp))); (try (split; (next => omega); (try go_simp))); try rfl; done))
          try simp only [Act.put, List.setIfInBounds_toArray, List.set_cons_zero, List.set_cons_succ, Nat.reduceAdd]
          ((refine reg_yes (i := 3) (oi := { dst := some 19, op := .load 3 (.tmp 18), type := 3, pos := "ref.go:60", after := #[{ on := 2, ground := .data }], guard := none }) (v := ?_) rfl (by kernel_rfl) (by kernel_rfl) (by kernel_rfl) (fun _ _ _ h => h) rfl ?_ ?_); rotate_left; focus (intro W hW; (try dsimp only at hW); go_split_ands; go_simp; (try (simp (disch := omega) only [IntWalk.i64_in]; (try go_simp))); (try (split; (next => omega); (try go_simp))); try rfl; done))
          try simp only [Act.put, List.setIfInBounds_toArray, List.set_cons_zero, List.set_cons_succ, Nat.reduceAdd]
          ((refine reg_yes (i := 4) (oi := { dst := some 20, op := .move (.tmp 1), type := 22, pos := "ref.go:60", after := #[], guard := none }) (v := ?_) rfl (by kernel_rfl) (by kernel_rfl) (by kernel_rfl) (fun _ _ _ h => h) rfl ?_ ?_); rotate_left; focus (intro W hW; (try dsimp only at hW); go_split_ands; go_simp; (try (simp (disch := omega) only [IntWalk.i64_in]; (try go_simp))); (try (split; (next => omega); (try go_simp))); try rfl; done))
          try simp only [Act.put, List.setIfInBounds_toArray, List.set_cons_zero, List.set_cons_succ, Nat.reduceAdd]
          ((refine reg_yes (i := 5) (oi := { dst := some 21, op := .move (.tmp 5), type := 3, pos := "ref.go:60", after := #[], guard := none }) (v := ?_) rfl (by kernel_rfl) (by kernel_rfl) (by kernel_rfl) (fun _ _ _ h => h) rfl ?_ ?_); rotate_left; focus (intro W hW; (try dsimp only at hW); go_split_ands; go_simp; (try (simp (disch := omega) only [IntWalk.i64_in]; (try go_simp))); (try (split; (next => omega); (try go_simp))); try rfl; done))
          try simp only [Act.put, List.setIfInBounds_toArray, List.set_cons_zero, List.set_cons_succ, Nat.reduceAdd]
          ((refine reg_yes (i := 6) (oi := { dst := some 22, op := .indexAddr 22 (.tmp 20) (.tmp 21), type := 0, pos := "ref.go:60", after := #[{ on := 4, ground := .data }, { on := 5, ground := .data }], guard := none }) (v := ?_) rfl (by kernel_rfl) (by kernel_rfl) (by kernel_rfl) (fun _ _ _ h => h) rfl ?_ ?_); rotate_left; focus (intro W hW; (try dsimp only at hW); go_split_ands; go_simp; (try (simp (disch := omega) only [IntWalk.i64_in]; (try go_simp))); (try (split; (next => omega); (try go_simp))); try rfl; done))
          try simp only [Act.put, List.setIfInBounds_toArray, List.set_cons_zero, List.set_cons_succ, Nat.reduceAdd]
          ((refine reg_yes (i := 7) (oi := { dst := some 23, op := .load 3 (.tmp 22), type := 3, pos := "ref.go:60", after := #[{ on := 6, ground := .data }], guard := none }) (v := ?_) rfl (by kernel_rfl) (by kernel_rfl) (by kernel_rfl) (fun _ _ _ h => h) rfl ?_ ?_); rotate_left; focus (intro W hW; (try dsimp only at hW); go_split_ands; go_simp; (try (simp (disch := omega) only [IntWalk.i64_in]; (try go_simp))); (try (split; (next => omega); (try go_simp))); try rfl; done))
          try simp only [Act.put, List.setIfInBounds_toArray, List.set_cons_zero, List.set_cons_succ, Nat.reduceAdd]
          ((refine reg_yes (i := 8) (oi := { dst := some 24, op := .binOp .lss 3 (.tmp 19) (.tmp 23) 3, type := 4, pos := "ref.go:60", after := #[{ on := 3, ground := .data }, { on := 7, ground := .data }], guard := none }) (v := ?_) rfl (by kernel_rfl) (by kernel_rfl) (by kernel_rfl) (fun _ _ _ h => h) rfl ?_ ?_); rotate_left; focus (intro W hW; (try dsimp only at hW); go_split_ands; go_simp; (try (simp (disch := omega) only [IntWalk.i64_in]; (try go_simp))); (try (split; (next => omega); (try go_simp))); try rfl; done))
          try simp only [Act.put, List.setIfInBounds_toArray, List.set_cons_zero, List.set_cons_succ, Nat.reduceAdd]
          refine reg_done (by kernel_rfl) (show (fun W => W.cell? ⟨b, o + k, none⟩ = some (.int .i64 x) ∧ W.cell? ⟨b', o' + k, none⟩ = some (.int .i64 y)) wr.drew from ⟨a0, b0⟩) ?_
          have hcd := hc.drew
          go_wp2_with (with_reducible first | refine stop_append ?_ | refine stop_copy ?_ | refine stop_make ?_ | refine stop_lookup ?_ | refine stop_update ?_ | refine stop_slice ?_ | refine stop_range ?_ | refine stop_next ?_ | refine stop_convert ⟨_, rfl⟩ ?_ | refine stop_convertB ⟨_, _, _, rfl⟩ ?_ | refine stop_eqSlice ⟨_, _, rfl⟩ ?_)
          go_roundw
          case rel => exact ⟨k + 1, by omega, by go_num, hcd, Hr.out⟩
          case measure => simp [intOf]; omega
      · obtain rfl : k = xs.length := by omega
        have Hr := Lib.hid (show coversB xs ys = true from covers_at.2 ⟨Hkk.out, fun i h h' => Hall.out i h h' h⟩)
        go_wp2_with (with_reducible first | refine stop_append ?_ | refine stop_copy ?_ | refine stop_make ?_ | refine stop_lookup ?_ | refine stop_update ?_ | refine stop_slice ?_ | refine stop_range ?_ | refine stop_next ?_ | refine stop_convert ⟨_, rfl⟩ ?_ | refine stop_convertB ⟨_, _, _, rfl⟩ ?_ | refine stop_eqSlice ⟨_, _, rfl⟩ ?_)
        go_ret
        rw [Hr.out]; exact ⟨rfl, hc⟩
end Go.Proofs.Yticimjplegbagaa


/- Walks of the document's chapter 5: Right, Same. -/
set_option linter.unusedVariables false
set_option linter.unusedSimpArgs false
namespace Go.Proofs.Yticimjplegbagaa
open Go.RowKit Cb

theorem entR_n {n k : Int} {cut : List Int} {tag t p : Int} (h : ¬ (1 ≤ n ∧ n ≤ 1099511627776)) : entR (n, k, cut, tag, t, p) = false := by
  unfold entR wiB
  rw [Bool.and_eq_false_iff]; left
  rw [Bool.and_eq_false_iff, decide_eq_false_iff_not, decide_eq_false_iff_not]
  simp only
  omega
theorem entR_1 {n : Int} {cut : List Int} {tag t p : Int} (h : 1 ≤ n ∧ n ≤ 1099511627776) : entR (n, 1, cut, tag, t, p) = (vright cut && (decide (tag = 0) && (decide (t = 0) && decide (p = 0)))) := by
  unfold entR wiB
  simp only [decide_eq_true h.1, decide_eq_true h.2, Bool.and_self, Bool.true_and, if_true]
theorem entR_2 {n : Int} {cut : List Int} {tag t p : Int} (h : 1 ≤ n ∧ n ≤ 1099511627776) : entR (n, 2, cut, tag, t, p) = decide (cut.length = 0 ∧ (0 ≤ tag ∧ tag ≤ 1073741824) ∧ (1 ≤ t ∧ t ≤ 64) ∧ (0 ≤ p ∧ p ≤ 1099511627776)) := by
  unfold entR wiB
  simp only [decide_eq_true h.1, decide_eq_true h.2, Bool.and_self, Bool.true_and, if_true, if_neg (show ¬ (2 : Int) = 1 by omega), Bool.decide_and]
theorem entR_o {n k : Int} {cut : List Int} {tag t p : Int} (h1 : k ≠ 1) (h2 : k ≠ 2) : entR (n, k, cut, tag, t, p) = false := by
  unfold entR
  simp only [if_neg h1, if_neg h2, Bool.and_false]
set_option maxRecDepth 100000 in
set_option maxHeartbeats 4000000 in
theorem dright_any (F : Nat → Prop) (e : Ent) (v : Value) (w : World) (hs : Sl F w v e.2.2.1) (hl : e.2.2.1.length * 8 ≤ 140737488355328) :
    Calls Try.prog 73 #[entV e v] w fun x w' => x = .returned (.bool (entR e)) ∧ Chg No w w' := by
  obtain ⟨n, k, cut, tag, t, p⟩ := e
  simp only at hs hl
  have Hv := Lib.hid (fun W hW => rright_any F _ _ W (hs.keepNo hW) hl)
  obtain ⟨A, c, rfl⟩ := hs.slice
  clear hs
  have o1 := alloc_obj w (.cells #[.int .i64 n, .int .i64 k, .slice A cut.length c, .int .i64 tag, .int .i64 t, .int .i64 p] 66)
  have hc0 := (Chg.refl No w).alloc (.cells #[.int .i64 n, .int .i64 k, .slice A cut.length c, .int .i64 tag, .int .i64 t, .int .i64 p] 66)
  have a0 := cell_obj (i := 0) o1 rfl
  have a1 := cell_obj (i := 1) o1 rfl
  have a2 := cell_obj (i := 2) o1 rfl
  have a3 := cell_obj (i := 3) o1 rfl
  have a4 := cell_obj (i := 4) o1 rfl
  have a5 := cell_obj (i := 5) o1 rfl
  unfold entV
  simp only
  by_cases h1 : n < 1
  · have Hr := Lib.hid (entR_n (k := k) (cut := cut) (tag := tag) (t := t) (p := p) (show ¬ (1 ≤ n ∧ n ≤ 1099511627776) by omega))
    go_enter Try.func73, Try.ntmps73
    go_wp2_with (with_reducible first | refine stop_append ?_ | refine stop_copy ?_ | refine stop_make ?_ | refine stop_lookup ?_ | refine stop_update ?_ | refine stop_slice ?_ | refine stop_range ?_ | refine stop_next ?_ | refine stop_convert ⟨_, rfl⟩ ?_ | refine stop_convertB ⟨_, _, _, rfl⟩ ?_ | refine stop_eqSlice ⟨_, _, rfl⟩ ?_)
    go_ret
    exact ⟨by rw [Hr.out]; rfl, hc0⟩
  by_cases h2 : 1099511627776 < n
  · have Hr := Lib.hid (entR_n (k := k) (cut := cut) (tag := tag) (t := t) (p := p) (show ¬ (1 ≤ n ∧ n ≤ 1099511627776) by omega))
    go_enter Try.func73, Try.ntmps73
    go_wp2_with (with_reducible first | refine stop_append ?_ | refine stop_copy ?_ | refine stop_make ?_ | refine stop_lookup ?_ | refine stop_update ?_ | refine stop_slice ?_ | refine stop_range ?_ | refine stop_next ?_ | refine stop_convert ⟨_, rfl⟩ ?_ | refine stop_convertB ⟨_, _, _, rfl⟩ ?_ | refine stop_eqSlice ⟨_, _, rfl⟩ ?_)
    go_ret
    exact ⟨by rw [Hr.out]; rfl, hc0⟩
  by_cases hk1 : k = 1
  · subst hk1
    have Hr := Lib.hid (entR_1 (cut := cut) (tag := tag) (t := t) (p := p) (show 1 ≤ n ∧ n ≤ 1099511627776 by omega))
    generalize entR (n, 1, cut, tag, t, p) = R at *
    generalize vright cut = b at *
    go_enter Try.func73, Try.ntmps73
    go_wp2_with (with_reducible first | refine stop_append ?_ | refine stop_copy ?_ | refine stop_make ?_ | refine stop_lookup ?_ | refine stop_update ?_ | refine stop_slice ?_ | refine stop_range ?_ | refine stop_next ?_ | refine stop_convert ⟨_, rfl⟩ ?_ | refine stop_convertB ⟨_, _, _, rfl⟩ ?_ | refine stop_eqSlice ⟨_, _, rfl⟩ ?_)
    generalize w.alloc (.cells #[.int .i64 n, .int .i64 1, .slice A cut.length c, .int .i64 tag, .int .i64 t, .int .i64 p] 66) = w0 at *
    refine (Hv.out _ hc0).mono ?_
    rintro e w1 ⟨rfl, hc1⟩
    have hcw := hc0.trans hc1
    replace a3 := hc1.cell a3 (not_no _)
    replace a4 := hc1.cell a4 (not_no _)
    replace a5 := hc1.cell a5 (not_no _)
    clear a0 a1 a2 o1
    rcases b with _ | _
    · go_wp2_with (with_reducible first | refine stop_append ?_ | refine stop_copy ?_ | refine stop_make ?_ | refine stop_lookup ?_ | refine stop_update ?_ | refine stop_slice ?_ | refine stop_range ?_ | refine stop_next ?_ | refine stop_convert ⟨_, rfl⟩ ?_ | refine stop_convertB ⟨_, _, _, rfl⟩ ?_ | refine stop_eqSlice ⟨_, _, rfl⟩ ?_)
      go_ret
      exact ⟨by rw [Hr.out]; rfl, hcw⟩
    by_cases t1 : tag = 0
    · subst t1
      by_cases t2 : t = 0
      · subst t2
        by_cases t3 : p = 0
        · subst t3
          go_wp2_with (with_reducible first | refine stop_append ?_ | refine stop_copy ?_ | refine stop_make ?_ | refine stop_lookup ?_ | refine stop_update ?_ | refine stop_slice ?_ | refine stop_range ?_ | refine stop_next ?_ | refine stop_convert ⟨_, rfl⟩ ?_ | refine stop_convertB ⟨_, _, _, rfl⟩ ?_ | refine stop_eqSlice ⟨_, _, rfl⟩ ?_)
          go_ret
          exact ⟨by rw [Hr.out]; rfl, hcw⟩
        · have e3 : (p == 0) = false := beq_false_of_ne t3
          have e4 := Lib.hid (decide_eq_false t3)
          clear t3
          go_wp2_with (with_reducible first | refine stop_append ?_ | refine stop_copy ?_ | refine stop_make ?_ | refine stop_lookup ?_ | refine stop_update ?_ | refine stop_slice ?_ | refine stop_range ?_ | refine stop_next ?_ | refine stop_convert ⟨_, rfl⟩ ?_ | refine stop_convertB ⟨_, _, _, rfl⟩ ?_ | refine stop_eqSlice ⟨_, _, rfl⟩ ?_)
          go_ret
          exact ⟨by rw [Hr.out, e4.out]; rfl, hcw⟩
      · have e3 : (t == 0) = false := beq_false_of_ne t2
        have e4 := Lib.hid (decide_eq_false t2)
        clear t2
        go_wp2_with (with_reducible first | refine stop_append ?_ | refine stop_copy ?_ | refine stop_make ?_ | refine stop_lookup ?_ | refine stop_update ?_ | refine stop_slice ?_ | refine stop_range ?_ | refine stop_next ?_ | refine stop_convert ⟨_, rfl⟩ ?_ | refine stop_convertB ⟨_, _, _, rfl⟩ ?_ | refine stop_eqSlice ⟨_, _, rfl⟩ ?_)
        go_ret
        exact ⟨by rw [Hr.out, e4.out]; rfl, hcw⟩
    · have e3 : (tag == 0) = false := beq_false_of_ne t1
      have e4 := Lib.hid (decide_eq_false t1)
      clear t1
      go_wp2_with (with_reducible first | refine stop_append ?_ | refine stop_copy ?_ | refine stop_make ?_ | refine stop_lookup ?_ | refine stop_update ?_ | refine stop_slice ?_ | refine stop_range ?_ | refine stop_next ?_ | refine stop_convert ⟨_, rfl⟩ ?_ | refine stop_convertB ⟨_, _, _, rfl⟩ ?_ | refine stop_eqSlice ⟨_, _, rfl⟩ ?_)
      go_ret
      exact ⟨by rw [Hr.out, e4.out]; rfl, hcw⟩
  have k1 : (k == 1) = false := beq_false_of_ne hk1
  by_cases hk2 : k = 2
  case neg =>
    have Hr := Lib.hid (entR_o (n := n) (cut := cut) (tag := tag) (t := t) (p := p) hk1 hk2)
    have k2 : (k == 2) = false := beq_false_of_ne hk2
    have k3 : (k != 2) = true := by simpa using hk2
    clear hk1 hk2
    go_enter Try.func73, Try.ntmps73
    go_wp2_with (with_reducible first | refine stop_append ?_ | refine stop_copy ?_ | refine stop_make ?_ | refine stop_lookup ?_ | refine stop_update ?_ | refine stop_slice ?_ | refine stop_range ?_ | refine stop_next ?_ | refine stop_convert ⟨_, rfl⟩ ?_ | refine stop_convertB ⟨_, _, _, rfl⟩ ?_ | refine stop_eqSlice ⟨_, _, rfl⟩ ?_)
    go_ret
    exact ⟨by rw [Hr.out]; rfl, hc0⟩
  subst hk2
  have Hr := Lib.hid (entR_2 (cut := cut) (tag := tag) (t := t) (p := p) (show 1 ≤ n ∧ n ≤ 1099511627776 by omega))
  clear k1 hk1
  generalize entR (n, 2, cut, tag, t, p) = R at *
  by_cases c1 : cut = []
  case neg =>
    have hr : R = false := by rw [Hr.out]; exact decide_eq_false (fun h => c1 (List.eq_nil_of_length_eq_zero h.1))
    have c2 : 0 < cut.length := List.length_pos_iff.2 c1
    have HR := Lib.hid hr
    clear c1 hr Hr Hv
    generalize cut.length = cl at *
    have c3 : ¬ cl = 0 := by omega
    have c4 : 0 < (cl : Int) := by omega
    go_enter Try.func73, Try.ntmps73
    go_wp2_with (with_reducible first | refine stop_append ?_ | refine stop_copy ?_ | refine stop_make ?_ | refine stop_lookup ?_ | refine stop_update ?_ | refine stop_slice ?_ | refine stop_range ?_ | refine stop_next ?_ | refine stop_convert ⟨_, rfl⟩ ?_ | refine stop_convertB ⟨_, _, _, rfl⟩ ?_ | refine stop_eqSlice ⟨_, _, rfl⟩ ?_)
    go_ret
    exact ⟨by rw [HR.out]; rfl, hc0⟩
  subst c1
  clear Hv hl
  simp only [List.length_nil] at *
  have hcase : (tag < 0 ∧ R = false) ∨ (¬ tag < 0 ∧ 1073741824 < tag ∧ R = false) ∨ (¬ tag < 0 ∧ ¬ 1073741824 < tag ∧ ¬ 1 ≤ t ∧ R = false) ∨
      (¬ tag < 0 ∧ ¬ 1073741824 < tag ∧ 1 ≤ t ∧ ¬ t ≤ 64 ∧ R = false) ∨ (¬ tag < 0 ∧ ¬ 1073741824 < tag ∧ 1 ≤ t ∧ t ≤ 64 ∧ ¬ 0 ≤ p ∧ R = false) ∨
      (¬ tag < 0 ∧ ¬ 1073741824 < tag ∧ 1 ≤ t ∧ t ≤ 64 ∧ 0 ≤ p ∧ ¬ p ≤ 1099511627776 ∧ R = false) ∨ (¬ tag < 0 ∧ ¬ 1073741824 < tag ∧ 1 ≤ t ∧ t ≤ 64 ∧ 0 ≤ p ∧ p ≤ 1099511627776 ∧ R = true) := by
    have no : ¬ ((0 ≤ tag ∧ tag ≤ 1073741824) ∧ (1 ≤ t ∧ t ≤ 64) ∧ (0 ≤ p ∧ p ≤ 1099511627776)) → R = false := fun h => by rw [Hr.out]; exact decide_eq_false (fun h' => h h'.2)
    by_cases c2 : tag < 0
    · exact .inl ⟨c2, no (fun h => by omega)⟩
    by_cases c3 : 1073741824 < tag
    · exact .inr (.inl ⟨c2, c3, no (fun h => by omega)⟩)
    by_cases c4 : 1 ≤ t
    case neg => exact .inr (.inr (.inl ⟨c2, c3, c4, no (fun h => by omega)⟩))
    by_cases c5 : t ≤ 64
    case neg => exact .inr (.inr (.inr (.inl ⟨c2, c3, c4, c5, no (fun h => by omega)⟩)))
    by_cases c6 : 0 ≤ p
    case neg => exact .inr (.inr (.inr (.inr (.inl ⟨c2, c3, c4, c5, c6, no (fun h => by omega)⟩))))
    by_cases c7 : p ≤ 1099511627776
    case neg => exact .inr (.inr (.inr (.inr (.inr (.inl ⟨c2, c3, c4, c5, c6, c7, no (fun h => by omega)⟩)))))
    exact .inr (.inr (.inr (.inr (.inr (.inr ⟨c2, c3, c4, c5, c6, c7, by rw [Hr.out]; exact decide_eq_true ⟨by first | rfl | trivial, ⟨by omega, by omega⟩, ⟨c4, c5⟩, ⟨c6, c7⟩⟩⟩)))))
  clear Hr
  rcases hcase with ⟨c2, hr⟩ | ⟨c2, c3, hr⟩ | ⟨c2, c3, c4, hr⟩ | ⟨c2, c3, c4, c5, hr⟩ | ⟨c2, c3, c4, c5, c6, hr⟩ | ⟨c2, c3, c4, c5, c6, c7, hr⟩ | ⟨c2, c3, c4, c5, c6, c7, hr⟩
  all_goals
    have Hr := Lib.hid hr
    clear hr
    go_enter Try.func73, Try.ntmps73
    go_wp2_with (with_reducible first | refine stop_append ?_ | refine stop_copy ?_ | refine stop_make ?_ | refine stop_lookup ?_ | refine stop_update ?_ | refine stop_slice ?_ | refine stop_range ?_ | refine stop_next ?_ | refine stop_convert ⟨_, rfl⟩ ?_ | refine stop_convertB ⟨_, _, _, rfl⟩ ?_ | refine stop_eqSlice ⟨_, _, rfl⟩ ?_)
    go_ret
    exact ⟨by rw [Hr.out]; rfl, hc0⟩
end Go.Proofs.Yticimjplegbagaa


/- Walks of the document's chapter 5: Follows, Chain. -/
set_option linter.unusedVariables false
set_option linter.unusedSimpArgs false
namespace Go.Proofs.Yticimjplegbagaa
open Go.RowKit Cb

/-- The last cut of a row. -/
def lastO (l : List Ent) : Option (List Int) := l.foldl (fun a e => if e.2.1 = 1 then some e.2.2.1 else a) none
theorem lastO_app (l : List Ent) (e : Ent) : lastO (l ++ [e]) = if e.2.1 = 1 then some e.2.2.1 else lastO l := by
  unfold lastO; rw [List.foldl_append]; rfl
theorem lastO_skip (l : List Ent) (j : Nat) (h : ∀ x ∈ l.drop j, x.2.1 ≠ 1) : lastO l = lastO (l.take j) := by
  have key : ∀ (r : List Ent) (a : Option (List Int)), (∀ x ∈ r, x.2.1 ≠ 1) → r.foldl (fun a e => if e.2.1 = 1 then some e.2.2.1 else a) a = a := by
    intro r
    induction r with
    | nil => intro a _; rfl
    | cons e r ih =>
      intro a h
      rw [List.foldl_cons, if_neg (h e (by simp))]
      exact ih a (fun x hx => h x (by simp [hx]))
  conv => lhs; rw [← List.take_append_drop j l]
  unfold lastO
  rw [List.foldl_append, key _ _ h]
theorem lastO_mem {l : List Ent} {c : List Int} (h : lastO l = some c) : ∃ e ∈ l, e.2.1 = 1 ∧ e.2.2.1 = c := by
  suffices ∀ (l : List Ent) (a : Option (List Int)), l.foldl (fun a e => if e.2.1 = 1 then some e.2.2.1 else a) a = some c → a = some c ∨ ∃ e ∈ l, e.2.1 = 1 ∧ e.2.2.1 = c by
    rcases this l none h with h | h
    · cases h
    · exact h
  intro l
  induction l with
  | nil => intro a h; exact .inl h
  | cons e r ih =>
    intro a h
    simp only [List.foldl_cons] at h
    rcases ih _ h with h | ⟨x, hx, h1⟩
    · split at h
      · next hk => cases h; exact .inr ⟨e, by simp, hk, rfl⟩
      · exact .inl h
    · exact .inr ⟨x, by simp [hx], h1⟩
def followsF (l : List Ent) (e : Ent) : Bool := entR e && (decide (e.1 = (l.length : Int) + 1) && (!decide (e.2.1 = 1) || match lastO l with | some c => coversB e.2.2.1 c | none => true))
/-- The last cut, or nothing. -/
def lastK (l : List Ent) (k : Nat) : List Int := (lastO (l.take k)).getD []
theorem lastK_step {l : List Ent} {k : Nat} (hk : k < l.length) : lastE (lastK l k) l[k] = lastK l (k + 1) := by
  unfold lastK lastE
  rw [List.take_succ_eq_append_getElem hk, lastO_app]
  split <;> simp
theorem follows_ok {l : List Ent} {k : Nat} (hk : k < l.length) (h : ∀ e ∈ l.take k, entR e = true) : okE k (lastK l k) l[k] = followsF (l.take k) l[k] := by
  have hl : (l.take k).length = k := by simp; omega
  unfold okE followsF lastK
  rw [hl]
  rcases e : lastO (l.take k) with _ | c
  · simp
  · obtain ⟨x, hx, h1, h2⟩ := lastO_mem e
    have hx := h x hx
    have : c.length ≠ 0 := by
      obtain ⟨n, kd, cut, r⟩ := x
      simp only at h1 h2
      subst h1 h2
      unfold entR at hx
      simp only [if_true, Bool.and_eq_true] at hx
      have := (vright_iff.1 hx.2.1).1
      omega
    simp [this]
theorem chain_start (l : List Ent) : chainF l 0 [] = chainF (l.drop 0) 0 (lastK l 0) := by simp [lastK, lastO]
end Go.Proofs.Yticimjplegbagaa


/- Walks of the document's chapter 5: Follows, Chain. -/
set_option linter.unusedVariables false
set_option linter.unusedSimpArgs false
namespace Go.Proofs.Yticimjplegbagaa
open Go.RowKit Cb

theorem info_dent : Info Try.prog 66 (.agg #[.int .i64 0, .int .i64 0, .slice none 0 0, .int .i64 0, .int .i64 0, .int .i64 0]) 6 64 := by unfold Info; kernel_rfl
set_option maxRecDepth 100000 in
set_option maxHeartbeats 4000000 in
theorem dfollows_any (F G : Nat → Prop) (v u : Value) (l : List Ent) (e : Ent) (w : World) (hs : Sl F w v l) (he : Sl G w u e.2.2.1) (hl : l.length ≤ 2199023255488) (hcb : ∀ e ∈ l, e.2.2.1.length ≤ 17592186043904) (hel : e.2.2.1.length ≤ 17592186043904) :
    Calls Try.prog 55 #[v, entV e u] w fun x w' => x = .returned (.bool (followsF l e)) ∧ Chg No w w' := by
  have Hr := Lib.hid (fun W (hW : Chg No w W) => dright_any G e u W (he.keepNo hW) (by omega))
  have Hs := Lib.hid (fun W (hW : Chg No w W) => hs.keepNo hW)
  have Hcov := Lib.hid (fun i (hi : i < l.length) x W (hW : Chg No w W) (hx : Sl F W x l[i].2.2.1) => rcovers_any G F u x e.2.2.1 l[i].2.2.1 W (he.keepNo hW) hx (by omega) (by have := hcb _ (List.getElem_mem hi); omega))
  have hF : followsF l e = (entR e && (decide (e.1 = (l.length : Int) + 1) && (!decide (e.2.1 = 1) || match lastO l with | some c => coversB e.2.2.1 c | none => true))) := rfl
  obtain ⟨A, c, rfl⟩ := hs.slice
  obtain ⟨B, d, rfl⟩ := he.slice
  clear hs he hcb
  generalize followsF l e = R at *
  generalize entR e = er at *
  obtain ⟨n, k, cut, tag, t, p⟩ := e
  simp only at hF Hcov hel Hr
  unfold entV at *
  simp only at Hr ⊢
  have HF := Lib.hid hF
  clear hF
  have o1 := alloc_obj w (.cells #[.int .i64 n, .int .i64 k, .slice B cut.length d, .int .i64 tag, .int .i64 t, .int .i64 p] 66)
  have hc0 := (Chg.refl No w).alloc (.cells #[.int .i64 n, .int .i64 k, .slice B cut.length d, .int .i64 tag, .int .i64 t, .int .i64 p] 66)
  have a0 := cell_obj (i := 0) o1 rfl
  have a1 := cell_obj (i := 1) o1 rfl
  have a2 := cell_obj (i := 2) o1 rfl
  have a3 := cell_obj (i := 3) o1 rfl
  have a4 := cell_obj (i := 4) o1 rfl
  have a5 := cell_obj (i := 5) o1 rfl
  go_enter Try.func55, Try.ntmps55
  go_wp2_with (with_reducible first | refine stop_append ?_ | refine stop_copy ?_ | refine stop_make ?_ | refine stop_lookup ?_ | refine stop_update ?_ | refine stop_slice ?_ | refine stop_range ?_ | refine stop_next ?_ | refine stop_convert ⟨_, rfl⟩ ?_ | refine stop_convertB ⟨_, _, _, rfl⟩ ?_ | refine stop_eqSlice ⟨_, _, rfl⟩ ?_)
  generalize w.alloc (.cells #[.int .i64 n, .int .i64 k, .slice B cut.length d, .int .i64 tag, .int .i64 t, .int .i64 p] 66) = w0 at *
  generalize w.heap.size = b0 at *
  refine (Hr.out _ hc0).mono ?_
  rintro x w1 ⟨rfl, hc1⟩
  have hcw := hc0.trans hc1
  replace a0 := hc1.cell a0 (not_no _)
  replace a1 := hc1.cell a1 (not_no _)
  replace a2 := hc1.cell a2 (not_no _)
  clear a3 a4 a5 o1 Hr
  rcases er with _ | _
  · go_wp2_with (with_reducible first | refine stop_append ?_ | refine stop_copy ?_ | refine stop_make ?_ | refine stop_lookup ?_ | refine stop_update ?_ | refine stop_slice ?_ | refine stop_range ?_ | refine stop_next ?_ | refine stop_convert ⟨_, rfl⟩ ?_ | refine stop_convertB ⟨_, _, _, rfl⟩ ?_ | refine stop_eqSlice ⟨_, _, rfl⟩ ?_)
    go_ret
    exact ⟨by rw [HF.out]; rfl, hcw⟩
  by_cases hn : n = (l.length : Int) + 1
  case neg =>
    have k2 : (n == (l.length : Int) + 1) = false := beq_false_of_ne hn
    have e4 := Lib.hid (decide_eq_false hn)
    clear hn
    go_wp2_with (with_reducible first | refine stop_append ?_ | refine stop_copy ?_ | refine stop_make ?_ | refine stop_lookup ?_ | refine stop_update ?_ | refine stop_slice ?_ | refine stop_range ?_ | refine stop_next ?_ | refine stop_convert ⟨_, rfl⟩ ?_ | refine stop_convertB ⟨_, _, _, rfl⟩ ?_ | refine stop_eqSlice ⟨_, _, rfl⟩ ?_)
    go_ret
    exact ⟨by rw [HF.out, e4.out]; rfl, hcw⟩
  have Hn := Lib.hid hn
  subst hn
  have HF2 := Lib.hid (show R = (!decide (k = 1) || match lastO l with | some c => coversB cut c | none => true) by rw [HF.out, decide_eq_true rfl]; rfl)
  clear HF Hn
  by_cases hk : k = 1
  case neg =>
    have k1 : (k == 1) = false := beq_false_of_ne hk
    have e4 := Lib.hid (decide_eq_false hk)
    clear hk
    go_wp2_with (with_reducible first | refine stop_append ?_ | refine stop_copy ?_ | refine stop_make ?_ | refine stop_lookup ?_ | refine stop_update ?_ | refine stop_slice ?_ | refine stop_range ?_ | refine stop_next ?_ | refine stop_convert ⟨_, rfl⟩ ?_ | refine stop_convertB ⟨_, _, _, rfl⟩ ?_ | refine stop_eqSlice ⟨_, _, rfl⟩ ?_)
    go_loopw [5] (fun v5 wr => v5 = .int .i64 ((l.length : Int) - 1) ∧ wr = w1) (fun _ _ => 0)
    case atStart => exact ⟨rfl, rfl⟩
    case round =>
      obtain ⟨rfl, rfl⟩ := hrel
      by_cases h0 : 0 ≤ (l.length : Int) - 1
      · go_wp2_with (with_reducible first | refine stop_append ?_ | refine stop_copy ?_ | refine stop_make ?_ | refine stop_lookup ?_ | refine stop_update ?_ | refine stop_slice ?_ | refine stop_range ?_ | refine stop_next ?_ | refine stop_convert ⟨_, rfl⟩ ?_ | refine stop_convertB ⟨_, _, _, rfl⟩ ?_ | refine stop_eqSlice ⟨_, _, rfl⟩ ?_)
        go_ret
        exact ⟨by rw [HF2.out, e4.out]; rfl, hcw⟩
      · go_wp2_with (with_reducible first | refine stop_append ?_ | refine stop_copy ?_ | refine stop_make ?_ | refine stop_lookup ?_ | refine stop_update ?_ | refine stop_slice ?_ | refine stop_range ?_ | refine stop_next ?_ | refine stop_convert ⟨_, rfl⟩ ?_ | refine stop_convertB ⟨_, _, _, rfl⟩ ?_ | refine stop_eqSlice ⟨_, _, rfl⟩ ?_)
        go_ret
        exact ⟨by rw [HF2.out, e4.out]; rfl, hcw⟩
  subst hk
  have HF3 := Lib.hid (show R = (match lastO l with | some c => coversB cut c | none => true) by rw [HF2.out, decide_eq_true rfl]; rfl)
  clear HF2
  go_wp2_with (with_reducible first | refine stop_append ?_ | refine stop_copy ?_ | refine stop_make ?_ | refine stop_lookup ?_ | refine stop_update ?_ | refine stop_slice ?_ | refine stop_range ?_ | refine stop_next ?_ | refine stop_convert ⟨_, rfl⟩ ?_ | refine stop_convertB ⟨_, _, _, rfl⟩ ?_ | refine stop_eqSlice ⟨_, _, rfl⟩ ?_)
  go_loopw [5] (fun v5 wr => ∃ (j : Nat) (z : Int), j ≤ l.length ∧ z = (j : Int) - 1 ∧ v5 = .int .i64 z ∧ Chg No w1 wr ∧ ∀ x ∈ l.drop j, x.2.1 ≠ 1) (fun v5 _ => (intOf v5 + 1).toNat)
  case atStart => exact ⟨l.length, _, by omega, rfl, rfl, Chg.refl _ _, by simp⟩
  case round =>
    obtain ⟨j, z, hj, hz, rfl, hc, hall⟩ := hrel
    have Hall := Lib.hid hall
    have hcr := hcw.trans hc
    clear hall
    rcases j with _ | i
    · obtain rfl : z = -1 := by omega
      clear hz
      have Hfin := Lib.hid (show R = true by rw [HF3.out, lastO_skip l 0 Hall.out]; rfl)
      go_wp2_with (with_reducible first | refine stop_append ?_ | refine stop_copy ?_ | refine stop_make ?_ | refine stop_lookup ?_ | refine stop_update ?_ | refine stop_slice ?_ | refine stop_range ?_ | refine stop_next ?_ | refine stop_convert ⟨_, rfl⟩ ?_ | refine stop_convertB ⟨_, _, _, rfl⟩ ?_ | refine stop_eqSlice ⟨_, _, rfl⟩ ?_)
      go_ret
      exact ⟨by rw [Hfin.out]; rfl, hcr⟩
    · obtain rfl : z = (i : Int) := by omega
      clear hz
      have hlt : i < l.length := by omega
      obtain ⟨b, o, vc, rfl, -, hbl, sc, e0, e1, e2, -, -, -⟩ := ent_get (Hs.out wr hcr) i hlt
      have Hc := Lib.hid (fun W (hW : Chg No wr W) => Hcov.out i hlt vc W (hcr.trans hW) (sc.keepNo hW))
      have Hdr := Lib.hid (List.drop_eq_getElem_cons hlt)
      have Htk := Lib.hid (List.take_succ_eq_append_getElem hlt)
      generalize l[i] = y at *
      obtain ⟨yn, yk, yc, yr⟩ := y
      simp only at e0 e1 e2 sc Hc
      obtain ⟨C, cc, rfl⟩ := sc.slice
      replace a2 := hc.cell a2 (not_no _)
      replace a1 := hc.cell a1 (not_no _)
      clear sc a0
      by_cases hy : yk = 1
      · subst hy
        have Hfin := Lib.hid (show R = coversB cut yc by rw [HF3.out, lastO_skip l (i + 1) Hall.out, Htk.out, lastO_app, if_pos rfl])
        generalize coversB cut yc = cv at *
        have cd := (Chg.refl No wr).drew
        go_wp2_with (with_reducible first | refine stop_append ?_ | refine stop_copy ?_ | refine stop_make ?_ | refine stop_lookup ?_ | refine stop_update ?_ | refine stop_slice ?_ | refine stop_range ?_ | refine stop_next ?_ | refine stop_convert ⟨_, rfl⟩ ?_ | refine stop_convertB ⟨_, _, _, rfl⟩ ?_ | refine stop_eqSlice ⟨_, _, rfl⟩ ?_)
        refine pl_start (fun W => W.cell? ⟨b0, 2, none⟩ = some (.slice B cut.length d) ∧ W.cell? ⟨b, o + i * 6 + 2, none⟩ = some (.slice C yc.length cc) ∧ Chg No wr W) (by kernel_rfl) (by kernel_rfl) ⟨cd.cell a2 (not_no _), cd.cell e2 (not_no _), cd⟩ ?_
        iterate 7 ((refine pl_nx [] (v := ?_) rfl (by kernel_rfl) rfl ?_ ?_; rotate_left; focus (intro W hW; (try dsimp only at hW); go_split_ands; go_simp; (try (simp (disch := omega) only [IntWalk.i64_in]; (try go_simp))); (try (split; (next => omega); (try go_simp))); try rfl; done)); try simp only [Act.put, List.setIfInBounds_toArray, List.set_cons_zero, List.set_cons_succ, Nat.reduceAdd])
        refine pl_callx 7 (.bool cv) rfl (by kernel_rfl) rfl (by exact (fun W hW => (Hc.out W hW.2.2).mono fun e w' h => ⟨h.1, h.2.cell hW.1 (not_no _), h.2.cell hW.2.1 (not_no _), hW.2.2.trans h.2⟩)) (fun W => by kernel_rfl) ?_
        try simp only [Act.put, List.setIfInBounds_toArray, List.set_cons_zero, List.set_cons_succ, Nat.reduceAdd]
        ((refine pl_nx [] (v := ?_) rfl (by kernel_rfl) rfl ?_ ?_; rotate_left; focus (intro W hW; (try dsimp only at hW); go_split_ands; go_simp; (try (simp (disch := omega) only [IntWalk.i64_in]; (try go_simp))); (try (split; (next => omega); (try go_simp))); try rfl; done)); try simp only [Act.put, List.setIfInBounds_toArray, List.set_cons_zero, List.set_cons_succ, Nat.reduceAdd])
        refine pl_done (by kernel_rfl)  ?_
        rintro w4 ⟨-, -, hc4⟩
        go_wp2_with (with_reducible first | refine stop_append ?_ | refine stop_copy ?_ | refine stop_make ?_ | refine stop_lookup ?_ | refine stop_update ?_ | refine stop_slice ?_ | refine stop_range ?_ | refine stop_next ?_ | refine stop_convert ⟨_, rfl⟩ ?_ | refine stop_convertB ⟨_, _, _, rfl⟩ ?_ | refine stop_eqSlice ⟨_, _, rfl⟩ ?_)
        go_ret
        exact ⟨by rw [Hfin.out]; rfl, hcr.trans hc4⟩
      · have k1 : (yk == 1) = false := beq_false_of_ne hy
        have Hy := Lib.hid hy
        clear hy
        go_wp2_with (with_reducible first | refine stop_append ?_ | refine stop_copy ?_ | refine stop_make ?_ | refine stop_lookup ?_ | refine stop_update ?_ | refine stop_slice ?_ | refine stop_range ?_ | refine stop_next ?_ | refine stop_convert ⟨_, rfl⟩ ?_ | refine stop_convertB ⟨_, _, _, rfl⟩ ?_ | refine stop_eqSlice ⟨_, _, rfl⟩ ?_)
        go_roundw
        case rel => exact ⟨i, _, by omega, rfl, by first | rfl | trivial, hc, by
          rw [Hdr.out]
          intro x hx
          rcases List.mem_cons.1 hx with rfl | hx
          · exact Hy.out
          · exact Hall.out x hx⟩
        case measure => first | (simp [intOf]; done) | (simp [intOf]; omega)
set_option maxRecDepth 100000 in
set_option maxHeartbeats 4000000 in
theorem dchain_any (F : Nat → Prop) (v : Value) (l : List Ent) (w : World) (hs : Sl F w v l) (hl : l.length ≤ 2199023255488) (hcb : ∀ e ∈ l, e.2.2.1.length ≤ 17592186043904) :
    Calls Try.prog 34 #[v] w fun e w' => e = .returned (.int .i64 ((chainF l 0 []).1 : Nat)) ∧ Chg No w w' := by
  have Hs := Lib.hid (fun W (hW : Chg No w W) => hs.keepNo hW)
  have Hcb := Lib.hid hcb
  obtain ⟨A, c, rfl⟩ := hs.slice
  clear hs hcb
  obtain ⟨M, hM⟩ : ∃ M, M = (chainF l 0 []).1 := ⟨_, rfl⟩
  rw [← hM]
  have HM := Lib.hid hM
  clear hM
  go_enter Try.func34, Try.ntmps34
  go_wp2_with (with_reducible first | refine stop_append ?_ | refine stop_copy ?_ | refine stop_make ?_ | refine stop_lookup ?_ | refine stop_update ?_ | refine stop_slice ?_ | refine stop_range ?_ | refine stop_next ?_ | refine stop_convert ⟨_, rfl⟩ ?_ | refine stop_convertB ⟨_, _, _, rfl⟩ ?_ | refine stop_eqSlice ⟨_, _, rfl⟩ ?_)
  go_loopw [3] (fun v3 wr => ∃ k : Nat, k ≤ l.length ∧ v3 = .int .i64 k ∧ Chg No w wr ∧ M = (chainF (l.drop k) k (lastK l k)).1 ∧ ∀ e ∈ l.take k, entR e = true) (fun v3 _ => l.length - (intOf v3).toNat)
  case atStart => exact ⟨0, by omega, rfl, Chg.refl _ _, by rw [HM.out, chain_start], by simp⟩
  case round =>
    obtain ⟨k, hk, rfl, hc, hch, hall⟩ := hrel
    have Hch := Lib.hid hch
    have Hall := Lib.hid hall
    have cd := (Chg.refl No wr).drew
    clear hch hall
    by_cases hlt : k < l.length
    · obtain ⟨b, o, vc, rfl, -, hbl, sc, e0, e1, e2, e3, e4, e5⟩ := ent_get (Hs.out wr hc) k hlt
      have Hfo := Lib.hid (fun W (hW : Chg No wr W) => dfollows_any F F (.slice (some ⟨b, o, none⟩) k c) vc (l.take k) l[k] W (take_sl (Hs.out W (hc.trans hW)) k (by omega)) (sc.keepNo hW) (by simp; omega) (fun e he => Hcb.out e (List.mem_of_mem_take he)) (Hcb.out _ (List.getElem_mem hlt)))
      have Hyes := Lib.hid (fun h : okE k (lastK l k) l[k] = true => show M = (chainF (l.drop (k + 1)) (k + 1) (lastK l (k + 1))).1 ∧ ∀ e ∈ l.take (k + 1), entR e = true from ⟨by rw [Hch.out, chain_yes hlt h, lastK_step hlt], by
        rw [List.take_succ_eq_append_getElem hlt]
        intro x hx
        rcases List.mem_append.1 hx with hx | hx
        · exact Hall.out x hx
        · rw [List.mem_singleton.1 hx]
          unfold okE at h
          rw [Bool.and_eq_true] at h
          exact h.1⟩)
      have Hnot := Lib.hid (fun h : okE k (lastK l k) l[k] = false => show M = k by rw [Hch.out, chain_no hlt h])
      rw [follows_ok hlt Hall.out] at Hyes Hnot
      generalize followsF (l.take k) l[k] = fo at *
      generalize l[k] = y at *
      obtain ⟨y0, y1, y2, y3, y4, y5⟩ := y
      unfold entV at Hfo
      simp only at sc e0 e1 e2 e3 e4 e5 Hfo
      obtain ⟨C, cc, rfl⟩ := sc.slice
      clear sc
      go_wp2_with (with_reducible first | refine stop_append ?_ | refine stop_copy ?_ | refine stop_make ?_ | refine stop_lookup ?_ | refine stop_update ?_ | refine stop_slice ?_ | refine stop_range ?_ | refine stop_next ?_ | refine stop_convert ⟨_, rfl⟩ ?_ | refine stop_convertB ⟨_, _, _, rfl⟩ ?_ | refine stop_eqSlice ⟨_, _, rfl⟩ ?_)
      have HS := Lib.hid (show ∀ W : World, Chg No wr W → (fun W => (W.cell? ⟨b, o + k * 6, none⟩ = some (.int .i64 y0) ∧ W.cell? ⟨b, o + k * 6 + 1, none⟩ = some (.int .i64 y1) ∧ W.cell? ⟨b, o + k * 6 + 2, none⟩ = some (.slice C y2.length cc)) ∧ (W.cell? ⟨b, o + k * 6 + 3, none⟩ = some (.int .i64 y3) ∧ W.cell? ⟨b, o + k * 6 + 4, none⟩ = some (.int .i64 y4) ∧ W.cell? ⟨b, o + k * 6 + 5, none⟩ = some (.int .i64 y5)) ∧ Chg No wr W) W from fun W hW => ⟨⟨hW.cell e0 (not_no _), hW.cell e1 (not_no _), hW.cell e2 (not_no _)⟩, ⟨hW.cell e3 (not_no _), hW.cell e4 (not_no _), hW.cell e5 (not_no _)⟩, hW⟩)
      refine pl_start (fun W => (W.cell? ⟨b, o + k * 6, none⟩ = some (.int .i64 y0) ∧ W.cell? ⟨b, o + k * 6 + 1, none⟩ = some (.int .i64 y1) ∧ W.cell? ⟨b, o + k * 6 + 2, none⟩ = some (.slice C y2.length cc)) ∧ (W.cell? ⟨b, o + k * 6 + 3, none⟩ = some (.int .i64 y3) ∧ W.cell? ⟨b, o + k * 6 + 4, none⟩ = some (.int .i64 y4) ∧ W.cell? ⟨b, o + k * 6 + 5, none⟩ = some (.int .i64 y5)) ∧ Chg No wr W) (by kernel_rfl) (by kernel_rfl) (HS.out _ cd) ?_
      iterate 5 ((refine pl_nx [7] (v := ?_) rfl (by kernel_rfl) rfl ?_ ?_; rotate_left; focus (intro W hW; (try dsimp only at hW); go_split_ands; go_simp; (try (simp (disch := omega) only [IntWalk.i64_in]; (try go_simp))); (try (split; (next => omega); (try go_simp))); try rfl; done)); try simp only [Act.put, List.setIfInBounds_toArray, List.set_cons_zero, List.set_cons_succ, Nat.reduceAdd])
      iterate 6 ((first | (refine pl_nn [7] rfl (by kernel_rfl) rfl ?_) | (refine pl_nx [7] (v := ?_) rfl (by kernel_rfl) rfl ?_ ?_; rotate_left; focus (intro W hW; (try dsimp only at hW); go_split_ands; go_simp; (try (simp (disch := omega) only [IntWalk.i64_in]; (try go_simp))); (try (split; (next => omega); (try go_simp))); try rfl; done))); try simp only [Act.put, List.setIfInBounds_toArray, List.set_cons_zero, List.set_cons_succ, Nat.reduceAdd])
      refine pl_yesx 7 (.slice (some ⟨b, o, none⟩) k c) rfl (by kernel_rfl) rfl (by exact (fun W hW => take_run (α := Ent) Try.underlying27 info_dent (Hs.out W (hc.trans hW.2.2)) rfl (kd := .i64) rfl (by omega))) ?_
      try simp only [Act.put, List.setIfInBounds_toArray, List.set_cons_zero, List.set_cons_succ, Nat.reduceAdd]
      refine pl_callx 12 (.bool fo) rfl (by kernel_rfl) rfl (by exact (fun W hW => (Hfo.out W hW.2.2).mono fun e w' h => ⟨h.1, HS.out _ (hW.2.2.trans h.2)⟩)) (fun W => by kernel_rfl) ?_
      try simp only [Act.put, List.setIfInBounds_toArray, List.set_cons_zero, List.set_cons_succ, Nat.reduceAdd]
      ((refine pl_nx [] (v := ?_) rfl (by kernel_rfl) rfl ?_ ?_; rotate_left; focus (intro W hW; (try dsimp only at hW); go_split_ands; go_simp; (try (simp (disch := omega) only [IntWalk.i64_in]; (try go_simp))); (try (split; (next => omega); (try go_simp))); try rfl; done)); try simp only [Act.put, List.setIfInBounds_toArray, List.set_cons_zero, List.set_cons_succ, Nat.reduceAdd])
      refine pl_done (by kernel_rfl)  ?_
      rintro w4 ⟨-, -, hc4⟩
      have hcw4 := hc.trans hc4
      clear e0 e1 e2 e3 e4 e5
      rcases fo with _ | _
      · have Hr := Lib.hid (Hnot.out rfl)
        go_wp2_with (with_reducible first | refine stop_append ?_ | refine stop_copy ?_ | refine stop_make ?_ | refine stop_lookup ?_ | refine stop_update ?_ | refine stop_slice ?_ | refine stop_range ?_ | refine stop_next ?_ | refine stop_convert ⟨_, rfl⟩ ?_ | refine stop_convertB ⟨_, _, _, rfl⟩ ?_ | refine stop_eqSlice ⟨_, _, rfl⟩ ?_)
        go_ret
        exact ⟨by rw [Hr.out]; rfl, hcw4⟩
      · obtain ⟨g1, g2⟩ := Hyes.out rfl
        have G1 := Lib.hid g1
        have G2 := Lib.hid g2
        clear g1 g2
        go_wp2_with (with_reducible first | refine stop_append ?_ | refine stop_copy ?_ | refine stop_make ?_ | refine stop_lookup ?_ | refine stop_update ?_ | refine stop_slice ?_ | refine stop_range ?_ | refine stop_next ?_ | refine stop_convert ⟨_, rfl⟩ ?_ | refine stop_convertB ⟨_, _, _, rfl⟩ ?_ | refine stop_eqSlice ⟨_, _, rfl⟩ ?_)
        go_roundw
        case rel => exact ⟨k + 1, by omega, by go_num, hcw4, G1.out, G2.out⟩
        case measure => simp [intOf]; omega
    · obtain rfl : k = l.length := by omega
      have Hr := Lib.hid (show M = l.length by rw [Hch.out, List.drop_length]; rfl)
      go_wp2_with (with_reducible first | refine stop_append ?_ | refine stop_copy ?_ | refine stop_make ?_ | refine stop_lookup ?_ | refine stop_update ?_ | refine stop_slice ?_ | refine stop_range ?_ | refine stop_next ?_ | refine stop_convert ⟨_, rfl⟩ ?_ | refine stop_convertB ⟨_, _, _, rfl⟩ ?_ | refine stop_eqSlice ⟨_, _, rfl⟩ ?_)
      refine pl_start (fun W => Chg No wr W) (by kernel_rfl) (by kernel_rfl) cd ?_
      iterate 5 ((refine pl_nx [] (v := ?_) rfl (by kernel_rfl) rfl ?_ ?_; rotate_left; focus (intro W hW; (try dsimp only at hW); go_split_ands; go_simp; (try (simp (disch := omega) only [IntWalk.i64_in]; (try go_simp))); (try (split; (next => omega); (try go_simp))); try rfl; done)); try simp only [Act.put, List.setIfInBounds_toArray, List.set_cons_zero, List.set_cons_succ, Nat.reduceAdd])
      iterate 7 ((first | (refine pl_nn [] rfl (by kernel_rfl) rfl ?_) | (refine pl_nx [] (v := ?_) rfl (by kernel_rfl) rfl ?_ ?_; rotate_left; focus (intro W hW; (try dsimp only at hW); go_split_ands; go_simp; (try (simp (disch := omega) only [IntWalk.i64_in]; (try go_simp))); (try (split; (next => omega); (try go_simp))); try rfl; done))); try simp only [Act.put, List.setIfInBounds_toArray, List.set_cons_zero, List.set_cons_succ, Nat.reduceAdd])
      refine pl_nox 12 (by kernel_rfl) rfl rfl ?_
      try simp only [Act.put, List.setIfInBounds_toArray, List.set_cons_zero, List.set_cons_succ, Nat.reduceAdd]
      ((refine pl_nx [] (v := ?_) rfl (by kernel_rfl) rfl ?_ ?_; rotate_left; focus (intro W hW; (try dsimp only at hW); go_split_ands; go_simp; (try (simp (disch := omega) only [IntWalk.i64_in]; (try go_simp))); (try (split; (next => omega); (try go_simp))); try rfl; done)); try simp only [Act.put, List.setIfInBounds_toArray, List.set_cons_zero, List.set_cons_succ, Nat.reduceAdd])
      refine pl_done (by kernel_rfl)  ?_
      rintro w4 hc4
      go_wp2_with (with_reducible first | refine stop_append ?_ | refine stop_copy ?_ | refine stop_make ?_ | refine stop_lookup ?_ | refine stop_update ?_ | refine stop_slice ?_ | refine stop_range ?_ | refine stop_next ?_ | refine stop_convert ⟨_, rfl⟩ ?_ | refine stop_convertB ⟨_, _, _, rfl⟩ ?_ | refine stop_eqSlice ⟨_, _, rfl⟩ ?_)
      go_ret
      exact ⟨by rw [Hr.out]; rfl, hc.trans hc4⟩
end Go.Proofs.Yticimjplegbagaa


/- Walks of the document's chapter 5: Same. -/
set_option linter.unusedVariables false
set_option linter.unusedSimpArgs false
namespace Go.Proofs.Yticimjplegbagaa
open Go.RowKit Cb

set_option maxRecDepth 100000 in
set_option maxHeartbeats 4000000 in
theorem dsame_any (F G : Nat → Prop) (x y : Ent) (v u : Value) (w : World) (hx : Sl F w v x.2.2.1) (hy : Sl G w u y.2.2.1) (hl : x.2.2.1.length ≤ 17592186044416) (hl' : y.2.2.1.length ≤ 17592186044416) :
    Calls Try.prog 41 #[entV x v, entV y u] w fun e w' => e = .returned (.bool (decide (x = y))) ∧ Chg No w w' := by
  obtain ⟨n, k, cut, tag, t, p⟩ := x
  obtain ⟨n', k', cut', tag', t', p'⟩ := y
  simp only at hx hy hl hl'
  have He := Lib.hid (fun W (hW : Chg No w W) => requal_any F G v u cut cut' W (hx.keepNo hW) (hy.keepNo hW) hl hl')
  obtain ⟨A, c, rfl⟩ := hx.slice
  obtain ⟨B, d, rfl⟩ := hy.slice
  clear hx hy
  have hcA := (Chg.refl No w).alloc (.cells #[.int .i64 n, .int .i64 k, .slice A cut.length c, .int .i64 tag, .int .i64 t, .int .i64 p] 66)
  have hcB := (Chg.refl No (w.alloc (.cells #[.int .i64 n, .int .i64 k, .slice A cut.length c, .int .i64 tag, .int .i64 t, .int .i64 p] 66))).alloc (.cells #[.int .i64 n', .int .i64 k', .slice B cut'.length d, .int .i64 tag', .int .i64 t', .int .i64 p'] 66)
  have o1 := hcB.obj (alloc_obj w (.cells #[.int .i64 n, .int .i64 k, .slice A cut.length c, .int .i64 tag, .int .i64 t, .int .i64 p] 66)) (not_no _)
  have o2 := alloc_obj (w.alloc (.cells #[.int .i64 n, .int .i64 k, .slice A cut.length c, .int .i64 tag, .int .i64 t, .int .i64 p] 66)) (.cells #[.int .i64 n', .int .i64 k', .slice B cut'.length d, .int .i64 tag', .int .i64 t', .int .i64 p'] 66)
  have hz : (w.alloc (.cells #[.int .i64 n, .int .i64 k, .slice A cut.length c, .int .i64 tag, .int .i64 t, .int .i64 p] 66)).heap.size = w.heap.size + 1 := by simp
  rw [hz] at o2
  have hc0 := hcA.trans hcB
  have a0 := cell_obj (i := 0) o1 rfl
  have a1 := cell_obj (i := 1) o1 rfl
  have a2 := cell_obj (i := 2) o1 rfl
  have a3 := cell_obj (i := 3) o1 rfl
  have a4 := cell_obj (i := 4) o1 rfl
  have a5 := cell_obj (i := 5) o1 rfl
  have b0 := cell_obj (i := 0) o2 rfl
  have b1 := cell_obj (i := 1) o2 rfl
  have b2 := cell_obj (i := 2) o2 rfl
  have b3 := cell_obj (i := 3) o2 rfl
  have b4 := cell_obj (i := 4) o2 rfl
  have b5 := cell_obj (i := 5) o2 rfl
  clear hcA hcB hz o1 o2
  obtain ⟨R, hR⟩ : ∃ R, R = decide ((n, k, cut, tag, t, p) = (n', k', cut', tag', t', p')) := ⟨_, rfl⟩
  rw [← hR]
  have HR := Lib.hid hR
  clear hR
  unfold entV
  simp only
  by_cases k1 : n = n'
  case neg =>
    have Hr := Lib.hid (show R = false from by rw [HR.out]; exact decide_eq_false (fun h => k1 (congrArg (fun z => z.1) h)))
    have k2 : (n == n') = false := beq_false_of_ne k1
    clear k1 HR
    go_enter Try.func41, Try.ntmps41
    go_wp2_with (with_reducible first | refine stop_append ?_ | refine stop_copy ?_ | refine stop_make ?_ | refine stop_lookup ?_ | refine stop_update ?_ | refine stop_slice ?_ | refine stop_range ?_ | refine stop_next ?_ | refine stop_convert ⟨_, rfl⟩ ?_ | refine stop_convertB ⟨_, _, _, rfl⟩ ?_ | refine stop_eqSlice ⟨_, _, rfl⟩ ?_)
    go_ret
    exact ⟨by rw [Hr.out]; rfl, hc0⟩
  subst k1
  by_cases k1 : k = k'
  case neg =>
    have Hr := Lib.hid (show R = false from by rw [HR.out]; exact decide_eq_false (fun h => k1 (congrArg (fun z => z.2.1) h)))
    have k2 : (k == k') = false := beq_false_of_ne k1
    clear k1 HR
    go_enter Try.func41, Try.ntmps41
    go_wp2_with (with_reducible first | refine stop_append ?_ | refine stop_copy ?_ | refine stop_make ?_ | refine stop_lookup ?_ | refine stop_update ?_ | refine stop_slice ?_ | refine stop_range ?_ | refine stop_next ?_ | refine stop_convert ⟨_, rfl⟩ ?_ | refine stop_convertB ⟨_, _, _, rfl⟩ ?_ | refine stop_eqSlice ⟨_, _, rfl⟩ ?_)
    go_ret
    exact ⟨by rw [Hr.out]; rfl, hc0⟩
  subst k1
  by_cases k1 : tag = tag'
  case neg =>
    have Hr := Lib.hid (show R = false from by rw [HR.out]; exact decide_eq_false (fun h => k1 (congrArg (fun z => z.2.2.2.1) h)))
    have k2 : (tag == tag') = false := beq_false_of_ne k1
    clear k1 HR
    go_enter Try.func41, Try.ntmps41
    go_wp2_with (with_reducible first | refine stop_append ?_ | refine stop_copy ?_ | refine stop_make ?_ | refine stop_lookup ?_ | refine stop_update ?_ | refine stop_slice ?_ | refine stop_range ?_ | refine stop_next ?_ | refine stop_convert ⟨_, rfl⟩ ?_ | refine stop_convertB ⟨_, _, _, rfl⟩ ?_ | refine stop_eqSlice ⟨_, _, rfl⟩ ?_)
    go_ret
    exact ⟨by rw [Hr.out]; rfl, hc0⟩
  subst k1
  by_cases k1 : t = t'
  case neg =>
    have Hr := Lib.hid (show R = false from by rw [HR.out]; exact decide_eq_false (fun h => k1 (congrArg (fun z => z.2.2.2.2.1) h)))
    have k2 : (t == t') = false := beq_false_of_ne k1
    clear k1 HR
    go_enter Try.func41, Try.ntmps41
    go_wp2_with (with_reducible first | refine stop_append ?_ | refine stop_copy ?_ | refine stop_make ?_ | refine stop_lookup ?_ | refine stop_update ?_ | refine stop_slice ?_ | refine stop_range ?_ | refine stop_next ?_ | refine stop_convert ⟨_, rfl⟩ ?_ | refine stop_convertB ⟨_, _, _, rfl⟩ ?_ | refine stop_eqSlice ⟨_, _, rfl⟩ ?_)
    go_ret
    exact ⟨by rw [Hr.out]; rfl, hc0⟩
  subst k1
  by_cases k1 : p = p'
  case neg =>
    have Hr := Lib.hid (show R = false from by rw [HR.out]; exact decide_eq_false (fun h => k1 (congrArg (fun z => z.2.2.2.2.2) h)))
    have k2 : (p == p') = false := beq_false_of_ne k1
    clear k1 HR
    go_enter Try.func41, Try.ntmps41
    go_wp2_with (with_reducible first | refine stop_append ?_ | refine stop_copy ?_ | refine stop_make ?_ | refine stop_lookup ?_ | refine stop_update ?_ | refine stop_slice ?_ | refine stop_range ?_ | refine stop_next ?_ | refine stop_convert ⟨_, rfl⟩ ?_ | refine stop_convertB ⟨_, _, _, rfl⟩ ?_ | refine stop_eqSlice ⟨_, _, rfl⟩ ?_)
    go_ret
    exact ⟨by rw [Hr.out]; rfl, hc0⟩
  subst k1
  have Hr := Lib.hid (show R = decide (cut = cut') from by rw [HR.out]; simp)
  clear HR
  go_enter Try.func41, Try.ntmps41
  go_wp2_with (with_reducible first | refine stop_append ?_ | refine stop_copy ?_ | refine stop_make ?_ | refine stop_lookup ?_ | refine stop_update ?_ | refine stop_slice ?_ | refine stop_range ?_ | refine stop_next ?_ | refine stop_convert ⟨_, rfl⟩ ?_ | refine stop_convertB ⟨_, _, _, rfl⟩ ?_ | refine stop_eqSlice ⟨_, _, rfl⟩ ?_)
  refine (He.out _ hc0).mono ?_
  rintro e w1 ⟨rfl, hc1⟩
  go_wp2_with (with_reducible first | refine stop_append ?_ | refine stop_copy ?_ | refine stop_make ?_ | refine stop_lookup ?_ | refine stop_update ?_ | refine stop_slice ?_ | refine stop_range ?_ | refine stop_next ?_ | refine stop_convert ⟨_, rfl⟩ ?_ | refine stop_convertB ⟨_, _, _, rfl⟩ ?_ | refine stop_eqSlice ⟨_, _, rfl⟩ ?_)
  go_ret
  exact ⟨by rw [Hr.out]; rfl, hc0.trans hc1⟩
end Go.Proofs.Yticimjplegbagaa


/- Walks of the document's chapter 5: Last, SameAll. -/
set_option linter.unusedVariables false
set_option linter.unusedSimpArgs false
namespace Go.Proofs.Yticimjplegbagaa
open Go.RowKit Cb

set_option maxRecDepth 100000 in
set_option maxHeartbeats 4000000 in
theorem dsameall_any (F G : Nat → Prop) (v u : Value) (l r : List Ent) (w : World) (h : Sl F w v l) (h' : Sl G w u r) (hl : l.length ≤ 2199023255488) (hl' : r.length ≤ 2199023255488) (hb : ∀ e ∈ l, e.2.2.1.length ≤ 17592186043904) (hb' : ∀ e ∈ r, e.2.2.1.length ≤ 17592186043904) :
    Calls Try.prog 19 #[v, u] w fun e w' => e = .returned (.bool (decide (l = r))) ∧ Chg No w w' := by
  have Hs := Lib.hid (fun W (hW : Chg No w W) => h.keepNo hW)
  have Hs' := Lib.hid (fun W (hW : Chg No w W) => h'.keepNo hW)
  have Hb := Lib.hid hb
  have Hb' := Lib.hid hb'
  obtain ⟨A, c, rfl⟩ := h.slice
  obtain ⟨B, d, rfl⟩ := h'.slice
  clear h h' hb hb'
  obtain ⟨R, hR⟩ : ∃ R, R = decide (l = r) := ⟨_, rfl⟩
  rw [← hR]
  have HR := Lib.hid hR
  clear hR
  by_cases k4 : l.length = r.length
  case neg =>
    have Hr := Lib.hid (show R = false by rw [HR.out]; exact decide_eq_false (fun h => k4 (by rw [h])))
    have k2 : ((l.length : Int) == r.length) = false := beq_false_of_ne (by omega)
    have k5 : (l.length == r.length) = false := beq_false_of_ne k4
    clear k4
    go_enter Try.func19, Try.ntmps19
    go_wp2_with (with_reducible first | refine stop_append ?_ | refine stop_copy ?_ | refine stop_make ?_ | refine stop_lookup ?_ | refine stop_update ?_ | refine stop_slice ?_ | refine stop_range ?_ | refine stop_next ?_ | refine stop_convert ⟨_, rfl⟩ ?_ | refine stop_convertB ⟨_, _, _, rfl⟩ ?_ | refine stop_eqSlice ⟨_, _, rfl⟩ ?_)
    go_ret
    exact ⟨by rw [Hr.out]; rfl, Chg.refl _ _⟩
  have K4 := Lib.hid k4
  rw [← k4] at Hs' ⊢
  clear k4
  go_enter Try.func19, Try.ntmps19
  go_wp2_with (with_reducible first | refine stop_append ?_ | refine stop_copy ?_ | refine stop_make ?_ | refine stop_lookup ?_ | refine stop_update ?_ | refine stop_slice ?_ | refine stop_range ?_ | refine stop_next ?_ | refine stop_convert ⟨_, rfl⟩ ?_ | refine stop_convertB ⟨_, _, _, rfl⟩ ?_ | refine stop_eqSlice ⟨_, _, rfl⟩ ?_)
  go_loopw [5] (fun v5 wr => ∃ k : Nat, k ≤ l.length ∧ v5 = .int .i64 k ∧ Chg No w wr ∧ l.take k = r.take k) (fun v5 _ => l.length - (intOf v5).toNat)
  case atStart => exact ⟨0, by omega, rfl, Chg.refl _ _, by simp⟩
  case round =>
    obtain ⟨k, hk, rfl, hc, hall⟩ := hrel
    have Hall := Lib.hid hall
    clear hall
    by_cases hlt : k < l.length
    · have hlt' : k < r.length := by have := K4.out; omega
      obtain ⟨b, o, vc, rfl, -, hbl, sc, e0, e1, e2, e3, e4, e5⟩ := ent_get (Hs.out wr hc) k hlt
      obtain ⟨b', o', vc', rfl, -, hbl', sc', f0, f1, f2, f3, f4, f5⟩ := ent_get (Hs'.out wr hc) k hlt'
      have He := Lib.hid (fun W (hW : Chg No wr W) => dsame_any F G l[k] r[k] vc vc' W (sc.keepNo hW) (sc'.keepNo hW) (by have := Hb.out _ (List.getElem_mem hlt); omega) (by have := Hb'.out _ (List.getElem_mem hlt'); omega))
      have Htk := Lib.hid (show l[k] = r[k] → l.take (k + 1) = r.take (k + 1) from fun h => by rw [List.take_succ_eq_append_getElem hlt, List.take_succ_eq_append_getElem hlt', Hall.out, h])
      have Hbad := Lib.hid (show ¬ l[k] = r[k] → R = false from fun h => by rw [HR.out]; exact decide_eq_false (fun hh => h (by subst hh; rfl)))
      obtain ⟨eb, heb⟩ : ∃ b, b = decide (l[k] = r[k]) := ⟨_, rfl⟩
      rw [← heb] at He
      have Heb := Lib.hid heb
      clear heb
      generalize l[k] = x at *
      generalize r[k] = y at *
      obtain ⟨x0, x1, x2, x3, x4, x5⟩ := x
      obtain ⟨y0, y1, y2, y3, y4, y5⟩ := y
      unfold entV at He
      simp only at sc e0 e1 e2 e3 e4 e5 sc' f0 f1 f2 f3 f4 f5 He
      obtain ⟨C, cc, rfl⟩ := sc.slice
      obtain ⟨D, dd, rfl⟩ := sc'.slice
      clear sc sc'
      have cd := (Chg.refl No wr).drew
      go_wp2_with (with_reducible first | refine stop_append ?_ | refine stop_copy ?_ | refine stop_make ?_ | refine stop_lookup ?_ | refine stop_update ?_ | refine stop_slice ?_ | refine stop_range ?_ | refine stop_next ?_ | refine stop_convert ⟨_, rfl⟩ ?_ | refine stop_convertB ⟨_, _, _, rfl⟩ ?_ | refine stop_eqSlice ⟨_, _, rfl⟩ ?_)
      have HS := Lib.hid (show ∀ W : World, Chg No wr W → (fun W => ((W.cell? ⟨b, o + k * 6, none⟩ = some (.int .i64 x0) ∧ W.cell? ⟨b, o + k * 6 + 1, none⟩ = some (.int .i64 x1) ∧ W.cell? ⟨b, o + k * 6 + 2, none⟩ = some (.slice C x2.length cc)) ∧ (W.cell? ⟨b, o + k * 6 + 3, none⟩ = some (.int .i64 x3) ∧ W.cell? ⟨b, o + k * 6 + 4, none⟩ = some (.int .i64 x4) ∧ W.cell? ⟨b, o + k * 6 + 5, none⟩ = some (.int .i64 x5))) ∧ ((W.cell? ⟨b', o' + k * 6, none⟩ = some (.int .i64 y0) ∧ W.cell? ⟨b', o' + k * 6 + 1, none⟩ = some (.int .i64 y1) ∧ W.cell? ⟨b', o' + k * 6 + 2, none⟩ = some (.slice D y2.length dd)) ∧ (W.cell? ⟨b', o' + k * 6 + 3, none⟩ = some (.int .i64 y3) ∧ W.cell? ⟨b', o' + k * 6 + 4, none⟩ = some (.int .i64 y4) ∧ W.cell? ⟨b', o' + k * 6 + 5, none⟩ = some (.int .i64 y5))) ∧ Chg No wr W) W from fun W hW => ⟨⟨⟨hW.cell e0 (not_no _), hW.cell e1 (not_no _), hW.cell e2 (not_no _)⟩, ⟨hW.cell e3 (not_no _), hW.cell e4 (not_no _), hW.cell e5 (not_no _)⟩⟩, ⟨⟨hW.cell f0 (not_no _), hW.cell f1 (not_no _), hW.cell f2 (not_no _)⟩, ⟨hW.cell f3 (not_no _), hW.cell f4 (not_no _), hW.cell f5 (not_no _)⟩⟩, hW⟩)
      refine pl_start (fun W => ((W.cell? ⟨b, o + k * 6, none⟩ = some (.int .i64 x0) ∧ W.cell? ⟨b, o + k * 6 + 1, none⟩ = some (.int .i64 x1) ∧ W.cell? ⟨b, o + k * 6 + 2, none⟩ = some (.slice C x2.length cc)) ∧ (W.cell? ⟨b, o + k * 6 + 3, none⟩ = some (.int .i64 x3) ∧ W.cell? ⟨b, o + k * 6 + 4, none⟩ = some (.int .i64 x4) ∧ W.cell? ⟨b, o + k * 6 + 5, none⟩ = some (.int .i64 x5))) ∧ ((W.cell? ⟨b', o' + k * 6, none⟩ = some (.int .i64 y0) ∧ W.cell? ⟨b', o' + k * 6 + 1, none⟩ = some (.int .i64 y1) ∧ W.cell? ⟨b', o' + k * 6 + 2, none⟩ = some (.slice D y2.length dd)) ∧ (W.cell? ⟨b', o' + k * 6 + 3, none⟩ = some (.int .i64 y3) ∧ W.cell? ⟨b', o' + k * 6 + 4, none⟩ = some (.int .i64 y4) ∧ W.cell? ⟨b', o' + k * 6 + 5, none⟩ = some (.int .i64 y5))) ∧ Chg No wr W) (by kernel_rfl) (by kernel_rfl) (HS.out _ cd) ?_
      iterate 8 ((refine pl_nx [] (v := ?_) rfl (by kernel_rfl) rfl ?_ ?_; rotate_left; focus (intro W hW; (try dsimp only at hW); go_split_ands; go_simp; (try (simp (disch := omega) only [IntWalk.i64_in]; (try go_simp))); (try (split; (next => omega); (try go_simp))); try rfl; done)); try simp only [Act.put, List.setIfInBounds_toArray, List.set_cons_zero, List.set_cons_succ, Nat.reduceAdd])
      refine pl_callx 8 (.bool eb) rfl (by kernel_rfl) rfl (by exact (fun W hW => (He.out W hW.2.2).mono fun e w' h => ⟨h.1, HS.out _ (hW.2.2.trans h.2)⟩)) (fun W => by kernel_rfl) ?_
      try simp only [Act.put, List.setIfInBounds_toArray, List.set_cons_zero, List.set_cons_succ, Nat.reduceAdd]
      ((refine pl_nx [] (v := ?_) rfl (by kernel_rfl) rfl ?_ ?_; rotate_left; focus (intro W hW; (try dsimp only at hW); go_split_ands; go_simp; (try (simp (disch := omega) only [IntWalk.i64_in]; (try go_simp))); (try (split; (next => omega); (try go_simp))); try rfl; done)); try simp only [Act.put, List.setIfInBounds_toArray, List.set_cons_zero, List.set_cons_succ, Nat.reduceAdd])
      refine pl_done (by kernel_rfl)  ?_
      rintro w4 ⟨-, -, hc4⟩
      have hcw4 := hc.trans hc4
      clear e0 e1 e2 e3 e4 e5 f0 f1 f2 f3 f4 f5
      rcases eb with _ | _
      · have Hr := Lib.hid (Hbad.out (of_decide_eq_false Heb.out.symm))
        go_wp2_with (with_reducible first | refine stop_append ?_ | refine stop_copy ?_ | refine stop_make ?_ | refine stop_lookup ?_ | refine stop_update ?_ | refine stop_slice ?_ | refine stop_range ?_ | refine stop_next ?_ | refine stop_convert ⟨_, rfl⟩ ?_ | refine stop_convertB ⟨_, _, _, rfl⟩ ?_ | refine stop_eqSlice ⟨_, _, rfl⟩ ?_)
        go_ret
        exact ⟨by rw [Hr.out]; rfl, hcw4⟩
      · have Hg := Lib.hid (Htk.out (of_decide_eq_true Heb.out.symm))
        go_wp2_with (with_reducible first | refine stop_append ?_ | refine stop_copy ?_ | refine stop_make ?_ | refine stop_lookup ?_ | refine stop_update ?_ | refine stop_slice ?_ | refine stop_range ?_ | refine stop_next ?_ | refine stop_convert ⟨_, rfl⟩ ?_ | refine stop_convertB ⟨_, _, _, rfl⟩ ?_ | refine stop_eqSlice ⟨_, _, rfl⟩ ?_)
        go_roundw
        case rel => exact ⟨k + 1, by omega, by go_num, hcw4, Hg.out⟩
        case measure => simp [intOf]; omega
    · obtain rfl : k = l.length := by omega
      have Hr := Lib.hid (show R = true by
        rw [HR.out]
        have := Hall.out
        rw [List.take_length, K4.out, List.take_length] at this
        exact decide_eq_true this)
      clear K4
      go_wp2_with (with_reducible first | refine stop_append ?_ | refine stop_copy ?_ | refine stop_make ?_ | refine stop_lookup ?_ | refine stop_update ?_ | refine stop_slice ?_ | refine stop_range ?_ | refine stop_next ?_ | refine stop_convert ⟨_, rfl⟩ ?_ | refine stop_convertB ⟨_, _, _, rfl⟩ ?_ | refine stop_eqSlice ⟨_, _, rfl⟩ ?_)
      go_ret
      exact ⟨by rw [Hr.out]; rfl, hc⟩
end Go.Proofs.Yticimjplegbagaa


/- Sealers in plain words; two of them in memory; rows of entries, mine and the document's. -/
set_option linter.unusedVariables false
set_option linter.unusedSimpArgs false
namespace Cb
open Go Go.Deep
section
variable {P : Program}
end
end Cb
namespace Go.Proofs.Yticimjplegbagaa
open Go.RowKit Cb

theorem info_rent12 : Info Try.prog 66 (.agg #[.int .i64 0, .int .i64 0, .slice none 0 0, .int .i64 0, .int .i64 0, .int .i64 0]) 6 64 := by unfold Info; kernel_rfl
set_option maxRecDepth 100000 in
set_option maxHeartbeats 1000000 in
theorem entries12_any (v : Value) (l : List Ent) (w : World) (h : Sl No w v l) (hl : l.length * 64 ≤ 140737488355328) :
    Calls Try.prog 20 #[v] w fun e w' => ∃ v', e = .returned v' ∧ Chg No w w' ∧ Sl No w' v' l := by
  obtain ⟨A, c, rfl⟩ := h.slice
  have H := Lib.hid h
  clear h
  go_enter Try.func20, Try.ntmps20
  go_wp2_with (with_reducible first | refine stop_append ?_ | refine stop_copy ?_ | refine stop_make ?_ | refine stop_lookup ?_ | refine stop_update ?_ | refine stop_slice ?_ | refine stop_range ?_ | refine stop_next ?_ | refine stop_convert ⟨_, rfl⟩ ?_ | refine stop_convertB ⟨_, _, _, rfl⟩ ?_ | refine stop_eqSlice ⟨_, _, rfl⟩ ?_)
  go_loopw [3, 5, 8] (fun v3 _ v8 wr => ∃ k : Nat, k ≤ l.length ∧ v8 = .int .i64 k ∧ Chg No w wr ∧ Cb.Own No wr w.heap.size 66 v3 (l.take k)) (fun _ _ v8 _ => l.length - (intOf v8).toNat)
  case atStart => exact ⟨0, by omega, rfl, Chg.refl _ _, Cb.Own.nil _ _ _ _⟩
  case round =>
    obtain ⟨k, hk, rfl, hc1, hown⟩ := hrel
    by_cases hlt : k < l.length
    · have hgs : Sl (Ge w.heap.size) wr (.slice A l.length c) l := (Sl.up H.out (Nat.le_refl _)).keepNo hc1
      obtain ⟨b, o, vc, rfl, hnb, hbl, hsv, a0, a1, a2, a3, a4, a5⟩ := ent_get hgs k hlt
      have htk := List.take_succ_eq_append_getElem hlt
      clear hgs
      generalize l[k] = x at a0 a1 a2 a3 a4 a5 hsv htk
      have Hsv := Lib.hid hsv
      have Hcs := Lib.hid (ent_mk x hsv)
      obtain ⟨n, kd, cut, tag, t, u⟩ := x
      simp only [entC] at a0 a1 a2 a3 a4 a5 Hcs
      obtain ⟨Av, cv, rfl⟩ := hsv.slice
      have hlen : (l.take k).length = k := by simp; omega
      generalize l.take k = acc at hlen htk hown
      have Htk := Lib.hid htk
      have Hlen := Lib.hid hlen
      obtain ⟨A3, c3, rfl⟩ := hown.slice
      have Hown := Lib.hid hown
      clear hsv hown htk hlen
      go_wp2_with (with_reducible first | refine stop_append ?_ | refine stop_copy ?_ | refine stop_make ?_ | refine stop_lookup ?_ | refine stop_update ?_ | refine stop_slice ?_ | refine stop_range ?_ | refine stop_next ?_ | refine stop_convert ⟨_, rfl⟩ ?_ | refine stop_convertB ⟨_, _, _, rfl⟩ ?_ | refine stop_eqSlice ⟨_, _, rfl⟩ ?_)
      have hca := (Chg.refl No wr).alloc (.cells #[.int .i64 n, .int .i64 kd, .slice Av cut.length cv, .int .i64 tag, .int .i64 t, .int .i64 u] 76)
      have hcb := hca.alloc (.cells #[.int .i64 n, .int .i64 kd, .slice Av cut.length cv, .int .i64 tag, .int .i64 t, .int .i64 u] 66)
      generalize hw4 : wr.alloc (.cells #[.int .i64 n, .int .i64 kd, .slice Av cut.length cv, .int .i64 tag, .int .i64 t, .int .i64 u] 76) = w4 at hca hcb ⊢
      have e4 : w4.heap.size = wr.heap.size + 1 := by rw [← hw4]; simp
      rw [← e4]
      have hobl : ∀ i, OB (.slice A3 acc.length c3) i → w.heap.size ≤ i ∧ i < wr.heap.size := fun i hi => Hown.out.lt i hi
      have hlit : Sl (OB (.slice A3 acc.length c3)) (w4.alloc (.cells #[.int .i64 n, .int .i64 kd, .slice Av cut.length cv, .int .i64 tag, .int .i64 t, .int .i64 u] 66)) (.slice (some ⟨w4.heap.size, 0, none⟩) 1 1) [(n, kd, cut, tag, t, u)] :=
        Sl.lit1 rfl (Rep.weak (Rep.keep Hcs.out hca.of_no) (fun i _ hi => (hobl i hi).1)) (fun hi => by have := hobl _ hi; omega)
      refine step_append_sl (α := Ent) (F := No) (G := OB (.slice A3 acc.length c3)) Try.underlying27 info_rent12 rfl (Hown.out.keep hcb (fun _ _ f => f) (fun _ _ f => f)) rfl rfl hlit (fun i _ hi => hi.elim (fun f => f.elim) id) (by have := Hlen.out; simp; omega) (by have := Hlen.out; simp [ent_n]; omega) (by have := hc1.size; have := hcb.size; omega) ?_
      intro v6 w6 hown6 hg6
      rw [← Htk.out] at hown6
      have hcw : Chg No w w6 := (hc1.trans hcb).grew hg6 (fun i hi => .inr (hobl i hi).1)
      have Hown6 := Lib.hid hown6
      clear hown6 hg6 hlit
      go_wp2_with (with_reducible first | refine stop_append ?_ | refine stop_copy ?_ | refine stop_make ?_ | refine stop_lookup ?_ | refine stop_update ?_ | refine stop_slice ?_ | refine stop_range ?_ | refine stop_next ?_ | refine stop_convert ⟨_, rfl⟩ ?_ | refine stop_convertB ⟨_, _, _, rfl⟩ ?_ | refine stop_eqSlice ⟨_, _, rfl⟩ ?_)
      go_roundw
      case rel => exact ⟨k + 1, by omega, by go_num, hcw, Hown6.out⟩
      case measure => simp [intOf]; omega
    · obtain rfl : k = l.length := by omega
      rw [List.take_length] at hown
      have Hown := Lib.hid hown
      obtain ⟨A3, c3, rfl⟩ := hown.slice
      clear hown
      go_wp2_with (with_reducible first | refine stop_append ?_ | refine stop_copy ?_ | refine stop_make ?_ | refine stop_lookup ?_ | refine stop_update ?_ | refine stop_slice ?_ | refine stop_range ?_ | refine stop_next ?_ | refine stop_convert ⟨_, rfl⟩ ?_ | refine stop_convertB ⟨_, _, _, rfl⟩ ?_ | refine stop_eqSlice ⟨_, _, rfl⟩ ?_)
      go_ret
      exact ⟨_, rfl, hc1, Hown.out.sl (fun _ _ f => f)⟩
set_option maxRecDepth 100000 in
set_option maxHeartbeats 1000000 in
theorem mine12F_any (F : Nat → Prop) (v : Value) (l : List Ent) (w : World) (h : Sl F w v l) (hF : ∀ k, F k → k < w.heap.size) (hl : l.length * 64 ≤ 140737488355328) :
    Calls Try.prog 14 #[v] w fun e w' => ∃ v', e = .returned v' ∧ Chg No w w' ∧ Sl F w' v' l := by
  obtain ⟨A, c, rfl⟩ := h.slice
  have H := Lib.hid (h.weak (G := fun k => F k ∨ w.heap.size ≤ k) (fun k hk g => by rcases g with g | g; exact g; omega))
  have HF := Lib.hid hF
  clear h hF
  go_enter Try.func14, Try.ntmps14
  go_wp2_with (with_reducible first | refine stop_append ?_ | refine stop_copy ?_ | refine stop_make ?_ | refine stop_lookup ?_ | refine stop_update ?_ | refine stop_slice ?_ | refine stop_range ?_ | refine stop_next ?_ | refine stop_convert ⟨_, rfl⟩ ?_ | refine stop_convertB ⟨_, _, _, rfl⟩ ?_ | refine stop_eqSlice ⟨_, _, rfl⟩ ?_)
  go_loopw [3, 5, 8] (fun v3 _ v8 wr => ∃ k : Nat, k ≤ l.length ∧ v8 = .int .i64 k ∧ Chg No w wr ∧ Cb.Own F wr w.heap.size 76 v3 (l.take k)) (fun _ _ v8 _ => l.length - (intOf v8).toNat)
  case atStart => exact ⟨0, by omega, rfl, Chg.refl _ _, Cb.Own.nil _ _ _ _⟩
  case round =>
    obtain ⟨k, hk, rfl, hc1, hown⟩ := hrel
    by_cases hlt : k < l.length
    · have hgs := H.out.keepNo hc1
      obtain ⟨b, o, vc, rfl, hnb, hbl, hsv, a0, a1, a2, a3, a4, a5⟩ := ent_get hgs k hlt
      have htk := List.take_succ_eq_append_getElem hlt
      clear hgs
      generalize l[k] = x at a0 a1 a2 a3 a4 a5 hsv htk
      have Hcs := Lib.hid (ent_mk x hsv)
      obtain ⟨n, kd, cut, tag, t, u⟩ := x
      simp only [entC] at a0 a1 a2 a3 a4 a5 Hcs
      obtain ⟨Av, cv, rfl⟩ := hsv.slice
      have hlen : (l.take k).length = k := by simp; omega
      generalize l.take k = acc at hlen htk hown
      have Htk := Lib.hid htk
      have Hlen := Lib.hid hlen
      obtain ⟨A3, c3, rfl⟩ := hown.slice
      have Hown := Lib.hid hown
      clear hsv hown htk hlen
      go_wp2_with (with_reducible first | refine stop_append ?_ | refine stop_copy ?_ | refine stop_make ?_ | refine stop_lookup ?_ | refine stop_update ?_ | refine stop_slice ?_ | refine stop_range ?_ | refine stop_next ?_ | refine stop_convert ⟨_, rfl⟩ ?_ | refine stop_convertB ⟨_, _, _, rfl⟩ ?_ | refine stop_eqSlice ⟨_, _, rfl⟩ ?_)
      have hca := (Chg.refl No wr).alloc (.cells #[.int .i64 n, .int .i64 kd, .slice Av cut.length cv, .int .i64 tag, .int .i64 t, .int .i64 u] 66)
      have hcb := hca.alloc (.cells #[.int .i64 n, .int .i64 kd, .slice Av cut.length cv, .int .i64 tag, .int .i64 t, .int .i64 u] 76)
      generalize hw4 : wr.alloc (.cells #[.int .i64 n, .int .i64 kd, .slice Av cut.length cv, .int .i64 tag, .int .i64 t, .int .i64 u] 66) = w4 at hca hcb ⊢
      have e4 : w4.heap.size = wr.heap.size + 1 := by rw [← hw4]; simp
      rw [← e4]
      have hobl : ∀ i, OB (.slice A3 acc.length c3) i → w.heap.size ≤ i ∧ i < wr.heap.size := fun i hi => Hown.out.lt i hi
      have hlit : Sl (Or F (OB (.slice A3 acc.length c3))) (w4.alloc (.cells #[.int .i64 n, .int .i64 kd, .slice Av cut.length cv, .int .i64 tag, .int .i64 t, .int .i64 u] 76)) (.slice (some ⟨w4.heap.size, 0, none⟩) 1 1) [(n, kd, cut, tag, t, u)] :=
        Sl.lit1 rfl (Rep.weak (Rep.keep Hcs.out hca.of_no) (fun i _ hi => hi.imp id (fun hi => (hobl i hi).1))) (fun hi => by
          rcases hi with hi | hi
          · have := HF.out _ hi; have := hc1.size; omega
          · have := hobl _ hi; omega)
      refine step_append_sl (α := Ent) (F := F) (G := Or F (OB (.slice A3 acc.length c3))) Try.underlying43 info_ent rfl (Hown.out.keep hcb (fun _ _ f => f.elim) (fun _ _ f => f)) rfl rfl hlit (fun i _ hi => hi) (by have := Hlen.out; simp; omega) (by have := Hlen.out; simp [ent_n]; omega) (by have := hc1.size; have := hcb.size; omega) ?_
      intro v6 w6 hown6 hg6
      rw [← Htk.out] at hown6
      have hcw : Chg No w w6 := (hc1.trans hcb).grew hg6 (fun i hi => .inr (hobl i hi).1)
      have Hown6 := Lib.hid hown6
      clear hown6 hg6 hlit
      go_wp2_with (with_reducible first | refine stop_append ?_ | refine stop_copy ?_ | refine stop_make ?_ | refine stop_lookup ?_ | refine stop_update ?_ | refine stop_slice ?_ | refine stop_range ?_ | refine stop_next ?_ | refine stop_convert ⟨_, rfl⟩ ?_ | refine stop_convertB ⟨_, _, _, rfl⟩ ?_ | refine stop_eqSlice ⟨_, _, rfl⟩ ?_)
      go_roundw
      case rel => exact ⟨k + 1, by omega, by go_num, hcw, Hown6.out⟩
      case measure => simp [intOf]; omega
    · obtain rfl : k = l.length := by omega
      rw [List.take_length] at hown
      have Hown := Lib.hid hown
      obtain ⟨A3, c3, rfl⟩ := hown.slice
      clear hown
      go_wp2_with (with_reducible first | refine stop_append ?_ | refine stop_copy ?_ | refine stop_make ?_ | refine stop_lookup ?_ | refine stop_update ?_ | refine stop_slice ?_ | refine stop_range ?_ | refine stop_next ?_ | refine stop_convert ⟨_, rfl⟩ ?_ | refine stop_convertB ⟨_, _, _, rfl⟩ ?_ | refine stop_eqSlice ⟨_, _, rfl⟩ ?_)
      go_ret
      exact ⟨_, rfl, hc1, Hown.out.sl (fun i hi g => by have := (Hown.out.lt i hi).1; have := HF.out i g; omega)⟩
theorem chain_ents : ∀ (l : List Ent) (i : Nat) (a : List Int), (chainF l i a).1 = i + l.length → ∀ e ∈ l, entR e = true
  | [], _, _, _, e, he => by cases he
  | x :: r, i, a, h, e, he => by
    simp only [chainF, List.length_cons] at h
    split at h
    · rename_i hx
      rcases List.mem_cons.1 he with rfl | he
      · unfold okE at hx; simp only [Bool.and_eq_true] at hx; exact hx.1
      · exact chain_ents r (i + 1) (lastE a x) (by omega) e he
    · simp only at h; omega
/-- Two sealers that share nothing, and a configuration's sequencers ahead of them. -/
structure QB (w0 W : World) (b : Nat) (vq : Value) (S T : Nat → Prop) (p q : Nat) (sa sb : SSt) : Prop where
  sa : Sea W S p sa
  sb : Sea W T q sb
  dis : ∀ k, S k → ¬ T k
  slo : ∀ k, S k → b < k
  tlo : ∀ k, T k → b < k
  chg : Chg No w0 W
  cfg : W.cell? ⟨b, 1, none⟩ = some vq
  lo : w0.heap.size ≤ b
section
variable {w0 W W' : World} {b : Nat} {vq : Value} {S T S' T' : Nat → Prop} {p q : Nat} {sa sb sa' sb' : SSt}
theorem QB.no (h : QB w0 W b vq S T p q sa sb) (hc : Chg No W W') : QB w0 W' b vq S T p q sa sb := ⟨h.sa.keepNo hc, h.sb.keepNo hc, h.dis, h.slo, h.tlo, h.chg.trans hc, hc.cell h.cfg (not_no _), h.lo⟩
end
end Go.Proofs.Yticimjplegbagaa


/- Walks of the document's chapter 12: agrees, Majority, Done, Tail, HearSeal. -/
set_option linter.unusedVariables false
set_option linter.unusedSimpArgs false
namespace Go.Proofs.Yticimjplegbagaa
open Go.RowKit Cb

def agreeB (a b : List Ent) : Bool := decide (a.take (min a.length b.length) = b.take (min a.length b.length))
def PartsI (ps : List Part) : Prop := ps.length ≤ 1000 ∧ ∀ p ∈ ps, p.2.length ≤ 1000 ∧ ∀ e ∈ p.2, e.2.2.1.length ≤ 17592186043904
theorem part_get {F : Nat → Prop} {w : World} {A : Option Addr} {n c : Nat} {l : List Part} (h : Sl F w (.slice A n c) l) (k : Nat) (hk : k < l.length) :
    ∃ b o vl, A = some ⟨b, o, none⟩ ∧ ¬ F b ∧ b < w.heap.size ∧ Sl F w vl l[k].2 ∧ w.cell? ⟨b, o + k * 2, none⟩ = some (.int .i64 l[k].1) ∧ w.cell? ⟨b, o + k * 2 + 1, none⟩ = some vl := by
  obtain ⟨b, o, d, rfl, hF, hb, hd, ha⟩ := h.get k hk
  obtain ⟨_, _, rfl, rfl, ⟨vl, rfl, hl⟩⟩ := hd
  exact ⟨b, o, vl, rfl, hF, hb, hl, ha 0 _ rfl, ha 1 _ rfl⟩
theorem info_part : Info Try.prog 29 (.agg #[.int .i64 0, .slice none 0 0]) 2 32 := by unfold Info; kernel_rfl
set_option maxRecDepth 100000 in
set_option maxHeartbeats 4000000 in
theorem agrees_any (F G : Nat → Prop) (v u : Value) (a b : List Ent) (w : World) (h : Sl F w v a) (h' : Sl G w u b) (hl : a.length ≤ 1000) (hb : ∀ e ∈ a, e.2.2.1.length ≤ 17592186043904) (hb' : ∀ e ∈ b, e.2.2.1.length ≤ 17592186043904) :
    Calls Try.prog 35 #[v, u] w fun e w' => e = .returned (.bool (agreeB a b)) ∧ Chg No w w' := by
  have Hs := Lib.hid (fun W (hW : Chg No w W) => h.keepNo hW)
  have Hs' := Lib.hid (fun W (hW : Chg No w W) => h'.keepNo hW)
  have Hb := Lib.hid hb; have Hb' := Lib.hid hb'
  obtain ⟨A, c, rfl⟩ := h.slice
  obtain ⟨B, d, rfl⟩ := h'.slice
  have HR := Lib.hid (show agreeB a b = decide (a.take (min a.length b.length) = b.take (min a.length b.length)) from rfl)
  clear h h' hb hb'
  generalize agreeB a b = R at *
  go_enter Try.func35, Try.ntmps35
  go_wp2_with (with_reducible first | refine stop_append ?_ | refine stop_copy ?_ | refine stop_make ?_ | refine stop_lookup ?_ | refine stop_update ?_ | refine stop_slice ?_ | refine stop_range ?_ | refine stop_next ?_ | refine stop_convert ⟨_, rfl⟩ ?_ | refine stop_convertB ⟨_, _, _, rfl⟩ ?_ | refine stop_eqSlice ⟨_, _, rfl⟩ ?_)
  go_loopw [5] (fun v5 wr => ∃ k : Nat, k ≤ a.length ∧ k ≤ b.length ∧ v5 = .int .i64 k ∧ Chg No w wr ∧ a.take k = b.take k) (fun v5 _ => a.length - (intOf v5).toNat)
  case atStart => exact ⟨0, by omega, by omega, rfl, Chg.refl _ _, rfl⟩
  case round =>
    obtain ⟨k, hk, hk', rfl, hc, heq⟩ := hrel
    have Heq := Lib.hid heq
    clear heq
    by_cases h1 : k < a.length
    · by_cases h2 : k < b.length
      · obtain ⟨b1, o1, v1, rfl, _, hbl1, s1, a0, a1, a2, a3, a4, a5⟩ := ent_get (Hs.out wr hc) k h1
        obtain ⟨b2, o2, v2, rfl, _, hbl2, s2, d0, d1, d2, d3, d4, d5⟩ := ent_get (Hs'.out wr hc) k h2
        have Hsm := Lib.hid (fun W (hW : Chg No wr W) => dsame_any F G a[k] b[k] v1 v2 W (s1.keepNo hW) (s2.keepNo hW) (by have := Hb.out _ (List.getElem_mem h1); omega) (by have := Hb'.out _ (List.getElem_mem h2); omega))
        have Hta := Lib.hid (show a.take (k + 1) = b.take (k + 1) ↔ a[k] = b[k] by
          rw [List.take_succ_eq_append_getElem h1, List.take_succ_eq_append_getElem h2, Heq.out]
          constructor
          · intro e; exact (List.cons.inj (List.append_cancel_left e)).1
          · intro e; rw [e])
        have Hno := Lib.hid (show a[k] ≠ b[k] → R = false from fun hne => by
          rw [HR.out]
          refine decide_eq_false (fun e => hne ?_)
          have := congrArg (fun l => l[k]?) e
          simp only [List.getElem?_take] at this
          rw [if_pos (by omega), if_pos (by omega), List.getElem?_eq_getElem h1, List.getElem?_eq_getElem h2] at this
          exact Option.some.inj this)
        obtain ⟨A1, c1, rfl⟩ := s1.slice
        obtain ⟨A2, c2, rfl⟩ := s2.slice
        generalize hsb : decide (a[k] = b[k]) = sb at *
        have Hsb := Lib.hid hsb
        clear hsb s1 s2
        generalize a[k] = x at *
        generalize b[k] = y at *
        obtain ⟨x0, x1, x2, x3, x4, x5⟩ := x
        obtain ⟨y0, y1, y2, y3, y4, y5⟩ := y
        unfold entV at Hsm
        simp only at a0 a1 a2 a3 a4 a5 d0 d1 d2 d3 d4 d5 Hsm
        go_wp2_with (with_reducible first | refine stop_append ?_ | refine stop_copy ?_ | refine stop_make ?_ | refine stop_lookup ?_ | refine stop_update ?_ | refine stop_slice ?_ | refine stop_range ?_ | refine stop_next ?_ | refine stop_convert ⟨_, rfl⟩ ?_ | refine stop_convertB ⟨_, _, _, rfl⟩ ?_ | refine stop_eqSlice ⟨_, _, rfl⟩ ?_)
        have cd := (Chg.refl No wr).drew
        have HS := Lib.hid (show ∀ W, Chg No wr W → (fun W => (W.cell? ⟨b1, o1 + k * 6, none⟩ = some (.int .i64 x0) ∧ W.cell? ⟨b1, o1 + k * 6 + 1, none⟩ = some (.int .i64 x1) ∧ W.cell? ⟨b1, o1 + k * 6 + 2, none⟩ = some (.slice A1 x2.length c1) ∧ W.cell? ⟨b1, o1 + k * 6 + 3, none⟩ = some (.int .i64 x3) ∧ W.cell? ⟨b1, o1 + k * 6 + 4, none⟩ = some (.int .i64 x4) ∧ W.cell? ⟨b1, o1 + k * 6 + 5, none⟩ = some (.int .i64 x5)) ∧ (W.cell? ⟨b2, o2 + k * 6, none⟩ = some (.int .i64 y0) ∧ W.cell? ⟨b2, o2 + k * 6 + 1, none⟩ = some (.int .i64 y1) ∧ W.cell? ⟨b2, o2 + k * 6 + 2, none⟩ = some (.slice A2 y2.length c2) ∧ W.cell? ⟨b2, o2 + k * 6 + 3, none⟩ = some (.int .i64 y3) ∧ W.cell? ⟨b2, o2 + k * 6 + 4, none⟩ = some (.int .i64 y4) ∧ W.cell? ⟨b2, o2 + k * 6 + 5, none⟩ = some (.int .i64 y5)) ∧ Chg No wr W) W from fun W hW => ⟨⟨hW.cell a0 (not_no _), hW.cell a1 (not_no _), hW.cell a2 (not_no _), hW.cell a3 (not_no _), hW.cell a4 (not_no _), hW.cell a5 (not_no _)⟩, ⟨hW.cell d0 (not_no _), hW.cell d1 (not_no _), hW.cell d2 (not_no _), hW.cell d3 (not_no _), hW.cell d4 (not_no _), hW.cell d5 (not_no _)⟩, hW⟩)
        clear a0 a1 a2 a3 a4 a5 d0 d1 d2 d3 d4 d5
        refine pl_start (fun W => (W.cell? ⟨b1, o1 + k * 6, none⟩ = some (.int .i64 x0) ∧ W.cell? ⟨b1, o1 + k * 6 + 1, none⟩ = some (.int .i64 x1) ∧ W.cell? ⟨b1, o1 + k * 6 + 2, none⟩ = some (.slice A1 x2.length c1) ∧ W.cell? ⟨b1, o1 + k * 6 + 3, none⟩ = some (.int .i64 x3) ∧ W.cell? ⟨b1, o1 + k * 6 + 4, none⟩ = some (.int .i64 x4) ∧ W.cell? ⟨b1, o1 + k * 6 + 5, none⟩ = some (.int .i64 x5)) ∧ (W.cell? ⟨b2, o2 + k * 6, none⟩ = some (.int .i64 y0) ∧ W.cell? ⟨b2, o2 + k * 6 + 1, none⟩ = some (.int .i64 y1) ∧ W.cell? ⟨b2, o2 + k * 6 + 2, none⟩ = some (.slice A2 y2.length c2) ∧ W.cell? ⟨b2, o2 + k * 6 + 3, none⟩ = some (.int .i64 y3) ∧ W.cell? ⟨b2, o2 + k * 6 + 4, none⟩ = some (.int .i64 y4) ∧ W.cell? ⟨b2, o2 + k * 6 + 5, none⟩ = some (.int .i64 y5)) ∧ Chg No wr W) (by kernel_rfl) (by kernel_rfl) (HS.out _ cd) ?_
        iterate 8 ((refine pl_nx [] (v := ?_) rfl (by kernel_rfl) rfl ?_ ?_; rotate_left; focus (intro W hW; (try dsimp only at hW); go_split_ands; go_simp; (try (simp (disch := omega) only [IntWalk.i64_in]; (try go_simp))); (try (split; (next => omega); (try go_simp))); try rfl; done)); try simp only [Act.put, List.setIfInBounds_toArray, List.set_cons_zero, List.set_cons_succ, Nat.reduceAdd])
        refine pl_callx 8 (.bool sb) rfl (by kernel_rfl) rfl (by exact (fun W hW => (Hsm.out W hW.2.2).mono fun e w' h => ⟨h.1, HS.out _ (hW.2.2.trans h.2)⟩)) (fun W => by kernel_rfl) ?_
        try simp only [Act.put, List.setIfInBounds_toArray, List.set_cons_zero, List.set_cons_succ, Nat.reduceAdd]
        ((refine pl_nx [] (v := ?_) rfl (by kernel_rfl) rfl ?_ ?_; rotate_left; focus (intro W hW; (try dsimp only at hW); go_split_ands; go_simp; (try (simp (disch := omega) only [IntWalk.i64_in]; (try go_simp))); (try (split; (next => omega); (try go_simp))); try rfl; done)); try simp only [Act.put, List.setIfInBounds_toArray, List.set_cons_zero, List.set_cons_succ, Nat.reduceAdd])
        refine pl_done (by kernel_rfl)  ?_
        rintro w2 ⟨-, -, h2⟩
        have hcw := hc.trans h2
        cases sb
        · obtain rfl : R = false := Hno.out (of_decide_eq_false Hsb.out)
          go_wp2_with (with_reducible first | refine stop_append ?_ | refine stop_copy ?_ | refine stop_make ?_ | refine stop_lookup ?_ | refine stop_update ?_ | refine stop_slice ?_ | refine stop_range ?_ | refine stop_next ?_ | refine stop_convert ⟨_, rfl⟩ ?_ | refine stop_convertB ⟨_, _, _, rfl⟩ ?_ | refine stop_eqSlice ⟨_, _, rfl⟩ ?_)
          go_ret
          exact ⟨rfl, hcw⟩
        · have Ht := Lib.hid (Hta.out.2 (of_decide_eq_true Hsb.out))
          go_wp2_with (with_reducible first | refine stop_append ?_ | refine stop_copy ?_ | refine stop_make ?_ | refine stop_lookup ?_ | refine stop_update ?_ | refine stop_slice ?_ | refine stop_range ?_ | refine stop_next ?_ | refine stop_convert ⟨_, rfl⟩ ?_ | refine stop_convertB ⟨_, _, _, rfl⟩ ?_ | refine stop_eqSlice ⟨_, _, rfl⟩ ?_)
          go_roundw
          case rel => exact ⟨k + 1, by omega, by omega, by go_num, hcw, Ht.out⟩
          case measure => simp [intOf]; omega
      · have hR : R = true := by
          rw [HR.out, show min a.length b.length = k by omega]
          exact decide_eq_true Heq.out
        subst hR
        go_wp2_with (with_reducible first | refine stop_append ?_ | refine stop_copy ?_ | refine stop_make ?_ | refine stop_lookup ?_ | refine stop_update ?_ | refine stop_slice ?_ | refine stop_range ?_ | refine stop_next ?_ | refine stop_convert ⟨_, rfl⟩ ?_ | refine stop_convertB ⟨_, _, _, rfl⟩ ?_ | refine stop_eqSlice ⟨_, _, rfl⟩ ?_)
        go_ret
        exact ⟨rfl, hc⟩
    · have hR : R = true := by
        rw [HR.out, show min a.length b.length = k by omega]
        exact decide_eq_true Heq.out
      subst hR
      go_wp2_with (with_reducible first | refine stop_append ?_ | refine stop_copy ?_ | refine stop_make ?_ | refine stop_lookup ?_ | refine stop_update ?_ | refine stop_slice ?_ | refine stop_range ?_ | refine stop_next ?_ | refine stop_convert ⟨_, rfl⟩ ?_ | refine stop_convertB ⟨_, _, _, rfl⟩ ?_ | refine stop_eqSlice ⟨_, _, rfl⟩ ?_)
      go_ret
      exact ⟨rfl, hc⟩
set_option maxRecDepth 100000 in
set_option maxHeartbeats 2000000 in
theorem dmaj_any (t : Int) (vq vs : Value) (q : List Int) (w : World) (hq : Sl No w vq q) (hs : ∃ A n c, vs = .slice A n c) (hl : q.length ≤ 1000000) :
    Calls Try.prog 40 #[.agg #[.int .i64 t, vq, vs]] w fun e w' => e = .returned (.int .i64 ((q.length / 2 + 1 : Nat))) ∧ Chg No w w' := by
  obtain ⟨A, c, rfl⟩ := hq.slice
  obtain ⟨As, ns, cs, rfl⟩ := hs
  have hca := (Chg.refl No w).alloc (.cells #[.int .i64 t, .slice A q.length c, .slice As ns cs] 25)
  have c1 := cell_obj (i := 1) (alloc_obj w (.cells #[.int .i64 t, .slice A q.length c, .slice As ns cs] 25)) rfl
  clear hq
  obtain ⟨m, hm⟩ : ∃ m, m = q.length / 2 + 1 := ⟨_, rfl⟩
  rw [← hm]
  have Hm := Lib.hid hm
  clear hm
  go_enter Try.func40, Try.ntmps40
  go_wp2_with (with_reducible first | refine stop_append ?_ | refine stop_copy ?_ | refine stop_make ?_ | refine stop_lookup ?_ | refine stop_update ?_ | refine stop_slice ?_ | refine stop_range ?_ | refine stop_next ?_ | refine stop_convert ⟨_, rfl⟩ ?_ | refine stop_convertB ⟨_, _, _, rfl⟩ ?_ | refine stop_eqSlice ⟨_, _, rfl⟩ ?_)
  generalize w.alloc (.cells #[.int .i64 t, .slice A q.length c, .slice As ns cs] 25) = w1 at *
  generalize w.heap.size = b at *
  go_loopw [3] (fun v3 wr => ∃ k : Nat, k ≤ m ∧ v3 = .int .i64 k ∧ wr = w1) (fun v3 _ => m - (intOf v3).toNat)
  case atStart => exact ⟨0, by omega, rfl, rfl⟩
  case round =>
    obtain ⟨k, hk, rfl, rfl⟩ := hrel
    have g1 : IntKind.i64.wrap ((k : Int) + k) = (k : Int) + k := IntWalk.i64_in _ (by have := Hm.out; omega)
    by_cases hlt : k + k ≤ q.length
    · have hlt' : (k : Int) + k ≤ q.length := by omega
      have hkn : k ≤ 1000000 := by omega
      have Hk := Lib.hid (show k + 1 ≤ m by have := Hm.out; omega)
      go_wp2_with (with_reducible first | refine stop_append ?_ | refine stop_copy ?_ | refine stop_make ?_ | refine stop_lookup ?_ | refine stop_update ?_ | refine stop_slice ?_ | refine stop_range ?_ | refine stop_next ?_ | refine stop_convert ⟨_, rfl⟩ ?_ | refine stop_convertB ⟨_, _, _, rfl⟩ ?_ | refine stop_eqSlice ⟨_, _, rfl⟩ ?_)
      go_roundw
      case rel => exact ⟨k + 1, Hk.out, by go_num, by first | rfl | trivial⟩
      case measure => have := Hk.out; simp [intOf]; omega
    · have hlt' : ¬ (k : Int) + k ≤ q.length := by omega
      obtain rfl : k = m := by have := Hm.out; omega
      clear hlt
      go_wp2_with (with_reducible first | refine stop_append ?_ | refine stop_copy ?_ | refine stop_make ?_ | refine stop_lookup ?_ | refine stop_update ?_ | refine stop_slice ?_ | refine stop_range ?_ | refine stop_next ?_ | refine stop_convert ⟨_, rfl⟩ ?_ | refine stop_convertB ⟨_, _, _, rfl⟩ ?_ | refine stop_eqSlice ⟨_, _, rfl⟩ ?_)
      go_ret
      exact ⟨rfl, hca⟩
end Go.Proofs.Yticimjplegbagaa


/- Walks of the document's chapter 12: Done, Tail, HearSeal. -/
set_option linter.unusedVariables false
set_option linter.unusedSimpArgs false
namespace Go.Proofs.Yticimjplegbagaa
open Go.RowKit Cb

def doneR (q : List Int) (ps : List Part) : Bool := decide (q.length / 2 + 1 ≤ ps.length)
/-- The document's sealer in memory. -/
def seaV (t : Int) (vq vs vL : Value) : Value := .agg #[.int .i64 t, vq, vs, vL]
set_option maxRecDepth 100000 in
set_option maxHeartbeats 2000000 in
theorem ddone_any (t : Int) (vq vs vL : Value) (q : List Int) (ps : List Part) (w : World) (hq : Sl No w vq q) (hs : ∃ A n c, vs = .slice A n c) (hL : Sl No w vL ps) (hl : q.length ≤ 1000000) :
    Calls Try.prog 16 #[seaV t vq vs vL] w fun e w' => e = .returned (.bool (doneR q ps)) ∧ Chg No w w' := by
  have Hm := Lib.hid (fun W (hW : Chg No w W) => dmaj_any t vq vs q W (hq.keepNo hW) hs hl)
  obtain ⟨A, c, rfl⟩ := hq.slice
  obtain ⟨As, ns, cs, rfl⟩ := hs
  obtain ⟨AL, cL, rfl⟩ := hL.slice
  obtain ⟨m, hm⟩ : ∃ m, m = q.length / 2 + 1 := ⟨_, rfl⟩
  have hd : doneR q ps = decide (m ≤ ps.length) := by rw [hm]; rfl
  rw [hd]
  rw [← hm] at Hm
  clear hq hL hd hm
  unfold seaV
  have hca := (Chg.refl No w).alloc (.cells #[.int .i64 t, .slice A q.length c, .slice As ns cs, .slice AL ps.length cL] 39)
  have o1 := alloc_obj w (.cells #[.int .i64 t, .slice A q.length c, .slice As ns cs, .slice AL ps.length cL] 39)
  have a0 := cell_obj (i := 0) o1 rfl
  have a1 := cell_obj (i := 1) o1 rfl
  have a2 := cell_obj (i := 2) o1 rfl
  have a3 := cell_obj (i := 3) o1 rfl
  clear o1
  go_enter Try.func16, Try.ntmps16
  go_wp2_with (with_reducible first | refine stop_append ?_ | refine stop_copy ?_ | refine stop_make ?_ | refine stop_lookup ?_ | refine stop_update ?_ | refine stop_slice ?_ | refine stop_range ?_ | refine stop_next ?_ | refine stop_convert ⟨_, rfl⟩ ?_ | refine stop_convertB ⟨_, _, _, rfl⟩ ?_ | refine stop_eqSlice ⟨_, _, rfl⟩ ?_)
  generalize w.alloc (.cells #[.int .i64 t, .slice A q.length c, .slice As ns cs, .slice AL ps.length cL] 39) = w1 at *
  generalize w.heap.size = b at *
  have cd := (Chg.refl No w1).drew
  have HS := Lib.hid (show ∀ W, Chg No w1 W → (fun W => (W.cell? ⟨b, 0, none⟩ = some (.int .i64 t) ∧ W.cell? ⟨b, 1, none⟩ = some (.slice A q.length c) ∧ W.cell? ⟨b, 2, none⟩ = some (.slice As ns cs) ∧ W.cell? ⟨b, 3, none⟩ = some (.slice AL ps.length cL)) ∧ Chg No w1 W) W from fun W hW => ⟨⟨hW.cell a0 (not_no _), hW.cell a1 (not_no _), hW.cell a2 (not_no _), hW.cell a3 (not_no _)⟩, hW⟩)
  clear a0 a1 a2 a3
  refine pl_start (fun W => (W.cell? ⟨b, 0, none⟩ = some (.int .i64 t) ∧ W.cell? ⟨b, 1, none⟩ = some (.slice A q.length c) ∧ W.cell? ⟨b, 2, none⟩ = some (.slice As ns cs) ∧ W.cell? ⟨b, 3, none⟩ = some (.slice AL ps.length cL)) ∧ Chg No w1 W) (by kernel_rfl) (by kernel_rfl) (HS.out _ cd) ?_
  iterate 5 ((refine pl_nx [] (v := ?_) rfl (by kernel_rfl) rfl ?_ ?_; rotate_left; focus (intro W hW; (try dsimp only at hW); go_split_ands; go_simp; (try (simp (disch := omega) only [IntWalk.i64_in]; (try go_simp))); (try (split; (next => omega); (try go_simp))); try rfl; done)); try simp only [Act.put, List.setIfInBounds_toArray, List.set_cons_zero, List.set_cons_succ, Nat.reduceAdd])
  refine pl_callx 5 (.int .i64 m) rfl (by kernel_rfl) rfl (by exact (fun W hW => (Hm.out W (hca.trans hW.2)).mono fun e w' h => ⟨h.1, HS.out _ (hW.2.trans h.2)⟩)) (fun W => by kernel_rfl) ?_
  try simp only [Act.put, List.setIfInBounds_toArray, List.set_cons_zero, List.set_cons_succ, Nat.reduceAdd]
  iterate 2 ((refine pl_nx [] (v := ?_) rfl (by kernel_rfl) rfl ?_ ?_; rotate_left; focus (intro W hW; (try dsimp only at hW); go_split_ands; go_simp; (try (simp (disch := omega) only [IntWalk.i64_in]; (try go_simp))); (try (split; (next => omega); (try go_simp))); try rfl; done)); try simp only [Act.put, List.setIfInBounds_toArray, List.set_cons_zero, List.set_cons_succ, Nat.reduceAdd])
  refine pl_done (by kernel_rfl)  ?_
  rintro w2 ⟨-, h2⟩
  have hcw := hca.trans h2
  go_wp2_with (with_reducible first | refine stop_append ?_ | refine stop_copy ?_ | refine stop_make ?_ | refine stop_lookup ?_ | refine stop_update ?_ | refine stop_slice ?_ | refine stop_range ?_ | refine stop_next ?_ | refine stop_convert ⟨_, rfl⟩ ?_ | refine stop_convertB ⟨_, _, _, rfl⟩ ?_ | refine stop_eqSlice ⟨_, _, rfl⟩ ?_)
  go_ret
  exact ⟨by simp, hcw⟩
def tailL (ps : List Part) : List Ent := ps.foldl (fun o p => if o.length < p.2.length then p.2 else o) []
def tailR (q : List Int) (ps : List Part) : List Ent := if doneR q ps = true then tailL ps else []
set_option maxRecDepth 100000 in
set_option maxHeartbeats 2000000 in
theorem dtail_any (t : Int) (vq vs vL : Value) (q : List Int) (ps : List Part) (w : World) (hq : Sl No w vq q) (hs : ∃ A n c, vs = .slice A n c) (hL : Sl No w vL ps) (hl : q.length ≤ 1000000) (hp : ps.length ≤ 1000) :
    Calls Try.prog 18 #[seaV t vq vs vL] w fun e w' => ∃ v', e = .returned (.tuple #[v', .bool (doneR q ps)]) ∧ Chg No w w' ∧ Sl No w' v' (tailR q ps) := by
  have Hd := Lib.hid (fun W (hW : Chg No w W) => ddone_any t vq vs vL q ps W (hq.keepNo hW) hs (hL.keepNo hW) hl)
  have HL := Lib.hid (fun W (hW : Chg No w W) => hL.keepNo hW)
  obtain ⟨A, c, rfl⟩ := hq.slice
  obtain ⟨As, ns, cs, rfl⟩ := hs
  obtain ⟨AL, cL, rfl⟩ := hL.slice
  have hres : tailR q ps = if doneR q ps = true then tailL ps else [] := rfl
  have Hres := Lib.hid hres
  clear hq hL hres
  generalize tailR q ps = res at *
  generalize doneR q ps = dn at *
  unfold seaV at *
  have hca := (Chg.refl No w).alloc (.cells #[.int .i64 t, .slice A q.length c, .slice As ns cs, .slice AL ps.length cL] 39)
  have o1 := alloc_obj w (.cells #[.int .i64 t, .slice A q.length c, .slice As ns cs, .slice AL ps.length cL] 39)
  have a0 := cell_obj (i := 0) o1 rfl
  have a1 := cell_obj (i := 1) o1 rfl
  have a2 := cell_obj (i := 2) o1 rfl
  have a3 := cell_obj (i := 3) o1 rfl
  clear o1
  go_enter Try.func18, Try.ntmps18
  go_wp2_with (with_reducible first | refine stop_append ?_ | refine stop_copy ?_ | refine stop_make ?_ | refine stop_lookup ?_ | refine stop_update ?_ | refine stop_slice ?_ | refine stop_range ?_ | refine stop_next ?_ | refine stop_convert ⟨_, rfl⟩ ?_ | refine stop_convertB ⟨_, _, _, rfl⟩ ?_ | refine stop_eqSlice ⟨_, _, rfl⟩ ?_)
  generalize w.alloc (.cells #[.int .i64 t, .slice A q.length c, .slice As ns cs, .slice AL ps.length cL] 39) = w1 at *
  generalize w.heap.size = b at *
  refine (Hd.out _ hca).mono ?_
  rintro e w2 ⟨rfl, hc2⟩
  replace a3 := hc2.cell a3 (not_no _)
  have hcw2 := hca.trans hc2
  clear a0 a1 a2 Hd hca hc2
  cases dn
  · obtain rfl : res = [] := Hres.out
    go_wp2_with (with_reducible first | refine stop_append ?_ | refine stop_copy ?_ | refine stop_make ?_ | refine stop_lookup ?_ | refine stop_update ?_ | refine stop_slice ?_ | refine stop_range ?_ | refine stop_next ?_ | refine stop_convert ⟨_, rfl⟩ ?_ | refine stop_convertB ⟨_, _, _, rfl⟩ ?_ | refine stop_eqSlice ⟨_, _, rfl⟩ ?_)
    go_ret2
    exact ⟨_, rfl, hcw2, Sl.nil _ _ _ _⟩
  obtain rfl : res = tailL ps := Hres.out
  go_wp2_with (with_reducible first | refine stop_append ?_ | refine stop_copy ?_ | refine stop_make ?_ | refine stop_lookup ?_ | refine stop_update ?_ | refine stop_slice ?_ | refine stop_range ?_ | refine stop_next ?_ | refine stop_convert ⟨_, rfl⟩ ?_ | refine stop_convertB ⟨_, _, _, rfl⟩ ?_ | refine stop_eqSlice ⟨_, _, rfl⟩ ?_)
  go_loopw [4, 5] (fun v4 v5 wr => ∃ (k : Nat) (u : Value), k ≤ ps.length ∧ v4 = u ∧ v5 = .int .i64 k ∧ wr = w2 ∧ Sl No wr u (tailL (ps.take k))) (fun _ v5 _ => ps.length - (intOf v5).toNat)
  case atStart => exact ⟨0, _, by omega, rfl, rfl, rfl, Sl.nil _ _ _ _⟩
  case round =>
    obtain ⟨k, u, hk, hu, rfl, rfl, hsl⟩ := hrel
    subst hu
    have Hsl := Lib.hid hsl
    obtain ⟨A4, c4, rfl⟩ := hsl.slice
    clear hsl
    by_cases hlt : k < ps.length
    · obtain ⟨b5, o5, vl, rfl, _, hbl, hvl, d0, d1⟩ := part_get (HL.out _ hcw2) k hlt
      have Hst := Lib.hid (show tailL (ps.take (k + 1)) = if (tailL (ps.take k)).length < ps[k].2.length then ps[k].2 else tailL (ps.take k) by
        unfold tailL; rw [List.take_succ_eq_append_getElem hlt, List.foldl_append]; rfl)
      have Hvl := Lib.hid hvl
      obtain ⟨A5, c5, rfl⟩ := hvl.slice
      clear hvl
      generalize ps[k] = x at *
      obtain ⟨n, l⟩ := x
      simp only at d0 d1 Hst Hvl
      generalize tailL (ps.take k) = cur at *
      by_cases hgt : cur.length < l.length
      · have he := Hst.out
        rw [if_pos hgt] at he
        have He := Lib.hid he
        clear he
        go_wp2_with (with_reducible first | refine stop_append ?_ | refine stop_copy ?_ | refine stop_make ?_ | refine stop_lookup ?_ | refine stop_update ?_ | refine stop_slice ?_ | refine stop_range ?_ | refine stop_next ?_ | refine stop_convert ⟨_, rfl⟩ ?_ | refine stop_convertB ⟨_, _, _, rfl⟩ ?_ | refine stop_eqSlice ⟨_, _, rfl⟩ ?_)
        go_roundw
        case rel => exact ⟨k + 1, _, by omega, rfl, by go_num, by first | rfl | trivial, by rw [He.out]; exact Hvl.out⟩
        case measure => simp [intOf]; omega
      · have he := Hst.out
        rw [if_neg hgt] at he
        have He := Lib.hid he
        clear he
        go_wp2_with (with_reducible first | refine stop_append ?_ | refine stop_copy ?_ | refine stop_make ?_ | refine stop_lookup ?_ | refine stop_update ?_ | refine stop_slice ?_ | refine stop_range ?_ | refine stop_next ?_ | refine stop_convert ⟨_, rfl⟩ ?_ | refine stop_convertB ⟨_, _, _, rfl⟩ ?_ | refine stop_eqSlice ⟨_, _, rfl⟩ ?_)
        go_roundw
        case rel => exact ⟨k + 1, _, by omega, rfl, by go_num, by first | rfl | trivial, by rw [He.out]; exact Hsl.out⟩
        case measure => simp [intOf]; omega
    · obtain rfl : k = ps.length := by omega
      rw [List.take_length] at Hsl
      rw [List.take_length]
      go_wp2_with (with_reducible first | refine stop_append ?_ | refine stop_copy ?_ | refine stop_make ?_ | refine stop_lookup ?_ | refine stop_update ?_ | refine stop_slice ?_ | refine stop_range ?_ | refine stop_next ?_ | refine stop_convert ⟨_, rfl⟩ ?_ | refine stop_convertB ⟨_, _, _, rfl⟩ ?_ | refine stop_eqSlice ⟨_, _, rfl⟩ ?_)
      go_ret2
      exact ⟨_, rfl, hcw2, Hsl.out⟩
def hearRB (q : List Int) (ps : List Part) (n : Int) (l : List Ent) : Bool := decide (n ∈ q) && (decide ((chainF l 0 []).1 = l.length) && ps.all fun p => !decide (p.1 = n) && agreeB p.2 l)
def hearR (q : List Int) (ps : List Part) (n : Int) (l : List Ent) : List Part × Bool := if hearRB q ps n l = true then (ps ++ [(n, l)], true) else (ps, false)
def HearRPost (F : Nat → Prop) (t : Int) (vq vs : Value) (r : List Part × Bool) (w : World) (e : Ending) (w' : World) : Prop := ∃ vL, e = .returned (.tuple #[seaV t vq vs vL, .bool r.2]) ∧ Chg No w w' ∧ Sl F w' vL r.1
set_option maxRecDepth 100000 in
set_option maxHeartbeats 8000000 in
theorem dhear_any (F : Nat → Prop) (t : Int) (vq vs vL : Value) (q : List Int) (ps : List Part) (n : Int) (vl : Value) (l : List Ent) (w : World) (hq : Sl No w vq q) (hs : ∃ A n c, vs = .slice A n c) (hL : Sl F w vL ps) (hF : ∀ k, F k → k < w.heap.size) (hl : q.length ≤ 1000000) (hp : PartsI ps)
    (hv : Sl F w vl l) (hll : l.length ≤ 1000) (hcb : ∀ e ∈ l, e.2.2.1.length ≤ 17592186043904) :
    Calls Try.prog 12 #[seaV t vq vs vL, .agg #[.int .i64 n, vl]] w (HearRPost F t vq vs (hearR q ps n l) w) := by
  have Hhas := Lib.hid (fun W (hW : Chg No w W) => has_any No vq q n W (hq.keepNo hW) (by omega))
  have Hch := Lib.hid (fun W (hW : Chg No w W) => dchain_any F vl l W (hv.keepNo hW) (by omega) hcb)
  have Hag := Lib.hid (fun W (hW : Chg No w W) k (hk : k < ps.length) v' (hv' : Sl F W v' ps[k].2) => agrees_any F F v' vl ps[k].2 l W hv' (hv.keepNo hW) (hp.2 _ (List.getElem_mem hk)).1 (hp.2 _ (List.getElem_mem hk)).2 hcb)
  have HL := Lib.hid (fun W (hW : Chg No w W) => hL.keepNo hW)
  have HG := Lib.hid (fun W (hW : Chg No w W) => (hL.weak (G := fun k => F k ∨ w.heap.size ≤ k) (fun k hk g => by rcases g with g | g; exact g; omega)).keepNo hW)
  have Hvl := Lib.hid (fun W (hW : Chg No w W) => (hv.weak (G := fun k => F k ∨ w.heap.size ≤ k) (fun k hk g => by rcases g with g | g; exact g; omega)).keepNo hW)
  have HF := Lib.hid hF
  have hpl := hp.1
  obtain ⟨A, c, rfl⟩ := hq.slice
  obtain ⟨As, ns, cs, rfl⟩ := hs
  obtain ⟨AL, cL, rfl⟩ := hL.slice
  obtain ⟨Al, cl, rfl⟩ := hv.slice
  have hres : hearR q ps n l = if (decide (n ∈ q) && (decide ((chainF l 0 []).1 = l.length) && ps.all fun p => !decide (p.1 = n) && agreeB p.2 l)) = true then (ps ++ [(n, l)], true) else (ps, false) := rfl
  have Hres := Lib.hid hres
  clear hq hL hv hres hcb hp hF
  generalize hearR q ps n l = res at *
  generalize decide (n ∈ q) = b1 at *
  generalize (chainF l 0 []).1 = ch at *
  unfold seaV at *
  have hc2 := (Chg.refl No w).alloc (.cells #[.int .i64 t, .slice A q.length c, .slice As ns cs, .slice AL ps.length cL] 39)
  have hc3 := (Chg.refl No (w.alloc (.cells #[.int .i64 t, .slice A q.length c, .slice As ns cs, .slice AL ps.length cL] 39))).alloc (.cells #[.int .i64 n, .slice Al l.length cl] 29)
  have hc4 := (Chg.refl No ((w.alloc (.cells #[.int .i64 t, .slice A q.length c, .slice As ns cs, .slice AL ps.length cL] 39)).alloc (.cells #[.int .i64 n, .slice Al l.length cl] 29))).alloc (.cells #[.int .i64 0, .slice none 0 0, .slice none 0 0, .slice none 0 0] 39)
  have o2 := (hc3.trans hc4).obj (alloc_obj w (.cells #[.int .i64 t, .slice A q.length c, .slice As ns cs, .slice AL ps.length cL] 39)) (not_no _)
  have o3 := hc4.obj (alloc_obj (w.alloc (.cells #[.int .i64 t, .slice A q.length c, .slice As ns cs, .slice AL ps.length cL] 39)) (.cells #[.int .i64 n, .slice Al l.length cl] 29)) (not_no _)
  have o4 := alloc_obj ((w.alloc (.cells #[.int .i64 t, .slice A q.length c, .slice As ns cs, .slice AL ps.length cL] 39)).alloc (.cells #[.int .i64 n, .slice Al l.length cl] 29)) (.cells #[.int .i64 0, .slice none 0 0, .slice none 0 0, .slice none 0 0] 39)
  have hcw := (hc2.trans hc3).trans hc4
  have e2 : (w.alloc (.cells #[.int .i64 t, .slice A q.length c, .slice As ns cs, .slice AL ps.length cL] 39)).heap.size = w.heap.size + 1 := by simp
  have e3 : ((w.alloc (.cells #[.int .i64 t, .slice A q.length c, .slice As ns cs, .slice AL ps.length cL] 39)).alloc (.cells #[.int .i64 n, .slice Al l.length cl] 29)).heap.size = w.heap.size + 1 + 1 := by simp
  rw [e2] at o3
  rw [e3] at o4
  clear hc2 hc3 hc4 e2 e3
  have hN : ∀ (W W' : World), Chg No w W → Chg (At (w.heap.size + 1 + 1)) W W' → HearRPost F t (.slice A q.length c) (.slice As ns cs) (ps, false) w (.returned (.tuple #[.agg #[.int .i64 t, .slice A q.length c, .slice As ns cs, .slice AL ps.length cL], .bool false])) W' := fun W W' hW hk =>
    ⟨_, rfl, hW.old hk (fun i g => by simp only [At] at g; omega), ((HG.out _ hW).keep (hk.weak (fun i _ g => by simp only [At] at g; exact .inr (by omega)))).weak (fun k _ g => .inl g)⟩
  have HN := Lib.hid hN
  clear hN
  go_enter Try.func12, Try.ntmps12
  go_wp2_with (with_reducible first | refine stop_append ?_ | refine stop_copy ?_ | refine stop_make ?_ | refine stop_lookup ?_ | refine stop_update ?_ | refine stop_slice ?_ | refine stop_range ?_ | refine stop_next ?_ | refine stop_convert ⟨_, rfl⟩ ?_ | refine stop_convertB ⟨_, _, _, rfl⟩ ?_ | refine stop_eqSlice ⟨_, _, rfl⟩ ?_)
  generalize ((w.alloc (.cells #[.int .i64 t, .slice A q.length c, .slice As ns cs, .slice AL ps.length cL] 39)).alloc (.cells #[.int .i64 n, .slice Al l.length cl] 29)).alloc (.cells #[.int .i64 0, .slice none 0 0, .slice none 0 0, .slice none 0 0] 39) = w1 at *
  have HS := Lib.hid (show ∀ W, Chg No w1 W → (fun W => W.cell? ⟨w.heap.size, 1, none⟩ = some (.slice A q.length c) ∧ W.cell? ⟨w.heap.size + 1, 0, none⟩ = some (.int .i64 n) ∧ W.cell? ⟨w.heap.size + 1, 1, none⟩ = some (.slice Al l.length cl) ∧ Chg No w1 W) W from fun W hW => ⟨cell_obj (i := 1) (hW.obj o2 (not_no _)) rfl, cell_obj (i := 0) (hW.obj o3 (not_no _)) rfl, cell_obj (i := 1) (hW.obj o3 (not_no _)) rfl, hW⟩)
  have cd := (Chg.refl No w1).drew
  cases b1
  focus
    refine pl_start (fun W => W.cell? ⟨w.heap.size, 1, none⟩ = some (.slice A q.length c) ∧ W.cell? ⟨w.heap.size + 1, 0, none⟩ = some (.int .i64 n) ∧ W.cell? ⟨w.heap.size + 1, 1, none⟩ = some (.slice Al l.length cl) ∧ Chg No w1 W) (by kernel_rfl) (by kernel_rfl) (HS.out _ cd) ?_
    iterate 5 ((refine pl_nx [] (v := ?_) rfl (by kernel_rfl) rfl ?_ ?_; rotate_left; focus (intro W hW; (try dsimp only at hW); go_split_ands; go_simp; (try (simp (disch := omega) only [IntWalk.i64_in]; (try go_simp))); (try (split; (next => omega); (try go_simp))); try rfl; done)); try simp only [Act.put, List.setIfInBounds_toArray, List.set_cons_zero, List.set_cons_succ, Nat.reduceAdd])
    refine pl_callx 5 (.bool false) rfl (by kernel_rfl) rfl (by exact (fun W hW => (Hhas.out W (hcw.trans hW.2.2.2)).mono fun e w' h => ⟨h.1, HS.out _ (hW.2.2.2.trans h.2)⟩)) (fun W => by kernel_rfl) ?_
    try simp only [Act.put, List.setIfInBounds_toArray, List.set_cons_zero, List.set_cons_succ, Nat.reduceAdd]
    iterate 2 ((refine pl_nx [] (v := ?_) rfl (by kernel_rfl) rfl ?_ ?_; rotate_left; focus (intro W hW; (try dsimp only at hW); go_split_ands; go_simp; (try (simp (disch := omega) only [IntWalk.i64_in]; (try go_simp))); (try (split; (next => omega); (try go_simp))); try rfl; done)); try simp only [Act.put, List.setIfInBounds_toArray, List.set_cons_zero, List.set_cons_succ, Nat.reduceAdd])
    iterate 5 ((first | (refine pl_nn [] rfl (by kernel_rfl) rfl ?_) | (refine pl_nx [] (v := ?_) rfl (by kernel_rfl) rfl ?_ ?_; rotate_left; focus (intro W hW; (try dsimp only at hW); go_split_ands; go_simp; (try (simp (disch := omega) only [IntWalk.i64_in]; (try go_simp))); (try (split; (next => omega); (try go_simp))); try rfl; done))); try simp only [Act.put, List.setIfInBounds_toArray, List.set_cons_zero, List.set_cons_succ, Nat.reduceAdd])
    refine pl_nox 10 (by kernel_rfl) rfl rfl ?_
    try simp only [Act.put, List.setIfInBounds_toArray, List.set_cons_zero, List.set_cons_succ, Nat.reduceAdd]
    ((first | (refine pl_nn [] rfl (by kernel_rfl) rfl ?_) | (refine pl_nx [] (v := ?_) rfl (by kernel_rfl) rfl ?_ ?_; rotate_left; focus (intro W hW; (try dsimp only at hW); go_split_ands; go_simp; (try (simp (disch := omega) only [IntWalk.i64_in]; (try go_simp))); (try (split; (next => omega); (try go_simp))); try rfl; done))); try simp only [Act.put, List.setIfInBounds_toArray, List.set_cons_zero, List.set_cons_succ, Nat.reduceAdd])
    ((refine pl_nx [] (v := ?_) rfl (by kernel_rfl) rfl ?_ ?_; rotate_left; focus (intro W hW; (try dsimp only at hW); go_split_ands; go_simp; (try (simp (disch := omega) only [IntWalk.i64_in]; (try go_simp))); (try (split; (next => omega); (try go_simp))); try rfl; done)); try simp only [Act.put, List.setIfInBounds_toArray, List.set_cons_zero, List.set_cons_succ, Nat.reduceAdd])
    refine pl_done (by kernel_rfl)  ?_
    rintro w2 ⟨-, -, -, h2⟩
    obtain rfl : res = (ps, false) := Hres.out
    have p2 := h2.obj o2 (not_no _)
    have p4 := h2.obj o4 (not_no _)
    have x0 := cell_obj (i := 0) p2 rfl
    have x1 := cell_obj (i := 1) p2 rfl
    have x2 := cell_obj (i := 2) p2 rfl
    have x3 := cell_obj (i := 3) p2 rfl
    have y0 := cell_obj (i := 0) p4 rfl
    have f0 := free_obj (i := 0) p4
    have y1 := cell_obj (i := 1) p4 rfl
    have f1 := free_obj (i := 1) p4
    have y2 := cell_obj (i := 2) p4 rfl
    have f2 := free_obj (i := 2) p4
    have y3 := cell_obj (i := 3) p4 rfl
    have f3 := free_obj (i := 3) p4
    clear p2
    go_wp2_with (with_reducible first | refine stop_append ?_ | refine stop_copy ?_ | refine stop_make ?_ | refine stop_lookup ?_ | refine stop_update ?_ | refine stop_slice ?_ | refine stop_range ?_ | refine stop_next ?_ | refine stop_convert ⟨_, rfl⟩ ?_ | refine stop_convertB ⟨_, _, _, rfl⟩ ?_ | refine stop_eqSlice ⟨_, _, rfl⟩ ?_)
    refine bodyPost_ret (v := .tuple #[.agg #[.int .i64 t, .slice A q.length c, .slice As ns cs, .slice AL ps.length cL], .bool false]) (by simp [results, Try.results12, go_sem, *]) rfl ?_
    obtain ⟨-, kF⟩ := sset4 p4 (.int .i64 t) (.slice A q.length c) (.slice As ns cs) (.slice AL ps.length cL)
    exact HN.out _ _ (hcw.trans h2) kF
  by_cases hcl : ch = l.length
  rotate_left
  focus
    have hcl2 : ((ch : Int) != (l.length : Int)) = true := by simp; omega
    obtain rfl : res = (ps, false) := by rw [Hres.out]; simp [hcl]
    clear hcl
    refine pl_start (fun W => W.cell? ⟨w.heap.size, 1, none⟩ = some (.slice A q.length c) ∧ W.cell? ⟨w.heap.size + 1, 0, none⟩ = some (.int .i64 n) ∧ W.cell? ⟨w.heap.size + 1, 1, none⟩ = some (.slice Al l.length cl) ∧ Chg No w1 W) (by kernel_rfl) (by kernel_rfl) (HS.out _ cd) ?_
    iterate 5 ((refine pl_nx [] (v := ?_) rfl (by kernel_rfl) rfl ?_ ?_; rotate_left; focus (intro W hW; (try dsimp only at hW); go_split_ands; go_simp; (try (simp (disch := omega) only [IntWalk.i64_in]; (try go_simp))); (try (split; (next => omega); (try go_simp))); try rfl; done)); try simp only [Act.put, List.setIfInBounds_toArray, List.set_cons_zero, List.set_cons_succ, Nat.reduceAdd])
    refine pl_callx 5 (.bool true) rfl (by kernel_rfl) rfl (by exact (fun W hW => (Hhas.out W (hcw.trans hW.2.2.2)).mono fun e w' h => ⟨h.1, HS.out _ (hW.2.2.2.trans h.2)⟩)) (fun W => by kernel_rfl) ?_
    try simp only [Act.put, List.setIfInBounds_toArray, List.set_cons_zero, List.set_cons_succ, Nat.reduceAdd]
    iterate 2 ((refine pl_nx [] (v := ?_) rfl (by kernel_rfl) rfl ?_ ?_; rotate_left; focus (intro W hW; (try dsimp only at hW); go_split_ands; go_simp; (try (simp (disch := omega) only [IntWalk.i64_in]; (try go_simp))); (try (split; (next => omega); (try go_simp))); try rfl; done)); try simp only [Act.put, List.setIfInBounds_toArray, List.set_cons_zero, List.set_cons_succ, Nat.reduceAdd])
    iterate 5 ((first | (refine pl_nn [] rfl (by kernel_rfl) rfl ?_) | (refine pl_nx [] (v := ?_) rfl (by kernel_rfl) rfl ?_ ?_; rotate_left; focus (intro W hW; (try dsimp only at hW); go_split_ands; go_simp; (try (simp (disch := omega) only [IntWalk.i64_in]; (try go_simp))); (try (split; (next => omega); (try go_simp))); try rfl; done))); try simp only [Act.put, List.setIfInBounds_toArray, List.set_cons_zero, List.set_cons_succ, Nat.reduceAdd])
    refine pl_callx 10 (.int .i64 ch) rfl (by kernel_rfl) rfl (by exact (fun W hW => (Hch.out W (hcw.trans hW.2.2.2)).mono fun e w' h => ⟨h.1, HS.out _ (hW.2.2.2.trans h.2)⟩)) (fun W => by kernel_rfl) ?_
    try simp only [Act.put, List.setIfInBounds_toArray, List.set_cons_zero, List.set_cons_succ, Nat.reduceAdd]
    ((first | (refine pl_nn [] rfl (by kernel_rfl) rfl ?_) | (refine pl_nx [] (v := ?_) rfl (by kernel_rfl) rfl ?_ ?_; rotate_left; focus (intro W hW; (try dsimp only at hW); go_split_ands; go_simp; (try (simp (disch := omega) only [IntWalk.i64_in]; (try go_simp))); (try (split; (next => omega); (try go_simp))); try rfl; done))); try simp only [Act.put, List.setIfInBounds_toArray, List.set_cons_zero, List.set_cons_succ, Nat.reduceAdd])
    ((refine pl_nx [] (v := ?_) rfl (by kernel_rfl) rfl ?_ ?_; rotate_left; focus (intro W hW; (try dsimp only at hW); go_split_ands; go_simp; (try (simp (disch := omega) only [IntWalk.i64_in]; (try go_simp))); (try (split; (next => omega); (try go_simp))); try rfl; done)); try simp only [Act.put, List.setIfInBounds_toArray, List.set_cons_zero, List.set_cons_succ, Nat.reduceAdd])
    refine pl_done (by kernel_rfl)  ?_
    rintro w2 ⟨-, -, -, h2⟩
    have p2 := h2.obj o2 (not_no _)
    have p4 := h2.obj o4 (not_no _)
    have x0 := cell_obj (i := 0) p2 rfl
    have x1 := cell_obj (i := 1) p2 rfl
    have x2 := cell_obj (i := 2) p2 rfl
    have x3 := cell_obj (i := 3) p2 rfl
    have y0 := cell_obj (i := 0) p4 rfl
    have f0 := free_obj (i := 0) p4
    have y1 := cell_obj (i := 1) p4 rfl
    have f1 := free_obj (i := 1) p4
    have y2 := cell_obj (i := 2) p4 rfl
    have f2 := free_obj (i := 2) p4
    have y3 := cell_obj (i := 3) p4 rfl
    have f3 := free_obj (i := 3) p4
    clear p2
    go_wp2_with (with_reducible first | refine stop_append ?_ | refine stop_copy ?_ | refine stop_make ?_ | refine stop_lookup ?_ | refine stop_update ?_ | refine stop_slice ?_ | refine stop_range ?_ | refine stop_next ?_ | refine stop_convert ⟨_, rfl⟩ ?_ | refine stop_convertB ⟨_, _, _, rfl⟩ ?_ | refine stop_eqSlice ⟨_, _, rfl⟩ ?_)
    refine bodyPost_ret (v := .tuple #[.agg #[.int .i64 t, .slice A q.length c, .slice As ns cs, .slice AL ps.length cL], .bool false]) (by simp [results, Try.results12, go_sem, *]) rfl ?_
    obtain ⟨-, kF⟩ := sset4 p4 (.int .i64 t) (.slice A q.length c) (.slice As ns cs) (.slice AL ps.length cL)
    exact HN.out _ _ (hcw.trans h2) kF
  subst hcl
  simp only [decide_true, Bool.true_and] at Hres
  refine pl_start (fun W => W.cell? ⟨w.heap.size, 1, none⟩ = some (.slice A q.length c) ∧ W.cell? ⟨w.heap.size + 1, 0, none⟩ = some (.int .i64 n) ∧ W.cell? ⟨w.heap.size + 1, 1, none⟩ = some (.slice Al l.length cl) ∧ Chg No w1 W) (by kernel_rfl) (by kernel_rfl) (HS.out _ cd) ?_
  iterate 5 ((refine pl_nx [] (v := ?_) rfl (by kernel_rfl) rfl ?_ ?_; rotate_left; focus (intro W hW; (try dsimp only at hW); go_split_ands; go_simp; (try (simp (disch := omega) only [IntWalk.i64_in]; (try go_simp))); (try (split; (next => omega); (try go_simp))); try rfl; done)); try simp only [Act.put, List.setIfInBounds_toArray, List.set_cons_zero, List.set_cons_succ, Nat.reduceAdd])
  refine pl_callx 5 (.bool true) rfl (by kernel_rfl) rfl (by exact (fun W hW => (Hhas.out W (hcw.trans hW.2.2.2)).mono fun e w' h => ⟨h.1, HS.out _ (hW.2.2.2.trans h.2)⟩)) (fun W => by kernel_rfl) ?_
  try simp only [Act.put, List.setIfInBounds_toArray, List.set_cons_zero, List.set_cons_succ, Nat.reduceAdd]
  iterate 2 ((refine pl_nx [] (v := ?_) rfl (by kernel_rfl) rfl ?_ ?_; rotate_left; focus (intro W hW; (try dsimp only at hW); go_split_ands; go_simp; (try (simp (disch := omega) only [IntWalk.i64_in]; (try go_simp))); (try (split; (next => omega); (try go_simp))); try rfl; done)); try simp only [Act.put, List.setIfInBounds_toArray, List.set_cons_zero, List.set_cons_succ, Nat.reduceAdd])
  iterate 5 ((first | (refine pl_nn [] rfl (by kernel_rfl) rfl ?_) | (refine pl_nx [] (v := ?_) rfl (by kernel_rfl) rfl ?_ ?_; rotate_left; focus (intro W hW; (try dsimp only at hW); go_split_ands; go_simp; (try (simp (disch := omega) only [IntWalk.i64_in]; (try go_simp))); (try (split; (next => omega); (try go_simp))); try rfl; done))); try simp only [Act.put, List.setIfInBounds_toArray, List.set_cons_zero, List.set_cons_succ, Nat.reduceAdd])
  refine pl_callx 10 (.int .i64 l.length) rfl (by kernel_rfl) rfl (by exact (fun W hW => (Hch.out W (hcw.trans hW.2.2.2)).mono fun e w' h => ⟨h.1, HS.out _ (hW.2.2.2.trans h.2)⟩)) (fun W => by kernel_rfl) ?_
  try simp only [Act.put, List.setIfInBounds_toArray, List.set_cons_zero, List.set_cons_succ, Nat.reduceAdd]
  ((first | (refine pl_nn [] rfl (by kernel_rfl) rfl ?_) | (refine pl_nx [] (v := ?_) rfl (by kernel_rfl) rfl ?_ ?_; rotate_left; focus (intro W hW; (try dsimp only at hW); go_split_ands; go_simp; (try (simp (disch := omega) only [IntWalk.i64_in]; (try go_simp))); (try (split; (next => omega); (try go_simp))); try rfl; done))); try simp only [Act.put, List.setIfInBounds_toArray, List.set_cons_zero, List.set_cons_succ, Nat.reduceAdd])
  ((refine pl_nx [] (v := ?_) rfl (by kernel_rfl) rfl ?_ ?_; rotate_left; focus (intro W hW; (try dsimp only at hW); go_split_ands; go_simp; (try (simp (disch := omega) only [IntWalk.i64_in]; (try go_simp))); (try (split; (next => omega); (try go_simp))); try rfl; done)); try simp only [Act.put, List.setIfInBounds_toArray, List.set_cons_zero, List.set_cons_succ, Nat.reduceAdd])
  refine pl_done (by kernel_rfl)  ?_
  rintro w2 ⟨-, -, -, h2⟩
  clear cd HS Hhas Hch
  have HO2 := Lib.hid (fun W (hW : Chg No w1 W) => hW.obj o2 (not_no _))
  have HO3 := Lib.hid (fun W (hW : Chg No w1 W) => hW.obj o3 (not_no _))
  have HO4 := Lib.hid (fun W (hW : Chg No w1 W) => hW.obj o4 (not_no _))
  clear o2 o3 o4
  go_wp2_with (with_reducible first | refine stop_append ?_ | refine stop_copy ?_ | refine stop_make ?_ | refine stop_lookup ?_ | refine stop_update ?_ | refine stop_slice ?_ | refine stop_range ?_ | refine stop_next ?_ | refine stop_convert ⟨_, rfl⟩ ?_ | refine stop_convertB ⟨_, _, _, rfl⟩ ?_ | refine stop_eqSlice ⟨_, _, rfl⟩ ?_)
  go_loopw [6] (fun v6 wr => ∃ k : Nat, k ≤ ps.length ∧ v6 = .int .i64 k ∧ Chg No w1 wr ∧ ((ps.take k).all fun p => !decide (p.1 = n) && agreeB p.2 l) = true) (fun v6 _ => ps.length - (intOf v6).toNat)
  case atStart => exact ⟨0, by omega, rfl, h2, rfl⟩
  case round =>
    obtain ⟨k, hk, rfl, hc, hall⟩ := hrel
    have Hall := Lib.hid hall
    clear hall
    have q3 := cell_obj (i := 3) (HO2.out _ hc) rfl
    by_cases hlt : k < ps.length
    · obtain ⟨b5, o5, vl, rfl, _, hbl, hvl, d0, d1⟩ := part_get (HL.out _ (hcw.trans hc)) k hlt
      have Hst := Lib.hid (show ((ps.take (k + 1)).all fun p => !decide (p.1 = n) && agreeB p.2 l) = (!decide (ps[k].1 = n) && agreeB ps[k].2 l) by
        rw [List.take_succ_eq_append_getElem hlt, List.all_append, Hall.out]; simp)
      have Hno := Lib.hid (show (!decide (ps[k].1 = n) && agreeB ps[k].2 l) = false → res = (ps, false) from fun hf => by
        rw [Hres.out]
        rw [if_neg]
        intro h
        rw [List.all_eq_true] at h
        have := h _ (List.getElem_mem hlt)
        rw [hf] at this; cases this)
      have Hagk := Lib.hid (fun W (hW : Chg No wr W) => Hag.out W (hcw.trans (hc.trans hW)) k hlt vl (hvl.keepNo hW))
      obtain ⟨A5, c5, rfl⟩ := hvl.slice
      clear hvl Hag
      generalize ps[k] = x at *
      obtain ⟨n1, l1⟩ := x
      simp only at d0 d1 Hst Hno Hagk
      generalize agreeB l1 l = ag at *
      have p30 := cell_obj (i := 0) (HO3.out _ hc) rfl
      have p31 := cell_obj (i := 1) (HO3.out _ hc) rfl
      have cd := (Chg.refl No wr).drew
      have HS := Lib.hid (show ∀ W, Chg No wr W → (fun W => W.cell? ⟨w.heap.size, 3, none⟩ = some (.slice (some ⟨b5, o5, none⟩) ps.length cL) ∧ W.cell? ⟨w.heap.size + 1, 0, none⟩ = some (.int .i64 n) ∧ W.cell? ⟨w.heap.size + 1, 1, none⟩ = some (.slice Al l.length cl) ∧ W.cell? ⟨b5, o5 + k * 2, none⟩ = some (.int .i64 n1) ∧ W.cell? ⟨b5, o5 + k * 2 + 1, none⟩ = some (.slice A5 l1.length c5) ∧ Chg No wr W) W from fun W hW => ⟨hW.cell q3 (not_no _), hW.cell p30 (not_no _), hW.cell p31 (not_no _), hW.cell d0 (not_no _), hW.cell d1 (not_no _), hW⟩)
      by_cases hn : n1 = n
      focus
        have hn2 : (n1 == n) = true := by simpa using hn
        have hdn : decide (n1 = n) = true := decide_eq_true hn
        rw [hdn] at Hno
        obtain rfl : res = (ps, false) := Hno.out rfl
        clear hn hdn
        go_wp2_with (with_reducible first | refine stop_append ?_ | refine stop_copy ?_ | refine stop_make ?_ | refine stop_lookup ?_ | refine stop_update ?_ | refine stop_slice ?_ | refine stop_range ?_ | refine stop_next ?_ | refine stop_convert ⟨_, rfl⟩ ?_ | refine stop_convertB ⟨_, _, _, rfl⟩ ?_ | refine stop_eqSlice ⟨_, _, rfl⟩ ?_)
        clear q3 d0 d1 p30 p31
        refine pl_start (fun W => W.cell? ⟨w.heap.size, 3, none⟩ = some (.slice (some ⟨b5, o5, none⟩) ps.length cL) ∧ W.cell? ⟨w.heap.size + 1, 0, none⟩ = some (.int .i64 n) ∧ W.cell? ⟨w.heap.size + 1, 1, none⟩ = some (.slice Al l.length cl) ∧ W.cell? ⟨b5, o5 + k * 2, none⟩ = some (.int .i64 n1) ∧ W.cell? ⟨b5, o5 + k * 2 + 1, none⟩ = some (.slice A5 l1.length c5) ∧ Chg No wr W) (by kernel_rfl) (by kernel_rfl) (HS.out _ cd) ?_
        iterate 10 ((refine pl_nx [] (v := ?_) rfl (by kernel_rfl) rfl ?_ ?_; rotate_left; focus (intro W hW; (try dsimp only at hW); go_split_ands; go_simp; (try (simp (disch := omega) only [IntWalk.i64_in]; (try go_simp))); (try (split; (next => omega); (try go_simp))); try rfl; done)); try simp only [Act.put, List.setIfInBounds_toArray, List.set_cons_zero, List.set_cons_succ, Nat.reduceAdd])
        iterate 8 ((first | (refine pl_nn [] rfl (by kernel_rfl) rfl ?_) | (refine pl_nx [] (v := ?_) rfl (by kernel_rfl) rfl ?_ ?_; rotate_left; focus (intro W hW; (try dsimp only at hW); go_split_ands; go_simp; (try (simp (disch := omega) only [IntWalk.i64_in]; (try go_simp))); (try (split; (next => omega); (try go_simp))); try rfl; done))); try simp only [Act.put, List.setIfInBounds_toArray, List.set_cons_zero, List.set_cons_succ, Nat.reduceAdd])
        refine pl_nox 18 (by kernel_rfl) rfl rfl ?_
        try simp only [Act.put, List.setIfInBounds_toArray, List.set_cons_zero, List.set_cons_succ, Nat.reduceAdd]
        ((first | (refine pl_nn [] rfl (by kernel_rfl) rfl ?_) | (refine pl_nx [] (v := ?_) rfl (by kernel_rfl) rfl ?_ ?_; rotate_left; focus (intro W hW; (try dsimp only at hW); go_split_ands; go_simp; (try (simp (disch := omega) only [IntWalk.i64_in]; (try go_simp))); (try (split; (next => omega); (try go_simp))); try rfl; done))); try simp only [Act.put, List.setIfInBounds_toArray, List.set_cons_zero, List.set_cons_succ, Nat.reduceAdd])
        ((refine pl_nx [] (v := ?_) rfl (by kernel_rfl) rfl ?_ ?_; rotate_left; focus (intro W hW; (try dsimp only at hW); go_split_ands; go_simp; (try (simp (disch := omega) only [IntWalk.i64_in]; (try go_simp))); (try (split; (next => omega); (try go_simp))); try rfl; done)); try simp only [Act.put, List.setIfInBounds_toArray, List.set_cons_zero, List.set_cons_succ, Nat.reduceAdd])
        refine pl_done (by kernel_rfl)  ?_
        rintro w3 ⟨-, -, -, -, -, h3⟩
        have o2 := HO2.out _ (hc.trans h3)
        have o4 := HO4.out _ (hc.trans h3)
        have h0 := Chg.refl No w3
        have hcw3 := hcw.trans (hc.trans h3)
        have x0 := cell_obj (i := 0) o2 rfl
        have x1 := cell_obj (i := 1) o2 rfl
        have x2 := cell_obj (i := 2) o2 rfl
        have x3 := cell_obj (i := 3) o2 rfl
        have y0 := cell_obj (i := 0) o4 rfl
        have f0 := free_obj (i := 0) o4
        have y1 := cell_obj (i := 1) o4 rfl
        have f1 := free_obj (i := 1) o4
        have y2 := cell_obj (i := 2) o4 rfl
        have f2 := free_obj (i := 2) o4
        have y3 := cell_obj (i := 3) o4 rfl
        have f3 := free_obj (i := 3) o4
        go_wp2_with (with_reducible first | refine stop_append ?_ | refine stop_copy ?_ | refine stop_make ?_ | refine stop_lookup ?_ | refine stop_update ?_ | refine stop_slice ?_ | refine stop_range ?_ | refine stop_next ?_ | refine stop_convert ⟨_, rfl⟩ ?_ | refine stop_convertB ⟨_, _, _, rfl⟩ ?_ | refine stop_eqSlice ⟨_, _, rfl⟩ ?_)
        refine bodyPost_ret (v := .tuple #[.agg #[.int .i64 t, .slice A q.length c, .slice As ns cs, .slice (some ⟨b5, o5, none⟩) ps.length cL], .bool false]) (by simp [results, Try.results12, go_sem, *]) rfl ?_
        obtain ⟨-, kF⟩ := sset4 o4 (.int .i64 t) (.slice A q.length c) (.slice As ns cs) (.slice (some ⟨b5, o5, none⟩) ps.length cL)
        exact HN.out _ _ hcw3 kF
      have hn2 : (n1 == n) = false := by simpa using hn
      have hdn : decide (n1 = n) = false := decide_eq_false hn
      rw [hdn] at Hst Hno
      simp only [Bool.not_false, Bool.true_and] at Hst Hno
      clear hn hdn
      go_wp2_with (with_reducible first | refine stop_append ?_ | refine stop_copy ?_ | refine stop_make ?_ | refine stop_lookup ?_ | refine stop_update ?_ | refine stop_slice ?_ | refine stop_range ?_ | refine stop_next ?_ | refine stop_convert ⟨_, rfl⟩ ?_ | refine stop_convertB ⟨_, _, _, rfl⟩ ?_ | refine stop_eqSlice ⟨_, _, rfl⟩ ?_)
      clear q3 d0 d1 p30 p31
      cases ag
      focus
        obtain rfl : res = (ps, false) := Hno.out rfl
        refine pl_start (fun W => W.cell? ⟨w.heap.size, 3, none⟩ = some (.slice (some ⟨b5, o5, none⟩) ps.length cL) ∧ W.cell? ⟨w.heap.size + 1, 0, none⟩ = some (.int .i64 n) ∧ W.cell? ⟨w.heap.size + 1, 1, none⟩ = some (.slice Al l.length cl) ∧ W.cell? ⟨b5, o5 + k * 2, none⟩ = some (.int .i64 n1) ∧ W.cell? ⟨b5, o5 + k * 2 + 1, none⟩ = some (.slice A5 l1.length c5) ∧ Chg No wr W) (by kernel_rfl) (by kernel_rfl) (HS.out _ cd) ?_
        iterate 10 ((refine pl_nx [] (v := ?_) rfl (by kernel_rfl) rfl ?_ ?_; rotate_left; focus (intro W hW; (try dsimp only at hW); go_split_ands; go_simp; (try (simp (disch := omega) only [IntWalk.i64_in]; (try go_simp))); (try (split; (next => omega); (try go_simp))); try rfl; done)); try simp only [Act.put, List.setIfInBounds_toArray, List.set_cons_zero, List.set_cons_succ, Nat.reduceAdd])
        iterate 8 ((first | (refine pl_nn [] rfl (by kernel_rfl) rfl ?_) | (refine pl_nx [] (v := ?_) rfl (by kernel_rfl) rfl ?_ ?_; rotate_left; focus (intro W hW; (try dsimp only at hW); go_split_ands; go_simp; (try (simp (disch := omega) only [IntWalk.i64_in]; (try go_simp))); (try (split; (next => omega); (try go_simp))); try rfl; done))); try simp only [Act.put, List.setIfInBounds_toArray, List.set_cons_zero, List.set_cons_succ, Nat.reduceAdd])
        refine pl_callx 18 (.bool false) rfl (by kernel_rfl) rfl (by exact (fun W hW => (Hagk.out W hW.2.2.2.2.2).mono fun e w' h => ⟨h.1, HS.out _ (hW.2.2.2.2.2.trans h.2)⟩)) (fun W => by kernel_rfl) ?_
        try simp only [Act.put, List.setIfInBounds_toArray, List.set_cons_zero, List.set_cons_succ, Nat.reduceAdd]
        ((first | (refine pl_nn [] rfl (by kernel_rfl) rfl ?_) | (refine pl_nx [] (v := ?_) rfl (by kernel_rfl) rfl ?_ ?_; rotate_left; focus (intro W hW; (try dsimp only at hW); go_split_ands; go_simp; (try (simp (disch := omega) only [IntWalk.i64_in]; (try go_simp))); (try (split; (next => omega); (try go_simp))); try rfl; done))); try simp only [Act.put, List.setIfInBounds_toArray, List.set_cons_zero, List.set_cons_succ, Nat.reduceAdd])
        ((refine pl_nx [] (v := ?_) rfl (by kernel_rfl) rfl ?_ ?_; rotate_left; focus (intro W hW; (try dsimp only at hW); go_split_ands; go_simp; (try (simp (disch := omega) only [IntWalk.i64_in]; (try go_simp))); (try (split; (next => omega); (try go_simp))); try rfl; done)); try simp only [Act.put, List.setIfInBounds_toArray, List.set_cons_zero, List.set_cons_succ, Nat.reduceAdd])
        refine pl_done (by kernel_rfl)  ?_
        rintro w3 ⟨-, -, -, -, -, h3⟩
        have o2 := HO2.out _ (hc.trans h3)
        have o4 := HO4.out _ (hc.trans h3)
        have hcw3 := hcw.trans (hc.trans h3)
        have x0 := cell_obj (i := 0) o2 rfl
        have x1 := cell_obj (i := 1) o2 rfl
        have x2 := cell_obj (i := 2) o2 rfl
        have x3 := cell_obj (i := 3) o2 rfl
        have y0 := cell_obj (i := 0) o4 rfl
        have f0 := free_obj (i := 0) o4
        have y1 := cell_obj (i := 1) o4 rfl
        have f1 := free_obj (i := 1) o4
        have y2 := cell_obj (i := 2) o4 rfl
        have f2 := free_obj (i := 2) o4
        have y3 := cell_obj (i := 3) o4 rfl
        have f3 := free_obj (i := 3) o4
        go_wp2_with (with_reducible first | refine stop_append ?_ | refine stop_copy ?_ | refine stop_make ?_ | refine stop_lookup ?_ | refine stop_update ?_ | refine stop_slice ?_ | refine stop_range ?_ | refine stop_next ?_ | refine stop_convert ⟨_, rfl⟩ ?_ | refine stop_convertB ⟨_, _, _, rfl⟩ ?_ | refine stop_eqSlice ⟨_, _, rfl⟩ ?_)
        refine bodyPost_ret (v := .tuple #[.agg #[.int .i64 t, .slice A q.length c, .slice As ns cs, .slice (some ⟨b5, o5, none⟩) ps.length cL], .bool false]) (by simp [results, Try.results12, go_sem, *]) rfl ?_
        obtain ⟨-, kF⟩ := sset4 o4 (.int .i64 t) (.slice A q.length c) (.slice As ns cs) (.slice (some ⟨b5, o5, none⟩) ps.length cL)
        exact HN.out _ _ hcw3 kF
      focus
        refine pl_start (fun W => W.cell? ⟨w.heap.size, 3, none⟩ = some (.slice (some ⟨b5, o5, none⟩) ps.length cL) ∧ W.cell? ⟨w.heap.size + 1, 0, none⟩ = some (.int .i64 n) ∧ W.cell? ⟨w.heap.size + 1, 1, none⟩ = some (.slice Al l.length cl) ∧ W.cell? ⟨b5, o5 + k * 2, none⟩ = some (.int .i64 n1) ∧ W.cell? ⟨b5, o5 + k * 2 + 1, none⟩ = some (.slice A5 l1.length c5) ∧ Chg No wr W) (by kernel_rfl) (by kernel_rfl) (HS.out _ cd) ?_
        iterate 10 ((refine pl_nx [] (v := ?_) rfl (by kernel_rfl) rfl ?_ ?_; rotate_left; focus (intro W hW; (try dsimp only at hW); go_split_ands; go_simp; (try (simp (disch := omega) only [IntWalk.i64_in]; (try go_simp))); (try (split; (next => omega); (try go_simp))); try rfl; done)); try simp only [Act.put, List.setIfInBounds_toArray, List.set_cons_zero, List.set_cons_succ, Nat.reduceAdd])
        iterate 8 ((first | (refine pl_nn [] rfl (by kernel_rfl) rfl ?_) | (refine pl_nx [] (v := ?_) rfl (by kernel_rfl) rfl ?_ ?_; rotate_left; focus (intro W hW; (try dsimp only at hW); go_split_ands; go_simp; (try (simp (disch := omega) only [IntWalk.i64_in]; (try go_simp))); (try (split; (next => omega); (try go_simp))); try rfl; done))); try simp only [Act.put, List.setIfInBounds_toArray, List.set_cons_zero, List.set_cons_succ, Nat.reduceAdd])
        refine pl_callx 18 (.bool true) rfl (by kernel_rfl) rfl (by exact (fun W hW => (Hagk.out W hW.2.2.2.2.2).mono fun e w' h => ⟨h.1, HS.out _ (hW.2.2.2.2.2.trans h.2)⟩)) (fun W => by kernel_rfl) ?_
        try simp only [Act.put, List.setIfInBounds_toArray, List.set_cons_zero, List.set_cons_succ, Nat.reduceAdd]
        ((first | (refine pl_nn [] rfl (by kernel_rfl) rfl ?_) | (refine pl_nx [] (v := ?_) rfl (by kernel_rfl) rfl ?_ ?_; rotate_left; focus (intro W hW; (try dsimp only at hW); go_split_ands; go_simp; (try (simp (disch := omega) only [IntWalk.i64_in]; (try go_simp))); (try (split; (next => omega); (try go_simp))); try rfl; done))); try simp only [Act.put, List.setIfInBounds_toArray, List.set_cons_zero, List.set_cons_succ, Nat.reduceAdd])
        ((refine pl_nx [] (v := ?_) rfl (by kernel_rfl) rfl ?_ ?_; rotate_left; focus (intro W hW; (try dsimp only at hW); go_split_ands; go_simp; (try (simp (disch := omega) only [IntWalk.i64_in]; (try go_simp))); (try (split; (next => omega); (try go_simp))); try rfl; done)); try simp only [Act.put, List.setIfInBounds_toArray, List.set_cons_zero, List.set_cons_succ, Nat.reduceAdd])
        refine pl_done (by kernel_rfl)  ?_
        rintro w3 ⟨-, -, -, -, -, h3⟩
        have hcr := hc.trans h3
        go_wp2_with (with_reducible first | refine stop_append ?_ | refine stop_copy ?_ | refine stop_make ?_ | refine stop_lookup ?_ | refine stop_update ?_ | refine stop_slice ?_ | refine stop_range ?_ | refine stop_next ?_ | refine stop_convert ⟨_, rfl⟩ ?_ | refine stop_convertB ⟨_, _, _, rfl⟩ ?_ | refine stop_eqSlice ⟨_, _, rfl⟩ ?_)
        go_roundw
        case rel => exact ⟨k + 1, by omega, by go_num, hcr, Hst.out⟩
        case measure => simp [intOf]; omega
    · obtain rfl : k = ps.length := by omega
      have hall := Hall.out
      rw [List.take_length] at hall
      obtain rfl : res = (ps ++ [(n, l)], true) := by rw [Hres.out, if_pos hall]
      clear hall
      have HLr := Lib.hid (HG.out _ (hcw.trans hc))
      have Hvr := Lib.hid (Hvl.out _ (hcw.trans hc))
      have hFw : ∀ k, F k → k < w.heap.size := HF.out
      have p2 := HO2.out _ hc
      have p3 := HO3.out _ hc
      have p4 := HO4.out _ hc
      have hzw := (hcw.trans hc).size
      have hb4 := lt_of_heap p4
      obtain ⟨wB, rfl⟩ : ∃ W : World, W = wr := ⟨_, rfl⟩
      have own0 := Cb.Own.made0 (α := Part) (fun k => F k ∨ k = w.heap.size ∨ k = w.heap.size + 1 + 1) wB 29
      have hcE := (Chg.refl No wB).alloc (.cells #[] 29)
      have hy0 := HLr.out.keepNo hcE
      have Hb4 := Lib.hid hb4
      have q3E := cell_obj (i := 3) (hcE.obj p2 (not_no _)) rfl
      clear hb4
      go_wp2_with (with_reducible first | refine stop_append ?_ | refine stop_copy ?_ | refine stop_make ?_ | refine stop_lookup ?_ | refine stop_update ?_ | refine stop_slice ?_ | refine stop_range ?_ | refine stop_next ?_ | refine stop_convert ⟨_, rfl⟩ ?_ | refine stop_convertB ⟨_, _, _, rfl⟩ ?_ | refine stop_eqSlice ⟨_, _, rfl⟩ ?_)
      clear q3
      refine step_append_sl (α := Part) (F := fun k => F k ∨ k = w.heap.size ∨ k = w.heap.size + 1 + 1) (G := Or (fun k => F k ∨ k = w.heap.size ∨ k = w.heap.size + 1 + 1) (At wB.heap.size)) Try.underlying26 info_part rfl own0 rfl rfl (hy0.weak (fun b _ h => by
        rcases h with (h | h | h) | h
        · exact .inl h
        · exact .inr (by omega)
        · exact .inr (by omega)
        · simp only [At] at h; exact .inr (by omega))) (fun b _ h => by
        rcases h with h | h
        · exact .inl h
        · simp only [OB, Value.ownBlock, Option.some.injEq] at h; exact .inr h.symm) (by simp; omega) (by simp; omega) (by simp) ?_
      intro v5 w5 own5 hg5
      rw [List.nil_append] at own5
      have hcB5 : Chg No wB w5 := hcE.grew hg5 (fun k hk => by simp only [Value.ownBlock, Option.some.injEq] at hk; exact .inr (by omega))
      have Own5 := Lib.hid own5
      obtain ⟨A5, c5, rfl⟩ := own5.slice
      have q3 := hcB5.obj p3 (not_no _)
      have d0 := cell_obj (i := 0) q3 rfl
      have d1 := cell_obj (i := 1) q3 rfl
      clear own0 hcE hy0 own5 hg5 q3 q3E
      have hcb := (Chg.refl No w5).alloc (.cells #[.int .i64 n, .slice Al l.length cl] 29)
      have hlit : Sl (Or (fun k => F k ∨ k = w.heap.size ∨ k = w.heap.size + 1 + 1) (OB (.slice A5 ps.length c5))) (w5.alloc (.cells #[.int .i64 n, .slice Al l.length cl] 29)) (.slice (some ⟨w5.heap.size, 0, none⟩) 1 1) [((n, l) : Part)] :=
        Sl.lit1 (d := [.int .i64 n, .slice Al l.length cl]) rfl ⟨[.int .i64 n], [.slice Al l.length cl], rfl, rfl, _, rfl, (Hvr.out.keepNo hcB5).weak (fun k _ g => by
          rcases g with (g | g | g) | g
          · exact .inl g
          · exact .inr (by omega)
          · exact .inr (by omega)
          · have := (Own5.out.lt k g).1; exact .inr (by omega))⟩ (fun g => by
          have := hcB5.size; have := Hb4.out
          rcases g with (g | g | g) | g
          · have := hFw _ g; omega
          · omega
          · omega
          · have := (Own5.out.lt _ g).2; omega)
      have p25 := (hcB5.trans hcb).obj p2 (not_no _)
      have a0 := cell_obj (i := 0) p25 rfl
      have g0 := free_obj (i := 0) p25
      have a1 := cell_obj (i := 1) p25 rfl
      have g1 := free_obj (i := 1) p25
      have a2 := cell_obj (i := 2) p25 rfl
      have g2 := free_obj (i := 2) p25
      have a3 := cell_obj (i := 3) p25 rfl
      have g3 := free_obj (i := 3) p25
      go_wp2_with (with_reducible first | refine stop_append ?_ | refine stop_copy ?_ | refine stop_make ?_ | refine stop_lookup ?_ | refine stop_update ?_ | refine stop_slice ?_ | refine stop_range ?_ | refine stop_next ?_ | refine stop_convert ⟨_, rfl⟩ ?_ | refine stop_convertB ⟨_, _, _, rfl⟩ ?_ | refine stop_eqSlice ⟨_, _, rfl⟩ ?_)
      refine step_append_sl (α := Part) (F := fun k => F k ∨ k = w.heap.size ∨ k = w.heap.size + 1 + 1) (G := Or (fun k => F k ∨ k = w.heap.size ∨ k = w.heap.size + 1 + 1) (OB (.slice A5 ps.length c5))) Try.underlying26 info_part rfl (Own5.out.keep hcb (fun _ _ f => f.elim) (fun _ _ f => f)) rfl rfl hlit (fun i _ hi => hi) (by simp; omega) (by simp; omega) (by have := hcB5.size; have := hcb.size; omega) ?_
      intro v6 w6 own6 hg6
      have hcB6 : Chg No wB w6 := (hcB5.trans hcb).grew hg6 (fun k hk => .inr (Own5.out.lt k hk).1)
      have Hsl6 := Lib.hid (own6.sl (fun k hk f => by have := (own6.lt k hk).1; have := Hb4.out; rcases f with f | f | f; (have := HF.out k f; omega); omega; omega))
      have Hlt6 := Lib.hid own6.lt
      obtain ⟨A6, c6, e6⟩ := own6.slice
      rw [List.length_append] at e6
      simp only [List.length_cons, List.length_nil, Nat.zero_add] at e6
      subst e6
      have p26 := hcB6.obj p2 (not_no _)
      have p46 := hcB6.obj p4 (not_no _)
      have Hcw6 := Lib.hid ((hcw.trans hc).trans hcB6)
      clear own6 hg6 hlit a0 a1 a2 a3 g0 g1 g2 g3 p25 d0 d1 p2 p3 p4 hcb
      have a0 := cell_obj (i := 0) p26 rfl
      have g0 := free_obj (i := 0) p26
      have a1 := cell_obj (i := 1) p26 rfl
      have g1 := free_obj (i := 1) p26
      have a2 := cell_obj (i := 2) p26 rfl
      have g2 := free_obj (i := 2) p26
      have a3 := cell_obj (i := 3) p26 rfl
      have g3 := free_obj (i := 3) p26
      have y0 := cell_obj (i := 0) p46 rfl
      have f0 := free_obj (i := 0) p46
      have y1 := cell_obj (i := 1) p46 rfl
      have f1 := free_obj (i := 1) p46
      have y2 := cell_obj (i := 2) p46 rfl
      have f2 := free_obj (i := 2) p46
      have y3 := cell_obj (i := 3) p46 rfl
      have f3 := free_obj (i := 3) p46
      have hne : w.heap.size ≠ w.heap.size + 1 + 1 := by omega
      have hne2 : w.heap.size + 1 + 1 ≠ w.heap.size := by omega
      have k7 := chg_set (w := w6) (b := w.heap.size) (i := 3) (.slice A6 (ps.length + 1) c6)
      have p27 := obj_set (i := 3) (u := .slice A6 (ps.length + 1) c6) p26 rfl
      have p47 := k7.obj p46 (fun g => hne2 g)
      have Hp47 := Lib.hid p47
      have K7 := Lib.hid k7
      clear p27 k7 p47
      go_wp2_with (with_reducible first | refine stop_append ?_ | refine stop_copy ?_ | refine stop_make ?_ | refine stop_lookup ?_ | refine stop_update ?_ | refine stop_slice ?_ | refine stop_range ?_ | refine stop_next ?_ | refine stop_convert ⟨_, rfl⟩ ?_ | refine stop_convertB ⟨_, _, _, rfl⟩ ?_ | refine stop_eqSlice ⟨_, _, rfl⟩ ?_)
      refine bodyPost_ret (v := .tuple #[.agg #[.int .i64 t, .slice A q.length c, .slice As ns cs, .slice A6 (ps.length + 1) c6], .bool true]) (by simp [results, Try.results12, go_sem, *]) rfl ?_
      obtain ⟨-, kF⟩ := sset4 Hp47.out (.int .i64 t) (.slice A q.length c) (.slice As ns cs) (.slice A6 (ps.length + 1) c6)
      exact ⟨_, rfl, (Hcw6.out.old K7.out (fun i g => by simp only [At] at g; omega)).old kF (fun i g => by simp only [At] at g; omega), ((Hsl6.out.keep (K7.out.weak (fun k _ g => .inr (.inl g)))).keep (kF.weak (fun k _ g => .inr (.inr g)))).weak (fun k _ g => .inl g)⟩
end Go.Proofs.Yticimjplegbagaa


/- QuorumSeals: the plain law, and the walk. -/
set_option linter.unusedVariables false
set_option linter.unusedSimpArgs false
namespace Go.Proofs.Yticimjplegbagaa
open Go.RowKit Cb

set_option maxRecDepth 100000 in
set_option maxHeartbeats 4000000 in
theorem sheard_nochain (S : Nat → Prop) (p : Nat) (st : SSt) (x : Int) (v : Value) (l : List Ent) (w : World) (h : Sea w S p st) (hv : Sl No w v l) (hn : st.nodes.length ≤ 1000000) (hl : l.length ≤ 1000000) (hcb : ∀ e ∈ l, e.2.2.1.length ≤ 17592186043904)
    (hno : (chainF l 0 []).1 ≠ l.length) :
    Calls Try.prog 13 #[.pointer (some ⟨p, 0, none⟩), .int .i64 x, v] w (SeaPost S p w (hearS st x l)) := by
  obtain ⟨r, vn, vt, h⟩ := h
  have HS0 := Lib.hid (show Sea w S p st from ⟨r, vn, vt, h⟩)
  have Hin := Lib.hid (lcontains_any _ vn st.nodes x w h.nodes (by omega))
  have Hch := Lib.hid (fun W (hW : Chg No w W) => chain_any v l W (hv.keepNo hW) (by omega) hcb)
  have Hmap := Lib.hid (fun W (hW : Chg No w W) => run_met (h.keepNo hW).map (metS st.m) x)
  obtain ⟨A, c, rfl⟩ := hv.slice
  obtain ⟨An, cn, rfl⟩ := h.nodes.slice
  have p0 := cell_obj (i := 0) h.obj rfl
  have p2 := cell_obj (i := 2) h.obj rfl
  have HB := Lib.hid (show hearS st x l = (st, false) by
    unfold hearS hearSB
    rw [decide_eq_false hno]; simp)
  clear h hv hcb
  generalize hearS st x l = res at *
  obtain rfl : res = (st, false) := HB.out
  generalize (chainF l 0 []).1 = ch at *
  go_enter Try.func13, Try.ntmps13
  go_wp2_with (with_reducible first | refine stop_append ?_ | refine stop_copy ?_ | refine stop_make ?_ | refine stop_lookup ?_ | refine stop_update ?_ | refine stop_slice ?_ | refine stop_range ?_ | refine stop_next ?_ | refine stop_convert ⟨_, rfl⟩ ?_ | refine stop_convertB ⟨_, _, _, rfl⟩ ?_ | refine stop_eqSlice ⟨_, _, rfl⟩ ?_)
  refine Hin.out.mono ?_
  rintro e w1 ⟨rfl, hc1⟩
  replace p2 := hc1.cell p2 (not_no _)
  have hlk := Hmap.out _ hc1
  generalize decide (x ∈ st.nodes) = bn at *
  cases bn
  · go_wp2_with (with_reducible first | refine stop_append ?_ | refine stop_copy ?_ | refine stop_make ?_ | refine stop_update ?_ | refine stop_slice ?_ | refine stop_range ?_ | refine stop_next ?_ | refine stop_convert ⟨_, rfl⟩ ?_ | refine stop_convertB ⟨_, _, _, rfl⟩ ?_ | refine stop_eqSlice ⟨_, _, rfl⟩ ?_)
    go_ret
    exact sea_no HS0.out hc1
  generalize decide (x ∈ st.m) = bm at *
  cases bm
  rotate_left
  · go_wp2_with (with_reducible first | refine stop_append ?_ | refine stop_copy ?_ | refine stop_make ?_ | refine stop_update ?_ | refine stop_slice ?_ | refine stop_range ?_ | refine stop_next ?_ | refine stop_convert ⟨_, rfl⟩ ?_ | refine stop_convertB ⟨_, _, _, rfl⟩ ?_ | refine stop_eqSlice ⟨_, _, rfl⟩ ?_)
    go_ret
    exact sea_no HS0.out hc1
  go_wp2_with (with_reducible first | refine stop_append ?_ | refine stop_copy ?_ | refine stop_make ?_ | refine stop_update ?_ | refine stop_slice ?_ | refine stop_range ?_ | refine stop_next ?_ | refine stop_convert ⟨_, rfl⟩ ?_ | refine stop_convertB ⟨_, _, _, rfl⟩ ?_ | refine stop_eqSlice ⟨_, _, rfl⟩ ?_)
  refine (Hch.out _ hc1).mono ?_
  rintro e w2 ⟨rfl, hc2⟩
  have hcw2 := hc1.trans hc2
  clear hlk
  have hcl2 : ((ch : Int) != (l.length : Int)) = true := by simp; omega
  clear hno
  go_wp2_with (with_reducible first | refine stop_append ?_ | refine stop_copy ?_ | refine stop_make ?_ | refine stop_update ?_ | refine stop_slice ?_ | refine stop_range ?_ | refine stop_next ?_ | refine stop_convert ⟨_, rfl⟩ ?_ | refine stop_convertB ⟨_, _, _, rfl⟩ ?_ | refine stop_eqSlice ⟨_, _, rfl⟩ ?_)
  go_ret
  exact sea_no HS0.out hcw2
theorem sheard_gen (S : Nat → Prop) (p : Nat) (st : SSt) (x : Int) (v : Value) (l : List Ent) (w : World) (h : Sea w S p st) (hv : Sl S w v l) (hn : st.nodes.length ≤ 1000000) (hl : l.length ≤ 1000000) (hcb : ∀ e ∈ l, e.2.2.1.length ≤ 17592186043904) (hlt : st.tail.length ≤ 1000000) (hct : ∀ e ∈ st.tail, e.2.2.1.length ≤ 1000000) :
    Calls Try.prog 13 #[.pointer (some ⟨p, 0, none⟩), .int .i64 x, v] w (SeaPost S p w (hearS st x l)) := by
  by_cases hc : (chainF l 0 []).1 = l.length
  · exact sheard_any S p st x v l w h hv hn hl (fun e he => by have := ent_cut8 (chain_ents l 0 [] (by omega) e he); omega) hlt hct
  · exact sheard_nochain S p st x v l w h hv.no hn hl hcb hc
/-- What the sealer and the document's have in common. -/
structure RelS (q : List Int) (ss : SSt) (ps : List Part) : Prop where
  nodes : ss.nodes = q
  need : ss.need = q.length / 2 + 1
  m : ss.m = ps.map (·.1)
  tail : ss.tail = tailL ps
  pre : ∀ p ∈ ps, p.2.length ≤ (tailL ps).length ∧ p.2 = (tailL ps).take p.2.length
  one : tailL ps = [] ∨ ∃ p ∈ ps, p.2 = tailL ps
  right : ∀ e ∈ tailL ps, entR e = true
theorem rel_new (q : List Int) : RelS q ⟨q, q.length / 2 + 1, [], []⟩ [] := ⟨rfl, rfl, rfl, rfl, (fun _ h => absurd h (by simp)), .inl rfl, (fun _ h => absurd h (by simp [tailL]))⟩
theorem tail_snoc (ps : List Part) (x : Part) : tailL (ps ++ [x]) = if (tailL ps).length < x.2.length then x.2 else tailL ps := by
  unfold tailL; rw [List.foldl_append]; rfl
theorem take_both {a b : List Ent} {m n : Nat} (h : a.take n = b.take n) (hm : m ≤ n) : a.take m = b.take m := by
  have := congrArg (List.take m) h
  rwa [List.take_take, List.take_take, Nat.min_eq_left hm] at this
theorem hear_rel {q : List Int} {ss : SSt} {ps : List Part} (h : RelS q ss ps) (n : Int) (l : List Ent) :
    (hearS ss n l).2 = (hearR q ps n l).2 ∧ RelS q (hearS ss n l).1 (hearR q ps n l).1 := by
  have hall : (ps.all fun p => !decide (p.1 = n) && agreeB p.2 l) = (!decide (n ∈ ps.map (·.1)) && decide (l.take (min l.length (tailL ps).length) = (tailL ps).take (min l.length (tailL ps).length))) := by
    rw [Bool.eq_iff_iff]
    simp only [List.all_eq_true, Bool.and_eq_true, Bool.not_eq_true', decide_eq_false_iff_not, decide_eq_true_eq, agreeB, List.mem_map]
    constructor
    · intro hh
      refine ⟨fun ⟨p, hp, e⟩ => (hh p hp).1 e, ?_⟩
      rcases h.one with h0 | ⟨p, hp, e⟩
      · rw [h0]; simp
      · have := (hh p hp).2
        rw [e] at this
        rw [Nat.min_comm]
        exact this.symm
    · rintro ⟨h1, h2⟩ p hp
      refine ⟨fun e => h1 ⟨p, hp, e⟩, ?_⟩
      obtain ⟨h3, h4⟩ := h.pre p hp
      rw [h4, List.take_take]
      rw [List.length_take, Nat.min_eq_left h3, Nat.min_eq_left (Nat.min_le_left _ _)]
      exact (take_both h2 (by omega)).symm
  have hB : hearSB ss n l = hearRB q ps n l := by
    unfold hearSB hearRB
    rw [hall, h.nodes, h.m, h.tail]
    generalize decide (n ∈ q) = a
    generalize decide ((chainF l 0 []).1 = l.length) = b
    generalize decide (n ∈ ps.map (·.1)) = c
    cases a <;> cases b <;> cases c <;> simp
  unfold hearS hearR
  rw [hB]
  cases hb : hearRB q ps n l
  · exact ⟨rfl, h⟩
  · simp only [if_true]
    refine ⟨trivial, ?_⟩
    unfold hearRB at hb
    rw [hall] at hb
    simp only [Bool.and_eq_true, decide_eq_true_eq] at hb
    obtain ⟨_, hch, _, hag⟩ := hb
    have hts := tail_snoc ps (n, l)
    simp only at hts
    refine { nodes := h.nodes, need := h.need, m := by simp [h.m], tail := by rw [hts, h.tail], pre := fun p hp => ?_, one := ?_, right := ?_ }
    · rw [hts]
      split
      · rename_i hlt
        rcases List.mem_append.1 hp with hp | hp
        · obtain ⟨h3, h4⟩ := h.pre p hp
          refine ⟨by omega, ?_⟩
          have e := take_both hag (m := p.2.length) (by omega)
          rw [e]; exact h4
        · simp only [List.mem_singleton] at hp
          subst hp
          exact ⟨Nat.le_refl _, by simp⟩
      · rename_i hlt
        rcases List.mem_append.1 hp with hp | hp
        · exact h.pre p hp
        · simp only [List.mem_singleton] at hp
          subst hp
          simp only
          refine ⟨by omega, ?_⟩
          have e := take_both hag (m := l.length) (by omega)
          rw [List.take_length] at e
          exact e
    · rw [hts]
      split
      · exact .inr ⟨(n, l), by simp, rfl⟩
      · rcases h.one with h0 | ⟨p, hp, e⟩
        · exact .inl h0
        · exact .inr ⟨p, by simp [hp], e⟩
    · rw [hts]
      split
      · exact chain_ents l 0 [] (by omega)
      · exact h.right
theorem rel_done {q : List Int} {ss : SSt} {ps : List Part} (h : RelS q ss ps) : doneS ss = doneR q ps ∧ tailS ss = tailR q ps := by
  have e : doneS ss = doneR q ps := by unfold doneS doneR; rw [h.need, h.m, List.length_map]
  exact ⟨e, by unfold tailS tailR; rw [e, h.tail]⟩
theorem hearR_parts {q : List Int} {ps : List Part} {n : Int} {l : List Ent} {k : Nat} (h : ps.length ≤ k ∧ ∀ p ∈ ps, p.2.length ≤ 200 ∧ ∀ e ∈ p.2, e.2.2.1.length ≤ 17592186043904) (hl : l.length ≤ 200 ∧ ∀ e ∈ l, e.2.2.1.length ≤ 17592186043904) :
    (hearR q ps n l).1.length ≤ k + 1 ∧ ∀ p ∈ (hearR q ps n l).1, p.2.length ≤ 200 ∧ ∀ e ∈ p.2, e.2.2.1.length ≤ 17592186043904 := by
  unfold hearR
  split
  · refine ⟨by simp; omega, fun p hp => ?_⟩
    rcases List.mem_append.1 hp with hp | hp
    · exact h.2 p hp
    · simp only [List.mem_singleton] at hp; subst hp; exact hl
  · exact ⟨by simp only; omega, h.2⟩
def lens (l : List Part) : Nat := (l.map fun p => p.2.length).sum
theorem lens_snoc (l : List Part) (k : Nat) (hk : k < l.length) : lens (l.take (k + 1)) = lens (l.take k) + l[k].2.length := by
  unfold lens
  rw [List.take_succ_eq_append_getElem hk, List.map_append, List.sum_append]; simp
theorem lens_mem {l : List Part} {p : Part} (h : p ∈ l) : p.2.length ≤ lens l := by
  unfold lens
  induction l with
  | nil => cases h
  | cons a r ih =>
    simp only [List.map_cons, List.sum_cons]
    rcases List.mem_cons.1 h with rfl | h
    · omega
    · have := ih h; omega
theorem lens_bound (l : List Part) (h : ∀ p ∈ l, p.2.length ≤ 2199023255488) : ∀ k, k ≤ l.length → lens (l.take k) ≤ k * 2199023255488 := by
  intro k
  induction k with
  | zero => intro _; simp [lens]
  | succ k ih => intro hk; rw [lens_snoc l k (by omega)]; have := ih (by omega); have := h _ (List.getElem_mem (by omega : k < l.length)); omega
set_option maxRecDepth 100000 in
set_option maxHeartbeats 8000000 in
theorem qseals_any (t : Int) (vq vs v : Value) (q : List Int) (s : List (List Int)) (l : List Part) (w : World) (hq : Sl No w vq q) (hs : Sl No w vs s) (h : Sl No w v l) (hc : CfgI12 q s) (hl : l.length ≤ 10000000000000) (ho : ∀ p ∈ l, p.2.length ≤ 2199023255488 ∧ ∀ e ∈ p.2, e.2.2.1.length ≤ 17592186043904) :
    Calls Try.prog 3 #[cfgV t vq vs, v] w fun e w' => e = .returned (.bool true) ∧ Chg No w w' := by
  have Hfew := Lib.hid (fun W (hW : Chg No w W) => fewq_any No No No t vq vs (.slice none 0 0) q s [] W (hq.keepNo hW) (hs.keepNo hW) (Sl.nil _ _ _ _) (by have := hc.1; omega) (by have := hc.2.1; omega) (fun x hx => by have := hc.2.2 x hx; omega) (by simp) (fun _ h => by cases h))
  have Hright := Lib.hid (fun W (hW : Chg No w W) => cright_any No No t vq vs q s W (hq.keepNo hW) (hs.keepNo hW) hc.1 (by have := hc.2.1; omega) hc.2.2)
  have Hno := Lib.hid (fun W (hW : Chg No w W) (hr : rightC t q s = false) => snew_no t vq vs q s W (hq.keepNo hW) (hs.keepNo hW) (by have := hc.1; omega) (by have := hc.2.1; omega) hc.2.2 hr)
  have Hyes := Lib.hid (fun W (hW : Chg No w W) (hr : rightC t q s = true) => snew_yes t vq vs q s W (hq.keepNo hW) (hs.keepNo hW) hr)
  have Hq := Lib.hid hq
  obtain ⟨Aq, cq, rfl⟩ := hq.slice
  obtain ⟨As, cs, rfl⟩ := hs.slice
  obtain ⟨A, c, rfl⟩ := h.slice
  unfold cfgV at *
  have o1 := alloc_obj w (.cells #[.int .i64 t, .slice Aq q.length cq, .slice As s.length cs] 25)
  have hc0 := (Chg.refl No w).alloc (.cells #[.int .i64 t, .slice Aq q.length cq, .slice As s.length cs] 25)
  have hz0 : (w.alloc (.cells #[.int .i64 t, .slice Aq q.length cq, .slice As s.length cs] 25)).heap.size = w.heap.size + 1 := by simp
  have a0 := cell_obj (i := 0) o1 rfl
  have a1 := cell_obj (i := 1) o1 rfl
  have a2 := cell_obj (i := 2) o1 rfl
  have Hh := Lib.hid (Sl.up h (Nat.le_refl _))
  have Ho := Lib.hid ho
  clear h hs hq hc ho
  obtain ⟨sm, hsm⟩ : ∃ f : Nat → Nat, f = fun k => lens (l.take k) := ⟨_, rfl⟩
  have Hsm1 := Lib.hid (fun k (hk : k < l.length) => show sm (k + 1) = sm k + l[k].2.length by subst hsm; exact lens_snoc l k hk)
  have Hsmb := Lib.hid (fun k (hk : k ≤ l.length) => show sm k ≤ k * 2199023255488 by subst hsm; exact lens_bound l (fun p hp => (Ho.out p hp).1) k hk)
  have Hsm0 := Lib.hid (show sm 0 = 0 by subst hsm; simp [lens])
  have Hsml := Lib.hid (show sm l.length = lens l by subst hsm; simp)
  clear hsm
  go_enter Try.func3, Try.ntmps3
  go_wp2_with (with_reducible first | refine stop_append ?_ | refine stop_copy ?_ | refine stop_make ?_ | refine stop_lookup ?_ | refine stop_update ?_ | refine stop_slice ?_ | refine stop_range ?_ | refine stop_next ?_ | refine stop_convert ⟨_, rfl⟩ ?_ | refine stop_convertB ⟨_, _, _, rfl⟩ ?_ | refine stop_eqSlice ⟨_, _, rfl⟩ ?_)
  generalize w.alloc (.cells #[.int .i64 t, .slice Aq q.length cq, .slice As s.length cs] 25) = w0 at *
  obtain ⟨b, hb⟩ : ∃ b, b = w.heap.size := ⟨_, rfl⟩
  rw [← hb] at a0 a1 a2 o1 ⊢
  have Hb := Lib.hid hb
  have Ho1 := Lib.hid o1
  have Hz0 := Lib.hid hz0
  clear o1 hb hz0 a0 a1 a2
  go_loopw [5, 7, 21] (fun v5 _ v21 wr => ∃ (k : Nat) (n : Int), k ≤ l.length ∧ v21 = .int .i64 k ∧ v5 = .int .i64 n ∧ Chg No w0 wr ∧ (k ≤ 20 → n = sm k)) (fun _ _ v21 _ => l.length - (intOf v21).toNat)
  case atStart => exact ⟨0, 0, by omega, rfl, rfl, Chg.refl _ _, fun _ => by rw [Hsm0.out]; rfl⟩
  case round =>
    obtain ⟨k, n, hk, rfl, rfl, hc1, hn⟩ := hrel
    have Hn := Lib.hid hn
    clear hn
    by_cases hlt : k < l.length
    · obtain ⟨b5, o5, vl, rfl, _, hbl, hvl, d0, d1⟩ := part_get (Hh.out.keepNo (hc0.trans hc1)) k hlt
      have hst := Hsm1.out k hlt
      have hbd := Hsmb.out (k + 1) (by omega)
      have ho2 := (Ho.out _ (List.getElem_mem hlt)).1
      generalize l[k] = x at *
      obtain ⟨x0, xl⟩ := x
      simp only at d0 d1 hst ho2
      obtain ⟨A5, c5, rfl⟩ := hvl.slice
      have Hst := Lib.hid hst; have Hbd := Lib.hid hbd
      have hcb := hc1.alloc (.cells #[.int .i64 x0, .slice A5 xl.length c5] 29)
      have e1 := cell_obj (i := 1) (alloc_obj wr (.cells #[.int .i64 x0, .slice A5 xl.length c5] 29)) rfl
      clear hvl hst hbd
      go_wp2_with (with_reducible first | refine stop_append ?_ | refine stop_copy ?_ | refine stop_make ?_ | refine stop_lookup ?_ | refine stop_update ?_ | refine stop_slice ?_ | refine stop_range ?_ | refine stop_next ?_ | refine stop_convert ⟨_, rfl⟩ ?_ | refine stop_convertB ⟨_, _, _, rfl⟩ ?_ | refine stop_eqSlice ⟨_, _, rfl⟩ ?_)
      go_roundw
      case rel => exact ⟨k + 1, _, by omega, by go_num, rfl, hcb, fun h20 => by
        have g1 := Hn.out (by omega)
        have g2 := Hst.out
        have g3 := Hbd.out
        unfold wrap64
        omega⟩
      case measure => simp [intOf]; omega
    · obtain rfl : k = l.length := by omega
      have hcw1 := hc0.trans hc1
      have p1 := hc1.obj Ho1.out (not_no _)
      have a0 := cell_obj (i := 0) p1 rfl
      have a1 := cell_obj (i := 1) p1 rfl
      have a2 := cell_obj (i := 2) p1 rfl
      clear hlt hk
      obtain ⟨wA, rfl⟩ : ∃ W : World, W = wr := ⟨_, rfl⟩
      go_wp2_with (with_reducible first | refine stop_append ?_ | refine stop_copy ?_ | refine stop_make ?_ | refine stop_lookup ?_ | refine stop_update ?_ | refine stop_slice ?_ | refine stop_range ?_ | refine stop_next ?_ | refine stop_convert ⟨_, rfl⟩ ?_ | refine stop_convertB ⟨_, _, _, rfl⟩ ?_ | refine stop_eqSlice ⟨_, _, rfl⟩ ?_)
      refine (Hfew.out _ hcw1).mono ?_
      rintro e w2 ⟨⟨bf, rfl, -⟩, hc2⟩
      have hcw2 := hcw1.trans hc2
      replace p1 := hc2.obj p1 (not_no _)
      clear a0 a1 a2
      have a0 := cell_obj (i := 0) p1 rfl
      have a1 := cell_obj (i := 1) p1 rfl
      have a2 := cell_obj (i := 2) p1 rfl
      clear Hfew hc2 hcw1
      cases bf
      · go_wp2_with (with_reducible first | refine stop_append ?_ | refine stop_copy ?_ | refine stop_make ?_ | refine stop_lookup ?_ | refine stop_update ?_ | refine stop_slice ?_ | refine stop_range ?_ | refine stop_next ?_ | refine stop_convert ⟨_, rfl⟩ ?_ | refine stop_convertB ⟨_, _, _, rfl⟩ ?_ | refine stop_eqSlice ⟨_, _, rfl⟩ ?_)
        refine (qalive_any _).mono ?_
        rintro e w3 ⟨rfl, hc3⟩
        have hcw := hcw2.trans hc3
        go_wp2_with (with_reducible first | refine stop_append ?_ | refine stop_copy ?_ | refine stop_make ?_ | refine stop_lookup ?_ | refine stop_update ?_ | refine stop_slice ?_ | refine stop_range ?_ | refine stop_next ?_ | refine stop_convert ⟨_, rfl⟩ ?_ | refine stop_convertB ⟨_, _, _, rfl⟩ ?_ | refine stop_eqSlice ⟨_, _, rfl⟩ ?_)
        go_ret
        exact ⟨rfl, hcw⟩
      by_cases h20 : (20 : Int) < l.length
      · go_wp2_with (with_reducible first | refine stop_append ?_ | refine stop_copy ?_ | refine stop_make ?_ | refine stop_lookup ?_ | refine stop_update ?_ | refine stop_slice ?_ | refine stop_range ?_ | refine stop_next ?_ | refine stop_convert ⟨_, rfl⟩ ?_ | refine stop_convertB ⟨_, _, _, rfl⟩ ?_ | refine stop_eqSlice ⟨_, _, rfl⟩ ?_)
        refine (qalive_any _).mono ?_
        rintro e w3 ⟨rfl, hc3⟩
        have hcw := hcw2.trans hc3
        go_wp2_with (with_reducible first | refine stop_append ?_ | refine stop_copy ?_ | refine stop_make ?_ | refine stop_lookup ?_ | refine stop_update ?_ | refine stop_slice ?_ | refine stop_range ?_ | refine stop_next ?_ | refine stop_convert ⟨_, rfl⟩ ?_ | refine stop_convertB ⟨_, _, _, rfl⟩ ?_ | refine stop_eqSlice ⟨_, _, rfl⟩ ?_)
        go_ret
        exact ⟨rfl, hcw⟩
      by_cases h200 : (200 : Int) < n
      · go_wp2_with (with_reducible first | refine stop_append ?_ | refine stop_copy ?_ | refine stop_make ?_ | refine stop_lookup ?_ | refine stop_update ?_ | refine stop_slice ?_ | refine stop_range ?_ | refine stop_next ?_ | refine stop_convert ⟨_, rfl⟩ ?_ | refine stop_convertB ⟨_, _, _, rfl⟩ ?_ | refine stop_eqSlice ⟨_, _, rfl⟩ ?_)
        refine (qalive_any _).mono ?_
        rintro e w3 ⟨rfl, hc3⟩
        have hcw := hcw2.trans hc3
        go_wp2_with (with_reducible first | refine stop_append ?_ | refine stop_copy ?_ | refine stop_make ?_ | refine stop_lookup ?_ | refine stop_update ?_ | refine stop_slice ?_ | refine stop_range ?_ | refine stop_next ?_ | refine stop_convert ⟨_, rfl⟩ ?_ | refine stop_convertB ⟨_, _, _, rfl⟩ ?_ | refine stop_eqSlice ⟨_, _, rfl⟩ ?_)
        go_ret
        exact ⟨rfl, hcw⟩
      have Hl20 := Lib.hid (show l.length ≤ 20 by omega)
      have Hsum := Lib.hid (show lens l ≤ 200 by have := Hn.out (by omega); rw [Hsml.out] at this; omega)
      rcases hr : rightC t q s with _ | _
      · rw [hr] at Hright
        have HR := Lib.hid hr
        clear hr
        go_wp2_with (with_reducible first | refine stop_append ?_ | refine stop_copy ?_ | refine stop_make ?_ | refine stop_lookup ?_ | refine stop_update ?_ | refine stop_slice ?_ | refine stop_range ?_ | refine stop_next ?_ | refine stop_convert ⟨_, rfl⟩ ?_ | refine stop_convertB ⟨_, _, _, rfl⟩ ?_ | refine stop_eqSlice ⟨_, _, rfl⟩ ?_)
        refine (Hno.out _ hcw2 HR.out).mono ?_
        rintro e w3 ⟨rfl, hc3⟩
        have hcw3 := hcw2.trans hc3
        replace p1 := hc3.obj p1 (not_no _)
        clear a0 a1 a2
        have a0 := cell_obj (i := 0) p1 rfl
        have a1 := cell_obj (i := 1) p1 rfl
        have a2 := cell_obj (i := 2) p1 rfl
        go_wp2_with (with_reducible first | refine stop_append ?_ | refine stop_copy ?_ | refine stop_make ?_ | refine stop_lookup ?_ | refine stop_update ?_ | refine stop_slice ?_ | refine stop_range ?_ | refine stop_next ?_ | refine stop_convert ⟨_, rfl⟩ ?_ | refine stop_convertB ⟨_, _, _, rfl⟩ ?_ | refine stop_eqSlice ⟨_, _, rfl⟩ ?_)
        refine (Hright.out _ hcw3).mono ?_
        rintro e w4 ⟨rfl, hc4⟩
        have hcw4 := hcw3.trans hc4
        go_wp2_with (with_reducible first | refine stop_append ?_ | refine stop_copy ?_ | refine stop_make ?_ | refine stop_lookup ?_ | refine stop_update ?_ | refine stop_slice ?_ | refine stop_range ?_ | refine stop_next ?_ | refine stop_convert ⟨_, rfl⟩ ?_ | refine stop_convertB ⟨_, _, _, rfl⟩ ?_ | refine stop_eqSlice ⟨_, _, rfl⟩ ?_)
        refine (qalive_any _).mono ?_
        rintro e w5 ⟨rfl, hc5⟩
        have hcw5 := hcw4.trans hc5
        go_wp2_with (with_reducible first | refine stop_append ?_ | refine stop_copy ?_ | refine stop_make ?_ | refine stop_lookup ?_ | refine stop_update ?_ | refine stop_slice ?_ | refine stop_range ?_ | refine stop_next ?_ | refine stop_convert ⟨_, rfl⟩ ?_ | refine stop_convertB ⟨_, _, _, rfl⟩ ?_ | refine stop_eqSlice ⟨_, _, rfl⟩ ?_)
        go_ret
        exact ⟨rfl, hcw5⟩
      rw [hr] at Hright
      have HR := Lib.hid hr
      clear hr
      go_wp2_with (with_reducible first | refine stop_append ?_ | refine stop_copy ?_ | refine stop_make ?_ | refine stop_lookup ?_ | refine stop_update ?_ | refine stop_slice ?_ | refine stop_range ?_ | refine stop_next ?_ | refine stop_convert ⟨_, rfl⟩ ?_ | refine stop_convertB ⟨_, _, _, rfl⟩ ?_ | refine stop_eqSlice ⟨_, _, rfl⟩ ?_)
      refine (Hyes.out _ hcw2 HR.out).mono ?_
      rintro e w3 ⟨p, rfl, hc3, hp3⟩
      have hcw3 := hcw2.trans hc3
      have Hb2 := Lib.hid (lt_of_heap p1)
      replace p1 := hc3.obj p1 (not_no _)
      clear a0 a1 a2
      have a0 := cell_obj (i := 0) p1 rfl
      have a1 := cell_obj (i := 1) p1 rfl
      have a2 := cell_obj (i := 2) p1 rfl
      have Hp3 := Lib.hid hp3
      clear hp3
      go_wp2_with (with_reducible first | refine stop_append ?_ | refine stop_copy ?_ | refine stop_make ?_ | refine stop_lookup ?_ | refine stop_update ?_ | refine stop_slice ?_ | refine stop_range ?_ | refine stop_next ?_ | refine stop_convert ⟨_, rfl⟩ ?_ | refine stop_convertB ⟨_, _, _, rfl⟩ ?_ | refine stop_eqSlice ⟨_, _, rfl⟩ ?_)
      refine (Hright.out _ hcw3).mono ?_
      rintro e w4 ⟨rfl, hc4⟩
      have hcw4 := hcw3.trans hc4
      replace p1 := hc4.obj p1 (not_no _)
      clear a0 a1 a2
      have a0 := cell_obj (i := 0) p1 rfl
      have a1 := cell_obj (i := 1) p1 rfl
      have a2 := cell_obj (i := 2) p1 rfl
      obtain ⟨S0, hQ⟩ : ∃ S, Sea w4 S p ⟨q, q.length / 2 + 1, [], []⟩ ∧ ∀ k, S k → b < k := ⟨_, Hp3.out.keepNo hc4, fun k hk => by have := Hb2.out; omega⟩
      have HQ := Lib.hid hQ
      clear hQ Hp3 hc3 hc4 hcw2 hcw3 Hno Hyes Hright hc0 hc1
      have hqn : q.length ≤ 7 := (rightC_iff.1 HR.out).2.1.2
      obtain ⟨B, hB⟩ : ∃ B, B = w4.heap.size := ⟨_, rfl⟩
      have oB := alloc_obj w4 (.cells #[.int .i64 t, .slice Aq q.length cq, .slice As s.length cs, .slice none 0 0] 39)
      have hcB := (Chg.refl No w4).alloc (.cells #[.int .i64 t, .slice Aq q.length cq, .slice As s.length cs, .slice none 0 0] 39)
      have hbB : b < B := by have := lt_of_heap p1; omega
      have hnB : ¬ S0 B := fun g => by have := HQ.out.1.lt B g; omega
      rw [← hB] at oB
      have HoB := Lib.hid oB
      have HcB := Lib.hid hcB
      have HBB := Lib.hid hB
      have HbB := Lib.hid hbB
      have Hqn := Lib.hid hqn
      have Hcw4 := Lib.hid hcw4
      clear oB hcB hB hbB hcw4 hqn
      go_wp2_with (with_reducible first | refine stop_append ?_ | refine stop_copy ?_ | refine stop_make ?_ | refine stop_lookup ?_ | refine stop_update ?_ | refine stop_slice ?_ | refine stop_range ?_ | refine stop_next ?_ | refine stop_convert ⟨_, rfl⟩ ?_ | refine stop_convertB ⟨_, _, _, rfl⟩ ?_ | refine stop_eqSlice ⟨_, _, rfl⟩ ?_)
      clear p1 a0 a1 a2
      rw [← HBB.out]
      generalize w4.alloc (.cells #[.int .i64 t, .slice Aq q.length cq, .slice As s.length cs, .slice none 0 0] 39) = wB at *
      go_loopw [12, 13, 14, 15, 16, 17, 18, 71] (fun _ _ _ _ _ _ _ v71 wr => ∃ (k : Nat) (S : Nat → Prop) (ss : SSt) (ps : List Part) (vL : Value), k ≤ l.length ∧ v71 = .int .i64 k ∧ Chg No w wr ∧ Sea wr S p ss ∧ RelS q ss ps ∧ (∀ i, S i → b < i) ∧ ¬ S B ∧ wr.heap[B]? = some (.cells #[.int .i64 t, .slice Aq q.length cq, .slice As s.length cs, vL] 39 (0, 0)) ∧ Sl (fun i => S i ∨ i = B) wr vL ps ∧ (ps.length ≤ k ∧ ∀ x ∈ ps, x.2.length ≤ 200 ∧ ∀ e ∈ x.2, e.2.2.1.length ≤ 17592186043904)) (fun _ _ _ _ _ _ _ v71 _ => l.length - (intOf v71).toNat)
      case atStart => exact ⟨0, S0, _, [], .slice none 0 0, by omega, rfl, Hcw4.out.trans HcB.out, HQ.out.1.keepNo HcB.out, rel_new q, HQ.out.2, hnB, HoB.out, Sl.nil _ _ _ _, by simp, fun _ h => absurd h (by simp)⟩
      case round =>
        obtain ⟨k, S, ss, ps, vL, hk, rfl, hcr, hsea, hre, hS, hnS, oB, hL, hps⟩ := hrel
        have Hsea := Lib.hid hsea; have Hre := Lib.hid hre; have HS := Lib.hid hS; have HL := Lib.hid hL; have Hps := Lib.hid hps; have Hoo := Lib.hid oB; have Hcr := Lib.hid hcr
        have HnS := Lib.hid hnS
        obtain ⟨AL, cL, rfl⟩ := hL.slice
        clear hsea hre hS hL hps oB hcr hnS hnB HQ HoB HcB
        by_cases hlt : k < l.length
        · obtain ⟨b5, o5, vl, rfl, _, hbl, hvl, d0, d1⟩ := part_get (Hh.out.keepNo Hcr.out) k hlt
          have ho2 := Ho.out _ (List.getElem_mem hlt)
          have hle := Nat.le_trans (lens_mem (List.getElem_mem hlt)) Hsum.out
          generalize l[k] = x at *
          obtain ⟨x0, xl⟩ := x
          simp only at d0 d1 ho2 hle hvl
          have Hvl := Lib.hid hvl; have Hox := Lib.hid ho2.2; have Hle := Lib.hid hle
          obtain ⟨A5, c5, rfl⟩ := hvl.slice
          clear hvl ho2 hle hbl
          obtain ⟨wA, rfl⟩ : ∃ W : World, W = wr := ⟨_, rfl⟩
          have hcp := (Chg.refl No wA).alloc (.cells #[.int .i64 x0, .slice A5 xl.length c5] 29)
          have op := alloc_obj wA (.cells #[.int .i64 x0, .slice A5 xl.length c5] 29)
          have oB2 := hcp.obj Hoo.out (not_no _)
          have Hzp := Lib.hid (show (wA.alloc (.cells #[.int .i64 x0, .slice A5 xl.length c5] 29)).heap.size = wA.heap.size + 1 by simp)
          have Hop := Lib.hid op; have HoB2 := Lib.hid oB2; have Hcp := Lib.hid hcp
          have HBA := Lib.hid (lt_of_heap Hoo.out)
          have Hd := Lib.hid (dhear_any (fun i => S i ∨ i = B) t (.slice Aq q.length cq) (.slice As s.length cs) (.slice AL ps.length cL) q ps x0 (.slice A5 xl.length c5) xl (wA.alloc (.cells #[.int .i64 x0, .slice A5 xl.length c5] 29)) (Hq.out.keepNo (Hcr.out.trans hcp)) ⟨_, _, _, rfl⟩ (HL.out.keepNo hcp) (fun i g => by
            have := HBA.out; have := Hzp.out
            rcases g with g | g
            · have := Hsea.out.lt i g; omega
            · omega) (by have := Hqn.out; omega) ⟨by have := Hps.out.1; have := Hl20.out; omega, fun y hy => ⟨by have := (Hps.out.2 y hy).1; omega, (Hps.out.2 y hy).2⟩⟩ ((Hvl.out.keepNo hcp).weak (fun i _ g => by
            have := Hb.out; have := HbB.out
            simp only [Ge]
            rcases g with g | g
            · have := HS.out i g; omega
            · omega)) (by have := Hle.out; omega) Hox.out)
          have hh := hear_rel Hre.out x0 xl
          have hpp := hearR_parts (q := q) (n := x0) (k := k) Hps.out ⟨Hle.out, Hox.out⟩
          have hst : ss.tail.length ≤ 1000000 := by
            rw [Hre.out.tail]
            rcases Hre.out.one with h0 | ⟨y, hy, e⟩
            · rw [h0]; simp
            · rw [← e]; have := (Hps.out.2 y hy).1; omega
          have HHs := Lib.hid (fun W v9 (hW : Sea W S p ss) (hs : Sl S W v9 xl) => sheard_gen S p ss x0 v9 xl W hW hs (by rw [Hre.out.nodes]; have := Hqn.out; omega) (by have := Hle.out; omega) Hox.out hst (fun e he => by rw [Hre.out.tail] at he; have := ent_cut8 (Hre.out.right e he); omega))
          generalize hearR q ps x0 xl = rR at *
          generalize hearS ss x0 xl = rS at *
          obtain ⟨ps', ok⟩ := rR
          obtain ⟨ss', ok'⟩ := rS
          simp only at hh hpp
          obtain ⟨rfl, hre'⟩ := hh
          have Hre' := Lib.hid hre'; have Hpp := Lib.hid hpp
          clear hst hre' hpp
          have e0 := cell_obj (i := 0) op rfl
          have e1 := cell_obj (i := 1) op rfl
          have y0 := cell_obj (i := 0) oB2 rfl
          have y1 := cell_obj (i := 1) oB2 rfl
          have y2 := cell_obj (i := 2) oB2 rfl
          have y3 := cell_obj (i := 3) oB2 rfl
          clear op oB2 hcp
          go_wp2_with (with_reducible first | refine stop_append ?_ | refine stop_copy ?_ | refine stop_make ?_ | refine stop_lookup ?_ | refine stop_update ?_ | refine stop_slice ?_ | refine stop_range ?_ | refine stop_next ?_ | refine stop_convert ⟨_, rfl⟩ ?_ | refine stop_convertB ⟨_, _, _, rfl⟩ ?_ | refine stop_eqSlice ⟨_, _, rfl⟩ ?_)
          refine Hd.out.mono ?_
          rintro e w5 ⟨vL5, rfl, hc5, hL5⟩
          unfold seaV
          simp only at hL5 ⊢
          obtain ⟨AL5, cL5, rfl⟩ := hL5.slice
          have HL5 := Lib.hid hL5
          have oB5 := hc5.obj HoB2.out (not_no _)
          have op5 := hc5.obj Hop.out (not_no _)
          have Hc5 := Lib.hid hc5
          clear e0 e1 y0 y1 y2 y3 d0 d1 hL5 hc5 Hd
          go_wp2_with (with_reducible first | refine stop_append ?_ | refine stop_copy ?_ | refine stop_make ?_ | refine stop_lookup ?_ | refine stop_update ?_ | refine stop_slice ?_ | refine stop_range ?_ | refine stop_next ?_ | refine stop_convert ⟨_, rfl⟩ ?_ | refine stop_convertB ⟨_, _, _, rfl⟩ ?_ | refine stop_eqSlice ⟨_, _, rfl⟩ ?_ | refine stop_store ?_ | refine stop_alloc ?_ | refine stop_box ?_ | refine stop_load (t := 39) ?_)
          refine step_alloc (.agg #[.int .i64 0, .slice none 0 0, .slice none 0 0, .slice none 0 0]) #[.int .i64 0, .slice none 0 0, .slice none 0 0, .slice none 0 0] (by kernel_rfl) rfl ?_
          intro w6 o6 c6 s6
          go_wp2_with (with_reducible first | refine stop_append ?_ | refine stop_copy ?_ | refine stop_make ?_ | refine stop_lookup ?_ | refine stop_update ?_ | refine stop_slice ?_ | refine stop_range ?_ | refine stop_next ?_ | refine stop_convert ⟨_, rfl⟩ ?_ | refine stop_convertB ⟨_, _, _, rfl⟩ ?_ | refine stop_eqSlice ⟨_, _, rfl⟩ ?_ | refine stop_store ?_ | refine stop_alloc ?_ | refine stop_box ?_ | refine stop_load (t := 39) ?_)
          refine step_store_row w5.heap.size #[.int .i64 t, .slice Aq q.length cq, .slice As s.length cs, .slice AL5 ps'.length cL5] rfl rfl o6 (by kernel_rfl) rfl (by simp [Value.oneCell']) ?_
          intro w7 o7 c7
          have hc7 := c6.old c7 (fun i h => by simp only [At] at h; omega)
          clear o6 c6 s6 c7
          have oB7 := hc7.obj oB5 (not_no _)
          have op7 := hc7.obj op5 (not_no _)
          clear oB5 op5
          go_wp2_with (with_reducible first | refine stop_append ?_ | refine stop_copy ?_ | refine stop_make ?_ | refine stop_lookup ?_ | refine stop_update ?_ | refine stop_slice ?_ | refine stop_range ?_ | refine stop_next ?_ | refine stop_convert ⟨_, rfl⟩ ?_ | refine stop_convertB ⟨_, _, _, rfl⟩ ?_ | refine stop_eqSlice ⟨_, _, rfl⟩ ?_ | refine stop_store ?_ | refine stop_alloc ?_ | refine stop_box ?_ | refine stop_load (t := 39) ?_)
          refine step_load_row w5.heap.size _ rfl o7 Try.underlying39 rfl (by kernel_rfl) ?_
          go_wp2_with (with_reducible first | refine stop_append ?_ | refine stop_copy ?_ | refine stop_make ?_ | refine stop_lookup ?_ | refine stop_update ?_ | refine stop_slice ?_ | refine stop_range ?_ | refine stop_next ?_ | refine stop_convert ⟨_, rfl⟩ ?_ | refine stop_convertB ⟨_, _, _, rfl⟩ ?_ | refine stop_eqSlice ⟨_, _, rfl⟩ ?_ | refine stop_store ?_ | refine stop_alloc ?_ | refine stop_box ?_ | refine stop_load (t := 39) ?_)
          refine step_store_row B #[.int .i64 t, .slice Aq q.length cq, .slice As s.length cs, .slice AL5 ps'.length cL5] rfl rfl oB7 (by kernel_rfl) rfl (by simp [Value.oneCell']) ?_
          intro w8 oB8 c8
          have hBA := HBA.out
          have hneB : ¬ At B wA.heap.size := by simp only [At]; omega
          have op8 := c8.obj op7 hneB
          have hc57 := (Hcp.out.trans Hc5.out).trans hc7
          have hcw8 : Chg No w w8 := (Hcr.out.trans hc57).old c8 (fun i g => by simp only [At] at g; have := Hb.out; have := HbB.out; omega)
          have Hs8 := Lib.hid ((Hsea.out.keepNo hc57).keep c8 (fun i _ g => by simp only [At] at g; subst g; exact HnS.out))
          have HnA0 := Lib.hid (show ¬ S wA.heap.size from fun g => by have := Hsea.out.lt _ g; omega)
          have HL8 := Lib.hid (((HL5.out.keepNo hc7).keep (c8.weak (fun i _ g => .inr g))))
          have HB8 := Lib.hid (lt_of_heap oB8)
          have HoB8 := Lib.hid oB8; have Hop8 := Lib.hid op8; have Hcw8 := Lib.hid hcw8
          have Hx8 := Lib.hid (((Hvl.out.keepNo hc57).keep (c8.weak (fun i _ g => by simp only [At] at g; simp only [Ge]; have := Hb.out; have := HbB.out; omega))).weak (fun i _ g => by have := HS.out i g; have := Hb.out; simp only [Ge]; omega : ∀ i, i < w8.heap.size → S i → Ge w.heap.size i))
          clear hcw8 hc57 op8 hneB hBA c8 oB8 hc7 oB7 op7 o7 HL5 Hc5 Hop HoB2 Hcp Hsea HL Hoo Hvl
          have Hdn := Lib.hid (rel_done Hre'.out)
          have HT := Lib.hid (show ss'.tail.length ≤ 200 ∧ (∀ e ∈ ss'.tail, e.2.2.1.length ≤ 8) from ⟨by
            rw [Hre'.out.tail]
            rcases Hre'.out.one with h0 | ⟨y, hy, e⟩
            · rw [h0]; simp
            · rw [← e]; exact (Hpp.out.2 y hy).1, fun e he => by rw [Hre'.out.tail] at he; exact ent_cut8 (Hre'.out.right e he)⟩)
          have HTS := Lib.hid (show (tailS ss').length ≤ 200 ∧ (∀ e ∈ tailS ss', e.2.2.1.length ≤ 8) from by
            unfold tailS
            split
            · exact HT.out
            · exact ⟨by simp, fun e he => absurd he (by simp)⟩)
          have Hsd := Lib.hid (fun W S' (h : Sea W S' p ss') => sdone_any S' p ss' W h)
          have Hst := Lib.hid (fun W S' (h : Sea W S' p ss') => stail_any S' p ss' W h (by have := HT.out.1; omega) (fun e he => by have := HT.out.2 e he; omega))
          have Hdd := Lib.hid (fun W (hW : Chg No w W) (hL : Sl No W (.slice AL5 ps'.length cL5) ps') => ddone_any t (.slice Aq q.length cq) (.slice As s.length cs) (.slice AL5 ps'.length cL5) q ps' W (Hq.out.keepNo hW) ⟨_, _, _, rfl⟩ hL (by have := Hqn.out; omega))
          have Hdt := Lib.hid (fun W (hW : Chg No w W) (hL : Sl No W (.slice AL5 ps'.length cL5) ps') => dtail_any t (.slice Aq q.length cq) (.slice As s.length cs) (.slice AL5 ps'.length cL5) q ps' W (Hq.out.keepNo hW) ⟨_, _, _, rfl⟩ hL (by have := Hqn.out; omega) (by have := Hpp.out.1; have := Hl20.out; omega))
          rw [Hdn.out.1] at Hst Hsd
          rw [Hdn.out.2] at Hst HTS
          generalize tailR q ps' = TT at *
          generalize doneR q ps' = dn at *
          unfold seaV at Hdd Hdt
          have Hmn := Lib.hid (fun W (hs : Sl S W (.slice A5 xl.length c5) xl) (hl : ∀ k, S k → k < W.heap.size) => mine12F_any S (.slice A5 xl.length c5) xl W hs hl (by have := Hle.out; omega))
          have Hen := Lib.hid (fun W v' (hs : Sl No W v' TT) => entries12_any v' TT W hs (by have := HTS.out.1; omega))
          have Hsa := Lib.hid (fun W v' u' (hs : Sl No W v' TT) (hu : Sl No W u' TT) => dsameall_any No No v' u' TT TT W hs hu (by have := HTS.out.1; omega) (by have := HTS.out.1; omega) (fun e he => by have := HTS.out.2 e he; omega) (fun e he => by have := HTS.out.2 e he; omega))
          simp only [decide_true] at Hsa
          have HnA := HnA0.out
          have H20 := Lib.hid (show ∀ W, Chg S w8 W → (fun W => (W.cell? ⟨wA.heap.size, 0, none⟩ = some (.int .i64 x0) ∧ W.cell? ⟨wA.heap.size, 1, none⟩ = some (.slice A5 xl.length c5)) ∧ ((W.cell? ⟨B, 0, none⟩ = some (.int .i64 t) ∧ W.cell? ⟨B, 1, none⟩ = some (.slice Aq q.length cq)) ∧ (W.cell? ⟨B, 2, none⟩ = some (.slice As s.length cs) ∧ W.cell? ⟨B, 3, none⟩ = some (.slice AL5 ps'.length cL5)))) W from fun W hW => ⟨⟨cell_obj (i := 0) (hW.obj Hop8.out HnA) rfl, cell_obj (i := 1) (hW.obj Hop8.out HnA) rfl⟩, ⟨cell_obj (i := 0) (hW.obj HoB8.out HnS.out) rfl, cell_obj (i := 1) (hW.obj HoB8.out HnS.out) rfl⟩, ⟨cell_obj (i := 2) (hW.obj HoB8.out HnS.out) rfl, cell_obj (i := 3) (hW.obj HoB8.out HnS.out) rfl⟩⟩)
          clear HnA Hdn
          go_wp2_with (with_reducible first | refine stop_append ?_ | refine stop_copy ?_ | refine stop_make ?_ | refine stop_lookup ?_ | refine stop_update ?_ | refine stop_slice ?_ | refine stop_range ?_ | refine stop_next ?_ | refine stop_convert ⟨_, rfl⟩ ?_ | refine stop_convertB ⟨_, _, _, rfl⟩ ?_ | refine stop_eqSlice ⟨_, _, rfl⟩ ?_ | refine stop_store ?_ | refine stop_alloc ?_ | refine stop_box ?_ | refine stop_load (t := 39) ?_)
          cases ok' <;> cases dn
          all_goals
            have dd := (Chg.refl No w8).drew
            refine rt_start (fun W => (W.cell? ⟨wA.heap.size, 0, none⟩ = some (.int .i64 x0) ∧ W.cell? ⟨wA.heap.size, 1, none⟩ = some (.slice A5 xl.length c5)) ∧ ((W.cell? ⟨B, 0, none⟩ = some (.int .i64 t) ∧ W.cell? ⟨B, 1, none⟩ = some (.slice Aq q.length cq)) ∧ (W.cell? ⟨B, 2, none⟩ = some (.slice As s.length cs) ∧ W.cell? ⟨B, 3, none⟩ = some (.slice AL5 ps'.length cL5)))) (by kernel_rfl) ?_
            iterate 6 ((refine rt_nx [] (v := ?_) rfl (by kernel_rfl) (fun _ _ _ h => h) rfl ?_ ?_; rotate_left; focus (intro W hW; (try dsimp only at hW); go_split_ands; go_simp; (try (simp (disch := omega) only [IntWalk.i64_in]; (try go_simp))); (try (split; (next => omega); (try go_simp))); try rfl; done)); try simp only [Act.put, List.setIfInBounds_toArray, List.set_cons_zero, List.set_cons_succ, Nat.reduceAdd])
            refine rt_kx (fun W => (W.cell? ⟨wA.heap.size, 0, none⟩ = some (.int .i64 x0) ∧ W.cell? ⟨wA.heap.size, 1, none⟩ = some (.slice A5 xl.length c5)) ∧ ((W.cell? ⟨B, 0, none⟩ = some (.int .i64 t) ∧ W.cell? ⟨B, 1, none⟩ = some (.slice Aq q.length cq)) ∧ (W.cell? ⟨B, 2, none⟩ = some (.slice As s.length cs) ∧ W.cell? ⟨B, 3, none⟩ = some (.slice AL5 ps'.length cL5)))) 5 (by kernel_rfl) (H20.out _ dd.of_no) (fun _ h => h) rfl (by rfl) (fun K hK => ?_)
            go_simp
            refine (Hmn.out w8.drew (Hx8.out.keepNo dd) (Hs8.out.keepNo dd).lt).mono ?_
            rintro e w9 ⟨v9, rfl, hc9, hs9⟩
            have dd9 := dd.trans hc9
            obtain ⟨A9, c9, rfl⟩ := hs9.slice
            have Hs9 := Lib.hid hs9
            clear hs9 hc9 dd
            refine hK _ _ ?_
            clear hK K
            try simp only [Act.put, List.setIfInBounds_toArray, List.set_cons_zero, List.set_cons_succ]
            refine rt_kx (fun W => (W.cell? ⟨wA.heap.size, 0, none⟩ = some (.int .i64 x0) ∧ W.cell? ⟨wA.heap.size, 1, none⟩ = some (.slice A5 xl.length c5)) ∧ ((W.cell? ⟨B, 0, none⟩ = some (.int .i64 t) ∧ W.cell? ⟨B, 1, none⟩ = some (.slice Aq q.length cq)) ∧ (W.cell? ⟨B, 2, none⟩ = some (.slice As s.length cs) ∧ W.cell? ⟨B, 3, none⟩ = some (.slice AL5 ps'.length cL5)))) 6 (by kernel_rfl) (H20.out _ dd9.of_no) (fun _ h => h) rfl (by rfl) (fun K hK => ?_)
            go_simp
            refine (HHs.out w9 _ (Hs8.out.keepNo dd9) Hs9.out).mono ?_
            rintro e w10 ⟨rfl, hc10, S', hse10, hS10⟩
            have dd10 : Chg S w8 w10 := dd9.of_no.trans hc10
            have Hdd9 := Lib.hid dd9
            have Hc10 := Lib.hid hc10
            have Hs10 := Lib.hid hse10
            have HS10 := Lib.hid hS10
            clear dd9 hc10 hse10 hS10
            simp only
            refine hK _ _ ?_
            clear hK K
            try simp only [Act.put, List.setIfInBounds_toArray, List.set_cons_zero, List.set_cons_succ]
            iterate 2 ((refine rt_nx [] (v := ?_) rfl (by kernel_rfl) (fun _ _ _ h => h) rfl ?_ ?_; rotate_left; focus (intro W hW; (try dsimp only at hW); go_split_ands; go_simp; (try (simp (disch := omega) only [IntWalk.i64_in]; (try go_simp))); (try (split; (next => omega); (try go_simp))); try rfl; done)); try simp only [Act.put, List.setIfInBounds_toArray, List.set_cons_zero, List.set_cons_succ, Nat.reduceAdd])
            iterate 2 ((first | (refine rt_nn [] rfl (by kernel_rfl) (fun _ _ _ h => h) rfl ?_) | (refine rt_nx [] (v := ?_) rfl (by kernel_rfl) (fun _ _ _ h => h) rfl ?_ ?_; rotate_left; focus (intro W hW; (try dsimp only at hW); go_split_ands; go_simp; (try (simp (disch := omega) only [IntWalk.i64_in]; (try go_simp))); (try (split; (next => omega); (try go_simp))); try rfl; done))); try simp only [Act.put, List.setIfInBounds_toArray, List.set_cons_zero, List.set_cons_succ, Nat.reduceAdd])
            refine rt_kx (fun W => (W.cell? ⟨wA.heap.size, 0, none⟩ = some (.int .i64 x0) ∧ W.cell? ⟨wA.heap.size, 1, none⟩ = some (.slice A5 xl.length c5)) ∧ ((W.cell? ⟨B, 0, none⟩ = some (.int .i64 t) ∧ W.cell? ⟨B, 1, none⟩ = some (.slice Aq q.length cq)) ∧ (W.cell? ⟨B, 2, none⟩ = some (.slice As s.length cs) ∧ W.cell? ⟨B, 3, none⟩ = some (.slice AL5 ps'.length cL5)))) 11 (by kernel_rfl) (H20.out _ dd10) (fun _ h => h) rfl (by rfl) (fun K hK => ?_)
            go_simp
            refine (Hsd.out w10 S' Hs10.out).mono ?_
            rintro e w11 ⟨rfl, hc11⟩
            have dd11 := dd10.trans hc11.of_no
            have Hc1011 := Lib.hid hc11
            clear dd10 hc11
            refine hK _ _ ?_
            clear hK K
            try simp only [Act.put, List.setIfInBounds_toArray, List.set_cons_zero, List.set_cons_succ]
            refine rt_kx (fun W => (W.cell? ⟨wA.heap.size, 0, none⟩ = some (.int .i64 x0) ∧ W.cell? ⟨wA.heap.size, 1, none⟩ = some (.slice A5 xl.length c5)) ∧ ((W.cell? ⟨B, 0, none⟩ = some (.int .i64 t) ∧ W.cell? ⟨B, 1, none⟩ = some (.slice Aq q.length cq)) ∧ (W.cell? ⟨B, 2, none⟩ = some (.slice As s.length cs) ∧ W.cell? ⟨B, 3, none⟩ = some (.slice AL5 ps'.length cL5)))) 13 (by kernel_rfl) (H20.out _ dd11) (fun _ h => h) rfl (by rfl) (fun K hK => ?_)
            go_simp
            refine (Hdd.out w11 (Hcw8.out.old dd11 (fun i g => by have := HS.out i g; have := Hb.out; omega)) (HL8.out.keep (dd11.weak (fun i _ g => .inl g))).no).mono ?_
            rintro e w12 ⟨rfl, hc12⟩
            have dd12 := dd11.trans hc12.of_no
            have Hc12 := Lib.hid (Hc1011.out.trans hc12)
            clear dd11 hc12
            refine hK _ _ ?_
            clear hK K
            try simp only [Act.put, List.setIfInBounds_toArray, List.set_cons_zero, List.set_cons_succ]
            ((first | (refine rt_nn [15] rfl (by kernel_rfl) (fun _ _ _ h => h) rfl ?_) | (refine rt_nx [15] (v := ?_) rfl (by kernel_rfl) (fun _ _ _ h => h) rfl ?_ ?_; rotate_left; focus (intro W hW; (try dsimp only at hW); go_split_ands; go_simp; (try (simp (disch := omega) only [IntWalk.i64_in]; (try go_simp))); (try (split; (next => omega); (try go_simp))); try rfl; done))); try simp only [Act.put, List.setIfInBounds_toArray, List.set_cons_zero, List.set_cons_succ, Nat.reduceAdd])
            refine rt_kx (fun W => (W.cell? ⟨wA.heap.size, 0, none⟩ = some (.int .i64 x0) ∧ W.cell? ⟨wA.heap.size, 1, none⟩ = some (.slice A5 xl.length c5)) ∧ ((W.cell? ⟨B, 0, none⟩ = some (.int .i64 t) ∧ W.cell? ⟨B, 1, none⟩ = some (.slice Aq q.length cq)) ∧ (W.cell? ⟨B, 2, none⟩ = some (.slice As s.length cs) ∧ W.cell? ⟨B, 3, none⟩ = some (.slice AL5 ps'.length cL5)))) 15 (by kernel_rfl) (H20.out _ dd12) (fun _ h => h) rfl (by rfl) (fun K hK => ?_)
            go_simp
            refine hK _ _ ?_
            clear hK K
            try simp only [Act.put, List.setIfInBounds_toArray, List.set_cons_zero, List.set_cons_succ]
            refine rt_done (by kernel_rfl)  ?_
            go_wp2_with (with_reducible first | refine stop_append ?_ | refine stop_copy ?_ | refine stop_make ?_ | refine stop_lookup ?_ | refine stop_update ?_ | refine stop_slice ?_ | refine stop_range ?_ | refine stop_next ?_ | refine stop_convert ⟨_, rfl⟩ ?_ | refine stop_convertB ⟨_, _, _, rfl⟩ ?_ | refine stop_eqSlice ⟨_, _, rfl⟩ ?_)
            refine (Hst.out w12 S' (Hs10.out.keepNo Hc12.out)).mono ?_
            rintro e w13 ⟨A13, c13, rfl, hc13, hs13⟩
            have dd13 := dd12.trans hc13.of_no
            have Hc13 := Lib.hid (Hc12.out.trans hc13)
            have Hs13 := Lib.hid hs13.no
            obtain ⟨-, ⟨y0, y1⟩, y2, y3⟩ := H20.out _ dd13
            have hcw13 : Chg No w w13 := Hcw8.out.old dd13 (fun i g => by have := HS.out i g; have := Hb.out; omega)
            have Hcw13 := Lib.hid hcw13
            clear hcw13 dd12 hc13 hs13
            go_wp2_with (with_reducible first | refine stop_append ?_ | refine stop_copy ?_ | refine stop_make ?_ | refine stop_lookup ?_ | refine stop_update ?_ | refine stop_slice ?_ | refine stop_range ?_ | refine stop_next ?_ | refine stop_convert ⟨_, rfl⟩ ?_ | refine stop_convertB ⟨_, _, _, rfl⟩ ?_ | refine stop_eqSlice ⟨_, _, rfl⟩ ?_)
            clear y0 y1 y2 y3
            refine (Hdt.out w13 Hcw13.out (HL8.out.keep (dd13.weak (fun i _ g => .inl g))).no).mono ?_
            rintro e w14 ⟨v14, rfl, hc14, hs14⟩
            have Hc14 := Lib.hid (Hc13.out.trans hc14)
            have Hcw14 := Lib.hid (Hcw13.out.trans hc14)
            have Hs13b := Lib.hid (Hs13.out.keepNo hc14)
            have Hs14 := Lib.hid hs14
            have Hdd14 := Lib.hid (dd13.trans hc14.of_no)
            obtain ⟨A14, c14, rfl⟩ := hs14.slice
            clear hc14 hs14 dd13
            go_wp2_with (with_reducible first | refine stop_append ?_ | refine stop_copy ?_ | refine stop_make ?_ | refine stop_lookup ?_ | refine stop_update ?_ | refine stop_slice ?_ | refine stop_range ?_ | refine stop_next ?_ | refine stop_convert ⟨_, rfl⟩ ?_ | refine stop_convertB ⟨_, _, _, rfl⟩ ?_ | refine stop_eqSlice ⟨_, _, rfl⟩ ?_)
            refine (Hen.out w14 _ Hs13b.out).mono ?_
            rintro e w15 ⟨v15, rfl, hc15, hs15⟩
            have Hs15 := Lib.hid hs15
            have Hs14b := Lib.hid (Hs14.out.keepNo hc15)
            have Hc15 := Lib.hid hc15
            clear hs15 hc15
            go_wp2_with (with_reducible first | refine stop_append ?_ | refine stop_copy ?_ | refine stop_make ?_ | refine stop_lookup ?_ | refine stop_update ?_ | refine stop_slice ?_ | refine stop_range ?_ | refine stop_next ?_ | refine stop_convert ⟨_, rfl⟩ ?_ | refine stop_convertB ⟨_, _, _, rfl⟩ ?_ | refine stop_eqSlice ⟨_, _, rfl⟩ ?_)
            refine (Hsa.out w15 _ _ Hs15.out Hs14b.out).mono ?_
            rintro e w16 ⟨rfl, hc16⟩
            have hcF := Hcw14.out.trans (Hc15.out.trans hc16)
            have hc1016 := Hc14.out.trans (Hc15.out.trans hc16)
            have hdF := Hdd14.out.trans (Hc15.out.trans hc16).of_no
            have Hw9 := Lib.hid (Hdd9.out.size)
            have HF := Lib.hid (show ∀ i, S' i → b < i from fun i g => by
              rcases HS10.out i g with g | g
              · exact HS.out i g
              · have := Hw9.out; have := HB8.out; have := HbB.out; omega)
            have HFn := Lib.hid (show ¬ S' B from fun g => by
              rcases HS10.out B g with g | g
              · exact HnS.out g
              · have := Hw9.out; have := HB8.out; omega)
            have HoF := Lib.hid (hdF.obj HoB8.out HnS.out)
            have HseF := Lib.hid (Hs10.out.keepNo hc1016)
            have HLF := Lib.hid (show Sl (fun i => S' i ∨ i = B) w16 (.slice AL5 ps'.length cL5) ps' from
              (((((HL8.out.keepNo Hdd9.out).weak (G := fun i => (S i ∨ i = B) ∨ S' i) (fun i hi g => by
                rcases g with g | g
                · exact g
                · rcases HS10.out i g with g | g
                  · exact .inl g
                  · omega)).keep (Hc10.out.weak (fun i _ g => .inl (.inl g)))).keepNo hc1016).weak (fun i _ g => by
                rcases g with g | g
                · exact .inr g
                · exact .inl (.inr g))))
            have HcF := Lib.hid hcF
            clear hcF hc1016 hdF hc16
            go_wp2_with (with_reducible first | refine stop_append ?_ | refine stop_copy ?_ | refine stop_make ?_ | refine stop_lookup ?_ | refine stop_update ?_ | refine stop_slice ?_ | refine stop_range ?_ | refine stop_next ?_ | refine stop_convert ⟨_, rfl⟩ ?_ | refine stop_convertB ⟨_, _, _, rfl⟩ ?_ | refine stop_eqSlice ⟨_, _, rfl⟩ ?_)
            go_roundw
            case rel => exact ⟨k + 1, S', ss', ps', _, by omega, by go_num, HcF.out, HseF.out, Hre'.out, HF.out, HFn.out, HoF.out, HLF.out, Hpp.out⟩
            case measure => simp [intOf]; omega
        · obtain rfl : k = l.length := by omega
          clear hlt hk
          have hcr := Hcr.out
          go_wp2_with (with_reducible first | refine stop_append ?_ | refine stop_copy ?_ | refine stop_make ?_ | refine stop_lookup ?_ | refine stop_update ?_ | refine stop_slice ?_ | refine stop_range ?_ | refine stop_next ?_ | refine stop_convert ⟨_, rfl⟩ ?_ | refine stop_convertB ⟨_, _, _, rfl⟩ ?_ | refine stop_eqSlice ⟨_, _, rfl⟩ ?_)
          refine (qalive_any _).mono ?_
          rintro e w9 ⟨rfl, hc9⟩
          have hcw := hcr.trans hc9
          go_wp2_with (with_reducible first | refine stop_append ?_ | refine stop_copy ?_ | refine stop_make ?_ | refine stop_lookup ?_ | refine stop_update ?_ | refine stop_slice ?_ | refine stop_range ?_ | refine stop_next ?_ | refine stop_convert ⟨_, rfl⟩ ?_ | refine stop_convertB ⟨_, _, _, rfl⟩ ?_ | refine stop_eqSlice ⟨_, _, rfl⟩ ?_)
          go_ret
          exact ⟨rfl, hcw⟩
end Go.Proofs.Yticimjplegbagaa

