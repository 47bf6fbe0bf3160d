/- Texts Opn, RowV, RowE, QuoO, QuoQ, RdcB, RdcG, RdcE, RdcH, QuoT, QuoU. -/
import Derived.Test.YticimjplegbagaaMg14
import Derived.Deep.Slices
/- What is handed in, opened: numbers, strings, rows, structs, one inside another. It speaks of no program. -/
set_option linter.unusedVariables false
namespace Cb
open Go Go.Deep Go.ChangeShapes Go.WideShapes
section
variable {P : Program}
def Opens (P : Program) (α : Type) [Rep α] (t : TypeId) (B : α → Prop) : Prop :=
  P.cellsOf t = Rep.n α ∧ ∀ (H : Type) (enc : TypeId × Value → H) (w : World) (base : Nat) (spare : Nat → Bool) (held : Bool) (n : Nat) (cs : List Value) (x : DataW H × List MemPlace), DataW.trod enc P w base spare held n t cs = some x →
    ∃ a : α, Rep.cs No w a cs ∧ ((∀ k ∈ x.1.weights P t, k ≤ reachBytes) → B a)
def Both {α β : Type} (B : α → Prop) (C : β → Prop) : α × β → Prop := fun x => B x.1 ∧ C x.2
def Each {α : Type} (k : Nat) (B : α → Prop) : List α → Prop := fun xs => xs.length * k ≤ reachBytes ∧ ∀ x ∈ xs, B x
def I64 : Int → Prop := fun x => -9223372036854775808 ≤ x ∧ x ≤ 9223372036854775807
theorem i64_of {n : Int} (h : (Lit.int .i64 n).wf = true) : I64 n := by
  simp only [Lit.wf, Bool.and_eq_true, decide_eq_true_eq] at h
  exact h
theorem opens_int {t : TypeId} (ht : P.underlying t = some (.int .i64)) (hc : P.cellsOf t = 1) : Opens P Int t I64 :=
  ⟨hc, fun H enc w base spare held n cs x h => by
    obtain ⟨q, e, _, hw⟩ := DataW.trod_int ht h
    exact ⟨q, e, fun _ => i64_of hw⟩⟩
theorem opens_slice {α : Type} [Rep α] {t e : TypeId} {B : α → Prop} (hpos : 0 < Rep.n α) (ht : P.underlying t = some (.slice e)) (hc : P.cellsOf t = 1) (he : Opens P α e B) :
    Opens P (List α) t (Each (P.bytesOf e) B) :=
  ⟨hc, fun H enc w base spare held n cs x h => by
    rcases open_slice ht h with ⟨rfl, rfl⟩ | ⟨a, len, cap, m, n, D, Pl, rfl, _, hl, hm, hmm, hxx, hx⟩
    · exact ⟨[], ⟨_, rfl, Sl.nil _ _ _ _⟩, fun _ => ⟨by simp, fun _ h => absurd h (by simp)⟩⟩
    · have hlm : len ≤ m := by rw [hmm]; split <;> omega
      by_cases hl0 : len = 0
      · subst hl0; exact ⟨[], ⟨_, rfl, Sl.nil _ _ _ _⟩, fun _ => ⟨by simp, fun _ h => absurd h (by simp)⟩⟩
      · have each : ∀ i, i < m → ∃ q : α × List Value, w.cells? base (a.add (i * P.cellsOf e)) (P.cellsOf e) = some q.2 ∧ Rep.cs No w q.1 q.2 ∧ ((∀ k ∈ (D i).weights P e, k ≤ reachBytes) → B q.1) := fun i hi => by
          obtain ⟨cs', h1, h2⟩ := hx i hi
          obtain ⟨q, h3, h4⟩ := he.2 H enc w base spare held _ _ _ h2
          exact ⟨(q, cs'), h1, h3, h4⟩
        obtain ⟨q0, _⟩ := each 0 (by omega)
        haveI : Inhabited (α × List Value) := ⟨q0⟩
        obtain ⟨q, hq⟩ := choose_lt each
        have hcell : ∀ i, i < m → ∀ j u, (q i).2[j]? = some u → w.cell? (a.add (i * P.cellsOf e + j)) = some u := fun i hi j u hu => by
          have := cells?_get (hq i hi).1 hu
          rwa [add_add] at this
        obtain ⟨b, off, spot⟩ := a
        have h0 := hq 0 (by omega)
        have hq0l := Rep.len h0.2.1
        obtain ⟨u0, hu0⟩ : ∃ u, (q 0).2[0]? = some u := ⟨_, List.getElem?_eq_getElem (by omega)⟩
        have hc0 := hcell 0 (by omega) 0 u0 hu0
        have hspot : spot = none := by
          have := World.cell?_spot hc0
          simpa [Addr.add] using this
        subst hspot
        have hb : b < w.heap.size := by
          have := World.block_lt_of_cell? w _ hc0
          rw [add_plain'] at this; exact this
        have hlen : ((List.range len).map fun i => (q i).1).length = len := by simp
        refine ⟨(List.range len).map fun i => (q i).1, ⟨_, rfl, some ⟨b, off, none⟩, cap, by rw [hlen], by rw [hlen]; exact hl, .inr ⟨b, off, rfl, not_no _, hb, fun i hi => ?_⟩⟩, fun hw => ⟨?_, fun x hx' => ?_⟩⟩
        · rw [hlen] at hi
          refine ⟨(q i).2, by rw [List.getElem_map, List.getElem_range]; exact (hq i (by omega)).2.1, fun j u hu => ?_⟩
          have := hcell i (by omega) j u hu
          rw [he.1, add_plain', ← Nat.add_assoc] at this
          exact this
        · rw [hlen]
          have := hw ((((List.range len).map D).length + ((List.range (m - len)).map fun j => D (len + j)).length) * P.bytesOf e) (by rw [hxx]; simp [DataW.weights, ht])
          simp only [List.length_map, List.length_range] at this
          exact Nat.le_trans (Nat.mul_le_mul_right _ (by omega)) this
        · obtain ⟨i, hi, rfl⟩ := List.mem_map.1 hx'
          have hi := List.mem_range.1 hi
          refine (hq i (by omega)).2.2 fun k hk => hw k ?_
          rw [hxx]
          simp only [DataW.weights, ht, List.mem_cons, List.mem_append]
          right; left
          exact mem_weightsAll hk (List.mem_map.2 ⟨i, List.mem_range.2 hi, rfl⟩)⟩
where
  cells?_get {w : World} {base : Nat} {a : Addr} {n : Nat} {cs : List Value} (h : w.cells? base a n = some cs) {j : Nat} {u : Value} (hu : cs[j]? = some u) : w.cell? (a.add j) = some u := by
    obtain ⟨_, hl, hg⟩ := World.cells?_some h
    rw [← hu]
    exact hg j (by have := (List.getElem?_eq_some_iff.1 hu).1; omega)
/-- The fields of a struct from an offset on. -/
def OpensF (P : Program) (α : Type) [Rep α] (fs : List Field) (off : Nat) (B : α → Prop) : Prop :=
  ∀ (H : Type) (enc : TypeId × Value → H) (w : World) (base : Nat) (spare : Nat → Bool) (held : Bool) (n : Nat) (cs : List Value) (xs : List (DataW H × List MemPlace)), cs.length = off + Rep.n α → xs.length = fs.length →
    (∀ (i : Nat) (f : Field), fs[i]? = some f → DataW.trod enc P w base spare held n f.type ((cs.drop f.offset).take (P.cellsOf f.type)) = xs[i]?) →
    ∃ a : α, Rep.cs No w a (cs.drop off) ∧ ((∀ k ∈ DataW.weightsEach P (fs.map (·.type)) (xs.map (·.1)), k ≤ reachBytes) → B a)
theorem opensF_one {α : Type} [Rep α] {f : Field} {off : Nat} {B : α → Prop} (ho : f.offset = off) (hf : Opens P α f.type B) : OpensF P α [f] off B :=
  fun H enc w base spare held n cs xs hl hx h => by
    match xs, hx with
    | [x], _ =>
      have h0 := h 0 f rfl
      rw [ho, hf.1, List.take_of_length_le (by rw [List.length_drop]; omega)] at h0
      simp only [List.getElem?_cons_zero] at h0
      obtain ⟨a, h1, h2⟩ := hf.2 H enc w base spare held n _ _ h0
      exact ⟨a, h1, fun hw => h2 fun k hk => hw k (by simp [DataW.weightsEach, hk])⟩
theorem opensF_cons {α β : Type} [Rep α] [Rep β] {f : Field} {fs : List Field} {off : Nat} {B : α → Prop} {C : β → Prop} (ho : f.offset = off) (hf : Opens P α f.type B) (hr : OpensF P β fs (off + Rep.n α) C) :
    OpensF P (α × β) (f :: fs) off (Both B C) :=
  fun H enc w base spare held n cs xs hl hx h => by
    match xs, hx with
    | x :: xs, hx =>
      have h0 := h 0 f rfl
      rw [ho, hf.1] at h0
      simp only [List.getElem?_cons_zero] at h0
      obtain ⟨a, h1, h2⟩ := hf.2 H enc w base spare held n _ _ h0
      obtain ⟨b, h3, h4⟩ := hr H enc w base spare held n cs xs (by rw [hl]; show off + (Rep.n α + Rep.n β) = _; omega) (by simpa using hx) (fun i g hg => by simpa using h (i + 1) g (by simpa using hg))
      refine ⟨(a, b), ⟨_, _, ?_, h1, h3⟩, fun hw => ⟨h2 fun k hk => hw k ?_, h4 fun k hk => hw k ?_⟩⟩
      · rw [← List.drop_drop, List.take_append_drop]
      · simp [DataW.weightsEach, hk]
      · simp [DataW.weightsEach, hk]
theorem opens_struct {α : Type} [Rep α] {t : TypeId} {fs : List Field} {B : α → Prop} (ht : P.underlying t = some (.struct fs.toArray)) (hc : P.cellsOf t = Rep.n α) (hf : OpensF P α fs 0 B) : Opens P α t B :=
  ⟨hc, fun H enc w base spare held n cs x h => by
    obtain ⟨xs, n, _, hdd, hlen, hxl, hh⟩ := DataW.trod_struct ht h
    obtain ⟨a, h1, h2⟩ := hf H enc w base spare held n cs xs (by rw [hlen, hc]; omega) (by simpa using hxl) (fun i f hf => hh i f (by simpa using hf))
    refine ⟨a, by simpa using h1, fun hw => h2 fun k hk => hw k ?_⟩
    rw [hdd]
    simp only [DataW.weights, ht]
    exact hk⟩
/-- A row that is handed in. -/
theorem opens_row {H : Type} {enc : TypeId × Value → H} {w : World} {base : Nat} {spare : Nat → Bool} {held : Bool} {α : Type} [Rep α] {t : TypeId} {B : List α → Prop} (ho : Opens P (List α) t B) {A : Option Addr} {n c : Nat} {d : DataW H} {ps : List MemPlace} (h : DataW.Trod enc P w base spare held t (.slice A n c) d ps) :
    ∃ xs : List α, Sl No w (.slice A n c) xs ∧ ((∀ k ∈ d.weights P t, k ≤ reachBytes) → B xs) := by
  obtain ⟨fuel, hf⟩ := h
  obtain ⟨a, ⟨v, e, h1⟩, h2⟩ := ho.2 H enc w base spare held fuel [.slice A n c] (d, ps) hf
  simp only [List.cons.injEq, and_true] at e
  subst e
  exact ⟨a, h1, h2⟩
/-- A struct that is handed in. -/
theorem opens_agg {H : Type} {enc : TypeId × Value → H} {w : World} {base : Nat} {spare : Nat → Bool} {held : Bool} {α : Type} [Rep α] {t : TypeId} {B : α → Prop} (ho : Opens P α t B) {cs : Array Value} {d : DataW H} {ps : List MemPlace} (h : DataW.Trod enc P w base spare held t (.agg cs) d ps) :
    ∃ x : α, Rep.cs No w x cs.toList ∧ ((∀ k ∈ d.weights P t, k ≤ reachBytes) → B x) := by
  obtain ⟨fuel, hf⟩ := h
  exact ho.2 H enc w base spare held fuel cs.toList (d, ps) hf
theorem sized_of {H : Type} {ts : List TypeId} {ds : List (DataW H)} {j : Nat} {t : TypeId} {d : DataW H} (h : (DataW.weightsEach P ts ds).all (· ≤ reachBytes) = true) (ht : ts[j]? = some t) (hd : ds[j]? = some d) : ∀ k ∈ d.weights P t, k ≤ reachBytes := fun k hk => by
  have := List.all_eq_true.1 h _ (DataW.weights_mem_each ht hd k hk)
  simpa using this
end
end Cb


/- Rows of numbers that are handed in, opened. -/
set_option linter.unusedVariables false
namespace Go.Proofs.Yticimjplegbagaa
open Go.ChangeShapes Go.WideShapes Go.ChangeAt Go.RowKit Cb

theorem opens_number : Opens Try.prog Int 3 I64 := opens_int Try.underlying3 (by kernel_rfl)
theorem bytes_number : Try.prog.bytesOf 3 = 8 := by kernel_rfl
set_option maxRecDepth 100000 in
theorem opens_numbers : Opens Try.prog (List Int) 22 (Each (Try.prog.bytesOf 3) I64) := opens_slice (by decide) Try.underlying22 (by kernel_rfl) opens_number
set_option maxRecDepth 100000 in
theorem opens_numrows : Opens Try.prog (List (List Int)) 23 (Each (Try.prog.bytesOf 22) (Each (Try.prog.bytesOf 3) I64)) := opens_slice (by decide) Try.underlying23 (by kernel_rfl) opens_numbers
theorem bytes_numbers : Try.prog.bytesOf 22 = 24 := by kernel_rfl
set_option maxRecDepth 100000 in
theorem open_numbers {H : Type} {enc : TypeId × Value → H} {w : World} {base b0 : Nat} {spare : Nat → Bool} {held : Bool} {v : Value} {d : DataW H} {ps : List MemPlace} (hval : Value.okWide Try.prog w .any b0 22 v)
    (h : DataW.Trod enc Try.prog w base spare held 22 v d ps) (hz : ∀ k ∈ d.weights Try.prog 22, k ≤ reachBytes) :
    ∃ l : List Int, Sl No w v l ∧ l.length * 8 ≤ 140737488351232 := by
  obtain ⟨a0, len, cap, rfl⟩ := okWide_slice Try.underlying22 hval
  obtain ⟨l, h1, h2⟩ := opens_row opens_numbers h
  obtain ⟨h3, _⟩ := h2 hz
  rw [bytes_number] at h3
  simp only [reachBytes] at h3
  exact ⟨l, h1, by omega⟩
end Go.Proofs.Yticimjplegbagaa


/- Entries of the document's that are handed in, opened. -/
set_option linter.unusedVariables false
namespace Go.Proofs.Yticimjplegbagaa
open Go.ChangeShapes Go.WideShapes Go.ChangeAt Go.RowKit Cb

set_option maxRecDepth 100000 in
theorem opens_seq : Opens Try.prog (Int × Int) 60 (Both I64 I64) :=
  opens_struct Try.underlying60 (by kernel_rfl) (opensF_cons rfl opens_number (opensF_one rfl opens_number))
set_option maxRecDepth 100000 in
theorem opens_entry : Opens Try.prog Ent 66 (Both I64 (Both I64 (Both (Each (Try.prog.bytesOf 3) I64) (Both I64 (Both I64 I64))))) :=
  opens_struct Try.underlying66 (by kernel_rfl) (opensF_cons rfl opens_number (opensF_cons rfl opens_number (opensF_cons rfl opens_numbers (opensF_cons rfl opens_number (opensF_one rfl opens_seq)))))
theorem bytes_entry : Try.prog.bytesOf 66 = 64 := by kernel_rfl
set_option maxRecDepth 100000 in
theorem opens_entries : Opens Try.prog (List Ent) 27 (Each (Try.prog.bytesOf 66) (Both I64 (Both I64 (Both (Each (Try.prog.bytesOf 3) I64) (Both I64 (Both I64 I64)))))) :=
  opens_slice (by decide) Try.underlying27 (by kernel_rfl) opens_entry
end Go.Proofs.Yticimjplegbagaa


/- Configurations, scripts of calls, and what sealed replicas had, that are handed in, opened. -/
set_option linter.unusedVariables false
namespace Cb
open Go Go.Deep Go.ChangeShapes Go.WideShapes
theorem Sl.map {α β : Type} [Rep α] [Rep β] {F : Nat → Prop} {w : World} {v : Value} {xs : List α} (f : α → β) (hn : Rep.n α = Rep.n β) (hf : ∀ x c, Rep.cs F w x c → Rep.cs F w (f x) c) (h : Sl F w v xs) : Sl F w v (xs.map f) := by
  obtain ⟨A, c, rfl, hl, h⟩ := h
  refine ⟨A, c, by rw [List.length_map], by rw [List.length_map]; exact hl, ?_⟩
  rcases h with rfl | ⟨b, o, rfl, hb, hlt, hr⟩
  · exact .inl rfl
  · refine .inr ⟨b, o, rfl, hb, hlt, fun i hi => ?_⟩
    obtain ⟨d, hd, hj⟩ := hr i (by simpa using hi)
    exact ⟨d, by rw [List.getElem_map]; exact hf _ _ hd, fun j u hu => by rw [← hn]; exact hj j u hu⟩
end Cb
namespace Go.Proofs.Yticimjplegbagaa
open Go.ChangeShapes Go.WideShapes Go.ChangeAt Go.RowKit Cb

set_option maxRecDepth 100000 in
theorem qopens_cfg : Opens Try.prog Cfg7 25 (Both I64 (Both (Each (Try.prog.bytesOf 3) I64) (Each (Try.prog.bytesOf 22) (Each (Try.prog.bytesOf 3) I64)))) :=
  opens_struct Try.underlying25 (by kernel_rfl) (opensF_cons rfl opens_number (opensF_cons rfl opens_numbers (opensF_one rfl opens_numrows)))
def CfgI12 (q : List Int) (s : List (List Int)) : Prop := q.length * 8 ≤ 140737488351232 ∧ s.length * 24 ≤ 140737488351232 ∧ ∀ x ∈ s, x.length * 8 ≤ 140737488351232
theorem cfgq_of {q : List Int} {s : List (List Int)} (h1 : (Each (Try.prog.bytesOf 3) I64) q) (h2 : (Each (Try.prog.bytesOf 22) (Each (Try.prog.bytesOf 3) I64)) s) : CfgI12 q s := by
  obtain ⟨h3, _⟩ := h1
  obtain ⟨h4, h5⟩ := h2
  rw [bytes_number] at h3
  rw [bytes_numbers] at h4
  simp only [reachBytes] at h3 h4
  refine ⟨by omega, by omega, fun x hx => ?_⟩
  have := (h5 x hx).1
  rw [bytes_number] at this
  simp only [reachBytes] at this
  omega
set_option maxRecDepth 100000 in
/-- A configuration that is handed in, with what it may hold. -/
theorem qopen_config {H : Type} {enc : TypeId × Value → H} {w : World} {base b0 : Nat} {spare : Nat → Bool} {held : Bool} {v : Value} {d : DataW H} {ps : List MemPlace} (hval : Value.okWide Try.prog w .any b0 25 v)
    (h : DataW.Trod enc Try.prog w base spare held 25 v d ps) (hz : ∀ k ∈ d.weights Try.prog 25, k ≤ reachBytes) :
    ∃ (t : Int) (q : List Int) (s : List (List Int)) (vq vs : Value), v = cfgV t vq vs ∧ I64 t ∧ Sl No w vq q ∧ Sl No w vs s ∧ CfgI12 q s := by
  obtain ⟨cs, rfl, _⟩ := okWide_struct Try.underlying25 hval
  obtain ⟨⟨t, q, s⟩, ⟨_, _, e, rfl, ⟨_, _, rfl, ⟨vq, rfl, hq⟩, ⟨vs, rfl, hs⟩⟩⟩, h2⟩ := opens_agg qopens_cfg h
  obtain ⟨h3, h4, h5⟩ := h2 hz
  exact ⟨t, q, s, vq, vs, by rw [show cs = cs.toList.toArray by simp, e]; rfl, h3, hq, hs, cfgq_of h4 h5⟩
end Go.Proofs.Yticimjplegbagaa


/- QuorumRises, walked: what is committed never falls, and is never more than there is. -/
set_option linter.unusedVariables false
set_option linter.unusedSimpArgs false
namespace Go.Proofs.Yticimjplegbagaa
open Go.RowKit Cb

theorem sl_one {α : Type} [Rep α] {F : Nat → Prop} {w : World} {v : Value} {xs : List α} (h : Sl F w v xs) : v.oneCell' = true := by
  obtain ⟨A, c, rfl, _⟩ := h; rfl
theorem MsgS.one {F : Nat → Prop} {w : World} {m : Msg} {vt vc vq vs : Value} (h : MsgS F w m vt vc vq vs) : vt.oneCell' = true ∧ vc.oneCell' = true ∧ vq.oneCell' = true ∧ vs.oneCell' = true := ⟨sl_one h.t, sl_one h.c, sl_one h.q, sl_one h.s⟩
end Go.Proofs.Yticimjplegbagaa


/- Walks of the document's chapter 6: Right, Same. -/
set_option linter.unusedVariables false
set_option linter.unusedSimpArgs false
namespace Go.Proofs.Yticimjplegbagaa
open Go.RowKit Cb

theorem rightC_no {t : Int} {q : List Int} {s : List (List Int)} (h : ¬ ((1 ≤ t ∧ t ≤ 64) ∧ (q.length % 2 = 1 ∧ q.length ≤ 7) ∧ (1 ≤ s.length ∧ s.length ≤ 8) ∧ nodesB q = true ∧ ∀ l ∈ s, shardB l = true)) : rightC t q s = false := by
  rcases e : rightC t q s with _ | _
  · rfl
  · exact absurd (rightC_iff.1 e) h
set_option maxRecDepth 100000 in
set_option maxHeartbeats 4000000 in
theorem cright_any (F G : Nat → Prop) (t : Int) (vq vs : Value) (q : List Int) (s : List (List Int)) (w : World) (hq : Sl F w vq q) (hs : Sl G w vs s) (hlq : q.length * 8 ≤ 140737488351232) (hls : s.length ≤ 17592186044416) (hb : ∀ x ∈ s, x.length * 8 ≤ 140737488351232) :
    Calls Try.prog 11 #[cfgV t vq vs] w fun e w' => e = .returned (.bool (rightC t q s)) ∧ Chg No w w' := by
  have Hq := Lib.hid (fun W (hW : Chg No w W) => runlike_any F vq q W (hq.keepNo hW) (by omega))
  have Hs := Lib.hid (fun W (hW : Chg No w W) => hs.keepNo hW)
  have Hb := Lib.hid hb
  have Hno := Lib.hid (fun h => rightC_no (t := t) (q := q) (s := s) h)
  have Hyes := Lib.hid (fun h => (rightC_iff (t := t) (q := q) (s := s)).2 h)
  obtain ⟨Aq, cq, rfl⟩ := hq.slice
  obtain ⟨As, cs, rfl⟩ := hs.slice
  clear hq hs hb
  generalize rightC t q s = R at *
  unfold cfgV at *
  have o1 := alloc_obj w (.cells #[.int .i64 t, .slice Aq q.length cq, .slice As s.length cs] 25)
  have hc0 := (Chg.refl No w).alloc (.cells #[.int .i64 t, .slice Aq q.length cq, .slice As s.length cs] 25)
  have a0 := cell_obj (i := 0) o1 rfl
  have a1 := cell_obj (i := 1) o1 rfl
  have a2 := cell_obj (i := 2) o1 rfl
  by_cases h1 : t < 1
  · have Hr := Lib.hid (Hno.out (by omega))
    go_enter Try.func11, Try.ntmps11
    go_wp2_with (with_reducible first | refine stop_append ?_ | refine stop_copy ?_ | refine stop_make ?_ | refine stop_lookup ?_ | refine stop_update ?_ | refine stop_slice ?_ | refine stop_range ?_ | refine stop_next ?_ | refine stop_convert ⟨_, rfl⟩ ?_ | refine stop_convertB ⟨_, _, _, rfl⟩ ?_ | refine stop_eqSlice ⟨_, _, rfl⟩ ?_)
    go_ret
    exact ⟨by rw [Hr.out]; rfl, hc0⟩
  by_cases h2 : 64 < t
  · have Hr := Lib.hid (Hno.out (by omega))
    go_enter Try.func11, Try.ntmps11
    go_wp2_with (with_reducible first | refine stop_append ?_ | refine stop_copy ?_ | refine stop_make ?_ | refine stop_lookup ?_ | refine stop_update ?_ | refine stop_slice ?_ | refine stop_range ?_ | refine stop_next ?_ | refine stop_convert ⟨_, rfl⟩ ?_ | refine stop_convertB ⟨_, _, _, rfl⟩ ?_ | refine stop_eqSlice ⟨_, _, rfl⟩ ?_)
    go_ret
    exact ⟨by rw [Hr.out]; rfl, hc0⟩
  by_cases h3 : s.length = 0
  · have Hr := Lib.hid (Hno.out (by omega))
    have h3' : (s.length : Int) < 1 := by omega
    clear h3
    go_enter Try.func11, Try.ntmps11
    go_wp2_with (with_reducible first | refine stop_append ?_ | refine stop_copy ?_ | refine stop_make ?_ | refine stop_lookup ?_ | refine stop_update ?_ | refine stop_slice ?_ | refine stop_range ?_ | refine stop_next ?_ | refine stop_convert ⟨_, rfl⟩ ?_ | refine stop_convertB ⟨_, _, _, rfl⟩ ?_ | refine stop_eqSlice ⟨_, _, rfl⟩ ?_)
    go_ret
    exact ⟨by rw [Hr.out]; rfl, hc0⟩
  by_cases h4 : 8 < s.length
  · have Hr := Lib.hid (Hno.out (by omega))
    have h3' : ¬ (s.length : Int) < 1 := by omega
    have h4' : 8 < (s.length : Int) := by omega
    clear h3
    go_enter Try.func11, Try.ntmps11
    go_wp2_with (with_reducible first | refine stop_append ?_ | refine stop_copy ?_ | refine stop_make ?_ | refine stop_lookup ?_ | refine stop_update ?_ | refine stop_slice ?_ | refine stop_range ?_ | refine stop_next ?_ | refine stop_convert ⟨_, rfl⟩ ?_ | refine stop_convertB ⟨_, _, _, rfl⟩ ?_ | refine stop_eqSlice ⟨_, _, rfl⟩ ?_)
    go_ret
    exact ⟨by rw [Hr.out]; rfl, hc0⟩
  have h3' : ¬ (s.length : Int) < 1 := by omega
  have h4' : ¬ 8 < (s.length : Int) := by omega
  have H3 := Lib.hid h3
  clear h3
  go_enter Try.func11, Try.ntmps11
  go_wp2_with (with_reducible first | refine stop_append ?_ | refine stop_copy ?_ | refine stop_make ?_ | refine stop_lookup ?_ | refine stop_update ?_ | refine stop_slice ?_ | refine stop_range ?_ | refine stop_next ?_ | refine stop_convert ⟨_, rfl⟩ ?_ | refine stop_convertB ⟨_, _, _, rfl⟩ ?_ | refine stop_eqSlice ⟨_, _, rfl⟩ ?_)
  generalize w.alloc (.cells #[.int .i64 t, .slice Aq q.length cq, .slice As s.length cs] 25) = w0 at *
  generalize w.heap.size = b0 at *
  go_loopw [3] (fun v3 wr => ∃ k : Nat, k ≤ s.length ∧ v3 = .int .i64 k ∧ Chg No w0 wr ∧ ∀ x ∈ s.take k, shardB x = true) (fun v3 _ => s.length - (intOf v3).toNat)
  case atStart => exact ⟨0, by omega, rfl, Chg.refl _ _, by simp⟩
  case round =>
    obtain ⟨k, hk, rfl, hc, hall⟩ := hrel
    have Hall := Lib.hid hall
    have b1 := hc.cell a1 (not_no _)
    have b2 := hc.cell a2 (not_no _)
    have hcw := hc0.trans hc
    clear hall
    by_cases hlt : k < s.length
    · obtain ⟨b, o, u, rfl, _, hbl, hx0, hu⟩ := rowT_get (Hs.out wr hcw) k hlt
      have Hmem := Lib.hid (List.getElem_mem hlt)
      have Htk := Lib.hid (List.take_succ_eq_append_getElem hlt)
      have hxl := Hb.out _ (List.getElem_mem hlt)
      generalize s[k] = x at *
      have Hun := Lib.hid (fun W (hW : Chg No wr W) => runlike_any G u x W (hu.keepNo hW) (by omega))
      have Hbad := Lib.hid (fun (h : shardB x = false) => Hno.out (fun hh => by have := hh.2.2.2.2 x Hmem.out; rw [h] at this; cases this))
      obtain ⟨Au, cu, rfl⟩ := hu.slice
      clear hu
      by_cases e1 : x.length = 0
      · have Hr := Lib.hid (Hbad.out (by simp [shardB, e1]))
        have e1' : (x.length : Int) < 1 := by omega
        clear e1
        go_wp2_with (with_reducible first | refine stop_append ?_ | refine stop_copy ?_ | refine stop_make ?_ | refine stop_lookup ?_ | refine stop_update ?_ | refine stop_slice ?_ | refine stop_range ?_ | refine stop_next ?_ | refine stop_convert ⟨_, rfl⟩ ?_ | refine stop_convertB ⟨_, _, _, rfl⟩ ?_ | refine stop_eqSlice ⟨_, _, rfl⟩ ?_)
        go_ret
        exact ⟨by rw [Hr.out]; rfl, hcw⟩
      have e1' : ¬ (x.length : Int) < 1 := by omega
      by_cases e2 : 3 < x.length
      · have Hr := Lib.hid (Hbad.out (by simp [shardB]; omega))
        have e2' : 3 < (x.length : Int) := by omega
        clear e1
        go_wp2_with (with_reducible first | refine stop_append ?_ | refine stop_copy ?_ | refine stop_make ?_ | refine stop_lookup ?_ | refine stop_update ?_ | refine stop_slice ?_ | refine stop_range ?_ | refine stop_next ?_ | refine stop_convert ⟨_, rfl⟩ ?_ | refine stop_convertB ⟨_, _, _, rfl⟩ ?_ | refine stop_eqSlice ⟨_, _, rfl⟩ ?_)
        go_ret
        exact ⟨by rw [Hr.out]; rfl, hcw⟩
      have e2' : ¬ 3 < (x.length : Int) := by omega
      have Hsh := Lib.hid (show shardB x = nodesB x by unfold shardB; rw [decide_eq_true (by omega), Bool.true_and])
      obtain ⟨nb, hnb⟩ : ∃ o, o = nodesB x := ⟨_, rfl⟩
      rw [← hnb] at Hun Hsh
      clear hnb e1
      go_wp2_with (with_reducible first | refine stop_append ?_ | refine stop_copy ?_ | refine stop_make ?_ | refine stop_lookup ?_ | refine stop_update ?_ | refine stop_slice ?_ | refine stop_range ?_ | refine stop_next ?_ | refine stop_convert ⟨_, rfl⟩ ?_ | refine stop_convertB ⟨_, _, _, rfl⟩ ?_ | refine stop_eqSlice ⟨_, _, rfl⟩ ?_)
      refine (Hun.out _ (Chg.refl _ _)).mono ?_
      rintro e w2 ⟨rfl, hc2⟩
      have hcw2 := hcw.trans hc2
      have hc02 := hc.trans hc2
      rcases nb with _ | _
      · have Hr := Lib.hid (Hbad.out Hsh.out)
        go_wp2_with (with_reducible first | refine stop_append ?_ | refine stop_copy ?_ | refine stop_make ?_ | refine stop_lookup ?_ | refine stop_update ?_ | refine stop_slice ?_ | refine stop_range ?_ | refine stop_next ?_ | refine stop_convert ⟨_, rfl⟩ ?_ | refine stop_convertB ⟨_, _, _, rfl⟩ ?_ | refine stop_eqSlice ⟨_, _, rfl⟩ ?_)
        go_ret
        exact ⟨by rw [Hr.out]; rfl, hcw2⟩
      · go_wp2_with (with_reducible first | refine stop_append ?_ | refine stop_copy ?_ | refine stop_make ?_ | refine stop_lookup ?_ | refine stop_update ?_ | refine stop_slice ?_ | refine stop_range ?_ | refine stop_next ?_ | refine stop_convert ⟨_, rfl⟩ ?_ | refine stop_convertB ⟨_, _, _, rfl⟩ ?_ | refine stop_eqSlice ⟨_, _, rfl⟩ ?_)
        go_roundw
        case rel => exact ⟨k + 1, by omega, by go_num, hc02, by
          rw [Htk.out]
          intro y hy
          rcases List.mem_append.1 hy with h | h
          · exact Hall.out y h
          · rw [List.mem_singleton.1 h]; exact Hsh.out⟩
        case measure => simp [intOf]; omega
    · obtain rfl : k = s.length := by omega
      rw [List.take_length] at Hall
      by_cases hn : q.length = 1 ∨ q.length = 3 ∨ q.length = 5 ∨ q.length = 7
      · have Hfin := Lib.hid (show nodesB q = R by
          rcases e : nodesB q with _ | _
          · exact (Hno.out (fun hh => by have := hh.2.2.2.1; rw [e] at this; cases this)).symm
          · have h30 := H3.out
            exact (Hyes.out ⟨by omega, by omega, by omega, e, Hall.out⟩).symm)
        rcases hn with hn | hn | hn | hn
        all_goals
          simp only [hn] at b1 Hq
          go_wp2_with (with_reducible first | refine stop_append ?_ | refine stop_copy ?_ | refine stop_make ?_ | refine stop_lookup ?_ | refine stop_update ?_ | refine stop_slice ?_ | refine stop_range ?_ | refine stop_next ?_ | refine stop_convert ⟨_, rfl⟩ ?_ | refine stop_convertB ⟨_, _, _, rfl⟩ ?_ | refine stop_eqSlice ⟨_, _, rfl⟩ ?_)
          refine (Hq.out _ hcw).mono ?_
          rintro e w2 ⟨rfl, hc2⟩
          go_wp2_with (with_reducible first | refine stop_append ?_ | refine stop_copy ?_ | refine stop_make ?_ | refine stop_lookup ?_ | refine stop_update ?_ | refine stop_slice ?_ | refine stop_range ?_ | refine stop_next ?_ | refine stop_convert ⟨_, rfl⟩ ?_ | refine stop_convertB ⟨_, _, _, rfl⟩ ?_ | refine stop_eqSlice ⟨_, _, rfl⟩ ?_)
          go_ret
          exact ⟨by rw [← Hfin.out]; rfl, hcw.trans hc2⟩
      · have Hr := Lib.hid (Hno.out (fun hh => hn (by have := hh.2.1; omega)))
        have n1 : ((q.length : Int) == 1) = false := beq_false_of_ne (by omega)
        have n3 : ((q.length : Int) == 3) = false := beq_false_of_ne (by omega)
        have n5 : ((q.length : Int) == 5) = false := beq_false_of_ne (by omega)
        have n7 : ((q.length : Int) == 7) = false := beq_false_of_ne (by omega)
        clear hn
        go_wp2_with (with_reducible first | refine stop_append ?_ | refine stop_copy ?_ | refine stop_make ?_ | refine stop_lookup ?_ | refine stop_update ?_ | refine stop_slice ?_ | refine stop_range ?_ | refine stop_next ?_ | refine stop_convert ⟨_, rfl⟩ ?_ | refine stop_convertB ⟨_, _, _, rfl⟩ ?_ | refine stop_eqSlice ⟨_, _, rfl⟩ ?_)
        go_ret
        exact ⟨by rw [Hr.out]; rfl, hcw⟩
end Go.Proofs.Yticimjplegbagaa


/- Walks of the document's chapter 5: Follows, Chain. -/
set_option linter.unusedVariables false
set_option linter.unusedSimpArgs false
namespace Go.Proofs.Yticimjplegbagaa
open Go.RowKit Cb

theorem info_dent : Info Try.prog 66 (.agg #[.int .i64 0, .int .i64 0, .slice none 0 0, .int .i64 0, .int .i64 0, .int .i64 0]) 6 64 := by unfold Info; kernel_rfl
end Go.Proofs.Yticimjplegbagaa


/- Walks of the document's chapter 5: Same. -/
set_option linter.unusedVariables false
set_option linter.unusedSimpArgs false
namespace Go.Proofs.Yticimjplegbagaa
open Go.RowKit Cb

set_option maxRecDepth 100000 in
set_option maxHeartbeats 4000000 in
theorem dsame_any (F G : Nat → Prop) (x y : Ent) (v u : Value) (w : World) (hx : Sl F w v x.2.2.1) (hy : Sl G w u y.2.2.1) (hl : x.2.2.1.length ≤ 17592186044416) (hl' : y.2.2.1.length ≤ 17592186044416) :
    Calls Try.prog 41 #[entV x v, entV y u] w fun e w' => e = .returned (.bool (decide (x = y))) ∧ Chg No w w' := by
  obtain ⟨n, k, cut, tag, t, p⟩ := x
  obtain ⟨n', k', cut', tag', t', p'⟩ := y
  simp only at hx hy hl hl'
  have He := Lib.hid (fun W (hW : Chg No w W) => requal_any F G v u cut cut' W (hx.keepNo hW) (hy.keepNo hW) hl hl')
  obtain ⟨A, c, rfl⟩ := hx.slice
  obtain ⟨B, d, rfl⟩ := hy.slice
  clear hx hy
  have hcA := (Chg.refl No w).alloc (.cells #[.int .i64 n, .int .i64 k, .slice A cut.length c, .int .i64 tag, .int .i64 t, .int .i64 p] 66)
  have hcB := (Chg.refl No (w.alloc (.cells #[.int .i64 n, .int .i64 k, .slice A cut.length c, .int .i64 tag, .int .i64 t, .int .i64 p] 66))).alloc (.cells #[.int .i64 n', .int .i64 k', .slice B cut'.length d, .int .i64 tag', .int .i64 t', .int .i64 p'] 66)
  have o1 := hcB.obj (alloc_obj w (.cells #[.int .i64 n, .int .i64 k, .slice A cut.length c, .int .i64 tag, .int .i64 t, .int .i64 p] 66)) (not_no _)
  have o2 := alloc_obj (w.alloc (.cells #[.int .i64 n, .int .i64 k, .slice A cut.length c, .int .i64 tag, .int .i64 t, .int .i64 p] 66)) (.cells #[.int .i64 n', .int .i64 k', .slice B cut'.length d, .int .i64 tag', .int .i64 t', .int .i64 p'] 66)
  have hz : (w.alloc (.cells #[.int .i64 n, .int .i64 k, .slice A cut.length c, .int .i64 tag, .int .i64 t, .int .i64 p] 66)).heap.size = w.heap.size + 1 := by simp
  rw [hz] at o2
  have hc0 := hcA.trans hcB
  have a0 := cell_obj (i := 0) o1 rfl
  have a1 := cell_obj (i := 1) o1 rfl
  have a2 := cell_obj (i := 2) o1 rfl
  have a3 := cell_obj (i := 3) o1 rfl
  have a4 := cell_obj (i := 4) o1 rfl
  have a5 := cell_obj (i := 5) o1 rfl
  have b0 := cell_obj (i := 0) o2 rfl
  have b1 := cell_obj (i := 1) o2 rfl
  have b2 := cell_obj (i := 2) o2 rfl
  have b3 := cell_obj (i := 3) o2 rfl
  have b4 := cell_obj (i := 4) o2 rfl
  have b5 := cell_obj (i := 5) o2 rfl
  clear hcA hcB hz o1 o2
  obtain ⟨R, hR⟩ : ∃ R, R = decide ((n, k, cut, tag, t, p) = (n', k', cut', tag', t', p')) := ⟨_, rfl⟩
  rw [← hR]
  have HR := Lib.hid hR
  clear hR
  unfold entV
  simp only
  by_cases k1 : n = n'
  case neg =>
    have Hr := Lib.hid (show R = false from by rw [HR.out]; exact decide_eq_false (fun h => k1 (congrArg (fun z => z.1) h)))
    have k2 : (n == n') = false := beq_false_of_ne k1
    clear k1 HR
    go_enter Try.func41, Try.ntmps41
    go_wp2_with (with_reducible first | refine stop_append ?_ | refine stop_copy ?_ | refine stop_make ?_ | refine stop_lookup ?_ | refine stop_update ?_ | refine stop_slice ?_ | refine stop_range ?_ | refine stop_next ?_ | refine stop_convert ⟨_, rfl⟩ ?_ | refine stop_convertB ⟨_, _, _, rfl⟩ ?_ | refine stop_eqSlice ⟨_, _, rfl⟩ ?_)
    go_ret
    exact ⟨by rw [Hr.out]; rfl, hc0⟩
  subst k1
  by_cases k1 : k = k'
  case neg =>
    have Hr := Lib.hid (show R = false from by rw [HR.out]; exact decide_eq_false (fun h => k1 (congrArg (fun z => z.2.1) h)))
    have k2 : (k == k') = false := beq_false_of_ne k1
    clear k1 HR
    go_enter Try.func41, Try.ntmps41
    go_wp2_with (with_reducible first | refine stop_append ?_ | refine stop_copy ?_ | refine stop_make ?_ | refine stop_lookup ?_ | refine stop_update ?_ | refine stop_slice ?_ | refine stop_range ?_ | refine stop_next ?_ | refine stop_convert ⟨_, rfl⟩ ?_ | refine stop_convertB ⟨_, _, _, rfl⟩ ?_ | refine stop_eqSlice ⟨_, _, rfl⟩ ?_)
    go_ret
    exact ⟨by rw [Hr.out]; rfl, hc0⟩
  subst k1
  by_cases k1 : tag = tag'
  case neg =>
    have Hr := Lib.hid (show R = false from by rw [HR.out]; exact decide_eq_false (fun h => k1 (congrArg (fun z => z.2.2.2.1) h)))
    have k2 : (tag == tag') = false := beq_false_of_ne k1
    clear k1 HR
    go_enter Try.func41, Try.ntmps41
    go_wp2_with (with_reducible first | refine stop_append ?_ | refine stop_copy ?_ | refine stop_make ?_ | refine stop_lookup ?_ | refine stop_update ?_ | refine stop_slice ?_ | refine stop_range ?_ | refine stop_next ?_ | refine stop_convert ⟨_, rfl⟩ ?_ | refine stop_convertB ⟨_, _, _, rfl⟩ ?_ | refine stop_eqSlice ⟨_, _, rfl⟩ ?_)
    go_ret
    exact ⟨by rw [Hr.out]; rfl, hc0⟩
  subst k1
  by_cases k1 : t = t'
  case neg =>
    have Hr := Lib.hid (show R = false from by rw [HR.out]; exact decide_eq_false (fun h => k1 (congrArg (fun z => z.2.2.2.2.1) h)))
    have k2 : (t == t') = false := beq_false_of_ne k1
    clear k1 HR
    go_enter Try.func41, Try.ntmps41
    go_wp2_with (with_reducible first | refine stop_append ?_ | refine stop_copy ?_ | refine stop_make ?_ | refine stop_lookup ?_ | refine stop_update ?_ | refine stop_slice ?_ | refine stop_range ?_ | refine stop_next ?_ | refine stop_convert ⟨_, rfl⟩ ?_ | refine stop_convertB ⟨_, _, _, rfl⟩ ?_ | refine stop_eqSlice ⟨_, _, rfl⟩ ?_)
    go_ret
    exact ⟨by rw [Hr.out]; rfl, hc0⟩
  subst k1
  by_cases k1 : p = p'
  case neg =>
    have Hr := Lib.hid (show R = false from by rw [HR.out]; exact decide_eq_false (fun h => k1 (congrArg (fun z => z.2.2.2.2.2) h)))
    have k2 : (p == p') = false := beq_false_of_ne k1
    clear k1 HR
    go_enter Try.func41, Try.ntmps41
    go_wp2_with (with_reducible first | refine stop_append ?_ | refine stop_copy ?_ | refine stop_make ?_ | refine stop_lookup ?_ | refine stop_update ?_ | refine stop_slice ?_ | refine stop_range ?_ | refine stop_next ?_ | refine stop_convert ⟨_, rfl⟩ ?_ | refine stop_convertB ⟨_, _, _, rfl⟩ ?_ | refine stop_eqSlice ⟨_, _, rfl⟩ ?_)
    go_ret
    exact ⟨by rw [Hr.out]; rfl, hc0⟩
  subst k1
  have Hr := Lib.hid (show R = decide (cut = cut') from by rw [HR.out]; simp)
  clear HR
  go_enter Try.func41, Try.ntmps41
  go_wp2_with (with_reducible first | refine stop_append ?_ | refine stop_copy ?_ | refine stop_make ?_ | refine stop_lookup ?_ | refine stop_update ?_ | refine stop_slice ?_ | refine stop_range ?_ | refine stop_next ?_ | refine stop_convert ⟨_, rfl⟩ ?_ | refine stop_convertB ⟨_, _, _, rfl⟩ ?_ | refine stop_eqSlice ⟨_, _, rfl⟩ ?_)
  refine (He.out _ hc0).mono ?_
  rintro e w1 ⟨rfl, hc1⟩
  go_wp2_with (with_reducible first | refine stop_append ?_ | refine stop_copy ?_ | refine stop_make ?_ | refine stop_lookup ?_ | refine stop_update ?_ | refine stop_slice ?_ | refine stop_range ?_ | refine stop_next ?_ | refine stop_convert ⟨_, rfl⟩ ?_ | refine stop_convertB ⟨_, _, _, rfl⟩ ?_ | refine stop_eqSlice ⟨_, _, rfl⟩ ?_)
  go_ret
  exact ⟨by rw [Hr.out]; rfl, hc0.trans hc1⟩
end Go.Proofs.Yticimjplegbagaa


/- Walks of the document's chapter 5: Last, SameAll. -/
set_option linter.unusedVariables false
set_option linter.unusedSimpArgs false
namespace Go.Proofs.Yticimjplegbagaa
open Go.RowKit Cb

set_option maxRecDepth 100000 in
set_option maxHeartbeats 4000000 in
theorem dsameall_any (F G : Nat → Prop) (v u : Value) (l r : List Ent) (w : World) (h : Sl F w v l) (h' : Sl G w u r) (hl : l.length ≤ 2199023255488) (hl' : r.length ≤ 2199023255488) (hb : ∀ e ∈ l, e.2.2.1.length ≤ 17592186043904) (hb' : ∀ e ∈ r, e.2.2.1.length ≤ 17592186043904) :
    Calls Try.prog 19 #[v, u] w fun e w' => e = .returned (.bool (decide (l = r))) ∧ Chg No w w' := by
  have Hs := Lib.hid (fun W (hW : Chg No w W) => h.keepNo hW)
  have Hs' := Lib.hid (fun W (hW : Chg No w W) => h'.keepNo hW)
  have Hb := Lib.hid hb
  have Hb' := Lib.hid hb'
  obtain ⟨A, c, rfl⟩ := h.slice
  obtain ⟨B, d, rfl⟩ := h'.slice
  clear h h' hb hb'
  obtain ⟨R, hR⟩ : ∃ R, R = decide (l = r) := ⟨_, rfl⟩
  rw [← hR]
  have HR := Lib.hid hR
  clear hR
  by_cases k4 : l.length = r.length
  case neg =>
    have Hr := Lib.hid (show R = false by rw [HR.out]; exact decide_eq_false (fun h => k4 (by rw [h])))
    have k2 : ((l.length : Int) == r.length) = false := beq_false_of_ne (by omega)
    have k5 : (l.length == r.length) = false := beq_false_of_ne k4
    clear k4
    go_enter Try.func19, Try.ntmps19
    go_wp2_with (with_reducible first | refine stop_append ?_ | refine stop_copy ?_ | refine stop_make ?_ | refine stop_lookup ?_ | refine stop_update ?_ | refine stop_slice ?_ | refine stop_range ?_ | refine stop_next ?_ | refine stop_convert ⟨_, rfl⟩ ?_ | refine stop_convertB ⟨_, _, _, rfl⟩ ?_ | refine stop_eqSlice ⟨_, _, rfl⟩ ?_)
    go_ret
    exact ⟨by rw [Hr.out]; rfl, Chg.refl _ _⟩
  have K4 := Lib.hid k4
  rw [← k4] at Hs' ⊢
  clear k4
  go_enter Try.func19, Try.ntmps19
  go_wp2_with (with_reducible first | refine stop_append ?_ | refine stop_copy ?_ | refine stop_make ?_ | refine stop_lookup ?_ | refine stop_update ?_ | refine stop_slice ?_ | refine stop_range ?_ | refine stop_next ?_ | refine stop_convert ⟨_, rfl⟩ ?_ | refine stop_convertB ⟨_, _, _, rfl⟩ ?_ | refine stop_eqSlice ⟨_, _, rfl⟩ ?_)
  go_loopw [5] (fun v5 wr => ∃ k : Nat, k ≤ l.length ∧ v5 = .int .i64 k ∧ Chg No w wr ∧ l.take k = r.take k) (fun v5 _ => l.length - (intOf v5).toNat)
  case atStart => exact ⟨0, by omega, rfl, Chg.refl _ _, by simp⟩
  case round =>
    obtain ⟨k, hk, rfl, hc, hall⟩ := hrel
    have Hall := Lib.hid hall
    clear hall
    by_cases hlt : k < l.length
    · have hlt' : k < r.length := by have := K4.out; omega
      obtain ⟨b, o, vc, rfl, -, hbl, sc, e0, e1, e2, e3, e4, e5⟩ := ent_get (Hs.out wr hc) k hlt
      obtain ⟨b', o', vc', rfl, -, hbl', sc', f0, f1, f2, f3, f4, f5⟩ := ent_get (Hs'.out wr hc) k hlt'
      have He := Lib.hid (fun W (hW : Chg No wr W) => dsame_any F G l[k] r[k] vc vc' W (sc.keepNo hW) (sc'.keepNo hW) (by have := Hb.out _ (List.getElem_mem hlt); omega) (by have := Hb'.out _ (List.getElem_mem hlt'); omega))
      have Htk := Lib.hid (show l[k] = r[k] → l.take (k + 1) = r.take (k + 1) from fun h => by rw [List.take_succ_eq_append_getElem hlt, List.take_succ_eq_append_getElem hlt', Hall.out, h])
      have Hbad := Lib.hid (show ¬ l[k] = r[k] → R = false from fun h => by rw [HR.out]; exact decide_eq_false (fun hh => h (by subst hh; rfl)))
      obtain ⟨eb, heb⟩ : ∃ b, b = decide (l[k] = r[k]) := ⟨_, rfl⟩
      rw [← heb] at He
      have Heb := Lib.hid heb
      clear heb
      generalize l[k] = x at *
      generalize r[k] = y at *
      obtain ⟨x0, x1, x2, x3, x4, x5⟩ := x
      obtain ⟨y0, y1, y2, y3, y4, y5⟩ := y
      unfold entV at He
      simp only at sc e0 e1 e2 e3 e4 e5 sc' f0 f1 f2 f3 f4 f5 He
      obtain ⟨C, cc, rfl⟩ := sc.slice
      obtain ⟨D, dd, rfl⟩ := sc'.slice
      clear sc sc'
      have cd := (Chg.refl No wr).drew
      go_wp2_with (with_reducible first | refine stop_append ?_ | refine stop_copy ?_ | refine stop_make ?_ | refine stop_lookup ?_ | refine stop_update ?_ | refine stop_slice ?_ | refine stop_range ?_ | refine stop_next ?_ | refine stop_convert ⟨_, rfl⟩ ?_ | refine stop_convertB ⟨_, _, _, rfl⟩ ?_ | refine stop_eqSlice ⟨_, _, rfl⟩ ?_)
      have HS := Lib.hid (show ∀ W : World, Chg No wr W → (fun W => ((W.cell? ⟨b, o + k * 6, none⟩ = some (.int .i64 x0) ∧ W.cell? ⟨b, o + k * 6 + 1, none⟩ = some (.int .i64 x1) ∧ W.cell? ⟨b, o + k * 6 + 2, none⟩ = some (.slice C x2.length cc)) ∧ (W.cell? ⟨b, o + k * 6 + 3, none⟩ = some (.int .i64 x3) ∧ W.cell? ⟨b, o + k * 6 + 4, none⟩ = some (.int .i64 x4) ∧ W.cell? ⟨b, o + k * 6 + 5, none⟩ = some (.int .i64 x5))) ∧ ((W.cell? ⟨b', o' + k * 6, none⟩ = some (.int .i64 y0) ∧ W.cell? ⟨b', o' + k * 6 + 1, none⟩ = some (.int .i64 y1) ∧ W.cell? ⟨b', o' + k * 6 + 2, none⟩ = some (.slice D y2.length dd)) ∧ (W.cell? ⟨b', o' + k * 6 + 3, none⟩ = some (.int .i64 y3) ∧ W.cell? ⟨b', o' + k * 6 + 4, none⟩ = some (.int .i64 y4) ∧ W.cell? ⟨b', o' + k * 6 + 5, none⟩ = some (.int .i64 y5))) ∧ Chg No wr W) W from fun W hW => ⟨⟨⟨hW.cell e0 (not_no _), hW.cell e1 (not_no _), hW.cell e2 (not_no _)⟩, ⟨hW.cell e3 (not_no _), hW.cell e4 (not_no _), hW.cell e5 (not_no _)⟩⟩, ⟨⟨hW.cell f0 (not_no _), hW.cell f1 (not_no _), hW.cell f2 (not_no _)⟩, ⟨hW.cell f3 (not_no _), hW.cell f4 (not_no _), hW.cell f5 (not_no _)⟩⟩, hW⟩)
      refine pl_start (fun W => ((W.cell? ⟨b, o + k * 6, none⟩ = some (.int .i64 x0) ∧ W.cell? ⟨b, o + k * 6 + 1, none⟩ = some (.int .i64 x1) ∧ W.cell? ⟨b, o + k * 6 + 2, none⟩ = some (.slice C x2.length cc)) ∧ (W.cell? ⟨b, o + k * 6 + 3, none⟩ = some (.int .i64 x3) ∧ W.cell? ⟨b, o + k * 6 + 4, none⟩ = some (.int .i64 x4) ∧ W.cell? ⟨b, o + k * 6 + 5, none⟩ = some (.int .i64 x5))) ∧ ((W.cell? ⟨b', o' + k * 6, none⟩ = some (.int .i64 y0) ∧ W.cell? ⟨b', o' + k * 6 + 1, none⟩ = some (.int .i64 y1) ∧ W.cell? ⟨b', o' + k * 6 + 2, none⟩ = some (.slice D y2.length dd)) ∧ (W.cell? ⟨b', o' + k * 6 + 3, none⟩ = some (.int .i64 y3) ∧ W.cell? ⟨b', o' + k * 6 + 4, none⟩ = some (.int .i64 y4) ∧ W.cell? ⟨b', o' + k * 6 + 5, none⟩ = some (.int .i64 y5))) ∧ Chg No wr W) (by kernel_rfl) (by kernel_rfl) (HS.out _ cd) ?_
      iterate 8 ((refine pl_nx [] (v := ?_) rfl (by kernel_rfl) rfl ?_ ?_; rotate_left; focus (intro W hW; (try dsimp only at hW); go_split_ands; go_simp; (try (simp (disch := omega) only [IntWalk.i64_in]; (try go_simp))); (try (split; (next => omega); (try go_simp))); try rfl; done)); try simp only [Act.put, List.setIfInBounds_toArray, List.set_cons_zero, List.set_cons_succ, Nat.reduceAdd])
      refine pl_callx 8 (.bool eb) rfl (by kernel_rfl) rfl (by exact (fun W hW => (He.out W hW.2.2).mono fun e w' h => ⟨h.1, HS.out _ (hW.2.2.trans h.2)⟩)) (fun W => by kernel_rfl) ?_
      try simp only [Act.put, List.setIfInBounds_toArray, List.set_cons_zero, List.set_cons_succ, Nat.reduceAdd]
      ((refine pl_nx [] (v := ?_) rfl (by kernel_rfl) rfl ?_ ?_; rotate_left; focus (intro W hW; (try dsimp only at hW); go_split_ands; go_simp; (try (simp (disch := omega) only [IntWalk.i64_in]; (try go_simp))); (try (split; (next => omega); (try go_simp))); try rfl; done)); try simp only [Act.put, List.setIfInBounds_toArray, List.set_cons_zero, List.set_cons_succ, Nat.reduceAdd])
      refine pl_done (by kernel_rfl)  ?_
      rintro w4 ⟨-, -, hc4⟩
      have hcw4 := hc.trans hc4
      clear e0 e1 e2 e3 e4 e5 f0 f1 f2 f3 f4 f5
      rcases eb with _ | _
      · have Hr := Lib.hid (Hbad.out (of_decide_eq_false Heb.out.symm))
        go_wp2_with (with_reducible first | refine stop_append ?_ | refine stop_copy ?_ | refine stop_make ?_ | refine stop_lookup ?_ | refine stop_update ?_ | refine stop_slice ?_ | refine stop_range ?_ | refine stop_next ?_ | refine stop_convert ⟨_, rfl⟩ ?_ | refine stop_convertB ⟨_, _, _, rfl⟩ ?_ | refine stop_eqSlice ⟨_, _, rfl⟩ ?_)
        go_ret
        exact ⟨by rw [Hr.out]; rfl, hcw4⟩
      · have Hg := Lib.hid (Htk.out (of_decide_eq_true Heb.out.symm))
        go_wp2_with (with_reducible first | refine stop_append ?_ | refine stop_copy ?_ | refine stop_make ?_ | refine stop_lookup ?_ | refine stop_update ?_ | refine stop_slice ?_ | refine stop_range ?_ | refine stop_next ?_ | refine stop_convert ⟨_, rfl⟩ ?_ | refine stop_convertB ⟨_, _, _, rfl⟩ ?_ | refine stop_eqSlice ⟨_, _, rfl⟩ ?_)
        go_roundw
        case rel => exact ⟨k + 1, by omega, by go_num, hcw4, Hg.out⟩
        case measure => simp [intOf]; omega
    · obtain rfl : k = l.length := by omega
      have Hr := Lib.hid (show R = true by
        rw [HR.out]
        have := Hall.out
        rw [List.take_length, K4.out, List.take_length] at this
        exact decide_eq_true this)
      clear K4
      go_wp2_with (with_reducible first | refine stop_append ?_ | refine stop_copy ?_ | refine stop_make ?_ | refine stop_lookup ?_ | refine stop_update ?_ | refine stop_slice ?_ | refine stop_range ?_ | refine stop_next ?_ | refine stop_convert ⟨_, rfl⟩ ?_ | refine stop_convertB ⟨_, _, _, rfl⟩ ?_ | refine stop_eqSlice ⟨_, _, rfl⟩ ?_)
      go_ret
      exact ⟨by rw [Hr.out]; rfl, hc⟩
end Go.Proofs.Yticimjplegbagaa


/- Sealers in plain words; two of them in memory; rows of entries, mine and the document's. -/
set_option linter.unusedVariables false
set_option linter.unusedSimpArgs false
namespace Cb
open Go Go.Deep
section
variable {P : Program}
/-- x[:h], whatever world. -/
theorem run_cut_hi {α : Type} [Rep α] {t e : TypeId} {z : Value} {bytes : Nat} (ht : P.underlying t = some (.slice e)) (hi' : Info P e z (Rep.n α) bytes) (A : Option Addr) (n c h : Nat) (h1 : h ≤ n) (h2 : n ≤ c) (W : World) :
    (Instr.sliceAt t (.slice A n c) none (some (.int .i64 h)) none).run P W = .ok (.slice A h c) W := by
  obtain ⟨i, hi0, hz0, hz1, hz2⟩ := info_parts hi'
  have hhc : h ≤ c := by omega
  have hb : ∀ W, (Instr.sliceBounds true n c none (some (.int .i64 h)) none).run P W = .ok (0, h, c) W := by
    intro W
    simp [Instr.sliceBounds, *, run_sliceBound_in]
  have hadd : ∀ b : Addr, b.add 0 = b := fun b => by cases b; simp [Addr.add]
  have hr : (Instr.slice t (.slice A n c) none (some (.int .i64 h)) none).run P W = .ok (.slice A h c) W := by
    simp [Instr.slice, run_underlying ht, hb, Go.sizeOf, typeInfo, hi0]
    cases A <;> simp [hadd]
  simp only [Instr.sliceAt, Sem.run_bind, run_underlying ht, hr, Result.andThen_ok, Sem.run_pure]
end
end Cb
namespace Go.Proofs.Yticimjplegbagaa
open Go.RowKit Cb

theorem info_rent12 : Info Try.prog 66 (.agg #[.int .i64 0, .int .i64 0, .slice none 0 0, .int .i64 0, .int .i64 0, .int .i64 0]) 6 64 := by unfold Info; kernel_rfl
set_option maxRecDepth 100000 in
set_option maxHeartbeats 1000000 in
theorem mine12_any (v : Value) (l : List Ent) (w : World) (h : Sl No w v l) (hl : l.length * 64 ≤ 140737488355328) :
    Calls Try.prog 14 #[v] w fun e w' => ∃ v', e = .returned v' ∧ Chg No w w' ∧ Sl No w' v' l := by
  obtain ⟨A, c, rfl⟩ := h.slice
  have H := Lib.hid h
  clear h
  go_enter Try.func14, Try.ntmps14
  go_wp2_with (with_reducible first | refine stop_append ?_ | refine stop_copy ?_ | refine stop_make ?_ | refine stop_lookup ?_ | refine stop_update ?_ | refine stop_slice ?_ | refine stop_range ?_ | refine stop_next ?_ | refine stop_convert ⟨_, rfl⟩ ?_ | refine stop_convertB ⟨_, _, _, rfl⟩ ?_ | refine stop_eqSlice ⟨_, _, rfl⟩ ?_)
  go_loopw [3, 5, 8] (fun v3 _ v8 wr => ∃ k : Nat, k ≤ l.length ∧ v8 = .int .i64 k ∧ Chg No w wr ∧ Cb.Own No wr w.heap.size 76 v3 (l.take k)) (fun _ _ v8 _ => l.length - (intOf v8).toNat)
  case atStart => exact ⟨0, by omega, rfl, Chg.refl _ _, Cb.Own.nil _ _ _ _⟩
  case round =>
    obtain ⟨k, hk, rfl, hc1, hown⟩ := hrel
    by_cases hlt : k < l.length
    · have hgs : Sl (Ge w.heap.size) wr (.slice A l.length c) l := (Sl.up H.out (Nat.le_refl _)).keepNo hc1
      obtain ⟨b, o, vc, rfl, hnb, hbl, hsv, a0, a1, a2, a3, a4, a5⟩ := ent_get hgs k hlt
      have htk := List.take_succ_eq_append_getElem hlt
      clear hgs
      generalize l[k] = x at a0 a1 a2 a3 a4 a5 hsv htk
      have Hsv := Lib.hid hsv
      have Hcs := Lib.hid (ent_mk x hsv)
      obtain ⟨n, kd, cut, tag, t, u⟩ := x
      simp only [entC] at a0 a1 a2 a3 a4 a5 Hcs
      obtain ⟨Av, cv, rfl⟩ := hsv.slice
      have hlen : (l.take k).length = k := by simp; omega
      generalize l.take k = acc at hlen htk hown
      have Htk := Lib.hid htk
      have Hlen := Lib.hid hlen
      obtain ⟨A3, c3, rfl⟩ := hown.slice
      have Hown := Lib.hid hown
      clear hsv hown htk hlen
      go_wp2_with (with_reducible first | refine stop_append ?_ | refine stop_copy ?_ | refine stop_make ?_ | refine stop_lookup ?_ | refine stop_update ?_ | refine stop_slice ?_ | refine stop_range ?_ | refine stop_next ?_ | refine stop_convert ⟨_, rfl⟩ ?_ | refine stop_convertB ⟨_, _, _, rfl⟩ ?_ | refine stop_eqSlice ⟨_, _, rfl⟩ ?_)
      have hca := (Chg.refl No wr).alloc (.cells #[.int .i64 n, .int .i64 kd, .slice Av cut.length cv, .int .i64 tag, .int .i64 t, .int .i64 u] 66)
      have hcb := hca.alloc (.cells #[.int .i64 n, .int .i64 kd, .slice Av cut.length cv, .int .i64 tag, .int .i64 t, .int .i64 u] 76)
      generalize hw4 : wr.alloc (.cells #[.int .i64 n, .int .i64 kd, .slice Av cut.length cv, .int .i64 tag, .int .i64 t, .int .i64 u] 66) = w4 at hca hcb ⊢
      have e4 : w4.heap.size = wr.heap.size + 1 := by rw [← hw4]; simp
      rw [← e4]
      have hobl : ∀ i, OB (.slice A3 acc.length c3) i → w.heap.size ≤ i ∧ i < wr.heap.size := fun i hi => Hown.out.lt i hi
      have hlit : Sl (OB (.slice A3 acc.length c3)) (w4.alloc (.cells #[.int .i64 n, .int .i64 kd, .slice Av cut.length cv, .int .i64 tag, .int .i64 t, .int .i64 u] 76)) (.slice (some ⟨w4.heap.size, 0, none⟩) 1 1) [(n, kd, cut, tag, t, u)] :=
        Sl.lit1 rfl (Rep.weak (Rep.keep Hcs.out hca.of_no) (fun i _ hi => (hobl i hi).1)) (fun hi => by have := hobl _ hi; omega)
      refine step_append_sl (α := Ent) (F := No) (G := OB (.slice A3 acc.length c3)) Try.underlying43 info_ent rfl (Hown.out.keep hcb (fun _ _ f => f) (fun _ _ f => f)) rfl rfl hlit (fun i _ hi => hi.elim (fun f => f.elim) id) (by have := Hlen.out; simp; omega) (by have := Hlen.out; simp [ent_n]; omega) (by have := hc1.size; have := hcb.size; omega) ?_
      intro v6 w6 hown6 hg6
      rw [← Htk.out] at hown6
      have hcw : Chg No w w6 := (hc1.trans hcb).grew hg6 (fun i hi => .inr (hobl i hi).1)
      have Hown6 := Lib.hid hown6
      clear hown6 hg6 hlit
      go_wp2_with (with_reducible first | refine stop_append ?_ | refine stop_copy ?_ | refine stop_make ?_ | refine stop_lookup ?_ | refine stop_update ?_ | refine stop_slice ?_ | refine stop_range ?_ | refine stop_next ?_ | refine stop_convert ⟨_, rfl⟩ ?_ | refine stop_convertB ⟨_, _, _, rfl⟩ ?_ | refine stop_eqSlice ⟨_, _, rfl⟩ ?_)
      go_roundw
      case rel => exact ⟨k + 1, by omega, by go_num, hcw, Hown6.out⟩
      case measure => simp [intOf]; omega
    · obtain rfl : k = l.length := by omega
      rw [List.take_length] at hown
      have Hown := Lib.hid hown
      obtain ⟨A3, c3, rfl⟩ := hown.slice
      clear hown
      go_wp2_with (with_reducible first | refine stop_append ?_ | refine stop_copy ?_ | refine stop_make ?_ | refine stop_lookup ?_ | refine stop_update ?_ | refine stop_slice ?_ | refine stop_range ?_ | refine stop_next ?_ | refine stop_convert ⟨_, rfl⟩ ?_ | refine stop_convertB ⟨_, _, _, rfl⟩ ?_ | refine stop_eqSlice ⟨_, _, rfl⟩ ?_)
      go_ret
      exact ⟨_, rfl, hc1, Hown.out.sl (fun _ _ f => f)⟩
set_option maxRecDepth 100000 in
set_option maxHeartbeats 1000000 in
theorem entries12_any (v : Value) (l : List Ent) (w : World) (h : Sl No w v l) (hl : l.length * 64 ≤ 140737488355328) :
    Calls Try.prog 20 #[v] w fun e w' => ∃ v', e = .returned v' ∧ Chg No w w' ∧ Sl No w' v' l := by
  obtain ⟨A, c, rfl⟩ := h.slice
  have H := Lib.hid h
  clear h
  go_enter Try.func20, Try.ntmps20
  go_wp2_with (with_reducible first | refine stop_append ?_ | refine stop_copy ?_ | refine stop_make ?_ | refine stop_lookup ?_ | refine stop_update ?_ | refine stop_slice ?_ | refine stop_range ?_ | refine stop_next ?_ | refine stop_convert ⟨_, rfl⟩ ?_ | refine stop_convertB ⟨_, _, _, rfl⟩ ?_ | refine stop_eqSlice ⟨_, _, rfl⟩ ?_)
  go_loopw [3, 5, 8] (fun v3 _ v8 wr => ∃ k : Nat, k ≤ l.length ∧ v8 = .int .i64 k ∧ Chg No w wr ∧ Cb.Own No wr w.heap.size 66 v3 (l.take k)) (fun _ _ v8 _ => l.length - (intOf v8).toNat)
  case atStart => exact ⟨0, by omega, rfl, Chg.refl _ _, Cb.Own.nil _ _ _ _⟩
  case round =>
    obtain ⟨k, hk, rfl, hc1, hown⟩ := hrel
    by_cases hlt : k < l.length
    · have hgs : Sl (Ge w.heap.size) wr (.slice A l.length c) l := (Sl.up H.out (Nat.le_refl _)).keepNo hc1
      obtain ⟨b, o, vc, rfl, hnb, hbl, hsv, a0, a1, a2, a3, a4, a5⟩ := ent_get hgs k hlt
      have htk := List.take_succ_eq_append_getElem hlt
      clear hgs
      generalize l[k] = x at a0 a1 a2 a3 a4 a5 hsv htk
      have Hsv := Lib.hid hsv
      have Hcs := Lib.hid (ent_mk x hsv)
      obtain ⟨n, kd, cut, tag, t, u⟩ := x
      simp only [entC] at a0 a1 a2 a3 a4 a5 Hcs
      obtain ⟨Av, cv, rfl⟩ := hsv.slice
      have hlen : (l.take k).length = k := by simp; omega
      generalize l.take k = acc at hlen htk hown
      have Htk := Lib.hid htk
      have Hlen := Lib.hid hlen
      obtain ⟨A3, c3, rfl⟩ := hown.slice
      have Hown := Lib.hid hown
      clear hsv hown htk hlen
      go_wp2_with (with_reducible first | refine stop_append ?_ | refine stop_copy ?_ | refine stop_make ?_ | refine stop_lookup ?_ | refine stop_update ?_ | refine stop_slice ?_ | refine stop_range ?_ | refine stop_next ?_ | refine stop_convert ⟨_, rfl⟩ ?_ | refine stop_convertB ⟨_, _, _, rfl⟩ ?_ | refine stop_eqSlice ⟨_, _, rfl⟩ ?_)
      have hca := (Chg.refl No wr).alloc (.cells #[.int .i64 n, .int .i64 kd, .slice Av cut.length cv, .int .i64 tag, .int .i64 t, .int .i64 u] 76)
      have hcb := hca.alloc (.cells #[.int .i64 n, .int .i64 kd, .slice Av cut.length cv, .int .i64 tag, .int .i64 t, .int .i64 u] 66)
      generalize hw4 : wr.alloc (.cells #[.int .i64 n, .int .i64 kd, .slice Av cut.length cv, .int .i64 tag, .int .i64 t, .int .i64 u] 76) = w4 at hca hcb ⊢
      have e4 : w4.heap.size = wr.heap.size + 1 := by rw [← hw4]; simp
      rw [← e4]
      have hobl : ∀ i, OB (.slice A3 acc.length c3) i → w.heap.size ≤ i ∧ i < wr.heap.size := fun i hi => Hown.out.lt i hi
      have hlit : Sl (OB (.slice A3 acc.length c3)) (w4.alloc (.cells #[.int .i64 n, .int .i64 kd, .slice Av cut.length cv, .int .i64 tag, .int .i64 t, .int .i64 u] 66)) (.slice (some ⟨w4.heap.size, 0, none⟩) 1 1) [(n, kd, cut, tag, t, u)] :=
        Sl.lit1 rfl (Rep.weak (Rep.keep Hcs.out hca.of_no) (fun i _ hi => (hobl i hi).1)) (fun hi => by have := hobl _ hi; omega)
      refine step_append_sl (α := Ent) (F := No) (G := OB (.slice A3 acc.length c3)) Try.underlying27 info_rent12 rfl (Hown.out.keep hcb (fun _ _ f => f) (fun _ _ f => f)) rfl rfl hlit (fun i _ hi => hi.elim (fun f => f.elim) id) (by have := Hlen.out; simp; omega) (by have := Hlen.out; simp [ent_n]; omega) (by have := hc1.size; have := hcb.size; omega) ?_
      intro v6 w6 hown6 hg6
      rw [← Htk.out] at hown6
      have hcw : Chg No w w6 := (hc1.trans hcb).grew hg6 (fun i hi => .inr (hobl i hi).1)
      have Hown6 := Lib.hid hown6
      clear hown6 hg6 hlit
      go_wp2_with (with_reducible first | refine stop_append ?_ | refine stop_copy ?_ | refine stop_make ?_ | refine stop_lookup ?_ | refine stop_update ?_ | refine stop_slice ?_ | refine stop_range ?_ | refine stop_next ?_ | refine stop_convert ⟨_, rfl⟩ ?_ | refine stop_convertB ⟨_, _, _, rfl⟩ ?_ | refine stop_eqSlice ⟨_, _, rfl⟩ ?_)
      go_roundw
      case rel => exact ⟨k + 1, by omega, by go_num, hcw, Hown6.out⟩
      case measure => simp [intOf]; omega
    · obtain rfl : k = l.length := by omega
      rw [List.take_length] at hown
      have Hown := Lib.hid hown
      obtain ⟨A3, c3, rfl⟩ := hown.slice
      clear hown
      go_wp2_with (with_reducible first | refine stop_append ?_ | refine stop_copy ?_ | refine stop_make ?_ | refine stop_lookup ?_ | refine stop_update ?_ | refine stop_slice ?_ | refine stop_range ?_ | refine stop_next ?_ | refine stop_convert ⟨_, rfl⟩ ?_ | refine stop_convertB ⟨_, _, _, rfl⟩ ?_ | refine stop_eqSlice ⟨_, _, rfl⟩ ?_)
      go_ret
      exact ⟨_, rfl, hc1, Hown.out.sl (fun _ _ f => f)⟩
set_option maxRecDepth 100000 in
set_option maxHeartbeats 1000000 in
theorem mine12F_any (F : Nat → Prop) (v : Value) (l : List Ent) (w : World) (h : Sl F w v l) (hF : ∀ k, F k → k < w.heap.size) (hl : l.length * 64 ≤ 140737488355328) :
    Calls Try.prog 14 #[v] w fun e w' => ∃ v', e = .returned v' ∧ Chg No w w' ∧ Sl F w' v' l := by
  obtain ⟨A, c, rfl⟩ := h.slice
  have H := Lib.hid (h.weak (G := fun k => F k ∨ w.heap.size ≤ k) (fun k hk g => by rcases g with g | g; exact g; omega))
  have HF := Lib.hid hF
  clear h hF
  go_enter Try.func14, Try.ntmps14
  go_wp2_with (with_reducible first | refine stop_append ?_ | refine stop_copy ?_ | refine stop_make ?_ | refine stop_lookup ?_ | refine stop_update ?_ | refine stop_slice ?_ | refine stop_range ?_ | refine stop_next ?_ | refine stop_convert ⟨_, rfl⟩ ?_ | refine stop_convertB ⟨_, _, _, rfl⟩ ?_ | refine stop_eqSlice ⟨_, _, rfl⟩ ?_)
  go_loopw [3, 5, 8] (fun v3 _ v8 wr => ∃ k : Nat, k ≤ l.length ∧ v8 = .int .i64 k ∧ Chg No w wr ∧ Cb.Own F wr w.heap.size 76 v3 (l.take k)) (fun _ _ v8 _ => l.length - (intOf v8).toNat)
  case atStart => exact ⟨0, by omega, rfl, Chg.refl _ _, Cb.Own.nil _ _ _ _⟩
  case round =>
    obtain ⟨k, hk, rfl, hc1, hown⟩ := hrel
    by_cases hlt : k < l.length
    · have hgs := H.out.keepNo hc1
      obtain ⟨b, o, vc, rfl, hnb, hbl, hsv, a0, a1, a2, a3, a4, a5⟩ := ent_get hgs k hlt
      have htk := List.take_succ_eq_append_getElem hlt
      clear hgs
      generalize l[k] = x at a0 a1 a2 a3 a4 a5 hsv htk
      have Hcs := Lib.hid (ent_mk x hsv)
      obtain ⟨n, kd, cut, tag, t, u⟩ := x
      simp only [entC] at a0 a1 a2 a3 a4 a5 Hcs
      obtain ⟨Av, cv, rfl⟩ := hsv.slice
      have hlen : (l.take k).length = k := by simp; omega
      generalize l.take k = acc at hlen htk hown
      have Htk := Lib.hid htk
      have Hlen := Lib.hid hlen
      obtain ⟨A3, c3, rfl⟩ := hown.slice
      have Hown := Lib.hid hown
      clear hsv hown htk hlen
      go_wp2_with (with_reducible first | refine stop_append ?_ | refine stop_copy ?_ | refine stop_make ?_ | refine stop_lookup ?_ | refine stop_update ?_ | refine stop_slice ?_ | refine stop_range ?_ | refine stop_next ?_ | refine stop_convert ⟨_, rfl⟩ ?_ | refine stop_convertB ⟨_, _, _, rfl⟩ ?_ | refine stop_eqSlice ⟨_, _, rfl⟩ ?_)
      have hca := (Chg.refl No wr).alloc (.cells #[.int .i64 n, .int .i64 kd, .slice Av cut.length cv, .int .i64 tag, .int .i64 t, .int .i64 u] 66)
      have hcb := hca.alloc (.cells #[.int .i64 n, .int .i64 kd, .slice Av cut.length cv, .int .i64 tag, .int .i64 t, .int .i64 u] 76)
      generalize hw4 : wr.alloc (.cells #[.int .i64 n, .int .i64 kd, .slice Av cut.length cv, .int .i64 tag, .int .i64 t, .int .i64 u] 66) = w4 at hca hcb ⊢
      have e4 : w4.heap.size = wr.heap.size + 1 := by rw [← hw4]; simp
      rw [← e4]
      have hobl : ∀ i, OB (.slice A3 acc.length c3) i → w.heap.size ≤ i ∧ i < wr.heap.size := fun i hi => Hown.out.lt i hi
      have hlit : Sl (Or F (OB (.slice A3 acc.length c3))) (w4.alloc (.cells #[.int .i64 n, .int .i64 kd, .slice Av cut.length cv, .int .i64 tag, .int .i64 t, .int .i64 u] 76)) (.slice (some ⟨w4.heap.size, 0, none⟩) 1 1) [(n, kd, cut, tag, t, u)] :=
        Sl.lit1 rfl (Rep.weak (Rep.keep Hcs.out hca.of_no) (fun i _ hi => hi.imp id (fun hi => (hobl i hi).1))) (fun hi => by
          rcases hi with hi | hi
          · have := HF.out _ hi; have := hc1.size; omega
          · have := hobl _ hi; omega)
      refine step_append_sl (α := Ent) (F := F) (G := Or F (OB (.slice A3 acc.length c3))) Try.underlying43 info_ent rfl (Hown.out.keep hcb (fun _ _ f => f.elim) (fun _ _ f => f)) rfl rfl hlit (fun i _ hi => hi) (by have := Hlen.out; simp; omega) (by have := Hlen.out; simp [ent_n]; omega) (by have := hc1.size; have := hcb.size; omega) ?_
      intro v6 w6 hown6 hg6
      rw [← Htk.out] at hown6
      have hcw : Chg No w w6 := (hc1.trans hcb).grew hg6 (fun i hi => .inr (hobl i hi).1)
      have Hown6 := Lib.hid hown6
      clear hown6 hg6 hlit
      go_wp2_with (with_reducible first | refine stop_append ?_ | refine stop_copy ?_ | refine stop_make ?_ | refine stop_lookup ?_ | refine stop_update ?_ | refine stop_slice ?_ | refine stop_range ?_ | refine stop_next ?_ | refine stop_convert ⟨_, rfl⟩ ?_ | refine stop_convertB ⟨_, _, _, rfl⟩ ?_ | refine stop_eqSlice ⟨_, _, rfl⟩ ?_)
      go_roundw
      case rel => exact ⟨k + 1, by omega, by go_num, hcw, Hown6.out⟩
      case measure => simp [intOf]; omega
    · obtain rfl : k = l.length := by omega
      rw [List.take_length] at hown
      have Hown := Lib.hid hown
      obtain ⟨A3, c3, rfl⟩ := hown.slice
      clear hown
      go_wp2_with (with_reducible first | refine stop_append ?_ | refine stop_copy ?_ | refine stop_make ?_ | refine stop_lookup ?_ | refine stop_update ?_ | refine stop_slice ?_ | refine stop_range ?_ | refine stop_next ?_ | refine stop_convert ⟨_, rfl⟩ ?_ | refine stop_convertB ⟨_, _, _, rfl⟩ ?_ | refine stop_eqSlice ⟨_, _, rfl⟩ ?_)
      go_ret
      exact ⟨_, rfl, hc1, Hown.out.sl (fun i hi g => by have := (Hown.out.lt i hi).1; have := HF.out i g; omega)⟩
theorem chain_ents : ∀ (l : List Ent) (i : Nat) (a : List Int), (chainF l i a).1 = i + l.length → ∀ e ∈ l, entR e = true
  | [], _, _, _, e, he => by cases he
  | x :: r, i, a, h, e, he => by
    simp only [chainF, List.length_cons] at h
    split at h
    · rename_i hx
      rcases List.mem_cons.1 he with rfl | he
      · unfold okE at hx; simp only [Bool.and_eq_true] at hx; exact hx.1
      · exact chain_ents r (i + 1) (lastE a x) (by omega) e he
    · simp only at h; omega
theorem chain_take : ∀ (l : List Ent) (i : Nat) (a : List Int), (chainF l i a).1 = i + l.length → ∀ k, k ≤ l.length → (chainF (l.take k) i a).1 = i + k
  | [], i, a, _, k, hk => by
    simp only [List.length_nil, Nat.le_zero_eq] at hk; subst hk; simp [chainF]
  | x :: r, i, a, h, k, hk => by
    cases k with
    | zero => simp [chainF]
    | succ k =>
      simp only [chainF, List.length_cons, List.take_succ_cons] at h hk ⊢
      split at h
      · rename_i hx
        rw [if_pos hx]
        have := chain_take r (i + 1) (lastE a x) (by omega) k (by omega)
        omega
      · simp only at h; omega
theorem chain_nums {l : List Ent} (h : (chainF l 0 []).1 = l.length) (k : Nat) (hk : k ≤ l.length) : (chainF (l.take k) 0 []).1 = (l.take k).length := by
  rw [chain_take l 0 [] (by omega) k hk, List.length_take]; omega
def clampN (x : Int) (n : Nat) : Nat := min (max x 0).toNat n
def mostF (ks : List Nat) : Nat := ks.foldl max 0
theorem most_snoc (ks : List Nat) (i : Nat) (h : i < ks.length) : mostF (ks.take (i + 1)) = max (mostF (ks.take i)) ks[i] := by
  unfold mostF
  rw [List.take_succ_eq_append_getElem h, List.foldl_append]; rfl
theorem most_le {ks : List Nat} {n : Nat} (h : ∀ k ∈ ks, k ≤ n) : mostF ks ≤ n := by
  suffices ∀ (ks : List Nat) (a : Nat), a ≤ n → (∀ k ∈ ks, k ≤ n) → ks.foldl max a ≤ n from this ks 0 (Nat.zero_le _) h
  intro ks
  induction ks with
  | nil => intro a h _; exact h
  | cons k r ih => intro a ha h; exact ih _ (by have := h k (by simp); omega) (fun x hx => h x (by simp [hx]))
theorem most_rev (ks : List Nat) : mostF ks.reverse = mostF ks := by
  unfold mostF
  rw [List.foldl_reverse]
  have key : ∀ (ks : List Nat) (a : Nat), ks.foldl max a = max a (ks.foldr (fun x y => max y x) 0) := by
    intro ks
    induction ks with
    | nil => intro a; simp
    | cons k r ih => intro a; rw [List.foldl_cons, ih, List.foldr_cons]; omega
  rw [key ks 0]; omega
/-- One more is heard of those that agree. -/
theorem hear_agree {l : List Ent} (hl : (chainF l 0 []).1 = l.length) {q m : List Int} {nd M k : Nat} {x : Int} (hM : M ≤ l.length) (hk : k ≤ l.length) (hx : x ∈ q) (hm : x ∉ m) :
    hearS ⟨q, nd, m, l.take M⟩ x (l.take k) = (⟨q, nd, m ++ [x], l.take (max M k)⟩, true) := by
  have hlM : (l.take M).length = M := by rw [List.length_take]; omega
  have hlk : (l.take k).length = k := by rw [List.length_take]; omega
  have hc := chain_nums hl k hk
  have hB : hearSB ⟨q, nd, m, l.take M⟩ x (l.take k) = true := by
    unfold hearSB
    simp only [hx, hm, hc, decide_true, decide_false, Bool.not_false, Bool.true_and, hlM, hlk, decide_eq_true_eq]
    rw [List.take_take, List.take_take]
    congr 1; omega
  unfold hearS
  rw [if_pos hB]
  simp only [hlM, hlk]
  split
  · rw [show max M k = k by omega]
  · rw [show max M k = M by omega]
/-- Two sealers that share nothing, and a configuration's sequencers ahead of them. -/
structure QB (w0 W : World) (b : Nat) (vq : Value) (S T : Nat → Prop) (p q : Nat) (sa sb : SSt) : Prop where
  sa : Sea W S p sa
  sb : Sea W T q sb
  dis : ∀ k, S k → ¬ T k
  slo : ∀ k, S k → b < k
  tlo : ∀ k, T k → b < k
  chg : Chg No w0 W
  cfg : W.cell? ⟨b, 1, none⟩ = some vq
  lo : w0.heap.size ≤ b
section
variable {w0 W W' : World} {b : Nat} {vq : Value} {S T S' T' : Nat → Prop} {p q : Nat} {sa sb sa' sb' : SSt}
theorem QB.no (h : QB w0 W b vq S T p q sa sb) (hc : Chg No W W') : QB w0 W' b vq S T p q sa sb := ⟨h.sa.keepNo hc, h.sb.keepNo hc, h.dis, h.slo, h.tlo, h.chg.trans hc, hc.cell h.cfg (not_no _), h.lo⟩
theorem QB.blt (h : QB w0 W b vq S T p q sa sb) : b < W.heap.size := World.block_lt_of_cell? W ⟨b, 1, none⟩ h.cfg
theorem QB.setA (h : QB w0 W b vq S T p q sa sb) (hc : Chg S W W') (hs : Sea W' S' p sa') (hS : ∀ k, S' k → S k ∨ W.heap.size ≤ k) : QB w0 W' b vq S' T p q sa' sb where
  sa := hs
  sb := h.sb.keep hc (fun k _ g => h.dis k g)
  dis := fun k s t => by
    rcases hS k s with g | g
    · exact h.dis k g t
    · have := h.sb.lt k t; omega
  slo := fun k s => by
    rcases hS k s with g | g
    · exact h.slo k g
    · have := h.blt; omega
  tlo := h.tlo
  chg := h.chg.old hc (fun k s => by have := h.slo k s; have := h.lo; omega)
  cfg := hc.cell h.cfg (fun s => by have := h.slo b s; omega)
  lo := h.lo
theorem QB.setB (h : QB w0 W b vq S T p q sa sb) (hc : Chg T W W') (hs : Sea W' T' q sb') (hT : ∀ k, T' k → T k ∨ W.heap.size ≤ k) : QB w0 W' b vq S T' p q sa sb' where
  sa := h.sa.keep hc (fun k _ g s => h.dis k s g)
  sb := hs
  dis := fun k s t => by
    rcases hT k t with g | g
    · exact h.dis k s g
    · have := h.sa.lt k s; omega
  slo := h.slo
  tlo := fun k s => by
    rcases hT k s with g | g
    · exact h.tlo k g
    · have := h.blt; omega
  chg := h.chg.old hc (fun k s => by have := h.tlo k s; have := h.lo; omega)
  cfg := hc.cell h.cfg (fun s => by have := h.tlo b s; omega)
  lo := h.lo
end
end Go.Proofs.Yticimjplegbagaa


/- QuorumTails, walked: in whatever order sealed replicas are heard that agree, the tail is the longest one of all. -/
set_option linter.unusedVariables false
set_option linter.unusedSimpArgs false
namespace Go.Proofs.Yticimjplegbagaa
open Go.ChangeShapes Go.WideShapes Go.ChangeAt Go.RowKit Cb

set_option maxRecDepth 100000 in
theorem qopen_entries {H : Type} {enc : TypeId × Value → H} {w : World} {base b0 : Nat} {spare : Nat → Bool} {held : Bool} {v : Value} {d : DataW H} {ps : List MemPlace} (hval : Value.okWide Try.prog w .any b0 27 v)
    (h : DataW.Trod enc Try.prog w base spare held 27 v d ps) (hz : ∀ k ∈ d.weights Try.prog 27, k ≤ reachBytes) :
    ∃ l : List Ent, Sl No w v l ∧ l.length ≤ 2199023255488 ∧ ∀ e ∈ l, e.2.2.1.length ≤ 17592186043904 := by
  obtain ⟨a0, len, cap, rfl⟩ := okWide_slice Try.underlying27 hval
  obtain ⟨l, h1, h2⟩ := opens_row opens_entries h
  obtain ⟨h3, h4⟩ := h2 hz
  rw [bytes_entry] at h3
  simp only [reachBytes] at h3
  refine ⟨l, h1, by omega, fun e he => ?_⟩
  have := (h4 e he).2.2.1.1
  rw [bytes_number] at this
  simp only [reachBytes] at this
  omega
set_option maxRecDepth 100000 in
set_option maxHeartbeats 8000000 in
theorem qtails_any (t : Int) (vq vs v vg : Value) (q : List Int) (s : List (List Int)) (l : List Ent) (longs : List Int) (w : World) (hq : Sl No w vq q) (hs : Sl No w vs s) (h : Sl No w v l) (hg : Sl No w vg longs) (hc : CfgI12 q s) (hl : l.length ≤ 2199023255488) (hcb : ∀ e ∈ l, e.2.2.1.length ≤ 17592186043904) (hgl : longs.length * 8 ≤ 140737488351232) :
    Calls Try.prog 4 #[cfgV t vq vs, v, vg] w fun e w' => e = .returned (.bool true) ∧ Chg No w w' := by
  have Hfew := Lib.hid (fun W (hW : Chg No w W) => fewq_any No No No t vq vs (.slice none 0 0) q s [] W (hq.keepNo hW) (hs.keepNo hW) (Sl.nil _ _ _ _) (by have := hc.1; omega) (by have := hc.2.1; omega) (fun x hx => by have := hc.2.2 x hx; omega) (by simp) (fun _ h => by cases h))
  have Hright := Lib.hid (fun W (hW : Chg No w W) => cright_any No No t vq vs q s W (hq.keepNo hW) (hs.keepNo hW) hc.1 (by have := hc.2.1; omega) hc.2.2)
  have Hmine := Lib.hid (fun W (hW : Chg No w W) => mine12_any v l W (h.keepNo hW) (by omega))
  have Hchain := Lib.hid (fun W v' (hs' : Sl No W v' l) => chain_any v' l W hs' hl hcb)
  have Hyes := Lib.hid (fun W (hW : Chg No w W) (hr : rightC t q s = true) => snew_yes t vq vs q s W (hq.keepNo hW) (hs.keepNo hW) hr)
  obtain ⟨Aq, cq, rfl⟩ := hq.slice
  obtain ⟨As, cs, rfl⟩ := hs.slice
  obtain ⟨A, c, rfl⟩ := h.slice
  obtain ⟨Ag, cg, rfl⟩ := hg.slice
  unfold cfgV at *
  have o1 := alloc_obj w (.cells #[.int .i64 t, .slice Aq q.length cq, .slice As s.length cs] 25)
  have hc0 := (Chg.refl No w).alloc (.cells #[.int .i64 t, .slice Aq q.length cq, .slice As s.length cs] 25)
  have a0 := cell_obj (i := 0) o1 rfl
  have a1 := cell_obj (i := 1) o1 rfl
  have a2 := cell_obj (i := 2) o1 rfl
  have Hh := Lib.hid h
  have Hq := Lib.hid hq
  have Hg := Lib.hid hg
  have Hcb := Lib.hid hcb
  clear h hs hq hg hc hcb
  go_enter Try.func4, Try.ntmps4
  go_wp2_with (with_reducible first | refine stop_append ?_ | refine stop_copy ?_ | refine stop_make ?_ | refine stop_lookup ?_ | refine stop_update ?_ | refine stop_slice ?_ | refine stop_range ?_ | refine stop_next ?_ | refine stop_convert ⟨_, rfl⟩ ?_ | refine stop_convertB ⟨_, _, _, rfl⟩ ?_ | refine stop_eqSlice ⟨_, _, rfl⟩ ?_)
  generalize w.alloc (.cells #[.int .i64 t, .slice Aq q.length cq, .slice As s.length cs] 25) = w0 at *
  obtain ⟨b, hb⟩ : ∃ b, b = w.heap.size := ⟨_, rfl⟩
  rw [← hb] at a0 a1 a2 ⊢
  have Hb := Lib.hid hb
  clear o1 hb
  refine (Hfew.out _ hc0).mono ?_
  rintro e w1 ⟨⟨bf, rfl, -⟩, hc1⟩
  have hcw1 := hc0.trans hc1
  replace a0 := hc1.cell a0 (not_no _)
  replace a1 := hc1.cell a1 (not_no _)
  replace a2 := hc1.cell a2 (not_no _)
  clear Hfew hc0 hc1
  cases bf
  · go_wp2_with (with_reducible first | refine stop_append ?_ | refine stop_copy ?_ | refine stop_make ?_ | refine stop_lookup ?_ | refine stop_update ?_ | refine stop_slice ?_ | refine stop_range ?_ | refine stop_next ?_ | refine stop_convert ⟨_, rfl⟩ ?_ | refine stop_convertB ⟨_, _, _, rfl⟩ ?_ | refine stop_eqSlice ⟨_, _, rfl⟩ ?_)
    refine (qalive_any _).mono ?_
    rintro e w2 ⟨rfl, hc2⟩
    have hcw := hcw1.trans hc2
    go_wp2_with (with_reducible first | refine stop_append ?_ | refine stop_copy ?_ | refine stop_make ?_ | refine stop_lookup ?_ | refine stop_update ?_ | refine stop_slice ?_ | refine stop_range ?_ | refine stop_next ?_ | refine stop_convert ⟨_, rfl⟩ ?_ | refine stop_convertB ⟨_, _, _, rfl⟩ ?_ | refine stop_eqSlice ⟨_, _, rfl⟩ ?_)
    go_ret
    exact ⟨rfl, hcw⟩
  by_cases h100 : (100 : Int) < l.length
  · go_wp2_with (with_reducible first | refine stop_append ?_ | refine stop_copy ?_ | refine stop_make ?_ | refine stop_lookup ?_ | refine stop_update ?_ | refine stop_slice ?_ | refine stop_range ?_ | refine stop_next ?_ | refine stop_convert ⟨_, rfl⟩ ?_ | refine stop_convertB ⟨_, _, _, rfl⟩ ?_ | refine stop_eqSlice ⟨_, _, rfl⟩ ?_)
    refine (qalive_any _).mono ?_
    rintro e w2 ⟨rfl, hc2⟩
    have hcw := hcw1.trans hc2
    go_wp2_with (with_reducible first | refine stop_append ?_ | refine stop_copy ?_ | refine stop_make ?_ | refine stop_lookup ?_ | refine stop_update ?_ | refine stop_slice ?_ | refine stop_range ?_ | refine stop_next ?_ | refine stop_convert ⟨_, rfl⟩ ?_ | refine stop_convertB ⟨_, _, _, rfl⟩ ?_ | refine stop_eqSlice ⟨_, _, rfl⟩ ?_)
    go_ret
    exact ⟨rfl, hcw⟩
  by_cases h20 : (20 : Int) < longs.length
  · go_wp2_with (with_reducible first | refine stop_append ?_ | refine stop_copy ?_ | refine stop_make ?_ | refine stop_lookup ?_ | refine stop_update ?_ | refine stop_slice ?_ | refine stop_range ?_ | refine stop_next ?_ | refine stop_convert ⟨_, rfl⟩ ?_ | refine stop_convertB ⟨_, _, _, rfl⟩ ?_ | refine stop_eqSlice ⟨_, _, rfl⟩ ?_)
    refine (qalive_any _).mono ?_
    rintro e w2 ⟨rfl, hc2⟩
    have hcw := hcw1.trans hc2
    go_wp2_with (with_reducible first | refine stop_append ?_ | refine stop_copy ?_ | refine stop_make ?_ | refine stop_lookup ?_ | refine stop_update ?_ | refine stop_slice ?_ | refine stop_range ?_ | refine stop_next ?_ | refine stop_convert ⟨_, rfl⟩ ?_ | refine stop_convertB ⟨_, _, _, rfl⟩ ?_ | refine stop_eqSlice ⟨_, _, rfl⟩ ?_)
    go_ret
    exact ⟨rfl, hcw⟩
  go_wp2_with (with_reducible first | refine stop_append ?_ | refine stop_copy ?_ | refine stop_make ?_ | refine stop_lookup ?_ | refine stop_update ?_ | refine stop_slice ?_ | refine stop_range ?_ | refine stop_next ?_ | refine stop_convert ⟨_, rfl⟩ ?_ | refine stop_convertB ⟨_, _, _, rfl⟩ ?_ | refine stop_eqSlice ⟨_, _, rfl⟩ ?_)
  refine (Hright.out _ hcw1).mono ?_
  rintro e w2 ⟨rfl, hc2⟩
  have hcw2 := hcw1.trans hc2
  replace a0 := hc2.cell a0 (not_no _)
  replace a1 := hc2.cell a1 (not_no _)
  replace a2 := hc2.cell a2 (not_no _)
  clear Hright hcw1 hc2
  rcases hr : rightC t q s with _ | _
  · clear hr
    go_wp2_with (with_reducible first | refine stop_append ?_ | refine stop_copy ?_ | refine stop_make ?_ | refine stop_lookup ?_ | refine stop_update ?_ | refine stop_slice ?_ | refine stop_range ?_ | refine stop_next ?_ | refine stop_convert ⟨_, rfl⟩ ?_ | refine stop_convertB ⟨_, _, _, rfl⟩ ?_ | refine stop_eqSlice ⟨_, _, rfl⟩ ?_)
    refine (qalive_any _).mono ?_
    rintro e w3 ⟨rfl, hc3⟩
    have hcw := hcw2.trans hc3
    go_wp2_with (with_reducible first | refine stop_append ?_ | refine stop_copy ?_ | refine stop_make ?_ | refine stop_lookup ?_ | refine stop_update ?_ | refine stop_slice ?_ | refine stop_range ?_ | refine stop_next ?_ | refine stop_convert ⟨_, rfl⟩ ?_ | refine stop_convertB ⟨_, _, _, rfl⟩ ?_ | refine stop_eqSlice ⟨_, _, rfl⟩ ?_)
    go_ret
    exact ⟨rfl, hcw⟩
  have HR := Lib.hid hr
  clear hr
  go_wp2_with (with_reducible first | refine stop_append ?_ | refine stop_copy ?_ | refine stop_make ?_ | refine stop_lookup ?_ | refine stop_update ?_ | refine stop_slice ?_ | refine stop_range ?_ | refine stop_next ?_ | refine stop_convert ⟨_, rfl⟩ ?_ | refine stop_convertB ⟨_, _, _, rfl⟩ ?_ | refine stop_eqSlice ⟨_, _, rfl⟩ ?_)
  refine (Hmine.out _ hcw2).mono ?_
  rintro e w3 ⟨v3, rfl, hc3, hs3⟩
  have Hch3 := Lib.hid (Hchain.out _ _ hs3)
  obtain ⟨A3, c3, rfl⟩ := hs3.slice
  have hcw3 := hcw2.trans hc3
  replace a0 := hc3.cell a0 (not_no _)
  replace a1 := hc3.cell a1 (not_no _)
  replace a2 := hc3.cell a2 (not_no _)
  clear hs3 hcw2 hc3
  obtain ⟨ch, hch⟩ : ∃ n, n = (chainF l 0 []).1 := ⟨_, rfl⟩
  rw [← hch] at Hch3
  have HCH := Lib.hid hch
  clear hch
  go_wp2_with (with_reducible first | refine stop_append ?_ | refine stop_copy ?_ | refine stop_make ?_ | refine stop_lookup ?_ | refine stop_update ?_ | refine stop_slice ?_ | refine stop_range ?_ | refine stop_next ?_ | refine stop_convert ⟨_, rfl⟩ ?_ | refine stop_convertB ⟨_, _, _, rfl⟩ ?_ | refine stop_eqSlice ⟨_, _, rfl⟩ ?_)
  refine Hch3.out.mono ?_
  rintro e w4 ⟨rfl, hc4⟩
  have hcw4 := hcw3.trans hc4
  replace a0 := hc4.cell a0 (not_no _)
  replace a1 := hc4.cell a1 (not_no _)
  replace a2 := hc4.cell a2 (not_no _)
  clear hcw3 hc4 Hch3
  by_cases hcl : ch = l.length
  rotate_left
  · have hcl2 : ((ch : Int) != (l.length : Int)) = true := by simp; omega
    clear hcl
    go_wp2_with (with_reducible first | refine stop_append ?_ | refine stop_copy ?_ | refine stop_make ?_ | refine stop_lookup ?_ | refine stop_update ?_ | refine stop_slice ?_ | refine stop_range ?_ | refine stop_next ?_ | refine stop_convert ⟨_, rfl⟩ ?_ | refine stop_convertB ⟨_, _, _, rfl⟩ ?_ | refine stop_eqSlice ⟨_, _, rfl⟩ ?_)
    refine (qalive_any _).mono ?_
    rintro e w5 ⟨rfl, hc5⟩
    have hcw := hcw4.trans hc5
    go_wp2_with (with_reducible first | refine stop_append ?_ | refine stop_copy ?_ | refine stop_make ?_ | refine stop_lookup ?_ | refine stop_update ?_ | refine stop_slice ?_ | refine stop_range ?_ | refine stop_next ?_ | refine stop_convert ⟨_, rfl⟩ ?_ | refine stop_convertB ⟨_, _, _, rfl⟩ ?_ | refine stop_eqSlice ⟨_, _, rfl⟩ ?_)
    go_ret
    exact ⟨rfl, hcw⟩
  subst hcl
  by_cases hnl : longs.length < q.length
  · go_wp2_with (with_reducible first | refine stop_append ?_ | refine stop_copy ?_ | refine stop_make ?_ | refine stop_lookup ?_ | refine stop_update ?_ | refine stop_slice ?_ | refine stop_range ?_ | refine stop_next ?_ | refine stop_convert ⟨_, rfl⟩ ?_ | refine stop_convertB ⟨_, _, _, rfl⟩ ?_ | refine stop_eqSlice ⟨_, _, rfl⟩ ?_)
    refine (qalive_any _).mono ?_
    rintro e w5 ⟨rfl, hc5⟩
    have hcw := hcw4.trans hc5
    go_wp2_with (with_reducible first | refine stop_append ?_ | refine stop_copy ?_ | refine stop_make ?_ | refine stop_lookup ?_ | refine stop_update ?_ | refine stop_slice ?_ | refine stop_range ?_ | refine stop_next ?_ | refine stop_convert ⟨_, rfl⟩ ?_ | refine stop_convertB ⟨_, _, _, rfl⟩ ?_ | refine stop_eqSlice ⟨_, _, rfl⟩ ?_)
    go_ret
    exact ⟨rfl, hcw⟩
  go_wp2_with (with_reducible first | refine stop_append ?_ | refine stop_copy ?_ | refine stop_make ?_ | refine stop_lookup ?_ | refine stop_update ?_ | refine stop_slice ?_ | refine stop_range ?_ | refine stop_next ?_ | refine stop_convert ⟨_, rfl⟩ ?_ | refine stop_convertB ⟨_, _, _, rfl⟩ ?_ | refine stop_eqSlice ⟨_, _, rfl⟩ ?_)
  refine (Hyes.out _ hcw4 HR.out).mono ?_
  rintro e w5 ⟨p, rfl, hc5, hp5⟩
  have hb4 := World.block_lt_of_cell? w4 ⟨b, 1, none⟩ a1
  have HB4 := Lib.hid hb4
  have hcw5 := hcw4.trans hc5
  replace a0 := hc5.cell a0 (not_no _)
  replace a1 := hc5.cell a1 (not_no _)
  replace a2 := hc5.cell a2 (not_no _)
  have HP5 := Lib.hid hp5
  have Hz45 := Lib.hid hc5.size
  clear hp5 hc5 hb4
  go_wp2_with (with_reducible first | refine stop_append ?_ | refine stop_copy ?_ | refine stop_make ?_ | refine stop_lookup ?_ | refine stop_update ?_ | refine stop_slice ?_ | refine stop_range ?_ | refine stop_next ?_ | refine stop_convert ⟨_, rfl⟩ ?_ | refine stop_convertB ⟨_, _, _, rfl⟩ ?_ | refine stop_eqSlice ⟨_, _, rfl⟩ ?_)
  refine (Hyes.out _ hcw5 HR.out).mono ?_
  rintro e w6 ⟨p2, rfl, hc6, hp6⟩
  replace a1 := hc6.cell a1 (not_no _)
  obtain ⟨nd, hnd⟩ : ∃ nd : Nat, nd = q.length / 2 + 1 := ⟨_, rfl⟩
  rw [← hnd] at HP5 hp6
  have Hnd := Lib.hid hnd
  clear hnd
  obtain ⟨S1, T1, hQ⟩ : ∃ S T, QB w w6 b (.slice Aq q.length cq) S T p p2 ⟨q, nd, [], []⟩ ⟨q, nd, [], []⟩ :=
    ⟨_, _, HP5.out.keepNo hc6, hp6, fun k s t => by omega, fun k s => by have : b < w4.heap.size := HB4.out; omega, fun k s => by have : b < w4.heap.size := HB4.out; have := Hz45.out; omega, hcw5.trans hc6, a1, by have := Hb.out; omega⟩
  have HQ := Lib.hid hQ
  have Hq7 := Lib.hid (rightC_iff.1 HR.out)
  have hqn : q.length ≤ 7 := Hq7.out.2.1.2
  obtain ⟨ka, hka⟩ : ∃ ka : List Nat, ka = (longs.take q.length).map (fun x => clampN x l.length) := ⟨_, rfl⟩
  have Hkl := Lib.hid (show ka.length = q.length by rw [hka]; simp; omega)
  have Hkn := Lib.hid (show ∀ k ∈ ka, k ≤ l.length from fun k hk => by rw [hka] at hk; obtain ⟨x, _, rfl⟩ := List.mem_map.1 hk; unfold clampN; omega)
  have Hkg := Lib.hid (fun i (hi : i < q.length) => show ka[i]'(by rw [Hkl.out]; exact hi) = clampN (longs[i]'(by omega)) l.length by subst hka; simp)
  have HCH2 := Lib.hid (show (chainF l 0 []).1 = l.length from HCH.out.symm)
  have Hents := Lib.hid (fun e he => ent_cut8 (chain_ents l 0 [] (by rw [HCH2.out]; omega) e he))
  have Hnl := Lib.hid (show q.length ≤ longs.length by omega)
  have Hl100 := Lib.hid (show l.length ≤ 100 by omega)
  have Hq3 := Lib.hid (Sl.up Hq.out (Nat.le_refl _))
  have Hg3 := Lib.hid (Sl.up Hg.out (Nat.le_refl _))
  have Hh3 := Lib.hid (Sl.up Hh.out (Nat.le_refl _))
  clear hQ hp6 HP5 hc6 a0 a2 hcw4 hcw5 hka Hmine Hchain Hyes h20 h100 HCH Hq Hg Hh
  go_wp2_with (with_reducible first | refine stop_append ?_ | refine stop_copy ?_ | refine stop_make ?_ | refine stop_lookup ?_ | refine stop_update ?_ | refine stop_slice ?_ | refine stop_range ?_ | refine stop_next ?_ | refine stop_convert ⟨_, rfl⟩ ?_ | refine stop_convertB ⟨_, _, _, rfl⟩ ?_ | refine stop_eqSlice ⟨_, _, rfl⟩ ?_)
  clear hl a1
  go_loopw [11, 13, 14, 82] (fun v11 _ _ v82 wr => ∃ (i : Nat) (S T : Nat → Prop), i ≤ q.length ∧ v82 = .int .i64 i ∧ v11 = .int .i64 (mostF (ka.take i) : Nat) ∧ QB w wr b (.slice Aq q.length cq) S T p p2 ⟨q, nd, q.take i, l.take (mostF (ka.take i))⟩ ⟨q, nd, q.reverse.take i, l.take (mostF (ka.reverse.take i))⟩) (fun _ _ _ v82 _ => q.length - (intOf v82).toNat)
  case atStart => exact ⟨0, S1, T1, by omega, rfl, rfl, HQ.out⟩
  case round =>
    obtain ⟨i, S, T, hi, rfl, rfl, hQ⟩ := hrel
    have HQ := Lib.hid hQ
    by_cases hlt : i < q.length
    · have hlow : ∀ k, w.heap.size ≤ k → k < wr.heap.size ∨ wr.heap.size ≤ k := fun k _ => by omega
      obtain ⟨bq, oq, rfl, hnq, _, hqi⟩ := intT_get (Hq3.out.keepNo hQ.chg) i hlt
      obtain ⟨_, _, eq2, _, _, hqj⟩ := intT_get (Hq3.out.keepNo hQ.chg) (q.length - 1 - i) (by omega)
      cases eq2
      obtain ⟨bg, og, rfl, hng, _, hgi⟩ := intT_get (Hg3.out.keepNo hQ.chg) i (by have := Hnl.out; omega)
      obtain ⟨_, _, eq3, _, _, hgj⟩ := intT_get (Hg3.out.keepNo hQ.chg) (q.length - 1 - i) (by have := Hnl.out; omega)
      cases eq3
      have hMa : mostF (ka.take i) ≤ l.length := most_le (fun k hk => Hkn.out k (List.mem_of_mem_take hk))
      have hMb : mostF (ka.reverse.take i) ≤ l.length := most_le (fun k hk => Hkn.out k (List.mem_reverse.1 (List.mem_of_mem_take hk)))
      have hk1 : ka[i]'(by rw [Hkl.out]; exact hlt) ≤ l.length := Hkn.out _ (List.getElem_mem _)
      have hk2 : ka[q.length - 1 - i]'(by rw [Hkl.out]; omega) ≤ l.length := Hkn.out _ (List.getElem_mem _)
      have hnod : q.Nodup := (of_decide_eq_true Hq7.out.2.2.2.1).2
      have Hag1 := Lib.hid (hear_agree (nd := nd) HCH2.out hMa hk1 (List.getElem_mem hlt) (show q[i] ∉ q.take i from fun h => by
        obtain ⟨k, hk, e⟩ := List.mem_iff_getElem.1 h
        rw [List.getElem_take] at e
        rw [List.length_take] at hk
        have := (List.getElem_inj hnod).1 e
        omega))
      have hnodr : q.reverse.Nodup := by unfold List.Nodup; rw [List.pairwise_reverse]; exact hnod.imp (fun h => h.symm)
      have hrev : q.reverse[i]'(by simpa using hlt) = q[q.length - 1 - i] := by rw [List.getElem_reverse]
      have Hag2 := Lib.hid (hear_agree (nd := nd) (q := q) (m := q.reverse.take i) (x := q[q.length - 1 - i]) HCH2.out hMb hk2 (List.getElem_mem _) (fun h => by
        rw [← hrev] at h
        obtain ⟨k, hk, e⟩ := List.mem_iff_getElem.1 h
        rw [List.getElem_take] at e
        rw [List.length_take] at hk
        have := (List.getElem_inj hnodr).1 e
        omega))
      have Htq := Lib.hid (show q.take (i + 1) = q.take i ++ [q[i]] from List.take_succ_eq_append_getElem hlt)
      have Htr := Lib.hid (show q.reverse.take (i + 1) = q.reverse.take i ++ [q[q.length - 1 - i]] by rw [List.take_succ_eq_append_getElem (by simpa using hlt), hrev])
      have Hma := Lib.hid (show mostF (ka.take (i + 1)) = max (mostF (ka.take i)) (ka[i]'(by rw [Hkl.out]; exact hlt)) from most_snoc ka i _)
      have Hmb := Lib.hid (show mostF (ka.reverse.take (i + 1)) = max (mostF (ka.reverse.take i)) (ka[q.length - 1 - i]'(by rw [Hkl.out]; omega)) by
        rw [most_snoc ka.reverse i (by rw [List.length_reverse, Hkl.out]; exact hlt)]
        congr 1
        rw [List.getElem_reverse]
        congr 1
        rw [Hkl.out])
      have he1 := Hkg.out i hlt
      have he2 := Hkg.out (q.length - 1 - i) (by omega)
      obtain ⟨j, hj⟩ : ∃ j, j = q.length - 1 - i := ⟨_, rfl⟩
      simp only [← hj] at hqj hgj Hag2 Htr Hmb he2 hk2
      have HJ := Lib.hid (show j < q.length ∧ j < longs.length from ⟨by omega, by have := Hnl.out; omega⟩)
      have g1 : IntKind.i64.wrap ((q.length : Int) - 1) = (q.length : Int) - 1 := IntWalk.i64_in _ (by omega)
      have g2 : (q.length : Int) - 1 - (i : Int) = (j : Int) := by omega
      have g3 : IntKind.i64.wrap ((q.length : Int) - 1 - (i : Int)) = (j : Int) := by rw [g2]; exact IntWalk.i64_in _ (by omega)
      generalize longs[i]'(by have := Hnl.out; omega) = x1 at *
      generalize longs[j]'HJ.out.2 = x2 at *
      generalize q[i] = z1 at *
      generalize q[j]'HJ.out.1 = z2 at *
      generalize ka[i]'(by rw [Hkl.out]; exact hlt) = k1 at *
      generalize ka[j]'(by rw [Hkl.out]; exact HJ.out.1) = k2 at *
      obtain ⟨Ma', hMa'⟩ : ∃ m, m = mostF (ka.take (i + 1)) := ⟨_, rfl⟩
      rw [← hMa'] at Hma
      have HMa := Lib.hid hMa'
      obtain ⟨Mb', hMb'⟩ : ∃ m, m = mostF (ka.reverse.take (i + 1)) := ⟨_, rfl⟩
      rw [← hMb'] at Hmb
      have HMb := Lib.hid hMb'
      clear hMa' hMb'
      generalize mostF (ka.take i) = Ma at *
      generalize mostF (ka.reverse.take i) = Mb at *
      clear hQ hnod hnodr hrev hlow
      obtain ⟨y1, hy1⟩ : ∃ y : Int, y = max x1 0 := ⟨_, rfl⟩
      have f1 : (if x1 < 0 then (0 : Int) else x1) = y1 := by subst hy1; split <;> omega
      have f1' : max x1 0 = y1 := hy1.symm
      have f2 : (if (l.length : Int) < y1 then (l.length : Int) else y1) = (k1 : Int) := by rw [he1]; unfold clampN; rw [← hy1]; have : 0 ≤ y1 := by omega
                                                                                            split <;> omega
      have f2' : min y1 (l.length : Int) = (k1 : Int) := by rw [← f2]; split <;> omega
      have f3 : (if Ma < k1 then (k1 : Int) else (Ma : Int)) = (Ma' : Int) := by rw [Hma.out]; split <;> omega
      have f3' : max (Ma : Int) (k1 : Int) = (Ma' : Int) := by rw [Hma.out]; omega
      obtain ⟨y2, hy2⟩ : ∃ y : Int, y = max x2 0 := ⟨_, rfl⟩
      have j1 : (if x2 < 0 then (0 : Int) else x2) = y2 := by subst hy2; split <;> omega
      have j1' : max x2 0 = y2 := hy2.symm
      have j2 : (if (l.length : Int) < y2 then (l.length : Int) else y2) = (k2 : Int) := by rw [he2]; unfold clampN; rw [← hy2]; have : 0 ≤ y2 := by omega
                                                                                            split <;> omega
      have j2' : min y2 (l.length : Int) = (k2 : Int) := by rw [← j2]; split <;> omega
      clear hy1 hy2 he1 he2 hj
      have hbw := Hb.out
      have hnq' : ¬ b < bq := by simp only [Ge] at hnq; omega
      have hng' : ¬ b < bg := by simp only [Ge] at hng; omega
      have hcap := Hh3.out.len.2
      have Hcap := Lib.hid hcap
      have Hall1 := Lib.hid (show (l.take k1).length ≤ 1000000 ∧ (∀ e ∈ l.take k1, e.2.2.1.length ≤ 1000000) ∧ (l.take Ma).length ≤ 1000000 ∧ (∀ e ∈ l.take Ma, e.2.2.1.length ≤ 1000000) from
        ⟨by have := Hl100.out; rw [List.length_take]; omega, fun e he => by have := Hents.out e (List.mem_of_mem_take he); omega, by have := Hl100.out; rw [List.length_take]; omega, fun e he => by have := Hents.out e (List.mem_of_mem_take he); omega⟩)
      have Hall2 := Lib.hid (show (l.take k2).length ≤ 1000000 ∧ (∀ e ∈ l.take k2, e.2.2.1.length ≤ 1000000) ∧ (l.take Mb).length ≤ 1000000 ∧ (∀ e ∈ l.take Mb, e.2.2.1.length ≤ 1000000) from
        ⟨by have := Hl100.out; rw [List.length_take]; omega, fun e he => by have := Hents.out e (List.mem_of_mem_take he); omega, by have := Hl100.out; rw [List.length_take]; omega, fun e he => by have := Hents.out e (List.mem_of_mem_take he); omega⟩)
      have Hcells := Lib.hid (show ∀ W, Chg (fun k => b < k) wr W → W.cell? ⟨b, 1, none⟩ = some (.slice (some ⟨bq, oq, none⟩) q.length cq) ∧ W.cell? ⟨bq, oq + i, none⟩ = some (.int .i64 z1) ∧ W.cell? ⟨bq, oq + j, none⟩ = some (.int .i64 z2) ∧ W.cell? ⟨bg, og + j, none⟩ = some (.int .i64 x2) from
        fun W hW => ⟨hW.cell HQ.out.cfg (fun g => Nat.lt_irrefl _ g), hW.cell hqi hnq', hW.cell hqj hnq', hW.cell hgj hng'⟩)
      have Hlen1 := Lib.hid (show (l.take k1).length = k1 by rw [List.length_take]; omega)
      have Hlen2 := Lib.hid (show (l.take k2).length = k2 by rw [List.length_take]; omega)
      have hcut1 := fun W => run_cut_hi (α := Ent) (P := Try.prog) Try.underlying27 info_dent A l.length c k1 hk1 hcap W
      have hcut2 := fun W => run_cut_hi (α := Ent) (P := Try.prog) Try.underlying27 info_dent A l.length c k2 hk2 hcap W
      clear hbw hnq hng hnq' hng' hcap
      obtain ⟨wA, rfl⟩ : ∃ W : World, W = wr := ⟨_, rfl⟩
      go_wp2_with (with_reducible first | refine stop_append ?_ | refine stop_copy ?_ | refine stop_make ?_ | refine stop_lookup ?_ | refine stop_update ?_ | refine stop_slice ?_ | refine stop_range ?_ | refine stop_next ?_ | refine stop_convert ⟨_, rfl⟩ ?_ | refine stop_convertB ⟨_, _, _, rfl⟩ ?_ | refine stop_eqSlice ⟨_, _, rfl⟩ ?_)
      clear hqi hqj hgi hgj f1 f1' f2 f2' f3 f3'
      have cd := (Chg.refl No wA).drew
      refine rt_start (fun W => W.cell? ⟨b, 1, none⟩ = some (.slice (some ⟨bq, oq, none⟩) q.length cq) ∧ W.cell? ⟨bq, oq + i, none⟩ = some (.int .i64 z1)) (by kernel_rfl) ?_
      have h14 := fun W hW => (⟨(Hcells.out W hW).1, (Hcells.out W hW).2.1⟩ : (fun W => W.cell? ⟨b, 1, none⟩ = some (.slice (some ⟨bq, oq, none⟩) q.length cq) ∧ W.cell? ⟨bq, oq + i, none⟩ = some (.int .i64 z1)) W)
      have H14 := Lib.hid h14
      clear h14
      iterate 9 ((refine rt_nx [] (v := ?_) rfl (by kernel_rfl) (fun _ _ _ h => h) rfl ?_ ?_; rotate_left; focus (intro W hW; (try dsimp only at hW); go_split_ands; go_simp; (try (simp (disch := omega) only [IntWalk.i64_in]; (try go_simp))); (try (split; (next => omega); (try go_simp))); try rfl; done)); try simp only [Act.put, List.setIfInBounds_toArray, List.set_cons_zero, List.set_cons_succ, Nat.reduceAdd])
      refine rt_kx (fun W => W.cell? ⟨b, 1, none⟩ = some (.slice (some ⟨bq, oq, none⟩) q.length cq) ∧ W.cell? ⟨bq, oq + i, none⟩ = some (.int .i64 z1)) 9 (by kernel_rfl) (H14.out _ cd.of_no) (fun _ h => h) rfl (by rfl) (fun K hK => ?_)
      go_simp
      refine (mine12F_any S (.slice A k1 c) (l.take k1) wA.drew (take_sl ((Hh3.out.keepNo (HQ.out.chg.trans cd)).weak (fun k _ g => by have := HQ.out.slo k g; have := HQ.out.lo; simp only [Ge]; omega)) k1 hk1) (HQ.out.no cd).sa.lt (by have := Hl100.out; rw [List.length_take]; omega)).mono ?_
      rintro e w7 ⟨v7, rfl, hc7, hs7⟩
      have HQ7 := Lib.hid ((HQ.out.no cd).no hc7)
      have cd7 := cd.trans hc7
      obtain ⟨A7, c7, e7⟩ := hs7.slice
      rw [Hlen1.out] at e7
      subst e7
      have Hs7 := Lib.hid hs7
      clear hs7 hc7 cd
      refine hK _ _ ?_
      clear hK K
      try simp only [Act.put, List.setIfInBounds_toArray, List.set_cons_zero, List.set_cons_succ]
      refine rt_kx (fun W => W.cell? ⟨b, 1, none⟩ = some (.slice (some ⟨bq, oq, none⟩) q.length cq) ∧ W.cell? ⟨bq, oq + i, none⟩ = some (.int .i64 z1)) 10 (by kernel_rfl) (H14.out _ cd7.of_no) (fun _ h => h) rfl (by rfl) (fun K hK => ?_)
      go_simp
      have hH := sheard_any S p ⟨q, nd, q.take i, l.take Ma⟩ z1 (.slice A7 k1 c7) (l.take k1) w7 HQ7.out.sa Hs7.out (show q.length ≤ 1000000 by omega) Hall1.out.1 Hall1.out.2.1 Hall1.out.2.2.1 Hall1.out.2.2.2
      rw [Hag1.out] at hH
      have HH := Lib.hid hH
      clear hH
      refine HH.out.mono ?_
      rintro e w8 ⟨rfl, hc8, S8, hs8, hS8⟩
      have HQ8 := Lib.hid (HQ7.out.setA hc8 hs8 hS8)
      have cd8 : Chg (fun k => b < k) wA w8 := cd7.of_no.trans (hc8.weak (fun k _ g => HQ7.out.slo k g))
      clear hc8 hs8 hS8 HH
      refine hK _ _ ?_
      clear hK K
      try simp only [Act.put, List.setIfInBounds_toArray, List.set_cons_zero, List.set_cons_succ]
      refine rt_kx (fun W => W.cell? ⟨b, 1, none⟩ = some (.slice (some ⟨bq, oq, none⟩) q.length cq) ∧ W.cell? ⟨bq, oq + i, none⟩ = some (.int .i64 z1)) 11 (by kernel_rfl) (H14.out _ cd8) (fun _ h => h) rfl (by rfl) (fun K hK => ?_)
      go_simp
      refine hK _ _ ?_
      clear hK K
      try simp only [Act.put, List.setIfInBounds_toArray, List.set_cons_zero, List.set_cons_succ]
      refine rt_done (by kernel_rfl)  ?_
      have c8 := (Hcells.out _ cd8).2.2.2
      have Hcd8 := Lib.hid cd8
      clear cd8 cd7 hcut1
      go_wp2_with (with_reducible first | refine stop_append ?_ | refine stop_copy ?_ | refine stop_make ?_ | refine stop_lookup ?_ | refine stop_update ?_ | refine stop_slice ?_ | refine stop_range ?_ | refine stop_next ?_ | refine stop_convert ⟨_, rfl⟩ ?_ | refine stop_convertB ⟨_, _, _, rfl⟩ ?_ | refine stop_eqSlice ⟨_, _, rfl⟩ ?_)
      clear c8 j1 j1' j2 j2'
      have dd := (Chg.refl No w8).drew
      refine rt_start (fun W => W.cell? ⟨b, 1, none⟩ = some (.slice (some ⟨bq, oq, none⟩) q.length cq) ∧ W.cell? ⟨bq, oq + j, none⟩ = some (.int .i64 z2)) (by kernel_rfl) ?_
      have h17 := fun W (hW : Chg (fun k => b < k) w8 W) => (⟨(Hcells.out W (Hcd8.out.trans hW)).1, (Hcells.out W (Hcd8.out.trans hW)).2.2.1⟩ : (fun W => W.cell? ⟨b, 1, none⟩ = some (.slice (some ⟨bq, oq, none⟩) q.length cq) ∧ W.cell? ⟨bq, oq + j, none⟩ = some (.int .i64 z2)) W)
      have H17 := Lib.hid h17
      clear h17 H14
      have hjq : j < q.length := HJ.out.1
      iterate 12 ((refine rt_nx [] (v := ?_) rfl (by kernel_rfl) (fun _ _ _ h => h) rfl ?_ ?_; rotate_left; focus (intro W hW; (try dsimp only at hW); go_split_ands; go_simp; (try (simp (disch := omega) only [IntWalk.i64_in]; (try go_simp))); (try (split; (next => omega); (try go_simp))); try rfl; done)); try simp only [Act.put, List.setIfInBounds_toArray, List.set_cons_zero, List.set_cons_succ, Nat.reduceAdd])
      refine rt_kx (fun W => W.cell? ⟨b, 1, none⟩ = some (.slice (some ⟨bq, oq, none⟩) q.length cq) ∧ W.cell? ⟨bq, oq + j, none⟩ = some (.int .i64 z2)) 12 (by kernel_rfl) (H17.out _ dd.of_no) (fun _ h => h) rfl (by rfl) (fun K hK => ?_)
      go_simp
      refine (mine12F_any T (.slice A k2 c) (l.take k2) w8.drew (take_sl ((Hh3.out.keepNo (HQ8.out.chg.trans dd)).weak (fun k _ g => by have := HQ8.out.tlo k g; have := HQ8.out.lo; simp only [Ge]; omega)) k2 hk2) (HQ8.out.no dd).sb.lt (by have := Hl100.out; rw [List.length_take]; omega)).mono ?_
      rintro e w9 ⟨v9, rfl, hc9, hs9⟩
      have HQ9 := Lib.hid ((HQ8.out.no dd).no hc9)
      have dd9 := dd.trans hc9
      obtain ⟨A9, c9, e9⟩ := hs9.slice
      rw [Hlen2.out] at e9
      subst e9
      have Hs9 := Lib.hid hs9
      clear hs9 hc9 dd
      refine hK _ _ ?_
      clear hK K
      try simp only [Act.put, List.setIfInBounds_toArray, List.set_cons_zero, List.set_cons_succ]
      refine rt_kx (fun W => W.cell? ⟨b, 1, none⟩ = some (.slice (some ⟨bq, oq, none⟩) q.length cq) ∧ W.cell? ⟨bq, oq + j, none⟩ = some (.int .i64 z2)) 13 (by kernel_rfl) (H17.out _ dd9.of_no) (fun _ h => h) rfl (by rfl) (fun K hK => ?_)
      go_simp
      have hH := sheard_any T p2 ⟨q, nd, q.reverse.take i, l.take Mb⟩ z2 (.slice A9 k2 c9) (l.take k2) w9 HQ9.out.sb Hs9.out (show q.length ≤ 1000000 by omega) Hall2.out.1 Hall2.out.2.1 Hall2.out.2.2.1 Hall2.out.2.2.2
      rw [Hag2.out] at hH
      have HH := Lib.hid hH
      clear hH
      refine HH.out.mono ?_
      rintro e w10 ⟨rfl, hc10, T10, ht10, hT10⟩
      have HQ10 := Lib.hid (HQ9.out.setB hc10 ht10 hT10)
      have dd10 : Chg (fun k => b < k) w8 w10 := dd9.of_no.trans (hc10.weak (fun k _ g => HQ9.out.tlo k g))
      clear hc10 ht10 hT10 HH
      refine hK _ _ ?_
      clear hK K
      try simp only [Act.put, List.setIfInBounds_toArray, List.set_cons_zero, List.set_cons_succ]
      refine rt_kx (fun W => W.cell? ⟨b, 1, none⟩ = some (.slice (some ⟨bq, oq, none⟩) q.length cq) ∧ W.cell? ⟨bq, oq + j, none⟩ = some (.int .i64 z2)) 14 (by kernel_rfl) (H17.out _ dd10) (fun _ h => h) rfl (by rfl) (fun K hK => ?_)
      go_simp
      refine hK _ _ ?_
      clear hK K
      try simp only [Act.put, List.setIfInBounds_toArray, List.set_cons_zero, List.set_cons_succ]
      refine rt_done (by kernel_rfl)  ?_
      have hfin := HQ10.out
      rw [← Hma.out, ← Hmb.out, ← Htq.out, ← Htr.out] at hfin
      have Hfin := Lib.hid hfin
      clear hfin dd10 dd9 hcut2 g1 g2 g3
      go_wp2_with (with_reducible first | refine stop_append ?_ | refine stop_copy ?_ | refine stop_make ?_ | refine stop_lookup ?_ | refine stop_update ?_ | refine stop_slice ?_ | refine stop_range ?_ | refine stop_next ?_ | refine stop_convert ⟨_, rfl⟩ ?_ | refine stop_convertB ⟨_, _, _, rfl⟩ ?_ | refine stop_eqSlice ⟨_, _, rfl⟩ ?_)
      go_roundw
      case rel => exact ⟨i + 1, S8, T10, by omega, by go_num, by rw [← HMa.out], by rw [← HMa.out, ← HMb.out]; exact Hfin.out⟩
      case measure => simp [intOf]; omega
    · obtain rfl : i = q.length := by omega
      have hQ2 := hQ
      rw [List.take_length, show q.reverse.take q.length = q.reverse by rw [← List.length_reverse, List.take_length], show ka.take q.length = ka by rw [← Hkl.out, List.take_length], show ka.reverse.take q.length = ka.reverse by rw [← Hkl.out, ← List.length_reverse, List.take_length], most_rev] at hQ2
      rw [show ka.take q.length = ka by rw [← Hkl.out, List.take_length]]
      have hM : mostF ka ≤ l.length := most_le Hkn.out
      generalize mostF ka = M at *
      have HQ2 := Lib.hid hQ2
      have hlt7 : (l.take M).length ≤ 2199023255488 := by have := Hl100.out; rw [List.length_take]; omega
      have hcb7 : ∀ e ∈ l.take M, e.2.2.1.length ≤ 1000000 := fun e he => by have := Hents.out e (List.mem_of_mem_take he); omega
      have hd1 : doneS ⟨q, nd, q, l.take M⟩ = true := by have := Hnd.out; have := Hq7.out.2.1; simp only [doneS, decide_eq_true_eq]; omega
      have hd2 : doneS ⟨q, nd, q.reverse, l.take M⟩ = true := by have := Hnd.out; have := Hq7.out.2.1; simp only [doneS, decide_eq_true_eq, List.length_reverse]; omega
      have ht1 : tailS ⟨q, nd, q, l.take M⟩ = l.take M := if_pos hd1
      have ht2 : tailS ⟨q, nd, q.reverse, l.take M⟩ = l.take M := if_pos hd2
      have Hlm := Lib.hid (show (l.take M).length = M by rw [List.length_take]; omega)
      have Ha := Lib.hid (fun W (hW : Chg No wr W) => stail_any S p ⟨q, nd, q, l.take M⟩ W (HQ2.out.no hW).sa hlt7 hcb7)
      have Hb2 := Lib.hid (fun W (hW : Chg No wr W) => stail_any T p2 ⟨q, nd, q.reverse, l.take M⟩ W (HQ2.out.no hW).sb hlt7 hcb7)
      rw [ht1, hd1, Hlm.out] at Ha
      rw [ht2, hd2, Hlm.out] at Hb2
      have Hen := Lib.hid (fun W v' (hs : Sl No W v' (l.take M)) => entries12_any v' (l.take M) W hs (by have := Hl100.out; rw [Hlm.out]; omega))
      have hcap := Hh3.out.len.2
      have hcutM := fun W => run_cut_hi (α := Ent) (P := Try.prog) Try.underlying27 info_dent A l.length c M hM hcap W
      have Hsa := Lib.hid (fun W v' (hs : Sl No W v' (l.take M)) (hW : Chg No wr W) => dsameall_any No _ v' (.slice A M c) (l.take M) (l.take M) W hs (take_sl (Hh3.out.keepNo (HQ2.out.chg.trans hW)) M hM) hlt7 hlt7 (fun e he => by have := hcb7 e he; omega) (fun e he => by have := hcb7 e he; omega))
      simp only [decide_true] at Hsa
      have hcwr := HQ2.out.chg
      clear hQ hQ2 hlt7 hcb7 hd1 hd2 ht1 ht2 hM hcap
      go_wp2_with (with_reducible first | refine stop_append ?_ | refine stop_copy ?_ | refine stop_make ?_ | refine stop_lookup ?_ | refine stop_update ?_ | refine stop_slice ?_ | refine stop_range ?_ | refine stop_next ?_ | refine stop_convert ⟨_, rfl⟩ ?_ | refine stop_convertB ⟨_, _, _, rfl⟩ ?_ | refine stop_eqSlice ⟨_, _, rfl⟩ ?_)
      refine (Ha.out _ (Chg.refl _ _)).mono ?_
      rintro e w7 ⟨A7, c7, rfl, hc7, hs7⟩
      have Hs7 := Lib.hid hs7.no
      clear hs7
      go_wp2_with (with_reducible first | refine stop_append ?_ | refine stop_copy ?_ | refine stop_make ?_ | refine stop_lookup ?_ | refine stop_update ?_ | refine stop_slice ?_ | refine stop_range ?_ | refine stop_next ?_ | refine stop_convert ⟨_, rfl⟩ ?_ | refine stop_convertB ⟨_, _, _, rfl⟩ ?_ | refine stop_eqSlice ⟨_, _, rfl⟩ ?_)
      refine (Hb2.out _ hc7).mono ?_
      rintro e w8 ⟨A8, c8, rfl, hc8, hs8⟩
      have Hs8 := Lib.hid hs8.no
      have hc78 := hc7.trans hc8
      have Hs7' := Lib.hid (Hs7.out.keepNo hc8)
      clear hs8 hc7 Hs7
      go_wp2_with (with_reducible first | refine stop_append ?_ | refine stop_copy ?_ | refine stop_make ?_ | refine stop_lookup ?_ | refine stop_update ?_ | refine stop_slice ?_ | refine stop_range ?_ | refine stop_next ?_ | refine stop_convert ⟨_, rfl⟩ ?_ | refine stop_convertB ⟨_, _, _, rfl⟩ ?_ | refine stop_eqSlice ⟨_, _, rfl⟩ ?_)
      have cd := (Chg.refl No w8).drew
      refine rt_start (fun _ => True) (by kernel_rfl) ?_
      refine rt_kx (fun _ => True) 0 (by kernel_rfl) trivial (fun _ h => h) rfl (by rfl) (fun K hK => ?_)
      go_simp
      refine (qalive_any _).mono ?_
      rintro e w9 ⟨rfl, hc9⟩
      have cd9 := cd.trans hc9
      refine hK _ _ ?_
      clear hK K
      try simp only [Act.put, List.setIfInBounds_toArray, List.set_cons_zero, List.set_cons_succ]
      ((refine rt_nx [] (v := ?_) rfl (by kernel_rfl) (fun _ _ _ h => h) rfl ?_ ?_; rotate_left; focus (intro W hW; (try dsimp only at hW); go_split_ands; go_simp; (try (simp (disch := omega) only [IntWalk.i64_in]; (try go_simp))); (try (split; (next => omega); (try go_simp))); try rfl; done)); try simp only [Act.put, List.setIfInBounds_toArray, List.set_cons_zero, List.set_cons_succ, Nat.reduceAdd])
      ((first | (refine rt_nn [] rfl (by kernel_rfl) (fun _ _ _ h => h) rfl ?_) | (refine rt_nx [] (v := ?_) rfl (by kernel_rfl) (fun _ _ _ h => h) rfl ?_ ?_; rotate_left; focus (intro W hW; (try dsimp only at hW); go_split_ands; go_simp; (try (simp (disch := omega) only [IntWalk.i64_in]; (try go_simp))); (try (split; (next => omega); (try go_simp))); try rfl; done))); try simp only [Act.put, List.setIfInBounds_toArray, List.set_cons_zero, List.set_cons_succ, Nat.reduceAdd])
      iterate 2 ((refine rt_nx [] (v := ?_) rfl (by kernel_rfl) (fun _ _ _ h => h) rfl ?_ ?_; rotate_left; focus (intro W hW; (try dsimp only at hW); go_split_ands; go_simp; (try (simp (disch := omega) only [IntWalk.i64_in]; (try go_simp))); (try (split; (next => omega); (try go_simp))); try rfl; done)); try simp only [Act.put, List.setIfInBounds_toArray, List.set_cons_zero, List.set_cons_succ, Nat.reduceAdd])
      ((first | (refine rt_nn [] rfl (by kernel_rfl) (fun _ _ _ h => h) rfl ?_) | (refine rt_nx [] (v := ?_) rfl (by kernel_rfl) (fun _ _ _ h => h) rfl ?_ ?_; rotate_left; focus (intro W hW; (try dsimp only at hW); go_split_ands; go_simp; (try (simp (disch := omega) only [IntWalk.i64_in]; (try go_simp))); (try (split; (next => omega); (try go_simp))); try rfl; done))); try simp only [Act.put, List.setIfInBounds_toArray, List.set_cons_zero, List.set_cons_succ, Nat.reduceAdd])
      iterate 2 ((refine rt_nx [] (v := ?_) rfl (by kernel_rfl) (fun _ _ _ h => h) rfl ?_ ?_; rotate_left; focus (intro W hW; (try dsimp only at hW); go_split_ands; go_simp; (try (simp (disch := omega) only [IntWalk.i64_in]; (try go_simp))); (try (split; (next => omega); (try go_simp))); try rfl; done)); try simp only [Act.put, List.setIfInBounds_toArray, List.set_cons_zero, List.set_cons_succ, Nat.reduceAdd])
      iterate 4 ((first | (refine rt_nn [] rfl (by kernel_rfl) (fun _ _ _ h => h) rfl ?_) | (refine rt_nx [] (v := ?_) rfl (by kernel_rfl) (fun _ _ _ h => h) rfl ?_ ?_; rotate_left; focus (intro W hW; (try dsimp only at hW); go_split_ands; go_simp; (try (simp (disch := omega) only [IntWalk.i64_in]; (try go_simp))); (try (split; (next => omega); (try go_simp))); try rfl; done))); try simp only [Act.put, List.setIfInBounds_toArray, List.set_cons_zero, List.set_cons_succ, Nat.reduceAdd])
      refine rt_kx (fun _ => True) 9 (by kernel_rfl) trivial (fun _ h => h) rfl (by rfl) (fun K hK => ?_)
      go_simp
      refine (Hen.out _ _ (Hs7'.out.keepNo cd9)).mono ?_
      rintro e w10 ⟨v10, rfl, hc10, hs10⟩
      have cd10 := cd9.trans hc10
      refine hK _ _ ?_
      clear hK K
      try simp only [Act.put, List.setIfInBounds_toArray, List.set_cons_zero, List.set_cons_succ]
      refine rt_kx (fun _ => True) 13 (by kernel_rfl) trivial (fun _ h => h) rfl (by rfl) (fun K hK => ?_)
      go_simp
      refine (Hsa.out _ _ hs10 (hc78.trans cd10)).mono ?_
      rintro e w11 ⟨rfl, hc11⟩
      have cd11 := cd10.trans hc11
      refine hK _ _ ?_
      clear hK K
      try simp only [Act.put, List.setIfInBounds_toArray, List.set_cons_zero, List.set_cons_succ]
      iterate 2 ((refine rt_nx [] (v := ?_) rfl (by kernel_rfl) (fun _ _ _ h => h) rfl ?_ ?_; rotate_left; focus (intro W hW; (try dsimp only at hW); go_split_ands; go_simp; (try (simp (disch := omega) only [IntWalk.i64_in]; (try go_simp))); (try (split; (next => omega); (try go_simp))); try rfl; done)); try simp only [Act.put, List.setIfInBounds_toArray, List.set_cons_zero, List.set_cons_succ, Nat.reduceAdd])
      iterate 4 ((first | (refine rt_nn [] rfl (by kernel_rfl) (fun _ _ _ h => h) rfl ?_) | (refine rt_nx [] (v := ?_) rfl (by kernel_rfl) (fun _ _ _ h => h) rfl ?_ ?_; rotate_left; focus (intro W hW; (try dsimp only at hW); go_split_ands; go_simp; (try (simp (disch := omega) only [IntWalk.i64_in]; (try go_simp))); (try (split; (next => omega); (try go_simp))); try rfl; done))); try simp only [Act.put, List.setIfInBounds_toArray, List.set_cons_zero, List.set_cons_succ, Nat.reduceAdd])
      refine rt_kx (fun _ => True) 17 (by kernel_rfl) trivial (fun _ h => h) rfl (by rfl) (fun K hK => ?_)
      go_simp
      refine (Hen.out _ _ (Hs8.out.keepNo cd11)).mono ?_
      rintro e w12 ⟨v12, rfl, hc12, hs12⟩
      have cd12 := cd11.trans hc12
      refine hK _ _ ?_
      clear hK K
      try simp only [Act.put, List.setIfInBounds_toArray, List.set_cons_zero, List.set_cons_succ]
      refine rt_kx (fun _ => True) 21 (by kernel_rfl) trivial (fun _ h => h) rfl (by rfl) (fun K hK => ?_)
      go_simp
      refine (Hsa.out _ _ hs12 (hc78.trans cd12)).mono ?_
      rintro e w13 ⟨rfl, hc13⟩
      have cd13 := cd12.trans hc13
      refine hK _ _ ?_
      clear hK K
      try simp only [Act.put, List.setIfInBounds_toArray, List.set_cons_zero, List.set_cons_succ]
      ((refine rt_nx [23] (v := ?_) rfl (by kernel_rfl) (fun _ _ _ h => h) rfl ?_ ?_; rotate_left; focus (intro W hW; (try dsimp only at hW); go_split_ands; go_simp; (try (simp (disch := omega) only [IntWalk.i64_in]; (try go_simp))); (try (split; (next => omega); (try go_simp))); try rfl; done)); try simp only [Act.put, List.setIfInBounds_toArray, List.set_cons_zero, List.set_cons_succ, Nat.reduceAdd])
      refine rt_kx (fun _ => True) 23 (by kernel_rfl) trivial (fun _ h => h) rfl (by rfl) (fun K hK => ?_)
      go_simp
      refine hK _ _ ?_
      clear hK K
      try simp only [Act.put, List.setIfInBounds_toArray, List.set_cons_zero, List.set_cons_succ]
      refine rt_done (by kernel_rfl)  ?_
      have hcF := (hcwr.trans hc78).trans cd13
      clear hs10 hs12 cd cd9 cd10 cd11 cd12 cd13 hc9 hc10 hc11 hc12 hc13 hcutM
      go_wp2_with (with_reducible first | refine stop_append ?_ | refine stop_copy ?_ | refine stop_make ?_ | refine stop_lookup ?_ | refine stop_update ?_ | refine stop_slice ?_ | refine stop_range ?_ | refine stop_next ?_ | refine stop_convert ⟨_, rfl⟩ ?_ | refine stop_convertB ⟨_, _, _, rfl⟩ ?_ | refine stop_eqSlice ⟨_, _, rfl⟩ ?_)
      go_ret
      exact ⟨rfl, hcF⟩
end Go.Proofs.Yticimjplegbagaa

