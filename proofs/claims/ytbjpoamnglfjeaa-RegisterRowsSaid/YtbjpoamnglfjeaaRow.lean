/- Arguments, opened: rows of pairs. They speak of no program. -/
import Derived.Test.YtbjpoamnglfjeaaAux
import Derived.Deep.SlicePairs
import Derived.Carry
import Derived.SizedLaws
import Derived.SliceStrings
set_option linter.unusedVariables false
namespace Cb
open Go Go.Deep Go.ChangeShapes Go.WideShapes
section
variable {H : Type} {enc : TypeId × Value → H} {P : Program} {w : World} {base : Nat} {spare : Nat → Bool} {held : Bool}
theorem add_plain' (b off n : Nat) : (⟨b, off, none⟩ : Addr).add n = ⟨b, off + n, none⟩ := by
  unfold Addr.add; by_cases h : n = 0 <;> simp [h]
/-- A row of pairs of which each half has a plain value. -/
theorem open_rows {α β : Type} [Rep α] [Rep β] (ra : α → Value) (rb : β → Value) (hn : Rep.n (α × β) = 2) (hcs : ∀ (w : World) (x : α × β), Rep.cs No w x [ra x.1, rb x.2]) {t e : TypeId} {f0 f1 : Field} {fuel : Nat} {v : Value} {x : DataW H × List MemPlace} (ht : P.underlying t = some (.slice e)) (he : P.underlying e = some (.struct #[f0, f1]))
    (ce : P.cellsOf e = 2) (o0 : f0.offset = 0) (o1 : f1.offset = 1) (c0 : P.cellsOf f0.type = 1) (c1 : P.cellsOf f1.type = 1)
    (h0 : ∀ n u y, DataW.trod enc P w base spare held n f0.type [u] = some y → ∃ a, u = ra a) (h1 : ∀ n u y, DataW.trod enc P w base spare held n f1.type [u] = some y → ∃ a, u = rb a)
    (h : DataW.trod enc P w base spare held fuel t [v] = some x) : ∃ rs : List (α × β), Sl No w v rs ∧ rs.length ≤ maxLen ∧ (rs = [] ∨ ∃ es sp, x.1 = .slice es sp ∧ rs.length ≤ es.length) := by
  rcases open_slice_pairs ht he ce o0 o1 c0 c1 h with ⟨hv, _⟩ | ⟨a, len, cap, m, n, V0, V1, D0, D1, P0, P1, hv, _, hl, hm, hmm, hxx, hx⟩
  · simp only [List.cons.injEq, and_true] at hv
    subst hv
    exact ⟨[], Sl.nil _ _ _ _, by simp, .inl rfl⟩
  · simp only [List.cons.injEq, and_true] at hv
    subst hv
    have hlm : len ≤ m := by rw [hmm]; split <;> omega
    by_cases hl0 : len = 0
    · subst hl0; exact ⟨[], Sl.nil _ _ _ _, by simp, .inl rfl⟩
    · have each : ∀ i, i < m → ∃ q : α × β, V0 i = ra q.1 ∧ V1 i = rb q.2 := fun i hi => by
        obtain ⟨_, _, g0, g1⟩ := hx i hi
        obtain ⟨a0, e0⟩ := h0 _ _ _ g0
        obtain ⟨a1, e1⟩ := h1 _ _ _ g1
        exact ⟨(a0, a1), e0, e1⟩
      obtain ⟨q0, _⟩ := each 0 (by omega)
      haveI : Inhabited (α × β) := ⟨q0⟩
      obtain ⟨q, hq⟩ := choose_lt each
      obtain ⟨b, off, spot⟩ := a
      have hspot : spot = none := by simpa [Addr.add] using World.cell?_spot (hx 0 (by omega)).1
      subst hspot
      have hlen : ((List.range len).map q).length = len := by simp
      have hb : b < w.heap.size := by
        have := World.block_lt_of_cell? w _ (hx 0 (by omega)).1
        rw [add_plain'] at this; exact this
      refine ⟨(List.range len).map q, ⟨some ⟨b, off, none⟩, cap, by rw [hlen], by rw [hlen]; exact hl, .inr ⟨b, off, rfl, not_no _, hb, fun i hi => ?_⟩⟩, by rw [hlen]; omega, .inr ⟨_, _, by rw [hxx], by simp⟩⟩
      rw [hlen] at hi
      obtain ⟨k0, k1, _, _⟩ := hx i (by omega)
      obtain ⟨e0, e1⟩ := hq i (by omega)
      refine ⟨[ra (q i).1, rb (q i).2], by rw [List.getElem_map, List.getElem_range]; exact hcs w (q i), fun j u hu => ?_⟩
      rw [add_plain', e0] at k0
      rw [add_plain', e1] at k1
      rw [hn]
      match j, hu with
      | 0, hu => simp at hu; subst hu; exact k0
      | 1, hu => simp at hu; subst hu; exact k1
/-- What lies in a struct that is handed in is as bounded as what is handed in. -/
theorem sized_struct {ts : List TypeId} {ds parts : List (DataW H)} (h : (DataW.weightsEach P ts ds).all (· ≤ reachBytes) = true) {j : Nat} {t : TypeId} {fs : Array Field} (ht : ts[j]? = some t) (hd : ds[j]? = some (.agg parts)) (hu : P.underlying t = some (.struct fs)) :
    (DataW.weightsEach P (fs.toList.map (·.type)) parts).all (· ≤ reachBytes) = true := by
  refine List.all_eq_true.2 fun n hn => List.all_eq_true.1 h n (DataW.weights_mem_each ht hd n ?_)
  simp only [DataW.weights, hu]
  exact hn
theorem sized_rows {α : Type} {ts : List TypeId} {ds : List (DataW H)} {rs : List α} {j : Nat} {t e : TypeId} {x : DataW H} (h : (DataW.weightsEach P ts ds).all (· ≤ reachBytes) = true) (ht : ts[j]? = some t) (hd : ds[j]? = some x) (hu : P.underlying t = some (.slice e))
    (hx : rs = [] ∨ ∃ es sp, x = .slice es sp ∧ rs.length ≤ es.length) : rs.length * P.bytesOf e ≤ reachBytes := by
  rcases hx with rfl | ⟨es, sp, rfl, hl⟩
  · simp
  · have h1 := sized_slice h ht hd hu
    exact Nat.le_trans (Nat.mul_le_mul_right _ (by omega)) h1
/-- A row of strings. -/
theorem open_texts {t e : TypeId} {fuel : Nat} {v : Value} {x : DataW H × List MemPlace} (ht : P.underlying t = some (.slice e)) (he : P.underlying e = some .string) (hc : P.cellsOf e = 1)
    (h : DataW.trod enc P w base spare held fuel t [v] = some x) : ∃ ss : List ByteArray, Sl No w v ss ∧ (ss = [] ∨ ∃ sp, x.1 = .slice (strs ss) sp) := by
  rcases open_strings ht he hc h with ⟨hv, _⟩ | ⟨a, len, cap, ss, hv, _, hl, hm, hss, hxx, hx, _⟩
  · simp only [List.cons.injEq, and_true] at hv
    subst hv
    exact ⟨[], Sl.nil _ _ _ _, .inl rfl⟩
  · simp only [List.cons.injEq, and_true] at hv
    subst hv
    have hlm : len ≤ ss.length := by rw [hss]; split <;> omega
    by_cases hl0 : len = 0
    · subst hl0; exact ⟨[], Sl.nil _ _ _ _, .inl rfl⟩
    · obtain ⟨b, off, spot⟩ := a
      have hspot : spot = none := by simpa [Addr.add] using World.cell?_spot (hx 0 (by omega))
      subst hspot
      have hb : b < w.heap.size := by
        have := World.block_lt_of_cell? w _ (hx 0 (by omega))
        rw [add_plain'] at this; exact this
      have hlen : (ss.take len).length = len := by rw [List.length_take]; omega
      refine ⟨ss.take len, ⟨some ⟨b, off, none⟩, cap, by rw [hlen], by rw [hlen]; exact hl, .inr ⟨b, off, rfl, not_no _, hb, fun i hi => ?_⟩⟩, .inr ⟨_, by rw [hxx]⟩⟩
      rw [hlen] at hi
      have k0 := hx i (by omega)
      rw [add_plain'] at k0
      refine ⟨[.string ((ss.take len)[i]'(by rw [hlen]; exact hi))], rfl, fun j u hu => ?_⟩
      match j, hu with
      | 0, hu =>
        simp at hu; subst hu
        simp only [show Rep.n ByteArray = 1 from rfl, Nat.mul_one, Nat.add_zero]
        rw [k0, List.getD_eq_getElem?_getD, List.getElem?_eq_getElem (by omega)]; rfl
theorem mem_weightsAll {e : TypeId} {d : DataW H} {n : Nat} (hn : n ∈ d.weights P e) : ∀ {l : List (DataW H)}, d ∈ l → n ∈ DataW.weightsAll P e l
  | _ :: l, h => by
    simp only [DataW.weightsAll, List.mem_append]
    rcases List.mem_cons.1 h with rfl | h
    · exact .inl hn
    · exact .inr (mem_weightsAll hn h)
theorem sized_texts {ts : List TypeId} {ds : List (DataW H)} {ss : List ByteArray} {j : Nat} {t e : TypeId} {x : DataW H} (h : (DataW.weightsEach P ts ds).all (· ≤ reachBytes) = true) (ht : ts[j]? = some t) (hd : ds[j]? = some x) (hu : P.underlying t = some (.slice e))
    (hx : ss = [] ∨ ∃ sp, x = .slice (strs ss) sp) : ss.length * P.bytesOf e ≤ reachBytes ∧ ∀ s ∈ ss, s.size ≤ reachBytes := by
  rcases hx with rfl | ⟨sp, rfl⟩
  · simp
  · have h1 := sized_slice h ht hd hu
    refine ⟨Nat.le_trans (Nat.mul_le_mul_right _ (by simp [strs])) h1, fun s hs => ?_⟩
    have h2 : s.data.toList.length ∈ (DataW.slice (strs ss) sp : DataW H).weights P t := by
      simp only [DataW.weights, hu, List.mem_cons, List.mem_append]
      right; left
      exact mem_weightsAll (d := .lit (.string s.data.toList)) (by simp [DataW.weights]) (by simp only [strs, List.mem_map]; exact ⟨s, hs, rfl⟩)
    have h3 := List.all_eq_true.1 h _ (DataW.weights_mem_each ht hd _ h2)
    simp only [decide_eq_true_eq] at h3
    have h5 : s.data.toList.length = s.size := by rw [Array.length_toList]; rfl
    omega
/-- A new row of no values. -/
theorem Own.made0 {α : Type} [Rep α] (F : Nat → Prop) (w : World) (T : TypeId) : Own F (w.alloc (.cells #[] T)) w.heap.size T (.slice (some ⟨w.heap.size, 0, none⟩) 0 0) ([] : List α) :=
  ⟨[], rfl, fun _ h => absurd h (by simp), by simp, .inr ⟨_, 0, #[], rfl, Nat.le_refl _, alloc_obj _ _, by simp, by simp [maxLen], by simp, by simp⟩⟩
theorem flatten_set2 {ds : List (List Value)} (hd : ∀ d ∈ ds, ∃ x y : Value, d = [x, y]) (k : Nat) (x y u : Value) (hk : ds[k]? = some [x, y]) : ds.flatten.set (k * 2 + 1) u = (ds.set k [x, u]).flatten := by
  induction ds generalizing k with
  | nil => simp at hk
  | cons d r ih =>
    cases k with
    | zero => simp only [List.getElem?_cons_zero, Option.some.injEq] at hk; subst hk; rfl
    | succ k =>
      obtain ⟨a, b, rfl⟩ := hd d (by simp)
      simp only [List.getElem?_cons_succ] at hk
      have := ih (fun d hd' => hd d (by simp [hd'])) k hk
      rw [show (k + 1) * 2 + 1 = (k * 2 + 1) + 1 + 1 by omega]
      simp only [List.flatten_cons, List.cons_append, List.nil_append, List.set_cons_succ, this]
/-- A number of a row of pairs of the call's own is written. -/
theorem Own.set2 {F : Nat → Prop} {w : World} {base : Nat} {T : TypeId} {v : Value} {xs : List (Int × Int)} (h : Own F w base T v xs) (k : Nat) (hk : k < xs.length) {b : Nat} (hb : v.ownBlock = some b) (u : Int) :
    Own F (w.setCell ⟨b, k * 2 + 1, none⟩ (.int .i64 u)) base T v (xs.set k (xs[k].1, u)) ∧ w.frozen? ⟨b, k * 2 + 1, none⟩ = false ∧ (∃ z, w.cell? ⟨b, k * 2 + 1, none⟩ = some z) := by
  obtain ⟨ds, hl, hd, ho1, ho2⟩ := h
  have hcell : ∀ i (h : i < xs.length) (h' : i < ds.length), ds[i] = [.int .i64 xs[i].1, .int .i64 xs[i].2] := fun i hi hi' => by
    obtain ⟨a, c, e, rfl, rfl⟩ := hd i hi hi'
    rw [e]; rfl
  have hall : ∀ d ∈ ds, ∃ x y : Value, d = [x, y] := fun d hd' => by
    obtain ⟨i, hi, rfl⟩ := List.mem_iff_getElem.1 hd'
    exact ⟨_, _, hcell i (by omega) hi⟩
  have hkd : ds[k]? = some [.int .i64 xs[k].1, .int .i64 xs[k].2] := by rw [List.getElem?_eq_getElem (by omega), hcell k hk (by omega)]
  rcases ho2 with ⟨rfl, h0⟩ | ⟨g, cap, cur, rfl, hbg, hg, hnc, hm, hs, ht⟩
  · omega
  · obtain rfl : g = b := by simpa [Value.ownBlock] using hb
    have hsz : k * 2 + 1 < cur.size := by rw [hs, show Rep.n (Int × Int) = 2 from rfl]; omega
    refine ⟨⟨ds.set k [.int .i64 xs[k].1, .int .i64 u], by simpa using hl, fun i hi hi' => ?_, ?_, .inr ⟨g, cap, cur.setIfInBounds (k * 2 + 1) (.int .i64 u), by simp, hbg, set_obj hg _, by simpa using hnc, hm, by simpa using hs, ?_⟩⟩, free_obj hg, _, cell_obj hg (Array.getElem?_eq_getElem hsz)⟩
    · rw [List.getElem_set, List.getElem_set]
      by_cases e : k = i
      · subst e; rw [if_pos rfl, if_pos rfl]; exact ⟨[_], [_], rfl, rfl, rfl⟩
      · rw [if_neg e, if_neg e]
        have hi2 : i < xs.length := by simpa using hi
        rw [hcell i hi2 (by omega)]
        exact ⟨[_], [_], rfl, rfl, rfl⟩
    · rw [← flatten_set2 hall k _ _ _ hkd, List.length_set, List.length_set, ho1]
    · rw [← flatten_set2 hall k _ _ _ hkd, ← ht, List.length_set, Array.toList_setIfInBounds, List.take_set]
theorem Own.addr {α : Type} [Rep α] {F : Nat → Prop} {w : World} {base : Nat} {T : TypeId} {A : Option Addr} {n c : Nat} {xs : List α} (h : Own F w base T (.slice A n c) xs) (hx : 0 < xs.length) : ∃ g, A = some ⟨g, 0, none⟩ ∧ base ≤ g ∧ g < w.heap.size := by
  obtain ⟨ds, _, _, ho⟩ := h
  rcases ho.2 with ⟨e, h0⟩ | ⟨g, cap, cur, e, hb, hg, _⟩
  · omega
  · cases e; exact ⟨g, rfl, hb, lt_of_heap hg⟩
theorem Own.get2 {F : Nat → Prop} {w : World} {base : Nat} {T : TypeId} {g n c : Nat} {xs : List (Int × Int)} (h : Own F w base T (.slice (some ⟨g, 0, none⟩) n c) xs) (k : Nat) (hk : k < xs.length) :
    w.cell? ⟨g, k * 2, none⟩ = some (.int .i64 xs[k].1) ∧ w.cell? ⟨g, k * 2 + 1, none⟩ = some (.int .i64 xs[k].2) := by
  obtain ⟨b, o, d, e, _, _, ⟨_, _, rfl, rfl, rfl⟩, ha⟩ := (h.slFlat (G := No) (fun _ _ => not_no _)).get k hk
  cases e
  have h0 := ha 0 _ rfl
  have h1 := ha 1 _ rfl
  simp only [show Rep.n (Int × Int) = 2 from rfl, Nat.add_zero, Nat.zero_add] at h0 h1
  exact ⟨h0, h1⟩
end
end Cb
