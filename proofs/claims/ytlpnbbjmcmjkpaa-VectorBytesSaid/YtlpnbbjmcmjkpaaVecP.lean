/- Vectors in plain words: laws of the greater, the lesser, the difference. -/
import Derived.Test.YtlpnbbjmcmjkpaaVecB
set_option linter.unusedVariables false
set_option linter.unusedSimpArgs false
namespace Go.Proofs.Ytlpnbbjmcmjkpaa
open Go.RowKit Cb

def PairOut (r : Option (List Int)) (w : World) (e : Ending) (w' : World) : Prop :=
  ∃ A c, e = .returned (.tuple #[.slice A (r.getD []).length c, .bool r.isSome]) ∧ Sl No w' (.slice A (r.getD []).length c) (r.getD []) ∧ Chg No w w'
theorem pair_out {r : Option (List Int)} {w w' : World} {e : Ending} (h : PairPost r w e w') : PairOut r w e w' := by
  obtain ⟨hc, ⟨z, rfl, v, rfl, hs⟩ | ⟨rfl, rfl⟩⟩ := h
  · obtain ⟨A, c, rfl⟩ := hs.slice
    exact ⟨A, c, rfl, hs.no, hc⟩
  · exact ⟨none, 0, rfl, Sl.nil _ _ _ _, hc⟩
theorem kind_iff {a b : List Int} : kindB a b = true ↔ vright a = true ∧ vright b = true ∧ a.length = b.length := by
  simp [kindB, and_assoc]
theorem both_some (f : Int → Int → Int) (a b : List Int) : (bothF f a b).isSome = kindB a b := by unfold bothF; split <;> simp_all
theorem both_yes {f : Int → Int → Int} {a b : List Int} (h : kindB a b = true) : bothF f a b = some (List.zipWith f a b) := by simp [bothF, h]
theorem both_no {f : Int → Int → Int} {a b : List Int} (h : kindB a b = false) : bothF f a b = none := by simp [bothF, h]
theorem zip_right {f : Int → Int → Int} {a b : List Int} (h : kindB a b = true) (hf : ∀ i (h : i < a.length) (h' : i < b.length), 0 ≤ f a[i] b[i] ∧ f a[i] b[i] ≤ 1099511627776) : vright (List.zipWith f a b) = true ∧ (List.zipWith f a b).length = a.length := by
  obtain ⟨ha, hb, hl⟩ := kind_iff.1 h
  obtain ⟨a1, a2, a3⟩ := vright_iff.1 ha
  have hlen : (List.zipWith f a b).length = a.length := by simp; omega
  refine ⟨vright_iff.2 ⟨by omega, by omega, fun n hn => ?_⟩, hlen⟩
  obtain ⟨i, hi, rfl⟩ := List.mem_iff_getElem.1 hn
  rw [List.getElem_zipWith]
  exact hf i (by omega) (by omega)
theorem right_at {a : List Int} (h : vright a = true) (i : Nat) (hi : i < a.length) : 0 ≤ a[i] ∧ a[i] ≤ 1099511627776 := (vright_iff.1 h).2.2 _ (List.getElem_mem hi)
theorem max_right {a b : List Int} (h : kindB a b = true) : vright (List.zipWith max a b) = true ∧ (List.zipWith max a b).length = a.length :=
  zip_right h (fun i h1 h2 => by
    have := right_at (kind_iff.1 h).1 i h1
    have := right_at (kind_iff.1 h).2.1 i h2
    omega)
theorem min_right {a b : List Int} (h : kindB a b = true) : vright (List.zipWith min a b) = true ∧ (List.zipWith min a b).length = a.length :=
  zip_right h (fun i h1 h2 => by
    have := right_at (kind_iff.1 h).1 i h1
    have := right_at (kind_iff.1 h).2.1 i h2
    omega)
theorem zip_assoc (a b c : List Int) : List.zipWith max (List.zipWith max a b) c = List.zipWith max a (List.zipWith max b c) := by
  apply List.ext_getElem
  · simp only [List.length_zipWith]; omega
  · intro i h1 h2
    simp only [List.getElem_zipWith]
    omega
theorem zip_comm (a b : List Int) : List.zipWith min a b = List.zipWith min b a := by
  apply List.ext_getElem
  · simp only [List.length_zipWith]; omega
  · intro i h1 h2
    simp only [List.getElem_zipWith]
    omega
theorem covers_at {a b : List Int} : coversB a b = true ↔ kindB a b = true ∧ ∀ i (h : i < a.length) (h' : i < b.length), b[i] ≤ a[i] := by
  rw [covers_iff, kind_iff, geq_iff]
  constructor
  · rintro ⟨h1, h2, h3, h4⟩; exact ⟨⟨h1, h2, h3⟩, h4⟩
  · rintro ⟨⟨h1, h2, h3⟩, h4⟩; exact ⟨h1, h2, h3, h4⟩
theorem kind_mk {a b : List Int} (ha : vright a = true) (hb : vright b = true) (hl : a.length = b.length) : kindB a b = true := kind_iff.2 ⟨ha, hb, hl⟩
/-- What the statement Bounds asks. -/
theorem bounds {a b : List Int} (h : kindB a b = true) :
    coversB (List.zipWith max a b) a = true ∧ coversB (List.zipWith max a b) b = true ∧ coversB a (List.zipWith min a b) = true ∧ coversB b (List.zipWith min a b) = true := by
  obtain ⟨h1, h2, h3⟩ := kind_iff.1 h
  obtain ⟨m1, m2⟩ := max_right h
  obtain ⟨n1, n2⟩ := min_right h
  refine ⟨covers_at.2 ⟨kind_mk m1 h1 m2, fun i hi hi' => ?_⟩, covers_at.2 ⟨kind_mk m1 h2 (by omega), fun i hi hi' => ?_⟩, covers_at.2 ⟨kind_mk h1 n1 (by omega), fun i hi hi' => ?_⟩, covers_at.2 ⟨kind_mk h2 n1 (by omega), fun i hi hi' => ?_⟩⟩ <;>
    rw [List.getElem_zipWith] <;> omega
theorem bounds_up {a b c : List Int} (h : kindB a b = true) (h1 : coversB c a = true) (h2 : coversB c b = true) : coversB c (List.zipWith max a b) = true := by
  obtain ⟨m1, m2⟩ := max_right h
  obtain ⟨k1, g1⟩ := covers_at.1 h1
  obtain ⟨k2, g2⟩ := covers_at.1 h2
  obtain ⟨c1, _, l1⟩ := kind_iff.1 k1
  obtain ⟨_, _, l2⟩ := kind_iff.1 k2
  refine covers_at.2 ⟨kind_mk c1 m1 (by omega), fun i hi hi' => ?_⟩
  rw [List.getElem_zipWith]
  have := g1 i hi (by omega)
  have := g2 i hi (by omega)
  omega
theorem bounds_down {a b c : List Int} (h : kindB a b = true) (h1 : coversB a c = true) (h2 : coversB b c = true) : coversB (List.zipWith min a b) c = true := by
  obtain ⟨m1, m2⟩ := min_right h
  obtain ⟨k1, g1⟩ := covers_at.1 h1
  obtain ⟨k2, g2⟩ := covers_at.1 h2
  obtain ⟨_, c1, l1⟩ := kind_iff.1 k1
  obtain ⟨_, _, l2⟩ := kind_iff.1 k2
  refine covers_at.2 ⟨kind_mk m1 c1 (by omega), fun i hi hi' => ?_⟩
  rw [List.getElem_zipWith]
  have := g1 i (by omega) hi'
  have := g2 i (by omega) hi'
  omega
theorem sum_zip (f g : Int → Int → Int) : ∀ (a b : List Int), a.length = b.length → (∀ x y, f x y + g x y = x + y) → (List.zipWith f a b).sum + (List.zipWith g a b).sum = a.sum + b.sum
  | [], [], _, _ => by simp
  | x :: a, y :: b, h, hf => by
    have := sum_zip f g a b (by simpa using h) hf
    have := hf x y
    simp only [List.zipWith_cons_cons, List.sum_cons]
    omega
  | [], _ :: _, h, _ => by simp at h
  | _ :: _, [], h, _ => by simp at h
theorem total_eq {a : List Int} (h : vright a = true) : total a = a.sum := by simp [total, h]
theorem bounds_total {a b : List Int} (h : kindB a b = true) : total (List.zipWith max a b) + total (List.zipWith min a b) = total a + total b := by
  obtain ⟨h1, h2, h3⟩ := kind_iff.1 h
  rw [total_eq (max_right h).1, total_eq (min_right h).1, total_eq h1, total_eq h2]
  exact sum_zip max min a b h3 (fun x y => by omega)
theorem sum_sub : ∀ (a b : List Int), a.length = b.length → (List.zipWith (· - ·) a b).sum = a.sum - b.sum
  | [], [], _ => by simp
  | x :: a, y :: b, h => by
    have := sum_sub a b (by simpa using h)
    simp only [List.zipWith_cons_cons, List.sum_cons]
    omega
  | [], _ :: _, h => by simp at h
  | _ :: _, [], h => by simp at h
theorem gain_right {a b : List Int} (h : coversB a b = true) : vright (List.zipWith (· - ·) a b) = true ∧ (List.zipWith (· - ·) a b).length = a.length := by
  obtain ⟨k, g⟩ := covers_at.1 h
  obtain ⟨h1, h2, h3⟩ := kind_iff.1 k
  exact zip_right k (fun i hi hi' => by
    have := g i hi hi'
    have := right_at h1 i hi
    have := right_at h2 i hi'
    omega)
theorem gain_total {a b : List Int} (h : coversB a b = true) : total (List.zipWith (· - ·) a b) = total a - total b := by
  obtain ⟨k, _⟩ := covers_at.1 h
  obtain ⟨h1, h2, h3⟩ := kind_iff.1 k
  rw [total_eq (gain_right h).1, total_eq h1, total_eq h2]
  exact sum_sub a b h3
theorem total_bound (a : List Int) : 0 ≤ total a ∧ total a ≤ 8796093022208 := by
  unfold total
  split
  · exact vright_sum ‹_›
  · omega
end Go.Proofs.Ytlpnbbjmcmjkpaa
