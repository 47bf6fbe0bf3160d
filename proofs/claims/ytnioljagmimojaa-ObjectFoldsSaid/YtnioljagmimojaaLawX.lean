/- The store behind a log, and the document's cells behind it: plain laws. -/
import Derived.Test.YtnioljagmimojaaRefK
set_option linter.unusedVariables false
set_option linter.unusedSimpArgs false
namespace Go.Proofs.Ytnioljagmimojaa
open Go.RowKit Cb

theorem endW_true (c : RCell) : ∀ (l o : List RCell), (∀ x ∈ l, c.1 < x.1) → l.foldl (stepW c) (o, true) = (o ++ l, true)
  | [], o, _ => by simp
  | x :: r, o, h => by
    have hx := h x (by simp)
    rw [List.foldl_cons, stepW_no (by simp), if_neg (by omega), endW_true c r _ (fun y hy => h y (by simp [hy]))]
    simp
theorem endW_form (c : RCell) : ∀ (l o : List RCell), (l.map (·.1)).Pairwise (· < ·) → endW c (l.foldl (stepW c) (o, false)) = o ++ l.filter (fun x => decide (x.1 < c.1)) ++ [c] ++ l.filter (fun x => decide (c.1 < x.1))
  | [], o, _ => by simp [endW]
  | x :: r, o, h => by
    simp only [List.map_cons, List.pairwise_cons] at h
    have hr : ∀ y ∈ r, x.1 < y.1 := fun y hy => h.1 y.1 (List.mem_map.2 ⟨y, hy, rfl⟩)
    by_cases h1 : x.1 < c.1
    · rw [List.foldl_cons, stepW_no (by simp; omega), if_neg (by omega), endW_form c r _ h.2]
      have h2 : ¬ c.1 < x.1 := by omega
      simp [h1, h2]
    · have hf : r.filter (fun x => decide (x.1 < c.1)) = [] := List.filter_eq_nil_iff.2 (fun y hy => by have := hr y hy; simp; omega)
      have hg : r.filter (fun x => decide (c.1 < x.1)) = r := List.filter_eq_self.2 (fun y hy => by have := hr y hy; simp; omega)
      rw [List.foldl_cons, stepW_yes ⟨rfl, by omega⟩]
      by_cases h2 : x.1 = c.1
      · rw [if_pos h2, endW_true c r _ (fun y hy => by have := hr y hy; omega)]
        simp [endW, h2, hf, hg]
      · have h3 : c.1 < x.1 := by omega
        rw [if_neg h2, endW_true c r _ (fun y hy => by have := hr y hy; omega)]
        simp [endW, h1, h3, hf, hg]
theorem written_form {l : List RCell} (h : (l.map (·.1)).Pairwise (· < ·)) (x : Int × ByteArray) : writtenL l x = l.filter (fun y => decide (y.1 < x.1)) ++ [newC l x] ++ l.filter (fun y => decide (x.1 < y.1)) := by
  unfold writtenL; rw [endW_form _ _ _ h, List.nil_append]; rfl
theorem written_sorted {l : List RCell} (h : (l.map (·.1)).Pairwise (· < ·)) (x : Int × ByteArray) : ((writtenL l x).map (·.1)).Pairwise (· < ·) := by
  rw [written_form h]
  have hp : ∀ p : RCell → Bool, ((l.filter p).map (·.1)).Pairwise (· < ·) := fun p => h.sublist (List.Sublist.map _ List.filter_sublist)
  simp only [List.map_append, List.map_cons, List.map_nil, List.append_assoc, List.singleton_append]
  rw [List.pairwise_append]
  refine ⟨hp _, ?_, ?_⟩
  · rw [List.pairwise_cons]
    refine ⟨fun a ha => ?_, hp _⟩
    obtain ⟨y, hy, rfl⟩ := List.mem_map.1 ha
    have := (List.mem_filter.1 hy).2
    simp at this; exact this
  · intro a ha b hb
    obtain ⟨y, hy, rfl⟩ := List.mem_map.1 ha
    have h1 := (List.mem_filter.1 hy).2
    simp at h1
    rcases List.mem_cons.1 hb with rfl | hb
    · exact h1
    · obtain ⟨z, hz, rfl⟩ := List.mem_map.1 hb
      have h2 := (List.mem_filter.1 hz).2
      simp at h2; omega
theorem written_find {l : List RCell} (h : (l.map (·.1)).Pairwise (· < ·)) (x : Int × ByteArray) (g : Int) :
    (writtenL l x).find? (fun y => decide (y.1 = g)) = if g = x.1 then some (newC l x) else l.find? (fun y => decide (y.1 = g)) := by
  rw [written_form h]
  have e1 : ∀ (p : Int → Bool), (l.filter (fun y => p y.1)).find? (fun y => decide (y.1 = g)) = if p g = true then l.find? (fun y => decide (y.1 = g)) else none := fun p => by
    rw [List.find?_filter]
    by_cases hp : p g = true
    · rw [if_pos hp]
      congr 1; funext y
      by_cases hy : y.1 = g
      · simp [hy, hp]
      · simp [hy]
    · rw [if_neg hp]
      rw [List.find?_eq_none]
      intro y _
      by_cases hy : y.1 = g
      · simp [hy, hp]
      · simp [hy]
  rw [List.append_assoc, List.find?_append, List.singleton_append, List.find?_cons]
  have e2 := e1 (fun n => decide (n < x.1))
  have e3 := e1 (fun n => decide (x.1 < n))
  rw [e2, e3]
  by_cases hg : g = x.1
  · simp [hg, newC]
  · rw [if_neg hg]
    have hg' : ¬ (newC l x).1 = g := fun e => hg e.symm
    simp only [hg', decide_false]
    by_cases h1 : g < x.1
    · have h2 : ¬ x.1 < g := by omega
      simp [h1, h2]
    · have h2 : x.1 < g := by omega
      simp [h1, h2]
def toC (x : RCell) : ByteArray × Int := (x.2.2, x.2.1)
structure RL (l : List RCell) (cs : List (Int × (ByteArray × Int))) : Prop where
  sorted : (l.map (·.1)).Pairwise (· < ·)
  get : ∀ f, mget cs f = (l.find? (fun y => decide (y.1 = f))).map toC
theorem RL.ver {l : List RCell} {cs : List (Int × (ByteArray × Int))} (h : RL l cs) (f : Int) : verC cs f = (getL l f).2.1 := by
  unfold verC getL; rw [h.get]; cases l.find? (fun y => decide (y.1 = f)) <;> rfl
theorem RL.val {l : List RCell} {s : Store} (h : RL l s.cs) (f : Int) : valS s f = (getL l f).2.2 := by
  unfold valS getL; rw [h.get]; cases l.find? (fun y => decide (y.1 = f)) <;> rfl
theorem RL.put {l : List RCell} {cs : List (Int × (ByteArray × Int))} (h : RL l cs) (x : Int × ByteArray) : RL (writtenL l x) (mset cs x.1 (x.2, verC cs x.1 + 1)) :=
  ⟨written_sorted h.sorted x, fun f => by
    rw [mget_mset, written_find h.sorted, h.ver]
    split
    · rfl
    · exact h.get f⟩
theorem RL.puts {l : List RCell} {cs : List (Int × (ByteArray × Int))} (h : RL l cs) (ws : List (Int × ByteArray)) : RL (ws.foldl writtenL l) (writeS cs ws) := by
  induction ws generalizing l cs with
  | nil => exact h
  | cons x r ih => exact ih (h.put x)
theorem mem_keys {cs : List (Int × (ByteArray × Int))} {f : Int} : f ∈ cs.map (·.1) ↔ (mget cs f).isSome = true := by
  unfold mget
  rw [Option.isSome_map, List.find?_isSome]
  simp only [decide_eq_true_eq, List.mem_map]
theorem RL.fields {l : List RCell} {s : Store} (h : RL l s.cs) (hn : (s.cs.map (·.1)).Nodup) : fieldsS s = l.map (·.1) := by
  have hp : (s.cs.map (·.1)).Perm (l.map (·.1)) := by
    refine (List.perm_ext_iff_of_nodup hn (h.sorted.imp (fun h => by omega))).2 (fun f => ?_)
    rw [mem_keys, h.get, Option.isSome_map, List.find?_isSome]
    simp only [decide_eq_true_eq, List.mem_map]
  unfold fieldsS
  rw [sort_eq hp]
  have tr : ∀ a b c : Int, decide (a ≤ b) = true → decide (b ≤ c) = true → decide (a ≤ c) = true := fun a b c h1 h2 => by simp only [decide_eq_true_eq] at *; omega
  have to : ∀ a b : Int, (decide (a ≤ b) || decide (b ≤ a)) = true := fun a b => by simp; omega
  exact List.Perm.eq_of_pairwise (le := fun a b => decide (a ≤ b) = true) (fun a b _ _ h1 h2 => by simp only [decide_eq_true_eq] at h1 h2; omega) (List.pairwise_mergeSort tr to _) (h.sorted.imp (fun h => by simp only [decide_eq_true_eq]; omega)) (List.mergeSort_perm _ _)
theorem cameP_iff (id : Int) (d : ByteArray) : cameP id d = true ↔ ∃ t, parseR d.data.toList = some t ∧ t.1 = id := by
  unfold cameP parseE parseO
  cases h : parseR d.data.toList with
  | none => simp
  | some t => simp
theorem came_step (s : Store) (d : ByteArray) (id : Int) : (mget (addD s d).1.ids id).isSome = ((mget s.ids id).isSome || cameP id d) := by
  cases hp : parseR d.data.toList with
  | none =>
    have h1 : cameP id d = false := by
      cases hc : cameP id d
      · rfl
      · obtain ⟨t, ht, _⟩ := (cameP_iff id d).1 hc; rw [hp] at ht; cases ht
    unfold addD; rw [hp, h1]; simp
  | some t =>
    by_cases e : t.1 = id
    · have h1 : cameP id d = true := (cameP_iff id d).2 ⟨t, hp, e⟩
      unfold addD; rw [hp, h1, Bool.or_true, ← e]; exact came_self s t
    · have h1 : cameP id d = false := by
        cases hc : cameP id d
        · rfl
        · obtain ⟨t', ht, e'⟩ := (cameP_iff id d).1 hc; rw [hp] at ht; cases ht; exact absurd e' e
      have e' : ¬ id = t.1 := fun h => e h.symm
      unfold addD; rw [hp, h1, Bool.or_false]
      show (mget (addS s t).1.ids id).isSome = _
      unfold addS
      split
      · rfl
      · split
        · show (mget (mset s.ids t.1 false) id).isSome = _
          rw [mget_mset, if_neg e']
        · show (mget (mset s.ids t.1 true) id).isSome = _
          rw [mget_mset, if_neg e']
theorem came_list (xs : List ByteArray) : ∀ (s : Store) (id : Int), (mget (addAll s xs).ids id).isSome = ((mget s.ids id).isSome || xs.any (cameP id)) := by
  induction xs with
  | nil => intro s id; simp [addAll]
  | cons x r ih =>
    intro s id
    show (mget (addAll (addD s x).1 r).ids id).isSome = _
    rw [ih, came_step, List.any_cons, Bool.or_assoc]
theorem cameL_ge (xs : List ByteArray) (id : Int) : decide (0 ≤ cameL xs id) = xs.any (cameP id) := by
  unfold cameL
  cases h : xs.findIdx? (cameP id) with
  | none =>
    have := List.findIdx?_eq_none_iff.1 h
    rw [List.any_eq_false.2 (fun x hx => by simp [this x hx])]; simp
  | some i =>
    obtain ⟨hi, hc, _⟩ := List.findIdx?_eq_some_iff_getElem.1 h
    rw [List.any_eq_true.2 ⟨_, List.getElem_mem hi, hc⟩]; simp
theorem cameL_eq {xs : List ByteArray} {k : Nat} (hk : k < xs.length) {id : Int} (hc : cameP id xs[k] = true) : (cameL xs id = k) ↔ (mget (addAll s0 (xs.take k)).ids id).isSome = false := by
  rw [came_list, show (mget s0.ids id).isSome = false from rfl, Bool.false_or]
  constructor
  · intro h
    unfold cameL at h
    cases hf : xs.findIdx? (cameP id) with
    | none => rw [hf] at h; simp at h
    | some i =>
      rw [hf] at h
      have : i = k := by simp only at h; omega
      subst this
      obtain ⟨_, _, hn⟩ := List.findIdx?_eq_some_iff_getElem.1 hf
      rw [List.any_eq_false]
      intro x hx
      obtain ⟨j, hj, rfl⟩ := List.mem_take_iff_getElem.1 hx
      exact by simpa using hn j (by omega)
  · intro h
    exact cameL_at hk (fun x hx => by have := List.any_eq_false.1 h x hx; simpa using this) hc
end Go.Proofs.Ytnioljagmimojaa
