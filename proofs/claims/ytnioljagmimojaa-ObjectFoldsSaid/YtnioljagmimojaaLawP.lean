/- The store behind a transaction that was asked just before: plain laws. -/
import Derived.Test.YtnioljagmimojaaLawK
set_option linter.unusedVariables false
set_option linter.unusedSimpArgs false
namespace Go.Proofs.Ytnioljagmimojaa
open Go.RowKit Cb

theorem risB_step {l : List Int} (h : risB l = true) (k : Nat) (hk : k + 1 < l.length) : l[k] < l[k + 1] := by
  simp only [risB, Bool.and_eq_true, List.all_eq_true] at h
  have := h.1 (k + 1) (by simpa using hk)
  rw [okAt_get l (k + 1) l[k + 1] (List.getElem?_eq_getElem hk)] at this
  simp only [Bool.and_eq_true, Bool.not_eq_true', Bool.and_eq_false_iff, decide_eq_true_eq, decide_eq_false_iff_not, Nat.add_sub_cancel] at this
  rw [List.getD_eq_getElem?_getD, List.getElem?_eq_getElem (by omega)] at this
  simp at this
  omega
theorem risB_pair {l : List Int} (h : risB l = true) : l.Pairwise (· < ·) := by
  rw [List.pairwise_iff_getElem]
  intro i j hi hj hij
  induction j with
  | zero => omega
  | succ j ih =>
    have h1 := risB_step h j hj
    by_cases e : i = j
    · subst e; exact h1
    · have := ih (by omega) (by omega); omega
theorem writeS_other {cs : List (Int × (ByteArray × Int))} {ws : List (Int × ByteArray)} {f : Int} (h : ∀ x ∈ ws, x.1 ≠ f) : mget (writeS cs ws) f = mget cs f := by
  induction ws generalizing cs with
  | nil => rfl
  | cons x r ih =>
    have h1 := h x (by simp)
    have := ih (cs := mset cs x.1 (x.2, verC cs x.1 + 1)) (fun y hy => h y (by simp [hy]))
    simp only [writeS, List.foldl_cons] at this ⊢
    rw [this, mget_mset, if_neg (fun e => h1 e.symm)]
theorem writeS_get {cs : List (Int × (ByteArray × Int))} {ws : List (Int × ByteArray)} (hp : (ws.map (·.1)).Pairwise (· < ·)) (h0 : ∀ f, 0 ≤ verC cs f) : ∀ x ∈ ws, ∃ n, 1 ≤ n ∧ mget (writeS cs ws) x.1 = some (x.2, n) := by
  induction ws generalizing cs with
  | nil => simp
  | cons y r ih =>
    simp only [List.map_cons, List.pairwise_cons] at hp
    have h1 : ∀ f, 0 ≤ verC (mset cs y.1 (y.2, verC cs y.1 + 1)) f := fun f => by rw [verC_mset]; have := h0 f; have := h0 y.1; split <;> simp <;> omega
    intro x hx
    rcases List.mem_cons.1 hx with rfl | hx
    · refine ⟨verC cs x.1 + 1, by have := h0 x.1; omega, ?_⟩
      have := writeS_other (cs := mset cs x.1 (x.2, verC cs x.1 + 1)) (ws := r) (f := x.1) (fun z hz e => by have := hp.1 z.1 (List.mem_map.2 ⟨z, hz, rfl⟩); omega)
      simp only [writeS, List.foldl_cons] at this ⊢
      rw [this, mget_mset, if_pos rfl]
    · obtain ⟨n, hn, e⟩ := ih hp.2 h1 x hx
      exact ⟨n, hn, by simpa only [writeS, List.foldl_cons] using e⟩
theorem askT_fresh (s : Store) (fs : List Int) : (fs.map fun f => (f, verS s f)).any (staleB s) = false := by
  rw [List.any_eq_false]
  intro x hx
  obtain ⟨f, _, rfl⟩ := List.mem_map.1 hx
  simp [staleB]
theorem right_writes {t : Tx} (h : rightB t.1 t.2.1 t.2.2 = true) : (t.2.2.map (·.1)).Pairwise (· < ·) := by
  simp only [rightB, Bool.and_eq_true] at h
  exact risB_pair h.1.2
/-- What is asked, and added at once. -/
theorem asked_done {s : Store} {id : Int} {fs : List Int} {ws : List (Int × ByteArray)} (hc : (mget s.ids id).isSome = false) :
    addS s (askT s id fs ws) = (⟨writeS s.cs ws, mset s.ids id true, s.n + 1⟩, true) := by
  unfold addS
  rw [if_neg (by rw [show (askT s id fs ws).1 = id from rfl, hc]; simp), if_neg (by rw [show (askT s id fs ws).2.1 = fs.map (fun f => (f, verS s f)) from rfl, askT_fresh]; simp)]
  rfl
theorem asked_wrote {s : Store} {ws : List (Int × ByteArray)} {m : List (Int × Bool)} {n : Int} (hp : (ws.map (·.1)).Pairwise (· < ·)) (h0 : ∀ f, 0 ≤ verS s f) (x : Int × ByteArray) (hx : x ∈ ws) :
    valS ⟨writeS s.cs ws, m, n⟩ x.1 = x.2 ∧ 1 ≤ verS ⟨writeS s.cs ws, m, n⟩ x.1 := by
  obtain ⟨k, hk, e⟩ := writeS_get (cs := s.cs) hp h0 x hx
  simp only [valS, verS, e]
  exact ⟨rfl, hk⟩
theorem right_nil {t : Tx} (h : rightB t.1 t.2.1 t.2.2 = true) : rightB t.1 [] [] = true := by
  simp only [rightB, Bool.and_eq_true] at h ⊢
  exact ⟨⟨⟨h.1.1.1, rfl⟩, rfl⟩, rfl, rfl⟩
def updK (s : Store) (rs : List (Int × Int)) (k : Nat) : List (Int × Int) := (rs.take k).map (fun x => (x.1, verS s x.1)) ++ rs.drop k
theorem updK_len (s : Store) (rs : List (Int × Int)) (k : Nat) (hk : k ≤ rs.length) : (updK s rs k).length = rs.length := by
  simp only [updK, List.length_append, List.length_map, List.length_take, List.length_drop]; omega
theorem updK_get (s : Store) (rs : List (Int × Int)) (k : Nat) (hk : k < rs.length) (h : k < (updK s rs k).length) : (updK s rs k)[k] = rs[k] := by
  simp only [updK]
  have hl : ((rs.take k).map (fun x => (x.1, verS s x.1))).length = k := by rw [List.length_map, List.length_take]; omega
  rw [List.getElem_append_right (by omega)]
  simp only [List.getElem_drop]
  congr 1
  omega
theorem updK_set (s : Store) (rs : List (Int × Int)) (k : Nat) (hk : k < rs.length) : (updK s rs k).set k (rs[k].1, verS s rs[k].1) = updK s rs (k + 1) := by
  simp only [updK]
  have hl : ((rs.take k).map (fun x => (x.1, verS s x.1))).length = k := by rw [List.length_map, List.length_take]; omega
  rw [List.take_succ_eq_append_getElem hk, List.map_append, List.set_append_right _ _ (by omega), hl, Nat.sub_self, List.drop_eq_getElem_cons hk, List.set_cons_zero, List.append_assoc]
  rfl
theorem updK_all (s : Store) (rs : List (Int × Int)) : updK s rs rs.length = (rs.map (·.1)).map (fun f => (f, verS s f)) := by
  simp [updK, List.map_map, Function.comp_def]
end Go.Proofs.Ytnioljagmimojaa
