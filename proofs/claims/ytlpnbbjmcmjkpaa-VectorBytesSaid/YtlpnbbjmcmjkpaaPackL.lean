/- Plain laws: numbers that are written are read as they were, by the program's reader and by the document's. No program in sight. -/
import Derived.Test.YtlpnbbjmcmjkpaaPackT
import Derived.Test.YtlpnbbjmcmjkpaaRefT
set_option linter.unusedVariables false
set_option linter.unusedSimpArgs false
namespace Go.Proofs.Ytlpnbbjmcmjkpaa
open Go.RowKit Cb

theorem ofNat_toNat (m : Nat) (h : m < 256) : (UInt8.ofNat m).toNat = m := by simp [UInt8.toNat_ofNat']; omega
theorem encNat_pos (m : Nat) : 0 < (encNat m).length := by rw [encNat]; split <;> simp
theorem numGo_enc (limit : Int) (rest : List UInt8) (m : Nat) : ∀ k n, n + m * 128 ^ k ≤ 4611686018427387904 → ((n + m * 128 ^ k : Nat) : Int) ≤ limit → (k = 0 ∨ 0 < m) → k + (encNat m).length ≤ 9 →
    numGo limit k n (encNat m ++ rest) = (((n + m * 128 ^ k : Nat) : Int), rest, 0) := by
  induction m using Nat.strongRecOn with
  | ind m ih =>
    intro k n h62 hlim hk hlen
    by_cases hlt : m < 128
    · rw [encNat_lt m hlt]
      simp only [List.cons_append, List.nil_append, numGo]
      rw [ofNat_toNat m (by omega), if_neg (by omega), if_pos hlt, Nat.mod_eq_of_lt hlt, if_neg (by omega)]
    · have hge : 128 ≤ m := by omega
      rw [encNat_ge m hge] at hlen ⊢
      have := encNat_pos (m / 128)
      simp only [List.length_cons] at hlen
      simp only [List.cons_append, numGo]
      rw [ofNat_toNat _ (by omega), if_neg (by omega), if_neg (by omega)]
      have e1 : (m % 128 + 128) % 128 = m % 128 := by omega
      have e2 : n + m % 128 * 128 ^ k + m / 128 * 128 ^ (k + 1) = n + m * 128 ^ k := by
        rw [Nat.pow_succ, Nat.mul_comm (128 ^ k) 128, ← Nat.mul_assoc, Nat.add_assoc, ← Nat.add_mul]
        congr 2; omega
      rw [e1, ih (m / 128) (by omega) (k + 1) _ (by rw [e2]; exact h62) (by rw [e2]; exact hlim) (by omega) (by omega), e2]
theorem numGo_inv (limit : Int) (bs : List UInt8) : ∀ k n v rest, numGo limit k n bs = (v, rest, 0) →
    ∃ m : Nat, bs = encNat m ++ rest ∧ v = ((n + m * 128 ^ k : Nat) : Int) ∧ (k = 0 ∨ 0 < m) ∧ n + m * 128 ^ k ≤ 4611686018427387904 ∧ v ≤ limit := by
  induction bs with
  | nil => intro k n v rest h; simp [numGo] at h
  | cons x bs ih =>
    intro k n v rest h
    have hx := x.toNat_lt
    simp only [numGo] at h
    split at h
    · simp at h
    · rename_i h1
      split at h
      · rename_i h2
        split at h
        · simp at h
        · rename_i h3
          simp only [Prod.mk.injEq, and_true] at h
          obtain ⟨rfl, rfl⟩ := h
          have hm : x.toNat % 128 = x.toNat := Nat.mod_eq_of_lt h2
          refine ⟨x.toNat, ?_, by rw [hm], by omega, by rw [hm] at h3; omega, by omega⟩
          rw [encNat_lt _ h2]; simp
      · rename_i h2
        obtain ⟨m, rfl, rfl, h3, h4, h5⟩ := ih _ _ _ _ h
        have hm : 0 < m := by omega
        have e2 : n + x.toNat % 128 * 128 ^ k + m * 128 ^ (k + 1) = n + (m * 128 + x.toNat % 128) * 128 ^ k := by
          rw [Nat.pow_succ, Nat.mul_comm (128 ^ k) 128, ← Nat.mul_assoc, Nat.add_assoc, ← Nat.add_mul]
          congr 2; omega
        refine ⟨m * 128 + x.toNat % 128, ?_, by rw [e2], by omega, by rw [← e2]; exact h4, h5⟩
        rw [encNat_ge (m * 128 + x.toNat % 128) (by omega)]
        have e3 : (m * 128 + x.toNat % 128) % 128 + 128 = x.toNat := by omega
        have e4 : (m * 128 + x.toNat % 128) / 128 = m := by omega
        rw [e3, e4]; simp
theorem numR_enc (limit : Int) (n : Int) (rest : List UInt8) (h0 : 0 ≤ n) (h1 : n ≤ limit) (h2 : n ≤ 4611686018427387904) : numR limit (encNat n.toNat ++ rest) 0 = (n, rest, 0) := by
  obtain ⟨m, rfl⟩ := Int.eq_ofNat_of_zero_le h0
  unfold numR
  rw [if_pos rfl, Int.toNat_natCast, numGo_enc limit rest m 0 0 (by simp; omega) (by simp; omega) (.inl rfl) (by have := encNat_len9 m (by omega); omega)]
  simp
theorem numR_inv {limit : Int} {bs : List UInt8} {e v : Int} {rest : List UInt8} (h : numR limit bs e = (v, rest, 0)) : e = 0 ∧ bs = encNat v.toNat ++ rest ∧ 0 ≤ v ∧ v ≤ limit ∧ v ≤ 4611686018427387904 := by
  unfold numR at h
  split at h
  · rename_i he
    obtain ⟨m, h1, rfl, _, h2, h3⟩ := numGo_inv limit bs 0 0 v rest h
    simp only [Nat.pow_zero, Nat.mul_one, Nat.zero_add] at h2 h3 ⊢
    exact ⟨he, by rw [Int.toNat_natCast]; exact h1, by omega, h3, by omega⟩
  · rename_i he
    simp only [Prod.mk.injEq] at h
    exact absurd h.2.2 he
theorem encNat_get (m : Nat) : ∀ i (h : i < (encNat m).length), (i + 1 < (encNat m).length → 128 ≤ (encNat m)[i].toNat) ∧ (i + 1 = (encNat m).length → (encNat m)[i].toNat < 128) := by
  induction m using Nat.strongRecOn with
  | ind m ih =>
    by_cases hlt : m < 128
    · rw [encNat_lt m hlt]
      intro i hi
      simp only [List.length_cons, List.length_nil] at hi ⊢
      obtain rfl : i = 0 := by omega
      refine ⟨fun h => by omega, fun _ => ?_⟩
      show (UInt8.ofNat m).toNat < 128
      rw [ofNat_toNat m (by omega)]; exact hlt
    · rw [encNat_ge m (by omega)]
      intro i hi
      cases i with
      | zero =>
        have := encNat_pos (m / 128)
        simp only [List.length_cons, List.getElem_cons_zero]
        rw [ofNat_toNat _ (by omega)]
        exact ⟨fun _ => by omega, fun h => by omega⟩
      | succ i =>
        simp only [List.length_cons] at hi ⊢
        have := ih (m / 128) (by omega) i (by omega)
        simp only [List.getElem_cons_succ]
        exact ⟨fun h => this.1 (by omega), fun h => this.2 (by omega)⟩
theorem lastI_enc (m : Nat) (rest : List UInt8) (h9 : (encNat m).length ≤ 9) : lastI (encNat m ++ rest) = (((encNat m).length - 1 : Nat) : Int) := by
  have h0 := encNat_pos m
  unfold lastI
  rw [(List.findIdx?_eq_some_iff_getElem (i := (encNat m).length - 1)).2 ⟨by rw [List.length_take, List.length_append]; omega, ?_, ?_⟩]
  · rw [List.getElem_take, List.getElem_append_left (by omega)]
    have := (encNat_get m ((encNat m).length - 1) (by omega)).2 (by omega)
    simpa [UInt8.lt_iff_toNat_lt] using this
  · intro j hj
    rw [List.getElem_take, List.getElem_append_left (by omega)]
    have := (encNat_get m j (by omega)).1 (by omega)
    simpa [UInt8.lt_iff_toNat_lt] using this
theorem valL_enc (m : Nat) : valL (encNat m) = m := by
  induction m using Nat.strongRecOn with
  | ind m ih =>
    by_cases hlt : m < 128
    · rw [encNat_lt m hlt]; simp only [valL]; rw [ofNat_toNat m (by omega)]; omega
    · rw [encNat_ge m (by omega)]; simp only [valL]; rw [ofNat_toNat _ (by omega), ih (m / 128) (by omega)]; omega
theorem refNum_enc (most : Int) (n : Int) (rest : List UInt8) (h0 : 0 ≤ n) (h1 : n ≤ most) (h2 : n ≤ 4611686018427387904) : refNum most ⟨(encNat n.toNat ++ rest).toArray⟩ 0 = (n, ⟨rest.toArray⟩, 0) := by
  obtain ⟨m, rfl⟩ := Int.eq_ofNat_of_zero_le h0
  rw [Int.toNat_natCast]
  have h9 := encNat_len9 m (by omega)
  have hp := encNat_pos m
  have hl := lastI_enc m rest h9
  have e1 : (encNat m).length - 1 + 1 = (encNat m).length := by omega
  have hs : numS (m : Int) = encNat m := by unfold numS; rw [if_pos (by omega), Int.toNat_natCast]
  unfold refNum
  simp only [hl]
  rw [if_neg (by simp), if_neg (by omega), Int.toNat_natCast, e1, List.take_left' rfl, valL_enc, if_pos ⟨hs, h1⟩]
  unfold dropS
  simp only [List.drop_left' (rfl : (encNat m).length = (encNat m).length)]
theorem numGo_zero (limit : Int) (bs : List UInt8) : ∀ k n v rest e, numGo limit k n bs = (v, rest, e) → e ≠ 0 → v = 0 := by
  induction bs with
  | nil => intro k n v rest e h _; simp [numGo] at h; exact h.1.symm
  | cons x bs ih =>
    intro k n v rest e h he
    simp only [numGo] at h
    split at h
    · simp only [Prod.mk.injEq] at h; exact h.1.symm
    · split at h
      · split at h
        · simp only [Prod.mk.injEq] at h; exact h.1.symm
        · simp only [Prod.mk.injEq] at h; exact absurd h.2.2.symm he
      · exact ih _ _ _ _ _ h he
theorem numR_err8 {limit : Int} {bs rest : List UInt8} {e0 e v : Int} (h : numR limit bs e0 = (v, rest, e)) (he : e ≠ 0) : v = 0 := by
  unfold numR at h
  split at h
  · exact numGo_zero _ _ _ _ _ _ _ h he
  · simp only [Prod.mk.injEq] at h; exact h.1.symm
theorem refNum_inv {most : Int} {s s' : ByteArray} {e v : Int} (h : refNum most s e = (v, s', 0)) : e = 0 ∧ s.data.toList = encNat v.toNat ++ s'.data.toList ∧ 0 ≤ v ∧ v ≤ most ∧ v ≤ 4611686018427387904 := by
  unfold refNum at h
  split at h
  · rename_i he
    simp only [Prod.mk.injEq] at h
    exact absurd h.2.2 he
  · rename_i he
    have he : e = 0 := by omega
    split at h
    · split at h <;> simp at h
    · rename_i hl
      rcases lastI_cases s with h1 | ⟨k, h9, hk, h1⟩
      · omega
      · rw [h1] at h
        simp only [Int.toNat_natCast] at h
        split at h
        · rename_i hc
          simp only [Prod.mk.injEq, and_true] at h
          obtain ⟨rfl, rfl⟩ := h
          obtain ⟨c1, c2⟩ := hc
          have hlen : s.data.toList.length = s.size := by rw [Array.length_toList]; rfl
          have hr : 0 ≤ ((valL (s.data.toList.take (k + 1)) : Nat) : Int) ∧ ((valL (s.data.toList.take (k + 1)) : Nat) : Int) ≤ 4611686018427387904 := by
            by_cases hr : 0 ≤ ((valL (s.data.toList.take (k + 1)) : Nat) : Int) ∧ ((valL (s.data.toList.take (k + 1)) : Nat) : Int) ≤ 4611686018427387904
            · exact hr
            · unfold numS at c1
              rw [if_neg hr] at c1
              have := congrArg List.length c1
              rw [List.length_take] at this
              simp only [List.length_nil] at this
              omega
          unfold numS at c1
          rw [if_pos hr] at c1
          refine ⟨he, ?_, hr.1, c2, hr.2⟩
          unfold dropS
          simp only
          rw [c1, List.take_append_drop]
        · simp at h
/-- Numbers read one behind the other. -/
def readK {σ : Type} (rd : σ → Int × σ) (s : σ) : Nat → List Int × σ
  | 0 => ([], s)
  | k + 1 => ((readK rd s k).1 ++ [(rd (readK rd s k).2).1], (rd (readK rd s k).2).2)
theorem readK_len {σ : Type} (rd : σ → Int × σ) (s : σ) (k : Nat) : (readK rd s k).1.length = k := by
  induction k with
  | zero => rfl
  | succ k ih => simp [readK, ih]
structure RdOk {σ : Type} (rd : σ → Int × σ) (L : σ → List UInt8) (E : σ → Int) (lim : Int) : Prop where
  inv : ∀ s, E (rd s).2 = 0 → E s = 0 ∧ L s = encNat (rd s).1.toNat ++ L (rd s).2 ∧ 0 ≤ (rd s).1 ∧ (rd s).1 ≤ lim
  enc : ∀ s n rest, E s = 0 → L s = encNat n.toNat ++ rest → 0 ≤ n → n ≤ lim → (rd s).1 = n ∧ E (rd s).2 = 0 ∧ L (rd s).2 = rest
theorem encs_append (xs ys : List Int) : encs (xs ++ ys) = encs xs ++ encs ys := by simp [encs]
theorem encs_single (x : Int) : encs [x] = encNat x.toNat := by simp [encs]
theorem encs_nil : encs [] = [] := rfl
section
variable {σ : Type} {rd : σ → Int × σ} {L : σ → List UInt8} {E : σ → Int} {lim : Int}
theorem RdOk.row_inv (h : RdOk rd L E lim) (s : σ) : ∀ k, E (readK rd s k).2 = 0 → E s = 0 ∧ L s = encs (readK rd s k).1 ++ L (readK rd s k).2 ∧ ∀ x ∈ (readK rd s k).1, 0 ≤ x ∧ x ≤ lim
  | 0, h0 => ⟨h0, rfl, fun _ h => by cases h⟩
  | k + 1, h0 => by
    obtain ⟨h1, h2, h3⟩ := h.inv _ h0
    obtain ⟨i1, i2, i3⟩ := h.row_inv s k h1
    refine ⟨i1, ?_, fun x hx => ?_⟩
    · rw [i2, h2]
      simp only [readK]
      rw [encs_append, encs_single, List.append_assoc]
    · rcases List.mem_append.1 hx with hx | hx
      · exact i3 x hx
      · obtain rfl := List.mem_singleton.1 hx
        exact h3
theorem RdOk.row_enc (h : RdOk rd L E lim) (s : σ) (xs : List Int) (rest : List UInt8) (h0 : E s = 0) (hL : L s = encs xs ++ rest) (hx : ∀ x ∈ xs, 0 ≤ x ∧ x ≤ lim) :
    ∀ k, k ≤ xs.length → (readK rd s k).1 = xs.take k ∧ E (readK rd s k).2 = 0 ∧ L (readK rd s k).2 = encs (xs.drop k) ++ rest
  | 0, _ => ⟨rfl, h0, by simpa [readK] using hL⟩
  | k + 1, hk => by
    obtain ⟨i1, i2, i3⟩ := h.row_enc s xs rest h0 hL hx k (by omega)
    have hlt : k < xs.length := by omega
    rw [List.drop_eq_getElem_cons hlt, ← List.singleton_append, encs_append, encs_single, List.append_assoc] at i3
    obtain ⟨j1, j2, j3⟩ := h.enc _ _ _ i2 i3 (hx _ (List.getElem_mem hlt)).1 (hx _ (List.getElem_mem hlt)).2
    refine ⟨?_, j2, j3⟩
    simp only [readK]
    rw [i1, j1, List.take_succ_eq_append_getElem hlt]
end
/-- The program's reader. -/
def rdP (lim : Int) (s : List UInt8 × Int) : Int × (List UInt8 × Int) := ((numR lim s.1 s.2).1, ((numR lim s.1 s.2).2.1, (numR lim s.1 s.2).2.2))
theorem rdP_ok (lim : Int) (hl : lim ≤ 4611686018427387904) : RdOk (rdP lim) (·.1) (·.2) lim where
  inv s h := by
    obtain ⟨v, b, e, hn⟩ : ∃ v b e, numR lim s.1 s.2 = (v, b, e) := ⟨_, _, _, rfl⟩
    simp only [rdP, hn] at h ⊢
    subst h
    obtain ⟨h1, h2, h3, h4, _⟩ := numR_inv hn
    exact ⟨h1, h2, h3, h4⟩
  enc s n rest h0 hL h1 h2 := by
    have := numR_enc lim n rest h1 h2 (by omega)
    simp only [rdP]
    rw [hL, h0, this]
    exact ⟨rfl, rfl, rfl⟩
/-- The document's reader. -/
def rdD (lim : Int) (s : ByteArray × Int) : Int × (ByteArray × Int) := ((refNum lim s.1 s.2).1, ((refNum lim s.1 s.2).2.1, (refNum lim s.1 s.2).2.2))
theorem rdD_ok (lim : Int) (hl : lim ≤ 4611686018427387904) : RdOk (rdD lim) (·.1.data.toList) (·.2) lim where
  inv s h := by
    obtain ⟨v, b, e, hn⟩ : ∃ v b e, refNum lim s.1 s.2 = (v, b, e) := ⟨_, _, _, rfl⟩
    simp only [rdD, hn] at h ⊢
    subst h
    obtain ⟨h1, h2, h3, h4, _⟩ := refNum_inv hn
    exact ⟨h1, h2, h3, h4⟩
  enc s n rest h0 hL h1 h2 := by
    have := refNum_enc lim n rest h1 h2 (by omega)
    have e : s.1 = ⟨(encNat n.toNat ++ rest).toArray⟩ := by
      rw [ByteArray.ext_iff]
      apply Array.ext'
      simpa using hL
    simp only [rdD]
    rw [e, h0, this]
    exact ⟨rfl, rfl, by simp⟩
end Go.Proofs.Ytlpnbbjmcmjkpaa
