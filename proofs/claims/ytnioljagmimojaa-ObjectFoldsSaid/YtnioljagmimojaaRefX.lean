/- Plain laws: what is written is read as it was, by the program's reader and by the document's. No program in sight. -/
import Derived.Test.YtnioljagmimojaaLawS
set_option linter.unusedVariables false
set_option linter.unusedSimpArgs false
namespace Go.Proofs.Ytnioljagmimojaa
open Go.RowKit Cb

theorem ofNat_toNat (m : Nat) (h : m < 256) : (UInt8.ofNat m).toNat = m := by simp [UInt8.toNat_ofNat']; omega
theorem encNat_pos (m : Nat) : 0 < (encNat m).length := by rw [encNat]; split <;> simp
theorem numGo_enc (limit : Int) (rest : List UInt8) (m : Nat) : ∀ k n, n + m * 128 ^ k ≤ 4611686018427387904 → ((n + m * 128 ^ k : Nat) : Int) ≤ limit → (k = 0 ∨ 0 < m) → k + (encNat m).length ≤ 9 →
    numGo limit k n (encNat m ++ rest) = (((n + m * 128 ^ k : Nat) : Int), rest, 0) := by
  induction m using Nat.strongRecOn with
  | ind m ih =>
    intro k n h62 hlim hk hlen
    by_cases hlt : m < 128
    · rw [encNat_lt m hlt]
      simp only [List.cons_append, List.nil_append, numGo]
      rw [ofNat_toNat m (by omega), if_neg (by omega), if_pos hlt, Nat.mod_eq_of_lt hlt, if_neg (by omega)]
    · have hge : 128 ≤ m := by omega
      rw [encNat_ge m hge] at hlen ⊢
      have := encNat_pos (m / 128)
      simp only [List.length_cons] at hlen
      simp only [List.cons_append, numGo]
      rw [ofNat_toNat _ (by omega), if_neg (by omega), if_neg (by omega)]
      have e1 : (m % 128 + 128) % 128 = m % 128 := by omega
      have e2 : n + m % 128 * 128 ^ k + m / 128 * 128 ^ (k + 1) = n + m * 128 ^ k := by
        rw [Nat.pow_succ, Nat.mul_comm (128 ^ k) 128, ← Nat.mul_assoc, Nat.add_assoc, ← Nat.add_mul]
        congr 2; omega
      rw [e1, ih (m / 128) (by omega) (k + 1) _ (by rw [e2]; exact h62) (by rw [e2]; exact hlim) (by omega) (by omega), e2]
theorem numGo_inv (limit : Int) (bs : List UInt8) : ∀ k n v rest, numGo limit k n bs = (v, rest, 0) →
    ∃ m : Nat, bs = encNat m ++ rest ∧ v = ((n + m * 128 ^ k : Nat) : Int) ∧ (k = 0 ∨ 0 < m) ∧ n + m * 128 ^ k ≤ 4611686018427387904 ∧ v ≤ limit := by
  induction bs with
  | nil => intro k n v rest h; simp [numGo] at h
  | cons x bs ih =>
    intro k n v rest h
    have hx := x.toNat_lt
    simp only [numGo] at h
    split at h
    · simp at h
    · rename_i h1
      split at h
      · rename_i h2
        split at h
        · simp at h
        · rename_i h3
          simp only [Prod.mk.injEq, and_true] at h
          obtain ⟨rfl, rfl⟩ := h
          have hm : x.toNat % 128 = x.toNat := Nat.mod_eq_of_lt h2
          refine ⟨x.toNat, ?_, by rw [hm], by omega, by rw [hm] at h3; omega, by omega⟩
          rw [encNat_lt _ h2]; simp
      · rename_i h2
        obtain ⟨m, rfl, rfl, h3, h4, h5⟩ := ih _ _ _ _ h
        have hm : 0 < m := by omega
        have e2 : n + x.toNat % 128 * 128 ^ k + m * 128 ^ (k + 1) = n + (m * 128 + x.toNat % 128) * 128 ^ k := by
          rw [Nat.pow_succ, Nat.mul_comm (128 ^ k) 128, ← Nat.mul_assoc, Nat.add_assoc, ← Nat.add_mul]
          congr 2; omega
        refine ⟨m * 128 + x.toNat % 128, ?_, by rw [e2], by omega, by rw [← e2]; exact h4, h5⟩
        rw [encNat_ge (m * 128 + x.toNat % 128) (by omega)]
        have e3 : (m * 128 + x.toNat % 128) % 128 + 128 = x.toNat := by omega
        have e4 : (m * 128 + x.toNat % 128) / 128 = m := by omega
        rw [e3, e4]; simp
theorem numR_enc (limit : Int) (n : Int) (rest : List UInt8) (h0 : 0 ≤ n) (h1 : n ≤ limit) (h2 : n ≤ 4611686018427387904) : numR limit (encNat n.toNat ++ rest) 0 = (n, rest, 0) := by
  obtain ⟨m, rfl⟩ := Int.eq_ofNat_of_zero_le h0
  unfold numR
  rw [if_pos rfl, Int.toNat_natCast, numGo_enc limit rest m 0 0 (by simp; omega) (by simp; omega) (.inl rfl) (by have := encNat_len9 m (by omega); omega)]
  simp
theorem numR_inv {limit : Int} {bs : List UInt8} {e v : Int} {rest : List UInt8} (h : numR limit bs e = (v, rest, 0)) : e = 0 ∧ bs = encNat v.toNat ++ rest ∧ 0 ≤ v ∧ v ≤ limit ∧ v ≤ 4611686018427387904 := by
  unfold numR at h
  split at h
  · rename_i he
    obtain ⟨m, h1, rfl, _, h2, h3⟩ := numGo_inv limit bs 0 0 v rest h
    simp only [Nat.pow_zero, Nat.mul_one, Nat.zero_add] at h2 h3 ⊢
    exact ⟨he, by rw [Int.toNat_natCast]; exact h1, by omega, h3, by omega⟩
  · rename_i he
    simp only [Prod.mk.injEq] at h
    exact absurd h.2.2 he
theorem encText_mk (t : List UInt8) : encText ⟨t.toArray⟩ = encNat t.length ++ t := by simp [encText, ByteArray.size]
theorem textR_inv {limit : Int} {bs : List UInt8} {e : Int} {t rest : List UInt8} (h : textR limit bs e = (t, rest, 0)) : e = 0 ∧ bs = encText ⟨t.toArray⟩ ++ rest ∧ (t.length : Int) ≤ limit := by
  obtain ⟨n, b1, e1, hn⟩ : ∃ n b1 e1, numR limit bs e = (n, b1, e1) := ⟨_, _, _, rfl⟩
  have h0 := numR_nonneg limit bs e
  rw [hn] at h0
  unfold textR takeR at h
  rw [hn] at h
  simp only at h h0
  split at h
  · rename_i hh
    obtain ⟨rfl, hl⟩ := hh
    simp only [Prod.mk.injEq, and_true] at h
    obtain ⟨rfl, rfl⟩ := h
    obtain ⟨a, b, c, d, _⟩ := numR_inv hn
    have hlen : (b1.take n.toNat).length = n.toNat := by rw [List.length_take]; omega
    refine ⟨a, ?_, by rw [hlen]; omega⟩
    rw [encText_mk, hlen, b, List.append_assoc, List.take_append_drop]
  · rename_i hh
    simp only [Prod.mk.injEq, failR] at h
    have := h.2.2
    split at this
    · omega
    · rename_i he; exact absurd this he
theorem textR_enc (limit : Int) (s : ByteArray) (rest : List UInt8) (h1 : (s.size : Int) ≤ limit) (h2 : s.size ≤ 4611686018427387904) : textR limit (encText s ++ rest) 0 = (s.data.toList, rest, 0) := by
  have hl : s.data.toList.length = s.size := by rw [Array.length_toList]; rfl
  have hn := numR_enc limit (s.size : Int) (s.data.toList ++ rest) (by omega) h1 (by omega)
  rw [Int.toNat_natCast] at hn
  unfold textR encText takeR
  rw [List.append_assoc, hn]
  simp only [Int.toNat_natCast, true_and]
  rw [if_pos (by rw [List.length_append]; omega), ← hl, List.take_left', List.drop_left'] <;> rfl
theorem readsGo_inv : ∀ n bs e rs rest, readsGo n bs e = (rs, rest, 0) → e = 0 ∧ bs = (rs.map encR).flatten ++ rest
  | 0, bs, e, rs, rest, h => by
    simp only [readsGo, Prod.mk.injEq] at h
    obtain ⟨rfl, rfl, rfl⟩ := h
    exact ⟨rfl, rfl⟩
  | n + 1, bs, e, rs, rest, h => by
    obtain ⟨f, b1, e1, h1⟩ : ∃ f b1 e1, numR 1073741824 bs e = (f, b1, e1) := ⟨_, _, _, rfl⟩
    obtain ⟨v, b2, e2, h2⟩ : ∃ v b2 e2, numR 1099511627776 b1 e1 = (v, b2, e2) := ⟨_, _, _, rfl⟩
    obtain ⟨r, b3, e3, h3⟩ : ∃ r b3 e3, readsGo n b2 e2 = (r, b3, e3) := ⟨_, _, _, rfl⟩
    simp only [readsGo, h1, h2, h3, Prod.mk.injEq] at h
    obtain ⟨rfl, rfl, rfl⟩ := h
    obtain ⟨rfl, rfl⟩ := readsGo_inv n b2 e2 r b3 h3
    obtain ⟨rfl, rfl, _⟩ := numR_inv h2
    obtain ⟨rfl, rfl, _⟩ := numR_inv h1
    exact ⟨rfl, by simp [encR, encs]⟩
theorem writesGo_inv : ∀ n bs e ws rest, writesGo n bs e = (ws, rest, 0) → e = 0 ∧ bs = (ws.map encW).flatten ++ rest
  | 0, bs, e, rs, rest, h => by
    simp only [writesGo, Prod.mk.injEq] at h
    obtain ⟨rfl, rfl, rfl⟩ := h
    exact ⟨rfl, rfl⟩
  | n + 1, bs, e, rs, rest, h => by
    obtain ⟨f, b1, e1, h1⟩ : ∃ f b1 e1, numR 1073741824 bs e = (f, b1, e1) := ⟨_, _, _, rfl⟩
    obtain ⟨v, b2, e2, h2⟩ : ∃ v b2 e2, textR 48 b1 e1 = (v, b2, e2) := ⟨_, _, _, rfl⟩
    obtain ⟨r, b3, e3, h3⟩ : ∃ r b3 e3, writesGo n b2 e2 = (r, b3, e3) := ⟨_, _, _, rfl⟩
    simp only [writesGo, h1, h2, h3, Prod.mk.injEq] at h
    obtain ⟨rfl, rfl, rfl⟩ := h
    obtain ⟨rfl, rfl⟩ := writesGo_inv n b2 e2 r b3 h3
    obtain ⟨rfl, rfl, _⟩ := textR_inv h2
    obtain ⟨rfl, rfl, _⟩ := numR_inv h1
    exact ⟨rfl, by simp [encW, encs]⟩
theorem readsGo_enc (rest : List UInt8) : ∀ rs : List (Int × Int), (∀ r ∈ rs, (0 ≤ r.1 ∧ r.1 ≤ 1073741824) ∧ (0 ≤ r.2 ∧ r.2 ≤ 1099511627776)) → readsGo rs.length ((rs.map encR).flatten ++ rest) 0 = (rs, rest, 0)
  | [], _ => rfl
  | (f, v) :: rs, h => by
    have h1 := h (f, v) (by simp)
    dsimp only at h1
    have e : ((((f, v) :: rs).map encR).flatten ++ rest) = encNat f.toNat ++ (encNat v.toNat ++ ((rs.map encR).flatten ++ rest)) := by simp [encR, encs]
    simp only [List.length_cons, readsGo]
    rw [e, numR_enc 1073741824 f _ h1.1.1 h1.1.2 (by omega)]
    simp only
    rw [numR_enc 1099511627776 v _ h1.2.1 h1.2.2 (by omega)]
    simp only
    rw [readsGo_enc rest rs (fun r hr => h r (by simp [hr]))]
theorem writesGo_enc (rest : List UInt8) : ∀ ws : List (Int × ByteArray), (∀ r ∈ ws, (0 ≤ r.1 ∧ r.1 ≤ 1073741824) ∧ r.2.size ≤ 48) → writesGo ws.length ((ws.map encW).flatten ++ rest) 0 = (ws, rest, 0)
  | [], _ => rfl
  | (f, v) :: ws, h => by
    have h1 := h (f, v) (by simp)
    dsimp only at h1
    have e : ((((f, v) :: ws).map encW).flatten ++ rest) = encNat f.toNat ++ (encText v ++ ((ws.map encW).flatten ++ rest)) := by simp [encW, encs]
    simp only [List.length_cons, writesGo]
    rw [e, numR_enc 1073741824 f _ h1.1.1 h1.1.2 (by omega)]
    simp only
    rw [textR_enc 48 v _ (by omega) (by omega)]
    simp only
    rw [writesGo_enc rest ws (fun r hr => h r (by simp [hr]))]
theorem parse_enc {t : Tx} (h : rightB t.1 t.2.1 t.2.2 = true) : parseR (encTx t.1 t.2.1 t.2.2) = some t := by
  obtain ⟨id, rs, ws⟩ := t
  obtain ⟨h1, h2, h3, h4, h5⟩ := rightB_iff h
  dsimp only at h1 h2 h3 h4 h5 h ⊢
  have e : encTx id rs ws = encNat id.toNat ++ (encNat ((rs.length : Int)).toNat ++ ((rs.map encR).flatten ++ (encNat ((ws.length : Int)).toNat ++ ((ws.map encW).flatten ++ [])))) := by simp [encTx, encs]
  have hT : parseT (encTx id rs ws) = ((id, rs, ws), [], 0) := by
    unfold parseT
    rw [e, numR_enc _ id _ h1.1 h1.2 (by omega)]
    simp only
    rw [numR_enc 16 (rs.length : Int) _ (by omega) (by omega) (by omega)]
    simp only [Int.toNat_natCast]
    rw [readsGo_enc _ rs h2]
    simp only
    have := numR_enc 16 (ws.length : Int) ((ws.map encW).flatten ++ []) (by omega) (by omega) (by omega)
    rw [Int.toNat_natCast] at this
    rw [this]
    simp only [Int.toNat_natCast]
    rw [writesGo_enc _ ws h4]
  unfold parseR
  rw [hT]
  simp only
  rw [if_pos ⟨by simp [endR], h⟩]
theorem parse_inv {bs : List UInt8} {t : Tx} (h : parseR bs = some t) : bs = encTx t.1 t.2.1 t.2.2 := by
  unfold parseR at h
  dsimp only at h
  split at h
  · rename_i hh
    simp only [Option.some.injEq] at h
    obtain ⟨hE, hR⟩ := hh
    obtain ⟨id, b1, e1, h1⟩ : ∃ n b1 e1, numR 1099511627776 bs 0 = (n, b1, e1) := ⟨_, _, _, rfl⟩
    obtain ⟨n, b2, e2, h2⟩ : ∃ n b2 e2, numR 16 b1 e1 = (n, b2, e2) := ⟨_, _, _, rfl⟩
    obtain ⟨rs, b3, e3, h3⟩ : ∃ rs b3 e3, readsGo n.toNat b2 e2 = (rs, b3, e3) := ⟨_, _, _, rfl⟩
    obtain ⟨m, b4, e4, h4⟩ : ∃ n b4 e4, numR 16 b3 e3 = (n, b4, e4) := ⟨_, _, _, rfl⟩
    obtain ⟨ws, b5, e5, h5⟩ : ∃ ws b5 e5, writesGo m.toNat b4 e4 = (ws, b5, e5) := ⟨_, _, _, rfl⟩
    have hT : parseT bs = ((id, rs, ws), b5, e5) := by simp [parseT, h1, h2, h3, h4, h5]
    rw [hT] at h hE hR
    subst h
    simp only at hE hR ⊢
    have he : e5 = 0 ∧ b5 = [] := by
      unfold endR at hE
      split at hE
      · omega
      · rename_i hh; subst hE; exact ⟨rfl, by simpa using hh⟩
    obtain ⟨rfl, rfl⟩ := he
    have hrl := readsGo_len n.toNat b2 e2
    have hwl := writesGo_len m.toNat b4 e4
    rw [h3] at hrl; rw [h5] at hwl
    simp only at hrl hwl
    obtain ⟨rfl, rfl⟩ := writesGo_inv _ _ _ _ _ h5
    obtain ⟨rfl, rfl, hm, _⟩ := numR_inv h4
    obtain ⟨rfl, rfl⟩ := readsGo_inv _ _ _ _ _ h3
    obtain ⟨rfl, rfl, hn, _⟩ := numR_inv h2
    obtain ⟨_, rfl, _⟩ := numR_inv h1
    rw [← hrl, ← hwl]
    simp [encTx, encs]
  · cases h
end Go.Proofs.Ytnioljagmimojaa
