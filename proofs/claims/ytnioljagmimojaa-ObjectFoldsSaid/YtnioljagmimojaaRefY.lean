/- Plain laws: the document's reader reads what is written; both parse the same. No program in sight. -/
import Derived.Test.YtnioljagmimojaaRefX
set_option linter.unusedVariables false
set_option linter.unusedSimpArgs false
namespace Go.Proofs.Ytnioljagmimojaa
open Go.RowKit Cb

theorem encNat_get (m : Nat) : ∀ i (h : i < (encNat m).length), (i + 1 < (encNat m).length → 128 ≤ (encNat m)[i].toNat) ∧ (i + 1 = (encNat m).length → (encNat m)[i].toNat < 128) := by
  induction m using Nat.strongRecOn with
  | ind m ih =>
    by_cases hlt : m < 128
    · rw [encNat_lt m hlt]
      intro i hi
      simp only [List.length_cons, List.length_nil] at hi ⊢
      obtain rfl : i = 0 := by omega
      refine ⟨fun h => by omega, fun _ => ?_⟩
      show (UInt8.ofNat m).toNat < 128
      rw [ofNat_toNat m (by omega)]; exact hlt
    · rw [encNat_ge m (by omega)]
      intro i hi
      cases i with
      | zero =>
        have := encNat_pos (m / 128)
        simp only [List.length_cons, List.getElem_cons_zero]
        rw [ofNat_toNat _ (by omega)]
        exact ⟨fun _ => by omega, fun h => by omega⟩
      | succ i =>
        simp only [List.length_cons] at hi ⊢
        have := ih (m / 128) (by omega) i (by omega)
        simp only [List.getElem_cons_succ]
        exact ⟨fun h => this.1 (by omega), fun h => this.2 (by omega)⟩
theorem lastI_enc (m : Nat) (rest : List UInt8) (h9 : (encNat m).length ≤ 9) : lastI (encNat m ++ rest) = (((encNat m).length - 1 : Nat) : Int) := by
  have h0 := encNat_pos m
  unfold lastI
  rw [(List.findIdx?_eq_some_iff_getElem (i := (encNat m).length - 1)).2 ⟨by rw [List.length_take, List.length_append]; omega, ?_, ?_⟩]
  · rw [List.getElem_take, List.getElem_append_left (by omega)]
    have := (encNat_get m ((encNat m).length - 1) (by omega)).2 (by omega)
    simpa [UInt8.lt_iff_toNat_lt] using this
  · intro j hj
    rw [List.getElem_take, List.getElem_append_left (by omega)]
    have := (encNat_get m j (by omega)).1 (by omega)
    simpa [UInt8.lt_iff_toNat_lt] using this
theorem valL_enc (m : Nat) : valL (encNat m) = m := by
  induction m using Nat.strongRecOn with
  | ind m ih =>
    by_cases hlt : m < 128
    · rw [encNat_lt m hlt]; simp only [valL]; rw [ofNat_toNat m (by omega)]; omega
    · rw [encNat_ge m (by omega)]; simp only [valL]; rw [ofNat_toNat _ (by omega), ih (m / 128) (by omega)]; omega
theorem refNum_enc (most : Int) (n : Int) (rest : List UInt8) (h0 : 0 ≤ n) (h1 : n ≤ most) (h2 : n ≤ 4611686018427387904) : refNum most ⟨(encNat n.toNat ++ rest).toArray⟩ 0 = (n, ⟨rest.toArray⟩, 0) := by
  obtain ⟨m, rfl⟩ := Int.eq_ofNat_of_zero_le h0
  rw [Int.toNat_natCast]
  have h9 := encNat_len9 m (by omega)
  have hp := encNat_pos m
  have hl := lastI_enc m rest h9
  have e1 : (encNat m).length - 1 + 1 = (encNat m).length := by omega
  have hs : numS (m : Int) = encNat m := by unfold numS; rw [if_pos (by omega), Int.toNat_natCast]
  unfold refNum
  simp only [hl]
  rw [if_neg (by simp), if_neg (by omega), Int.toNat_natCast, e1, List.take_left' rfl, valL_enc, if_pos ⟨hs, h1⟩]
  unfold dropS
  simp only [List.drop_left' (rfl : (encNat m).length = (encNat m).length)]
theorem refText_enc (most : Int) (s : ByteArray) (rest : List UInt8) (h1 : (s.size : Int) ≤ most) (h2 : s.size ≤ 4611686018427387904) : refText most ⟨(encText s ++ rest).toArray⟩ 0 = (s, ⟨rest.toArray⟩, 0) := by
  have hl : s.data.toList.length = s.size := by rw [Array.length_toList]; rfl
  have hn := refNum_enc most (s.size : Int) (s.data.toList ++ rest) (by omega) h1 (by omega)
  rw [Int.toNat_natCast] at hn
  have hsz : ((⟨(s.data.toList ++ rest).toArray⟩ : ByteArray).size : Int) = s.size + rest.length := by
    show (((s.data.toList ++ rest).toArray.size : Nat) : Int) = _
    rw [List.size_toArray, List.length_append, hl]; simp
  unfold refText encText
  rw [List.append_assoc, hn]
  simp only
  rw [if_neg (by simp), if_neg (by rw [hsz]; omega), Int.toNat_natCast]
  unfold takeS dropS
  simp only [← hl, List.take_left' (rfl : s.data.toList.length = _), List.drop_left' (rfl : s.data.toList.length = _)]
theorem refReads_enc (rest : List UInt8) : ∀ rs : List (Int × Int), (∀ r ∈ rs, (0 ≤ r.1 ∧ r.1 ≤ 1073741824) ∧ (0 ≤ r.2 ∧ r.2 ≤ 1099511627776)) → refReads rs.length ⟨((rs.map encR).flatten ++ rest).toArray⟩ 0 = (rs, ⟨rest.toArray⟩, 0)
  | [], _ => rfl
  | (f, v) :: rs, h => by
    have h1 := h (f, v) (by simp)
    dsimp only at h1
    have e : ((((f, v) :: rs).map encR).flatten ++ rest) = encNat f.toNat ++ (encNat v.toNat ++ ((rs.map encR).flatten ++ rest)) := by simp [encR, encs]
    simp only [List.length_cons, refReads]
    rw [e, refNum_enc 1099511627776 f _ h1.1.1 (by omega) (by omega)]
    simp only
    rw [refNum_enc 1099511627776 v _ h1.2.1 h1.2.2 (by omega)]
    simp only
    rw [refReads_enc rest rs (fun r hr => h r (by simp [hr]))]
theorem refWrites_enc (rest : List UInt8) : ∀ ws : List (Int × ByteArray), (∀ r ∈ ws, (0 ≤ r.1 ∧ r.1 ≤ 1073741824) ∧ r.2.size ≤ 48) → refWrites ws.length ⟨((ws.map encW).flatten ++ rest).toArray⟩ 0 = (ws, ⟨rest.toArray⟩, 0)
  | [], _ => rfl
  | (f, v) :: ws, h => by
    have h1 := h (f, v) (by simp)
    dsimp only at h1
    have e : ((((f, v) :: ws).map encW).flatten ++ rest) = encNat f.toNat ++ (encText v ++ ((ws.map encW).flatten ++ rest)) := by simp [encW, encs]
    simp only [List.length_cons, refWrites]
    rw [e, refNum_enc 1099511627776 f _ h1.1.1 (by omega) (by omega)]
    simp only
    rw [refText_enc 900 v _ (by omega) (by omega)]
    simp only
    rw [refWrites_enc rest ws (fun r hr => h r (by simp [hr]))]
theorem refParse_enc {t : Tx} (h : rightB t.1 t.2.1 t.2.2 = true) (s : ByteArray) (hs : s.data.toList = encTx t.1 t.2.1 t.2.2) : refParseR s = some t := by
  obtain ⟨id, rs, ws⟩ := t
  obtain ⟨h1, h2, h3, h4, h5⟩ := rightB_iff h
  dsimp only at h1 h2 h3 h4 h5 h hs ⊢
  have e : encTx id rs ws = encNat id.toNat ++ (encNat ((rs.length : Int)).toNat ++ ((rs.map encR).flatten ++ (encNat ((ws.length : Int)).toNat ++ ((ws.map encW).flatten ++ [])))) := by simp [encTx, encs]
  have es : s = ⟨(encTx id rs ws).toArray⟩ := by rw [ByteArray.ext_iff, ← hs]
  have hT : refParseT s = ((id, rs, ws), ⟨#[]⟩, 0) := by
    unfold refParseT
    rw [es, e, refNum_enc _ id _ h1.1 h1.2 (by omega)]
    simp only
    rw [refNum_enc 16 (rs.length : Int) _ (by omega) (by omega) (by omega)]
    simp only [Int.toNat_natCast]
    rw [refReads_enc _ rs h2]
    simp only
    have := refNum_enc 16 (ws.length : Int) ((ws.map encW).flatten ++ []) (by omega) (by omega) (by omega)
    rw [Int.toNat_natCast] at this
    rw [this]
    simp only [Int.toNat_natCast]
    rw [refWrites_enc _ ws h4]
  unfold refParseR
  rw [hT]
  simp only
  rw [if_pos ⟨rfl, h, hs.symm⟩]
theorem parseR_right' {bs : List UInt8} {t : Tx} (h : parseR bs = some t) : rightB t.1 t.2.1 t.2.2 = true := by
  unfold parseR at h
  dsimp only at h
  split at h
  · rename_i hh; simp only [Option.some.injEq] at h; rw [h] at hh; exact hh.2
  · cases h
theorem refParse_eq (s : ByteArray) : refParseR s = parseR s.data.toList := by
  cases h : parseR s.data.toList with
  | some t => exact refParse_enc (parseR_right' h) s (parse_inv h)
  | none =>
    cases h2 : refParseR s with
    | none => rfl
    | some t =>
      exfalso
      unfold refParseR at h2
      dsimp only at h2
      split at h2
      · rename_i hh
        simp only [Option.some.injEq] at h2
        rw [h2] at hh
        have := parse_enc hh.2.1
        rw [hh.2.2, h] at this
        cases this
      · cases h2
end Go.Proofs.Ytnioljagmimojaa
