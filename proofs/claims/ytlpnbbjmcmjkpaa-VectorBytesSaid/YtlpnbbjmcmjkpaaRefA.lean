/- Walks of the document's vector: Decode. -/
import Derived.Test.YtlpnbbjmcmjkpaaRefB
set_option linter.unusedVariables false
set_option linter.unusedSimpArgs false
namespace Go.Proofs.Ytlpnbbjmcmjkpaa
open Go.RowKit Cb

/-- What the document's Decode answers: the numbers, the error. -/
def decD (bs : ByteArray) : List Int × Int :=
  let a := rdD 8 (bs, 0)
  let r := readK (rdD 1099511627776) a.2 a.1.toNat
  if endE r.2.1 r.2.2 = 0 ∧ 1 ≤ a.1 then (r.1, 0) else ([], 30)
theorem endE_zero {bs : ByteArray} {e : Int} : endE bs e = 0 ↔ e = 0 ∧ bs.data.toList = [] := by
  have hl : bs.data.toList.length = bs.size := by rw [Array.length_toList]; rfl
  unfold endE
  split
  · rename_i h
    refine ⟨fun h' => by omega, fun ⟨_, h2⟩ => ?_⟩
    rw [h2] at hl
    simp only [List.length_nil] at hl
    omega
  · rename_i h
    refine ⟨fun h' => ⟨h', ?_⟩, fun h' => h'.1⟩
    apply List.eq_nil_of_length_eq_zero
    omega
theorem decD_enc {v : List Int} (h : vright v = true) {bs : ByteArray} (hb : bs.data.toList = encV v) : decD bs = (v, 0) := by
  obtain ⟨h1, h8, hx⟩ := vright_iff.1 h
  obtain ⟨a1, a2, a3⟩ := (rdD_ok 8 (by omega)).enc (bs, 0) (v.length : Int) (encs v) rfl (by show bs.data.toList = _; rw [hb, encV_eq]; simp) (by omega) (by omega)
  obtain ⟨b1, b2, b3⟩ := (rdD_ok 1099511627776 (by omega)).row_enc (rdD 8 (bs, 0)).2 v [] a2 (by rw [a3]; simp) hx v.length (Nat.le_refl _)
  unfold decD
  simp only
  rw [a1, Int.toNat_natCast]
  rw [List.take_length] at b1
  rw [b1, if_pos ⟨endE_zero.2 ⟨b2, by simpa [encs] using b3⟩, by omega⟩]
theorem rdD_most (lim : Int) (hl : lim ≤ 4611686018427387904) (h0 : 0 ≤ lim) (s : ByteArray × Int) : 0 ≤ (rdD lim s).1 ∧ (rdD lim s).1 ≤ lim := by
  refine ⟨refNum_nonneg _ _ _, ?_⟩
  by_cases he : (rdD lim s).2.2 = 0
  · exact ((rdD_ok lim hl).inv s he).2.2.2
  · have : (rdD lim s).1 = 0 := by
      simp only [rdD] at he ⊢
      unfold refNum at he ⊢
      split
      · rfl
      · rename_i h1
        rw [if_neg h1] at he
        split
        · split <;> rfl
        · rename_i h2
          rw [if_neg h2] at he
          dsimp only at he ⊢
          split
          · rename_i h3
            rw [if_pos h3] at he
            exact absurd rfl he
          · rfl
    omega
theorem decD_inv {bs : ByteArray} {v : List Int} (h : decD bs = (v, 0)) : vright v = true ∧ bs.data.toList = encV v := by
  unfold decD at h
  simp only at h
  split at h
  · rename_i hc
    simp only [Prod.mk.injEq, and_true] at h
    obtain ⟨c1, c2⟩ := hc
    obtain ⟨e1, e2⟩ := endE_zero.1 c1
    obtain ⟨i1, i2, i3⟩ := (rdD_ok 1099511627776 (by omega)).row_inv (rdD 8 (bs, 0)).2 _ e1
    obtain ⟨_, j2, j3, j4⟩ := (rdD_ok 8 (by omega)).inv (bs, 0) i1
    rw [h] at i2 i3
    have hl := readK_len (rdD 1099511627776) (rdD 8 (bs, 0)).2 (rdD 8 (bs, 0)).1.toNat
    rw [h] at hl
    refine ⟨vright_iff.2 ⟨by omega, by omega, i3⟩, ?_⟩
    rw [encV_eq, hl]
    simp only at j2 i2
    rw [i2, e2, List.append_nil] at j2
    exact j2
  · simp at h
theorem decD_cases (bs : ByteArray) : (∃ v, decD bs = (v, 0)) ∨ decD bs = ([], 30) := by
  unfold decD
  simp only
  split
  · exact .inl ⟨_, rfl⟩
  · exact .inr rfl
theorem dec_eq (bs : List UInt8) : decD ⟨bs.toArray⟩ = decP bs := by
  rcases decP_cases bs with ⟨v, h⟩ | h
  · obtain ⟨h1, h2⟩ := decP_inv h
    rw [h]
    exact decD_enc h1 (by simpa using h2)
  · rw [h]
    rcases decD_cases ⟨bs.toArray⟩ with ⟨v, h'⟩ | h'
    · obtain ⟨h1, h2⟩ := decD_inv h'
      have h2 : bs = encV v := by simpa using h2
      rw [h2, decP_enc h1] at h
      simp at h
    · exact h'
theorem two_set {w : World} {q : Nat} {a b : Value} {T : TypeId} {fz : Nat × Nat} (h : w.heap[q]? = some (.cells #[a, b] T fz)) (x y : Value) : ((w.setCell ⟨q, 0, none⟩ x).setCell ⟨q, 1, none⟩ y).heap[q]? = some (.cells #[x, y] T fz) :=
  obj_set (obj_set h rfl) rfl
theorem two_other {w : World} {q r : Nat} {o : Obj} (h : w.heap[r]? = some o) (hne : r ≠ q) (x y : Value) : ((w.setCell ⟨q, 0, none⟩ x).setCell ⟨q, 1, none⟩ y).heap[r]? = some o :=
  obj_set_other (obj_set_other h hne) hne
set_option maxRecDepth 100000 in
set_option maxHeartbeats 1000000 in
theorem rdecode_any (F : Nat → Prop) (v : Value) (bs : List UInt8) (w : World) (hs : Sl F w v bs) :
    Calls Try.prog 36 #[v] w fun e w' => ∃ v', e = .returned (.tuple #[v', .int .i64 (decP bs).2]) ∧ Sl (Lt w.heap.size) w' v' (decP bs).1 ∧ Chg No w w' := by
  have Hs := Lib.hid hs
  obtain ⟨A, c, rfl⟩ := hs.slice
  clear hs
  obtain ⟨s, hsx⟩ : ∃ s : ByteArray, s = ⟨bs.toArray⟩ := ⟨_, rfl⟩
  obtain ⟨n, hn⟩ : ∃ n : Nat, (rdD 8 (s, 0)).1 = n := ⟨(rdD 8 (s, 0)).1.toNat, by have := rdD_most 8 (by omega) (by omega) (s, 0); omega⟩
  have hn8 : n ≤ 8 := by have := rdD_most 8 (by omega) (by omega) (s, 0); omega
  have Hdec := Lib.hid (show decP bs = if endE (readK (rdD 1099511627776) (rdD 8 (s, 0)).2 n).2.1 (readK (rdD 1099511627776) (rdD 8 (s, 0)).2 n).2.2 = 0 ∧ (1 : Int) ≤ n then ((readK (rdD 1099511627776) (rdD 8 (s, 0)).2 n).1, 0) else ([], 30) by
    rw [← dec_eq, ← hsx]
    unfold decD; simp only [hn, Int.toNat_natCast])
  have Hnum := Lib.hid (fun W => refreadnum_any s 0 8 W)
  obtain ⟨s0, hs0⟩ : ∃ s0 : ByteArray × Int, s0 = (rdD 8 (s, 0)).2 := ⟨_, rfl⟩
  have hr8 : (refNum 8 s 0).1 = n := hn
  have hr9 : (refNum 8 s 0).2.1 = s0.1 := by rw [hs0]; rfl
  have hr10 : (refNum 8 s 0).2.2 = s0.2 := by rw [hs0]; rfl
  unfold RN at Hnum
  rw [hr8, hr9, hr10] at Hnum
  rw [← hs0] at Hdec
  have Hlen := Lib.hid (readK_len (rdD 1099511627776) s0)
  have Hsx := Lib.hid hsx
  clear hn hr8 hr9 hr10 hs0 hsx
  unfold rdrV at Hnum
  go_enter Try.func36, Try.ntmps36
  go_wp2_with (first | (with_reducible refine stop_append ?_) | (with_reducible refine stop_copy ?_) | (with_reducible refine stop_make ?_) | (with_reducible refine stop_lookup ?_) | (with_reducible refine stop_update ?_) | (with_reducible refine stop_slice ?_) | (with_reducible refine stop_range ?_) | (with_reducible refine stop_next ?_) | (with_reducible refine stop_convert ⟨_, rfl⟩ ?_) | (with_reducible refine stop_convertB ⟨_, _, _, rfl⟩ ?_) | (with_reducible refine stop_eqSlice ⟨_, _, rfl⟩ ?_))
  refine step_conv_bs Try.underlying36 Try.underlying5 Try.underlying9 rfl Hs.out ?_
  rw [← Hsx.out]
  clear Hs Hsx
  go_wp2_with (first | (with_reducible refine stop_append ?_) | (with_reducible refine stop_copy ?_) | (with_reducible refine stop_make ?_) | (with_reducible refine stop_lookup ?_) | (with_reducible refine stop_update ?_) | (with_reducible refine stop_slice ?_) | (with_reducible refine stop_range ?_) | (with_reducible refine stop_next ?_) | (with_reducible refine stop_convert ⟨_, rfl⟩ ?_) | (with_reducible refine stop_convertB ⟨_, _, _, rfl⟩ ?_) | (with_reducible refine stop_eqSlice ⟨_, _, rfl⟩ ?_))
  refine (Hnum.out _).mono ?_
  rintro e w1 ⟨rfl, hc1⟩
  clear Hnum
  obtain ⟨s1, e1⟩ := s0
  simp only at *
  go_wp2_with (first | (with_reducible refine stop_append ?_) | (with_reducible refine stop_copy ?_) | (with_reducible refine stop_make ?_) | (with_reducible refine stop_lookup ?_) | (with_reducible refine stop_update ?_) | (with_reducible refine stop_slice ?_) | (with_reducible refine stop_range ?_) | (with_reducible refine stop_next ?_) | (with_reducible refine stop_convert ⟨_, rfl⟩ ?_) | (with_reducible refine stop_convertB ⟨_, _, _, rfl⟩ ?_) | (with_reducible refine stop_eqSlice ⟨_, _, rfl⟩ ?_))
  have ho2 := alloc_obj w1 (.cells #[.string s1, .int .i64 e1] 61)
  have hcw2 := hc1.alloc (.cells #[.string s1, .int .i64 e1] 61)
  have hpl := lt_of_heap ho2
  have hpg := hc1.size
  generalize w1.alloc (.cells #[.string s1, .int .i64 e1] 61) = w2 at *
  generalize w1.heap.size = p at *
  clear hc1
  go_loopw [6, 7] (fun v6 v7 wr => ∃ k : Nat, k ≤ n ∧ v7 = .int .i64 k ∧ Chg No w wr ∧ w2.heap.size ≤ wr.heap.size ∧ wr.heap[p]? = some (.cells #[.string (readK (rdD 1099511627776) (s1, e1) k).2.1, .int .i64 (readK (rdD 1099511627776) (s1, e1) k).2.2] 61 (0, 0)) ∧ Cb.Own No wr w2.heap.size 3 v6 (readK (rdD 1099511627776) (s1, e1) k).1) (fun _ v7 _ => n - (intOf v7).toNat)
  case atStart => exact ⟨0, by omega, rfl, hcw2, Nat.le_refl _, ho2, Cb.Own.nil _ _ _ _⟩
  case round =>
    clear ho2
    obtain ⟨k, hk, rfl, hc, hsz, hob, hown⟩ := hrel
    have Hown := Lib.hid hown
    obtain ⟨A5, c5, e5⟩ := hown.slice
    rw [Hlen.out] at e5
    subst e5
    clear hown
    by_cases hlt : k < n
    · have Hcall := Lib.hid (fun W => refreadnum_any (readK (rdD 1099511627776) (s1, e1) k).2.1 (readK (rdD 1099511627776) (s1, e1) k).2.2 1099511627776 W)
      unfold RN rdrV at Hcall
      have Hsn := Lib.hid (show (readK (rdD 1099511627776) (s1, e1) (k + 1)) = ((readK (rdD 1099511627776) (s1, e1) k).1 ++ [(refNum 1099511627776 (readK (rdD 1099511627776) (s1, e1) k).2.1 (readK (rdD 1099511627776) (s1, e1) k).2.2).1], ((refNum 1099511627776 (readK (rdD 1099511627776) (s1, e1) k).2.1 (readK (rdD 1099511627776) (s1, e1) k).2.2).2.1, (refNum 1099511627776 (readK (rdD 1099511627776) (s1, e1) k).2.1 (readK (rdD 1099511627776) (s1, e1) k).2.2).2.2)) from rfl)
      have hlen := Hlen.out k
      generalize refNum 1099511627776 (readK (rdD 1099511627776) (s1, e1) k).2.1 (readK (rdD 1099511627776) (s1, e1) k).2.2 = z at *
      obtain ⟨x, b', e'⟩ := z
      simp only at Hcall Hsn
      generalize readK (rdD 1099511627776) (s1, e1) k = r at *
      have Hlk := Lib.hid hlen
      clear hlen
      obtain ⟨vs, sk, ek⟩ := r
      simp only at *
      have b0 := cell_obj (i := 0) hob rfl
      have b1 := cell_obj (i := 1) hob rfl
      go_wp2_with (first | (with_reducible refine stop_append ?_) | (with_reducible refine stop_copy ?_) | (with_reducible refine stop_make ?_) | (with_reducible refine stop_lookup ?_) | (with_reducible refine stop_update ?_) | (with_reducible refine stop_slice ?_) | (with_reducible refine stop_range ?_) | (with_reducible refine stop_next ?_) | (with_reducible refine stop_convert ⟨_, rfl⟩ ?_) | (with_reducible refine stop_convertB ⟨_, _, _, rfl⟩ ?_) | (with_reducible refine stop_eqSlice ⟨_, _, rfl⟩ ?_))
      refine (Hcall.out _).mono ?_
      rintro e w3 ⟨rfl, hc3⟩
      have ho3 := hc3.obj hob (not_no _)
      have hown3 := Hown.out.keepFlat hc3 (fun _ _ f => f)
      have hcw3 := hc.trans hc3
      have hz3 := hc3.size
      clear b0 b1 hob
      have hpne : p ≠ w3.heap.size := by omega
      have hpne2 : w3.heap.size ≠ p := by omega
      have hoA := ((Chg.refl No w3).alloc (.cells #[.string b', .int .i64 e'] 61)).obj ho3 (not_no _)
      have hoB := alloc_obj w3 (.cells #[.string b', .int .i64 e'] 61)
      have f0 := free_obj (i := 0) hoA
      have f1 := free_obj (i := 1) hoA
      have a0 := cell_obj (i := 0) hoA rfl
      have a1 := cell_obj (i := 1) hoA rfl
      have d0 := cell_obj (i := 0) hoB rfl
      have d1 := cell_obj (i := 1) hoB rfl
      have Hown3 := Lib.hid hown3
      clear hown3
      go_wp2_with (first | (with_reducible refine stop_append ?_) | (with_reducible refine stop_copy ?_) | (with_reducible refine stop_make ?_) | (with_reducible refine stop_lookup ?_) | (with_reducible refine stop_update ?_) | (with_reducible refine stop_slice ?_) | (with_reducible refine stop_range ?_) | (with_reducible refine stop_next ?_) | (with_reducible refine stop_convert ⟨_, rfl⟩ ?_) | (with_reducible refine stop_convertB ⟨_, _, _, rfl⟩ ?_) | (with_reducible refine stop_eqSlice ⟨_, _, rfl⟩ ?_))
      have ho5 := two_set hoA (.string b') (.int .i64 e')
      have hcB : Chg (At p) w3 (((w3.alloc (.cells #[.string b', .int .i64 e'] 61)).setCell ⟨p, 0, none⟩ (.string b')).setCell ⟨p, 1, none⟩ (.int .i64 e')) := (((Chg.refl (At p) w3).alloc _).setCell (p := ⟨p, 0, none⟩) (.inl rfl) _).setCell (p := ⟨p, 1, none⟩) (.inl rfl) _
      have hown5 := Hown3.out.keepFlat hcB (fun i hi h => by have := (Hown3.out.lt i hi).1; simp only [At] at h; omega)
      have hc5 : Chg No w _ := hcw3.old hcB (fun i h => by simp only [At] at h; omega)
      have hz5 : w2.heap.size ≤ (((w3.alloc (.cells #[.string b', .int .i64 e'] 61)).setCell ⟨p, 0, none⟩ (.string b')).setCell ⟨p, 1, none⟩ (.int .i64 e')).heap.size := by have := hcB.size; omega
      clear hoA hoB f0 f1 a0 a1 d0 d1 ho3
      have hsz5 : (((w3.alloc (.cells #[.string b', .int .i64 e'] 61)).setCell ⟨p, 0, none⟩ (.string b')).setCell ⟨p, 1, none⟩ (.int .i64 e')).heap.size = w3.heap.size + 1 := by simp
      generalize (((w3.alloc (.cells #[.string b', .int .i64 e'] 61)).setCell ⟨p, 0, none⟩ (.string b')).setCell ⟨p, 1, none⟩ (.int .i64 e')) = w5 at *
      rw [← hsz5]
      have hcA := (Chg.refl No w5).alloc (.cells #[.int .i64 x] 3)
      refine step_append_flat (α := Int) (ys := [x]) Try.underlying24 vinfo_int rfl (hown5.alloc (.cells #[.int .i64 x] 3)) rfl rfl (Sl.lit1 (F := No) (y := x) rfl rfl (not_no _)) (by rw [Hlk.out]; simp; omega) (by rw [Hlk.out]; simp; omega) (by simp; omega) ?_
      intro v6 w6 hown6 hg6
      have hob6 : ∀ i, OB (.slice A5 k c5) i → w2.heap.size ≤ i := fun i hi => (hown5.lt i hi).1
      have ho6 := hg6.chg.obj (hcA.obj ho5 (not_no _)) (fun h => by have := hob6 _ h; omega)
      have hc6 : Chg No w w6 := (hc5.trans hcA).grew hg6 (fun i hi => .inr (by have := hob6 i hi; have := hcw2.size; omega))
      have hsz6 : w2.heap.size ≤ w6.heap.size := by have := hcA.size; have := hg6.by_.size; omega
      have Hown6 := Lib.hid hown6
      have Ho6 := Lib.hid ho6
      clear hown6 hg6 ho6 hown5 ho5 hsz5
      go_wp2_with (first | (with_reducible refine stop_append ?_) | (with_reducible refine stop_copy ?_) | (with_reducible refine stop_make ?_) | (with_reducible refine stop_lookup ?_) | (with_reducible refine stop_update ?_) | (with_reducible refine stop_slice ?_) | (with_reducible refine stop_range ?_) | (with_reducible refine stop_next ?_) | (with_reducible refine stop_convert ⟨_, rfl⟩ ?_) | (with_reducible refine stop_convertB ⟨_, _, _, rfl⟩ ?_) | (with_reducible refine stop_eqSlice ⟨_, _, rfl⟩ ?_))
      go_roundw
      case rel => exact ⟨k + 1, by omega, by go_num, hc6, hsz6, by rw [Hsn.out]; exact Ho6.out, by rw [Hsn.out]; exact Hown6.out⟩
      case measure => simp [intOf]; omega
    · obtain rfl : k = n := by omega
      have hlen := Hlen.out k
      have Hlk := Lib.hid hlen
      clear hlen Hlen
      generalize readK (rdD 1099511627776) (s1, e1) k = r at *
      obtain ⟨vs, sk, ek⟩ := r
      simp only at *
      have b0 := cell_obj (i := 0) hob rfl
      have b1 := cell_obj (i := 1) hob rfl
      have Hend := Lib.hid (refend_any sk ek wr)
      unfold rdrV at Hend
      have Hsl := Lib.hid (Hown.out.slFlat (G := Lt w.heap.size) (fun i hi h => by have := (Hown.out.lt i hi).1; have := hcw2.size; simp only [Lt] at h; omega))
      clear hob
      by_cases he : endE sk ek = 0
      · rw [he] at Hend Hdec
        clear he
        by_cases hk1 : k < 1
        · rw [if_neg (by omega)] at Hdec
          obtain rfl : k = 0 := by omega
          go_wp2_with (first | (with_reducible refine stop_append ?_) | (with_reducible refine stop_copy ?_) | (with_reducible refine stop_make ?_) | (with_reducible refine stop_lookup ?_) | (with_reducible refine stop_update ?_) | (with_reducible refine stop_slice ?_) | (with_reducible refine stop_range ?_) | (with_reducible refine stop_next ?_) | (with_reducible refine stop_convert ⟨_, rfl⟩ ?_) | (with_reducible refine stop_convertB ⟨_, _, _, rfl⟩ ?_) | (with_reducible refine stop_eqSlice ⟨_, _, rfl⟩ ?_))
          refine Hend.out.mono ?_
          rintro e w3 ⟨rfl, hc3⟩
          go_wp2_with (first | (with_reducible refine stop_append ?_) | (with_reducible refine stop_copy ?_) | (with_reducible refine stop_make ?_) | (with_reducible refine stop_lookup ?_) | (with_reducible refine stop_update ?_) | (with_reducible refine stop_slice ?_) | (with_reducible refine stop_range ?_) | (with_reducible refine stop_next ?_) | (with_reducible refine stop_convert ⟨_, rfl⟩ ?_) | (with_reducible refine stop_convertB ⟨_, _, _, rfl⟩ ?_) | (with_reducible refine stop_eqSlice ⟨_, _, rfl⟩ ?_))
          go_ret2
          rw [Hdec.out]
          exact ⟨_, rfl, Sl.nil _ _ _ _, hc.trans hc3⟩
        · rw [if_pos ⟨rfl, by omega⟩] at Hdec
          have hk2 : ¬ (k : Int) < 1 := by omega
          go_wp2_with (first | (with_reducible refine stop_append ?_) | (with_reducible refine stop_copy ?_) | (with_reducible refine stop_make ?_) | (with_reducible refine stop_lookup ?_) | (with_reducible refine stop_update ?_) | (with_reducible refine stop_slice ?_) | (with_reducible refine stop_range ?_) | (with_reducible refine stop_next ?_) | (with_reducible refine stop_convert ⟨_, rfl⟩ ?_) | (with_reducible refine stop_convertB ⟨_, _, _, rfl⟩ ?_) | (with_reducible refine stop_eqSlice ⟨_, _, rfl⟩ ?_))
          refine Hend.out.mono ?_
          rintro e w3 ⟨rfl, hc3⟩
          go_wp2_with (first | (with_reducible refine stop_append ?_) | (with_reducible refine stop_copy ?_) | (with_reducible refine stop_make ?_) | (with_reducible refine stop_lookup ?_) | (with_reducible refine stop_update ?_) | (with_reducible refine stop_slice ?_) | (with_reducible refine stop_range ?_) | (with_reducible refine stop_next ?_) | (with_reducible refine stop_convert ⟨_, rfl⟩ ?_) | (with_reducible refine stop_convertB ⟨_, _, _, rfl⟩ ?_) | (with_reducible refine stop_eqSlice ⟨_, _, rfl⟩ ?_))
          go_ret2
          rw [Hdec.out]
          exact ⟨_, rfl, Hsl.out.keepNo hc3, hc.trans hc3⟩
      · rw [if_neg (fun h => he h.1)] at Hdec
        generalize endE sk ek = z at *
        have he2 : (z != 0) = true := by simpa using he
        have he3 : (z == 0) = false := by simpa using he
        clear he
        go_wp2_with (first | (with_reducible refine stop_append ?_) | (with_reducible refine stop_copy ?_) | (with_reducible refine stop_make ?_) | (with_reducible refine stop_lookup ?_) | (with_reducible refine stop_update ?_) | (with_reducible refine stop_slice ?_) | (with_reducible refine stop_range ?_) | (with_reducible refine stop_next ?_) | (with_reducible refine stop_convert ⟨_, rfl⟩ ?_) | (with_reducible refine stop_convertB ⟨_, _, _, rfl⟩ ?_) | (with_reducible refine stop_eqSlice ⟨_, _, rfl⟩ ?_))
        refine Hend.out.mono ?_
        rintro e w3 ⟨rfl, hc3⟩
        go_wp2_with (first | (with_reducible refine stop_append ?_) | (with_reducible refine stop_copy ?_) | (with_reducible refine stop_make ?_) | (with_reducible refine stop_lookup ?_) | (with_reducible refine stop_update ?_) | (with_reducible refine stop_slice ?_) | (with_reducible refine stop_range ?_) | (with_reducible refine stop_next ?_) | (with_reducible refine stop_convert ⟨_, rfl⟩ ?_) | (with_reducible refine stop_convertB ⟨_, _, _, rfl⟩ ?_) | (with_reducible refine stop_eqSlice ⟨_, _, rfl⟩ ?_))
        go_ret2
        rw [Hdec.out]
        exact ⟨_, rfl, Sl.nil _ _ _ _, hc.trans hc3⟩
end Go.Proofs.Ytlpnbbjmcmjkpaa
