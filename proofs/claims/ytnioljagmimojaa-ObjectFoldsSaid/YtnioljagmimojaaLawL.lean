/- The statement ObjectLates, walked. -/
import Derived.Test.YtnioljagmimojaaLawK
set_option linter.unusedVariables false
set_option linter.unusedSimpArgs false
namespace Go.Proofs.Ytnioljagmimojaa
open Go.RowKit Cb

theorem askE_zero {s : Store} {t : Tx} (h : askE s t = 0) : rightB t.1 t.2.1 t.2.2 = true ∧ (mget s.ids t.1).isSome = false := by
  unfold askE at h
  split at h
  · rename_i h1
    split at h
    · simp at h
    · rename_i h2; exact ⟨h1, by simpa using h2⟩
  · simp at h
theorem rowsL (w : World) (f : Int) (v : ByteArray) : Sl No ((w.alloc (.cells #[.int .i64 f] 3)).alloc (.cells #[.int .i64 f, .string v] 63)) (.slice (some ⟨w.heap.size, 0, none⟩) 1 1) [f] ∧
    Sl No ((w.alloc (.cells #[.int .i64 f] 3)).alloc (.cells #[.int .i64 f, .string v] 63)) (.slice (some ⟨w.heap.size + 1, 0, none⟩) 1 1) [(f, v)] ∧
    Chg No w ((w.alloc (.cells #[.int .i64 f] 3)).alloc (.cells #[.int .i64 f, .string v] 63)) := by
  have e1 : (w.alloc (.cells #[.int .i64 f] 3)).heap.size = w.heap.size + 1 := by simp
  have a := Sl.lit1 (F := No) (w := w) (T := 3) (y := f) (C := #[.int .i64 f]) rfl rfl (not_no _)
  have b := Sl.lit1 (F := No) (w := w.alloc (.cells #[.int .i64 f] 3)) (T := 63) (y := (f, v)) (C := #[.int .i64 f, .string v]) rfl ⟨[.int .i64 f], [.string v], rfl, rfl, rfl⟩ (not_no _)
  rw [e1] at b
  exact ⟨a.keepNo ((Chg.refl No _).alloc _), b, ((Chg.refl No w).alloc _).alloc _⟩
theorem fewB_yes {xs : List ByteArray} (h : fewB xs = true) : xs.length ≤ 40 ∧ sizes xs ≤ 10000 := by simpa [fewB] using h
set_option maxRecDepth 100000 in
set_option maxHeartbeats 1000000 in
theorem lates_few (F : Nat → Prop) (v : Value) (xs : List ByteArray) (f : Int) (w : World) (h : Sl F w v xs) (hl : xs.length ≤ 140737488351232) (hb : ∀ x ∈ xs, x.size ≤ 140737488351232) (hn : fewB xs = false ∨ f < 0 ∨ 1073741824 < f) :
    Calls Try.prog 6 #[v, .int .i64 f] w fun e w' => e = .returned (.bool true) ∧ Chg No w w' := by
  have hfew : ∀ W, Chg No w W → Calls Try.prog 22 #[v] W fun e w' => e = .returned (.bool (fewB xs)) ∧ Chg No W w' := fun W hW => few_any F v xs W (h.keepNo hW) hl hb
  have H := Lib.hid hfew
  obtain ⟨A, c, rfl⟩ := h.slice
  clear hfew h
  have hn : fewB xs = false ∨ (fewB xs = true ∧ f < 0) ∨ (fewB xs = true ∧ ¬ f < 0 ∧ 1073741824 < f) := by
    rcases Bool.eq_false_or_eq_true (fewB xs) with hb | hb
    · by_cases h0 : f < 0
      · exact .inr (.inl ⟨hb, h0⟩)
      · rcases hn with h | h | h
        · rw [h] at hb; cases hb
        · exact absurd h h0
        · exact .inr (.inr ⟨hb, h0, h⟩)
    · exact .inl hb
  generalize fewB xs = fb at *
  rcases hn with rfl | ⟨rfl, hf⟩ | ⟨rfl, hf1, hf2⟩
  all_goals
    go_enter Try.func6, Try.ntmps6
    go_wp2_with (first | (with_reducible refine stop_append ?_) | (with_reducible refine stop_copy ?_) | (with_reducible refine stop_make ?_) | (with_reducible refine stop_lookup ?_) | (with_reducible refine stop_update ?_) | (with_reducible refine stop_slice ?_) | (with_reducible refine stop_range ?_) | (with_reducible refine stop_next ?_) | (with_reducible refine stop_convert ⟨_, rfl⟩ ?_) | (with_reducible refine stop_convertB ⟨_, _, _, rfl⟩ ?_) | (with_reducible refine stop_eqSlice ⟨_, _, rfl⟩ ?_))
    refine (new_any _).mono ?_
    rintro e w1 ⟨p, rc, ri, rfl, h1, hc1, hge⟩
    clear h1 hge
    go_wp2_with (first | (with_reducible refine stop_append ?_) | (with_reducible refine stop_copy ?_) | (with_reducible refine stop_make ?_) | (with_reducible refine stop_lookup ?_) | (with_reducible refine stop_update ?_) | (with_reducible refine stop_slice ?_) | (with_reducible refine stop_range ?_) | (with_reducible refine stop_next ?_) | (with_reducible refine stop_convert ⟨_, rfl⟩ ?_) | (with_reducible refine stop_convertB ⟨_, _, _, rfl⟩ ?_) | (with_reducible refine stop_eqSlice ⟨_, _, rfl⟩ ?_))
    refine (H.out _ hc1).mono ?_
    rintro e w2 ⟨rfl, hc2⟩
    go_wp2_with (first | (with_reducible refine stop_append ?_) | (with_reducible refine stop_copy ?_) | (with_reducible refine stop_make ?_) | (with_reducible refine stop_lookup ?_) | (with_reducible refine stop_update ?_) | (with_reducible refine stop_slice ?_) | (with_reducible refine stop_range ?_) | (with_reducible refine stop_next ?_) | (with_reducible refine stop_convert ⟨_, rfl⟩ ?_) | (with_reducible refine stop_convertB ⟨_, _, _, rfl⟩ ?_) | (with_reducible refine stop_eqSlice ⟨_, _, rfl⟩ ?_))
    refine (alive_any _).mono ?_
    rintro e w3 ⟨rfl, hc3⟩
    have hcw := (hc1.trans hc2).trans hc3
    go_wp2_with (first | (with_reducible refine stop_append ?_) | (with_reducible refine stop_copy ?_) | (with_reducible refine stop_make ?_) | (with_reducible refine stop_lookup ?_) | (with_reducible refine stop_update ?_) | (with_reducible refine stop_slice ?_) | (with_reducible refine stop_range ?_) | (with_reducible refine stop_next ?_) | (with_reducible refine stop_convert ⟨_, rfl⟩ ?_) | (with_reducible refine stop_convertB ⟨_, _, _, rfl⟩ ?_) | (with_reducible refine stop_eqSlice ⟨_, _, rfl⟩ ?_))
    go_ret
    exact ⟨rfl, hcw⟩
set_option maxRecDepth 100000 in
set_option maxHeartbeats 2000000 in
theorem lates_main (F : Nat → Prop) (v : Value) (xs : List ByteArray) (f : Int) (w : World) (h : Sl F w v xs) (hfb : fewB xs = true) (hf1 : ¬ f < 0) (hf2 : ¬ 1073741824 < f) :
    Calls Try.prog 6 #[v, .int .i64 f] w fun e w' => e = .returned (.bool true) ∧ Chg No w w' := by
  obtain ⟨hx40, hxs⟩ := fewB_yes hfb
  have hfew : ∀ W, Chg No w W → Calls Try.prog 22 #[v] W fun e w' => e = .returned (.bool true) ∧ Chg No W w' := fun W hW => by
    rw [← hfb]; exact few_any F v xs W (h.keepNo hW) (by omega) (fun x hx => by have := sizes_mem hx; omega)
  have Hfew := Lib.hid hfew
  obtain ⟨A, c, rfl⟩ := h.slice
  have H := Lib.hid h
  clear hfew h hfb
  go_enter Try.func6, Try.ntmps6
  go_wp2_with (first | (with_reducible refine stop_append ?_) | (with_reducible refine stop_copy ?_) | (with_reducible refine stop_make ?_) | (with_reducible refine stop_lookup ?_) | (with_reducible refine stop_update ?_) | (with_reducible refine stop_slice ?_) | (with_reducible refine stop_range ?_) | (with_reducible refine stop_next ?_) | (with_reducible refine stop_convert ⟨_, rfl⟩ ?_) | (with_reducible refine stop_convertB ⟨_, _, _, rfl⟩ ?_) | (with_reducible refine stop_eqSlice ⟨_, _, rfl⟩ ?_))
  refine (new_any _).mono ?_
  rintro e w1 ⟨p, rc, ri, rfl, h1, hc1, hge⟩
  have H1 := Lib.hid h1
  clear h1
  go_wp2_with (first | (with_reducible refine stop_append ?_) | (with_reducible refine stop_copy ?_) | (with_reducible refine stop_make ?_) | (with_reducible refine stop_lookup ?_) | (with_reducible refine stop_update ?_) | (with_reducible refine stop_slice ?_) | (with_reducible refine stop_range ?_) | (with_reducible refine stop_next ?_) | (with_reducible refine stop_convert ⟨_, rfl⟩ ?_) | (with_reducible refine stop_convertB ⟨_, _, _, rfl⟩ ?_) | (with_reducible refine stop_eqSlice ⟨_, _, rfl⟩ ?_))
  refine (Hfew.out _ hc1).mono ?_
  rintro e w2 ⟨rfl, hc2⟩
  have hc02 := hc1.trans hc2
  have H2 := Lib.hid (H1.out.keepNo hc2)
  clear hc1 hc2 H1
  go_wp2_with (first | (with_reducible refine stop_append ?_) | (with_reducible refine stop_copy ?_) | (with_reducible refine stop_make ?_) | (with_reducible refine stop_lookup ?_) | (with_reducible refine stop_update ?_) | (with_reducible refine stop_slice ?_) | (with_reducible refine stop_range ?_) | (with_reducible refine stop_next ?_) | (with_reducible refine stop_convert ⟨_, rfl⟩ ?_) | (with_reducible refine stop_convertB ⟨_, _, _, rfl⟩ ?_) | (with_reducible refine stop_eqSlice ⟨_, _, rfl⟩ ?_))
  go_loopw [45] (fun v45 wr => ∃ (k : Nat), k ≤ xs.length ∧ v45 = .int .i64 k ∧ Sto wr p rc ri (addAll s0 (xs.take k)) ∧ Chg No w wr) (fun v45 _ => xs.length - (intOf v45).toNat)
  case atStart => exact ⟨0, by omega, rfl, H2.out, hc02⟩
  case round =>
    obtain ⟨k, hk, rfl, hs, hc⟩ := hrel
    clear H2 hc02
    have Hs := Lib.hid hs; clear hs
    by_cases hlt : k < xs.length
    · obtain ⟨b, o, d, rfl, _, hbl, rfl, ha⟩ := (H.out.keepNo hc).get k hlt
      have ha0 := ha 0 _ rfl
      simp only [show Rep.n ByteArray = 1 from rfl, Nat.mul_one, Nat.add_zero] at ha0
      have hbd := (addAll_bd xs k hk).le (C := 1000000000) (by omega)
      have hsz := sizes_mem (List.getElem_mem hlt)
      have Hsn := Lib.hid (addAll_snoc s0 xs k hlt)
      have Hbd := Lib.hid hbd
      clear ha hbd
      generalize xs[k] = x at ha0 Hsn hsz
      generalize addAll s0 (xs.take k) = s at Hs Hsn Hbd
      go_wp2_with (first | (with_reducible refine stop_append ?_) | (with_reducible refine stop_copy ?_) | (with_reducible refine stop_make ?_) | (with_reducible refine stop_lookup ?_) | (with_reducible refine stop_update ?_) | (with_reducible refine stop_slice ?_) | (with_reducible refine stop_range ?_) | (with_reducible refine stop_next ?_) | (with_reducible refine stop_convert ⟨_, rfl⟩ ?_) | (with_reducible refine stop_convertB ⟨_, _, _, rfl⟩ ?_) | (with_reducible refine stop_eqSlice ⟨_, _, rfl⟩ ?_))
      refine (add_any p rc ri s x _ Hs.out (by omega) Hbd.out).mono ?_
      rintro e w3 ⟨rfl, hs3, hc3⟩
      have hc03 := hc.old hc3 hge
      rw [← Hsn.out] at hs3
      have Hs3 := Lib.hid hs3
      clear hs3 hc3
      go_wp2_with (first | (with_reducible refine stop_append ?_) | (with_reducible refine stop_copy ?_) | (with_reducible refine stop_make ?_) | (with_reducible refine stop_lookup ?_) | (with_reducible refine stop_update ?_) | (with_reducible refine stop_slice ?_) | (with_reducible refine stop_range ?_) | (with_reducible refine stop_next ?_) | (with_reducible refine stop_convert ⟨_, rfl⟩ ?_) | (with_reducible refine stop_convertB ⟨_, _, _, rfl⟩ ?_) | (with_reducible refine stop_eqSlice ⟨_, _, rfl⟩ ?_))
      go_roundw
      case rel => exact ⟨k + 1, by omega, by go_num, Hs3.out, hc03⟩
      case measure => simp [intOf]; omega
    · obtain rfl : k = xs.length := by omega
      have hbd := addAll_bd xs xs.length (Nat.le_refl _)
      rw [List.take_length] at hbd
      have hs := Hs.out
      rw [List.take_length] at hs
      have hbd2 := hbd.le (C := 1000) (by omega)
      clear hbd Hs hlt
      generalize addAll s0 xs = s at hs hbd2
      have Hbd := Lib.hid hbd2
      clear hbd2
      obtain ⟨t1, ht1⟩ : ∃ t, t = askT s 1099511627776 [f] [(f, ⟨#[108, 97, 116, 101]⟩)] := ⟨_, rfl⟩
      obtain ⟨t2, ht2⟩ : ∃ t, t = askT s 1099511627775 [] [(f, ⟨#[115, 111, 111, 110]⟩)] := ⟨_, rfl⟩
      have hr1 : askE s t1 = 0 → askR s t1 = t1 := fun h => by unfold askR; rw [if_pos h]
      have hr2 : askE s t2 = 0 → askR s t2 = t2 := fun h => by unfold askR; rw [if_pos h]
      have hz1 : askE s t1 = 0 → rightB t1.1 t1.2.1 t1.2.2 = true ∧ (mget s.ids t1.1).isSome = false := fun h => askE_zero h
      have hz2 : askE s t2 = 0 → rightB t2.1 t2.2.1 t2.2.2 = true ∧ (mget s.ids t2.1).isSome = false := fun h => askE_zero h
      have Hr1 := Lib.hid hr1; have Hr2 := Lib.hid hr2; have Hz1 := Lib.hid hz1; have Hz2 := Lib.hid hz2
      clear hr1 hr2 hz1 hz2
      obtain ⟨E1, hE1⟩ : ∃ e, e = askE s t1 := ⟨_, rfl⟩
      obtain ⟨E2, hE2⟩ : ∃ e, e = askE s t2 := ⟨_, rfl⟩
      have a1 : ∀ W, Sto W p rc ri s → Calls Try.prog 24 #[.pointer (some ⟨p, 0, none⟩), .int .i64 1099511627776, .slice (some ⟨W.heap.size, 0, none⟩) 1 1, .slice (some ⟨W.heap.size + 1, 0, none⟩) 1 1]
          ((W.alloc (.cells #[.int .i64 f] 3)).alloc (.cells #[.int .i64 f, .string ⟨#[108, 97, 116, 101]⟩] 63)) fun e w' => ∃ v1 v2, e = .returned (.tuple #[.agg #[.int .i64 (askR s t1).1, v1, v2], .int .i64 E1]) ∧ Chg No W w' ∧ Sl No w' v1 (askR s t1).2.1 ∧ Sl No w' v2 (askR s t1).2.2 := fun W hW => by
        obtain ⟨k1, k2, k3⟩ := rowsL W f ⟨#[108, 97, 116, 101]⟩
        refine (ask_any No No p rc ri s _ _ _ _ _ _ (hW.keepNo k3) k1 k2 (by simp) (by simp)).mono ?_
        rintro e w' ⟨v1, v2, rfl, hc, h1, h2⟩
        rw [← ht1] at h1 h2 ⊢
        rw [hE1]
        exact ⟨v1, v2, rfl, k3.trans hc, h1.no, h2.no⟩
      have a2 : ∀ W, Sto W p rc ri s → Calls Try.prog 24 #[.pointer (some ⟨p, 0, none⟩), .int .i64 1099511627775, .slice none 0 0, .slice (some ⟨W.heap.size, 0, none⟩) 1 1]
          (W.alloc (.cells #[.int .i64 f, .string ⟨#[115, 111, 111, 110]⟩] 63)) fun e w' => ∃ v1 v2, e = .returned (.tuple #[.agg #[.int .i64 (askR s t2).1, v1, v2], .int .i64 E2]) ∧ Chg No W w' ∧ Sl No w' v1 (askR s t2).2.1 ∧ Sl No w' v2 (askR s t2).2.2 := fun W hW => by
        have k3 := (Chg.refl No W).alloc (.cells #[.int .i64 f, .string ⟨#[115, 111, 111, 110]⟩] 63)
        have k2 := Sl.lit1 (F := No) (w := W) (T := 63) (y := (f, (⟨#[115, 111, 111, 110]⟩ : ByteArray))) (C := #[.int .i64 f, .string ⟨#[115, 111, 111, 110]⟩]) rfl ⟨[.int .i64 f], [.string ⟨#[115, 111, 111, 110]⟩], rfl, rfl, rfl⟩ (not_no _)
        refine (ask_any No No p rc ri s _ _ _ [] _ _ (hW.keepNo k3) (Sl.nil _ _ _ _) k2 (by simp) (by simp)).mono ?_
        rintro e w' ⟨v1, v2, rfl, hc, h1, h2⟩
        rw [← ht2] at h1 h2 ⊢
        rw [hE2]
        exact ⟨v1, v2, rfl, k3.trans hc, h1.no, h2.no⟩
      have A1 := Lib.hid a1; have A2 := Lib.hid a2
      clear a1 a2
      have hcase : (E1 = 0 ∧ E2 = 0) ∨ ((E1 == 0) = false ∧ (E1 != 0) = true) ∨ (E1 = 0 ∧ (E2 == 0) = false ∧ (E2 != 0) = true) := by
        by_cases h1 : E1 = 0
        · by_cases h2 : E2 = 0
          · exact .inl ⟨h1, h2⟩
          · exact .inr (.inr ⟨h1, by simpa using h2, by simpa using h2⟩)
        · exact .inr (.inl ⟨by simpa using h1, by simpa using h1⟩)
      have Hs := Lib.hid hs
      clear hs
      rcases hcase with ⟨rfl, rfl⟩ | hno
      · have ⟨g1, g2⟩ := Hz1.out hE1.symm
        have ⟨g3, g4⟩ := Hz2.out hE2.symm
        rw [Hr1.out hE1.symm] at A1
        rw [Hr2.out hE2.symm] at A2
        clear Hz1 Hz2 Hr1 Hr2 hE1 hE2
        have et1 : t1 = lateT f (verS s f) := ht1
        have et2 : t2 = soonT f := ht2
        clear ht1 ht2
        obtain ⟨S2, hS2⟩ : ∃ S, S = (⟨mset s.cs f (⟨#[115, 111, 111, 110]⟩, verS s f + 1), mset s.ids 1099511627775 true, s.n + 1⟩ : Store) := ⟨_, rfl⟩
        obtain ⟨S3, hS3⟩ : ∃ S, S = (⟨mset s.cs f (⟨#[115, 111, 111, 110]⟩, verS s f + 1), mset (mset s.ids 1099511627775 true) 1099511627776 false, s.n + 1⟩ : Store) := ⟨_, rfl⟩
        have ga : addD s (encB t2) = (S2, true) := by rw [addD_enc g3, hS2, et2]; exact soon_done (by rw [et2] at g4; exact g4)
        have gb : addD S2 (encB t1) = (S3, true) := by rw [addD_enc g1, hS2, hS3, et1]; exact late_stale (by rw [et1] at g2; exact g2)
        have gv : valS S3 f = ⟨#[115, 111, 111, 110]⟩ := by rw [hS3]; simp [valS, mget_mset]
        have gd : (mget S3.ids 1099511627776).getD false = false := by rw [hS3]; simp [mget_mset]
        have gi : (mget S3.ids 1099511627776).isSome = true := by rw [hS3]; simp [mget_mset]
        have gB : BdS 1000000000 S2 := by have := (addD_bd (d := encB t2) Hbd.out).le (C := 1000000000) (by omega); rw [ga] at this; exact this
        have z1 := encB_size g1
        have z2 := encB_size g3
        have G1 := Lib.hid g1; have G3 := Lib.hid g3; have GA := Lib.hid ga; have GB := Lib.hid gb; have GV := Lib.hid gv; have GD := Lib.hid gd; have GI := Lib.hid gi; have GS := Lib.hid gB
        clear g1 g2 g3 g4 ga gb gv gd gi gB hS2 hS3 et1 et2
        go_wp2_with (first | (with_reducible refine stop_append ?_) | (with_reducible refine stop_copy ?_) | (with_reducible refine stop_make ?_) | (with_reducible refine stop_lookup ?_) | (with_reducible refine stop_update ?_) | (with_reducible refine stop_slice ?_) | (with_reducible refine stop_range ?_) | (with_reducible refine stop_next ?_) | (with_reducible refine stop_convert ⟨_, rfl⟩ ?_) | (with_reducible refine stop_convertB ⟨_, _, _, rfl⟩ ?_) | (with_reducible refine stop_eqSlice ⟨_, _, rfl⟩ ?_))
        refine (A1.out _ Hs.out).mono ?_
        rintro e w3 ⟨v1, v2, rfl, hc3, h1, h2⟩
        obtain ⟨B1, c1, rfl⟩ := h1.slice
        obtain ⟨B2, c2, rfl⟩ := h2.slice
        have Hs3 := Lib.hid (Hs.out.keepNo hc3)
        have hc03 := hc.trans hc3
        clear Hs hc3 hc
        go_wp2_with (first | (with_reducible refine stop_append ?_) | (with_reducible refine stop_copy ?_) | (with_reducible refine stop_make ?_) | (with_reducible refine stop_lookup ?_) | (with_reducible refine stop_update ?_) | (with_reducible refine stop_slice ?_) | (with_reducible refine stop_range ?_) | (with_reducible refine stop_next ?_) | (with_reducible refine stop_convert ⟨_, rfl⟩ ?_) | (with_reducible refine stop_convertB ⟨_, _, _, rfl⟩ ?_) | (with_reducible refine stop_eqSlice ⟨_, _, rfl⟩ ?_))
        have o8 := alloc_obj w3 (.cells #[.int .i64 t1.1, .slice B1 t1.2.1.length c1, .slice B2 t1.2.2.length c2] 33)
        have c34 := (Chg.refl No w3).alloc (.cells #[.int .i64 t1.1, .slice B1 t1.2.1.length c1, .slice B2 t1.2.2.length c2] 33)
        have e4 : (w3.alloc (.cells #[.int .i64 t1.1, .slice B1 t1.2.1.length c1, .slice B2 t1.2.2.length c2] 33)).heap.size = w3.heap.size + 1 := by simp
        generalize w3.alloc (.cells #[.int .i64 t1.1, .slice B1 t1.2.1.length c1, .slice B2 t1.2.2.length c2] 33) = w4 at *
        rw [← e4]
        clear e4
        generalize w3.heap.size = q8 at *
        have Hs4 := Lib.hid (Hs3.out.keepNo c34)
        have h1 := h1.keepNo c34
        have h2 := h2.keepNo c34
        refine (A2.out _ Hs4.out).mono ?_
        rintro e w5 ⟨u1, u2, rfl, hc5, k1, k2⟩
        obtain ⟨D1, d1, rfl⟩ := k1.slice
        obtain ⟨D2, d2, rfl⟩ := k2.slice
        have o8 := hc5.obj o8 (not_no _)
        have Hs5 := Lib.hid (Hs4.out.keepNo hc5)
        have hc05 := (hc03.trans c34).trans hc5
        have h1 := h1.keepNo hc5
        have h2 := h2.keepNo hc5
        have y0 := cell_obj (i := 0) o8 rfl
        have y1 := cell_obj (i := 1) o8 rfl
        have y2 := cell_obj (i := 2) o8 rfl
        have z0 := ((Chg.refl No w5).alloc (.cells #[.int .i64 t2.1, .slice D1 t2.2.1.length d1, .slice D2 t2.2.2.length d2] 33)).cell y0 (not_no _)
        have z1 := ((Chg.refl No w5).alloc (.cells #[.int .i64 t2.1, .slice D1 t2.2.1.length d1, .slice D2 t2.2.2.length d2] 33)).cell y1 (not_no _)
        have z2 := ((Chg.refl No w5).alloc (.cells #[.int .i64 t2.1, .slice D1 t2.2.1.length d1, .slice D2 t2.2.2.length d2] 33)).cell y2 (not_no _)
        have hne : q8 ≠ w5.heap.size := by have := lt_of_heap o8; omega
        clear Hs3 Hs4 hc5 c34 hc03
        go_wp2_with (first | (with_reducible refine stop_append ?_) | (with_reducible refine stop_copy ?_) | (with_reducible refine stop_make ?_) | (with_reducible refine stop_lookup ?_) | (with_reducible refine stop_update ?_) | (with_reducible refine stop_slice ?_) | (with_reducible refine stop_range ?_) | (with_reducible refine stop_next ?_) | (with_reducible refine stop_convert ⟨_, rfl⟩ ?_) | (with_reducible refine stop_convertB ⟨_, _, _, rfl⟩ ?_) | (with_reducible refine stop_eqSlice ⟨_, _, rfl⟩ ?_))
        clear y0 y1 y2 z0 z1 z2
        have o10 := alloc_obj w5 (.cells #[.int .i64 t2.1, .slice D1 t2.2.1.length d1, .slice D2 t2.2.2.length d2] 33)
        have c56 := (Chg.refl No w5).alloc (.cells #[.int .i64 t2.1, .slice D1 t2.2.1.length d1, .slice D2 t2.2.2.length d2] 33)
        generalize w5.alloc (.cells #[.int .i64 t2.1, .slice D1 t2.2.1.length d1, .slice D2 t2.2.2.length d2] 33) = w6 at *
        generalize w5.heap.size = q10 at *
        have Hs6 := Lib.hid (Hs5.out.keepNo c56)
        have o8 := c56.obj o8 (not_no _)
        have hc06 := hc05.trans c56
        have h1 := h1.keepNo c56
        have h2 := h2.keepNo c56
        have k1 := k1.keepNo c56
        have k2 := k2.keepNo c56
        have x0 := cell_obj (i := 0) o8 rfl
        have x1 := cell_obj (i := 1) o8 rfl
        have x2 := cell_obj (i := 2) o8 rfl
        clear Hs5 hc05 c56
        refine (data_enc No No t1 G1.out _ _ w6 h1 h2).mono ?_
        rintro e w7 ⟨rfl, hc7⟩
        have o10 := hc7.obj o10 (not_no _)
        have x0 := cell_obj (i := 0) o10 rfl
        have x1 := cell_obj (i := 1) o10 rfl
        have x2 := cell_obj (i := 2) o10 rfl
        have k1 := k1.keepNo hc7
        have k2 := k2.keepNo hc7
        go_wp2_with (first | (with_reducible refine stop_append ?_) | (with_reducible refine stop_copy ?_) | (with_reducible refine stop_make ?_) | (with_reducible refine stop_lookup ?_) | (with_reducible refine stop_update ?_) | (with_reducible refine stop_slice ?_) | (with_reducible refine stop_range ?_) | (with_reducible refine stop_next ?_) | (with_reducible refine stop_convert ⟨_, rfl⟩ ?_) | (with_reducible refine stop_convertB ⟨_, _, _, rfl⟩ ?_) | (with_reducible refine stop_eqSlice ⟨_, _, rfl⟩ ?_))
        refine (data_enc No No t2 G3.out _ _ w7 k1 k2).mono ?_
        rintro e w8 ⟨rfl, hc8⟩
        have hc68 := hc7.trans hc8
        have Hs8 := Lib.hid (Hs6.out.keepNo hc68)
        have hc08 := hc06.trans hc68
        clear Hs6 hc7 hc8 hc68 hc06 o8 o10 x0 x1 x2 h1 h2 k1 k2
        go_wp2_with (first | (with_reducible refine stop_append ?_) | (with_reducible refine stop_copy ?_) | (with_reducible refine stop_make ?_) | (with_reducible refine stop_lookup ?_) | (with_reducible refine stop_update ?_) | (with_reducible refine stop_slice ?_) | (with_reducible refine stop_range ?_) | (with_reducible refine stop_next ?_) | (with_reducible refine stop_convert ⟨_, rfl⟩ ?_) | (with_reducible refine stop_convertB ⟨_, _, _, rfl⟩ ?_) | (with_reducible refine stop_eqSlice ⟨_, _, rfl⟩ ?_))
        refine (add_any p rc ri s (encB t2) w8 Hs8.out z2 (Hbd.out.le (by omega))).mono ?_
        rintro e w9 ⟨rfl, hs9, hc9⟩
        rw [GA.out] at hs9
        simp only [GA.out]
        have hc09 := hc08.old hc9 hge
        have Hs9 := Lib.hid hs9
        clear Hs8 hs9 hc9 hc08
        go_wp2_with (first | (with_reducible refine stop_append ?_) | (with_reducible refine stop_copy ?_) | (with_reducible refine stop_make ?_) | (with_reducible refine stop_lookup ?_) | (with_reducible refine stop_update ?_) | (with_reducible refine stop_slice ?_) | (with_reducible refine stop_range ?_) | (with_reducible refine stop_next ?_) | (with_reducible refine stop_convert ⟨_, rfl⟩ ?_) | (with_reducible refine stop_convertB ⟨_, _, _, rfl⟩ ?_) | (with_reducible refine stop_eqSlice ⟨_, _, rfl⟩ ?_))
        refine (add_any p rc ri S2 (encB t1) w9 Hs9.out z1 GS.out).mono ?_
        rintro e w10 ⟨rfl, hs10, hc10⟩
        rw [GB.out] at hs10
        simp only [GB.out]
        have hc010 := hc09.old hc10 hge
        have Hs10 := Lib.hid hs10
        clear Hs9 hs10 hc10 hc09
        go_wp2_with (first | (with_reducible refine stop_append ?_) | (with_reducible refine stop_copy ?_) | (with_reducible refine stop_make ?_) | (with_reducible refine stop_lookup ?_) | (with_reducible refine stop_update ?_) | (with_reducible refine stop_slice ?_) | (with_reducible refine stop_range ?_) | (with_reducible refine stop_next ?_) | (with_reducible refine stop_convert ⟨_, rfl⟩ ?_) | (with_reducible refine stop_convertB ⟨_, _, _, rfl⟩ ?_) | (with_reducible refine stop_eqSlice ⟨_, _, rfl⟩ ?_))
        refine (get_any p rc ri S3 f w10 Hs10.out).mono ?_
        rintro e w11 ⟨rfl, hc11⟩
        rw [GV.out]
        have hc011 := hc010.trans hc11
        have Hs11 := Lib.hid (Hs10.out.keepNo hc11)
        clear Hs10 hc11 hc010
        go_wp2_with (first | (with_reducible refine stop_append ?_) | (with_reducible refine stop_copy ?_) | (with_reducible refine stop_make ?_) | (with_reducible refine stop_lookup ?_) | (with_reducible refine stop_update ?_) | (with_reducible refine stop_slice ?_) | (with_reducible refine stop_range ?_) | (with_reducible refine stop_next ?_) | (with_reducible refine stop_convert ⟨_, rfl⟩ ?_) | (with_reducible refine stop_convertB ⟨_, _, _, rfl⟩ ?_) | (with_reducible refine stop_eqSlice ⟨_, _, rfl⟩ ?_))
        refine (outcome_any p rc ri S3 _ w11 Hs11.out).mono ?_
        rintro e w12 ⟨rfl, rfl⟩
        rw [GD.out, GI.out]
        go_wp2_with (first | (with_reducible refine stop_append ?_) | (with_reducible refine stop_copy ?_) | (with_reducible refine stop_make ?_) | (with_reducible refine stop_lookup ?_) | (with_reducible refine stop_update ?_) | (with_reducible refine stop_slice ?_) | (with_reducible refine stop_range ?_) | (with_reducible refine stop_next ?_) | (with_reducible refine stop_convert ⟨_, rfl⟩ ?_) | (with_reducible refine stop_convertB ⟨_, _, _, rfl⟩ ?_) | (with_reducible refine stop_eqSlice ⟨_, _, rfl⟩ ?_))
        refine (alive_any _).mono ?_
        rintro e w13 ⟨rfl, hc13⟩
        have hcw := hc011.trans hc13
        go_wp2_with (first | (with_reducible refine stop_append ?_) | (with_reducible refine stop_copy ?_) | (with_reducible refine stop_make ?_) | (with_reducible refine stop_lookup ?_) | (with_reducible refine stop_update ?_) | (with_reducible refine stop_slice ?_) | (with_reducible refine stop_range ?_) | (with_reducible refine stop_next ?_) | (with_reducible refine stop_convert ⟨_, rfl⟩ ?_) | (with_reducible refine stop_convertB ⟨_, _, _, rfl⟩ ?_) | (with_reducible refine stop_eqSlice ⟨_, _, rfl⟩ ?_))
        go_ret
        exact ⟨rfl, hcw⟩
      · clear Hr1 Hr2 Hz1 Hz2 ht1 ht2 hE1 hE2
        generalize askR s t1 = r1 at A1
        generalize askR s t2 = r2 at A2
        rcases hno with ⟨hq1, hq2⟩ | ⟨rfl, hq1, hq2⟩
        all_goals
          go_wp2_with (first | (with_reducible refine stop_append ?_) | (with_reducible refine stop_copy ?_) | (with_reducible refine stop_make ?_) | (with_reducible refine stop_lookup ?_) | (with_reducible refine stop_update ?_) | (with_reducible refine stop_slice ?_) | (with_reducible refine stop_range ?_) | (with_reducible refine stop_next ?_) | (with_reducible refine stop_convert ⟨_, rfl⟩ ?_) | (with_reducible refine stop_convertB ⟨_, _, _, rfl⟩ ?_) | (with_reducible refine stop_eqSlice ⟨_, _, rfl⟩ ?_))
          refine (A1.out _ Hs.out).mono ?_
          rintro e w3 ⟨v1, v2, rfl, hc3, h1, h2⟩
          obtain ⟨B1, c1, rfl⟩ := h1.slice
          obtain ⟨B2, c2, rfl⟩ := h2.slice
          have Hs3 := Lib.hid (Hs.out.keepNo hc3)
          have hc03 := hc.trans hc3
          clear Hs hc3 hc h1 h2
          go_wp2_with (first | (with_reducible refine stop_append ?_) | (with_reducible refine stop_copy ?_) | (with_reducible refine stop_make ?_) | (with_reducible refine stop_lookup ?_) | (with_reducible refine stop_update ?_) | (with_reducible refine stop_slice ?_) | (with_reducible refine stop_range ?_) | (with_reducible refine stop_next ?_) | (with_reducible refine stop_convert ⟨_, rfl⟩ ?_) | (with_reducible refine stop_convertB ⟨_, _, _, rfl⟩ ?_) | (with_reducible refine stop_eqSlice ⟨_, _, rfl⟩ ?_))
          have c34 := (Chg.refl No w3).alloc (.cells #[.int .i64 r1.1, .slice B1 r1.2.1.length c1, .slice B2 r1.2.2.length c2] 33)
          have e4 : (w3.alloc (.cells #[.int .i64 r1.1, .slice B1 r1.2.1.length c1, .slice B2 r1.2.2.length c2] 33)).heap.size = w3.heap.size + 1 := by simp
          generalize w3.alloc (.cells #[.int .i64 r1.1, .slice B1 r1.2.1.length c1, .slice B2 r1.2.2.length c2] 33) = w4 at *
          rw [← e4]
          clear e4
          have Hs4 := Lib.hid (Hs3.out.keepNo c34)
          refine (A2.out _ Hs4.out).mono ?_
          rintro e w5 ⟨u1, u2, rfl, hc5, k1, k2⟩
          obtain ⟨D1, d1, rfl⟩ := k1.slice
          obtain ⟨D2, d2, rfl⟩ := k2.slice
          have hc05 := (hc03.trans c34).trans hc5
          clear Hs3 Hs4 hc5 c34 hc03 k1 k2
          go_wp2_with (first | (with_reducible refine stop_append ?_) | (with_reducible refine stop_copy ?_) | (with_reducible refine stop_make ?_) | (with_reducible refine stop_lookup ?_) | (with_reducible refine stop_update ?_) | (with_reducible refine stop_slice ?_) | (with_reducible refine stop_range ?_) | (with_reducible refine stop_next ?_) | (with_reducible refine stop_convert ⟨_, rfl⟩ ?_) | (with_reducible refine stop_convertB ⟨_, _, _, rfl⟩ ?_) | (with_reducible refine stop_eqSlice ⟨_, _, rfl⟩ ?_))
          refine (alive_any _).mono ?_
          rintro e w13 ⟨rfl, hc13⟩
          have hcw := (hc05.alloc _).trans hc13
          go_wp2_with (first | (with_reducible refine stop_append ?_) | (with_reducible refine stop_copy ?_) | (with_reducible refine stop_make ?_) | (with_reducible refine stop_lookup ?_) | (with_reducible refine stop_update ?_) | (with_reducible refine stop_slice ?_) | (with_reducible refine stop_range ?_) | (with_reducible refine stop_next ?_) | (with_reducible refine stop_convert ⟨_, rfl⟩ ?_) | (with_reducible refine stop_convertB ⟨_, _, _, rfl⟩ ?_) | (with_reducible refine stop_eqSlice ⟨_, _, rfl⟩ ?_))
          go_ret
          exact ⟨rfl, hcw⟩
end Go.Proofs.Ytnioljagmimojaa
