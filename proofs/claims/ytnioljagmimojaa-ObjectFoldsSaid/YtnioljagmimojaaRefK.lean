/- Walks of the document's object: Fold, walked. -/
import Derived.Test.YtnioljagmimojaaRefJ
set_option linter.unusedVariables false
set_option linter.unusedSimpArgs false
namespace Go.Proofs.Ytnioljagmimojaa
open Go.RowKit Cb

theorem foldl_snoc {α β : Type} (f : β → α → β) (b : β) (xs : List α) (k : Nat) (h : k < xs.length) : (xs.take (k + 1)).foldl f b = f ((xs.take k).foldl f b) xs[k] := by
  rw [List.take_succ_eq_append_getElem h, List.foldl_append]; rfl
/-- What lies beside a row that grows. -/
theorem sl_beside {α : Type} [Rep α] {G : Nat → Prop} {w w' : World} {u u' v : Value} {l : List α} (h : Sl (Or (OB u) G) w v l) (hg : Grew w w' u u') : Sl (Or (OB u') G) w' v l := by
  have h1 : Sl (Or (OB u) (Or (OB u') G)) w v l := h.weak (fun b hb g => by
    rcases g with g | g | g
    · exact .inl g
    · rcases hg.blk b g with h | h
      · exact .inl h
      · omega
    · exact .inr g)
  exact (h1.keep (hg.chg.weak (fun _ _ h => .inl h))).weak (fun _ _ g => .inr g)
set_option maxRecDepth 100000 in
set_option maxHeartbeats 4000000 in
theorem fold_any (F : Nat → Prop) (v : Value) (xs : List ByteArray) (w : World) (h : Sl F w v xs) (hl : xs.length ≤ 40) :
    Calls Try.prog 29 #[v] w fun e w' => ∃ v1 v2, e = .returned (.tuple #[v1, v2]) ∧ Chg No w w' ∧ Sl (Lt w.heap.size) w' v1 (foldK xs xs.length).1 ∧ Sl (Lt w.heap.size) w' v2 (foldK xs xs.length).2 := by
  obtain ⟨A, cA, rfl⟩ := h.slice
  have H := Lib.hid h
  clear h
  go_enter Try.func29, Try.ntmps29
  go_wp2_with (first | (with_reducible refine stop_append ?_) | (with_reducible refine stop_copy ?_) | (with_reducible refine stop_make ?_) | (with_reducible refine stop_lookup ?_) | (with_reducible refine stop_update ?_) | (with_reducible refine stop_slice ?_) | (with_reducible refine stop_range ?_) | (with_reducible refine stop_next ?_) | (with_reducible refine stop_convert ⟨_, rfl⟩ ?_) | (with_reducible refine stop_convertB ⟨_, _, _, rfl⟩ ?_) | (with_reducible refine stop_eqSlice ⟨_, _, rfl⟩ ?_))
  go_loopw [4, 5, 6] (fun v4 v5 v6 wr => ∃ (k : Nat) (vl vo : Value), k ≤ xs.length ∧ v6 = .int .i64 k ∧ v4 = vl ∧ v5 = vo ∧ Sl (Or (OB vo) (Lt w.heap.size)) wr vl (foldK xs k).1 ∧ Own No wr w.heap.size 3 vo (foldK xs k).2 ∧ Chg No w wr) (fun _ _ v6 _ => xs.length - (intOf v6).toNat)
  case atStart => exact ⟨0, _, _, by omega, rfl, rfl, rfl, Sl.nil _ _ _ _, Own.nil _ _ _ _, Chg.refl _ _⟩
  case round =>
    obtain ⟨k, vl, vo, hk, rfl, rfl, rfl, hsl, hown, hc⟩ := hrel
    obtain ⟨hvb, hll⟩ := foldK_ok xs k
    have hol := foldK_out xs k
    by_cases hlt : k < xs.length
    · obtain ⟨b, o, dd, rfl, _, hbl, rfl, ha⟩ := (H.out.keepNo hc).get k hlt
      have ha0 := ha 0 _ rfl
      simp only [show Rep.n ByteArray = 1 from rfl, Nat.mul_one, Nat.add_zero] at ha0
      have hfk : foldK xs (k + 1) = foldOne xs k xs[k] (foldK xs k) := by
        show foldOne xs k (xs.getD k ⟨#[]⟩) (foldK xs k) = _
        rw [List.getD_eq_getElem?_getD, List.getElem?_eq_getElem hlt]; rfl
      clear ha
      obtain ⟨l, hl1⟩ : ∃ l, l = (foldK xs k).1 := ⟨_, rfl⟩
      obtain ⟨os, hl2⟩ : ∃ l, l = (foldK xs k).2 := ⟨_, rfl⟩
      rw [show foldK xs k = (l, os) by rw [hl1, hl2]] at hfk
      rw [← hl1] at hsl hvb hll
      rw [← hl2] at hown hol
      generalize xs[k] = x at ha0 hfk
      have hp := fun W => refparse_both x W
      unfold TxPost at hp
      have hpl := parseO_len x.data.toList
      unfold foldOne at hfk
      have hcm : ∀ W, Chg No w W → Calls Try.prog 33 #[.slice (some ⟨b, o, none⟩) xs.length cA, .int .i64 (parseO x.data.toList).1] W fun e w' => e = .returned (.int .i64 (cameL xs (parseO x.data.toList).1)) ∧ Chg No W w' := fun W hW => came_any F _ xs _ W (H.out.keepNo hW) (by omega)
      have hcase : ((parseE x.data.toList == 0) = false ∧ (parseE x.data.toList != 0) = true ∧ foldK xs (k + 1) = (l, os ++ [0])) ∨ (parseE x.data.toList = 0 ∧ (cameL xs (parseO x.data.toList).1 == (k : Int)) = false ∧ (cameL xs (parseO x.data.toList).1 != (k : Int)) = true ∧ foldK xs (k + 1) = (l, os ++ [0])) ∨
          (parseE x.data.toList = 0 ∧ cameL xs (parseO x.data.toList).1 = k ∧ foldK xs (k + 1) = if (parseO x.data.toList).2.1.any (badL l) then (l, os ++ [1]) else ((parseO x.data.toList).2.2.foldl writtenL l, os ++ [2])) := by
        by_cases h1 : parseE x.data.toList = 0
        · by_cases h2 : cameL xs (parseO x.data.toList).1 = k
          · exact .inr (.inr ⟨h1, h2, by rw [hfk, if_pos ⟨h1, h2⟩]⟩)
          · exact .inr (.inl ⟨h1, by simpa using h2, by simpa using h2, by rw [hfk, if_neg (fun h => h2 h.2)]⟩)
        · exact .inl ⟨by simpa using h1, by simpa using h1, by rw [hfk, if_neg (fun h => h1 h.1)]⟩
      clear hl1 hl2 hfk
      generalize parseE x.data.toList = pe at hp hcase
      generalize parseO x.data.toList = po at hp hcase hpl hcm
      obtain ⟨pi, pr, pw⟩ := po
      simp only at hp hcase hpl hcm
      generalize cameL xs pi = cm at hcm hcase
      have Hp := Lib.hid hp; have Hcm := Lib.hid hcm
      have Hsl := Lib.hid hsl; have Hown := Lib.hid hown; have Hvb := Lib.hid hvb
      clear hp hcm hsl hown hvb
      go_wp2_with (first | (with_reducible refine stop_append ?_) | (with_reducible refine stop_copy ?_) | (with_reducible refine stop_make ?_) | (with_reducible refine stop_lookup ?_) | (with_reducible refine stop_update ?_) | (with_reducible refine stop_slice ?_) | (with_reducible refine stop_range ?_) | (with_reducible refine stop_next ?_) | (with_reducible refine stop_convert ⟨_, rfl⟩ ?_) | (with_reducible refine stop_convertB ⟨_, _, _, rfl⟩ ?_) | (with_reducible refine stop_eqSlice ⟨_, _, rfl⟩ ?_))
      refine (Hp.out wr).mono ?_
      rintro e w3 ⟨v1, v2, rfl, hc3, hs1, hs2⟩
      obtain ⟨B1, c1, rfl⟩ := hs1.slice
      obtain ⟨B2, c2, rfl⟩ := hs2.slice
      have o7 := alloc_obj w3 (.cells #[.int .i64 pi, .slice B1 pr.length c1, .slice B2 pw.length c2] 25)
      have c34 := (Chg.refl No w3).alloc (.cells #[.int .i64 pi, .slice B1 pr.length c1, .slice B2 pw.length c2] 25)
      have z0 := cell_obj (i := 0) o7 rfl
      have hc34 := hc3.trans c34
      have hs1 := hs1.keepNo c34
      have hs2 := hs2.keepNo c34
      have hq7 : wr.heap.size ≤ w3.heap.size := hc3.size
      have hobr : ∀ i, OB u5 i → w.heap.size ≤ i ∧ i < wr.heap.size := fun i hi => Hown.out.lt i hi
      have e4 : (w3.alloc (.cells #[.int .i64 pi, .slice B1 pr.length c1, .slice B2 pw.length c2] 25)).heap.size = w3.heap.size + 1 := by simp
      rcases hcase with ⟨hq1, hq2, hfk⟩ | ⟨rfl, hq1, hq2, hfk⟩ | ⟨rfl, rfl, hfk⟩
      · skip
        go_wp2_with (first | (with_reducible refine stop_append ?_) | (with_reducible refine stop_copy ?_) | (with_reducible refine stop_make ?_) | (with_reducible refine stop_lookup ?_) | (with_reducible refine stop_update ?_) | (with_reducible refine stop_slice ?_) | (with_reducible refine stop_range ?_) | (with_reducible refine stop_next ?_) | (with_reducible refine stop_convert ⟨_, rfl⟩ ?_) | (with_reducible refine stop_convertB ⟨_, _, _, rfl⟩ ?_) | (with_reducible refine stop_eqSlice ⟨_, _, rfl⟩ ?_))
        generalize w3.alloc (.cells #[.int .i64 pi, .slice B1 pr.length c1, .slice B2 pw.length c2] 25) = w4 at *
        rw [← e4]
        have own4 := Hown.out.keepFlat hc34 (fun _ _ f => f)
        have sl4 := Hsl.out.keepNo hc34
        have hcw4 := hc.trans hc34
        have hsz4 := hcw4.size
        refine step_append_flat (α := Int) (ys := [0]) Try.underlying50 info_int rfl (own4.alloc (.cells #[.int .i64 0] 3)) rfl rfl (Sl.lit1 (F := No) (y := (0 : Int)) rfl rfl (not_no _)) (by simp; omega) (by simp; omega) (by simp; omega) ?_
        intro v6 w6 hown6 hg6
        have hA4 := (Chg.refl No w4).alloc (.cells #[.int .i64 0] 3)
        have hsl6 := sl_beside (sl4.keepNo hA4) hg6
        have hc06 : Chg No w w6 := (hcw4.trans hA4).old hg6.chg (fun i hi => (hobr i hi).1)
        have Hsl6 := Lib.hid hsl6; have Hown6 := Lib.hid hown6; have Hfk := Lib.hid hfk
        clear own4 sl4 hown6 hg6 hsl6 hA4 hfk
        go_wp2_with (first | (with_reducible refine stop_append ?_) | (with_reducible refine stop_copy ?_) | (with_reducible refine stop_make ?_) | (with_reducible refine stop_lookup ?_) | (with_reducible refine stop_update ?_) | (with_reducible refine stop_slice ?_) | (with_reducible refine stop_range ?_) | (with_reducible refine stop_next ?_) | (with_reducible refine stop_convert ⟨_, rfl⟩ ?_) | (with_reducible refine stop_convertB ⟨_, _, _, rfl⟩ ?_) | (with_reducible refine stop_eqSlice ⟨_, _, rfl⟩ ?_))
        go_roundw
        case rel => exact ⟨k + 1, _, _, by omega, by go_num, rfl, rfl, by rw [Hfk.out]; exact Hsl6.out, by rw [Hfk.out]; exact Hown6.out, hc06⟩
        case measure => simp [intOf]; omega
      · skip
        go_wp2_with (first | (with_reducible refine stop_append ?_) | (with_reducible refine stop_copy ?_) | (with_reducible refine stop_make ?_) | (with_reducible refine stop_lookup ?_) | (with_reducible refine stop_update ?_) | (with_reducible refine stop_slice ?_) | (with_reducible refine stop_range ?_) | (with_reducible refine stop_next ?_) | (with_reducible refine stop_convert ⟨_, rfl⟩ ?_) | (with_reducible refine stop_convertB ⟨_, _, _, rfl⟩ ?_) | (with_reducible refine stop_eqSlice ⟨_, _, rfl⟩ ?_))
        generalize w3.alloc (.cells #[.int .i64 pi, .slice B1 pr.length c1, .slice B2 pw.length c2] 25) = w4 at *
        clear e4
        refine (Hcm.out w4 (hc.trans hc34)).mono ?_
        rintro e w5 ⟨rfl, hc5⟩
        have hcr5 := hc34.trans hc5
        go_wp2_with (first | (with_reducible refine stop_append ?_) | (with_reducible refine stop_copy ?_) | (with_reducible refine stop_make ?_) | (with_reducible refine stop_lookup ?_) | (with_reducible refine stop_update ?_) | (with_reducible refine stop_slice ?_) | (with_reducible refine stop_range ?_) | (with_reducible refine stop_next ?_) | (with_reducible refine stop_convert ⟨_, rfl⟩ ?_) | (with_reducible refine stop_convertB ⟨_, _, _, rfl⟩ ?_) | (with_reducible refine stop_eqSlice ⟨_, _, rfl⟩ ?_))
        have own4 := Hown.out.keepFlat hcr5 (fun _ _ f => f)
        have sl4 := Hsl.out.keepNo hcr5
        have hcw4 := hc.trans hcr5
        have hsz4 := hcw4.size
        refine step_append_flat (α := Int) (ys := [0]) Try.underlying50 info_int rfl (own4.alloc (.cells #[.int .i64 0] 3)) rfl rfl (Sl.lit1 (F := No) (y := (0 : Int)) rfl rfl (not_no _)) (by simp; omega) (by simp; omega) (by simp; omega) ?_
        intro v6 w6 hown6 hg6
        have hA4 := (Chg.refl No w5).alloc (.cells #[.int .i64 0] 3)
        have hsl6 := sl_beside (sl4.keepNo hA4) hg6
        have hc06 : Chg No w w6 := (hcw4.trans hA4).old hg6.chg (fun i hi => (hobr i hi).1)
        have Hsl6 := Lib.hid hsl6; have Hown6 := Lib.hid hown6; have Hfk := Lib.hid hfk
        clear own4 sl4 hown6 hg6 hsl6 hA4 hfk
        go_wp2_with (first | (with_reducible refine stop_append ?_) | (with_reducible refine stop_copy ?_) | (with_reducible refine stop_make ?_) | (with_reducible refine stop_lookup ?_) | (with_reducible refine stop_update ?_) | (with_reducible refine stop_slice ?_) | (with_reducible refine stop_range ?_) | (with_reducible refine stop_next ?_) | (with_reducible refine stop_convert ⟨_, rfl⟩ ?_) | (with_reducible refine stop_convertB ⟨_, _, _, rfl⟩ ?_) | (with_reducible refine stop_eqSlice ⟨_, _, rfl⟩ ?_))
        go_roundw
        case rel => exact ⟨k + 1, _, _, by omega, by go_num, rfl, rfl, by rw [Hfk.out]; exact Hsl6.out, by rw [Hfk.out]; exact Hown6.out, hc06⟩
        case measure => simp [intOf]; omega
      · skip
        go_wp2_with (first | (with_reducible refine stop_append ?_) | (with_reducible refine stop_copy ?_) | (with_reducible refine stop_make ?_) | (with_reducible refine stop_lookup ?_) | (with_reducible refine stop_update ?_) | (with_reducible refine stop_slice ?_) | (with_reducible refine stop_range ?_) | (with_reducible refine stop_next ?_) | (with_reducible refine stop_convert ⟨_, rfl⟩ ?_) | (with_reducible refine stop_convertB ⟨_, _, _, rfl⟩ ?_) | (with_reducible refine stop_eqSlice ⟨_, _, rfl⟩ ?_))
        generalize w3.alloc (.cells #[.int .i64 pi, .slice B1 pr.length c1, .slice B2 pw.length c2] 25) = w4 at *
        clear e4
        refine (Hcm.out w4 (hc.trans hc34)).mono ?_
        rintro e wC ⟨rfl, hc5⟩
        have hcr5 := hc34.trans hc5
        have o7 := hc5.obj o7 (not_no _)
        have Hs1 := Lib.hid (hs1.keepNo hc5); have Hs2 := Lib.hid (hs2.keepNo hc5)
        clear hs1 hs2 z0 hc5 c34 hc3 hc34
        generalize w3.heap.size = q7 at *
        obtain ⟨wO, rfl⟩ : ∃ W : World, W = wr := ⟨_, rfl⟩
        have hslC := Hsl.out.keepNo hcr5
        have HslC := Lib.hid hslC
        have hC0 := (hc.trans hcr5).size
        clear hslC
        go_wp2_with (first | (with_reducible refine stop_append ?_) | (with_reducible refine stop_copy ?_) | (with_reducible refine stop_make ?_) | (with_reducible refine stop_lookup ?_) | (with_reducible refine stop_update ?_) | (with_reducible refine stop_slice ?_) | (with_reducible refine stop_range ?_) | (with_reducible refine stop_next ?_) | (with_reducible refine stop_convert ⟨_, rfl⟩ ?_) | (with_reducible refine stop_convertB ⟨_, _, _, rfl⟩ ?_) | (with_reducible refine stop_eqSlice ⟨_, _, rfl⟩ ?_))
        go_loopw [9, 10] (fun v9 v10 wr => ∃ (j : Nat) (dv : Int), j ≤ pr.length ∧ v10 = .int .i64 j ∧ v9 = .int .i64 dv ∧ (dv = if (pr.take j).any (badL l) then 1 else 2) ∧ Chg No wC wr) (fun _ v10 _ => pr.length - (intOf v10).toNat)
        case atStart => exact ⟨0, 2, by omega, rfl, rfl, by simp, Chg.refl _ _⟩
        case round =>
          obtain ⟨j, dv, hj, rfl, rfl, hdv, hcz⟩ := hrel
          have Hdv := Lib.hid hdv
          clear hdv
          have o7r := hcz.obj o7 (not_no _)
          have y1 := cell_obj (i := 1) o7r rfl
          by_cases hjl : j < pr.length
          · obtain ⟨b1, o1, d1, rfl, _, hbl1, ⟨_, _, rfl, rfl, rfl⟩, hb⟩ := (Hs1.out.keepNo hcz).get j hjl
            have hb0 := hb 0 _ rfl
            have hb1 := hb 1 _ rfl
            simp only [show Rep.n (Int × Int) = 2 from rfl, Nat.add_zero] at hb0 hb1
            have hsn : (pr.take (j + 1)).any (badL l) = ((pr.take j).any (badL l) || badL l pr[j]) := by rw [List.take_succ_eq_append_getElem hjl, List.any_append]; simp
            clear hb
            generalize pr[j] = r at hb0 hb1 hsn
            obtain ⟨rf, rv⟩ := r
            simp only at hb0 hb1
            obtain ⟨ver, hver⟩ : ∃ n, n = (getL l rf).2.1 := ⟨_, rfl⟩
            have gt : ∀ W, Chg No wC W → Calls Try.prog 30 #[u4, .int .i64 rf] W fun e w' => (∃ a b, e = .returned (.agg #[.int .i64 a, .int .i64 ver, .string b])) ∧ Chg No W w' := fun W hW =>
              (getref_any _ _ l rf W (HslC.out.keepNo hW) (by omega)).mono (fun e w' ⟨he, hc⟩ => ⟨⟨(getL l rf).1, (getL l rf).2.2, he.trans (by rw [hver]; rfl)⟩, hc⟩)
            have hbd : badL l (rf, rv) = (ver != rv) := by rw [hver]; rfl
            rw [hbd] at hsn
            have Gt := Lib.hid gt; have Hsn := Lib.hid hsn
            clear gt hsn hbd hver
            have hS13 : ∀ W, Chg No wr W → (fun W => W.cell? ⟨q7, 1, none⟩ = some (.slice (some ⟨b1, o1, none⟩) pr.length c1) ∧ W.cell? ⟨b1, o1 + j * 2, none⟩ = some (.int .i64 rf) ∧ W.cell? ⟨b1, o1 + j * 2 + 1, none⟩ = some (.int .i64 rv)) W := fun W hW => ⟨hW.cell y1 (not_no _), hW.cell hb0 (not_no _), hW.cell hb1 (not_no _)⟩
            have HS := Lib.hid hS13
            clear hS13
            have cd := (Chg.refl No wr).drew
            have hvc : ver = rv ∨ ((ver == rv) = false ∧ (ver != rv) = true) := by
              by_cases h : ver = rv
              · exact .inl h
              · exact .inr ⟨by simpa using h, by simpa using h⟩
            rcases hvc with hv | ⟨hv1, hv2⟩
            · have hv' : rv = ver := hv.symm
              subst hv'
              clear hv
              go_wp2_with (first | (with_reducible refine stop_append ?_) | (with_reducible refine stop_copy ?_) | (with_reducible refine stop_make ?_) | (with_reducible refine stop_lookup ?_) | (with_reducible refine stop_update ?_) | (with_reducible refine stop_slice ?_) | (with_reducible refine stop_range ?_) | (with_reducible refine stop_next ?_) | (with_reducible refine stop_convert ⟨_, rfl⟩ ?_) | (with_reducible refine stop_convertB ⟨_, _, _, rfl⟩ ?_) | (with_reducible refine stop_eqSlice ⟨_, _, rfl⟩ ?_))
              refine reg_start (fun W => W.cell? ⟨q7, 1, none⟩ = some (.slice (some ⟨b1, o1, none⟩) pr.length c1) ∧ W.cell? ⟨b1, o1 + j * 2, none⟩ = some (.int .i64 rf) ∧ W.cell? ⟨b1, o1 + j * 2 + 1, none⟩ = some (.int .i64 rv)) (by kernel_rfl) ?_
              ((refine reg_yes (i := 0) (oi := { dst := some 46, op := Go.Op.move (Go.Operand.tmp 4), type := 67, pos := "ref.go:147", after := #[], guard := none }) (v := ?_) rfl (by kernel_rfl) (by kernel_rfl) (by kernel_rfl) (fun _ _ _ h => h) rfl ?_ ?_); rotate_left; focus (intro W hW; (try dsimp only at hW); go_split_ands; go_simp; (try (simp (disch := omega) only [IntWalk.i64_in]; (try go_simp))); (try (split; (next => omega); (try go_simp))); try rfl; done))
              try simp only [Act.put, List.setIfInBounds_toArray, List.set_cons_zero, List.set_cons_succ]
              ((refine reg_yes (i := 1) (oi := { dst := some 47, op := Go.Op.fieldAddr 25 (Go.Operand.tmp 7) 1, type := 0, pos := "ref.go:147", after := #[], guard := none }) (v := ?_) rfl (by kernel_rfl) (by kernel_rfl) (by kernel_rfl) (fun _ _ _ h => h) rfl ?_ ?_); rotate_left; focus (intro W hW; (try dsimp only at hW); go_split_ands; go_simp; (try (simp (disch := omega) only [IntWalk.i64_in]; (try go_simp))); (try (split; (next => omega); (try go_simp))); try rfl; done))
              try simp only [Act.put, List.setIfInBounds_toArray, List.set_cons_zero, List.set_cons_succ]
              ((refine reg_yes (i := 2) (oi := { dst := some 48, op := Go.Op.load 22 (Go.Operand.tmp 47), type := 22, pos := "ref.go:147", after := #[{ on := 1, ground := Go.Ground.data }], guard := none }) (v := ?_) rfl (by kernel_rfl) (by kernel_rfl) (by kernel_rfl) (fun _ _ _ h => h) rfl ?_ ?_); rotate_left; focus (intro W hW; (try dsimp only at hW); go_split_ands; go_simp; (try (simp (disch := omega) only [IntWalk.i64_in]; (try go_simp))); (try (split; (next => omega); (try go_simp))); try rfl; done))
              try simp only [Act.put, List.setIfInBounds_toArray, List.set_cons_zero, List.set_cons_succ]
              ((refine reg_yes (i := 3) (oi := { dst := some 49, op := Go.Op.move (Go.Operand.tmp 10), type := 3, pos := "ref.go:147", after := #[], guard := none }) (v := ?_) rfl (by kernel_rfl) (by kernel_rfl) (by kernel_rfl) (fun _ _ _ h => h) rfl ?_ ?_); rotate_left; focus (intro W hW; (try dsimp only at hW); go_split_ands; go_simp; (try (simp (disch := omega) only [IntWalk.i64_in]; (try go_simp))); (try (split; (next => omega); (try go_simp))); try rfl; done))
              try simp only [Act.put, List.setIfInBounds_toArray, List.set_cons_zero, List.set_cons_succ]
              ((refine reg_yes (i := 4) (oi := { dst := some 50, op := Go.Op.indexAddr 22 (Go.Operand.tmp 48) (Go.Operand.tmp 49), type := 0, pos := "ref.go:147", after := #[{ on := 2, ground := Go.Ground.data }, { on := 3, ground := Go.Ground.data }], guard := none }) (v := ?_) rfl (by kernel_rfl) (by kernel_rfl) (by kernel_rfl) (fun _ _ _ h => h) rfl ?_ ?_); rotate_left; focus (intro W hW; (try dsimp only at hW); go_split_ands; go_simp; (try (simp (disch := omega) only [IntWalk.i64_in]; (try go_simp))); (try (split; (next => omega); (try go_simp))); try rfl; done))
              try simp only [Act.put, List.setIfInBounds_toArray, List.set_cons_zero, List.set_cons_succ]
              ((refine reg_yes (i := 5) (oi := { dst := some 51, op := Go.Op.fieldAddr 52 (Go.Operand.tmp 50) 0, type := 0, pos := "ref.go:147", after := #[{ on := 4, ground := Go.Ground.data }], guard := none }) (v := ?_) rfl (by kernel_rfl) (by kernel_rfl) (by kernel_rfl) (fun _ _ _ h => h) rfl ?_ ?_); rotate_left; focus (intro W hW; (try dsimp only at hW); go_split_ands; go_simp; (try (simp (disch := omega) only [IntWalk.i64_in]; (try go_simp))); (try (split; (next => omega); (try go_simp))); try rfl; done))
              try simp only [Act.put, List.setIfInBounds_toArray, List.set_cons_zero, List.set_cons_succ]
              ((refine reg_yes (i := 6) (oi := { dst := some 52, op := Go.Op.load 3 (Go.Operand.tmp 51), type := 3, pos := "ref.go:147", after := #[{ on := 5, ground := Go.Ground.data }], guard := none }) (v := ?_) rfl (by kernel_rfl) (by kernel_rfl) (by kernel_rfl) (fun _ _ _ h => h) rfl ?_ ?_); rotate_left; focus (intro W hW; (try dsimp only at hW); go_split_ands; go_simp; (try (simp (disch := omega) only [IntWalk.i64_in]; (try go_simp))); (try (split; (next => omega); (try go_simp))); try rfl; done))
              try simp only [Act.put, List.setIfInBounds_toArray, List.set_cons_zero, List.set_cons_succ]
              ((refine reg_yes (i := 9) (oi := { dst := some 55, op := Go.Op.fieldAddr 25 (Go.Operand.tmp 7) 1, type := 0, pos := "ref.go:147", after := #[], guard := none }) (v := ?_) rfl (by kernel_rfl) (by kernel_rfl) (by kernel_rfl) (fun _ _ _ h => h) rfl ?_ ?_); rotate_left; focus (intro W hW; (try dsimp only at hW); go_split_ands; go_simp; (try (simp (disch := omega) only [IntWalk.i64_in]; (try go_simp))); (try (split; (next => omega); (try go_simp))); try rfl; done))
              try simp only [Act.put, List.setIfInBounds_toArray, List.set_cons_zero, List.set_cons_succ]
              ((refine reg_yes (i := 10) (oi := { dst := some 56, op := Go.Op.load 22 (Go.Operand.tmp 55), type := 22, pos := "ref.go:147", after := #[{ on := 9, ground := Go.Ground.data }], guard := none }) (v := ?_) rfl (by kernel_rfl) (by kernel_rfl) (by kernel_rfl) (fun _ _ _ h => h) rfl ?_ ?_); rotate_left; focus (intro W hW; (try dsimp only at hW); go_split_ands; go_simp; (try (simp (disch := omega) only [IntWalk.i64_in]; (try go_simp))); (try (split; (next => omega); (try go_simp))); try rfl; done))
              try simp only [Act.put, List.setIfInBounds_toArray, List.set_cons_zero, List.set_cons_succ]
              ((refine reg_yes (i := 11) (oi := { dst := some 57, op := Go.Op.move (Go.Operand.tmp 10), type := 3, pos := "ref.go:147", after := #[], guard := none }) (v := ?_) rfl (by kernel_rfl) (by kernel_rfl) (by kernel_rfl) (fun _ _ _ h => h) rfl ?_ ?_); rotate_left; focus (intro W hW; (try dsimp only at hW); go_split_ands; go_simp; (try (simp (disch := omega) only [IntWalk.i64_in]; (try go_simp))); (try (split; (next => omega); (try go_simp))); try rfl; done))
              try simp only [Act.put, List.setIfInBounds_toArray, List.set_cons_zero, List.set_cons_succ]
              ((refine reg_yes (i := 12) (oi := { dst := some 58, op := Go.Op.indexAddr 22 (Go.Operand.tmp 56) (Go.Operand.tmp 57), type := 0, pos := "ref.go:147", after := #[{ on := 10, ground := Go.Ground.data }, { on := 11, ground := Go.Ground.data }], guard := none }) (v := ?_) rfl (by kernel_rfl) (by kernel_rfl) (by kernel_rfl) (fun _ _ _ h => h) rfl ?_ ?_); rotate_left; focus (intro W hW; (try dsimp only at hW); go_split_ands; go_simp; (try (simp (disch := omega) only [IntWalk.i64_in]; (try go_simp))); (try (split; (next => omega); (try go_simp))); try rfl; done))
              try simp only [Act.put, List.setIfInBounds_toArray, List.set_cons_zero, List.set_cons_succ]
              ((refine reg_yes (i := 13) (oi := { dst := some 59, op := Go.Op.fieldAddr 52 (Go.Operand.tmp 58) 1, type := 0, pos := "ref.go:147", after := #[{ on := 12, ground := Go.Ground.data }], guard := none }) (v := ?_) rfl (by kernel_rfl) (by kernel_rfl) (by kernel_rfl) (fun _ _ _ h => h) rfl ?_ ?_); rotate_left; focus (intro W hW; (try dsimp only at hW); go_split_ands; go_simp; (try (simp (disch := omega) only [IntWalk.i64_in]; (try go_simp))); (try (split; (next => omega); (try go_simp))); try rfl; done))
              try simp only [Act.put, List.setIfInBounds_toArray, List.set_cons_zero, List.set_cons_succ]
              ((refine reg_yes (i := 14) (oi := { dst := some 60, op := Go.Op.load 3 (Go.Operand.tmp 59), type := 3, pos := "ref.go:147", after := #[{ on := 13, ground := Go.Ground.data }], guard := none }) (v := ?_) rfl (by kernel_rfl) (by kernel_rfl) (by kernel_rfl) (fun _ _ _ h => h) rfl ?_ ?_); rotate_left; focus (intro W hW; (try dsimp only at hW); go_split_ands; go_simp; (try (simp (disch := omega) only [IntWalk.i64_in]; (try go_simp))); (try (split; (next => omega); (try go_simp))); try rfl; done))
              try simp only [Act.put, List.setIfInBounds_toArray, List.set_cons_zero, List.set_cons_succ]
              -- ready: [7]
              refine reg_k (fun W => W.cell? ⟨q7, 1, none⟩ = some (.slice (some ⟨b1, o1, none⟩) pr.length c1) ∧ W.cell? ⟨b1, o1 + j * 2, none⟩ = some (.int .i64 rf) ∧ W.cell? ⟨b1, o1 + j * 2 + 1, none⟩ = some (.int .i64 rv)) (i := 7) (oi := { dst := some 53, op := Go.Op.call { callee := Go.Callee.value (Go.Operand.func 30), args := #[Go.Operand.tmp 46, Go.Operand.tmp 52], argTypes := #[67, 3] }, type := 71, pos := "ref.go:147", after := #[{ on := 0, ground := Go.Ground.data }, { on := 6, ground := Go.Ground.data }], guard := none }) (by kernel_rfl) (HS.out _ cd) (fun _ h => h) rfl (by rfl) (fun K hK => ?_)
              go_simp
              refine (Gt.out _ (hcz.trans cd)).mono ?_
              rintro e w8 ⟨⟨ga, gb, rfl⟩, hc8⟩
              have cd8 := cd.trans hc8
              refine hK _ _ ?_
              clear hK K
              try simp only [Act.put, List.setIfInBounds_toArray, List.set_cons_zero, List.set_cons_succ]
              ((refine reg_yes (i := 8) (oi := { dst := some 54, op := Go.Op.field 71 (Go.Operand.tmp 53) 1, type := 3, pos := "ref.go:147", after := #[{ on := 7, ground := Go.Ground.data }], guard := none }) (v := ?_) rfl (by kernel_rfl) (by kernel_rfl) (by kernel_rfl) (fun _ _ _ h => h) rfl ?_ ?_); rotate_left; focus (intro W hW; (try dsimp only at hW); go_split_ands; go_simp; (try (simp (disch := omega) only [IntWalk.i64_in]; (try go_simp))); (try (split; (next => omega); (try go_simp))); try rfl; done))
              try simp only [Act.put, List.setIfInBounds_toArray, List.set_cons_zero, List.set_cons_succ]
              ((refine reg_yes (i := 15) (oi := { dst := some 61, op := Go.Op.binOp Go.BinOp.neq 3 (Go.Operand.tmp 54) (Go.Operand.tmp 60) 3, type := 4, pos := "ref.go:147", after := #[{ on := 8, ground := Go.Ground.data }, { on := 14, ground := Go.Ground.data }], guard := none }) (v := ?_) rfl (by kernel_rfl) (by kernel_rfl) (by kernel_rfl) (fun _ _ _ h => h) rfl ?_ ?_); rotate_left; focus (intro W hW; (try dsimp only at hW); go_split_ands; go_simp; (try (simp (disch := omega) only [IntWalk.i64_in]; (try go_simp))); (try (split; (next => omega); (try go_simp))); try rfl; done))
              try simp only [Act.put, List.setIfInBounds_toArray, List.set_cons_zero, List.set_cons_succ]
              -- ready: []
              refine reg_done (by kernel_rfl) (HS.out _ cd8) ?_
              have hcz8 := hcz.trans cd8
              go_wp2_with (first | (with_reducible refine stop_append ?_) | (with_reducible refine stop_copy ?_) | (with_reducible refine stop_make ?_) | (with_reducible refine stop_lookup ?_) | (with_reducible refine stop_update ?_) | (with_reducible refine stop_slice ?_) | (with_reducible refine stop_range ?_) | (with_reducible refine stop_next ?_) | (with_reducible refine stop_convert ⟨_, rfl⟩ ?_) | (with_reducible refine stop_convertB ⟨_, _, _, rfl⟩ ?_) | (with_reducible refine stop_eqSlice ⟨_, _, rfl⟩ ?_))
              go_roundw
              case rel => exact ⟨j + 1, dv, by omega, by first | rfl | go_num, rfl, by have h1 := Hsn.out; have h2 := Hdv.out; rw [h1, show (rv != rv) = false by cases h : (rv != rv) <;> simp_all [bne], Bool.or_false]; exact h2, hcz8⟩
              case measure => simp [intOf]; omega
            · skip
              go_wp2_with (first | (with_reducible refine stop_append ?_) | (with_reducible refine stop_copy ?_) | (with_reducible refine stop_make ?_) | (with_reducible refine stop_lookup ?_) | (with_reducible refine stop_update ?_) | (with_reducible refine stop_slice ?_) | (with_reducible refine stop_range ?_) | (with_reducible refine stop_next ?_) | (with_reducible refine stop_convert ⟨_, rfl⟩ ?_) | (with_reducible refine stop_convertB ⟨_, _, _, rfl⟩ ?_) | (with_reducible refine stop_eqSlice ⟨_, _, rfl⟩ ?_))
              refine reg_start (fun W => W.cell? ⟨q7, 1, none⟩ = some (.slice (some ⟨b1, o1, none⟩) pr.length c1) ∧ W.cell? ⟨b1, o1 + j * 2, none⟩ = some (.int .i64 rf) ∧ W.cell? ⟨b1, o1 + j * 2 + 1, none⟩ = some (.int .i64 rv)) (by kernel_rfl) ?_
              ((refine reg_yes (i := 0) (oi := { dst := some 46, op := Go.Op.move (Go.Operand.tmp 4), type := 67, pos := "ref.go:147", after := #[], guard := none }) (v := ?_) rfl (by kernel_rfl) (by kernel_rfl) (by kernel_rfl) (fun _ _ _ h => h) rfl ?_ ?_); rotate_left; focus (intro W hW; (try dsimp only at hW); go_split_ands; go_simp; (try (simp (disch := omega) only [IntWalk.i64_in]; (try go_simp))); (try (split; (next => omega); (try go_simp))); try rfl; done))
              try simp only [Act.put, List.setIfInBounds_toArray, List.set_cons_zero, List.set_cons_succ]
              ((refine reg_yes (i := 1) (oi := { dst := some 47, op := Go.Op.fieldAddr 25 (Go.Operand.tmp 7) 1, type := 0, pos := "ref.go:147", after := #[], guard := none }) (v := ?_) rfl (by kernel_rfl) (by kernel_rfl) (by kernel_rfl) (fun _ _ _ h => h) rfl ?_ ?_); rotate_left; focus (intro W hW; (try dsimp only at hW); go_split_ands; go_simp; (try (simp (disch := omega) only [IntWalk.i64_in]; (try go_simp))); (try (split; (next => omega); (try go_simp))); try rfl; done))
              try simp only [Act.put, List.setIfInBounds_toArray, List.set_cons_zero, List.set_cons_succ]
              ((refine reg_yes (i := 2) (oi := { dst := some 48, op := Go.Op.load 22 (Go.Operand.tmp 47), type := 22, pos := "ref.go:147", after := #[{ on := 1, ground := Go.Ground.data }], guard := none }) (v := ?_) rfl (by kernel_rfl) (by kernel_rfl) (by kernel_rfl) (fun _ _ _ h => h) rfl ?_ ?_); rotate_left; focus (intro W hW; (try dsimp only at hW); go_split_ands; go_simp; (try (simp (disch := omega) only [IntWalk.i64_in]; (try go_simp))); (try (split; (next => omega); (try go_simp))); try rfl; done))
              try simp only [Act.put, List.setIfInBounds_toArray, List.set_cons_zero, List.set_cons_succ]
              ((refine reg_yes (i := 3) (oi := { dst := some 49, op := Go.Op.move (Go.Operand.tmp 10), type := 3, pos := "ref.go:147", after := #[], guard := none }) (v := ?_) rfl (by kernel_rfl) (by kernel_rfl) (by kernel_rfl) (fun _ _ _ h => h) rfl ?_ ?_); rotate_left; focus (intro W hW; (try dsimp only at hW); go_split_ands; go_simp; (try (simp (disch := omega) only [IntWalk.i64_in]; (try go_simp))); (try (split; (next => omega); (try go_simp))); try rfl; done))
              try simp only [Act.put, List.setIfInBounds_toArray, List.set_cons_zero, List.set_cons_succ]
              ((refine reg_yes (i := 4) (oi := { dst := some 50, op := Go.Op.indexAddr 22 (Go.Operand.tmp 48) (Go.Operand.tmp 49), type := 0, pos := "ref.go:147", after := #[{ on := 2, ground := Go.Ground.data }, { on := 3, ground := Go.Ground.data }], guard := none }) (v := ?_) rfl (by kernel_rfl) (by kernel_rfl) (by kernel_rfl) (fun _ _ _ h => h) rfl ?_ ?_); rotate_left; focus (intro W hW; (try dsimp only at hW); go_split_ands; go_simp; (try (simp (disch := omega) only [IntWalk.i64_in]; (try go_simp))); (try (split; (next => omega); (try go_simp))); try rfl; done))
              try simp only [Act.put, List.setIfInBounds_toArray, List.set_cons_zero, List.set_cons_succ]
              ((refine reg_yes (i := 5) (oi := { dst := some 51, op := Go.Op.fieldAddr 52 (Go.Operand.tmp 50) 0, type := 0, pos := "ref.go:147", after := #[{ on := 4, ground := Go.Ground.data }], guard := none }) (v := ?_) rfl (by kernel_rfl) (by kernel_rfl) (by kernel_rfl) (fun _ _ _ h => h) rfl ?_ ?_); rotate_left; focus (intro W hW; (try dsimp only at hW); go_split_ands; go_simp; (try (simp (disch := omega) only [IntWalk.i64_in]; (try go_simp))); (try (split; (next => omega); (try go_simp))); try rfl; done))
              try simp only [Act.put, List.setIfInBounds_toArray, List.set_cons_zero, List.set_cons_succ]
              ((refine reg_yes (i := 6) (oi := { dst := some 52, op := Go.Op.load 3 (Go.Operand.tmp 51), type := 3, pos := "ref.go:147", after := #[{ on := 5, ground := Go.Ground.data }], guard := none }) (v := ?_) rfl (by kernel_rfl) (by kernel_rfl) (by kernel_rfl) (fun _ _ _ h => h) rfl ?_ ?_); rotate_left; focus (intro W hW; (try dsimp only at hW); go_split_ands; go_simp; (try (simp (disch := omega) only [IntWalk.i64_in]; (try go_simp))); (try (split; (next => omega); (try go_simp))); try rfl; done))
              try simp only [Act.put, List.setIfInBounds_toArray, List.set_cons_zero, List.set_cons_succ]
              ((refine reg_yes (i := 9) (oi := { dst := some 55, op := Go.Op.fieldAddr 25 (Go.Operand.tmp 7) 1, type := 0, pos := "ref.go:147", after := #[], guard := none }) (v := ?_) rfl (by kernel_rfl) (by kernel_rfl) (by kernel_rfl) (fun _ _ _ h => h) rfl ?_ ?_); rotate_left; focus (intro W hW; (try dsimp only at hW); go_split_ands; go_simp; (try (simp (disch := omega) only [IntWalk.i64_in]; (try go_simp))); (try (split; (next => omega); (try go_simp))); try rfl; done))
              try simp only [Act.put, List.setIfInBounds_toArray, List.set_cons_zero, List.set_cons_succ]
              ((refine reg_yes (i := 10) (oi := { dst := some 56, op := Go.Op.load 22 (Go.Operand.tmp 55), type := 22, pos := "ref.go:147", after := #[{ on := 9, ground := Go.Ground.data }], guard := none }) (v := ?_) rfl (by kernel_rfl) (by kernel_rfl) (by kernel_rfl) (fun _ _ _ h => h) rfl ?_ ?_); rotate_left; focus (intro W hW; (try dsimp only at hW); go_split_ands; go_simp; (try (simp (disch := omega) only [IntWalk.i64_in]; (try go_simp))); (try (split; (next => omega); (try go_simp))); try rfl; done))
              try simp only [Act.put, List.setIfInBounds_toArray, List.set_cons_zero, List.set_cons_succ]
              ((refine reg_yes (i := 11) (oi := { dst := some 57, op := Go.Op.move (Go.Operand.tmp 10), type := 3, pos := "ref.go:147", after := #[], guard := none }) (v := ?_) rfl (by kernel_rfl) (by kernel_rfl) (by kernel_rfl) (fun _ _ _ h => h) rfl ?_ ?_); rotate_left; focus (intro W hW; (try dsimp only at hW); go_split_ands; go_simp; (try (simp (disch := omega) only [IntWalk.i64_in]; (try go_simp))); (try (split; (next => omega); (try go_simp))); try rfl; done))
              try simp only [Act.put, List.setIfInBounds_toArray, List.set_cons_zero, List.set_cons_succ]
              ((refine reg_yes (i := 12) (oi := { dst := some 58, op := Go.Op.indexAddr 22 (Go.Operand.tmp 56) (Go.Operand.tmp 57), type := 0, pos := "ref.go:147", after := #[{ on := 10, ground := Go.Ground.data }, { on := 11, ground := Go.Ground.data }], guard := none }) (v := ?_) rfl (by kernel_rfl) (by kernel_rfl) (by kernel_rfl) (fun _ _ _ h => h) rfl ?_ ?_); rotate_left; focus (intro W hW; (try dsimp only at hW); go_split_ands; go_simp; (try (simp (disch := omega) only [IntWalk.i64_in]; (try go_simp))); (try (split; (next => omega); (try go_simp))); try rfl; done))
              try simp only [Act.put, List.setIfInBounds_toArray, List.set_cons_zero, List.set_cons_succ]
              ((refine reg_yes (i := 13) (oi := { dst := some 59, op := Go.Op.fieldAddr 52 (Go.Operand.tmp 58) 1, type := 0, pos := "ref.go:147", after := #[{ on := 12, ground := Go.Ground.data }], guard := none }) (v := ?_) rfl (by kernel_rfl) (by kernel_rfl) (by kernel_rfl) (fun _ _ _ h => h) rfl ?_ ?_); rotate_left; focus (intro W hW; (try dsimp only at hW); go_split_ands; go_simp; (try (simp (disch := omega) only [IntWalk.i64_in]; (try go_simp))); (try (split; (next => omega); (try go_simp))); try rfl; done))
              try simp only [Act.put, List.setIfInBounds_toArray, List.set_cons_zero, List.set_cons_succ]
              ((refine reg_yes (i := 14) (oi := { dst := some 60, op := Go.Op.load 3 (Go.Operand.tmp 59), type := 3, pos := "ref.go:147", after := #[{ on := 13, ground := Go.Ground.data }], guard := none }) (v := ?_) rfl (by kernel_rfl) (by kernel_rfl) (by kernel_rfl) (fun _ _ _ h => h) rfl ?_ ?_); rotate_left; focus (intro W hW; (try dsimp only at hW); go_split_ands; go_simp; (try (simp (disch := omega) only [IntWalk.i64_in]; (try go_simp))); (try (split; (next => omega); (try go_simp))); try rfl; done))
              try simp only [Act.put, List.setIfInBounds_toArray, List.set_cons_zero, List.set_cons_succ]
              -- ready: [7]
              refine reg_k (fun W => W.cell? ⟨q7, 1, none⟩ = some (.slice (some ⟨b1, o1, none⟩) pr.length c1) ∧ W.cell? ⟨b1, o1 + j * 2, none⟩ = some (.int .i64 rf) ∧ W.cell? ⟨b1, o1 + j * 2 + 1, none⟩ = some (.int .i64 rv)) (i := 7) (oi := { dst := some 53, op := Go.Op.call { callee := Go.Callee.value (Go.Operand.func 30), args := #[Go.Operand.tmp 46, Go.Operand.tmp 52], argTypes := #[67, 3] }, type := 71, pos := "ref.go:147", after := #[{ on := 0, ground := Go.Ground.data }, { on := 6, ground := Go.Ground.data }], guard := none }) (by kernel_rfl) (HS.out _ cd) (fun _ h => h) rfl (by rfl) (fun K hK => ?_)
              go_simp
              refine (Gt.out _ (hcz.trans cd)).mono ?_
              rintro e w8 ⟨⟨ga, gb, rfl⟩, hc8⟩
              have cd8 := cd.trans hc8
              refine hK _ _ ?_
              clear hK K
              try simp only [Act.put, List.setIfInBounds_toArray, List.set_cons_zero, List.set_cons_succ]
              ((refine reg_yes (i := 8) (oi := { dst := some 54, op := Go.Op.field 71 (Go.Operand.tmp 53) 1, type := 3, pos := "ref.go:147", after := #[{ on := 7, ground := Go.Ground.data }], guard := none }) (v := ?_) rfl (by kernel_rfl) (by kernel_rfl) (by kernel_rfl) (fun _ _ _ h => h) rfl ?_ ?_); rotate_left; focus (intro W hW; (try dsimp only at hW); go_split_ands; go_simp; (try (simp (disch := omega) only [IntWalk.i64_in]; (try go_simp))); (try (split; (next => omega); (try go_simp))); try rfl; done))
              try simp only [Act.put, List.setIfInBounds_toArray, List.set_cons_zero, List.set_cons_succ]
              ((refine reg_yes (i := 15) (oi := { dst := some 61, op := Go.Op.binOp Go.BinOp.neq 3 (Go.Operand.tmp 54) (Go.Operand.tmp 60) 3, type := 4, pos := "ref.go:147", after := #[{ on := 8, ground := Go.Ground.data }, { on := 14, ground := Go.Ground.data }], guard := none }) (v := ?_) rfl (by kernel_rfl) (by kernel_rfl) (by kernel_rfl) (fun _ _ _ h => h) rfl ?_ ?_); rotate_left; focus (intro W hW; (try dsimp only at hW); go_split_ands; go_simp; (try (simp (disch := omega) only [IntWalk.i64_in]; (try go_simp))); (try (split; (next => omega); (try go_simp))); try rfl; done))
              try simp only [Act.put, List.setIfInBounds_toArray, List.set_cons_zero, List.set_cons_succ]
              -- ready: []
              refine reg_done (by kernel_rfl) (HS.out _ cd8) ?_
              have hcz8 := hcz.trans cd8
              have Hv2 := Lib.hid hv2
              go_wp2_with (first | (with_reducible refine stop_append ?_) | (with_reducible refine stop_copy ?_) | (with_reducible refine stop_make ?_) | (with_reducible refine stop_lookup ?_) | (with_reducible refine stop_update ?_) | (with_reducible refine stop_slice ?_) | (with_reducible refine stop_range ?_) | (with_reducible refine stop_next ?_) | (with_reducible refine stop_convert ⟨_, rfl⟩ ?_) | (with_reducible refine stop_convertB ⟨_, _, _, rfl⟩ ?_) | (with_reducible refine stop_eqSlice ⟨_, _, rfl⟩ ?_))
              go_roundw
              case rel => exact ⟨j + 1, 1, by omega, by go_num, rfl, by rw [Hsn.out, Hv2.out]; simp, hcz8⟩
              case measure => simp [intOf]; omega
          · obtain rfl : j = pr.length := by omega
            have hdv := Hdv.out
            rw [List.take_length] at hdv
            have hcD := hcr5.trans hcz
            have y2 := cell_obj (i := 2) o7r rfl
            clear Hdv hjl hj
            obtain ⟨wD, rfl⟩ : ∃ W : World, W = wr := ⟨_, rfl⟩
            by_cases hany : pr.any (badL l) = true
            · rw [if_pos hany] at hdv hfk
              subst hdv
              clear hany
              go_wp2_with (first | (with_reducible refine stop_append ?_) | (with_reducible refine stop_copy ?_) | (with_reducible refine stop_make ?_) | (with_reducible refine stop_lookup ?_) | (with_reducible refine stop_update ?_) | (with_reducible refine stop_slice ?_) | (with_reducible refine stop_range ?_) | (with_reducible refine stop_next ?_) | (with_reducible refine stop_convert ⟨_, rfl⟩ ?_) | (with_reducible refine stop_convertB ⟨_, _, _, rfl⟩ ?_) | (with_reducible refine stop_eqSlice ⟨_, _, rfl⟩ ?_))
              go_loopw [4, 11] (fun v4 v11 wr => v11 = .int .i64 0 ∧ v4 = u4 ∧ wr = wD) (fun _ _ _ => 0)
              case atStart => exact ⟨rfl, rfl, rfl⟩
              case round =>
                obtain ⟨rfl, rfl, rfl⟩ := hrel
                have hfk := hfk
                by_cases h0 : 0 < pw.length
                · skip
                  have sl4 := Hsl.out.keepNo hcD
                  go_wp2_with (first | (with_reducible refine stop_append ?_) | (with_reducible refine stop_copy ?_) | (with_reducible refine stop_make ?_) | (with_reducible refine stop_lookup ?_) | (with_reducible refine stop_update ?_) | (with_reducible refine stop_slice ?_) | (with_reducible refine stop_range ?_) | (with_reducible refine stop_next ?_) | (with_reducible refine stop_convert ⟨_, rfl⟩ ?_) | (with_reducible refine stop_convertB ⟨_, _, _, rfl⟩ ?_) | (with_reducible refine stop_eqSlice ⟨_, _, rfl⟩ ?_))
                  have own4 := Hown.out.keepFlat hcD (fun _ _ f => f)
                  have hcw4 := hc.trans hcD
                  have hsz4 := hcw4.size
                  refine step_append_flat (α := Int) (ys := [1]) Try.underlying50 info_int rfl (own4.alloc (.cells #[.int .i64 1] 3)) rfl rfl (Sl.lit1 (F := No) (y := (1 : Int)) rfl rfl (not_no _)) (by simp; omega) (by simp; omega) (by simp; omega) ?_
                  intro v6 w6 hown6 hg6
                  have hA4 := (Chg.refl No wr).alloc (.cells #[.int .i64 1] 3)
                  have hsl6 := sl_beside (sl4.keepNo hA4) hg6
                  have hc06 : Chg No w w6 := (hcw4.trans hA4).old hg6.chg (fun i hi => (hobr i hi).1)
                  have Hsl6 := Lib.hid hsl6; have Hown6 := Lib.hid hown6; have Hfk := Lib.hid hfk
                  clear own4 sl4 hown6 hg6 hsl6 hA4 hfk
                  go_wp2_with (first | (with_reducible refine stop_append ?_) | (with_reducible refine stop_copy ?_) | (with_reducible refine stop_make ?_) | (with_reducible refine stop_lookup ?_) | (with_reducible refine stop_update ?_) | (with_reducible refine stop_slice ?_) | (with_reducible refine stop_range ?_) | (with_reducible refine stop_next ?_) | (with_reducible refine stop_convert ⟨_, rfl⟩ ?_) | (with_reducible refine stop_convertB ⟨_, _, _, rfl⟩ ?_) | (with_reducible refine stop_eqSlice ⟨_, _, rfl⟩ ?_))
                  go_roundw
                  case rel => exact ⟨k + 1, _, _, by omega, by go_num, rfl, rfl, by rw [Hfk.out]; exact Hsl6.out, by rw [Hfk.out]; exact Hown6.out, hc06⟩
                  case measure => simp [intOf]; omega
                · have h0' : pw.length = 0 := by omega
                  have sl4 := Hsl.out.keepNo hcD
                  go_wp2_with (first | (with_reducible refine stop_append ?_) | (with_reducible refine stop_copy ?_) | (with_reducible refine stop_make ?_) | (with_reducible refine stop_lookup ?_) | (with_reducible refine stop_update ?_) | (with_reducible refine stop_slice ?_) | (with_reducible refine stop_range ?_) | (with_reducible refine stop_next ?_) | (with_reducible refine stop_convert ⟨_, rfl⟩ ?_) | (with_reducible refine stop_convertB ⟨_, _, _, rfl⟩ ?_) | (with_reducible refine stop_eqSlice ⟨_, _, rfl⟩ ?_))
                  have own4 := Hown.out.keepFlat hcD (fun _ _ f => f)
                  have hcw4 := hc.trans hcD
                  have hsz4 := hcw4.size
                  refine step_append_flat (α := Int) (ys := [1]) Try.underlying50 info_int rfl (own4.alloc (.cells #[.int .i64 1] 3)) rfl rfl (Sl.lit1 (F := No) (y := (1 : Int)) rfl rfl (not_no _)) (by simp; omega) (by simp; omega) (by simp; omega) ?_
                  intro v6 w6 hown6 hg6
                  have hA4 := (Chg.refl No wr).alloc (.cells #[.int .i64 1] 3)
                  have hsl6 := sl_beside (sl4.keepNo hA4) hg6
                  have hc06 : Chg No w w6 := (hcw4.trans hA4).old hg6.chg (fun i hi => (hobr i hi).1)
                  have Hsl6 := Lib.hid hsl6; have Hown6 := Lib.hid hown6; have Hfk := Lib.hid hfk
                  clear own4 sl4 hown6 hg6 hsl6 hA4 hfk
                  go_wp2_with (first | (with_reducible refine stop_append ?_) | (with_reducible refine stop_copy ?_) | (with_reducible refine stop_make ?_) | (with_reducible refine stop_lookup ?_) | (with_reducible refine stop_update ?_) | (with_reducible refine stop_slice ?_) | (with_reducible refine stop_range ?_) | (with_reducible refine stop_next ?_) | (with_reducible refine stop_convert ⟨_, rfl⟩ ?_) | (with_reducible refine stop_convertB ⟨_, _, _, rfl⟩ ?_) | (with_reducible refine stop_eqSlice ⟨_, _, rfl⟩ ?_))
                  go_roundw
                  case rel => exact ⟨k + 1, _, _, by omega, by go_num, rfl, rfl, by rw [Hfk.out]; exact Hsl6.out, by rw [Hfk.out]; exact Hown6.out, hc06⟩
                  case measure => simp [intOf]; omega
            · rw [if_neg hany] at hdv hfk
              subst hdv
              clear hany
              have HslD := Lib.hid (HslC.out.keepNo hcz)
              go_wp2_with (first | (with_reducible refine stop_append ?_) | (with_reducible refine stop_copy ?_) | (with_reducible refine stop_make ?_) | (with_reducible refine stop_lookup ?_) | (with_reducible refine stop_update ?_) | (with_reducible refine stop_slice ?_) | (with_reducible refine stop_range ?_) | (with_reducible refine stop_next ?_) | (with_reducible refine stop_convert ⟨_, rfl⟩ ?_) | (with_reducible refine stop_convertB ⟨_, _, _, rfl⟩ ?_) | (with_reducible refine stop_eqSlice ⟨_, _, rfl⟩ ?_))
              go_loopw [4, 11] (fun v4 v11 wr => ∃ (j : Nat) (vl : Value), j ≤ pw.length ∧ v11 = .int .i64 j ∧ v4 = vl ∧ Sl (Or (OB u5) (Lt w.heap.size)) wr vl ((pw.take j).foldl writtenL l) ∧ Chg No wD wr) (fun _ v11 _ => pw.length - (intOf v11).toNat)
              case atStart => exact ⟨0, _, by omega, rfl, rfl, by simpa using HslD.out, Chg.refl _ _⟩
              case round =>
                obtain ⟨j, vl, hj, rfl, rfl, hslj, hcE⟩ := hrel
                have y2r := cell_obj (i := 2) (hcE.obj o7r (not_no _)) rfl
                have HslJ := Lib.hid hslj
                clear hslj
                have hcWE := (hc.trans hcD).trans hcE
                by_cases hjl : j < pw.length
                · obtain ⟨b1, o1, d1, rfl, _, hbl1, ⟨_, _, rfl, rfl, rfl⟩, hb⟩ := ((Hs2.out.keepNo hcz).keepNo hcE).get j hjl
                  have hb0 := hb 0 _ rfl
                  have hb1 := hb 1 _ rfl
                  simp only [show Rep.n (Int × ByteArray) = 2 from rfl, Nat.add_zero] at hb0 hb1
                  have hsn := foldl_snoc writtenL l pw j hjl
                  obtain ⟨hvb1, hvl1⟩ := writtens_ok Hvb.out (by omega) (pw.take j)
                  rw [List.length_take] at hvb1 hvl1
                  clear hb
                  generalize pw[j] = y at hb0 hb1 hsn
                  obtain ⟨yf, yv⟩ := y
                  simp only at hb0 hb1
                  generalize (pw.take j).foldl writtenL l = lj at HslJ hsn hvb1 hvl1
                  have hgv := hvb1.get (by omega) yf
                  have wt : Calls Try.prog 57 #[u4, .agg #[.int .i64 yf, .string yv]] wr _ := written_any _ _ lj yf yv wr HslJ.out (by omega) hgv.1 (by omega)
                  have Wt := Lib.hid wt; have Hsn := Lib.hid hsn
                  clear wt hsn hvb1 hvl1 hgv
                  go_wp2_with (first | (with_reducible refine stop_append ?_) | (with_reducible refine stop_copy ?_) | (with_reducible refine stop_make ?_) | (with_reducible refine stop_lookup ?_) | (with_reducible refine stop_update ?_) | (with_reducible refine stop_slice ?_) | (with_reducible refine stop_range ?_) | (with_reducible refine stop_next ?_) | (with_reducible refine stop_convert ⟨_, rfl⟩ ?_) | (with_reducible refine stop_convertB ⟨_, _, _, rfl⟩ ?_) | (with_reducible refine stop_eqSlice ⟨_, _, rfl⟩ ?_))
                  refine Wt.out.mono ?_
                  rintro e w8 ⟨v8, rfl, hc8, hv8⟩
                  have hszE := hcWE.size
                  have hszO := (hcD.trans hcE).size
                  have hv8' := hv8.weak (G := Or (OB u5) (Lt w.heap.size)) (fun i _ h => by
                    rcases h with h | h
                    · have := (hobr i h).2; simp only [Lt]; omega
                    · simp only [Lt] at h ⊢; omega)
                  rw [← Hsn.out] at hv8'
                  have Hv8 := Lib.hid hv8'
                  have hcE8 := hcE.trans hc8
                  clear hv8 hv8' Wt
                  go_wp2_with (first | (with_reducible refine stop_append ?_) | (with_reducible refine stop_copy ?_) | (with_reducible refine stop_make ?_) | (with_reducible refine stop_lookup ?_) | (with_reducible refine stop_update ?_) | (with_reducible refine stop_slice ?_) | (with_reducible refine stop_range ?_) | (with_reducible refine stop_next ?_) | (with_reducible refine stop_convert ⟨_, rfl⟩ ?_) | (with_reducible refine stop_convertB ⟨_, _, _, rfl⟩ ?_) | (with_reducible refine stop_eqSlice ⟨_, _, rfl⟩ ?_))
                  go_roundw
                  case rel => exact ⟨j + 1, _, by omega, by go_num, rfl, Hv8.out, hcE8⟩
                  case measure => simp [intOf]; omega
                · obtain rfl : j = pw.length := by omega
                  have hslj := HslJ.out
                  rw [List.take_length] at hslj
                  have sl4 := hslj
                  have hcF := hcD.trans hcE
                  clear HslJ hslj
                  go_wp2_with (first | (with_reducible refine stop_append ?_) | (with_reducible refine stop_copy ?_) | (with_reducible refine stop_make ?_) | (with_reducible refine stop_lookup ?_) | (with_reducible refine stop_update ?_) | (with_reducible refine stop_slice ?_) | (with_reducible refine stop_range ?_) | (with_reducible refine stop_next ?_) | (with_reducible refine stop_convert ⟨_, rfl⟩ ?_) | (with_reducible refine stop_convertB ⟨_, _, _, rfl⟩ ?_) | (with_reducible refine stop_eqSlice ⟨_, _, rfl⟩ ?_))
                  have own4 := Hown.out.keepFlat hcF (fun _ _ f => f)
                  have hcw4 := hc.trans hcF
                  have hsz4 := hcw4.size
                  refine step_append_flat (α := Int) (ys := [2]) Try.underlying50 info_int rfl (own4.alloc (.cells #[.int .i64 2] 3)) rfl rfl (Sl.lit1 (F := No) (y := (2 : Int)) rfl rfl (not_no _)) (by simp; omega) (by simp; omega) (by simp; omega) ?_
                  intro v6 w6 hown6 hg6
                  have hA4 := (Chg.refl No wr).alloc (.cells #[.int .i64 2] 3)
                  have hsl6 := sl_beside (sl4.keepNo hA4) hg6
                  have hc06 : Chg No w w6 := (hcw4.trans hA4).old hg6.chg (fun i hi => (hobr i hi).1)
                  have Hsl6 := Lib.hid hsl6; have Hown6 := Lib.hid hown6; have Hfk := Lib.hid hfk
                  clear own4 sl4 hown6 hg6 hsl6 hA4 hfk
                  go_wp2_with (first | (with_reducible refine stop_append ?_) | (with_reducible refine stop_copy ?_) | (with_reducible refine stop_make ?_) | (with_reducible refine stop_lookup ?_) | (with_reducible refine stop_update ?_) | (with_reducible refine stop_slice ?_) | (with_reducible refine stop_range ?_) | (with_reducible refine stop_next ?_) | (with_reducible refine stop_convert ⟨_, rfl⟩ ?_) | (with_reducible refine stop_convertB ⟨_, _, _, rfl⟩ ?_) | (with_reducible refine stop_eqSlice ⟨_, _, rfl⟩ ?_))
                  go_roundw
                  case rel => exact ⟨k + 1, _, _, by omega, by go_num, rfl, rfl, by rw [Hfk.out]; exact Hsl6.out, by rw [Hfk.out]; exact Hown6.out, hc06⟩
                  case measure => simp [intOf]; omega
    · obtain rfl : k = xs.length := by omega
      have Hsl := Lib.hid (hsl.weak (G := Lt w.heap.size) (fun _ _ f => .inr f))
      have Hown := Lib.hid (hown.slFlat (G := Lt w.heap.size) (fun i hi f => by have := (hown.lt i hi).1; simp only [Lt] at f; omega))
      clear hsl hown
      go_wp2_with (first | (with_reducible refine stop_append ?_) | (with_reducible refine stop_copy ?_) | (with_reducible refine stop_make ?_) | (with_reducible refine stop_lookup ?_) | (with_reducible refine stop_update ?_) | (with_reducible refine stop_slice ?_) | (with_reducible refine stop_range ?_) | (with_reducible refine stop_next ?_) | (with_reducible refine stop_convert ⟨_, rfl⟩ ?_) | (with_reducible refine stop_convertB ⟨_, _, _, rfl⟩ ?_) | (with_reducible refine stop_eqSlice ⟨_, _, rfl⟩ ?_))
      go_ret2
      exact ⟨_, _, rfl, hc, Hsl.out, Hown.out⟩
end Go.Proofs.Ytnioljagmimojaa
