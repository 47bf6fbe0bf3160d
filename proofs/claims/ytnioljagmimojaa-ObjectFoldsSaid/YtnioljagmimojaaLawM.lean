/- The statement ObjectAsks, walked. -/
import Derived.Test.YtnioljagmimojaaLawP
import Derived.Test.YtnioljagmimojaaLawL
import Derived.Test.YtnioljagmimojaaLawS
set_option linter.unusedVariables false
set_option linter.unusedSimpArgs false
namespace Go.Proofs.Ytnioljagmimojaa
open Go.RowKit Cb

set_option maxRecDepth 100000 in
set_option maxHeartbeats 1000000 in
theorem asks_few (F : Nat → Prop) (v : Value) (xs : List ByteArray) (id : Int) (AR AW : Option Addr) (nr cR nw cW : Nat) (w : World) (h : Sl F w v xs) (hl : xs.length ≤ 140737488351232) (hb : ∀ x ∈ xs, x.size ≤ 140737488351232)
    (h1 : nr ≤ 1152921504606846976) (h2 : nw ≤ 1152921504606846976) (hn : fewB xs = false ∨ 100 < nr + nw) :
    Calls Try.prog 4 #[v, .agg #[.int .i64 id, .slice AR nr cR, .slice AW nw cW]] w fun e w' => e = .returned (.bool true) ∧ Chg No w w' := by
  have hfew : ∀ W, Chg No w W → Calls Try.prog 22 #[v] W fun e w' => e = .returned (.bool (fewB xs)) ∧ Chg No W w' := fun W hW => few_any F v xs W (h.keepNo hW) hl hb
  have H := Lib.hid hfew
  obtain ⟨A, c, rfl⟩ := h.slice
  clear hfew h
  have hwr : IntKind.i64.wrap ((nr : Int) + nw) = (nr : Int) + nw := IntWalk.i64_in _ (by omega)
  have hn : fewB xs = false ∨ (fewB xs = true ∧ (100 : Int) < nr + nw) := by
    rcases Bool.eq_false_or_eq_true (fewB xs) with hb | hb
    · rcases hn with h | h
      · rw [h] at hb; cases hb
      · exact .inr ⟨hb, by omega⟩
    · exact .inl hb
  have o3 := alloc_obj w (.cells #[.int .i64 id, .slice AR nr cR, .slice AW nw cW] 25)
  have hc0 := (Chg.refl No w).alloc (.cells #[.int .i64 id, .slice AR nr cR, .slice AW nw cW] 25)
  generalize fewB xs = fb at *
  rcases hn with rfl | ⟨rfl, hf⟩
  all_goals
    go_enter Try.func4, Try.ntmps4
    go_wp2_with (first | (with_reducible refine stop_append ?_) | (with_reducible refine stop_copy ?_) | (with_reducible refine stop_make ?_) | (with_reducible refine stop_lookup ?_) | (with_reducible refine stop_update ?_) | (with_reducible refine stop_slice ?_) | (with_reducible refine stop_range ?_) | (with_reducible refine stop_next ?_) | (with_reducible refine stop_convert ⟨_, rfl⟩ ?_) | (with_reducible refine stop_convertB ⟨_, _, _, rfl⟩ ?_) | (with_reducible refine stop_eqSlice ⟨_, _, rfl⟩ ?_))
    generalize w.alloc (.cells #[.int .i64 id, .slice AR nr cR, .slice AW nw cW] 25) = w0 at *
    generalize w.heap.size = q3 at *
    refine (new_any _).mono ?_
    rintro e w1 ⟨p, rc, ri, rfl, h1, hc1, hge⟩
    clear h1 hge
    go_wp2_with (first | (with_reducible refine stop_append ?_) | (with_reducible refine stop_copy ?_) | (with_reducible refine stop_make ?_) | (with_reducible refine stop_lookup ?_) | (with_reducible refine stop_update ?_) | (with_reducible refine stop_slice ?_) | (with_reducible refine stop_range ?_) | (with_reducible refine stop_next ?_) | (with_reducible refine stop_convert ⟨_, rfl⟩ ?_) | (with_reducible refine stop_convertB ⟨_, _, _, rfl⟩ ?_) | (with_reducible refine stop_eqSlice ⟨_, _, rfl⟩ ?_))
    refine (H.out _ (hc0.trans hc1)).mono ?_
    rintro e w2 ⟨rfl, hc2⟩
    have o3 := (hc1.trans hc2).obj o3 (not_no _)
    have b1 := cell_obj (i := 1) o3 rfl
    have b2 := cell_obj (i := 2) o3 rfl
    go_wp2_with (first | (with_reducible refine stop_append ?_) | (with_reducible refine stop_copy ?_) | (with_reducible refine stop_make ?_) | (with_reducible refine stop_lookup ?_) | (with_reducible refine stop_update ?_) | (with_reducible refine stop_slice ?_) | (with_reducible refine stop_range ?_) | (with_reducible refine stop_next ?_) | (with_reducible refine stop_convert ⟨_, rfl⟩ ?_) | (with_reducible refine stop_convertB ⟨_, _, _, rfl⟩ ?_) | (with_reducible refine stop_eqSlice ⟨_, _, rfl⟩ ?_))
    refine (alive_any _).mono ?_
    rintro e w3 ⟨rfl, hc3⟩
    have hcw := ((hc0.trans hc1).trans hc2).trans hc3
    go_wp2_with (first | (with_reducible refine stop_append ?_) | (with_reducible refine stop_copy ?_) | (with_reducible refine stop_make ?_) | (with_reducible refine stop_lookup ?_) | (with_reducible refine stop_update ?_) | (with_reducible refine stop_slice ?_) | (with_reducible refine stop_range ?_) | (with_reducible refine stop_next ?_) | (with_reducible refine stop_convert ⟨_, rfl⟩ ?_) | (with_reducible refine stop_convertB ⟨_, _, _, rfl⟩ ?_) | (with_reducible refine stop_eqSlice ⟨_, _, rfl⟩ ?_))
    go_ret
    exact ⟨rfl, hcw⟩
theorem info_int : Info Try.prog 3 (.int .i64 0) 1 8 := by unfold Info; kernel_rfl
theorem store3 {u : World} {q : Nat} {a b c : Value} {T : TypeId} (ho : u.heap[q]? = some (.cells #[a, b, c] T (0, 0))) (v0 v1 v2 : Value) :
    (((u.setCell ⟨q, 0, none⟩ v0).setCell ⟨q, 1, none⟩ v1).setCell ⟨q, 2, none⟩ v2).heap[q]? = some (.cells #[v0, v1, v2] T (0, 0)) ∧ Chg (At q) u (((u.setCell ⟨q, 0, none⟩ v0).setCell ⟨q, 1, none⟩ v1).setCell ⟨q, 2, none⟩ v2) :=
  ⟨obj_set (obj_set (obj_set ho rfl) rfl) rfl, ((chg_set _).trans (chg_set _)).trans (chg_set _)⟩
structure AsF (wr u : World) (q3 q11 p rc ri : Nat) (s : Store) (C3 : Array Value) (R : Tx) (X1 : Option Addr) (c1 : Nat) (X2 : Option Addr) (c2 : Nat) : Prop where
  chg : Chg No wr u
  o3 : u.heap[q3]? = some (.cells C3 25 (0, 0))
  o11 : u.heap[q11]? = some (.cells #[.int .i64 R.1, .slice X1 R.2.1.length c1, .slice X2 R.2.2.length c2] 33 (0, 0))
  x1 : Sl (At q3) u (.slice X1 R.2.1.length c1) R.2.1
  x2 : Sl (At q3) u (.slice X2 R.2.2.length c2) R.2.2
  sto : Sto u p rc ri s
  ne : q3 ≠ q11
  ge : wr.heap.size ≤ q11
/-- The three orders in which the new variable may come end alike. -/
theorem AsF.mk' {wr w7 : World} {q3 q11 p rc ri : Nat} {s : Store} {C3 : Array Value} {R : Tx} {X1 X2 : Option Addr} {c1 c2 : Nat} {a b c : Value} (hc : Chg No wr w7) (o3 : wr.heap[q3]? = some (.cells C3 25 (0, 0)))
    (o11 : w7.heap[q11]? = some (.cells #[a, b, c] 33 (0, 0))) (hge : wr.heap.size ≤ q11) (hs : Sto wr p rc ri s)
    (h1 : Sl (Or (At q11) (Lt wr.heap.size)) w7 (.slice X1 R.2.1.length c1) R.2.1) (h2 : Sl (Or (At q11) (Lt wr.heap.size)) w7 (.slice X2 R.2.2.length c2) R.2.2) :
    AsF wr (((w7.setCell ⟨q11, 0, none⟩ (.int .i64 R.1)).setCell ⟨q11, 1, none⟩ (.slice X1 R.2.1.length c1)).setCell ⟨q11, 2, none⟩ (.slice X2 R.2.2.length c2)) q3 q11 p rc ri s C3 R X1 c1 X2 c2 := by
  obtain ⟨k1, k2⟩ := store3 o11 (.int .i64 R.1) (.slice X1 R.2.1.length c1) (.slice X2 R.2.2.length c2)
  have hl3 := lt_of_heap o3
  have hA : ∀ i, At q11 i → wr.heap.size ≤ i := fun i h => by simp only [At] at h; omega
  have hw : ∀ {n : Nat} i, i < n → At q11 i → Or (At q11) (Lt wr.heap.size) i := fun _ _ h => .inl h
  exact ⟨hc.old k2 hA, (hc.old k2 hA).obj o3 (not_no _), k1, (h1.keep (k2.weak hw)).weak (fun i _ h => .inr (by simp only [At] at h; simp only [Lt]; omega)), (h2.keep (k2.weak hw)).weak (fun i _ h => .inr (by simp only [At] at h; simp only [Lt]; omega)), hs.keepNo (hc.old k2 hA), by omega, hge⟩
set_option maxRecDepth 100000 in
set_option maxHeartbeats 4000000 in
theorem asks_main (F G : Nat → Prop) (v : Value) (xs : List ByteArray) (id : Int) (vr vw : Value) (rs : List (Int × Int)) (ws : List (Int × ByteArray)) (w : World) (h : Sl F w v xs) (hr : Sl G w vr rs) (hw : Sl G w vw ws) (hfb : fewB xs = true) (hsm : rs.length + ws.length ≤ 100) :
    Calls Try.prog 4 #[v, .agg #[.int .i64 id, vr, vw]] w fun e w' => e = .returned (.bool true) ∧ Chg No w w' := by
  obtain ⟨hx40, hxs⟩ := fewB_yes hfb
  have hfew : ∀ W, Chg No w W → Calls Try.prog 22 #[v] W fun e w' => e = .returned (.bool true) ∧ Chg No W w' := fun W hW => by
    rw [← hfb]; exact few_any F v xs W (h.keepNo hW) (by omega) (fun x hx => by have := sizes_mem hx; omega)
  have Hfew := Lib.hid hfew
  obtain ⟨A, c, rfl⟩ := h.slice
  obtain ⟨AR, cR, rfl⟩ := hr.slice
  obtain ⟨AW, cW, rfl⟩ := hw.slice
  have H := Lib.hid h; have Hr := Lib.hid hr; have Hw := Lib.hid hw
  have hwr : IntKind.i64.wrap ((rs.length : Int) + ws.length) = (rs.length : Int) + ws.length := IntWalk.i64_in _ (by omega)
  have g1 : ¬ (100 : Int) < rs.length + ws.length := by omega
  have o3 := alloc_obj w (.cells #[.int .i64 id, .slice AR rs.length cR, .slice AW ws.length cW] 25)
  have hc0 := (Chg.refl No w).alloc (.cells #[.int .i64 id, .slice AR rs.length cR, .slice AW ws.length cW] 25)
  clear hfew h hfb hr hw
  go_enter Try.func4, Try.ntmps4
  go_wp2_with (first | (with_reducible refine stop_append ?_) | (with_reducible refine stop_copy ?_) | (with_reducible refine stop_make ?_) | (with_reducible refine stop_lookup ?_) | (with_reducible refine stop_update ?_) | (with_reducible refine stop_slice ?_) | (with_reducible refine stop_range ?_) | (with_reducible refine stop_next ?_) | (with_reducible refine stop_convert ⟨_, rfl⟩ ?_) | (with_reducible refine stop_convertB ⟨_, _, _, rfl⟩ ?_) | (with_reducible refine stop_eqSlice ⟨_, _, rfl⟩ ?_))
  generalize w.alloc (.cells #[.int .i64 id, .slice AR rs.length cR, .slice AW ws.length cW] 25) = w0 at *
  obtain ⟨q3, hq3⟩ : ∃ q, q = w.heap.size := ⟨_, rfl⟩
  rw [← hq3] at o3 ⊢
  have hq3w : w.heap.size ≤ q3 := by omega
  clear hq3
  refine (new_any _).mono ?_
  rintro e w1 ⟨p, rc, ri, rfl, h1, hc1, hge0⟩
  have hge : ∀ k, Sf p rc ri k → w.heap.size ≤ k := fun k hk => by have := hge0 k hk; have := hc0.size; omega
  have hq3s : ∀ k, Sf p rc ri k → q3 < k := fun k hk => by have := hge0 k hk; have := lt_of_heap o3; omega
  have H1 := Lib.hid h1
  clear h1 hge0
  have hc01 := hc0.trans hc1
  have o3 := hc1.obj o3 (not_no _)
  go_wp2_with (first | (with_reducible refine stop_append ?_) | (with_reducible refine stop_copy ?_) | (with_reducible refine stop_make ?_) | (with_reducible refine stop_lookup ?_) | (with_reducible refine stop_update ?_) | (with_reducible refine stop_slice ?_) | (with_reducible refine stop_range ?_) | (with_reducible refine stop_next ?_) | (with_reducible refine stop_convert ⟨_, rfl⟩ ?_) | (with_reducible refine stop_convertB ⟨_, _, _, rfl⟩ ?_) | (with_reducible refine stop_eqSlice ⟨_, _, rfl⟩ ?_))
  refine (Hfew.out _ hc01).mono ?_
  rintro e w2 ⟨rfl, hc2⟩
  have hc02 := hc01.trans hc2
  have o3 := hc2.obj o3 (not_no _)
  have H2 := Lib.hid (H1.out.keepNo hc2)
  have b1 := cell_obj (i := 1) o3 rfl
  have b2 := cell_obj (i := 2) o3 rfl
  clear hc0 hc1 hc2 hc01 H1
  go_wp2_with (first | (with_reducible refine stop_append ?_) | (with_reducible refine stop_copy ?_) | (with_reducible refine stop_make ?_) | (with_reducible refine stop_lookup ?_) | (with_reducible refine stop_update ?_) | (with_reducible refine stop_slice ?_) | (with_reducible refine stop_range ?_) | (with_reducible refine stop_next ?_) | (with_reducible refine stop_convert ⟨_, rfl⟩ ?_) | (with_reducible refine stop_convertB ⟨_, _, _, rfl⟩ ?_) | (with_reducible refine stop_eqSlice ⟨_, _, rfl⟩ ?_))
  go_loopw [51] (fun v51 wr => ∃ (k : Nat), k ≤ xs.length ∧ v51 = .int .i64 k ∧ Sto wr p rc ri (addAll s0 (xs.take k)) ∧ Chg No w wr ∧ wr.heap[q3]? = some (.cells #[.int .i64 id, .slice AR rs.length cR, .slice AW ws.length cW] 25 (0, 0))) (fun v51 _ => xs.length - (intOf v51).toNat)
  case atStart => exact ⟨0, by omega, rfl, H2.out, hc02, o3⟩
  case round =>
    clear o3
    obtain ⟨k, hk, rfl, hs, hc, o3⟩ := hrel
    clear H2 hc02 b1 b2
    have Hs := Lib.hid hs; clear hs
    by_cases hlt : k < xs.length
    · obtain ⟨b, o, d, rfl, _, hbl, rfl, ha⟩ := (H.out.keepNo hc).get k hlt
      have ha0 := ha 0 _ rfl
      simp only [show Rep.n ByteArray = 1 from rfl, Nat.mul_one, Nat.add_zero] at ha0
      have hbd := (addAll_bd xs k hk).le (C := 1000000000) (by omega)
      have hsz := sizes_mem (List.getElem_mem hlt)
      have Hsn := Lib.hid (addAll_snoc s0 xs k hlt)
      have Hbd := Lib.hid hbd
      clear ha hbd
      generalize xs[k] = x at ha0 Hsn hsz
      generalize addAll s0 (xs.take k) = s at Hs Hsn Hbd
      go_wp2_with (first | (with_reducible refine stop_append ?_) | (with_reducible refine stop_copy ?_) | (with_reducible refine stop_make ?_) | (with_reducible refine stop_lookup ?_) | (with_reducible refine stop_update ?_) | (with_reducible refine stop_slice ?_) | (with_reducible refine stop_range ?_) | (with_reducible refine stop_next ?_) | (with_reducible refine stop_convert ⟨_, rfl⟩ ?_) | (with_reducible refine stop_convertB ⟨_, _, _, rfl⟩ ?_) | (with_reducible refine stop_eqSlice ⟨_, _, rfl⟩ ?_))
      refine (add_any p rc ri s x _ Hs.out (by omega) Hbd.out).mono ?_
      rintro e w3 ⟨rfl, hs3, hc3⟩
      have hc03 := hc.old hc3 hge
      have o33 := hc3.obj o3 (fun hk => by have := hq3s _ hk; omega)
      rw [← Hsn.out] at hs3
      have Hs3 := Lib.hid hs3
      clear hs3 hc3
      go_wp2_with (first | (with_reducible refine stop_append ?_) | (with_reducible refine stop_copy ?_) | (with_reducible refine stop_make ?_) | (with_reducible refine stop_lookup ?_) | (with_reducible refine stop_update ?_) | (with_reducible refine stop_slice ?_) | (with_reducible refine stop_range ?_) | (with_reducible refine stop_next ?_) | (with_reducible refine stop_convert ⟨_, rfl⟩ ?_) | (with_reducible refine stop_convertB ⟨_, _, _, rfl⟩ ?_) | (with_reducible refine stop_eqSlice ⟨_, _, rfl⟩ ?_))
      go_roundw
      case rel => exact ⟨k + 1, by omega, by go_num, Hs3.out, hc03, o33⟩
      case measure => simp [intOf]; omega
    · obtain rfl : k = xs.length := by omega
      have hbd := addAll_bd xs xs.length (Nat.le_refl _)
      rw [List.take_length] at hbd
      have hs := Hs.out
      rw [List.take_length] at hs
      have hbd2 := hbd.le (C := 1000) (by omega)
      clear hbd Hs hlt
      generalize addAll s0 xs = s at hs hbd2
      have Hbd := Lib.hid hbd2
      have Hs := Lib.hid hs
      clear hbd2 hs
      have b1 := cell_obj (i := 1) o3 rfl
      have hq3l := lt_of_heap o3
      obtain ⟨wA, rfl⟩ : ∃ wA : World, wA = wr := ⟨_, rfl⟩
      go_wp2_with (first | (with_reducible refine stop_append ?_) | (with_reducible refine stop_copy ?_) | (with_reducible refine stop_make ?_) | (with_reducible refine stop_lookup ?_) | (with_reducible refine stop_update ?_) | (with_reducible refine stop_slice ?_) | (with_reducible refine stop_range ?_) | (with_reducible refine stop_next ?_) | (with_reducible refine stop_convert ⟨_, rfl⟩ ?_) | (with_reducible refine stop_convertB ⟨_, _, _, rfl⟩ ?_) | (with_reducible refine stop_eqSlice ⟨_, _, rfl⟩ ?_))
      clear b1
      go_loopw [8, 62] (fun v8 v62 wr => ∃ (k : Nat) (v : Value), k ≤ rs.length ∧ v62 = .int .i64 k ∧ v8 = v ∧ Own No wr wA.heap.size 3 v ((rs.take k).map (·.1)) ∧ Chg No wA wr) (fun _ v62 _ => rs.length - (intOf v62).toNat)
      case atStart => exact ⟨0, _, by omega, rfl, rfl, by simpa using Own.nil _ _ _ _, Chg.refl _ _⟩
      case round =>
        obtain ⟨k, v, hk, rfl, rfl, hown, hcA⟩ := hrel
        by_cases hlt : k < rs.length
        · obtain ⟨b, o, d, rfl, _, hbl, ⟨_, _, rfl, rfl, rfl⟩, ha⟩ := (Hr.out.keepNo (hc.trans hcA)).get k hlt
          have ha0 := ha 0 _ rfl
          have ha1 := ha 1 _ rfl
          simp only [show Rep.n (Int × Int) = 2 from rfl, Nat.add_zero] at ha0 ha1
          have hsn : (rs.take (k + 1)).map (·.1) = (rs.take k).map (·.1) ++ [rs[k].1] := by rw [List.take_succ_eq_append_getElem hlt, List.map_append]; rfl
          have Hsn := Lib.hid hsn
          clear ha hsn
          generalize rs[k] = x at ha0 ha1 Hsn
          obtain ⟨f, ver⟩ := x
          simp only at ha0 ha1
          have hlen : ((rs.take k).map (·.1)).length = k := by rw [List.length_map, List.length_take]; omega
          have hc5 := (Chg.refl No wr).alloc (.cells #[.int .i64 f, .int .i64 ver] 52)
          have z0 := cell_obj (i := 0) (alloc_obj wr (.cells #[.int .i64 f, .int .i64 ver] 52)) rfl
          have e5 : (wr.alloc (.cells #[.int .i64 f, .int .i64 ver] 52)).heap.size = wr.heap.size + 1 := by simp
          go_wp2_with (first | (with_reducible refine stop_append ?_) | (with_reducible refine stop_copy ?_) | (with_reducible refine stop_make ?_) | (with_reducible refine stop_lookup ?_) | (with_reducible refine stop_update ?_) | (with_reducible refine stop_slice ?_) | (with_reducible refine stop_range ?_) | (with_reducible refine stop_next ?_) | (with_reducible refine stop_convert ⟨_, rfl⟩ ?_) | (with_reducible refine stop_convertB ⟨_, _, _, rfl⟩ ?_) | (with_reducible refine stop_eqSlice ⟨_, _, rfl⟩ ?_))
          generalize wr.alloc (.cells #[.int .i64 f, .int .i64 ver] 52) = w5 at *
          rw [← e5]
          have hown5 := (hown.keepFlat hc5 (fun _ _ f => f)).alloc (.cells #[.int .i64 f] 3)
          refine step_append_flat (α := Int) (ys := [f]) Try.underlying50 info_int rfl hown5 rfl rfl (Sl.lit1 (F := No) (y := f) rfl rfl (not_no _)) (by rw [hlen]; simp; omega) (by rw [hlen]; simp; omega) (by have := hc5.size; have := hcA.size; simp; omega) ?_
          intro v7 w7 hown7 hg7
          have hc57 : Chg No wA w7 := ((hcA.trans hc5).alloc (.cells #[.int .i64 f] 3)).grew hg7 (fun k hk => .inr (hown.lt k hk).1)
          rw [show (rs.take k).map (·.1) ++ [f] = (rs.take (k + 1)).map (·.1) from Hsn.out.symm] at hown7
          have Hown7 := Lib.hid hown7
          clear hown7 hown5 hown hg7 z0 e5
          go_wp2_with (first | (with_reducible refine stop_append ?_) | (with_reducible refine stop_copy ?_) | (with_reducible refine stop_make ?_) | (with_reducible refine stop_lookup ?_) | (with_reducible refine stop_update ?_) | (with_reducible refine stop_slice ?_) | (with_reducible refine stop_range ?_) | (with_reducible refine stop_next ?_) | (with_reducible refine stop_convert ⟨_, rfl⟩ ?_) | (with_reducible refine stop_convertB ⟨_, _, _, rfl⟩ ?_) | (with_reducible refine stop_eqSlice ⟨_, _, rfl⟩ ?_))
          go_roundw
          case rel => exact ⟨k + 1, _, by omega, by go_num, rfl, Hown7.out, hc57⟩
          case measure => simp [intOf]; omega
        · obtain rfl : k = rs.length := by omega
          rw [List.take_length] at hown
          have hsf : Sl No wr u8 (rs.map (·.1)) := hown.slFlat (fun _ _ => not_no _)
          have hml : (rs.map (·.1)).length = rs.length := List.length_map _
          obtain ⟨A8, c8, e8⟩ := hsf.slice
          rw [hml] at e8
          subst e8
          have o3r := hcA.obj o3 (not_no _)
          have hcr := hc.trans hcA
          have Hsr := Lib.hid (Hs.out.keepNo hcA)
          have y0 := cell_obj (i := 0) o3r rfl
          have y1 := cell_obj (i := 1) o3r rfl
          have y2 := cell_obj (i := 2) o3r rfl
          obtain ⟨R, hR⟩ : ∃ R, R = askR s (askT s id (rs.map (·.1)) ws) := ⟨_, rfl⟩
          obtain ⟨E, hE⟩ : ∃ E, E = askE s (askT s id (rs.map (·.1)) ws) := ⟨_, rfl⟩
          have ow : ∀ W, Chg No wr W → Calls Try.prog 13 #[.agg #[.int .i64 id, .slice AR rs.length cR, .slice AW ws.length cW]] W (CopyPost id rs ws W) := fun W hW => own_any G id _ _ rs ws W (Hr.out.keepNo (hcr.trans hW)) (Hw.out.keepNo (hcr.trans hW)) (by omega) (by omega)
          have ak : ∀ (vq : Value) (W : World), Chg No wr W → Sl No W vq ws → Calls Try.prog 24 #[.pointer (some ⟨p, 0, none⟩), .int .i64 id, .slice A8 rs.length c8, vq] W (AskPost R E W) := fun vq W hW hq => by
            rw [hR, hE]; exact ask_any No No p rc ri s id _ _ _ _ W (Hsr.out.keepNo hW) (hsf.keepNo hW) hq (by simp; omega) (by omega)
          have Ow := Lib.hid ow; have Ak := Lib.hid ak; have HR := Lib.hid hR; have HE := Lib.hid hE
          clear ow ak hR hE hsf hown hml hc hcA o3 Hs
          go_wp2_with (first | (with_reducible refine stop_append ?_) | (with_reducible refine stop_copy ?_) | (with_reducible refine stop_make ?_) | (with_reducible refine stop_lookup ?_) | (with_reducible refine stop_update ?_) | (with_reducible refine stop_slice ?_) | (with_reducible refine stop_range ?_) | (with_reducible refine stop_next ?_) | (with_reducible refine stop_convert ⟨_, rfl⟩ ?_) | (with_reducible refine stop_convertB ⟨_, _, _, rfl⟩ ?_) | (with_reducible refine stop_eqSlice ⟨_, _, rfl⟩ ?_))
          have hS : ∀ W, Chg No wr W → (fun W => W.cell? ⟨q3, 0, none⟩ = some (.int .i64 id) ∧ W.cell? ⟨q3, 1, none⟩ = some (.slice AR rs.length cR) ∧ W.cell? ⟨q3, 2, none⟩ = some (.slice AW ws.length cW)) W := fun W hW => ⟨hW.cell y0 (not_no _), hW.cell y1 (not_no _), hW.cell y2 (not_no _)⟩
          have HS := Lib.hid hS
          clear hS y0 y1 y2
          have cd := (Chg.refl No wr).drew
          refine rt_start (fun W => W.cell? ⟨q3, 0, none⟩ = some (.int .i64 id) ∧ W.cell? ⟨q3, 1, none⟩ = some (.slice AR rs.length cR) ∧ W.cell? ⟨q3, 2, none⟩ = some (.slice AW ws.length cW)) (by kernel_rfl) ?_
          ((refine rt_yes (i := 0) (oi := { dst := some 73, op := Go.Op.move (Go.Operand.tmp 5), type := 46, pos := "law.go:170", after := #[], guard := none }) (v := ?_) rfl (by kernel_rfl) (by kernel_rfl) (by kernel_rfl) (fun _ _ _ h => h) rfl ?_ ?_); rotate_left; focus (intro W hW; (try dsimp only at hW); go_split_ands; go_simp; (try (simp (disch := omega) only [IntWalk.i64_in]; (try go_simp))); (try (split; (next => omega); (try go_simp))); try rfl; done))
          try simp only [Act.put, List.setIfInBounds_toArray, List.set_cons_zero, List.set_cons_succ]
          ((refine rt_yes (i := 1) (oi := { dst := some 74, op := Go.Op.fieldAddr 25 (Go.Operand.tmp 3) 0, type := 0, pos := "law.go:170", after := #[], guard := none }) (v := ?_) rfl (by kernel_rfl) (by kernel_rfl) (by kernel_rfl) (fun _ _ _ h => h) rfl ?_ ?_); rotate_left; focus (intro W hW; (try dsimp only at hW); go_split_ands; go_simp; (try (simp (disch := omega) only [IntWalk.i64_in]; (try go_simp))); (try (split; (next => omega); (try go_simp))); try rfl; done))
          try simp only [Act.put, List.setIfInBounds_toArray, List.set_cons_zero, List.set_cons_succ]
          ((refine rt_yes (i := 2) (oi := { dst := some 75, op := Go.Op.load 3 (Go.Operand.tmp 74), type := 3, pos := "law.go:170", after := #[{ on := 1, ground := Go.Ground.data }], guard := none }) (v := ?_) rfl (by kernel_rfl) (by kernel_rfl) (by kernel_rfl) (fun _ _ _ h => h) rfl ?_ ?_); rotate_left; focus (intro W hW; (try dsimp only at hW); go_split_ands; go_simp; (try (simp (disch := omega) only [IntWalk.i64_in]; (try go_simp))); (try (split; (next => omega); (try go_simp))); try rfl; done))
          try simp only [Act.put, List.setIfInBounds_toArray, List.set_cons_zero, List.set_cons_succ]
          ((refine rt_yes (i := 3) (oi := { dst := some 76, op := Go.Op.move (Go.Operand.tmp 8), type := 50, pos := "law.go:170", after := #[], guard := none }) (v := ?_) rfl (by kernel_rfl) (by kernel_rfl) (by kernel_rfl) (fun _ _ _ h => h) rfl ?_ ?_); rotate_left; focus (intro W hW; (try dsimp only at hW); go_split_ands; go_simp; (try (simp (disch := omega) only [IntWalk.i64_in]; (try go_simp))); (try (split; (next => omega); (try go_simp))); try rfl; done))
          try simp only [Act.put, List.setIfInBounds_toArray, List.set_cons_zero, List.set_cons_succ]
          ((refine rt_yes (i := 4) (oi := { dst := some 77, op := Go.Op.load 25 (Go.Operand.tmp 3), type := 25, pos := "law.go:170", after := #[], guard := none }) (v := ?_) rfl (by kernel_rfl) (by kernel_rfl) (by kernel_rfl) (fun _ _ _ h => h) rfl ?_ ?_); rotate_left; focus (intro W hW; (try dsimp only at hW); go_split_ands; go_simp; (try (simp (disch := omega) only [IntWalk.i64_in]; (try go_simp))); (try (split; (next => omega); (try go_simp))); try rfl; done))
          try simp only [Act.put, List.setIfInBounds_toArray, List.set_cons_zero, List.set_cons_succ]
          -- ready: [5, 11]
          refine rt_two (i := 5) (j := 11) (oi := { dst := some 78, op := Go.Op.call { callee := Go.Callee.value (Go.Operand.func 13), args := #[Go.Operand.tmp 77], argTypes := #[25] }, type := 33, pos := "law.go:170", after := #[{ on := 4, ground := Go.Ground.data }], guard := none }) (oj := { dst := some 11, op := Go.Op.alloc 33, type := 0, pos := "law.go:170", after := #[], guard := none }) (by kernel_rfl) (HS.out _ cd) rfl rfl rfl rfl (fun K hK => ?_) (fun K hK => ?_)
          rotate_left
          focus
            go_simp
            refine hK _ _ ?_
            clear hK K
            try simp only [Act.put, List.setIfInBounds_toArray, List.set_cons_zero, List.set_cons_succ]
            -- ready: [5]
            have o11 := (Chg.refl No (wr.alloc (.cells #[.int .i64 0, .slice none 0 0, .slice none 0 0] 33))).drew.obj (alloc_obj wr (.cells #[.int .i64 0, .slice none 0 0, .slice none 0 0] 33)) (not_no _)
            have cdA : Chg No wr (wr.alloc (.cells #[.int .i64 0, .slice none 0 0, .slice none 0 0] 33)).drew := ((Chg.refl No wr).alloc (.cells #[.int .i64 0, .slice none 0 0, .slice none 0 0] 33)).drew
            generalize wr.alloc (.cells #[.int .i64 0, .slice none 0 0, .slice none 0 0] 33) = wB at *
            obtain ⟨q11, hq⟩ : ∃ q, q = wr.heap.size := ⟨_, rfl⟩
            rw [← hq] at o11 ⊢
            have hq11 : wr.heap.size ≤ q11 := by omega
            clear hq
            refine rt_k (fun W => W.cell? ⟨q3, 0, none⟩ = some (.int .i64 id) ∧ W.cell? ⟨q3, 1, none⟩ = some (.slice AR rs.length cR) ∧ W.cell? ⟨q3, 2, none⟩ = some (.slice AW ws.length cW)) (i := 5) (oi := { dst := some 78, op := Go.Op.call { callee := Go.Callee.value (Go.Operand.func 13), args := #[Go.Operand.tmp 77], argTypes := #[25] }, type := 33, pos := "law.go:170", after := #[{ on := 4, ground := Go.Ground.data }], guard := none }) (by kernel_rfl) (HS.out _ cdA) (fun _ h => h) rfl (by rfl) (fun K hK => ?_)
            go_simp
            refine (Ow.out _ cdA).mono ?_
            rintro e w5 ⟨t1, t2, rfl, hc5, ht1, ht2⟩
            obtain ⟨B1, d1, rfl⟩ := ht1.slice
            obtain ⟨B2, d2, rfl⟩ := ht2.slice
            have cd5 := cdA.trans hc5
            have o11 := hc5.obj o11 (not_no _)
            refine hK _ _ ?_
            clear hK K
            try simp only [Act.put, List.setIfInBounds_toArray, List.set_cons_zero, List.set_cons_succ]
            ((refine rt_yes (i := 6) (oi := { dst := some 79, op := Go.Op.field 33 (Go.Operand.tmp 78) 2, type := 31, pos := "law.go:170", after := #[{ on := 5, ground := Go.Ground.data }], guard := none }) (v := ?_) rfl (by kernel_rfl) (by kernel_rfl) (by kernel_rfl) (fun _ _ _ h => h) rfl ?_ ?_); rotate_left; focus (intro W hW; (try dsimp only at hW); go_split_ands; go_simp; (try (simp (disch := omega) only [IntWalk.i64_in]; (try go_simp))); (try (split; (next => omega); (try go_simp))); try rfl; done))
            try simp only [Act.put, List.setIfInBounds_toArray, List.set_cons_zero, List.set_cons_succ]
            -- ready: [7]
            refine rt_k (fun W => W.cell? ⟨q3, 0, none⟩ = some (.int .i64 id) ∧ W.cell? ⟨q3, 1, none⟩ = some (.slice AR rs.length cR) ∧ W.cell? ⟨q3, 2, none⟩ = some (.slice AW ws.length cW)) (i := 7) (oi := { dst := some 80, op := Go.Op.call { callee := Go.Callee.value (Go.Operand.func 24), args := #[Go.Operand.tmp 73, Go.Operand.tmp 75, Go.Operand.tmp 76, Go.Operand.tmp 79], argTypes := #[46, 3, 50, 31] }, type := 36, pos := "law.go:170", after := #[{ on := 0, ground := Go.Ground.data }, { on := 2, ground := Go.Ground.data }, { on := 3, ground := Go.Ground.data }, { on := 6, ground := Go.Ground.data }, { on := 5, ground := Go.Ground.chain }], guard := none }) (by kernel_rfl) (HS.out _ cd5) (fun _ h => h) rfl (by rfl) (fun K hK => ?_)
            go_simp
            refine (Ak.out _ _ cd5 ht2.no).mono ?_
            rintro e w7 ⟨x1, x2, rfl, hc7, hx1, hx2⟩
            obtain ⟨X1, c1, rfl⟩ := hx1.slice
            obtain ⟨X2, c2, rfl⟩ := hx2.slice
            have hq5 := lt_of_heap o11
            have o11 := hc7.obj o11 (not_no _)
            have hx1 : Sl (Or (At q11) (Lt wr.heap.size)) w7 (.slice X1 R.2.1.length c1) R.2.1 := hx1.weak (fun i hi h => by simp only [Cb.Or, At, Lt] at h ⊢; omega)
            have hx2 : Sl (Or (At q11) (Lt wr.heap.size)) w7 (.slice X2 R.2.2.length c2) R.2.2 := hx2.weak (fun i hi h => by simp only [Cb.Or, At, Lt] at h ⊢; omega)
            have cd7 := cd5.trans hc7
            clear ht1 ht2 hc5 hc7 cd5 cdA hq5
            refine hK _ _ ?_
            clear hK K
            try simp only [Act.put, List.setIfInBounds_toArray, List.set_cons_zero, List.set_cons_succ]
            ((refine rt_yes (i := 8) (oi := { dst := some 72, op := Go.Op.move (Go.Operand.tmp 80), type := 36, pos := "law.go:170", after := #[{ on := 7, ground := Go.Ground.data }], guard := none }) (v := ?_) rfl (by kernel_rfl) (by kernel_rfl) (by kernel_rfl) (fun _ _ _ h => h) rfl ?_ ?_); rotate_left; focus (intro W hW; (try dsimp only at hW); go_split_ands; go_simp; (try (simp (disch := omega) only [IntWalk.i64_in]; (try go_simp))); (try (split; (next => omega); (try go_simp))); try rfl; done))
            try simp only [Act.put, List.setIfInBounds_toArray, List.set_cons_zero, List.set_cons_succ]
            ((refine rt_yes (i := 9) (oi := { dst := some 81, op := Go.Op.extract (Go.Operand.tmp 72) 0, type := 33, pos := "law.go:170", after := #[{ on := 8, ground := Go.Ground.data }], guard := none }) (v := ?_) rfl (by kernel_rfl) (by kernel_rfl) (by kernel_rfl) (fun _ _ _ h => h) rfl ?_ ?_); rotate_left; focus (intro W hW; (try dsimp only at hW); go_split_ands; go_simp; (try (simp (disch := omega) only [IntWalk.i64_in]; (try go_simp))); (try (split; (next => omega); (try go_simp))); try rfl; done))
            try simp only [Act.put, List.setIfInBounds_toArray, List.set_cons_zero, List.set_cons_succ]
            ((refine rt_yes (i := 10) (oi := { dst := some 82, op := Go.Op.extract (Go.Operand.tmp 72) 1, type := 27, pos := "law.go:170", after := #[{ on := 8, ground := Go.Ground.data }, { on := 12, ground := Go.Ground.gcOnly Go.Departure.lateStores }], guard := none }) (v := ?_) rfl (by kernel_rfl) (by kernel_rfl) (by kernel_rfl) (fun _ _ _ h => h) rfl ?_ ?_); rotate_left; focus (intro W hW; (try dsimp only at hW); go_split_ands; go_simp; (try (simp (disch := omega) only [IntWalk.i64_in]; (try go_simp))); (try (split; (next => omega); (try go_simp))); try rfl; done))
            try simp only [Act.put, List.setIfInBounds_toArray, List.set_cons_zero, List.set_cons_succ]
            -- ready: [12]
            have z0 := cell_obj (i := 0) o11 rfl
            have z1 := cell_obj (i := 1) o11 rfl
            have z2 := cell_obj (i := 2) o11 rfl
            have f0 := free_obj (i := 0) o11
            have f1 := free_obj (i := 1) o11
            have f2 := free_obj (i := 2) o11
            refine rt_k (fun W => W.cell? ⟨q3, 0, none⟩ = some (.int .i64 id) ∧ W.cell? ⟨q3, 1, none⟩ = some (.slice AR rs.length cR) ∧ W.cell? ⟨q3, 2, none⟩ = some (.slice AW ws.length cW)) (i := 12) (oi := { dst := none, op := Go.Op.store 33 (Go.Operand.tmp 11) (Go.Operand.tmp 81), type := 0, pos := "law.go:170", after := #[{ on := 11, ground := Go.Ground.data }, { on := 9, ground := Go.Ground.data }, { on := 7, ground := Go.Ground.chain }, { on := 0, ground := Go.Ground.phase }, { on := 1, ground := Go.Ground.phase }, { on := 2, ground := Go.Ground.phase }, { on := 3, ground := Go.Ground.phase }, { on := 4, ground := Go.Ground.phase }, { on := 5, ground := Go.Ground.phase }, { on := 6, ground := Go.Ground.phase }, { on := 7, ground := Go.Ground.phase }, { on := 8, ground := Go.Ground.phase }, { on := 9, ground := Go.Ground.phase }, { on := 10, ground := Go.Ground.textOnly Go.Departure.lateStores }, { on := 11, ground := Go.Ground.phase }], guard := none }) (by kernel_rfl) (HS.out _ cd7) (fun _ h => h) rfl (by rfl) (fun K hK => ?_)
            go_simp
            refine hK _ _ ?_
            clear hK K
            try simp only [Act.put, List.setIfInBounds_toArray, List.set_cons_zero, List.set_cons_succ]
            -- ready: [13]
            have fin := AsF.mk' (R := R) cd7 o3r o11 hq11 Hsr.out hx1 hx2
            generalize (((w7.setCell ⟨q11, 0, none⟩ (.int .i64 R.1)).setCell ⟨q11, 1, none⟩ (.slice X1 R.2.1.length c1)).setCell ⟨q11, 2, none⟩ (.slice X2 R.2.2.length c2)) = u at fin ⊢
            refine rt_k (fun W => W.cell? ⟨q3, 0, none⟩ = some (.int .i64 id) ∧ W.cell? ⟨q3, 1, none⟩ = some (.slice AR rs.length cR) ∧ W.cell? ⟨q3, 2, none⟩ = some (.slice AW ws.length cW)) (i := 13) (oi := { dst := some 12, op := Go.Op.assign (Go.Operand.tmp 82), type := 27, pos := "law.go:170", after := #[{ on := 10, ground := Go.Ground.data }, { on := 12, ground := Go.Ground.chain }, { on := 0, ground := Go.Ground.phase }, { on := 1, ground := Go.Ground.phase }, { on := 2, ground := Go.Ground.phase }, { on := 3, ground := Go.Ground.phase }, { on := 4, ground := Go.Ground.phase }, { on := 5, ground := Go.Ground.phase }, { on := 6, ground := Go.Ground.phase }, { on := 7, ground := Go.Ground.phase }, { on := 8, ground := Go.Ground.phase }, { on := 9, ground := Go.Ground.phase }, { on := 10, ground := Go.Ground.phase }, { on := 11, ground := Go.Ground.phase }, { on := 12, ground := Go.Ground.phase }], guard := none }) (by kernel_rfl) (HS.out _ fin.chg) (fun _ h => h) rfl (by rfl) (fun K hK => ?_)
            go_simp
            refine hK _ _ ?_
            clear hK K
            try simp only [Act.put, List.setIfInBounds_toArray, List.set_cons_zero, List.set_cons_succ]
            -- ready: []
            refine rt_done (by kernel_rfl)  ?_
            clear z0 z1 z2 f0 f1 f2 cd7 o11 hx1 hx2 Ow Ak HS cd o3r hq11
          rotate_left
          focus
            go_simp
            refine (Ow.out _ cd).mono ?_
            rintro e w5 ⟨t1, t2, rfl, hc5, ht1, ht2⟩
            obtain ⟨B1, d1, rfl⟩ := ht1.slice
            obtain ⟨B2, d2, rfl⟩ := ht2.slice
            have cd5 := cd.trans hc5
            refine hK _ _ ?_
            clear hK K
            try simp only [Act.put, List.setIfInBounds_toArray, List.set_cons_zero, List.set_cons_succ]
            ((refine rt_yes (i := 6) (oi := { dst := some 79, op := Go.Op.field 33 (Go.Operand.tmp 78) 2, type := 31, pos := "law.go:170", after := #[{ on := 5, ground := Go.Ground.data }], guard := none }) (v := ?_) rfl (by kernel_rfl) (by kernel_rfl) (by kernel_rfl) (fun _ _ _ h => h) rfl ?_ ?_); rotate_left; focus (intro W hW; (try dsimp only at hW); go_split_ands; go_simp; (try (simp (disch := omega) only [IntWalk.i64_in]; (try go_simp))); (try (split; (next => omega); (try go_simp))); try rfl; done))
            try simp only [Act.put, List.setIfInBounds_toArray, List.set_cons_zero, List.set_cons_succ]
            -- ready: [7, 11]
            refine rt_two (i := 7) (j := 11) (oi := { dst := some 80, op := Go.Op.call { callee := Go.Callee.value (Go.Operand.func 24), args := #[Go.Operand.tmp 73, Go.Operand.tmp 75, Go.Operand.tmp 76, Go.Operand.tmp 79], argTypes := #[46, 3, 50, 31] }, type := 36, pos := "law.go:170", after := #[{ on := 0, ground := Go.Ground.data }, { on := 2, ground := Go.Ground.data }, { on := 3, ground := Go.Ground.data }, { on := 6, ground := Go.Ground.data }, { on := 5, ground := Go.Ground.chain }], guard := none }) (oj := { dst := some 11, op := Go.Op.alloc 33, type := 0, pos := "law.go:170", after := #[], guard := none }) (by kernel_rfl) (HS.out _ cd5) rfl rfl rfl rfl (fun K hK => ?_) (fun K hK => ?_)
            rotate_left
            focus
              go_simp
              refine hK _ _ ?_
              clear hK K
              try simp only [Act.put, List.setIfInBounds_toArray, List.set_cons_zero, List.set_cons_succ]
              -- ready: [7]
              have c56 := (Chg.refl No w5).alloc (.cells #[.int .i64 0, .slice none 0 0, .slice none 0 0] 33)
              have o11 := alloc_obj w5 (.cells #[.int .i64 0, .slice none 0 0, .slice none 0 0] 33)
              have hq11 : wr.heap.size ≤ w5.heap.size := cd5.size
              generalize w5.alloc (.cells #[.int .i64 0, .slice none 0 0, .slice none 0 0] 33) = wB at *
              generalize w5.heap.size = q11 at *
              have cdB := cd5.trans c56
              refine rt_k (fun W => W.cell? ⟨q3, 0, none⟩ = some (.int .i64 id) ∧ W.cell? ⟨q3, 1, none⟩ = some (.slice AR rs.length cR) ∧ W.cell? ⟨q3, 2, none⟩ = some (.slice AW ws.length cW)) (i := 7) (oi := { dst := some 80, op := Go.Op.call { callee := Go.Callee.value (Go.Operand.func 24), args := #[Go.Operand.tmp 73, Go.Operand.tmp 75, Go.Operand.tmp 76, Go.Operand.tmp 79], argTypes := #[46, 3, 50, 31] }, type := 36, pos := "law.go:170", after := #[{ on := 0, ground := Go.Ground.data }, { on := 2, ground := Go.Ground.data }, { on := 3, ground := Go.Ground.data }, { on := 6, ground := Go.Ground.data }, { on := 5, ground := Go.Ground.chain }], guard := none }) (by kernel_rfl) (HS.out _ cdB) (fun _ h => h) rfl (by rfl) (fun K hK => ?_)
              go_simp
              refine (Ak.out _ _ cdB (ht2.no.keepNo c56)).mono ?_
              rintro e w7 ⟨x1, x2, rfl, hc7, hx1, hx2⟩
              obtain ⟨X1, c1, rfl⟩ := hx1.slice
              obtain ⟨X2, c2, rfl⟩ := hx2.slice
              have hq5 := lt_of_heap o11
              have o11 := hc7.obj o11 (not_no _)
              have hx1 : Sl (Or (At q11) (Lt wr.heap.size)) w7 (.slice X1 R.2.1.length c1) R.2.1 := hx1.weak (fun i hi h => by simp only [Cb.Or, At, Lt] at h ⊢; omega)
              have hx2 : Sl (Or (At q11) (Lt wr.heap.size)) w7 (.slice X2 R.2.2.length c2) R.2.2 := hx2.weak (fun i hi h => by simp only [Cb.Or, At, Lt] at h ⊢; omega)
              have cd7 := cdB.trans hc7
              clear ht1 ht2 hc5 hc7 cd5 cdB c56 hq5
              refine hK _ _ ?_
              clear hK K
              try simp only [Act.put, List.setIfInBounds_toArray, List.set_cons_zero, List.set_cons_succ]
              ((refine rt_yes (i := 8) (oi := { dst := some 72, op := Go.Op.move (Go.Operand.tmp 80), type := 36, pos := "law.go:170", after := #[{ on := 7, ground := Go.Ground.data }], guard := none }) (v := ?_) rfl (by kernel_rfl) (by kernel_rfl) (by kernel_rfl) (fun _ _ _ h => h) rfl ?_ ?_); rotate_left; focus (intro W hW; (try dsimp only at hW); go_split_ands; go_simp; (try (simp (disch := omega) only [IntWalk.i64_in]; (try go_simp))); (try (split; (next => omega); (try go_simp))); try rfl; done))
              try simp only [Act.put, List.setIfInBounds_toArray, List.set_cons_zero, List.set_cons_succ]
              ((refine rt_yes (i := 9) (oi := { dst := some 81, op := Go.Op.extract (Go.Operand.tmp 72) 0, type := 33, pos := "law.go:170", after := #[{ on := 8, ground := Go.Ground.data }], guard := none }) (v := ?_) rfl (by kernel_rfl) (by kernel_rfl) (by kernel_rfl) (fun _ _ _ h => h) rfl ?_ ?_); rotate_left; focus (intro W hW; (try dsimp only at hW); go_split_ands; go_simp; (try (simp (disch := omega) only [IntWalk.i64_in]; (try go_simp))); (try (split; (next => omega); (try go_simp))); try rfl; done))
              try simp only [Act.put, List.setIfInBounds_toArray, List.set_cons_zero, List.set_cons_succ]
              ((refine rt_yes (i := 10) (oi := { dst := some 82, op := Go.Op.extract (Go.Operand.tmp 72) 1, type := 27, pos := "law.go:170", after := #[{ on := 8, ground := Go.Ground.data }, { on := 12, ground := Go.Ground.gcOnly Go.Departure.lateStores }], guard := none }) (v := ?_) rfl (by kernel_rfl) (by kernel_rfl) (by kernel_rfl) (fun _ _ _ h => h) rfl ?_ ?_); rotate_left; focus (intro W hW; (try dsimp only at hW); go_split_ands; go_simp; (try (simp (disch := omega) only [IntWalk.i64_in]; (try go_simp))); (try (split; (next => omega); (try go_simp))); try rfl; done))
              try simp only [Act.put, List.setIfInBounds_toArray, List.set_cons_zero, List.set_cons_succ]
              -- ready: [12]
              have z0 := cell_obj (i := 0) o11 rfl
              have z1 := cell_obj (i := 1) o11 rfl
              have z2 := cell_obj (i := 2) o11 rfl
              have f0 := free_obj (i := 0) o11
              have f1 := free_obj (i := 1) o11
              have f2 := free_obj (i := 2) o11
              refine rt_k (fun W => W.cell? ⟨q3, 0, none⟩ = some (.int .i64 id) ∧ W.cell? ⟨q3, 1, none⟩ = some (.slice AR rs.length cR) ∧ W.cell? ⟨q3, 2, none⟩ = some (.slice AW ws.length cW)) (i := 12) (oi := { dst := none, op := Go.Op.store 33 (Go.Operand.tmp 11) (Go.Operand.tmp 81), type := 0, pos := "law.go:170", after := #[{ on := 11, ground := Go.Ground.data }, { on := 9, ground := Go.Ground.data }, { on := 7, ground := Go.Ground.chain }, { on := 0, ground := Go.Ground.phase }, { on := 1, ground := Go.Ground.phase }, { on := 2, ground := Go.Ground.phase }, { on := 3, ground := Go.Ground.phase }, { on := 4, ground := Go.Ground.phase }, { on := 5, ground := Go.Ground.phase }, { on := 6, ground := Go.Ground.phase }, { on := 7, ground := Go.Ground.phase }, { on := 8, ground := Go.Ground.phase }, { on := 9, ground := Go.Ground.phase }, { on := 10, ground := Go.Ground.textOnly Go.Departure.lateStores }, { on := 11, ground := Go.Ground.phase }], guard := none }) (by kernel_rfl) (HS.out _ cd7) (fun _ h => h) rfl (by rfl) (fun K hK => ?_)
              go_simp
              refine hK _ _ ?_
              clear hK K
              try simp only [Act.put, List.setIfInBounds_toArray, List.set_cons_zero, List.set_cons_succ]
              -- ready: [13]
              have fin := AsF.mk' (R := R) cd7 o3r o11 hq11 Hsr.out hx1 hx2
              generalize (((w7.setCell ⟨q11, 0, none⟩ (.int .i64 R.1)).setCell ⟨q11, 1, none⟩ (.slice X1 R.2.1.length c1)).setCell ⟨q11, 2, none⟩ (.slice X2 R.2.2.length c2)) = u at fin ⊢
              refine rt_k (fun W => W.cell? ⟨q3, 0, none⟩ = some (.int .i64 id) ∧ W.cell? ⟨q3, 1, none⟩ = some (.slice AR rs.length cR) ∧ W.cell? ⟨q3, 2, none⟩ = some (.slice AW ws.length cW)) (i := 13) (oi := { dst := some 12, op := Go.Op.assign (Go.Operand.tmp 82), type := 27, pos := "law.go:170", after := #[{ on := 10, ground := Go.Ground.data }, { on := 12, ground := Go.Ground.chain }, { on := 0, ground := Go.Ground.phase }, { on := 1, ground := Go.Ground.phase }, { on := 2, ground := Go.Ground.phase }, { on := 3, ground := Go.Ground.phase }, { on := 4, ground := Go.Ground.phase }, { on := 5, ground := Go.Ground.phase }, { on := 6, ground := Go.Ground.phase }, { on := 7, ground := Go.Ground.phase }, { on := 8, ground := Go.Ground.phase }, { on := 9, ground := Go.Ground.phase }, { on := 10, ground := Go.Ground.phase }, { on := 11, ground := Go.Ground.phase }, { on := 12, ground := Go.Ground.phase }], guard := none }) (by kernel_rfl) (HS.out _ fin.chg) (fun _ h => h) rfl (by rfl) (fun K hK => ?_)
              go_simp
              refine hK _ _ ?_
              clear hK K
              try simp only [Act.put, List.setIfInBounds_toArray, List.set_cons_zero, List.set_cons_succ]
              -- ready: []
              refine rt_done (by kernel_rfl)  ?_
              clear z0 z1 z2 f0 f1 f2 cd7 o11 hx1 hx2 Ow Ak HS cd o3r hq11
            rotate_left
            focus
              go_simp
              refine (Ak.out _ _ cd5 ht2.no).mono ?_
              rintro e w6 ⟨x1, x2, rfl, hc6, hx1, hx2⟩
              obtain ⟨X1, c1, rfl⟩ := hx1.slice
              obtain ⟨X2, c2, rfl⟩ := hx2.slice
              have cd6 := cd5.trans hc6
              refine hK _ _ ?_
              clear hK K
              try simp only [Act.put, List.setIfInBounds_toArray, List.set_cons_zero, List.set_cons_succ]
              ((refine rt_yes (i := 8) (oi := { dst := some 72, op := Go.Op.move (Go.Operand.tmp 80), type := 36, pos := "law.go:170", after := #[{ on := 7, ground := Go.Ground.data }], guard := none }) (v := ?_) rfl (by kernel_rfl) (by kernel_rfl) (by kernel_rfl) (fun _ _ _ h => h) rfl ?_ ?_); rotate_left; focus (intro W hW; (try dsimp only at hW); go_split_ands; go_simp; (try (simp (disch := omega) only [IntWalk.i64_in]; (try go_simp))); (try (split; (next => omega); (try go_simp))); try rfl; done))
              try simp only [Act.put, List.setIfInBounds_toArray, List.set_cons_zero, List.set_cons_succ]
              ((refine rt_yes (i := 9) (oi := { dst := some 81, op := Go.Op.extract (Go.Operand.tmp 72) 0, type := 33, pos := "law.go:170", after := #[{ on := 8, ground := Go.Ground.data }], guard := none }) (v := ?_) rfl (by kernel_rfl) (by kernel_rfl) (by kernel_rfl) (fun _ _ _ h => h) rfl ?_ ?_); rotate_left; focus (intro W hW; (try dsimp only at hW); go_split_ands; go_simp; (try (simp (disch := omega) only [IntWalk.i64_in]; (try go_simp))); (try (split; (next => omega); (try go_simp))); try rfl; done))
              try simp only [Act.put, List.setIfInBounds_toArray, List.set_cons_zero, List.set_cons_succ]
              ((refine rt_yes (i := 10) (oi := { dst := some 82, op := Go.Op.extract (Go.Operand.tmp 72) 1, type := 27, pos := "law.go:170", after := #[{ on := 8, ground := Go.Ground.data }, { on := 12, ground := Go.Ground.gcOnly Go.Departure.lateStores }], guard := none }) (v := ?_) rfl (by kernel_rfl) (by kernel_rfl) (by kernel_rfl) (fun _ _ _ h => h) rfl ?_ ?_); rotate_left; focus (intro W hW; (try dsimp only at hW); go_split_ands; go_simp; (try (simp (disch := omega) only [IntWalk.i64_in]; (try go_simp))); (try (split; (next => omega); (try go_simp))); try rfl; done))
              try simp only [Act.put, List.setIfInBounds_toArray, List.set_cons_zero, List.set_cons_succ]
              -- ready: [11]
              refine rt_k (fun W => W.cell? ⟨q3, 0, none⟩ = some (.int .i64 id) ∧ W.cell? ⟨q3, 1, none⟩ = some (.slice AR rs.length cR) ∧ W.cell? ⟨q3, 2, none⟩ = some (.slice AW ws.length cW)) (i := 11) (oi := { dst := some 11, op := Go.Op.alloc 33, type := 0, pos := "law.go:170", after := #[], guard := none }) (by kernel_rfl) (HS.out _ cd6) (fun _ h => h) rfl (by rfl) (fun K hK => ?_)
              go_simp
              refine hK _ _ ?_
              clear hK K
              try simp only [Act.put, List.setIfInBounds_toArray, List.set_cons_zero, List.set_cons_succ]
              -- ready: [12]
              have c67 := (Chg.refl No w6).alloc (.cells #[.int .i64 0, .slice none 0 0, .slice none 0 0] 33)
              have o11 := alloc_obj w6 (.cells #[.int .i64 0, .slice none 0 0, .slice none 0 0] 33)
              have e7 : (w6.alloc (.cells #[.int .i64 0, .slice none 0 0, .slice none 0 0] 33)).heap.size = w6.heap.size + 1 := by simp
              have hx1 : Sl (Or (At w6.heap.size) (Lt wr.heap.size)) (w6.alloc (.cells #[.int .i64 0, .slice none 0 0, .slice none 0 0] 33)) (.slice X1 R.2.1.length c1) R.2.1 := (hx1.weak (fun i hi h => by have := cd5.size; simp only [Cb.Or, At, Lt] at h ⊢; omega)).keepNo c67
              have hx2 : Sl (Or (At w6.heap.size) (Lt wr.heap.size)) (w6.alloc (.cells #[.int .i64 0, .slice none 0 0, .slice none 0 0] 33)) (.slice X2 R.2.2.length c2) R.2.2 := (hx2.weak (fun i hi h => by have := cd5.size; simp only [Cb.Or, At, Lt] at h ⊢; omega)).keepNo c67
              have hq11 : wr.heap.size ≤ w6.heap.size := cd6.size
              have cd7 := cd6.trans c67
              generalize w6.alloc (.cells #[.int .i64 0, .slice none 0 0, .slice none 0 0] 33) = w7 at *
              generalize w6.heap.size = q11 at *
              clear e7 c67 ht1 ht2 hc5 hc6 cd5 cd6
              have z0 := cell_obj (i := 0) o11 rfl
              have z1 := cell_obj (i := 1) o11 rfl
              have z2 := cell_obj (i := 2) o11 rfl
              have f0 := free_obj (i := 0) o11
              have f1 := free_obj (i := 1) o11
              have f2 := free_obj (i := 2) o11
              refine rt_k (fun W => W.cell? ⟨q3, 0, none⟩ = some (.int .i64 id) ∧ W.cell? ⟨q3, 1, none⟩ = some (.slice AR rs.length cR) ∧ W.cell? ⟨q3, 2, none⟩ = some (.slice AW ws.length cW)) (i := 12) (oi := { dst := none, op := Go.Op.store 33 (Go.Operand.tmp 11) (Go.Operand.tmp 81), type := 0, pos := "law.go:170", after := #[{ on := 11, ground := Go.Ground.data }, { on := 9, ground := Go.Ground.data }, { on := 7, ground := Go.Ground.chain }, { on := 0, ground := Go.Ground.phase }, { on := 1, ground := Go.Ground.phase }, { on := 2, ground := Go.Ground.phase }, { on := 3, ground := Go.Ground.phase }, { on := 4, ground := Go.Ground.phase }, { on := 5, ground := Go.Ground.phase }, { on := 6, ground := Go.Ground.phase }, { on := 7, ground := Go.Ground.phase }, { on := 8, ground := Go.Ground.phase }, { on := 9, ground := Go.Ground.phase }, { on := 10, ground := Go.Ground.textOnly Go.Departure.lateStores }, { on := 11, ground := Go.Ground.phase }], guard := none }) (by kernel_rfl) (HS.out _ cd7) (fun _ h => h) rfl (by rfl) (fun K hK => ?_)
              go_simp
              refine hK _ _ ?_
              clear hK K
              try simp only [Act.put, List.setIfInBounds_toArray, List.set_cons_zero, List.set_cons_succ]
              -- ready: [13]
              have fin := AsF.mk' (R := R) cd7 o3r o11 hq11 Hsr.out hx1 hx2
              generalize (((w7.setCell ⟨q11, 0, none⟩ (.int .i64 R.1)).setCell ⟨q11, 1, none⟩ (.slice X1 R.2.1.length c1)).setCell ⟨q11, 2, none⟩ (.slice X2 R.2.2.length c2)) = u at fin ⊢
              refine rt_k (fun W => W.cell? ⟨q3, 0, none⟩ = some (.int .i64 id) ∧ W.cell? ⟨q3, 1, none⟩ = some (.slice AR rs.length cR) ∧ W.cell? ⟨q3, 2, none⟩ = some (.slice AW ws.length cW)) (i := 13) (oi := { dst := some 12, op := Go.Op.assign (Go.Operand.tmp 82), type := 27, pos := "law.go:170", after := #[{ on := 10, ground := Go.Ground.data }, { on := 12, ground := Go.Ground.chain }, { on := 0, ground := Go.Ground.phase }, { on := 1, ground := Go.Ground.phase }, { on := 2, ground := Go.Ground.phase }, { on := 3, ground := Go.Ground.phase }, { on := 4, ground := Go.Ground.phase }, { on := 5, ground := Go.Ground.phase }, { on := 6, ground := Go.Ground.phase }, { on := 7, ground := Go.Ground.phase }, { on := 8, ground := Go.Ground.phase }, { on := 9, ground := Go.Ground.phase }, { on := 10, ground := Go.Ground.phase }, { on := 11, ground := Go.Ground.phase }, { on := 12, ground := Go.Ground.phase }], guard := none }) (by kernel_rfl) (HS.out _ fin.chg) (fun _ h => h) rfl (by rfl) (fun K hK => ?_)
              go_simp
              refine hK _ _ ?_
              clear hK K
              try simp only [Act.put, List.setIfInBounds_toArray, List.set_cons_zero, List.set_cons_succ]
              -- ready: []
              refine rt_done (by kernel_rfl)  ?_
              clear z0 z1 z2 f0 f1 f2 cd7 o11 hx1 hx2 Ow Ak HS cd o3r hq11
          all_goals
            obtain ⟨wS, rfl⟩ : ∃ W : World, W = wr := ⟨_, rfl⟩
            have hcu : Chg No w u := hcr.trans fin.chg
            have b1 := cell_obj (i := 1) fin.o3 rfl
            have ca := (Chg.refl No u).alloc (.cells #[] 52)
            have b1a := ca.cell b1 (not_no _)
            have hul := lt_of_heap fin.o3
            have hne : q3 ≠ u.heap.size := by omega
            have own0 := Own.made0 (α := Int × Int) No u 52
            have Fin := Lib.hid fin
            clear fin
            go_wp2_with (first | (with_reducible refine stop_append ?_) | (with_reducible refine stop_copy ?_) | (with_reducible refine stop_make ?_) | (with_reducible refine stop_lookup ?_) | (with_reducible refine stop_update ?_) | (with_reducible refine stop_slice ?_) | (with_reducible refine stop_range ?_) | (with_reducible refine stop_next ?_) | (with_reducible refine stop_convert ⟨_, rfl⟩ ?_) | (with_reducible refine stop_convertB ⟨_, _, _, rfl⟩ ?_) | (with_reducible refine stop_eqSlice ⟨_, _, rfl⟩ ?_))
            generalize u.alloc (.cells #[] 52) = uA at *
            refine step_append_flat (α := Int × Int) (ys := rs) Try.underlying22 info_rread rfl own0 rfl rfl ((Hr.out.keepNo hcu).keepNo ca) (by simp; omega) (by simp; omega) ca.size ?_
            intro vv uB hownB hgB
            rw [List.nil_append] at hownB
            obtain ⟨AV, cV, rfl⟩ := hownB.slice
            have hcB : Chg No u uB := ca.grew hgB (fun k hk => by simp [Value.ownBlock] at hk; omega)
            have o3B := hcB.obj Fin.out.o3 (not_no _)
            have y1 := cell_obj (i := 1) o3B rfl
            have f1 := free_obj (i := 1) o3B
            have o3C : (uB.setCell ⟨q3, 1, none⟩ (.slice AV rs.length cV)).heap[q3]? = some (.cells #[.int .i64 id, .slice AV rs.length cV, .slice AW ws.length cW] 25 (0, 0)) := obj_set o3B rfl
            have x1 := cell_obj (i := 1) o3C rfl
            have HownB := Lib.hid (hownB.keepFlat (chg_set (b := q3) (i := 1) (.slice AV rs.length cV)) (fun i h hi => by have := (hownB.lt i h).1; simp only [At] at hi; omega))
            have hcC : Chg (At q3) u (uB.setCell ⟨q3, 1, none⟩ (.slice AV rs.length cV)) := hcB.of_no.trans (chg_set _)
            clear hgB hownB own0 b1 b1a ca hne hcB
            go_wp2_with (first | (with_reducible refine stop_append ?_) | (with_reducible refine stop_copy ?_) | (with_reducible refine stop_make ?_) | (with_reducible refine stop_lookup ?_) | (with_reducible refine stop_update ?_) | (with_reducible refine stop_slice ?_) | (with_reducible refine stop_range ?_) | (with_reducible refine stop_next ?_) | (with_reducible refine stop_convert ⟨_, rfl⟩ ?_) | (with_reducible refine stop_convertB ⟨_, _, _, rfl⟩ ?_) | (with_reducible refine stop_eqSlice ⟨_, _, rfl⟩ ?_))
            clear x1 y1 f1 o3B
            go_loopw [91] (fun v91 wr => ∃ k : Nat, k ≤ rs.length ∧ v91 = .int .i64 k ∧ wr.heap[q3]? = some (.cells #[.int .i64 id, .slice AV rs.length cV, .slice AW ws.length cW] 25 (0, 0)) ∧ Own No wr u.heap.size 52 (.slice AV rs.length cV) (updK s rs k) ∧ Chg (At q3) u wr) (fun v91 _ => rs.length - (intOf v91).toNat)
            case atStart => exact ⟨0, by omega, rfl, o3C, by rw [show updK s rs 0 = rs by simp [updK]]; exact HownB.out, hcC⟩
            case round =>
              obtain ⟨k, hk, rfl, ho3, hown, hcu2⟩ := hrel
              clear o3C HownB hcC
              have hst : Sto wr p rc ri s := Fin.out.sto.keep hcu2 (fun i hi h => by have := hq3s i hi; simp only [At] at h; omega)
              have hul2 : (updK s rs k).length = rs.length := updK_len s rs k hk
              by_cases hlt : k < rs.length
              · obtain ⟨g, rfl, hbg, hgl⟩ := hown.addr (by rw [hul2]; omega)
                obtain ⟨r0, r1⟩ := hown.get2 k (by rw [hul2]; exact hlt)
                rw [updK_get s rs k hlt] at r0
                have hset : ∀ W, Chg No wr W → Own No (W.setCell ⟨g, k * 2 + 1, none⟩ (.int .i64 (verS s rs[k].1))) u.heap.size 52 (.slice (some ⟨g, 0, none⟩) rs.length cV) (updK s rs (k + 1)) ∧ W.frozen? ⟨g, k * 2 + 1, none⟩ = false ∧ ∃ z, W.cell? ⟨g, k * 2 + 1, none⟩ = some z := fun W hW => by
                  have h1 := (hown.keepFlat hW (fun _ _ f => f)).set2 k (by rw [hul2]; exact hlt) rfl (verS s rs[k].1)
                  rw [updK_get s rs k hlt, updK_set s rs k hlt] at h1
                  exact h1
                have gt : ∀ W, Sto W p rc ri s → Calls Try.prog 25 #[.pointer (some ⟨p, 0, none⟩), .int .i64 rs[k].1] W fun e w' => e = .returned (.tuple #[.string (valS s rs[k].1), .int .i64 (verS s rs[k].1)]) ∧ Chg No W w' := fun W hW => get_any p rc ri s _ W hW
                generalize verS s rs[k].1 = vn at gt hset
                generalize valS s rs[k].1 = vx at gt
                generalize rs[k].1 = f at gt r0
                have Gt := Lib.hid gt; have Hset := Lib.hid hset; have Hst := Lib.hid hst
                clear gt hset hst hown r1
                have b1 := cell_obj (i := 1) ho3 rfl
                have hgq : q3 ≠ g := by omega
                go_wp2_with (first | (with_reducible refine stop_append ?_) | (with_reducible refine stop_copy ?_) | (with_reducible refine stop_make ?_) | (with_reducible refine stop_lookup ?_) | (with_reducible refine stop_update ?_) | (with_reducible refine stop_slice ?_) | (with_reducible refine stop_range ?_) | (with_reducible refine stop_next ?_) | (with_reducible refine stop_convert ⟨_, rfl⟩ ?_) | (with_reducible refine stop_convertB ⟨_, _, _, rfl⟩ ?_) | (with_reducible refine stop_eqSlice ⟨_, _, rfl⟩ ?_))
                have cdk := (Chg.refl No wr).drew
                refine rt_start (fun W => W.cell? ⟨q3, 1, none⟩ = some (.slice (some ⟨g, 0, none⟩) rs.length cV) ∧ W.cell? ⟨g, k * 2, none⟩ = some (.int .i64 f)) (by kernel_rfl) ?_
                ((refine rt_yes (i := 0) (oi := { dst := some 95, op := Go.Op.fieldAddr 25 (Go.Operand.tmp 3) 1, type := 0, pos := "law.go:173", after := #[], guard := none }) (v := ?_) rfl (by kernel_rfl) (by kernel_rfl) (by kernel_rfl) (fun _ _ _ h => h) rfl ?_ ?_); rotate_left; focus (intro W hW; (try dsimp only at hW); go_split_ands; go_simp; (try (simp (disch := omega) only [IntWalk.i64_in]; (try go_simp))); (try (split; (next => omega); (try go_simp))); try rfl; done))
                try simp only [Act.put, List.setIfInBounds_toArray, List.set_cons_zero, List.set_cons_succ]
                ((refine rt_yes (i := 1) (oi := { dst := some 96, op := Go.Op.load 22 (Go.Operand.tmp 95), type := 22, pos := "law.go:173", after := #[{ on := 0, ground := Go.Ground.data }], guard := none }) (v := ?_) rfl (by kernel_rfl) (by kernel_rfl) (by kernel_rfl) (fun _ _ _ h => h) rfl ?_ ?_); rotate_left; focus (intro W hW; (try dsimp only at hW); go_split_ands; go_simp; (try (simp (disch := omega) only [IntWalk.i64_in]; (try go_simp))); (try (split; (next => omega); (try go_simp))); try rfl; done))
                try simp only [Act.put, List.setIfInBounds_toArray, List.set_cons_zero, List.set_cons_succ]
                ((refine rt_yes (i := 2) (oi := { dst := some 97, op := Go.Op.move (Go.Operand.tmp 13), type := 3, pos := "law.go:173", after := #[], guard := none }) (v := ?_) rfl (by kernel_rfl) (by kernel_rfl) (by kernel_rfl) (fun _ _ _ h => h) rfl ?_ ?_); rotate_left; focus (intro W hW; (try dsimp only at hW); go_split_ands; go_simp; (try (simp (disch := omega) only [IntWalk.i64_in]; (try go_simp))); (try (split; (next => omega); (try go_simp))); try rfl; done))
                try simp only [Act.put, List.setIfInBounds_toArray, List.set_cons_zero, List.set_cons_succ]
                ((refine rt_yes (i := 3) (oi := { dst := some 98, op := Go.Op.move (Go.Operand.tmp 5), type := 46, pos := "law.go:173", after := #[], guard := none }) (v := ?_) rfl (by kernel_rfl) (by kernel_rfl) (by kernel_rfl) (fun _ _ _ h => h) rfl ?_ ?_); rotate_left; focus (intro W hW; (try dsimp only at hW); go_split_ands; go_simp; (try (simp (disch := omega) only [IntWalk.i64_in]; (try go_simp))); (try (split; (next => omega); (try go_simp))); try rfl; done))
                try simp only [Act.put, List.setIfInBounds_toArray, List.set_cons_zero, List.set_cons_succ]
                ((refine rt_yes (i := 4) (oi := { dst := some 99, op := Go.Op.fieldAddr 25 (Go.Operand.tmp 3) 1, type := 0, pos := "law.go:173", after := #[], guard := none }) (v := ?_) rfl (by kernel_rfl) (by kernel_rfl) (by kernel_rfl) (fun _ _ _ h => h) rfl ?_ ?_); rotate_left; focus (intro W hW; (try dsimp only at hW); go_split_ands; go_simp; (try (simp (disch := omega) only [IntWalk.i64_in]; (try go_simp))); (try (split; (next => omega); (try go_simp))); try rfl; done))
                try simp only [Act.put, List.setIfInBounds_toArray, List.set_cons_zero, List.set_cons_succ]
                ((refine rt_yes (i := 5) (oi := { dst := some 100, op := Go.Op.load 22 (Go.Operand.tmp 99), type := 22, pos := "law.go:173", after := #[{ on := 4, ground := Go.Ground.data }], guard := none }) (v := ?_) rfl (by kernel_rfl) (by kernel_rfl) (by kernel_rfl) (fun _ _ _ h => h) rfl ?_ ?_); rotate_left; focus (intro W hW; (try dsimp only at hW); go_split_ands; go_simp; (try (simp (disch := omega) only [IntWalk.i64_in]; (try go_simp))); (try (split; (next => omega); (try go_simp))); try rfl; done))
                try simp only [Act.put, List.setIfInBounds_toArray, List.set_cons_zero, List.set_cons_succ]
                ((refine rt_yes (i := 6) (oi := { dst := some 101, op := Go.Op.move (Go.Operand.tmp 13), type := 3, pos := "law.go:173", after := #[], guard := none }) (v := ?_) rfl (by kernel_rfl) (by kernel_rfl) (by kernel_rfl) (fun _ _ _ h => h) rfl ?_ ?_); rotate_left; focus (intro W hW; (try dsimp only at hW); go_split_ands; go_simp; (try (simp (disch := omega) only [IntWalk.i64_in]; (try go_simp))); (try (split; (next => omega); (try go_simp))); try rfl; done))
                try simp only [Act.put, List.setIfInBounds_toArray, List.set_cons_zero, List.set_cons_succ]
                ((refine rt_yes (i := 7) (oi := { dst := some 102, op := Go.Op.indexAddr 22 (Go.Operand.tmp 100) (Go.Operand.tmp 101), type := 0, pos := "law.go:173", after := #[{ on := 5, ground := Go.Ground.data }, { on := 6, ground := Go.Ground.data }], guard := none }) (v := ?_) rfl (by kernel_rfl) (by kernel_rfl) (by kernel_rfl) (fun _ _ _ h => h) rfl ?_ ?_); rotate_left; focus (intro W hW; (try dsimp only at hW); go_split_ands; go_simp; (try (simp (disch := omega) only [IntWalk.i64_in]; (try go_simp))); (try (split; (next => omega); (try go_simp))); try rfl; done))
                try simp only [Act.put, List.setIfInBounds_toArray, List.set_cons_zero, List.set_cons_succ]
                ((refine rt_yes (i := 8) (oi := { dst := some 103, op := Go.Op.fieldAddr 52 (Go.Operand.tmp 102) 0, type := 0, pos := "law.go:173", after := #[{ on := 7, ground := Go.Ground.data }], guard := none }) (v := ?_) rfl (by kernel_rfl) (by kernel_rfl) (by kernel_rfl) (fun _ _ _ h => h) rfl ?_ ?_); rotate_left; focus (intro W hW; (try dsimp only at hW); go_split_ands; go_simp; (try (simp (disch := omega) only [IntWalk.i64_in]; (try go_simp))); (try (split; (next => omega); (try go_simp))); try rfl; done))
                try simp only [Act.put, List.setIfInBounds_toArray, List.set_cons_zero, List.set_cons_succ]
                ((refine rt_yes (i := 9) (oi := { dst := some 104, op := Go.Op.load 3 (Go.Operand.tmp 103), type := 3, pos := "law.go:173", after := #[{ on := 8, ground := Go.Ground.data }], guard := none }) (v := ?_) rfl (by kernel_rfl) (by kernel_rfl) (by kernel_rfl) (fun _ _ _ h => h) rfl ?_ ?_); rotate_left; focus (intro W hW; (try dsimp only at hW); go_split_ands; go_simp; (try (simp (disch := omega) only [IntWalk.i64_in]; (try go_simp))); (try (split; (next => omega); (try go_simp))); try rfl; done))
                try simp only [Act.put, List.setIfInBounds_toArray, List.set_cons_zero, List.set_cons_succ]
                -- ready: [10]
                refine rt_k (fun W => W.cell? ⟨q3, 1, none⟩ = some (.slice (some ⟨g, 0, none⟩) rs.length cV) ∧ W.cell? ⟨g, k * 2, none⟩ = some (.int .i64 f)) (i := 10) (oi := { dst := some 105, op := Go.Op.call { callee := Go.Callee.value (Go.Operand.func 25), args := #[Go.Operand.tmp 98, Go.Operand.tmp 104], argTypes := #[46, 3] }, type := 54, pos := "law.go:173", after := #[{ on := 3, ground := Go.Ground.data }, { on := 9, ground := Go.Ground.data }], guard := none }) (by kernel_rfl) ⟨b1, r0⟩ (fun _ h => h) rfl (by rfl) (fun K hK => ?_)
                go_simp
                refine (Gt.out _ (Hst.out.keepNo cdk)).mono ?_
                rintro e w6 ⟨rfl, hc6⟩
                have hc6 := cdk.trans hc6
                refine hK _ _ ?_
                clear hK K
                try simp only [Act.put, List.setIfInBounds_toArray, List.set_cons_zero, List.set_cons_succ]
                ((refine rt_yes (i := 11) (oi := { dst := some 94, op := Go.Op.move (Go.Operand.tmp 105), type := 54, pos := "law.go:173", after := #[{ on := 10, ground := Go.Ground.data }], guard := none }) (v := ?_) rfl (by kernel_rfl) (by kernel_rfl) (by kernel_rfl) (fun _ _ _ h => h) rfl ?_ ?_); rotate_left; focus (intro W hW; (try dsimp only at hW); go_split_ands; go_simp; (try (simp (disch := omega) only [IntWalk.i64_in]; (try go_simp))); (try (split; (next => omega); (try go_simp))); try rfl; done))
                try simp only [Act.put, List.setIfInBounds_toArray, List.set_cons_zero, List.set_cons_succ]
                ((refine rt_yes (i := 12) (oi := { dst := some 106, op := Go.Op.extract (Go.Operand.tmp 94) 0, type := 9, pos := "law.go:173", after := #[{ on := 11, ground := Go.Ground.data }], guard := none }) (v := ?_) rfl (by kernel_rfl) (by kernel_rfl) (by kernel_rfl) (fun _ _ _ h => h) rfl ?_ ?_); rotate_left; focus (intro W hW; (try dsimp only at hW); go_split_ands; go_simp; (try (simp (disch := omega) only [IntWalk.i64_in]; (try go_simp))); (try (split; (next => omega); (try go_simp))); try rfl; done))
                try simp only [Act.put, List.setIfInBounds_toArray, List.set_cons_zero, List.set_cons_succ]
                ((refine rt_yes (i := 13) (oi := { dst := some 107, op := Go.Op.extract (Go.Operand.tmp 94) 1, type := 3, pos := "law.go:173", after := #[{ on := 11, ground := Go.Ground.data }], guard := none }) (v := ?_) rfl (by kernel_rfl) (by kernel_rfl) (by kernel_rfl) (fun _ _ _ h => h) rfl ?_ ?_); rotate_left; focus (intro W hW; (try dsimp only at hW); go_split_ands; go_simp; (try (simp (disch := omega) only [IntWalk.i64_in]; (try go_simp))); (try (split; (next => omega); (try go_simp))); try rfl; done))
                try simp only [Act.put, List.setIfInBounds_toArray, List.set_cons_zero, List.set_cons_succ]
                ((refine rt_yes (i := 14) (oi := { dst := some 108, op := Go.Op.indexAddr 22 (Go.Operand.tmp 96) (Go.Operand.tmp 97), type := 0, pos := "law.go:173", after := #[{ on := 1, ground := Go.Ground.data }, { on := 2, ground := Go.Ground.data }, { on := 0, ground := Go.Ground.phase }, { on := 1, ground := Go.Ground.phase }, { on := 2, ground := Go.Ground.phase }, { on := 3, ground := Go.Ground.phase }, { on := 4, ground := Go.Ground.phase }, { on := 5, ground := Go.Ground.phase }, { on := 6, ground := Go.Ground.phase }, { on := 7, ground := Go.Ground.phase }, { on := 8, ground := Go.Ground.phase }, { on := 9, ground := Go.Ground.phase }, { on := 10, ground := Go.Ground.phase }, { on := 11, ground := Go.Ground.phase }, { on := 12, ground := Go.Ground.phase }, { on := 13, ground := Go.Ground.phase }], guard := none }) (v := ?_) rfl (by kernel_rfl) (by kernel_rfl) (by kernel_rfl) (fun _ _ _ h => h) rfl ?_ ?_); rotate_left; focus (intro W hW; (try dsimp only at hW); go_split_ands; go_simp; (try (simp (disch := omega) only [IntWalk.i64_in]; (try go_simp))); (try (split; (next => omega); (try go_simp))); try rfl; done))
                try simp only [Act.put, List.setIfInBounds_toArray, List.set_cons_zero, List.set_cons_succ]
                ((refine rt_yes (i := 15) (oi := { dst := some 109, op := Go.Op.fieldAddr 52 (Go.Operand.tmp 108) 1, type := 0, pos := "law.go:173", after := #[{ on := 14, ground := Go.Ground.data }, { on := 0, ground := Go.Ground.phase }, { on := 1, ground := Go.Ground.phase }, { on := 2, ground := Go.Ground.phase }, { on := 3, ground := Go.Ground.phase }, { on := 4, ground := Go.Ground.phase }, { on := 5, ground := Go.Ground.phase }, { on := 6, ground := Go.Ground.phase }, { on := 7, ground := Go.Ground.phase }, { on := 8, ground := Go.Ground.phase }, { on := 9, ground := Go.Ground.phase }, { on := 10, ground := Go.Ground.phase }, { on := 11, ground := Go.Ground.phase }, { on := 12, ground := Go.Ground.phase }, { on := 13, ground := Go.Ground.phase }], guard := none }) (v := ?_) rfl (by kernel_rfl) (by kernel_rfl) (by kernel_rfl) (fun _ _ _ h => h) rfl ?_ ?_); rotate_left; focus (intro W hW; (try dsimp only at hW); go_split_ands; go_simp; (try (simp (disch := omega) only [IntWalk.i64_in]; (try go_simp))); (try (split; (next => omega); (try go_simp))); try rfl; done))
                try simp only [Act.put, List.setIfInBounds_toArray, List.set_cons_zero, List.set_cons_succ]
                -- ready: [16]
                obtain ⟨hs6, s2, z, s3⟩ := Hset.out w6 hc6
                have Hs6 := Lib.hid hs6
                have ho36 := hc6.obj ho3 (not_no _)
                clear hs6
                refine rt_k (fun W => W.cell? ⟨q3, 1, none⟩ = some (.slice (some ⟨g, 0, none⟩) rs.length cV) ∧ W.cell? ⟨g, k * 2, none⟩ = some (.int .i64 f)) (i := 16) (oi := { dst := none, op := Go.Op.store 3 (Go.Operand.tmp 109) (Go.Operand.tmp 107), type := 0, pos := "law.go:173", after := #[{ on := 15, ground := Go.Ground.data }, { on := 13, ground := Go.Ground.data }, { on := 10, ground := Go.Ground.chain }, { on := 0, ground := Go.Ground.phase }, { on := 1, ground := Go.Ground.phase }, { on := 2, ground := Go.Ground.phase }, { on := 3, ground := Go.Ground.phase }, { on := 4, ground := Go.Ground.phase }, { on := 5, ground := Go.Ground.phase }, { on := 6, ground := Go.Ground.phase }, { on := 7, ground := Go.Ground.phase }, { on := 8, ground := Go.Ground.phase }, { on := 9, ground := Go.Ground.phase }, { on := 10, ground := Go.Ground.phase }, { on := 11, ground := Go.Ground.phase }, { on := 12, ground := Go.Ground.phase }, { on := 13, ground := Go.Ground.phase }], guard := none }) (by kernel_rfl) ⟨hc6.cell b1 (not_no _), hc6.cell r0 (not_no _)⟩ (fun _ h => h) rfl (by rfl) (fun K hK => ?_)
                go_simp
                refine hK _ _ ?_
                clear hK K
                try simp only [Act.put, List.setIfInBounds_toArray, List.set_cons_zero, List.set_cons_succ]
                -- ready: []
                refine rt_done (by kernel_rfl)  ?_
                go_wp2_with (first | (with_reducible refine stop_append ?_) | (with_reducible refine stop_copy ?_) | (with_reducible refine stop_make ?_) | (with_reducible refine stop_lookup ?_) | (with_reducible refine stop_update ?_) | (with_reducible refine stop_slice ?_) | (with_reducible refine stop_range ?_) | (with_reducible refine stop_next ?_) | (with_reducible refine stop_convert ⟨_, rfl⟩ ?_) | (with_reducible refine stop_convertB ⟨_, _, _, rfl⟩ ?_) | (with_reducible refine stop_eqSlice ⟨_, _, rfl⟩ ?_))
                go_roundw
                case rel => exact ⟨k + 1, by omega, by go_num, obj_set_other ho36 hgq, Hs6.out, (hcu2.trans hc6.of_no).setCell (p := ⟨g, k * 2 + 1, none⟩) (.inr hbg) _⟩
                case measure => simp [intOf]; omega
              · obtain rfl : k = rs.length := by omega
                rw [updK_all] at hown
                obtain ⟨FR, hFR⟩ : ∃ l, l = (rs.map (·.1)).map (fun f => (f, verS s f)) := ⟨_, rfl⟩
                rw [← hFR] at hown
                have hFl : FR.length = rs.length := by rw [hFR]; simp
                have hcw : Chg No w wr := hcu.old hcu2 (fun i h => by simp only [At] at h; omega)
                have hsV : Sl No wr (.slice AV rs.length cV) FR := hown.slFlat (fun _ _ => not_no _)
                have hsW : Sl No wr (.slice AW ws.length cW) ws := (Hw.out.keepNo hcw).no
                have rr := refright_any No id _ _ FR ws wr hsV hsW
                have o11 := hcu2.obj Fin.out.o11 (fun h => Fin.out.ne (by simp only [At] at h; exact h.symm))
                have hx1 := Fin.out.x1.keep hcu2
                have hx2 := Fin.out.x2.keep hcu2
                have hq11 : ∀ i, Sf p rc ri i → q11 ≠ i := fun i hi => by have := Fin.out.ge; have := Hsr.out.lt i hi; omega
                have hqs3 : ∀ i, Sf p rc ri i → q3 ≠ i := fun i hi => by have := hq3s i hi; omega
                have hT : askT s id (rs.map (·.1)) ws = (id, FR, ws) := by rw [hFR]; rfl
                have hE := HE.out
                have hR := HR.out
                rw [hT] at hE hR
                have hcases : (rightB id FR ws = false ∧ E = 1) ∨ (rightB id FR ws = true ∧ (mget s.ids id).isSome = true ∧ E = 221 ∧ R = (0, [], [])) ∨ (rightB id FR ws = true ∧ (mget s.ids id).isSome = false ∧ E = 0 ∧ R = (id, FR, ws)) := by
                  cases h1 : rightB id FR ws
                  · exact .inl ⟨rfl, by rw [hE]; simp [askE, h1]⟩
                  · cases h2 : (mget s.ids id).isSome
                    · exact .inr (.inr ⟨rfl, rfl, by rw [hE]; simp [askE, h1, h2], by rw [hR]; simp [askR, askE, h1, h2]⟩)
                    · exact .inr (.inl ⟨rfl, rfl, by rw [hE]; simp [askE, h1, h2], by rw [hR]; simp [askR, askE, h1, h2]⟩)
                have hask : rightB id FR ws = true → (mget s.ids id).isSome = false → addD s (encB (id, FR, ws)) = (⟨writeS s.cs ws, mset s.ids id true, s.n + 1⟩, true) := fun h1 h2 => by
                  rw [addD_enc (t := (id, FR, ws)) h1, ← hT]; exact asked_done h2
                have Hask := Lib.hid hask
                have b0 := cell_obj (i := 0) ho3 rfl
                have b1 := cell_obj (i := 1) ho3 rfl
                have b2 := cell_obj (i := 2) ho3 rfl
                have Hst := Lib.hid hst
                clear hask hE hR hT HE HR hFR hul2 hlt hk Hsr Fin hown hst
                rcases hcases with ⟨hrb, rfl⟩ | ⟨hrb, hcm, rfl, rfl⟩ | ⟨hrb, hcm, rfl, rfl⟩
                · rw [hrb] at rr
                  have Rr := Lib.hid rr
                  clear rr hx1 hx2 hsV hsW Hask
                  go_wp2_with (first | (with_reducible refine stop_append ?_) | (with_reducible refine stop_copy ?_) | (with_reducible refine stop_make ?_) | (with_reducible refine stop_lookup ?_) | (with_reducible refine stop_update ?_) | (with_reducible refine stop_slice ?_) | (with_reducible refine stop_range ?_) | (with_reducible refine stop_next ?_) | (with_reducible refine stop_convert ⟨_, rfl⟩ ?_) | (with_reducible refine stop_convertB ⟨_, _, _, rfl⟩ ?_) | (with_reducible refine stop_eqSlice ⟨_, _, rfl⟩ ?_))
                  refine Rr.out.mono ?_
                  rintro e w9 ⟨rfl, hc9⟩
                  go_wp2_with (first | (with_reducible refine stop_append ?_) | (with_reducible refine stop_copy ?_) | (with_reducible refine stop_make ?_) | (with_reducible refine stop_lookup ?_) | (with_reducible refine stop_update ?_) | (with_reducible refine stop_slice ?_) | (with_reducible refine stop_range ?_) | (with_reducible refine stop_next ?_) | (with_reducible refine stop_convert ⟨_, rfl⟩ ?_) | (with_reducible refine stop_convertB ⟨_, _, _, rfl⟩ ?_) | (with_reducible refine stop_eqSlice ⟨_, _, rfl⟩ ?_))
                  refine (alive_any _).mono ?_
                  rintro e w10 ⟨rfl, hc10⟩
                  have hcf := (hcw.trans hc9).trans hc10
                  go_wp2_with (first | (with_reducible refine stop_append ?_) | (with_reducible refine stop_copy ?_) | (with_reducible refine stop_make ?_) | (with_reducible refine stop_lookup ?_) | (with_reducible refine stop_update ?_) | (with_reducible refine stop_slice ?_) | (with_reducible refine stop_range ?_) | (with_reducible refine stop_next ?_) | (with_reducible refine stop_convert ⟨_, rfl⟩ ?_) | (with_reducible refine stop_convertB ⟨_, _, _, rfl⟩ ?_) | (with_reducible refine stop_eqSlice ⟨_, _, rfl⟩ ?_))
                  go_ret
                  exact ⟨rfl, hcf⟩
                · rw [hrb] at rr
                  have Rr := Lib.hid rr
                  simp only [List.length_nil] at o11 hx1 hx2
                  clear rr hsV hsW Hask
                  go_wp2_with (first | (with_reducible refine stop_append ?_) | (with_reducible refine stop_copy ?_) | (with_reducible refine stop_make ?_) | (with_reducible refine stop_lookup ?_) | (with_reducible refine stop_update ?_) | (with_reducible refine stop_slice ?_) | (with_reducible refine stop_range ?_) | (with_reducible refine stop_next ?_) | (with_reducible refine stop_convert ⟨_, rfl⟩ ?_) | (with_reducible refine stop_convertB ⟨_, _, _, rfl⟩ ?_) | (with_reducible refine stop_eqSlice ⟨_, _, rfl⟩ ?_))
                  refine Rr.out.mono ?_
                  rintro e w9 ⟨rfl, hc9⟩
                  have b0 := hc9.cell b0 (not_no _)
                  go_wp2_with (first | (with_reducible refine stop_append ?_) | (with_reducible refine stop_copy ?_) | (with_reducible refine stop_make ?_) | (with_reducible refine stop_lookup ?_) | (with_reducible refine stop_update ?_) | (with_reducible refine stop_slice ?_) | (with_reducible refine stop_range ?_) | (with_reducible refine stop_next ?_) | (with_reducible refine stop_convert ⟨_, rfl⟩ ?_) | (with_reducible refine stop_convertB ⟨_, _, _, rfl⟩ ?_) | (with_reducible refine stop_eqSlice ⟨_, _, rfl⟩ ?_))
                  refine (outcome_any p rc ri s id w9 (Hst.out.keepNo hc9)).mono ?_
                  rintro e w9' ⟨rfl, rfl⟩
                  rw [hcm]
                  generalize (mget s.ids id).getD false = gd
                  go_wp2_with (first | (with_reducible refine stop_append ?_) | (with_reducible refine stop_copy ?_) | (with_reducible refine stop_make ?_) | (with_reducible refine stop_lookup ?_) | (with_reducible refine stop_update ?_) | (with_reducible refine stop_slice ?_) | (with_reducible refine stop_range ?_) | (with_reducible refine stop_next ?_) | (with_reducible refine stop_convert ⟨_, rfl⟩ ?_) | (with_reducible refine stop_convertB ⟨_, _, _, rfl⟩ ?_) | (with_reducible refine stop_eqSlice ⟨_, _, rfl⟩ ?_))
                  refine (alive_any _).mono ?_
                  rintro e w10 ⟨rfl, hc10⟩
                  have o11 := (hc9.trans hc10).obj o11 (not_no _)
                  have a0 := cell_obj (i := 0) o11 rfl
                  have a1 := cell_obj (i := 1) o11 rfl
                  have a2 := cell_obj (i := 2) o11 rfl
                  go_wp2_with (first | (with_reducible refine stop_append ?_) | (with_reducible refine stop_copy ?_) | (with_reducible refine stop_make ?_) | (with_reducible refine stop_lookup ?_) | (with_reducible refine stop_update ?_) | (with_reducible refine stop_slice ?_) | (with_reducible refine stop_range ?_) | (with_reducible refine stop_next ?_) | (with_reducible refine stop_convert ⟨_, rfl⟩ ?_) | (with_reducible refine stop_convertB ⟨_, _, _, rfl⟩ ?_) | (with_reducible refine stop_eqSlice ⟨_, _, rfl⟩ ?_))
                  refine (plain_any No 0 _ _ [] [] w10 (Sl.nil _ _ _ _) (Sl.nil _ _ _ _) (by simp) (by simp)).mono ?_
                  rintro e w11 ⟨m1, m2, rfl, hc11, p1, p2⟩
                  go_wp2_with (first | (with_reducible refine stop_append ?_) | (with_reducible refine stop_copy ?_) | (with_reducible refine stop_make ?_) | (with_reducible refine stop_lookup ?_) | (with_reducible refine stop_update ?_) | (with_reducible refine stop_slice ?_) | (with_reducible refine stop_range ?_) | (with_reducible refine stop_next ?_) | (with_reducible refine stop_convert ⟨_, rfl⟩ ?_) | (with_reducible refine stop_convertB ⟨_, _, _, rfl⟩ ?_) | (with_reducible refine stop_eqSlice ⟨_, _, rfl⟩ ?_))
                  refine (same_yes (Lt w10.heap.size) No 0 _ _ _ _ [] [] w11 p1 p2 (Sl.nil _ _ _ _) (Sl.nil _ _ _ _) (by simp) (by simp)).mono ?_
                  rintro e w12 ⟨rfl, hc12⟩
                  have hcf := (((hcw.trans hc9).trans hc10).trans hc11).trans hc12
                  go_wp2_with (first | (with_reducible refine stop_append ?_) | (with_reducible refine stop_copy ?_) | (with_reducible refine stop_make ?_) | (with_reducible refine stop_lookup ?_) | (with_reducible refine stop_update ?_) | (with_reducible refine stop_slice ?_) | (with_reducible refine stop_range ?_) | (with_reducible refine stop_next ?_) | (with_reducible refine stop_convert ⟨_, rfl⟩ ?_) | (with_reducible refine stop_convertB ⟨_, _, _, rfl⟩ ?_) | (with_reducible refine stop_eqSlice ⟨_, _, rfl⟩ ?_))
                  go_ret
                  exact ⟨rfl, hcf⟩
                · rw [hrb] at rr
                  have Rr := Lib.hid rr
                  simp only at o11 hx1 hx2
                  rw [hFl] at o11 hx1
                  obtain ⟨S', hS'⟩ : ∃ S, S = (⟨writeS s.cs ws, mset s.ids id true, s.n + 1⟩ : Store) := ⟨_, rfl⟩
                  obtain ⟨D, hD⟩ : ∃ D, D = encB (id, FR, ws) := ⟨_, rfl⟩
                  have ga := Hask.out hrb hcm
                  rw [← hS', ← hD] at ga
                  have hDs : D.size ≤ 1000000 := by rw [hD]; exact encB_size (t := (id, FR, ws)) hrb
                  have dc : ∀ W, Chg No wr W → Calls Try.prog 12 #[.agg #[.int .i64 id, .slice X1 rs.length c1, .slice X2 ws.length c2]] W fun e w' => e = .returned (.tuple #[.string D, .int .i64 0]) ∧ Chg No W w' := fun W hW => by
                    rw [hD]; exact data_yes (At q3) id _ _ FR ws W (hx1.keepNo hW) (hx2.keepNo hW) hrb
                  have hwt : ∀ x ∈ ws, valS S' x.1 = x.2 ∧ 1 ≤ verS S' x.1 := fun x hx => by
                    rw [hS']; exact asked_wrote (right_writes (t := (id, FR, ws)) hrb) (fun f => (Hbd.out.1 f).1) x hx
                  have hgd : (mget S'.ids id).getD false = true ∧ (mget S'.ids id).isSome = true := by rw [hS']; simp [mget_mset]
                  have hE2 : askE S' (askT S' id [] []) = 221 := by
                    have h1 : rightB id [] [] = true := right_nil (t := (id, FR, ws)) hrb
                    simp [askE, askT, h1, hgd.2]
                  have hR2 : askR S' (askT S' id [] []) = (0, [], []) := by unfold askR; rw [hE2]; rfl
                  have GA := Lib.hid ga; have Dc := Lib.hid dc; have Hwt := Lib.hid hwt; have HE2 := Lib.hid hE2; have HR2 := Lib.hid hR2; have Hgd := Lib.hid hgd
                  clear rr ga dc hwt hE2 hR2 hgd hD hS' Hask
                  go_wp2_with (first | (with_reducible refine stop_append ?_) | (with_reducible refine stop_copy ?_) | (with_reducible refine stop_make ?_) | (with_reducible refine stop_lookup ?_) | (with_reducible refine stop_update ?_) | (with_reducible refine stop_slice ?_) | (with_reducible refine stop_range ?_) | (with_reducible refine stop_next ?_) | (with_reducible refine stop_convert ⟨_, rfl⟩ ?_) | (with_reducible refine stop_convertB ⟨_, _, _, rfl⟩ ?_) | (with_reducible refine stop_eqSlice ⟨_, _, rfl⟩ ?_))
                  refine Rr.out.mono ?_
                  rintro e w9 ⟨rfl, hc9⟩
                  have b0 := hc9.cell b0 (not_no _)
                  have o119 := hc9.obj o11 (not_no _)
                  have a0 := cell_obj (i := 0) o119 rfl
                  have a1 := cell_obj (i := 1) o119 rfl
                  have a2 := cell_obj (i := 2) o119 rfl
                  go_wp2_with (first | (with_reducible refine stop_append ?_) | (with_reducible refine stop_copy ?_) | (with_reducible refine stop_make ?_) | (with_reducible refine stop_lookup ?_) | (with_reducible refine stop_update ?_) | (with_reducible refine stop_slice ?_) | (with_reducible refine stop_range ?_) | (with_reducible refine stop_next ?_) | (with_reducible refine stop_convert ⟨_, rfl⟩ ?_) | (with_reducible refine stop_convertB ⟨_, _, _, rfl⟩ ?_) | (with_reducible refine stop_eqSlice ⟨_, _, rfl⟩ ?_))
                  refine (outcome_any p rc ri s id w9 (Hst.out.keepNo hc9)).mono ?_
                  rintro e w9' ⟨rfl, rfl⟩
                  rw [hcm]
                  generalize (mget s.ids id).getD false = gd
                  go_wp2_with (first | (with_reducible refine stop_append ?_) | (with_reducible refine stop_copy ?_) | (with_reducible refine stop_make ?_) | (with_reducible refine stop_lookup ?_) | (with_reducible refine stop_update ?_) | (with_reducible refine stop_slice ?_) | (with_reducible refine stop_range ?_) | (with_reducible refine stop_next ?_) | (with_reducible refine stop_convert ⟨_, rfl⟩ ?_) | (with_reducible refine stop_convertB ⟨_, _, _, rfl⟩ ?_) | (with_reducible refine stop_eqSlice ⟨_, _, rfl⟩ ?_))
                  refine (Dc.out w9 hc9).mono ?_
                  rintro e w10 ⟨rfl, hc10⟩
                  go_wp2_with (first | (with_reducible refine stop_append ?_) | (with_reducible refine stop_copy ?_) | (with_reducible refine stop_make ?_) | (with_reducible refine stop_lookup ?_) | (with_reducible refine stop_update ?_) | (with_reducible refine stop_slice ?_) | (with_reducible refine stop_range ?_) | (with_reducible refine stop_next ?_) | (with_reducible refine stop_convert ⟨_, rfl⟩ ?_) | (with_reducible refine stop_convertB ⟨_, _, _, rfl⟩ ?_) | (with_reducible refine stop_eqSlice ⟨_, _, rfl⟩ ?_))
                  have hcA := hc9.trans hc10
                  have Hs10 := Lib.hid (Hst.out.keepNo hcA)
                  have o11A := hcA.obj o11 (not_no _)
                  have o3A := hcA.obj ho3 (not_no _)
                  have hcx := hcw.trans hcA
                  have hx1 := hx1.keepNo hcA
                  have hx2 := hx2.keepNo hcA
                  have hsV := hsV.keepNo hcA
                  have hsW := hsW.keepNo hcA
                  clear a0 a1 a2 b0 b1 b2 o119 Rr Dc Hst
                  have hS28 : ∀ W, Chg (Sf p rc ri) w10 W → (fun W => W.cell? ⟨q11, 0, none⟩ = some (.int .i64 id) ∧ W.cell? ⟨q11, 1, none⟩ = some (.slice X1 rs.length c1) ∧ W.cell? ⟨q11, 2, none⟩ = some (.slice X2 ws.length c2) ∧ W.cell? ⟨q3, 0, none⟩ = some (.int .i64 id) ∧ W.cell? ⟨q3, 1, none⟩ = some (.slice AV rs.length cV) ∧ W.cell? ⟨q3, 2, none⟩ = some (.slice AW ws.length cW)) W := fun W hW => by
                    have k1 := hW.obj o11A (fun h => hq11 _ h rfl)
                    have k2 := hW.obj o3A (fun h => hqs3 _ h rfl)
                    exact ⟨cell_obj k1 rfl, cell_obj k1 rfl, cell_obj k1 rfl, cell_obj k2 rfl, cell_obj k2 rfl, cell_obj k2 rfl⟩
                  have HS := Lib.hid hS28
                  clear hS28
                  have cd : Chg No w10 w10.drew := (Chg.refl No w10).drew
                  refine reg_start (fun W => W.cell? ⟨q11, 0, none⟩ = some (.int .i64 id) ∧ W.cell? ⟨q11, 1, none⟩ = some (.slice X1 rs.length c1) ∧ W.cell? ⟨q11, 2, none⟩ = some (.slice X2 ws.length c2) ∧ W.cell? ⟨q3, 0, none⟩ = some (.int .i64 id) ∧ W.cell? ⟨q3, 1, none⟩ = some (.slice AV rs.length cV) ∧ W.cell? ⟨q3, 2, none⟩ = some (.slice AW ws.length cW)) (by kernel_rfl) ?_
                  ((refine reg_yes (i := 0) (oi := { dst := some 143, op := Go.Op.move (Go.Operand.tmp 12), type := 27, pos := "law.go:183", after := #[], guard := none }) (v := ?_) rfl (by kernel_rfl) (by kernel_rfl) (by kernel_rfl) (fun _ _ _ h => h) rfl ?_ ?_); rotate_left; focus (intro W hW; (try dsimp only at hW); go_split_ands; go_simp; (try (simp (disch := omega) only [IntWalk.i64_in]; (try go_simp))); (try (split; (next => omega); (try go_simp))); try rfl; done))
                  try simp only [Act.put, List.setIfInBounds_toArray, List.set_cons_zero, List.set_cons_succ]
                  ((refine reg_yes (i := 1) (oi := { dst := some 144, op := Go.Op.binOp Go.BinOp.neq 27 (Go.Operand.tmp 143) (Go.Operand.const (Go.Value.int Go.IntKind.i64 0)) 27, type := 4, pos := "law.go:183", after := #[{ on := 0, ground := Go.Ground.data }], guard := none }) (v := ?_) rfl (by kernel_rfl) (by kernel_rfl) (by kernel_rfl) (fun _ _ _ h => h) rfl ?_ ?_); rotate_left; focus (intro W hW; (try dsimp only at hW); go_split_ands; go_simp; (try (simp (disch := omega) only [IntWalk.i64_in]; (try go_simp))); (try (split; (next => omega); (try go_simp))); try rfl; done))
                  try simp only [Act.put, List.setIfInBounds_toArray, List.set_cons_zero, List.set_cons_succ]
                  ((refine reg_yes (i := 2) (oi := { dst := some 145, op := Go.Op.move (Go.Operand.tmp 144), type := 4, pos := "law.go:183", after := #[{ on := 1, ground := Go.Ground.data }], guard := none }) (v := ?_) rfl (by kernel_rfl) (by kernel_rfl) (by kernel_rfl) (fun _ _ _ h => h) rfl ?_ ?_); rotate_left; focus (intro W hW; (try dsimp only at hW); go_split_ands; go_simp; (try (simp (disch := omega) only [IntWalk.i64_in]; (try go_simp))); (try (split; (next => omega); (try go_simp))); try rfl; done))
                  try simp only [Act.put, List.setIfInBounds_toArray, List.set_cons_zero, List.set_cons_succ]
                  first | (refine reg_no (i := 3) (oi := { dst := some 146, op := Go.Op.move (Go.Operand.tmp 17), type := 27, pos := "law.go:183", after := #[{ on := 2, ground := Go.Ground.guard }], guard := some (2, false) }) rfl (by kernel_rfl) (by kernel_rfl) (by kernel_rfl) (fun _ _ _ h => h) rfl ?_) | ((refine reg_yes (i := 3) (oi := { dst := some 146, op := Go.Op.move (Go.Operand.tmp 17), type := 27, pos := "law.go:183", after := #[{ on := 2, ground := Go.Ground.guard }], guard := some (2, false) }) (v := ?_) rfl (by kernel_rfl) (by kernel_rfl) (by kernel_rfl) (fun _ _ _ h => h) rfl ?_ ?_); rotate_left; focus (intro W hW; (try dsimp only at hW); go_split_ands; go_simp; (try (simp (disch := omega) only [IntWalk.i64_in]; (try go_simp))); (try (split; (next => omega); (try go_simp))); try rfl; done))
                  try simp only [Act.put, List.setIfInBounds_toArray, List.set_cons_zero, List.set_cons_succ]
                  first | (refine reg_no (i := 4) (oi := { dst := some 147, op := Go.Op.binOp Go.BinOp.neq 27 (Go.Operand.tmp 146) (Go.Operand.const (Go.Value.int Go.IntKind.i64 0)) 27, type := 4, pos := "law.go:183", after := #[{ on := 3, ground := Go.Ground.data }, { on := 2, ground := Go.Ground.guard }], guard := some (2, false) }) rfl (by kernel_rfl) (by kernel_rfl) (by kernel_rfl) (fun _ _ _ h => h) rfl ?_) | ((refine reg_yes (i := 4) (oi := { dst := some 147, op := Go.Op.binOp Go.BinOp.neq 27 (Go.Operand.tmp 146) (Go.Operand.const (Go.Value.int Go.IntKind.i64 0)) 27, type := 4, pos := "law.go:183", after := #[{ on := 3, ground := Go.Ground.data }, { on := 2, ground := Go.Ground.guard }], guard := some (2, false) }) (v := ?_) rfl (by kernel_rfl) (by kernel_rfl) (by kernel_rfl) (fun _ _ _ h => h) rfl ?_ ?_); rotate_left; focus (intro W hW; (try dsimp only at hW); go_split_ands; go_simp; (try (simp (disch := omega) only [IntWalk.i64_in]; (try go_simp))); (try (split; (next => omega); (try go_simp))); try rfl; done))
                  try simp only [Act.put, List.setIfInBounds_toArray, List.set_cons_zero, List.set_cons_succ]
                  ((refine reg_yes (i := 5) (oi := { dst := some 148, op := Go.Op.pick (Go.Operand.tmp 145) (Go.Operand.const (Go.Value.bool true)) (Go.Operand.tmp 147), type := 4, pos := "law.go:183", after := #[{ on := 2, ground := Go.Ground.data }, { on := 4, ground := Go.Ground.data }], guard := none }) (v := ?_) rfl (by kernel_rfl) (by kernel_rfl) (by kernel_rfl) (fun _ _ _ h => h) rfl ?_ ?_); rotate_left; focus (intro W hW; (try dsimp only at hW); go_split_ands; go_simp; (try (simp (disch := omega) only [IntWalk.i64_in]; (try go_simp))); (try (split; (next => omega); (try go_simp))); try rfl; done))
                  try simp only [Act.put, List.setIfInBounds_toArray, List.set_cons_zero, List.set_cons_succ]
                  ((refine reg_yes (i := 6) (oi := { dst := some 149, op := Go.Op.move (Go.Operand.tmp 148), type := 4, pos := "law.go:183", after := #[{ on := 5, ground := Go.Ground.data }, { on := 2, ground := Go.Ground.chain }], guard := none }) (v := ?_) rfl (by kernel_rfl) (by kernel_rfl) (by kernel_rfl) (fun _ _ _ h => h) rfl ?_ ?_); rotate_left; focus (intro W hW; (try dsimp only at hW); go_split_ands; go_simp; (try (simp (disch := omega) only [IntWalk.i64_in]; (try go_simp))); (try (split; (next => omega); (try go_simp))); try rfl; done))
                  try simp only [Act.put, List.setIfInBounds_toArray, List.set_cons_zero, List.set_cons_succ]
                  first | (refine reg_no (i := 7) (oi := { dst := some 150, op := Go.Op.load 33 (Go.Operand.tmp 11), type := 33, pos := "law.go:183", after := #[{ on := 6, ground := Go.Ground.guard }], guard := some (6, false) }) rfl (by kernel_rfl) (by kernel_rfl) (by kernel_rfl) (fun _ _ _ h => h) rfl ?_) | ((refine reg_yes (i := 7) (oi := { dst := some 150, op := Go.Op.load 33 (Go.Operand.tmp 11), type := 33, pos := "law.go:183", after := #[{ on := 6, ground := Go.Ground.guard }], guard := some (6, false) }) (v := ?_) rfl (by kernel_rfl) (by kernel_rfl) (by kernel_rfl) (fun _ _ _ h => h) rfl ?_ ?_); rotate_left; focus (intro W hW; (try dsimp only at hW); go_split_ands; go_simp; (try (simp (disch := omega) only [IntWalk.i64_in]; (try go_simp))); (try (split; (next => omega); (try go_simp))); try rfl; done))
                  try simp only [Act.put, List.setIfInBounds_toArray, List.set_cons_zero, List.set_cons_succ]
                  first | (refine reg_no (i := 9) (oi := { dst := some 152, op := Go.Op.load 25 (Go.Operand.tmp 3), type := 25, pos := "law.go:183", after := #[{ on := 6, ground := Go.Ground.guard }], guard := some (6, false) }) rfl (by kernel_rfl) (by kernel_rfl) (by kernel_rfl) (fun _ _ _ h => h) rfl ?_) | ((refine reg_yes (i := 9) (oi := { dst := some 152, op := Go.Op.load 25 (Go.Operand.tmp 3), type := 25, pos := "law.go:183", after := #[{ on := 6, ground := Go.Ground.guard }], guard := some (6, false) }) (v := ?_) rfl (by kernel_rfl) (by kernel_rfl) (by kernel_rfl) (fun _ _ _ h => h) rfl ?_ ?_); rotate_left; focus (intro W hW; (try dsimp only at hW); go_split_ands; go_simp; (try (simp (disch := omega) only [IntWalk.i64_in]; (try go_simp))); (try (split; (next => omega); (try go_simp))); try rfl; done))
                  try simp only [Act.put, List.setIfInBounds_toArray, List.set_cons_zero, List.set_cons_succ]
                  -- ready: [8]
                  refine reg_k (fun W => W.cell? ⟨q11, 0, none⟩ = some (.int .i64 id) ∧ W.cell? ⟨q11, 1, none⟩ = some (.slice X1 rs.length c1) ∧ W.cell? ⟨q11, 2, none⟩ = some (.slice X2 ws.length c2) ∧ W.cell? ⟨q3, 0, none⟩ = some (.int .i64 id) ∧ W.cell? ⟨q3, 1, none⟩ = some (.slice AV rs.length cV) ∧ W.cell? ⟨q3, 2, none⟩ = some (.slice AW ws.length cW)) (i := 8) (oi := { dst := some 151, op := Go.Op.call { callee := Go.Callee.value (Go.Operand.func 18), args := #[Go.Operand.tmp 150], argTypes := #[33] }, type := 25, pos := "law.go:183", after := #[{ on := 7, ground := Go.Ground.data }, { on := 6, ground := Go.Ground.chain }, { on := 6, ground := Go.Ground.guard }], guard := some (6, false) }) (by kernel_rfl) (HS.out _ cd.of_no) (fun _ h => h) rfl (by rfl) (fun K hK => ?_)
                  go_simp
                  refine (plain_any (At q3) id _ _ FR ws w10.drew (hx1.keepNo cd) (hx2.keepNo cd) (by omega) (by omega)).mono ?_
                  rintro e w11 ⟨m1, m2, rfl, hc11, p1, p2⟩
                  have cd11 := cd.trans hc11
                  refine hK _ _ ?_
                  clear hK K
                  try simp only [Act.put, List.setIfInBounds_toArray, List.set_cons_zero, List.set_cons_succ]
                  -- ready: [10]
                  refine reg_k (fun W => W.cell? ⟨q11, 0, none⟩ = some (.int .i64 id) ∧ W.cell? ⟨q11, 1, none⟩ = some (.slice X1 rs.length c1) ∧ W.cell? ⟨q11, 2, none⟩ = some (.slice X2 ws.length c2) ∧ W.cell? ⟨q3, 0, none⟩ = some (.int .i64 id) ∧ W.cell? ⟨q3, 1, none⟩ = some (.slice AV rs.length cV) ∧ W.cell? ⟨q3, 2, none⟩ = some (.slice AW ws.length cW)) (i := 10) (oi := { dst := some 153, op := Go.Op.call { callee := Go.Callee.value (Go.Operand.func 17), args := #[Go.Operand.tmp 151, Go.Operand.tmp 152], argTypes := #[25, 25] }, type := 4, pos := "law.go:183", after := #[{ on := 8, ground := Go.Ground.data }, { on := 9, ground := Go.Ground.data }, { on := 8, ground := Go.Ground.chain }, { on := 6, ground := Go.Ground.guard }], guard := some (6, false) }) (by kernel_rfl) (HS.out _ cd11.of_no) (fun _ h => h) rfl (by rfl) (fun K hK => ?_)
                  go_simp
                  refine (same_yes (Lt w10.drew.heap.size) No id _ _ _ _ FR ws w11 p1 p2 (hsV.keepNo cd11) (hsW.keepNo cd11) (by omega) (by omega)).mono ?_
                  rintro e w12 ⟨rfl, hc12⟩
                  have cd12 := cd11.trans hc12
                  refine hK _ _ ?_
                  clear hK K
                  try simp only [Act.put, List.setIfInBounds_toArray, List.set_cons_zero, List.set_cons_succ]
                  first | (refine reg_no (i := 11) (oi := { dst := some 154, op := Go.Op.unOp Go.UnOp.not 4 (Go.Operand.tmp 153), type := 4, pos := "law.go:183", after := #[{ on := 10, ground := Go.Ground.data }, { on := 6, ground := Go.Ground.guard }], guard := some (6, false) }) rfl (by kernel_rfl) (by kernel_rfl) (by kernel_rfl) (fun _ _ _ h => h) rfl ?_) | ((refine reg_yes (i := 11) (oi := { dst := some 154, op := Go.Op.unOp Go.UnOp.not 4 (Go.Operand.tmp 153), type := 4, pos := "law.go:183", after := #[{ on := 10, ground := Go.Ground.data }, { on := 6, ground := Go.Ground.guard }], guard := some (6, false) }) (v := ?_) rfl (by kernel_rfl) (by kernel_rfl) (by kernel_rfl) (fun _ _ _ h => h) rfl ?_ ?_); rotate_left; focus (intro W hW; (try dsimp only at hW); go_split_ands; go_simp; (try (simp (disch := omega) only [IntWalk.i64_in]; (try go_simp))); (try (split; (next => omega); (try go_simp))); try rfl; done))
                  try simp only [Act.put, List.setIfInBounds_toArray, List.set_cons_zero, List.set_cons_succ]
                  ((refine reg_yes (i := 12) (oi := { dst := some 155, op := Go.Op.pick (Go.Operand.tmp 149) (Go.Operand.const (Go.Value.bool true)) (Go.Operand.tmp 154), type := 4, pos := "law.go:183", after := #[{ on := 6, ground := Go.Ground.data }, { on := 11, ground := Go.Ground.data }], guard := none }) (v := ?_) rfl (by kernel_rfl) (by kernel_rfl) (by kernel_rfl) (fun _ _ _ h => h) rfl ?_ ?_); rotate_left; focus (intro W hW; (try dsimp only at hW); go_split_ands; go_simp; (try (simp (disch := omega) only [IntWalk.i64_in]; (try go_simp))); (try (split; (next => omega); (try go_simp))); try rfl; done))
                  try simp only [Act.put, List.setIfInBounds_toArray, List.set_cons_zero, List.set_cons_succ]
                  ((refine reg_yes (i := 13) (oi := { dst := some 156, op := Go.Op.move (Go.Operand.tmp 155), type := 4, pos := "law.go:183", after := #[{ on := 12, ground := Go.Ground.data }, { on := 10, ground := Go.Ground.chain }], guard := none }) (v := ?_) rfl (by kernel_rfl) (by kernel_rfl) (by kernel_rfl) (fun _ _ _ h => h) rfl ?_ ?_); rotate_left; focus (intro W hW; (try dsimp only at hW); go_split_ands; go_simp; (try (simp (disch := omega) only [IntWalk.i64_in]; (try go_simp))); (try (split; (next => omega); (try go_simp))); try rfl; done))
                  try simp only [Act.put, List.setIfInBounds_toArray, List.set_cons_zero, List.set_cons_succ]
                  first | (refine reg_no (i := 14) (oi := { dst := some 157, op := Go.Op.move (Go.Operand.tmp 5), type := 46, pos := "law.go:183", after := #[{ on := 13, ground := Go.Ground.guard }], guard := some (13, false) }) rfl (by kernel_rfl) (by kernel_rfl) (by kernel_rfl) (fun _ _ _ h => h) rfl ?_) | ((refine reg_yes (i := 14) (oi := { dst := some 157, op := Go.Op.move (Go.Operand.tmp 5), type := 46, pos := "law.go:183", after := #[{ on := 13, ground := Go.Ground.guard }], guard := some (13, false) }) (v := ?_) rfl (by kernel_rfl) (by kernel_rfl) (by kernel_rfl) (fun _ _ _ h => h) rfl ?_ ?_); rotate_left; focus (intro W hW; (try dsimp only at hW); go_split_ands; go_simp; (try (simp (disch := omega) only [IntWalk.i64_in]; (try go_simp))); (try (split; (next => omega); (try go_simp))); try rfl; done))
                  try simp only [Act.put, List.setIfInBounds_toArray, List.set_cons_zero, List.set_cons_succ]
                  first | (refine reg_no (i := 15) (oi := { dst := some 158, op := Go.Op.move (Go.Operand.tmp 16), type := 9, pos := "law.go:183", after := #[{ on := 13, ground := Go.Ground.guard }], guard := some (13, false) }) rfl (by kernel_rfl) (by kernel_rfl) (by kernel_rfl) (fun _ _ _ h => h) rfl ?_) | ((refine reg_yes (i := 15) (oi := { dst := some 158, op := Go.Op.move (Go.Operand.tmp 16), type := 9, pos := "law.go:183", after := #[{ on := 13, ground := Go.Ground.guard }], guard := some (13, false) }) (v := ?_) rfl (by kernel_rfl) (by kernel_rfl) (by kernel_rfl) (fun _ _ _ h => h) rfl ?_ ?_); rotate_left; focus (intro W hW; (try dsimp only at hW); go_split_ands; go_simp; (try (simp (disch := omega) only [IntWalk.i64_in]; (try go_simp))); (try (split; (next => omega); (try go_simp))); try rfl; done))
                  try simp only [Act.put, List.setIfInBounds_toArray, List.set_cons_zero, List.set_cons_succ]
                  -- ready: [16]
                  refine reg_k (fun W => W.cell? ⟨q11, 0, none⟩ = some (.int .i64 id) ∧ W.cell? ⟨q11, 1, none⟩ = some (.slice X1 rs.length c1) ∧ W.cell? ⟨q11, 2, none⟩ = some (.slice X2 ws.length c2) ∧ W.cell? ⟨q3, 0, none⟩ = some (.int .i64 id) ∧ W.cell? ⟨q3, 1, none⟩ = some (.slice AV rs.length cV) ∧ W.cell? ⟨q3, 2, none⟩ = some (.slice AW ws.length cW)) (i := 16) (oi := { dst := some 159, op := Go.Op.call { callee := Go.Callee.value (Go.Operand.func 23), args := #[Go.Operand.tmp 157, Go.Operand.tmp 158], argTypes := #[46, 9] }, type := 4, pos := "law.go:183", after := #[{ on := 14, ground := Go.Ground.data }, { on := 15, ground := Go.Ground.data }, { on := 13, ground := Go.Ground.chain }, { on := 13, ground := Go.Ground.guard }], guard := some (13, false) }) (by kernel_rfl) (HS.out _ cd12.of_no) (fun _ h => h) rfl (by rfl) (fun K hK => ?_)
                  go_simp
                  refine (add_any p rc ri s D w12 (Hs10.out.keepNo cd12) hDs (Hbd.out.le (by omega))).mono ?_
                  rintro e w13 ⟨rfl, hs13, hc13⟩
                  rw [GA.out] at hs13
                  simp only [GA.out]
                  have cd13 : Chg (Sf p rc ri) w10 w13 := cd12.trans' hc13 (fun _ _ f => f.elim) (fun _ _ f => f)
                  have Hs13 := Lib.hid hs13
                  have hcy := hcx.old cd13 hge
                  refine hK _ _ ?_
                  clear hK K
                  try simp only [Act.put, List.setIfInBounds_toArray, List.set_cons_zero, List.set_cons_succ]
                  first | (refine reg_no (i := 17) (oi := { dst := some 160, op := Go.Op.unOp Go.UnOp.not 4 (Go.Operand.tmp 159), type := 4, pos := "law.go:183", after := #[{ on := 16, ground := Go.Ground.data }, { on := 13, ground := Go.Ground.guard }], guard := some (13, false) }) rfl (by kernel_rfl) (by kernel_rfl) (by kernel_rfl) (fun _ _ _ h => h) rfl ?_) | ((refine reg_yes (i := 17) (oi := { dst := some 160, op := Go.Op.unOp Go.UnOp.not 4 (Go.Operand.tmp 159), type := 4, pos := "law.go:183", after := #[{ on := 16, ground := Go.Ground.data }, { on := 13, ground := Go.Ground.guard }], guard := some (13, false) }) (v := ?_) rfl (by kernel_rfl) (by kernel_rfl) (by kernel_rfl) (fun _ _ _ h => h) rfl ?_ ?_); rotate_left; focus (intro W hW; (try dsimp only at hW); go_split_ands; go_simp; (try (simp (disch := omega) only [IntWalk.i64_in]; (try go_simp))); (try (split; (next => omega); (try go_simp))); try rfl; done))
                  try simp only [Act.put, List.setIfInBounds_toArray, List.set_cons_zero, List.set_cons_succ]
                  ((refine reg_yes (i := 18) (oi := { dst := some 161, op := Go.Op.pick (Go.Operand.tmp 156) (Go.Operand.const (Go.Value.bool true)) (Go.Operand.tmp 160), type := 4, pos := "law.go:183", after := #[{ on := 13, ground := Go.Ground.data }, { on := 17, ground := Go.Ground.data }], guard := none }) (v := ?_) rfl (by kernel_rfl) (by kernel_rfl) (by kernel_rfl) (fun _ _ _ h => h) rfl ?_ ?_); rotate_left; focus (intro W hW; (try dsimp only at hW); go_split_ands; go_simp; (try (simp (disch := omega) only [IntWalk.i64_in]; (try go_simp))); (try (split; (next => omega); (try go_simp))); try rfl; done))
                  try simp only [Act.put, List.setIfInBounds_toArray, List.set_cons_zero, List.set_cons_succ]
                  -- ready: []
                  refine reg_done (by kernel_rfl) (HS.out _ cd13) ?_
                  have o3B := cd13.obj o3A (fun h => hqs3 _ h rfl)
                  have b0 := cell_obj (i := 0) o3B rfl
                  have b2 := cell_obj (i := 2) o3B rfl
                  have hsW13 : Sl No w13 (.slice AW ws.length cW) ws := (Hw.out.keepNo hcy).no
                  clear hs13 HS Hs10 hcw hcx cd cd11 cd12 cd13 hc11 hc12 hc13 p1 p2 hx1 hx2 hsV hsW o11A o3A hcA hc9 hc10 ho3 o11
                  go_wp2_with (first | (with_reducible refine stop_append ?_) | (with_reducible refine stop_copy ?_) | (with_reducible refine stop_make ?_) | (with_reducible refine stop_lookup ?_) | (with_reducible refine stop_update ?_) | (with_reducible refine stop_slice ?_) | (with_reducible refine stop_range ?_) | (with_reducible refine stop_next ?_) | (with_reducible refine stop_convert ⟨_, rfl⟩ ?_) | (with_reducible refine stop_convertB ⟨_, _, _, rfl⟩ ?_) | (with_reducible refine stop_eqSlice ⟨_, _, rfl⟩ ?_))
                  go_loopw [165] (fun v165 wr => ∃ k : Nat, k ≤ ws.length ∧ v165 = .int .i64 k ∧ Chg No w13 wr) (fun v165 _ => ws.length - (intOf v165).toNat)
                  case atStart => exact ⟨0, by omega, rfl, Chg.refl _ _⟩
                  case round =>
                    obtain ⟨k, hk, rfl, hcz⟩ := hrel
                    by_cases hlt : k < ws.length
                    · obtain ⟨b, o, dd, rfl, _, hbl, ⟨_, _, rfl, rfl, rfl⟩, ha⟩ := (hsW13.keepNo hcz).get k hlt
                      have ha0 := ha 0 _ rfl
                      have ha1 := ha 1 _ rfl
                      simp only [show Rep.n (Int × ByteArray) = 2 from rfl, Nat.add_zero] at ha0 ha1
                      obtain ⟨hv1, hv2⟩ := Hwt.out _ (List.getElem_mem hlt)
                      clear ha
                      generalize ws[k] = x at ha0 ha1 hv1 hv2
                      obtain ⟨f, val⟩ := x
                      simp only at ha0 ha1 hv1 hv2
                      have gt : ∀ W, Sto W p rc ri S' → Calls Try.prog 25 #[.pointer (some ⟨p, 0, none⟩), .int .i64 f] W fun e w' => e = .returned (.tuple #[.string val, .int .i64 (verS S' f)]) ∧ Chg No W w' := fun W hW => by
                        rw [← hv1]; exact get_any p rc ri S' f W hW
                      have hvn : ¬ verS S' f < 1 := by omega
                      clear hv1 hv2
                      generalize verS S' f = vn at gt hvn
                      have Gt := Lib.hid gt
                      clear gt
                      have c14 := (Chg.refl No wr).alloc (.cells #[.int .i64 f, .string val] 59)
                      have o14 := alloc_obj wr (.cells #[.int .i64 f, .string val] 59)
                      have z0 := cell_obj (i := 0) o14 rfl
                      go_wp2_with (first | (with_reducible refine stop_append ?_) | (with_reducible refine stop_copy ?_) | (with_reducible refine stop_make ?_) | (with_reducible refine stop_lookup ?_) | (with_reducible refine stop_update ?_) | (with_reducible refine stop_slice ?_) | (with_reducible refine stop_range ?_) | (with_reducible refine stop_next ?_) | (with_reducible refine stop_convert ⟨_, rfl⟩ ?_) | (with_reducible refine stop_convertB ⟨_, _, _, rfl⟩ ?_) | (with_reducible refine stop_eqSlice ⟨_, _, rfl⟩ ?_))
                      generalize wr.alloc (.cells #[.int .i64 f, .string val] 59) = w14 at *
                      generalize wr.heap.size = q14 at *
                      refine (Gt.out w14 ((Hs13.out.keepNo hcz).keepNo c14)).mono ?_
                      rintro e w15 ⟨rfl, hc15⟩
                      have z1 := cell_obj (i := 1) (hc15.obj o14 (not_no _)) rfl
                      have hcv := (hcz.trans c14).trans hc15
                      go_wp2_with (first | (with_reducible refine stop_append ?_) | (with_reducible refine stop_copy ?_) | (with_reducible refine stop_make ?_) | (with_reducible refine stop_lookup ?_) | (with_reducible refine stop_update ?_) | (with_reducible refine stop_slice ?_) | (with_reducible refine stop_range ?_) | (with_reducible refine stop_next ?_) | (with_reducible refine stop_convert ⟨_, rfl⟩ ?_) | (with_reducible refine stop_convertB ⟨_, _, _, rfl⟩ ?_) | (with_reducible refine stop_eqSlice ⟨_, _, rfl⟩ ?_))
                      go_roundw
                      case rel => exact ⟨k + 1, by omega, by go_num, hcv⟩
                      case measure => simp [intOf]; omega
                    · obtain rfl : k = ws.length := by omega
                      have b0z := hcz.cell b0 (not_no _)
                      have Hsz := Lib.hid (Hs13.out.keepNo hcz)
                      have hcf := hcy.trans hcz
                      obtain ⟨g1', g2'⟩ := Hgd.out
                      clear b0 b2 Hs13 hsW13
                      go_wp2_with (first | (with_reducible refine stop_append ?_) | (with_reducible refine stop_copy ?_) | (with_reducible refine stop_make ?_) | (with_reducible refine stop_lookup ?_) | (with_reducible refine stop_update ?_) | (with_reducible refine stop_slice ?_) | (with_reducible refine stop_range ?_) | (with_reducible refine stop_next ?_) | (with_reducible refine stop_convert ⟨_, rfl⟩ ?_) | (with_reducible refine stop_convertB ⟨_, _, _, rfl⟩ ?_) | (with_reducible refine stop_eqSlice ⟨_, _, rfl⟩ ?_))
                      refine (outcome_any p rc ri S' id wr Hsz.out).mono ?_
                      rintro e wr' ⟨rfl, rfl⟩
                      rw [g1', g2']
                      go_wp2_with (first | (with_reducible refine stop_append ?_) | (with_reducible refine stop_copy ?_) | (with_reducible refine stop_make ?_) | (with_reducible refine stop_lookup ?_) | (with_reducible refine stop_update ?_) | (with_reducible refine stop_slice ?_) | (with_reducible refine stop_range ?_) | (with_reducible refine stop_next ?_) | (with_reducible refine stop_convert ⟨_, rfl⟩ ?_) | (with_reducible refine stop_convertB ⟨_, _, _, rfl⟩ ?_) | (with_reducible refine stop_eqSlice ⟨_, _, rfl⟩ ?_))
                      refine (ask_any No No p rc ri S' id _ _ [] [] wr Hsz.out (Sl.nil _ _ _ _) (Sl.nil _ _ _ _) (by simp) (by simp)).mono ?_
                      rw [HE2.out, HR2.out]
                      rintro e w16 ⟨n1, n2, rfl, hc16, s1, s2⟩
                      obtain ⟨N1, e1, rfl⟩ := s1.slice
                      obtain ⟨N2, e2, rfl⟩ := s2.slice
                      clear s1 s2
                      simp only [List.length_nil]
                      go_wp2_with (first | (with_reducible refine stop_append ?_) | (with_reducible refine stop_copy ?_) | (with_reducible refine stop_make ?_) | (with_reducible refine stop_lookup ?_) | (with_reducible refine stop_update ?_) | (with_reducible refine stop_slice ?_) | (with_reducible refine stop_range ?_) | (with_reducible refine stop_next ?_) | (with_reducible refine stop_convert ⟨_, rfl⟩ ?_) | (with_reducible refine stop_convertB ⟨_, _, _, rfl⟩ ?_) | (with_reducible refine stop_eqSlice ⟨_, _, rfl⟩ ?_))
                      refine (alive_any _).mono ?_
                      rintro e w17 ⟨rfl, hc17⟩
                      have hcg := ((hcf.trans hc16).alloc _).trans hc17
                      go_wp2_with (first | (with_reducible refine stop_append ?_) | (with_reducible refine stop_copy ?_) | (with_reducible refine stop_make ?_) | (with_reducible refine stop_lookup ?_) | (with_reducible refine stop_update ?_) | (with_reducible refine stop_slice ?_) | (with_reducible refine stop_range ?_) | (with_reducible refine stop_next ?_) | (with_reducible refine stop_convert ⟨_, rfl⟩ ?_) | (with_reducible refine stop_convertB ⟨_, _, _, rfl⟩ ?_) | (with_reducible refine stop_eqSlice ⟨_, _, rfl⟩ ?_))
                      go_ret
                      exact ⟨rfl, hcg⟩
end Go.Proofs.Ytnioljagmimojaa
