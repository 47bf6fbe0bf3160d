/- The statement ObjectCounts, walked. -/
import Derived.Test.YtnioljagmimojaaLawC
import Derived.Test.YtnioljagmimojaaLawM
set_option linter.unusedVariables false
set_option linter.unusedSimpArgs false
namespace Go.Proofs.Ytnioljagmimojaa
open Go.RowKit Cb

set_option maxRecDepth 100000 in
set_option maxHeartbeats 1000000 in
theorem counts_big (A : Option Addr) (n c : Nat) (w : World) (hn : 100 < n) :
    Calls Try.prog 5 #[.slice A n c] w fun e w' => e = .returned (.bool true) ∧ Chg No w w' := by
  have hi : (100 : Int) < n := by omega
  go_enter Try.func5, Try.ntmps5
  go_wp2_with (first | (with_reducible refine stop_append ?_) | (with_reducible refine stop_copy ?_) | (with_reducible refine stop_make ?_) | (with_reducible refine stop_lookup ?_) | (with_reducible refine stop_update ?_) | (with_reducible refine stop_slice ?_) | (with_reducible refine stop_range ?_) | (with_reducible refine stop_next ?_) | (with_reducible refine stop_convert ⟨_, rfl⟩ ?_) | (with_reducible refine stop_convertB ⟨_, _, _, rfl⟩ ?_) | (with_reducible refine stop_eqSlice ⟨_, _, rfl⟩ ?_))
  refine (new_any _).mono ?_
  rintro e w1 ⟨p, rc, ri, rfl, h1, hc1, hge⟩
  clear h1 hge
  go_wp2_with (first | (with_reducible refine stop_append ?_) | (with_reducible refine stop_copy ?_) | (with_reducible refine stop_make ?_) | (with_reducible refine stop_lookup ?_) | (with_reducible refine stop_update ?_) | (with_reducible refine stop_slice ?_) | (with_reducible refine stop_range ?_) | (with_reducible refine stop_next ?_) | (with_reducible refine stop_convert ⟨_, rfl⟩ ?_) | (with_reducible refine stop_convertB ⟨_, _, _, rfl⟩ ?_) | (with_reducible refine stop_eqSlice ⟨_, _, rfl⟩ ?_))
  refine (alive_any _).mono ?_
  rintro e w3 ⟨rfl, hc3⟩
  have hcw := hc1.trans hc3
  go_wp2_with (first | (with_reducible refine stop_append ?_) | (with_reducible refine stop_copy ?_) | (with_reducible refine stop_make ?_) | (with_reducible refine stop_lookup ?_) | (with_reducible refine stop_update ?_) | (with_reducible refine stop_slice ?_) | (with_reducible refine stop_range ?_) | (with_reducible refine stop_next ?_) | (with_reducible refine stop_convert ⟨_, rfl⟩ ?_) | (with_reducible refine stop_convertB ⟨_, _, _, rfl⟩ ?_) | (with_reducible refine stop_eqSlice ⟨_, _, rfl⟩ ?_))
  go_ret
  exact ⟨rfl, hcw⟩
theorem tk_cs {F : Nat → Prop} {w : World} {x : Int × Int} {v1 v2 : Value} (h1 : Sl F w v1 (tk x).2.1) (h2 : Sl F w v2 (tk x).2.2) : Rep.cs F w (tk x) [.int .i64 x.1, v1, v2] :=
  ⟨[.int .i64 x.1], [v1, v2], rfl, rfl, [v1], [v2], rfl, ⟨v1, rfl, h1⟩, ⟨v2, rfl, h2⟩⟩
set_option maxRecDepth 100000 in
set_option maxHeartbeats 4000000 in
theorem counts_main (F : Nat → Prop) (v : Value) (late : List Int) (w : World) (h : Sl F w v late) (hsm : late.length ≤ 100) :
    Calls Try.prog 5 #[v] w fun e w' => e = .returned (.bool true) ∧ Chg No w w' := by
  obtain ⟨A, c, rfl⟩ := h.slice
  have H := Lib.hid h
  clear h
  have hi : ¬ (100 : Int) < late.length := by omega
  go_enter Try.func5, Try.ntmps5
  go_wp2_with (first | (with_reducible refine stop_append ?_) | (with_reducible refine stop_copy ?_) | (with_reducible refine stop_make ?_) | (with_reducible refine stop_lookup ?_) | (with_reducible refine stop_update ?_) | (with_reducible refine stop_slice ?_) | (with_reducible refine stop_range ?_) | (with_reducible refine stop_next ?_) | (with_reducible refine stop_convert ⟨_, rfl⟩ ?_) | (with_reducible refine stop_convertB ⟨_, _, _, rfl⟩ ?_) | (with_reducible refine stop_eqSlice ⟨_, _, rfl⟩ ?_))
  refine (new_any _).mono ?_
  rintro e wA ⟨p, rc, ri, rfl, h1, hcA, hge⟩
  have H1 := Lib.hid h1
  have hF : ∀ k, Sf p rc ri k → k < wA.heap.size := h1.lt
  clear h1
  go_wp2_with (first | (with_reducible refine stop_append ?_) | (with_reducible refine stop_copy ?_) | (with_reducible refine stop_make ?_) | (with_reducible refine stop_lookup ?_) | (with_reducible refine stop_update ?_) | (with_reducible refine stop_slice ?_) | (with_reducible refine stop_range ?_) | (with_reducible refine stop_next ?_) | (with_reducible refine stop_convert ⟨_, rfl⟩ ?_) | (with_reducible refine stop_convertB ⟨_, _, _, rfl⟩ ?_) | (with_reducible refine stop_eqSlice ⟨_, _, rfl⟩ ?_))
  go_loopw [4, 5, 33] (fun v4 v5 v33 wr => ∃ (k : Nat) (s : Store) (way : List (Int × Int)) (d : Int) (v : Value), k ≤ late.length ∧ v33 = .int .i64 k ∧ v5 = .int .i64 d ∧ v4 = v ∧ CI k s way d ∧ Sto wr p rc ri s ∧ AppT (Sf p rc ri) wr wA.heap.size wr.heap.size 33 v (way.map tk) ∧ Chg No w wr ∧ wA.heap.size ≤ wr.heap.size) (fun _ _ v33 _ => late.length - (intOf v33).toNat)
  case atStart => exact ⟨0, s0, [], 0, _, by omega, rfl, rfl, rfl, CI.start, H1.out, .inr ⟨Sl.nil _ _ _ _, none, 0, rfl⟩, hcA, Nat.le_refl _⟩
  case round =>
    obtain ⟨k, s, way, d, v, hk, rfl, rfl, rfl, hI, hs, happ, hc, hszA⟩ := hrel
    clear H1 hcA
    have hI0 := hI.d0
    have hI1 := hI.sum
    by_cases hlt : k < late.length
    · obtain ⟨b, o, dd, rfl, _, hbl, rfl, ha⟩ := (H.out.keepNo hc).get k hlt
      have ha0 := ha 0 _ rfl
      simp only [show Rep.n Int = 1 from rfl, Nat.mul_one, Nat.add_zero] at ha0
      clear ha
      generalize late[k] = n at ha0
      have gt : Calls Try.prog 25 #[.pointer (some ⟨p, 0, none⟩), .int .i64 7] wr fun e w' => e = .returned (.tuple #[.string (valS s 7), .int .i64 d]) ∧ Chg No wr w' := by
        have := get_any p rc ri s 7 wr hs
        rw [hI.ver] at this
        exact this
      generalize valS s 7 = vx at gt
      have Gt := Lib.hid gt; have HI := Lib.hid hI; have Hs := Lib.hid hs; have Happ := Lib.hid happ
      clear gt hI hs happ
      go_wp2_with (first | (with_reducible refine stop_append ?_) | (with_reducible refine stop_copy ?_) | (with_reducible refine stop_make ?_) | (with_reducible refine stop_lookup ?_) | (with_reducible refine stop_update ?_) | (with_reducible refine stop_slice ?_) | (with_reducible refine stop_range ?_) | (with_reducible refine stop_next ?_) | (with_reducible refine stop_convert ⟨_, rfl⟩ ?_) | (with_reducible refine stop_convertB ⟨_, _, _, rfl⟩ ?_) | (with_reducible refine stop_eqSlice ⟨_, _, rfl⟩ ?_))
      refine Gt.out.mono ?_
      rintro e w1 ⟨rfl, hc1⟩
      clear Gt
      go_wp2_with (first | (with_reducible refine stop_append ?_) | (with_reducible refine stop_copy ?_) | (with_reducible refine stop_make ?_) | (with_reducible refine stop_lookup ?_) | (with_reducible refine stop_update ?_) | (with_reducible refine stop_slice ?_) | (with_reducible refine stop_range ?_) | (with_reducible refine stop_next ?_) | (with_reducible refine stop_convert ⟨_, rfl⟩ ?_) | (with_reducible refine stop_convertB ⟨_, _, _, rfl⟩ ?_) | (with_reducible refine stop_eqSlice ⟨_, _, rfl⟩ ?_))
      have c2 := (Chg.refl No w1).alloc (.cells #[.int .i64 7] 3)
      have s7 := Sl.lit1 (F := No) (w := w1) (T := 3) (y := (7 : Int)) (C := #[.int .i64 7]) rfl rfl (not_no _)
      generalize w1.alloc (.cells #[.int .i64 7] 3) = w2 at *
      generalize w1.heap.size = q1 at *
      refine (count_any (d + 1) w2 (by omega) (by omega)).mono ?_
      rintro e w3 ⟨rfl, hc3⟩
      have s73 := s7.keepNo hc3
      go_wp2_with (first | (with_reducible refine stop_append ?_) | (with_reducible refine stop_copy ?_) | (with_reducible refine stop_make ?_) | (with_reducible refine stop_lookup ?_) | (with_reducible refine stop_update ?_) | (with_reducible refine stop_slice ?_) | (with_reducible refine stop_range ?_) | (with_reducible refine stop_next ?_) | (with_reducible refine stop_convert ⟨_, rfl⟩ ?_) | (with_reducible refine stop_convertB ⟨_, _, _, rfl⟩ ?_) | (with_reducible refine stop_eqSlice ⟨_, _, rfl⟩ ?_))
      have c4 := (Chg.refl No w3).alloc (.cells #[.int .i64 7, .string (cnt (d + 1))] 63)
      have s8 := Sl.lit1 (F := No) (w := w3) (T := 63) (y := ((7 : Int), cnt (d + 1))) (C := #[.int .i64 7, .string (cnt (d + 1))]) rfl ⟨[.int .i64 7], [.string (cnt (d + 1))], rfl, rfl, rfl⟩ (not_no _)
      have hT : askT s k [7] [(7, cnt (d + 1))] = tk ((k : Int), d) := by simp only [askT, tk, List.map_cons, List.map_nil, HI.out.ver]
      have hrt : rightB (tk ((k : Int), d)).1 (tk ((k : Int), d)).2.1 (tk ((k : Int), d)).2.2 = true := tk_right ⟨by simp, by simp; omega⟩ ⟨by simp; omega, by simp; omega⟩
      have hE : askE s (askT s k [7] [(7, cnt (d + 1))]) = 0 := by
        rw [hT]; unfold askE; rw [if_pos hrt, if_neg (by rw [show (tk ((k : Int), d)).1 = (k : Int) from rfl, HI.out.new _ (by omega)]; simp)]
      have hR : askR s (askT s k [7] [(7, cnt (d + 1))]) = tk ((k : Int), d) := by unfold askR; rw [hE, if_pos rfl, hT]
      have hcw3 := ((hc1.trans c2).trans hc3).trans c4
      refine (ask_any No No p rc ri s k _ _ [7] [(7, cnt (d + 1))] _ (Hs.out.keepNo hcw3) (s73.keepNo c4) s8 (by simp) (by simp)).mono ?_
      rw [hE, hR]
      rintro e w5 ⟨v1, v2, rfl, hc5, h1, h2⟩
      have hsz4 := hcw3.size
      have h1 : Sl (Lt wr.heap.size) w5 v1 (tk ((k : Int), d)).2.1 := h1.weak (fun i _ h => by simp only [Lt] at h ⊢; omega)
      have h2 : Sl (Lt wr.heap.size) w5 v2 (tk ((k : Int), d)).2.2 := h2.weak (fun i _ h => by simp only [Lt] at h ⊢; omega)
      rw [show (tk ((k : Int), d)).1 = (k : Int) from rfl]
      obtain ⟨B1, c1, e1⟩ := h1.slice
      obtain ⟨B2, c2', e2⟩ := h2.slice
      have e1 : v1 = .slice B1 1 c1 := e1
      have e2 : v2 = .slice B2 1 c2' := e2
      subst e1 e2
      have hcw5 := hcw3.trans hc5
      clear hE hR hT hrt hc1 c2 s7 hc3 s73 c4 s8 hcw3 hc5 hsz4
      have o6 := alloc_obj w5 (.cells #[.int .i64 k, .slice B1 1 c1, .slice B2 1 c2'] 33)
      have c56 := (Chg.refl No w5).alloc (.cells #[.int .i64 k, .slice B1 1 c1, .slice B2 1 c2'] 33)
      have e6 : (w5.alloc (.cells #[.int .i64 k, .slice B1 1 c1, .slice B2 1 c2'] 33)).heap.size = w5.heap.size + 1 := by simp
      have z0 := cell_obj (i := 0) o6 rfl
      have z1 := cell_obj (i := 1) o6 rfl
      have z2 := cell_obj (i := 2) o6 rfl
      go_wp2_with (first | (with_reducible refine stop_append ?_) | (with_reducible refine stop_copy ?_) | (with_reducible refine stop_make ?_) | (with_reducible refine stop_lookup ?_) | (with_reducible refine stop_update ?_) | (with_reducible refine stop_slice ?_) | (with_reducible refine stop_range ?_) | (with_reducible refine stop_next ?_) | (with_reducible refine stop_convert ⟨_, rfl⟩ ?_) | (with_reducible refine stop_convertB ⟨_, _, _, rfl⟩ ?_) | (with_reducible refine stop_eqSlice ⟨_, _, rfl⟩ ?_))
      generalize w5.alloc (.cells #[.int .i64 k, .slice B1 1 c1, .slice B2 1 c2'] 33) = w6 at *
      rw [← e6]
      clear e6 z0 z1 z2 o6
      have hcw6 := hcw5.trans c56
      have c67 := (Chg.refl No w6).alloc (.cells #[.int .i64 k, .slice B1 1 c1, .slice B2 1 c2'] 33)
      have hcw7 := hcw6.trans c67
      have hz6 := hcw6.size
      have hy : Sl (Lt wr.heap.size) (w6.alloc (.cells #[.int .i64 k, .slice B1 1 c1, .slice B2 1 c2'] 33)) (.slice (some ⟨w6.heap.size, 0, none⟩) 1 1) [tk ((k : Int), d)] :=
        Sl.lit1 (T := 33) (y := tk ((k : Int), d)) (d := [.int .i64 k, .slice B1 1 c1, .slice B2 1 c2']) rfl (tk_cs (x := ((k : Int), d)) (h1.keepNo c56) (h2.keepNo c56)) (by simp only [Lt]; omega)
      refine step_append_app (α := Tx) (ys := [tk ((k : Int), d)]) Try.underlying61 info_tx rfl (Happ.out.keepNo hcw7 hF) rfl rfl hy hF hszA (by simp; omega) (by simp; omega) (by have := hcw7.size; omega) ?_
      intro v8 w8 happ8 hc8
      rw [show way.map tk ++ [tk ((k : Int), d)] = (way ++ [((k : Int), d)]).map tk by rw [List.map_append]; rfl] at happ8
      have hI' := HI.out.asked
      have hml : (way ++ [((k : Int), d)]).length ≤ way.length + 1 := by simp
      generalize way ++ [((k : Int), d)] = W at *
      have hWl : (W.map tk).length = W.length := List.length_map _
      obtain ⟨A8, c8, e8⟩ := happ8.slice
      rw [hWl] at e8
      subst e8
      have hs8 : Sto w8 p rc ri s := (Hs.out.keepNo hcw7).keep hc8 (fun i hi h => by have := hF i hi; simp only [Ge] at h; omega)
      have hc08 : Chg No w w8 := (hc.trans hcw7).old hc8 (fun i hi => by have := hc.size; have := hge; have h0 := hF p (.inl rfl); have h1 := hge p (.inl rfl); simp only [Ge] at hi; omega)
      have hsz8 : wA.heap.size ≤ w8.heap.size := by have := hcw7.size; have := hc8.size; omega
      have HI' := Lib.hid hI'; have Hs8 := Lib.hid hs8; have Happ8 := Lib.hid happ8
      clear HI Hs Happ hI' hs8 happ8 hc8 hy c67 hcw7 hcw6 hcw5 c56 h1 h2 hc hWl
      have hn : n < 0 ∨ (¬ n < 0 ∧ (W.length : Int) ≤ n) ∨ (¬ n < 0 ∧ ¬ (W.length : Int) ≤ n) := by omega
      rcases hn with hn | ⟨hn, hn2⟩ | ⟨hn, hn2⟩
      · skip
        go_wp2_with (first | (with_reducible refine stop_append ?_) | (with_reducible refine stop_copy ?_) | (with_reducible refine stop_make ?_) | (with_reducible refine stop_lookup ?_) | (with_reducible refine stop_update ?_) | (with_reducible refine stop_slice ?_) | (with_reducible refine stop_range ?_) | (with_reducible refine stop_next ?_) | (with_reducible refine stop_convert ⟨_, rfl⟩ ?_) | (with_reducible refine stop_convertB ⟨_, _, _, rfl⟩ ?_) | (with_reducible refine stop_eqSlice ⟨_, _, rfl⟩ ?_))
        go_roundw
        case rel => exact ⟨k + 1, s, W, d, _, by omega, by go_num, rfl, rfl, HI'.out, Hs8.out, Happ8.out, hc08, hsz8⟩
        case measure => simp [intOf]; omega
      · skip
        go_wp2_with (first | (with_reducible refine stop_append ?_) | (with_reducible refine stop_copy ?_) | (with_reducible refine stop_make ?_) | (with_reducible refine stop_lookup ?_) | (with_reducible refine stop_update ?_) | (with_reducible refine stop_slice ?_) | (with_reducible refine stop_range ?_) | (with_reducible refine stop_next ?_) | (with_reducible refine stop_convert ⟨_, rfl⟩ ?_) | (with_reducible refine stop_convertB ⟨_, _, _, rfl⟩ ?_) | (with_reducible refine stop_eqSlice ⟨_, _, rfl⟩ ?_))
        go_roundw
        case rel => exact ⟨k + 1, s, W, d, _, by omega, by go_num, rfl, rfl, HI'.out, Hs8.out, Happ8.out, hc08, hsz8⟩
        case measure => simp [intOf]; omega
      · obtain ⟨N, rfl⟩ := Int.eq_ofNat_of_zero_le (show 0 ≤ n by omega)
        have hN : N < W.length := by omega
        have hsl := Happ8.out.sl hF
        obtain ⟨b', o', dd, rfl, hnb, hbl', hcs, ha⟩ := hsl.get N (by simpa using hN)
        rw [List.getElem_map] at hcs
        have hst := HI'.out.step N hN
        obtain ⟨xa, xb, _⟩ := HI'.out.each _ (List.getElem_mem hN)
        generalize W[N] = x at hcs hst xa xb
        obtain ⟨_, _, rfl, rfl, _, _, rfl, ⟨u1, rfl, k1⟩, ⟨u2, rfl, k2⟩⟩ := hcs
        have a0 := ha 0 _ rfl
        have a1 := ha 1 _ rfl
        have a2 := ha 2 _ rfl
        simp only [show Rep.n Tx = 3 from rfl, Nat.add_zero] at a0 a1 a2
        rw [show (tk x).1 = x.1 from rfl] at a0
        obtain ⟨D1, d1, e1⟩ := k1.slice
        obtain ⟨D2, d2, e2⟩ := k2.slice
        have e1 : u1 = .slice D1 1 d1 := e1
        have e2 : u2 = .slice D2 1 d2 := e2
        subst e1 e2
        have hrt : rightB (tk x).1 (tk x).2.1 (tk x).2.2 = true := tk_right ⟨xa.1, by omega⟩ ⟨xb.1, by omega⟩
        obtain ⟨D, hD⟩ : ∃ D, D = encB (tk x) := ⟨_, rfl⟩
        have hDs : D.size ≤ 1000000 := by rw [hD]; exact encB_size hrt
        have dc : Calls Try.prog 12 #[.agg #[.int .i64 x.1, .slice D1 1 d1, .slice D2 1 d2]] w8 fun e w' => e = .returned (.tuple #[.string D, .int .i64 0]) ∧ Chg No w8 w' := by
          rw [hD]; exact data_yes _ x.1 _ _ (tk x).2.1 (tk x).2.2 w8 k1 k2 hrt
        have ad : addD s D = (stepS s x, true) := by
          rw [hD, addD_enc hrt]; exact Prod.ext rfl hst.2.1
        have hbd : BdS 1000000000 s := ⟨fun f => by
          by_cases e : f = 7
          · rw [e, HI'.out.ver]; omega
          · rw [HI'.out.oth f e]; omega, by rw [HI'.out.num]; omega, by rw [HI'.out.num]; omega⟩
        obtain ⟨st1, _, st3, st4⟩ := hst
        obtain ⟨A1', cut1, sub1⟩ := run_cut_full (α := Tx) Try.underlying61 info_tx (some ⟨b', o', none⟩) W.length c8 N (by have := hsl.len.2; simp at this; omega)
        obtain ⟨A2', c2', cut2, sub2⟩ := run_cut_lo (α := Tx) Try.underlying61 info_tx (some ⟨b', o', none⟩) W.length c8 (N + 1) (by omega) (by have := hsl.len.2; simp at this; omega)
        have cut2' : ∀ W', (Instr.sliceAt 61 (.slice (some ⟨b', o', none⟩) W.length c8) (some (.int .i64 ((N : Int) + 1))) none none).run Try.prog W' = .ok (.slice A2' (W.length - (N + 1)) c2') W' := fun W' => by
          have := cut2 W'; simpa using this
        obtain ⟨bx, hbx⟩ : ∃ b, b = decide (d = x.2) := ⟨_, rfl⟩
        rw [← hbx] at st4
        have hcase : (bx = true ∧ stepD d x = d + 1 ∧ 0 < d + 1) ∨ (bx = false ∧ stepD d x = d ∧ 0 < d) ∨ (bx = false ∧ stepD d x = d ∧ ¬ 0 < d) := by
          unfold stepD
          by_cases e : d = x.2
          · left; rw [hbx, if_pos e]; exact ⟨by simpa using e, rfl, by omega⟩
          · right; rw [hbx, if_neg e]
            by_cases e0 : 0 < d
            · exact .inl ⟨by simpa using e, rfl, e0⟩
            · exact .inr ⟨by simpa using e, rfl, e0⟩
        have Dc := Lib.hid dc; have Ad := Lib.hid ad; have Hbd := Lib.hid hbd; have St1 := Lib.hid st1; have St3 := Lib.hid st3; have St4 := Lib.hid st4; have Hsl := Lib.hid hsl; have Hcase := Lib.hid hcase; have Cut1 := Lib.hid cut1; have Cut2 := Lib.hid cut2'
        clear dc ad hbd st1 st3 st4 hsl hcase cut1 cut2 cut2' hbx hD hrt k1 k2 ha
        go_wp2_with (first | (with_reducible refine stop_append ?_) | (with_reducible refine stop_copy ?_) | (with_reducible refine stop_make ?_) | (with_reducible refine stop_lookup ?_) | (with_reducible refine stop_update ?_) | (with_reducible refine stop_slice ?_) | (with_reducible refine stop_range ?_) | (with_reducible refine stop_next ?_) | (with_reducible refine stop_convert ⟨_, rfl⟩ ?_) | (with_reducible refine stop_convertB ⟨_, _, _, rfl⟩ ?_) | (with_reducible refine stop_eqSlice ⟨_, _, rfl⟩ ?_))
        refine Dc.out.mono ?_
        rintro e w9 ⟨rfl, hc9⟩
        go_wp2_with (first | (with_reducible refine stop_append ?_) | (with_reducible refine stop_copy ?_) | (with_reducible refine stop_make ?_) | (with_reducible refine stop_lookup ?_) | (with_reducible refine stop_update ?_) | (with_reducible refine stop_slice ?_) | (with_reducible refine stop_range ?_) | (with_reducible refine stop_next ?_) | (with_reducible refine stop_convert ⟨_, rfl⟩ ?_) | (with_reducible refine stop_convertB ⟨_, _, _, rfl⟩ ?_) | (with_reducible refine stop_eqSlice ⟨_, _, rfl⟩ ?_))
        refine (add_any p rc ri s D w9 (Hs8.out.keepNo hc9) hDs Hbd.out).mono ?_
        rintro e w10 ⟨rfl, hs10, hc10⟩
        rw [Ad.out] at hs10
        simp only [Ad.out]
        have hc810 : Chg (Sf p rc ri) w8 w10 := hc9.trans' hc10 (fun _ _ f => f.elim) (fun _ _ f => f)
        have Hs10 := Lib.hid hs10
        have a0 := hc810.cell a0 hnb
        have hsl10 := Hsl.out.keep hc810
        clear hs10 hc9 hc10 a1 a2
        go_wp2_with (first | (with_reducible refine stop_append ?_) | (with_reducible refine stop_copy ?_) | (with_reducible refine stop_make ?_) | (with_reducible refine stop_lookup ?_) | (with_reducible refine stop_update ?_) | (with_reducible refine stop_slice ?_) | (with_reducible refine stop_range ?_) | (with_reducible refine stop_next ?_) | (with_reducible refine stop_convert ⟨_, rfl⟩ ?_) | (with_reducible refine stop_convertB ⟨_, _, _, rfl⟩ ?_) | (with_reducible refine stop_eqSlice ⟨_, _, rfl⟩ ?_))
        refine (outcome_any p rc ri _ x.1 w10 Hs10.out).mono ?_
        rintro e w10' ⟨rfl, rfl⟩
        rw [St3.out, St4.out]
        go_wp2_with (first | (with_reducible refine stop_append ?_) | (with_reducible refine stop_copy ?_) | (with_reducible refine stop_make ?_) | (with_reducible refine stop_lookup ?_) | (with_reducible refine stop_update ?_) | (with_reducible refine stop_slice ?_) | (with_reducible refine stop_range ?_) | (with_reducible refine stop_next ?_) | (with_reducible refine stop_convert ⟨_, rfl⟩ ?_) | (with_reducible refine stop_convertB ⟨_, _, _, rfl⟩ ?_) | (with_reducible refine stop_eqSlice ⟨_, _, rfl⟩ ?_))
        have cut1 := Cut1.out
        have cut2 := Cut2.out
        refine rt_start (fun _ => True) (by kernel_rfl) ?_
        ((refine rt_yes (i := 0) (oi := { dst := some 92, op := Go.Op.move (Go.Operand.tmp 4), type := 61, pos := "law.go:221", after := #[], guard := none }) (v := ?_) rfl (by kernel_rfl) (by kernel_rfl) (by kernel_rfl) (fun _ _ _ h => h) rfl ?_ ?_); rotate_left; focus (intro W hW; (try dsimp only at hW); go_split_ands; go_simp; (try (simp (disch := omega) only [IntWalk.i64_in]; (try go_simp))); (try (split; (next => omega); (try go_simp))); try rfl; done))
        try simp only [Act.put, List.setIfInBounds_toArray, List.set_cons_zero, List.set_cons_succ]
        ((refine rt_yes (i := 1) (oi := { dst := some 93, op := Go.Op.move (Go.Operand.tmp 7), type := 3, pos := "law.go:221", after := #[], guard := none }) (v := ?_) rfl (by kernel_rfl) (by kernel_rfl) (by kernel_rfl) (fun _ _ _ h => h) rfl ?_ ?_); rotate_left; focus (intro W hW; (try dsimp only at hW); go_split_ands; go_simp; (try (simp (disch := omega) only [IntWalk.i64_in]; (try go_simp))); (try (split; (next => omega); (try go_simp))); try rfl; done))
        try simp only [Act.put, List.setIfInBounds_toArray, List.set_cons_zero, List.set_cons_succ]
        ((refine rt_yes (i := 2) (oi := { dst := some 94, op := Go.Op.move (Go.Operand.tmp 7), type := 3, pos := "law.go:221", after := #[], guard := none }) (v := ?_) rfl (by kernel_rfl) (by kernel_rfl) (by kernel_rfl) (fun _ _ _ h => h) rfl ?_ ?_); rotate_left; focus (intro W hW; (try dsimp only at hW); go_split_ands; go_simp; (try (simp (disch := omega) only [IntWalk.i64_in]; (try go_simp))); (try (split; (next => omega); (try go_simp))); try rfl; done))
        try simp only [Act.put, List.setIfInBounds_toArray, List.set_cons_zero, List.set_cons_succ]
        ((refine rt_yes (i := 3) (oi := { dst := some 95, op := Go.Op.slice 61 (Go.Operand.tmp 92) none (some (Go.Operand.tmp 93)) (some (Go.Operand.tmp 94)), type := 61, pos := "law.go:221", after := #[{ on := 0, ground := Go.Ground.data }, { on := 1, ground := Go.Ground.data }, { on := 2, ground := Go.Ground.data }], guard := none }) (v := ?_) rfl (by kernel_rfl) (by kernel_rfl) (by kernel_rfl) (fun _ _ _ h => h) rfl ?_ ?_); rotate_left; focus (intro W hW; (try dsimp only at hW); go_split_ands; go_simp; (try (simp (disch := omega) only [IntWalk.i64_in]; (try go_simp))); (try (split; (next => omega); (try go_simp))); try rfl; done))
        try simp only [Act.put, List.setIfInBounds_toArray, List.set_cons_zero, List.set_cons_succ]
        ((refine rt_yes (i := 4) (oi := { dst := some 96, op := Go.Op.move (Go.Operand.tmp 4), type := 61, pos := "law.go:221", after := #[], guard := none }) (v := ?_) rfl (by kernel_rfl) (by kernel_rfl) (by kernel_rfl) (fun _ _ _ h => h) rfl ?_ ?_); rotate_left; focus (intro W hW; (try dsimp only at hW); go_split_ands; go_simp; (try (simp (disch := omega) only [IntWalk.i64_in]; (try go_simp))); (try (split; (next => omega); (try go_simp))); try rfl; done))
        try simp only [Act.put, List.setIfInBounds_toArray, List.set_cons_zero, List.set_cons_succ]
        ((refine rt_yes (i := 5) (oi := { dst := some 97, op := Go.Op.move (Go.Operand.tmp 7), type := 3, pos := "law.go:221", after := #[], guard := none }) (v := ?_) rfl (by kernel_rfl) (by kernel_rfl) (by kernel_rfl) (fun _ _ _ h => h) rfl ?_ ?_); rotate_left; focus (intro W hW; (try dsimp only at hW); go_split_ands; go_simp; (try (simp (disch := omega) only [IntWalk.i64_in]; (try go_simp))); (try (split; (next => omega); (try go_simp))); try rfl; done))
        try simp only [Act.put, List.setIfInBounds_toArray, List.set_cons_zero, List.set_cons_succ]
        ((refine rt_yes (i := 6) (oi := { dst := some 98, op := Go.Op.binOp Go.BinOp.add 3 (Go.Operand.tmp 97) (Go.Operand.const (Go.Value.int Go.IntKind.i64 1)) 3, type := 3, pos := "law.go:221", after := #[{ on := 5, ground := Go.Ground.data }], guard := none }) (v := ?_) rfl (by kernel_rfl) (by kernel_rfl) (by kernel_rfl) (fun _ _ _ h => h) rfl ?_ ?_); rotate_left; focus (intro W hW; (try dsimp only at hW); go_split_ands; go_simp; (try (simp (disch := omega) only [IntWalk.i64_in]; (try go_simp))); (try (split; (next => omega); (try go_simp))); try rfl; done))
        try simp only [Act.put, List.setIfInBounds_toArray, List.set_cons_zero, List.set_cons_succ]
        ((refine rt_yes (i := 7) (oi := { dst := some 99, op := Go.Op.slice 61 (Go.Operand.tmp 96) (some (Go.Operand.tmp 98)) none none, type := 61, pos := "law.go:221", after := #[{ on := 4, ground := Go.Ground.data }, { on := 6, ground := Go.Ground.data }], guard := none }) (v := ?_) rfl (by kernel_rfl) (by kernel_rfl) (by kernel_rfl) (fun _ _ _ h => h) rfl ?_ ?_); rotate_left; focus (intro W hW; (try dsimp only at hW); go_split_ands; go_simp; (try (simp (disch := omega) only [IntWalk.i64_in]; (try go_simp))); (try (split; (next => omega); (try go_simp))); try rfl; done))
        try simp only [Act.put, List.setIfInBounds_toArray, List.set_cons_zero, List.set_cons_succ]
        -- ready: [8]
        clear cut1 cut2
        have cd := (Chg.refl No w10).drew
        have hq1 := sub1 _ _ _ (hsl10.keepNo cd) (by simp; omega)
        have hq2 := sub2 _ _ _ (hsl10.keepNo cd)
        have hl1 : ((W.map tk).take N).length = N := by simp; omega
        have hl2 : ((W.map tk).drop (N + 1)).length = W.length - (N + 1) := by simp
        refine rt_append_full (α := Tx) (F := Sf p rc ri) (base := wA.heap.size) (fun _ => True) (i := 8) (by kernel_rfl) trivial (fun _ h => h) rfl rfl Try.underlying61 info_tx rfl hq1 rfl rfl hq2 (by rw [hl1, hl2]; omega) (by rw [hl1, hl2]; omega) (by have := hc810.size; have := cd.size; omega) ?_
        intro v11 w11 happ11 hc11
        try simp only [Act.put, List.setIfInBounds_toArray, List.set_cons_zero, List.set_cons_succ]
        -- ready: [9]
        refine rt_k (fun _ => True) (i := 9) (oi := { dst := some 4, op := Go.Op.assign (Go.Operand.tmp 100), type := 61, pos := "law.go:221", after := #[{ on := 8, ground := Go.Ground.data }, { on := 8, ground := Go.Ground.chain }, { on := 0, ground := Go.Ground.phase }, { on := 1, ground := Go.Ground.phase }, { on := 2, ground := Go.Ground.phase }, { on := 3, ground := Go.Ground.phase }, { on := 4, ground := Go.Ground.phase }, { on := 5, ground := Go.Ground.phase }, { on := 6, ground := Go.Ground.phase }, { on := 7, ground := Go.Ground.phase }, { on := 8, ground := Go.Ground.phase }], guard := none }) (by kernel_rfl) trivial (fun _ h => h) rfl (by rfl) (fun K hK => ?_)
        go_simp
        refine hK _ _ ?_
        clear hK K
        try simp only [Act.put, List.setIfInBounds_toArray, List.set_cons_zero, List.set_cons_succ]
        -- ready: []
        refine rt_done (by kernel_rfl)  ?_
        rw [← List.map_take, ← List.map_drop, ← List.map_append] at happ11
        have hc1011 := cd.trans hc11
        have Hs11 := Lib.hid (Hs10.out.keepNo hc1011)
        have hc011 : Chg No w w11 := (hc08.old hc810 hge).trans hc1011
        have hsz11 : wA.heap.size ≤ w11.heap.size := by have := hc810.size; have := hc1011.size; omega
        have Happ11 := Lib.hid happ11
        clear happ11 hc11 cd hq1 hq2 hl1 hl2 Hs10 hsl10 hc810 a0 Hsl Hs8 Happ8 Cut1 Cut2 sub1 sub2 hc08
        have gt : ∀ W', Sto W' p rc ri (stepS s x) → Calls Try.prog 25 #[.pointer (some ⟨p, 0, none⟩), .int .i64 7] W' fun e w' => e = .returned (.tuple #[.string (valS (stepS s x) 7), .int .i64 (stepD d x)]) ∧ Chg No W' w' := fun W' hW => by
          have := get_any p rc ri (stepS s x) 7 W' hW
          rw [St1.out.ver] at this
          exact this
        have hvv := St1.out.val
        have hdd := St1.out.d0
        have hds := St1.out.sum
        have hcase := Hcase.out
        generalize stepD d x = d' at *
        generalize valS (stepS s x) 7 = vv at *
        have Gt := Lib.hid gt
        clear gt Hcase
        rcases hcase with ⟨rfl, rfl, hd0⟩ | ⟨rfl, rfl, hd0⟩ | ⟨rfl, rfl, hd0⟩
        · have hvv := hvv hd0
          subst hvv
          go_wp2_with (first | (with_reducible refine stop_append ?_) | (with_reducible refine stop_copy ?_) | (with_reducible refine stop_make ?_) | (with_reducible refine stop_lookup ?_) | (with_reducible refine stop_update ?_) | (with_reducible refine stop_slice ?_) | (with_reducible refine stop_range ?_) | (with_reducible refine stop_next ?_) | (with_reducible refine stop_convert ⟨_, rfl⟩ ?_) | (with_reducible refine stop_convertB ⟨_, _, _, rfl⟩ ?_) | (with_reducible refine stop_eqSlice ⟨_, _, rfl⟩ ?_))
          refine (Gt.out w11 Hs11.out).mono ?_
          rintro e w12 ⟨rfl, hc12⟩
          go_wp2_with (first | (with_reducible refine stop_append ?_) | (with_reducible refine stop_copy ?_) | (with_reducible refine stop_make ?_) | (with_reducible refine stop_lookup ?_) | (with_reducible refine stop_update ?_) | (with_reducible refine stop_slice ?_) | (with_reducible refine stop_range ?_) | (with_reducible refine stop_next ?_) | (with_reducible refine stop_convert ⟨_, rfl⟩ ?_) | (with_reducible refine stop_convertB ⟨_, _, _, rfl⟩ ?_) | (with_reducible refine stop_eqSlice ⟨_, _, rfl⟩ ?_))
          refine (count_any (d + 1) w12 (by omega) (by omega)).mono ?_
          rintro e w13 ⟨rfl, hc13⟩
          have hcz := hc12.trans hc13
          have hcf := hc011.trans hcz
          go_wp2_with (first | (with_reducible refine stop_append ?_) | (with_reducible refine stop_copy ?_) | (with_reducible refine stop_make ?_) | (with_reducible refine stop_lookup ?_) | (with_reducible refine stop_update ?_) | (with_reducible refine stop_slice ?_) | (with_reducible refine stop_range ?_) | (with_reducible refine stop_next ?_) | (with_reducible refine stop_convert ⟨_, rfl⟩ ?_) | (with_reducible refine stop_convertB ⟨_, _, _, rfl⟩ ?_) | (with_reducible refine stop_eqSlice ⟨_, _, rfl⟩ ?_))
          go_roundw
          case rel => exact ⟨k + 1, _, _, d + 1, _, by omega, by go_num, rfl, rfl, St1.out, Hs11.out.keepNo hcz, (Happ11.out.keepNo hcz hF).le hcz.size, hcf, by have := hcz.size; omega⟩
          case measure => simp [intOf]; omega
        · have hvv := hvv hd0
          subst hvv
          go_wp2_with (first | (with_reducible refine stop_append ?_) | (with_reducible refine stop_copy ?_) | (with_reducible refine stop_make ?_) | (with_reducible refine stop_lookup ?_) | (with_reducible refine stop_update ?_) | (with_reducible refine stop_slice ?_) | (with_reducible refine stop_range ?_) | (with_reducible refine stop_next ?_) | (with_reducible refine stop_convert ⟨_, rfl⟩ ?_) | (with_reducible refine stop_convertB ⟨_, _, _, rfl⟩ ?_) | (with_reducible refine stop_eqSlice ⟨_, _, rfl⟩ ?_))
          refine (Gt.out w11 Hs11.out).mono ?_
          rintro e w12 ⟨rfl, hc12⟩
          go_wp2_with (first | (with_reducible refine stop_append ?_) | (with_reducible refine stop_copy ?_) | (with_reducible refine stop_make ?_) | (with_reducible refine stop_lookup ?_) | (with_reducible refine stop_update ?_) | (with_reducible refine stop_slice ?_) | (with_reducible refine stop_range ?_) | (with_reducible refine stop_next ?_) | (with_reducible refine stop_convert ⟨_, rfl⟩ ?_) | (with_reducible refine stop_convertB ⟨_, _, _, rfl⟩ ?_) | (with_reducible refine stop_eqSlice ⟨_, _, rfl⟩ ?_))
          refine (count_any d' w12 (by omega) (by omega)).mono ?_
          rintro e w13 ⟨rfl, hc13⟩
          have hcz := hc12.trans hc13
          have hcf := hc011.trans hcz
          go_wp2_with (first | (with_reducible refine stop_append ?_) | (with_reducible refine stop_copy ?_) | (with_reducible refine stop_make ?_) | (with_reducible refine stop_lookup ?_) | (with_reducible refine stop_update ?_) | (with_reducible refine stop_slice ?_) | (with_reducible refine stop_range ?_) | (with_reducible refine stop_next ?_) | (with_reducible refine stop_convert ⟨_, rfl⟩ ?_) | (with_reducible refine stop_convertB ⟨_, _, _, rfl⟩ ?_) | (with_reducible refine stop_eqSlice ⟨_, _, rfl⟩ ?_))
          go_roundw
          case rel => exact ⟨k + 1, _, _, d', _, by omega, by go_num, rfl, rfl, St1.out, Hs11.out.keepNo hcz, (Happ11.out.keepNo hcz hF).le hcz.size, hcf, by have := hcz.size; omega⟩
          case measure => simp [intOf]; omega
        · skip
          go_wp2_with (first | (with_reducible refine stop_append ?_) | (with_reducible refine stop_copy ?_) | (with_reducible refine stop_make ?_) | (with_reducible refine stop_lookup ?_) | (with_reducible refine stop_update ?_) | (with_reducible refine stop_slice ?_) | (with_reducible refine stop_range ?_) | (with_reducible refine stop_next ?_) | (with_reducible refine stop_convert ⟨_, rfl⟩ ?_) | (with_reducible refine stop_convertB ⟨_, _, _, rfl⟩ ?_) | (with_reducible refine stop_eqSlice ⟨_, _, rfl⟩ ?_))
          refine (Gt.out w11 Hs11.out).mono ?_
          rintro e w12 ⟨rfl, hc12⟩
          have hcf := hc011.trans hc12
          go_wp2_with (first | (with_reducible refine stop_append ?_) | (with_reducible refine stop_copy ?_) | (with_reducible refine stop_make ?_) | (with_reducible refine stop_lookup ?_) | (with_reducible refine stop_update ?_) | (with_reducible refine stop_slice ?_) | (with_reducible refine stop_range ?_) | (with_reducible refine stop_next ?_) | (with_reducible refine stop_convert ⟨_, rfl⟩ ?_) | (with_reducible refine stop_convertB ⟨_, _, _, rfl⟩ ?_) | (with_reducible refine stop_eqSlice ⟨_, _, rfl⟩ ?_))
          go_roundw
          case rel => exact ⟨k + 1, _, _, d', _, by omega, by go_num, rfl, rfl, St1.out, Hs11.out.keepNo hc12, (Happ11.out.keepNo hc12 hF).le hc12.size, hcf, by have := hc12.size; omega⟩
          case measure => simp [intOf]; omega
    · obtain rfl : k = late.length := by omega
      have hnum := hI.num
      have Hs := Lib.hid hs
      clear hs happ hI
      go_wp2_with (first | (with_reducible refine stop_append ?_) | (with_reducible refine stop_copy ?_) | (with_reducible refine stop_make ?_) | (with_reducible refine stop_lookup ?_) | (with_reducible refine stop_update ?_) | (with_reducible refine stop_slice ?_) | (with_reducible refine stop_range ?_) | (with_reducible refine stop_next ?_) | (with_reducible refine stop_convert ⟨_, rfl⟩ ?_) | (with_reducible refine stop_convertB ⟨_, _, _, rfl⟩ ?_) | (with_reducible refine stop_eqSlice ⟨_, _, rfl⟩ ?_))
      refine (alive_any _).mono ?_
      rintro e w2 ⟨rfl, hc2⟩
      have dn := done_any p rc ri s w2 (Hs.out.keepNo hc2)
      rw [hnum] at dn
      go_wp2_with (first | (with_reducible refine stop_append ?_) | (with_reducible refine stop_copy ?_) | (with_reducible refine stop_make ?_) | (with_reducible refine stop_lookup ?_) | (with_reducible refine stop_update ?_) | (with_reducible refine stop_slice ?_) | (with_reducible refine stop_range ?_) | (with_reducible refine stop_next ?_) | (with_reducible refine stop_convert ⟨_, rfl⟩ ?_) | (with_reducible refine stop_convertB ⟨_, _, _, rfl⟩ ?_) | (with_reducible refine stop_eqSlice ⟨_, _, rfl⟩ ?_))
      refine dn.mono ?_
      rintro e w3 ⟨rfl, rfl⟩
      have hcf := hc.trans hc2
      go_wp2_with (first | (with_reducible refine stop_append ?_) | (with_reducible refine stop_copy ?_) | (with_reducible refine stop_make ?_) | (with_reducible refine stop_lookup ?_) | (with_reducible refine stop_update ?_) | (with_reducible refine stop_slice ?_) | (with_reducible refine stop_range ?_) | (with_reducible refine stop_next ?_) | (with_reducible refine stop_convert ⟨_, rfl⟩ ?_) | (with_reducible refine stop_convertB ⟨_, _, _, rfl⟩ ?_) | (with_reducible refine stop_eqSlice ⟨_, _, rfl⟩ ?_))
      go_ret
      exact ⟨rfl, hcf⟩
end Go.Proofs.Ytnioljagmimojaa
