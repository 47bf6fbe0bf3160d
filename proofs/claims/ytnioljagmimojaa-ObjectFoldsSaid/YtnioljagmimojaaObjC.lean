/- Walks of package object: Right. -/
import Derived.Test.YtnioljagmimojaaObjB
set_option linter.unusedVariables false
set_option linter.unusedSimpArgs false
namespace Go.Proofs.Ytnioljagmimojaa
open Go.RowKit Cb

def inB (n k : Int) : Bool := decide (0 ≤ n) && decide (n ≤ k)
def badR (r : Int × Int) : Bool := !inB r.2 1099511627776
def badW (r : Int × ByteArray) : Bool := decide (48 < r.2.size)
theorem right3_any (x : Int × Int) (w : World) :
    Calls Try.prog 52 #[.agg #[.int .i64 x.1, .int .i64 x.2]] w fun e w' => e = .returned (.bool (badR x)) ∧ Chg No w w' := by
  obtain ⟨f, y⟩ := x
  unfold badR
  have Hc := Lib.hid (fun W => within_any y 1099511627776 W)
  simp only
  have hb : ∀ b, inB y 1099511627776 = b → Hid (inB y 1099511627776 = b) := fun _ h => h
  cases hb' : inB y 1099511627776
  all_goals
    have Hb := hb _ hb'
    clear hb hb'
    go_enter Try.func52, Try.ntmps52
    go_wp2_with (first | (with_reducible refine stop_append ?_) | (with_reducible refine stop_copy ?_) | (with_reducible refine stop_make ?_) | (with_reducible refine stop_lookup ?_) | (with_reducible refine stop_update ?_) | (with_reducible refine stop_slice ?_) | (with_reducible refine stop_range ?_) | (with_reducible refine stop_next ?_) | (with_reducible refine stop_convert ⟨_, rfl⟩ ?_) | (with_reducible refine stop_convertB ⟨_, _, _, rfl⟩ ?_) | (with_reducible refine stop_eqSlice ⟨_, _, rfl⟩ ?_))
    refine (Hc.out _).mono ?_
    rw [show (decide (0 ≤ y) && decide (y ≤ 1099511627776)) = inB y 1099511627776 from rfl, Hb.out]
    rintro e w1 ⟨rfl, rfl⟩
    go_wp2_with (first | (with_reducible refine stop_append ?_) | (with_reducible refine stop_copy ?_) | (with_reducible refine stop_make ?_) | (with_reducible refine stop_lookup ?_) | (with_reducible refine stop_update ?_) | (with_reducible refine stop_slice ?_) | (with_reducible refine stop_range ?_) | (with_reducible refine stop_next ?_) | (with_reducible refine stop_convert ⟨_, rfl⟩ ?_) | (with_reducible refine stop_convertB ⟨_, _, _, rfl⟩ ?_) | (with_reducible refine stop_eqSlice ⟨_, _, rfl⟩ ?_))
    go_ret
    exact ⟨rfl, (Chg.refl _ _).alloc _⟩
theorem right4_any (x : Int × ByteArray) (w : World) :
    Calls Try.prog 54 #[.agg #[.int .i64 x.1, .string x.2]] w fun e w' => e = .returned (.bool (badW x)) ∧ Chg No w w' := by
  obtain ⟨f, y⟩ := x
  go_enter Try.func54, Try.ntmps54
  go_wp2_with (first | (with_reducible refine stop_append ?_) | (with_reducible refine stop_copy ?_) | (with_reducible refine stop_make ?_) | (with_reducible refine stop_lookup ?_) | (with_reducible refine stop_update ?_) | (with_reducible refine stop_slice ?_) | (with_reducible refine stop_range ?_) | (with_reducible refine stop_next ?_) | (with_reducible refine stop_convert ⟨_, rfl⟩ ?_) | (with_reducible refine stop_convertB ⟨_, _, _, rfl⟩ ?_) | (with_reducible refine stop_eqSlice ⟨_, _, rfl⟩ ?_))
  go_ret
  exact ⟨by simp [badW]; omega, (Chg.refl _ _).alloc _⟩
def rightB (id : Int) (rs : List (Int × Int)) (ws : List (Int × ByteArray)) : Bool :=
  (inB id 1099511627776 && risB (rs.map (·.1)) && risB (ws.map (·.1))) && (!rs.any badR && !ws.any badW)
theorem en_func48 (args : Array Value) (W : World) : (callFunc 52 args).run Try.prog W = .ok (.enter 52 args) W := by kernel_rfl
theorem en_func54 (args : Array Value) (W : World) : (callFunc 54 args).run Try.prog W = .ok (.enter 54 args) W := by kernel_rfl
set_option maxRecDepth 100000 in
set_option maxHeartbeats 1000000 in
theorem right_tx (F : Nat → Prop) (id : Int) (vr vw : Value) (rs : List (Int × Int)) (ws : List (Int × ByteArray)) (w : World) (hr : Sl F w vr rs) (hw : Sl F w vw ws) (hl : rs.length * 16 ≤ 140737488351232) (hl2 : ws.length * 16 ≤ 140737488351232) :
    Calls Try.prog 19 #[.agg #[.int .i64 id, vr, vw]] w fun e w' => e = .returned (.bool (rightB id rs ws)) ∧ Chg No w w' := by
  have h1 : ∀ W, Calls Try.prog 46 #[.int .i64 id, .int .i64 1099511627776] W fun e w' => e = .returned (.bool (inB id 1099511627776)) ∧ W = w' := fun W => within_any id _ W
  have h2 : ∀ W, Chg No w W → Calls Try.prog 47 #[vr, .func (.func 48) #[] #[]] W fun e w' => e = .returned (.bool (risB (rs.map (·.1)))) ∧ Chg No W w' := fun W hc => risingRead_any F vr rs W (hr.keepNo hc) hl
  have h3 : ∀ W, Chg No w W → Calls Try.prog 49 #[vw, .func (.func 50) #[] #[]] W fun e w' => e = .returned (.bool (risB (ws.map (·.1)))) ∧ Chg No W w' := fun W hc => risingWrite_any F vw ws W (hw.keepNo hc) hl2
  have h4 : ∀ W, Chg No w W → Calls Try.prog 51 #[vr, .func (.func 52) #[] #[]] W fun e w' => e = .returned (.bool (rs.any badR)) ∧ Chg No W w' := fun W hc => containsRead_any F vr rs badR _ en_func48 vr W (hr.keepNo hc) hl (fun x W' _ => right3_any x W')
  have h5 : ∀ W, Chg No w W → Calls Try.prog 53 #[vw, .func (.func 54) #[] #[]] W fun e w' => e = .returned (.bool (ws.any badW)) ∧ Chg No W w' := fun W hc => containsWrite_any F vw ws badW _ en_func54 vr W (hw.keepNo hc) hl2 (fun x W' _ => right4_any x W')
  have H1 := Lib.hid h1; have H2 := Lib.hid h2; have H3 := Lib.hid h3; have H4 := Lib.hid h4; have H5 := Lib.hid h5
  clear h1 h2 h3 h4 h5 hr hw hl hl2
  unfold rightB
  generalize inB id 1099511627776 = b1 at H1 ⊢
  generalize risB (rs.map (·.1)) = b2 at H2 ⊢
  generalize risB (ws.map (·.1)) = b3 at H3 ⊢
  generalize rs.any badR = b4 at H4 ⊢
  generalize ws.any badW = b5 at H5 ⊢
  have hc0 := (Chg.refl No w).alloc (.cells #[.int .i64 id, vr, vw] 33)
  have ho := alloc_obj w (.cells #[.int .i64 id, vr, vw] 33)
  cases b1
  · go_enter Try.func19, Try.ntmps19
    go_wp2_with (first | (with_reducible refine stop_append ?_) | (with_reducible refine stop_copy ?_) | (with_reducible refine stop_make ?_) | (with_reducible refine stop_lookup ?_) | (with_reducible refine stop_update ?_) | (with_reducible refine stop_slice ?_) | (with_reducible refine stop_range ?_) | (with_reducible refine stop_next ?_) | (with_reducible refine stop_convert ⟨_, rfl⟩ ?_) | (with_reducible refine stop_convertB ⟨_, _, _, rfl⟩ ?_) | (with_reducible refine stop_eqSlice ⟨_, _, rfl⟩ ?_))
    refine (H1.out _).mono ?_
    rintro e w1 ⟨rfl, rfl⟩
    go_wp2_with (first | (with_reducible refine stop_append ?_) | (with_reducible refine stop_copy ?_) | (with_reducible refine stop_make ?_) | (with_reducible refine stop_lookup ?_) | (with_reducible refine stop_update ?_) | (with_reducible refine stop_slice ?_) | (with_reducible refine stop_range ?_) | (with_reducible refine stop_next ?_) | (with_reducible refine stop_convert ⟨_, rfl⟩ ?_) | (with_reducible refine stop_convertB ⟨_, _, _, rfl⟩ ?_) | (with_reducible refine stop_eqSlice ⟨_, _, rfl⟩ ?_))
    go_ret
    exact ⟨rfl, hc0⟩
  cases b2
  · go_enter Try.func19, Try.ntmps19
    go_wp2_with (first | (with_reducible refine stop_append ?_) | (with_reducible refine stop_copy ?_) | (with_reducible refine stop_make ?_) | (with_reducible refine stop_lookup ?_) | (with_reducible refine stop_update ?_) | (with_reducible refine stop_slice ?_) | (with_reducible refine stop_range ?_) | (with_reducible refine stop_next ?_) | (with_reducible refine stop_convert ⟨_, rfl⟩ ?_) | (with_reducible refine stop_convertB ⟨_, _, _, rfl⟩ ?_) | (with_reducible refine stop_eqSlice ⟨_, _, rfl⟩ ?_))
    refine (H1.out _).mono ?_
    rintro e w1 ⟨rfl, rfl⟩
    go_wp2_with (first | (with_reducible refine stop_append ?_) | (with_reducible refine stop_copy ?_) | (with_reducible refine stop_make ?_) | (with_reducible refine stop_lookup ?_) | (with_reducible refine stop_update ?_) | (with_reducible refine stop_slice ?_) | (with_reducible refine stop_range ?_) | (with_reducible refine stop_next ?_) | (with_reducible refine stop_convert ⟨_, rfl⟩ ?_) | (with_reducible refine stop_convertB ⟨_, _, _, rfl⟩ ?_) | (with_reducible refine stop_eqSlice ⟨_, _, rfl⟩ ?_))
    refine (H2.out _ hc0).mono ?_
    rintro e w1 ⟨rfl, hc1⟩
    go_wp2_with (first | (with_reducible refine stop_append ?_) | (with_reducible refine stop_copy ?_) | (with_reducible refine stop_make ?_) | (with_reducible refine stop_lookup ?_) | (with_reducible refine stop_update ?_) | (with_reducible refine stop_slice ?_) | (with_reducible refine stop_range ?_) | (with_reducible refine stop_next ?_) | (with_reducible refine stop_convert ⟨_, rfl⟩ ?_) | (with_reducible refine stop_convertB ⟨_, _, _, rfl⟩ ?_) | (with_reducible refine stop_eqSlice ⟨_, _, rfl⟩ ?_))
    go_ret
    exact ⟨rfl, hc0.trans hc1⟩
  cases b3
  · go_enter Try.func19, Try.ntmps19
    go_wp2_with (first | (with_reducible refine stop_append ?_) | (with_reducible refine stop_copy ?_) | (with_reducible refine stop_make ?_) | (with_reducible refine stop_lookup ?_) | (with_reducible refine stop_update ?_) | (with_reducible refine stop_slice ?_) | (with_reducible refine stop_range ?_) | (with_reducible refine stop_next ?_) | (with_reducible refine stop_convert ⟨_, rfl⟩ ?_) | (with_reducible refine stop_convertB ⟨_, _, _, rfl⟩ ?_) | (with_reducible refine stop_eqSlice ⟨_, _, rfl⟩ ?_))
    refine (H1.out _).mono ?_
    rintro e w1 ⟨rfl, rfl⟩
    go_wp2_with (first | (with_reducible refine stop_append ?_) | (with_reducible refine stop_copy ?_) | (with_reducible refine stop_make ?_) | (with_reducible refine stop_lookup ?_) | (with_reducible refine stop_update ?_) | (with_reducible refine stop_slice ?_) | (with_reducible refine stop_range ?_) | (with_reducible refine stop_next ?_) | (with_reducible refine stop_convert ⟨_, rfl⟩ ?_) | (with_reducible refine stop_convertB ⟨_, _, _, rfl⟩ ?_) | (with_reducible refine stop_eqSlice ⟨_, _, rfl⟩ ?_))
    refine (H2.out _ hc0).mono ?_
    rintro e w1 ⟨rfl, hc1⟩
    have hq2 := cell_obj (i := 2) (hc1.obj ho (not_no _)) rfl
    have hc01 := hc0.trans hc1
    go_wp2_with (first | (with_reducible refine stop_append ?_) | (with_reducible refine stop_copy ?_) | (with_reducible refine stop_make ?_) | (with_reducible refine stop_lookup ?_) | (with_reducible refine stop_update ?_) | (with_reducible refine stop_slice ?_) | (with_reducible refine stop_range ?_) | (with_reducible refine stop_next ?_) | (with_reducible refine stop_convert ⟨_, rfl⟩ ?_) | (with_reducible refine stop_convertB ⟨_, _, _, rfl⟩ ?_) | (with_reducible refine stop_eqSlice ⟨_, _, rfl⟩ ?_))
    refine (H3.out _ hc01).mono ?_
    rintro e w2 ⟨rfl, hc2⟩
    go_wp2_with (first | (with_reducible refine stop_append ?_) | (with_reducible refine stop_copy ?_) | (with_reducible refine stop_make ?_) | (with_reducible refine stop_lookup ?_) | (with_reducible refine stop_update ?_) | (with_reducible refine stop_slice ?_) | (with_reducible refine stop_range ?_) | (with_reducible refine stop_next ?_) | (with_reducible refine stop_convert ⟨_, rfl⟩ ?_) | (with_reducible refine stop_convertB ⟨_, _, _, rfl⟩ ?_) | (with_reducible refine stop_eqSlice ⟨_, _, rfl⟩ ?_))
    go_ret
    exact ⟨rfl, hc01.trans hc2⟩
  cases b4
  all_goals
    go_enter Try.func19, Try.ntmps19
    go_wp2_with (first | (with_reducible refine stop_append ?_) | (with_reducible refine stop_copy ?_) | (with_reducible refine stop_make ?_) | (with_reducible refine stop_lookup ?_) | (with_reducible refine stop_update ?_) | (with_reducible refine stop_slice ?_) | (with_reducible refine stop_range ?_) | (with_reducible refine stop_next ?_) | (with_reducible refine stop_convert ⟨_, rfl⟩ ?_) | (with_reducible refine stop_convertB ⟨_, _, _, rfl⟩ ?_) | (with_reducible refine stop_eqSlice ⟨_, _, rfl⟩ ?_))
    refine (H1.out _).mono ?_
    rintro e w1 ⟨rfl, rfl⟩
    go_wp2_with (first | (with_reducible refine stop_append ?_) | (with_reducible refine stop_copy ?_) | (with_reducible refine stop_make ?_) | (with_reducible refine stop_lookup ?_) | (with_reducible refine stop_update ?_) | (with_reducible refine stop_slice ?_) | (with_reducible refine stop_range ?_) | (with_reducible refine stop_next ?_) | (with_reducible refine stop_convert ⟨_, rfl⟩ ?_) | (with_reducible refine stop_convertB ⟨_, _, _, rfl⟩ ?_) | (with_reducible refine stop_eqSlice ⟨_, _, rfl⟩ ?_))
    refine (H2.out _ hc0).mono ?_
    rintro e w1 ⟨rfl, hc1⟩
    have hq2 := cell_obj (i := 2) (hc1.obj ho (not_no _)) rfl
    have hc01 := hc0.trans hc1
    go_wp2_with (first | (with_reducible refine stop_append ?_) | (with_reducible refine stop_copy ?_) | (with_reducible refine stop_make ?_) | (with_reducible refine stop_lookup ?_) | (with_reducible refine stop_update ?_) | (with_reducible refine stop_slice ?_) | (with_reducible refine stop_range ?_) | (with_reducible refine stop_next ?_) | (with_reducible refine stop_convert ⟨_, rfl⟩ ?_) | (with_reducible refine stop_convertB ⟨_, _, _, rfl⟩ ?_) | (with_reducible refine stop_eqSlice ⟨_, _, rfl⟩ ?_))
    refine (H3.out _ hc01).mono ?_
    rintro e w2 ⟨rfl, hc2⟩
    have hq1 := cell_obj (i := 1) (hc2.obj (hc1.obj ho (not_no _)) (not_no _)) rfl
    have hc02 := hc01.trans hc2
    go_wp2_with (first | (with_reducible refine stop_append ?_) | (with_reducible refine stop_copy ?_) | (with_reducible refine stop_make ?_) | (with_reducible refine stop_lookup ?_) | (with_reducible refine stop_update ?_) | (with_reducible refine stop_slice ?_) | (with_reducible refine stop_range ?_) | (with_reducible refine stop_next ?_) | (with_reducible refine stop_convert ⟨_, rfl⟩ ?_) | (with_reducible refine stop_convertB ⟨_, _, _, rfl⟩ ?_) | (with_reducible refine stop_eqSlice ⟨_, _, rfl⟩ ?_))
    refine (H4.out _ hc02).mono ?_
    rintro e w3 ⟨rfl, hc3⟩
    have hq3 := cell_obj (i := 2) (hc3.obj (hc2.obj (hc1.obj ho (not_no _)) (not_no _)) (not_no _)) rfl
    have hc03 := hc02.trans hc3
    go_wp2_with (first | (with_reducible refine stop_append ?_) | (with_reducible refine stop_copy ?_) | (with_reducible refine stop_make ?_) | (with_reducible refine stop_lookup ?_) | (with_reducible refine stop_update ?_) | (with_reducible refine stop_slice ?_) | (with_reducible refine stop_range ?_) | (with_reducible refine stop_next ?_) | (with_reducible refine stop_convert ⟨_, rfl⟩ ?_) | (with_reducible refine stop_convertB ⟨_, _, _, rfl⟩ ?_) | (with_reducible refine stop_eqSlice ⟨_, _, rfl⟩ ?_))
    try
      refine (H5.out _ hc03).mono ?_
      rintro e w4 ⟨rfl, hc4⟩
      go_wp2_with (first | (with_reducible refine stop_append ?_) | (with_reducible refine stop_copy ?_) | (with_reducible refine stop_make ?_) | (with_reducible refine stop_lookup ?_) | (with_reducible refine stop_update ?_) | (with_reducible refine stop_slice ?_) | (with_reducible refine stop_range ?_) | (with_reducible refine stop_next ?_) | (with_reducible refine stop_convert ⟨_, rfl⟩ ?_) | (with_reducible refine stop_convertB ⟨_, _, _, rfl⟩ ?_) | (with_reducible refine stop_eqSlice ⟨_, _, rfl⟩ ?_))
    go_ret
    first | exact ⟨by cases b5 <;> rfl, hc03.trans hc4⟩ | exact ⟨rfl, hc03⟩
end Go.Proofs.Ytnioljagmimojaa
