/- Walks of the statements' own helpers: alive. -/
import Derived.Test.YtnioljagmimojaaRefY
import Derived.Test.YtnioljagmimojaaObjG
set_option linter.unusedVariables false
set_option linter.unusedSimpArgs false
namespace Go.Proofs.Ytnioljagmimojaa
open Go.RowKit Cb

def ta : Tx := (1, [(5, 0)], [(5, ⟨#[97]⟩)])
def tb : Tx := (2, [(5, 0)], [(5, ⟨#[98]⟩)])
def encB (t : Tx) : ByteArray := ⟨(encTx t.1 t.2.1 t.2.2).toArray⟩
theorem encB_parse {t : Tx} (h : rightB t.1 t.2.1 t.2.2 = true) : parseR (encB t).data.toList = some t := parse_enc h
theorem ra : rightB ta.1 ta.2.1 ta.2.2 = true := by decide +kernel
theorem rb : rightB tb.1 tb.2.1 tb.2.2 = true := by decide +kernel
theorem encB_size {t : Tx} (h : rightB t.1 t.2.1 t.2.2 = true) : (encB t).size ≤ 1000000 := by
  obtain ⟨h1, h2, h3, h4, h5⟩ := rightB_iff h
  have a1 := encs_len [t.1, (t.2.1.length : Int)] (by simp; omega)
  have a2 := encs_len [(t.2.2.length : Int)] (by simp; omega)
  have b1 := flatten_le encR t.2.1 18 (fun x hx => encR_len x (by have := h2 x hx; omega) (by have := h2 x hx; omega))
  have b2 : ((t.2.2.map encW).flatten).length ≤ 60000 * t.2.2.length := flatten_le encW t.2.2 60000 (fun x hx => by
    have h3 := encs_len [x.1] (by have := h4 x hx; simp; omega)
    have h4' := encNat_len9 x.2.size (by have := h4 x hx; omega)
    have h5 : x.2.data.toList.length = x.2.size := by rw [Array.length_toList]; rfl
    have := h4 x hx
    simp only [encW, encText, List.length_append, List.length_cons, List.length_nil] at h3 ⊢; omega)
  show (encTx t.1 t.2.1 t.2.2).toArray.size ≤ _
  simp only [encTx, List.size_toArray, List.length_append, List.length_cons, List.length_nil] at a1 a2 ⊢
  omega
/-- Data of one read and one write that stand in new rows. -/
theorem data_at (t : Tx) (h : rightB t.1 t.2.1 t.2.2 = true) (vr vw : Value) (w : World) (hr : Sl No w vr t.2.1) (hw : Sl No w vw t.2.2) :
    Calls Try.prog 12 #[.agg #[.int .i64 t.1, vr, vw]] w fun e w' => e = .returned (.tuple #[.string (encB t), .int .i64 0]) ∧ Chg No w w' := data_yes No t.1 vr vw t.2.1 t.2.2 w hr hw h
def s0 : Store := ⟨[], [], 0⟩
def s1 : Store := ⟨[(5, (⟨#[97]⟩, 1))], [(1, true)], 1⟩
def s2 : Store := ⟨[(5, (⟨#[97]⟩, 1))], [(1, true), (2, false)], 1⟩
theorem add1 : addS s0 ta = (s1, true) := by kernel_rfl
theorem add2 : addS s1 tb = (s2, true) := by kernel_rfl
theorem add3 : addS s2 ta = (s2, false) := by kernel_rfl
theorem bd0 : BdS 1000000000 s0 := ⟨fun f => by simp [verS, s0, mget], by decide, by decide⟩
theorem bd1 : BdS 1000000000 s1 := ⟨fun f => by simp only [verS, s1, mget, List.find?_cons, List.find?_nil]; by_cases h : (5 : Int) = f <;> simp [h], by decide, by decide⟩
theorem bd2 : BdS 1000000000 s2 := ⟨bd1.1, by decide, by decide⟩
theorem s2_val : valS s2 5 = ⟨#[97]⟩ := by kernel_rfl
theorem s2_ver : verS s2 5 = 1 := by kernel_rfl
theorem rows2 (w : World) (v : ByteArray) : Sl No ((w.alloc (.cells #[.int .i64 5, .int .i64 0] 77)).alloc (.cells #[.int .i64 5, .string v] 63)) (.slice (some ⟨w.heap.size, 0, none⟩) 1 1) [((5 : Int), (0 : Int))] ∧
    Sl No ((w.alloc (.cells #[.int .i64 5, .int .i64 0] 77)).alloc (.cells #[.int .i64 5, .string v] 63)) (.slice (some ⟨w.heap.size + 1, 0, none⟩) 1 1) [((5 : Int), v)] ∧
    Chg No w ((w.alloc (.cells #[.int .i64 5, .int .i64 0] 77)).alloc (.cells #[.int .i64 5, .string v] 63)) := by
  have e1 : (w.alloc (.cells #[.int .i64 5, .int .i64 0] 77)).heap.size = w.heap.size + 1 := by simp
  have a := Sl.lit1 (F := No) (w := w) (T := 77) (y := ((5 : Int), (0 : Int))) (C := #[.int .i64 5, .int .i64 0]) rfl ⟨[.int .i64 5], [.int .i64 0], rfl, rfl, rfl⟩ (not_no _)
  have b := Sl.lit1 (F := No) (w := w.alloc (.cells #[.int .i64 5, .int .i64 0] 77)) (T := 63) (y := ((5 : Int), v)) (C := #[.int .i64 5, .string v]) rfl ⟨[.int .i64 5], [.string v], rfl, rfl, rfl⟩ (not_no _)
  rw [e1] at b
  exact ⟨a.keepNo ((Chg.refl No _).alloc _), b, ((Chg.refl No w).alloc _).alloc _⟩
set_option maxRecDepth 100000 in
set_option maxHeartbeats 1000000 in
theorem alive_any (w : World) : Calls Try.prog 11 #[] w fun e w' => e = .returned (.bool true) ∧ Chg No w w' := by
  obtain ⟨sa, hsa⟩ : ∃ s, s = encB ta := ⟨_, rfl⟩
  obtain ⟨sb, hsb⟩ : ∃ s, s = encB tb := ⟨_, rfl⟩
  have da := data_at ta ra
  have db := data_at tb rb
  have pa := encB_parse ra
  have pb := encB_parse rb
  have za := encB_size ra
  have zb := encB_size rb
  rw [← hsa] at da pa za
  rw [← hsb] at db pb zb
  have Da := Lib.hid da; have Db := Lib.hid db; have Pa := Lib.hid pa; have Pb := Lib.hid pb
  clear hsa hsb da db pa pb
  go_enter Try.func11, Try.ntmps11
  go_wp2_with (first | (with_reducible refine stop_append ?_) | (with_reducible refine stop_copy ?_) | (with_reducible refine stop_make ?_) | (with_reducible refine stop_lookup ?_) | (with_reducible refine stop_update ?_) | (with_reducible refine stop_slice ?_) | (with_reducible refine stop_range ?_) | (with_reducible refine stop_next ?_) | (with_reducible refine stop_convert ⟨_, rfl⟩ ?_) | (with_reducible refine stop_convertB ⟨_, _, _, rfl⟩ ?_) | (with_reducible refine stop_eqSlice ⟨_, _, rfl⟩ ?_))
  refine (new_any _).mono ?_
  rintro e w1 ⟨p, rc, ri, rfl, h1, hc1, hge⟩
  have H1 := Lib.hid h1; clear h1
  go_wp2_with (first | (with_reducible refine stop_append ?_) | (with_reducible refine stop_copy ?_) | (with_reducible refine stop_make ?_) | (with_reducible refine stop_lookup ?_) | (with_reducible refine stop_update ?_) | (with_reducible refine stop_slice ?_) | (with_reducible refine stop_range ?_) | (with_reducible refine stop_next ?_) | (with_reducible refine stop_convert ⟨_, rfl⟩ ?_) | (with_reducible refine stop_convertB ⟨_, _, _, rfl⟩ ?_) | (with_reducible refine stop_eqSlice ⟨_, _, rfl⟩ ?_))
  obtain ⟨ra1, wa1, hc2⟩ := rows2 w1 ⟨#[97]⟩
  refine (Da.out _ _ _ ra1 wa1).mono ?_
  rintro e w3 ⟨rfl, hc3⟩
  have hc13 := hc2.trans hc3
  clear ra1 wa1 hc2 hc3
  go_wp2_with (first | (with_reducible refine stop_append ?_) | (with_reducible refine stop_copy ?_) | (with_reducible refine stop_make ?_) | (with_reducible refine stop_lookup ?_) | (with_reducible refine stop_update ?_) | (with_reducible refine stop_slice ?_) | (with_reducible refine stop_range ?_) | (with_reducible refine stop_next ?_) | (with_reducible refine stop_convert ⟨_, rfl⟩ ?_) | (with_reducible refine stop_convertB ⟨_, _, _, rfl⟩ ?_) | (with_reducible refine stop_eqSlice ⟨_, _, rfl⟩ ?_))
  obtain ⟨rb1, wb1, hc4⟩ := rows2 w3 ⟨#[98]⟩
  refine (Db.out _ _ _ rb1 wb1).mono ?_
  rintro e w5 ⟨rfl, hc5⟩
  have h5 : Sto w5 p rc ri s0 := (H1.out.keepNo hc13).keepNo (hc4.trans hc5)
  have hc05 := (hc1.trans hc13).trans (hc4.trans hc5)
  clear rb1 wb1 hc4 hc5 hc13 H1 hc1
  go_wp2_with (first | (with_reducible refine stop_append ?_) | (with_reducible refine stop_copy ?_) | (with_reducible refine stop_make ?_) | (with_reducible refine stop_lookup ?_) | (with_reducible refine stop_update ?_) | (with_reducible refine stop_slice ?_) | (with_reducible refine stop_range ?_) | (with_reducible refine stop_next ?_) | (with_reducible refine stop_convert ⟨_, rfl⟩ ?_) | (with_reducible refine stop_convertB ⟨_, _, _, rfl⟩ ?_) | (with_reducible refine stop_eqSlice ⟨_, _, rfl⟩ ?_))
  refine (add_some p rc ri s0 sa ta _ h5 za Pa.out bd0).mono ?_
  rintro e w6 ⟨rfl, h6, hc6⟩
  rw [add1] at h6
  simp only [add1] at *
  clear h5
  have hc06 := hc05.old hc6 hge
  go_wp2_with (first | (with_reducible refine stop_append ?_) | (with_reducible refine stop_copy ?_) | (with_reducible refine stop_make ?_) | (with_reducible refine stop_lookup ?_) | (with_reducible refine stop_update ?_) | (with_reducible refine stop_slice ?_) | (with_reducible refine stop_range ?_) | (with_reducible refine stop_next ?_) | (with_reducible refine stop_convert ⟨_, rfl⟩ ?_) | (with_reducible refine stop_convertB ⟨_, _, _, rfl⟩ ?_) | (with_reducible refine stop_eqSlice ⟨_, _, rfl⟩ ?_))
  refine (add_some p rc ri s1 sb tb _ h6 zb Pb.out bd1).mono ?_
  rintro e w7 ⟨rfl, h7, hc7⟩
  rw [add2] at h7
  simp only [add2] at *
  clear h6
  have hc07 := hc06.old hc7 hge
  go_wp2_with (first | (with_reducible refine stop_append ?_) | (with_reducible refine stop_copy ?_) | (with_reducible refine stop_make ?_) | (with_reducible refine stop_lookup ?_) | (with_reducible refine stop_update ?_) | (with_reducible refine stop_slice ?_) | (with_reducible refine stop_range ?_) | (with_reducible refine stop_next ?_) | (with_reducible refine stop_convert ⟨_, rfl⟩ ?_) | (with_reducible refine stop_convertB ⟨_, _, _, rfl⟩ ?_) | (with_reducible refine stop_eqSlice ⟨_, _, rfl⟩ ?_))
  refine (add_some p rc ri s2 sa ta _ h7 za Pa.out bd2).mono ?_
  rintro e w8 ⟨rfl, h8, hc8⟩
  rw [add3] at h8
  simp only [add3] at *
  clear h7
  have hc08 := hc07.old hc8 hge
  clear hc05 hc06 hc07 hc6 hc7 hc8
  have H8 := Lib.hid h8; clear h8
  go_wp2_with (first | (with_reducible refine stop_append ?_) | (with_reducible refine stop_copy ?_) | (with_reducible refine stop_make ?_) | (with_reducible refine stop_lookup ?_) | (with_reducible refine stop_update ?_) | (with_reducible refine stop_slice ?_) | (with_reducible refine stop_range ?_) | (with_reducible refine stop_next ?_) | (with_reducible refine stop_convert ⟨_, rfl⟩ ?_) | (with_reducible refine stop_convertB ⟨_, _, _, rfl⟩ ?_) | (with_reducible refine stop_eqSlice ⟨_, _, rfl⟩ ?_))
  refine (get_any p rc ri s2 5 _ H8.out).mono ?_
  rintro e w9 ⟨rfl, hc9⟩
  rw [s2_val, s2_ver]
  have H9 := Lib.hid (H8.out.keepNo hc9)
  have hc09 := hc08.trans hc9
  clear hc08 hc9 H8
  go_wp2_with (first | (with_reducible refine stop_append ?_) | (with_reducible refine stop_copy ?_) | (with_reducible refine stop_make ?_) | (with_reducible refine stop_lookup ?_) | (with_reducible refine stop_update ?_) | (with_reducible refine stop_slice ?_) | (with_reducible refine stop_range ?_) | (with_reducible refine stop_next ?_) | (with_reducible refine stop_convert ⟨_, rfl⟩ ?_) | (with_reducible refine stop_convertB ⟨_, _, _, rfl⟩ ?_) | (with_reducible refine stop_eqSlice ⟨_, _, rfl⟩ ?_))
  refine (outcome_any p rc ri s2 1 _ H9.out).mono ?_
  rintro e w10 ⟨rfl, rfl⟩
  rw [show (mget s2.ids 1).getD false = true from rfl, show (mget s2.ids 1).isSome = true from rfl]
  go_wp2_with (first | (with_reducible refine stop_append ?_) | (with_reducible refine stop_copy ?_) | (with_reducible refine stop_make ?_) | (with_reducible refine stop_lookup ?_) | (with_reducible refine stop_update ?_) | (with_reducible refine stop_slice ?_) | (with_reducible refine stop_range ?_) | (with_reducible refine stop_next ?_) | (with_reducible refine stop_convert ⟨_, rfl⟩ ?_) | (with_reducible refine stop_convertB ⟨_, _, _, rfl⟩ ?_) | (with_reducible refine stop_eqSlice ⟨_, _, rfl⟩ ?_))
  refine (outcome_any p rc ri s2 2 _ H9.out).mono ?_
  rintro e w10 ⟨rfl, rfl⟩
  rw [show (mget s2.ids 2).getD false = false from rfl, show (mget s2.ids 2).isSome = true from rfl]
  go_wp2_with (first | (with_reducible refine stop_append ?_) | (with_reducible refine stop_copy ?_) | (with_reducible refine stop_make ?_) | (with_reducible refine stop_lookup ?_) | (with_reducible refine stop_update ?_) | (with_reducible refine stop_slice ?_) | (with_reducible refine stop_range ?_) | (with_reducible refine stop_next ?_) | (with_reducible refine stop_convert ⟨_, rfl⟩ ?_) | (with_reducible refine stop_convertB ⟨_, _, _, rfl⟩ ?_) | (with_reducible refine stop_eqSlice ⟨_, _, rfl⟩ ?_))
  refine (done_any p rc ri s2 _ H9.out).mono ?_
  rintro e w10 ⟨rfl, rfl⟩
  rw [show s2.n = 1 from rfl]
  go_wp2_with (first | (with_reducible refine stop_append ?_) | (with_reducible refine stop_copy ?_) | (with_reducible refine stop_make ?_) | (with_reducible refine stop_lookup ?_) | (with_reducible refine stop_update ?_) | (with_reducible refine stop_slice ?_) | (with_reducible refine stop_range ?_) | (with_reducible refine stop_next ?_) | (with_reducible refine stop_convert ⟨_, rfl⟩ ?_) | (with_reducible refine stop_convertB ⟨_, _, _, rfl⟩ ?_) | (with_reducible refine stop_eqSlice ⟨_, _, rfl⟩ ?_))
  go_ret
  exact ⟨rfl, hc09⟩
end Go.Proofs.Ytnioljagmimojaa
