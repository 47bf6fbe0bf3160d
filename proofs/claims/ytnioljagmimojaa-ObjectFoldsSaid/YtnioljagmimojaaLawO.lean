/- Walks of the statements' own helpers: own, plain. -/
import Derived.Test.YtnioljagmimojaaRefP
set_option linter.unusedVariables false
set_option linter.unusedSimpArgs false
namespace Go.Proofs.Ytnioljagmimojaa
open Go.RowKit Cb

structure TS (w : World) (q1 q2 q3 : Nat) (T1 T2 : TypeId) (C1 : Array Value) (wr : World) (id : Int) (v1 v2 : Value) : Prop where
  o1 : wr.heap[q1]? = some (.cells C1 T1 (0, 0))
  o2 : wr.heap[q2]? = some (.cells #[.int .i64 0, .slice none 0 0, .slice none 0 0] T2 (0, 0))
  o3 : wr.heap[q3]? = some (.cells #[.int .i64 id, v1, v2] T2 (0, 0))
  chg : Chg No w wr
section
variable {w wr w' : World} {q1 q2 q3 : Nat} {T1 T2 : TypeId} {C1 : Array Value} {id : Int} {v1 v2 : Value}
theorem TS.keep (h : TS w q1 q2 q3 T1 T2 C1 wr id v1 v2) (hc : Chg No wr w') : TS w q1 q2 q3 T1 T2 C1 w' id v1 v2 :=
  ⟨hc.obj h.o1 (not_no _), hc.obj h.o2 (not_no _), hc.obj h.o3 (not_no _), h.chg.trans hc⟩
theorem TS.keepF {F : Nat → Prop} (h : TS w q1 q2 q3 T1 T2 C1 wr id v1 v2) (hc : Chg F wr w') (n1 : ¬ F q1) (n2 : ¬ F q2) (n3 : ¬ F q3) (hF : ∀ i, F i → w.heap.size ≤ i) : TS w q1 q2 q3 T1 T2 C1 w' id v1 v2 :=
  ⟨hc.obj h.o1 n1, hc.obj h.o2 n2, hc.obj h.o3 n3, h.chg.old hc hF⟩
theorem TS.f1 (d : QD w q1 q2 q3) (h : TS w q1 q2 q3 T1 T2 C1 wr id v1 v2) (v : Value) : TS w q1 q2 q3 T1 T2 C1 (wr.setCell ⟨q3, 1, none⟩ v) id v v2 :=
  ⟨obj_set_other h.o1 d.n26, obj_set_other h.o2 d.n46, obj_set h.o3 rfl, h.chg.old (chg_set _) (fun i hi => by have := d.g6; simp [At] at hi; omega)⟩
theorem TS.f2 (d : QD w q1 q2 q3) (h : TS w q1 q2 q3 T1 T2 C1 wr id v1 v2) (v : Value) : TS w q1 q2 q3 T1 T2 C1 (wr.setCell ⟨q3, 2, none⟩ v) id v1 v :=
  ⟨obj_set_other h.o1 d.n26, obj_set_other h.o2 d.n46, obj_set h.o3 rfl, h.chg.old (chg_set _) (fun i hi => by have := d.g6; simp [At] at hi; omega)⟩
theorem TS.facts (h : TS w q1 q2 q3 T1 T2 C1 wr id v1 v2) : wr.cell? ⟨q3, 0, none⟩ = some (.int .i64 id) ∧ wr.cell? ⟨q3, 1, none⟩ = some v1 ∧ wr.cell? ⟨q3, 2, none⟩ = some v2 ∧ wr.frozen? ⟨q3, 0, none⟩ = false ∧ wr.frozen? ⟨q3, 1, none⟩ = false ∧ wr.frozen? ⟨q3, 2, none⟩ = false :=
  ⟨cell_obj h.o3 rfl, cell_obj h.o3 rfl, cell_obj h.o3 rfl, free_obj h.o3, free_obj h.o3, free_obj h.o3⟩
theorem TS.facts2 (h : TS w q1 q2 q3 T1 T2 C1 wr id v1 v2) : wr.cell? ⟨q2, 0, none⟩ = some (.int .i64 0) ∧ wr.cell? ⟨q2, 1, none⟩ = some (.slice none 0 0) ∧ wr.cell? ⟨q2, 2, none⟩ = some (.slice none 0 0) ∧ wr.frozen? ⟨q2, 0, none⟩ = false ∧ wr.frozen? ⟨q2, 1, none⟩ = false ∧ wr.frozen? ⟨q2, 2, none⟩ = false :=
  ⟨cell_obj h.o2 rfl, cell_obj h.o2 rfl, cell_obj h.o2 rfl, free_obj h.o2, free_obj h.o2, free_obj h.o2⟩
end
def CopyPost (id : Int) (rs : List (Int × Int)) (ws : List (Int × ByteArray)) (w : World) (e : Ending) (w' : World) : Prop :=
  ∃ v1 v2, e = .returned (.agg #[.int .i64 id, v1, v2]) ∧ Chg No w w' ∧ Sl (Lt w.heap.size) w' v1 rs ∧ Sl (Lt w.heap.size) w' v2 ws
set_option maxRecDepth 100000 in
set_option maxHeartbeats 1000000 in
theorem own_any (F : Nat → Prop) (id : Int) (vr vw : Value) (rs : List (Int × Int)) (ws : List (Int × ByteArray)) (w : World) (hr : Sl F w vr rs) (hw : Sl F w vw ws) (hrl : rs.length ≤ 1000) (hwl : ws.length ≤ 1000) :
    Calls Try.prog 13 #[.agg #[.int .i64 id, vr, vw]] w (CopyPost id rs ws w) := by
  obtain ⟨AR, cR, rfl⟩ := hr.slice
  obtain ⟨AW, cW, rfl⟩ := hw.slice
  go_enter Try.func13, Try.ntmps13
  obtain ⟨o1, o2, o3, hc0⟩ := alloc3 w (.cells #[.int .i64 id, .slice AR rs.length cR, .slice AW ws.length cW] 25) (.cells #[.int .i64 0, .slice none 0 0, .slice none 0 0] 33) (.cells #[.int .i64 id, .slice none 0 0, .slice none 0 0] 33)
  go_wp2_with (first | (with_reducible refine stop_append ?_) | (with_reducible refine stop_copy ?_) | (with_reducible refine stop_make ?_) | (with_reducible refine stop_lookup ?_) | (with_reducible refine stop_update ?_) | (with_reducible refine stop_slice ?_) | (with_reducible refine stop_range ?_) | (with_reducible refine stop_next ?_) | (with_reducible refine stop_convert ⟨_, rfl⟩ ?_) | (with_reducible refine stop_convertB ⟨_, _, _, rfl⟩ ?_) | (with_reducible refine stop_eqSlice ⟨_, _, rfl⟩ ?_))
  obtain ⟨q1, hq1⟩ : ∃ q, q = w.heap.size := ⟨_, rfl⟩
  obtain ⟨q2, hq2⟩ : ∃ q, q = w.heap.size + 1 := ⟨_, rfl⟩
  obtain ⟨q3, hq3⟩ : ∃ q, q = w.heap.size + 1 + 1 := ⟨_, rfl⟩
  generalize (((w.alloc (.cells #[.int .i64 id, .slice AR rs.length cR, .slice AW ws.length cW] 25)).alloc (.cells #[.int .i64 0, .slice none 0 0, .slice none 0 0] 33)).alloc (.cells #[.int .i64 id, .slice none 0 0, .slice none 0 0] 33)) = w0 at *
  rw [← hq3] at o3
  rw [← hq2] at o2
  rw [← hq1] at o1
  rw [← hq3, ← hq2, ← hq1]
  have d : QD w q1 q2 q3 := ⟨by omega, by omega, by omega, by omega, by omega, by omega, by omega, by omega, by omega⟩
  clear hq1 hq2 hq3
  have ts0 : TS w q1 q2 q3 25 33 #[.int .i64 id, .slice AR rs.length cR, .slice AW ws.length cW] w0 id (.slice none 0 0) (.slice none 0 0) := ⟨o1, o2, o3, hc0⟩
  clear o1 o2 o3 hc0
  have hq1 := lt_of_heap ts0.o1; have hq2 := lt_of_heap ts0.o2; have hq3 := lt_of_heap ts0.o3
  have hge := d.g2
  have Hr := Lib.hid hr; have Hw := Lib.hid hw
  clear hr hw
  go_loopw [14] (fun v14 wr => ∃ (k : Nat) (v : Value), k ≤ rs.length ∧ v14 = .int .i64 k ∧ TS w q1 q2 q3 25 33 #[.int .i64 id, .slice AR rs.length cR, .slice AW ws.length cW] wr id v (.slice none 0 0) ∧
      Own No wr w0.heap.size 77 v (rs.take k) ∧ w0.heap.size ≤ wr.heap.size) (fun v14 _ => rs.length - (intOf v14).toNat)
  case atStart => exact ⟨0, _, by omega, rfl, ts0, by simpa using Own.nil _ _ _ _, Nat.le_refl _⟩
  case round =>
    obtain ⟨k, v, hk, rfl, ts, hown, hsz⟩ := hrel
    clear ts0
    by_cases hlt : k < rs.length
    · obtain ⟨b, o, dd, rfl, _, hbl, ⟨d1, d2, rfl, rfl, rfl⟩, ha⟩ := (Hr.out.keepNo ts.chg).get k hlt
      have ha0 := ha 0 _ rfl
      have ha1 := ha 1 _ rfl
      simp only [show Rep.n (Int × Int) = 2 from rfl, Nat.add_zero] at ha0 ha1
      have hsn : rs.take (k + 1) = rs.take k ++ [rs[k]] := List.take_succ_eq_append_getElem hlt
      have Hsn := Lib.hid hsn
      clear ha hsn
      generalize rs[k] = x at ha0 ha1 Hsn
      obtain ⟨f, g⟩ := x
      simp only at ha0 ha1
      have ts5 := ts.keep ((Chg.refl No wr).alloc (.cells #[.int .i64 f, .int .i64 g] 52))
      have own5 := hown.alloc (.cells #[.int .i64 f, .int .i64 g] 52)
      have hs5 : (wr.alloc (.cells #[.int .i64 f, .int .i64 g] 52)).heap.size = wr.heap.size + 1 := by simp
      obtain ⟨c0, c1, c2, f0, f1, f2⟩ := ts.facts
      obtain ⟨e0, e1, e2, g0, g1, g2⟩ := ts5.facts
      have hne : q3 ≠ wr.heap.size := by omega
      have Ts5 := Lib.hid ts5; have Own5 := Lib.hid own5
      have htl : (rs.take k).length = k := by rw [List.length_take]; omega
      clear ts ts5 own5
      go_wp2_with (first | (with_reducible refine stop_append ?_) | (with_reducible refine stop_copy ?_) | (with_reducible refine stop_make ?_) | (with_reducible refine stop_lookup ?_) | (with_reducible refine stop_update ?_) | (with_reducible refine stop_slice ?_) | (with_reducible refine stop_range ?_) | (with_reducible refine stop_next ?_) | (with_reducible refine stop_convert ⟨_, rfl⟩ ?_) | (with_reducible refine stop_convertB ⟨_, _, _, rfl⟩ ?_) | (with_reducible refine stop_eqSlice ⟨_, _, rfl⟩ ?_))
      generalize wr.alloc (.cells #[.int .i64 f, .int .i64 g] 52) = w5 at *
      rw [← hs5]
      refine step_append_flat (α := Int × Int) (ys := [(f, g)]) Try.underlying30 info_read rfl (Own5.out.alloc (.cells #[.int .i64 f, .int .i64 g] 77)) rfl rfl (Sl.lit1 (F := No) (y := (f, g)) rfl ⟨[.int .i64 f], [.int .i64 g], rfl, rfl, rfl⟩ (not_no _)) (by rw [htl]; simp; omega) (by rw [htl]; simp; omega) (by simp; omega) ?_
      intro v7 w7 hown7 hg7
      obtain ⟨A7, c7, rfl⟩ := hown7.slice
      rw [← Hsn.out] at hown7
      rw [show (rs.take k ++ [(f, g)]).length = k + 1 by rw [List.length_append, htl]; rfl] at hg7 ⊢
      have hown7' : Own No w7 w0.heap.size 77 (.slice A7 (k + 1) c7) (rs.take (k + 1)) := by
        have e : (rs.take (k + 1)).length = k + 1 := by rw [List.length_take]; omega
        rw [e] at hown7; exact hown7
      have hvb : ∀ i, OB v i → w0.heap.size ≤ i := fun i h => (hown.lt _ h).1
      have hc57 : Chg (OB v) w5 w7 := ((Chg.refl (OB v) w5).alloc _).trans hg7.chg
      have hsz7 := hc57.size
      have ts7 := Ts5.out.keepF hc57 (fun h => by have := hvb _ h; omega) (fun h => by have := hvb _ h; omega) (fun h => by have := hvb _ h; omega) (fun i h => by have := hvb _ h; omega)
      clear c0 c1 c2 f0 f1 f2 e0 e1 e2 g0 g1 g2
      obtain ⟨c0, c1, c2, f0, f1, f2⟩ := ts7.facts
      have ts8 := ts7.f1 d (.slice A7 (k + 1) c7)
      have own8 := hown7'.keepFlat (chg_set (b := q3) (i := 1) (.slice A7 (k + 1) c7)) (fun i h hi => by have := (hown7'.lt i h).1; simp [At] at hi; omega)
      have Ts8 := Lib.hid ts8; have Own8 := Lib.hid own8
      clear Ts5 Own5 ts7 ts8 own8 hown7 hown7' hg7
      go_wp2_with (first | (with_reducible refine stop_append ?_) | (with_reducible refine stop_copy ?_) | (with_reducible refine stop_make ?_) | (with_reducible refine stop_lookup ?_) | (with_reducible refine stop_update ?_) | (with_reducible refine stop_slice ?_) | (with_reducible refine stop_range ?_) | (with_reducible refine stop_next ?_) | (with_reducible refine stop_convert ⟨_, rfl⟩ ?_) | (with_reducible refine stop_convertB ⟨_, _, _, rfl⟩ ?_) | (with_reducible refine stop_eqSlice ⟨_, _, rfl⟩ ?_))
      go_roundw
      case rel => exact ⟨k + 1, _, by omega, by go_num, Ts8.out, Own8.out, by simp; omega⟩
      case measure => simp [intOf]; omega
    · obtain rfl : k = rs.length := by omega
      rw [List.take_length] at hown
      obtain ⟨Av, cv, rfl⟩ := hown.slice
      have hvr5 := fun i h => (hown.lt i h).1
      have hvr6 := fun i h => (hown.lt i h).2
      generalize hvr : Value.slice Av rs.length cv = vr at *
      have Hvr := Lib.hid hvr
      have b2 := cell_obj (i := 2) ts.o1 rfl
      clear hlt hvr
      obtain ⟨w1, rfl⟩ : ∃ w1 : World, w1 = wr := ⟨_, rfl⟩
      go_wp2_with (first | (with_reducible refine stop_append ?_) | (with_reducible refine stop_copy ?_) | (with_reducible refine stop_make ?_) | (with_reducible refine stop_lookup ?_) | (with_reducible refine stop_update ?_) | (with_reducible refine stop_slice ?_) | (with_reducible refine stop_range ?_) | (with_reducible refine stop_next ?_) | (with_reducible refine stop_convert ⟨_, rfl⟩ ?_) | (with_reducible refine stop_convertB ⟨_, _, _, rfl⟩ ?_) | (with_reducible refine stop_eqSlice ⟨_, _, rfl⟩ ?_))
      go_loopw [28] (fun v28 wr => ∃ (k : Nat) (v : Value), k ≤ ws.length ∧ v28 = .int .i64 k ∧ TS w q1 q2 q3 25 33 #[.int .i64 id, .slice AR rs.length cR, .slice AW ws.length cW] wr id vr v ∧
          Own No wr w0.heap.size 77 vr rs ∧ Own No wr w1.heap.size 63 v (ws.take k) ∧ w1.heap.size ≤ wr.heap.size) (fun v28 _ => ws.length - (intOf v28).toNat)
      case atStart => exact ⟨0, _, by omega, rfl, ts, hown, by simpa using Own.nil _ _ _ _, Nat.le_refl _⟩
      case round =>
        obtain ⟨k, v, hk, rfl, ts, hownr, hown, hsz2⟩ := hrel
        clear b2
        by_cases hlt : k < ws.length
        · obtain ⟨b, o, dd, rfl, _, hbl, ⟨d1, d2, rfl, rfl, rfl⟩, ha⟩ := (Hw.out.keepNo ts.chg).get k hlt
          have ha0 := ha 0 _ rfl
          have ha1 := ha 1 _ rfl
          simp only [show Rep.n (Int × ByteArray) = 2 from rfl, Nat.add_zero] at ha0 ha1
          have hsn : ws.take (k + 1) = ws.take k ++ [ws[k]] := List.take_succ_eq_append_getElem hlt
          have Hsn := Lib.hid hsn
          clear ha hsn
          generalize ws[k] = x at ha0 ha1 Hsn
          obtain ⟨f, g⟩ := x
          simp only at ha0 ha1
          have ts5 := ts.keep ((Chg.refl No wr).alloc (.cells #[.int .i64 f, .string g] 59))
          have own5 := hown.alloc (.cells #[.int .i64 f, .string g] 59)
          have ownr5 := hownr.alloc (.cells #[.int .i64 f, .string g] 59)
          have hs5 : (wr.alloc (.cells #[.int .i64 f, .string g] 59)).heap.size = wr.heap.size + 1 := by simp
          obtain ⟨c0, c1, c2, f0, f1, f2⟩ := ts.facts
          obtain ⟨e0, e1, e2, g0, g1, g2⟩ := ts5.facts
          have hne : q3 ≠ wr.heap.size := by omega
          have Ts5 := Lib.hid ts5; have Own5 := Lib.hid own5; have Ownr5 := Lib.hid ownr5
          have htl : (ws.take k).length = k := by rw [List.length_take]; omega
          clear ts ts5 own5 ownr5 hownr
          go_wp2_with (first | (with_reducible refine stop_append ?_) | (with_reducible refine stop_copy ?_) | (with_reducible refine stop_make ?_) | (with_reducible refine stop_lookup ?_) | (with_reducible refine stop_update ?_) | (with_reducible refine stop_slice ?_) | (with_reducible refine stop_range ?_) | (with_reducible refine stop_next ?_) | (with_reducible refine stop_convert ⟨_, rfl⟩ ?_) | (with_reducible refine stop_convertB ⟨_, _, _, rfl⟩ ?_) | (with_reducible refine stop_eqSlice ⟨_, _, rfl⟩ ?_))
          generalize wr.alloc (.cells #[.int .i64 f, .string g] 59) = w5 at *
          rw [← hs5]
          refine step_append_flat (α := Int × ByteArray) (ys := [(f, g)]) Try.underlying31 info_write rfl (Own5.out.alloc (.cells #[.int .i64 f, .string g] 63)) rfl rfl (Sl.lit1 (F := No) (y := (f, g)) rfl ⟨[.int .i64 f], [.string g], rfl, rfl, rfl⟩ (not_no _)) (by rw [htl]; simp; omega) (by rw [htl]; simp; omega) (by simp; omega) ?_
          intro v7 w7 hown7 hg7
          obtain ⟨A7, c7, rfl⟩ := hown7.slice
          rw [← Hsn.out] at hown7
          rw [show (ws.take k ++ [(f, g)]).length = k + 1 by rw [List.length_append, htl]; rfl] at hg7 ⊢
          have hown7' : Own No w7 w1.heap.size 63 (.slice A7 (k + 1) c7) (ws.take (k + 1)) := by
            have e : (ws.take (k + 1)).length = k + 1 := by rw [List.length_take]; omega
            rw [e] at hown7; exact hown7
          have hvb : ∀ i, OB v i → w1.heap.size ≤ i := fun i h => (hown.lt _ h).1
          have hc57 : Chg (OB v) w5 w7 := ((Chg.refl (OB v) w5).alloc _).trans hg7.chg
          have hsz7 := hc57.size
          have ts7 := Ts5.out.keepF hc57 (fun h => by have := hvb _ h; omega) (fun h => by have := hvb _ h; omega) (fun h => by have := hvb _ h; omega) (fun i h => by have := hvb _ h; omega)
          have ownr7 := Ownr5.out.keepFlat hc57 (fun i h hi => by have := hvb _ hi; have := hvr6 i h; omega)
          clear c0 c1 c2 f0 f1 f2 e0 e1 e2 g0 g1 g2
          obtain ⟨c0, c1, c2, f0, f1, f2⟩ := ts7.facts
          have ts8 := ts7.f2 d (.slice A7 (k + 1) c7)
          have own8 := hown7'.keepFlat (chg_set (b := q3) (i := 2) (.slice A7 (k + 1) c7)) (fun i h hi => by have := (hown7'.lt i h).1; simp [At] at hi; omega)
          have ownr8 := ownr7.keepFlat (chg_set (b := q3) (i := 2) (.slice A7 (k + 1) c7)) (fun i h hi => by have := hvr5 i h; simp [At] at hi; omega)
          have Ts8 := Lib.hid ts8; have Own8 := Lib.hid own8; have Ownr8 := Lib.hid ownr8
          clear Ts5 Own5 Ownr5 ts7 ts8 own8 ownr7 ownr8 hown7 hown7' hg7
          go_wp2_with (first | (with_reducible refine stop_append ?_) | (with_reducible refine stop_copy ?_) | (with_reducible refine stop_make ?_) | (with_reducible refine stop_lookup ?_) | (with_reducible refine stop_update ?_) | (with_reducible refine stop_slice ?_) | (with_reducible refine stop_range ?_) | (with_reducible refine stop_next ?_) | (with_reducible refine stop_convert ⟨_, rfl⟩ ?_) | (with_reducible refine stop_convertB ⟨_, _, _, rfl⟩ ?_) | (with_reducible refine stop_eqSlice ⟨_, _, rfl⟩ ?_))
          go_roundw
          case rel => exact ⟨k + 1, _, by omega, by go_num, Ts8.out, Ownr8.out, Own8.out, by simp; omega⟩
          case measure => simp [intOf]; omega
        · obtain rfl : k = ws.length := by omega
          rw [List.take_length] at hown
          have hA : ∀ i, At q2 i → w.heap.size ≤ i := fun i hi => by have := d.g4; simp [At] at hi; omega
          have hsl1 : Sl (Or (At q2) (Lt w.heap.size)) wr vr rs := hownr.slFlat (fun i h f => by have := hvr5 i h; simp [At, Cb.Or, Lt] at f; omega)
          have hsl2 : Sl (Or (At q2) (Lt w.heap.size)) wr v ws := hown.slFlat (fun i h f => by have := (hown.lt i h).1; simp [At, Cb.Or, Lt] at f; omega)
          obtain ⟨c0, c1, c2, f0, f1, f2⟩ := ts.facts
          obtain ⟨z0, z1, z2, g0, g1, g2⟩ := ts.facts2
          have n1 := d.n46; have n2 := d.n64
          clear hlt Hvr hownr hown
          obtain ⟨Aa, ca, rfl⟩ := hsl1.slice
          obtain ⟨Ab, cb, rfl⟩ := hsl2.slice
          have Sa := Lib.hid hsl1; have Sb := Lib.hid hsl2; have Ts := Lib.hid ts
          clear hsl1 hsl2 ts
          go_wp2_with (first | (with_reducible refine stop_append ?_) | (with_reducible refine stop_copy ?_) | (with_reducible refine stop_make ?_) | (with_reducible refine stop_lookup ?_) | (with_reducible refine stop_update ?_) | (with_reducible refine stop_slice ?_) | (with_reducible refine stop_range ?_) | (with_reducible refine stop_next ?_) | (with_reducible refine stop_convert ⟨_, rfl⟩ ?_) | (with_reducible refine stop_convertB ⟨_, _, _, rfl⟩ ?_) | (with_reducible refine stop_eqSlice ⟨_, _, rfl⟩ ?_))
          refine bodyPost_ret (v := .agg #[.int .i64 id, .slice Aa rs.length ca, .slice Ab ws.length cb]) (by simp [results, Try.results13, go_sem, *]) rfl ?_
          have hl : ∀ {n : Nat} i, i < n → At q2 i → Or (At q2) (Lt w.heap.size) i := fun _ _ h => .inl h
          exact ⟨_, _, rfl, ((Ts.out.chg.old (chg_set _) hA).old (chg_set _) hA).old (chg_set _) hA, (((Sa.out.keep ((chg_set _).weak hl)).keep ((chg_set _).weak hl)).keep ((chg_set _).weak hl)).weak (fun _ _ f => .inr f), (((Sb.out.keep ((chg_set _).weak hl)).keep ((chg_set _).weak hl)).keep ((chg_set _).weak hl)).weak (fun _ _ f => .inr f)⟩
set_option maxRecDepth 100000 in
set_option maxHeartbeats 1000000 in
theorem plain_any (F : Nat → Prop) (id : Int) (vr vw : Value) (rs : List (Int × Int)) (ws : List (Int × ByteArray)) (w : World) (hr : Sl F w vr rs) (hw : Sl F w vw ws) (hrl : rs.length ≤ 1000) (hwl : ws.length ≤ 1000) :
    Calls Try.prog 18 #[.agg #[.int .i64 id, vr, vw]] w (CopyPost id rs ws w) := by
  obtain ⟨AR, cR, rfl⟩ := hr.slice
  obtain ⟨AW, cW, rfl⟩ := hw.slice
  go_enter Try.func18, Try.ntmps18
  obtain ⟨o1, o2, o3, hc0⟩ := alloc3 w (.cells #[.int .i64 id, .slice AR rs.length cR, .slice AW ws.length cW] 33) (.cells #[.int .i64 0, .slice none 0 0, .slice none 0 0] 25) (.cells #[.int .i64 id, .slice none 0 0, .slice none 0 0] 25)
  go_wp2_with (first | (with_reducible refine stop_append ?_) | (with_reducible refine stop_copy ?_) | (with_reducible refine stop_make ?_) | (with_reducible refine stop_lookup ?_) | (with_reducible refine stop_update ?_) | (with_reducible refine stop_slice ?_) | (with_reducible refine stop_range ?_) | (with_reducible refine stop_next ?_) | (with_reducible refine stop_convert ⟨_, rfl⟩ ?_) | (with_reducible refine stop_convertB ⟨_, _, _, rfl⟩ ?_) | (with_reducible refine stop_eqSlice ⟨_, _, rfl⟩ ?_))
  obtain ⟨q1, hq1⟩ : ∃ q, q = w.heap.size := ⟨_, rfl⟩
  obtain ⟨q2, hq2⟩ : ∃ q, q = w.heap.size + 1 := ⟨_, rfl⟩
  obtain ⟨q3, hq3⟩ : ∃ q, q = w.heap.size + 1 + 1 := ⟨_, rfl⟩
  generalize (((w.alloc (.cells #[.int .i64 id, .slice AR rs.length cR, .slice AW ws.length cW] 33)).alloc (.cells #[.int .i64 0, .slice none 0 0, .slice none 0 0] 25)).alloc (.cells #[.int .i64 id, .slice none 0 0, .slice none 0 0] 25)) = w0 at *
  rw [← hq3] at o3
  rw [← hq2] at o2
  rw [← hq1] at o1
  rw [← hq3, ← hq2, ← hq1]
  have d : QD w q1 q2 q3 := ⟨by omega, by omega, by omega, by omega, by omega, by omega, by omega, by omega, by omega⟩
  clear hq1 hq2 hq3
  have ts0 : TS w q1 q2 q3 33 25 #[.int .i64 id, .slice AR rs.length cR, .slice AW ws.length cW] w0 id (.slice none 0 0) (.slice none 0 0) := ⟨o1, o2, o3, hc0⟩
  clear o1 o2 o3 hc0
  have hq1 := lt_of_heap ts0.o1; have hq2 := lt_of_heap ts0.o2; have hq3 := lt_of_heap ts0.o3
  have hge := d.g2
  have Hr := Lib.hid hr; have Hw := Lib.hid hw
  clear hr hw
  go_loopw [14] (fun v14 wr => ∃ (k : Nat) (v : Value), k ≤ rs.length ∧ v14 = .int .i64 k ∧ TS w q1 q2 q3 33 25 #[.int .i64 id, .slice AR rs.length cR, .slice AW ws.length cW] wr id v (.slice none 0 0) ∧
      Own No wr w0.heap.size 52 v (rs.take k) ∧ w0.heap.size ≤ wr.heap.size) (fun v14 _ => rs.length - (intOf v14).toNat)
  case atStart => exact ⟨0, _, by omega, rfl, ts0, by simpa using Own.nil _ _ _ _, Nat.le_refl _⟩
  case round =>
    obtain ⟨k, v, hk, rfl, ts, hown, hsz⟩ := hrel
    clear ts0
    by_cases hlt : k < rs.length
    · obtain ⟨b, o, dd, rfl, _, hbl, ⟨d1, d2, rfl, rfl, rfl⟩, ha⟩ := (Hr.out.keepNo ts.chg).get k hlt
      have ha0 := ha 0 _ rfl
      have ha1 := ha 1 _ rfl
      simp only [show Rep.n (Int × Int) = 2 from rfl, Nat.add_zero] at ha0 ha1
      have hsn : rs.take (k + 1) = rs.take k ++ [rs[k]] := List.take_succ_eq_append_getElem hlt
      have Hsn := Lib.hid hsn
      clear ha hsn
      generalize rs[k] = x at ha0 ha1 Hsn
      obtain ⟨f, g⟩ := x
      simp only at ha0 ha1
      have ts5 := ts.keep ((Chg.refl No wr).alloc (.cells #[.int .i64 f, .int .i64 g] 77))
      have own5 := hown.alloc (.cells #[.int .i64 f, .int .i64 g] 77)
      have hs5 : (wr.alloc (.cells #[.int .i64 f, .int .i64 g] 77)).heap.size = wr.heap.size + 1 := by simp
      obtain ⟨c0, c1, c2, f0, f1, f2⟩ := ts.facts
      obtain ⟨e0, e1, e2, g0, g1, g2⟩ := ts5.facts
      have hne : q3 ≠ wr.heap.size := by omega
      have Ts5 := Lib.hid ts5; have Own5 := Lib.hid own5
      have htl : (rs.take k).length = k := by rw [List.length_take]; omega
      clear ts ts5 own5
      go_wp2_with (first | (with_reducible refine stop_append ?_) | (with_reducible refine stop_copy ?_) | (with_reducible refine stop_make ?_) | (with_reducible refine stop_lookup ?_) | (with_reducible refine stop_update ?_) | (with_reducible refine stop_slice ?_) | (with_reducible refine stop_range ?_) | (with_reducible refine stop_next ?_) | (with_reducible refine stop_convert ⟨_, rfl⟩ ?_) | (with_reducible refine stop_convertB ⟨_, _, _, rfl⟩ ?_) | (with_reducible refine stop_eqSlice ⟨_, _, rfl⟩ ?_))
      generalize wr.alloc (.cells #[.int .i64 f, .int .i64 g] 77) = w5 at *
      rw [← hs5]
      refine step_append_flat (α := Int × Int) (ys := [(f, g)]) Try.underlying22 info_rread rfl (Own5.out.alloc (.cells #[.int .i64 f, .int .i64 g] 52)) rfl rfl (Sl.lit1 (F := No) (y := (f, g)) rfl ⟨[.int .i64 f], [.int .i64 g], rfl, rfl, rfl⟩ (not_no _)) (by rw [htl]; simp; omega) (by rw [htl]; simp; omega) (by simp; omega) ?_
      intro v7 w7 hown7 hg7
      obtain ⟨A7, c7, rfl⟩ := hown7.slice
      rw [← Hsn.out] at hown7
      rw [show (rs.take k ++ [(f, g)]).length = k + 1 by rw [List.length_append, htl]; rfl] at hg7 ⊢
      have hown7' : Own No w7 w0.heap.size 52 (.slice A7 (k + 1) c7) (rs.take (k + 1)) := by
        have e : (rs.take (k + 1)).length = k + 1 := by rw [List.length_take]; omega
        rw [e] at hown7; exact hown7
      have hvb : ∀ i, OB v i → w0.heap.size ≤ i := fun i h => (hown.lt _ h).1
      have hc57 : Chg (OB v) w5 w7 := ((Chg.refl (OB v) w5).alloc _).trans hg7.chg
      have hsz7 := hc57.size
      have ts7 := Ts5.out.keepF hc57 (fun h => by have := hvb _ h; omega) (fun h => by have := hvb _ h; omega) (fun h => by have := hvb _ h; omega) (fun i h => by have := hvb _ h; omega)
      clear c0 c1 c2 f0 f1 f2 e0 e1 e2 g0 g1 g2
      obtain ⟨c0, c1, c2, f0, f1, f2⟩ := ts7.facts
      have ts8 := ts7.f1 d (.slice A7 (k + 1) c7)
      have own8 := hown7'.keepFlat (chg_set (b := q3) (i := 1) (.slice A7 (k + 1) c7)) (fun i h hi => by have := (hown7'.lt i h).1; simp [At] at hi; omega)
      have Ts8 := Lib.hid ts8; have Own8 := Lib.hid own8
      clear Ts5 Own5 ts7 ts8 own8 hown7 hown7' hg7
      go_wp2_with (first | (with_reducible refine stop_append ?_) | (with_reducible refine stop_copy ?_) | (with_reducible refine stop_make ?_) | (with_reducible refine stop_lookup ?_) | (with_reducible refine stop_update ?_) | (with_reducible refine stop_slice ?_) | (with_reducible refine stop_range ?_) | (with_reducible refine stop_next ?_) | (with_reducible refine stop_convert ⟨_, rfl⟩ ?_) | (with_reducible refine stop_convertB ⟨_, _, _, rfl⟩ ?_) | (with_reducible refine stop_eqSlice ⟨_, _, rfl⟩ ?_))
      go_roundw
      case rel => exact ⟨k + 1, _, by omega, by go_num, Ts8.out, Own8.out, by simp; omega⟩
      case measure => simp [intOf]; omega
    · obtain rfl : k = rs.length := by omega
      rw [List.take_length] at hown
      obtain ⟨Av, cv, rfl⟩ := hown.slice
      have hvr5 := fun i h => (hown.lt i h).1
      have hvr6 := fun i h => (hown.lt i h).2
      generalize hvr : Value.slice Av rs.length cv = vr at *
      have Hvr := Lib.hid hvr
      have b2 := cell_obj (i := 2) ts.o1 rfl
      clear hlt hvr
      obtain ⟨w1, rfl⟩ : ∃ w1 : World, w1 = wr := ⟨_, rfl⟩
      go_wp2_with (first | (with_reducible refine stop_append ?_) | (with_reducible refine stop_copy ?_) | (with_reducible refine stop_make ?_) | (with_reducible refine stop_lookup ?_) | (with_reducible refine stop_update ?_) | (with_reducible refine stop_slice ?_) | (with_reducible refine stop_range ?_) | (with_reducible refine stop_next ?_) | (with_reducible refine stop_convert ⟨_, rfl⟩ ?_) | (with_reducible refine stop_convertB ⟨_, _, _, rfl⟩ ?_) | (with_reducible refine stop_eqSlice ⟨_, _, rfl⟩ ?_))
      go_loopw [28] (fun v28 wr => ∃ (k : Nat) (v : Value), k ≤ ws.length ∧ v28 = .int .i64 k ∧ TS w q1 q2 q3 33 25 #[.int .i64 id, .slice AR rs.length cR, .slice AW ws.length cW] wr id vr v ∧
          Own No wr w0.heap.size 52 vr rs ∧ Own No wr w1.heap.size 59 v (ws.take k) ∧ w1.heap.size ≤ wr.heap.size) (fun v28 _ => ws.length - (intOf v28).toNat)
      case atStart => exact ⟨0, _, by omega, rfl, ts, hown, by simpa using Own.nil _ _ _ _, Nat.le_refl _⟩
      case round =>
        obtain ⟨k, v, hk, rfl, ts, hownr, hown, hsz2⟩ := hrel
        clear b2
        by_cases hlt : k < ws.length
        · obtain ⟨b, o, dd, rfl, _, hbl, ⟨d1, d2, rfl, rfl, rfl⟩, ha⟩ := (Hw.out.keepNo ts.chg).get k hlt
          have ha0 := ha 0 _ rfl
          have ha1 := ha 1 _ rfl
          simp only [show Rep.n (Int × ByteArray) = 2 from rfl, Nat.add_zero] at ha0 ha1
          have hsn : ws.take (k + 1) = ws.take k ++ [ws[k]] := List.take_succ_eq_append_getElem hlt
          have Hsn := Lib.hid hsn
          clear ha hsn
          generalize ws[k] = x at ha0 ha1 Hsn
          obtain ⟨f, g⟩ := x
          simp only at ha0 ha1
          have ts5 := ts.keep ((Chg.refl No wr).alloc (.cells #[.int .i64 f, .string g] 63))
          have own5 := hown.alloc (.cells #[.int .i64 f, .string g] 63)
          have ownr5 := hownr.alloc (.cells #[.int .i64 f, .string g] 63)
          have hs5 : (wr.alloc (.cells #[.int .i64 f, .string g] 63)).heap.size = wr.heap.size + 1 := by simp
          obtain ⟨c0, c1, c2, f0, f1, f2⟩ := ts.facts
          obtain ⟨e0, e1, e2, g0, g1, g2⟩ := ts5.facts
          have hne : q3 ≠ wr.heap.size := by omega
          have Ts5 := Lib.hid ts5; have Own5 := Lib.hid own5; have Ownr5 := Lib.hid ownr5
          have htl : (ws.take k).length = k := by rw [List.length_take]; omega
          clear ts ts5 own5 ownr5 hownr
          go_wp2_with (first | (with_reducible refine stop_append ?_) | (with_reducible refine stop_copy ?_) | (with_reducible refine stop_make ?_) | (with_reducible refine stop_lookup ?_) | (with_reducible refine stop_update ?_) | (with_reducible refine stop_slice ?_) | (with_reducible refine stop_range ?_) | (with_reducible refine stop_next ?_) | (with_reducible refine stop_convert ⟨_, rfl⟩ ?_) | (with_reducible refine stop_convertB ⟨_, _, _, rfl⟩ ?_) | (with_reducible refine stop_eqSlice ⟨_, _, rfl⟩ ?_))
          generalize wr.alloc (.cells #[.int .i64 f, .string g] 63) = w5 at *
          rw [← hs5]
          refine step_append_flat (α := Int × ByteArray) (ys := [(f, g)]) Try.underlying23 info_rwrite rfl (Own5.out.alloc (.cells #[.int .i64 f, .string g] 59)) rfl rfl (Sl.lit1 (F := No) (y := (f, g)) rfl ⟨[.int .i64 f], [.string g], rfl, rfl, rfl⟩ (not_no _)) (by rw [htl]; simp; omega) (by rw [htl]; simp; omega) (by simp; omega) ?_
          intro v7 w7 hown7 hg7
          obtain ⟨A7, c7, rfl⟩ := hown7.slice
          rw [← Hsn.out] at hown7
          rw [show (ws.take k ++ [(f, g)]).length = k + 1 by rw [List.length_append, htl]; rfl] at hg7 ⊢
          have hown7' : Own No w7 w1.heap.size 59 (.slice A7 (k + 1) c7) (ws.take (k + 1)) := by
            have e : (ws.take (k + 1)).length = k + 1 := by rw [List.length_take]; omega
            rw [e] at hown7; exact hown7
          have hvb : ∀ i, OB v i → w1.heap.size ≤ i := fun i h => (hown.lt _ h).1
          have hc57 : Chg (OB v) w5 w7 := ((Chg.refl (OB v) w5).alloc _).trans hg7.chg
          have hsz7 := hc57.size
          have ts7 := Ts5.out.keepF hc57 (fun h => by have := hvb _ h; omega) (fun h => by have := hvb _ h; omega) (fun h => by have := hvb _ h; omega) (fun i h => by have := hvb _ h; omega)
          have ownr7 := Ownr5.out.keepFlat hc57 (fun i h hi => by have := hvb _ hi; have := hvr6 i h; omega)
          clear c0 c1 c2 f0 f1 f2 e0 e1 e2 g0 g1 g2
          obtain ⟨c0, c1, c2, f0, f1, f2⟩ := ts7.facts
          have ts8 := ts7.f2 d (.slice A7 (k + 1) c7)
          have own8 := hown7'.keepFlat (chg_set (b := q3) (i := 2) (.slice A7 (k + 1) c7)) (fun i h hi => by have := (hown7'.lt i h).1; simp [At] at hi; omega)
          have ownr8 := ownr7.keepFlat (chg_set (b := q3) (i := 2) (.slice A7 (k + 1) c7)) (fun i h hi => by have := hvr5 i h; simp [At] at hi; omega)
          have Ts8 := Lib.hid ts8; have Own8 := Lib.hid own8; have Ownr8 := Lib.hid ownr8
          clear Ts5 Own5 Ownr5 ts7 ts8 own8 ownr7 ownr8 hown7 hown7' hg7
          go_wp2_with (first | (with_reducible refine stop_append ?_) | (with_reducible refine stop_copy ?_) | (with_reducible refine stop_make ?_) | (with_reducible refine stop_lookup ?_) | (with_reducible refine stop_update ?_) | (with_reducible refine stop_slice ?_) | (with_reducible refine stop_range ?_) | (with_reducible refine stop_next ?_) | (with_reducible refine stop_convert ⟨_, rfl⟩ ?_) | (with_reducible refine stop_convertB ⟨_, _, _, rfl⟩ ?_) | (with_reducible refine stop_eqSlice ⟨_, _, rfl⟩ ?_))
          go_roundw
          case rel => exact ⟨k + 1, _, by omega, by go_num, Ts8.out, Ownr8.out, Own8.out, by simp; omega⟩
          case measure => simp [intOf]; omega
        · obtain rfl : k = ws.length := by omega
          rw [List.take_length] at hown
          have hA : ∀ i, At q2 i → w.heap.size ≤ i := fun i hi => by have := d.g4; simp [At] at hi; omega
          have hsl1 : Sl (Or (At q2) (Lt w.heap.size)) wr vr rs := hownr.slFlat (fun i h f => by have := hvr5 i h; simp [At, Cb.Or, Lt] at f; omega)
          have hsl2 : Sl (Or (At q2) (Lt w.heap.size)) wr v ws := hown.slFlat (fun i h f => by have := (hown.lt i h).1; simp [At, Cb.Or, Lt] at f; omega)
          obtain ⟨c0, c1, c2, f0, f1, f2⟩ := ts.facts
          obtain ⟨z0, z1, z2, g0, g1, g2⟩ := ts.facts2
          have n1 := d.n46; have n2 := d.n64
          clear hlt Hvr hownr hown
          obtain ⟨Aa, ca, rfl⟩ := hsl1.slice
          obtain ⟨Ab, cb, rfl⟩ := hsl2.slice
          have Sa := Lib.hid hsl1; have Sb := Lib.hid hsl2; have Ts := Lib.hid ts
          clear hsl1 hsl2 ts
          go_wp2_with (first | (with_reducible refine stop_append ?_) | (with_reducible refine stop_copy ?_) | (with_reducible refine stop_make ?_) | (with_reducible refine stop_lookup ?_) | (with_reducible refine stop_update ?_) | (with_reducible refine stop_slice ?_) | (with_reducible refine stop_range ?_) | (with_reducible refine stop_next ?_) | (with_reducible refine stop_convert ⟨_, rfl⟩ ?_) | (with_reducible refine stop_convertB ⟨_, _, _, rfl⟩ ?_) | (with_reducible refine stop_eqSlice ⟨_, _, rfl⟩ ?_))
          refine bodyPost_ret (v := .agg #[.int .i64 id, .slice Aa rs.length ca, .slice Ab ws.length cb]) (by simp [results, Try.results18, go_sem, *]) rfl ?_
          have hl : ∀ {n : Nat} i, i < n → At q2 i → Or (At q2) (Lt w.heap.size) i := fun _ _ h => .inl h
          exact ⟨_, _, rfl, ((Ts.out.chg.old (chg_set _) hA).old (chg_set _) hA).old (chg_set _) hA, (((Sa.out.keep ((chg_set _).weak hl)).keep ((chg_set _).weak hl)).keep ((chg_set _).weak hl)).weak (fun _ _ f => .inr f), (((Sb.out.keep ((chg_set _).weak hl)).keep ((chg_set _).weak hl)).keep ((chg_set _).weak hl)).weak (fun _ _ f => .inr f)⟩
end Go.Proofs.Ytnioljagmimojaa
