/- Walks of the document's object: Parse. -/
import Derived.Test.YtnioljagmimojaaRefD
import Derived.Test.YtnioljagmimojaaObjE
set_option linter.unusedVariables false
set_option linter.unusedSimpArgs false
namespace Go.Proofs.Ytnioljagmimojaa
open Go.RowKit Cb

theorem set2 {w : World} {q : Nat} {a b : Value} {T : TypeId} {fz : Nat × Nat} (h : w.heap[q]? = some (.cells #[a, b] T fz)) (x y : Value) : ((w.setCell ⟨q, 0, none⟩ x).setCell ⟨q, 1, none⟩ y).heap[q]? = some (.cells #[x, y] T fz) :=
  obj_set (obj_set h rfl) rfl
theorem set2_other {w : World} {q r : Nat} {o : Obj} (h : w.heap[r]? = some o) (hne : r ≠ q) (x y : Value) : ((w.setCell ⟨q, 0, none⟩ x).setCell ⟨q, 1, none⟩ y).heap[r]? = some o :=
  obj_set_other (obj_set_other h hne) hne
theorem chg_set2 {w : World} {q : Nat} (x y : Value) : Chg (At q) w ((w.setCell ⟨q, 0, none⟩ x).setCell ⟨q, 1, none⟩ y) := (chg_set x).trans (chg_set y)
theorem alloc3 (w : World) (A B C : Obj) : (((w.alloc A).alloc B).alloc C).heap[w.heap.size]? = some A ∧ (((w.alloc A).alloc B).alloc C).heap[w.heap.size + 1]? = some B ∧ (((w.alloc A).alloc B).alloc C).heap[w.heap.size + 1 + 1]? = some C ∧ Chg No w (((w.alloc A).alloc B).alloc C) := by
  have e1 : (w.alloc A).heap.size = w.heap.size + 1 := by simp
  have e2 : ((w.alloc A).alloc B).heap.size = w.heap.size + 1 + 1 := by simp
  have c2 := (Chg.refl No (w.alloc A)).alloc B
  have c3 := (Chg.refl No ((w.alloc A).alloc B)).alloc C
  refine ⟨c3.obj (c2.obj (alloc_obj w A) (not_no _)) (not_no _), ?_, ?_, (((Chg.refl No w).alloc A).trans c2).trans c3⟩
  · have := c3.obj (alloc_obj (w.alloc A) B) (not_no _); rw [e1] at this; exact this
  · have := alloc_obj ((w.alloc A).alloc B) C; rw [e2] at this; exact this
def refReads : Nat → ByteArray → Int → List (Int × Int) × ByteArray × Int
  | 0, s, e => ([], s, e)
  | n + 1, s, e =>
    let a := refNum 1099511627776 s e
    let b := refNum 1099511627776 a.2.1 a.2.2
    let r := refReads n b.2.1 b.2.2
    ((a.1, b.1) :: r.1, r.2)
def refWrites : Nat → ByteArray → Int → List (Int × ByteArray) × ByteArray × Int
  | 0, s, e => ([], s, e)
  | n + 1, s, e =>
    let a := refNum 1099511627776 s e
    let b := refText 900 a.2.1 a.2.2
    let r := refWrites n b.2.1 b.2.2
    ((a.1, b.1) :: r.1, r.2)
theorem refNum_le (most : Int) (h : 0 ≤ most) (s : ByteArray) (e : Int) : (refNum most s e).1 ≤ most := by
  unfold refNum
  split
  · exact h
  · split
    · split <;> exact h
    · dsimp only; split
      · rename_i hh; exact hh.2
      · exact h
theorem refReads_len : ∀ n s e, (refReads n s e).1.length = n
  | 0, _, _ => rfl
  | n + 1, s, e => by simp only [refReads, List.length_cons]; rw [refReads_len n]
theorem refWrites_len : ∀ n s e, (refWrites n s e).1.length = n
  | 0, _, _ => rfl
  | n + 1, s, e => by simp only [refWrites, List.length_cons]; rw [refWrites_len n]
def refParseT (s : ByteArray) : Tx × ByteArray × Int :=
  let a := refNum 1099511627776 s 0
  let n := refNum 16 a.2.1 a.2.2
  let r := refReads n.1.toNat n.2.1 n.2.2
  let m := refNum 16 r.2.1 r.2.2
  let x := refWrites m.1.toNat m.2.1 m.2.2
  ((a.1, r.1, x.1), x.2)
def refParseR (s : ByteArray) : Option Tx :=
  let t := refParseT s
  if endE t.2.1 t.2.2 = 0 ∧ rightB t.1.1 t.1.2.1 t.1.2.2 = true ∧ encTx t.1.1 t.1.2.1 t.1.2.2 = s.data.toList then some t.1 else none
structure QD (w : World) (q2 q4 q6 : Nat) : Prop where
  n24 : q2 ≠ q4
  n26 : q2 ≠ q6
  n46 : q4 ≠ q6
  n64 : q6 ≠ q4
  n62 : q6 ≠ q2
  n42 : q4 ≠ q2
  g2 : w.heap.size ≤ q2
  g4 : w.heap.size ≤ q4
  g6 : w.heap.size ≤ q6
structure PS (w : World) (q2 q4 q6 : Nat) (wr : World) (id : Int) (v1 v2 : Value) (s : ByteArray) (e : Int) : Prop where
  o2 : wr.heap[q2]? = some (.cells #[.int .i64 0, .slice none 0 0, .slice none 0 0] 25 (0, 0))
  o4 : wr.heap[q4]? = some (.cells #[.int .i64 id, v1, v2] 25 (0, 0))
  o6 : wr.heap[q6]? = some (.cells #[.string s, .int .i64 e] 88 (0, 0))
  chg : Chg No w wr
section
variable {w wr w' : World} {q2 q4 q6 : Nat} {id : Int} {v1 v2 : Value} {s : ByteArray} {e : Int}
theorem PS.keep (h : PS w q2 q4 q6 wr id v1 v2 s e) (hc : Chg No wr w') : PS w q2 q4 q6 w' id v1 v2 s e :=
  ⟨hc.obj h.o2 (not_no _), hc.obj h.o4 (not_no _), hc.obj h.o6 (not_no _), h.chg.trans hc⟩
theorem PS.keepF {F : Nat → Prop} (h : PS w q2 q4 q6 wr id v1 v2 s e) (hc : Chg F wr w') (h2 : ¬ F q2) (h4 : ¬ F q4) (h6 : ¬ F q6) (hF : ∀ i, F i → w.heap.size ≤ i) : PS w q2 q4 q6 w' id v1 v2 s e :=
  ⟨hc.obj h.o2 h2, hc.obj h.o4 h4, hc.obj h.o6 h6, h.chg.old hc hF⟩
theorem PS.rdr (d : QD w q2 q4 q6) (h : PS w q2 q4 q6 wr id v1 v2 s e) (s' : ByteArray) (e' : Int) : PS w q2 q4 q6 ((wr.setCell ⟨q6, 0, none⟩ (.string s')).setCell ⟨q6, 1, none⟩ (.int .i64 e')) id v1 v2 s' e' :=
  ⟨set2_other h.o2 d.n26 _ _, set2_other h.o4 d.n46 _ _, set2 h.o6 _ _, h.chg.old (chg_set2 _ _) (fun i hi => by have := d.g6; simp [At] at hi; omega)⟩
theorem PS.f0 (d : QD w q2 q4 q6) (h : PS w q2 q4 q6 wr id v1 v2 s e) (i : Int) : PS w q2 q4 q6 (wr.setCell ⟨q4, 0, none⟩ (.int .i64 i)) i v1 v2 s e :=
  ⟨obj_set_other h.o2 d.n24, obj_set h.o4 rfl, obj_set_other h.o6 d.n64, h.chg.old (chg_set _) (fun i hi => by have := d.g4; simp [At] at hi; omega)⟩
theorem PS.f1 (d : QD w q2 q4 q6) (h : PS w q2 q4 q6 wr id v1 v2 s e) (v : Value) : PS w q2 q4 q6 (wr.setCell ⟨q4, 1, none⟩ v) id v v2 s e :=
  ⟨obj_set_other h.o2 d.n24, obj_set h.o4 rfl, obj_set_other h.o6 d.n64, h.chg.old (chg_set _) (fun i hi => by have := d.g4; simp [At] at hi; omega)⟩
theorem PS.f2 (d : QD w q2 q4 q6) (h : PS w q2 q4 q6 wr id v1 v2 s e) (v : Value) : PS w q2 q4 q6 (wr.setCell ⟨q4, 2, none⟩ v) id v1 v s e :=
  ⟨obj_set_other h.o2 d.n24, obj_set h.o4 rfl, obj_set_other h.o6 d.n64, h.chg.old (chg_set _) (fun i hi => by have := d.g4; simp [At] at hi; omega)⟩
theorem PS.facts (h : PS w q2 q4 q6 wr id v1 v2 s e) : (wr.cell? ⟨q6, 0, none⟩ = some (.string s) ∧ wr.cell? ⟨q6, 1, none⟩ = some (.int .i64 e) ∧ wr.frozen? ⟨q6, 0, none⟩ = false ∧ wr.frozen? ⟨q6, 1, none⟩ = false) ∧
    wr.cell? ⟨q4, 0, none⟩ = some (.int .i64 id) ∧ wr.cell? ⟨q4, 1, none⟩ = some v1 ∧ wr.cell? ⟨q4, 2, none⟩ = some v2 ∧ wr.frozen? ⟨q4, 0, none⟩ = false ∧ wr.frozen? ⟨q4, 1, none⟩ = false ∧ wr.frozen? ⟨q4, 2, none⟩ = false :=
  ⟨⟨cell_obj h.o6 rfl, cell_obj h.o6 rfl, free_obj h.o6, free_obj h.o6⟩, cell_obj h.o4 rfl, cell_obj h.o4 rfl, cell_obj h.o4 rfl, free_obj h.o4, free_obj h.o4, free_obj h.o4⟩
theorem PS.facts2 (h : PS w q2 q4 q6 wr id v1 v2 s e) : wr.cell? ⟨q2, 0, none⟩ = some (.int .i64 0) ∧ wr.cell? ⟨q2, 1, none⟩ = some (.slice none 0 0) ∧ wr.cell? ⟨q2, 2, none⟩ = some (.slice none 0 0) ∧ wr.frozen? ⟨q2, 0, none⟩ = false ∧ wr.frozen? ⟨q2, 1, none⟩ = false ∧ wr.frozen? ⟨q2, 2, none⟩ = false :=
  ⟨cell_obj h.o2 rfl, cell_obj h.o2 rfl, cell_obj h.o2 rfl, free_obj h.o2, free_obj h.o2, free_obj h.o2⟩
end
theorem info_rread : Info Try.prog 52 (.agg #[.int .i64 0, .int .i64 0]) 2 16 := by unfold Info; kernel_rfl
theorem info_rwrite : Info Try.prog 59 (.agg #[.int .i64 0, .string ⟨#[]⟩]) 2 24 := by unfold Info; kernel_rfl
def RefParsePost (s : ByteArray) (w : World) (e : Ending) (w' : World) : Prop :=
  (∃ id rs ws vr vw, refParseR s = some (id, rs, ws) ∧ e = .returned (.tuple #[.agg #[.int .i64 id, vr, vw], .int .i64 0]) ∧ Chg No w w' ∧ Sl (Lt w.heap.size) w' vr rs ∧ Sl (Lt w.heap.size) w' vw ws) ∨
  (refParseR s = none ∧ e = .returned (.tuple #[.agg #[.int .i64 0, .slice none 0 0, .slice none 0 0], .int .i64 1]) ∧ Chg No w w')
theorem readnum_at (most : Int) {s : ByteArray} {e : Int} {n : Int} {s' : ByteArray} {e' : Int} (h : refNum most s e = (n, s', e')) (w : World) :
    Calls Try.prog 43 #[.agg #[.string s, .int .i64 e], .int .i64 most] w fun x w' => x = .returned (.tuple #[.agg #[.string s', .int .i64 e'], .int .i64 n]) ∧ Chg No w w' := by
  have := refreadnum_any s e most w; unfold RN at this; rw [h] at this; exact this
theorem readtext_at (most : Int) {s : ByteArray} {e : Int} {t : ByteArray} {s' : ByteArray} {e' : Int} (h : refText most s e = (t, s', e')) (w : World) :
    Calls Try.prog 44 #[.agg #[.string s, .int .i64 e], .int .i64 most] w fun x w' => x = .returned (.tuple #[.agg #[.string s', .int .i64 e'], .string t]) ∧ Chg No w w' := by
  have := refreadtext_any s e most w; rw [h] at this; exact this
set_option maxRecDepth 100000 in
set_option maxHeartbeats 1000000 in
theorem refparse_any (s : ByteArray) (w : World) : Calls Try.prog 16 #[.string s] w (RefParsePost s w) := by
  obtain ⟨id, s1, e1, h1⟩ : ∃ id s1 e1, refNum 1099511627776 s 0 = (id, s1, e1) := ⟨_, _, _, rfl⟩
  obtain ⟨n, s2, e2, h2⟩ : ∃ n s2 e2, refNum 16 s1 e1 = (n, s2, e2) := ⟨_, _, _, rfl⟩
  have hn0 : 0 ≤ n := by have := refNum_nonneg 16 s1 e1; rw [h2] at this; exact this
  have hn1 : n ≤ 16 := by have := refNum_le 16 (by omega) s1 e1; rw [h2] at this; exact this
  obtain ⟨N, rfl⟩ := Int.eq_ofNat_of_zero_le hn0
  obtain ⟨rs, s3, e3, h3⟩ : ∃ rs s3 e3, refReads N s2 e2 = (rs, s3, e3) := ⟨_, _, _, rfl⟩
  obtain ⟨m, s4, e4, h4⟩ : ∃ m s4 e4, refNum 16 s3 e3 = (m, s4, e4) := ⟨_, _, _, rfl⟩
  have hm0 : 0 ≤ m := by have := refNum_nonneg 16 s3 e3; rw [h4] at this; exact this
  have hm1 : m ≤ 16 := by have := refNum_le 16 (by omega) s3 e3; rw [h4] at this; exact this
  obtain ⟨M, rfl⟩ := Int.eq_ofNat_of_zero_le hm0
  obtain ⟨ws, s5, e5, h5⟩ : ∃ ws s5 e5, refWrites M s4 e4 = (ws, s5, e5) := ⟨_, _, _, rfl⟩
  have hT : refParseT s = ((id, rs, ws), s5, e5) := by simp [refParseT, h1, h2, h3, h4, h5]
  have hrl : rs.length = N := by have := refReads_len N s2 e2; rw [h3] at this; exact this
  have hwl : ws.length = M := by have := refWrites_len M s4 e4; rw [h5] at this; exact this
  have HT := Lib.hid hT; have H1 := Lib.hid h1; have H2 := Lib.hid h2; have H3 := Lib.hid h3; have H4 := Lib.hid h4; have H5 := Lib.hid h5; have Hrl := Lib.hid hrl; have Hwl := Lib.hid hwl
  clear hT h1 h2 h3 h4 h5 hn0 hm0 hrl hwl
  go_enter Try.func16, Try.ntmps16
  go_wp2_with (first | (with_reducible refine stop_append ?_) | (with_reducible refine stop_copy ?_) | (with_reducible refine stop_make ?_) | (with_reducible refine stop_lookup ?_) | (with_reducible refine stop_update ?_) | (with_reducible refine stop_slice ?_) | (with_reducible refine stop_range ?_) | (with_reducible refine stop_next ?_) | (with_reducible refine stop_convert ⟨_, rfl⟩ ?_) | (with_reducible refine stop_convertB ⟨_, _, _, rfl⟩ ?_) | (with_reducible refine stop_eqSlice ⟨_, _, rfl⟩ ?_))
  obtain ⟨o2, o4, o6, hc0⟩ := alloc3 w (.cells #[.int .i64 0, .slice none 0 0, .slice none 0 0] 25) (.cells #[.int .i64 0, .slice none 0 0, .slice none 0 0] 25) (.cells #[.string s, .int .i64 0] 88)
  obtain ⟨q2, hq2⟩ : ∃ q, q = w.heap.size := ⟨_, rfl⟩
  obtain ⟨q4, hq4⟩ : ∃ q, q = w.heap.size + 1 := ⟨_, rfl⟩
  obtain ⟨q6, hq6⟩ : ∃ q, q = w.heap.size + 1 + 1 := ⟨_, rfl⟩
  generalize (((w.alloc (.cells #[.int .i64 0, .slice none 0 0, .slice none 0 0] 25)).alloc (.cells #[.int .i64 0, .slice none 0 0, .slice none 0 0] 25)).alloc (.cells #[.string s, .int .i64 0] 88)) = w0 at *
  rw [← hq6] at o6
  rw [← hq4] at o4
  rw [← hq2] at o2
  rw [← hq6, ← hq4, ← hq2]
  have d : QD w q2 q4 q6 := ⟨by omega, by omega, by omega, by omega, by omega, by omega, by omega, by omega, by omega⟩
  clear hq2 hq4 hq6
  refine (readnum_at _ H1.out _).mono ?_
  rintro x w1 ⟨rfl, hc1⟩
  have ps1 : PS w q2 q4 q6 w1 0 (.slice none 0 0) (.slice none 0 0) s 0 := (⟨o2, o4, o6, hc0⟩ : PS w q2 q4 q6 w0 0 (.slice none 0 0) (.slice none 0 0) s 0).keep hc1
  clear o2 o4 o6 hc0 hc1
  obtain ⟨⟨c60, c61, f60, f61⟩, c40, c41, c42, f40, f41, f42⟩ := ps1.facts
  have n64 := d.n64; have n46 := d.n46
  have Ps1 := Lib.hid ps1; clear ps1
  go_wp2_with (first | (with_reducible refine stop_append ?_) | (with_reducible refine stop_copy ?_) | (with_reducible refine stop_make ?_) | (with_reducible refine stop_lookup ?_) | (with_reducible refine stop_update ?_) | (with_reducible refine stop_slice ?_) | (with_reducible refine stop_range ?_) | (with_reducible refine stop_next ?_) | (with_reducible refine stop_convert ⟨_, rfl⟩ ?_) | (with_reducible refine stop_convertB ⟨_, _, _, rfl⟩ ?_) | (with_reducible refine stop_eqSlice ⟨_, _, rfl⟩ ?_))
  have ps2 := (Ps1.out.rdr d s1 e1).f0 d id
  clear Ps1 c60 c61 f60 f61 c40 c41 c42 f40 f41 f42
  generalize ((w1.setCell ⟨q6, 0, none⟩ (.string s1)).setCell ⟨q6, 1, none⟩ (.int .i64 e1)).setCell ⟨q4, 0, none⟩ (.int .i64 id) = w2 at *
  refine (readnum_at _ H2.out _).mono ?_
  rintro x w3 ⟨rfl, hc3⟩
  have ps3 := ps2.keep hc3
  clear ps2 hc3
  obtain ⟨⟨c60, c61, f60, f61⟩, c40, c41, c42, f40, f41, f42⟩ := ps3.facts
  have Ps3 := Lib.hid ps3; clear ps3
  go_wp2_with (first | (with_reducible refine stop_append ?_) | (with_reducible refine stop_copy ?_) | (with_reducible refine stop_make ?_) | (with_reducible refine stop_lookup ?_) | (with_reducible refine stop_update ?_) | (with_reducible refine stop_slice ?_) | (with_reducible refine stop_range ?_) | (with_reducible refine stop_next ?_) | (with_reducible refine stop_convert ⟨_, rfl⟩ ?_) | (with_reducible refine stop_convertB ⟨_, _, _, rfl⟩ ?_) | (with_reducible refine stop_eqSlice ⟨_, _, rfl⟩ ?_))
  have ps4 := Ps3.out.rdr d s2 e2
  clear Ps3 c60 c61 f60 f61 c40 c41 c42 f40 f41 f42
  generalize (w3.setCell ⟨q6, 0, none⟩ (.string s2)).setCell ⟨q6, 1, none⟩ (.int .i64 e2) = w5 at *
  go_loopw [7] (fun v7 wr => ∃ (k : Nat) (acc : List (Int × Int)) (s' : ByteArray) (e' : Int) (v : Value), k ≤ N ∧ v7 = .int .i64 k ∧ PS w q2 q4 q6 wr id v (.slice none 0 0) s' e' ∧
      Own No wr w5.heap.size 52 v acc ∧ w5.heap.size ≤ wr.heap.size ∧ acc.length = k ∧ refReads N s2 e2 = (acc ++ (refReads (N - k) s' e').1, (refReads (N - k) s' e').2)) (fun v7 _ => N - (intOf v7).toNat)
  case atStart => exact ⟨0, [], s2, e2, _, by omega, rfl, ps4, Own.nil _ _ _ _, Nat.le_refl _, rfl, by simp⟩
  case round =>
    obtain ⟨k, acc, s', e', v, hk, rfl, ps, hown, hsz, hal, hgo⟩ := hrel
    have Hgo := Lib.hid hgo; have Hal := Lib.hid hal
    have hq2 := lt_of_heap ps4.o2; have hq4 := lt_of_heap ps4.o4; have hq6 := lt_of_heap ps4.o6
    clear hgo hal ps4
    by_cases hlt : k < N
    · obtain ⟨f, s6, e6, h6⟩ : ∃ f s6 e6, refNum 1099511627776 s' e' = (f, s6, e6) := ⟨_, _, _, rfl⟩
      obtain ⟨g, s7, e7, h7⟩ : ∃ g s7 e7, refNum 1099511627776 s6 e6 = (g, s7, e7) := ⟨_, _, _, rfl⟩
      have hgo2 : refReads (N - k) s' e' = ((f, g) :: (refReads (N - (k + 1)) s7 e7).1, (refReads (N - (k + 1)) s7 e7).2) := by
        rw [show N - k = (N - (k + 1)) + 1 by omega]; simp only [refReads, h6, h7]
      have Hgo2 := Lib.hid hgo2; have H6 := Lib.hid h6; have H7 := Lib.hid h7
      clear hgo2 h6 h7
      obtain ⟨⟨c60, c61, f60, f61⟩, c40, c41, c42, f40, f41, f42⟩ := ps.facts
      have Ps := Lib.hid ps; clear ps
      go_wp2_with (first | (with_reducible refine stop_append ?_) | (with_reducible refine stop_copy ?_) | (with_reducible refine stop_make ?_) | (with_reducible refine stop_lookup ?_) | (with_reducible refine stop_update ?_) | (with_reducible refine stop_slice ?_) | (with_reducible refine stop_range ?_) | (with_reducible refine stop_next ?_) | (with_reducible refine stop_convert ⟨_, rfl⟩ ?_) | (with_reducible refine stop_convertB ⟨_, _, _, rfl⟩ ?_) | (with_reducible refine stop_eqSlice ⟨_, _, rfl⟩ ?_))
      refine (readnum_at _ H6.out _).mono ?_
      rintro x w6 ⟨rfl, hc6⟩
      have ps6 := Ps.out.keep hc6
      have own6 := hown.keepFlat hc6 (fun _ _ f => f)
      clear c60 c61 f60 f61 c40 c41 c42 f40 f41 f42
      go_wp2_with (first | (with_reducible refine stop_append ?_) | (with_reducible refine stop_copy ?_) | (with_reducible refine stop_make ?_) | (with_reducible refine stop_lookup ?_) | (with_reducible refine stop_update ?_) | (with_reducible refine stop_slice ?_) | (with_reducible refine stop_range ?_) | (with_reducible refine stop_next ?_) | (with_reducible refine stop_convert ⟨_, rfl⟩ ?_) | (with_reducible refine stop_convertB ⟨_, _, _, rfl⟩ ?_) | (with_reducible refine stop_eqSlice ⟨_, _, rfl⟩ ?_))
      refine (readnum_at _ H7.out _).mono ?_
      have hc67 := (Chg.refl No w6).alloc (.cells #[.string s6, .int .i64 e6] 88)
      generalize w6.alloc (.cells #[.string s6, .int .i64 e6] 88) = w6a at *
      rintro x w7 ⟨rfl, hc7⟩
      have ps7 := (ps6.keep hc67).keep hc7
      have own7 := (own6.keepFlat hc67 (fun _ _ f => f)).keepFlat hc7 (fun _ _ f => f)
      have hlt7 : w5.heap.size ≤ w7.heap.size := by have := hc67.size; have := hc7.size; have := hc6.size; omega
      clear hc6 ps6 own6 hc67 hc7
      have ps8 := ps7.keep ((Chg.refl No w7).alloc (.cells #[.string s7, .int .i64 e7] 88))
      have own8 := own7.alloc (.cells #[.string s7, .int .i64 e7] 88)
      obtain ⟨⟨c60, c61, f60, f61⟩, c40, c41, c42, f40, f41, f42⟩ := ps7.facts
      obtain ⟨⟨_, _, f80, f81⟩, _, _, _, f84, f85, f86⟩ := ps8.facts
      have hq67 : q6 ≠ w7.heap.size := by omega
      have hq47 : q4 ≠ w7.heap.size := by omega
      have Ps8 := Lib.hid ps8; have Own8 := Lib.hid own8
      clear ps7 own7 ps8 own8
      go_wp2_with (first | (with_reducible refine stop_append ?_) | (with_reducible refine stop_copy ?_) | (with_reducible refine stop_make ?_) | (with_reducible refine stop_lookup ?_) | (with_reducible refine stop_update ?_) | (with_reducible refine stop_slice ?_) | (with_reducible refine stop_range ?_) | (with_reducible refine stop_next ?_) | (with_reducible refine stop_convert ⟨_, rfl⟩ ?_) | (with_reducible refine stop_convertB ⟨_, _, _, rfl⟩ ?_) | (with_reducible refine stop_eqSlice ⟨_, _, rfl⟩ ?_))
      have ps9 := Ps8.out.rdr d s7 e7
      have own9 := Own8.out.keepFlat (chg_set2 (q := q6) (.string s7) (.int .i64 e7)) (fun i h hi => by have := (hown.lt i h).1; simp [At] at hi; omega)
      clear Ps8 Own8 c60 c61 f60 f61 c40 c41 c42 f40 f41 f42 f80 f81 f84 f85 f86
      have hlt9 : w5.heap.size ≤ (((w7.alloc (.cells #[.string s7, .int .i64 e7] 88)).setCell ⟨q6, 0, none⟩ (.string s7)).setCell ⟨q6, 1, none⟩ (.int .i64 e7)).heap.size := by simp; omega
      have hs9 : (((w7.alloc (.cells #[.string s7, .int .i64 e7] 88)).setCell ⟨q6, 0, none⟩ (.string s7)).setCell ⟨q6, 1, none⟩ (.int .i64 e7)).heap.size = w7.heap.size + 1 := by simp
      generalize ((w7.alloc (.cells #[.string s7, .int .i64 e7] 88)).setCell ⟨q6, 0, none⟩ (.string s7)).setCell ⟨q6, 1, none⟩ (.int .i64 e7) = w9 at *
      rw [← hs9]
      refine step_append_flat (α := Int × Int) (ys := [(f, g)]) Try.underlying22 info_rread rfl (own9.alloc (.cells #[.int .i64 f, .int .i64 g] 52)) rfl rfl (Sl.lit1 (F := No) (y := (f, g)) rfl ⟨[.int .i64 f], [.int .i64 g], rfl, rfl, rfl⟩ (not_no _)) (by have := Hal.out; simp; omega) (by have := Hal.out; simp [show Rep.n (Int × Int) = 2 from rfl]; omega) (by simp; omega) ?_
      intro v10 w10 hown10 hg10
      obtain ⟨A10, c10, rfl⟩ := hown10.slice
      rw [show (acc ++ [(f, g)]).length = acc.length + 1 by simp] at hown10
      have hvb : ∀ i, OB v i → w5.heap.size ≤ i := fun i h => (hown.lt _ h).1
      have hc910 : Chg (OB v) w9 w10 := ((Chg.refl (OB v) w9).alloc _).trans hg10.chg
      have hsz10 := hc910.size
      have ps10 := ps9.keepF hc910 (fun h => by have := hvb _ h; omega) (fun h => by have := hvb _ h; omega) (fun h => by have := hvb _ h; omega) (fun i h => by have := hvb _ h; have := ps9.chg.size; have := d.g6; omega)
      obtain ⟨_, c40, c41, c42, f40, f41, f42⟩ := ps10.facts
      have ps11 := ps10.f1 d (.slice A10 (acc.length + 1) c10)
      have own11 := hown10.keepFlat (chg_set (b := q4) (i := 1) (.slice A10 (acc.length + 1) c10)) (fun i h hi => by have := (hown10.lt i h).1; simp [At] at hi; omega)
      have Ps11 := Lib.hid ps11; have Own11 := Lib.hid own11
      clear ps9 own9 ps10 ps11 own11 hown10 hg10
      go_wp2_with (first | (with_reducible refine stop_append ?_) | (with_reducible refine stop_copy ?_) | (with_reducible refine stop_make ?_) | (with_reducible refine stop_lookup ?_) | (with_reducible refine stop_update ?_) | (with_reducible refine stop_slice ?_) | (with_reducible refine stop_range ?_) | (with_reducible refine stop_next ?_) | (with_reducible refine stop_convert ⟨_, rfl⟩ ?_) | (with_reducible refine stop_convertB ⟨_, _, _, rfl⟩ ?_) | (with_reducible refine stop_eqSlice ⟨_, _, rfl⟩ ?_))
      go_roundw
      case rel =>
        have e1 := Hgo.out
        rw [Hgo2.out] at e1
        exact ⟨k + 1, acc ++ [(f, g)], s7, e7, _, by omega, by go_num, Ps11.out, Own11.out, by simp; omega, by have := Hal.out; simp; omega, by rw [e1]; simp⟩
      case measure => simp [intOf]; omega
    · obtain rfl : k = N := by omega
      have hacc : acc = rs ∧ s' = s3 ∧ e' = e3 := by
        have := Hgo.out; rw [H3.out, Nat.sub_self] at this; simp [refReads] at this; exact ⟨this.1.symm, this.2.1.symm, this.2.2.symm⟩
      obtain ⟨rfl, rfl, rfl⟩ := hacc
      obtain ⟨Av, cv, rfl⟩ := hown.slice
      have hvr5 := fun i h => (hown.lt i h).1
      generalize hvr : Value.slice Av acc.length cv = vr at *
      have Hvr := Lib.hid hvr
      clear Hgo Hal hlt hvr
      obtain ⟨⟨c60, c61, f60, f61⟩, c40, c41, c42, f40, f41, f42⟩ := ps.facts
      have Ps := Lib.hid ps; clear ps
      go_wp2_with (first | (with_reducible refine stop_append ?_) | (with_reducible refine stop_copy ?_) | (with_reducible refine stop_make ?_) | (with_reducible refine stop_lookup ?_) | (with_reducible refine stop_update ?_) | (with_reducible refine stop_slice ?_) | (with_reducible refine stop_range ?_) | (with_reducible refine stop_next ?_) | (with_reducible refine stop_convert ⟨_, rfl⟩ ?_) | (with_reducible refine stop_convertB ⟨_, _, _, rfl⟩ ?_) | (with_reducible refine stop_eqSlice ⟨_, _, rfl⟩ ?_))
      refine (readnum_at _ H4.out _).mono ?_
      rintro x w6 ⟨rfl, hc6⟩
      have ps6 := Ps.out.keep hc6
      have own6 := hown.keepFlat hc6 (fun _ _ f => f)
      have hsz6 : w5.heap.size ≤ w6.heap.size := Nat.le_trans hsz hc6.size
      clear Ps c60 c61 f60 f61 c40 c41 c42 f40 f41 f42 hown hc6 hsz
      obtain ⟨⟨c60, c61, f60, f61⟩, c40, c41, c42, f40, f41, f42⟩ := ps6.facts
      have Ps6 := Lib.hid ps6; have Own6 := Lib.hid own6; clear ps6 own6
      go_wp2_with (first | (with_reducible refine stop_append ?_) | (with_reducible refine stop_copy ?_) | (with_reducible refine stop_make ?_) | (with_reducible refine stop_lookup ?_) | (with_reducible refine stop_update ?_) | (with_reducible refine stop_slice ?_) | (with_reducible refine stop_range ?_) | (with_reducible refine stop_next ?_) | (with_reducible refine stop_convert ⟨_, rfl⟩ ?_) | (with_reducible refine stop_convertB ⟨_, _, _, rfl⟩ ?_) | (with_reducible refine stop_eqSlice ⟨_, _, rfl⟩ ?_))
      have ps7 := Ps6.out.rdr d s4 e4
      have own7 := Own6.out.keepFlat (chg_set2 (q := q6) (.string s4) (.int .i64 e4)) (fun i h hi => by have := hvr5 i h; simp [At] at hi; omega)
      have hsz7 : w5.heap.size ≤ ((w6.setCell ⟨q6, 0, none⟩ (.string s4)).setCell ⟨q6, 1, none⟩ (.int .i64 e4)).heap.size := by simp; omega
      clear Ps6 Own6 c60 c61 f60 f61 c40 c41 c42 f40 f41 f42
      generalize (w6.setCell ⟨q6, 0, none⟩ (.string s4)).setCell ⟨q6, 1, none⟩ (.int .i64 e4) = w7 at *
      have hvr7 := fun i h => (own7.lt i h).2
      go_loopw [12] (fun v12 wr => ∃ (k : Nat) (ac2 : List (Int × ByteArray)) (s' : ByteArray) (e' : Int) (v : Value), k ≤ M ∧ v12 = .int .i64 k ∧ PS w q2 q4 q6 wr id vr v s' e' ∧ Own No wr w5.heap.size 52 vr acc ∧
          Own No wr w7.heap.size 59 v ac2 ∧ w7.heap.size ≤ wr.heap.size ∧ ac2.length = k ∧ refWrites M s4 e4 = (ac2 ++ (refWrites (M - k) s' e').1, (refWrites (M - k) s' e').2)) (fun v12 _ => M - (intOf v12).toNat)
      case atStart => exact ⟨0, [], s4, e4, _, by omega, rfl, ps7, own7, Own.nil _ _ _ _, Nat.le_refl _, rfl, by simp⟩
      case round =>
        obtain ⟨k, ac2, s', e', v, hk2, rfl, ps, hownr, hown, hsz, hal, hgo⟩ := hrel
        have Hgo := Lib.hid hgo; have Hal := Lib.hid hal
        clear hgo hal ps7 own7
        by_cases hlt : k < M
        · obtain ⟨f, s6, e6, h6⟩ : ∃ f s6 e6, refNum 1099511627776 s' e' = (f, s6, e6) := ⟨_, _, _, rfl⟩
          obtain ⟨g, s7, e7, h7⟩ : ∃ g s7 e7, refText 900 s6 e6 = (g, s7, e7) := ⟨_, _, _, rfl⟩
          have hgo2 : refWrites (M - k) s' e' = ((f, g) :: (refWrites (M - (k + 1)) s7 e7).1, (refWrites (M - (k + 1)) s7 e7).2) := by
            rw [show M - k = (M - (k + 1)) + 1 by omega]; simp only [refWrites, h6, h7]
          have Hgo2 := Lib.hid hgo2; have H6 := Lib.hid h6; have H7 := Lib.hid h7
          clear hgo2 h6 h7
          obtain ⟨⟨c60, c61, f60, f61⟩, c40, c41, c42, f40, f41, f42⟩ := ps.facts
          have Ps := Lib.hid ps; clear ps
          go_wp2_with (first | (with_reducible refine stop_append ?_) | (with_reducible refine stop_copy ?_) | (with_reducible refine stop_make ?_) | (with_reducible refine stop_lookup ?_) | (with_reducible refine stop_update ?_) | (with_reducible refine stop_slice ?_) | (with_reducible refine stop_range ?_) | (with_reducible refine stop_next ?_) | (with_reducible refine stop_convert ⟨_, rfl⟩ ?_) | (with_reducible refine stop_convertB ⟨_, _, _, rfl⟩ ?_) | (with_reducible refine stop_eqSlice ⟨_, _, rfl⟩ ?_))
          refine (readnum_at _ H6.out _).mono ?_
          rintro x w8 ⟨rfl, hc8⟩
          have ps8 := Ps.out.keep hc8
          have own8 := hown.keepFlat hc8 (fun _ _ f => f)
          have ownr8 := hownr.keepFlat hc8 (fun _ _ f => f)
          clear c60 c61 f60 f61 c40 c41 c42 f40 f41 f42
          go_wp2_with (first | (with_reducible refine stop_append ?_) | (with_reducible refine stop_copy ?_) | (with_reducible refine stop_make ?_) | (with_reducible refine stop_lookup ?_) | (with_reducible refine stop_update ?_) | (with_reducible refine stop_slice ?_) | (with_reducible refine stop_range ?_) | (with_reducible refine stop_next ?_) | (with_reducible refine stop_convert ⟨_, rfl⟩ ?_) | (with_reducible refine stop_convertB ⟨_, _, _, rfl⟩ ?_) | (with_reducible refine stop_eqSlice ⟨_, _, rfl⟩ ?_))
          refine (readtext_at _ H7.out _).mono ?_
          have hc89 := (Chg.refl No w8).alloc (.cells #[.string s6, .int .i64 e6] 88)
          generalize w8.alloc (.cells #[.string s6, .int .i64 e6] 88) = w8a at *
          rintro x w9 ⟨rfl, hc9⟩
          have ps9 := (ps8.keep hc89).keep hc9
          have own9 := (own8.keepFlat hc89 (fun _ _ f => f)).keepFlat hc9 (fun _ _ f => f)
          have ownr9 := (ownr8.keepFlat hc89 (fun _ _ f => f)).keepFlat hc9 (fun _ _ f => f)
          have hlt9 : w7.heap.size ≤ w9.heap.size := by have := hc89.size; have := hc9.size; have := hc8.size; omega
          have ps10 := ps9.keep ((Chg.refl No w9).alloc (.cells #[.string s7, .int .i64 e7] 88))
          have own10 := own9.alloc (.cells #[.string s7, .int .i64 e7] 88)
          have ownr10 := ownr9.alloc (.cells #[.string s7, .int .i64 e7] 88)
          obtain ⟨⟨c60, c61, f60, f61⟩, c40, c41, c42, f40, f41, f42⟩ := ps9.facts
          obtain ⟨⟨_, _, f80, f81⟩, _, _, _, f84, f85, f86⟩ := ps10.facts
          have hq69 : q6 ≠ w9.heap.size := by omega
          have hq49 : q4 ≠ w9.heap.size := by omega
          have Ps10 := Lib.hid ps10; have Own10 := Lib.hid own10; have Ownr10 := Lib.hid ownr10
          clear hc8 ps8 own8 ownr8 hc89 hc9 ps9 own9 ownr9 ps10 own10 ownr10
          go_wp2_with (first | (with_reducible refine stop_append ?_) | (with_reducible refine stop_copy ?_) | (with_reducible refine stop_make ?_) | (with_reducible refine stop_lookup ?_) | (with_reducible refine stop_update ?_) | (with_reducible refine stop_slice ?_) | (with_reducible refine stop_range ?_) | (with_reducible refine stop_next ?_) | (with_reducible refine stop_convert ⟨_, rfl⟩ ?_) | (with_reducible refine stop_convertB ⟨_, _, _, rfl⟩ ?_) | (with_reducible refine stop_eqSlice ⟨_, _, rfl⟩ ?_))
          have ps11 := Ps10.out.rdr d s7 e7
          have own11 := Own10.out.keepFlat (chg_set2 (q := q6) (.string s7) (.int .i64 e7)) (fun i h hi => by have := (hown.lt i h).1; simp [At] at hi; omega)
          have ownr11 := Ownr10.out.keepFlat (chg_set2 (q := q6) (.string s7) (.int .i64 e7)) (fun i h hi => by have := hvr5 i h; simp [At] at hi; omega)
          clear Ps10 Own10 Ownr10 c60 c61 f60 f61 c40 c41 c42 f40 f41 f42 f80 f81 f84 f85 f86
          have hs11 : (((w9.alloc (.cells #[.string s7, .int .i64 e7] 88)).setCell ⟨q6, 0, none⟩ (.string s7)).setCell ⟨q6, 1, none⟩ (.int .i64 e7)).heap.size = w9.heap.size + 1 := by simp
          generalize ((w9.alloc (.cells #[.string s7, .int .i64 e7] 88)).setCell ⟨q6, 0, none⟩ (.string s7)).setCell ⟨q6, 1, none⟩ (.int .i64 e7) = w11 at *
          rw [← hs11]
          refine step_append_flat (α := Int × ByteArray) (ys := [(f, g)]) Try.underlying23 info_rwrite rfl (own11.alloc (.cells #[.int .i64 f, .string g] 59)) rfl rfl (Sl.lit1 (F := No) (y := (f, g)) rfl ⟨[.int .i64 f], [.string g], rfl, rfl, rfl⟩ (not_no _)) (by have := Hal.out; simp; omega) (by have := Hal.out; simp [show Rep.n (Int × ByteArray) = 2 from rfl]; omega) (by simp; omega) ?_
          intro v12 w12 hown12 hg12
          obtain ⟨A12, c12, rfl⟩ := hown12.slice
          rw [show (ac2 ++ [(f, g)]).length = ac2.length + 1 by simp] at hown12
          have hvb : ∀ i, OB v i → w7.heap.size ≤ i := fun i h => (hown.lt _ h).1
          have hc112 : Chg (OB v) w11 w12 := ((Chg.refl (OB v) w11).alloc _).trans hg12.chg
          have hsz12 := hc112.size
          have ps12 := ps11.keepF hc112 (fun h => by have := hvb _ h; omega) (fun h => by have := hvb _ h; omega) (fun h => by have := hvb _ h; omega) (fun i h => by have := hvb _ h; have := ps11.chg.size; have := d.g6; omega)
          have ownr12 := ownr11.keepFlat hc112 (fun i h hi => by have := hvb _ hi; have := hvr7 i h; omega)
          obtain ⟨_, c40, c41, c42, f40, f41, f42⟩ := ps12.facts
          have ps13 := ps12.f2 d (.slice A12 (ac2.length + 1) c12)
          have own13 := hown12.keepFlat (chg_set (b := q4) (i := 2) (.slice A12 (ac2.length + 1) c12)) (fun i h hi => by have := (hown12.lt i h).1; simp [At] at hi; omega)
          have ownr13 := ownr12.keepFlat (chg_set (b := q4) (i := 2) (.slice A12 (ac2.length + 1) c12)) (fun i h hi => by have := hvr5 i h; simp [At] at hi; omega)
          have Ps13 := Lib.hid ps13; have Own13 := Lib.hid own13; have Ownr13 := Lib.hid ownr13
          clear ps11 own11 ownr11 ps12 ownr12 ps13 own13 ownr13 hown12 hg12
          go_wp2_with (first | (with_reducible refine stop_append ?_) | (with_reducible refine stop_copy ?_) | (with_reducible refine stop_make ?_) | (with_reducible refine stop_lookup ?_) | (with_reducible refine stop_update ?_) | (with_reducible refine stop_slice ?_) | (with_reducible refine stop_range ?_) | (with_reducible refine stop_next ?_) | (with_reducible refine stop_convert ⟨_, rfl⟩ ?_) | (with_reducible refine stop_convertB ⟨_, _, _, rfl⟩ ?_) | (with_reducible refine stop_eqSlice ⟨_, _, rfl⟩ ?_))
          go_roundw
          case rel =>
            have e1 := Hgo.out
            rw [Hgo2.out] at e1
            exact ⟨k + 1, ac2 ++ [(f, g)], s7, e7, _, by omega, by go_num, Ps13.out, Ownr13.out, Own13.out, by simp; omega, by have := Hal.out; simp; omega, by rw [e1]; simp⟩
          case measure => simp [intOf]; omega
        · obtain rfl : k = M := by omega
          have hacc : ac2 = ws ∧ s' = s5 ∧ e' = e5 := by
            have := Hgo.out; rw [H5.out, Nat.sub_self] at this; simp [refWrites] at this; exact ⟨this.1.symm, this.2.1.symm, this.2.2.symm⟩
          obtain ⟨rfl, rfl, rfl⟩ := hacc
          have hsl1 : Sl (Or (At q2) (Lt w.heap.size)) wr vr acc := hownr.slFlat (fun i h f => by have := hvr5 i h; have := d.g6; simp [At, Cb.Or, Lt] at f; omega)
          have hsl2 : Sl (Or (At q2) (Lt w.heap.size)) wr v ac2 := hown.slFlat (fun i h f => by have := (hown.lt i h).1; have := d.g6; simp [At, Cb.Or, Lt] at f; omega)
          have hP : refParseR s = if endE s' e' = 0 ∧ rightB id acc ac2 = true ∧ encTx id acc ac2 = s.data.toList then some (id, acc, ac2) else none := by simp [refParseR, HT.out]
          have HP := Lib.hid hP; clear hP
          clear Hgo Hal H5 H4 H3 H1 hown hownr hlt
          have hA : ∀ i, At q2 i → w.heap.size ≤ i := fun i hi => by have := d.g2; simp [At] at hi; omega
          obtain ⟨⟨c60, c61, f60, f61⟩, c40, c41, c42, f40, f41, f42⟩ := ps.facts
          have Ps := Lib.hid ps; clear ps
          have ce := refend_any s' e'
          have Ce := Lib.hid ce; clear ce
          by_cases hR : rightB id acc ac2 = true
          · have cd := refdata_yes _ id vr v acc ac2 wr hsl1 hsl2 hR
            obtain ⟨se, hse⟩ : ∃ se : ByteArray, se = ⟨(encTx id acc ac2).toArray⟩ := ⟨_, rfl⟩
            unfold str at cd
            rw [← hse] at cd
            have Cd := Lib.hid cd; clear cd
            have hes : se = s ↔ encTx id acc ac2 = s.data.toList := by
              rw [hse, ByteArray.ext_iff]; exact ⟨fun h => by rw [← h], fun h => by rw [h]⟩
            have Hes := Lib.hid hes
            clear hse hes
            go_wp2_with (first | (with_reducible refine stop_append ?_) | (with_reducible refine stop_copy ?_) | (with_reducible refine stop_make ?_) | (with_reducible refine stop_lookup ?_) | (with_reducible refine stop_update ?_) | (with_reducible refine stop_slice ?_) | (with_reducible refine stop_range ?_) | (with_reducible refine stop_next ?_) | (with_reducible refine stop_convert ⟨_, rfl⟩ ?_) | (with_reducible refine stop_convertB ⟨_, _, _, rfl⟩ ?_) | (with_reducible refine stop_eqSlice ⟨_, _, rfl⟩ ?_))
            refine Cd.out.mono ?_
            rintro x w8 ⟨rfl, hc8⟩
            have ps8 := Ps.out.keep hc8
            clear c60 c61 f60 f61 c40 c41 c42 f40 f41 f42
            obtain ⟨⟨c60, c61, f60, f61⟩, c40, c41, c42, f40, f41, f42⟩ := ps8.facts
            have Ps8 := Lib.hid ps8; clear ps8
            go_wp2_with (first | (with_reducible refine stop_append ?_) | (with_reducible refine stop_copy ?_) | (with_reducible refine stop_make ?_) | (with_reducible refine stop_lookup ?_) | (with_reducible refine stop_update ?_) | (with_reducible refine stop_slice ?_) | (with_reducible refine stop_range ?_) | (with_reducible refine stop_next ?_) | (with_reducible refine stop_convert ⟨_, rfl⟩ ?_) | (with_reducible refine stop_convertB ⟨_, _, _, rfl⟩ ?_) | (with_reducible refine stop_eqSlice ⟨_, _, rfl⟩ ?_))
            refine (Ce.out _).mono ?_
            rintro x w9 ⟨rfl, hc9⟩
            have ps9 := Ps8.out.keep hc9
            clear c60 c61 f60 f61 c40 c41 c42 f40 f41 f42
            have hslA := (hsl1.keepNo hc8).keepNo hc9
            have hslB := (hsl2.keepNo hc8).keepNo hc9
            clear hsl1 hsl2 hc8 hc9
            by_cases hg : endE s' e' = 0 ∧ se = s
            · obtain ⟨hE, rfl⟩ := hg
              have hP := HP.out
              rw [if_pos ⟨hE, hR, Hes.out.1 rfl⟩] at hP
              have HP2 := Lib.hid hP; clear hP
              rw [hE]
              obtain ⟨⟨c60, c61, f60, f61⟩, c40, c41, c42, f40, f41, f42⟩ := ps9.facts
              obtain ⟨c20, c21, c22, f20, f21, f22⟩ := ps9.facts2
              have n24 := d.n24; have n42 := d.n42
              obtain ⟨Aa, ca, rfl⟩ := hslA.slice
              obtain ⟨Ab, cb, rfl⟩ := hslB.slice
              clear hR Hvr
              have Sa := Lib.hid hslA; have Sb := Lib.hid hslB
              clear hslA hslB
              go_wp2_with (first | (with_reducible refine stop_append ?_) | (with_reducible refine stop_copy ?_) | (with_reducible refine stop_make ?_) | (with_reducible refine stop_lookup ?_) | (with_reducible refine stop_update ?_) | (with_reducible refine stop_slice ?_) | (with_reducible refine stop_range ?_) | (with_reducible refine stop_next ?_) | (with_reducible refine stop_convert ⟨_, rfl⟩ ?_) | (with_reducible refine stop_convertB ⟨_, _, _, rfl⟩ ?_) | (with_reducible refine stop_eqSlice ⟨_, _, rfl⟩ ?_))
              refine bodyPost_ret (v := .tuple #[.agg #[.int .i64 id, .slice Aa acc.length ca, .slice Ab ac2.length cb], .int .i64 0]) (by simp [results, Try.results16, go_sem, *]) rfl ?_
              have hl : ∀ {n : Nat} i, i < n → At q2 i → Or (At q2) (Lt w.heap.size) i := fun _ _ h => .inl h
              exact .inl ⟨id, acc, ac2, _, _, HP2.out, rfl, ((ps9.chg.old (chg_set _) hA).old (chg_set _) hA).old (chg_set _) hA, (((Sa.out.keep ((chg_set _).weak hl)).keep ((chg_set _).weak hl)).keep ((chg_set _).weak hl)).weak (fun _ _ f => .inr f), (((Sb.out.keep ((chg_set _).weak hl)).keep ((chg_set _).weak hl)).keep ((chg_set _).weak hl)).weak (fun _ _ f => .inr f)⟩
            · have hP := HP.out
              rw [if_neg (fun h => hg ⟨h.1, Hes.out.2 h.2.2⟩)] at hP
              have HP2 := Lib.hid hP; clear hP
              clear hslA hslB hR
              by_cases hE : endE s' e' = 0
              · have hne : (se.toList == s.toList) = false := tl_ne (fun h => hg ⟨hE, h⟩)
                rw [hE]
                clear hg hE
                obtain ⟨⟨c60, c61, f60, f61⟩, c40, c41, c42, f40, f41, f42⟩ := ps9.facts
                obtain ⟨c20, c21, c22, f20, f21, f22⟩ := ps9.facts2
                have n24 := d.n24; have n42 := d.n42
                go_wp2_with (first | (with_reducible refine stop_append ?_) | (with_reducible refine stop_copy ?_) | (with_reducible refine stop_make ?_) | (with_reducible refine stop_lookup ?_) | (with_reducible refine stop_update ?_) | (with_reducible refine stop_slice ?_) | (with_reducible refine stop_range ?_) | (with_reducible refine stop_next ?_) | (with_reducible refine stop_convert ⟨_, rfl⟩ ?_) | (with_reducible refine stop_convertB ⟨_, _, _, rfl⟩ ?_) | (with_reducible refine stop_eqSlice ⟨_, _, rfl⟩ ?_))
                refine bodyPost_ret (v := .tuple #[.agg #[.int .i64 0, .slice none 0 0, .slice none 0 0], .int .i64 1]) (by simp [results, Try.results16, go_sem, *]) rfl ?_
                exact .inr ⟨HP2.out, rfl, ((ps9.chg.old (chg_set _) hA).old (chg_set _) hA).old (chg_set _) hA⟩
              · have hE' : (endE s' e' == 0) = false := by simpa using hE
                have hE2 : (endE s' e' != 0) = true := by simpa using hE
                have hE3 : ¬ endE s' e' = 0 := hE
                clear hg hE
                generalize endE s' e' = ee at *
                obtain ⟨⟨c60, c61, f60, f61⟩, c40, c41, c42, f40, f41, f42⟩ := ps9.facts
                obtain ⟨c20, c21, c22, f20, f21, f22⟩ := ps9.facts2
                have n24 := d.n24; have n42 := d.n42
                go_wp2_with (first | (with_reducible refine stop_append ?_) | (with_reducible refine stop_copy ?_) | (with_reducible refine stop_make ?_) | (with_reducible refine stop_lookup ?_) | (with_reducible refine stop_update ?_) | (with_reducible refine stop_slice ?_) | (with_reducible refine stop_range ?_) | (with_reducible refine stop_next ?_) | (with_reducible refine stop_convert ⟨_, rfl⟩ ?_) | (with_reducible refine stop_convertB ⟨_, _, _, rfl⟩ ?_) | (with_reducible refine stop_eqSlice ⟨_, _, rfl⟩ ?_))
                refine bodyPost_ret (v := .tuple #[.agg #[.int .i64 0, .slice none 0 0, .slice none 0 0], .int .i64 1]) (by simp [results, Try.results16, go_sem, *]) rfl ?_
                exact .inr ⟨HP2.out, rfl, ((ps9.chg.old (chg_set _) hA).old (chg_set _) hA).old (chg_set _) hA⟩
          · have hR : rightB id acc ac2 = false := by simpa using hR
            have cd := refdata_no _ id vr v acc ac2 wr hsl1 hsl2 hR
            have Cd := Lib.hid cd; clear cd
            have hP := HP.out
            rw [if_neg (fun h => by rw [hR] at h; cases h.2.1)] at hP
            have HP2 := Lib.hid hP; clear hP
            clear hR hsl1 hsl2
            go_wp2_with (first | (with_reducible refine stop_append ?_) | (with_reducible refine stop_copy ?_) | (with_reducible refine stop_make ?_) | (with_reducible refine stop_lookup ?_) | (with_reducible refine stop_update ?_) | (with_reducible refine stop_slice ?_) | (with_reducible refine stop_range ?_) | (with_reducible refine stop_next ?_) | (with_reducible refine stop_convert ⟨_, rfl⟩ ?_) | (with_reducible refine stop_convertB ⟨_, _, _, rfl⟩ ?_) | (with_reducible refine stop_eqSlice ⟨_, _, rfl⟩ ?_))
            refine Cd.out.mono ?_
            rintro x w8 ⟨rfl, hc8⟩
            have ps8 := Ps.out.keep hc8
            clear c60 c61 f60 f61 c40 c41 c42 f40 f41 f42
            obtain ⟨⟨c60, c61, f60, f61⟩, c40, c41, c42, f40, f41, f42⟩ := ps8.facts
            have Ps8 := Lib.hid ps8; clear ps8
            go_wp2_with (first | (with_reducible refine stop_append ?_) | (with_reducible refine stop_copy ?_) | (with_reducible refine stop_make ?_) | (with_reducible refine stop_lookup ?_) | (with_reducible refine stop_update ?_) | (with_reducible refine stop_slice ?_) | (with_reducible refine stop_range ?_) | (with_reducible refine stop_next ?_) | (with_reducible refine stop_convert ⟨_, rfl⟩ ?_) | (with_reducible refine stop_convertB ⟨_, _, _, rfl⟩ ?_) | (with_reducible refine stop_eqSlice ⟨_, _, rfl⟩ ?_))
            refine (Ce.out _).mono ?_
            rintro x w9 ⟨rfl, hc9⟩
            have ps9 := Ps8.out.keep hc9
            clear c60 c61 f60 f61 c40 c41 c42 f40 f41 f42
            by_cases hE : endE s' e' = 0
            · rw [hE]
              clear hE
              obtain ⟨⟨c60, c61, f60, f61⟩, c40, c41, c42, f40, f41, f42⟩ := ps9.facts
              obtain ⟨c20, c21, c22, f20, f21, f22⟩ := ps9.facts2
              have n24 := d.n24; have n42 := d.n42
              go_wp2_with (first | (with_reducible refine stop_append ?_) | (with_reducible refine stop_copy ?_) | (with_reducible refine stop_make ?_) | (with_reducible refine stop_lookup ?_) | (with_reducible refine stop_update ?_) | (with_reducible refine stop_slice ?_) | (with_reducible refine stop_range ?_) | (with_reducible refine stop_next ?_) | (with_reducible refine stop_convert ⟨_, rfl⟩ ?_) | (with_reducible refine stop_convertB ⟨_, _, _, rfl⟩ ?_) | (with_reducible refine stop_eqSlice ⟨_, _, rfl⟩ ?_))
              refine bodyPost_ret (v := .tuple #[.agg #[.int .i64 0, .slice none 0 0, .slice none 0 0], .int .i64 1]) (by simp [results, Try.results16, go_sem, *]) rfl ?_
              exact .inr ⟨HP2.out, rfl, ((ps9.chg.old (chg_set _) hA).old (chg_set _) hA).old (chg_set _) hA⟩
            · have hE' : (endE s' e' == 0) = false := by simpa using hE
              have hE2 : (endE s' e' != 0) = true := by simpa using hE
              have hE3 : ¬ endE s' e' = 0 := hE
              clear hE
              generalize endE s' e' = ee at *
              obtain ⟨⟨c60, c61, f60, f61⟩, c40, c41, c42, f40, f41, f42⟩ := ps9.facts
              obtain ⟨c20, c21, c22, f20, f21, f22⟩ := ps9.facts2
              have n24 := d.n24; have n42 := d.n42
              go_wp2_with (first | (with_reducible refine stop_append ?_) | (with_reducible refine stop_copy ?_) | (with_reducible refine stop_make ?_) | (with_reducible refine stop_lookup ?_) | (with_reducible refine stop_update ?_) | (with_reducible refine stop_slice ?_) | (with_reducible refine stop_range ?_) | (with_reducible refine stop_next ?_) | (with_reducible refine stop_convert ⟨_, rfl⟩ ?_) | (with_reducible refine stop_convertB ⟨_, _, _, rfl⟩ ?_) | (with_reducible refine stop_eqSlice ⟨_, _, rfl⟩ ?_))
              refine bodyPost_ret (v := .tuple #[.agg #[.int .i64 0, .slice none 0 0, .slice none 0 0], .int .i64 1]) (by simp [results, Try.results16, go_sem, *]) rfl ?_
              exact .inr ⟨HP2.out, rfl, ((ps9.chg.old (chg_set _) hA).old (chg_set _) hA).old (chg_set _) hA⟩
end Go.Proofs.Ytnioljagmimojaa
