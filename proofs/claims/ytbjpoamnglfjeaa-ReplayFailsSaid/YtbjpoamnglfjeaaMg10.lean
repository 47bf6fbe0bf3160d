/- Texts RepL. -/
import Derived.Test.YtbjpoamnglfjeaaMg9
/- Walk of the law ReplayFails. -/
set_option linter.unusedVariables false
set_option linter.unusedSimpArgs false
namespace Go.Proofs.Ytbjpoamnglfjeaa
open Go.RowKit Cb

theorem runs_tb {rows : List Rw} {bad : Bool} (hi : RowsI rows) {st st1 : RSt} (h : Runs rows bad st st1) (htb : ∀ t, TailB (st.fed t)) : ∀ t, TailB (st1.fed t) := by
  induction h with
  | refl => exact htb
  | step _ h2 ih =>
    have hk := known_kn hi ih
    unfold roundF roundK at h2
    generalize knownF rows _ = k at *
    have hf := hk.fed
    split at h2
    · cases h2
    · split at h2
      · split at h2
        · cases h2; rw [hf]; exact ih
        · cases h2
      · unfold roundG at h2
        simp only at h2
        split at h2
        · cases h2
        · split at h2
          · split at h2 <;> cases h2
          · cases h2; rw [hf]; exact ih
theorem bad_two {rows : List Rw} (hi : RowsI rows) {st s : RSt} {out : Itm × Int} (htb : ∀ t, TailB (st.fed t)) (h : StepR rows true st s out) :
    (out.2 = 0 → out.1.1 = 2 ∧ StepR rows false st s out) ∧ (out.2 ≠ 0 → ∃ s2 o2, StepR rows false st s2 o2 ∧ StepR rows false s s2 o2) :=
  bad_step h (fun st1 hr => known_kn hi (runs_tb hi hr htb))
theorem stepR_tags {rows : List Rw} {bad : Bool} {st s : RSt} {out : Itm × Int} (h : StepR rows bad st s out) : out.1.2.2.1.2.1.length ≤ 1 := by
  obtain ⟨a, _, h1⟩ := h
  unfold roundF roundK at h1
  generalize knownF rows a = k at *
  split at h1
  · cases h1; simp [itm0]
  · split at h1
    · split at h1
      · cases h1
      · cases h1; simp [itm0]
    · unfold roundG at h1
      simp only at h1
      split at h1
      · cases h1; simp [trimItm]
      · split at h1
        · split at h1 <;> cases h1
          · simp [itm0]
          · simp [recItm, dataF]
        · cases h1
theorem Rpl.tb {w : World} {S : Nat → Prop} {p : Nat} {st : RSt} (h : Rpl w S p st) : ∀ t, TailB (st.fed t) := by obtain ⟨_, _, _, _, h⟩ := h; exact h.tb
/-- Two replays, and nothing of the one is the other's. -/
structure Two (n : Nat) (w : World) (pa pb : Nat) (sa sb : RSt) (Sa Sb : Nat → Prop) : Prop where
  a : Rpl w Sa pa sa
  b : Rpl w Sb pb sb
  dis : ∀ b, Sa b → ¬ Sb b
  na : ∀ b, Sa b → n ≤ b
  nb : ∀ b, Sb b → n ≤ b
  lt : n ≤ w.heap.size
theorem Two.no {n : Nat} {w w' : World} {pa pb : Nat} {sa sb : RSt} {Sa Sb : Nat → Prop} (h : Two n w pa pb sa sb Sa Sb) (hc : Chg No w w') : Two n w' pa pb sa sb Sa Sb :=
  ⟨h.a.keepNo hc, h.b.keepNo hc, h.dis, h.na, h.nb, Nat.le_trans h.lt hc.size⟩
theorem Two.keep {n : Nat} {w w' : World} {pa pb : Nat} {sa sb : RSt} {Sa Sb G : Nat → Prop} (h : Two n w pa pb sa sb Sa Sb) (hc : Chg G w w') (hG : ∀ b, G b → ¬ Sa b ∧ ¬ Sb b) : Two n w' pa pb sa sb Sa Sb :=
  ⟨h.a.keep hc (fun b _ g => (hG b g).1), h.b.keep hc (fun b _ g => (hG b g).2), h.dis, h.na, h.nb, Nat.le_trans h.lt hc.size⟩
theorem Two.ma {n : Nat} {w w' : World} {pa pb : Nat} {sa sb sa' : RSt} {Sa Sb Sa' : Nat → Prop} (h : Two n w pa pb sa sb Sa Sb) (hc : Chg Sa w w') (hr : Rpl w' Sa' pa sa') (hS : ∀ b, Sa' b → Sa b ∨ w.heap.size ≤ b) : Two n w' pa pb sa' sb Sa' Sb :=
  ⟨hr, h.b.keep hc (fun b _ s t => h.dis b s t), fun b s t => by rcases hS b s with s | s; exact h.dis b s t; (have := h.b.lt b t; omega), fun b s => by rcases hS b s with s | s; exact h.na b s; (have := h.lt; omega), h.nb, Nat.le_trans h.lt hc.size⟩
theorem Two.mb {n : Nat} {w w' : World} {pa pb : Nat} {sa sb sb' : RSt} {Sa Sb Sb' : Nat → Prop} (h : Two n w pa pb sa sb Sa Sb) (hc : Chg Sb w w') (hr : Rpl w' Sb' pb sb') (hS : ∀ b, Sb' b → Sb b ∨ w.heap.size ≤ b) : Two n w' pa pb sa sb' Sa Sb' :=
  ⟨h.a.keep hc (fun b _ s t => h.dis b t s), hr, fun b s t => by rcases hS b t with t | t; exact h.dis b s t; (have := h.a.lt b s; omega), h.na, fun b s => by rcases hS b s with s | s; exact h.nb b s; (have := h.lt; omega), Nat.le_trans h.lt hc.size⟩
theorem op16_mk {F : Nat → Prop} {w : World} {v : Value} {l : List Ent} (h : Sl F w v l) : Rep.cs F w ((0, 0, ((0, [], []), []), l, false) : Op16) [.int .i64 0, .int .i64 0, .int .i64 0, .slice none 0 0, .slice none 0 0, .slice none 0 0, v, .bool false] :=
  ⟨[_], [_, _, _, _, _, _, _], rfl, rfl, [_], [_, _, _, _, _, _], rfl, rfl, [_, _, _, _], [_, _], rfl, ⟨[_, _, _], [_], rfl, ⟨[_], [_, _], rfl, rfl, [_], [_], rfl, ⟨_, rfl, Sl.nil _ _ _ _⟩, _, rfl, Sl.nil _ _ _ _⟩, _, rfl, Sl.nil _ _ _ _⟩, [_], [_], rfl, ⟨_, rfl, h⟩, rfl⟩
set_option maxRecDepth 100000 in
set_option maxHeartbeats 8000000 in
theorem rpfails_any (t : Int) (vq vs v : Value) (q : List Int) (s : List (List Int)) (l : List Ent) (many : Int) (w : World) (hq : Sl No w vq q) (hs : Sl No w vs s) (h : Sl No w v l) (hl : TailI l) (hc : CfgI q s) :
    Calls Try.prog 11 #[cfgV t vq vs, v, .int .i64 many] w fun e w' => e = .returned (.bool true) ∧ Chg No w w' := by
  have Hno := Lib.hid (fun (hr : rightC t q s = false) W (hW : Chg No w W) => new_no No No t vq vs q s W (hq.keepNo hW) (hs.keepNo hW) hc.1 (by have := hc.2.1; omega) hc.2.2 hr)
  have Hyes := Lib.hid (fun (hr : rightC t q s = true) W (hW : Chg No w W) => new_yes t vq vs q s W (hq.keepNo hW) (hs.keepNo hW) hr)
  have Hal := Lib.hid (fun W => palive_any W)
  have Hq := Lib.hid (fun W (hW : Chg No w W) => hq.keepNo hW)
  have Hs := Lib.hid (fun W (hW : Chg No w W) => hs.keepNo hW)
  have Hl := Lib.hid (fun W (hW : Chg No w W) => h.keepNo hW)
  have Hc := Lib.hid hc
  have Hb := Lib.hid hl
  obtain ⟨Aq, cq, rfl⟩ := hq.slice
  obtain ⟨As, cs, rfl⟩ := hs.slice
  obtain ⟨A, c, rfl⟩ := h.slice
  unfold cfgV at *
  have o1 := alloc_obj w (.cells #[.int .i64 t, .slice Aq q.length cq, .slice As s.length cs] 63)
  have hc0 := (Chg.refl No w).alloc (.cells #[.int .i64 t, .slice Aq q.length cq, .slice As s.length cs] 63)
  have a0 := cell_obj (i := 0) o1 rfl
  have a1 := cell_obj (i := 1) o1 rfl
  have a2 := cell_obj (i := 2) o1 rfl
  clear hq hs h hc hl
  go_enter Try.func11, Try.ntmps11
  go_wp2_with (with_reducible first | refine stop_append ?_ | refine stop_copy ?_ | refine stop_make ?_ | refine stop_lookup ?_ | refine stop_update ?_ | refine stop_slice ?_ | refine stop_range ?_ | refine stop_next ?_ | refine stop_convert ⟨_, rfl⟩ ?_ | refine stop_convertB ⟨_, _, _, rfl⟩ ?_ | refine stop_eqSlice ⟨_, _, rfl⟩ ?_)
  generalize w.alloc (.cells #[.int .i64 t, .slice Aq q.length cq, .slice As s.length cs] 63) = w0 at *
  generalize w.heap.size = q3 at *
  rcases hr : rightC t q s with _ | _
  · refine (Hno.out hr w0 hc0).mono ?_
    rintro e w1 ⟨rfl, hc1⟩
    go_wp2_with (with_reducible first | refine stop_append ?_ | refine stop_copy ?_ | refine stop_make ?_ | refine stop_lookup ?_ | refine stop_update ?_ | refine stop_slice ?_ | refine stop_range ?_ | refine stop_next ?_ | refine stop_convert ⟨_, rfl⟩ ?_ | refine stop_convertB ⟨_, _, _, rfl⟩ ?_ | refine stop_eqSlice ⟨_, _, rfl⟩ ?_)
    refine (Hal.out _).mono ?_
    rintro e w2 ⟨rfl, hc2⟩
    go_wp2_with (with_reducible first | refine stop_append ?_ | refine stop_copy ?_ | refine stop_make ?_ | refine stop_lookup ?_ | refine stop_update ?_ | refine stop_slice ?_ | refine stop_range ?_ | refine stop_next ?_ | refine stop_convert ⟨_, rfl⟩ ?_ | refine stop_convertB ⟨_, _, _, rfl⟩ ?_ | refine stop_eqSlice ⟨_, _, rfl⟩ ?_)
    go_ret
    exact ⟨rfl, (hc0.trans hc1).trans hc2⟩
  · refine (Hyes.out hr w0 hc0).mono ?_
    rintro e w1 ⟨p, rfl, hc1, hreg⟩
    have hrn := hreg.regN
    have hcw1 := hc0.trans hc1
    have o11 := hc1.obj o1 (not_no _)
    replace a0 := cell_obj (i := 0) o11 rfl
    replace a1 := cell_obj (i := 1) o11 rfl
    replace a2 := cell_obj (i := 2) o11 rfl
    have hsc := Sl.lit1 (F := No) (w := w1) (T := 95) (y := ((0, 0, ((0, [], []), []), l, false) : Op16)) (C := #[.int .i64 0, .int .i64 0, .int .i64 0, .slice none 0 0, .slice none 0 0, .slice none 0 0, .slice A l.length c, .bool false]) rfl (op16_mk (Hl.out w1 hcw1)) (not_no _)
    have hc2 := (Chg.refl No w1).alloc (.cells #[.int .i64 0, .int .i64 0, .int .i64 0, .slice none 0 0, .slice none 0 0, .slice none 0 0, .slice A l.length c, .bool false] 95)
    have Hfew := Lib.hid (fewp_any No No No t (.slice Aq q.length cq) (.slice As s.length cs) (.slice (some ⟨w1.heap.size, 0, none⟩) 1 1) q s [(0, 0, ((0, [], []), []), l, false)] (w1.alloc (.cells #[.int .i64 0, .int .i64 0, .int .i64 0, .slice none 0 0, .slice none 0 0, .slice none 0 0, .slice A l.length c, .bool false] 95)) (Hq.out _ (hcw1.trans hc2)) (Hs.out _ (hcw1.trans hc2)) hsc (by simp) Hc.out (fun o ho => by
      simp only [List.mem_singleton] at ho; subst ho
      exact ⟨⟨by simp, by simp, by simp⟩, ⟨by simp, by simp⟩, Hb.out, by have := Hb.out.1; simp; omega⟩))
    unfold cfgV at Hfew
    clear hsc
    go_wp2_with (with_reducible first | refine stop_append ?_ | refine stop_copy ?_ | refine stop_make ?_ | refine stop_lookup ?_ | refine stop_update ?_ | refine stop_slice ?_ | refine stop_range ?_ | refine stop_next ?_ | refine stop_convert ⟨_, rfl⟩ ?_ | refine stop_convertB ⟨_, _, _, rfl⟩ ?_ | refine stop_eqSlice ⟨_, _, rfl⟩ ?_)
    refine Hfew.out.mono ?_
    rintro e w3 ⟨⟨b, rfl⟩, hc3⟩
    have hc13 := hc2.trans hc3
    have hcw3 := hcw1.trans hc13
    rcases b with _ | _
    · go_wp2_with (with_reducible first | refine stop_append ?_ | refine stop_copy ?_ | refine stop_make ?_ | refine stop_lookup ?_ | refine stop_update ?_ | refine stop_slice ?_ | refine stop_range ?_ | refine stop_next ?_ | refine stop_convert ⟨_, rfl⟩ ?_ | refine stop_convertB ⟨_, _, _, rfl⟩ ?_ | refine stop_eqSlice ⟨_, _, rfl⟩ ?_)
      refine (Hal.out _).mono ?_
      rintro e w4 ⟨rfl, hc4⟩
      go_wp2_with (with_reducible first | refine stop_append ?_ | refine stop_copy ?_ | refine stop_make ?_ | refine stop_lookup ?_ | refine stop_update ?_ | refine stop_slice ?_ | refine stop_range ?_ | refine stop_next ?_ | refine stop_convert ⟨_, rfl⟩ ?_ | refine stop_convertB ⟨_, _, _, rfl⟩ ?_ | refine stop_eqSlice ⟨_, _, rfl⟩ ?_)
      go_ret
      exact ⟨rfl, hcw3.trans hc4⟩
    · by_cases hm0 : many < 0
      · go_wp2_with (with_reducible first | refine stop_append ?_ | refine stop_copy ?_ | refine stop_make ?_ | refine stop_lookup ?_ | refine stop_update ?_ | refine stop_slice ?_ | refine stop_range ?_ | refine stop_next ?_ | refine stop_convert ⟨_, rfl⟩ ?_ | refine stop_convertB ⟨_, _, _, rfl⟩ ?_ | refine stop_eqSlice ⟨_, _, rfl⟩ ?_)
        refine (Hal.out _).mono ?_
        rintro e w4 ⟨rfl, hc4⟩
        go_wp2_with (with_reducible first | refine stop_append ?_ | refine stop_copy ?_ | refine stop_make ?_ | refine stop_lookup ?_ | refine stop_update ?_ | refine stop_slice ?_ | refine stop_range ?_ | refine stop_next ?_ | refine stop_convert ⟨_, rfl⟩ ?_ | refine stop_convertB ⟨_, _, _, rfl⟩ ?_ | refine stop_eqSlice ⟨_, _, rfl⟩ ?_)
        go_ret
        exact ⟨rfl, hcw3.trans hc4⟩
      · by_cases hm2 : 200 < many
        · go_wp2_with (with_reducible first | refine stop_append ?_ | refine stop_copy ?_ | refine stop_make ?_ | refine stop_lookup ?_ | refine stop_update ?_ | refine stop_slice ?_ | refine stop_range ?_ | refine stop_next ?_ | refine stop_convert ⟨_, rfl⟩ ?_ | refine stop_convertB ⟨_, _, _, rfl⟩ ?_ | refine stop_eqSlice ⟨_, _, rfl⟩ ?_)
          refine (Hal.out _).mono ?_
          rintro e w4 ⟨rfl, hc4⟩
          go_wp2_with (with_reducible first | refine stop_append ?_ | refine stop_copy ?_ | refine stop_make ?_ | refine stop_lookup ?_ | refine stop_update ?_ | refine stop_slice ?_ | refine stop_range ?_ | refine stop_next ?_ | refine stop_convert ⟨_, rfl⟩ ?_ | refine stop_convertB ⟨_, _, _, rfl⟩ ?_ | refine stop_eqSlice ⟨_, _, rfl⟩ ?_)
          go_ret
          exact ⟨rfl, hcw3.trans hc4⟩
        · obtain ⟨ht1, ht64⟩ := (rightC_iff.1 hr).1
          have hsml := right_small hr
          have o13 := hc13.obj o11 (not_no _)
          have hrn3 := hrn.keepNo hc13
          have hq3 := lt_of_heap o11
          replace a0 := cell_obj (i := 0) o13 rfl
          have hi0 := Lib.hid (new_reg hr).1
          obtain ⟨rows, hrows⟩ : ∃ r, r = [((t, q, s, [], false) : Rw)] := ⟨_, rfl⟩
          have Hrows := Lib.hid hrows
          rw [← hrows] at hrn3 hi0
          clear hrn hrows hreg a1 a2 o1 o11 Hfew Hno Hyes hr hc2 hc3
          go_wp2_with (with_reducible first | refine stop_append ?_ | refine stop_copy ?_ | refine stop_make ?_ | refine stop_lookup ?_ | refine stop_update ?_ | refine stop_slice ?_ | refine stop_range ?_ | refine stop_next ?_ | refine stop_convert ⟨_, rfl⟩ ?_ | refine stop_convertB ⟨_, _, _, rfl⟩ ?_ | refine stop_eqSlice ⟨_, _, rfl⟩ ?_)
          refine (rpnew_yes t w3 ht1 ht64).mono ?_
          rintro e w4 ⟨pa, rfl, hc4, hra⟩
          have o14 := hc4.obj o13 (not_no _)
          replace a0 := cell_obj (i := 0) o14 rfl
          go_wp2_with (with_reducible first | refine stop_append ?_ | refine stop_copy ?_ | refine stop_make ?_ | refine stop_lookup ?_ | refine stop_update ?_ | refine stop_slice ?_ | refine stop_range ?_ | refine stop_next ?_ | refine stop_convert ⟨_, rfl⟩ ?_ | refine stop_convertB ⟨_, _, _, rfl⟩ ?_ | refine stop_eqSlice ⟨_, _, rfl⟩ ?_)
          refine (rpnew_yes t w4 ht1 ht64).mono ?_
          rintro e w5 ⟨pb, rfl, hc5, hrb⟩
          have o15 := hc5.obj o14 (not_no _)
          replace a0 := cell_obj (i := 0) o15 rfl
          have h13 := hc13.size
          have h34 := hc4.size
          have htw : Two w1.heap.size w5 pa pb ⟨t, 0, 0, fun _ => [], none⟩ ⟨t, 0, 0, fun _ => [], none⟩ (fun k => w3.heap.size ≤ k ∧ k < w4.heap.size) (fun k => w4.heap.size ≤ k ∧ k < w5.heap.size) :=
            ⟨hra.keepNo hc5, hrb, fun b h1 h2 => by omega, fun b h1 => by omega, fun b h1 => by omega, by have := hc5.size; omega⟩
          have hrn5 := (hrn3.keepNo hc4).keepNo hc5
          have hcw5 := (hcw3.trans hc4).trans hc5
          obtain ⟨n, hn⟩ : ∃ n, n = w1.heap.size := ⟨_, rfl⟩
          obtain ⟨B, hB⟩ : ∃ n, n = w0.heap.size := ⟨_, rfl⟩
          rw [← hn] at htw hrn5 hq3
          rw [← hB] at hrn5
          have hwn : w.heap.size ≤ n := by have := hcw1.size; omega
          generalize (fun k => w3.heap.size ≤ k ∧ k < w4.heap.size) = Sa at htw
          generalize (fun k => w4.heap.size ≤ k ∧ k < w5.heap.size) = Sb at htw
          clear hn hB hra hrb hc4 hc5 o13 o14 hrn3 h13 h34 hc13 hc1 hcw3 hcw1 hc0
          have hlen : l.length * 64 ≤ 140737488355328 := by have := Hb.out.1; omega
          have hcut := Lib.hid (show cutsB l from fun e he => by have := Hb.out.2 e he; omega)
          go_wp2_with (with_reducible first | refine stop_append ?_ | refine stop_copy ?_ | refine stop_make ?_ | refine stop_lookup ?_ | refine stop_update ?_ | refine stop_slice ?_ | refine stop_range ?_ | refine stop_next ?_ | refine stop_convert ⟨_, rfl⟩ ?_ | refine stop_convertB ⟨_, _, _, rfl⟩ ?_ | refine stop_eqSlice ⟨_, _, rfl⟩ ?_)
          have cd := (Chg.refl No w5).drew
          refine rt_start (fun W => W.cell? ⟨q3, 0, none⟩ = some (.int .i64 t)) (by kernel_rfl) ?_
          iterate 5 ((refine rt_nx [] (v := ?_) rfl (by kernel_rfl) (fun _ _ _ h => h) rfl ?_ ?_; rotate_left; focus (intro W hW; (try dsimp only at hW); go_split_ands; go_simp; (try (simp (disch := omega) only [IntWalk.i64_in]; (try go_simp))); (try (split; (next => omega); (try go_simp))); try rfl; done)); try simp only [Act.put, List.setIfInBounds_toArray, List.set_cons_zero, List.set_cons_succ, Nat.reduceAdd])
          refine rt_kx (fun W => W.cell? ⟨q3, 0, none⟩ = some (.int .i64 t)) 5 (by kernel_rfl) (cell_obj (i := 0) (cd.obj o15 (not_no _)) rfl) (fun _ h => h) rfl (by rfl) (fun K hK => ?_)
          go_simp
          refine (mine16_any (.slice A l.length c) l _ (Hl.out _ (hcw5.trans cd)) hlen).mono ?_
          rintro e w6 ⟨vm, rfl, hc6, hsm⟩
          have cd6 := cd.trans hc6
          refine hK _ _ ?_
          clear hK K
          try simp only [Act.put, List.setIfInBounds_toArray, List.set_cons_zero, List.set_cons_succ]
          refine rt_kx (fun W => W.cell? ⟨q3, 0, none⟩ = some (.int .i64 t)) 6 (by kernel_rfl) (cell_obj (i := 0) (cd6.obj o15 (not_no _)) rfl) (fun _ h => h) rfl (by rfl) (fun K hK => ?_)
          go_simp
          refine (feed_at Sa pa B p vm ⟨t, 0, 0, fun _ => [], none⟩ rows l 0 t s.length w6 (htw.no cd6).a (hrn5.keepNo cd6).toS hi0.out (by simp [Hrows.out]) (by simp [Hrows.out]) hsm Hb.out.1 hcut.out (by rw [Hrows.out]; simp [firstR]) (by simp [Hrows.out]) rfl).mono ?_
          rintro e w7 ⟨rfl, hc7, hra7⟩
          have htw7 := (htw.no cd6).ma hc7 hra7 (fun b s => by rcases s with s | s; exact .inl s; exact .inr s.1)
          have hna := htw.na
          have hrn7 := (hrn5.keepNo cd6).keep hc7 (fun b _ s => hna b s)
          have o17 := hc7.obj (cd6.obj o15 (not_no _)) (fun s => by have := hna _ s; omega)
          have hcw7 : Chg No w w7 := (hcw5.trans cd6).old hc7 (fun b s => by have := hna b s; omega)
          generalize Up Sa w6 w7 = Sa7 at htw7
          refine hK _ _ ?_
          clear hK K
          try simp only [Act.put, List.setIfInBounds_toArray, List.set_cons_zero, List.set_cons_succ]
          refine rt_done (by kernel_rfl)  ?_
          clear htw hrn5 hra7 hc7 cd6 hc6 cd hcw5 o15 hsm
          go_wp2_with (with_reducible first | refine stop_append ?_ | refine stop_copy ?_ | refine stop_make ?_ | refine stop_lookup ?_ | refine stop_update ?_ | refine stop_slice ?_ | refine stop_range ?_ | refine stop_next ?_ | refine stop_convert ⟨_, rfl⟩ ?_ | refine stop_convertB ⟨_, _, _, rfl⟩ ?_ | refine stop_eqSlice ⟨_, _, rfl⟩ ?_)
          have cd := (Chg.refl No w7).drew
          refine rt_start (fun W => W.cell? ⟨q3, 0, none⟩ = some (.int .i64 t)) (by kernel_rfl) ?_
          iterate 5 ((refine rt_nx [] (v := ?_) rfl (by kernel_rfl) (fun _ _ _ h => h) rfl ?_ ?_; rotate_left; focus (intro W hW; (try dsimp only at hW); go_split_ands; go_simp; (try (simp (disch := omega) only [IntWalk.i64_in]; (try go_simp))); (try (split; (next => omega); (try go_simp))); try rfl; done)); try simp only [Act.put, List.setIfInBounds_toArray, List.set_cons_zero, List.set_cons_succ, Nat.reduceAdd])
          refine rt_kx (fun W => W.cell? ⟨q3, 0, none⟩ = some (.int .i64 t)) 5 (by kernel_rfl) (cell_obj (i := 0) (cd.obj o17 (not_no _)) rfl) (fun _ h => h) rfl (by rfl) (fun K hK => ?_)
          go_simp
          refine (mine16_any (.slice A l.length c) l _ (Hl.out _ (hcw7.trans cd)) hlen).mono ?_
          rintro e w8 ⟨vm2, rfl, hc8, hsm⟩
          have cd8 := cd.trans hc8
          refine hK _ _ ?_
          clear hK K
          try simp only [Act.put, List.setIfInBounds_toArray, List.set_cons_zero, List.set_cons_succ]
          refine rt_kx (fun W => W.cell? ⟨q3, 0, none⟩ = some (.int .i64 t)) 6 (by kernel_rfl) (cell_obj (i := 0) (cd8.obj o17 (not_no _)) rfl) (fun _ h => h) rfl (by rfl) (fun K hK => ?_)
          go_simp
          refine (feed_at Sb pb B p vm2 ⟨t, 0, 0, fun _ => [], none⟩ rows l 0 t s.length w8 (htw7.no cd8).b (hrn7.keepNo cd8).toS hi0.out (by simp [Hrows.out]) (by simp [Hrows.out]) hsm Hb.out.1 hcut.out (by rw [Hrows.out]; simp [firstR]) (by simp [Hrows.out]) rfl).mono ?_
          rintro e w9 ⟨rfl, hc9, hrb9⟩
          have htw9 := (htw7.no cd8).mb hc9 hrb9 (fun b s => by rcases s with s | s; exact .inl s; exact .inr s.1)
          have hnb := htw7.nb
          have hrn9 := (hrn7.keepNo cd8).keep hc9 (fun b _ s => hnb b s)
          have hcw9 : Chg No w w9 := (hcw7.trans cd8).old hc9 (fun b s => by have := hnb b s; omega)
          generalize Up Sb w8 w9 = Sb9 at htw9
          refine hK _ _ ?_
          clear hK K
          try simp only [Act.put, List.setIfInBounds_toArray, List.set_cons_zero, List.set_cons_succ]
          refine rt_done (by kernel_rfl)  ?_
          clear hrn7 hrb9 hc9 cd8 hc8 cd hcw7 o17 hsm htw7
          have hst : ((feedF ⟨t, 0, 0, fun _ => [], none⟩ s.length t l).1.ent ≤ 2199023255488 ∧ 1 ≤ (feedF ⟨t, 0, 0, fun _ => [], none⟩ s.length t l).1.term ∧ (feedF ⟨t, 0, 0, fun _ => [], none⟩ s.length t l).1.term ≤ curR rows) := by
            have hcr : curR rows = t := by rw [Hrows.out]; simp [curR, firstR]
            rw [hcr]
            unfold feedF fedSt
            split <;> (try split) <;> exact ⟨by simp, ht1, Int.le_refl _⟩
          generalize (feedF ⟨t, 0, 0, fun _ => [], none⟩ s.length t l).1 = st0 at *
          have Hst := Lib.hid hst
          have Htw := Lib.hid htw9
          have Hrn := Lib.hid hrn9
          clear hst htw9 hrn9 hlen a0
          go_wp2_with (with_reducible first | refine stop_append ?_ | refine stop_copy ?_ | refine stop_make ?_ | refine stop_lookup ?_ | refine stop_update ?_ | refine stop_slice ?_ | refine stop_range ?_ | refine stop_next ?_ | refine stop_convert ⟨_, rfl⟩ ?_ | refine stop_convertB ⟨_, _, _, rfl⟩ ?_ | refine stop_eqSlice ⟨_, _, rfl⟩ ?_)
          go_loopw [13, 14, 15, 16, 17, 18, 88] (fun _ _ _ _ _ _ v88 wr => ∃ (k : Nat) (st : RSt) (Sa Sb : Nat → Prop), (k : Int) ≤ many ∧ v88 = .int .i64 k ∧ Two n wr pa pb st st Sa Sb ∧ RegN B n wr p rows ∧ (st.ent ≤ 2199023255488 ∧ 1 ≤ st.term ∧ st.term ≤ curR rows) ∧ Chg No w wr) (fun _ _ _ _ _ _ v88 _ => many.toNat - (intOf v88).toNat)
          case atStart => exact ⟨0, st0, Sa7, Sb9, by omega, rfl, Htw.out, Hrn.out, Hst.out, hcw9⟩
          case round =>
            obtain ⟨k, st, Sa', Sb', hk, rfl, htw, hrn, hstb, hcr⟩ := hrel
            have Hstb := Lib.hid hstb
            by_cases hlt : (k : Int) < many
            · have H1 := Lib.hid (step_bad Sa' pa B n p st rows wr htw.a hrn hi0.out htw.na hstb.1 hstb.2)
              clear hstb
              go_wp2_with (with_reducible first | refine stop_append ?_ | refine stop_copy ?_ | refine stop_make ?_ | refine stop_lookup ?_ | refine stop_update ?_ | refine stop_slice ?_ | refine stop_range ?_ | refine stop_next ?_ | refine stop_convert ⟨_, rfl⟩ ?_ | refine stop_convertB ⟨_, _, _, rfl⟩ ?_ | refine stop_eqSlice ⟨_, _, rfl⟩ ?_)
              refine H1.out.mono ?_
              rintro e w10 ⟨st1, out, va, Sa1, hst1, rfl, hc10, hra, hSa, hva, hb1⟩
              have htw1 := htw.ma hc10 hra hSa
              have hrn1 := hrn.keep hc10 (fun b _ s => htw.na b s)
              have hna := htw.na
              have hcw10 : Chg No w w10 := hcr.old hc10 (fun b s => by have := hna b s; omega)
              obtain ⟨hy, hno⟩ := bad_two hi0.out htw.a.tb hst1
              obtain ⟨⟨xk, ⟨x1, x2⟩, ⟨⟨x3, x4⟩, x5, x6⟩, x7, ⟨x8, x9⟩⟩, code⟩ := out
              simp only at hy hno hva
              have htg := stepR_tags hst1
              simp only at htg
              obtain ⟨Av, dv, rfl⟩ := hva.slice
              simp only [itmV]
              have hSbl := htw.b.lt
              have hlr := hc10.size
              have hva2 := hva.weak (G := fun b => Sb' b ∨ Sa1 b) (fun b _ g => by rcases g with g | g; exact .inl (hSbl b g); exact .inr g)
              clear hva H1 hra htw hrn hcr
              have HB1 := Lib.hid hb1
              clear hb1
              by_cases hcd : code = 0
              · subst hcd
                obtain ⟨hk2, hst2⟩ := hy rfl
                subst hk2
                have hc11 := (Chg.refl No w10).alloc (.cells #[.int .i64 2, .int .i64 x1, .int .i64 x2, .int .i64 x3, .int .i64 x4, .slice Av x5.length dv, .string x6, .int .i64 x7, .int .i64 x8, .int .i64 x9] 106)
                have o11 := alloc_obj w10 (.cells #[.int .i64 2, .int .i64 x1, .int .i64 x2, .int .i64 x3, .int .i64 x4, .slice Av x5.length dv, .string x6, .int .i64 x7, .int .i64 x8, .int .i64 x9] 106)
                have htw2 := htw1.no hc11
                have hrn2 := hrn1.keepNo hc11
                have H2 := Lib.hid (step_good Sb' pb B n p st rows _ htw2.b hrn2 hi0.out htw2.nb Hstb.out.1 Hstb.out.2)
                have hva3 := hva2.keepNo hc11
                clear hno htw1 hrn1 hva2 hst1
                go_wp2_with (with_reducible first | refine stop_append ?_ | refine stop_copy ?_ | refine stop_make ?_ | refine stop_lookup ?_ | refine stop_update ?_ | refine stop_slice ?_ | refine stop_range ?_ | refine stop_next ?_ | refine stop_convert ⟨_, rfl⟩ ?_ | refine stop_convertB ⟨_, _, _, rfl⟩ ?_ | refine stop_eqSlice ⟨_, _, rfl⟩ ?_)
                generalize w10.alloc (.cells #[.int .i64 2, .int .i64 x1, .int .i64 x2, .int .i64 x3, .int .i64 x4, .slice Av x5.length dv, .string x6, .int .i64 x7, .int .i64 x8, .int .i64 x9] 106) = w11 at *
                obtain ⟨q13, hq13⟩ : ∃ q, q = w10.heap.size := ⟨_, rfl⟩
                rw [← hq13] at o11 ⊢
                have Hq13 := Lib.hid hq13
                clear hq13
                refine H2.out.mono ?_
                rintro e w12 ⟨st2, out2, vb, Sb1, hst3, rfl, hc12, hrb, hSb, hvb, -⟩
                obtain ⟨rfl, rfl⟩ := stepR_det hst2 hst3
                have hnb := htw2.nb
                have htw3 := htw2.mb hc12 hrb hSb
                have hrn3 := hrn2.keep hc12 (fun b _ s => hnb b s)
                have hcw12 : Chg No w w12 := (hcw10.trans hc11).old hc12 (fun b s => by have := hnb b s; omega)
                have o12 := hc12.obj o11 (fun s => by have := hSbl _ s; have := Hq13.out; omega)
                have hva4 := (hva3.weak (G := Sb') (fun b _ s => .inl s)).keep hc12
                simp only at hvb
                obtain ⟨Aw, dw, rfl⟩ := hvb.slice
                simp only [itmV]
                have hc13 := (Chg.refl No w12).alloc (.cells #[.int .i64 2, .int .i64 x1, .int .i64 x2, .int .i64 x3, .int .i64 x4, .slice Aw x5.length dw, .string x6, .int .i64 x7, .int .i64 x8, .int .i64 x9] 106)
                have o13 := alloc_obj w12 (.cells #[.int .i64 2, .int .i64 x1, .int .i64 x2, .int .i64 x3, .int .i64 x4, .slice Aw x5.length dw, .string x6, .int .i64 x7, .int .i64 x8, .int .i64 x9] 106)
                have o14 := hc13.obj o12 (not_no _)
                have HQ := Lib.hid (isame_yes _ _ (2, (x1, x2), ((x3, x4), x5, x6), x7, (x8, x9)) (.slice Av x5.length dv) (.slice Aw x5.length dw) _ (hva4.keepNo hc13) (hvb.keepNo hc13) (by simp only; omega))
                simp only [itmV] at HQ
                clear hva3 hva4 hvb hrb htw2 hrn2 H2 hst2 hst3 o11 o12 hc11 hc12
                have y0 := cell_obj (i := 0) o14 rfl
                have z0 := cell_obj (i := 0) o13 rfl
                have y1 := cell_obj (i := 1) o14 rfl
                have z1 := cell_obj (i := 1) o13 rfl
                have y2 := cell_obj (i := 2) o14 rfl
                have z2 := cell_obj (i := 2) o13 rfl
                have y3 := cell_obj (i := 3) o14 rfl
                have z3 := cell_obj (i := 3) o13 rfl
                have y4 := cell_obj (i := 4) o14 rfl
                have z4 := cell_obj (i := 4) o13 rfl
                have y5 := cell_obj (i := 5) o14 rfl
                have z5 := cell_obj (i := 5) o13 rfl
                have y6 := cell_obj (i := 6) o14 rfl
                have z6 := cell_obj (i := 6) o13 rfl
                have y7 := cell_obj (i := 7) o14 rfl
                have z7 := cell_obj (i := 7) o13 rfl
                have y8 := cell_obj (i := 8) o14 rfl
                have z8 := cell_obj (i := 8) o13 rfl
                have y9 := cell_obj (i := 9) o14 rfl
                have z9 := cell_obj (i := 9) o13 rfl
                go_wp2_with (with_reducible first | refine stop_append ?_ | refine stop_copy ?_ | refine stop_make ?_ | refine stop_lookup ?_ | refine stop_update ?_ | refine stop_slice ?_ | refine stop_range ?_ | refine stop_next ?_ | refine stop_convert ⟨_, rfl⟩ ?_ | refine stop_convertB ⟨_, _, _, rfl⟩ ?_ | refine stop_eqSlice ⟨_, _, rfl⟩ ?_)
                refine HQ.out.mono ?_
                rintro e w14 ⟨rfl, hc14⟩
                have htw4 := (htw3.no hc13).no hc14
                have hrn4 := (hrn3.keepNo hc13).keepNo hc14
                have hcw14 := (hcw12.trans hc13).trans hc14
                clear o13 o14 HQ
                go_wp2_with (with_reducible first | refine stop_append ?_ | refine stop_copy ?_ | refine stop_make ?_ | refine stop_lookup ?_ | refine stop_update ?_ | refine stop_slice ?_ | refine stop_range ?_ | refine stop_next ?_ | refine stop_convert ⟨_, rfl⟩ ?_ | refine stop_convertB ⟨_, _, _, rfl⟩ ?_ | refine stop_eqSlice ⟨_, _, rfl⟩ ?_)
                go_roundw
                case rel => exact ⟨k + 1, st1, Sa1, Sb1, by omega, by go_num, htw4, hrn4, HB1.out, hcw14⟩
                case measure => simp [intOf]; omega
              · obtain ⟨s2, o2, hA, hBs⟩ := hno hcd
                have g1 : (code == 0) = false := by simpa using hcd
                have hc11 := (Chg.refl No w10).alloc (.cells #[.int .i64 xk, .int .i64 x1, .int .i64 x2, .int .i64 x3, .int .i64 x4, .slice Av x5.length dv, .string x6, .int .i64 x7, .int .i64 x8, .int .i64 x9] 106)
                have o11 := alloc_obj w10 (.cells #[.int .i64 xk, .int .i64 x1, .int .i64 x2, .int .i64 x3, .int .i64 x4, .slice Av x5.length dv, .string x6, .int .i64 x7, .int .i64 x8, .int .i64 x9] 106)
                have htw2 := htw1.no hc11
                have hrn2 := hrn1.keepNo hc11
                have H2 := Lib.hid (step_good Sa1 pa B n p st1 rows _ htw2.a hrn2 hi0.out htw2.na HB1.out.1 HB1.out.2)
                have hz10 : (w10.alloc (.cells #[.int .i64 xk, .int .i64 x1, .int .i64 x2, .int .i64 x3, .int .i64 x4, .slice Av x5.length dv, .string x6, .int .i64 x7, .int .i64 x8, .int .i64 x9] 106)).heap.size = w10.heap.size + 1 := by simp
                have hSal := htw1.a.lt
                have hn10 := htw1.lt
                have hcd2 := Lib.hid hcd
                clear hy hno htw1 hrn1 hva2 hst1 hcd
                go_wp2_with (with_reducible first | refine stop_append ?_ | refine stop_copy ?_ | refine stop_make ?_ | refine stop_lookup ?_ | refine stop_update ?_ | refine stop_slice ?_ | refine stop_range ?_ | refine stop_next ?_ | refine stop_convert ⟨_, rfl⟩ ?_ | refine stop_convertB ⟨_, _, _, rfl⟩ ?_ | refine stop_eqSlice ⟨_, _, rfl⟩ ?_)
                generalize w10.alloc (.cells #[.int .i64 xk, .int .i64 x1, .int .i64 x2, .int .i64 x3, .int .i64 x4, .slice Av x5.length dv, .string x6, .int .i64 x7, .int .i64 x8, .int .i64 x9] 106) = w11 at *
                obtain ⟨q13, hq13⟩ : ∃ q, q = w10.heap.size := ⟨_, rfl⟩
                rw [← hq13] at o11 ⊢
                have hq13b : q13 < w11.heap.size := by omega
                have hnq : ¬ Sa1 q13 ∧ ¬ Sb' q13 ∧ n ≤ q13 := ⟨fun s => by have := hSal _ s; omega, fun s => by have := hSbl _ s; omega, by omega⟩
                clear hq13 hz10
                refine H2.out.mono ?_
                rintro e w12 ⟨st2, out2, va2, Sa2, hst3, rfl, hc12, hra2, hSa2, hva3, hb2⟩
                obtain ⟨rfl, rfl⟩ := stepR_det hBs hst3
                have hna2 := htw2.na
                have htw3 := htw2.ma hc12 hra2 hSa2
                have hrn3 := hrn2.keep hc12 (fun b _ s => hna2 b s)
                have hcw12 : Chg No w w12 := (hcw10.trans hc11).old hc12 (fun b s => by have := hna2 b s; omega)
                have o12 := hc12.obj o11 hnq.1
                have hnq2 : ¬ Sa2 q13 := fun s => by rcases hSa2 _ s with s | s; exact hnq.1 s; omega
                have htg2 := stepR_tags hst3
                obtain ⟨⟨zk, ⟨z1, z2⟩, ⟨⟨z3, z4⟩, z5, z6⟩, z7, ⟨z8, z9⟩⟩, code2⟩ := o2
                simp only at hva3 htg2
                obtain ⟨Az, dz, rfl⟩ := hva3.slice
                simp only [itmV]
                have HB2 := Lib.hid hb2
                clear hb2
                have y0 := cell_obj (i := 0) o12 rfl
                have f0 := free_obj (i := 0) o12
                have y1 := cell_obj (i := 1) o12 rfl
                have f1 := free_obj (i := 1) o12
                have y2 := cell_obj (i := 2) o12 rfl
                have f2 := free_obj (i := 2) o12
                have y3 := cell_obj (i := 3) o12 rfl
                have f3 := free_obj (i := 3) o12
                have y4 := cell_obj (i := 4) o12 rfl
                have f4 := free_obj (i := 4) o12
                have y5 := cell_obj (i := 5) o12 rfl
                have f5 := free_obj (i := 5) o12
                have y6 := cell_obj (i := 6) o12 rfl
                have f6 := free_obj (i := 6) o12
                have y7 := cell_obj (i := 7) o12 rfl
                have f7 := free_obj (i := 7) o12
                have y8 := cell_obj (i := 8) o12 rfl
                have f8 := free_obj (i := 8) o12
                have y9 := cell_obj (i := 9) o12 rfl
                have f9 := free_obj (i := 9) o12
                obtain ⟨o13, k13⟩ := set10 o12 (.int .i64 zk) (.int .i64 z1) (.int .i64 z2) (.int .i64 z3) (.int .i64 z4) (.slice Az z5.length dz) (.string z6) (.int .i64 z7) (.int .i64 z8) (.int .i64 z9)
                have hva4 := (hva3.weak (G := fun b => Sb' b ∨ At q13 b) (fun b _ g => by rcases g with g | g; (have := htw2.b.lt b g; exact .inl (by omega)); (simp only [At] at g; exact .inl (by omega)))).keep (k13.weak (fun b _ g => .inr g))
                have htw4 := htw3.keep k13 (fun b g => by simp only [At] at g; subst g; exact ⟨hnq2, hnq.2.1⟩)
                have hrn4 := hrn3.keep k13 (fun b _ g => by simp only [At] at g; subst g; exact hnq.2.2)
                have hcw13 := hcw12.old k13 (fun b g => by simp only [At] at g; omega)
                have H4 := Lib.hid (step_good Sb' pb B n p st rows _ htw4.b hrn4 hi0.out htw4.nb Hstb.out.1 Hstb.out.2)
                have g2 : (code2 != code2) = false := by simp
                clear htw2 htw3 hrn2 hrn3 H2 hva3 o11 k13 hra2 hcw12 hc12 hc11 hBs hst3
                go_wp2_with (with_reducible first | refine stop_append ?_ | refine stop_copy ?_ | refine stop_make ?_ | refine stop_lookup ?_ | refine stop_update ?_ | refine stop_slice ?_ | refine stop_range ?_ | refine stop_next ?_ | refine stop_convert ⟨_, rfl⟩ ?_ | refine stop_convertB ⟨_, _, _, rfl⟩ ?_ | refine stop_eqSlice ⟨_, _, rfl⟩ ?_)
                generalize ((((((((((w12.setCell ⟨q13, 0, none⟩ (.int .i64 zk)).setCell ⟨q13, 1, none⟩ (.int .i64 z1)).setCell ⟨q13, 2, none⟩ (.int .i64 z2)).setCell ⟨q13, 3, none⟩ (.int .i64 z3)).setCell ⟨q13, 4, none⟩ (.int .i64 z4)).setCell ⟨q13, 5, none⟩ (.slice Az z5.length dz)).setCell ⟨q13, 6, none⟩ (.string z6)).setCell ⟨q13, 7, none⟩ (.int .i64 z7)).setCell ⟨q13, 8, none⟩ (.int .i64 z8)).setCell ⟨q13, 9, none⟩ (.int .i64 z9)) = w13 at *
                clear y0 f0 y1 f1 y2 f2 y3 f3 y4 f4 y5 f5 y6 f6 y7 f7 y8 f8 y9 f9 o12
                refine H4.out.mono ?_
                rintro e w14 ⟨st4, out4, vb, Sb1, hst4, rfl, hc14, hrb, hSb, hvb, -⟩
                obtain ⟨rfl, rfl⟩ := stepR_det hA hst4
                have hnb := htw4.nb
                have htw5 := htw4.mb hc14 hrb hSb
                have hrn5 := hrn4.keep hc14 (fun b _ s => hnb b s)
                have hcw14 : Chg No w w14 := hcw13.old hc14 (fun b s => by have := hnb b s; omega)
                have o14 := hc14.obj o13 hnq.2.1
                have hva5 := (hva4.weak (G := Sb') (fun b _ s => .inl s)).keep hc14
                simp only at hvb
                obtain ⟨Aw, dw, rfl⟩ := hvb.slice
                simp only [itmV]
                have hc15 := (Chg.refl No w14).alloc (.cells #[.int .i64 zk, .int .i64 z1, .int .i64 z2, .int .i64 z3, .int .i64 z4, .slice Aw z5.length dw, .string z6, .int .i64 z7, .int .i64 z8, .int .i64 z9] 106)
                have o15 := alloc_obj w14 (.cells #[.int .i64 zk, .int .i64 z1, .int .i64 z2, .int .i64 z3, .int .i64 z4, .slice Aw z5.length dw, .string z6, .int .i64 z7, .int .i64 z8, .int .i64 z9] 106)
                have o16 := hc15.obj o14 (not_no _)
                have HQ := Lib.hid (isame_yes _ _ (zk, (z1, z2), ((z3, z4), z5, z6), z7, (z8, z9)) (.slice Az z5.length dz) (.slice Aw z5.length dw) _ (hva5.keepNo hc15) (hvb.keepNo hc15) (by simp only; omega))
                simp only [itmV] at HQ
                clear hva4 hva5 hvb hrb htw4 hrn4 H4 hA hst4 o13 o14 hc14
                have y0 := cell_obj (i := 0) o16 rfl
                have w30 := cell_obj (i := 0) o15 rfl
                have y1 := cell_obj (i := 1) o16 rfl
                have w31 := cell_obj (i := 1) o15 rfl
                have y2 := cell_obj (i := 2) o16 rfl
                have w32 := cell_obj (i := 2) o15 rfl
                have y3 := cell_obj (i := 3) o16 rfl
                have w33 := cell_obj (i := 3) o15 rfl
                have y4 := cell_obj (i := 4) o16 rfl
                have w34 := cell_obj (i := 4) o15 rfl
                have y5 := cell_obj (i := 5) o16 rfl
                have w35 := cell_obj (i := 5) o15 rfl
                have y6 := cell_obj (i := 6) o16 rfl
                have w36 := cell_obj (i := 6) o15 rfl
                have y7 := cell_obj (i := 7) o16 rfl
                have w37 := cell_obj (i := 7) o15 rfl
                have y8 := cell_obj (i := 8) o16 rfl
                have w38 := cell_obj (i := 8) o15 rfl
                have y9 := cell_obj (i := 9) o16 rfl
                have w39 := cell_obj (i := 9) o15 rfl
                go_wp2_with (with_reducible first | refine stop_append ?_ | refine stop_copy ?_ | refine stop_make ?_ | refine stop_lookup ?_ | refine stop_update ?_ | refine stop_slice ?_ | refine stop_range ?_ | refine stop_next ?_ | refine stop_convert ⟨_, rfl⟩ ?_ | refine stop_convertB ⟨_, _, _, rfl⟩ ?_ | refine stop_eqSlice ⟨_, _, rfl⟩ ?_)
                refine HQ.out.mono ?_
                rintro e w16 ⟨rfl, hc16⟩
                have htw6 := (htw5.no hc15).no hc16
                have hrn6 := (hrn5.keepNo hc15).keepNo hc16
                have hcw16 := (hcw14.trans hc15).trans hc16
                clear o15 o16 HQ
                go_wp2_with (with_reducible first | refine stop_append ?_ | refine stop_copy ?_ | refine stop_make ?_ | refine stop_lookup ?_ | refine stop_update ?_ | refine stop_slice ?_ | refine stop_range ?_ | refine stop_next ?_ | refine stop_convert ⟨_, rfl⟩ ?_ | refine stop_convertB ⟨_, _, _, rfl⟩ ?_ | refine stop_eqSlice ⟨_, _, rfl⟩ ?_)
                go_roundw
                case rel => exact ⟨k + 1, _, Sa2, Sb1, by omega, by go_num, htw6, hrn6, HB2.out, hcw16⟩
                case measure => simp [intOf]; omega
            · have hkm : ¬ (k : Int) < many := hlt
              go_wp2_with (with_reducible first | refine stop_append ?_ | refine stop_copy ?_ | refine stop_make ?_ | refine stop_lookup ?_ | refine stop_update ?_ | refine stop_slice ?_ | refine stop_range ?_ | refine stop_next ?_ | refine stop_convert ⟨_, rfl⟩ ?_ | refine stop_convertB ⟨_, _, _, rfl⟩ ?_ | refine stop_eqSlice ⟨_, _, rfl⟩ ?_)
              refine (Hal.out _).mono ?_
              rintro e w10 ⟨rfl, hc10⟩
              go_wp2_with (with_reducible first | refine stop_append ?_ | refine stop_copy ?_ | refine stop_make ?_ | refine stop_lookup ?_ | refine stop_update ?_ | refine stop_slice ?_ | refine stop_range ?_ | refine stop_next ?_ | refine stop_convert ⟨_, rfl⟩ ?_ | refine stop_convertB ⟨_, _, _, rfl⟩ ?_ | refine stop_eqSlice ⟨_, _, rfl⟩ ?_)
              go_ret
              exact ⟨rfl, hcr.trans hc10⟩
end Go.Proofs.Ytbjpoamnglfjeaa

