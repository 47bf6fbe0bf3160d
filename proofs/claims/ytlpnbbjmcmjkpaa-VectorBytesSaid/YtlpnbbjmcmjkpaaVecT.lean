/- Walks of package vector: Quorum. -/
import Derived.Test.YtlpnbbjmcmjkpaaVecS
set_option linter.unusedVariables false
set_option linter.unusedSimpArgs false
namespace Go.Proofs.Ytlpnbbjmcmjkpaa
open Go.RowKit Cb
attribute [local go_sem] Oper.semAt_some

def column (l : List (List Int)) (k : Nat) : List Int := l.map (·.getD k 0)
def headL (l : List (List Int)) : List Int := l.headD []
def quorBad (l : List (List Int)) : Bool := l.any fun v => !kindB v (headL l)
def quorumF (l : List (List Int)) (need : Int) : Option (List Int) :=
  if 0 < l.length ∧ (1 ≤ need ∧ need ≤ l.length) ∧ quorBad l = false then some ((List.range (headL l).length).map fun k => (sortI (column l k)).getD (l.length - need.toNat) 0) else none
theorem headL_get {l : List (List Int)} (h : 0 < l.length) : headL l = l[0] := by
  cases l with
  | nil => simp at h
  | cons x r => rfl
theorem vcontains_bad (F : Nat → Prop) (q2 : Nat) (A : Option Addr) (c : Nat) (l : List (List Int)) (w : World) (h0 : 0 < l.length) (hq : w.cell? ⟨q2, 0, none⟩ = some (.slice A l.length c)) (hl : Sl F w (.slice A l.length c) l)
    (hb : ∀ v ∈ l, v.length * 8 ≤ 140737488355328) (hll : l.length ≤ 17592186044416) :
    Calls Try.prog 37 #[.slice A l.length c, .func (.func 38) #[] #[.pointer (some ⟨q2, 0, none⟩)]] w fun e w' => e = .returned (.bool (quorBad l)) ∧ Chg No w w' := by
  refine (containsL_any F _ l (fun v => !kindB v (headL l)) 38 _ (fun args W => by kernel_rfl) w hl hll (fun i hi u W hW hu => ?_))
  rw [headL_get h0]
  exact quorum1_any F q2 A c l u l[i] W h0 (hW.cell hq (not_no _)) (hl.keepNo hW) hu hb (hb _ (List.getElem_mem hi)) hll
set_option maxRecDepth 100000 in
set_option maxHeartbeats 2000000 in
theorem quorum_any (F : Nat → Prop) (v : Value) (l : List (List Int)) (need : Int) (w : World) (hs : Sl F w v l) (hll : l.length ≤ 1000000) (hb : ∀ v ∈ l, v.length * 8 ≤ 140737488355328) :
    Calls Try.prog 13 #[v, .int .i64 need] w (PairPost (quorumF l need) w) := by
  obtain ⟨A, c, rfl⟩ := hs.slice
  have hc0 := (Chg.refl No w).alloc (.cells #[.slice A l.length c] 22)
  have o2 := alloc_obj w (.cells #[.slice A l.length c] 22)
  have Hs := Lib.hid (hs.keepNo hc0)
  have hcase : (l.length = 0 ∧ quorumF l need = none) ∨ (0 < l.length ∧ need < 1 ∧ quorumF l need = none) ∨ (0 < l.length ∧ 1 ≤ need ∧ (l.length : Int) < need ∧ quorumF l need = none) ∨
      (0 < l.length ∧ 1 ≤ need ∧ need ≤ l.length ∧ quorBad l = true ∧ quorumF l need = none) ∨
      (0 < l.length ∧ 1 ≤ need ∧ need ≤ l.length ∧ quorBad l = false ∧ quorumF l need = some ((List.range (headL l).length).map fun k => (sortI (column l k)).getD (l.length - need.toNat) 0)) := by
    unfold quorumF
    by_cases h0 : 0 < l.length
    · by_cases h1 : 1 ≤ need
      · by_cases h2 : need ≤ l.length
        · cases hq : quorBad l
          · exact .inr (.inr (.inr (.inr ⟨h0, h1, h2, rfl, by rw [if_pos ⟨h0, ⟨h1, h2⟩, rfl⟩]⟩)))
          · exact .inr (.inr (.inr (.inl ⟨h0, h1, h2, rfl, by rw [if_neg (by simp)]⟩)))
        · exact .inr (.inr (.inl ⟨h0, h1, by omega, by rw [if_neg (fun h => h2 h.2.1.2)]⟩))
      · exact .inr (.inl ⟨h0, by omega, by rw [if_neg (fun h => h1 h.2.1.1)]⟩)
    · exact .inl ⟨by omega, by rw [if_neg (fun h => h0 h.1)]⟩
  clear hs
  rcases hcase with ⟨h0, hr⟩ | ⟨h0, h1, hr⟩ | ⟨h0, h1, h2, hr⟩ | ⟨h0, h1, h2, hq, hr⟩ | ⟨h0, h1, h2, hq, hr⟩
  · rw [hr]
    rw [h0] at hc0 ⊢
    go_enter Try.func13, Try.ntmps13
    go_wp2_with (first | (with_reducible refine stop_append ?_) | (with_reducible refine stop_copy ?_) | (with_reducible refine stop_make ?_) | (with_reducible refine stop_lookup ?_) | (with_reducible refine stop_update ?_) | (with_reducible refine stop_slice ?_) | (with_reducible refine stop_range ?_) | (with_reducible refine stop_next ?_) | (with_reducible refine stop_convert ⟨_, rfl⟩ ?_) | (with_reducible refine stop_convertB ⟨_, _, _, rfl⟩ ?_) | (with_reducible refine stop_eqSlice ⟨_, _, rfl⟩ ?_))
    go_ret2
    exact ⟨hc0, .inr ⟨rfl, rfl⟩⟩
  · rw [hr]
    have h0' : ((l.length : Int) == 0) = false := by
      have : l.length ≠ 0 := by omega
      simpa using this
    clear hr
    go_enter Try.func13, Try.ntmps13
    go_wp2_with (first | (with_reducible refine stop_append ?_) | (with_reducible refine stop_copy ?_) | (with_reducible refine stop_make ?_) | (with_reducible refine stop_lookup ?_) | (with_reducible refine stop_update ?_) | (with_reducible refine stop_slice ?_) | (with_reducible refine stop_range ?_) | (with_reducible refine stop_next ?_) | (with_reducible refine stop_convert ⟨_, rfl⟩ ?_) | (with_reducible refine stop_convertB ⟨_, _, _, rfl⟩ ?_) | (with_reducible refine stop_eqSlice ⟨_, _, rfl⟩ ?_))
    go_ret2
    exact ⟨hc0, .inr ⟨rfl, rfl⟩⟩
  · rw [hr]
    have h0' : ((l.length : Int) == 0) = false := by
      have : l.length ≠ 0 := by omega
      simpa using this
    clear hr
    go_enter Try.func13, Try.ntmps13
    go_wp2_with (first | (with_reducible refine stop_append ?_) | (with_reducible refine stop_copy ?_) | (with_reducible refine stop_make ?_) | (with_reducible refine stop_lookup ?_) | (with_reducible refine stop_update ?_) | (with_reducible refine stop_slice ?_) | (with_reducible refine stop_range ?_) | (with_reducible refine stop_next ?_) | (with_reducible refine stop_convert ⟨_, rfl⟩ ?_) | (with_reducible refine stop_convertB ⟨_, _, _, rfl⟩ ?_) | (with_reducible refine stop_eqSlice ⟨_, _, rfl⟩ ?_))
    go_ret2
    exact ⟨hc0, .inr ⟨rfl, rfl⟩⟩
  · rw [hr]
    have h0' : ((l.length : Int) == 0) = false := by
      have : l.length ≠ 0 := by omega
      simpa using this
    have Hcon := Lib.hid (vcontains_bad F w.heap.size A c l _ h0 (cell_obj (i := 0) o2 rfl) Hs.out hb (by omega))
    rw [hq] at Hcon
    clear hr hq
    go_enter Try.func13, Try.ntmps13
    go_wp2_with (first | (with_reducible refine stop_append ?_) | (with_reducible refine stop_copy ?_) | (with_reducible refine stop_make ?_) | (with_reducible refine stop_lookup ?_) | (with_reducible refine stop_update ?_) | (with_reducible refine stop_slice ?_) | (with_reducible refine stop_range ?_) | (with_reducible refine stop_next ?_) | (with_reducible refine stop_convert ⟨_, rfl⟩ ?_) | (with_reducible refine stop_convertB ⟨_, _, _, rfl⟩ ?_) | (with_reducible refine stop_eqSlice ⟨_, _, rfl⟩ ?_))
    generalize w.alloc (.cells #[.slice A l.length c] 22) = w0 at *
    refine Hcon.out.mono ?_
    rintro e w1 ⟨rfl, hc1⟩
    go_wp2_with (first | (with_reducible refine stop_append ?_) | (with_reducible refine stop_copy ?_) | (with_reducible refine stop_make ?_) | (with_reducible refine stop_lookup ?_) | (with_reducible refine stop_update ?_) | (with_reducible refine stop_slice ?_) | (with_reducible refine stop_range ?_) | (with_reducible refine stop_next ?_) | (with_reducible refine stop_convert ⟨_, rfl⟩ ?_) | (with_reducible refine stop_convertB ⟨_, _, _, rfl⟩ ?_) | (with_reducible refine stop_eqSlice ⟨_, _, rfl⟩ ?_))
    go_ret2
    exact ⟨hc0.trans hc1, .inr ⟨rfl, rfl⟩⟩
  · have h0' : ((l.length : Int) == 0) = false := by
      have : l.length ≠ 0 := by omega
      simpa using this
    have Hcon := Lib.hid (vcontains_bad F w.heap.size A c l _ h0 (cell_obj (i := 0) o2 rfl) Hs.out hb (by omega))
    rw [hq] at Hcon
    obtain ⟨nd, rfl⟩ : ∃ n : Nat, need = n := ⟨need.toNat, by omega⟩
    rw [Int.toNat_natCast] at hr
    have Hr := Lib.hid hr
    have Hq := Lib.hid hq
    clear hr hq
    refine calls_of_marks Try.func13 rfl ?_
    simp only [Try.ntmps13, List.size_toArray, List.length_cons, List.length_nil, Nat.reduceAdd, Nat.reduceSub, Array.replicate_succ, Array.replicate_zero, List.push_toArray, List.append_toArray, List.nil_append, List.cons_append]
    go_wp2_with (first | (with_reducible refine stop_append ?_) | (with_reducible refine stop_copy ?_) | (with_reducible refine stop_make ?_) | (with_reducible refine stop_lookup ?_) | (with_reducible refine stop_update ?_) | (with_reducible refine stop_slice ?_) | (with_reducible refine stop_range ?_) | (with_reducible refine stop_next ?_) | (with_reducible refine stop_convert ⟨_, rfl⟩ ?_) | (with_reducible refine stop_convertB ⟨_, _, _, rfl⟩ ?_) | (with_reducible refine stop_eqSlice ⟨_, _, rfl⟩ ?_))
    generalize w.alloc (.cells #[.slice A l.length c] 22) = w0 at *
    generalize w.heap.size = q2 at *
    refine Hcon.out.mono ?_
    rintro e w1 ⟨rfl, hc1⟩
    have o2 := hc1.obj o2 (not_no _)
    have z2 : w1.cell? ⟨q2, 0, none⟩ = some (.slice A l.length c) := cell_obj (i := 0) o2 rfl
    obtain ⟨b, o, v0, rfl, _, hbl, ha0, hv0⟩ := rows_get (Hs.out.keepNo hc1) 0 h0
    simp only [Nat.add_zero] at ha0
    obtain ⟨A0, c0, rfl⟩ := hv0.slice
    rw [← headL_get h0] at ha0
    have hlen : (0 : Int) < l.length := by omega
    clear hv0
    go_wp2_with (first | (with_reducible refine stop_append ?_) | (with_reducible refine stop_copy ?_) | (with_reducible refine stop_make ?_) | (with_reducible refine stop_lookup ?_) | (with_reducible refine stop_update ?_) | (with_reducible refine stop_slice ?_) | (with_reducible refine stop_range ?_) | (with_reducible refine stop_next ?_) | (with_reducible refine stop_convert ⟨_, rfl⟩ ?_) | (with_reducible refine stop_convertB ⟨_, _, _, rfl⟩ ?_) | (with_reducible refine stop_eqSlice ⟨_, _, rfl⟩ ?_))
    simp only [show decide ((nd : Int) < 1) = false by simp; omega, show decide (l.length < nd) = false by simp; omega, Bool.or_self]
    refine wp_loop (fun a' w' => ∃ (k : Nat) (Ds : List Nat) (v6 u7 u8 u9 u32 u33 u34 u35 u36 u37 u38 u39 u40 u41 u42 u43 u44 u45 u46 u47 u48 u49 u50 u51 u52 u53 u54 u55 : Value), (k ≤ (headL l).length ∧ Chg No w1 w' ∧ Cb.Own No w' w1.heap.size 3 v6 ((List.range k).map fun k => (sortI (column l k)).getD (l.length - nd) 0) ∧ Marked w' Ds ∧ (∀ D ∈ Ds, w1.heap.size ≤ D) ∧ u32 = .int .i64 k) ∧ a' = { tmps := #[.slice (some ⟨b, o, none⟩) l.length c, .int .i64 nd, .pointer (some ⟨q2, 0, none⟩), undef, .slice none 0 0, .bool false, v6, u7, u8, u9, .slice (some ⟨b, o, none⟩) l.length c, .int .i64 l.length, .bool false, .bool false, .int .i64 nd, .bool false, .bool false, .bool false, .int .i64 nd, .slice (some ⟨b, o, none⟩) l.length c, .int .i64 l.length, .bool false, .bool false, .bool false, .slice (some ⟨b, o, none⟩) l.length c, .func (.func 38) #[] #[.pointer (some ⟨q2, 0, none⟩)], .bool false, .bool false, .slice (some ⟨b, o, none⟩) l.length c, .pointer (some ⟨b, o, none⟩), .slice A0 (headL l).length c0, .int .i64 (headL l).length, u32, u33, u34, u35, u36, u37, u38, u39, u40, u41, u42, u43, u44, u45, u46, u47, u48, u49, u50, u51, u52, u53, u54, u55, undef], defers := marks Ds }) (fun a' _ => (headL l).length - (intOf (a'.tmps.getD 32 undef)).toNat) ?_ ?_
    · exact ⟨0, [], _, _, _, _, _, _, _, _, _, _, _, _, _, _, _, _, _, _, _, _, _, _, _, _, _, _, _, _, ⟨by omega, Chg.refl _ _, Cb.Own.nil _ _ _ _, ⟨List.nodup_nil, fun _ h => by cases h⟩, (fun _ h => by cases h), rfl⟩, rfl⟩
    · rintro a' wr ⟨k, Ds, v6, u7, u8, u9, u32, u33, u34, u35, u36, u37, u38, u39, u40, u41, u42, u43, u44, u45, u46, u47, u48, u49, u50, u51, u52, u53, u54, u55, ⟨hk, hcr, hown, hmk, hDs, rfl⟩, rfl⟩
      have Hown := Lib.hid hown
      have Hmk := Lib.hid hmk
      have HDs := Lib.hid hDs
      obtain ⟨A6, c6, e6⟩ := hown.slice
      rw [List.length_map, List.length_range] at e6
      subst e6
      clear hown hmk hDs
      by_cases hlt : k < (headL l).length
      · have z8 := ((Chg.refl No wr).alloc (.cells #[.slice none 0 0] 24)).cell (hcr.cell z2 (not_no _)) (not_no _)
        go_wp2_with (first | (with_reducible refine stop_append ?_) | (with_reducible refine stop_copy ?_) | (with_reducible refine stop_make ?_) | (with_reducible refine stop_lookup ?_) | (with_reducible refine stop_update ?_) | (with_reducible refine stop_slice ?_) | (with_reducible refine stop_range ?_) | (with_reducible refine stop_next ?_) | (with_reducible refine stop_convert ⟨_, rfl⟩ ?_) | (with_reducible refine stop_convertB ⟨_, _, _, rfl⟩ ?_) | (with_reducible refine stop_eqSlice ⟨_, _, rfl⟩ ?_))
        refine (shard_any _ l.length c k _).mono ?_
        rintro e w2 ⟨rfl, rfl⟩
        obtain ⟨ws, hws⟩ : ∃ W, W = ((wr.alloc (.cells #[.slice none 0 0] 24)).alloc (.cells #[.slice (some ⟨b, o, none⟩) l.length c] 22)).alloc (.cells #[.int .i64 k] 3) := ⟨_, rfl⟩
        have hcs : Chg No wr ws := by rw [hws]; exact (((Chg.refl No wr).alloc _).alloc _).alloc _
        have o8 : ws.heap[wr.heap.size]? = some (.cells #[.slice none 0 0] 24 (0, 0)) := by rw [hws]; exact (((Chg.refl No _).alloc _).alloc _).obj (alloc_obj wr _) (not_no _)
        have o9 : ws.heap[wr.heap.size + 1]? = some (.cells #[.slice (some ⟨b, o, none⟩) l.length c] 22 (0, 0)) := by
          have := alloc_obj (wr.alloc (.cells #[.slice none 0 0] 24)) (.cells #[.slice (some ⟨b, o, none⟩) l.length c] 22)
          rw [World.size_alloc] at this
          rw [hws]; exact ((Chg.refl No _).alloc _).obj this (not_no _)
        have o10 : ws.heap[wr.heap.size + 1 + 1]? = some (.cells #[.int .i64 k] 3 (0, 0)) := by
          have := alloc_obj ((wr.alloc (.cells #[.slice none 0 0] 24)).alloc (.cells #[.slice (some ⟨b, o, none⟩) l.length c] 22)) (.cells #[.int .i64 k] 3)
          rw [World.size_alloc, World.size_alloc] at this
          rw [hws]; exact this
        have hB : ws.heap.size = wr.heap.size + 1 + 1 + 1 := by rw [hws]; simp
        simp only [World.size_alloc]
        rw [← hws]
        clear hws z8
        have hszr := hcr.size
        have hkl : ∀ v ∈ l, k < v.length := fun v hv => by
          have h3 := List.any_eq_false.1 Hq.out v hv
          have h4 : kindB v (headL l) = true := by simpa using h3
          obtain ⟨_, h5⟩ : (vright v = true ∧ vright (headL l) = true) ∧ v.length = (headL l).length := by simpa [kindB] using h4
          omega
        have hqs : ShQ ws.heap.size (wr.heap.size + 1) (wr.heap.size + 1 + 1) wr.heap.size (.slice (some ⟨b, o, none⟩) l.length c) k l ws :=
          ⟨cell_obj (i := 0) o9 rfl, cell_obj (i := 0) o10 rfl, ((Hs.out.keepNo hc1).weak (F := F) (G := fun i => w1.heap.size ≤ i) (fun i hi g => by omega)).keepNo (hcr.trans hcs) |>.weak (fun i _ g => by omega), Nat.le_refl _⟩
        go_wp2_with (first | (with_reducible refine stop_append ?_) | (with_reducible refine stop_copy ?_) | (with_reducible refine stop_make ?_) | (with_reducible refine stop_lookup ?_) | (with_reducible refine stop_update ?_) | (with_reducible refine stop_slice ?_) | (with_reducible refine stop_range ?_) | (with_reducible refine stop_next ?_) | (with_reducible refine stop_convert ⟨_, rfl⟩ ?_) | (with_reducible refine stop_convertB ⟨_, _, _, rfl⟩ ?_) | (with_reducible refine stop_eqSlice ⟨_, _, rfl⟩ ?_))
        refine wp_rangeFunc_set (α := Int) (encs := encN) (gf := 61) (lb := #[.pointer (some ⟨wr.heap.size + 1, 0, none⟩), .pointer (some ⟨wr.heap.size + 1 + 1, 0, none⟩)]) rfl (fun args W => by kernel_rfl)
          (ShQ ws.heap.size (wr.heap.size + 1) (wr.heap.size + 1 + 1) wr.heap.size (.slice (some ⟨b, o, none⟩) l.length c) k l) (xs := column l k)
          (fun y J Jx W hW hJ _ hY h0 => shard1_in ws.heap.size _ _ wr.heap.size _ k l hkl hll y J Jx hY W hJ (hqs.keepNo (Chg.of_below hW)) h0) (fun _ => rfl)
          (fun pre W => ∃ v8, W.heap[wr.heap.size]? = some (.cells #[v8] 24 (0, 0)) ∧ Cb.Own No W ws.heap.size 3 v8 pre ∧ Chg (At wr.heap.size) ws W)
          ?own ?keeps ⟨_, o8, Cb.Own.nil _ _ _ _, Chg.refl _ _⟩ 9 (fun x => .int .i64 x) ?assign ?body ?done
        case own =>
          intro pre W W' row ⟨v8, h8, hown8, hc8⟩ hg hr
          refine ⟨v8, turn_obj h8 hg (fun r e => (hr r e).2), hown8.keepFlat ((Chg.refl (fun k => row = some k) W).grown hg (fun k e => .inl e)) (fun i hi g => ?_), hc8.grown hg (fun k e => .inr (hr k e).1)⟩
          obtain ⟨C, T, fz, hcell⟩ := hown8.cells i hi
          obtain ⟨oo, ho, hoc⟩ := (hr i g).2
          rw [hcell] at ho
          cases ho
          simp [Obj.isCells] at hoc
        case keeps =>
          intro W W' row hq hg hr
          exact hq.keep ((Chg.refl (fun k => row = some k) W).grown hg (fun k e => .inl e)) (fun i e => .inl (hr i e).1) (by omega)
        case assign =>
          intro y pre x W K hi hK
          rw [show wideAt (some y) = Fence.wide.inRound y from rfl]
          dsimp only [encN] at hK ⊢
          have HK := Lib.hid hK
          clear hK
          gi_wp2
          have hk := HK.out
          simp only [List.zip_toArray, List.zip_cons_cons, List.zip_nil_right, List.foldl_toArray, List.foldl_cons, List.foldl_nil, List.setIfInBounds_toArray, List.set_cons_zero, List.set_cons_succ] at hk
          exact hk
        case body =>
          intro y pre x W hi hlen
          dsimp only [encN]
          obtain ⟨v8, h8, hown8, hc8⟩ := hi
          simp only [List.zip_toArray, List.zip_cons_cons, List.zip_nil_right, List.foldl_toArray, List.foldl_cons, List.foldl_nil, List.setIfInBounds_toArray, List.set_cons_zero, List.set_cons_succ]
          refine wpIn_block ?_
          refine lini_start (by kernel_rfl) ?_
          have Hown8 := Lib.hid hown8
          obtain ⟨A8, c8, rfl⟩ := hown8.slice
          have y8 : W.cell? ⟨wr.heap.size, 0, none⟩ = some (.slice A8 pre.length c8) := cell_obj (i := 0) h8 rfl
          clear hown8
          have hpre : pre.length < 1000000 := by simp only [column, List.length_map] at hlen; omega
          have hobl : ∀ i, OB (.slice A8 pre.length c8) i → ws.heap.size ≤ i ∧ i < W.heap.size := fun i hi => Hown8.out.lt i hi
          have hq8W := lt_of_heap h8
          go_wp2_with (first | (with_reducible refine stop_append ?_) | (with_reducible refine stop_copy ?_) | (with_reducible refine stop_make ?_) | (with_reducible refine stop_lookup ?_) | (with_reducible refine stop_update ?_) | (with_reducible refine stop_slice ?_) | (with_reducible refine stop_range ?_) | (with_reducible refine stop_next ?_) | (with_reducible refine stop_convert ⟨_, rfl⟩ ?_) | (with_reducible refine stop_convertB ⟨_, _, _, rfl⟩ ?_) | (with_reducible refine stop_eqSlice ⟨_, _, rfl⟩ ?_))
          have hcA := (Chg.refl No W).alloc (.cells #[.int .i64 x] 3)
          refine step_append_flat (α := Int) (ys := [x]) Try.underlying24 vinfo_int rfl (Hown8.out.alloc (.cells #[.int .i64 x] 3)) rfl rfl (Sl.lit1 (F := No) (y := x) rfl rfl (not_no _)) (by simp; omega) (by simp; omega) (by have := hc8.size; simp; omega) ?_
          intro v6 w6 hown6 hg6
          have h6 := hg6.chg.obj (hcA.obj h8 (not_no _)) (fun e => by have := hobl _ e; omega)
          have f6 := free_obj (i := 0) h6
          have y6 := cell_obj (i := 0) h6 (u := .slice A8 pre.length c8) rfl
          obtain ⟨A6', c6', rfl⟩ := hown6.slice
          rw [List.length_append, List.length_singleton] at *
          have hcW6 : Chg (OB (.slice A8 pre.length c8)) W w6 := hcA.of_no.trans hg6.chg
          have hset := chg_set (w := w6) (b := wr.heap.size) (i := 0) (.slice A6' (pre.length + 1) c6')
          have hcW : Chg (fun i => OB (.slice A8 pre.length c8) i ∨ i = wr.heap.size) W (w6.setCell ⟨wr.heap.size, 0, none⟩ (.slice A6' (pre.length + 1) c6')) := hcW6.trans' hset (fun _ _ g => .inl g) (fun _ _ g => .inr g)
          have hfin := Lib.hid (show KeepsFrom ws.heap.size W (w6.setCell ⟨wr.heap.size, 0, none⟩ (.slice A6' (pre.length + 1) c6')) from keeps_of_chg hcW (fun i oo g ho => by
            rcases g with g | g
            · obtain ⟨C, T, fz, hcell⟩ := Hown8.out.cells i g
              rw [hcell] at ho; cases ho; rfl
            · subst g; rw [h8] at ho; cases ho; rfl))
          have hown7 := hown6.keepFlat hset (fun i hi g => by
            simp only [At] at g
            have := hown6.lt i hi
            omega)
          have hcs8 : Chg (At wr.heap.size) ws (w6.setCell ⟨wr.heap.size, 0, none⟩ (.slice A6' (pre.length + 1) c6')) := hc8.trans' hcW (fun _ _ g => g) (fun i hi g => by
            rcases g with g | g
            · have := hobl i g; omega
            · exact g)
          have o7 : (w6.setCell ⟨wr.heap.size, 0, none⟩ (.slice A6' (pre.length + 1) c6')).heap[wr.heap.size]? = some (.cells #[.slice A6' (pre.length + 1) c6'] 24 (0, 0)) := obj_set h6 rfl
          have Hown7 := Lib.hid hown7
          clear hown6 hown7 hg6 h6 hset
          go_wp2_with (first | (with_reducible refine stop_append ?_) | (with_reducible refine stop_copy ?_) | (with_reducible refine stop_make ?_) | (with_reducible refine stop_lookup ?_) | (with_reducible refine stop_update ?_) | (with_reducible refine stop_slice ?_) | (with_reducible refine stop_range ?_) | (with_reducible refine stop_next ?_) | (with_reducible refine stop_convert ⟨_, rfl⟩ ?_) | (with_reducible refine stop_convertB ⟨_, _, _, rfl⟩ ?_) | (with_reducible refine stop_eqSlice ⟨_, _, rfl⟩ ?_))
          simp only [Only]
          exact ⟨hfin.out, fun hq => hq.keep hcW (fun i g => by
            rcases g with g | g
            · exact .inl (hobl i g).1
            · exact .inr g) (by omega), _, o7, Hown7.out, hcs8⟩
        case done =>
          intro D W hD hi hK
          obtain ⟨v8, h8, hown8, hc8⟩ := hi
          have hcl : (column l k).length = l.length := by simp [column]
          obtain ⟨A8, c8, e8⟩ := hown8.slice
          rw [hcl] at e8
          subst e8
          have hmkW : Marked W (D :: Ds) := by
            have h3 := (Hmk.out.no hcs).keep hc8 (fun E hE e => by have := Hmk.out.lt E hE; simp only [At] at e; omega)
            refine ⟨List.nodup_cons.2 ⟨fun hE => by have := Hmk.out.lt D hE; omega, h3.1⟩, fun E hE => ?_⟩
            rcases List.mem_cons.1 hE with rfl | hE
            · exact hK
            · exact h3.2 E hE
          have hown6W := (Hown.out.keepFlat hcs (fun _ _ f => f)).keepFlat hc8 (fun i hi e => by have := (Hown.out.lt i hi).2; simp only [At] at e; omega)
          have hob6 : ∀ i, OB (.slice A6 k c6) i → i < wr.heap.size := fun i hi => (Hown.out.lt i hi).2
          have hob8 : ∀ i, OB (.slice A8 l.length c8) i → ws.heap.size ≤ i := fun i hi => (hown8.lt i hi).1
          have y8 : W.cell? ⟨wr.heap.size, 0, none⟩ = some (.slice A8 l.length c8) := cell_obj (i := 0) h8 rfl
          have Hsort := Lib.hid (vsort_any hown8 (by omega) (by omega))
          have hcell8 := hown8.cells
          have Hmk2 := Lib.hid (fun W' (hW : Chg (OB (.slice A8 l.length c8)) W W') => hmkW.keep hW (fun E hE hOB => hmkW.ne (hcell8 E hOB) E hE rfl))
          clear hown8 hmkW hcell8
          go_wp2_with (first | (with_reducible refine stop_append ?_) | (with_reducible refine stop_copy ?_) | (with_reducible refine stop_make ?_) | (with_reducible refine stop_lookup ?_) | (with_reducible refine stop_update ?_) | (with_reducible refine stop_slice ?_) | (with_reducible refine stop_range ?_) | (with_reducible refine stop_next ?_) | (with_reducible refine stop_convert ⟨_, rfl⟩ ?_) | (with_reducible refine stop_convertB ⟨_, _, _, rfl⟩ ?_) | (with_reducible refine stop_eqSlice ⟨_, _, rfl⟩ ?_))
          refine Hsort.out.mono ?_
          rintro e w5 ⟨rfl, hown5, hc5⟩
          have hmk5 := Hmk2.out _ hc5
          have hown65 := hown6W.keepFlat hc5 (fun i hi e => by have := hob6 i hi; have := hob8 i e; omega)
          have h85 := hc5.obj h8 (fun e => by have := hob8 _ e; omega)
          have y85 : w5.cell? ⟨wr.heap.size, 0, none⟩ = some (.slice A8 l.length c8) := cell_obj (i := 0) h85 rfl
          obtain ⟨g, rfl, hg1, hg2⟩ := hown5.addr (by rw [sortI_len, hcl]; omega)
          have hget := hown5.get1 (l.length - nd) (by rw [sortI_len, hcl]; omega)
          have hgd : (sortI (column l k)).getD (l.length - nd) 0 = (sortI (column l k))[l.length - nd]'(by rw [sortI_len, hcl]; omega) := by
            rw [List.getD_eq_getElem?_getD, List.getElem?_eq_getElem (by rw [sortI_len, hcl]; omega)]; rfl
          rw [← hgd] at hget
          have hwr : IntKind.i64.wrap ((l.length : Int) - nd) = ((l.length - nd : Nat) : Int) := by rw [IntWalk.i64_in _ (by omega)]; omega
          have hrg : (List.range (k + 1)).map (fun k => (sortI (column l k)).getD (l.length - nd) 0) = (List.range k).map (fun k => (sortI (column l k)).getD (l.length - nd) 0) ++ [(sortI (column l k)).getD (l.length - nd) 0] := by
            rw [List.range_succ, List.map_append]; rfl
          have Hrg := Lib.hid hrg
          have hhl : (headL l).length ≤ 8 := by
            have h3 := List.any_eq_false.1 Hq.out l[0] (List.getElem_mem h0)
            have h4 : kindB l[0] (headL l) = true := by simpa using h3
            obtain ⟨⟨_, h5⟩, _⟩ : (vright l[0] = true ∧ vright (headL l) = true) ∧ l[0].length = (headL l).length := by simpa [kindB] using h4
            exact (vright_iff.1 h5).2.1
          have hrl : ((List.range k).map (fun k => (sortI (column l k)).getD (l.length - nd) 0)).length = k := by simp
          clear hgd hrg hown5
          generalize (sortI (column l k)).getD (l.length - nd) 0 = x at *
          generalize (List.range k).map (fun k => (sortI (column l k)).getD (l.length - nd) 0) = acc at *
          have Hrl := Lib.hid hrl
          clear hrl
          go_wp2_with (first | (with_reducible refine stop_append ?_) | (with_reducible refine stop_copy ?_) | (with_reducible refine stop_make ?_) | (with_reducible refine stop_lookup ?_) | (with_reducible refine stop_update ?_) | (with_reducible refine stop_slice ?_) | (with_reducible refine stop_range ?_) | (with_reducible refine stop_next ?_) | (with_reducible refine stop_convert ⟨_, rfl⟩ ?_) | (with_reducible refine stop_convertB ⟨_, _, _, rfl⟩ ?_) | (with_reducible refine stop_eqSlice ⟨_, _, rfl⟩ ?_))
          have hcA := (Chg.refl No w5).alloc (.cells #[.int .i64 x] 3)
          refine step_append_flat (α := Int) (ys := [x]) Try.underlying24 vinfo_int rfl (hown65.alloc (.cells #[.int .i64 x] 3)) rfl rfl (Sl.lit1 (F := No) (y := x) rfl rfl (not_no _)) (by have := Hrl.out; simp; omega) (by have := Hrl.out; simp; omega) (by have := hc5.size; have := hc8.size; simp; omega) ?_
          intro v7 w7 hown7 hg7
          have hmk7 := (hmk5.no hcA).keep hg7.chg (fun E hE e => (hmk5.no hcA).ne ((hown65.alloc (.cells #[.int .i64 x] 3)).cells E e) E hE rfl)
          have hc7 : Chg No w1 w7 := ((((hcr.trans hcs).old hc8 (fun i e => by simp only [At] at e; omega)).old hc5 (fun i e => by have := hob8 i e; omega)).trans hcA).grew hg7 (fun i hi => .inr (Hown.out.lt i hi).1)
          rw [← Hrg.out] at hown7
          have Hown7 := Lib.hid hown7
          have Hmk7 := Lib.hid hmk7
          clear hown7 hg7 hmk7
          go_wp2_with (first | (with_reducible refine stop_append ?_) | (with_reducible refine stop_copy ?_) | (with_reducible refine stop_make ?_) | (with_reducible refine stop_lookup ?_) | (with_reducible refine stop_update ?_) | (with_reducible refine stop_slice ?_) | (with_reducible refine stop_range ?_) | (with_reducible refine stop_next ?_) | (with_reducible refine stop_convert ⟨_, rfl⟩ ?_) | (with_reducible refine stop_convertB ⟨_, _, _, rfl⟩ ?_) | (with_reducible refine stop_eqSlice ⟨_, _, rfl⟩ ?_))
          refine ⟨⟨k + 1, D :: Ds, _, _, _, _, _, _, _, _, _, _, _, _, _, _, _, _, _, _, _, _, _, _, _, _, _, _, _, _, ⟨by omega, hc7, Hown7.out, Hmk7.out, fun E hE => ?_, ?_⟩, rfl⟩, ?_⟩
          · rcases List.mem_cons.1 hE with rfl | hE
            · omega
            · exact HDs.out E hE
          · go_num
          · simp [intOf]; omega
      · obtain rfl : k = (headL l).length := by omega
        go_wp2_with (first | (with_reducible refine stop_append ?_) | (with_reducible refine stop_copy ?_) | (with_reducible refine stop_make ?_) | (with_reducible refine stop_lookup ?_) | (with_reducible refine stop_update ?_) | (with_reducible refine stop_slice ?_) | (with_reducible refine stop_range ?_) | (with_reducible refine stop_next ?_) | (with_reducible refine stop_convert ⟨_, rfl⟩ ?_) | (with_reducible refine stop_convertB ⟨_, _, _, rfl⟩ ?_) | (with_reducible refine stop_eqSlice ⟨_, _, rfl⟩ ?_))
        refine marks_retN (v := .tuple #[.slice A6 (headL l).length c6, .bool true]) Ds wr Hmk.out (fun W hW => ⟨by simp [results, Try.results13, go_sem], ?_⟩)
        have hcw : Chg No w W := ((hc0.trans hc1).trans hcr).old hW (fun D hD => by have := HDs.out D hD; have := (hc0.trans hc1).size; omega)
        have hownW := Hown.out.keepFlat hW (fun i hi hD => Hmk.out.ne (Hown.out.cells i hi) i hD rfl)
        refine ⟨hcw, .inl ⟨_, Hr.out, _, rfl, hownW.slFlat (G := Lt w.heap.size) (fun i hi h => by have := (hownW.lt i hi).1; have := (hc0.trans hc1).size; simp only [Lt] at h; omega)⟩⟩
end Go.Proofs.Ytlpnbbjmcmjkpaa
