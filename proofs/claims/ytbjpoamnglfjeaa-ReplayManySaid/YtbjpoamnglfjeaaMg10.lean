/- Texts RepO, RegY, OrdQ, RepP, RepQ. -/
import Derived.Test.YtbjpoamnglfjeaaMg9
/- Walk of the replay's few: what it reckons. -/
set_option linter.unusedVariables false
set_option linter.unusedSimpArgs false
namespace Go.Proofs.Ytbjpoamnglfjeaa
open Go.RowKit Cb

def IsW (n : Int) (S : Nat) : Prop := ∃ k : Int, n = S + k * 18446744073709551616 ∧ -9223372036854775808 ≤ n ∧ n ≤ 9223372036854775807
theorem IsW.add {n : Int} {S : Nat} (h : IsW n S) (a : Nat) : IsW (wrap64 (n + a)) (S + a) := by
  obtain ⟨k, h1, h2, h3⟩ := h
  unfold wrap64
  by_cases hn : n + a + 9223372036854775808 < 0
  · omega
  · refine ⟨k - (n + a + 9223372036854775808) / 18446744073709551616, ?_, ?_, ?_⟩ <;> omega
theorem IsW.of {n : Int} {S : Nat} (h : IsW n S) (h1 : n ≤ 1500) (h2 : S ≤ 4611686018427387904) : S ≤ 1500 := by
  obtain ⟨k, h3, h4, h5⟩ := h
  omega
def sumT {α : Type} (f : α → Nat) (l : List α) : Nat := (l.map f).sum
theorem sumT_nil {α : Type} (f : α → Nat) (l : List α) : sumT f (l.take 0) = 0 := by simp [sumT]
theorem sumT_next {α : Type} (f : α → Nat) (l : List α) (j : Nat) (h : j < l.length) : sumT f (l.take (j + 1)) = sumT f (l.take j) + f l[j] := by
  unfold sumT
  rw [List.take_succ_eq_append_getElem h, List.map_append, List.sum_append]
  simp
theorem sumT_all {α : Type} (f : α → Nat) (l : List α) : sumT f (l.take l.length) = sumT f l := by rw [List.take_length]
def opT (o : Op16) : Nat := o.2.2.1.1.2.1.length + o.2.2.1.1.2.2.length + o.2.2.1.2.length + o.2.2.2.1.length + sumT List.length o.2.2.1.1.2.2 + sumT (fun e : Ent => e.2.2.1.length) (o.2.2.1.2 ++ o.2.2.2.1)
def fewT (q : List Int) (s : List (List Int)) (l : List Op16) : Nat := q.length + s.length + sumT List.length s + sumT opT l
def FewOut (T N : Nat) (w : World) (e : Ending) (w' : World) : Prop := ∃ b, e = .returned (.bool b) ∧ Chg No w w' ∧ (b = true → T ≤ 4611686018427387904 → N ≤ 40 ∧ T ≤ 1500)
set_option maxRecDepth 100000 in
set_option maxHeartbeats 8000000 in
theorem fewm_any (F G H : Nat → Prop) (t : Int) (vq vs v : Value) (q : List Int) (s : List (List Int)) (l : List Op16) (w : World) (hq : Sl F w vq q) (hs : Sl G w vs s) (h : Sl H w v l) (hl : l.length * 56 ≤ 140737488355328) (hc : CfgI q s) (ho : ∀ o ∈ l, Op16I o) :
    Calls Try.prog 46 #[cfgV t vq vs, v] w (FewOut (fewT q s l) l.length w) := by
  obtain ⟨Aq, cq, rfl⟩ := hq.slice
  obtain ⟨As, cs, rfl⟩ := hs.slice
  obtain ⟨A, c, rfl⟩ := h.slice
  unfold cfgV
  have o1 := alloc_obj w (.cells #[.int .i64 t, .slice Aq q.length cq, .slice As s.length cs] 63)
  have hc0 := (Chg.refl No w).alloc (.cells #[.int .i64 t, .slice Aq q.length cq, .slice As s.length cs] 63)
  have a1 := cell_obj (i := 1) o1 rfl
  have a2 := cell_obj (i := 2) o1 rfl
  have H := Lib.hid (h.keepNo hc0)
  have Hs := Lib.hid (hs.keepNo hc0)
  have Ho := Lib.hid ho
  have hc1 := hc.1
  have hc2 := hc.2.1
  clear h hs hq ho hc o1
  go_enter Try.func46, Try.ntmps46
  go_wp2_with (with_reducible first | refine stop_append ?_ | refine stop_copy ?_ | refine stop_make ?_ | refine stop_lookup ?_ | refine stop_update ?_ | refine stop_slice ?_ | refine stop_range ?_ | refine stop_next ?_ | refine stop_convert ⟨_, rfl⟩ ?_ | refine stop_convertB ⟨_, _, _, rfl⟩ ?_ | refine stop_eqSlice ⟨_, _, rfl⟩ ?_)
  generalize w.alloc (.cells #[.int .i64 t, .slice Aq q.length cq, .slice As s.length cs] 63) = w0 at *
  generalize w.heap.size = b at *
  go_loopw [5, 7, 26] (fun v5 _ v26 wr => ∃ (j : Nat) (n : Int), j ≤ s.length ∧ v26 = .int .i64 j ∧ v5 = .int .i64 n ∧ wr = w0 ∧ IsW n (q.length + s.length + sumT List.length (s.take j))) (fun _ _ v26 _ => s.length - (intOf v26).toNat)
  case atStart => exact ⟨0, _, by omega, rfl, rfl, rfl, by rw [sumT_nil]; exact ⟨0, by omega, by omega, by omega⟩⟩
  case round =>
    obtain ⟨j, m, hj, rfl, rfl, rfl, hw⟩ := hrel
    by_cases hlj : j < s.length
    · have hsn := sumT_next List.length s j hlj
      obtain ⟨b2, o2, d, rfl, _, hbl2, ⟨vj, rfl, hvj⟩, ha⟩ := Hs.out.get j hlj
      have ha0 := ha 0 _ rfl
      simp only [show Rep.n (List Int) = 1 from rfl, Nat.mul_one, Nat.add_zero] at ha0
      obtain ⟨Aj, cj, rfl⟩ := hvj.slice
      generalize s[j].length = nj at *
      clear ha hvj
      go_wp2_with (with_reducible first | refine stop_append ?_ | refine stop_copy ?_ | refine stop_make ?_ | refine stop_lookup ?_ | refine stop_update ?_ | refine stop_slice ?_ | refine stop_range ?_ | refine stop_next ?_ | refine stop_convert ⟨_, rfl⟩ ?_ | refine stop_convertB ⟨_, _, _, rfl⟩ ?_ | refine stop_eqSlice ⟨_, _, rfl⟩ ?_)
      go_roundw
      case rel => refine ⟨j + 1, _, by omega, by go_num, rfl, by first | rfl | trivial, ?_⟩; rw [hsn, ← Nat.add_assoc]; exact hw.add _
      case measure => simp [intOf]; omega
    · obtain rfl : j = s.length := by omega
      obtain ⟨wA, rfl⟩ : ∃ W : World, W = wr := ⟨_, rfl⟩
      clear a1 a2
      go_wp2_with (with_reducible first | refine stop_append ?_ | refine stop_copy ?_ | refine stop_make ?_ | refine stop_lookup ?_ | refine stop_update ?_ | refine stop_slice ?_ | refine stop_range ?_ | refine stop_next ?_ | refine stop_convert ⟨_, rfl⟩ ?_ | refine stop_convertB ⟨_, _, _, rfl⟩ ?_ | refine stop_eqSlice ⟨_, _, rfl⟩ ?_)
      go_loopw [5, 9, 11, 13, 15, 37, 68, 86, 93] (fun v5 _ _ _ _ v37 _ _ _ wr => ∃ (k : Nat) (n : Int), k ≤ l.length ∧ v37 = .int .i64 k ∧ v5 = .int .i64 n ∧ Chg No wA wr ∧ IsW n (q.length + s.length + sumT List.length s + sumT opT (l.take k))) (fun _ _ _ _ _ v37 _ _ _ _ => l.length - (intOf v37).toNat)
      case atStart => exact ⟨0, _, by omega, rfl, rfl, Chg.refl _ _, by rw [sumT_nil, ← sumT_all List.length s]; exact hw⟩
      case round =>
        obtain ⟨k, n, hk, rfl, rfl, hcr, hw⟩ := hrel
        by_cases hlt : k < l.length
        · have hsk := Lib.hid (sumT_next opT l k hlt)
          obtain ⟨b4, o4, vq4, vs4, vt4, vl4, rfl, -, hbl, sq, ss, st, sl, k0, k1, k2, k3, k4, k5, k6, k7⟩ := op16_get (H.out.keepNo hcr) k hlt
          obtain ⟨hcx, hlx, hly, hlz⟩ := Ho.out _ (List.getElem_mem hlt)
          have hn1 := hcx.1
          have hn2 := hcx.2.1
          have hn3 := hlx.1
          have hn4 := hly.1
          have Hn4 := Lib.hid hlx.2
          have Hn6 := Lib.hid hly.2
          have Hn5 := Lib.hid hcx.2.2
          clear hcx hlx hly
          generalize l[k] = x at *
          obtain ⟨xk, xT, ⟨⟨xt, xq, xs⟩, xl⟩, xe, xb⟩ := x
          simp only at k0 k1 k2 k3 k4 k5 k6 k7 sq ss st sl hn1 hn2 hn3 hn4 Hn4 Hn5 Hn6 hlz
          obtain ⟨Bq, dq, rfl⟩ := sq.slice
          obtain ⟨Bs, ds, rfl⟩ := ss.slice
          obtain ⟨Bt, dt, rfl⟩ := st.slice
          obtain ⟨Bl, dl, rfl⟩ := sl.slice
          have hca := (Chg.refl No wr).alloc (.cells #[.int .i64 xk, .int .i64 xT, .int .i64 xt, .slice Bq xq.length dq, .slice Bs xs.length ds, .slice Bt xl.length dt, .slice Bl xe.length dl, .bool xb] 95)
          have o2 := alloc_obj wr (.cells #[.int .i64 xk, .int .i64 xT, .int .i64 xt, .slice Bq xq.length dq, .slice Bs xs.length ds, .slice Bt xl.length dt, .slice Bl xe.length dl, .bool xb] 95)
          have Hss := Lib.hid (fun W (hW : Chg No (wr.alloc (.cells #[.int .i64 xk, .int .i64 xT, .int .i64 xt, .slice Bq xq.length dq, .slice Bs xs.length ds, .slice Bt xl.length dt, .slice Bl xe.length dl, .bool xb] 95)) W) => (ss.keepNo hca).keepNo hW)
          have Hst := Lib.hid (fun W (hW : Chg No (wr.alloc (.cells #[.int .i64 xk, .int .i64 xT, .int .i64 xt, .slice Bq xq.length dq, .slice Bs xs.length ds, .slice Bt xl.length dt, .slice Bl xe.length dl, .bool xb] 95)) W) => (st.keepNo hca).keepNo hW)
          have Hsl := Lib.hid (fun W (hW : Chg No (wr.alloc (.cells #[.int .i64 xk, .int .i64 xT, .int .i64 xt, .slice Bq xq.length dq, .slice Bs xs.length ds, .slice Bt xl.length dt, .slice Bl xe.length dl, .bool xb] 95)) W) => (sl.keepNo hca).keepNo hW)
          have c3 := cell_obj (i := 3) o2 rfl
          have c4 := cell_obj (i := 4) o2 rfl
          have c5 := cell_obj (i := 5) o2 rfl
          have c6 := cell_obj (i := 6) o2 rfl
          clear sq ss st sl
          go_wp2_with (with_reducible first | refine stop_append ?_ | refine stop_copy ?_ | refine stop_make ?_ | refine stop_lookup ?_ | refine stop_update ?_ | refine stop_slice ?_ | refine stop_range ?_ | refine stop_next ?_ | refine stop_convert ⟨_, rfl⟩ ?_ | refine stop_convertB ⟨_, _, _, rfl⟩ ?_ | refine stop_eqSlice ⟨_, _, rfl⟩ ?_)
          generalize wr.alloc (.cells #[.int .i64 xk, .int .i64 xT, .int .i64 xt, .slice Bq xq.length dq, .slice Bs xs.length ds, .slice Bt xl.length dt, .slice Bl xe.length dl, .bool xb] 95) = wB at *
          generalize wr.heap.size = p2 at *
          have hcB := hcr.trans hca
          clear k0 k1 k2 k3 k4 k5 k6 k7 hbl hca
          obtain ⟨wB', rfl⟩ : ∃ W : World, W = wB := ⟨_, rfl⟩
          go_loopw [5, 11, 68] (fun v5 _ v68 wr => ∃ (j : Nat) (n : Int), j ≤ xs.length ∧ v68 = .int .i64 j ∧ v5 = .int .i64 n ∧ wr = wB' ∧ IsW n (q.length + s.length + sumT List.length s + sumT opT (l.take k) + (xq.length + xs.length + xl.length + xe.length + sumT List.length (xs.take j)))) (fun _ _ v68 _ => xs.length - (intOf v68).toNat)
          case atStart => refine ⟨0, _, by omega, rfl, rfl, rfl, ?_⟩; have ht := hw.add (xq.length + xs.length + xl.length + xe.length); rw [Int.natCast_add, Int.natCast_add, Int.natCast_add] at ht; rw [sumT_nil]; exact ht
          case round =>
            obtain ⟨i, r, hi, rfl, rfl, rfl, hw2⟩ := hrel
            by_cases hli : i < xs.length
            · have hsn := sumT_next List.length xs i hli
              obtain ⟨b2, o2', d, rfl, _, hbl2, ⟨vj, rfl, hvj⟩, ha⟩ := (Hss.out _ (Chg.refl No _)).get i hli
              have ha0 := ha 0 _ rfl
              simp only [show Rep.n (List Int) = 1 from rfl, Nat.mul_one, Nat.add_zero] at ha0
              have hn7 := Hn5.out _ (List.getElem_mem hli)
              obtain ⟨Aj, cj, rfl⟩ := hvj.slice
              generalize xs[i].length = nj at *
              clear ha hvj
              go_wp2_with (with_reducible first | refine stop_append ?_ | refine stop_copy ?_ | refine stop_make ?_ | refine stop_lookup ?_ | refine stop_update ?_ | refine stop_slice ?_ | refine stop_range ?_ | refine stop_next ?_ | refine stop_convert ⟨_, rfl⟩ ?_ | refine stop_convertB ⟨_, _, _, rfl⟩ ?_ | refine stop_eqSlice ⟨_, _, rfl⟩ ?_)
              go_roundw
              case rel => refine ⟨i + 1, _, by omega, by go_num, rfl, by first | rfl | trivial, ?_⟩; rw [hsn, ← Nat.add_assoc (xq.length + xs.length + xl.length + xe.length), ← Nat.add_assoc (q.length + s.length + sumT List.length s + sumT opT (l.take k))]; exact hw2.add _
              case measure => simp [intOf]; omega
            · obtain rfl : i = xs.length := by omega
              obtain ⟨wB, rfl⟩ : ∃ W : World, W = wr := ⟨_, rfl⟩
              clear c3 c4
              rw [sumT_all] at hw2
              have Hw2 := Lib.hid hw2
              clear hw2
              go_wp2_with (with_reducible first | refine stop_append ?_ | refine stop_copy ?_ | refine stop_make ?_ | refine stop_lookup ?_ | refine stop_update ?_ | refine stop_slice ?_ | refine stop_range ?_ | refine stop_next ?_ | refine stop_convert ⟨_, rfl⟩ ?_ | refine stop_convertB ⟨_, _, _, rfl⟩ ?_ | refine stop_eqSlice ⟨_, _, rfl⟩ ?_)
              have HS := Lib.hid (show ∀ W : World, W.heap[p2]? = some (.cells #[.int .i64 xk, .int .i64 xT, .int .i64 xt, .slice Bq xq.length dq, .slice Bs xs.length ds, .slice Bt xl.length dt, .slice Bl xe.length dl, .bool xb] 95) → (fun W => W.cell? ⟨p2, 5, none⟩ = some (.slice Bt xl.length dt) ∧ W.cell? ⟨p2, 6, none⟩ = some (.slice Bl xe.length dl)) W from fun W hW => ⟨cell_obj (i := 5) hW rfl, cell_obj (i := 6) hW rfl⟩)
              have cd := (Chg.refl No wB).drew
              refine reg_start (fun W => W.cell? ⟨p2, 5, none⟩ = some (.slice Bt xl.length dt) ∧ W.cell? ⟨p2, 6, none⟩ = some (.slice Bl xe.length dl)) (by kernel_rfl) ?_
              ((refine reg_yes (i := 1) (oi := { dst := some 78, op := .fieldAddr 95 (.tmp 9) 2, type := 0, pos := "law.go:62", after := #[], guard := none }) (v := ?_) rfl (by kernel_rfl) (by kernel_rfl) (by kernel_rfl) (fun _ _ _ h => h) rfl ?_ ?_); rotate_left; focus (intro W hW; (try dsimp only at hW); go_split_ands; go_simp; (try (simp (disch := omega) only [IntWalk.i64_in]; (try go_simp))); (try (split; (next => omega); (try go_simp))); try rfl; done))
              try simp only [Act.put, List.setIfInBounds_toArray, List.set_cons_zero, List.set_cons_succ, Nat.reduceAdd]
              ((refine reg_yes (i := 2) (oi := { dst := some 79, op := .fieldAddr 71 (.tmp 78) 1, type := 0, pos := "law.go:62", after := #[{ on := 1, ground := .data }], guard := none }) (v := ?_) rfl (by kernel_rfl) (by kernel_rfl) (by kernel_rfl) (fun _ _ _ h => h) rfl ?_ ?_); rotate_left; focus (intro W hW; (try dsimp only at hW); go_split_ands; go_simp; (try (simp (disch := omega) only [IntWalk.i64_in]; (try go_simp))); (try (split; (next => omega); (try go_simp))); try rfl; done))
              try simp only [Act.put, List.setIfInBounds_toArray, List.set_cons_zero, List.set_cons_succ, Nat.reduceAdd]
              ((refine reg_yes (i := 3) (oi := { dst := some 80, op := .load 22 (.tmp 79), type := 22, pos := "law.go:62", after := #[{ on := 2, ground := .data }], guard := none }) (v := ?_) rfl (by kernel_rfl) (by kernel_rfl) (by kernel_rfl) (fun _ _ _ h => h) rfl ?_ ?_); rotate_left; focus (intro W hW; (try dsimp only at hW); go_split_ands; go_simp; (try (simp (disch := omega) only [IntWalk.i64_in]; (try go_simp))); (try (split; (next => omega); (try go_simp))); try rfl; done))
              try simp only [Act.put, List.setIfInBounds_toArray, List.set_cons_zero, List.set_cons_succ, Nat.reduceAdd]
              ((refine reg_yes (i := 5) (oi := { dst := some 82, op := .fieldAddr 95 (.tmp 9) 3, type := 0, pos := "law.go:62", after := #[], guard := none }) (v := ?_) rfl (by kernel_rfl) (by kernel_rfl) (by kernel_rfl) (fun _ _ _ h => h) rfl ?_ ?_); rotate_left; focus (intro W hW; (try dsimp only at hW); go_split_ands; go_simp; (try (simp (disch := omega) only [IntWalk.i64_in]; (try go_simp))); (try (split; (next => omega); (try go_simp))); try rfl; done))
              try simp only [Act.put, List.setIfInBounds_toArray, List.set_cons_zero, List.set_cons_succ, Nat.reduceAdd]
              ((refine reg_yes (i := 6) (oi := { dst := some 83, op := .load 22 (.tmp 82), type := 22, pos := "law.go:62", after := #[{ on := 5, ground := .data }], guard := none }) (v := ?_) rfl (by kernel_rfl) (by kernel_rfl) (by kernel_rfl) (fun _ _ _ h => h) rfl ?_ ?_); rotate_left; focus (intro W hW; (try dsimp only at hW); go_split_ands; go_simp; (try (simp (disch := omega) only [IntWalk.i64_in]; (try go_simp))); (try (split; (next => omega); (try go_simp))); try rfl; done))
              try simp only [Act.put, List.setIfInBounds_toArray, List.set_cons_zero, List.set_cons_succ, Nat.reduceAdd]
              ((refine reg_yes (i := 9) (oi := { dst := some 86, op := .move (.const (.int .i64 0)), type := 3, pos := "law.go:62", after := #[], guard := none }) (v := ?_) rfl (by kernel_rfl) (by kernel_rfl) (by kernel_rfl) (fun _ _ _ h => h) rfl ?_ ?_); rotate_left; focus (intro W hW; (try dsimp only at hW); go_split_ands; go_simp; (try (simp (disch := omega) only [IntWalk.i64_in]; (try go_simp))); (try (split; (next => omega); (try go_simp))); try rfl; done))
              try simp only [Act.put, List.setIfInBounds_toArray, List.set_cons_zero, List.set_cons_succ, Nat.reduceAdd]
              refine reg_k (fun W => W.cell? ⟨p2, 5, none⟩ = some (.slice Bt xl.length dt) ∧ W.cell? ⟨p2, 6, none⟩ = some (.slice Bl xe.length dl)) (i := 0) (oi := { dst := some 77, op := .buildSlice 22 0 #[], type := 22, pos := "law.go:62", after := #[], guard := none }) (by kernel_rfl) (HS.out _ (cd.obj o2 (not_no _))) (fun _ h => h) rfl (by rfl) (fun K hK => ?_)
              go_simp
              refine hK _ _ ?_
              clear hK K
              try simp only [Act.put, List.setIfInBounds_toArray, List.set_cons_zero, List.set_cons_succ]
              have own0 := (Cb.Own.made0 (α := Ent) No wB 52).keep ((Chg.refl No (wB.alloc (.cells #[] 52))).drew) (fun _ _ f => f) (fun _ _ f => f)
              have cA : Chg No wB (wB.alloc (.cells #[] 52)).drew := ((Chg.refl No wB).alloc _).drew
              have hst := ((Hst.out wB (Chg.refl _ _)).weak (G := Ge wB.heap.size) (fun b hb g => by simp only [Ge] at g; omega)).keepNo cA
              have hsl := ((Hsl.out wB (Chg.refl _ _)).weak (G := Ge wB.heap.size) (fun b hb g => by simp only [Ge] at g; omega)).keepNo cA
              have oA := cA.obj o2 (not_no _)
              have hp2 := lt_of_heap o2
              have hzA : wB.heap.size ≤ (wB.alloc (.cells #[] 52)).drew.heap.size := cA.size
              generalize (wB.alloc (.cells #[] 52)).drew = w1 at *
              generalize hBz : wB.heap.size = B0 at *
              refine reg_append_sl (α := Ent) (fun W => W.cell? ⟨p2, 5, none⟩ = some (.slice Bt xl.length dt) ∧ W.cell? ⟨p2, 6, none⟩ = some (.slice Bl xe.length dl)) (i := 4) (F := No) (G := Ge B0) (base := B0) (xs := []) (ys := xl) (by kernel_rfl) (HS.out _ oA) (fun _ h => h) rfl rfl Try.underlying22 info_rent rfl own0 rfl rfl hst (fun b hb g => by rcases g with g | g; exact g.elim; exact (own0.lt b g).1) (by simp; omega) (by simp; omega) hzA ?_
              intro v2 w2 own2 gr2
              have c2 : Chg (Ge B0) w1 w2 := gr2.chg.weak (fun b _ g => (own0.lt b g).1)
              rw [List.nil_append] at own2
              have hnp : ¬ Ge B0 p2 := by simp only [Ge]; omega
              have oB := c2.obj oA hnp
              have hsl2 := hsl.keep c2
              have hz2 := c2.size
              obtain ⟨A2, e2, rfl⟩ := own2.slice
              try simp only [Act.put, List.setIfInBounds_toArray, List.set_cons_zero, List.set_cons_succ, Nat.reduceAdd]
              refine reg_append_sl (α := Ent) (fun W => W.cell? ⟨p2, 5, none⟩ = some (.slice Bt xl.length dt) ∧ W.cell? ⟨p2, 6, none⟩ = some (.slice Bl xe.length dl)) (i := 7) (F := No) (G := Ge B0) (base := B0) (xs := xl) (ys := xe) (by kernel_rfl) (HS.out _ oB) (fun _ h => h) rfl rfl Try.underlying22 info_rent rfl own2 rfl rfl hsl2 (fun b hb g => by rcases g with g | g; exact g.elim; exact (own2.lt b g).1) (by omega) (by omega) (by omega) ?_
              intro v3 w3 own3 gr3
              have c3 : Chg (Ge B0) w2 w3 := gr3.chg.weak (fun b _ g => (own2.lt b g).1)
              obtain ⟨A3, e3, rfl⟩ := own3.slice
              have oC := c3.obj oB hnp
              have hN : Chg No wB w3 := (cA.of_no (G := No)).trans' (c2.trans c3) (fun _ _ f => f) (fun b hb g => by simp only [Ge] at g; omega)
              have hap := own3.sl (fun _ _ => not_no _)
              have hlen : (xl ++ xe).length ≤ 2199023255488 := by rw [List.length_append]; omega
              have Hcut := Lib.hid (show ∀ e ∈ xl ++ xe, e.2.2.1.length ≤ 17592186043904 from fun e he => by rcases List.mem_append.1 he with h | h; exact Hn4.out e h; exact Hn6.out e h)
              have HT := Lib.hid (show opT (xk, xT, ((xt, xq, xs), xl), xe, xb) = xq.length + xs.length + xl.length + xe.length + sumT List.length xs + sumT (fun e : Ent => e.2.2.1.length) (xl ++ xe) from rfl)
              generalize xl ++ xe = ap at *
              try simp only [Act.put, List.setIfInBounds_toArray, List.set_cons_zero, List.set_cons_succ, Nat.reduceAdd]
              ((refine reg_yes (i := 8) (oi := { dst := some 85, op := .call { callee := .builtin .len, args := #[.tmp 84], argTypes := #[22] }, type := 3, pos := "law.go:62", after := #[{ on := 7, ground := .data }], guard := none }) (v := ?_) rfl (by kernel_rfl) (by kernel_rfl) (by kernel_rfl) (fun _ _ _ h => h) rfl ?_ ?_); rotate_left; focus (intro W hW; (try dsimp only at hW); go_split_ands; go_simp; (try (simp (disch := omega) only [IntWalk.i64_in]; (try go_simp))); (try (split; (next => omega); (try go_simp))); try rfl; done))
              try simp only [Act.put, List.setIfInBounds_toArray, List.set_cons_zero, List.set_cons_succ, Nat.reduceAdd]
              refine reg_done (by kernel_rfl) (HS.out _ oC) ?_
              have hcw3 := (hc0.trans hcB).trans hN
              have hcB3 := hcB.trans hN
              clear own0 own2 own3 gr2 gr3 c2 c3 hst hsl hsl2 oA oB oC cA cd HS hzA hz2
              go_wp2_with (with_reducible first | refine stop_append ?_ | refine stop_copy ?_ | refine stop_make ?_ | refine stop_lookup ?_ | refine stop_update ?_ | refine stop_slice ?_ | refine stop_range ?_ | refine stop_next ?_ | refine stop_convert ⟨_, rfl⟩ ?_ | refine stop_convertB ⟨_, _, _, rfl⟩ ?_ | refine stop_eqSlice ⟨_, _, rfl⟩ ?_)
              go_loopw [5, 13, 15, 86, 93] (fun v5 _ _ v86 _ wr => ∃ (j : Nat) (n : Int), j ≤ ap.length ∧ v86 = .int .i64 j ∧ v5 = .int .i64 n ∧ Chg No w3 wr ∧ IsW n (q.length + s.length + sumT List.length s + sumT opT (l.take k) + (xq.length + xs.length + xl.length + xe.length + sumT List.length xs) + sumT (fun e : Ent => e.2.2.1.length) (ap.take j))) (fun _ _ _ v86 _ _ => ap.length - (intOf v86).toNat)
              case atStart => exact ⟨0, _, by omega, rfl, rfl, Chg.refl _ _, by rw [sumT_nil]; exact Hw2.out⟩
              case round =>
                obtain ⟨j, m, hj, rfl, rfl, hcd, hw3⟩ := hrel
                by_cases hlj : j < ap.length
                · have hsj := Lib.hid (sumT_next (fun e : Ent => e.2.2.1.length) ap j hlj)
                  have Hw3 := Lib.hid hw3
                  clear hw3
                  obtain ⟨b5, o5, vc, rfl, -, hb5, sc, e0, e1, e2, e3, e4, e5⟩ := ent_get (hap.keepNo hcd) j hlj
                  have hn6 := Hcut.out _ (List.getElem_mem hlj)
                  generalize ap[j] = y at *
                  obtain ⟨y0, y1, y2, y3, y4, y5⟩ := y
                  simp only at sc e0 e1 e2 e3 e4 e5 hn6
                  obtain ⟨Ac, cc, rfl⟩ := sc.slice
                  have hcb := hcd.alloc (.cells #[.int .i64 y0, .int .i64 y1, .slice Ac y2.length cc, .int .i64 y3, .int .i64 y4, .int .i64 y5] 52)
                  have o3 := alloc_obj wr (.cells #[.int .i64 y0, .int .i64 y1, .slice Ac y2.length cc, .int .i64 y3, .int .i64 y4, .int .i64 y5] 52)
                  have f2 := cell_obj (i := 2) o3 rfl
                  have Hsc := Lib.hid (sc.keepNo ((Chg.refl No wr).alloc (.cells #[.int .i64 y0, .int .i64 y1, .slice Ac y2.length cc, .int .i64 y3, .int .i64 y4, .int .i64 y5] 52)))
                  clear sc o3
                  go_wp2_with (with_reducible first | refine stop_append ?_ | refine stop_copy ?_ | refine stop_make ?_ | refine stop_lookup ?_ | refine stop_update ?_ | refine stop_slice ?_ | refine stop_range ?_ | refine stop_next ?_ | refine stop_convert ⟨_, rfl⟩ ?_ | refine stop_convertB ⟨_, _, _, rfl⟩ ?_ | refine stop_eqSlice ⟨_, _, rfl⟩ ?_)
                  generalize wr.alloc (.cells #[.int .i64 y0, .int .i64 y1, .slice Ac y2.length cc, .int .i64 y3, .int .i64 y4, .int .i64 y5] 52) = wE at *
                  generalize wr.heap.size = pE at *
                  go_loopw [5, 15, 93] (fun v5 _ v93 wr => ∃ (i : Nat) (n : Int), i ≤ y2.length ∧ v93 = .int .i64 i ∧ v5 = .int .i64 n ∧ wr = wE ∧ IsW n (q.length + s.length + sumT List.length s + sumT opT (l.take k) + (xq.length + xs.length + xl.length + xe.length + sumT List.length xs) + sumT (fun e : Ent => e.2.2.1.length) (ap.take j) + i)) (fun _ _ v93 _ => y2.length - (intOf v93).toNat)
                  case atStart => exact ⟨0, _, by omega, rfl, rfl, rfl, Hw3.out⟩
                  case round =>
                    obtain ⟨z, r, hz, rfl, rfl, rfl, hw4⟩ := hrel
                    by_cases hlz : z < y2.length
                    · obtain ⟨b6, o6, rfl, -, hb6, hx0⟩ := intT_get Hsc.out z hlz
                      generalize y2[z] = x at *
                      by_cases h60 : 60 < x
                      · by_cases h1m : x ≤ 1000000
                        · go_wp2_with (with_reducible first | refine stop_append ?_ | refine stop_copy ?_ | refine stop_make ?_ | refine stop_lookup ?_ | refine stop_update ?_ | refine stop_slice ?_ | refine stop_range ?_ | refine stop_next ?_ | refine stop_convert ⟨_, rfl⟩ ?_ | refine stop_convertB ⟨_, _, _, rfl⟩ ?_ | refine stop_eqSlice ⟨_, _, rfl⟩ ?_)
                          go_ret
                          exact ⟨_, rfl, hcw3.trans hcb, fun h => by cases h⟩
                        · go_wp2_with (with_reducible first | refine stop_append ?_ | refine stop_copy ?_ | refine stop_make ?_ | refine stop_lookup ?_ | refine stop_update ?_ | refine stop_slice ?_ | refine stop_range ?_ | refine stop_next ?_ | refine stop_convert ⟨_, rfl⟩ ?_ | refine stop_convertB ⟨_, _, _, rfl⟩ ?_ | refine stop_eqSlice ⟨_, _, rfl⟩ ?_)
                          go_roundw
                          case rel => refine ⟨z + 1, _, by omega, by go_num, rfl, by first | rfl | trivial, ?_⟩; rw [← Nat.add_assoc]; exact hw4.add 1
                          case measure => simp [intOf]; omega
                      · go_wp2_with (with_reducible first | refine stop_append ?_ | refine stop_copy ?_ | refine stop_make ?_ | refine stop_lookup ?_ | refine stop_update ?_ | refine stop_slice ?_ | refine stop_range ?_ | refine stop_next ?_ | refine stop_convert ⟨_, rfl⟩ ?_ | refine stop_convertB ⟨_, _, _, rfl⟩ ?_ | refine stop_eqSlice ⟨_, _, rfl⟩ ?_)
                        go_roundw
                        case rel => refine ⟨z + 1, _, by omega, by go_num, rfl, by first | rfl | trivial, ?_⟩; rw [← Nat.add_assoc]; exact hw4.add 1
                        case measure => simp [intOf]; omega
                    · obtain rfl : z = y2.length := by omega
                      go_wp2_with (with_reducible first | refine stop_append ?_ | refine stop_copy ?_ | refine stop_make ?_ | refine stop_lookup ?_ | refine stop_update ?_ | refine stop_slice ?_ | refine stop_range ?_ | refine stop_next ?_ | refine stop_convert ⟨_, rfl⟩ ?_ | refine stop_convertB ⟨_, _, _, rfl⟩ ?_ | refine stop_eqSlice ⟨_, _, rfl⟩ ?_)
                      go_roundw
                      case rel => exact ⟨j + 1, _, by omega, by go_num, rfl, hcb, by rw [hsj.out, ← Nat.add_assoc]; exact hw4⟩
                      case measure => simp [intOf]; omega
                · obtain rfl : j = ap.length := by omega
                  go_wp2_with (with_reducible first | refine stop_append ?_ | refine stop_copy ?_ | refine stop_make ?_ | refine stop_lookup ?_ | refine stop_update ?_ | refine stop_slice ?_ | refine stop_range ?_ | refine stop_next ?_ | refine stop_convert ⟨_, rfl⟩ ?_ | refine stop_convertB ⟨_, _, _, rfl⟩ ?_ | refine stop_eqSlice ⟨_, _, rfl⟩ ?_)
                  go_roundw
                  case rel => exact ⟨k + 1, _, by omega, by go_num, rfl, hcB3.trans hcd, by rw [hsk.out, HT.out]; rw [sumT_all] at hw3; simp only [Nat.add_assoc] at hw3 ⊢; exact hw3⟩
                  case measure => simp [intOf]; omega
        · obtain rfl : k = l.length := by omega
          have hcw := hc0.trans hcr
          by_cases h1 : l.length ≤ 40
          · have h1' : (l.length : Int) ≤ 40 := by omega
            by_cases h2 : n ≤ 1500
            · rw [sumT_all] at hw
              have Hw := Lib.hid (fun h => hw.of h2 h)
              clear hw
              go_wp2_with (with_reducible first | refine stop_append ?_ | refine stop_copy ?_ | refine stop_make ?_ | refine stop_lookup ?_ | refine stop_update ?_ | refine stop_slice ?_ | refine stop_range ?_ | refine stop_next ?_ | refine stop_convert ⟨_, rfl⟩ ?_ | refine stop_convertB ⟨_, _, _, rfl⟩ ?_ | refine stop_eqSlice ⟨_, _, rfl⟩ ?_)
              go_ret
              exact ⟨_, rfl, hcw, fun _ h => ⟨h1, Hw.out h⟩⟩
            · go_wp2_with (with_reducible first | refine stop_append ?_ | refine stop_copy ?_ | refine stop_make ?_ | refine stop_lookup ?_ | refine stop_update ?_ | refine stop_slice ?_ | refine stop_range ?_ | refine stop_next ?_ | refine stop_convert ⟨_, rfl⟩ ?_ | refine stop_convertB ⟨_, _, _, rfl⟩ ?_ | refine stop_eqSlice ⟨_, _, rfl⟩ ?_)
              go_ret
              exact ⟨_, rfl, hcw, fun h => by cases h⟩
          · have h1' : ¬ (l.length : Int) ≤ 40 := by omega
            go_wp2_with (with_reducible first | refine stop_append ?_ | refine stop_copy ?_ | refine stop_make ?_ | refine stop_lookup ?_ | refine stop_update ?_ | refine stop_slice ?_ | refine stop_range ?_ | refine stop_next ?_ | refine stop_convert ⟨_, rfl⟩ ?_ | refine stop_convertB ⟨_, _, _, rfl⟩ ?_ | refine stop_eqSlice ⟨_, _, rfl⟩ ?_)
            go_ret
            exact ⟨_, rfl, hcw, fun h => by cases h⟩
end Go.Proofs.Ytbjpoamnglfjeaa


/- Plain laws of the register's rows: what stays. -/
set_option linter.unusedVariables false
set_option linter.unusedSimpArgs false
namespace Go.Proofs.Ytbjpoamnglfjeaa
open Go.RowKit Cb

theorem atR_in {rows : List Rw} {t : Int} {i : Nat} (h : i < rows.length) (ht : t = firstR rows + i) : atR rows t = some i := by
  unfold atR
  rw [if_pos (by omega)]
  congr 1
  omega
end Go.Proofs.Ytbjpoamnglfjeaa


/- The document's row of records, in plain words, and that it is the order's. It speaks of no program. -/
set_option linter.unusedVariables false
set_option linter.unusedSimpArgs false
namespace Cb
/-- The records of one shard that a cut brings. -/
def span (s : Nat) (a b : Int) : List (Int × Int) := (List.range (b - a).toNat).map fun (i : Nat) => ((s : Int), a + (i : Int))
/-- Of the first so many shards. -/
def spans (last cut : List Int) (n : Nat) : List (Int × Int) := (List.range n).flatMap fun s => span s (last.getD s 0) (cut.getD s 0)
def rstep (x : List Int × List (Int × Int)) (e : Ent) : List Int × List (Int × Int) := if e.2.1 = 1 then (e.2.2.1, x.2 ++ spans x.1 e.2.2.1 x.1.length) else x
def rst (sh : Nat) (l : List Ent) (i : Nat) : List Int × List (Int × Int) := (l.take i).foldl rstep (List.replicate sh 0, [])
/-- The document's row of what was accepted. -/
structure RRow (sh : Nat) (l : List Ent) (R : List (Int × Int)) : Prop where
  fin : (rst sh l l.length).2 = R
  len : R.length ≤ 1000000
  last : ∀ i, i ≤ l.length → (rst sh l i).1.length = sh ∧ ∀ x ∈ (rst sh l i).1, 0 ≤ x ∧ x ≤ 1099511627776
  cut : ∀ i (h : i < l.length), l[i].2.1 = 1 → l[i].2.2.1.length = sh ∧ ∀ x ∈ l[i].2.2.1, 0 ≤ x ∧ x ≤ 1099511627776
  pre : ∀ i, i ≤ l.length → (rst sh l i).2 <+: R
end Cb


/- Plain law: how many records of a term a replay tells is what its order has. -/
set_option linter.unusedVariables false
set_option linter.unusedSimpArgs false
namespace Go.Proofs.Ytbjpoamnglfjeaa
open Go.RowKit Cb

def Oj (sh : Nat) (l : List Ent) (j : Nat) : OSt := (ofF (newF sh) (l.take j)).1
theorem of_succ : ∀ (l : List Ent) (o : OSt) (j : Nat) (hj : j < l.length), (ofF o l).2 = l.length → (ofF o (l.take (j + 1))).1 = (addF (ofF o (l.take j)).1 l[j]).1 ∧ (addF (ofF o (l.take j)).1 l[j]).2 = 0
  | [], _, _, hj, _ => by simp at hj
  | e :: r, o, j, hj, h => by
    unfold ofF at h
    by_cases h0 : (addF o e).2 = 0
    · rw [if_pos h0] at h
      cases j with
      | zero => simp [ofF, h0]
      | succ j =>
        have := of_succ r (addF o e).1 j (by simpa using hj) (by simpa using h)
        simp only [List.take_succ_cons, ofF, List.getElem_cons_succ]
        rw [if_pos h0, if_pos h0]
        exact this
    · rw [if_neg h0] at h; simp at h
theorem add_yes {o : OSt} {e : Ent} (h : (addF o e).2 = 0) : (addF o e).1.after.length = o.after.length + 1 ∧ (e.2.1 = 2 → (addF o e).1.len = o.len) ∧ (∃ x, (addF o e).1.after = o.after ++ [x]) := by
  unfold addF at h ⊢
  split at h
  · rename_i hc
    rw [if_pos hc]
    split at h
    · rename_i h1
      rw [if_pos h1]
      split at h
      · rename_i h2
        rw [if_pos h2]
        split at h
        · cases h
        · rename_i h3
          rw [if_neg h3]
          exact ⟨by simp, fun h2 => by omega, _, rfl⟩
      · cases h
    · rename_i h1
      rw [if_neg h1]
      exact ⟨by simp, fun _ => by simp [OSt.len], _, rfl⟩
  · cases h
theorem add_len_le {sh : Nat} {o : OSt} {e : Ent} (hI : Cb.Inv sh o) (h : (addF o e).2 = 0) : o.len ≤ (addF o e).1.len := by
  have hI2 := inv_add hI e
  obtain ⟨-, -, x, hx⟩ := add_yes h
  generalize (addF o e).1 = o2 at *
  obtain ⟨a, ha⟩ := hI.aft
  have hr := hI2.rise a.length (by rw [hx, ha]; simp)
  have e1 : o.len = o.last.sum := hI.olen
  have e2 : o2.len = x := by simp [OSt.len, hx]
  have g1 : o2.after[a.length]? = some o.last.sum := by rw [hx, ha]; simp
  have g2 : o2.after[a.length + 1]? = some x := by rw [hx, ha]; simp
  obtain ⟨k1, k2⟩ := List.getElem?_eq_some_iff.1 g1
  obtain ⟨k3, k4⟩ := List.getElem?_eq_some_iff.1 g2
  rw [k2, k4] at hr
  omega
section
variable {sh : Nat} {l : List Ent}
theorem oj_zero : Oj sh l 0 = newF sh := by simp [Oj, ofF]
theorem oj_inv (h1 : 1 ≤ sh) (h8 : sh ≤ 8) (j : Nat) : Cb.Inv sh (Oj sh l j) := inv_of (inv_new sh h1 h8) _
theorem oj_after (hall : (ofF (newF sh) l).2 = l.length) : ∀ j, j ≤ l.length → (Oj sh l j).after.length = j + 1
  | 0, _ => by simp [oj_zero, newF]
  | j + 1, hj => by
    obtain ⟨h1, h2⟩ := of_succ l (newF sh) j (by omega) hall
    have := oj_after hall j (by omega)
    have h3 := (add_yes h2).1
    rw [← h1] at h3
    unfold Oj at *
    omega
theorem oj_ord (hall : (ofF (newF sh) l).2 = l.length) {j k : Nat} (hk : k < l.length) (hj : j = k ∨ j = k + 1) : ordF (Oj sh l j) k (entF l k) = Oj sh l (k + 1) := by
  have he : entF l k = l[k] := by simp [entF, hk]
  have ha := oj_after hall j (by omega)
  unfold ordF
  rcases hj with rfl | rfl
  · rw [if_pos (by omega), he]
    exact (of_succ l (newF sh) j hk hall).1.symm
  · rw [if_neg (by omega)]
theorem oj_le (h1 : 1 ≤ sh) (h8 : sh ≤ 8) (hall : (ofF (newF sh) l).2 = l.length) {k : Nat} (hk : k < l.length) : (Oj sh l k).len ≤ (Oj sh l (k + 1)).len := by
  obtain ⟨a, b⟩ := of_succ l (newF sh) k hk hall
  have := add_len_le (oj_inv h1 h8 k) b
  unfold Oj at *
  rw [a]; exact this
theorem oj_trim (hall : (ofF (newF sh) l).2 = l.length) {k : Nat} (hk : k < l.length) (h2 : l[k].2.1 = 2) : (Oj sh l (k + 1)).len = (Oj sh l k).len := by
  obtain ⟨a, b⟩ := of_succ l (newF sh) k hk hall
  have := (add_yes b).2.1 h2
  unfold Oj at *
  rw [a]; exact this
def isRec (x : Itm) : Bool := decide (x.1 = 1)
def isTrim (e : Ent) : Bool := decide (e.2.1 = 2)
structure TlI (t : Int) (sh : Nat) (l : List Ent) (st : RSt) (xs : List Itm) : Prop where
  term : st.term = t
  fed : st.fed t = l
  ent : st.ent ≤ l.length
  ord : ∃ j, (j = st.ent ∨ j = st.ent + 1) ∧ j ≤ l.length ∧ st.o.getD (newF sh) = Oj sh l j ∧ (Oj sh l st.ent).len ≤ st.cnt ∧ (st.cnt : Int) ≤ (Oj sh l j).len
  recs : xs.countP isRec = st.cnt
  trims : xs.countP (fun x => !isRec x) = (l.take st.ent).countP isTrim
theorem trims_next {k : Nat} (hk : k < l.length) : (l.take (k + 1)).countP isTrim = (l.take k).countP isTrim + (if l[k].2.1 = 2 then 1 else 0) := by
  rw [List.take_succ_eq_append_getElem hk, List.countP_append]
  by_cases h : l[k].2.1 = 2 <;> simp [isTrim, h]
theorem tl_round {rows : List Rw} {t : Int} {q : List Int} {s : List (List Int)} (hrows : rows = [(t, q, s, [], false)]) (h1 : 1 ≤ s.length) (h8 : s.length ≤ 8) (hall : (ofF (newF s.length) l).2 = l.length) {st st' : RSt} {xs : List Itm} {r : Option (Itm × Int)}
    (h : TlI t s.length l st xs) (hr : roundF rows false st = (st', r)) :
    (r = none → TlI t s.length l st' xs) ∧ (∀ x, r = some (x, 0) → TlI t s.length l st' (xs ++ [x])) ∧ (∀ x c, r = some (x, c) → c ≠ 0 → c = 161 ∧ st'.ent = l.length ∧ TlI t s.length l st' xs) := by
  obtain ⟨hterm, hfed, hent, ⟨j, hj, hjl, hord, hlo, hhi⟩, hrecs, htrims⟩ := h
  have hat : atR rows st.term = some 0 := by subst hrows; rw [hterm]; exact atR_in (by simp) (by simp [firstR])
  have hkn : knownF rows st = (l, false, 0, ⟨st.term, st.ent, st.cnt, st.fed, some (Oj s.length l j)⟩) := by
    unfold knownF
    rw [hat]
    subst hrows
    simp only [rowA, knownG, List.getD_cons_zero, hterm, hfed, hord]
    rfl
  unfold roundF at hr
  rw [hkn] at hr
  unfold roundK at hr
  simp only [ne_eq, not_true_eq_false, if_false] at hr
  by_cases hle : l.length ≤ st.ent
  · rw [if_pos hle] at hr
    simp only [Bool.false_eq_true, false_and, if_false] at hr
    cases hr
    refine ⟨fun h => (by cases h), fun x h => (by simp at h), fun x c h _ => ?_⟩
    simp only [Option.some.injEq, Prod.mk.injEq] at h
    exact ⟨h.2.symm, by simp only; omega, ⟨hterm, hfed, hent, ⟨j, hj, hjl, rfl, hlo, hhi⟩, hrecs, htrims⟩⟩
  · rw [if_neg hle] at hr
    have hlt : st.ent < l.length := by omega
    unfold roundG at hr
    simp only [Option.getD_some] at hr
    rw [oj_ord hall hlt hj] at hr
    have he : entF l st.ent = l[st.ent] := by simp [entF, hlt]
    rw [he] at hr
    have htn := trims_next hlt
    have hle2 := oj_le h1 h8 hall hlt
    have hinv := inv_len (oj_inv (l := l) h1 h8 (st.ent + 1))
    by_cases hk2 : l[st.ent].2.1 = 2
    · rw [if_pos hk2] at hr
      rw [if_pos hk2] at htn
      have heq := oj_trim hall hlt hk2
      have hc : (Oj s.length l (st.ent + 1)).len = st.cnt := by rcases hj with rfl | rfl <;> omega
      cases hr
      refine ⟨fun h => (by cases h), fun x h => ?_, fun x c h h0 => ?_⟩
      · simp only [Option.some.injEq, Prod.mk.injEq, and_true] at h
        subst h
        have hk : isRec (trimItm l[st.ent]) = false := by simp [isRec, trimItm]
        refine ⟨hterm, hfed, by simp only; omega, ⟨st.ent + 1, .inl rfl, by omega, rfl, by simp only; omega, by simp only; omega⟩, ?_, ?_⟩
        · rw [List.countP_append]; simp [hk, hrecs]
        · rw [List.countP_append, htrims]; simp only [List.countP_cons, List.countP_nil, hk]; simp only [htn]; simp
      · simp only [Option.some.injEq, Prod.mk.injEq] at h
        exact absurd h.2.symm h0
    · rw [if_neg hk2] at hr
      rw [if_neg hk2] at htn
      by_cases hcl : (st.cnt : Int) < (Oj s.length l (st.ent + 1)).len
      · rw [if_pos hcl] at hr
        simp only [Bool.false_eq_true, if_false] at hr
        cases hr
        refine ⟨fun h => (by cases h), fun x h => ?_, fun x c h h0 => ?_⟩
        · simp only [Option.some.injEq, Prod.mk.injEq, and_true] at h
          subst h
          have hk : isRec (recItm st.term st.cnt ((atF (Oj s.length l (st.ent + 1)) st.cnt).getD (0, 0))) = true := by simp [isRec, recItm]
          unfold toldSt
          simp only
          by_cases hfin : (st.cnt : Int) + 1 = (Oj s.length l (st.ent + 1)).len
          · rw [if_pos hfin]
            refine ⟨hterm, hfed, by simp only; omega, ⟨st.ent + 1, .inl rfl, by omega, rfl, by simp only; omega, by simp only; omega⟩, ?_, ?_⟩
            · rw [List.countP_append]; simp [hk, hrecs]
            · rw [List.countP_append, htrims]; simp only [List.countP_cons, List.countP_nil, hk]; simp only [htn]; simp
          · rw [if_neg hfin]
            refine ⟨hterm, hfed, by simp only; omega, ⟨st.ent + 1, .inr rfl, by omega, rfl, by simp only; omega, by simp only; omega⟩, ?_, ?_⟩
            · rw [List.countP_append]; simp [hk, hrecs]
            · rw [List.countP_append, htrims]; simp [hk]
        · simp only [Option.some.injEq, Prod.mk.injEq] at h
          exact absurd h.2.symm h0
      · rw [if_neg hcl] at hr
        cases hr
        refine ⟨fun _ => ⟨hterm, hfed, by simp only; omega, ⟨st.ent + 1, .inl rfl, by omega, rfl, by simp only; omega, ?_⟩, hrecs, ?_⟩, fun x h => (by simp at h), fun x c h _ => by simp at h⟩
        · simp only
          rcases hj with rfl | rfl <;> omega
        · simp only [htn, htrims, Nat.add_zero]
theorem tl_runs {rows : List Rw} {t : Int} {q : List Int} {s : List (List Int)} (hrows : rows = [(t, q, s, [], false)]) (h1 : 1 ≤ s.length) (h8 : s.length ≤ 8) (hall : (ofF (newF s.length) l).2 = l.length) {st st' : RSt} {xs : List Itm}
    (h : TlI t s.length l st xs) (hr : Runs rows false st st') : TlI t s.length l st' xs := by
  induction hr with
  | refl => exact h
  | step _ h2 ih => exact (tl_round hrows h1 h8 hall ih h2).1 rfl
theorem tl_told {rows : List Rw} {t : Int} {q : List Int} {s : List (List Int)} (hrows : rows = [(t, q, s, [], false)]) (h1 : 1 ≤ s.length) (h8 : s.length ≤ 8) (hall : (ofF (newF s.length) l).2 = l.length) {st st' : RSt} {xs : List Itm}
    (h : TlI t s.length l st []) (hr : Told rows st xs st') : TlI t s.length l st' xs := by
  induction hr with
  | nil => exact h
  | snoc _ h2 ih =>
    obtain ⟨a, ha, hb⟩ := h2
    exact (tl_round hrows h1 h8 hall (tl_runs hrows h1 h8 hall ih ha) hb).2.1 _ rfl
theorem tl_len {t : Int} {st : RSt} {xs : List Itm} (h1 : 1 ≤ sh) (h8 : sh ≤ 8) (h : TlI t sh l st xs) : xs.length ≤ 1000000 + l.length := by
  obtain ⟨j, _, _, _, _, hc⟩ := h.ord
  have h2 := inv_len (oj_inv (l := l) h1 h8 j)
  have h3 := List.length_eq_countP_add_countP isRec (l := xs)
  have h4 : (l.take st.ent).countP isTrim ≤ l.length := Nat.le_trans List.countP_le_length (by rw [List.length_take]; omega)
  have h5 := h.recs
  have h6 := h.trims
  have h7 : List.countP (fun a => decide ¬isRec a = true) xs = List.countP (fun x => !isRec x) xs := by congr 1; funext x; cases isRec x <;> rfl
  omega
theorem tl_end {rows : List Rw} {t : Int} {q : List Int} {s : List (List Int)} (hrows : rows = [(t, q, s, [], false)]) (h1 : 1 ≤ s.length) (h8 : s.length ≤ 8) (hall : (ofF (newF s.length) l).2 = l.length) {st st1 st2 : RSt} {xs : List Itm} {x : Itm} {c : Int}
    (h : TlI t s.length l st []) (hr : Told rows st xs st1) (hs : StepR rows false st1 st2 (x, c)) (hc : c ≠ 0) :
    c = 161 ∧ st2.term = t ∧ st2.ent = l.length ∧ (st2.cnt : Int) = (ofF (newF s.length) l).1.len ∧ xs.countP isRec = st2.cnt ∧ xs.countP (fun x => !isRec x) = l.countP isTrim := by
  obtain ⟨a, ha, hb⟩ := hs
  obtain ⟨e1, e2, e3⟩ := (tl_round hrows h1 h8 hall (tl_runs hrows h1 h8 hall (tl_told hrows h1 h8 hall h hr) ha) hb).2.2 x c rfl hc
  obtain ⟨j, hj, hjl, -, h5, h6⟩ := e3.ord
  have hjl2 : j = l.length := by omega
  have ho : Oj s.length l l.length = (ofF (newF s.length) l).1 := by simp [Oj]
  rw [hjl2, ho] at h6
  rw [e2, ho] at h5
  refine ⟨e1, e3.term, e2, by omega, e3.recs, ?_⟩
  rw [e3.trims, e2, List.take_length]
theorem tl_start {t : Int} (sh : Nat) (l : List Ent) (h : (feedF ⟨t, 0, 0, fun _ => [], none⟩ sh t l).2 = 0) : TlI t sh l (feedF ⟨t, 0, 0, fun _ => [], none⟩ sh t l).1 [] ∧ (ofF (newF sh) l).2 = l.length := by
  unfold feedF at h ⊢
  by_cases hc : (ofF (newF sh) l).2 = l.length
  · rw [if_pos hc]
    refine ⟨?_, hc⟩
    have h0 : (newF sh).len = 0 := by simp [newF, OSt.len]
    unfold fedSt
    by_cases hl : l = []
    · subst hl
      rw [if_pos rfl]
      exact ⟨rfl, rfl, by simp, ⟨0, .inl rfl, by simp, by simp [oj_zero], by simp [oj_zero, h0], by simp [oj_zero, h0]⟩, by simp, by simp⟩
    · rw [if_neg hl]
      exact ⟨rfl, by simp, by simp, ⟨0, .inl rfl, by simp, by simp [oj_zero], by simp [oj_zero, h0], by simp [oj_zero, h0]⟩, by simp, by simp⟩
  · rw [if_neg hc] at h; cases h
end
end Go.Proofs.Ytbjpoamnglfjeaa


/- Walk of ReplayMany. -/
set_option linter.unusedVariables false
set_option linter.unusedSimpArgs false
namespace Go.Proofs.Ytbjpoamnglfjeaa
open Go.RowKit Cb

theorem countP_next {α : Type} (p : α → Bool) (l : List α) (j : Nat) (h : j < l.length) : (l.take (j + 1)).countP p = (l.take j).countP p + (if p l[j] = true then 1 else 0) := by
  rw [List.take_succ_eq_append_getElem h, List.countP_append]
  by_cases hp : p l[j] = true <;> simp [hp]
theorem itm_get {F : Nat → Prop} {w : World} {A : Option Addr} {n c : Nat} {l : List Itm} (h : Sl F w (.slice A n c) l) (k : Nat) (hk : k < l.length) :
    ∃ b o vt, A = some ⟨b, o, none⟩ ∧ b < w.heap.size ∧ Sl F w vt l[k].2.2.1.2.1 ∧ w.cell? ⟨b, o + k * 10, none⟩ = some (.int .i64 l[k].1) ∧ w.cell? ⟨b, o + k * 10 + 1, none⟩ = some (.int .i64 l[k].2.1.1) ∧ w.cell? ⟨b, o + k * 10 + 2, none⟩ = some (.int .i64 l[k].2.1.2) ∧
      w.cell? ⟨b, o + k * 10 + 3, none⟩ = some (.int .i64 l[k].2.2.1.1.1) ∧ w.cell? ⟨b, o + k * 10 + 4, none⟩ = some (.int .i64 l[k].2.2.1.1.2) ∧ w.cell? ⟨b, o + k * 10 + 5, none⟩ = some vt ∧ w.cell? ⟨b, o + k * 10 + 6, none⟩ = some (.string l[k].2.2.1.2.2) ∧
      w.cell? ⟨b, o + k * 10 + 7, none⟩ = some (.int .i64 l[k].2.2.2.1) ∧ w.cell? ⟨b, o + k * 10 + 8, none⟩ = some (.int .i64 l[k].2.2.2.2.1) ∧ w.cell? ⟨b, o + k * 10 + 9, none⟩ = some (.int .i64 l[k].2.2.2.2.2) := by
  obtain ⟨b, o, d, rfl, hF, hb, hd, ha⟩ := h.get k hk
  obtain ⟨d1, d2, rfl, rfl, d3, d4, rfl, ⟨e1, e2, rfl, rfl, rfl⟩, d5, d6, rfl, ⟨f1, f2, rfl, ⟨g1, g2, rfl, rfl, rfl⟩, g3, g4, rfl, ⟨vt, rfl, ht⟩, rfl⟩, d7, d8, rfl, rfl, k1, k2, rfl, rfl, rfl⟩ := hd
  exact ⟨b, o, vt, rfl, hb, ht, ha 0 _ rfl, ha 1 _ rfl, ha 2 _ rfl, ha 3 _ rfl, ha 4 _ rfl, ha 5 _ rfl, ha 6 _ rfl, ha 7 _ rfl, ha 8 _ rfl, ha 9 _ rfl⟩
def CntI (xs : List Itm) (k a b : Nat) : Prop := a = (xs.take k).countP isRec ∧ b = (xs.take k).countP (fun x => !isRec x)
theorem CntI.zero (xs : List Itm) : CntI xs 0 0 0 := ⟨by simp, by simp⟩
theorem CntI.rec {xs : List Itm} {k a b : Nat} (h : CntI xs k a b) (hk : k < xs.length) (h1 : xs[k].1 = 1) : CntI xs (k + 1) (a + 1) b := by
  have e : isRec xs[k] = true := by simp [isRec, h1]
  exact ⟨by rw [countP_next _ _ _ hk, ← h.1, if_pos e], by rw [countP_next _ _ _ hk, ← h.2, if_neg (by simp [e]), Nat.add_zero]⟩
theorem CntI.trim {xs : List Itm} {k a b : Nat} (h : CntI xs k a b) (hk : k < xs.length) (h1 : xs[k].1 ≠ 1) : CntI xs (k + 1) a (b + 1) := by
  have e : isRec xs[k] = false := by simp [isRec, h1]
  exact ⟨by rw [countP_next _ _ _ hk, ← h.1, if_neg (by simp [e]), Nat.add_zero], by rw [countP_next _ _ _ hk, ← h.2, if_pos (by simp [e])]⟩
theorem CntI.all {xs : List Itm} {a b : Nat} (h : CntI xs xs.length a b) : a = xs.countP isRec ∧ b = xs.countP (fun x => !isRec x) := by
  have := h; rwa [CntI, List.take_length] at this
def TrmI (l : List Ent) (k d : Nat) : Prop := d = (l.take k).countP isTrim
theorem TrmI.zero (l : List Ent) : TrmI l 0 0 := by simp [TrmI]
theorem TrmI.yes {l : List Ent} {k d : Nat} (h : TrmI l k d) (hk : k < l.length) (h1 : l[k].2.1 = 2) : TrmI l (k + 1) (d + 1) := by
  have e : isTrim l[k] = true := by simp [isTrim, h1]
  unfold TrmI at *
  rw [countP_next _ _ _ hk, ← h, if_pos e]
theorem TrmI.no {l : List Ent} {k d : Nat} (h : TrmI l k d) (hk : k < l.length) (h1 : l[k].2.1 ≠ 2) : TrmI l (k + 1) d := by
  have e : isTrim l[k] = false := by simp [isTrim, h1]
  unfold TrmI at *
  rw [countP_next _ _ _ hk, ← h, if_neg (by simp [e]), Nat.add_zero]
theorem TrmI.all {l : List Ent} {d : Nat} (h : TrmI l l.length d) : d = l.countP isTrim := by
  have := h; rwa [TrmI, List.take_length] at this
set_option maxRecDepth 100000 in
set_option maxHeartbeats 8000000 in
theorem rpmany_any (t : Int) (vq vs v : Value) (q : List Int) (s : List (List Int)) (l : List Ent) (w : World) (hq : Sl No w vq q) (hs : Sl No w vs s) (h : Sl No w v l) (hl : TailI l) (hc : CfgI q s) :
    Calls Try.prog 12 #[cfgV t vq vs, v] w fun e w' => e = .returned (.bool true) ∧ Chg No w w' := by
  have Hno := Lib.hid (fun (hr : rightC t q s = false) W (hW : Chg No w W) => new_no No No t vq vs q s W (hq.keepNo hW) (hs.keepNo hW) hc.1 (by have := hc.2.1; omega) hc.2.2 hr)
  have Hyes := Lib.hid (fun (hr : rightC t q s = true) W (hW : Chg No w W) => new_yes t vq vs q s W (hq.keepNo hW) (hs.keepNo hW) hr)
  have Hal := Lib.hid (fun W => palive_any W)
  have Hq := Lib.hid (fun W (hW : Chg No w W) => hq.keepNo hW)
  have Hs := Lib.hid (fun W (hW : Chg No w W) => hs.keepNo hW)
  have Hl := Lib.hid (fun W (hW : Chg No w W) => h.keepNo hW)
  have Hc := Lib.hid hc
  have Hb := Lib.hid hl
  obtain ⟨Aq, cq, rfl⟩ := hq.slice
  obtain ⟨As, cs, rfl⟩ := hs.slice
  obtain ⟨A, c, rfl⟩ := h.slice
  unfold cfgV at *
  have o1 := alloc_obj w (.cells #[.int .i64 t, .slice Aq q.length cq, .slice As s.length cs] 63)
  have hc0 := (Chg.refl No w).alloc (.cells #[.int .i64 t, .slice Aq q.length cq, .slice As s.length cs] 63)
  have a0 := cell_obj (i := 0) o1 rfl
  have a1 := cell_obj (i := 1) o1 rfl
  have a2 := cell_obj (i := 2) o1 rfl
  clear hq hs h hc hl
  go_enter Try.func12, Try.ntmps12
  go_wp2_with (with_reducible first | refine stop_append ?_ | refine stop_copy ?_ | refine stop_make ?_ | refine stop_lookup ?_ | refine stop_update ?_ | refine stop_slice ?_ | refine stop_range ?_ | refine stop_next ?_ | refine stop_convert ⟨_, rfl⟩ ?_ | refine stop_convertB ⟨_, _, _, rfl⟩ ?_ | refine stop_eqSlice ⟨_, _, rfl⟩ ?_)
  generalize w.alloc (.cells #[.int .i64 t, .slice Aq q.length cq, .slice As s.length cs] 63) = w0 at *
  generalize w.heap.size = q3 at *
  rcases hr : rightC t q s with _ | _
  · refine (Hno.out hr w0 hc0).mono ?_
    rintro e w1 ⟨rfl, hc1⟩
    go_wp2_with (with_reducible first | refine stop_append ?_ | refine stop_copy ?_ | refine stop_make ?_ | refine stop_lookup ?_ | refine stop_update ?_ | refine stop_slice ?_ | refine stop_range ?_ | refine stop_next ?_ | refine stop_convert ⟨_, rfl⟩ ?_ | refine stop_convertB ⟨_, _, _, rfl⟩ ?_ | refine stop_eqSlice ⟨_, _, rfl⟩ ?_)
    refine (Hal.out _).mono ?_
    rintro e w2 ⟨rfl, hc2⟩
    go_wp2_with (with_reducible first | refine stop_append ?_ | refine stop_copy ?_ | refine stop_make ?_ | refine stop_lookup ?_ | refine stop_update ?_ | refine stop_slice ?_ | refine stop_range ?_ | refine stop_next ?_ | refine stop_convert ⟨_, rfl⟩ ?_ | refine stop_convertB ⟨_, _, _, rfl⟩ ?_ | refine stop_eqSlice ⟨_, _, rfl⟩ ?_)
    go_ret
    exact ⟨rfl, (hc0.trans hc1).trans hc2⟩
  · refine (Hyes.out hr w0 hc0).mono ?_
    rintro e w1 ⟨p, rfl, hc1, hreg⟩
    have hrn := hreg.regN
    have hcw1 := hc0.trans hc1
    have o11 := hc1.obj o1 (not_no _)
    replace a0 := cell_obj (i := 0) o11 rfl
    replace a1 := cell_obj (i := 1) o11 rfl
    replace a2 := cell_obj (i := 2) o11 rfl
    have hsc := Sl.lit1 (F := No) (w := w1) (T := 95) (y := ((0, 0, ((0, [], []), []), l, false) : Op16)) (C := #[.int .i64 0, .int .i64 0, .int .i64 0, .slice none 0 0, .slice none 0 0, .slice none 0 0, .slice A l.length c, .bool false]) rfl (op16_mk (Hl.out w1 hcw1)) (not_no _)
    have hc2 := (Chg.refl No w1).alloc (.cells #[.int .i64 0, .int .i64 0, .int .i64 0, .slice none 0 0, .slice none 0 0, .slice none 0 0, .slice A l.length c, .bool false] 95)
    have Hfew := Lib.hid (fewm_any No No No t (.slice Aq q.length cq) (.slice As s.length cs) (.slice (some ⟨w1.heap.size, 0, none⟩) 1 1) q s [(0, 0, ((0, [], []), []), l, false)] (w1.alloc (.cells #[.int .i64 0, .int .i64 0, .int .i64 0, .slice none 0 0, .slice none 0 0, .slice none 0 0, .slice A l.length c, .bool false] 95)) (Hq.out _ (hcw1.trans hc2)) (Hs.out _ (hcw1.trans hc2)) hsc (by simp) Hc.out (fun o ho => by
      simp only [List.mem_singleton] at ho; subst ho
      exact ⟨⟨by simp, by simp, by simp⟩, ⟨by simp, by simp⟩, Hb.out, by have := Hb.out.1; simp; omega⟩))
    unfold cfgV at Hfew
    clear hsc
    go_wp2_with (with_reducible first | refine stop_append ?_ | refine stop_copy ?_ | refine stop_make ?_ | refine stop_lookup ?_ | refine stop_update ?_ | refine stop_slice ?_ | refine stop_range ?_ | refine stop_next ?_ | refine stop_convert ⟨_, rfl⟩ ?_ | refine stop_convertB ⟨_, _, _, rfl⟩ ?_ | refine stop_eqSlice ⟨_, _, rfl⟩ ?_)
    refine Hfew.out.mono ?_
    rintro e w3 ⟨b, rfl, hc3, hfw⟩
    have hc13 := hc2.trans hc3
    have hcw3 := hcw1.trans hc13
    rcases b with _ | _
    · go_wp2_with (with_reducible first | refine stop_append ?_ | refine stop_copy ?_ | refine stop_make ?_ | refine stop_lookup ?_ | refine stop_update ?_ | refine stop_slice ?_ | refine stop_range ?_ | refine stop_next ?_ | refine stop_convert ⟨_, rfl⟩ ?_ | refine stop_convertB ⟨_, _, _, rfl⟩ ?_ | refine stop_eqSlice ⟨_, _, rfl⟩ ?_)
      refine (Hal.out _).mono ?_
      rintro e w4 ⟨rfl, hc4⟩
      go_wp2_with (with_reducible first | refine stop_append ?_ | refine stop_copy ?_ | refine stop_make ?_ | refine stop_lookup ?_ | refine stop_update ?_ | refine stop_slice ?_ | refine stop_range ?_ | refine stop_next ?_ | refine stop_convert ⟨_, rfl⟩ ?_ | refine stop_convertB ⟨_, _, _, rfl⟩ ?_ | refine stop_eqSlice ⟨_, _, rfl⟩ ?_)
      go_ret
      exact ⟨rfl, hcw3.trans hc4⟩
    · have Hfw := Lib.hid (hfw rfl)
      obtain ⟨ht1, ht64⟩ := (rightC_iff.1 hr).1
      have hsml := right_small hr
      have hs8 := hsml.2.1
      have hs1 : 1 ≤ s.length := (rightC_iff.1 hr).2.2.1.1
      have Hsml := Lib.hid hsml
      have o13 := hc13.obj o11 (not_no _)
      have hrn3 := hrn.keepNo hc13
      have hq3 := lt_of_heap o11
      replace a0 := cell_obj (i := 0) o13 rfl
      have hi0 := Lib.hid (new_reg hr).1
      obtain ⟨rows, hrows⟩ : ∃ r, r = [((t, q, s, [], false) : Rw)] := ⟨_, rfl⟩
      have Hrows := Lib.hid hrows
      rw [← hrows] at hrn3 hi0
      clear hrn hrows hreg a1 a2 o1 o11 Hfew Hno Hyes hr hc2 hc3 hfw hsml
      go_wp2_with (with_reducible first | refine stop_append ?_ | refine stop_copy ?_ | refine stop_make ?_ | refine stop_lookup ?_ | refine stop_update ?_ | refine stop_slice ?_ | refine stop_range ?_ | refine stop_next ?_ | refine stop_convert ⟨_, rfl⟩ ?_ | refine stop_convertB ⟨_, _, _, rfl⟩ ?_ | refine stop_eqSlice ⟨_, _, rfl⟩ ?_)
      refine (rpnew_yes t w3 ht1 ht64).mono ?_
      rintro e w4 ⟨pa, rfl, hc4, hra⟩
      have o14 := hc4.obj o13 (not_no _)
      replace a0 := cell_obj (i := 0) o14 rfl
      have h13 := hc13.size
      have h34 := hc4.size
      have hna : ∀ b, (fun k => w3.heap.size ≤ k ∧ k < w4.heap.size) b → w1.heap.size ≤ b := fun b h => by simp only at h; omega
      have hrn4 := hrn3.keepNo hc4
      have hcw4 := hcw3.trans hc4
      obtain ⟨n, hn⟩ : ∃ n, n = w1.heap.size := ⟨_, rfl⟩
      obtain ⟨B, hB⟩ : ∃ n, n = w0.heap.size := ⟨_, rfl⟩
      rw [← hn] at hna hrn4 hq3
      rw [← hB] at hrn4
      have hwn : w.heap.size ≤ n := by have := hcw1.size; omega
      generalize (fun k => w3.heap.size ≤ k ∧ k < w4.heap.size) = Sa at hra hna
      clear hn hB hc4 o13 hrn3 h13 h34 hc13 hc1 hcw3 hcw1 hc0
      have hlen : l.length * 64 ≤ 140737488355328 := by have := Hb.out.1; omega
      have hcut := Lib.hid (show cutsB l from fun e he => by have := Hb.out.2 e he; omega)
      go_wp2_with (with_reducible first | refine stop_append ?_ | refine stop_copy ?_ | refine stop_make ?_ | refine stop_lookup ?_ | refine stop_update ?_ | refine stop_slice ?_ | refine stop_range ?_ | refine stop_next ?_ | refine stop_convert ⟨_, rfl⟩ ?_ | refine stop_convertB ⟨_, _, _, rfl⟩ ?_ | refine stop_eqSlice ⟨_, _, rfl⟩ ?_)
      have cd := (Chg.refl No w4).drew
      refine rt_start (fun W => W.cell? ⟨q3, 0, none⟩ = some (.int .i64 t)) (by kernel_rfl) ?_
      iterate 5 ((refine rt_nx [] (v := ?_) rfl (by kernel_rfl) (fun _ _ _ h => h) rfl ?_ ?_; rotate_left; focus (intro W hW; (try dsimp only at hW); go_split_ands; go_simp; (try (simp (disch := omega) only [IntWalk.i64_in]; (try go_simp))); (try (split; (next => omega); (try go_simp))); try rfl; done)); try simp only [Act.put, List.setIfInBounds_toArray, List.set_cons_zero, List.set_cons_succ, Nat.reduceAdd])
      refine rt_kx (fun W => W.cell? ⟨q3, 0, none⟩ = some (.int .i64 t)) 5 (by kernel_rfl) (cell_obj (i := 0) (cd.obj o14 (not_no _)) rfl) (fun _ h => h) rfl (by rfl) (fun K hK => ?_)
      go_simp
      refine (mine16_any (.slice A l.length c) l _ (Hl.out _ (hcw4.trans cd)) hlen).mono ?_
      rintro e w6 ⟨vm, rfl, hc6, hsm⟩
      have cd6 := cd.trans hc6
      refine hK _ _ ?_
      clear hK K
      try simp only [Act.put, List.setIfInBounds_toArray, List.set_cons_zero, List.set_cons_succ]
      refine rt_kx (fun W => W.cell? ⟨q3, 0, none⟩ = some (.int .i64 t)) 6 (by kernel_rfl) (cell_obj (i := 0) (cd6.obj o14 (not_no _)) rfl) (fun _ h => h) rfl (by rfl) (fun K hK => ?_)
      go_simp
      refine (feed_at Sa pa B p vm ⟨t, 0, 0, fun _ => [], none⟩ rows l 0 t s.length w6 (hra.keepNo cd6) (hrn4.keepNo cd6).toS hi0.out (by simp [Hrows.out]) (by simp [Hrows.out]) hsm Hb.out.1 hcut.out (by rw [Hrows.out]; simp [firstR]) (by simp [Hrows.out]) rfl).mono ?_
      rintro e w7 ⟨rfl, hc7, hra7⟩
      have hrn7 := (hrn4.keepNo cd6).keep hc7 (fun b _ s => hna b s)
      have o17 := hc7.obj (cd6.obj o14 (not_no _)) (fun s => by have := hna _ s; omega)
      have hcw7 : Chg No w w7 := (hcw4.trans cd6).old hc7 (fun b s => by have := hna b s; omega)
      have hna7 : ∀ b, Up Sa w6 w7 b → n ≤ b := fun b s => by rcases s with s | s; exact hna b s; (have := hrn4.2.1; have := cd6.size; omega)
      generalize Up Sa w6 w7 = Sa7 at hra7 hna7
      refine hK _ _ ?_
      clear hK K
      try simp only [Act.put, List.setIfInBounds_toArray, List.set_cons_zero, List.set_cons_succ]
      refine rt_kx (fun W => W.cell? ⟨q3, 0, none⟩ = some (.int .i64 t)) 7 (by kernel_rfl) (cell_obj (i := 0) o17 rfl) (fun _ h => h) rfl (by rfl) (fun K hK => ?_)
      go_simp
      refine hK _ _ ?_
      clear hK K
      try simp only [Act.put, List.setIfInBounds_toArray, List.set_cons_zero, List.set_cons_succ]
      refine rt_done (by kernel_rfl)  ?_
      replace a0 := cell_obj (i := 0) o17 rfl
      have HF := Lib.hid (tl_start (t := t) s.length l)
      have hst : (feedF ⟨t, 0, 0, fun _ => [], none⟩ s.length t l).1.o = none ∧ (feedF ⟨t, 0, 0, fun _ => [], none⟩ s.length t l).1.ent = 0 ∧ (feedF ⟨t, 0, 0, fun _ => [], none⟩ s.length t l).1.cnt = 0 ∧ (feedF ⟨t, 0, 0, fun _ => [], none⟩ s.length t l).1.term = t := by
        unfold feedF fedSt
        split <;> (try split) <;> exact ⟨rfl, rfl, rfl, rfl⟩
      generalize (feedF ⟨t, 0, 0, fun _ => [], none⟩ s.length t l) = fd at *
      obtain ⟨st0, code0⟩ := fd
      have HF2 := Lib.hid HF.out
      simp only at hra7 hst HF2 ⊢
      have Hst := Lib.hid hst
      clear hrn4 hc7 cd6 hc6 cd hcw4 o14 hsm hra hst HF
      by_cases hcd : code0 = 0
      · subst hcd
        obtain ⟨htl, hall⟩ := HF2.out rfl
        have Htl := Lib.hid htl
        have Hall := Lib.hid hall
        have hlen15 : l.length ≤ 1500 := by
          have hq := Hfw.out
          have hent := of_all l _ hall
          have hcuts : ∀ (m : List Ent), (∀ e ∈ m, entR e = true) → sumT (fun e : Ent => e.2.2.1.length) m ≤ 8 * m.length := by
            intro m
            induction m with
            | nil => intro _; simp [sumT]
            | cons x r ih =>
              intro hm
              have h1 := ih (fun e he => hm e (List.mem_cons_of_mem _ he))
              have h2 := entR_cut (hm x (List.mem_cons_self ..))
              simp only [sumT, List.map_cons, List.sum_cons, List.length_cons] at h1 ⊢
              omega
          have hc2 := hcuts l hent
          have hsum : ∀ (m : List (List Int)), (∀ x ∈ m, x.length ≤ 3) → sumT List.length m ≤ 3 * m.length := by
            intro m
            induction m with
            | nil => intro _; simp [sumT]
            | cons x r ih =>
              intro hm
              have h1 := ih (fun e he => hm e (List.mem_cons_of_mem _ he))
              have h2 := hm x (List.mem_cons_self ..)
              simp only [sumT, List.map_cons, List.sum_cons, List.length_cons] at h1 ⊢
              omega
          have hc3 := hsum s Hsml.out.2.2
          have hft : fewT q s [((0, 0, ((0, [], []), []), l, false) : Op16)] = q.length + s.length + sumT List.length s + (l.length + sumT (fun e : Ent => e.2.2.1.length) l) := by simp [fewT, opT, sumT]
          rw [hft] at hq
          have := Hsml.out.1
          have h7 := (hq (by omega)).2
          omega
        have hok : OkS rows st0 := ⟨hra7.tb, fun o h => (by rw [Hst.out.1] at h; cases h), by rw [Hst.out.2.1]; omega, by rw [Hst.out.2.2.2]; exact ht1, by rw [Hst.out.2.2.2, Hrows.out]; simp [curR, firstR], by rw [Hst.out.2.2.1]; omega⟩
        have Hall1 := Lib.hid (all_any Sa7 pa B n p st0 rows w7 hra7 hrn7 hi0.out hna7 hok (fun xs s2 hx => by
          have := tl_len hs1 hs8 (tl_told Hrows.out hs1 hs8 Hall.out Htl.out hx)
          omega))
        clear htl hall hok
        go_wp2_with (with_reducible first | refine stop_append ?_ | refine stop_copy ?_ | refine stop_make ?_ | refine stop_lookup ?_ | refine stop_update ?_ | refine stop_slice ?_ | refine stop_range ?_ | refine stop_next ?_ | refine stop_convert ⟨_, rfl⟩ ?_ | refine stop_convertB ⟨_, _, _, rfl⟩ ?_ | refine stop_eqSlice ⟨_, _, rfl⟩ ?_)
        refine Hall1.out.mono ?_
        rintro e w8 ⟨xs, st1, st2, x, code, v, S', htold, hstep, hcode, rfl, hsx, hc8, hrep8, hS', hxl⟩
        obtain ⟨e1, e2, e3, e4, e5, e6⟩ := tl_end Hrows.out hs1 hs8 Hall.out Htl.out htold hstep hcode
        subst e1
        obtain ⟨tt, en, cn, fe, oo⟩ := st2
        simp only at e2 e3 e4 e5 e6
        obtain rfl : en = l.length := e3
        obtain rfl : t = tt := e2.symm
        have HI := Lib.hid (inv_of (inv_new s.length hs1 hs8) l)
        have o18 := hc8.obj o17 (fun s => by have := hna7 _ s; omega)
        have hcw8 : Chg No w w8 := hcw7.old hc8 (fun b s => by have := hna7 b s; omega)
        have hsx8 := hsx.weak (G := No) (fun _ _ f => f.elim)
        obtain ⟨Av, dv, rfl⟩ := hsx8.slice
        have He4 := Lib.hid e4
        have He5 := Lib.hid e5
        have He6 := Lib.hid e6
        clear hsx hc8 hS' hra7 hrn7 o17 htold hstep Hall1 hcode e2 e4 e5 e6 hcw7 HF2 Htl Hst
        clear a0
        go_wp2_with (with_reducible first | refine stop_append ?_ | refine stop_copy ?_ | refine stop_make ?_ | refine stop_lookup ?_ | refine stop_update ?_ | refine stop_slice ?_ | refine stop_range ?_ | refine stop_next ?_ | refine stop_convert ⟨_, rfl⟩ ?_ | refine stop_convertB ⟨_, _, _, rfl⟩ ?_ | refine stop_eqSlice ⟨_, _, rfl⟩ ?_)
        have cd := (Chg.refl No w8).drew
        have Hal2 := Hall.out
        refine rt_start (fun W => W.cell? ⟨q3, 2, none⟩ = some (.slice As s.length cs)) (by kernel_rfl) ?_
        iterate 4 ((refine rt_nx [] (v := ?_) rfl (by kernel_rfl) (fun _ _ _ h => h) rfl ?_ ?_; rotate_left; focus (intro W hW; (try dsimp only at hW); go_split_ands; go_simp; (try (simp (disch := omega) only [IntWalk.i64_in]; (try go_simp))); (try (split; (next => omega); (try go_simp))); try rfl; done)); try simp only [Act.put, List.setIfInBounds_toArray, List.set_cons_zero, List.set_cons_succ, Nat.reduceAdd])
        refine rt_kx (fun W => W.cell? ⟨q3, 2, none⟩ = some (.slice As s.length cs)) 4 (by kernel_rfl) (cell_obj (i := 2) (cd.obj o18 (not_no _)) rfl) (fun _ h => h) rfl (by rfl) (fun K hK => ?_)
        go_simp
        refine (mine16_any (.slice A l.length c) l _ (Hl.out _ (hcw8.trans cd)) hlen).mono ?_
        rintro e w9 ⟨vm2, rfl, hc9, hsm2⟩
        have cd9 := cd.trans hc9
        refine hK _ _ ?_
        clear hK K
        try simp only [Act.put, List.setIfInBounds_toArray, List.set_cons_zero, List.set_cons_succ]
        refine rt_kx (fun W => W.cell? ⟨q3, 2, none⟩ = some (.slice As s.length cs)) 5 (by kernel_rfl) (cell_obj (i := 2) (cd9.obj o18 (not_no _)) rfl) (fun _ h => h) rfl (by rfl) (fun K hK => ?_)
        go_simp
        refine (oof_yes s.length vm2 l w9 hs1 hs8 hsm2 hlen hcut.out).mono ?_
        rintro e w10 ⟨po, rfl, hc10, hord⟩
        rw [Hal2]
        generalize (ofF (newF s.length) l).1 = oF at *
        have cd10 := cd9.trans hc10
        have o20 := cd10.obj o18 (not_no _)
        refine hK _ _ ?_
        clear hK K
        try simp only [Act.put, List.setIfInBounds_toArray, List.set_cons_zero, List.set_cons_succ]
        iterate 4 ((refine rt_nx [10] (v := ?_) rfl (by kernel_rfl) (fun _ _ _ h => h) rfl ?_ ?_; rotate_left; focus (intro W hW; (try dsimp only at hW); go_split_ands; go_simp; (try (simp (disch := omega) only [IntWalk.i64_in]; (try go_simp))); (try (split; (next => omega); (try go_simp))); try rfl; done)); try simp only [Act.put, List.setIfInBounds_toArray, List.set_cons_zero, List.set_cons_succ, Nat.reduceAdd])
        refine rt_kx (fun W => W.cell? ⟨q3, 2, none⟩ = some (.slice As s.length cs)) 10 (by kernel_rfl) (cell_obj (i := 2) o20 rfl) (fun _ h => h) rfl (by rfl) (fun K hK => ?_)
        go_simp
        refine hK _ _ ?_
        clear hK K
        try simp only [Act.put, List.setIfInBounds_toArray, List.set_cons_zero, List.set_cons_succ]
        refine rt_done (by kernel_rfl)  ?_
        have Ho := Lib.hid hord
        have hcw10 := hcw8.trans cd10
        have hsx10 := Lib.hid (hsx8.keepNo cd10)
        have hrep10 := Lib.hid (hrep8.keepNo cd10)
        have a0 := cell_obj (i := 0) o20 rfl
        clear hord cd9 cd10 cd hc10 hc9 hsm2 Hal2 hsx8 hrep8 o18
        go_wp2_with (with_reducible first | refine stop_append ?_ | refine stop_copy ?_ | refine stop_make ?_ | refine stop_lookup ?_ | refine stop_update ?_ | refine stop_slice ?_ | refine stop_range ?_ | refine stop_next ?_ | refine stop_convert ⟨_, rfl⟩ ?_ | refine stop_convertB ⟨_, _, _, rfl⟩ ?_ | refine stop_eqSlice ⟨_, _, rfl⟩ ?_)
        go_loopw [13, 14, 16, 93] (fun v13 v14 _ v93 wr => ∃ k a b : Nat, k ≤ xs.length ∧ v93 = .int .i64 k ∧ v13 = .int .i64 a ∧ v14 = .int .i64 b ∧ a ≤ k ∧ b ≤ k ∧ CntI xs k a b ∧ Chg No w10 wr) (fun _ _ _ v93 _ => xs.length - (intOf v93).toNat)
        case atStart => exact ⟨0, 0, 0, by omega, rfl, rfl, rfl, by omega, by omega, CntI.zero xs, Chg.refl _ _⟩
        case round =>
          obtain ⟨k, ka, kb, hk, rfl, rfl, rfl, hka, hkb, hcn, hcr⟩ := hrel
          by_cases hlt : k < xs.length
          · obtain ⟨bx, ox, vx, rfl, hbx, sx, x0, x1, x2, x3, x4, x5, x6, x7, x8, x9⟩ := itm_get (hsx10.out.keepNo hcr) k hlt
            have hcn2 := hcn.rec hlt
            have hcn3 := hcn.trim hlt
            clear hcn
            generalize xs[k] = it at *
            obtain ⟨i0, ⟨i1, i2⟩, ⟨⟨i3, i4⟩, i5, i6⟩, i7, ⟨i8, i9⟩⟩ := it
            simp only at sx x0 x1 x2 x3 x4 x5 x6 x7 x8 x9 hcn2 hcn3
            obtain ⟨Ax, dx, rfl⟩ := sx.slice
            clear sx
            have hca := (Chg.refl No wr).alloc (.cells #[.int .i64 i0, .int .i64 i1, .int .i64 i2, .int .i64 i3, .int .i64 i4, .slice Ax i5.length dx, .string i6, .int .i64 i7, .int .i64 i8, .int .i64 i9] 106)
            have y0 := cell_obj (i := 0) (alloc_obj wr (.cells #[.int .i64 i0, .int .i64 i1, .int .i64 i2, .int .i64 i3, .int .i64 i4, .slice Ax i5.length dx, .string i6, .int .i64 i7, .int .i64 i8, .int .i64 i9] 106)) rfl
            by_cases hk1 : i0 = 1
            · subst hk1
              have hcn4 := hcn2 rfl
              clear hcn2 hcn3
              go_wp2_with (with_reducible first | refine stop_append ?_ | refine stop_copy ?_ | refine stop_make ?_ | refine stop_lookup ?_ | refine stop_update ?_ | refine stop_slice ?_ | refine stop_range ?_ | refine stop_next ?_ | refine stop_convert ⟨_, rfl⟩ ?_ | refine stop_convertB ⟨_, _, _, rfl⟩ ?_ | refine stop_eqSlice ⟨_, _, rfl⟩ ?_)
              go_roundw
              case rel => exact ⟨k + 1, ka + 1, kb, by omega, by go_num, by go_num, rfl, by omega, by omega, hcn4, hcr.trans hca⟩
              case measure => simp [intOf]; omega
            · have hcn4 := hcn3 hk1
              have g1 : (i0 == 1) = false := by simpa using hk1
              clear hcn2 hcn3
              go_wp2_with (with_reducible first | refine stop_append ?_ | refine stop_copy ?_ | refine stop_make ?_ | refine stop_lookup ?_ | refine stop_update ?_ | refine stop_slice ?_ | refine stop_range ?_ | refine stop_next ?_ | refine stop_convert ⟨_, rfl⟩ ?_ | refine stop_convertB ⟨_, _, _, rfl⟩ ?_ | refine stop_eqSlice ⟨_, _, rfl⟩ ?_)
              go_roundw
              case rel => exact ⟨k + 1, ka, kb + 1, by omega, by go_num, rfl, by go_num, by omega, by omega, hcn4, hcr.trans hca⟩
              case measure => simp [intOf]; omega
          · obtain rfl : k = xs.length := by omega
            obtain ⟨wA, rfl⟩ : ∃ W : World, W = wr := ⟨_, rfl⟩
            obtain ⟨hn1, hn2⟩ := hcn.all
            obtain rfl : ka = cn := by rw [hn1]; exact He5.out
            have Hkb : Hid (kb = l.countP isTrim) := Lib.hid (by rw [hn2]; exact He6.out)
            clear hn1 hn2 hcn
            have hcwA := hcw10.trans hcr
            go_wp2_with (with_reducible first | refine stop_append ?_ | refine stop_copy ?_ | refine stop_make ?_ | refine stop_lookup ?_ | refine stop_update ?_ | refine stop_slice ?_ | refine stop_range ?_ | refine stop_next ?_ | refine stop_convert ⟨_, rfl⟩ ?_ | refine stop_convertB ⟨_, _, _, rfl⟩ ?_ | refine stop_eqSlice ⟨_, _, rfl⟩ ?_)
            go_loopw [17, 19, 107] (fun v17 _ v107 wr => ∃ k d : Nat, k ≤ l.length ∧ v107 = .int .i64 k ∧ v17 = .int .i64 d ∧ d ≤ k ∧ TrmI l k d ∧ Chg No wA wr) (fun _ _ v107 _ => l.length - (intOf v107).toNat)
            case atStart => exact ⟨0, 0, by omega, rfl, rfl, by omega, TrmI.zero l, Chg.refl _ _⟩
            case round =>
              obtain ⟨k, kd, hk2, rfl, rfl, hkd, htr, hcr2⟩ := hrel
              by_cases hlt : k < l.length
              · obtain ⟨b5, o5, vc, rfl, -, hb5, sc, f0, f1, f2, f3, f4, f5⟩ := ent_get (Hl.out _ (hcwA.trans hcr2)) k hlt
                have htr2 := htr.yes hlt
                have htr3 := htr.no hlt
                clear htr
                generalize l[k] = y at *
                obtain ⟨y0, y1, y2, y3, y4, y5⟩ := y
                simp only at sc f0 f1 f2 f3 f4 f5 htr2 htr3
                obtain ⟨Ac, cc, rfl⟩ := sc.slice
                have hcb := hcr2.alloc (.cells #[.int .i64 y0, .int .i64 y1, .slice Ac y2.length cc, .int .i64 y3, .int .i64 y4, .int .i64 y5] 52)
                have z1 := cell_obj (i := 1) (alloc_obj wr (.cells #[.int .i64 y0, .int .i64 y1, .slice Ac y2.length cc, .int .i64 y3, .int .i64 y4, .int .i64 y5] 52)) rfl
                clear sc
                by_cases hk1 : y1 = 2
                · subst hk1
                  have htr4 := htr2 rfl
                  clear htr2 htr3
                  go_wp2_with (with_reducible first | refine stop_append ?_ | refine stop_copy ?_ | refine stop_make ?_ | refine stop_lookup ?_ | refine stop_update ?_ | refine stop_slice ?_ | refine stop_range ?_ | refine stop_next ?_ | refine stop_convert ⟨_, rfl⟩ ?_ | refine stop_convertB ⟨_, _, _, rfl⟩ ?_ | refine stop_eqSlice ⟨_, _, rfl⟩ ?_)
                  go_roundw
                  case rel => exact ⟨k + 1, kd + 1, by omega, by go_num, by go_num, by omega, htr4, hcb⟩
                  case measure => simp [intOf]; omega
                · have htr4 := htr3 hk1
                  have g1 : (y1 == 2) = false := by simpa using hk1
                  clear htr2 htr3
                  go_wp2_with (with_reducible first | refine stop_append ?_ | refine stop_copy ?_ | refine stop_make ?_ | refine stop_lookup ?_ | refine stop_update ?_ | refine stop_slice ?_ | refine stop_range ?_ | refine stop_next ?_ | refine stop_convert ⟨_, rfl⟩ ?_ | refine stop_convertB ⟨_, _, _, rfl⟩ ?_ | refine stop_eqSlice ⟨_, _, rfl⟩ ?_)
                  go_roundw
                  case rel => exact ⟨k + 1, kd, by omega, by go_num, rfl, by omega, htr4, hcb⟩
                  case measure => simp [intOf]; omega
              · obtain rfl : k = l.length := by omega
                obtain rfl : kb = kd := by rw [Hkb.out, htr.all]
                have hcwB := hcwA.trans hcr2
                have hN := hcr.trans hcr2
                have Hwh := Lib.hid (where_any S' pa _ wr (hrep10.out.keepNo hN))
                have Hlen := Lib.hid (fun W (hW : Chg No w10 W) => (olen_any (Ho.out.keepNo hW) HI.out).mono (fun e w' h => (⟨by rw [← He4.out] at h; exact h.1, h.2⟩ : e = .returned (.int .i64 (ka : Nat)) ∧ Chg No W w')))
                have Ha0 := Lib.hid (fun W (hW : Chg No w10 W) => hW.obj o20 (not_no _))
                clear a0
                go_wp2_with (with_reducible first | refine stop_append ?_ | refine stop_copy ?_ | refine stop_make ?_ | refine stop_lookup ?_ | refine stop_update ?_ | refine stop_slice ?_ | refine stop_range ?_ | refine stop_next ?_ | refine stop_convert ⟨_, rfl⟩ ?_ | refine stop_convertB ⟨_, _, _, rfl⟩ ?_ | refine stop_eqSlice ⟨_, _, rfl⟩ ?_)
                refine Hwh.out.mono ?_
                rintro e w12 ⟨rfl, hc12⟩
                have hN12 := hN.trans hc12
                go_wp2_with (with_reducible first | refine stop_append ?_ | refine stop_copy ?_ | refine stop_make ?_ | refine stop_lookup ?_ | refine stop_update ?_ | refine stop_slice ?_ | refine stop_range ?_ | refine stop_next ?_ | refine stop_convert ⟨_, rfl⟩ ?_ | refine stop_convertB ⟨_, _, _, rfl⟩ ?_ | refine stop_eqSlice ⟨_, _, rfl⟩ ?_)
                refine (Hal.out _).mono ?_
                rintro e w13 ⟨rfl, hc13⟩
                have hN13 := hN12.trans hc13
                go_wp2_with (with_reducible first | refine stop_append ?_ | refine stop_copy ?_ | refine stop_make ?_ | refine stop_lookup ?_ | refine stop_update ?_ | refine stop_slice ?_ | refine stop_range ?_ | refine stop_next ?_ | refine stop_convert ⟨_, rfl⟩ ?_ | refine stop_convertB ⟨_, _, _, rfl⟩ ?_ | refine stop_eqSlice ⟨_, _, rfl⟩ ?_)
                refine (Hlen.out _ hN13).mono ?_
                rintro e w14 ⟨rfl, hc14⟩
                have a0 := cell_obj (i := 0) (Ha0.out _ (hN13.trans hc14)) rfl
                go_wp2_with (with_reducible first | refine stop_append ?_ | refine stop_copy ?_ | refine stop_make ?_ | refine stop_lookup ?_ | refine stop_update ?_ | refine stop_slice ?_ | refine stop_range ?_ | refine stop_next ?_ | refine stop_convert ⟨_, rfl⟩ ?_ | refine stop_convertB ⟨_, _, _, rfl⟩ ?_ | refine stop_eqSlice ⟨_, _, rfl⟩ ?_)
                go_ret
                exact ⟨rfl, ((hcwB.trans hc12).trans hc13).trans hc14⟩
      · have g1 : (code0 != 0) = true := by simpa using hcd
        go_wp2_with (with_reducible first | refine stop_append ?_ | refine stop_copy ?_ | refine stop_make ?_ | refine stop_lookup ?_ | refine stop_update ?_ | refine stop_slice ?_ | refine stop_range ?_ | refine stop_next ?_ | refine stop_convert ⟨_, rfl⟩ ?_ | refine stop_convertB ⟨_, _, _, rfl⟩ ?_ | refine stop_eqSlice ⟨_, _, rfl⟩ ?_)
        refine (Hal.out _).mono ?_
        rintro e w4 ⟨rfl, hc4⟩
        go_wp2_with (with_reducible first | refine stop_append ?_ | refine stop_copy ?_ | refine stop_make ?_ | refine stop_lookup ?_ | refine stop_update ?_ | refine stop_slice ?_ | refine stop_range ?_ | refine stop_next ?_ | refine stop_convert ⟨_, rfl⟩ ?_ | refine stop_convertB ⟨_, _, _, rfl⟩ ?_ | refine stop_eqSlice ⟨_, _, rfl⟩ ?_)
        go_ret
        exact ⟨rfl, hcw7.trans hc4⟩
end Go.Proofs.Ytbjpoamnglfjeaa

