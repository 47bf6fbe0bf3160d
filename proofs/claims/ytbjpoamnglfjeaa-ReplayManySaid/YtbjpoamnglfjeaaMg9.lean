/- Texts RepD, RepE, RepF, RdcA, RepG, RepH, RepI, RegW, RepK, RepL, RepM, RepN. -/
import Derived.Test.YtbjpoamnglfjeaaMg8
/- Walks of package replay: a record is told. -/
set_option linter.unusedVariables false
set_option linter.unusedSimpArgs false
namespace Go.Proofs.Ytbjpoamnglfjeaa
open Go.RowKit Cb

theorem RplV.setEnt {w : World} {S So : Nat → Prop} {p r : Nat} {m : List (Int × Value)} {ov : Value} {st : RSt} (h : RplV w S So p r m ov st) (k : Nat) :
    RplV (w.setCell ⟨p, 1, none⟩ (.int .i64 k)) S So p r m ov ⟨st.term, k, st.cnt, st.fed, st.o⟩ := by
  have hs := chg_set (w := w) (b := p) (i := 1) (.int .i64 k)
  refine { obj := obj_set h.obj rfl, map := h.map.keep hs (fun g => h.hpr g.symm), hS := fun k hk => by have := h.hS k hk; simpa using this, hp := h.hp, hr := h.hr, hpr := h.hpr, hSo := h.hSo, fed := fun t => (h.fed t).keep (hs.weak (fun k _ g => .inr (.inl g))), tb := h.tb, ord := h.ord.keep hs (fun k _ g s => (h.hSo k s).2.1 g) }
theorem RplV.setCnt {w : World} {S So : Nat → Prop} {p r : Nat} {m : List (Int × Value)} {ov : Value} {st : RSt} (h : RplV w S So p r m ov st) (k : Nat) :
    RplV (w.setCell ⟨p, 2, none⟩ (.int .i64 k)) S So p r m ov ⟨st.term, st.ent, k, st.fed, st.o⟩ := by
  have hs := chg_set (w := w) (b := p) (i := 2) (.int .i64 k)
  refine { obj := obj_set h.obj rfl, map := h.map.keep hs (fun g => h.hpr g.symm), hS := fun k hk => by have := h.hS k hk; simpa using this, hp := h.hp, hr := h.hr, hpr := h.hpr, hSo := h.hSo, fed := fun t => (h.fed t).keep (hs.weak (fun k _ g => .inr (.inl g))), tb := h.tb, ord := h.ord.keep hs (fun k _ g s => (h.hSo k s).2.1 g) }
abbrev Itm := Int × (Int × Int) × Rcd × Int × (Int × Int)
def itmV (x : Itm) (vt : Value) : Value := .agg #[.int .i64 x.1, .int .i64 x.2.1.1, .int .i64 x.2.1.2, .int .i64 x.2.2.1.1.1, .int .i64 x.2.2.1.1.2, vt, .string x.2.2.1.2.2, .int .i64 x.2.2.2.1, .int .i64 x.2.2.2.2.1, .int .i64 x.2.2.2.2.2]
def itm0 : Itm := (0, (0, 0), ((0, 0), [], ⟨#[]⟩), 0, (0, 0))
/-- The item of a record; the replay behind it. -/
def recItm (t : Int) (c : Nat) (pl : Int × Int) : Itm := (1, (t, c), dataF t pl.1 pl.2, 0, (0, 0))
def toldSt (st : RSt) (o : OSt) : RSt := ⟨st.term, if ((st.cnt : Int) + 1 = o.len) then st.ent + 1 else st.ent, st.cnt + 1, st.fed, st.o⟩
def setAll (w : World) (q : Nat) : Nat → List Value → World
  | _, [] => w
  | i, x :: r => setAll (w.setCell ⟨q, i, none⟩ x) q (i + 1) r
def putAll (C : Array Value) : Nat → List Value → Array Value
  | _, [] => C
  | i, x :: r => putAll (C.setIfInBounds i x) (i + 1) r
theorem setAll_obj {q : Nat} {T : TypeId} {fz : Nat × Nat} : ∀ (xs : List Value) (i : Nat) (w : World) (C : Array Value), w.heap[q]? = some (.cells C T fz) → (setAll w q i xs).heap[q]? = some (.cells (putAll C i xs) T fz) ∧ Chg (At q) w (setAll w q i xs)
  | [], _, w, C, h => ⟨h, Chg.refl _ _⟩
  | x :: r, i, w, C, h => by
    obtain ⟨h1, h2⟩ := setAll_obj r (i + 1) (w.setCell ⟨q, i, none⟩ x) _ (set_obj h x)
    exact ⟨h1, (chg_set x).trans h2⟩
theorem set10 {w : World} {q : Nat} {c0 c1 c2 c3 c4 c5 c6 c7 c8 c9 : Value} {T : TypeId} {fz : Nat × Nat} (h : w.heap[q]? = some (.cells #[c0, c1, c2, c3, c4, c5, c6, c7, c8, c9] T fz)) (x0 x1 x2 x3 x4 x5 x6 x7 x8 x9 : Value) :
    ((((((((((w.setCell ⟨q, 0, none⟩ (x0)).setCell ⟨q, 1, none⟩ (x1)).setCell ⟨q, 2, none⟩ (x2)).setCell ⟨q, 3, none⟩ (x3)).setCell ⟨q, 4, none⟩ (x4)).setCell ⟨q, 5, none⟩ (x5)).setCell ⟨q, 6, none⟩ (x6)).setCell ⟨q, 7, none⟩ (x7)).setCell ⟨q, 8, none⟩ (x8)).setCell ⟨q, 9, none⟩ (x9)).heap[q]? = some (.cells #[x0, x1, x2, x3, x4, x5, x6, x7, x8, x9] T fz) ∧ Chg (At q) w ((((((((((w.setCell ⟨q, 0, none⟩ (x0)).setCell ⟨q, 1, none⟩ (x1)).setCell ⟨q, 2, none⟩ (x2)).setCell ⟨q, 3, none⟩ (x3)).setCell ⟨q, 4, none⟩ (x4)).setCell ⟨q, 5, none⟩ (x5)).setCell ⟨q, 6, none⟩ (x6)).setCell ⟨q, 7, none⟩ (x7)).setCell ⟨q, 8, none⟩ (x8)).setCell ⟨q, 9, none⟩ (x9)) := by
  have := setAll_obj [x0, x1, x2, x3, x4, x5, x6, x7, x8, x9] 0 w _ h
  simp only [setAll, putAll, List.setIfInBounds_toArray, List.set_cons_zero, List.set_cons_succ, Nat.reduceAdd] at this
  exact this
theorem at_some {n : Nat} {o : OSt} (hI : Cb.Inv n o) {c : Nat} (hc : (c : Int) < o.len) : ∃ pl, atF o c = some pl ∧ (rowF o)[c]? = some pl ∧ (0 ≤ pl.1 ∧ pl.1 ≤ 1000) ∧ 0 ≤ pl.2 := by
  have hl := hI.rowLen
  have hlt : c < (rowF o).length := by omega
  refine ⟨(rowF o)[c], ?_, List.getElem?_eq_getElem hlt, ?_⟩
  · unfold atF
    rw [if_pos ⟨by omega, hc⟩]
    simp
  · have hm := List.getElem_mem hlt
    generalize (rowF o)[c] = x at hm
    simp only [rowF, List.mem_flatMap] at hm
    obtain ⟨y, hy, hx⟩ := hm
    have h4 := hI.loc y hy
    simp only [expand, List.mem_map, List.mem_range] at hx
    obtain ⟨k, hk, rfl⟩ := hx
    have hn := (vright_iff.1 hI.right).2.1
    have hln := hI.len
    exact ⟨⟨h4.1, by simp only; omega⟩, by simp only; omega⟩
set_option maxRecDepth 100000 in
set_option maxHeartbeats 8000000 in
theorem tell_good (S So : Nat → Prop) (p r : Nat) (m : List (Int × Value)) (ov : Value) (st : RSt) (o : OSt) (n : Nat) (pl : Int × Int) (w : World) (h : RplV w S So p r m ov st) (ho : st.o = some o) (hI : Cb.Inv n o) (hc : (st.cnt : Int) < o.len) (he : st.ent ≤ 4398046511104)
    (hpl : atF o st.cnt = some pl) (hp1 : 0 ≤ pl.1 ∧ pl.1 ≤ 1000) (hp2 : 0 ≤ pl.2) :
    Calls Try.prog 90 #[.pointer (some ⟨p, 0, none⟩), .func (.func 53) #[] #[]] w fun e w' =>
      ∃ vt, e = .returned (.tuple #[itmV (recItm st.term st.cnt pl) vt, .int .i64 0]) ∧ Chg (At p) w w' ∧ RplV w' S So p r m ov (toldSt st o) ∧ Sl (Lt w.heap.size) w' vt [pl.1 + 1] := by
  obtain ⟨po, rfl, hors, -⟩ : ∃ po, ov = .pointer (some ⟨po, 0, none⟩) ∧ Ors w So po o ∧ True := by
    have := h.ord; rw [ho] at this; obtain ⟨po, h1, h2, _⟩ := this; exact ⟨po, h1, h2, trivial⟩
  have Hat := Lib.hid (fun W (hW : Chg No w W) => at_any (hors.keepNo hW).ord hI (st.cnt : Int))
  rw [hpl] at Hat
  have Hlen := Lib.hid (fun W (hW : Chg No w W) => olen_any (hors.keepNo hW).ord hI)
  have hlen := hI.olen
  have hl0 : 0 ≤ o.len ∧ o.len ≤ 1000000 := by rw [hlen]; exact ⟨(vright_sum hI.right).1, hI.tot⟩
  have H := Lib.hid h
  have Ho := Lib.hid ho
  have HI := Lib.hid hI
  obtain ⟨term, ent, cnt, fed, oo⟩ := st
  obtain ⟨p1, p2⟩ := pl
  simp only at *
  clear h hors hI ho hlen hpl
  have oi := alloc_obj w (.cells #[.int .i64 0, .int .i64 0, .int .i64 0, .int .i64 0, .int .i64 0, .slice none 0 0, .string ⟨#[]⟩, .int .i64 0, .int .i64 0, .int .i64 0] 106)
  have hc0 := (Chg.refl No w).alloc (.cells #[.int .i64 0, .int .i64 0, .int .i64 0, .int .i64 0, .int .i64 0, .slice none 0 0, .string ⟨#[]⟩, .int .i64 0, .int .i64 0, .int .i64 0] 106)
  go_enter Try.func90, Try.ntmps90
  go_wp2_with (with_reducible first | refine stop_append ?_ | refine stop_copy ?_ | refine stop_make ?_ | refine stop_lookup ?_ | refine stop_update ?_ | refine stop_slice ?_ | refine stop_range ?_ | refine stop_next ?_ | refine stop_convert ⟨_, rfl⟩ ?_ | refine stop_convertB ⟨_, _, _, rfl⟩ ?_ | refine stop_eqSlice ⟨_, _, rfl⟩ ?_)
  generalize w.alloc (.cells #[.int .i64 0, .int .i64 0, .int .i64 0, .int .i64 0, .int .i64 0, .slice none 0 0, .string ⟨#[]⟩, .int .i64 0, .int .i64 0, .int .i64 0] 106) = w0 at *
  obtain ⟨qi, hqi⟩ : ∃ q, q = w.heap.size := ⟨_, rfl⟩
  rw [← hqi] at oi ⊢
  have Hqi := Lib.hid hqi
  clear hqi
  have HS := Lib.hid (show ∀ W, Chg No w0 W → (fun W => W.cell? ⟨p, 4, none⟩ = some (.pointer (some ⟨po, 0, none⟩)) ∧ W.cell? ⟨p, 2, none⟩ = some (.int .i64 cnt)) W from fun W hW => ⟨cell_obj (i := 4) ((H.out.keepNo (hc0.trans hW)).obj) rfl, cell_obj (i := 2) ((H.out.keepNo (hc0.trans hW)).obj) rfl⟩)
  have cd := (Chg.refl No w0).drew
  refine rt_start (fun W => W.cell? ⟨p, 4, none⟩ = some (.pointer (some ⟨po, 0, none⟩)) ∧ W.cell? ⟨p, 2, none⟩ = some (.int .i64 cnt)) (by kernel_rfl) ?_
  iterate 8 ((refine rt_nx [] (v := ?_) rfl (by kernel_rfl) (fun _ _ _ h => h) rfl ?_ ?_; rotate_left; focus (intro W hW; (try dsimp only at hW); go_split_ands; go_simp; (try (simp (disch := omega) only [IntWalk.i64_in]; (try go_simp))); (try (split; (next => omega); (try go_simp))); try rfl; done)); try simp only [Act.put, List.setIfInBounds_toArray, List.set_cons_zero, List.set_cons_succ, Nat.reduceAdd])
  refine rt_call_alloc (nq := 3) (fun W => W.cell? ⟨p, 4, none⟩ = some (.pointer (some ⟨po, 0, none⟩)) ∧ W.cell? ⟨p, 2, none⟩ = some (.int .i64 cnt)) 8 12 (fun _ : Unit => .tuple #[.agg #[.int .i64 p1, .int .i64 p2], .bool true]) (T := 36) (Z := #[.int .i64 0, .int .i64 0]) (fun _ _ _ => True) rfl rfl (fun x W _ h => by (iterate 3 ((refine rt_nx [] (v := ?_) rfl (by kernel_rfl) (fun _ _ _ h => h) rfl ?_ ?_; rotate_left; focus (intro W hW; go_simp; try rfl; done)); try simp only [Act.put, List.setIfInBounds_toArray, List.set_cons_zero, List.set_cons_succ, Nat.reduceAdd])); exact h) (fun x u W _ h => by (iterate 3 ((refine rt_nx [] (v := ?_) rfl (by kernel_rfl) (fun _ _ _ h => h) rfl ?_ ?_; rotate_left; focus (intro W hW; go_simp; try rfl; done)); try simp only [Act.put, List.setIfInBounds_toArray, List.set_cons_zero, List.set_cons_succ, Nat.reduceAdd])); exact h) (by kernel_rfl) rfl rfl (fun d h => by cases h; simp) (fun W hW => HS.out W (cd.trans hW)) (fun _ h => h) (fun b W => by kernel_rfl) (fun W => by kernel_rfl) (fun x W => by kernel_rfl) (fun W hW => (Hat.out W (hc0.trans (cd.trans hW))).mono fun e w' ⟨h1, h2⟩ => by rcases h2 with ⟨x, hx, rfl⟩ | ⟨hx, _⟩; (cases hx; exact ⟨(), rfl, h1, trivial⟩); cases hx) (fun _ _ _ _ _ _ => trivial) (fun _ _ _ _ _ _ => trivial) ?_
  rintro - q W1 hc1 o1 hq -
  try simp only [Act.put, List.setIfInBounds_toArray, List.set_cons_zero, List.set_cons_succ, Nat.reduceAdd]
  have hpw := H.out.hS p H.out.hp
  have hqi0 := Hqi.out
  have hqil := lt_of_heap oi
  have hsz0 := hc0.size
  have hdr : w0.drew.heap.size = w0.heap.size := rfl
  have hpq : p ≠ q := by omega
  have hqq : qi ≠ q := by omega
  clear hqi0
  have z0 := cell_obj (i := 0) o1 rfl
  have z1 := cell_obj (i := 1) o1 rfl
  have f0 := free_obj (i := 0) o1
  have f1 := free_obj (i := 1) o1
  have cd1 : Chg No w0 W1 := cd.trans hc1
  refine rt_kx (fun W => W.cell? ⟨p, 4, none⟩ = some (.pointer (some ⟨po, 0, none⟩)) ∧ W.cell? ⟨p, 2, none⟩ = some (.int .i64 cnt)) 13 (by kernel_rfl) (HS.out _ cd1) (fun _ h => h) rfl (by rfl) (fun K hK => ?_)
  go_simp
  have kc : Chg (At q) W1 ((W1.setCell ⟨q, 0, none⟩ (.int .i64 p1)).setCell ⟨q, 1, none⟩ (.int .i64 p2)) := (chg_set _).setCell (p := ⟨q, 1, none⟩) (.inl rfl) _
  have o2 := obj_set (obj_set o1 (i := 0) (u := .int .i64 p1) rfl) (i := 1) (u := .int .i64 p2) rfl
  have cd2 : Chg No w0 ((W1.setCell ⟨q, 0, none⟩ (.int .i64 p1)).setCell ⟨q, 1, none⟩ (.int .i64 p2)) := cd1.old kc (fun i h => by simp only [At] at h; omega)
  clear z0 z1 f0 f1 o1
  generalize (W1.setCell ⟨q, 0, none⟩ (.int .i64 p1)).setCell ⟨q, 1, none⟩ (.int .i64 p2) = w2 at *
  refine hK _ _ ?_
  clear hK K
  try simp only [Act.put, List.setIfInBounds_toArray, List.set_cons_zero, List.set_cons_succ]
  refine rt_kx (fun W => W.cell? ⟨p, 4, none⟩ = some (.pointer (some ⟨po, 0, none⟩)) ∧ W.cell? ⟨p, 2, none⟩ = some (.int .i64 cnt)) 14 (by kernel_rfl) (HS.out _ cd2) (fun _ h => h) rfl (by rfl) (fun K hK => ?_)
  go_simp
  refine hK _ _ ?_
  clear hK K
  try simp only [Act.put, List.setIfInBounds_toArray, List.set_cons_zero, List.set_cons_succ]
  refine rt_done (by kernel_rfl)  ?_
  go_wp2_with (with_reducible first | refine stop_append ?_ | refine stop_copy ?_ | refine stop_make ?_ | refine stop_lookup ?_ | refine stop_update ?_ | refine stop_slice ?_ | refine stop_range ?_ | refine stop_next ?_ | refine stop_convert ⟨_, rfl⟩ ?_ | refine stop_convertB ⟨_, _, _, rfl⟩ ?_ | refine stop_eqSlice ⟨_, _, rfl⟩ ?_)
  have oi2 := cd2.obj oi (not_no _)
  have hql2 := lt_of_heap o2
  clear cd cd1 kc hc1 HS
  have hcw2 := hc0.trans cd2
  have HS2 := Lib.hid (show ∀ W, Chg No w2 W → (fun W => W.cell? ⟨p, 0, none⟩ = some (.int .i64 term) ∧ W.cell? ⟨q, 0, none⟩ = some (.int .i64 p1) ∧ W.cell? ⟨q, 1, none⟩ = some (.int .i64 p2)) W from fun W hW => ⟨cell_obj (i := 0) ((H.out.keepNo (hcw2.trans hW)).obj) rfl, cell_obj (i := 0) (hW.obj o2 (not_no _)) rfl, cell_obj (i := 1) (hW.obj o2 (not_no _)) rfl⟩)
  have cd := (Chg.refl No w2).drew
  refine rt_start (fun W => W.cell? ⟨p, 0, none⟩ = some (.int .i64 term) ∧ W.cell? ⟨q, 0, none⟩ = some (.int .i64 p1) ∧ W.cell? ⟨q, 1, none⟩ = some (.int .i64 p2)) (by kernel_rfl) ?_
  iterate 9 ((refine rt_nx [] (v := ?_) rfl (by kernel_rfl) (fun _ _ _ h => h) rfl ?_ ?_; rotate_left; focus (intro W hW; (try dsimp only at hW); go_split_ands; go_simp; (try (simp (disch := omega) only [IntWalk.i64_in]; (try go_simp))); (try (split; (next => omega); (try go_simp))); try rfl; done)); try simp only [Act.put, List.setIfInBounds_toArray, List.set_cons_zero, List.set_cons_succ, Nat.reduceAdd])
  refine rt_call_alloc (nq := 3) (fun W => W.cell? ⟨p, 0, none⟩ = some (.int .i64 term) ∧ W.cell? ⟨q, 0, none⟩ = some (.int .i64 p1) ∧ W.cell? ⟨q, 1, none⟩ = some (.int .i64 p2)) 9 13 (fun vt : Value => .tuple #[recV (dataF term p1 p2) vt, .int .i64 0]) (T := 104) (Z := #[.int .i64 0, .int .i64 0, .slice none 0 0, .string ⟨#[]⟩]) (fun F vt W => Sl F W vt [p1 + 1]) rfl rfl (fun x W _ h => by (iterate 3 ((refine rt_nx [] (v := ?_) rfl (by kernel_rfl) (fun _ _ _ h => h) rfl ?_ ?_; rotate_left; focus (intro W hW; go_simp; try rfl; done)); try simp only [Act.put, List.setIfInBounds_toArray, List.set_cons_zero, List.set_cons_succ, Nat.reduceAdd])); exact h) (fun x u W _ h => by (iterate 3 ((refine rt_nx [] (v := ?_) rfl (by kernel_rfl) (fun _ _ _ h => h) rfl ?_ ?_; rotate_left; focus (intro W hW; go_simp; try rfl; done)); try simp only [Act.put, List.setIfInBounds_toArray, List.set_cons_zero, List.set_cons_succ, Nat.reduceAdd])); exact h) (by kernel_rfl) rfl rfl (fun d h => by cases h; simp) (fun W hW => HS2.out W (cd.trans hW)) (fun _ h => h) (fun b W => by kernel_rfl) (fun W => by kernel_rfl) (fun x W => by kernel_rfl) (fun W hW => (good_any term p1 p2 W hp1 hp2).mono fun e w' ⟨h1, h2⟩ => by rcases h2 with ⟨x, vt, hx, rfl, hs⟩ | ⟨hx, _⟩; (cases hx; exact ⟨vt, rfl, h1, hs⟩); cases hx) (fun _ _ _ _ h hc => h.keepNo hc) (fun _ _ _ _ h hG => h.weak hG) ?_
  rintro vt q8 W3 hc3 o3 hq8 hsl
  try simp only [Act.put, List.setIfInBounds_toArray, List.set_cons_zero, List.set_cons_succ, Nat.reduceAdd]
  obtain ⟨A8, c8, rfl⟩ := hsl.slice
  simp only [recV, dataF]
  have hqi8 : qi ≠ q8 := by have := cd2.size; have : w2.drew.heap.size = w2.heap.size := rfl; omega
  have hp8 : p ≠ q8 := by have := cd2.size; have : w2.drew.heap.size = w2.heap.size := rfl; omega
  have rz0 := cell_obj (i := 0) o3 rfl
  have rf0 := free_obj (i := 0) o3
  have rz1 := cell_obj (i := 1) o3 rfl
  have rf1 := free_obj (i := 1) o3
  have rz2 := cell_obj (i := 2) o3 rfl
  have rf2 := free_obj (i := 2) o3
  have rz3 := cell_obj (i := 3) o3 rfl
  have rf3 := free_obj (i := 3) o3
  have cd3 : Chg No w2 W3 := cd.trans hc3
  refine rt_kx (fun W => W.cell? ⟨p, 0, none⟩ = some (.int .i64 term) ∧ W.cell? ⟨q, 0, none⟩ = some (.int .i64 p1) ∧ W.cell? ⟨q, 1, none⟩ = some (.int .i64 p2)) 14 (by kernel_rfl) (HS2.out _ cd3) (fun _ h => h) rfl (by rfl) (fun K hK => ?_)
  go_simp
  obtain ⟨o4, k4⟩ := set4 o3 (.int .i64 term) (.int .i64 (p2 % 1000000)) (.slice A8 1 c8) (.string ⟨#[120]⟩)
  have cd4 := cd3.old k4 (fun i h => by have : w2.drew.heap.size = w2.heap.size := rfl; simp only [At] at h; omega)
  clear rz0 rf0 rz1 rf1 rz2 rf2 rz3 rf3 o3
  have hsl4 := hsl.keep (k4.weak (fun i _ h => .inr h))
  generalize (((W3.setCell ⟨q8, 0, none⟩ (.int .i64 term)).setCell ⟨q8, 1, none⟩ (.int .i64 (p2 % 1000000))).setCell ⟨q8, 2, none⟩ (.slice A8 1 c8)).setCell ⟨q8, 3, none⟩ (.string ⟨#[120]⟩) = w4 at *
  refine hK _ _ ?_
  clear hK K
  try simp only [Act.put, List.setIfInBounds_toArray, List.set_cons_zero, List.set_cons_succ]
  refine rt_kx (fun W => W.cell? ⟨p, 0, none⟩ = some (.int .i64 term) ∧ W.cell? ⟨q, 0, none⟩ = some (.int .i64 p1) ∧ W.cell? ⟨q, 1, none⟩ = some (.int .i64 p2)) 15 (by kernel_rfl) (HS2.out _ cd4) (fun _ h => h) rfl (by rfl) (fun K hK => ?_)
  go_simp
  refine hK _ _ ?_
  clear hK K
  try simp only [Act.put, List.setIfInBounds_toArray, List.set_cons_zero, List.set_cons_succ]
  refine rt_done (by kernel_rfl)  ?_
  have oi4 := cd4.obj oi2 (not_no _)
  have hcw4 := hcw2.trans cd4
  have iz0 := cell_obj (i := 0) oi4 rfl
  have if0 := free_obj (i := 0) oi4
  have iz1 := cell_obj (i := 1) oi4 rfl
  have if1 := free_obj (i := 1) oi4
  have iz2 := cell_obj (i := 2) oi4 rfl
  have if2 := free_obj (i := 2) oi4
  have iz3 := cell_obj (i := 3) oi4 rfl
  have if3 := free_obj (i := 3) oi4
  have iz4 := cell_obj (i := 4) oi4 rfl
  have if4 := free_obj (i := 4) oi4
  have iz5 := cell_obj (i := 5) oi4 rfl
  have if5 := free_obj (i := 5) oi4
  have iz6 := cell_obj (i := 6) oi4 rfl
  have if6 := free_obj (i := 6) oi4
  have iz7 := cell_obj (i := 7) oi4 rfl
  have if7 := free_obj (i := 7) oi4
  have iz8 := cell_obj (i := 8) oi4 rfl
  have if8 := free_obj (i := 8) oi4
  have iz9 := cell_obj (i := 9) oi4 rfl
  have if9 := free_obj (i := 9) oi4
  clear hc3 cd cd3 k4 HS2 o2 oi2 oi cd2 hc0 hcw2
  go_wp2_with (with_reducible first | refine stop_append ?_ | refine stop_copy ?_ | refine stop_make ?_ | refine stop_lookup ?_ | refine stop_update ?_ | refine stop_slice ?_ | refine stop_range ?_ | refine stop_next ?_ | refine stop_convert ⟨_, rfl⟩ ?_ | refine stop_convertB ⟨_, _, _, rfl⟩ ?_ | refine stop_eqSlice ⟨_, _, rfl⟩ ?_)
  have HS5 := Lib.hid (show ∀ W, Chg No w4 W → (fun W => W.cell? ⟨p, 0, none⟩ = some (.int .i64 term) ∧ W.cell? ⟨p, 2, none⟩ = some (.int .i64 cnt) ∧ W.cell? ⟨q8, 0, none⟩ = some (.int .i64 term) ∧ W.cell? ⟨q8, 1, none⟩ = some (.int .i64 (p2 % 1000000)) ∧ W.cell? ⟨q8, 2, none⟩ = some (.slice A8 1 c8) ∧ W.cell? ⟨q8, 3, none⟩ = some (.string ⟨#[120]⟩)) W from fun W hW => ⟨cell_obj (i := 0) ((H.out.keepNo (hcw4.trans hW)).obj) rfl, cell_obj (i := 2) ((H.out.keepNo (hcw4.trans hW)).obj) rfl, cell_obj (i := 0) (hW.obj o4 (not_no _)) rfl, cell_obj (i := 1) (hW.obj o4 (not_no _)) rfl, cell_obj (i := 2) (hW.obj o4 (not_no _)) rfl, cell_obj (i := 3) (hW.obj o4 (not_no _)) rfl⟩)
  have cd := (Chg.refl No w4).drew
  have hq8l := lt_of_heap o4
  refine rt_start (fun W => W.cell? ⟨p, 0, none⟩ = some (.int .i64 term) ∧ W.cell? ⟨p, 2, none⟩ = some (.int .i64 cnt) ∧ W.cell? ⟨q8, 0, none⟩ = some (.int .i64 term) ∧ W.cell? ⟨q8, 1, none⟩ = some (.int .i64 (p2 % 1000000)) ∧ W.cell? ⟨q8, 2, none⟩ = some (.slice A8 1 c8) ∧ W.cell? ⟨q8, 3, none⟩ = some (.string ⟨#[120]⟩)) (by kernel_rfl) ?_
  iterate 11 ((refine rt_nx [] (v := ?_) rfl (by kernel_rfl) (fun _ _ _ h => h) rfl ?_ ?_; rotate_left; focus (intro W hW; (try dsimp only at hW); go_split_ands; go_simp; (try (simp (disch := omega) only [IntWalk.i64_in]; (try go_simp))); (try (split; (next => omega); (try go_simp))); try rfl; done)); try simp only [Act.put, List.setIfInBounds_toArray, List.set_cons_zero, List.set_cons_succ, Nat.reduceAdd])
  refine rt_kx (fun W => W.cell? ⟨p, 0, none⟩ = some (.int .i64 term) ∧ W.cell? ⟨p, 2, none⟩ = some (.int .i64 cnt) ∧ W.cell? ⟨q8, 0, none⟩ = some (.int .i64 term) ∧ W.cell? ⟨q8, 1, none⟩ = some (.int .i64 (p2 % 1000000)) ∧ W.cell? ⟨q8, 2, none⟩ = some (.slice A8 1 c8) ∧ W.cell? ⟨q8, 3, none⟩ = some (.string ⟨#[120]⟩)) 11 (by kernel_rfl) (HS5.out _ cd) (fun _ h => h) rfl (by rfl) (fun K hK => ?_)
  go_simp
  refine hK _ _ ?_
  clear hK K
  try simp only [Act.put, List.setIfInBounds_toArray, List.set_cons_zero, List.set_cons_succ]
  have o10 := (Chg.refl No (w4.alloc (.cells #[.int .i64 0, .int .i64 0, .int .i64 0, .int .i64 0, .int .i64 0, .slice none 0 0, .string ⟨#[]⟩, .int .i64 0, .int .i64 0, .int .i64 0] 106))).drew.obj (alloc_obj w4 (.cells #[.int .i64 0, .int .i64 0, .int .i64 0, .int .i64 0, .int .i64 0, .slice none 0 0, .string ⟨#[]⟩, .int .i64 0, .int .i64 0, .int .i64 0] 106)) (not_no _)
  have cdA : Chg No w4 (w4.alloc (.cells #[.int .i64 0, .int .i64 0, .int .i64 0, .int .i64 0, .int .i64 0, .slice none 0 0, .string ⟨#[]⟩, .int .i64 0, .int .i64 0, .int .i64 0] 106)).drew := ((Chg.refl No w4).alloc (.cells #[.int .i64 0, .int .i64 0, .int .i64 0, .int .i64 0, .int .i64 0, .slice none 0 0, .string ⟨#[]⟩, .int .i64 0, .int .i64 0, .int .i64 0] 106)).drew
  generalize (w4.alloc (.cells #[.int .i64 0, .int .i64 0, .int .i64 0, .int .i64 0, .int .i64 0, .slice none 0 0, .string ⟨#[]⟩, .int .i64 0, .int .i64 0, .int .i64 0] 106)).drew = wB at *
  obtain ⟨q10, hq10⟩ : ∃ q, q = w4.heap.size := ⟨_, rfl⟩
  rw [← hq10] at o10 ⊢
  have hq10g : w4.heap.size ≤ q10 := by omega
  have hw4s := hcw4.size
  have hqi10 : qi ≠ q10 := by have := lt_of_heap oi4; omega
  have hp10 : p ≠ q10 := by omega
  have hq810 : q8 ≠ q10 := by omega
  clear hq10 cd
  have yz0 := cell_obj (i := 0) o10 rfl
  have yz1 := cell_obj (i := 1) o10 rfl
  have yz2 := cell_obj (i := 2) o10 rfl
  have yz3 := cell_obj (i := 3) o10 rfl
  have yz4 := cell_obj (i := 4) o10 rfl
  have yz5 := cell_obj (i := 5) o10 rfl
  have yz6 := cell_obj (i := 6) o10 rfl
  have yz7 := cell_obj (i := 7) o10 rfl
  have yz8 := cell_obj (i := 8) o10 rfl
  have yz9 := cell_obj (i := 9) o10 rfl
  have yf0 := free_obj (i := 0) o10
  have yf1 := free_obj (i := 1) o10
  have yf2 := free_obj (i := 2) o10
  have yf3 := free_obj (i := 3) o10
  have yf4 := free_obj (i := 4) o10
  have yf5 := free_obj (i := 5) o10
  have yf6 := free_obj (i := 6) o10
  have yf7 := free_obj (i := 7) o10
  have yf8 := free_obj (i := 8) o10
  have yf9 := free_obj (i := 9) o10
  refine rt_kx (fun W => W.cell? ⟨p, 0, none⟩ = some (.int .i64 term) ∧ W.cell? ⟨p, 2, none⟩ = some (.int .i64 cnt) ∧ W.cell? ⟨q8, 0, none⟩ = some (.int .i64 term) ∧ W.cell? ⟨q8, 1, none⟩ = some (.int .i64 (p2 % 1000000)) ∧ W.cell? ⟨q8, 2, none⟩ = some (.slice A8 1 c8) ∧ W.cell? ⟨q8, 3, none⟩ = some (.string ⟨#[120]⟩)) 12 (by kernel_rfl) (HS5.out _ cdA) (fun _ h => h) rfl (by rfl) (fun K hK => ?_)
  go_simp
  obtain ⟨o11, k11⟩ := set10 o10 (.int .i64 1) (.int .i64 term) (.int .i64 cnt) (.int .i64 term) (.int .i64 (p2 % 1000000)) (.slice A8 1 c8) (.string ⟨#[120]⟩) (.int .i64 0) (.int .i64 0) (.int .i64 0)
  have cd11 := cdA.old k11 (fun i h => by simp only [At] at h; omega)
  clear yz0 yf0 yz1 yf1 yz2 yf2 yz3 yf3 yz4 yf4 yz5 yf5 yz6 yf6 yz7 yf7 yz8 yf8 yz9 yf9 o10 k11 cdA
  generalize ((((((((((wB.setCell ⟨q10, 0, none⟩ (.int .i64 1)).setCell ⟨q10, 1, none⟩ (.int .i64 term)).setCell ⟨q10, 2, none⟩ (.int .i64 cnt)).setCell ⟨q10, 3, none⟩ (.int .i64 term)).setCell ⟨q10, 4, none⟩ (.int .i64 (p2 % 1000000))).setCell ⟨q10, 5, none⟩ (.slice A8 1 c8)).setCell ⟨q10, 6, none⟩ (.string ⟨#[120]⟩)).setCell ⟨q10, 7, none⟩ (.int .i64 0)).setCell ⟨q10, 8, none⟩ (.int .i64 0)).setCell ⟨q10, 9, none⟩ (.int .i64 0)) = w5 at *
  refine hK _ _ ?_
  clear hK K
  try simp only [Act.put, List.setIfInBounds_toArray, List.set_cons_zero, List.set_cons_succ]
  refine rt_done (by kernel_rfl)  ?_
  have o8 := cd11.obj o4 (not_no _)
  have oi5 := cd11.obj oi4 (not_no _)
  have hcw5 := hcw4.trans cd11
  have e82 := cell_obj (i := 2) o8 rfl
  clear iz0 if0 iz1 if1 iz2 if2 iz3 if3 iz4 if4 iz5 if5 iz6 if6 iz7 if7 iz8 if8 iz9 if9 HS5
  go_wp2_with (with_reducible first | refine stop_append ?_ | refine stop_copy ?_ | refine stop_make ?_ | refine stop_lookup ?_ | refine stop_update ?_ | refine stop_slice ?_ | refine stop_range ?_ | refine stop_next ?_ | refine stop_convert ⟨_, rfl⟩ ?_ | refine stop_convertB ⟨_, _, _, rfl⟩ ?_ | refine stop_eqSlice ⟨_, _, rfl⟩ ?_)
  have oi5b := lt_of_heap oi5
  have hcl := Lib.hid (vclone_any _ (.slice A8 1 c8) [p1 + 1] w5 (hsl4.keepNo cd11) (by simp))
  refine hcl.out.mono ?_
  rintro e w6 ⟨v9, rfl, hc6, hs9⟩
  obtain ⟨A9, c9, h9⟩ := hs9.slice
  rw [show ([p1 + 1] : List Int).length = 1 from rfl] at h9
  subst h9
  have hcw6 := hcw5.trans hc6
  have o12 := hc6.obj o11 (not_no _)
  have oi6 := hc6.obj oi5 (not_no _)
  have hR6 := H.out.keepNo hcw6
  have h10l := lt_of_heap o11
  have hpl5 : p < w5.heap.size := by have := hcw5.size; omega
  have y5 := cell_obj (i := 5) o12 rfl
  have g5 := free_obj (i := 5) o12
  have pc2 := cell_obj (i := 2) hR6.obj rfl
  have pf2 := free_obj (i := 2) hR6.obj
  have hp10b : q10 ≠ p := fun e => hp10 e.symm
  have ecnt : ((cnt + 1 : Nat) : Int) = (cnt : Int) + 1 := by omega
  have k5 := chg_set (w := w6) (b := q10) (i := 5) (.slice A9 1 c9)
  have hwS := H.out.hS
  have hR7 := (hR6.keep k5 (fun k hk g => by simp only [At] at g; subst g; intro s; have := hwS _ s; omega)).setCnt (cnt + 1)
  rw [ecnt] at hR7
  have k6 := chg_set (w := w6.setCell ⟨q10, 5, none⟩ (.slice A9 1 c9)) (b := p) (i := 2) (.int .i64 ((cnt : Int) + 1))
  have o13 := k6.obj (obj_set o12 (i := 5) (u := .slice A9 1 c9) rfl) hp10b
  have oi7 := k6.obj (k5.obj oi6 hqi10) (show ¬ At p qi from fun e => by simp only [At] at e; have := Hqi.out; omega)
  have hcw7 := (hcw6.old k5 (fun i h => by simp only [At] at h; omega)).of_no.trans k6
  have hs7 := (hs9.keep (k5.weak (fun i _ h => by simp only [At] at h; simp only [Lt]; omega))).keep (k6.weak (fun i _ h => by simp only [At] at h; simp only [Lt]; omega))
  have Hs7 := Lib.hid hs7
  clear hs7 hs9 hcl hsl hsl4 o12 oi6 hc6 o11 oi5 e82 ecnt
  go_wp2_with (with_reducible first | refine stop_append ?_ | refine stop_copy ?_ | refine stop_make ?_ | refine stop_lookup ?_ | refine stop_update ?_ | refine stop_slice ?_ | refine stop_range ?_ | refine stop_next ?_ | refine stop_convert ⟨_, rfl⟩ ?_ | refine stop_convertB ⟨_, _, _, rfl⟩ ?_ | refine stop_eqSlice ⟨_, _, rfl⟩ ?_)
  have o14 := o13
  generalize (w6.setCell ⟨q10, 5, none⟩ (.slice A9 1 c9)).setCell ⟨p, 2, none⟩ (.int .i64 ((cnt : Int) + 1)) = w7 at *
  have HL := Lib.hid (fun W (hW : Chg No w7 W) => show Calls Try.prog 20 #[.pointer (some ⟨po, 0, none⟩)] W fun e w' => e = .returned (.int .i64 o.len) ∧ Chg No W w' by have h := (hR7.keepNo hW).ord; rw [Ho.out] at h; obtain ⟨po2, h1, h2, _⟩ := h; cases h1; exact olen_any h2.ord HI.out)
  have HS8 := Lib.hid (show ∀ W, Chg No w7 W → (fun W => W.cell? ⟨p, 2, none⟩ = some (.int .i64 ((cnt : Int) + 1)) ∧ W.cell? ⟨p, 4, none⟩ = some (.pointer (some ⟨po, 0, none⟩)) ∧ Chg No w7 W) W from fun W hW => ⟨cell_obj (i := 2) (hR7.keepNo hW).obj rfl, cell_obj (i := 4) (hR7.keepNo hW).obj rfl, hW⟩)
  refine pl_start (fun W => W.cell? ⟨p, 2, none⟩ = some (.int .i64 ((cnt : Int) + 1)) ∧ W.cell? ⟨p, 4, none⟩ = some (.pointer (some ⟨po, 0, none⟩)) ∧ Chg No w7 W) (by kernel_rfl) (by kernel_rfl) (HS8.out _ (Chg.refl No w7).drew) ?_
  iterate 8 ((refine pl_nx [] (v := ?_) rfl (by kernel_rfl) rfl ?_ ?_; rotate_left; focus (intro W hW; (try dsimp only at hW); go_split_ands; go_simp; (try (simp (disch := omega) only [IntWalk.i64_in]; (try go_simp))); (try (split; (next => omega); (try go_simp))); try rfl; done)); try simp only [Act.put, List.setIfInBounds_toArray, List.set_cons_zero, List.set_cons_succ, Nat.reduceAdd])
  refine pl_callx 8 (.int .i64 o.len) rfl (by kernel_rfl) rfl (by exact (fun W hW => (HL.out W hW.2.2).mono fun x w' h => ⟨h.1, HS8.out _ (hW.2.2.trans h.2)⟩)) (fun W => by kernel_rfl) ?_
  try simp only [Act.put, List.setIfInBounds_toArray, List.set_cons_zero, List.set_cons_succ, Nat.reduceAdd]
  ((refine pl_nx [] (v := ?_) rfl (by kernel_rfl) rfl ?_ ?_; rotate_left; focus (intro W hW; (try dsimp only at hW); go_split_ands; go_simp; (try (simp (disch := omega) only [IntWalk.i64_in]; (try go_simp))); (try (split; (next => omega); (try go_simp))); try rfl; done)); try simp only [Act.put, List.setIfInBounds_toArray, List.set_cons_zero, List.set_cons_succ, Nat.reduceAdd])
  refine pl_done (by kernel_rfl)  ?_
  rintro w8 ⟨-, -, hc8⟩
  have hcw8 := hcw7.trans hc8.of_no
  have hR8 := hR7.keepNo hc8
  have o15 := hc8.obj o14 (not_no _)
  have oi8 := hc8.obj oi7 (not_no _)
  have hs8 := Hs7.out.keepNo hc8
  have Hs8 := Lib.hid hs8
  have pc1 := cell_obj (i := 1) hR8.obj rfl
  have pf1 := free_obj (i := 1) hR8.obj
  have hqp : qi ≠ p := fun e => by have := Hqi.out; omega
  have hqp2 : p ≠ qi := fun e => hqp e.symm
  have eent : ((ent + 1 : Nat) : Int) = (ent : Int) + 1 := by omega
  have k9 := chg_set (w := w8) (b := p) (i := 1) (.int .i64 ((ent : Int) + 1))
  have hR9 := hR8.setEnt (ent + 1)
  rw [eent] at hR9
  have oi9 := k9.obj oi8 hqp
  have yz0 := cell_obj (i := 0) o15 rfl
  have yz1 := cell_obj (i := 1) o15 rfl
  have yz2 := cell_obj (i := 2) o15 rfl
  have yz3 := cell_obj (i := 3) o15 rfl
  have yz4 := cell_obj (i := 4) o15 rfl
  have yz5 := cell_obj (i := 5) o15 rfl
  have yz6 := cell_obj (i := 6) o15 rfl
  have yz7 := cell_obj (i := 7) o15 rfl
  have yz8 := cell_obj (i := 8) o15 rfl
  have yz9 := cell_obj (i := 9) o15 rfl
  have yf0 := free_obj (i := 0) o15
  have yf1 := free_obj (i := 1) o15
  have yf2 := free_obj (i := 2) o15
  have yf3 := free_obj (i := 3) o15
  have yf4 := free_obj (i := 4) o15
  have yf5 := free_obj (i := 5) o15
  have yf6 := free_obj (i := 6) o15
  have yf7 := free_obj (i := 7) o15
  have yf8 := free_obj (i := 8) o15
  have yf9 := free_obj (i := 9) o15
  have iz0 := cell_obj (i := 0) oi8 rfl
  have iz1 := cell_obj (i := 1) oi8 rfl
  have iz2 := cell_obj (i := 2) oi8 rfl
  have iz3 := cell_obj (i := 3) oi8 rfl
  have iz4 := cell_obj (i := 4) oi8 rfl
  have iz5 := cell_obj (i := 5) oi8 rfl
  have iz6 := cell_obj (i := 6) oi8 rfl
  have iz7 := cell_obj (i := 7) oi8 rfl
  have iz8 := cell_obj (i := 8) oi8 rfl
  have iz9 := cell_obj (i := 9) oi8 rfl
  have if0 := free_obj (i := 0) oi8
  have if1 := free_obj (i := 1) oi8
  have if2 := free_obj (i := 2) oi8
  have if3 := free_obj (i := 3) oi8
  have if4 := free_obj (i := 4) oi8
  have if5 := free_obj (i := 5) oi8
  have if6 := free_obj (i := 6) oi8
  have if7 := free_obj (i := 7) oi8
  have if8 := free_obj (i := 8) oi8
  have if9 := free_obj (i := 9) oi8
  clear eent hR6 hR7 hs8 o13 o14 oi7 HS8 HL hcw7
  by_cases hl : (cnt : Int) + 1 = o.len
  · have g1 : ((cnt : Int) + 1 == o.len) = true := by simpa using hl
    have Hl := Lib.hid hl
    clear hl
    go_wp2_with (with_reducible first | refine stop_append ?_ | refine stop_copy ?_ | refine stop_make ?_ | refine stop_lookup ?_ | refine stop_update ?_ | refine stop_slice ?_ | refine stop_range ?_ | refine stop_next ?_ | refine stop_convert ⟨_, rfl⟩ ?_ | refine stop_convertB ⟨_, _, _, rfl⟩ ?_ | refine stop_eqSlice ⟨_, _, rfl⟩ ?_)
    refine bodyPost_ret (v := .tuple #[.agg #[.int .i64 1, .int .i64 term, .int .i64 cnt, .int .i64 term, .int .i64 (p2 % 1000000), .slice A9 1 c9, .string ⟨#[120]⟩, .int .i64 0, .int .i64 0, .int .i64 0], .int .i64 0]) (by simp [results, Try.results90, go_sem, *]) rfl ?_
    obtain ⟨-, kF⟩ := set10 oi9 (.int .i64 1) (.int .i64 term) (.int .i64 cnt) (.int .i64 term) (.int .i64 (p2 % 1000000)) (.slice A9 1 c9) (.string ⟨#[120]⟩) (.int .i64 0) (.int .i64 0) (.int .i64 0)
    have hqi5 : qi < w5.heap.size := oi5b
    refine ⟨_, rfl, (hcw8.trans k9).trans' kF (fun _ _ g => g) (fun i hi g => by simp only [At] at g; have := Hqi.out; omega), ?_, ?_⟩
    · unfold toldSt
      simp only
      rw [if_pos Hl.out]
      exact (hR9.keep kF (fun k hk g => by simp only [At] at g; subst g; intro s; have := hwS _ s; have := Hqi.out; omega))
    · exact ((Hs8.out.keep (k9.weak (fun i _ h => by simp only [At] at h; simp only [Lt]; omega))).keep (kF.weak (fun i _ h => by simp only [At] at h; simp only [Lt]; omega))).weak (fun i _ h => by simp only [Lt] at *; omega)
  · have g1 : ((cnt : Int) + 1 == o.len) = false := by simpa using hl
    have Hl := Lib.hid hl
    clear hl
    go_wp2_with (with_reducible first | refine stop_append ?_ | refine stop_copy ?_ | refine stop_make ?_ | refine stop_lookup ?_ | refine stop_update ?_ | refine stop_slice ?_ | refine stop_range ?_ | refine stop_next ?_ | refine stop_convert ⟨_, rfl⟩ ?_ | refine stop_convertB ⟨_, _, _, rfl⟩ ?_ | refine stop_eqSlice ⟨_, _, rfl⟩ ?_)
    refine bodyPost_ret (v := .tuple #[.agg #[.int .i64 1, .int .i64 term, .int .i64 cnt, .int .i64 term, .int .i64 (p2 % 1000000), .slice A9 1 c9, .string ⟨#[120]⟩, .int .i64 0, .int .i64 0, .int .i64 0], .int .i64 0]) (by simp [results, Try.results90, go_sem, *]) rfl ?_
    obtain ⟨-, kF⟩ := set10 oi8 (.int .i64 1) (.int .i64 term) (.int .i64 cnt) (.int .i64 term) (.int .i64 (p2 % 1000000)) (.slice A9 1 c9) (.string ⟨#[120]⟩) (.int .i64 0) (.int .i64 0) (.int .i64 0)
    have hqi5 : qi < w5.heap.size := oi5b
    refine ⟨_, rfl, (hcw8).trans' kF (fun _ _ g => g) (fun i hi g => by simp only [At] at g; have := Hqi.out; omega), ?_, ?_⟩
    · unfold toldSt
      simp only
      rw [if_neg Hl.out]
      exact (hR8.keep kF (fun k hk g => by simp only [At] at g; subst g; intro s; have := hwS _ s; have := Hqi.out; omega))
    · exact (Hs8.out.keep (kF.weak (fun i _ h => by simp only [At] at h; simp only [Lt]; omega))).weak (fun i _ h => by simp only [Lt] at *; omega)
set_option maxRecDepth 100000 in
set_option maxHeartbeats 8000000 in
theorem tell_bad (S So : Nat → Prop) (p r : Nat) (m : List (Int × Value)) (ov : Value) (st : RSt) (o : OSt) (n : Nat) (pl : Int × Int) (w : World) (h : RplV w S So p r m ov st) (ho : st.o = some o) (hI : Cb.Inv n o) (hc : (st.cnt : Int) < o.len) (he : st.ent ≤ 4398046511104)
    (hpl : atF o st.cnt = some pl) (hp1 : 0 ≤ pl.1 ∧ pl.1 ≤ 1000) (hp2 : 0 ≤ pl.2) :
    Calls Try.prog 90 #[.pointer (some ⟨p, 0, none⟩), .func (.func 52) #[] #[]] w fun e w' =>
      e = .returned (.tuple #[itmV itm0 (.slice none 0 0), .int .i64 91]) ∧ Chg No w w' := by
  obtain ⟨po, rfl, hors, -⟩ : ∃ po, ov = .pointer (some ⟨po, 0, none⟩) ∧ Ors w So po o ∧ True := by
    have := h.ord; rw [ho] at this; obtain ⟨po, h1, h2, _⟩ := this; exact ⟨po, h1, h2, trivial⟩
  have Hat := Lib.hid (fun W (hW : Chg No w W) => at_any (hors.keepNo hW).ord hI (st.cnt : Int))
  rw [hpl] at Hat
  have Hlen := Lib.hid (fun W (hW : Chg No w W) => olen_any (hors.keepNo hW).ord hI)
  have hlen := hI.olen
  have hl0 : 0 ≤ o.len ∧ o.len ≤ 1000000 := by rw [hlen]; exact ⟨(vright_sum hI.right).1, hI.tot⟩
  have H := Lib.hid h
  have Ho := Lib.hid ho
  have HI := Lib.hid hI
  obtain ⟨term, ent, cnt, fed, oo⟩ := st
  obtain ⟨p1, p2⟩ := pl
  simp only at *
  clear h hors hI ho hlen hpl
  have oi := alloc_obj w (.cells #[.int .i64 0, .int .i64 0, .int .i64 0, .int .i64 0, .int .i64 0, .slice none 0 0, .string ⟨#[]⟩, .int .i64 0, .int .i64 0, .int .i64 0] 106)
  have hc0 := (Chg.refl No w).alloc (.cells #[.int .i64 0, .int .i64 0, .int .i64 0, .int .i64 0, .int .i64 0, .slice none 0 0, .string ⟨#[]⟩, .int .i64 0, .int .i64 0, .int .i64 0] 106)
  go_enter Try.func90, Try.ntmps90
  go_wp2_with (with_reducible first | refine stop_append ?_ | refine stop_copy ?_ | refine stop_make ?_ | refine stop_lookup ?_ | refine stop_update ?_ | refine stop_slice ?_ | refine stop_range ?_ | refine stop_next ?_ | refine stop_convert ⟨_, rfl⟩ ?_ | refine stop_convertB ⟨_, _, _, rfl⟩ ?_ | refine stop_eqSlice ⟨_, _, rfl⟩ ?_)
  generalize w.alloc (.cells #[.int .i64 0, .int .i64 0, .int .i64 0, .int .i64 0, .int .i64 0, .slice none 0 0, .string ⟨#[]⟩, .int .i64 0, .int .i64 0, .int .i64 0] 106) = w0 at *
  obtain ⟨qi, hqi⟩ : ∃ q, q = w.heap.size := ⟨_, rfl⟩
  rw [← hqi] at oi ⊢
  have Hqi := Lib.hid hqi
  clear hqi
  have HS := Lib.hid (show ∀ W, Chg No w0 W → (fun W => W.cell? ⟨p, 4, none⟩ = some (.pointer (some ⟨po, 0, none⟩)) ∧ W.cell? ⟨p, 2, none⟩ = some (.int .i64 cnt)) W from fun W hW => ⟨cell_obj (i := 4) ((H.out.keepNo (hc0.trans hW)).obj) rfl, cell_obj (i := 2) ((H.out.keepNo (hc0.trans hW)).obj) rfl⟩)
  have cd := (Chg.refl No w0).drew
  refine rt_start (fun W => W.cell? ⟨p, 4, none⟩ = some (.pointer (some ⟨po, 0, none⟩)) ∧ W.cell? ⟨p, 2, none⟩ = some (.int .i64 cnt)) (by kernel_rfl) ?_
  iterate 8 ((refine rt_nx [] (v := ?_) rfl (by kernel_rfl) (fun _ _ _ h => h) rfl ?_ ?_; rotate_left; focus (intro W hW; (try dsimp only at hW); go_split_ands; go_simp; (try (simp (disch := omega) only [IntWalk.i64_in]; (try go_simp))); (try (split; (next => omega); (try go_simp))); try rfl; done)); try simp only [Act.put, List.setIfInBounds_toArray, List.set_cons_zero, List.set_cons_succ, Nat.reduceAdd])
  refine rt_call_alloc (nq := 3) (fun W => W.cell? ⟨p, 4, none⟩ = some (.pointer (some ⟨po, 0, none⟩)) ∧ W.cell? ⟨p, 2, none⟩ = some (.int .i64 cnt)) 8 12 (fun _ : Unit => .tuple #[.agg #[.int .i64 p1, .int .i64 p2], .bool true]) (T := 36) (Z := #[.int .i64 0, .int .i64 0]) (fun _ _ _ => True) rfl rfl (fun x W _ h => by (iterate 3 ((refine rt_nx [] (v := ?_) rfl (by kernel_rfl) (fun _ _ _ h => h) rfl ?_ ?_; rotate_left; focus (intro W hW; go_simp; try rfl; done)); try simp only [Act.put, List.setIfInBounds_toArray, List.set_cons_zero, List.set_cons_succ, Nat.reduceAdd])); exact h) (fun x u W _ h => by (iterate 3 ((refine rt_nx [] (v := ?_) rfl (by kernel_rfl) (fun _ _ _ h => h) rfl ?_ ?_; rotate_left; focus (intro W hW; go_simp; try rfl; done)); try simp only [Act.put, List.setIfInBounds_toArray, List.set_cons_zero, List.set_cons_succ, Nat.reduceAdd])); exact h) (by kernel_rfl) rfl rfl (fun d h => by cases h; simp) (fun W hW => HS.out W (cd.trans hW)) (fun _ h => h) (fun b W => by kernel_rfl) (fun W => by kernel_rfl) (fun x W => by kernel_rfl) (fun W hW => (Hat.out W (hc0.trans (cd.trans hW))).mono fun e w' ⟨h1, h2⟩ => by rcases h2 with ⟨x, hx, rfl⟩ | ⟨hx, _⟩; (cases hx; exact ⟨(), rfl, h1, trivial⟩); cases hx) (fun _ _ _ _ _ _ => trivial) (fun _ _ _ _ _ _ => trivial) ?_
  rintro - q W1 hc1 o1 hq -
  try simp only [Act.put, List.setIfInBounds_toArray, List.set_cons_zero, List.set_cons_succ, Nat.reduceAdd]
  have hpw := H.out.hS p H.out.hp
  have hqi0 := Hqi.out
  have hqil := lt_of_heap oi
  have hsz0 := hc0.size
  have hdr : w0.drew.heap.size = w0.heap.size := rfl
  have hpq : p ≠ q := by omega
  have hqq : qi ≠ q := by omega
  clear hqi0
  have z0 := cell_obj (i := 0) o1 rfl
  have z1 := cell_obj (i := 1) o1 rfl
  have f0 := free_obj (i := 0) o1
  have f1 := free_obj (i := 1) o1
  have cd1 : Chg No w0 W1 := cd.trans hc1
  refine rt_kx (fun W => W.cell? ⟨p, 4, none⟩ = some (.pointer (some ⟨po, 0, none⟩)) ∧ W.cell? ⟨p, 2, none⟩ = some (.int .i64 cnt)) 13 (by kernel_rfl) (HS.out _ cd1) (fun _ h => h) rfl (by rfl) (fun K hK => ?_)
  go_simp
  have kc : Chg (At q) W1 ((W1.setCell ⟨q, 0, none⟩ (.int .i64 p1)).setCell ⟨q, 1, none⟩ (.int .i64 p2)) := (chg_set _).setCell (p := ⟨q, 1, none⟩) (.inl rfl) _
  have o2 := obj_set (obj_set o1 (i := 0) (u := .int .i64 p1) rfl) (i := 1) (u := .int .i64 p2) rfl
  have cd2 : Chg No w0 ((W1.setCell ⟨q, 0, none⟩ (.int .i64 p1)).setCell ⟨q, 1, none⟩ (.int .i64 p2)) := cd1.old kc (fun i h => by simp only [At] at h; omega)
  clear z0 z1 f0 f1 o1
  generalize (W1.setCell ⟨q, 0, none⟩ (.int .i64 p1)).setCell ⟨q, 1, none⟩ (.int .i64 p2) = w2 at *
  refine hK _ _ ?_
  clear hK K
  try simp only [Act.put, List.setIfInBounds_toArray, List.set_cons_zero, List.set_cons_succ]
  refine rt_kx (fun W => W.cell? ⟨p, 4, none⟩ = some (.pointer (some ⟨po, 0, none⟩)) ∧ W.cell? ⟨p, 2, none⟩ = some (.int .i64 cnt)) 14 (by kernel_rfl) (HS.out _ cd2) (fun _ h => h) rfl (by rfl) (fun K hK => ?_)
  go_simp
  refine hK _ _ ?_
  clear hK K
  try simp only [Act.put, List.setIfInBounds_toArray, List.set_cons_zero, List.set_cons_succ]
  refine rt_done (by kernel_rfl)  ?_
  go_wp2_with (with_reducible first | refine stop_append ?_ | refine stop_copy ?_ | refine stop_make ?_ | refine stop_lookup ?_ | refine stop_update ?_ | refine stop_slice ?_ | refine stop_range ?_ | refine stop_next ?_ | refine stop_convert ⟨_, rfl⟩ ?_ | refine stop_convertB ⟨_, _, _, rfl⟩ ?_ | refine stop_eqSlice ⟨_, _, rfl⟩ ?_)
  have oi2 := cd2.obj oi (not_no _)
  have hql2 := lt_of_heap o2
  clear cd cd1 kc hc1 HS
  have hcw2 := hc0.trans cd2
  have HS2 := Lib.hid (show ∀ W, Chg No w2 W → (fun W => W.cell? ⟨p, 0, none⟩ = some (.int .i64 term) ∧ W.cell? ⟨q, 0, none⟩ = some (.int .i64 p1) ∧ W.cell? ⟨q, 1, none⟩ = some (.int .i64 p2)) W from fun W hW => ⟨cell_obj (i := 0) ((H.out.keepNo (hcw2.trans hW)).obj) rfl, cell_obj (i := 0) (hW.obj o2 (not_no _)) rfl, cell_obj (i := 1) (hW.obj o2 (not_no _)) rfl⟩)
  have cd := (Chg.refl No w2).drew
  refine rt_start (fun W => W.cell? ⟨p, 0, none⟩ = some (.int .i64 term) ∧ W.cell? ⟨q, 0, none⟩ = some (.int .i64 p1) ∧ W.cell? ⟨q, 1, none⟩ = some (.int .i64 p2)) (by kernel_rfl) ?_
  iterate 9 ((refine rt_nx [] (v := ?_) rfl (by kernel_rfl) (fun _ _ _ h => h) rfl ?_ ?_; rotate_left; focus (intro W hW; (try dsimp only at hW); go_split_ands; go_simp; (try (simp (disch := omega) only [IntWalk.i64_in]; (try go_simp))); (try (split; (next => omega); (try go_simp))); try rfl; done)); try simp only [Act.put, List.setIfInBounds_toArray, List.set_cons_zero, List.set_cons_succ, Nat.reduceAdd])
  refine rt_call_alloc (nq := 3) (fun W => W.cell? ⟨p, 0, none⟩ = some (.int .i64 term) ∧ W.cell? ⟨q, 0, none⟩ = some (.int .i64 p1) ∧ W.cell? ⟨q, 1, none⟩ = some (.int .i64 p2)) 9 13 (fun _ : Unit => .tuple #[recV ((0, 0), [], ⟨#[]⟩) (.slice none 0 0), .int .i64 91]) (T := 104) (Z := #[.int .i64 0, .int .i64 0, .slice none 0 0, .string ⟨#[]⟩]) (fun _ _ _ => True) rfl rfl (fun x W _ h => by (iterate 3 ((refine rt_nx [] (v := ?_) rfl (by kernel_rfl) (fun _ _ _ h => h) rfl ?_ ?_; rotate_left; focus (intro W hW; go_simp; try rfl; done)); try simp only [Act.put, List.setIfInBounds_toArray, List.set_cons_zero, List.set_cons_succ, Nat.reduceAdd])); exact h) (fun x u W _ h => by (iterate 3 ((refine rt_nx [] (v := ?_) rfl (by kernel_rfl) (fun _ _ _ h => h) rfl ?_ ?_; rotate_left; focus (intro W hW; go_simp; try rfl; done)); try simp only [Act.put, List.setIfInBounds_toArray, List.set_cons_zero, List.set_cons_succ, Nat.reduceAdd])); exact h) (by kernel_rfl) rfl rfl (fun d h => by cases h; simp) (fun W hW => HS2.out W (cd.trans hW)) (fun _ h => h) (fun b W => by kernel_rfl) (fun W => by kernel_rfl) (fun x W => by kernel_rfl) (fun W hW => (bad_any term p1 p2 W).mono fun e w' ⟨h1, h2⟩ => by rcases h2 with ⟨x, vt, hx, _⟩ | ⟨_, rfl⟩; cases hx; exact ⟨(), rfl, h1, trivial⟩) (fun _ _ _ _ _ _ => trivial) (fun _ _ _ _ _ _ => trivial) ?_
  rintro vt q8 W3 hc3 o3 hq8 hsl
  try simp only [Act.put, List.setIfInBounds_toArray, List.set_cons_zero, List.set_cons_succ, Nat.reduceAdd]
  simp only [recV, dataF]
  have hqi8 : qi ≠ q8 := by have := cd2.size; have : w2.drew.heap.size = w2.heap.size := rfl; omega
  have hp8 : p ≠ q8 := by have := cd2.size; have : w2.drew.heap.size = w2.heap.size := rfl; omega
  have rz0 := cell_obj (i := 0) o3 rfl
  have rf0 := free_obj (i := 0) o3
  have rz1 := cell_obj (i := 1) o3 rfl
  have rf1 := free_obj (i := 1) o3
  have rz2 := cell_obj (i := 2) o3 rfl
  have rf2 := free_obj (i := 2) o3
  have rz3 := cell_obj (i := 3) o3 rfl
  have rf3 := free_obj (i := 3) o3
  have cd3 : Chg No w2 W3 := cd.trans hc3
  refine rt_kx (fun W => W.cell? ⟨p, 0, none⟩ = some (.int .i64 term) ∧ W.cell? ⟨q, 0, none⟩ = some (.int .i64 p1) ∧ W.cell? ⟨q, 1, none⟩ = some (.int .i64 p2)) 14 (by kernel_rfl) (HS2.out _ cd3) (fun _ h => h) rfl (by rfl) (fun K hK => ?_)
  go_simp
  obtain ⟨o4, k4⟩ := set4 o3 (.int .i64 0) (.int .i64 0) (.slice none 0 0) (.string ⟨#[]⟩)
  have cd4 := cd3.old k4 (fun i h => by have : w2.drew.heap.size = w2.heap.size := rfl; simp only [At] at h; omega)
  clear rz0 rf0 rz1 rf1 rz2 rf2 rz3 rf3 o3
  generalize (((W3.setCell ⟨q8, 0, none⟩ (.int .i64 0)).setCell ⟨q8, 1, none⟩ (.int .i64 0)).setCell ⟨q8, 2, none⟩ (.slice none 0 0)).setCell ⟨q8, 3, none⟩ (.string ⟨#[]⟩) = w4 at *
  refine hK _ _ ?_
  clear hK K
  try simp only [Act.put, List.setIfInBounds_toArray, List.set_cons_zero, List.set_cons_succ]
  refine rt_kx (fun W => W.cell? ⟨p, 0, none⟩ = some (.int .i64 term) ∧ W.cell? ⟨q, 0, none⟩ = some (.int .i64 p1) ∧ W.cell? ⟨q, 1, none⟩ = some (.int .i64 p2)) 15 (by kernel_rfl) (HS2.out _ cd4) (fun _ h => h) rfl (by rfl) (fun K hK => ?_)
  go_simp
  refine hK _ _ ?_
  clear hK K
  try simp only [Act.put, List.setIfInBounds_toArray, List.set_cons_zero, List.set_cons_succ]
  refine rt_done (by kernel_rfl)  ?_
  have oi4 := cd4.obj oi2 (not_no _)
  have hcw4 := hcw2.trans cd4
  have iz0 := cell_obj (i := 0) oi4 rfl
  have if0 := free_obj (i := 0) oi4
  have iz1 := cell_obj (i := 1) oi4 rfl
  have if1 := free_obj (i := 1) oi4
  have iz2 := cell_obj (i := 2) oi4 rfl
  have if2 := free_obj (i := 2) oi4
  have iz3 := cell_obj (i := 3) oi4 rfl
  have if3 := free_obj (i := 3) oi4
  have iz4 := cell_obj (i := 4) oi4 rfl
  have if4 := free_obj (i := 4) oi4
  have iz5 := cell_obj (i := 5) oi4 rfl
  have if5 := free_obj (i := 5) oi4
  have iz6 := cell_obj (i := 6) oi4 rfl
  have if6 := free_obj (i := 6) oi4
  have iz7 := cell_obj (i := 7) oi4 rfl
  have if7 := free_obj (i := 7) oi4
  have iz8 := cell_obj (i := 8) oi4 rfl
  have if8 := free_obj (i := 8) oi4
  have iz9 := cell_obj (i := 9) oi4 rfl
  have if9 := free_obj (i := 9) oi4
  clear hc3 cd cd3 k4 HS2 o2 oi2 oi cd2 hc0 hcw2
  go_wp2_with (with_reducible first | refine stop_append ?_ | refine stop_copy ?_ | refine stop_make ?_ | refine stop_lookup ?_ | refine stop_update ?_ | refine stop_slice ?_ | refine stop_range ?_ | refine stop_next ?_ | refine stop_convert ⟨_, rfl⟩ ?_ | refine stop_convertB ⟨_, _, _, rfl⟩ ?_ | refine stop_eqSlice ⟨_, _, rfl⟩ ?_)
  refine bodyPost_ret (v := .tuple #[.agg #[.int .i64 0, .int .i64 0, .int .i64 0, .int .i64 0, .int .i64 0, .slice none 0 0, .string ⟨#[]⟩, .int .i64 0, .int .i64 0, .int .i64 0], .int .i64 91]) (by simp [results, Try.results90, go_sem, *]) rfl ?_
  have hge : w.heap.size ≤ qi := by have := Hqi.out; omega
  refine ⟨rfl, ?_⟩
  repeat (with_reducible refine Chg.setCell ?_ (.inr hge) _)
  exact hcw4
end Go.Proofs.Ytbjpoamnglfjeaa


/- A step of a replay in plain words, and what the walk of Step needs. -/
set_option linter.unusedVariables false
set_option linter.unusedSimpArgs false
namespace Go.Proofs.Ytbjpoamnglfjeaa
open Go.RowKit Cb

def curR (rows : List Rw) : Int := firstR rows + (rows.length - 1 : Nat)
def entF (l : List Ent) (i : Nat) : Ent := l.getD i (0, 0, [], 0, 0, 0)
/-- The order when the entry is at hand. -/
def ordF (o : OSt) (i : Nat) (e : Ent) : OSt := if ((o.after.length : Int) - 1 = i) then (addF o e).1 else o
def trimItm (e : Ent) : Itm := (2, (0, 0), ((0, 0), [], ⟨#[]⟩), e.2.2.2.1, (e.2.2.2.2.1, e.2.2.2.2.2))
/-- A round of a step on the entry at hand: the replay behind it; none: on to the next one. -/
def roundG (bad : Bool) (st : RSt) (o : OSt) (e : Ent) : RSt × Option (Itm × Int) :=
  let o1 := ordF o st.ent e
  if e.2.1 = 2 then (⟨st.term, st.ent + 1, st.cnt, st.fed, some o1⟩, some (trimItm e, 0))
  else if (st.cnt : Int) < o1.len then
    (if bad then (⟨st.term, st.ent, st.cnt, st.fed, some o1⟩, some (itm0, 91)) else (toldSt ⟨st.term, st.ent, st.cnt, st.fed, some o1⟩ o1, some (recItm st.term st.cnt ((atF o1 st.cnt).getD (0, 0)), 0)))
  else (⟨st.term, st.ent + 1, st.cnt, st.fed, some o1⟩, none)
def roundK (rows : List Rw) (bad : Bool) (k : List Ent × Bool × Int × RSt) : RSt × Option (Itm × Int) :=
  if k.2.2.1 ≠ 0 then (k.2.2.2, some (itm0, k.2.2.1))
  else if k.1.length ≤ k.2.2.2.ent then
    (if k.2.1 = true ∧ k.2.2.2.term < curR rows then (⟨k.2.2.2.term + 1, 0, 0, k.2.2.2.fed, none⟩, none) else (k.2.2.2, some (itm0, 161)))
  else roundG bad k.2.2.2 (k.2.2.2.o.getD ⟨[], [], []⟩) (entF k.1 k.2.2.2.ent)
def roundF (rows : List Rw) (bad : Bool) (st : RSt) : RSt × Option (Itm × Int) := roundK rows bad (knownF rows st)
inductive Runs (rows : List Rw) (bad : Bool) : RSt → RSt → Prop
  | refl (st : RSt) : Runs rows bad st st
  | step {a b c : RSt} : Runs rows bad a b → roundF rows bad b = (c, none) → Runs rows bad a c
def StepR (rows : List Rw) (bad : Bool) (st st' : RSt) (out : Itm × Int) : Prop := ∃ st1, Runs rows bad st st1 ∧ roundF rows bad st1 = (st', some out)
structure KnI (rows : List Rw) (st : RSt) (k : List Ent × Bool × Int × RSt) : Prop where
  tail : TailB k.1
  term : k.2.2.2.term = st.term
  ent : k.2.2.2.ent = st.ent
  cnt : k.2.2.2.cnt = st.cnt
  fed : k.2.2.2.fed = st.fed
  yes : k.2.2.1 = 0 → ∃ o, k.2.2.2.o = some o
theorem tailB_nil : TailB [] := ⟨by simp, by simp⟩
theorem known_kn {rows : List Rw} {st : RSt} (hi : RowsI rows) (htb : ∀ t, TailB (st.fed t)) : KnI rows st (knownF rows st) := by
  unfold knownF
  cases hat : atR rows st.term with
  | none => exact ⟨tailB_nil, rfl, rfl, rfl, rfl, fun h => by cases h⟩
  | some i =>
    obtain ⟨hlt, hti⟩ := atR_some hi.1 hat
    obtain ⟨-, -, ht⟩ := hi.2.2 i hlt
    simp only [rowA_get rows i hlt]
    generalize rows[i] = rw at *
    obtain ⟨t', q, s, l, ovr⟩ := rw
    unfold knownG
    simp only at *
    cases ovr
    · exact ⟨htb _, rfl, rfl, rfl, rfl, fun _ => ⟨_, rfl⟩⟩
    · simp only [if_true]
      split
      · exact ⟨ht, rfl, rfl, rfl, rfl, fun _ => ⟨_, rfl⟩⟩
      · exact ⟨tailB_nil, rfl, rfl, rfl, rfl, fun h => by cases h⟩
/-- An entry was added to the order. -/
theorem RplV.added {w w' : World} {S So : Nat → Prop} {p r po : Nat} {m : List (Int × Value)} {st : RSt} {o1 : OSt} {n : Nat} (h : RplV w S So p r m (.pointer (some ⟨po, 0, none⟩)) st) (hc : Chg So w w') (ho : Ors w' (Up So w w') po o1) (hI : Cb.Inv n o1) :
    RplV w' (Up S w w') (Up So w w') p r m (.pointer (some ⟨po, 0, none⟩)) ⟨st.term, st.ent, st.cnt, st.fed, some o1⟩ where
  obj := hc.obj h.obj (fun s => (h.hSo p s).2.1 rfl)
  map := h.map.keep hc (fun s => (h.hSo r s).2.2 rfl)
  hS := fun k hk => by rcases hk with hk | hk; (have := h.hS k hk; have := hc.size; omega); exact hk.2
  hp := .inl h.hp
  hr := .inl h.hr
  hpr := h.hpr
  hSo := fun k hk => by
    have h1 := h.hS p h.hp
    have h2 := h.hS r h.hr
    rcases hk with hk | hk
    · exact ⟨.inl (h.hSo k hk).1, (h.hSo k hk).2⟩
    · exact ⟨.inr hk, by omega, by omega⟩
  fed := fun t => ((h.fed t).weak (G := fun k => ¬ Up S w w' k ∨ k = p ∨ k = r ∨ Up So w w' k) (fun k hk g => by
    rcases g with g | g | g | g | g
    · exact .inl (fun s => g (.inl s))
    · exact .inr (.inl g)
    · exact .inr (.inr (.inl g))
    · exact .inr (.inr (.inr g))
    · omega)).keep (hc.weak (fun k _ g => .inr (.inr (.inr (.inl g)))))
  tb := h.tb
  ord := ⟨po, rfl, ho, n, hI⟩
def cellI (w : World) (p i : Nat) : Int := match w.cell? ⟨p, i, none⟩ with | some (.int _ n) => n | _ => 0
theorem cellI_of {w : World} {p i : Nat} {n : Int} (h : w.cell? ⟨p, i, none⟩ = some (.int .i64 n)) : cellI w p i = n := by unfold cellI; rw [h]
def muR (cur : Int) (p : Nat) (w : World) : Nat := (cur - cellI w p 0).toNat * 2199023255489 + (2199023255488 - (cellI w p 1).toNat)
theorem muR_of {cur : Int} {p : Nat} {w : World} {S So : Nat → Prop} {r : Nat} {m : List (Int × Value)} {ov : Value} {st : RSt} (h : RplV w S So p r m ov st) : muR cur p w = (cur - st.term).toNat * 2199023255489 + (2199023255488 - st.ent) := by
  unfold muR
  rw [cellI_of (cell_obj (i := 0) h.obj rfl), cellI_of (cell_obj (i := 1) h.obj rfl)]
  simp
end Go.Proofs.Ytbjpoamnglfjeaa


/- Walks of package replay: a step. -/
set_option linter.unusedVariables false
set_option linter.unusedSimpArgs false
namespace Go.Proofs.Ytbjpoamnglfjeaa
open Go.RowKit Cb

def StepPost (rows : List Rw) (bad : Bool) (st : RSt) (S : Nat → Prop) (p : Nat) (w : World) (e : Ending) (w' : World) : Prop :=
  ∃ st' out vt S', StepR rows bad st st' out ∧ e = .returned (.tuple #[itmV out.1 vt, .int .i64 out.2]) ∧ Chg S w w' ∧ Rpl w' S' p st' ∧ (∀ b, S' b → S b ∨ w.heap.size ≤ b) ∧ Sl (fun b => b < w.heap.size ∨ S' b) w' vt out.1.2.2.1.2.1 ∧ st'.ent ≤ 2199023255488 ∧ 1 ≤ st'.term ∧ st'.term ≤ curR rows
theorem chg_up {S S1 : Nat → Prop} {w w0 w1 w2 : World} (h : Chg S w w1) (hw : w.heap.size ≤ w0.heap.size) (k : Chg S1 w1 w2) (hS : ∀ b, S1 b → S b ∨ w0.heap.size ≤ b) : Chg S w w2 :=
  h.trans' k (fun _ _ g => g) (fun i hi g => by rcases hS i g with s | s; exact s; omega)
theorem step_end {S S2 So : Nat → Prop} {w w0 w1 w2 : World} {p r q : Nat} {m : List (Int × Value)} {ov : Value} {st : RSt} (hc : Chg S w w1) (hR : RplV w1 S2 So p r m ov st) (hS2 : ∀ b, S2 b → S b ∨ w0.heap.size ≤ b) (hS : ∀ b, S b → b < w.heap.size) (hw : w.heap.size ≤ w0.heap.size) (hk : Chg (At q) w1 w2)
    (hq : w.heap.size ≤ q ∧ q < w0.heap.size) : Chg S w w2 ∧ Rpl w2 S2 p st ∧ ∀ b, S2 b → S b ∨ w.heap.size ≤ b := by
  have hno : ∀ b, At q b → ¬ S2 b := fun b g s => by
    simp only [At] at g; subst g
    rcases hS2 _ s with s | s
    · have := hS _ s; omega
    · omega
  exact ⟨hc.trans' hk (fun _ _ g => g) (fun i hi g => by simp only [At] at g; omega), ⟨So, r, m, ov, hR.keep hk (fun b _ g => hno b g)⟩, fun b s => (hS2 b s).imp id (fun h => by omega)⟩
set_option maxRecDepth 100000 in
set_option maxHeartbeats 8000000 in
theorem step_good (S : Nat → Prop) (p B n g : Nat) (st : RSt) (rows : List Rw) (w : World) (h : Rpl w S p st) (hreg : RegN B n w g rows) (hi : RowsI rows) (hSn : ∀ k, S k → n ≤ k) (hent : st.ent ≤ 2199023255488) (hterm : 1 ≤ st.term ∧ st.term ≤ curR rows) :
    Calls Try.prog 51 #[.pointer (some ⟨p, 0, none⟩), .pointer (some ⟨g, 0, none⟩), .func (.func 53) #[] #[]] w (StepPost rows false st S p w) := by
  have hiS := h.lt
  have Hi := Lib.hid hi
  have hn := hreg.2.1
  have oi := alloc_obj w (.cells #[.int .i64 0, .int .i64 0, .int .i64 0, .int .i64 0, .int .i64 0, .slice none 0 0, .string ⟨#[]⟩, .int .i64 0, .int .i64 0, .int .i64 0] 106)
  have hc0 := (Chg.refl No w).alloc (.cells #[.int .i64 0, .int .i64 0, .int .i64 0, .int .i64 0, .int .i64 0, .slice none 0 0, .string ⟨#[]⟩, .int .i64 0, .int .i64 0, .int .i64 0] 106)
  have hz0 : (w.alloc (.cells #[.int .i64 0, .int .i64 0, .int .i64 0, .int .i64 0, .int .i64 0, .slice none 0 0, .string ⟨#[]⟩, .int .i64 0, .int .i64 0, .int .i64 0] 106)).heap.size = w.heap.size + 1 := by simp
  have h0 := h.keepNo hc0
  have hreg0 := hreg.keepNo hc0
  clear h hreg hi
  go_enter Try.func51, Try.ntmps51
  go_wp2_with (with_reducible first | refine stop_append ?_ | refine stop_copy ?_ | refine stop_make ?_ | refine stop_lookup ?_ | refine stop_update ?_ | refine stop_slice ?_ | refine stop_range ?_ | refine stop_next ?_ | refine stop_convert ⟨_, rfl⟩ ?_ | refine stop_convertB ⟨_, _, _, rfl⟩ ?_ | refine stop_eqSlice ⟨_, _, rfl⟩ ?_)
  generalize w.alloc (.cells #[.int .i64 0, .int .i64 0, .int .i64 0, .int .i64 0, .int .i64 0, .slice none 0 0, .string ⟨#[]⟩, .int .i64 0, .int .i64 0, .int .i64 0] 106) = w0 at *
  obtain ⟨qi, hqi0⟩ : ∃ q, q = w.heap.size := ⟨_, rfl⟩
  rw [← hqi0] at oi ⊢
  have hqi : w.heap.size ≤ qi ∧ qi < w0.heap.size := by omega
  have hw0 : w.heap.size ≤ w0.heap.size := by omega
  clear hqi0 hz0
  go_loopw [8] (fun _ wr => ∃ st1 S1, Runs rows false st st1 ∧ Rpl wr S1 p st1 ∧ (∀ b, S1 b → S b ∨ w0.heap.size ≤ b) ∧ Chg S w wr ∧ w0.heap.size ≤ wr.heap.size ∧ st1.ent ≤ 2199023255488 ∧ (1 ≤ st1.term ∧ st1.term ≤ curR rows) ∧ wr.heap[qi]? = some (.cells #[.int .i64 0, .int .i64 0, .int .i64 0, .int .i64 0, .int .i64 0, .slice none 0 0, .string ⟨#[]⟩, .int .i64 0, .int .i64 0, .int .i64 0] 106) ∧ RegN B n wr g rows) (fun _ wr => muR (curR rows) p wr)
  case atStart => exact ⟨st, S, .refl _, h0, fun b s => .inl s, hc0.of_no, Nat.le_refl _, hent, hterm, oi, hreg0⟩
  case round =>
    obtain ⟨st1, S1, hruns, ⟨So0, r, m, ov0, h⟩, hS1, hcw, hws, hent1, hterm1, oi, hreg⟩ := hrel
    have Hk := Lib.hid (known_any S1 So0 p r B g m ov0 st1 rows wr h hreg.toS Hi.out)
    have hkn := known_kn (st := st1) Hi.out h.tb
    have hmu := muR_of (cur := curR rows) h
    have Hruns := Lib.hid hruns
    have Hround := Lib.hid (show roundF rows false st1 = roundK rows false (knownF rows st1) from rfl)
    have hpqi : p ≠ qi := fun e => by subst e; rcases hS1 _ h.hp with s | s; (have := hiS _ s; omega); omega
    generalize knownF rows st1 = kn at *
    obtain ⟨l, over, code, st2⟩ := kn
    obtain ⟨ktail, kterm, kent, kcnt, kfed, kyes⟩ := hkn
    simp only at ktail kterm kent kcnt kfed kyes
    have hregS := Lib.hid (fun W (hW : Chg S1 wr W) => hreg.keep hW (fun b _ s => by rcases hS1 b s with s | s; exact hSn b s; omega))
    have hSp := h.hp
    clear hruns h hreg h0 hreg0
    rw [hmu]
    clear hmu
    go_wp2_with (with_reducible first | refine stop_append ?_ | refine stop_copy ?_ | refine stop_make ?_ | refine stop_lookup ?_ | refine stop_update ?_ | refine stop_slice ?_ | refine stop_range ?_ | refine stop_next ?_ | refine stop_convert ⟨_, rfl⟩ ?_ | refine stop_convertB ⟨_, _, _, rfl⟩ ?_ | refine stop_eqSlice ⟨_, _, rfl⟩ ?_)
    refine Hk.out.mono ?_
    rintro e w1 ⟨v', So, ov, rfl, hc1, hR1, hl⟩
    have hS2 : ∀ b, Up S1 wr w1 b → S b ∨ w0.heap.size ≤ b := fun b s => by rcases s with s | s; exact hS1 b s; exact .inr (by omega)
    simp only at hl hR1
    have hcS1 : Chg S1 wr w1 := hc1.weak (fun b _ g => by simp only [At] at g; subst g; exact hSp)
    have hcw1 : Chg S w w1 := chg_up hcw hw0 hcS1 hS1
    have Hreg1 := Lib.hid (hregS.out w1 hcS1)
    have hw1s : w0.heap.size ≤ w1.heap.size := by have := hc1.size; omega
    generalize Up S1 wr w1 = S2 at *
    have oi1 := hc1.obj oi (fun g => hpqi g.symm)
    obtain ⟨A1, c1, rfl⟩ := hl.slice
    obtain ⟨term, ent, cnt, fed, oo⟩ := st2
    simp only at kterm kent kcnt kfed kyes
    subst kterm
    subst kent
    clear kcnt kfed
    dsimp only
    by_cases hcode : code = 0
    · obtain ⟨o, ho⟩ := kyes hcode
      subst hcode
      subst ho
      obtain ⟨po, rfl, hors, sh, hI⟩ : ∃ po, ov = .pointer (some ⟨po, 0, none⟩) ∧ Ors w1 So po o ∧ ∃ sh, Cb.Inv sh o := by obtain ⟨po, h1, h2, h3⟩ := hR1.ord; exact ⟨po, h1, h2, h3⟩
      clear hc1 hcS1 hregS Hk oi kyes
      have pc0 := cell_obj (i := 0) hR1.obj rfl
      have pc1 := cell_obj (i := 1) hR1.obj rfl
      have HS4 := Lib.hid (show ∀ W, Chg No w1 W → (fun W => W.cell? ⟨p, 0, none⟩ = some (.int .i64 st1.term) ∧ W.cell? ⟨p, 1, none⟩ = some (.int .i64 st1.ent) ∧ Chg No w1 W) W from fun W hW => ⟨cell_obj (i := 0) (hR1.keepNo hW).obj rfl, cell_obj (i := 1) (hR1.keepNo hW).obj rfl, hW⟩)
      have HC := Lib.hid (fun W (hW : Chg No w1 W) => rcurrent_any B g rows W (Hreg1.out.keepNo hW).toS Hi.out)
      rw [show firstR rows + ((rows.length - 1 : Nat) : Int) = curR rows from rfl] at HC
      by_cases hle : l.length ≤ st1.ent
      · rcases over with _ | _
        · have Hrun := Lib.hid (show roundF rows false st1 = (⟨st1.term, st1.ent, cnt, fed, some o⟩, some (itm0, 161)) by rw [Hround.out]; unfold roundK; simp only; rw [if_neg (by simp), if_pos hle, if_neg (by simp)])
          go_wp2_with (with_reducible first | refine stop_append ?_ | refine stop_copy ?_ | refine stop_make ?_ | refine stop_lookup ?_ | refine stop_update ?_ | refine stop_slice ?_ | refine stop_range ?_ | refine stop_next ?_ | refine stop_convert ⟨_, rfl⟩ ?_ | refine stop_convertB ⟨_, _, _, rfl⟩ ?_ | refine stop_eqSlice ⟨_, _, rfl⟩ ?_)
          refine pl_start (fun W => W.cell? ⟨p, 0, none⟩ = some (.int .i64 st1.term) ∧ W.cell? ⟨p, 1, none⟩ = some (.int .i64 st1.ent) ∧ Chg No w1 W) (by kernel_rfl) (by kernel_rfl) (HS4.out _ (Chg.refl No w1).drew) ?_
          iterate 8 ((refine pl_nx [] (v := ?_) rfl (by kernel_rfl) rfl ?_ ?_; rotate_left; focus (intro W hW; (try dsimp only at hW); go_split_ands; go_simp; (try (simp (disch := omega) only [IntWalk.i64_in]; (try go_simp))); (try (split; (next => omega); (try go_simp))); try rfl; done)); try simp only [Act.put, List.setIfInBounds_toArray, List.set_cons_zero, List.set_cons_succ, Nat.reduceAdd])
          ((first | (refine pl_nn [] rfl (by kernel_rfl) rfl ?_) | (refine pl_nx [] (v := ?_) rfl (by kernel_rfl) rfl ?_ ?_; rotate_left; focus (intro W hW; (try dsimp only at hW); go_split_ands; go_simp; (try (simp (disch := omega) only [IntWalk.i64_in]; (try go_simp))); (try (split; (next => omega); (try go_simp))); try rfl; done))); try simp only [Act.put, List.setIfInBounds_toArray, List.set_cons_zero, List.set_cons_succ, Nat.reduceAdd])
          iterate 2 ((refine pl_nx [] (v := ?_) rfl (by kernel_rfl) rfl ?_ ?_; rotate_left; focus (intro W hW; (try dsimp only at hW); go_split_ands; go_simp; (try (simp (disch := omega) only [IntWalk.i64_in]; (try go_simp))); (try (split; (next => omega); (try go_simp))); try rfl; done)); try simp only [Act.put, List.setIfInBounds_toArray, List.set_cons_zero, List.set_cons_succ, Nat.reduceAdd])
          iterate 5 ((first | (refine pl_nn [] rfl (by kernel_rfl) rfl ?_) | (refine pl_nx [] (v := ?_) rfl (by kernel_rfl) rfl ?_ ?_; rotate_left; focus (intro W hW; (try dsimp only at hW); go_split_ands; go_simp; (try (simp (disch := omega) only [IntWalk.i64_in]; (try go_simp))); (try (split; (next => omega); (try go_simp))); try rfl; done))); try simp only [Act.put, List.setIfInBounds_toArray, List.set_cons_zero, List.set_cons_succ, Nat.reduceAdd])
          refine pl_nox 16 (by kernel_rfl) rfl rfl ?_
          try simp only [Act.put, List.setIfInBounds_toArray, List.set_cons_zero, List.set_cons_succ, Nat.reduceAdd]
          ((first | (refine pl_nn [] rfl (by kernel_rfl) rfl ?_) | (refine pl_nx [] (v := ?_) rfl (by kernel_rfl) rfl ?_ ?_; rotate_left; focus (intro W hW; (try dsimp only at hW); go_split_ands; go_simp; (try (simp (disch := omega) only [IntWalk.i64_in]; (try go_simp))); (try (split; (next => omega); (try go_simp))); try rfl; done))); try simp only [Act.put, List.setIfInBounds_toArray, List.set_cons_zero, List.set_cons_succ, Nat.reduceAdd])
          iterate 2 ((refine pl_nx [] (v := ?_) rfl (by kernel_rfl) rfl ?_ ?_; rotate_left; focus (intro W hW; (try dsimp only at hW); go_split_ands; go_simp; (try (simp (disch := omega) only [IntWalk.i64_in]; (try go_simp))); (try (split; (next => omega); (try go_simp))); try rfl; done)); try simp only [Act.put, List.setIfInBounds_toArray, List.set_cons_zero, List.set_cons_succ, Nat.reduceAdd])
          refine pl_done (by kernel_rfl)  ?_
          rintro w2 ⟨pa0, pa1, hc2⟩
          have oi2 := hc2.obj oi1 (not_no _)
          have iz0 := cell_obj (i := 0) oi2 rfl
          have iz1 := cell_obj (i := 1) oi2 rfl
          have iz2 := cell_obj (i := 2) oi2 rfl
          have iz3 := cell_obj (i := 3) oi2 rfl
          have iz4 := cell_obj (i := 4) oi2 rfl
          have iz5 := cell_obj (i := 5) oi2 rfl
          have iz6 := cell_obj (i := 6) oi2 rfl
          have iz7 := cell_obj (i := 7) oi2 rfl
          have iz8 := cell_obj (i := 8) oi2 rfl
          have iz9 := cell_obj (i := 9) oi2 rfl
          have if0 := free_obj (i := 0) oi2
          have if1 := free_obj (i := 1) oi2
          have if2 := free_obj (i := 2) oi2
          have if3 := free_obj (i := 3) oi2
          have if4 := free_obj (i := 4) oi2
          have if5 := free_obj (i := 5) oi2
          have if6 := free_obj (i := 6) oi2
          have if7 := free_obj (i := 7) oi2
          have if8 := free_obj (i := 8) oi2
          have if9 := free_obj (i := 9) oi2
          go_wp2_with (with_reducible first | refine stop_append ?_ | refine stop_copy ?_ | refine stop_make ?_ | refine stop_lookup ?_ | refine stop_update ?_ | refine stop_slice ?_ | refine stop_range ?_ | refine stop_next ?_ | refine stop_convert ⟨_, rfl⟩ ?_ | refine stop_convertB ⟨_, _, _, rfl⟩ ?_ | refine stop_eqSlice ⟨_, _, rfl⟩ ?_)
          refine bodyPost_ret (v := .tuple #[.agg #[.int .i64 0, .int .i64 0, .int .i64 0, .int .i64 0, .int .i64 0, .slice none 0 0, .string ⟨#[]⟩, .int .i64 0, .int .i64 0, .int .i64 0], .int .i64 161]) (by simp [results, Try.results51, go_sem, *]) rfl ?_
          obtain ⟨-, kF⟩ := set10 oi2 (.int .i64 0) (.int .i64 0) (.int .i64 0) (.int .i64 0) (.int .i64 0) (.slice none 0 0) (.string ⟨#[]⟩) (.int .i64 0) (.int .i64 0) (.int .i64 0)
          obtain ⟨e1, e2, e3⟩ := step_end (hcw1.trans hc2.of_no) (hR1.keepNo hc2) hS2 hiS hw0 kF hqi
          exact ⟨_, (itm0, 161), .slice none 0 0, _, ⟨_, Hruns.out, Hrun.out⟩, rfl, e1, e2, e3, Sl.nil _ _ _ _, hent1, hterm1⟩
        · by_cases hcu : st1.term < curR rows
          · have Hrun := Lib.hid (show roundF rows false st1 = (⟨st1.term + 1, 0, 0, fed, none⟩, none) by rw [Hround.out]; unfold roundK; simp only; rw [if_neg (by simp), if_pos hle, if_pos ⟨trivial, hcu⟩])
            go_wp2_with (with_reducible first | refine stop_append ?_ | refine stop_copy ?_ | refine stop_make ?_ | refine stop_lookup ?_ | refine stop_update ?_ | refine stop_slice ?_ | refine stop_range ?_ | refine stop_next ?_ | refine stop_convert ⟨_, rfl⟩ ?_ | refine stop_convertB ⟨_, _, _, rfl⟩ ?_ | refine stop_eqSlice ⟨_, _, rfl⟩ ?_)
            refine pl_start (fun W => W.cell? ⟨p, 0, none⟩ = some (.int .i64 st1.term) ∧ W.cell? ⟨p, 1, none⟩ = some (.int .i64 st1.ent) ∧ Chg No w1 W) (by kernel_rfl) (by kernel_rfl) (HS4.out _ (Chg.refl No w1).drew) ?_
            iterate 8 ((refine pl_nx [] (v := ?_) rfl (by kernel_rfl) rfl ?_ ?_; rotate_left; focus (intro W hW; (try dsimp only at hW); go_split_ands; go_simp; (try (simp (disch := omega) only [IntWalk.i64_in]; (try go_simp))); (try (split; (next => omega); (try go_simp))); try rfl; done)); try simp only [Act.put, List.setIfInBounds_toArray, List.set_cons_zero, List.set_cons_succ, Nat.reduceAdd])
            ((first | (refine pl_nn [] rfl (by kernel_rfl) rfl ?_) | (refine pl_nx [] (v := ?_) rfl (by kernel_rfl) rfl ?_ ?_; rotate_left; focus (intro W hW; (try dsimp only at hW); go_split_ands; go_simp; (try (simp (disch := omega) only [IntWalk.i64_in]; (try go_simp))); (try (split; (next => omega); (try go_simp))); try rfl; done))); try simp only [Act.put, List.setIfInBounds_toArray, List.set_cons_zero, List.set_cons_succ, Nat.reduceAdd])
            iterate 2 ((refine pl_nx [] (v := ?_) rfl (by kernel_rfl) rfl ?_ ?_; rotate_left; focus (intro W hW; (try dsimp only at hW); go_split_ands; go_simp; (try (simp (disch := omega) only [IntWalk.i64_in]; (try go_simp))); (try (split; (next => omega); (try go_simp))); try rfl; done)); try simp only [Act.put, List.setIfInBounds_toArray, List.set_cons_zero, List.set_cons_succ, Nat.reduceAdd])
            iterate 5 ((first | (refine pl_nn [] rfl (by kernel_rfl) rfl ?_) | (refine pl_nx [] (v := ?_) rfl (by kernel_rfl) rfl ?_ ?_; rotate_left; focus (intro W hW; (try dsimp only at hW); go_split_ands; go_simp; (try (simp (disch := omega) only [IntWalk.i64_in]; (try go_simp))); (try (split; (next => omega); (try go_simp))); try rfl; done))); try simp only [Act.put, List.setIfInBounds_toArray, List.set_cons_zero, List.set_cons_succ, Nat.reduceAdd])
            refine pl_callx 16 (.int .i64 (curR rows)) rfl (by kernel_rfl) rfl (by exact (fun W hW => (HC.out W hW.2.2).mono fun x w' h => ⟨h.1, HS4.out _ (hW.2.2.trans h.2)⟩)) (fun W => by kernel_rfl) ?_
            try simp only [Act.put, List.setIfInBounds_toArray, List.set_cons_zero, List.set_cons_succ, Nat.reduceAdd]
            ((first | (refine pl_nn [] rfl (by kernel_rfl) rfl ?_) | (refine pl_nx [] (v := ?_) rfl (by kernel_rfl) rfl ?_ ?_; rotate_left; focus (intro W hW; (try dsimp only at hW); go_split_ands; go_simp; (try (simp (disch := omega) only [IntWalk.i64_in]; (try go_simp))); (try (split; (next => omega); (try go_simp))); try rfl; done))); try simp only [Act.put, List.setIfInBounds_toArray, List.set_cons_zero, List.set_cons_succ, Nat.reduceAdd])
            iterate 2 ((refine pl_nx [] (v := ?_) rfl (by kernel_rfl) rfl ?_ ?_; rotate_left; focus (intro W hW; (try dsimp only at hW); go_split_ands; go_simp; (try (simp (disch := omega) only [IntWalk.i64_in]; (try go_simp))); (try (split; (next => omega); (try go_simp))); try rfl; done)); try simp only [Act.put, List.setIfInBounds_toArray, List.set_cons_zero, List.set_cons_succ, Nat.reduceAdd])
            refine pl_done (by kernel_rfl)  ?_
            rintro w2 ⟨pa0, pa1, hc2⟩
            have hcr := first_bound Hi.out
            go_wp2_with (with_reducible first | refine stop_append ?_ | refine stop_copy ?_ | refine stop_make ?_ | refine stop_lookup ?_ | refine stop_update ?_ | refine stop_slice ?_ | refine stop_range ?_ | refine stop_next ?_ | refine stop_convert ⟨_, rfl⟩ ?_ | refine stop_convertB ⟨_, _, _, rfl⟩ ?_ | refine stop_eqSlice ⟨_, _, rfl⟩ ?_)
            refine (forward_any S2 So p r m (.pointer (some ⟨po, 0, none⟩)) ⟨st1.term, st1.ent, cnt, fed, some o⟩ w2 (hR1.keepNo hc2) (by have : curR rows ≤ 64 := hcr.2; simp only; omega)).mono ?_
            rintro e w3 ⟨rfl, hc3, hz3, hR3⟩
            go_wp2_with (with_reducible first | refine stop_append ?_ | refine stop_copy ?_ | refine stop_make ?_ | refine stop_lookup ?_ | refine stop_update ?_ | refine stop_slice ?_ | refine stop_range ?_ | refine stop_next ?_ | refine stop_convert ⟨_, rfl⟩ ?_ | refine stop_convertB ⟨_, _, _, rfl⟩ ?_ | refine stop_eqSlice ⟨_, _, rfl⟩ ?_)
            have hc3S : Chg S2 w2 w3 := hc3.weak (fun b _ g => by simp only [At] at g; subst g; exact hR1.hp)
            have hpq : p ≠ qi := hpqi
            go_roundw
            case rel => exact ⟨_, S2, Hruns.out.step Hrun.out, ⟨_, r, m, _, hR3⟩, hS2, chg_up (hcw1.trans hc2.of_no) hw0 hc3S hS2, by have := hc2.size; omega, by simp only; omega, ⟨by simp only; omega, by simp only; omega⟩, hc3.obj (hc2.obj oi1 (not_no _)) (fun g => hpq g.symm), (Hreg1.out.keepNo hc2).keep hc3S (fun b _ s => by rcases hS2 b s with s | s; exact hSn b s; omega)⟩
            case measure => rw [muR_of hR3]; simp only; omega
          · have Hrun := Lib.hid (show roundF rows false st1 = (⟨st1.term, st1.ent, cnt, fed, some o⟩, some (itm0, 161)) by rw [Hround.out]; unfold roundK; simp only; rw [if_neg (by simp), if_pos hle, if_neg (fun h => hcu h.2)])
            go_wp2_with (with_reducible first | refine stop_append ?_ | refine stop_copy ?_ | refine stop_make ?_ | refine stop_lookup ?_ | refine stop_update ?_ | refine stop_slice ?_ | refine stop_range ?_ | refine stop_next ?_ | refine stop_convert ⟨_, rfl⟩ ?_ | refine stop_convertB ⟨_, _, _, rfl⟩ ?_ | refine stop_eqSlice ⟨_, _, rfl⟩ ?_)
            refine pl_start (fun W => W.cell? ⟨p, 0, none⟩ = some (.int .i64 st1.term) ∧ W.cell? ⟨p, 1, none⟩ = some (.int .i64 st1.ent) ∧ Chg No w1 W) (by kernel_rfl) (by kernel_rfl) (HS4.out _ (Chg.refl No w1).drew) ?_
            iterate 8 ((refine pl_nx [] (v := ?_) rfl (by kernel_rfl) rfl ?_ ?_; rotate_left; focus (intro W hW; (try dsimp only at hW); go_split_ands; go_simp; (try (simp (disch := omega) only [IntWalk.i64_in]; (try go_simp))); (try (split; (next => omega); (try go_simp))); try rfl; done)); try simp only [Act.put, List.setIfInBounds_toArray, List.set_cons_zero, List.set_cons_succ, Nat.reduceAdd])
            ((first | (refine pl_nn [] rfl (by kernel_rfl) rfl ?_) | (refine pl_nx [] (v := ?_) rfl (by kernel_rfl) rfl ?_ ?_; rotate_left; focus (intro W hW; (try dsimp only at hW); go_split_ands; go_simp; (try (simp (disch := omega) only [IntWalk.i64_in]; (try go_simp))); (try (split; (next => omega); (try go_simp))); try rfl; done))); try simp only [Act.put, List.setIfInBounds_toArray, List.set_cons_zero, List.set_cons_succ, Nat.reduceAdd])
            iterate 2 ((refine pl_nx [] (v := ?_) rfl (by kernel_rfl) rfl ?_ ?_; rotate_left; focus (intro W hW; (try dsimp only at hW); go_split_ands; go_simp; (try (simp (disch := omega) only [IntWalk.i64_in]; (try go_simp))); (try (split; (next => omega); (try go_simp))); try rfl; done)); try simp only [Act.put, List.setIfInBounds_toArray, List.set_cons_zero, List.set_cons_succ, Nat.reduceAdd])
            iterate 5 ((first | (refine pl_nn [] rfl (by kernel_rfl) rfl ?_) | (refine pl_nx [] (v := ?_) rfl (by kernel_rfl) rfl ?_ ?_; rotate_left; focus (intro W hW; (try dsimp only at hW); go_split_ands; go_simp; (try (simp (disch := omega) only [IntWalk.i64_in]; (try go_simp))); (try (split; (next => omega); (try go_simp))); try rfl; done))); try simp only [Act.put, List.setIfInBounds_toArray, List.set_cons_zero, List.set_cons_succ, Nat.reduceAdd])
            refine pl_callx 16 (.int .i64 (curR rows)) rfl (by kernel_rfl) rfl (by exact (fun W hW => (HC.out W hW.2.2).mono fun x w' h => ⟨h.1, HS4.out _ (hW.2.2.trans h.2)⟩)) (fun W => by kernel_rfl) ?_
            try simp only [Act.put, List.setIfInBounds_toArray, List.set_cons_zero, List.set_cons_succ, Nat.reduceAdd]
            ((first | (refine pl_nn [] rfl (by kernel_rfl) rfl ?_) | (refine pl_nx [] (v := ?_) rfl (by kernel_rfl) rfl ?_ ?_; rotate_left; focus (intro W hW; (try dsimp only at hW); go_split_ands; go_simp; (try (simp (disch := omega) only [IntWalk.i64_in]; (try go_simp))); (try (split; (next => omega); (try go_simp))); try rfl; done))); try simp only [Act.put, List.setIfInBounds_toArray, List.set_cons_zero, List.set_cons_succ, Nat.reduceAdd])
            iterate 2 ((refine pl_nx [] (v := ?_) rfl (by kernel_rfl) rfl ?_ ?_; rotate_left; focus (intro W hW; (try dsimp only at hW); go_split_ands; go_simp; (try (simp (disch := omega) only [IntWalk.i64_in]; (try go_simp))); (try (split; (next => omega); (try go_simp))); try rfl; done)); try simp only [Act.put, List.setIfInBounds_toArray, List.set_cons_zero, List.set_cons_succ, Nat.reduceAdd])
            refine pl_done (by kernel_rfl)  ?_
            rintro w2 ⟨pa0, pa1, hc2⟩
            have oi2 := hc2.obj oi1 (not_no _)
            have iz0 := cell_obj (i := 0) oi2 rfl
            have iz1 := cell_obj (i := 1) oi2 rfl
            have iz2 := cell_obj (i := 2) oi2 rfl
            have iz3 := cell_obj (i := 3) oi2 rfl
            have iz4 := cell_obj (i := 4) oi2 rfl
            have iz5 := cell_obj (i := 5) oi2 rfl
            have iz6 := cell_obj (i := 6) oi2 rfl
            have iz7 := cell_obj (i := 7) oi2 rfl
            have iz8 := cell_obj (i := 8) oi2 rfl
            have iz9 := cell_obj (i := 9) oi2 rfl
            have if0 := free_obj (i := 0) oi2
            have if1 := free_obj (i := 1) oi2
            have if2 := free_obj (i := 2) oi2
            have if3 := free_obj (i := 3) oi2
            have if4 := free_obj (i := 4) oi2
            have if5 := free_obj (i := 5) oi2
            have if6 := free_obj (i := 6) oi2
            have if7 := free_obj (i := 7) oi2
            have if8 := free_obj (i := 8) oi2
            have if9 := free_obj (i := 9) oi2
            go_wp2_with (with_reducible first | refine stop_append ?_ | refine stop_copy ?_ | refine stop_make ?_ | refine stop_lookup ?_ | refine stop_update ?_ | refine stop_slice ?_ | refine stop_range ?_ | refine stop_next ?_ | refine stop_convert ⟨_, rfl⟩ ?_ | refine stop_convertB ⟨_, _, _, rfl⟩ ?_ | refine stop_eqSlice ⟨_, _, rfl⟩ ?_)
            refine bodyPost_ret (v := .tuple #[.agg #[.int .i64 0, .int .i64 0, .int .i64 0, .int .i64 0, .int .i64 0, .slice none 0 0, .string ⟨#[]⟩, .int .i64 0, .int .i64 0, .int .i64 0], .int .i64 161]) (by simp [results, Try.results51, go_sem, *]) rfl ?_
            obtain ⟨-, kF⟩ := set10 oi2 (.int .i64 0) (.int .i64 0) (.int .i64 0) (.int .i64 0) (.int .i64 0) (.slice none 0 0) (.string ⟨#[]⟩) (.int .i64 0) (.int .i64 0) (.int .i64 0)
            obtain ⟨e1, e2, e3⟩ := step_end (hcw1.trans hc2.of_no) (hR1.keepNo hc2) hS2 hiS hw0 kF hqi
            exact ⟨_, (itm0, 161), .slice none 0 0, _, ⟨_, Hruns.out, Hrun.out⟩, rfl, e1, e2, e3, Sl.nil _ _ _ _, hent1, hterm1⟩
      · have hlt : st1.ent < l.length := by omega
        have Hrun := Lib.hid (show roundF rows false st1 = roundG false ⟨st1.term, st1.ent, cnt, fed, some o⟩ o l[st1.ent] by rw [Hround.out]; unfold roundK; simp only; rw [if_neg (by simp), if_neg hle]; simp only [Option.getD_some, entF, List.getD_eq_getElem?_getD, List.getElem?_eq_getElem hlt])
        go_wp2_with (with_reducible first | refine stop_append ?_ | refine stop_copy ?_ | refine stop_make ?_ | refine stop_lookup ?_ | refine stop_update ?_ | refine stop_slice ?_ | refine stop_range ?_ | refine stop_next ?_ | refine stop_convert ⟨_, rfl⟩ ?_ | refine stop_convertB ⟨_, _, _, rfl⟩ ?_ | refine stop_eqSlice ⟨_, _, rfl⟩ ?_)
        refine pl_start (fun W => W.cell? ⟨p, 0, none⟩ = some (.int .i64 st1.term) ∧ W.cell? ⟨p, 1, none⟩ = some (.int .i64 st1.ent) ∧ Chg No w1 W) (by kernel_rfl) (by kernel_rfl) (HS4.out _ (Chg.refl No w1).drew) ?_
        iterate 8 ((refine pl_nx [] (v := ?_) rfl (by kernel_rfl) rfl ?_ ?_; rotate_left; focus (intro W hW; (try dsimp only at hW); go_split_ands; go_simp; (try (simp (disch := omega) only [IntWalk.i64_in]; (try go_simp))); (try (split; (next => omega); (try go_simp))); try rfl; done)); try simp only [Act.put, List.setIfInBounds_toArray, List.set_cons_zero, List.set_cons_succ, Nat.reduceAdd])
        ((first | (refine pl_nn [] rfl (by kernel_rfl) rfl ?_) | (refine pl_nx [] (v := ?_) rfl (by kernel_rfl) rfl ?_ ?_; rotate_left; focus (intro W hW; (try dsimp only at hW); go_split_ands; go_simp; (try (simp (disch := omega) only [IntWalk.i64_in]; (try go_simp))); (try (split; (next => omega); (try go_simp))); try rfl; done))); try simp only [Act.put, List.setIfInBounds_toArray, List.set_cons_zero, List.set_cons_succ, Nat.reduceAdd])
        iterate 2 ((refine pl_nx [] (v := ?_) rfl (by kernel_rfl) rfl ?_ ?_; rotate_left; focus (intro W hW; (try dsimp only at hW); go_split_ands; go_simp; (try (simp (disch := omega) only [IntWalk.i64_in]; (try go_simp))); (try (split; (next => omega); (try go_simp))); try rfl; done)); try simp only [Act.put, List.setIfInBounds_toArray, List.set_cons_zero, List.set_cons_succ, Nat.reduceAdd])
        iterate 5 ((first | (refine pl_nn [] rfl (by kernel_rfl) rfl ?_) | (refine pl_nx [] (v := ?_) rfl (by kernel_rfl) rfl ?_ ?_; rotate_left; focus (intro W hW; (try dsimp only at hW); go_split_ands; go_simp; (try (simp (disch := omega) only [IntWalk.i64_in]; (try go_simp))); (try (split; (next => omega); (try go_simp))); try rfl; done))); try simp only [Act.put, List.setIfInBounds_toArray, List.set_cons_zero, List.set_cons_succ, Nat.reduceAdd])
        refine pl_nox 16 (by kernel_rfl) rfl rfl ?_
        try simp only [Act.put, List.setIfInBounds_toArray, List.set_cons_zero, List.set_cons_succ, Nat.reduceAdd]
        ((first | (refine pl_nn [] rfl (by kernel_rfl) rfl ?_) | (refine pl_nx [] (v := ?_) rfl (by kernel_rfl) rfl ?_ ?_; rotate_left; focus (intro W hW; (try dsimp only at hW); go_split_ands; go_simp; (try (simp (disch := omega) only [IntWalk.i64_in]; (try go_simp))); (try (split; (next => omega); (try go_simp))); try rfl; done))); try simp only [Act.put, List.setIfInBounds_toArray, List.set_cons_zero, List.set_cons_succ, Nat.reduceAdd])
        iterate 2 ((refine pl_nx [] (v := ?_) rfl (by kernel_rfl) rfl ?_ ?_; rotate_left; focus (intro W hW; (try dsimp only at hW); go_split_ands; go_simp; (try (simp (disch := omega) only [IntWalk.i64_in]; (try go_simp))); (try (split; (next => omega); (try go_simp))); try rfl; done)); try simp only [Act.put, List.setIfInBounds_toArray, List.set_cons_zero, List.set_cons_succ, Nat.reduceAdd])
        refine pl_done (by kernel_rfl)  ?_
        rintro w2 ⟨pa0, pa1, hc2⟩
        obtain ⟨b4, o4, v4, rfl, hnb, hbl, sv4, d0, d1, d2, d3, d4, d5⟩ := ent_get (hl.keepNo hc2) st1.ent hlt
        have hte := ktail.2 _ (List.getElem_mem hlt)
        have hEl := Lib.hid (show st1.ent < 2199023255488 by have := ktail.1; omega)
        generalize l[st1.ent] = E at *
        obtain ⟨en, ek, ecut, etag, eut, eup⟩ := E
        simp only at sv4 d0 d1 d3 d4 d5 hte
        obtain ⟨A5, c5, rfl⟩ := sv4.slice
        have o11 := alloc_obj w2 (.cells #[.int .i64 en, .int .i64 ek, .slice A5 ecut.length c5, .int .i64 etag, .int .i64 eut, .int .i64 eup] 58)
        have hc3 := (Chg.refl No w2).alloc (.cells #[.int .i64 en, .int .i64 ek, .slice A5 ecut.length c5, .int .i64 etag, .int .i64 eut, .int .i64 eup] 58)
        have hz3 : (w2.alloc (.cells #[.int .i64 en, .int .i64 ek, .slice A5 ecut.length c5, .int .i64 etag, .int .i64 eut, .int .i64 eup] 58)).heap.size = w2.heap.size + 1 := by simp
        go_wp2_with (with_reducible first | refine stop_append ?_ | refine stop_copy ?_ | refine stop_make ?_ | refine stop_lookup ?_ | refine stop_update ?_ | refine stop_slice ?_ | refine stop_range ?_ | refine stop_next ?_ | refine stop_convert ⟨_, rfl⟩ ?_ | refine stop_convertB ⟨_, _, _, rfl⟩ ?_ | refine stop_eqSlice ⟨_, _, rfl⟩ ?_)
        generalize w2.alloc (.cells #[.int .i64 en, .int .i64 ek, .slice A5 ecut.length c5, .int .i64 etag, .int .i64 eut, .int .i64 eup] 58) = w3 at *
        obtain ⟨b11, hb11⟩ : ∃ b, b = w2.heap.size := ⟨_, rfl⟩
        rw [← hb11] at o11 ⊢
        have hb11g : w0.heap.size ≤ b11 ∧ b11 < w3.heap.size ∧ w1.heap.size ≤ b11 := by have := hc2.size; omega
        clear hb11 hz3 d0 d1 d2 d3 d4 d5
        have hc13 := hc2.trans hc3
        have hR3 := hR1.keepNo hc13
        have HS9 := Lib.hid (show ∀ W, Chg No w3 W → (fun W => W.cell? ⟨p, 4, none⟩ = some (.pointer (some ⟨po, 0, none⟩)) ∧ W.cell? ⟨p, 1, none⟩ = some (.int .i64 st1.ent) ∧ Chg No w3 W) W from fun W hW => ⟨cell_obj (i := 4) (hR3.keepNo hW).obj rfl, cell_obj (i := 1) (hR3.keepNo hW).obj rfl, hW⟩)
        have HE := Lib.hid (fun W (hW : Chg No w3 W) => oentries_any (hors.keepNo (hc13.trans hW)).ord hI)
        refine pl_start (fun W => W.cell? ⟨p, 4, none⟩ = some (.pointer (some ⟨po, 0, none⟩)) ∧ W.cell? ⟨p, 1, none⟩ = some (.int .i64 st1.ent) ∧ Chg No w3 W) (by kernel_rfl) (by kernel_rfl) (HS9.out _ (Chg.refl No w3).drew) ?_
        iterate 8 ((refine pl_nx [] (v := ?_) rfl (by kernel_rfl) rfl ?_ ?_; rotate_left; focus (intro W hW; (try dsimp only at hW); go_split_ands; go_simp; (try (simp (disch := omega) only [IntWalk.i64_in]; (try go_simp))); (try (split; (next => omega); (try go_simp))); try rfl; done)); try simp only [Act.put, List.setIfInBounds_toArray, List.set_cons_zero, List.set_cons_succ, Nat.reduceAdd])
        refine pl_callx 4 (.int .i64 ((o.after.length : Int) - 1)) rfl (by kernel_rfl) rfl (by exact (fun W hW => (HE.out W hW.2.2).mono fun x w' h => ⟨h.1, by rw [← h.2]; exact hW⟩)) (fun W => by kernel_rfl) ?_
        try simp only [Act.put, List.setIfInBounds_toArray, List.set_cons_zero, List.set_cons_succ, Nat.reduceAdd]
        ((refine pl_nx [] (v := ?_) rfl (by kernel_rfl) rfl ?_ ?_; rotate_left; focus (intro W hW; (try dsimp only at hW); go_split_ands; go_simp; (try (simp (disch := omega) only [IntWalk.i64_in]; (try go_simp))); (try (split; (next => omega); (try go_simp))); try rfl; done)); try simp only [Act.put, List.setIfInBounds_toArray, List.set_cons_zero, List.set_cons_succ, Nat.reduceAdd])
        refine pl_done (by kernel_rfl)  ?_
        rintro w4 ⟨-, -, hc4⟩
        have hc14 := hc13.trans hc4
        have hR4 := hR1.keepNo hc14
        have o11d := hc4.obj o11 (not_no _)
        have oi4 := hc14.obj oi1 (not_no _)
        have sv5 := (sv4.keepNo hc3).keepNo hc4
        have hcw4 := hcw1.trans hc14.of_no
        have hreg4 := Hreg1.out.keepNo hc14
        have hors4 := hors.keepNo hc14
        have hw4s : w1.heap.size ≤ w4.heap.size := hc14.size
        have hw34 : w3.heap.size ≤ w4.heap.size := hc4.size
        clear hc2 hc3 hc13 hR3 o11 HS4 HC HS9 HE hc4 pa0 pa1 pc0 pc1
        by_cases hk : ek = 2
        · subst hk
          by_cases hE : (o.after.length : Int) - 1 = st1.ent
          focus
            have g1 : ((o.after.length : Int) - 1 == (st1.ent : Int)) = true := by simpa using hE
            have Ho1 := Lib.hid (show (addF o (en, 2, ecut, etag, eut, eup)).1 = ordF o st1.ent (en, 2, ecut, etag, eut, eup) by unfold ordF; rw [if_pos hE])
            clear hE
            have Hadd := Lib.hid (fun W (hW : Chg No w4 W) => oadds_any (hors4.keepNo hW) hI (en, 2, ecut, etag, eut, eup) (.slice A5 ecut.length c5) ((sv5.weak (fun b _ s => .inr s)).keepNo hW) (by simp only; omega))
            have HI1 := Lib.hid (inv_add hI (en, 2, ecut, etag, eut, eup))
            unfold entV at Hadd
            simp only at Hadd
            generalize addF o (en, 2, ecut, etag, eut, eup) = ad at *
            obtain ⟨o1, ac⟩ := ad
            simp only at Ho1 HI1
            have HS10 := Lib.hid (show ∀ W, Chg No w4 W → (fun W => W.cell? ⟨p, 4, none⟩ = some (.pointer (some ⟨po, 0, none⟩)) ∧ W.cell? ⟨b11, 0, none⟩ = some (.int .i64 en) ∧ W.cell? ⟨b11, 1, none⟩ = some (.int .i64 2) ∧ W.cell? ⟨b11, 2, none⟩ = some (.slice A5 ecut.length c5) ∧ W.cell? ⟨b11, 3, none⟩ = some (.int .i64 etag) ∧ W.cell? ⟨b11, 4, none⟩ = some (.int .i64 eut) ∧ W.cell? ⟨b11, 5, none⟩ = some (.int .i64 eup)) W from fun W hW => ⟨cell_obj (i := 4) (hR4.keepNo hW).obj rfl, cell_obj (i := 0) (hW.obj o11d (not_no _)) rfl, cell_obj (i := 1) (hW.obj o11d (not_no _)) rfl, cell_obj (i := 2) (hW.obj o11d (not_no _)) rfl, cell_obj (i := 3) (hW.obj o11d (not_no _)) rfl, cell_obj (i := 4) (hW.obj o11d (not_no _)) rfl, cell_obj (i := 5) (hW.obj o11d (not_no _)) rfl⟩)
            go_wp2_with (with_reducible first | refine stop_append ?_ | refine stop_copy ?_ | refine stop_make ?_ | refine stop_lookup ?_ | refine stop_update ?_ | refine stop_slice ?_ | refine stop_range ?_ | refine stop_next ?_ | refine stop_convert ⟨_, rfl⟩ ?_ | refine stop_convertB ⟨_, _, _, rfl⟩ ?_ | refine stop_eqSlice ⟨_, _, rfl⟩ ?_)
            refine rt_start (fun W => W.cell? ⟨p, 4, none⟩ = some (.pointer (some ⟨po, 0, none⟩)) ∧ W.cell? ⟨b11, 0, none⟩ = some (.int .i64 en) ∧ W.cell? ⟨b11, 1, none⟩ = some (.int .i64 2) ∧ W.cell? ⟨b11, 2, none⟩ = some (.slice A5 ecut.length c5) ∧ W.cell? ⟨b11, 3, none⟩ = some (.int .i64 etag) ∧ W.cell? ⟨b11, 4, none⟩ = some (.int .i64 eut) ∧ W.cell? ⟨b11, 5, none⟩ = some (.int .i64 eup)) (by kernel_rfl) ?_
            iterate 5 ((refine rt_nx [] (v := ?_) rfl (by kernel_rfl) (fun _ _ _ h => h) rfl ?_ ?_; rotate_left; focus (intro W hW; (try dsimp only at hW); go_split_ands; go_simp; (try (simp (disch := omega) only [IntWalk.i64_in]; (try go_simp))); (try (split; (next => omega); (try go_simp))); try rfl; done)); try simp only [Act.put, List.setIfInBounds_toArray, List.set_cons_zero, List.set_cons_succ, Nat.reduceAdd])
            refine rt_kx (fun W => W.cell? ⟨p, 4, none⟩ = some (.pointer (some ⟨po, 0, none⟩)) ∧ W.cell? ⟨b11, 0, none⟩ = some (.int .i64 en) ∧ W.cell? ⟨b11, 1, none⟩ = some (.int .i64 2) ∧ W.cell? ⟨b11, 2, none⟩ = some (.slice A5 ecut.length c5) ∧ W.cell? ⟨b11, 3, none⟩ = some (.int .i64 etag) ∧ W.cell? ⟨b11, 4, none⟩ = some (.int .i64 eut) ∧ W.cell? ⟨b11, 5, none⟩ = some (.int .i64 eup)) 5 (by kernel_rfl) (HS10.out _ (Chg.refl No w4).drew) (fun _ h => h) rfl (by rfl) (fun K hK => ?_)
            go_simp
            refine (Hadd.out _ (Chg.refl No w4).drew).mono ?_
            rintro x w5 ⟨rfl, hcA, horsA⟩
            dsimp only at hcA horsA
            have hcA : Chg So w4 w5 := ((Chg.refl No w4).drew.of_no).trans hcA
            have horsA : Ors w5 (Up So w4 w5) po o1 := horsA
            have hR5 := hR4.added hcA horsA HI1.out
            have hS5 : ∀ b, Up S2 w4 w5 b → S b ∨ w0.heap.size ≤ b := fun b s => by rcases s with s | s; exact hS2 b s; exact .inr (by omega)
            have hw5s : w0.heap.size ≤ w5.heap.size := by have := hcA.size; omega
            have hcA2 : Chg S2 w4 w5 := hcA.weak (fun b _ s => (hR4.hSo b s).1)
            have hcw5 := chg_up hcw4 hw0 hcA2 hS2
            have hreg5 := hreg4.keep hcA2 (fun b _ s => by rcases hS2 b s with s | s; exact hSn b s; omega)
            have o15 := hcA.obj o11d (fun s => by have := hR1.hS b11 (hR1.hSo b11 s).1; omega)
            have oi5 := hcA.obj oi4 (fun s => by rcases hS2 qi (hR1.hSo qi s).1 with s | s; (have := hiS _ s; omega); omega)
            obtain ⟨S5, hS5e⟩ : ∃ X : Nat → Prop, X = Up S2 w4 w5 := ⟨_, rfl⟩
            obtain ⟨So5, hSo5e⟩ : ∃ X : Nat → Prop, X = Up So w4 w5 := ⟨_, rfl⟩
            rw [← hS5e, ← hSo5e] at hR5
            rw [← hS5e] at hS5
            clear hS5e hSo5e
            refine hK _ _ ?_
            clear hK K
            try simp only [Act.put, List.setIfInBounds_toArray, List.set_cons_zero, List.set_cons_succ]
            refine rt_done (by kernel_rfl)  ?_
            clear Hadd HS10 hcA horsA hcA2
            have y1 := cell_obj (i := 1) o15 rfl
            have y3 := cell_obj (i := 3) o15 rfl
            have y4 := cell_obj (i := 4) o15 rfl
            have y5 := cell_obj (i := 5) o15 rfl
            have pc1 := cell_obj (i := 1) hR5.obj rfl
            have pf1 := free_obj (i := 1) hR5.obj
            have hqb : p ≠ b11 := fun e => by subst e; rcases hS5 _ hR5.hp with s | s; (have := hiS _ s; omega); have := hR1.hS p hR1.hp; omega
            have hqp2 : qi ≠ p := fun e => hpqi e.symm
            have hqb2 : b11 ≠ p := fun e => hqb e.symm
            have iz0 := cell_obj (i := 0) oi5 rfl
            have iz1 := cell_obj (i := 1) oi5 rfl
            have iz2 := cell_obj (i := 2) oi5 rfl
            have iz3 := cell_obj (i := 3) oi5 rfl
            have iz4 := cell_obj (i := 4) oi5 rfl
            have iz5 := cell_obj (i := 5) oi5 rfl
            have iz6 := cell_obj (i := 6) oi5 rfl
            have iz7 := cell_obj (i := 7) oi5 rfl
            have iz8 := cell_obj (i := 8) oi5 rfl
            have iz9 := cell_obj (i := 9) oi5 rfl
            have if0 := free_obj (i := 0) oi5
            have if1 := free_obj (i := 1) oi5
            have if2 := free_obj (i := 2) oi5
            have if3 := free_obj (i := 3) oi5
            have if4 := free_obj (i := 4) oi5
            have if5 := free_obj (i := 5) oi5
            have if6 := free_obj (i := 6) oi5
            have if7 := free_obj (i := 7) oi5
            have if8 := free_obj (i := 8) oi5
            have if9 := free_obj (i := 9) oi5
            go_wp2_with (with_reducible first | refine stop_append ?_ | refine stop_copy ?_ | refine stop_make ?_ | refine stop_lookup ?_ | refine stop_update ?_ | refine stop_slice ?_ | refine stop_range ?_ | refine stop_next ?_ | refine stop_convert ⟨_, rfl⟩ ?_ | refine stop_convertB ⟨_, _, _, rfl⟩ ?_ | refine stop_eqSlice ⟨_, _, rfl⟩ ?_)
          rotate_left
          focus
            have g1 : ((o.after.length : Int) - 1 == (st1.ent : Int)) = false := by simpa using hE
            have Ho1 := Lib.hid (show o = ordF o st1.ent (en, 2, ecut, etag, eut, eup) by unfold ordF; rw [if_neg hE])
            clear hE
            have HI1 := Lib.hid hI
            obtain ⟨w5, rfl⟩ : ∃ W : World, W = w4 := ⟨_, rfl⟩
            obtain ⟨o1, rfl⟩ : ∃ X : OSt, X = o := ⟨_, rfl⟩
            obtain ⟨S5, rfl⟩ : ∃ X : Nat → Prop, X = S2 := ⟨_, rfl⟩
            obtain ⟨So5, rfl⟩ : ∃ X : Nat → Prop, X = So := ⟨_, rfl⟩
            have hw5s : w0.heap.size ≤ w5.heap.size := by omega
            have hR5 := hR4
            have hS5 := hS2
            have hcw5 := hcw4
            have hreg5 := hreg4
            have o15 := o11d
            have oi5 := oi4
            have y1 := cell_obj (i := 1) o15 rfl
            have y3 := cell_obj (i := 3) o15 rfl
            have y4 := cell_obj (i := 4) o15 rfl
            have y5 := cell_obj (i := 5) o15 rfl
            have pc1 := cell_obj (i := 1) hR5.obj rfl
            have pf1 := free_obj (i := 1) hR5.obj
            have hqb : p ≠ b11 := fun e => by subst e; rcases hS5 _ hR5.hp with s | s; (have := hiS _ s; omega); have := hR1.hS p hR1.hp; omega
            have hqp2 : qi ≠ p := fun e => hpqi e.symm
            have hqb2 : b11 ≠ p := fun e => hqb e.symm
            have iz0 := cell_obj (i := 0) oi5 rfl
            have iz1 := cell_obj (i := 1) oi5 rfl
            have iz2 := cell_obj (i := 2) oi5 rfl
            have iz3 := cell_obj (i := 3) oi5 rfl
            have iz4 := cell_obj (i := 4) oi5 rfl
            have iz5 := cell_obj (i := 5) oi5 rfl
            have iz6 := cell_obj (i := 6) oi5 rfl
            have iz7 := cell_obj (i := 7) oi5 rfl
            have iz8 := cell_obj (i := 8) oi5 rfl
            have iz9 := cell_obj (i := 9) oi5 rfl
            have if0 := free_obj (i := 0) oi5
            have if1 := free_obj (i := 1) oi5
            have if2 := free_obj (i := 2) oi5
            have if3 := free_obj (i := 3) oi5
            have if4 := free_obj (i := 4) oi5
            have if5 := free_obj (i := 5) oi5
            have if6 := free_obj (i := 6) oi5
            have if7 := free_obj (i := 7) oi5
            have if8 := free_obj (i := 8) oi5
            have if9 := free_obj (i := 9) oi5
            clear oi4 o11d hnb sv4 sv5 hl oi hors hors4 hR4 hR1 oi1 hc14 hcw1 hcw4 hreg4 hw34 hw4s ktail hte
            go_wp2_with (with_reducible first | refine stop_append ?_ | refine stop_copy ?_ | refine stop_make ?_ | refine stop_lookup ?_ | refine stop_update ?_ | refine stop_slice ?_ | refine stop_range ?_ | refine stop_next ?_ | refine stop_convert ⟨_, rfl⟩ ?_ | refine stop_convertB ⟨_, _, _, rfl⟩ ?_ | refine stop_eqSlice ⟨_, _, rfl⟩ ?_)
          all_goals
            refine bodyPost_ret (v := .tuple #[.agg #[.int .i64 2, .int .i64 0, .int .i64 0, .int .i64 0, .int .i64 0, .slice none 0 0, .string ⟨#[]⟩, .int .i64 etag, .int .i64 eut, .int .i64 eup], .int .i64 0]) (by simp [results, Try.results51, go_sem, *]) rfl ?_
            have eent : ((st1.ent + 1 : Nat) : Int) = (st1.ent : Int) + 1 := by omega
            have hR6 := hR5.setEnt (st1.ent + 1)
            have k6 := chg_set (w := w5) (b := p) (i := 1) (.int .i64 ((st1.ent : Int) + 1))
            rw [eent] at hR6
            obtain ⟨-, kF⟩ := set10 (k6.obj oi5 hqp2) (.int .i64 2) (.int .i64 0) (.int .i64 0) (.int .i64 0) (.int .i64 0) (.slice none 0 0) (.string ⟨#[]⟩) (.int .i64 etag) (.int .i64 eut) (.int .i64 eup)
            obtain ⟨e1, e2, e3⟩ := step_end (chg_up hcw5 hw0 (k6.weak (G := S5) (fun b _ g => by simp only [At] at g; subst g; exact hR5.hp)) hS5) hR6 hS5 hiS hw0 kF hqi
            have Hfin := Lib.hid (show roundF rows false st1 = (⟨st1.term, st1.ent + 1, cnt, fed, some o1⟩, some (trimItm (en, 2, ecut, etag, eut, eup), 0)) by rw [Hrun.out]; unfold roundG; simp only [if_true]; rw [← Ho1.out])
            exact ⟨_, (trimItm (en, 2, ecut, etag, eut, eup), 0), .slice none 0 0, _, ⟨_, Hruns.out, Hfin.out⟩, rfl, e1, e2, e3, Sl.nil _ _ _ _, by have := hEl.out; simp only; omega, hterm1⟩
        · have hk2 : (ek == 2) = false := by simpa using hk
          by_cases hE : (o.after.length : Int) - 1 = st1.ent
          focus
            have g1 : ((o.after.length : Int) - 1 == (st1.ent : Int)) = true := by simpa using hE
            have Ho1 := Lib.hid (show (addF o (en, ek, ecut, etag, eut, eup)).1 = ordF o st1.ent (en, ek, ecut, etag, eut, eup) by unfold ordF; rw [if_pos hE])
            clear hE
            have Hadd := Lib.hid (fun W (hW : Chg No w4 W) => oadds_any (hors4.keepNo hW) hI (en, ek, ecut, etag, eut, eup) (.slice A5 ecut.length c5) ((sv5.weak (fun b _ s => .inr s)).keepNo hW) (by simp only; omega))
            have HI1 := Lib.hid (inv_add hI (en, ek, ecut, etag, eut, eup))
            unfold entV at Hadd
            simp only at Hadd
            generalize addF o (en, ek, ecut, etag, eut, eup) = ad at *
            obtain ⟨o1, ac⟩ := ad
            simp only at Ho1 HI1
            have HS10 := Lib.hid (show ∀ W, Chg No w4 W → (fun W => W.cell? ⟨p, 4, none⟩ = some (.pointer (some ⟨po, 0, none⟩)) ∧ W.cell? ⟨b11, 0, none⟩ = some (.int .i64 en) ∧ W.cell? ⟨b11, 1, none⟩ = some (.int .i64 ek) ∧ W.cell? ⟨b11, 2, none⟩ = some (.slice A5 ecut.length c5) ∧ W.cell? ⟨b11, 3, none⟩ = some (.int .i64 etag) ∧ W.cell? ⟨b11, 4, none⟩ = some (.int .i64 eut) ∧ W.cell? ⟨b11, 5, none⟩ = some (.int .i64 eup)) W from fun W hW => ⟨cell_obj (i := 4) (hR4.keepNo hW).obj rfl, cell_obj (i := 0) (hW.obj o11d (not_no _)) rfl, cell_obj (i := 1) (hW.obj o11d (not_no _)) rfl, cell_obj (i := 2) (hW.obj o11d (not_no _)) rfl, cell_obj (i := 3) (hW.obj o11d (not_no _)) rfl, cell_obj (i := 4) (hW.obj o11d (not_no _)) rfl, cell_obj (i := 5) (hW.obj o11d (not_no _)) rfl⟩)
            go_wp2_with (with_reducible first | refine stop_append ?_ | refine stop_copy ?_ | refine stop_make ?_ | refine stop_lookup ?_ | refine stop_update ?_ | refine stop_slice ?_ | refine stop_range ?_ | refine stop_next ?_ | refine stop_convert ⟨_, rfl⟩ ?_ | refine stop_convertB ⟨_, _, _, rfl⟩ ?_ | refine stop_eqSlice ⟨_, _, rfl⟩ ?_)
            refine rt_start (fun W => W.cell? ⟨p, 4, none⟩ = some (.pointer (some ⟨po, 0, none⟩)) ∧ W.cell? ⟨b11, 0, none⟩ = some (.int .i64 en) ∧ W.cell? ⟨b11, 1, none⟩ = some (.int .i64 ek) ∧ W.cell? ⟨b11, 2, none⟩ = some (.slice A5 ecut.length c5) ∧ W.cell? ⟨b11, 3, none⟩ = some (.int .i64 etag) ∧ W.cell? ⟨b11, 4, none⟩ = some (.int .i64 eut) ∧ W.cell? ⟨b11, 5, none⟩ = some (.int .i64 eup)) (by kernel_rfl) ?_
            iterate 5 ((refine rt_nx [] (v := ?_) rfl (by kernel_rfl) (fun _ _ _ h => h) rfl ?_ ?_; rotate_left; focus (intro W hW; (try dsimp only at hW); go_split_ands; go_simp; (try (simp (disch := omega) only [IntWalk.i64_in]; (try go_simp))); (try (split; (next => omega); (try go_simp))); try rfl; done)); try simp only [Act.put, List.setIfInBounds_toArray, List.set_cons_zero, List.set_cons_succ, Nat.reduceAdd])
            refine rt_kx (fun W => W.cell? ⟨p, 4, none⟩ = some (.pointer (some ⟨po, 0, none⟩)) ∧ W.cell? ⟨b11, 0, none⟩ = some (.int .i64 en) ∧ W.cell? ⟨b11, 1, none⟩ = some (.int .i64 ek) ∧ W.cell? ⟨b11, 2, none⟩ = some (.slice A5 ecut.length c5) ∧ W.cell? ⟨b11, 3, none⟩ = some (.int .i64 etag) ∧ W.cell? ⟨b11, 4, none⟩ = some (.int .i64 eut) ∧ W.cell? ⟨b11, 5, none⟩ = some (.int .i64 eup)) 5 (by kernel_rfl) (HS10.out _ (Chg.refl No w4).drew) (fun _ h => h) rfl (by rfl) (fun K hK => ?_)
            go_simp
            refine (Hadd.out _ (Chg.refl No w4).drew).mono ?_
            rintro x w5 ⟨rfl, hcA, horsA⟩
            dsimp only at hcA horsA
            have hcA : Chg So w4 w5 := ((Chg.refl No w4).drew.of_no).trans hcA
            have horsA : Ors w5 (Up So w4 w5) po o1 := horsA
            have hR5 := hR4.added hcA horsA HI1.out
            have hS5 : ∀ b, Up S2 w4 w5 b → S b ∨ w0.heap.size ≤ b := fun b s => by rcases s with s | s; exact hS2 b s; exact .inr (by omega)
            have hw5s : w0.heap.size ≤ w5.heap.size := by have := hcA.size; omega
            have hcA2 : Chg S2 w4 w5 := hcA.weak (fun b _ s => (hR4.hSo b s).1)
            have hcw5 := chg_up hcw4 hw0 hcA2 hS2
            have hreg5 := hreg4.keep hcA2 (fun b _ s => by rcases hS2 b s with s | s; exact hSn b s; omega)
            have o15 := hcA.obj o11d (fun s => by have := hR1.hS b11 (hR1.hSo b11 s).1; omega)
            have oi5 := hcA.obj oi4 (fun s => by rcases hS2 qi (hR1.hSo qi s).1 with s | s; (have := hiS _ s; omega); omega)
            obtain ⟨S5, hS5e⟩ : ∃ X : Nat → Prop, X = Up S2 w4 w5 := ⟨_, rfl⟩
            obtain ⟨So5, hSo5e⟩ : ∃ X : Nat → Prop, X = Up So w4 w5 := ⟨_, rfl⟩
            rw [← hS5e, ← hSo5e] at hR5
            rw [← hS5e] at hS5
            clear hS5e hSo5e
            refine hK _ _ ?_
            clear hK K
            try simp only [Act.put, List.setIfInBounds_toArray, List.set_cons_zero, List.set_cons_succ]
            refine rt_done (by kernel_rfl)  ?_
            clear Hadd HS10 hcA horsA hcA2
            have y1 := cell_obj (i := 1) o15 rfl
            go_wp2_with (with_reducible first | refine stop_append ?_ | refine stop_copy ?_ | refine stop_make ?_ | refine stop_lookup ?_ | refine stop_update ?_ | refine stop_slice ?_ | refine stop_range ?_ | refine stop_next ?_ | refine stop_convert ⟨_, rfl⟩ ?_ | refine stop_convertB ⟨_, _, _, rfl⟩ ?_ | refine stop_eqSlice ⟨_, _, rfl⟩ ?_)
          rotate_left
          focus
            have g1 : ((o.after.length : Int) - 1 == (st1.ent : Int)) = false := by simpa using hE
            have Ho1 := Lib.hid (show o = ordF o st1.ent (en, ek, ecut, etag, eut, eup) by unfold ordF; rw [if_neg hE])
            clear hE
            have HI1 := Lib.hid hI
            obtain ⟨w5, rfl⟩ : ∃ W : World, W = w4 := ⟨_, rfl⟩
            obtain ⟨o1, rfl⟩ : ∃ X : OSt, X = o := ⟨_, rfl⟩
            obtain ⟨S5, rfl⟩ : ∃ X : Nat → Prop, X = S2 := ⟨_, rfl⟩
            obtain ⟨So5, rfl⟩ : ∃ X : Nat → Prop, X = So := ⟨_, rfl⟩
            have hw5s : w0.heap.size ≤ w5.heap.size := by omega
            have hR5 := hR4
            have hS5 := hS2
            have hcw5 := hcw4
            have hreg5 := hreg4
            have o15 := o11d
            have oi5 := oi4
            have y1 := cell_obj (i := 1) o15 rfl
            clear oi4 o11d hnb sv4 sv5 hl oi hors hors4 hR4 hR1 oi1 hc14 hcw1 hcw4 hreg4 hw34 hw4s ktail hte
            go_wp2_with (with_reducible first | refine stop_append ?_ | refine stop_copy ?_ | refine stop_make ?_ | refine stop_lookup ?_ | refine stop_update ?_ | refine stop_slice ?_ | refine stop_range ?_ | refine stop_next ?_ | refine stop_convert ⟨_, rfl⟩ ?_ | refine stop_convertB ⟨_, _, _, rfl⟩ ?_ | refine stop_eqSlice ⟨_, _, rfl⟩ ?_)
          all_goals
            clear y1
            have Hek := Lib.hid hk
            clear hk hk2
            have HS14 := Lib.hid (show ∀ W, Chg No w5 W → (fun W => W.cell? ⟨p, 2, none⟩ = some (.int .i64 cnt) ∧ W.cell? ⟨p, 4, none⟩ = some (.pointer (some ⟨po, 0, none⟩)) ∧ Chg No w5 W) W from fun W hW => ⟨cell_obj (i := 2) (hR5.keepNo hW).obj rfl, cell_obj (i := 4) (hR5.keepNo hW).obj rfl, hW⟩)
            have HL := Lib.hid (fun W (hW : Chg No w5 W) => show Calls Try.prog 20 #[.pointer (some ⟨po, 0, none⟩)] W fun e w' => e = .returned (.int .i64 o1.len) ∧ Chg No W w' by obtain ⟨po2, h1, h2, _⟩ := (hR5.keepNo hW).ord; cases h1; exact olen_any h2.ord HI1.out)
            refine pl_start (fun W => W.cell? ⟨p, 2, none⟩ = some (.int .i64 cnt) ∧ W.cell? ⟨p, 4, none⟩ = some (.pointer (some ⟨po, 0, none⟩)) ∧ Chg No w5 W) (by kernel_rfl) (by kernel_rfl) (HS14.out _ (Chg.refl No w5).drew) ?_
            iterate 8 ((refine pl_nx [] (v := ?_) rfl (by kernel_rfl) rfl ?_ ?_; rotate_left; focus (intro W hW; (try dsimp only at hW); go_split_ands; go_simp; (try (simp (disch := omega) only [IntWalk.i64_in]; (try go_simp))); (try (split; (next => omega); (try go_simp))); try rfl; done)); try simp only [Act.put, List.setIfInBounds_toArray, List.set_cons_zero, List.set_cons_succ, Nat.reduceAdd])
            refine pl_callx 8 (.int .i64 o1.len) rfl (by kernel_rfl) rfl (by exact (fun W hW => (HL.out W hW.2.2).mono fun x w' h => ⟨h.1, HS14.out _ (hW.2.2.trans h.2)⟩)) (fun W => by kernel_rfl) ?_
            try simp only [Act.put, List.setIfInBounds_toArray, List.set_cons_zero, List.set_cons_succ, Nat.reduceAdd]
            ((refine pl_nx [] (v := ?_) rfl (by kernel_rfl) rfl ?_ ?_; rotate_left; focus (intro W hW; (try dsimp only at hW); go_split_ands; go_simp; (try (simp (disch := omega) only [IntWalk.i64_in]; (try go_simp))); (try (split; (next => omega); (try go_simp))); try rfl; done)); try simp only [Act.put, List.setIfInBounds_toArray, List.set_cons_zero, List.set_cons_succ, Nat.reduceAdd])
            refine pl_done (by kernel_rfl)  ?_
            rintro w6 ⟨-, -, hc6⟩
            have hR6 := hR5.keepNo hc6
            have hcw6 : Chg S w w6 := hcw5.trans hc6.of_no
            have hreg6 := hreg5.keepNo hc6
            have oi6 := hc6.obj oi5 (not_no _)
            have hw56 := hc6.size
            have hw05 := hcw5.size
            clear HS14 HL hR5 hcw5 oi5 hc6
            by_cases hcl : (cnt : Int) < o1.len
            · obtain ⟨pl, hpl, -, hp1, hp2⟩ := at_some HI1.out hcl
              have Hf := Lib.hid (show roundF rows false st1 = (if false then (⟨st1.term, st1.ent, cnt, fed, some o1⟩, some (itm0, 91)) else (toldSt ⟨st1.term, st1.ent, cnt, fed, some o1⟩ o1, some (recItm st1.term cnt pl, 0))) by rw [Hrun.out]; unfold roundG; simp only; rw [if_neg Hek.out, ← Ho1.out, if_pos hcl, hpl]; rfl)
              have Ht := Lib.hid (tell_good S5 So5 p r m (.pointer (some ⟨po, 0, none⟩)) ⟨st1.term, st1.ent, cnt, fed, some o1⟩ o1 sh pl w6 hR6 rfl HI1.out hcl (by simp only; omega) hpl hp1 hp2)
              obtain ⟨p1, p2⟩ := pl
              clear hpl
              go_wp2_with (with_reducible first | refine stop_append ?_ | refine stop_copy ?_ | refine stop_make ?_ | refine stop_lookup ?_ | refine stop_update ?_ | refine stop_slice ?_ | refine stop_range ?_ | refine stop_next ?_ | refine stop_convert ⟨_, rfl⟩ ?_ | refine stop_convertB ⟨_, _, _, rfl⟩ ?_ | refine stop_eqSlice ⟨_, _, rfl⟩ ?_)
              refine Ht.out.mono ?_
              rintro e w7 ⟨vt, rfl, hc7, hR7, hs7⟩
              have hpq2 : qi ≠ p := fun e => hpqi e.symm
              have hqi6 : qi < w6.heap.size := lt_of_heap oi6
              have oi7 := hc7.obj oi6 hpq2
              have iz0 := cell_obj (i := 0) oi7 rfl
              have if0 := free_obj (i := 0) oi7
              have iz1 := cell_obj (i := 1) oi7 rfl
              have if1 := free_obj (i := 1) oi7
              have iz2 := cell_obj (i := 2) oi7 rfl
              have if2 := free_obj (i := 2) oi7
              have iz3 := cell_obj (i := 3) oi7 rfl
              have if3 := free_obj (i := 3) oi7
              have iz4 := cell_obj (i := 4) oi7 rfl
              have if4 := free_obj (i := 4) oi7
              have iz5 := cell_obj (i := 5) oi7 rfl
              have if5 := free_obj (i := 5) oi7
              have iz6 := cell_obj (i := 6) oi7 rfl
              have if6 := free_obj (i := 6) oi7
              have iz7 := cell_obj (i := 7) oi7 rfl
              have if7 := free_obj (i := 7) oi7
              have iz8 := cell_obj (i := 8) oi7 rfl
              have if8 := free_obj (i := 8) oi7
              have iz9 := cell_obj (i := 9) oi7 rfl
              have if9 := free_obj (i := 9) oi7
              obtain ⟨A9, c9, h9⟩ := hs7.slice
              rw [show ([p1 + 1] : List Int).length = 1 from rfl] at h9
              subst h9
              simp only [itmV, recItm, dataF, itm0]
              go_wp2_with (with_reducible first | refine stop_append ?_ | refine stop_copy ?_ | refine stop_make ?_ | refine stop_lookup ?_ | refine stop_update ?_ | refine stop_slice ?_ | refine stop_range ?_ | refine stop_next ?_ | refine stop_convert ⟨_, rfl⟩ ?_ | refine stop_convertB ⟨_, _, _, rfl⟩ ?_ | refine stop_eqSlice ⟨_, _, rfl⟩ ?_)
              refine bodyPost_ret (v := .tuple #[.agg #[.int .i64 1, .int .i64 st1.term, .int .i64 cnt, .int .i64 st1.term, .int .i64 (p2 % 1000000), .slice A9 1 c9, .string ⟨#[120]⟩, .int .i64 0, .int .i64 0, .int .i64 0], .int .i64 0]) (by simp [results, Try.results51, go_sem, *]) rfl ?_
              obtain ⟨-, kF⟩ := set10 oi7 (.int .i64 1) (.int .i64 st1.term) (.int .i64 cnt) (.int .i64 st1.term) (.int .i64 (p2 % 1000000)) (.slice A9 1 c9) (.string ⟨#[120]⟩) (.int .i64 0) (.int .i64 0) (.int .i64 0)
              obtain ⟨e1, e2, e3⟩ := step_end (chg_up hcw6 hw0 (hc7.weak (G := S5) (fun b _ g => by simp only [At] at g; subst g; exact hR6.hp)) hS5) hR7 hS5 hiS hw0 kF hqi
              refine ⟨_, (recItm st1.term cnt (p1, p2), 0), .slice A9 1 c9, _, ⟨_, Hruns.out, Hf.out⟩, rfl, e1, e2, e3, (hs7.keep (kF.weak (fun b _ g => by simp only [At] at g; simp only [Lt]; omega))).weak (fun b _ g => by simp only [Lt]; rcases g with g | g; omega; exact hR6.hS b g), ?_, hterm1⟩
              have hEl' := hEl.out
              unfold toldSt
              simp only
              split <;> omega
            · have Hfin := Lib.hid (show roundF rows false st1 = (⟨st1.term, st1.ent + 1, cnt, fed, some o1⟩, none) by rw [Hrun.out]; unfold roundG; simp only; rw [if_neg Hek.out, ← Ho1.out, if_neg hcl])
              have pc1 := cell_obj (i := 1) hR6.obj rfl
              have pf1 := free_obj (i := 1) hR6.obj
              have eent : ((st1.ent + 1 : Nat) : Int) = (st1.ent : Int) + 1 := by omega
              have hR7 := hR6.setEnt (st1.ent + 1)
              have k7 := chg_set (w := w6) (b := p) (i := 1) (.int .i64 ((st1.ent : Int) + 1))
              rw [eent] at hR7
              clear eent
              have hz7 : (w6.setCell ⟨p, 1, none⟩ (.int .i64 ((st1.ent : Int) + 1))).heap.size = w6.heap.size := by simp
              have k7S : Chg S5 w6 (w6.setCell ⟨p, 1, none⟩ (.int .i64 ((st1.ent : Int) + 1))) := k7.weak (fun b _ g => by simp only [At] at g; subst g; exact hR6.hp)
              have hpq := hpqi
              have oi7 := k7.obj oi6 (fun g => hpq g.symm)
              have Hel := hEl.out
              go_wp2_with (with_reducible first | refine stop_append ?_ | refine stop_copy ?_ | refine stop_make ?_ | refine stop_lookup ?_ | refine stop_update ?_ | refine stop_slice ?_ | refine stop_range ?_ | refine stop_next ?_ | refine stop_convert ⟨_, rfl⟩ ?_ | refine stop_convertB ⟨_, _, _, rfl⟩ ?_ | refine stop_eqSlice ⟨_, _, rfl⟩ ?_)
              generalize w6.setCell ⟨p, 1, none⟩ (.int .i64 ((st1.ent : Int) + 1)) = w7 at *
              go_roundw
              case rel => exact ⟨_, S5, Hruns.out.step Hfin.out, ⟨_, r, m, _, hR7⟩, hS5, chg_up hcw6 hw0 k7S hS5, by omega, by simp only; omega, hterm1, oi7, hreg6.keep k7S (fun b _ s => by rcases hS5 b s with s | s; exact hSn b s; omega)⟩
              case measure => rw [muR_of hR7]; simp only; omega
    · have Hrun := Lib.hid (show roundF rows false st1 = (⟨st1.term, st1.ent, cnt, fed, oo⟩, some (itm0, code)) by rw [Hround.out]; unfold roundK; simp only; rw [if_pos hcode])
      have g1 : (code != 0) = true := by simpa using hcode
      have g2 : (code == 0) = false := by simpa using hcode
      have iz0 := cell_obj (i := 0) oi1 rfl
      have iz1 := cell_obj (i := 1) oi1 rfl
      have iz2 := cell_obj (i := 2) oi1 rfl
      have iz3 := cell_obj (i := 3) oi1 rfl
      have iz4 := cell_obj (i := 4) oi1 rfl
      have iz5 := cell_obj (i := 5) oi1 rfl
      have iz6 := cell_obj (i := 6) oi1 rfl
      have iz7 := cell_obj (i := 7) oi1 rfl
      have iz8 := cell_obj (i := 8) oi1 rfl
      have iz9 := cell_obj (i := 9) oi1 rfl
      have if0 := free_obj (i := 0) oi1
      have if1 := free_obj (i := 1) oi1
      have if2 := free_obj (i := 2) oi1
      have if3 := free_obj (i := 3) oi1
      have if4 := free_obj (i := 4) oi1
      have if5 := free_obj (i := 5) oi1
      have if6 := free_obj (i := 6) oi1
      have if7 := free_obj (i := 7) oi1
      have if8 := free_obj (i := 8) oi1
      have if9 := free_obj (i := 9) oi1
      go_wp2_with (with_reducible first | refine stop_append ?_ | refine stop_copy ?_ | refine stop_make ?_ | refine stop_lookup ?_ | refine stop_update ?_ | refine stop_slice ?_ | refine stop_range ?_ | refine stop_next ?_ | refine stop_convert ⟨_, rfl⟩ ?_ | refine stop_convertB ⟨_, _, _, rfl⟩ ?_ | refine stop_eqSlice ⟨_, _, rfl⟩ ?_)
      refine bodyPost_ret (v := .tuple #[.agg #[.int .i64 0, .int .i64 0, .int .i64 0, .int .i64 0, .int .i64 0, .slice none 0 0, .string ⟨#[]⟩, .int .i64 0, .int .i64 0, .int .i64 0], .int .i64 code]) (by simp [results, Try.results51, go_sem, *]) rfl ?_
      obtain ⟨-, kF⟩ := set10 oi1 (.int .i64 0) (.int .i64 0) (.int .i64 0) (.int .i64 0) (.int .i64 0) (.slice none 0 0) (.string ⟨#[]⟩) (.int .i64 0) (.int .i64 0) (.int .i64 0)
      obtain ⟨e1, e2, e3⟩ := step_end hcw1 hR1 hS2 hiS hw0 kF hqi
      exact ⟨_, (itm0, code), .slice none 0 0, _, ⟨_, Hruns.out, Hrun.out⟩, rfl, e1, e2, e3, Sl.nil _ _ _ _, hent1, hterm1⟩
set_option maxRecDepth 100000 in
set_option maxHeartbeats 8000000 in
theorem step_bad (S : Nat → Prop) (p B n g : Nat) (st : RSt) (rows : List Rw) (w : World) (h : Rpl w S p st) (hreg : RegN B n w g rows) (hi : RowsI rows) (hSn : ∀ k, S k → n ≤ k) (hent : st.ent ≤ 2199023255488) (hterm : 1 ≤ st.term ∧ st.term ≤ curR rows) :
    Calls Try.prog 51 #[.pointer (some ⟨p, 0, none⟩), .pointer (some ⟨g, 0, none⟩), .func (.func 52) #[] #[]] w (StepPost rows true st S p w) := by
  have hiS := h.lt
  have Hi := Lib.hid hi
  have hn := hreg.2.1
  have oi := alloc_obj w (.cells #[.int .i64 0, .int .i64 0, .int .i64 0, .int .i64 0, .int .i64 0, .slice none 0 0, .string ⟨#[]⟩, .int .i64 0, .int .i64 0, .int .i64 0] 106)
  have hc0 := (Chg.refl No w).alloc (.cells #[.int .i64 0, .int .i64 0, .int .i64 0, .int .i64 0, .int .i64 0, .slice none 0 0, .string ⟨#[]⟩, .int .i64 0, .int .i64 0, .int .i64 0] 106)
  have hz0 : (w.alloc (.cells #[.int .i64 0, .int .i64 0, .int .i64 0, .int .i64 0, .int .i64 0, .slice none 0 0, .string ⟨#[]⟩, .int .i64 0, .int .i64 0, .int .i64 0] 106)).heap.size = w.heap.size + 1 := by simp
  have h0 := h.keepNo hc0
  have hreg0 := hreg.keepNo hc0
  clear h hreg hi
  go_enter Try.func51, Try.ntmps51
  go_wp2_with (with_reducible first | refine stop_append ?_ | refine stop_copy ?_ | refine stop_make ?_ | refine stop_lookup ?_ | refine stop_update ?_ | refine stop_slice ?_ | refine stop_range ?_ | refine stop_next ?_ | refine stop_convert ⟨_, rfl⟩ ?_ | refine stop_convertB ⟨_, _, _, rfl⟩ ?_ | refine stop_eqSlice ⟨_, _, rfl⟩ ?_)
  generalize w.alloc (.cells #[.int .i64 0, .int .i64 0, .int .i64 0, .int .i64 0, .int .i64 0, .slice none 0 0, .string ⟨#[]⟩, .int .i64 0, .int .i64 0, .int .i64 0] 106) = w0 at *
  obtain ⟨qi, hqi0⟩ : ∃ q, q = w.heap.size := ⟨_, rfl⟩
  rw [← hqi0] at oi ⊢
  have hqi : w.heap.size ≤ qi ∧ qi < w0.heap.size := by omega
  have hw0 : w.heap.size ≤ w0.heap.size := by omega
  clear hqi0 hz0
  go_loopw [8] (fun _ wr => ∃ st1 S1, Runs rows true st st1 ∧ Rpl wr S1 p st1 ∧ (∀ b, S1 b → S b ∨ w0.heap.size ≤ b) ∧ Chg S w wr ∧ w0.heap.size ≤ wr.heap.size ∧ st1.ent ≤ 2199023255488 ∧ (1 ≤ st1.term ∧ st1.term ≤ curR rows) ∧ wr.heap[qi]? = some (.cells #[.int .i64 0, .int .i64 0, .int .i64 0, .int .i64 0, .int .i64 0, .slice none 0 0, .string ⟨#[]⟩, .int .i64 0, .int .i64 0, .int .i64 0] 106) ∧ RegN B n wr g rows) (fun _ wr => muR (curR rows) p wr)
  case atStart => exact ⟨st, S, .refl _, h0, fun b s => .inl s, hc0.of_no, Nat.le_refl _, hent, hterm, oi, hreg0⟩
  case round =>
    obtain ⟨st1, S1, hruns, ⟨So0, r, m, ov0, h⟩, hS1, hcw, hws, hent1, hterm1, oi, hreg⟩ := hrel
    have Hk := Lib.hid (known_any S1 So0 p r B g m ov0 st1 rows wr h hreg.toS Hi.out)
    have hkn := known_kn (st := st1) Hi.out h.tb
    have hmu := muR_of (cur := curR rows) h
    have Hruns := Lib.hid hruns
    have Hround := Lib.hid (show roundF rows true st1 = roundK rows true (knownF rows st1) from rfl)
    have hpqi : p ≠ qi := fun e => by subst e; rcases hS1 _ h.hp with s | s; (have := hiS _ s; omega); omega
    generalize knownF rows st1 = kn at *
    obtain ⟨l, over, code, st2⟩ := kn
    obtain ⟨ktail, kterm, kent, kcnt, kfed, kyes⟩ := hkn
    simp only at ktail kterm kent kcnt kfed kyes
    have hregS := Lib.hid (fun W (hW : Chg S1 wr W) => hreg.keep hW (fun b _ s => by rcases hS1 b s with s | s; exact hSn b s; omega))
    have hSp := h.hp
    clear hruns h hreg h0 hreg0
    rw [hmu]
    clear hmu
    go_wp2_with (with_reducible first | refine stop_append ?_ | refine stop_copy ?_ | refine stop_make ?_ | refine stop_lookup ?_ | refine stop_update ?_ | refine stop_slice ?_ | refine stop_range ?_ | refine stop_next ?_ | refine stop_convert ⟨_, rfl⟩ ?_ | refine stop_convertB ⟨_, _, _, rfl⟩ ?_ | refine stop_eqSlice ⟨_, _, rfl⟩ ?_)
    refine Hk.out.mono ?_
    rintro e w1 ⟨v', So, ov, rfl, hc1, hR1, hl⟩
    have hS2 : ∀ b, Up S1 wr w1 b → S b ∨ w0.heap.size ≤ b := fun b s => by rcases s with s | s; exact hS1 b s; exact .inr (by omega)
    simp only at hl hR1
    have hcS1 : Chg S1 wr w1 := hc1.weak (fun b _ g => by simp only [At] at g; subst g; exact hSp)
    have hcw1 : Chg S w w1 := chg_up hcw hw0 hcS1 hS1
    have Hreg1 := Lib.hid (hregS.out w1 hcS1)
    have hw1s : w0.heap.size ≤ w1.heap.size := by have := hc1.size; omega
    generalize Up S1 wr w1 = S2 at *
    have oi1 := hc1.obj oi (fun g => hpqi g.symm)
    obtain ⟨A1, c1, rfl⟩ := hl.slice
    obtain ⟨term, ent, cnt, fed, oo⟩ := st2
    simp only at kterm kent kcnt kfed kyes
    subst kterm
    subst kent
    clear kcnt kfed
    dsimp only
    by_cases hcode : code = 0
    · obtain ⟨o, ho⟩ := kyes hcode
      subst hcode
      subst ho
      obtain ⟨po, rfl, hors, sh, hI⟩ : ∃ po, ov = .pointer (some ⟨po, 0, none⟩) ∧ Ors w1 So po o ∧ ∃ sh, Cb.Inv sh o := by obtain ⟨po, h1, h2, h3⟩ := hR1.ord; exact ⟨po, h1, h2, h3⟩
      clear hc1 hcS1 hregS Hk oi kyes
      have pc0 := cell_obj (i := 0) hR1.obj rfl
      have pc1 := cell_obj (i := 1) hR1.obj rfl
      have HS4 := Lib.hid (show ∀ W, Chg No w1 W → (fun W => W.cell? ⟨p, 0, none⟩ = some (.int .i64 st1.term) ∧ W.cell? ⟨p, 1, none⟩ = some (.int .i64 st1.ent) ∧ Chg No w1 W) W from fun W hW => ⟨cell_obj (i := 0) (hR1.keepNo hW).obj rfl, cell_obj (i := 1) (hR1.keepNo hW).obj rfl, hW⟩)
      have HC := Lib.hid (fun W (hW : Chg No w1 W) => rcurrent_any B g rows W (Hreg1.out.keepNo hW).toS Hi.out)
      rw [show firstR rows + ((rows.length - 1 : Nat) : Int) = curR rows from rfl] at HC
      by_cases hle : l.length ≤ st1.ent
      · rcases over with _ | _
        · have Hrun := Lib.hid (show roundF rows true st1 = (⟨st1.term, st1.ent, cnt, fed, some o⟩, some (itm0, 161)) by rw [Hround.out]; unfold roundK; simp only; rw [if_neg (by simp), if_pos hle, if_neg (by simp)])
          go_wp2_with (with_reducible first | refine stop_append ?_ | refine stop_copy ?_ | refine stop_make ?_ | refine stop_lookup ?_ | refine stop_update ?_ | refine stop_slice ?_ | refine stop_range ?_ | refine stop_next ?_ | refine stop_convert ⟨_, rfl⟩ ?_ | refine stop_convertB ⟨_, _, _, rfl⟩ ?_ | refine stop_eqSlice ⟨_, _, rfl⟩ ?_)
          refine pl_start (fun W => W.cell? ⟨p, 0, none⟩ = some (.int .i64 st1.term) ∧ W.cell? ⟨p, 1, none⟩ = some (.int .i64 st1.ent) ∧ Chg No w1 W) (by kernel_rfl) (by kernel_rfl) (HS4.out _ (Chg.refl No w1).drew) ?_
          iterate 8 ((refine pl_nx [] (v := ?_) rfl (by kernel_rfl) rfl ?_ ?_; rotate_left; focus (intro W hW; (try dsimp only at hW); go_split_ands; go_simp; (try (simp (disch := omega) only [IntWalk.i64_in]; (try go_simp))); (try (split; (next => omega); (try go_simp))); try rfl; done)); try simp only [Act.put, List.setIfInBounds_toArray, List.set_cons_zero, List.set_cons_succ, Nat.reduceAdd])
          ((first | (refine pl_nn [] rfl (by kernel_rfl) rfl ?_) | (refine pl_nx [] (v := ?_) rfl (by kernel_rfl) rfl ?_ ?_; rotate_left; focus (intro W hW; (try dsimp only at hW); go_split_ands; go_simp; (try (simp (disch := omega) only [IntWalk.i64_in]; (try go_simp))); (try (split; (next => omega); (try go_simp))); try rfl; done))); try simp only [Act.put, List.setIfInBounds_toArray, List.set_cons_zero, List.set_cons_succ, Nat.reduceAdd])
          iterate 2 ((refine pl_nx [] (v := ?_) rfl (by kernel_rfl) rfl ?_ ?_; rotate_left; focus (intro W hW; (try dsimp only at hW); go_split_ands; go_simp; (try (simp (disch := omega) only [IntWalk.i64_in]; (try go_simp))); (try (split; (next => omega); (try go_simp))); try rfl; done)); try simp only [Act.put, List.setIfInBounds_toArray, List.set_cons_zero, List.set_cons_succ, Nat.reduceAdd])
          iterate 5 ((first | (refine pl_nn [] rfl (by kernel_rfl) rfl ?_) | (refine pl_nx [] (v := ?_) rfl (by kernel_rfl) rfl ?_ ?_; rotate_left; focus (intro W hW; (try dsimp only at hW); go_split_ands; go_simp; (try (simp (disch := omega) only [IntWalk.i64_in]; (try go_simp))); (try (split; (next => omega); (try go_simp))); try rfl; done))); try simp only [Act.put, List.setIfInBounds_toArray, List.set_cons_zero, List.set_cons_succ, Nat.reduceAdd])
          refine pl_nox 16 (by kernel_rfl) rfl rfl ?_
          try simp only [Act.put, List.setIfInBounds_toArray, List.set_cons_zero, List.set_cons_succ, Nat.reduceAdd]
          ((first | (refine pl_nn [] rfl (by kernel_rfl) rfl ?_) | (refine pl_nx [] (v := ?_) rfl (by kernel_rfl) rfl ?_ ?_; rotate_left; focus (intro W hW; (try dsimp only at hW); go_split_ands; go_simp; (try (simp (disch := omega) only [IntWalk.i64_in]; (try go_simp))); (try (split; (next => omega); (try go_simp))); try rfl; done))); try simp only [Act.put, List.setIfInBounds_toArray, List.set_cons_zero, List.set_cons_succ, Nat.reduceAdd])
          iterate 2 ((refine pl_nx [] (v := ?_) rfl (by kernel_rfl) rfl ?_ ?_; rotate_left; focus (intro W hW; (try dsimp only at hW); go_split_ands; go_simp; (try (simp (disch := omega) only [IntWalk.i64_in]; (try go_simp))); (try (split; (next => omega); (try go_simp))); try rfl; done)); try simp only [Act.put, List.setIfInBounds_toArray, List.set_cons_zero, List.set_cons_succ, Nat.reduceAdd])
          refine pl_done (by kernel_rfl)  ?_
          rintro w2 ⟨pa0, pa1, hc2⟩
          have oi2 := hc2.obj oi1 (not_no _)
          have iz0 := cell_obj (i := 0) oi2 rfl
          have iz1 := cell_obj (i := 1) oi2 rfl
          have iz2 := cell_obj (i := 2) oi2 rfl
          have iz3 := cell_obj (i := 3) oi2 rfl
          have iz4 := cell_obj (i := 4) oi2 rfl
          have iz5 := cell_obj (i := 5) oi2 rfl
          have iz6 := cell_obj (i := 6) oi2 rfl
          have iz7 := cell_obj (i := 7) oi2 rfl
          have iz8 := cell_obj (i := 8) oi2 rfl
          have iz9 := cell_obj (i := 9) oi2 rfl
          have if0 := free_obj (i := 0) oi2
          have if1 := free_obj (i := 1) oi2
          have if2 := free_obj (i := 2) oi2
          have if3 := free_obj (i := 3) oi2
          have if4 := free_obj (i := 4) oi2
          have if5 := free_obj (i := 5) oi2
          have if6 := free_obj (i := 6) oi2
          have if7 := free_obj (i := 7) oi2
          have if8 := free_obj (i := 8) oi2
          have if9 := free_obj (i := 9) oi2
          go_wp2_with (with_reducible first | refine stop_append ?_ | refine stop_copy ?_ | refine stop_make ?_ | refine stop_lookup ?_ | refine stop_update ?_ | refine stop_slice ?_ | refine stop_range ?_ | refine stop_next ?_ | refine stop_convert ⟨_, rfl⟩ ?_ | refine stop_convertB ⟨_, _, _, rfl⟩ ?_ | refine stop_eqSlice ⟨_, _, rfl⟩ ?_)
          refine bodyPost_ret (v := .tuple #[.agg #[.int .i64 0, .int .i64 0, .int .i64 0, .int .i64 0, .int .i64 0, .slice none 0 0, .string ⟨#[]⟩, .int .i64 0, .int .i64 0, .int .i64 0], .int .i64 161]) (by simp [results, Try.results51, go_sem, *]) rfl ?_
          obtain ⟨-, kF⟩ := set10 oi2 (.int .i64 0) (.int .i64 0) (.int .i64 0) (.int .i64 0) (.int .i64 0) (.slice none 0 0) (.string ⟨#[]⟩) (.int .i64 0) (.int .i64 0) (.int .i64 0)
          obtain ⟨e1, e2, e3⟩ := step_end (hcw1.trans hc2.of_no) (hR1.keepNo hc2) hS2 hiS hw0 kF hqi
          exact ⟨_, (itm0, 161), .slice none 0 0, _, ⟨_, Hruns.out, Hrun.out⟩, rfl, e1, e2, e3, Sl.nil _ _ _ _, hent1, hterm1⟩
        · by_cases hcu : st1.term < curR rows
          · have Hrun := Lib.hid (show roundF rows true st1 = (⟨st1.term + 1, 0, 0, fed, none⟩, none) by rw [Hround.out]; unfold roundK; simp only; rw [if_neg (by simp), if_pos hle, if_pos ⟨trivial, hcu⟩])
            go_wp2_with (with_reducible first | refine stop_append ?_ | refine stop_copy ?_ | refine stop_make ?_ | refine stop_lookup ?_ | refine stop_update ?_ | refine stop_slice ?_ | refine stop_range ?_ | refine stop_next ?_ | refine stop_convert ⟨_, rfl⟩ ?_ | refine stop_convertB ⟨_, _, _, rfl⟩ ?_ | refine stop_eqSlice ⟨_, _, rfl⟩ ?_)
            refine pl_start (fun W => W.cell? ⟨p, 0, none⟩ = some (.int .i64 st1.term) ∧ W.cell? ⟨p, 1, none⟩ = some (.int .i64 st1.ent) ∧ Chg No w1 W) (by kernel_rfl) (by kernel_rfl) (HS4.out _ (Chg.refl No w1).drew) ?_
            iterate 8 ((refine pl_nx [] (v := ?_) rfl (by kernel_rfl) rfl ?_ ?_; rotate_left; focus (intro W hW; (try dsimp only at hW); go_split_ands; go_simp; (try (simp (disch := omega) only [IntWalk.i64_in]; (try go_simp))); (try (split; (next => omega); (try go_simp))); try rfl; done)); try simp only [Act.put, List.setIfInBounds_toArray, List.set_cons_zero, List.set_cons_succ, Nat.reduceAdd])
            ((first | (refine pl_nn [] rfl (by kernel_rfl) rfl ?_) | (refine pl_nx [] (v := ?_) rfl (by kernel_rfl) rfl ?_ ?_; rotate_left; focus (intro W hW; (try dsimp only at hW); go_split_ands; go_simp; (try (simp (disch := omega) only [IntWalk.i64_in]; (try go_simp))); (try (split; (next => omega); (try go_simp))); try rfl; done))); try simp only [Act.put, List.setIfInBounds_toArray, List.set_cons_zero, List.set_cons_succ, Nat.reduceAdd])
            iterate 2 ((refine pl_nx [] (v := ?_) rfl (by kernel_rfl) rfl ?_ ?_; rotate_left; focus (intro W hW; (try dsimp only at hW); go_split_ands; go_simp; (try (simp (disch := omega) only [IntWalk.i64_in]; (try go_simp))); (try (split; (next => omega); (try go_simp))); try rfl; done)); try simp only [Act.put, List.setIfInBounds_toArray, List.set_cons_zero, List.set_cons_succ, Nat.reduceAdd])
            iterate 5 ((first | (refine pl_nn [] rfl (by kernel_rfl) rfl ?_) | (refine pl_nx [] (v := ?_) rfl (by kernel_rfl) rfl ?_ ?_; rotate_left; focus (intro W hW; (try dsimp only at hW); go_split_ands; go_simp; (try (simp (disch := omega) only [IntWalk.i64_in]; (try go_simp))); (try (split; (next => omega); (try go_simp))); try rfl; done))); try simp only [Act.put, List.setIfInBounds_toArray, List.set_cons_zero, List.set_cons_succ, Nat.reduceAdd])
            refine pl_callx 16 (.int .i64 (curR rows)) rfl (by kernel_rfl) rfl (by exact (fun W hW => (HC.out W hW.2.2).mono fun x w' h => ⟨h.1, HS4.out _ (hW.2.2.trans h.2)⟩)) (fun W => by kernel_rfl) ?_
            try simp only [Act.put, List.setIfInBounds_toArray, List.set_cons_zero, List.set_cons_succ, Nat.reduceAdd]
            ((first | (refine pl_nn [] rfl (by kernel_rfl) rfl ?_) | (refine pl_nx [] (v := ?_) rfl (by kernel_rfl) rfl ?_ ?_; rotate_left; focus (intro W hW; (try dsimp only at hW); go_split_ands; go_simp; (try (simp (disch := omega) only [IntWalk.i64_in]; (try go_simp))); (try (split; (next => omega); (try go_simp))); try rfl; done))); try simp only [Act.put, List.setIfInBounds_toArray, List.set_cons_zero, List.set_cons_succ, Nat.reduceAdd])
            iterate 2 ((refine pl_nx [] (v := ?_) rfl (by kernel_rfl) rfl ?_ ?_; rotate_left; focus (intro W hW; (try dsimp only at hW); go_split_ands; go_simp; (try (simp (disch := omega) only [IntWalk.i64_in]; (try go_simp))); (try (split; (next => omega); (try go_simp))); try rfl; done)); try simp only [Act.put, List.setIfInBounds_toArray, List.set_cons_zero, List.set_cons_succ, Nat.reduceAdd])
            refine pl_done (by kernel_rfl)  ?_
            rintro w2 ⟨pa0, pa1, hc2⟩
            have hcr := first_bound Hi.out
            go_wp2_with (with_reducible first | refine stop_append ?_ | refine stop_copy ?_ | refine stop_make ?_ | refine stop_lookup ?_ | refine stop_update ?_ | refine stop_slice ?_ | refine stop_range ?_ | refine stop_next ?_ | refine stop_convert ⟨_, rfl⟩ ?_ | refine stop_convertB ⟨_, _, _, rfl⟩ ?_ | refine stop_eqSlice ⟨_, _, rfl⟩ ?_)
            refine (forward_any S2 So p r m (.pointer (some ⟨po, 0, none⟩)) ⟨st1.term, st1.ent, cnt, fed, some o⟩ w2 (hR1.keepNo hc2) (by have : curR rows ≤ 64 := hcr.2; simp only; omega)).mono ?_
            rintro e w3 ⟨rfl, hc3, hz3, hR3⟩
            go_wp2_with (with_reducible first | refine stop_append ?_ | refine stop_copy ?_ | refine stop_make ?_ | refine stop_lookup ?_ | refine stop_update ?_ | refine stop_slice ?_ | refine stop_range ?_ | refine stop_next ?_ | refine stop_convert ⟨_, rfl⟩ ?_ | refine stop_convertB ⟨_, _, _, rfl⟩ ?_ | refine stop_eqSlice ⟨_, _, rfl⟩ ?_)
            have hc3S : Chg S2 w2 w3 := hc3.weak (fun b _ g => by simp only [At] at g; subst g; exact hR1.hp)
            have hpq : p ≠ qi := hpqi
            go_roundw
            case rel => exact ⟨_, S2, Hruns.out.step Hrun.out, ⟨_, r, m, _, hR3⟩, hS2, chg_up (hcw1.trans hc2.of_no) hw0 hc3S hS2, by have := hc2.size; omega, by simp only; omega, ⟨by simp only; omega, by simp only; omega⟩, hc3.obj (hc2.obj oi1 (not_no _)) (fun g => hpq g.symm), (Hreg1.out.keepNo hc2).keep hc3S (fun b _ s => by rcases hS2 b s with s | s; exact hSn b s; omega)⟩
            case measure => rw [muR_of hR3]; simp only; omega
          · have Hrun := Lib.hid (show roundF rows true st1 = (⟨st1.term, st1.ent, cnt, fed, some o⟩, some (itm0, 161)) by rw [Hround.out]; unfold roundK; simp only; rw [if_neg (by simp), if_pos hle, if_neg (fun h => hcu h.2)])
            go_wp2_with (with_reducible first | refine stop_append ?_ | refine stop_copy ?_ | refine stop_make ?_ | refine stop_lookup ?_ | refine stop_update ?_ | refine stop_slice ?_ | refine stop_range ?_ | refine stop_next ?_ | refine stop_convert ⟨_, rfl⟩ ?_ | refine stop_convertB ⟨_, _, _, rfl⟩ ?_ | refine stop_eqSlice ⟨_, _, rfl⟩ ?_)
            refine pl_start (fun W => W.cell? ⟨p, 0, none⟩ = some (.int .i64 st1.term) ∧ W.cell? ⟨p, 1, none⟩ = some (.int .i64 st1.ent) ∧ Chg No w1 W) (by kernel_rfl) (by kernel_rfl) (HS4.out _ (Chg.refl No w1).drew) ?_
            iterate 8 ((refine pl_nx [] (v := ?_) rfl (by kernel_rfl) rfl ?_ ?_; rotate_left; focus (intro W hW; (try dsimp only at hW); go_split_ands; go_simp; (try (simp (disch := omega) only [IntWalk.i64_in]; (try go_simp))); (try (split; (next => omega); (try go_simp))); try rfl; done)); try simp only [Act.put, List.setIfInBounds_toArray, List.set_cons_zero, List.set_cons_succ, Nat.reduceAdd])
            ((first | (refine pl_nn [] rfl (by kernel_rfl) rfl ?_) | (refine pl_nx [] (v := ?_) rfl (by kernel_rfl) rfl ?_ ?_; rotate_left; focus (intro W hW; (try dsimp only at hW); go_split_ands; go_simp; (try (simp (disch := omega) only [IntWalk.i64_in]; (try go_simp))); (try (split; (next => omega); (try go_simp))); try rfl; done))); try simp only [Act.put, List.setIfInBounds_toArray, List.set_cons_zero, List.set_cons_succ, Nat.reduceAdd])
            iterate 2 ((refine pl_nx [] (v := ?_) rfl (by kernel_rfl) rfl ?_ ?_; rotate_left; focus (intro W hW; (try dsimp only at hW); go_split_ands; go_simp; (try (simp (disch := omega) only [IntWalk.i64_in]; (try go_simp))); (try (split; (next => omega); (try go_simp))); try rfl; done)); try simp only [Act.put, List.setIfInBounds_toArray, List.set_cons_zero, List.set_cons_succ, Nat.reduceAdd])
            iterate 5 ((first | (refine pl_nn [] rfl (by kernel_rfl) rfl ?_) | (refine pl_nx [] (v := ?_) rfl (by kernel_rfl) rfl ?_ ?_; rotate_left; focus (intro W hW; (try dsimp only at hW); go_split_ands; go_simp; (try (simp (disch := omega) only [IntWalk.i64_in]; (try go_simp))); (try (split; (next => omega); (try go_simp))); try rfl; done))); try simp only [Act.put, List.setIfInBounds_toArray, List.set_cons_zero, List.set_cons_succ, Nat.reduceAdd])
            refine pl_callx 16 (.int .i64 (curR rows)) rfl (by kernel_rfl) rfl (by exact (fun W hW => (HC.out W hW.2.2).mono fun x w' h => ⟨h.1, HS4.out _ (hW.2.2.trans h.2)⟩)) (fun W => by kernel_rfl) ?_
            try simp only [Act.put, List.setIfInBounds_toArray, List.set_cons_zero, List.set_cons_succ, Nat.reduceAdd]
            ((first | (refine pl_nn [] rfl (by kernel_rfl) rfl ?_) | (refine pl_nx [] (v := ?_) rfl (by kernel_rfl) rfl ?_ ?_; rotate_left; focus (intro W hW; (try dsimp only at hW); go_split_ands; go_simp; (try (simp (disch := omega) only [IntWalk.i64_in]; (try go_simp))); (try (split; (next => omega); (try go_simp))); try rfl; done))); try simp only [Act.put, List.setIfInBounds_toArray, List.set_cons_zero, List.set_cons_succ, Nat.reduceAdd])
            iterate 2 ((refine pl_nx [] (v := ?_) rfl (by kernel_rfl) rfl ?_ ?_; rotate_left; focus (intro W hW; (try dsimp only at hW); go_split_ands; go_simp; (try (simp (disch := omega) only [IntWalk.i64_in]; (try go_simp))); (try (split; (next => omega); (try go_simp))); try rfl; done)); try simp only [Act.put, List.setIfInBounds_toArray, List.set_cons_zero, List.set_cons_succ, Nat.reduceAdd])
            refine pl_done (by kernel_rfl)  ?_
            rintro w2 ⟨pa0, pa1, hc2⟩
            have oi2 := hc2.obj oi1 (not_no _)
            have iz0 := cell_obj (i := 0) oi2 rfl
            have iz1 := cell_obj (i := 1) oi2 rfl
            have iz2 := cell_obj (i := 2) oi2 rfl
            have iz3 := cell_obj (i := 3) oi2 rfl
            have iz4 := cell_obj (i := 4) oi2 rfl
            have iz5 := cell_obj (i := 5) oi2 rfl
            have iz6 := cell_obj (i := 6) oi2 rfl
            have iz7 := cell_obj (i := 7) oi2 rfl
            have iz8 := cell_obj (i := 8) oi2 rfl
            have iz9 := cell_obj (i := 9) oi2 rfl
            have if0 := free_obj (i := 0) oi2
            have if1 := free_obj (i := 1) oi2
            have if2 := free_obj (i := 2) oi2
            have if3 := free_obj (i := 3) oi2
            have if4 := free_obj (i := 4) oi2
            have if5 := free_obj (i := 5) oi2
            have if6 := free_obj (i := 6) oi2
            have if7 := free_obj (i := 7) oi2
            have if8 := free_obj (i := 8) oi2
            have if9 := free_obj (i := 9) oi2
            go_wp2_with (with_reducible first | refine stop_append ?_ | refine stop_copy ?_ | refine stop_make ?_ | refine stop_lookup ?_ | refine stop_update ?_ | refine stop_slice ?_ | refine stop_range ?_ | refine stop_next ?_ | refine stop_convert ⟨_, rfl⟩ ?_ | refine stop_convertB ⟨_, _, _, rfl⟩ ?_ | refine stop_eqSlice ⟨_, _, rfl⟩ ?_)
            refine bodyPost_ret (v := .tuple #[.agg #[.int .i64 0, .int .i64 0, .int .i64 0, .int .i64 0, .int .i64 0, .slice none 0 0, .string ⟨#[]⟩, .int .i64 0, .int .i64 0, .int .i64 0], .int .i64 161]) (by simp [results, Try.results51, go_sem, *]) rfl ?_
            obtain ⟨-, kF⟩ := set10 oi2 (.int .i64 0) (.int .i64 0) (.int .i64 0) (.int .i64 0) (.int .i64 0) (.slice none 0 0) (.string ⟨#[]⟩) (.int .i64 0) (.int .i64 0) (.int .i64 0)
            obtain ⟨e1, e2, e3⟩ := step_end (hcw1.trans hc2.of_no) (hR1.keepNo hc2) hS2 hiS hw0 kF hqi
            exact ⟨_, (itm0, 161), .slice none 0 0, _, ⟨_, Hruns.out, Hrun.out⟩, rfl, e1, e2, e3, Sl.nil _ _ _ _, hent1, hterm1⟩
      · have hlt : st1.ent < l.length := by omega
        have Hrun := Lib.hid (show roundF rows true st1 = roundG true ⟨st1.term, st1.ent, cnt, fed, some o⟩ o l[st1.ent] by rw [Hround.out]; unfold roundK; simp only; rw [if_neg (by simp), if_neg hle]; simp only [Option.getD_some, entF, List.getD_eq_getElem?_getD, List.getElem?_eq_getElem hlt])
        go_wp2_with (with_reducible first | refine stop_append ?_ | refine stop_copy ?_ | refine stop_make ?_ | refine stop_lookup ?_ | refine stop_update ?_ | refine stop_slice ?_ | refine stop_range ?_ | refine stop_next ?_ | refine stop_convert ⟨_, rfl⟩ ?_ | refine stop_convertB ⟨_, _, _, rfl⟩ ?_ | refine stop_eqSlice ⟨_, _, rfl⟩ ?_)
        refine pl_start (fun W => W.cell? ⟨p, 0, none⟩ = some (.int .i64 st1.term) ∧ W.cell? ⟨p, 1, none⟩ = some (.int .i64 st1.ent) ∧ Chg No w1 W) (by kernel_rfl) (by kernel_rfl) (HS4.out _ (Chg.refl No w1).drew) ?_
        iterate 8 ((refine pl_nx [] (v := ?_) rfl (by kernel_rfl) rfl ?_ ?_; rotate_left; focus (intro W hW; (try dsimp only at hW); go_split_ands; go_simp; (try (simp (disch := omega) only [IntWalk.i64_in]; (try go_simp))); (try (split; (next => omega); (try go_simp))); try rfl; done)); try simp only [Act.put, List.setIfInBounds_toArray, List.set_cons_zero, List.set_cons_succ, Nat.reduceAdd])
        ((first | (refine pl_nn [] rfl (by kernel_rfl) rfl ?_) | (refine pl_nx [] (v := ?_) rfl (by kernel_rfl) rfl ?_ ?_; rotate_left; focus (intro W hW; (try dsimp only at hW); go_split_ands; go_simp; (try (simp (disch := omega) only [IntWalk.i64_in]; (try go_simp))); (try (split; (next => omega); (try go_simp))); try rfl; done))); try simp only [Act.put, List.setIfInBounds_toArray, List.set_cons_zero, List.set_cons_succ, Nat.reduceAdd])
        iterate 2 ((refine pl_nx [] (v := ?_) rfl (by kernel_rfl) rfl ?_ ?_; rotate_left; focus (intro W hW; (try dsimp only at hW); go_split_ands; go_simp; (try (simp (disch := omega) only [IntWalk.i64_in]; (try go_simp))); (try (split; (next => omega); (try go_simp))); try rfl; done)); try simp only [Act.put, List.setIfInBounds_toArray, List.set_cons_zero, List.set_cons_succ, Nat.reduceAdd])
        iterate 5 ((first | (refine pl_nn [] rfl (by kernel_rfl) rfl ?_) | (refine pl_nx [] (v := ?_) rfl (by kernel_rfl) rfl ?_ ?_; rotate_left; focus (intro W hW; (try dsimp only at hW); go_split_ands; go_simp; (try (simp (disch := omega) only [IntWalk.i64_in]; (try go_simp))); (try (split; (next => omega); (try go_simp))); try rfl; done))); try simp only [Act.put, List.setIfInBounds_toArray, List.set_cons_zero, List.set_cons_succ, Nat.reduceAdd])
        refine pl_nox 16 (by kernel_rfl) rfl rfl ?_
        try simp only [Act.put, List.setIfInBounds_toArray, List.set_cons_zero, List.set_cons_succ, Nat.reduceAdd]
        ((first | (refine pl_nn [] rfl (by kernel_rfl) rfl ?_) | (refine pl_nx [] (v := ?_) rfl (by kernel_rfl) rfl ?_ ?_; rotate_left; focus (intro W hW; (try dsimp only at hW); go_split_ands; go_simp; (try (simp (disch := omega) only [IntWalk.i64_in]; (try go_simp))); (try (split; (next => omega); (try go_simp))); try rfl; done))); try simp only [Act.put, List.setIfInBounds_toArray, List.set_cons_zero, List.set_cons_succ, Nat.reduceAdd])
        iterate 2 ((refine pl_nx [] (v := ?_) rfl (by kernel_rfl) rfl ?_ ?_; rotate_left; focus (intro W hW; (try dsimp only at hW); go_split_ands; go_simp; (try (simp (disch := omega) only [IntWalk.i64_in]; (try go_simp))); (try (split; (next => omega); (try go_simp))); try rfl; done)); try simp only [Act.put, List.setIfInBounds_toArray, List.set_cons_zero, List.set_cons_succ, Nat.reduceAdd])
        refine pl_done (by kernel_rfl)  ?_
        rintro w2 ⟨pa0, pa1, hc2⟩
        obtain ⟨b4, o4, v4, rfl, hnb, hbl, sv4, d0, d1, d2, d3, d4, d5⟩ := ent_get (hl.keepNo hc2) st1.ent hlt
        have hte := ktail.2 _ (List.getElem_mem hlt)
        have hEl := Lib.hid (show st1.ent < 2199023255488 by have := ktail.1; omega)
        generalize l[st1.ent] = E at *
        obtain ⟨en, ek, ecut, etag, eut, eup⟩ := E
        simp only at sv4 d0 d1 d3 d4 d5 hte
        obtain ⟨A5, c5, rfl⟩ := sv4.slice
        have o11 := alloc_obj w2 (.cells #[.int .i64 en, .int .i64 ek, .slice A5 ecut.length c5, .int .i64 etag, .int .i64 eut, .int .i64 eup] 58)
        have hc3 := (Chg.refl No w2).alloc (.cells #[.int .i64 en, .int .i64 ek, .slice A5 ecut.length c5, .int .i64 etag, .int .i64 eut, .int .i64 eup] 58)
        have hz3 : (w2.alloc (.cells #[.int .i64 en, .int .i64 ek, .slice A5 ecut.length c5, .int .i64 etag, .int .i64 eut, .int .i64 eup] 58)).heap.size = w2.heap.size + 1 := by simp
        go_wp2_with (with_reducible first | refine stop_append ?_ | refine stop_copy ?_ | refine stop_make ?_ | refine stop_lookup ?_ | refine stop_update ?_ | refine stop_slice ?_ | refine stop_range ?_ | refine stop_next ?_ | refine stop_convert ⟨_, rfl⟩ ?_ | refine stop_convertB ⟨_, _, _, rfl⟩ ?_ | refine stop_eqSlice ⟨_, _, rfl⟩ ?_)
        generalize w2.alloc (.cells #[.int .i64 en, .int .i64 ek, .slice A5 ecut.length c5, .int .i64 etag, .int .i64 eut, .int .i64 eup] 58) = w3 at *
        obtain ⟨b11, hb11⟩ : ∃ b, b = w2.heap.size := ⟨_, rfl⟩
        rw [← hb11] at o11 ⊢
        have hb11g : w0.heap.size ≤ b11 ∧ b11 < w3.heap.size ∧ w1.heap.size ≤ b11 := by have := hc2.size; omega
        clear hb11 hz3 d0 d1 d2 d3 d4 d5
        have hc13 := hc2.trans hc3
        have hR3 := hR1.keepNo hc13
        have HS9 := Lib.hid (show ∀ W, Chg No w3 W → (fun W => W.cell? ⟨p, 4, none⟩ = some (.pointer (some ⟨po, 0, none⟩)) ∧ W.cell? ⟨p, 1, none⟩ = some (.int .i64 st1.ent) ∧ Chg No w3 W) W from fun W hW => ⟨cell_obj (i := 4) (hR3.keepNo hW).obj rfl, cell_obj (i := 1) (hR3.keepNo hW).obj rfl, hW⟩)
        have HE := Lib.hid (fun W (hW : Chg No w3 W) => oentries_any (hors.keepNo (hc13.trans hW)).ord hI)
        refine pl_start (fun W => W.cell? ⟨p, 4, none⟩ = some (.pointer (some ⟨po, 0, none⟩)) ∧ W.cell? ⟨p, 1, none⟩ = some (.int .i64 st1.ent) ∧ Chg No w3 W) (by kernel_rfl) (by kernel_rfl) (HS9.out _ (Chg.refl No w3).drew) ?_
        iterate 8 ((refine pl_nx [] (v := ?_) rfl (by kernel_rfl) rfl ?_ ?_; rotate_left; focus (intro W hW; (try dsimp only at hW); go_split_ands; go_simp; (try (simp (disch := omega) only [IntWalk.i64_in]; (try go_simp))); (try (split; (next => omega); (try go_simp))); try rfl; done)); try simp only [Act.put, List.setIfInBounds_toArray, List.set_cons_zero, List.set_cons_succ, Nat.reduceAdd])
        refine pl_callx 4 (.int .i64 ((o.after.length : Int) - 1)) rfl (by kernel_rfl) rfl (by exact (fun W hW => (HE.out W hW.2.2).mono fun x w' h => ⟨h.1, by rw [← h.2]; exact hW⟩)) (fun W => by kernel_rfl) ?_
        try simp only [Act.put, List.setIfInBounds_toArray, List.set_cons_zero, List.set_cons_succ, Nat.reduceAdd]
        ((refine pl_nx [] (v := ?_) rfl (by kernel_rfl) rfl ?_ ?_; rotate_left; focus (intro W hW; (try dsimp only at hW); go_split_ands; go_simp; (try (simp (disch := omega) only [IntWalk.i64_in]; (try go_simp))); (try (split; (next => omega); (try go_simp))); try rfl; done)); try simp only [Act.put, List.setIfInBounds_toArray, List.set_cons_zero, List.set_cons_succ, Nat.reduceAdd])
        refine pl_done (by kernel_rfl)  ?_
        rintro w4 ⟨-, -, hc4⟩
        have hc14 := hc13.trans hc4
        have hR4 := hR1.keepNo hc14
        have o11d := hc4.obj o11 (not_no _)
        have oi4 := hc14.obj oi1 (not_no _)
        have sv5 := (sv4.keepNo hc3).keepNo hc4
        have hcw4 := hcw1.trans hc14.of_no
        have hreg4 := Hreg1.out.keepNo hc14
        have hors4 := hors.keepNo hc14
        have hw4s : w1.heap.size ≤ w4.heap.size := hc14.size
        have hw34 : w3.heap.size ≤ w4.heap.size := hc4.size
        clear hc2 hc3 hc13 hR3 o11 HS4 HC HS9 HE hc4 pa0 pa1 pc0 pc1
        by_cases hk : ek = 2
        · subst hk
          by_cases hE : (o.after.length : Int) - 1 = st1.ent
          focus
            have g1 : ((o.after.length : Int) - 1 == (st1.ent : Int)) = true := by simpa using hE
            have Ho1 := Lib.hid (show (addF o (en, 2, ecut, etag, eut, eup)).1 = ordF o st1.ent (en, 2, ecut, etag, eut, eup) by unfold ordF; rw [if_pos hE])
            clear hE
            have Hadd := Lib.hid (fun W (hW : Chg No w4 W) => oadds_any (hors4.keepNo hW) hI (en, 2, ecut, etag, eut, eup) (.slice A5 ecut.length c5) ((sv5.weak (fun b _ s => .inr s)).keepNo hW) (by simp only; omega))
            have HI1 := Lib.hid (inv_add hI (en, 2, ecut, etag, eut, eup))
            unfold entV at Hadd
            simp only at Hadd
            generalize addF o (en, 2, ecut, etag, eut, eup) = ad at *
            obtain ⟨o1, ac⟩ := ad
            simp only at Ho1 HI1
            have HS10 := Lib.hid (show ∀ W, Chg No w4 W → (fun W => W.cell? ⟨p, 4, none⟩ = some (.pointer (some ⟨po, 0, none⟩)) ∧ W.cell? ⟨b11, 0, none⟩ = some (.int .i64 en) ∧ W.cell? ⟨b11, 1, none⟩ = some (.int .i64 2) ∧ W.cell? ⟨b11, 2, none⟩ = some (.slice A5 ecut.length c5) ∧ W.cell? ⟨b11, 3, none⟩ = some (.int .i64 etag) ∧ W.cell? ⟨b11, 4, none⟩ = some (.int .i64 eut) ∧ W.cell? ⟨b11, 5, none⟩ = some (.int .i64 eup)) W from fun W hW => ⟨cell_obj (i := 4) (hR4.keepNo hW).obj rfl, cell_obj (i := 0) (hW.obj o11d (not_no _)) rfl, cell_obj (i := 1) (hW.obj o11d (not_no _)) rfl, cell_obj (i := 2) (hW.obj o11d (not_no _)) rfl, cell_obj (i := 3) (hW.obj o11d (not_no _)) rfl, cell_obj (i := 4) (hW.obj o11d (not_no _)) rfl, cell_obj (i := 5) (hW.obj o11d (not_no _)) rfl⟩)
            go_wp2_with (with_reducible first | refine stop_append ?_ | refine stop_copy ?_ | refine stop_make ?_ | refine stop_lookup ?_ | refine stop_update ?_ | refine stop_slice ?_ | refine stop_range ?_ | refine stop_next ?_ | refine stop_convert ⟨_, rfl⟩ ?_ | refine stop_convertB ⟨_, _, _, rfl⟩ ?_ | refine stop_eqSlice ⟨_, _, rfl⟩ ?_)
            refine rt_start (fun W => W.cell? ⟨p, 4, none⟩ = some (.pointer (some ⟨po, 0, none⟩)) ∧ W.cell? ⟨b11, 0, none⟩ = some (.int .i64 en) ∧ W.cell? ⟨b11, 1, none⟩ = some (.int .i64 2) ∧ W.cell? ⟨b11, 2, none⟩ = some (.slice A5 ecut.length c5) ∧ W.cell? ⟨b11, 3, none⟩ = some (.int .i64 etag) ∧ W.cell? ⟨b11, 4, none⟩ = some (.int .i64 eut) ∧ W.cell? ⟨b11, 5, none⟩ = some (.int .i64 eup)) (by kernel_rfl) ?_
            iterate 5 ((refine rt_nx [] (v := ?_) rfl (by kernel_rfl) (fun _ _ _ h => h) rfl ?_ ?_; rotate_left; focus (intro W hW; (try dsimp only at hW); go_split_ands; go_simp; (try (simp (disch := omega) only [IntWalk.i64_in]; (try go_simp))); (try (split; (next => omega); (try go_simp))); try rfl; done)); try simp only [Act.put, List.setIfInBounds_toArray, List.set_cons_zero, List.set_cons_succ, Nat.reduceAdd])
            refine rt_kx (fun W => W.cell? ⟨p, 4, none⟩ = some (.pointer (some ⟨po, 0, none⟩)) ∧ W.cell? ⟨b11, 0, none⟩ = some (.int .i64 en) ∧ W.cell? ⟨b11, 1, none⟩ = some (.int .i64 2) ∧ W.cell? ⟨b11, 2, none⟩ = some (.slice A5 ecut.length c5) ∧ W.cell? ⟨b11, 3, none⟩ = some (.int .i64 etag) ∧ W.cell? ⟨b11, 4, none⟩ = some (.int .i64 eut) ∧ W.cell? ⟨b11, 5, none⟩ = some (.int .i64 eup)) 5 (by kernel_rfl) (HS10.out _ (Chg.refl No w4).drew) (fun _ h => h) rfl (by rfl) (fun K hK => ?_)
            go_simp
            refine (Hadd.out _ (Chg.refl No w4).drew).mono ?_
            rintro x w5 ⟨rfl, hcA, horsA⟩
            dsimp only at hcA horsA
            have hcA : Chg So w4 w5 := ((Chg.refl No w4).drew.of_no).trans hcA
            have horsA : Ors w5 (Up So w4 w5) po o1 := horsA
            have hR5 := hR4.added hcA horsA HI1.out
            have hS5 : ∀ b, Up S2 w4 w5 b → S b ∨ w0.heap.size ≤ b := fun b s => by rcases s with s | s; exact hS2 b s; exact .inr (by omega)
            have hw5s : w0.heap.size ≤ w5.heap.size := by have := hcA.size; omega
            have hcA2 : Chg S2 w4 w5 := hcA.weak (fun b _ s => (hR4.hSo b s).1)
            have hcw5 := chg_up hcw4 hw0 hcA2 hS2
            have hreg5 := hreg4.keep hcA2 (fun b _ s => by rcases hS2 b s with s | s; exact hSn b s; omega)
            have o15 := hcA.obj o11d (fun s => by have := hR1.hS b11 (hR1.hSo b11 s).1; omega)
            have oi5 := hcA.obj oi4 (fun s => by rcases hS2 qi (hR1.hSo qi s).1 with s | s; (have := hiS _ s; omega); omega)
            obtain ⟨S5, hS5e⟩ : ∃ X : Nat → Prop, X = Up S2 w4 w5 := ⟨_, rfl⟩
            obtain ⟨So5, hSo5e⟩ : ∃ X : Nat → Prop, X = Up So w4 w5 := ⟨_, rfl⟩
            rw [← hS5e, ← hSo5e] at hR5
            rw [← hS5e] at hS5
            clear hS5e hSo5e
            refine hK _ _ ?_
            clear hK K
            try simp only [Act.put, List.setIfInBounds_toArray, List.set_cons_zero, List.set_cons_succ]
            refine rt_done (by kernel_rfl)  ?_
            clear Hadd HS10 hcA horsA hcA2
            have y1 := cell_obj (i := 1) o15 rfl
            have y3 := cell_obj (i := 3) o15 rfl
            have y4 := cell_obj (i := 4) o15 rfl
            have y5 := cell_obj (i := 5) o15 rfl
            have pc1 := cell_obj (i := 1) hR5.obj rfl
            have pf1 := free_obj (i := 1) hR5.obj
            have hqb : p ≠ b11 := fun e => by subst e; rcases hS5 _ hR5.hp with s | s; (have := hiS _ s; omega); have := hR1.hS p hR1.hp; omega
            have hqp2 : qi ≠ p := fun e => hpqi e.symm
            have hqb2 : b11 ≠ p := fun e => hqb e.symm
            have iz0 := cell_obj (i := 0) oi5 rfl
            have iz1 := cell_obj (i := 1) oi5 rfl
            have iz2 := cell_obj (i := 2) oi5 rfl
            have iz3 := cell_obj (i := 3) oi5 rfl
            have iz4 := cell_obj (i := 4) oi5 rfl
            have iz5 := cell_obj (i := 5) oi5 rfl
            have iz6 := cell_obj (i := 6) oi5 rfl
            have iz7 := cell_obj (i := 7) oi5 rfl
            have iz8 := cell_obj (i := 8) oi5 rfl
            have iz9 := cell_obj (i := 9) oi5 rfl
            have if0 := free_obj (i := 0) oi5
            have if1 := free_obj (i := 1) oi5
            have if2 := free_obj (i := 2) oi5
            have if3 := free_obj (i := 3) oi5
            have if4 := free_obj (i := 4) oi5
            have if5 := free_obj (i := 5) oi5
            have if6 := free_obj (i := 6) oi5
            have if7 := free_obj (i := 7) oi5
            have if8 := free_obj (i := 8) oi5
            have if9 := free_obj (i := 9) oi5
            go_wp2_with (with_reducible first | refine stop_append ?_ | refine stop_copy ?_ | refine stop_make ?_ | refine stop_lookup ?_ | refine stop_update ?_ | refine stop_slice ?_ | refine stop_range ?_ | refine stop_next ?_ | refine stop_convert ⟨_, rfl⟩ ?_ | refine stop_convertB ⟨_, _, _, rfl⟩ ?_ | refine stop_eqSlice ⟨_, _, rfl⟩ ?_)
          rotate_left
          focus
            have g1 : ((o.after.length : Int) - 1 == (st1.ent : Int)) = false := by simpa using hE
            have Ho1 := Lib.hid (show o = ordF o st1.ent (en, 2, ecut, etag, eut, eup) by unfold ordF; rw [if_neg hE])
            clear hE
            have HI1 := Lib.hid hI
            obtain ⟨w5, rfl⟩ : ∃ W : World, W = w4 := ⟨_, rfl⟩
            obtain ⟨o1, rfl⟩ : ∃ X : OSt, X = o := ⟨_, rfl⟩
            obtain ⟨S5, rfl⟩ : ∃ X : Nat → Prop, X = S2 := ⟨_, rfl⟩
            obtain ⟨So5, rfl⟩ : ∃ X : Nat → Prop, X = So := ⟨_, rfl⟩
            have hw5s : w0.heap.size ≤ w5.heap.size := by omega
            have hR5 := hR4
            have hS5 := hS2
            have hcw5 := hcw4
            have hreg5 := hreg4
            have o15 := o11d
            have oi5 := oi4
            have y1 := cell_obj (i := 1) o15 rfl
            have y3 := cell_obj (i := 3) o15 rfl
            have y4 := cell_obj (i := 4) o15 rfl
            have y5 := cell_obj (i := 5) o15 rfl
            have pc1 := cell_obj (i := 1) hR5.obj rfl
            have pf1 := free_obj (i := 1) hR5.obj
            have hqb : p ≠ b11 := fun e => by subst e; rcases hS5 _ hR5.hp with s | s; (have := hiS _ s; omega); have := hR1.hS p hR1.hp; omega
            have hqp2 : qi ≠ p := fun e => hpqi e.symm
            have hqb2 : b11 ≠ p := fun e => hqb e.symm
            have iz0 := cell_obj (i := 0) oi5 rfl
            have iz1 := cell_obj (i := 1) oi5 rfl
            have iz2 := cell_obj (i := 2) oi5 rfl
            have iz3 := cell_obj (i := 3) oi5 rfl
            have iz4 := cell_obj (i := 4) oi5 rfl
            have iz5 := cell_obj (i := 5) oi5 rfl
            have iz6 := cell_obj (i := 6) oi5 rfl
            have iz7 := cell_obj (i := 7) oi5 rfl
            have iz8 := cell_obj (i := 8) oi5 rfl
            have iz9 := cell_obj (i := 9) oi5 rfl
            have if0 := free_obj (i := 0) oi5
            have if1 := free_obj (i := 1) oi5
            have if2 := free_obj (i := 2) oi5
            have if3 := free_obj (i := 3) oi5
            have if4 := free_obj (i := 4) oi5
            have if5 := free_obj (i := 5) oi5
            have if6 := free_obj (i := 6) oi5
            have if7 := free_obj (i := 7) oi5
            have if8 := free_obj (i := 8) oi5
            have if9 := free_obj (i := 9) oi5
            clear oi4 o11d hnb sv4 sv5 hl oi hors hors4 hR4 hR1 oi1 hc14 hcw1 hcw4 hreg4 hw34 hw4s ktail hte
            go_wp2_with (with_reducible first | refine stop_append ?_ | refine stop_copy ?_ | refine stop_make ?_ | refine stop_lookup ?_ | refine stop_update ?_ | refine stop_slice ?_ | refine stop_range ?_ | refine stop_next ?_ | refine stop_convert ⟨_, rfl⟩ ?_ | refine stop_convertB ⟨_, _, _, rfl⟩ ?_ | refine stop_eqSlice ⟨_, _, rfl⟩ ?_)
          all_goals
            refine bodyPost_ret (v := .tuple #[.agg #[.int .i64 2, .int .i64 0, .int .i64 0, .int .i64 0, .int .i64 0, .slice none 0 0, .string ⟨#[]⟩, .int .i64 etag, .int .i64 eut, .int .i64 eup], .int .i64 0]) (by simp [results, Try.results51, go_sem, *]) rfl ?_
            have eent : ((st1.ent + 1 : Nat) : Int) = (st1.ent : Int) + 1 := by omega
            have hR6 := hR5.setEnt (st1.ent + 1)
            have k6 := chg_set (w := w5) (b := p) (i := 1) (.int .i64 ((st1.ent : Int) + 1))
            rw [eent] at hR6
            obtain ⟨-, kF⟩ := set10 (k6.obj oi5 hqp2) (.int .i64 2) (.int .i64 0) (.int .i64 0) (.int .i64 0) (.int .i64 0) (.slice none 0 0) (.string ⟨#[]⟩) (.int .i64 etag) (.int .i64 eut) (.int .i64 eup)
            obtain ⟨e1, e2, e3⟩ := step_end (chg_up hcw5 hw0 (k6.weak (G := S5) (fun b _ g => by simp only [At] at g; subst g; exact hR5.hp)) hS5) hR6 hS5 hiS hw0 kF hqi
            have Hfin := Lib.hid (show roundF rows true st1 = (⟨st1.term, st1.ent + 1, cnt, fed, some o1⟩, some (trimItm (en, 2, ecut, etag, eut, eup), 0)) by rw [Hrun.out]; unfold roundG; simp only [if_true]; rw [← Ho1.out])
            exact ⟨_, (trimItm (en, 2, ecut, etag, eut, eup), 0), .slice none 0 0, _, ⟨_, Hruns.out, Hfin.out⟩, rfl, e1, e2, e3, Sl.nil _ _ _ _, by have := hEl.out; simp only; omega, hterm1⟩
        · have hk2 : (ek == 2) = false := by simpa using hk
          by_cases hE : (o.after.length : Int) - 1 = st1.ent
          focus
            have g1 : ((o.after.length : Int) - 1 == (st1.ent : Int)) = true := by simpa using hE
            have Ho1 := Lib.hid (show (addF o (en, ek, ecut, etag, eut, eup)).1 = ordF o st1.ent (en, ek, ecut, etag, eut, eup) by unfold ordF; rw [if_pos hE])
            clear hE
            have Hadd := Lib.hid (fun W (hW : Chg No w4 W) => oadds_any (hors4.keepNo hW) hI (en, ek, ecut, etag, eut, eup) (.slice A5 ecut.length c5) ((sv5.weak (fun b _ s => .inr s)).keepNo hW) (by simp only; omega))
            have HI1 := Lib.hid (inv_add hI (en, ek, ecut, etag, eut, eup))
            unfold entV at Hadd
            simp only at Hadd
            generalize addF o (en, ek, ecut, etag, eut, eup) = ad at *
            obtain ⟨o1, ac⟩ := ad
            simp only at Ho1 HI1
            have HS10 := Lib.hid (show ∀ W, Chg No w4 W → (fun W => W.cell? ⟨p, 4, none⟩ = some (.pointer (some ⟨po, 0, none⟩)) ∧ W.cell? ⟨b11, 0, none⟩ = some (.int .i64 en) ∧ W.cell? ⟨b11, 1, none⟩ = some (.int .i64 ek) ∧ W.cell? ⟨b11, 2, none⟩ = some (.slice A5 ecut.length c5) ∧ W.cell? ⟨b11, 3, none⟩ = some (.int .i64 etag) ∧ W.cell? ⟨b11, 4, none⟩ = some (.int .i64 eut) ∧ W.cell? ⟨b11, 5, none⟩ = some (.int .i64 eup)) W from fun W hW => ⟨cell_obj (i := 4) (hR4.keepNo hW).obj rfl, cell_obj (i := 0) (hW.obj o11d (not_no _)) rfl, cell_obj (i := 1) (hW.obj o11d (not_no _)) rfl, cell_obj (i := 2) (hW.obj o11d (not_no _)) rfl, cell_obj (i := 3) (hW.obj o11d (not_no _)) rfl, cell_obj (i := 4) (hW.obj o11d (not_no _)) rfl, cell_obj (i := 5) (hW.obj o11d (not_no _)) rfl⟩)
            go_wp2_with (with_reducible first | refine stop_append ?_ | refine stop_copy ?_ | refine stop_make ?_ | refine stop_lookup ?_ | refine stop_update ?_ | refine stop_slice ?_ | refine stop_range ?_ | refine stop_next ?_ | refine stop_convert ⟨_, rfl⟩ ?_ | refine stop_convertB ⟨_, _, _, rfl⟩ ?_ | refine stop_eqSlice ⟨_, _, rfl⟩ ?_)
            refine rt_start (fun W => W.cell? ⟨p, 4, none⟩ = some (.pointer (some ⟨po, 0, none⟩)) ∧ W.cell? ⟨b11, 0, none⟩ = some (.int .i64 en) ∧ W.cell? ⟨b11, 1, none⟩ = some (.int .i64 ek) ∧ W.cell? ⟨b11, 2, none⟩ = some (.slice A5 ecut.length c5) ∧ W.cell? ⟨b11, 3, none⟩ = some (.int .i64 etag) ∧ W.cell? ⟨b11, 4, none⟩ = some (.int .i64 eut) ∧ W.cell? ⟨b11, 5, none⟩ = some (.int .i64 eup)) (by kernel_rfl) ?_
            iterate 5 ((refine rt_nx [] (v := ?_) rfl (by kernel_rfl) (fun _ _ _ h => h) rfl ?_ ?_; rotate_left; focus (intro W hW; (try dsimp only at hW); go_split_ands; go_simp; (try (simp (disch := omega) only [IntWalk.i64_in]; (try go_simp))); (try (split; (next => omega); (try go_simp))); try rfl; done)); try simp only [Act.put, List.setIfInBounds_toArray, List.set_cons_zero, List.set_cons_succ, Nat.reduceAdd])
            refine rt_kx (fun W => W.cell? ⟨p, 4, none⟩ = some (.pointer (some ⟨po, 0, none⟩)) ∧ W.cell? ⟨b11, 0, none⟩ = some (.int .i64 en) ∧ W.cell? ⟨b11, 1, none⟩ = some (.int .i64 ek) ∧ W.cell? ⟨b11, 2, none⟩ = some (.slice A5 ecut.length c5) ∧ W.cell? ⟨b11, 3, none⟩ = some (.int .i64 etag) ∧ W.cell? ⟨b11, 4, none⟩ = some (.int .i64 eut) ∧ W.cell? ⟨b11, 5, none⟩ = some (.int .i64 eup)) 5 (by kernel_rfl) (HS10.out _ (Chg.refl No w4).drew) (fun _ h => h) rfl (by rfl) (fun K hK => ?_)
            go_simp
            refine (Hadd.out _ (Chg.refl No w4).drew).mono ?_
            rintro x w5 ⟨rfl, hcA, horsA⟩
            dsimp only at hcA horsA
            have hcA : Chg So w4 w5 := ((Chg.refl No w4).drew.of_no).trans hcA
            have horsA : Ors w5 (Up So w4 w5) po o1 := horsA
            have hR5 := hR4.added hcA horsA HI1.out
            have hS5 : ∀ b, Up S2 w4 w5 b → S b ∨ w0.heap.size ≤ b := fun b s => by rcases s with s | s; exact hS2 b s; exact .inr (by omega)
            have hw5s : w0.heap.size ≤ w5.heap.size := by have := hcA.size; omega
            have hcA2 : Chg S2 w4 w5 := hcA.weak (fun b _ s => (hR4.hSo b s).1)
            have hcw5 := chg_up hcw4 hw0 hcA2 hS2
            have hreg5 := hreg4.keep hcA2 (fun b _ s => by rcases hS2 b s with s | s; exact hSn b s; omega)
            have o15 := hcA.obj o11d (fun s => by have := hR1.hS b11 (hR1.hSo b11 s).1; omega)
            have oi5 := hcA.obj oi4 (fun s => by rcases hS2 qi (hR1.hSo qi s).1 with s | s; (have := hiS _ s; omega); omega)
            obtain ⟨S5, hS5e⟩ : ∃ X : Nat → Prop, X = Up S2 w4 w5 := ⟨_, rfl⟩
            obtain ⟨So5, hSo5e⟩ : ∃ X : Nat → Prop, X = Up So w4 w5 := ⟨_, rfl⟩
            rw [← hS5e, ← hSo5e] at hR5
            rw [← hS5e] at hS5
            clear hS5e hSo5e
            refine hK _ _ ?_
            clear hK K
            try simp only [Act.put, List.setIfInBounds_toArray, List.set_cons_zero, List.set_cons_succ]
            refine rt_done (by kernel_rfl)  ?_
            clear Hadd HS10 hcA horsA hcA2
            have y1 := cell_obj (i := 1) o15 rfl
            go_wp2_with (with_reducible first | refine stop_append ?_ | refine stop_copy ?_ | refine stop_make ?_ | refine stop_lookup ?_ | refine stop_update ?_ | refine stop_slice ?_ | refine stop_range ?_ | refine stop_next ?_ | refine stop_convert ⟨_, rfl⟩ ?_ | refine stop_convertB ⟨_, _, _, rfl⟩ ?_ | refine stop_eqSlice ⟨_, _, rfl⟩ ?_)
          rotate_left
          focus
            have g1 : ((o.after.length : Int) - 1 == (st1.ent : Int)) = false := by simpa using hE
            have Ho1 := Lib.hid (show o = ordF o st1.ent (en, ek, ecut, etag, eut, eup) by unfold ordF; rw [if_neg hE])
            clear hE
            have HI1 := Lib.hid hI
            obtain ⟨w5, rfl⟩ : ∃ W : World, W = w4 := ⟨_, rfl⟩
            obtain ⟨o1, rfl⟩ : ∃ X : OSt, X = o := ⟨_, rfl⟩
            obtain ⟨S5, rfl⟩ : ∃ X : Nat → Prop, X = S2 := ⟨_, rfl⟩
            obtain ⟨So5, rfl⟩ : ∃ X : Nat → Prop, X = So := ⟨_, rfl⟩
            have hw5s : w0.heap.size ≤ w5.heap.size := by omega
            have hR5 := hR4
            have hS5 := hS2
            have hcw5 := hcw4
            have hreg5 := hreg4
            have o15 := o11d
            have oi5 := oi4
            have y1 := cell_obj (i := 1) o15 rfl
            clear oi4 o11d hnb sv4 sv5 hl oi hors hors4 hR4 hR1 oi1 hc14 hcw1 hcw4 hreg4 hw34 hw4s ktail hte
            go_wp2_with (with_reducible first | refine stop_append ?_ | refine stop_copy ?_ | refine stop_make ?_ | refine stop_lookup ?_ | refine stop_update ?_ | refine stop_slice ?_ | refine stop_range ?_ | refine stop_next ?_ | refine stop_convert ⟨_, rfl⟩ ?_ | refine stop_convertB ⟨_, _, _, rfl⟩ ?_ | refine stop_eqSlice ⟨_, _, rfl⟩ ?_)
          all_goals
            clear y1
            have Hek := Lib.hid hk
            clear hk hk2
            have HS14 := Lib.hid (show ∀ W, Chg No w5 W → (fun W => W.cell? ⟨p, 2, none⟩ = some (.int .i64 cnt) ∧ W.cell? ⟨p, 4, none⟩ = some (.pointer (some ⟨po, 0, none⟩)) ∧ Chg No w5 W) W from fun W hW => ⟨cell_obj (i := 2) (hR5.keepNo hW).obj rfl, cell_obj (i := 4) (hR5.keepNo hW).obj rfl, hW⟩)
            have HL := Lib.hid (fun W (hW : Chg No w5 W) => show Calls Try.prog 20 #[.pointer (some ⟨po, 0, none⟩)] W fun e w' => e = .returned (.int .i64 o1.len) ∧ Chg No W w' by obtain ⟨po2, h1, h2, _⟩ := (hR5.keepNo hW).ord; cases h1; exact olen_any h2.ord HI1.out)
            refine pl_start (fun W => W.cell? ⟨p, 2, none⟩ = some (.int .i64 cnt) ∧ W.cell? ⟨p, 4, none⟩ = some (.pointer (some ⟨po, 0, none⟩)) ∧ Chg No w5 W) (by kernel_rfl) (by kernel_rfl) (HS14.out _ (Chg.refl No w5).drew) ?_
            iterate 8 ((refine pl_nx [] (v := ?_) rfl (by kernel_rfl) rfl ?_ ?_; rotate_left; focus (intro W hW; (try dsimp only at hW); go_split_ands; go_simp; (try (simp (disch := omega) only [IntWalk.i64_in]; (try go_simp))); (try (split; (next => omega); (try go_simp))); try rfl; done)); try simp only [Act.put, List.setIfInBounds_toArray, List.set_cons_zero, List.set_cons_succ, Nat.reduceAdd])
            refine pl_callx 8 (.int .i64 o1.len) rfl (by kernel_rfl) rfl (by exact (fun W hW => (HL.out W hW.2.2).mono fun x w' h => ⟨h.1, HS14.out _ (hW.2.2.trans h.2)⟩)) (fun W => by kernel_rfl) ?_
            try simp only [Act.put, List.setIfInBounds_toArray, List.set_cons_zero, List.set_cons_succ, Nat.reduceAdd]
            ((refine pl_nx [] (v := ?_) rfl (by kernel_rfl) rfl ?_ ?_; rotate_left; focus (intro W hW; (try dsimp only at hW); go_split_ands; go_simp; (try (simp (disch := omega) only [IntWalk.i64_in]; (try go_simp))); (try (split; (next => omega); (try go_simp))); try rfl; done)); try simp only [Act.put, List.setIfInBounds_toArray, List.set_cons_zero, List.set_cons_succ, Nat.reduceAdd])
            refine pl_done (by kernel_rfl)  ?_
            rintro w6 ⟨-, -, hc6⟩
            have hR6 := hR5.keepNo hc6
            have hcw6 : Chg S w w6 := hcw5.trans hc6.of_no
            have hreg6 := hreg5.keepNo hc6
            have oi6 := hc6.obj oi5 (not_no _)
            have hw56 := hc6.size
            have hw05 := hcw5.size
            clear HS14 HL hR5 hcw5 oi5 hc6
            by_cases hcl : (cnt : Int) < o1.len
            · obtain ⟨pl, hpl, -, hp1, hp2⟩ := at_some HI1.out hcl
              have Hf := Lib.hid (show roundF rows true st1 = (if true then (⟨st1.term, st1.ent, cnt, fed, some o1⟩, some (itm0, 91)) else (toldSt ⟨st1.term, st1.ent, cnt, fed, some o1⟩ o1, some (recItm st1.term cnt pl, 0))) by rw [Hrun.out]; unfold roundG; simp only; rw [if_neg Hek.out, ← Ho1.out, if_pos hcl, hpl]; rfl)
              have Ht := Lib.hid (tell_bad S5 So5 p r m (.pointer (some ⟨po, 0, none⟩)) ⟨st1.term, st1.ent, cnt, fed, some o1⟩ o1 sh pl w6 hR6 rfl HI1.out hcl (by simp only; omega) hpl hp1 hp2)
              obtain ⟨p1, p2⟩ := pl
              clear hpl
              go_wp2_with (with_reducible first | refine stop_append ?_ | refine stop_copy ?_ | refine stop_make ?_ | refine stop_lookup ?_ | refine stop_update ?_ | refine stop_slice ?_ | refine stop_range ?_ | refine stop_next ?_ | refine stop_convert ⟨_, rfl⟩ ?_ | refine stop_convertB ⟨_, _, _, rfl⟩ ?_ | refine stop_eqSlice ⟨_, _, rfl⟩ ?_)
              refine Ht.out.mono ?_
              rintro e w7 ⟨rfl, hc7⟩
              have hpq2 : qi ≠ p := fun e => hpqi e.symm
              have hqi6 : qi < w6.heap.size := lt_of_heap oi6
              have oi7 := hc7.obj oi6 (not_no _)
              have iz0 := cell_obj (i := 0) oi7 rfl
              have if0 := free_obj (i := 0) oi7
              have iz1 := cell_obj (i := 1) oi7 rfl
              have if1 := free_obj (i := 1) oi7
              have iz2 := cell_obj (i := 2) oi7 rfl
              have if2 := free_obj (i := 2) oi7
              have iz3 := cell_obj (i := 3) oi7 rfl
              have if3 := free_obj (i := 3) oi7
              have iz4 := cell_obj (i := 4) oi7 rfl
              have if4 := free_obj (i := 4) oi7
              have iz5 := cell_obj (i := 5) oi7 rfl
              have if5 := free_obj (i := 5) oi7
              have iz6 := cell_obj (i := 6) oi7 rfl
              have if6 := free_obj (i := 6) oi7
              have iz7 := cell_obj (i := 7) oi7 rfl
              have if7 := free_obj (i := 7) oi7
              have iz8 := cell_obj (i := 8) oi7 rfl
              have if8 := free_obj (i := 8) oi7
              have iz9 := cell_obj (i := 9) oi7 rfl
              have if9 := free_obj (i := 9) oi7
              simp only [itmV, recItm, dataF, itm0]
              go_wp2_with (with_reducible first | refine stop_append ?_ | refine stop_copy ?_ | refine stop_make ?_ | refine stop_lookup ?_ | refine stop_update ?_ | refine stop_slice ?_ | refine stop_range ?_ | refine stop_next ?_ | refine stop_convert ⟨_, rfl⟩ ?_ | refine stop_convertB ⟨_, _, _, rfl⟩ ?_ | refine stop_eqSlice ⟨_, _, rfl⟩ ?_)
              refine bodyPost_ret (v := .tuple #[.agg #[.int .i64 0, .int .i64 0, .int .i64 0, .int .i64 0, .int .i64 0, .slice none 0 0, .string ⟨#[]⟩, .int .i64 0, .int .i64 0, .int .i64 0], .int .i64 91]) (by simp [results, Try.results51, go_sem, *]) rfl ?_
              obtain ⟨-, kF⟩ := set10 oi7 (.int .i64 0) (.int .i64 0) (.int .i64 0) (.int .i64 0) (.int .i64 0) (.slice none 0 0) (.string ⟨#[]⟩) (.int .i64 0) (.int .i64 0) (.int .i64 0)
              obtain ⟨e1, e2, e3⟩ := step_end (hcw6.trans hc7.of_no) (hR6.keepNo hc7) hS5 hiS hw0 kF hqi
              exact ⟨_, (itm0, 91), .slice none 0 0, _, ⟨_, Hruns.out, Hf.out⟩, rfl, e1, e2, e3, Sl.nil _ _ _ _, hent1, hterm1⟩
            · have Hfin := Lib.hid (show roundF rows true st1 = (⟨st1.term, st1.ent + 1, cnt, fed, some o1⟩, none) by rw [Hrun.out]; unfold roundG; simp only; rw [if_neg Hek.out, ← Ho1.out, if_neg hcl])
              have pc1 := cell_obj (i := 1) hR6.obj rfl
              have pf1 := free_obj (i := 1) hR6.obj
              have eent : ((st1.ent + 1 : Nat) : Int) = (st1.ent : Int) + 1 := by omega
              have hR7 := hR6.setEnt (st1.ent + 1)
              have k7 := chg_set (w := w6) (b := p) (i := 1) (.int .i64 ((st1.ent : Int) + 1))
              rw [eent] at hR7
              clear eent
              have hz7 : (w6.setCell ⟨p, 1, none⟩ (.int .i64 ((st1.ent : Int) + 1))).heap.size = w6.heap.size := by simp
              have k7S : Chg S5 w6 (w6.setCell ⟨p, 1, none⟩ (.int .i64 ((st1.ent : Int) + 1))) := k7.weak (fun b _ g => by simp only [At] at g; subst g; exact hR6.hp)
              have hpq := hpqi
              have oi7 := k7.obj oi6 (fun g => hpq g.symm)
              have Hel := hEl.out
              go_wp2_with (with_reducible first | refine stop_append ?_ | refine stop_copy ?_ | refine stop_make ?_ | refine stop_lookup ?_ | refine stop_update ?_ | refine stop_slice ?_ | refine stop_range ?_ | refine stop_next ?_ | refine stop_convert ⟨_, rfl⟩ ?_ | refine stop_convertB ⟨_, _, _, rfl⟩ ?_ | refine stop_eqSlice ⟨_, _, rfl⟩ ?_)
              generalize w6.setCell ⟨p, 1, none⟩ (.int .i64 ((st1.ent : Int) + 1)) = w7 at *
              go_roundw
              case rel => exact ⟨_, S5, Hruns.out.step Hfin.out, ⟨_, r, m, _, hR7⟩, hS5, chg_up hcw6 hw0 k7S hS5, by omega, by simp only; omega, hterm1, oi7, hreg6.keep k7S (fun b _ s => by rcases hS5 b s with s | s; exact hSn b s; omega)⟩
              case measure => rw [muR_of hR7]; simp only; omega
    · have Hrun := Lib.hid (show roundF rows true st1 = (⟨st1.term, st1.ent, cnt, fed, oo⟩, some (itm0, code)) by rw [Hround.out]; unfold roundK; simp only; rw [if_pos hcode])
      have g1 : (code != 0) = true := by simpa using hcode
      have g2 : (code == 0) = false := by simpa using hcode
      have iz0 := cell_obj (i := 0) oi1 rfl
      have iz1 := cell_obj (i := 1) oi1 rfl
      have iz2 := cell_obj (i := 2) oi1 rfl
      have iz3 := cell_obj (i := 3) oi1 rfl
      have iz4 := cell_obj (i := 4) oi1 rfl
      have iz5 := cell_obj (i := 5) oi1 rfl
      have iz6 := cell_obj (i := 6) oi1 rfl
      have iz7 := cell_obj (i := 7) oi1 rfl
      have iz8 := cell_obj (i := 8) oi1 rfl
      have iz9 := cell_obj (i := 9) oi1 rfl
      have if0 := free_obj (i := 0) oi1
      have if1 := free_obj (i := 1) oi1
      have if2 := free_obj (i := 2) oi1
      have if3 := free_obj (i := 3) oi1
      have if4 := free_obj (i := 4) oi1
      have if5 := free_obj (i := 5) oi1
      have if6 := free_obj (i := 6) oi1
      have if7 := free_obj (i := 7) oi1
      have if8 := free_obj (i := 8) oi1
      have if9 := free_obj (i := 9) oi1
      go_wp2_with (with_reducible first | refine stop_append ?_ | refine stop_copy ?_ | refine stop_make ?_ | refine stop_lookup ?_ | refine stop_update ?_ | refine stop_slice ?_ | refine stop_range ?_ | refine stop_next ?_ | refine stop_convert ⟨_, rfl⟩ ?_ | refine stop_convertB ⟨_, _, _, rfl⟩ ?_ | refine stop_eqSlice ⟨_, _, rfl⟩ ?_)
      refine bodyPost_ret (v := .tuple #[.agg #[.int .i64 0, .int .i64 0, .int .i64 0, .int .i64 0, .int .i64 0, .slice none 0 0, .string ⟨#[]⟩, .int .i64 0, .int .i64 0, .int .i64 0], .int .i64 code]) (by simp [results, Try.results51, go_sem, *]) rfl ?_
      obtain ⟨-, kF⟩ := set10 oi1 (.int .i64 0) (.int .i64 0) (.int .i64 0) (.int .i64 0) (.int .i64 0) (.slice none 0 0) (.string ⟨#[]⟩) (.int .i64 0) (.int .i64 0) (.int .i64 0)
      obtain ⟨e1, e2, e3⟩ := step_end hcw1 hR1 hS2 hiS hw0 kF hqi
      exact ⟨_, (itm0, code), .slice none 0 0, _, ⟨_, Hruns.out, Hrun.out⟩, rfl, e1, e2, e3, Sl.nil _ _ _ _, hent1, hterm1⟩
end Go.Proofs.Ytbjpoamnglfjeaa


/- Walks of the document's chapter 6: Has, unlike. -/
set_option linter.unusedVariables false
set_option linter.unusedSimpArgs false
namespace Cb
open Go Go.Deep
section
variable {P : Program} {w : World} {a : Act}
theorem take_run {α : Type} [Rep α] {F : Nat → Prop} {d : Option Tmp} {x y : Operand} {t ty e : TypeId} {p : String} {af : Array Edge} {g : Option (Nat × Bool)} {z : Value} {bytes : Nat}
    (ht : P.underlying t = some (.slice e)) (hi' : Info P e z (Rep.n α) bytes) {A : Option Addr} {n c h : Nat} {xs : List α} (hs : Sl F w (.slice A n c) xs) (hx : a.eval x = .slice A n c)
    {kd : IntKind} (hy : a.eval y = .int kd h) (h2 : h ≤ xs.length) :
    (execOp a.eval ⟨d, .slice t x none (some y) none, ty, p, af, g⟩).run P w = .ok (.value (.slice A h c)) w := by
  obtain ⟨i, hi0, hz0, hz1, hz2⟩ := info_parts hi'
  obtain ⟨hn, hc⟩ := hs.len
  subst hn
  have hhc : h ≤ c := by omega
  have hb : ∀ (cd : BoundsCode) (cd2 : BoundsCode), (Instr.sliceBounds true xs.length c none (some (.int kd h)) none).run P w = .ok (0, h, c) w := by
    intro _ _
    simp [Instr.sliceBounds, *, run_sliceBound_in]
  have hadd : ∀ b : Addr, b.add 0 = b := fun b => by cases b; simp [Addr.add]
  have hr : (Instr.slice t (a.eval x) none (some (.int kd h)) none).run P w = .ok (.slice A h c) w := by
    simp [Instr.slice, hx, run_underlying ht, hb .index .index, Go.sizeOf, typeInfo, hi0]
    cases A <;> simp [hadd]
  simp only [execOp, Instr.sliceAt, Sem.run_bind, run_underlying ht, Option.map_some, Option.map_none, hy, hr, Result.andThen_ok, Sem.run_pure]
end
end Cb
namespace Go.Proofs.Ytbjpoamnglfjeaa
open Go.RowKit Cb

end Go.Proofs.Ytbjpoamnglfjeaa


/- Walks of package replay: Feed, Where, Same. -/
set_option linter.unusedVariables false
set_option linter.unusedSimpArgs false
namespace Go.Proofs.Ytbjpoamnglfjeaa
open Go.RowKit Cb

theorem of_all : ∀ (l : List Ent) (o : OSt), (ofF o l).2 = l.length → ∀ e ∈ l, entR e = true
  | [], _, _, e, h => by cases h
  | x :: r, o, h, e, he => by
    unfold ofF at h
    by_cases h0 : (addF o x).2 = 0
    · rw [if_pos h0] at h
      simp only [List.length_cons, Nat.add_right_cancel_iff] at h
      rcases List.mem_cons.1 he with rfl | he
      · unfold addF at h0
        by_cases hb : entR e = true ∧ e.1 = o.after.length
        · exact hb.1
        · rw [if_neg hb] at h0; cases h0
      · exact of_all r _ h e he
    · rw [if_neg h0] at h; cases h
theorem RplV.put {w w' : World} {S So : Nat → Prop} {p r : Nat} {m : List (Int × Value)} {ov v : Value} {st : RSt} {t : Int} {l : List Ent} (h : RplV w S So p r m ov st) (hc : Chg (At r) w w') (hm : MapAt w' r (Value.int .i64) id (mset m t v)) (hv : Sl (fun k => k = p ∨ k = r ∨ So k) w v l) (hb : TailB l) {T : Nat → Prop} (hT : ∀ k, S k → T k)
    (hT2 : ∀ k, T k → k < w'.heap.size) (hvT : Sl (fun k => ¬ T k ∨ k = p ∨ k = r ∨ So k) w v l) : RplV w' T So p r (mset m t v) ov ⟨st.term, st.ent, st.cnt, fun x => if x = t then l else st.fed x, st.o⟩ where
  obj := hc.obj h.obj (fun g => h.hpr g)
  map := hm
  hS := hT2
  hp := hT p h.hp
  hr := hT r h.hr
  hpr := h.hpr
  hSo := fun k hk => ⟨hT k (h.hSo k hk).1, (h.hSo k hk).2⟩
  fed := fun x => by
    show Sl _ _ _ (if x = t then l else st.fed x)
    rw [mget_mset]
    by_cases hx : x = t
    · rw [if_pos hx, if_pos hx]
      exact hvT.keep (hc.weak (fun k _ g => .inr (.inr (.inl g))))
    · rw [if_neg hx, if_neg hx]
      exact ((h.fed x).weak (fun k _ g => g.imp (fun g s => g (hT k s)) id)).keep (hc.weak (fun k _ g => .inr (.inr (.inl g))))
  tb := fun x => by
    by_cases hx : x = t
    · simp only [if_pos hx]; exact hb
    · simp only [if_neg hx]; exact h.tb x
  ord := h.ord.keep hc (fun k _ g s => (h.hSo k s).2.2 g)
def fedSt (st : RSt) (t : Int) (l : List Ent) : RSt := if l = [] then st else ⟨st.term, st.ent, st.cnt, fun x => if x = t then l else st.fed x, st.o⟩
def feedF (st : RSt) (sh : Nat) (t : Int) (l : List Ent) : RSt × Int := if (ofF (newF sh) l).2 = l.length then (fedSt st t l, 0) else (st, 160)
set_option maxRecDepth 100000 in
set_option maxHeartbeats 8000000 in
theorem feed_any (S So : Nat → Prop) (p r B g : Nat) (m : List (Int × Value)) (ov v : Value) (st : RSt) (rows : List Rw) (l : List Ent) (i : Nat) (w : World) (h : RplV w S So p r m ov st) (hreg : RegS w B g rows) (hi : RowsI rows) (hlt : i < rows.length) (hov : rows[i].2.2.2.2 = false)
    (hs : Sl No w v l) (hl : l.length ≤ 2199023255488) (hcb : cutsB l) (hnil : st.fed (firstR rows + i) = []) :
    Calls Try.prog 49 #[.pointer (some ⟨p, 0, none⟩), .pointer (some ⟨g, 0, none⟩), .int .i64 (firstR rows + i), v] w fun e w' =>
      e = .returned (.int .i64 (feedF st rows[i].2.2.1.length (firstR rows + i) l).2) ∧ Chg S w w' ∧ Rpl w' (Up S w w') p (feedF st rows[i].2.2.1.length (firstR rows + i) l).1 := by
  have H := Lib.hid h
  have Hrow := Lib.hid (rrow_yes B g rows w hreg hi i hlt)
  rw [hov] at Hrow
  obtain ⟨-, hr, -, -⟩ := hi.2.2 i hlt
  obtain ⟨-, h8, -⟩ := right_small hr
  have h1 : 1 ≤ rows[i].2.2.1.length := (rightC_iff.1 hr).2.2.1.1
  generalize firstR rows + (i : Int) = t at *
  generalize rows[i] = rw at *
  obtain ⟨t', q, s, tl, ovr⟩ := rw
  simp only at *
  have Hlk := Lib.hid (fun W (hW : Chg No w W) => show (Instr.lookup 153 (.map (some r)) (.int .i64 t) false).run Try.prog W = .ok ((mget m t).getD (.slice none 0 0)) W by simpa using run_lookup klN Try.underlying153 zEnts (h.keepNo hW).map t false)
  have hfs := h.fed t
  rw [hnil] at hfs
  obtain ⟨fv, hfv⟩ : ∃ v, v = (mget m t).getD (.slice none 0 0) := ⟨_, rfl⟩
  rw [← hfv] at hfs Hlk
  obtain ⟨Af, cf, rfl⟩ := hfs.slice
  rw [show ([] : List Ent).length = 0 from rfl] at *
  obtain ⟨A, c, rfl⟩ := hs.slice
  have Hs := Lib.hid (fun W (hW : Chg No w W) => hs.keepNo hW)
  have Hfs := Lib.hid (fun W (hW : Chg No w W) => hfs.keepNo hW)
  have Hof := Lib.hid (fun W (hW : Chg No w W) => oof_yes s.length (.slice A l.length c) l W h1 h8 (hs.keepNo hW) (by omega) hcb)
  have Hcp := Lib.hid (fun (hq : ∀ e ∈ l, e.2.2.1.length ≤ 1000000) W (hW : Chg No w W) => repents_any (.slice A l.length c) l W (hs.keepNo hW) hl hq)
  have hpw := h.hS p h.hp
  have hrw := h.hS r h.hr
  clear h hreg hi hlt hr hs hfs hfv hcb hov
  go_enter Try.func49, Try.ntmps49
  go_wp2_with (with_reducible first | refine stop_append ?_ | refine stop_copy ?_ | refine stop_make ?_ | refine stop_lookup ?_ | refine stop_update ?_ | refine stop_slice ?_ | refine stop_range ?_ | refine stop_next ?_ | refine stop_convert ⟨_, rfl⟩ ?_ | refine stop_convertB ⟨_, _, _, rfl⟩ ?_ | refine stop_eqSlice ⟨_, _, rfl⟩ ?_)
  refine Hrow.out.mono ?_
  rintro e w1 ⟨vq, vs, vt, rfl, hc1, sq, ss, sl⟩
  obtain ⟨Bq, dq, rfl⟩ := sq.slice
  obtain ⟨Bs, ds, rfl⟩ := ss.slice
  obtain ⟨Bt, dt, rfl⟩ := sl.slice
  have o9 := alloc_obj w1 (.cells #[.int .i64 t, .slice Bq q.length dq, .slice Bs s.length ds, .slice Bt tl.length dt, .bool false] 88)
  have hc2 := (Chg.refl No w1).alloc (.cells #[.int .i64 t, .slice Bq q.length dq, .slice Bs s.length ds, .slice Bt tl.length dt, .bool false] 88)
  clear sq ss sl Hrow
  go_wp2_with (with_reducible first | refine stop_append ?_ | refine stop_copy ?_ | refine stop_make ?_ | refine stop_lookup ?_ | refine stop_update ?_ | refine stop_slice ?_ | refine stop_range ?_ | refine stop_next ?_ | refine stop_convert ⟨_, rfl⟩ ?_ | refine stop_convertB ⟨_, _, _, rfl⟩ ?_ | refine stop_eqSlice ⟨_, _, rfl⟩ ?_)
  generalize w1.alloc (.cells #[.int .i64 t, .slice Bq q.length dq, .slice Bs s.length ds, .slice Bt tl.length dt, .bool false] 88) = w2 at *
  have hcw2 := hc1.trans hc2
  refine (Hof.out _ hcw2).mono ?_
  rintro e w3 ⟨pq, rfl, hc3, -⟩
  obtain ⟨n, hn0⟩ : ∃ n, n = (ofF (newF s.length) l).2 := ⟨_, rfl⟩
  rw [← hn0]
  have Hn := Lib.hid hn0
  have hcw3 := hcw2.trans hc3
  have hR3 := H.out.keepNo hcw3
  have pc3 := cell_obj (i := 3) hR3.obj rfl
  have hlk := Hlk.out w3 hcw3
  clear hn0 hc1 hc2 hc3 o9 hcw2 Hof
  go_wp2_with (with_reducible first | refine stop_append ?_ | refine stop_copy ?_ | refine stop_make ?_ | refine stop_update ?_ | refine stop_slice ?_ | refine stop_range ?_ | refine stop_next ?_ | refine stop_convert ⟨_, rfl⟩ ?_ | refine stop_convertB ⟨_, _, _, rfl⟩ ?_ | refine stop_eqSlice ⟨_, _, rfl⟩ ?_)
  have cd3 := (Chg.refl No w3).drew
  by_cases hnl : n = l.length
  · have g1 : (n != l.length) = false := by simp; omega
    have g2 : ((n : Int) != (l.length : Int)) = false := by simp; omega
    have hF := Lib.hid (show feedF st s.length t l = (fedSt st t l, 0) by unfold feedF; rw [if_pos (by rw [← Hn.out]; exact hnl)])
    have Hq := Lib.hid (show ∀ e ∈ l, e.2.2.1.length ≤ 1000000 from fun e he => by have := entR_cut (of_all l _ (by rw [← Hn.out]; exact hnl) e he); omega)
    clear hnl
    refine pl_start (fun W => Chg No w3 W) (by kernel_rfl) (by kernel_rfl) cd3 ?_
    iterate 5 ((refine pl_nx [7, 10] (v := ?_) rfl (by kernel_rfl) rfl ?_ ?_; rotate_left; focus (intro W hW; (try dsimp only at hW); go_split_ands; go_simp; (try (simp (disch := omega) only [IntWalk.i64_in]; (try go_simp))); (try (split; (next => omega); (try go_simp))); try rfl; done)); try simp only [Act.put, List.setIfInBounds_toArray, List.set_cons_zero, List.set_cons_succ, Nat.reduceAdd])
    iterate 4 ((first | (refine pl_nn [7, 10] rfl (by kernel_rfl) rfl ?_) | (refine pl_nx [7, 10] (v := ?_) rfl (by kernel_rfl) rfl ?_ ?_; rotate_left; focus (intro W hW; (try dsimp only at hW); go_split_ands; go_simp; (try (simp (disch := omega) only [IntWalk.i64_in]; (try go_simp))); (try (split; (next => omega); (try go_simp))); try rfl; done))); try simp only [Act.put, List.setIfInBounds_toArray, List.set_cons_zero, List.set_cons_succ, Nat.reduceAdd])
    refine pl_yesx 7 (.slice A 0 c) rfl (by kernel_rfl) rfl (by exact (fun W hW => take_run (α := Ent) Try.underlying28 info_ent (Hs.out W (hcw3.trans hW)) rfl (kd := .i64) rfl (Nat.zero_le _))) ?_
    try simp only [Act.put, List.setIfInBounds_toArray, List.set_cons_zero, List.set_cons_succ, Nat.reduceAdd]
    refine pl_yesx 10 (.slice Af 0 cf) rfl (by kernel_rfl) rfl (by exact (fun W hW => take_run (α := Ent) Try.underlying28 info_ent (xs := []) (Hfs.out W (hcw3.trans hW)) rfl (kd := .i64) rfl (Nat.zero_le _))) ?_
    try simp only [Act.put, List.setIfInBounds_toArray, List.set_cons_zero, List.set_cons_succ, Nat.reduceAdd]
    refine pl_callx 11 (.bool true) rfl (by kernel_rfl) rfl (by exact (fun W hW => (eqents_any No No (.slice A 0 c) (.slice Af 0 cf) [] [] W (Sl.nil _ _ _ _) (Sl.nil _ _ _ _) (by simp) (by simp) (by simp) (by simp)).mono fun x w' h => ⟨h.1, hW.trans h.2⟩)) (fun W => by kernel_rfl) ?_
    try simp only [Act.put, List.setIfInBounds_toArray, List.set_cons_zero, List.set_cons_succ, Nat.reduceAdd]
    ((first | (refine pl_nn [] rfl (by kernel_rfl) rfl ?_) | (refine pl_nx [] (v := ?_) rfl (by kernel_rfl) rfl ?_ ?_; rotate_left; focus (intro W hW; (try dsimp only at hW); go_split_ands; go_simp; (try (simp (disch := omega) only [IntWalk.i64_in]; (try go_simp))); (try (split; (next => omega); (try go_simp))); try rfl; done))); try simp only [Act.put, List.setIfInBounds_toArray, List.set_cons_zero, List.set_cons_succ, Nat.reduceAdd])
    ((refine pl_nx [] (v := ?_) rfl (by kernel_rfl) rfl ?_ ?_; rotate_left; focus (intro W hW; (try dsimp only at hW); go_split_ands; go_simp; (try (simp (disch := omega) only [IntWalk.i64_in]; (try go_simp))); (try (split; (next => omega); (try go_simp))); try rfl; done)); try simp only [Act.put, List.setIfInBounds_toArray, List.set_cons_zero, List.set_cons_succ, Nat.reduceAdd])
    refine pl_done (by kernel_rfl)  ?_
    rintro w4 hc4
    have hcw4 := hcw3.trans hc4
    have hR4 := H.out.keepNo hcw4
    by_cases hl0 : l = []
    · subst hl0
      rw [show ([] : List Ent).length = 0 from rfl] at *
      go_wp2_with (with_reducible first | refine stop_append ?_ | refine stop_copy ?_ | refine stop_make ?_ | refine stop_lookup ?_ | refine stop_update ?_ | refine stop_slice ?_ | refine stop_range ?_ | refine stop_next ?_ | refine stop_convert ⟨_, rfl⟩ ?_ | refine stop_convertB ⟨_, _, _, rfl⟩ ?_ | refine stop_eqSlice ⟨_, _, rfl⟩ ?_)
      go_ret
      rw [hF.out]
      refine ⟨rfl, hcw4.of_no, ?_⟩
      unfold fedSt
      rw [if_pos rfl]
      exact Rpl.up ⟨So, r, m, ov, hR4⟩
    · have hpos : 0 < l.length := List.length_pos_iff.2 hl0
      have hpos2 : (0 : Int) < l.length := by omega
      go_wp2_with (with_reducible first | refine stop_append ?_ | refine stop_copy ?_ | refine stop_make ?_ | refine stop_lookup ?_ | refine stop_update ?_ | refine stop_slice ?_ | refine stop_range ?_ | refine stop_next ?_ | refine stop_convert ⟨_, rfl⟩ ?_ | refine stop_convertB ⟨_, _, _, rfl⟩ ?_ | refine stop_eqSlice ⟨_, _, rfl⟩ ?_)
      have HS10 := Lib.hid (show ∀ W, Chg No w4 W → (fun W => W.cell? ⟨p, 3, none⟩ = some (.map (some r))) W from fun W hW => cell_obj (i := 3) (hR4.keepNo hW).obj rfl)
      refine rt_start (fun W => W.cell? ⟨p, 3, none⟩ = some (.map (some r))) (by kernel_rfl) ?_
      iterate 6 ((refine rt_nx [] (v := ?_) rfl (by kernel_rfl) (fun _ _ _ h => h) rfl ?_ ?_; rotate_left; focus (intro W hW; (try dsimp only at hW); go_split_ands; go_simp; (try (simp (disch := omega) only [IntWalk.i64_in]; (try go_simp))); (try (split; (next => omega); (try go_simp))); try rfl; done)); try simp only [Act.put, List.setIfInBounds_toArray, List.set_cons_zero, List.set_cons_succ, Nat.reduceAdd])
      refine rt_kx (fun W => W.cell? ⟨p, 3, none⟩ = some (.map (some r))) 6 (by kernel_rfl) (HS10.out _ (Chg.refl No w4).drew) (fun _ h => h) rfl (by rfl) (fun K hK => ?_)
      go_simp
      refine (Hcp.out Hq.out _ (hcw4.trans (Chg.refl No w4).drew)).mono ?_
      rintro e w5 ⟨vc, rfl, hc5, sc⟩
      have hc45 := (Chg.refl No w4).drew.trans hc5
      have hR5 := hR4.keepNo hc45
      refine hK _ _ ?_
      clear hK K
      try simp only [Act.put, List.setIfInBounds_toArray, List.set_cons_zero, List.set_cons_succ]
      refine rt_update (fun W => W.cell? ⟨p, 3, none⟩ = some (.map (some r))) (i := 7) (by kernel_rfl) (HS10.out _ hc45) (fun _ h => h) rfl rfl klN Try.underlying153 hR5.map t vc rfl rfl rfl ?_
      intro w6 hm6 hc6
      try simp only [Act.put, List.setIfInBounds_toArray, List.set_cons_zero, List.set_cons_succ, Nat.reduceAdd]
      refine rt_done (by kernel_rfl)  ?_
      go_wp2_with (with_reducible first | refine stop_append ?_ | refine stop_copy ?_ | refine stop_make ?_ | refine stop_lookup ?_ | refine stop_update ?_ | refine stop_slice ?_ | refine stop_range ?_ | refine stop_next ?_ | refine stop_convert ⟨_, rfl⟩ ?_ | refine stop_convertB ⟨_, _, _, rfl⟩ ?_ | refine stop_eqSlice ⟨_, _, rfl⟩ ?_)
      go_ret
      rw [hF.out]
      have hsz := (hcw4.trans hc45).size
      have hz6 := hc6.size
      refine ⟨rfl, (hcw4.trans hc45).of_no.trans (hc6.weak (fun b _ g => by simp only [At] at g; subst g; exact H.out.hr)), So, r, mset m t vc, ov, ?_⟩
      unfold fedSt
      rw [if_neg hl0]
      refine hR5.put hc6 hm6 (sc.weak (fun b hb g => ?_)) ⟨hl, Hq.out⟩ (fun b s => .inl s) (fun b s => ?_) (sc.weak (fun b hb g => ?_))
      · simp only [Lt]
        rcases g with g | g | g
        · subst g; have := hcw4.size; have : w4.drew.heap.size = w4.heap.size := rfl; omega
        · subst g; have := hcw4.size; have : w4.drew.heap.size = w4.heap.size := rfl; omega
        · have := H.out.hS b (H.out.hSo b g).1; have := hcw4.size; have : w4.drew.heap.size = w4.heap.size := rfl; omega
      · rcases s with s | s
        · have := H.out.hS b s; omega
        · exact s.2
      · simp only [Lt]
        have hd : w4.drew.heap.size = w4.heap.size := rfl
        have hs4 := hcw4.size
        rcases g with g | g | g | g
        · by_cases hbs : b < w.heap.size
          · omega
          · exact absurd (.inr ⟨by omega, by omega⟩) g
        · subst g; omega
        · subst g; omega
        · have := H.out.hS b (H.out.hSo b g).1; omega
  · have g1 : (n != l.length) = true := by simp; omega
    have g2 : ((n : Int) != (l.length : Int)) = true := by simp; omega
    have hF := Lib.hid (show feedF st s.length t l = (st, 160) by unfold feedF; rw [if_neg (by rw [← Hn.out]; exact hnl)])
    clear hnl
    refine pl_start (fun W => Chg No w3 W) (by kernel_rfl) (by kernel_rfl) cd3 ?_
    iterate 5 ((refine pl_nx [] (v := ?_) rfl (by kernel_rfl) rfl ?_ ?_; rotate_left; focus (intro W hW; (try dsimp only at hW); go_split_ands; go_simp; (try (simp (disch := omega) only [IntWalk.i64_in]; (try go_simp))); (try (split; (next => omega); (try go_simp))); try rfl; done)); try simp only [Act.put, List.setIfInBounds_toArray, List.set_cons_zero, List.set_cons_succ, Nat.reduceAdd])
    iterate 6 ((first | (refine pl_nn [] rfl (by kernel_rfl) rfl ?_) | (refine pl_nx [] (v := ?_) rfl (by kernel_rfl) rfl ?_ ?_; rotate_left; focus (intro W hW; (try dsimp only at hW); go_split_ands; go_simp; (try (simp (disch := omega) only [IntWalk.i64_in]; (try go_simp))); (try (split; (next => omega); (try go_simp))); try rfl; done))); try simp only [Act.put, List.setIfInBounds_toArray, List.set_cons_zero, List.set_cons_succ, Nat.reduceAdd])
    refine pl_nox 11 (by kernel_rfl) rfl rfl ?_
    try simp only [Act.put, List.setIfInBounds_toArray, List.set_cons_zero, List.set_cons_succ, Nat.reduceAdd]
    ((first | (refine pl_nn [] rfl (by kernel_rfl) rfl ?_) | (refine pl_nx [] (v := ?_) rfl (by kernel_rfl) rfl ?_ ?_; rotate_left; focus (intro W hW; (try dsimp only at hW); go_split_ands; go_simp; (try (simp (disch := omega) only [IntWalk.i64_in]; (try go_simp))); (try (split; (next => omega); (try go_simp))); try rfl; done))); try simp only [Act.put, List.setIfInBounds_toArray, List.set_cons_zero, List.set_cons_succ, Nat.reduceAdd])
    ((refine pl_nx [] (v := ?_) rfl (by kernel_rfl) rfl ?_ ?_; rotate_left; focus (intro W hW; (try dsimp only at hW); go_split_ands; go_simp; (try (simp (disch := omega) only [IntWalk.i64_in]; (try go_simp))); (try (split; (next => omega); (try go_simp))); try rfl; done)); try simp only [Act.put, List.setIfInBounds_toArray, List.set_cons_zero, List.set_cons_succ, Nat.reduceAdd])
    refine pl_done (by kernel_rfl)  ?_
    rintro w4 hc4
    go_wp2_with (with_reducible first | refine stop_append ?_ | refine stop_copy ?_ | refine stop_make ?_ | refine stop_lookup ?_ | refine stop_update ?_ | refine stop_slice ?_ | refine stop_range ?_ | refine stop_next ?_ | refine stop_convert ⟨_, rfl⟩ ?_ | refine stop_convertB ⟨_, _, _, rfl⟩ ?_ | refine stop_eqSlice ⟨_, _, rfl⟩ ?_)
    go_ret
    rw [hF.out]
    exact ⟨rfl, (hcw3.trans hc4).of_no, Rpl.up ⟨So, r, m, ov, H.out.keepNo (hcw3.trans hc4)⟩⟩
theorem feed_at (S : Nat → Prop) (p B g : Nat) (v : Value) (st : RSt) (rows : List Rw) (l : List Ent) (i : Nat) (t : Int) (sh : Nat) (w : World) (h : Rpl w S p st) (hreg : RegS w B g rows) (hi : RowsI rows) (hlt : i < rows.length) (hov : rows[i].2.2.2.2 = false)
    (hs : Sl No w v l) (hl : l.length ≤ 2199023255488) (hcb : cutsB l) (ht : firstR rows + i = t) (hsh : rows[i].2.2.1.length = sh) (hnil : st.fed t = []) :
    Calls Try.prog 49 #[.pointer (some ⟨p, 0, none⟩), .pointer (some ⟨g, 0, none⟩), .int .i64 t, v] w fun e w' =>
      e = .returned (.int .i64 (feedF st sh t l).2) ∧ Chg S w w' ∧ Rpl w' (Up S w w') p (feedF st sh t l).1 := by
  subst ht hsh
  obtain ⟨So, r, m, ov, h⟩ := h
  exact feed_any S So p r B g m ov v st rows l i w h hreg hi hlt hov hs hl hcb hnil
theorem where_any (S : Nat → Prop) (p : Nat) (st : RSt) (w : World) (h : Rpl w S p st) : Calls Try.prog 56 #[.pointer (some ⟨p, 0, none⟩)] w fun e w' => e = .returned (.tuple #[.int .i64 st.term, .int .i64 st.ent, .int .i64 st.cnt]) ∧ Chg No w w' := by
  obtain ⟨So, r, m, ov, h⟩ := h
  have H := Lib.hid (fun W (hW : Chg No w W) => h.keepNo hW)
  clear h
  go_enter Try.func56, Try.ntmps56
  go_wp2_with (with_reducible first | refine stop_append ?_ | refine stop_copy ?_ | refine stop_make ?_ | refine stop_lookup ?_ | refine stop_update ?_ | refine stop_slice ?_ | refine stop_range ?_ | refine stop_next ?_ | refine stop_convert ⟨_, rfl⟩ ?_ | refine stop_convertB ⟨_, _, _, rfl⟩ ?_ | refine stop_eqSlice ⟨_, _, rfl⟩ ?_)
  refine pl_start (fun W => W.cell? ⟨p, 0, none⟩ = some (.int .i64 st.term) ∧ W.cell? ⟨p, 1, none⟩ = some (.int .i64 st.ent) ∧ W.cell? ⟨p, 2, none⟩ = some (.int .i64 st.cnt) ∧ Chg No w W) (by kernel_rfl) (by kernel_rfl) ⟨cell_obj (i := 0) (H.out _ (Chg.refl No w).drew).obj rfl, cell_obj (i := 1) (H.out _ (Chg.refl No w).drew).obj rfl, cell_obj (i := 2) (H.out _ (Chg.refl No w).drew).obj rfl, (Chg.refl No w).drew⟩ ?_
  iterate 15 ((refine pl_nx [] (v := ?_) rfl (by kernel_rfl) rfl ?_ ?_; rotate_left; focus (intro W hW; (try dsimp only at hW); go_split_ands; go_simp; (try (simp (disch := omega) only [IntWalk.i64_in]; (try go_simp))); (try (split; (next => omega); (try go_simp))); try rfl; done)); try simp only [Act.put, List.setIfInBounds_toArray, List.set_cons_zero, List.set_cons_succ, Nat.reduceAdd])
  refine pl_done (by kernel_rfl)  ?_
  rintro w2 ⟨-, -, -, hc⟩
  go_wp2_with (with_reducible first | refine stop_append ?_ | refine stop_copy ?_ | refine stop_make ?_ | refine stop_lookup ?_ | refine stop_update ?_ | refine stop_slice ?_ | refine stop_range ?_ | refine stop_next ?_ | refine stop_convert ⟨_, rfl⟩ ?_ | refine stop_convertB ⟨_, _, _, rfl⟩ ?_ | refine stop_eqSlice ⟨_, _, rfl⟩ ?_)
  go_ret3
  exact ⟨rfl, hc⟩
end Go.Proofs.Ytbjpoamnglfjeaa


/- Plain laws of a replay's steps: they are determined; where a record can't be told nothing changes. -/
set_option linter.unusedVariables false
set_option linter.unusedSimpArgs false
namespace Go.Proofs.Ytbjpoamnglfjeaa
open Go.RowKit Cb

variable {rows : List Rw} {bad : Bool}
theorem runs_uncons {a c : RSt} (h : Runs rows bad a c) : a = c ∨ ∃ d, roundF rows bad a = (d, none) ∧ Runs rows bad d c := by
  induction h with
  | refl => exact .inl rfl
  | step h1 h2 ih =>
    rcases ih with rfl | ⟨d, h3, h4⟩
    · exact .inr ⟨_, h2, .refl _⟩
    · exact .inr ⟨d, h3, h4.step h2⟩
theorem runs_comp {a b c : RSt} (h : Runs rows bad a b) (k : Runs rows bad a c) : Runs rows bad b c ∨ Runs rows bad c b := by
  induction h with
  | refl => exact .inl k
  | step h1 h2 ih =>
    rcases ih with h3 | h3
    · rcases runs_uncons h3 with rfl | ⟨d, h4, h5⟩
      · exact .inr (.step (.refl _) h2)
      · rw [h2] at h4; cases h4; exact .inl h5
    · exact .inr (h3.step h2)
theorem runs_stop {a b : RSt} (h : Runs rows bad a b) {s : RSt} {o : Itm × Int} (ha : roundF rows bad a = (s, some o)) : a = b := by
  rcases runs_uncons h with h | ⟨d, h1, _⟩
  · exact h
  · rw [ha] at h1; cases h1
theorem stepR_det {st s1 s2 : RSt} {o1 o2 : Itm × Int} (h : StepR rows bad st s1 o1) (k : StepR rows bad st s2 o2) : s1 = s2 ∧ o1 = o2 := by
  obtain ⟨a, ha, h1⟩ := h
  obtain ⟨b, hb, h2⟩ := k
  have e : a = b := by
    rcases runs_comp ha hb with h | h
    · exact runs_stop h h1
    · exact (runs_stop h h2).symm
  subst e
  rw [h1] at h2
  simpa using h2
theorem stepR_of {st s : RSt} {o : Itm × Int} (h : roundF rows bad st = (s, some o)) : StepR rows bad st s o := ⟨st, .refl _, h⟩
end Go.Proofs.Ytbjpoamnglfjeaa


/- Walks of package replay: Same, of items that are the same. -/
set_option linter.unusedVariables false
set_option linter.unusedSimpArgs false
namespace Go.Proofs.Ytbjpoamnglfjeaa
open Go.RowKit Cb

set_option maxRecDepth 100000 in
set_option maxHeartbeats 4000000 in
theorem isame_yes (F G : Nat → Prop) (x : Itm) (va vb : Value) (w : World) (ha : Sl F w va x.2.2.1.2.1) (hb : Sl G w vb x.2.2.1.2.1) (hl : x.2.2.1.2.1.length ≤ 1000000) :
    Calls Try.prog 54 #[itmV x va, itmV x vb] w fun e w' => e = .returned (.bool true) ∧ Chg No w w' := by
  obtain ⟨k, ⟨st, sp⟩, ⟨⟨c, n⟩, tags, data⟩, tag, ⟨ut, up⟩⟩ := x
  simp only at ha hb hl
  have Heq := Lib.hid (fun W (hW : Chg No w W) => vequal_any F G va vb tags tags W (ha.keepNo hW) (hb.keepNo hW) hl (by omega))
  rw [show decide (tags = tags) = true from decide_eq_true rfl] at Heq
  obtain ⟨Aa, ca, rfl⟩ := ha.slice
  obtain ⟨Ab, cb, rfl⟩ := hb.slice
  unfold itmV
  simp only
  have o2 := ((Chg.refl No (w.alloc (.cells #[.int .i64 k, .int .i64 st, .int .i64 sp, .int .i64 c, .int .i64 n, .slice Aa tags.length ca, .string data, .int .i64 tag, .int .i64 ut, .int .i64 up] 106))).alloc (.cells #[.int .i64 k, .int .i64 st, .int .i64 sp, .int .i64 c, .int .i64 n, .slice Ab tags.length cb, .string data, .int .i64 tag, .int .i64 ut, .int .i64 up] 106)).obj (alloc_obj w (.cells #[.int .i64 k, .int .i64 st, .int .i64 sp, .int .i64 c, .int .i64 n, .slice Aa tags.length ca, .string data, .int .i64 tag, .int .i64 ut, .int .i64 up] 106)) (not_no _)
  have o3 := alloc_obj (w.alloc (.cells #[.int .i64 k, .int .i64 st, .int .i64 sp, .int .i64 c, .int .i64 n, .slice Aa tags.length ca, .string data, .int .i64 tag, .int .i64 ut, .int .i64 up] 106)) (.cells #[.int .i64 k, .int .i64 st, .int .i64 sp, .int .i64 c, .int .i64 n, .slice Ab tags.length cb, .string data, .int .i64 tag, .int .i64 ut, .int .i64 up] 106)
  have hc0 := ((Chg.refl No w).alloc (.cells #[.int .i64 k, .int .i64 st, .int .i64 sp, .int .i64 c, .int .i64 n, .slice Aa tags.length ca, .string data, .int .i64 tag, .int .i64 ut, .int .i64 up] 106)).alloc (.cells #[.int .i64 k, .int .i64 st, .int .i64 sp, .int .i64 c, .int .i64 n, .slice Ab tags.length cb, .string data, .int .i64 tag, .int .i64 ut, .int .i64 up] 106)
  have hz : (w.alloc (.cells #[.int .i64 k, .int .i64 st, .int .i64 sp, .int .i64 c, .int .i64 n, .slice Aa tags.length ca, .string data, .int .i64 tag, .int .i64 ut, .int .i64 up] 106)).heap.size = w.heap.size + 1 := by simp
  rw [hz] at o3
  clear ha hb
  go_enter Try.func54, Try.ntmps54
  go_wp2_with (with_reducible first | refine stop_append ?_ | refine stop_copy ?_ | refine stop_make ?_ | refine stop_lookup ?_ | refine stop_update ?_ | refine stop_slice ?_ | refine stop_range ?_ | refine stop_next ?_ | refine stop_convert ⟨_, rfl⟩ ?_ | refine stop_convertB ⟨_, _, _, rfl⟩ ?_ | refine stop_eqSlice ⟨_, _, rfl⟩ ?_)
  generalize (w.alloc (.cells #[.int .i64 k, .int .i64 st, .int .i64 sp, .int .i64 c, .int .i64 n, .slice Aa tags.length ca, .string data, .int .i64 tag, .int .i64 ut, .int .i64 up] 106)).alloc (.cells #[.int .i64 k, .int .i64 st, .int .i64 sp, .int .i64 c, .int .i64 n, .slice Ab tags.length cb, .string data, .int .i64 tag, .int .i64 ut, .int .i64 up] 106) = w0 at *
  obtain ⟨q3, hq3⟩ : ∃ p, p = w.heap.size + 1 := ⟨_, rfl⟩
  obtain ⟨q2, hq2⟩ : ∃ p, p = w.heap.size := ⟨_, rfl⟩
  rw [← hq3] at o3 ⊢
  rw [← hq2] at o2 ⊢
  clear hq3 hq2 hz
  have HS := Lib.hid (show ∀ W, Chg No w0 W → (fun W => W.cell? ⟨q2, 3, none⟩ = some (.int .i64 c) ∧ W.cell? ⟨q2, 4, none⟩ = some (.int .i64 n) ∧ W.cell? ⟨q2, 5, none⟩ = some (.slice Aa tags.length ca) ∧ W.cell? ⟨q2, 6, none⟩ = some (.string data) ∧ W.cell? ⟨q3, 3, none⟩ = some (.int .i64 c) ∧ W.cell? ⟨q3, 4, none⟩ = some (.int .i64 n) ∧ W.cell? ⟨q3, 5, none⟩ = some (.slice Ab tags.length cb) ∧ W.cell? ⟨q3, 6, none⟩ = some (.string data)) W from fun W hW => ⟨cell_obj (i := 3) (hW.obj o2 (not_no _)) rfl, cell_obj (i := 4) (hW.obj o2 (not_no _)) rfl, cell_obj (i := 5) (hW.obj o2 (not_no _)) rfl, cell_obj (i := 6) (hW.obj o2 (not_no _)) rfl, cell_obj (i := 3) (hW.obj o3 (not_no _)) rfl, cell_obj (i := 4) (hW.obj o3 (not_no _)) rfl, cell_obj (i := 5) (hW.obj o3 (not_no _)) rfl, cell_obj (i := 6) (hW.obj o3 (not_no _)) rfl⟩)
  have cd := (Chg.refl No w0).drew
  refine rt_start (fun W => W.cell? ⟨q2, 3, none⟩ = some (.int .i64 c) ∧ W.cell? ⟨q2, 4, none⟩ = some (.int .i64 n) ∧ W.cell? ⟨q2, 5, none⟩ = some (.slice Aa tags.length ca) ∧ W.cell? ⟨q2, 6, none⟩ = some (.string data) ∧ W.cell? ⟨q3, 3, none⟩ = some (.int .i64 c) ∧ W.cell? ⟨q3, 4, none⟩ = some (.int .i64 n) ∧ W.cell? ⟨q3, 5, none⟩ = some (.slice Ab tags.length cb) ∧ W.cell? ⟨q3, 6, none⟩ = some (.string data)) (by kernel_rfl) ?_
  iterate 4 ((refine rt_nx [] (v := ?_) rfl (by kernel_rfl) (fun _ _ _ h => h) rfl ?_ ?_; rotate_left; focus (intro W hW; (try dsimp only at hW); go_split_ands; go_simp; (try (simp (disch := omega) only [IntWalk.i64_in]; (try go_simp))); (try (split; (next => omega); (try go_simp))); try rfl; done)); try simp only [Act.put, List.setIfInBounds_toArray, List.set_cons_zero, List.set_cons_succ, Nat.reduceAdd])
  refine rt_alloc_alloc (fun W => W.cell? ⟨q2, 3, none⟩ = some (.int .i64 c) ∧ W.cell? ⟨q2, 4, none⟩ = some (.int .i64 n) ∧ W.cell? ⟨q2, 5, none⟩ = some (.slice Aa tags.length ca) ∧ W.cell? ⟨q2, 6, none⟩ = some (.string data) ∧ W.cell? ⟨q3, 3, none⟩ = some (.int .i64 c) ∧ W.cell? ⟨q3, 4, none⟩ = some (.int .i64 n) ∧ W.cell? ⟨q3, 5, none⟩ = some (.slice Ab tags.length cb) ∧ W.cell? ⟨q3, 6, none⟩ = some (.string data)) 4 5 (T := 104) (Z := #[.int .i64 0, .int .i64 0, .slice none 0 0, .string ⟨#[]⟩]) (U := 104) (Y := #[.int .i64 0, .int .i64 0, .slice none 0 0, .string ⟨#[]⟩]) rfl rfl (by kernel_rfl) rfl rfl (fun d h => by cases h; simp) (fun W hW => HS.out W (cd.trans hW)) (fun _ h => h) (fun b W => by kernel_rfl) (fun b W => by kernel_rfl) ?_
  intro q5 q6 W1 hc1 o5 o6 hq5 hq6 hne
  try simp only [Act.put, List.setIfInBounds_toArray, List.set_cons_zero, List.set_cons_succ, Nat.reduceAdd]
  have cd1 := cd.trans hc1
  have hne2 : q6 ≠ q5 := fun e => hne e.symm
  have hq2l := lt_of_heap o2
  have hq3l := lt_of_heap o3
  have hdr : w0.drew.heap.size = w0.heap.size := rfl
  have uz0 := cell_obj (i := 0) o5 rfl
  have uf0 := free_obj (i := 0) o5
  have uz1 := cell_obj (i := 1) o5 rfl
  have uf1 := free_obj (i := 1) o5
  have uz2 := cell_obj (i := 2) o5 rfl
  have uf2 := free_obj (i := 2) o5
  have uz3 := cell_obj (i := 3) o5 rfl
  have uf3 := free_obj (i := 3) o5
  refine rt_kx (fun W => W.cell? ⟨q2, 3, none⟩ = some (.int .i64 c) ∧ W.cell? ⟨q2, 4, none⟩ = some (.int .i64 n) ∧ W.cell? ⟨q2, 5, none⟩ = some (.slice Aa tags.length ca) ∧ W.cell? ⟨q2, 6, none⟩ = some (.string data) ∧ W.cell? ⟨q3, 3, none⟩ = some (.int .i64 c) ∧ W.cell? ⟨q3, 4, none⟩ = some (.int .i64 n) ∧ W.cell? ⟨q3, 5, none⟩ = some (.slice Ab tags.length cb) ∧ W.cell? ⟨q3, 6, none⟩ = some (.string data)) 6 (by kernel_rfl) (HS.out _ cd1) (fun _ h => h) rfl (by rfl) (fun K hK => ?_)
  go_simp
  obtain ⟨o7, k7⟩ := set4 o5 (.int .i64 c) (.int .i64 n) (.slice Aa tags.length ca) (.string data)
  have cd7 := cd1.old k7 (fun i h => by simp only [At] at h; omega)
  have o67 := k7.obj o6 hne2
  generalize ((((W1.setCell ⟨q5, 0, none⟩ (.int .i64 c)).setCell ⟨q5, 1, none⟩ (.int .i64 n)).setCell ⟨q5, 2, none⟩ (.slice Aa tags.length ca)).setCell ⟨q5, 3, none⟩ (.string data)) = w7 at *
  have vz0 := cell_obj (i := 0) o67 rfl
  have vf0 := free_obj (i := 0) o67
  have vz1 := cell_obj (i := 1) o67 rfl
  have vf1 := free_obj (i := 1) o67
  have vz2 := cell_obj (i := 2) o67 rfl
  have vf2 := free_obj (i := 2) o67
  have vz3 := cell_obj (i := 3) o67 rfl
  have vf3 := free_obj (i := 3) o67
  refine hK _ _ ?_
  clear hK K
  try simp only [Act.put, List.setIfInBounds_toArray, List.set_cons_zero, List.set_cons_succ]
  refine rt_kx (fun W => W.cell? ⟨q2, 3, none⟩ = some (.int .i64 c) ∧ W.cell? ⟨q2, 4, none⟩ = some (.int .i64 n) ∧ W.cell? ⟨q2, 5, none⟩ = some (.slice Aa tags.length ca) ∧ W.cell? ⟨q2, 6, none⟩ = some (.string data) ∧ W.cell? ⟨q3, 3, none⟩ = some (.int .i64 c) ∧ W.cell? ⟨q3, 4, none⟩ = some (.int .i64 n) ∧ W.cell? ⟨q3, 5, none⟩ = some (.slice Ab tags.length cb) ∧ W.cell? ⟨q3, 6, none⟩ = some (.string data)) 7 (by kernel_rfl) (HS.out _ cd7) (fun _ h => h) rfl (by rfl) (fun K hK => ?_)
  go_simp
  obtain ⟨o8, k8⟩ := set4 o67 (.int .i64 c) (.int .i64 n) (.slice Ab tags.length cb) (.string data)
  have cd8 := cd7.old k8 (fun i h => by simp only [At] at h; omega)
  have o78 := k8.obj o7 hne
  generalize ((((w7.setCell ⟨q6, 0, none⟩ (.int .i64 c)).setCell ⟨q6, 1, none⟩ (.int .i64 n)).setCell ⟨q6, 2, none⟩ (.slice Ab tags.length cb)).setCell ⟨q6, 3, none⟩ (.string data)) = w8 at *
  refine hK _ _ ?_
  clear hK K
  try simp only [Act.put, List.setIfInBounds_toArray, List.set_cons_zero, List.set_cons_succ]
  refine rt_done (by kernel_rfl)  ?_
  have o28 := cd8.obj o2 (not_no _)
  have o38 := cd8.obj o3 (not_no _)
  clear uz0 uz1 uz2 uz3 uf0 uf1 uf2 uf3 vz0 vz1 vz2 vz3 vf0 vf1 vf2 vf3 o5 o6 o7 o67 k7 k8 cd7 cd1 hc1 HS cd o2 o3
  have xz0 := cell_obj (i := 0) o28 rfl
  have xz1 := cell_obj (i := 1) o28 rfl
  have xz2 := cell_obj (i := 2) o28 rfl
  have xz3 := cell_obj (i := 3) o28 rfl
  have xz4 := cell_obj (i := 4) o28 rfl
  have xz5 := cell_obj (i := 5) o28 rfl
  have xz6 := cell_obj (i := 6) o28 rfl
  have xz7 := cell_obj (i := 7) o28 rfl
  have xz8 := cell_obj (i := 8) o28 rfl
  have xz9 := cell_obj (i := 9) o28 rfl
  have yz0 := cell_obj (i := 0) o38 rfl
  have yz1 := cell_obj (i := 1) o38 rfl
  have yz2 := cell_obj (i := 2) o38 rfl
  have yz3 := cell_obj (i := 3) o38 rfl
  have yz4 := cell_obj (i := 4) o38 rfl
  have yz5 := cell_obj (i := 5) o38 rfl
  have yz6 := cell_obj (i := 6) o38 rfl
  have yz7 := cell_obj (i := 7) o38 rfl
  have yz8 := cell_obj (i := 8) o38 rfl
  have yz9 := cell_obj (i := 9) o38 rfl
  have sz0 := cell_obj (i := 0) o78 rfl
  have sz1 := cell_obj (i := 1) o78 rfl
  have sz2 := cell_obj (i := 2) o78 rfl
  have sz3 := cell_obj (i := 3) o78 rfl
  have tz0 := cell_obj (i := 0) o8 rfl
  have tz1 := cell_obj (i := 1) o8 rfl
  have tz2 := cell_obj (i := 2) o8 rfl
  have tz3 := cell_obj (i := 3) o8 rfl
  go_wp2_with (with_reducible first | refine stop_append ?_ | refine stop_copy ?_ | refine stop_make ?_ | refine stop_lookup ?_ | refine stop_update ?_ | refine stop_slice ?_ | refine stop_range ?_ | refine stop_next ?_ | refine stop_convert ⟨_, rfl⟩ ?_ | refine stop_convertB ⟨_, _, _, rfl⟩ ?_ | refine stop_eqSlice ⟨_, _, rfl⟩ ?_)
  refine (Heq.out _ (hc0.trans cd8)).mono ?_
  rintro e w9 ⟨rfl, hc9⟩
  go_wp2_with (with_reducible first | refine stop_append ?_ | refine stop_copy ?_ | refine stop_make ?_ | refine stop_lookup ?_ | refine stop_update ?_ | refine stop_slice ?_ | refine stop_range ?_ | refine stop_next ?_ | refine stop_convert ⟨_, rfl⟩ ?_ | refine stop_convertB ⟨_, _, _, rfl⟩ ?_ | refine stop_eqSlice ⟨_, _, rfl⟩ ?_)
  go_ret
  exact ⟨rfl, (hc0.trans cd8).trans hc9⟩
end Go.Proofs.Ytbjpoamnglfjeaa


/- Walks of the register's laws: alive. -/
set_option linter.unusedVariables false
set_option linter.unusedSimpArgs false
namespace Go.Proofs.Ytbjpoamnglfjeaa
open Go.RowKit Cb

theorem num1_sl (w : World) (x : Int) (T : TypeId) : Sl No (w.alloc (.cells #[.int .i64 x] T)) (.slice (some ⟨w.heap.size, 0, none⟩) 1 1) [x] :=
  Sl.lit1 (F := No) (y := x) rfl rfl (not_no _)
def arW (w : World) (T U : TypeId) : World := ((w.alloc (.cells #[.int .i64 0] T)).alloc (.cells #[.int .i64 1] T)).alloc (.cells #[.slice (some ⟨w.heap.size + 1, 0, none⟩) 1 1] U)
theorem ar_world (w : World) (T U : TypeId) : Sl No (arW w T U) (.slice (some ⟨w.heap.size, 0, none⟩) 1 1) [(0 : Int)] ∧ Sl No (arW w T U) (.slice (some ⟨w.heap.size + 1 + 1, 0, none⟩) 1 1) [[(1 : Int)]] ∧ Chg No w (arW w T U) ∧ (arW w T U).heap.size = w.heap.size + 1 + 1 + 1 := by
  have h1 := num1_sl w 0 T
  have h2 := num1_sl (w.alloc (.cells #[.int .i64 0] T)) 1 T
  simp only [World.size_alloc] at h2
  have h1 := (h1.keepNo ((Chg.refl No _).alloc (.cells #[.int .i64 1] T))).keepNo ((Chg.refl No _).alloc (.cells #[.slice (some ⟨w.heap.size + 1, 0, none⟩) 1 1] U))
  have h3 := Sl.lit1 (F := No) (w := (w.alloc (.cells #[.int .i64 0] T)).alloc (.cells #[.int .i64 1] T)) (T := U) (y := [(1 : Int)]) (d := [.slice (some ⟨w.heap.size + 1, 0, none⟩) 1 1]) rfl ⟨_, rfl, h2⟩ (not_no _)
  simp only [World.size_alloc] at h3
  exact ⟨h1, h3, (((Chg.refl No w).alloc _).alloc _).alloc _, by simp [arW]⟩
def arR0 : List Rw := [(1, [0], [[1]], [], false)]
theorem ar_right : rightC 1 [0] [[1]] = true := by kernel_rfl
theorem ar_rows0 : RowsI arR0 := ⟨by decide, by decide, fun i h => by
  match i, h with
  | 0, _ => exact ⟨rfl, ar_right, by simp [arR0, TailB]⟩⟩
end Go.Proofs.Ytbjpoamnglfjeaa


/- Walks of the replay's laws: alive. -/
set_option linter.unusedVariables false
set_option linter.unusedSimpArgs false
namespace Go.Proofs.Ytbjpoamnglfjeaa
open Go.RowKit Cb

def apL : List Ent := [(1, 1, [1], 0, 0, 0)]
def ap1 : RSt := ⟨1, 0, 0, fun x => if x = 1 then apL else [], none⟩
def ap2 : RSt := (roundF arR0 true ap1).1
def ap3 : RSt := (roundF arR0 false ap2).1
def apX : Itm := (1, (1, 0), ((1, 0), [1], ⟨#[120]⟩), 0, (0, 0))
theorem ap_feed : feedF ⟨1, 0, 0, fun _ => [], none⟩ 1 1 apL = (ap1, 0) := by
  unfold feedF fedSt
  rw [if_pos (by kernel_rfl), if_neg (by simp [apL])]
  rfl
theorem ap_s1 : StepR arR0 true ap1 ap2 (itm0, 91) := stepR_of (by
  have : (roundF arR0 true ap1).2 = some (itm0, 91) := by kernel_rfl
  exact Prod.ext rfl this)
theorem ap_s2 : StepR arR0 false ap2 ap3 (apX, 0) := stepR_of (by
  have : (roundF arR0 false ap2).2 = some (apX, 0) := by kernel_rfl
  exact Prod.ext rfl this)
theorem ap_s3 : StepR arR0 false ap3 (roundF arR0 false ap3).1 (itm0, 161) := stepR_of (by
  have : (roundF arR0 false ap3).2 = some (itm0, 161) := by kernel_rfl
  exact Prod.ext rfl this)
theorem apl_sl (w : World) (n : Nat) (hn : w.heap.size = n) (T U : TypeId) : Sl No ((w.alloc (.cells #[.int .i64 1] T)).alloc (.cells #[.int .i64 1, .int .i64 1, .slice (some ⟨n, 0, none⟩) 1 1, .int .i64 0, .int .i64 0, .int .i64 0] U)) (.slice (some ⟨n + 1, 0, none⟩) 1 1) apL ∧
    Chg No w ((w.alloc (.cells #[.int .i64 1] T)).alloc (.cells #[.int .i64 1, .int .i64 1, .slice (some ⟨n, 0, none⟩) 1 1, .int .i64 0, .int .i64 0, .int .i64 0] U)) := by
  subst hn
  have h1 := num1_sl w 1 T
  have h3 := Sl.lit1 (F := No) (w := w.alloc (.cells #[.int .i64 1] T)) (T := U) (y := ((1, 1, [1], 0, 0, 0) : Ent)) (d := entC (1, 1, [1], 0, 0, 0) (.slice (some ⟨w.heap.size, 0, none⟩) 1 1)) rfl (ent_mk _ h1) (not_no _)
  simp only [World.size_alloc] at h3
  exact ⟨h3, ((Chg.refl No w).alloc _).alloc _⟩
set_option maxRecDepth 100000 in
set_option maxHeartbeats 4000000 in
theorem palive_any (w : World) : Calls Try.prog 47 #[] w fun e w' => e = .returned (.bool true) ∧ Chg No w w' := by
  obtain ⟨hq, hs, hc0, hz0⟩ := ar_world w 3 46
  have hN := Lib.hid (new_yes 1 _ _ [0] [[1]] _ hq hs ar_right)
  have hP := Lib.hid (fun W => rpnew_yes 1 W (by omega) (by omega))
  unfold cfgV at hN
  unfold arW at *
  clear hq hs hz0
  go_enter Try.func47, Try.ntmps47
  go_wp2_with (with_reducible first | refine stop_append ?_ | refine stop_copy ?_ | refine stop_make ?_ | refine stop_lookup ?_ | refine stop_update ?_ | refine stop_slice ?_ | refine stop_range ?_ | refine stop_next ?_ | refine stop_convert ⟨_, rfl⟩ ?_ | refine stop_convertB ⟨_, _, _, rfl⟩ ?_ | refine stop_eqSlice ⟨_, _, rfl⟩ ?_)
  generalize (((w.alloc (.cells #[.int .i64 0] 3)).alloc (.cells #[.int .i64 1] 3)).alloc (.cells #[.slice (some ⟨w.heap.size + 1, 0, none⟩) 1 1] 46)) = w1 at *
  refine hN.out.mono ?_
  rintro e w2 ⟨p, rfl, hc2, hreg⟩
  have hrn := hreg.regN
  have hcw2 := hc0.trans hc2
  clear hN hreg
  go_wp2_with (with_reducible first | refine stop_append ?_ | refine stop_copy ?_ | refine stop_make ?_ | refine stop_lookup ?_ | refine stop_update ?_ | refine stop_slice ?_ | refine stop_range ?_ | refine stop_next ?_ | refine stop_convert ⟨_, rfl⟩ ?_ | refine stop_convertB ⟨_, _, _, rfl⟩ ?_ | refine stop_eqSlice ⟨_, _, rfl⟩ ?_)
  refine (hP.out w2).mono ?_
  rintro e w3 ⟨pr, rfl, hc3, hrep⟩
  have hcw3 := hcw2.trans hc3
  have hrn3 := hrn.keepNo hc3
  obtain ⟨hl5, h35⟩ := apl_sl w3 w3.heap.size rfl 3 58
  have hrep5 := hrep.keepNo h35
  have hrn5 := hrn3.keepNo h35
  have hcw5 := hcw3.trans h35
  have HF := Lib.hid (show Calls Try.prog 49 #[.pointer (some ⟨pr, 0, none⟩), .pointer (some ⟨p, 0, none⟩), .int .i64 1, .slice (some ⟨w3.heap.size + 1, 0, none⟩) 1 1] ((w3.alloc (.cells #[.int .i64 1] 3)).alloc (.cells #[.int .i64 1, .int .i64 1, .slice (some ⟨w3.heap.size, 0, none⟩) 1 1, .int .i64 0, .int .i64 0, .int .i64 0] 58)) fun e w' => e = .returned (.int .i64 0) ∧ Chg (fun k => w2.heap.size ≤ k ∧ k < w3.heap.size) ((w3.alloc (.cells #[.int .i64 1] 3)).alloc (.cells #[.int .i64 1, .int .i64 1, .slice (some ⟨w3.heap.size, 0, none⟩) 1 1, .int .i64 0, .int .i64 0, .int .i64 0] 58)) w' ∧ Rpl w' (Up (fun k => w2.heap.size ≤ k ∧ k < w3.heap.size) ((w3.alloc (.cells #[.int .i64 1] 3)).alloc (.cells #[.int .i64 1, .int .i64 1, .slice (some ⟨w3.heap.size, 0, none⟩) 1 1, .int .i64 0, .int .i64 0, .int .i64 0] 58)) w') pr ap1 by
    have := feed_at _ pr w1.heap.size p _ _ arR0 apL 0 1 1 _ hrep5 hrn5.toS ar_rows0 (by decide) rfl hl5 (by decide) (by unfold cutsB; decide) rfl rfl rfl
    rw [ap_feed] at this
    exact this)
  clear hrep hrn hl5
  go_wp2_with (with_reducible first | refine stop_append ?_ | refine stop_copy ?_ | refine stop_make ?_ | refine stop_lookup ?_ | refine stop_update ?_ | refine stop_slice ?_ | refine stop_range ?_ | refine stop_next ?_ | refine stop_convert ⟨_, rfl⟩ ?_ | refine stop_convertB ⟨_, _, _, rfl⟩ ?_ | refine stop_eqSlice ⟨_, _, rfl⟩ ?_)
  generalize ((w3.alloc (.cells #[.int .i64 1] 3)).alloc (.cells #[.int .i64 1, .int .i64 1, .slice (some ⟨w3.heap.size, 0, none⟩) 1 1, .int .i64 0, .int .i64 0, .int .i64 0] 58)) = w5 at *
  refine HF.out.mono ?_
  rintro e w6 ⟨rfl, hc6, hrep6⟩
  have h2w5 : w2.heap.size ≤ w5.heap.size := by have := hc3.size; have := h35.size; omega
  have hS6 : ∀ b, Up (fun k => w2.heap.size ≤ k ∧ k < w3.heap.size) w5 w6 b → w2.heap.size ≤ b := fun b s => by rcases s with s | s; exact s.1; omega
  have hrn6 := hrn5.keep hc6 (fun b _ s => s.1)
  have hcw6 : Chg No w w6 := hcw5.old hc6 (fun b s => by have := hcw2.size; omega)
  have hw2 := hcw2.size
  generalize Up (fun k => w2.heap.size ≤ k ∧ k < w3.heap.size) w5 w6 = S6 at *
  have H7 := Lib.hid (step_bad _ pr w1.heap.size w2.heap.size p ap1 arR0 w6 hrep6 hrn6 ar_rows0 hS6 (by decide) (by decide))
  clear HF hP hrep6 hrep5
  go_wp2_with (with_reducible first | refine stop_append ?_ | refine stop_copy ?_ | refine stop_make ?_ | refine stop_lookup ?_ | refine stop_update ?_ | refine stop_slice ?_ | refine stop_range ?_ | refine stop_next ?_ | refine stop_convert ⟨_, rfl⟩ ?_ | refine stop_convertB ⟨_, _, _, rfl⟩ ?_ | refine stop_eqSlice ⟨_, _, rfl⟩ ?_)
  refine H7.out.mono ?_
  rintro e w7 ⟨st7, out7, v7, S7, hst7, rfl, hc7, hrep7, hSS7, hv7, -, -, -⟩
  obtain ⟨rfl, rfl⟩ := stepR_det hst7 ap_s1
  clear H7 hst7
  obtain ⟨A7, d7, rfl⟩ := hv7.slice
  simp only [itmV, itm0] at hv7 ⊢
  rw [show ([] : List Int).length = 0 from rfl]
  have hS7 : ∀ b, S7 b → w2.heap.size ≤ b := fun b s => by rcases hSS7 b s with s | s; exact hS6 b s; (have := hc6.size; omega)
  have hrn7 := hrn6.keep hc7 (fun b _ s => hS6 b s)
  have hcw7 : Chg No w w7 := hcw6.old hc7 (fun b s => by have := hS6 b s; omega)
  have c8 := (Chg.refl No w7).alloc (.cells #[.int .i64 0, .int .i64 0, .int .i64 0, .int .i64 0, .int .i64 0, .slice A7 0 d7, .string ⟨#[]⟩, .int .i64 0, .int .i64 0, .int .i64 0] 106)
  have hrep8 := hrep7.keepNo c8
  have hrn8 := hrn7.keepNo c8
  have hcw8 := hcw7.trans c8
  have H9 := Lib.hid (step_good _ pr w1.heap.size w2.heap.size p ap2 arR0 _ hrep8 hrn8 ar_rows0 hS7 (by decide +kernel) (by decide +kernel))
  clear hv7 hrep7
  go_wp2_with (with_reducible first | refine stop_append ?_ | refine stop_copy ?_ | refine stop_make ?_ | refine stop_lookup ?_ | refine stop_update ?_ | refine stop_slice ?_ | refine stop_range ?_ | refine stop_next ?_ | refine stop_convert ⟨_, rfl⟩ ?_ | refine stop_convertB ⟨_, _, _, rfl⟩ ?_ | refine stop_eqSlice ⟨_, _, rfl⟩ ?_)
  generalize w7.alloc (.cells #[.int .i64 0, .int .i64 0, .int .i64 0, .int .i64 0, .int .i64 0, .slice A7 0 d7, .string ⟨#[]⟩, .int .i64 0, .int .i64 0, .int .i64 0] 106) = w8 at *
  refine H9.out.mono ?_
  rintro e w9 ⟨st9, out9, v9, S9, hst9, rfl, hc9, hrep9, hSS9, hv9, -, -, -⟩
  obtain ⟨rfl, rfl⟩ := stepR_det hst9 ap_s2
  clear H9 hst9
  obtain ⟨A9, d9, rfl⟩ := hv9.slice
  simp only [itmV, apX] at hv9 ⊢
  rw [show ([1] : List Int).length = 1 from rfl] at hv9 ⊢
  have hS9 : ∀ b, S9 b → w2.heap.size ≤ b := fun b s => by rcases hSS9 b s with s | s; exact hS7 b s; (have := hc6.size; have := hc7.size; have := c8.size; omega)
  have hrn9 := hrn8.keep hc9 (fun b _ s => hS7 b s)
  have hcw9 : Chg No w w9 := hcw8.old hc9 (fun b s => by have := hS7 b s; omega)
  have c10 := (Chg.refl No w9).alloc (.cells #[.int .i64 1, .int .i64 1, .int .i64 0, .int .i64 1, .int .i64 0, .slice A9 1 d9, .string ⟨#[120]⟩, .int .i64 0, .int .i64 0, .int .i64 0] 106)
  have o10 := alloc_obj w9 (.cells #[.int .i64 1, .int .i64 1, .int .i64 0, .int .i64 1, .int .i64 0, .slice A9 1 d9, .string ⟨#[120]⟩, .int .i64 0, .int .i64 0, .int .i64 0] 106)
  have hrep10 := hrep9.keepNo c10
  have hrn10 := hrn9.keepNo c10
  have hcw10 := hcw9.trans c10
  have hv10 := (hv9.weak (G := S9) (fun b _ s => .inr s)).keepNo c10
  have hq10 : ¬ S9 w9.heap.size := fun s => by have := hrep9.lt _ s; omega
  have H11 := Lib.hid (step_good _ pr w1.heap.size w2.heap.size p ap3 arR0 _ hrep10 hrn10 ar_rows0 hS9 (by decide +kernel) (by decide +kernel))
  clear hv9 hrep9
  go_wp2_with (with_reducible first | refine stop_append ?_ | refine stop_copy ?_ | refine stop_make ?_ | refine stop_lookup ?_ | refine stop_update ?_ | refine stop_slice ?_ | refine stop_range ?_ | refine stop_next ?_ | refine stop_convert ⟨_, rfl⟩ ?_ | refine stop_convertB ⟨_, _, _, rfl⟩ ?_ | refine stop_eqSlice ⟨_, _, rfl⟩ ?_)
  generalize w9.alloc (.cells #[.int .i64 1, .int .i64 1, .int .i64 0, .int .i64 1, .int .i64 0, .slice A9 1 d9, .string ⟨#[120]⟩, .int .i64 0, .int .i64 0, .int .i64 0] 106) = w10 at *
  generalize w9.heap.size = q10 at *
  refine H11.out.mono ?_
  rintro e w11 ⟨st11, out11, v11, S11, hst11, rfl, hc11, hrep11, hSS11, hv11, -, -, -⟩
  obtain ⟨rfl, rfl⟩ := stepR_det hst11 ap_s3
  clear H11 hst11
  obtain ⟨A11, d11, rfl⟩ := hv11.slice
  simp only [itmV, itm0] at hv11 ⊢
  rw [show ([] : List Int).length = 0 from rfl]
  have hcw11 : Chg No w w11 := hcw10.old hc11 (fun b s => by have := hS9 b s; omega)
  have o11 := hc11.obj o10 hq10
  have hv12 := hv10.keep hc11
  have c12 := (Chg.refl No w11).alloc (.cells #[.int .i64 0, .int .i64 0, .int .i64 0, .int .i64 0, .int .i64 0, .slice A11 0 d11, .string ⟨#[]⟩, .int .i64 0, .int .i64 0, .int .i64 0] 106)
  have o12 := c12.obj o11 (not_no _)
  have hcw12 := hcw11.trans c12
  have HQ := Lib.hid (isame_yes S9 S9 apX (.slice A9 1 d9) (.slice A9 1 d9) _ (hv12.keepNo c12) (hv12.keepNo c12) (by decide))
  simp only [itmV, apX] at HQ
  have z0 := cell_obj (i := 0) o12 rfl
  have z1 := cell_obj (i := 1) o12 rfl
  have z2 := cell_obj (i := 2) o12 rfl
  have z3 := cell_obj (i := 3) o12 rfl
  have z4 := cell_obj (i := 4) o12 rfl
  have z5 := cell_obj (i := 5) o12 rfl
  have z6 := cell_obj (i := 6) o12 rfl
  have z7 := cell_obj (i := 7) o12 rfl
  have z8 := cell_obj (i := 8) o12 rfl
  have z9 := cell_obj (i := 9) o12 rfl
  clear hv10 hv12 hrep11 o10 o11 hrep10
  go_wp2_with (with_reducible first | refine stop_append ?_ | refine stop_copy ?_ | refine stop_make ?_ | refine stop_lookup ?_ | refine stop_update ?_ | refine stop_slice ?_ | refine stop_range ?_ | refine stop_next ?_ | refine stop_convert ⟨_, rfl⟩ ?_ | refine stop_convertB ⟨_, _, _, rfl⟩ ?_ | refine stop_eqSlice ⟨_, _, rfl⟩ ?_)
  refine HQ.out.mono ?_
  rintro e w13 ⟨rfl, hc13⟩
  go_wp2_with (with_reducible first | refine stop_append ?_ | refine stop_copy ?_ | refine stop_make ?_ | refine stop_lookup ?_ | refine stop_update ?_ | refine stop_slice ?_ | refine stop_range ?_ | refine stop_next ?_ | refine stop_convert ⟨_, rfl⟩ ?_ | refine stop_convertB ⟨_, _, _, rfl⟩ ?_ | refine stop_eqSlice ⟨_, _, rfl⟩ ?_)
  go_ret
  exact ⟨rfl, hcw12.trans hc13⟩
end Go.Proofs.Ytbjpoamnglfjeaa


/- Walk of the law ReplayFails. -/
set_option linter.unusedVariables false
set_option linter.unusedSimpArgs false
namespace Go.Proofs.Ytbjpoamnglfjeaa
open Go.RowKit Cb

theorem Rpl.tb {w : World} {S : Nat → Prop} {p : Nat} {st : RSt} (h : Rpl w S p st) : ∀ t, TailB (st.fed t) := by obtain ⟨_, _, _, _, h⟩ := h; exact h.tb
/-- Two replays, and nothing of the one is the other's. -/
structure Two (n : Nat) (w : World) (pa pb : Nat) (sa sb : RSt) (Sa Sb : Nat → Prop) : Prop where
  a : Rpl w Sa pa sa
  b : Rpl w Sb pb sb
  dis : ∀ b, Sa b → ¬ Sb b
  na : ∀ b, Sa b → n ≤ b
  nb : ∀ b, Sb b → n ≤ b
  lt : n ≤ w.heap.size
theorem Two.no {n : Nat} {w w' : World} {pa pb : Nat} {sa sb : RSt} {Sa Sb : Nat → Prop} (h : Two n w pa pb sa sb Sa Sb) (hc : Chg No w w') : Two n w' pa pb sa sb Sa Sb :=
  ⟨h.a.keepNo hc, h.b.keepNo hc, h.dis, h.na, h.nb, Nat.le_trans h.lt hc.size⟩
theorem Two.keep {n : Nat} {w w' : World} {pa pb : Nat} {sa sb : RSt} {Sa Sb G : Nat → Prop} (h : Two n w pa pb sa sb Sa Sb) (hc : Chg G w w') (hG : ∀ b, G b → ¬ Sa b ∧ ¬ Sb b) : Two n w' pa pb sa sb Sa Sb :=
  ⟨h.a.keep hc (fun b _ g => (hG b g).1), h.b.keep hc (fun b _ g => (hG b g).2), h.dis, h.na, h.nb, Nat.le_trans h.lt hc.size⟩
theorem op16_mk {F : Nat → Prop} {w : World} {v : Value} {l : List Ent} (h : Sl F w v l) : Rep.cs F w ((0, 0, ((0, [], []), []), l, false) : Op16) [.int .i64 0, .int .i64 0, .int .i64 0, .slice none 0 0, .slice none 0 0, .slice none 0 0, v, .bool false] :=
  ⟨[_], [_, _, _, _, _, _, _], rfl, rfl, [_], [_, _, _, _, _, _], rfl, rfl, [_, _, _, _], [_, _], rfl, ⟨[_, _, _], [_], rfl, ⟨[_], [_, _], rfl, rfl, [_], [_], rfl, ⟨_, rfl, Sl.nil _ _ _ _⟩, _, rfl, Sl.nil _ _ _ _⟩, _, rfl, Sl.nil _ _ _ _⟩, [_], [_], rfl, ⟨_, rfl, h⟩, rfl⟩
end Go.Proofs.Ytbjpoamnglfjeaa


/- Plain laws of a replay's steps: each comes nearer to the end. -/
set_option linter.unusedVariables false
set_option linter.unusedSimpArgs false
namespace Go.Proofs.Ytbjpoamnglfjeaa
open Go.RowKit Cb

section
variable {rows : List Rw} {bad : Bool}
structure OkS (rows : List Rw) (st : RSt) : Prop where
  tb : ∀ t, TailB (st.fed t)
  inv : ∀ o, st.o = some o → ∃ sh, Cb.Inv sh o
  ent : st.ent ≤ 2199023255488
  lo : 1 ≤ st.term
  hi : st.term ≤ curR rows
  cnt : st.cnt ≤ 1000000
def muS (rows : List Rw) (st : RSt) : Nat := (curR rows - st.term).toNat * 2199025454512255489 + (2199023255488 - st.ent) * 1000001 + (1000000 - st.cnt)
theorem known_inv {st : RSt} (hi : RowsI rows) (hok : OkS rows st) : ∀ o, (knownF rows st).2.2.2.o = some o → ∃ sh, Cb.Inv sh o := by
  intro o ho
  unfold knownF at ho
  cases hat : atR rows st.term with
  | none => rw [hat] at ho; exact hok.inv o ho
  | some i =>
    rw [hat] at ho
    obtain ⟨hlt, hti⟩ := atR_some hi.1 hat
    obtain ⟨-, hr, -⟩ := hi.2.2 i hlt
    obtain ⟨-, h8, -⟩ := right_small hr
    have h1 : 1 ≤ rows[i].2.2.1.length := (rightC_iff.1 hr).2.2.1.1
    simp only [rowA_get rows i hlt] at ho
    have : o = st.o.getD (newF rows[i].2.2.1.length) := by
      unfold knownG at ho
      simp only at ho
      split at ho
      · split at ho <;> (simp only [Option.some.injEq] at ho; exact ho.symm)
      · simp only [Option.some.injEq] at ho; exact ho.symm
    cases hso : st.o with
    | none => rw [hso] at this; rw [this]; exact ⟨_, inv_new _ h1 h8⟩
    | some o2 => rw [hso] at this; rw [this]; exact hok.inv o2 hso
theorem inv_ordF {sh : Nat} {o : OSt} (h : Cb.Inv sh o) (i : Nat) (e : Ent) : Cb.Inv sh (ordF o i e) := by
  unfold ordF; split; exact inv_add h e; exact h
theorem inv_len {sh : Nat} {o : OSt} (h : Cb.Inv sh o) : 0 ≤ o.len ∧ o.len ≤ 1000000 := by rw [h.olen]; exact ⟨(vright_sum h.right).1, h.tot⟩
theorem round_ok {st st' : RSt} {r : Option (Itm × Int)} (hi : RowsI rows) (hok : OkS rows st) (h : roundF rows bad st = (st', r)) :
    OkS rows st' ∧ (r = none → muS rows st' < muS rows st) ∧ (∀ x, r = some (x, 0) → muS rows st' < muS rows st) ∧ muS rows st' ≤ muS rows st := by
  have hk := known_kn hi hok.tb
  have hinv := known_inv hi hok
  unfold roundF roundK at h
  rcases hkk : knownF rows st with ⟨l, over, code, ⟨t2, e2, c2, f2, o2⟩⟩
  rw [hkk] at h hk hinv
  obtain ⟨ktail, kterm, kent, kcnt, kfed, kyes⟩ := hk
  simp only at ktail kterm kent kcnt kfed kyes h hinv
  subst kterm kent kcnt kfed
  have hok2 : OkS rows ⟨st.term, st.ent, st.cnt, st.fed, o2⟩ := ⟨hok.tb, hinv, hok.ent, hok.lo, hok.hi, hok.cnt⟩
  have hmu : muS rows ⟨st.term, st.ent, st.cnt, st.fed, o2⟩ = muS rows st := rfl
  have h1 := hok.ent
  have h2 := hok.cnt
  have h3 := hok.lo
  have h4 := hok.hi
  split at h
  · rename_i hc
    cases h
    exact ⟨hok2, fun h => (by cases h), fun x h => absurd (by simpa using h) (fun e : _ ∧ code = 0 => hc e.2), Nat.le_of_eq hmu⟩
  · rename_i hc
    split at h
    · rename_i hle
      split at h
      · rename_i hov
        cases h
        have hlt : muS rows ⟨st.term + 1, 0, 0, st.fed, none⟩ < muS rows st := by
          have := hov.2
          unfold muS
          simp only
          omega
        exact ⟨⟨hok.tb, fun o h => (by cases h), by simp only; omega, by simp only; omega, by have := hov.2; simp only; omega, by simp⟩, fun _ => hlt, fun _ _ => hlt, Nat.le_of_lt hlt⟩
      · cases h
        exact ⟨hok2, fun h => (by cases h), fun x h => (by simp at h), Nat.le_of_eq hmu⟩
    · rename_i hle
      have hlt : st.ent < 2199023255488 := by have := ktail.1; omega
      obtain ⟨o, ho⟩ := kyes (by simpa using hc)
      subst ho
      obtain ⟨sh, hI⟩ := hinv o rfl
      generalize entF l st.ent = e at h
      unfold roundG at h
      simp only [Option.getD_some] at h
      have hI1 := inv_ordF hI st.ent e
      generalize ordF o st.ent e = o1 at h hI1
      have hl1 := inv_len hI1
      have hok3 : ∀ k, k ≤ 2199023255488 → OkS rows ⟨st.term, k, st.cnt, st.fed, some o1⟩ := fun k hk => ⟨hok.tb, fun o h => (by cases h; exact ⟨sh, hI1⟩), hk, hok.lo, hok.hi, hok.cnt⟩
      have hmu1 : muS rows ⟨st.term, st.ent + 1, st.cnt, st.fed, some o1⟩ < muS rows st := by unfold muS; simp only; omega
      split at h
      · cases h
        exact ⟨hok3 _ (by omega), fun h => (by cases h), fun _ _ => hmu1, Nat.le_of_lt hmu1⟩
      · split at h
        · rename_i hcl
          split at h
          · cases h
            exact ⟨hok3 _ hok.ent, fun h => (by cases h), fun x h => (by simp at h), Nat.le_of_eq rfl⟩
          · cases h
            have hlt2 : muS rows (toldSt ⟨st.term, st.ent, st.cnt, st.fed, some o1⟩ o1) < muS rows st := by
              unfold muS toldSt
              simp only
              split <;> omega
            refine ⟨⟨hok.tb, fun o h => (by cases h; exact ⟨sh, hI1⟩), ?_, hok.lo, hok.hi, ?_⟩, fun h => (by cases h), fun _ _ => hlt2, Nat.le_of_lt hlt2⟩
            · unfold toldSt; simp only; split <;> omega
            · unfold toldSt; simp only; omega
        · cases h
          exact ⟨hok3 _ (by omega), fun _ => hmu1, fun x h => (by cases h), Nat.le_of_lt hmu1⟩
theorem runs_ok {st st' : RSt} (hi : RowsI rows) (hok : OkS rows st) (h : Runs rows bad st st') : OkS rows st' ∧ muS rows st' ≤ muS rows st := by
  induction h with
  | refl => exact ⟨hok, Nat.le_refl _⟩
  | step _ h2 ih =>
    obtain ⟨a, _, _, b⟩ := round_ok hi ih.1 h2
    exact ⟨a, Nat.le_trans b ih.2⟩
theorem step_ok {st st' : RSt} {out : Itm × Int} (hi : RowsI rows) (hok : OkS rows st) (h : StepR rows bad st st' out) : OkS rows st' ∧ (out.2 = 0 → muS rows st' < muS rows st) := by
  obtain ⟨a, ha, h1⟩ := h
  obtain ⟨h2, h3⟩ := runs_ok hi hok ha
  obtain ⟨h4, _, h5, _⟩ := round_ok hi h2 h1
  exact ⟨h4, fun h0 => Nat.lt_of_lt_of_le (h5 out.1 (by rw [← h0])) h3⟩
/-- Items that are told one behind the other. -/
inductive Told (rows : List Rw) : RSt → List Itm → RSt → Prop
  | nil (st : RSt) : Told rows st [] st
  | snoc {a b c : RSt} {xs : List Itm} {x : Itm} : Told rows a xs b → StepR rows false b c (x, 0) → Told rows a (xs ++ [x]) c
theorem told_ok {st st' : RSt} {xs : List Itm} (hi : RowsI rows) (hok : OkS rows st) (h : Told rows st xs st') : OkS rows st' := by
  induction h with
  | nil => exact hok
  | snoc _ h2 ih => exact (step_ok hi ih h2).1
end
end Go.Proofs.Ytbjpoamnglfjeaa


/- Walks of package replay: All. -/
set_option linter.unusedVariables false
set_option linter.unusedSimpArgs false
namespace Go.Proofs.Ytbjpoamnglfjeaa
open Go.RowKit Cb

def itmC (x : Itm) (vt : Value) : List Value := [.int .i64 x.1, .int .i64 x.2.1.1, .int .i64 x.2.1.2, .int .i64 x.2.2.1.1.1, .int .i64 x.2.2.1.1.2, vt, .string x.2.2.1.2.2, .int .i64 x.2.2.2.1, .int .i64 x.2.2.2.2.1, .int .i64 x.2.2.2.2.2]
theorem itm_mk {F : Nat → Prop} {w : World} (x : Itm) {vt : Value} (h : Sl F w vt x.2.2.1.2.1) : Rep.cs F w x (itmC x vt) :=
  ⟨[_], [_, _, _, _, _, _, _, _, _], rfl, rfl, [_, _], [_, _, _, _, _, _, _], rfl, ⟨[_], [_], rfl, rfl, rfl⟩, [_, _, _, _], [_, _, _], rfl, ⟨[_, _], [_, _], rfl, ⟨[_], [_], rfl, rfl, rfl⟩, [_], [_], rfl, ⟨_, rfl, h⟩, rfl⟩, [_], [_, _], rfl, rfl, [_], [_], rfl, rfl, rfl⟩
theorem info_itm : Info Try.prog 106 (.agg #[.int .i64 0, .int .i64 0, .int .i64 0, .int .i64 0, .int .i64 0, .slice none 0 0, .string ⟨#[]⟩, .int .i64 0, .int .i64 0, .int .i64 0]) 10 104 := by unfold Info; kernel_rfl
theorem own_weakl {α : Type} [Rep α] {F G : Nat → Prop} {w : World} {base : Nat} {T : TypeId} {v : Value} {xs : List α} (h : Cb.Own F w base T v xs) (hG : ∀ b, b < w.heap.size → G b → F b) : Cb.Own G w base T v xs := by
  obtain ⟨ds, h1, h2, h3⟩ := h
  exact ⟨ds, h1, fun i hi hi' => Rep.weak (h2 i hi hi') (fun b hb g => g.imp (hG b hb) id), h3⟩
def muW (rows : List Rw) (p : Nat) (w : World) : Nat := (curR rows - cellI w p 0).toNat * 2199025454512255489 + (2199023255488 - (cellI w p 1).toNat) * 1000001 + (1000000 - (cellI w p 2).toNat)
theorem muW_of {rows : List Rw} {p : Nat} {w : World} {S : Nat → Prop} {st : RSt} (h : Rpl w S p st) : muW rows p w = muS rows st := by
  obtain ⟨So, r, m, ov, h⟩ := h
  unfold muW muS
  rw [cellI_of (cell_obj (i := 0) h.obj rfl), cellI_of (cell_obj (i := 1) h.obj rfl), cellI_of (cell_obj (i := 2) h.obj rfl)]
  simp
def AllPost (rows : List Rw) (st : RSt) (S : Nat → Prop) (p : Nat) (w : World) (e : Ending) (w' : World) : Prop :=
  ∃ xs st1 st2 x code v S', Told rows st xs st1 ∧ StepR rows false st1 st2 (x, code) ∧ code ≠ 0 ∧ e = .returned (.tuple #[v, .int .i64 code]) ∧ Sl (fun b => b < w.heap.size ∨ S' b) w' v xs ∧ Chg S w w' ∧ Rpl w' S' p st2 ∧ (∀ b, S' b → S b ∨ w.heap.size ≤ b) ∧ xs.length ≤ 1000000000
set_option maxRecDepth 100000 in
set_option maxHeartbeats 8000000 in
theorem all_any (S : Nat → Prop) (p B n g : Nat) (st : RSt) (rows : List Rw) (w : World) (h : Rpl w S p st) (hreg : RegN B n w g rows) (hi : RowsI rows) (hSn : ∀ k, S k → n ≤ k) (hok : OkS rows st) (hlen : ∀ xs s, Told rows st xs s → xs.length ≤ 1000000000) :
    Calls Try.prog 55 #[.pointer (some ⟨p, 0, none⟩), .pointer (some ⟨g, 0, none⟩), .func (.func 53) #[] #[]] w (AllPost rows st S p w) := by
  have Hi := Lib.hid hi
  have Hok := Lib.hid hok
  have Hlen := Lib.hid hlen
  have hlt := h.lt
  have hnw := hreg.2.1
  clear hi hok hlen
  go_enter Try.func55, Try.ntmps55
  go_wp2_with (with_reducible first | refine stop_append ?_ | refine stop_copy ?_ | refine stop_make ?_ | refine stop_lookup ?_ | refine stop_update ?_ | refine stop_slice ?_ | refine stop_range ?_ | refine stop_next ?_ | refine stop_convert ⟨_, rfl⟩ ?_ | refine stop_convertB ⟨_, _, _, rfl⟩ ?_ | refine stop_eqSlice ⟨_, _, rfl⟩ ?_)
  refine wp_scope_straight ?_
  go_wp2_with (with_reducible first | refine stop_append ?_ | refine stop_copy ?_ | refine stop_make ?_ | refine stop_lookup ?_ | refine stop_update ?_ | refine stop_slice ?_ | refine stop_range ?_ | refine stop_next ?_ | refine stop_convert ⟨_, rfl⟩ ?_ | refine stop_convertB ⟨_, _, _, rfl⟩ ?_ | refine stop_eqSlice ⟨_, _, rfl⟩ ?_)
  refine wp_label ?_
  go_wp2_with (with_reducible first | refine stop_append ?_ | refine stop_copy ?_ | refine stop_make ?_ | refine stop_lookup ?_ | refine stop_update ?_ | refine stop_slice ?_ | refine stop_range ?_ | refine stop_next ?_ | refine stop_convert ⟨_, rfl⟩ ?_ | refine stop_convertB ⟨_, _, _, rfl⟩ ?_ | refine stop_eqSlice ⟨_, _, rfl⟩ ?_)
  go_loopw [8, 10, 11] (fun v8 _ _ wr => ∃ (st1 : RSt) (S1 : Nat → Prop) (xs : List Itm), Told rows st xs st1 ∧ Rpl wr S1 p st1 ∧ (∀ b, S1 b → S b ∨ w.heap.size ≤ b) ∧ Chg S w wr ∧ RegN B n wr g rows ∧ Cb.Own (fun b => b < w.heap.size ∨ S1 b) wr w.heap.size 106 v8 xs ∧ (∀ k, OB v8 k → ¬ S1 k)) (fun _ _ _ wr => muW rows p wr)
  case atStart => exact ⟨st, S, [], .nil _, h, fun b s => .inl s, Chg.refl _ _, hreg, Cb.Own.nil _ _ _ _, fun k hk => by simp [OB, Value.ownBlock] at hk⟩
  case round =>
    obtain ⟨st1, S1, xs, htold, hrep, hS1, hcr, hrn, hown, hob⟩ := hrel
    have hok1 := told_ok Hi.out Hok.out htold
    have hSn1 : ∀ b, S1 b → n ≤ b := fun b s => by rcases hS1 b s with s | s; exact hSn b s; omega
    have H1 := Lib.hid (step_good S1 p B n g st1 rows wr hrep hrn Hi.out hSn1 hok1.ent ⟨hok1.lo, hok1.hi⟩)
    rw [muW_of hrep]
    obtain ⟨A8, c8, rfl⟩ := hown.slice
    have hxl := Hlen.out _ _ htold
    go_wp2_with (with_reducible first | refine stop_append ?_ | refine stop_copy ?_ | refine stop_make ?_ | refine stop_lookup ?_ | refine stop_update ?_ | refine stop_slice ?_ | refine stop_range ?_ | refine stop_next ?_ | refine stop_convert ⟨_, rfl⟩ ?_ | refine stop_convertB ⟨_, _, _, rfl⟩ ?_ | refine stop_eqSlice ⟨_, _, rfl⟩ ?_)
    refine H1.out.mono ?_
    rintro e w1 ⟨st2, out, vt, S2, hst, rfl, hc1, hrep2, hS2, hvt, hb⟩
    obtain ⟨⟨xk, ⟨x1, x2⟩, ⟨⟨x3, x4⟩, x5, x6⟩, x7, ⟨x8, x9⟩⟩, code⟩ := out
    simp only at hvt
    obtain ⟨Av, dv, rfl⟩ := hvt.slice
    simp only [itmV]
    have hlr := hown.lt
    have hwr := hcr.size
    have hw1 := hc1.size
    have hob2 : ∀ k, OB (.slice A8 xs.length c8) k → ¬ S2 k := fun k hk s => by
      have h1 := hlr k hk
      rcases hS2 k s with s | s
      · exact hob k hk s
      · omega
    have hown2 := own_weak (((own_weakl hown (G := fun b => b < w.heap.size ∨ S1 b ∨ wr.heap.size ≤ b) (fun b hb g => by rcases g with g | g | g; exact .inl g; exact .inr g; omega)).keep (G := S1) hc1 (fun _ _ s => .inr (.inl s)) (fun k hk s => hob k hk s))) (G := fun b => b < w.heap.size ∨ S2 b) (fun b g => by rcases g with g | g; exact .inl g; (rcases hS2 b g with s | s; exact .inr (.inl s); exact .inr (.inr s)))
    have hcw1 : Chg S w w1 := hcr.trans' hc1 (fun _ _ s => s) (fun b hb s => by rcases hS1 b s with s | s; exact s; omega)
    have hrn2 := hrn.keep hc1 (fun b _ s => hSn1 b s)
    have hS3 : ∀ b, S2 b → S b ∨ w.heap.size ≤ b := fun b s => by rcases hS2 b s with s | s; exact hS1 b s; exact .inr (by omega)
    by_cases hcd : code = 0
    · subst hcd
      obtain ⟨hok2, hmu0⟩ := step_ok Hi.out hok1 hst
      have hmu := hmu0 rfl
      clear hmu0
      have c2 := (Chg.refl No w1).alloc (.cells #[.int .i64 xk, .int .i64 x1, .int .i64 x2, .int .i64 x3, .int .i64 x4, .slice Av x5.length dv, .string x6, .int .i64 x7, .int .i64 x8, .int .i64 x9] 106)
      have o2 := alloc_obj w1 (.cells #[.int .i64 xk, .int .i64 x1, .int .i64 x2, .int .i64 x3, .int .i64 x4, .slice Av x5.length dv, .string x6, .int .i64 x7, .int .i64 x8, .int .i64 x9] 106)
      have y0 := cell_obj (i := 0) o2 rfl
      have y1 := cell_obj (i := 1) o2 rfl
      have y2 := cell_obj (i := 2) o2 rfl
      have y3 := cell_obj (i := 3) o2 rfl
      have y4 := cell_obj (i := 4) o2 rfl
      have y5 := cell_obj (i := 5) o2 rfl
      have y6 := cell_obj (i := 6) o2 rfl
      have y7 := cell_obj (i := 7) o2 rfl
      have y8 := cell_obj (i := 8) o2 rfl
      have y9 := cell_obj (i := 9) o2 rfl
      have c3 := c2.alloc (.cells #[.int .i64 xk, .int .i64 x1, .int .i64 x2, .int .i64 x3, .int .i64 x4, .slice Av x5.length dv, .string x6, .int .i64 x7, .int .i64 x8, .int .i64 x9] 106)
      have hsl := Sl.lit1 (F := fun b => S2 b ∨ OB (.slice A8 xs.length c8) b ∨ b < w.heap.size) (w := w1.alloc (.cells #[.int .i64 xk, .int .i64 x1, .int .i64 x2, .int .i64 x3, .int .i64 x4, .slice Av x5.length dv, .string x6, .int .i64 x7, .int .i64 x8, .int .i64 x9] 106)) (T := 106) (y := ((xk, (x1, x2), ((x3, x4), x5, x6), x7, (x8, x9)) : Itm)) (C := #[.int .i64 xk, .int .i64 x1, .int .i64 x2, .int .i64 x3, .int .i64 x4, .slice Av x5.length dv, .string x6, .int .i64 x7, .int .i64 x8, .int .i64 x9]) rfl
        (itm_mk (xk, (x1, x2), ((x3, x4), x5, x6), x7, (x8, x9)) ((hvt.weak (fun b hb g => by
          rcases g with g | g | g
          · exact .inr g
          · have := (hlr b g).2; exact .inl this
          · exact .inl (by omega))).keepNo c2)) (fun g => by
          have hz : (w1.alloc (.cells #[.int .i64 xk, .int .i64 x1, .int .i64 x2, .int .i64 x3, .int .i64 x4, .slice Av x5.length dv, .string x6, .int .i64 x7, .int .i64 x8, .int .i64 x9] 106)).heap.size = w1.heap.size + 1 := by simp
          rcases g with g | g | g
          · have := hrep2.lt _ g; omega
          · have := (hlr _ g).2; omega
          · omega)
      have hz1 : (w1.alloc (.cells #[.int .i64 xk, .int .i64 x1, .int .i64 x2, .int .i64 x3, .int .i64 x4, .slice Av x5.length dv, .string x6, .int .i64 x7, .int .i64 x8, .int .i64 x9] 106)).heap.size = w1.heap.size + 1 := by simp
      rw [hz1] at hsl
      have hown3 := own_weakl ((hown2.keep c3 (fun _ _ f => f.elim) (fun _ _ f => f))) (G := fun b => b < w.heap.size ∨ S2 b) (fun b _ g => g)
      have hrep3 := hrep2.keepNo c3
      have hrn3 := hrn2.keepNo c3
      have hcw3 := hcw1.trans c3.of_no
      have hxl2 := Hlen.out _ _ (htold.snoc hst)
      go_wp2_with (with_reducible first | refine stop_append ?_ | refine stop_copy ?_ | refine stop_make ?_ | refine stop_lookup ?_ | refine stop_update ?_ | refine stop_slice ?_ | refine stop_range ?_ | refine stop_next ?_ | refine stop_convert ⟨_, rfl⟩ ?_ | refine stop_convertB ⟨_, _, _, rfl⟩ ?_ | refine stop_eqSlice ⟨_, _, rfl⟩ ?_)
      refine step_append_sl (α := Itm) (F := fun b => b < w.heap.size ∨ S2 b) (base := w.heap.size) (xs := xs) Try.underlying112 info_itm rfl hown3 rfl rfl hsl (fun b hb g => by rcases g with (g | g) | g; exact .inr (.inr g); exact .inl g; exact .inr (.inl g)) (by simp; omega) (by simp; omega) (by have := c3.size; omega) ?_
      intro v9 w4 hown4 hgr
      clear y0 y1 y2 y3 y4 y5 y6 y7 y8 y9 o2 hsl
      have hc4 := hgr.chg
      go_wp2_with (with_reducible first | refine stop_append ?_ | refine stop_copy ?_ | refine stop_make ?_ | refine stop_lookup ?_ | refine stop_update ?_ | refine stop_slice ?_ | refine stop_range ?_ | refine stop_next ?_ | refine stop_convert ⟨_, rfl⟩ ?_ | refine stop_convertB ⟨_, _, _, rfl⟩ ?_ | refine stop_eqSlice ⟨_, _, rfl⟩ ?_)
      go_roundw
      case rel =>
        refine ⟨st2, S2, xs ++ [(xk, (x1, x2), ((x3, x4), x5, x6), x7, (x8, x9))], htold.snoc hst, hrep3.keep hc4 (fun b _ g => hob2 b g), hS3, hcw3.trans' hc4 (fun _ _ s => s) (fun b hb g => by have := (hlr b g).1; omega), hrn3.keep hc4 (fun b _ g => by have := (hlr b g).1; omega), hown4, fun k hk s => ?_⟩
        rcases hgr.blk k hk with g | g
        · exact hob2 k g s
        · have := hrep2.lt k s; have := c3.size; omega
      case measure => rw [muW_of (hrep3.keep hc4 (fun b _ g => hob2 b g))]; exact hmu
    · have g1 : (code != 0) = true := by simpa using hcd
      have g2 : (code == 0) = false := by simpa using hcd
      have c2 := (Chg.refl No w1).alloc (.cells #[.int .i64 xk, .int .i64 x1, .int .i64 x2, .int .i64 x3, .int .i64 x4, .slice Av x5.length dv, .string x6, .int .i64 x7, .int .i64 x8, .int .i64 x9] 106)
      go_wp2_with (with_reducible first | refine stop_append ?_ | refine stop_copy ?_ | refine stop_make ?_ | refine stop_lookup ?_ | refine stop_update ?_ | refine stop_slice ?_ | refine stop_range ?_ | refine stop_next ?_ | refine stop_convert ⟨_, rfl⟩ ?_ | refine stop_convertB ⟨_, _, _, rfl⟩ ?_ | refine stop_eqSlice ⟨_, _, rfl⟩ ?_)
      dsimp only [Exit.noGoto]
      go_ret2
      exact ⟨xs, st1, st2, _, code, _, S2, htold, hst, hcd, rfl, (hown2.sl (fun k hk g => by rcases g with g | g; (have := (hlr k hk).1; omega); exact hob2 k hk g)).keepNo c2, hcw1.trans c2.of_no, hrep2.keepNo c2, hS3, hxl⟩
end Go.Proofs.Ytbjpoamnglfjeaa

