/- Walks of package order: Add. -/
import Derived.Test.YtbjpoamnglfjeaaOrdC
set_option linter.unusedVariables false
set_option linter.unusedSimpArgs false
namespace Go.Proofs.Ytbjpoamnglfjeaa
open Go.RowKit Cb
attribute [local go_sem] Oper.semAt_some

theorem brings_stops {sh lo hi p q2 q3 : Nat} {st : OSt} {w : World} {lv vv : Value} {v : List Int} (h : Ord w lo hi p st) (hI : Inv sh st) (hg : Geq v st.last) (h8 : v.length ≤ 8) (hv : ∀ x ∈ v, x ≤ 1099511627776)
    (hq : BrQ w.heap.size p q2 q3 lv vv st.last v w) :
    SeqStopsK Fence.wide 8 Try.prog 95 #[.pointer (some ⟨q2, 0, none⟩), .pointer (some ⟨q3, 0, none⟩)] encR (fun A B => BrQ w.heap.size p q2 q3 lv vv st.last v A → BrQ w.heap.size p q2 q3 lv vv st.last v B) (fun ys => ys = bringsF st.len 0 st.last v) (fun _ => True) (bringsF st.len 0 st.last v).length w :=
  fun l J Jx W hW hJ _ hY h0 => by
    have hc := Chg.of_below hW
    have hlen := hI.olen
    have hb : 0 ≤ st.len ∧ st.len ≤ 1000000 := by rw [hlen]; exact ⟨(vright_sum hI.right).1, hI.tot⟩
    exact brings1_in w.heap.size p q2 q3 lv vv st.last v hg h8 (fun x hx => ((vright_iff.1 hI.right).2.2 x hx).1) hv st.len hb l J Jx hY W hJ (olen_any (h.keepNo hc) hI) (hq.keepNo hc) h0
theorem OrdV.keepNo' {w w' : World} {lo hi p : Nat} {lv rv av : Value} {st : OSt} (h : OrdV w lo hi p lv rv av st) (hc : Chg No w w') : OrdV w' lo hi p lv rv av st := h.keep hc (fun _ f => f.elim)
theorem Ord.top {w : World} {lo hi p : Nat} {st : OSt} (h : Ord w lo hi p st) : Ord w lo w.heap.size p st := by
  obtain ⟨lv, rv, av, h⟩ := h
  have hh := h.hhi
  exact ⟨lv, rv, av, { obj := h.obj, hp := ⟨h.hp.1, by have := h.hp.2; omega⟩, hhi := Nat.le_refl _, sl := h.sl.weak (fun b hb g => by
      rcases g with g | g | g
      · exact .inl g
      · omega
      · exact .inr (.inr g)), rr := h.rr.weak (fun b hb g => by
      rcases g with g | g | g
      · exact .inl g
      · omega
      · exact .inr (.inr g)), ra := h.ra.weak (fun b hb g => by
      rcases g with g | g | g
      · exact .inl g
      · omega
      · exact .inr (.inr g)), ob := fun k hk => Nat.lt_of_lt_of_le (h.ob k hk) hh }⟩
def In (lo hi : Nat) : Nat → Prop := fun k => lo ≤ k ∧ k < hi
def AddPost (r : OSt × Int) (lo hi p : Nat) (w : World) (x : Ending) (w' : World) : Prop :=
  x = .returned (.int .i64 r.2) ∧ Chg (In lo hi) w w' ∧ Ord w' lo w'.heap.size p r.1
/-- An order whose runs are being appended to: its other rows lie below B, the runs below h0 or from B on. -/
structure OrdL (W : World) (lo h0 B p : Nat) (lv rv av : Value) (st : OSt) : Prop where
  obj : W.heap[p]? = some (.cells #[lv, rv, av] 122 (0, 0))
  hp : lo ≤ p ∧ p < h0
  hB : h0 ≤ B ∧ B ≤ W.heap.size
  sl : Sl (fun k => k < lo ∨ B ≤ k ∨ k = p ∨ OB rv k ∨ OB av k) W lv st.last
  rr : (Cb.Own No W lo 124 rv st.runs ∧ ∀ k, OB rv k → k ≠ p ∧ ¬ OB av k) ∨ (Sl (fun k => k < lo ∨ B ≤ k ∨ k = p ∨ OB av k) W rv st.runs ∧ ∃ A n, rv = .slice A n n)
  ra : RowT (fun k => k < lo ∨ B ≤ k ∨ k = p ∨ OB rv k) W lo 3 av st.after
  rb : ∀ k, OB rv k → (k < h0 ∨ B ≤ k) ∧ k < W.heap.size
  ab : ∀ k, OB av k → k < h0
theorem OrdV.loop {w : World} {lo hi B p : Nat} {lv rv av : Value} {st : OSt} (h : OrdV w lo hi p lv rv av st) (hB : hi ≤ B) (hw : B ≤ w.heap.size) : OrdL w lo hi B p lv rv av st where
  obj := h.obj
  hp := h.hp
  hB := ⟨hB, hw⟩
  sl := h.sl.weak (fun b _ g => by rcases g with g | g | g; exact .inl g; exact .inr (.inl (by omega)); exact .inr (.inr g))
  rr := by
    rcases h.rr with ⟨h1, h2⟩ | ⟨h1, h2⟩
    · exact .inl ⟨h1, fun k hk => ⟨fun e => h2 k hk (.inr (.inr (.inl e))), fun e => h2 k hk (.inr (.inr (.inr e)))⟩⟩
    · exact .inr ⟨h1.weak (fun b _ g => by rcases g with g | g | g; exact .inl g; exact .inr (.inl (by omega)); exact .inr (.inr g)), h2⟩
  ra := h.ra.weak (fun b _ g => by rcases g with g | g | g; exact .inl g; exact .inr (.inl (by omega)); exact .inr (.inr g))
  rb := fun k hk => ⟨.inl (h.ob k (.inl hk)), by have := h.ob k (.inl hk); have := h.hhi; omega⟩
  ab := fun k hk => h.ob k (.inr hk)
theorem OrdL.ord {W : World} {lo h0 B p : Nat} {lv rv av : Value} {st : OSt} (h : OrdL W lo h0 B p lv rv av st) : OrdV W lo W.heap.size p lv rv av st where
  obj := h.obj
  hp := ⟨h.hp.1, by have := h.hp.2; have := h.hB; omega⟩
  hhi := Nat.le_refl _
  sl := h.sl.weak (fun b hb g => by rcases g with g | g | g; exact .inl g; omega; exact .inr (.inr g))
  rr := by
    rcases h.rr with ⟨h1, h2⟩ | ⟨h1, h2⟩
    · exact .inl ⟨h1, fun k hk g => by
        have := h1.lt k hk
        rcases g with g | g | g | g
        · omega
        · omega
        · exact (h2 k hk).1 g
        · exact (h2 k hk).2 g⟩
    · exact .inr ⟨h1.weak (fun b hb g => by rcases g with g | g | g; exact .inl g; omega; exact .inr (.inr g)), h2⟩
  ra := h.ra.weak (fun b hb g => by rcases g with g | g | g; exact .inl g; omega; exact .inr (.inr g))
  ob := fun k hk => by
    rcases hk with hk | hk
    · exact (h.rb k hk).2
    · have := h.ab k hk; have := h.hB; omega
theorem OrdL.row {W : World} {lo h0 B p : Nat} {lv rv av : Value} {st : OSt} (h : OrdL W lo h0 B p lv rv av st) : RowT (fun k => k < lo ∨ W.heap.size ≤ k ∨ k = p ∨ OB av k) W lo 124 rv st.runs := h.ord.rr
theorem OrdL.turn {W W' : World} {lo h0 B p : Nat} {lv rv av : Value} {st : OSt} {row : Option Nat} (h : OrdL W lo h0 B p lv rv av st) (hg : W.grownBy W' row) (hr : ∀ r, row = some r → B ≤ r ∧ ∃ o : Obj, W.heap[r]? = some o ∧ o.isCells = false) : OrdL W' lo h0 B p lv rv av st := by
  have hc : Chg (fun k => B ≤ k ∧ row = some k) W W' := (Chg.refl _ W).grown hg (fun k e => .inl ⟨(hr k e).1, e⟩)
  exact { obj := turn_obj h.obj hg (fun r e => (hr r e).2), hp := h.hp, hB := ⟨h.hB.1, Nat.le_trans h.hB.2 hg.size⟩,
          sl := h.sl.keep (hc.weak (fun k _ g => .inr (.inl g.1))),
          rr := by
            rcases h.rr with ⟨h1, h2⟩ | ⟨h1, h2⟩
            · refine .inl ⟨h1.keepFlat hc (fun k hk g => ?_), h2⟩
              obtain ⟨C, T, fz, hcell⟩ := h1.cells k hk
              obtain ⟨o, ho, hoc⟩ := (hr k g.2).2
              rw [hcell] at ho
              cases ho
              simp [Obj.isCells] at hoc
            · exact .inr ⟨h1.keep (hc.weak (fun k _ g => .inr (.inl g.1))), h2⟩
          ra := h.ra.keep hc (fun k _ g => .inr (.inl g.1)), rb := fun k hk => ⟨(h.rb k hk).1, Nat.lt_of_lt_of_le (h.rb k hk).2 hg.size⟩, ab := h.ab }
theorem OrdL.keepNo {W W' : World} {lo h0 B p : Nat} {lv rv av : Value} {st : OSt} (h : OrdL W lo h0 B p lv rv av st) (hc : Chg No W W') : OrdL W' lo h0 B p lv rv av st where
  obj := hc.obj h.obj (not_no _)
  hp := h.hp
  hB := ⟨h.hB.1, Nat.le_trans h.hB.2 hc.size⟩
  sl := h.sl.keepNo hc
  rr := by
    rcases h.rr with ⟨h1, h2⟩ | ⟨h1, h2⟩
    · exact .inl ⟨h1.keepFlat hc (fun _ _ f => f), h2⟩
    · exact .inr ⟨h1.keepNo hc, h2⟩
  ra := h.ra.keepNo hc
  rb := fun k hk => ⟨(h.rb k hk).1, Nat.lt_of_lt_of_le (h.rb k hk).2 hc.size⟩
  ab := h.ab
theorem OrdL.app {W W5 : World} {lo h0 B p : Nat} {lv rv v' av : Value} {st : OSt} {x : Rn} (h : OrdL W lo h0 B p lv rv av st) (hown : Cb.Own No W5 lo 124 v' (st.runs ++ [x]))
    (hc : Chg (fun k => OB rv k ∧ ¬ (k < lo ∨ W.heap.size ≤ k ∨ k = p ∨ OB av k) ∧ IsC W k) W W5) (hb : ∀ k, OB v' k → (OB rv k ∧ ¬ (k < lo ∨ W.heap.size ≤ k ∨ k = p ∨ OB av k)) ∨ W.heap.size ≤ k) :
    OrdL (W5.setCell ⟨p, 1, none⟩ v') lo h0 B p lv v' av ⟨st.last, st.runs ++ [x], st.after⟩ ∧ Chg (fun k => (OB rv k ∧ ¬ (k < lo ∨ W.heap.size ≤ k ∨ k = p ∨ OB av k) ∧ IsC W k) ∨ k = p) W (W5.setCell ⟨p, 1, none⟩ v') := by
  have hs := chg_set (w := W5) (b := p) (i := 1) v'
  have hpW := lt_of_heap h.obj
  have hBW := h.hB
  have hcc : Chg (fun k => (OB rv k ∧ ¬ (k < lo ∨ W.heap.size ≤ k ∨ k = p ∨ OB av k) ∧ IsC W k) ∨ k = p) W (W5.setCell ⟨p, 1, none⟩ v') := hc.trans' hs (fun k _ g => .inl g) (fun k _ g => .inr g)
  have hown' : Cb.Own No (W5.setCell ⟨p, 1, none⟩ v') lo 124 v' (st.runs ++ [x]) := hown.keepFlat hs (fun k hk g => by
    simp only [At] at g
    rcases hb k hk with f | f
    · exact f.2 (.inr (.inr (.inl g)))
    · omega)
  refine ⟨{ obj := obj_set (hc.obj h.obj (fun g => g.2.1 (.inr (.inr (.inl rfl))))) rfl, hp := h.hp, hB := ⟨h.hB.1, Nat.le_trans h.hB.2 hcc.size⟩, sl := ?_, rr := .inl ⟨hown', ?_⟩, ra := ?_, rb := ?_, ab := h.ab }, hcc⟩
  · refine (h.sl.keep (hcc.weak (fun k _ g => ?_))).weak (fun k _ g => ?_)
    · rcases g with g | g
      · exact .inr (.inr (.inr (.inl g.1)))
      · exact .inr (.inr (.inl g))
    · rcases g with g | g | g | g | g
      · exact .inl g
      · exact .inr (.inl g)
      · exact .inr (.inr (.inl g))
      · rcases hb k g with f | f
        · exact .inr (.inr (.inr (.inl f.1)))
        · exact .inr (.inl (by omega))
      · exact .inr (.inr (.inr (.inr g)))
  · intro k hk
    rcases hb k hk with f | f
    · exact ⟨fun e => f.2 (.inr (.inr (.inl e))), fun e => f.2 (.inr (.inr (.inr e)))⟩
    · exact ⟨by omega, fun e => by have := h.ab k e; omega⟩
  · refine (h.ra.keep hcc (fun k _ g => ?_)).weak (fun k _ g => ?_)
    · rcases g with g | g
      · exact .inr (.inr (.inr g.1))
      · exact .inr (.inr (.inl g))
    · rcases g with g | g | g | g
      · exact .inl g
      · exact .inr (.inl g)
      · exact .inr (.inr (.inl g))
      · rcases hb k g with f | f
        · exact .inr (.inr (.inr f.1))
        · exact .inr (.inl (by omega))
  · intro k hk
    refine ⟨?_, (hown'.lt k hk).2⟩
    rcases hb k hk with f | f
    · exact (h.rb k f.1).1
    · exact .inr (by omega)
theorem OrdV.app {W W5 : World} {lo hi p : Nat} {lv rv v' av : Value} {st : OSt} {x : Int} (h : OrdV W lo hi p lv rv av st) (hown : Cb.Own No W5 lo 3 v' (st.after ++ [x]))
    (hc : Chg (fun k => OB av k ∧ ¬ (k < lo ∨ hi ≤ k ∨ k = p ∨ OB rv k) ∧ IsC W k) W W5) (hb : ∀ k, OB v' k → (OB av k ∧ ¬ (k < lo ∨ hi ≤ k ∨ k = p ∨ OB rv k)) ∨ W.heap.size ≤ k) :
    Ord (W5.setCell ⟨p, 2, none⟩ v') lo (W5.setCell ⟨p, 2, none⟩ v').heap.size p ⟨st.last, st.runs, st.after ++ [x]⟩ ∧ Chg (In lo hi) W (W5.setCell ⟨p, 2, none⟩ v') ∧ Chg (fun k => (OB av k ∧ ¬ (k < lo ∨ hi ≤ k ∨ k = p ∨ OB rv k) ∧ IsC W k) ∨ k = p) W (W5.setCell ⟨p, 2, none⟩ v') := by
  have hs := chg_set (w := W5) (b := p) (i := 2) v'
  have hpW := lt_of_heap h.obj
  have hhi := h.hhi
  have hcc : Chg (fun k => (OB av k ∧ ¬ (k < lo ∨ hi ≤ k ∨ k = p ∨ OB rv k) ∧ IsC W k) ∨ k = p) W (W5.setCell ⟨p, 2, none⟩ v') := hc.trans' hs (fun k _ g => .inl g) (fun k _ g => .inr g)
  have hown' : Cb.Own No (W5.setCell ⟨p, 2, none⟩ v') lo 3 v' (st.after ++ [x]) := hown.keepFlat hs (fun k hk g => by
    simp only [At] at g
    rcases hb k hk with f | f
    · exact f.2 (.inr (.inr (.inl g)))
    · omega)
  refine ⟨⟨lv, rv, v', { obj := obj_set (hc.obj h.obj (fun g => g.2.1 (.inr (.inr (.inl rfl))))) rfl, hp := ⟨h.hp.1, Nat.lt_of_lt_of_le hpW hcc.size⟩, hhi := Nat.le_refl _, sl := ?_, rr := ?_, ra := .inl ⟨hown', ?_⟩, ob := ?_ }⟩, hcc.weak (fun k _ g => ?_), hcc⟩
  · refine (h.sl.keep (hcc.weak (fun k _ g => ?_))).weak (fun k hk g => ?_)
    · rcases g with g | g
      · exact .inr (.inr (.inr (.inr g.1)))
      · exact .inr (.inr (.inl g))
    · rcases g with g | g | g | g | g
      · exact .inl g
      · omega
      · exact .inr (.inr (.inl g))
      · exact .inr (.inr (.inr (.inl g)))
      · rcases hb k g with f | f
        · exact .inr (.inr (.inr (.inr f.1)))
        · exact .inr (.inl (by omega))
  · refine (h.rr.keep hcc (fun k _ g => ?_)).weak (fun k hk g => ?_)
    · rcases g with g | g
      · exact .inr (.inr (.inr g.1))
      · exact .inr (.inr (.inl g))
    · rcases g with g | g | g | g
      · exact .inl g
      · omega
      · exact .inr (.inr (.inl g))
      · rcases hb k g with f | f
        · exact .inr (.inr (.inr f.1))
        · exact .inr (.inl (by omega))
  · intro k hk g
    have hlt := hown'.lt k hk
    rcases g with g | g | g | g
    · omega
    · omega
    · rcases hb k hk with f | f
      · exact f.2 (.inr (.inr (.inl g)))
      · omega
    · rcases hb k hk with f | f
      · exact f.2 (.inr (.inr (.inr g)))
      · have := h.ob k (.inl g); omega
  · intro k hk
    have hsz := hcc.size
    rcases hk with hk | hk
    · have := h.ob k (.inl hk); omega
    · exact (hown'.lt k hk).2
  · have := h.hp
    rcases g with g | g
    · have h1 := g.2.1
      simp only [not_or] at h1
      exact ⟨by omega, by omega⟩
    · subst g; exact this
theorem cell_turn {w w' : World} {row : Option Nat} {a : Addr} {u : Value} (h : w.cell? a = some u) (hg : w.grownBy w' row) (hr : ∀ r, row = some r → ∃ o : Obj, w.heap[r]? = some o ∧ o.isCells = false) : w'.cell? a = some u := by
  refine (World.cell?_of_block (hg.block a.block (World.block_lt_of_cell? w a h) (fun e => ?_))).trans h
  obtain ⟨o, ho, hc⟩ := hr _ e.symm
  unfold World.cell? at h
  rw [ho] at h
  cases o <;> simp_all [Obj.isCells]
theorem sl_turn {α : Type} [Rep α] [Flat α] {F : Nat → Prop} {w w' : World} {row : Option Nat} {v : Value} {xs : List α} (h : Sl F w v xs) (hg : w.grownBy w' row) (hr : ∀ r, row = some r → ∃ o : Obj, w.heap[r]? = some o ∧ o.isCells = false) : Sl F w' v xs := by
  obtain ⟨A, c, rfl, hl, h | ⟨b, o, rfl, hb, hlt, hrow⟩⟩ := h
  · exact ⟨A, c, rfl, hl, .inl h⟩
  · refine ⟨_, c, rfl, hl, .inr ⟨b, o, rfl, hb, Nat.lt_of_lt_of_le hlt hg.size, fun i hi => ?_⟩⟩
    obtain ⟨d, hd, hj⟩ := hrow i hi
    exact ⟨d, Flat.flat hd, fun j u hu => cell_turn (hj j u hu) hg hr⟩
theorem row_turn {α : Type} [Rep α] [Flat α] {F : Nat → Prop} {w w' : World} {row : Option Nat} {lo : Nat} {T : TypeId} {v : Value} {xs : List α} (h : RowT F w lo T v xs) (hg : w.grownBy w' row) (hr : ∀ r, row = some r → ∃ o : Obj, w.heap[r]? = some o ∧ o.isCells = false) : RowT F w' lo T v xs := by
  rcases h with ⟨h1, h2⟩ | ⟨h1, h2⟩
  · refine .inl ⟨h1.keepFlat ((Chg.refl (fun k => row = some k) w).grown hg (fun k e => .inl e)) (fun k hk g => ?_), h2⟩
    obtain ⟨C, T, fz, hcell⟩ := h1.cells k hk
    obtain ⟨o, ho, hoc⟩ := hr k g
    rw [hcell] at ho
    cases ho
    simp [Obj.isCells] at hoc
  · exact .inr ⟨sl_turn h1 hg hr, h2⟩
theorem OrdV.turn {W W' : World} {lo hi p : Nat} {lv rv av : Value} {st : OSt} {row : Option Nat} (h : OrdV W lo hi p lv rv av st) (hg : W.grownBy W' row) (hr : ∀ r, row = some r → ∃ o : Obj, W.heap[r]? = some o ∧ o.isCells = false) : OrdV W' lo hi p lv rv av st where
  obj := turn_obj h.obj hg hr
  hp := h.hp
  hhi := Nat.le_trans h.hhi hg.size
  sl := sl_turn h.sl hg hr
  rr := row_turn h.rr hg hr
  ra := row_turn h.ra hg hr
  ob := h.ob
theorem OrdV.setlast {W W1 : World} {lo hi p : Nat} {lv v' rv av : Value} {st : OSt} {cut : List Int} (h : OrdV W lo hi p lv rv av st) (hW : hi = W.heap.size) (hc : Chg No W W1) (hs : Sl (Lt W.heap.size) W1 v' cut) :
    OrdV (W1.setCell ⟨p, 0, none⟩ v') lo W1.heap.size p v' rv av ⟨cut, st.runs, st.after⟩ := by
  have h1 := h.keepNo' hc
  have hp := h.hp
  have hsz := hc.size
  have hset := chg_set (w := W1) (b := p) (i := 0) v'
  have hsz2 : (W1.setCell ⟨p, 0, none⟩ v').heap.size = W1.heap.size := by simp
  refine { obj := obj_set h1.obj rfl, hp := ⟨hp.1, by omega⟩, hhi := by omega, sl := ?_, rr := ?_, ra := ?_, ob := fun k hk => by have := h.ob k hk; omega }
  · refine (hs.keep (hset.weak (fun k _ g => by simp only [At] at g; simp only [Lt]; omega))).weak (fun b hb g => ?_)
    simp only [Lt]
    rcases g with g | g | g | g | g
    · omega
    · omega
    · omega
    · have := h.ob b (.inl g); omega
    · have := h.ob b (.inr g); omega
  · exact (h1.rr.keep hset (fun k _ g => .inr (.inr (.inl g)))).weak (fun b hb g => by
      rcases g with g | g | g
      · exact .inl g
      · exact .inr (.inl (by omega))
      · exact .inr (.inr g))
  · exact (h1.ra.keep hset (fun k _ g => .inr (.inr (.inl g)))).weak (fun b hb g => by
      rcases g with g | g | g
      · exact .inl g
      · exact .inr (.inl (by omega))
      · exact .inr (.inr g))
theorem brings_len : ∀ (l v : List Int) (p s : Int), (bringsF p s l v).length ≤ l.length
  | [], v, p, s => by unfold bringsF; simp
  | _ :: _, [], p, s => by unfold bringsF; simp
  | y :: l, x :: v, p, s => by
    have := brings_len l v (p + (x - y)) (s + 1)
    unfold bringsF
    rw [List.length_append, List.length_cons]
    split <;> simp <;> omega
theorem info_run : Info Try.prog 124 (.agg #[.int .i64 0, .int .i64 0, .int .i64 0, .int .i64 0]) 4 32 := by unfold Info; kernel_rfl
/-- Between two rounds of Add's loop. -/
def AddI (w : World) (lo hi B p q2 q3 qa qb : Nat) (lv av vv : Value) (cut : List Int) (E : Array Value) (st : OSt) (pre : List Rn) (W : World) : Prop :=
  ∃ rv, OrdL W lo hi B p lv rv av ⟨st.last, st.runs ++ pre, st.after⟩ ∧ W.heap[q2]? = some (.cells #[.pointer (some ⟨p, 0, none⟩)] 25 (0, 0)) ∧ W.heap[q3]? = some (.cells E 58 (0, 0)) ∧
    W.heap[qa]? = some (.cells #[.pointer (some ⟨p, 0, none⟩)] 25 (0, 0)) ∧ W.heap[qb]? = some (.cells #[vv] 46 (0, 0)) ∧ Sl (Ge lo) W vv cut ∧ Chg (In lo hi) w W
section
variable {w W W' : World} {lo hi B p q2 q3 qa qb : Nat} {lv av vv : Value} {cut : List Int} {E : Array Value} {st : OSt} {pre : List Rn}
theorem AddI.turn {row : Option Nat} (h : AddI w lo hi B p q2 q3 qa qb lv av vv cut E st pre W) (hw : w.heap.size ≤ B) (hg : W.grownBy W' row) (hr : ∀ r, row = some r → B ≤ r ∧ ∃ o : Obj, W.heap[r]? = some o ∧ o.isCells = false) :
    AddI w lo hi B p q2 q3 qa qb lv av vv cut E st pre W' := by
  obtain ⟨rv, h1, h2, h3, h4, h5, h6, h7⟩ := h
  have hr2 : ∀ r, row = some r → ∃ o : Obj, W.heap[r]? = some o ∧ o.isCells = false := fun r e => (hr r e).2
  exact ⟨rv, h1.turn hg hr, turn_obj h2 hg hr2, turn_obj h3 hg hr2, turn_obj h4 hg hr2, turn_obj h5 hg hr2,
    h6.keep ((Chg.refl _ W).grown hg (fun k e => .inl (by have := (hr k e).1; have := h1.hp; have := h1.hB; simp only [Ge]; omega))), h7.grown hg (fun k e => .inr (by have := (hr k e).1; omega))⟩
theorem AddI.no (h : AddI w lo hi B p q2 q3 qa qb lv av vv cut E st pre W) (hc : Chg No W W') : AddI w lo hi B p q2 q3 qa qb lv av vv cut E st pre W' := by
  obtain ⟨rv, h1, h2, h3, h4, h5, h6, h7⟩ := h
  exact ⟨rv, h1.keepNo hc, hc.obj h2 (not_no _), hc.obj h3 (not_no _), hc.obj h4 (not_no _), hc.obj h5 (not_no _), h6.keepNo hc, h7.trans hc.of_no⟩
theorem AddI.brq (h : AddI w lo hi B p q2 q3 qa qb lv av vv cut E st pre W) : BrQ B p qa qb lv vv st.last cut W := by
  obtain ⟨rv, h1, h2, h3, h4, h5, h6, h7⟩ := h
  exact ⟨cell_obj (i := 0) h4 rfl, cell_obj (i := 0) h5 rfl, cell_obj (i := 0) h1.obj rfl, h1.sl.weak (fun k _ g => .inr (.inl g)), h6.weak (fun k _ g => by have := h1.hp; have := h1.hB; simp only [Ge] at g ⊢; omega), h1.hB.2⟩
theorem BrQ.turn {last : List Int} {row : Option Nat} (h : BrQ B p qa qb lv vv last cut W) (hg : W.grownBy W' row) (hr : ∀ r, row = some r → B ≤ r ∧ ∃ o : Obj, W.heap[r]? = some o ∧ o.isCells = false)
    (ha : qa < B) (hb : qb < B) (hp : p < B) : BrQ B p qa qb lv vv last cut W' := by
  have hc : Chg (Ge B) W W' := (Chg.refl _ W).grown hg (fun k e => .inl (hr k e).1)
  exact ⟨hc.cell h.c2 (by simp only [Ge]; omega), hc.cell h.c3 (by simp only [Ge]; omega), hc.cell h.cp (by simp only [Ge]; omega), h.sl.keep hc, h.sv.keep hc, Nat.le_trans h.sz hc.size⟩
theorem AddI.app {W5 : World} {rv v' : Value} {x : Rn} {rs : List Rn} (hrs : rs = st.runs ++ pre) (h1 : OrdL W lo hi B p lv rv av ⟨st.last, rs, st.after⟩) (h2 : W.heap[q2]? = some (.cells #[.pointer (some ⟨p, 0, none⟩)] 25 (0, 0))) (h3 : W.heap[q3]? = some (.cells E 58 (0, 0)))
    (h4 : W.heap[qa]? = some (.cells #[.pointer (some ⟨p, 0, none⟩)] 25 (0, 0))) (h5 : W.heap[qb]? = some (.cells #[vv] 46 (0, 0))) (h6 : Sl (Ge lo) W vv cut) (h7 : Chg (In lo hi) w W)
    (hq : (hi ≤ q2 ∧ q2 < B) ∧ (hi ≤ q3 ∧ q3 < B) ∧ (hi ≤ qa ∧ qa < B) ∧ (hi ≤ qb ∧ qb < B)) (hw : w.heap.size ≤ B)
    (hown : Cb.Own No W5 lo 124 v' (rs ++ [x])) (hc : Chg (fun k => OB rv k ∧ ¬ (k < lo ∨ W.heap.size ≤ k ∨ k = p ∨ OB av k) ∧ IsC W k) W W5) (hb : ∀ k, OB v' k → (OB rv k ∧ ¬ (k < lo ∨ W.heap.size ≤ k ∨ k = p ∨ OB av k)) ∨ W.heap.size ≤ k) :
    KeepsFrom B W (W5.setCell ⟨p, 1, none⟩ v') ∧ AddI w lo hi B p q2 q3 qa qb lv av vv cut E st (pre ++ [x]) (W5.setCell ⟨p, 1, none⟩ v') := by
  subst hrs
  obtain ⟨k1, k2⟩ := h1.app hown hc hb
  have hp := h1.hp
  have hB := h1.hB
  have hno : ∀ q, hi ≤ q → q < B → ¬ ((OB rv q ∧ ¬ (q < lo ∨ W.heap.size ≤ q ∨ q = p ∨ OB av q) ∧ IsC W q) ∨ q = p) := fun q a b g => by
    rcases g with g | g
    · have := (h1.rb q g.1).1; omega
    · omega
  have hge : ∀ k, ((OB rv k ∧ ¬ (k < lo ∨ W.heap.size ≤ k ∨ k = p ∨ OB av k) ∧ IsC W k) ∨ k = p) → Ge lo k := fun k g => by
    rcases g with g | g
    · have := g.2.1; simp only [not_or] at this; simp only [Ge]; omega
    · simp only [Ge]; omega
  refine ⟨keeps_of_chg k2 (fun k o g ho => ?_), v', by rw [← List.append_assoc]; exact k1, k2.obj h2 (hno _ hq.1.1 hq.1.2), k2.obj h3 (hno _ hq.2.1.1 hq.2.1.2), k2.obj h4 (hno _ hq.2.2.1.1 hq.2.2.1.2), k2.obj h5 (hno _ hq.2.2.2.1 hq.2.2.2.2), h6.keep (k2.weak (fun k _ g => hge k g)), ?_⟩
  · rcases g with ⟨_, _, C, T, fz, hC⟩ | rfl
    · rw [hC] at ho; cases ho; rfl
    · rw [h1.obj] at ho; cases ho; rfl
  · refine h7.trans' k2 (fun _ _ g => g) (fun k hk g => ?_)
    have h8 := hge k g
    simp only [Ge] at h8
    rcases g with g | g
    · have := (h1.rb k g.1).1
      exact ⟨h8, by omega⟩
    · exact ⟨h8, by omega⟩
end
set_option maxRecDepth 100000 in
set_option maxHeartbeats 4000000 in
theorem oadd_any {sh lo hi p : Nat} {st : OSt} {w : World} (h : Ord w lo hi p st) (hI : Inv sh st) (e : Ent) (v : Value) (hs : Sl (Ge lo) w v e.2.2.1) (hl : e.2.2.1.length * 8 ≤ 140737488355328) :
    Calls Try.prog 26 #[.pointer (some ⟨p, 0, none⟩), entV e v] w (AddPost (addF st e) lo hi p w) := by
  have hright := Lib.hid (fun W hW => eright_any _ e v W (hs.keepNo (w' := W) hW) hl)
  have hent := Lib.hid (fun W hW => oentries_any (h.keepNo (w' := W) hW) hI)
  have Hs := Lib.hid hs
  have H := Lib.hid h
  have HI := Lib.hid hI
  obtain ⟨n, k, cut, tag, t, u⟩ := e
  simp only at hs hl
  obtain ⟨A, c, rfl, hcl, _⟩ := id hs
  have hpl : p < w.heap.size := by obtain ⟨lv, rv, av, h⟩ := h; exact lt_of_heap h.obj
  have hc0 : Chg No w ((w.alloc (.cells #[.pointer (some ⟨p, 0, none⟩)] 25)).alloc (.cells #[.int .i64 n, .int .i64 k, .slice A cut.length c, .int .i64 tag, .int .i64 t, .int .i64 u] 58)) := ((Chg.refl No w).alloc _).alloc _
  have o2 : ((w.alloc (.cells #[.pointer (some ⟨p, 0, none⟩)] 25)).alloc (.cells #[.int .i64 n, .int .i64 k, .slice A cut.length c, .int .i64 tag, .int .i64 t, .int .i64 u] 58)).heap[w.heap.size]? = some (.cells #[.pointer (some ⟨p, 0, none⟩)] 25 (0, 0)) :=
    ((Chg.refl No _).alloc _).obj (alloc_obj w _) (not_no _)
  have o3 : ((w.alloc (.cells #[.pointer (some ⟨p, 0, none⟩)] 25)).alloc (.cells #[.int .i64 n, .int .i64 k, .slice A cut.length c, .int .i64 tag, .int .i64 t, .int .i64 u] 58)).heap[w.heap.size + 1]? = some (.cells #[.int .i64 n, .int .i64 k, .slice A cut.length c, .int .i64 tag, .int .i64 t, .int .i64 u] 58 (0, 0)) := by
    have := alloc_obj (w.alloc (.cells #[.pointer (some ⟨p, 0, none⟩)] 25)) (.cells #[.int .i64 n, .int .i64 k, .slice A cut.length c, .int .i64 tag, .int .i64 t, .int .i64 u] 58)
    rw [World.size_alloc] at this
    exact this
  have hmany := hI.many
  have hafter : 1 ≤ st.after.length := by obtain ⟨a, ha⟩ := hI.aft; simp [ha]
  have hstay : ∀ x W, Chg No w W → addF st (n, k, cut, tag, t, u) = (st, x) → AddPost (addF st (n, k, cut, tag, t, u)) lo hi p w (.returned (.int .i64 x)) W := fun x W hW he => by
    rw [he]; exact ⟨rfl, hW.of_no, (H.out.keepNo hW).top⟩
  have Hstay := Lib.hid hstay
  have hAdd := Lib.hid (show addF st (n, k, cut, tag, t, u) = addF st (n, k, cut, tag, t, u) from rfl)
  have hq : w.heap.size < w.heap.size + 1 := by omega
  unfold entV at *
  simp only at *
  clear hs h hI hstay
  refine calls_of_marks Try.func26 rfl ?_
  simp only [Try.ntmps26, List.size_toArray, List.length_cons, List.length_nil, Nat.reduceAdd, Nat.reduceSub, Array.replicate_succ, Array.replicate_zero, List.push_toArray, List.append_toArray, List.nil_append, List.cons_append]
  go_wp2_with (first | (with_reducible refine stop_append ?_) | (with_reducible refine stop_copy ?_) | (with_reducible refine stop_make ?_) | (with_reducible refine stop_lookup ?_) | (with_reducible refine stop_update ?_) | (with_reducible refine stop_slice ?_) | (with_reducible refine stop_range ?_) | (with_reducible refine stop_next ?_) | (with_reducible refine stop_convert ⟨_, rfl⟩ ?_) | (with_reducible refine stop_convertB ⟨_, _, _, rfl⟩ ?_) | (with_reducible refine stop_eqSlice ⟨_, _, rfl⟩ ?_))
  generalize (w.alloc (.cells #[.pointer (some ⟨p, 0, none⟩)] 25)).alloc (.cells #[.int .i64 n, .int .i64 k, .slice A cut.length c, .int .i64 tag, .int .i64 t, .int .i64 u] 58) = w0 at *
  generalize hq3 : w.heap.size + 1 = q3 at *
  generalize hq2 : w.heap.size = q2 at *
  have b2 : w0.cell? ⟨q2, 0, none⟩ = some (.pointer (some ⟨p, 0, none⟩)) := cell_obj (i := 0) o2 rfl
  have d0 : w0.cell? ⟨q3, 0, none⟩ = some (.int .i64 n) := cell_obj (i := 0) o3 rfl
  have d1 : w0.cell? ⟨q3, 1, none⟩ = some (.int .i64 k) := cell_obj (i := 1) o3 rfl
  have d2 : w0.cell? ⟨q3, 2, none⟩ = some (.slice A cut.length c) := cell_obj (i := 2) o3 rfl
  have d3 : w0.cell? ⟨q3, 3, none⟩ = some (.int .i64 tag) := cell_obj (i := 3) o3 rfl
  have d4 : w0.cell? ⟨q3, 4, none⟩ = some (.int .i64 t) := cell_obj (i := 4) o3 rfl
  have d5 : w0.cell? ⟨q3, 5, none⟩ = some (.int .i64 u) := cell_obj (i := 5) o3 rfl
  have hS : ∀ W, Chg No w0 W → (fun W => W.cell? ⟨q2, 0, none⟩ = some (.pointer (some ⟨p, 0, none⟩)) ∧ W.cell? ⟨q3, 0, none⟩ = some (.int .i64 n) ∧ W.cell? ⟨q3, 1, none⟩ = some (.int .i64 k) ∧ W.cell? ⟨q3, 2, none⟩ = some (.slice A cut.length c) ∧ W.cell? ⟨q3, 3, none⟩ = some (.int .i64 tag) ∧ W.cell? ⟨q3, 4, none⟩ = some (.int .i64 t) ∧ W.cell? ⟨q3, 5, none⟩ = some (.int .i64 u) ∧ Chg No w0 W) W := fun W h => ⟨h.cell b2 (not_no _), h.cell d0 (not_no _), h.cell d1 (not_no _), h.cell d2 (not_no _), h.cell d3 (not_no _), h.cell d4 (not_no _), h.cell d5 (not_no _), h⟩
  have HS := Lib.hid hS
  have s0 := hS _ (Chg.refl No w0).drew
  clear b2 d0 d1 d2 d3 d4 d5 hS
  cases hb : entR (n, k, cut, tag, t, u) with
  | false =>
    have hres := Lib.hid (show addF st (n, k, cut, tag, t, u) = (st, 150) by unfold addF; rw [if_neg (fun h => by rw [hb] at h; cases h.1)])
    rw [hb] at hright
    refine pl_start (fun W => W.cell? ⟨q2, 0, none⟩ = some (.pointer (some ⟨p, 0, none⟩)) ∧ W.cell? ⟨q3, 0, none⟩ = some (.int .i64 n) ∧ W.cell? ⟨q3, 1, none⟩ = some (.int .i64 k) ∧ W.cell? ⟨q3, 2, none⟩ = some (.slice A cut.length c) ∧ W.cell? ⟨q3, 3, none⟩ = some (.int .i64 tag) ∧ W.cell? ⟨q3, 4, none⟩ = some (.int .i64 t) ∧ W.cell? ⟨q3, 5, none⟩ = some (.int .i64 u) ∧ Chg No w0 W) (by kernel_rfl) (by kernel_rfl) s0 ?_
    ((refine pl_yes (i := 0) (oi := { dst := some 6, op := Go.Op.load 58 (Go.Operand.tmp 3), type := 58, pos := "order.go:83", after := #[], guard := none }) (v := ?_) rfl (by kernel_rfl) (by kernel_rfl) rfl ?_ ?_); rotate_left; focus (intro W hW; (try dsimp only at hW); go_split_ands; go_simp; (try (simp (disch := omega) only [IntWalk.i64_in]; (try go_simp))); (try (split; (next => omega); (try go_simp))); try rfl; done))
    try simp only [Act.put, List.setIfInBounds_toArray, List.set_cons_zero, List.set_cons_succ]
    -- ready: [1]
    refine pl_call (i := 1) (oi := { dst := some 7, op := Go.Op.call { callee := Go.Callee.value (Go.Operand.func 62), args := #[Go.Operand.tmp 6], argTypes := #[58] }, type := 4, pos := "order.go:83", after := #[{ on := 0, ground := Go.Ground.data }], guard := none }) (.bool false) rfl (by kernel_rfl) (by kernel_rfl) rfl (by exact (fun W hW => (hright.out W (hc0.trans hW.2.2.2.2.2.2.2)).mono fun x w' h => ⟨h.1, HS.out _ (hW.2.2.2.2.2.2.2.trans h.2)⟩)) (fun W => by kernel_rfl) ?_
    try simp only [Act.put, List.setIfInBounds_toArray, List.set_cons_zero, List.set_cons_succ]
    ((refine pl_yes (i := 2) (oi := { dst := some 8, op := Go.Op.unOp Go.UnOp.not 4 (Go.Operand.tmp 7), type := 4, pos := "order.go:83", after := #[{ on := 1, ground := Go.Ground.data }], guard := none }) (v := ?_) rfl (by kernel_rfl) (by kernel_rfl) rfl ?_ ?_); rotate_left; focus (intro W hW; (try dsimp only at hW); go_split_ands; go_simp; (try (simp (disch := omega) only [IntWalk.i64_in]; (try go_simp))); (try (split; (next => omega); (try go_simp))); try rfl; done))
    try simp only [Act.put, List.setIfInBounds_toArray, List.set_cons_zero, List.set_cons_succ]
    ((refine pl_yes (i := 3) (oi := { dst := some 9, op := Go.Op.move (Go.Operand.tmp 8), type := 4, pos := "order.go:83", after := #[{ on := 2, ground := Go.Ground.data }, { on := 1, ground := Go.Ground.chain }], guard := none }) (v := ?_) rfl (by kernel_rfl) (by kernel_rfl) rfl ?_ ?_); rotate_left; focus (intro W hW; (try dsimp only at hW); go_split_ands; go_simp; (try (simp (disch := omega) only [IntWalk.i64_in]; (try go_simp))); (try (split; (next => omega); (try go_simp))); try rfl; done))
    try simp only [Act.put, List.setIfInBounds_toArray, List.set_cons_zero, List.set_cons_succ]
    first | (refine pl_no (i := 4) (oi := { dst := some 10, op := Go.Op.fieldAddr 58 (Go.Operand.tmp 3) 0, type := 0, pos := "order.go:83", after := #[{ on := 3, ground := Go.Ground.guard }], guard := some (3, false) }) rfl (by kernel_rfl) (by kernel_rfl) rfl ?_) | ((refine pl_yes (i := 4) (oi := { dst := some 10, op := Go.Op.fieldAddr 58 (Go.Operand.tmp 3) 0, type := 0, pos := "order.go:83", after := #[{ on := 3, ground := Go.Ground.guard }], guard := some (3, false) }) (v := ?_) rfl (by kernel_rfl) (by kernel_rfl) rfl ?_ ?_); rotate_left; focus (intro W hW; (try dsimp only at hW); go_split_ands; go_simp; (try (simp (disch := omega) only [IntWalk.i64_in]; (try go_simp))); (try (split; (next => omega); (try go_simp))); try rfl; done))
    try simp only [Act.put, List.setIfInBounds_toArray, List.set_cons_zero, List.set_cons_succ]
    first | (refine pl_no (i := 5) (oi := { dst := some 11, op := Go.Op.load 3 (Go.Operand.tmp 10), type := 3, pos := "order.go:83", after := #[{ on := 4, ground := Go.Ground.data }, { on := 3, ground := Go.Ground.guard }], guard := some (3, false) }) rfl (by kernel_rfl) (by kernel_rfl) rfl ?_) | ((refine pl_yes (i := 5) (oi := { dst := some 11, op := Go.Op.load 3 (Go.Operand.tmp 10), type := 3, pos := "order.go:83", after := #[{ on := 4, ground := Go.Ground.data }, { on := 3, ground := Go.Ground.guard }], guard := some (3, false) }) (v := ?_) rfl (by kernel_rfl) (by kernel_rfl) rfl ?_ ?_); rotate_left; focus (intro W hW; (try dsimp only at hW); go_split_ands; go_simp; (try (simp (disch := omega) only [IntWalk.i64_in]; (try go_simp))); (try (split; (next => omega); (try go_simp))); try rfl; done))
    try simp only [Act.put, List.setIfInBounds_toArray, List.set_cons_zero, List.set_cons_succ]
    first | (refine pl_no (i := 6) (oi := { dst := some 12, op := Go.Op.load 25 (Go.Operand.tmp 2), type := 25, pos := "order.go:83", after := #[{ on := 3, ground := Go.Ground.guard }], guard := some (3, false) }) rfl (by kernel_rfl) (by kernel_rfl) rfl ?_) | ((refine pl_yes (i := 6) (oi := { dst := some 12, op := Go.Op.load 25 (Go.Operand.tmp 2), type := 25, pos := "order.go:83", after := #[{ on := 3, ground := Go.Ground.guard }], guard := some (3, false) }) (v := ?_) rfl (by kernel_rfl) (by kernel_rfl) rfl ?_ ?_); rotate_left; focus (intro W hW; (try dsimp only at hW); go_split_ands; go_simp; (try (simp (disch := omega) only [IntWalk.i64_in]; (try go_simp))); (try (split; (next => omega); (try go_simp))); try rfl; done))
    try simp only [Act.put, List.setIfInBounds_toArray, List.set_cons_zero, List.set_cons_succ]
    -- ready: [7]
    refine pl_no (i := 7) (oi := { dst := some 13, op := Go.Op.call { callee := Go.Callee.value (Go.Operand.func 27), args := #[Go.Operand.tmp 12], argTypes := #[25] }, type := 3, pos := "order.go:83", after := #[{ on := 6, ground := Go.Ground.data }, { on := 3, ground := Go.Ground.chain }, { on := 3, ground := Go.Ground.guard }], guard := some (3, false) }) rfl (by kernel_rfl) (by kernel_rfl) rfl ?_
    try simp only [Act.put, List.setIfInBounds_toArray, List.set_cons_zero, List.set_cons_succ]
    first | (refine pl_no (i := 8) (oi := { dst := some 14, op := Go.Op.binOp Go.BinOp.add 3 (Go.Operand.tmp 13) (Go.Operand.const (Go.Value.int Go.IntKind.i64 1)) 3, type := 3, pos := "order.go:83", after := #[{ on := 7, ground := Go.Ground.data }, { on := 3, ground := Go.Ground.guard }], guard := some (3, false) }) rfl (by kernel_rfl) (by kernel_rfl) rfl ?_) | ((refine pl_yes (i := 8) (oi := { dst := some 14, op := Go.Op.binOp Go.BinOp.add 3 (Go.Operand.tmp 13) (Go.Operand.const (Go.Value.int Go.IntKind.i64 1)) 3, type := 3, pos := "order.go:83", after := #[{ on := 7, ground := Go.Ground.data }, { on := 3, ground := Go.Ground.guard }], guard := some (3, false) }) (v := ?_) rfl (by kernel_rfl) (by kernel_rfl) rfl ?_ ?_); rotate_left; focus (intro W hW; (try dsimp only at hW); go_split_ands; go_simp; (try (simp (disch := omega) only [IntWalk.i64_in]; (try go_simp))); (try (split; (next => omega); (try go_simp))); try rfl; done))
    try simp only [Act.put, List.setIfInBounds_toArray, List.set_cons_zero, List.set_cons_succ]
    first | (refine pl_no (i := 9) (oi := { dst := some 15, op := Go.Op.binOp Go.BinOp.neq 3 (Go.Operand.tmp 11) (Go.Operand.tmp 14) 3, type := 4, pos := "order.go:83", after := #[{ on := 5, ground := Go.Ground.data }, { on := 8, ground := Go.Ground.data }, { on := 3, ground := Go.Ground.guard }], guard := some (3, false) }) rfl (by kernel_rfl) (by kernel_rfl) rfl ?_) | ((refine pl_yes (i := 9) (oi := { dst := some 15, op := Go.Op.binOp Go.BinOp.neq 3 (Go.Operand.tmp 11) (Go.Operand.tmp 14) 3, type := 4, pos := "order.go:83", after := #[{ on := 5, ground := Go.Ground.data }, { on := 8, ground := Go.Ground.data }, { on := 3, ground := Go.Ground.guard }], guard := some (3, false) }) (v := ?_) rfl (by kernel_rfl) (by kernel_rfl) rfl ?_ ?_); rotate_left; focus (intro W hW; (try dsimp only at hW); go_split_ands; go_simp; (try (simp (disch := omega) only [IntWalk.i64_in]; (try go_simp))); (try (split; (next => omega); (try go_simp))); try rfl; done))
    try simp only [Act.put, List.setIfInBounds_toArray, List.set_cons_zero, List.set_cons_succ]
    ((refine pl_yes (i := 10) (oi := { dst := some 16, op := Go.Op.pick (Go.Operand.tmp 9) (Go.Operand.const (Go.Value.bool true)) (Go.Operand.tmp 15), type := 4, pos := "order.go:83", after := #[{ on := 3, ground := Go.Ground.data }, { on := 9, ground := Go.Ground.data }], guard := none }) (v := ?_) rfl (by kernel_rfl) (by kernel_rfl) rfl ?_ ?_); rotate_left; focus (intro W hW; (try dsimp only at hW); go_split_ands; go_simp; (try (simp (disch := omega) only [IntWalk.i64_in]; (try go_simp))); (try (split; (next => omega); (try go_simp))); try rfl; done))
    try simp only [Act.put, List.setIfInBounds_toArray, List.set_cons_zero, List.set_cons_succ]
    -- ready: []
    refine pl_done (by kernel_rfl)  ?_
    rintro w1 ⟨_, _, _, _, _, _, _, hc1⟩
    go_wp2_with (first | (with_reducible refine stop_append ?_) | (with_reducible refine stop_copy ?_) | (with_reducible refine stop_make ?_) | (with_reducible refine stop_lookup ?_) | (with_reducible refine stop_update ?_) | (with_reducible refine stop_slice ?_) | (with_reducible refine stop_range ?_) | (with_reducible refine stop_next ?_) | (with_reducible refine stop_convert ⟨_, rfl⟩ ?_) | (with_reducible refine stop_convertB ⟨_, _, _, rfl⟩ ?_) | (with_reducible refine stop_eqSlice ⟨_, _, rfl⟩ ?_))
    refine marks_ret (results_tmp rfl _ _ _) ?_
    exact Hstay.out _ _ (hc0.trans hc1) hres.out
  | true =>
    rw [hb] at hright
    have Hb := Lib.hid hb
    clear hb
    refine pl_start (fun W => W.cell? ⟨q2, 0, none⟩ = some (.pointer (some ⟨p, 0, none⟩)) ∧ W.cell? ⟨q3, 0, none⟩ = some (.int .i64 n) ∧ W.cell? ⟨q3, 1, none⟩ = some (.int .i64 k) ∧ W.cell? ⟨q3, 2, none⟩ = some (.slice A cut.length c) ∧ W.cell? ⟨q3, 3, none⟩ = some (.int .i64 tag) ∧ W.cell? ⟨q3, 4, none⟩ = some (.int .i64 t) ∧ W.cell? ⟨q3, 5, none⟩ = some (.int .i64 u) ∧ Chg No w0 W) (by kernel_rfl) (by kernel_rfl) s0 ?_
    ((refine pl_yes (i := 0) (oi := { dst := some 6, op := Go.Op.load 58 (Go.Operand.tmp 3), type := 58, pos := "order.go:83", after := #[], guard := none }) (v := ?_) rfl (by kernel_rfl) (by kernel_rfl) rfl ?_ ?_); rotate_left; focus (intro W hW; (try dsimp only at hW); go_split_ands; go_simp; (try (simp (disch := omega) only [IntWalk.i64_in]; (try go_simp))); (try (split; (next => omega); (try go_simp))); try rfl; done))
    try simp only [Act.put, List.setIfInBounds_toArray, List.set_cons_zero, List.set_cons_succ]
    -- ready: [1]
    refine pl_call (i := 1) (oi := { dst := some 7, op := Go.Op.call { callee := Go.Callee.value (Go.Operand.func 62), args := #[Go.Operand.tmp 6], argTypes := #[58] }, type := 4, pos := "order.go:83", after := #[{ on := 0, ground := Go.Ground.data }], guard := none }) (.bool true) rfl (by kernel_rfl) (by kernel_rfl) rfl (by exact (fun W hW => (hright.out W (hc0.trans hW.2.2.2.2.2.2.2)).mono fun x w' h => ⟨h.1, HS.out _ (hW.2.2.2.2.2.2.2.trans h.2)⟩)) (fun W => by kernel_rfl) ?_
    try simp only [Act.put, List.setIfInBounds_toArray, List.set_cons_zero, List.set_cons_succ]
    ((refine pl_yes (i := 2) (oi := { dst := some 8, op := Go.Op.unOp Go.UnOp.not 4 (Go.Operand.tmp 7), type := 4, pos := "order.go:83", after := #[{ on := 1, ground := Go.Ground.data }], guard := none }) (v := ?_) rfl (by kernel_rfl) (by kernel_rfl) rfl ?_ ?_); rotate_left; focus (intro W hW; (try dsimp only at hW); go_split_ands; go_simp; (try (simp (disch := omega) only [IntWalk.i64_in]; (try go_simp))); (try (split; (next => omega); (try go_simp))); try rfl; done))
    try simp only [Act.put, List.setIfInBounds_toArray, List.set_cons_zero, List.set_cons_succ]
    ((refine pl_yes (i := 3) (oi := { dst := some 9, op := Go.Op.move (Go.Operand.tmp 8), type := 4, pos := "order.go:83", after := #[{ on := 2, ground := Go.Ground.data }, { on := 1, ground := Go.Ground.chain }], guard := none }) (v := ?_) rfl (by kernel_rfl) (by kernel_rfl) rfl ?_ ?_); rotate_left; focus (intro W hW; (try dsimp only at hW); go_split_ands; go_simp; (try (simp (disch := omega) only [IntWalk.i64_in]; (try go_simp))); (try (split; (next => omega); (try go_simp))); try rfl; done))
    try simp only [Act.put, List.setIfInBounds_toArray, List.set_cons_zero, List.set_cons_succ]
    first | (refine pl_no (i := 4) (oi := { dst := some 10, op := Go.Op.fieldAddr 58 (Go.Operand.tmp 3) 0, type := 0, pos := "order.go:83", after := #[{ on := 3, ground := Go.Ground.guard }], guard := some (3, false) }) rfl (by kernel_rfl) (by kernel_rfl) rfl ?_) | ((refine pl_yes (i := 4) (oi := { dst := some 10, op := Go.Op.fieldAddr 58 (Go.Operand.tmp 3) 0, type := 0, pos := "order.go:83", after := #[{ on := 3, ground := Go.Ground.guard }], guard := some (3, false) }) (v := ?_) rfl (by kernel_rfl) (by kernel_rfl) rfl ?_ ?_); rotate_left; focus (intro W hW; (try dsimp only at hW); go_split_ands; go_simp; (try (simp (disch := omega) only [IntWalk.i64_in]; (try go_simp))); (try (split; (next => omega); (try go_simp))); try rfl; done))
    try simp only [Act.put, List.setIfInBounds_toArray, List.set_cons_zero, List.set_cons_succ]
    first | (refine pl_no (i := 5) (oi := { dst := some 11, op := Go.Op.load 3 (Go.Operand.tmp 10), type := 3, pos := "order.go:83", after := #[{ on := 4, ground := Go.Ground.data }, { on := 3, ground := Go.Ground.guard }], guard := some (3, false) }) rfl (by kernel_rfl) (by kernel_rfl) rfl ?_) | ((refine pl_yes (i := 5) (oi := { dst := some 11, op := Go.Op.load 3 (Go.Operand.tmp 10), type := 3, pos := "order.go:83", after := #[{ on := 4, ground := Go.Ground.data }, { on := 3, ground := Go.Ground.guard }], guard := some (3, false) }) (v := ?_) rfl (by kernel_rfl) (by kernel_rfl) rfl ?_ ?_); rotate_left; focus (intro W hW; (try dsimp only at hW); go_split_ands; go_simp; (try (simp (disch := omega) only [IntWalk.i64_in]; (try go_simp))); (try (split; (next => omega); (try go_simp))); try rfl; done))
    try simp only [Act.put, List.setIfInBounds_toArray, List.set_cons_zero, List.set_cons_succ]
    first | (refine pl_no (i := 6) (oi := { dst := some 12, op := Go.Op.load 25 (Go.Operand.tmp 2), type := 25, pos := "order.go:83", after := #[{ on := 3, ground := Go.Ground.guard }], guard := some (3, false) }) rfl (by kernel_rfl) (by kernel_rfl) rfl ?_) | ((refine pl_yes (i := 6) (oi := { dst := some 12, op := Go.Op.load 25 (Go.Operand.tmp 2), type := 25, pos := "order.go:83", after := #[{ on := 3, ground := Go.Ground.guard }], guard := some (3, false) }) (v := ?_) rfl (by kernel_rfl) (by kernel_rfl) rfl ?_ ?_); rotate_left; focus (intro W hW; (try dsimp only at hW); go_split_ands; go_simp; (try (simp (disch := omega) only [IntWalk.i64_in]; (try go_simp))); (try (split; (next => omega); (try go_simp))); try rfl; done))
    try simp only [Act.put, List.setIfInBounds_toArray, List.set_cons_zero, List.set_cons_succ]
    -- ready: [7]
    refine pl_call (i := 7) (oi := { dst := some 13, op := Go.Op.call { callee := Go.Callee.value (Go.Operand.func 27), args := #[Go.Operand.tmp 12], argTypes := #[25] }, type := 3, pos := "order.go:83", after := #[{ on := 6, ground := Go.Ground.data }, { on := 3, ground := Go.Ground.chain }, { on := 3, ground := Go.Ground.guard }], guard := some (3, false) }) (.int .i64 (st.after.length - 1)) rfl (by kernel_rfl) (by kernel_rfl) rfl (by exact (fun W hW => (hent.out W (hc0.trans hW.2.2.2.2.2.2.2)).mono fun x w' h => ⟨h.1, by rw [← h.2]; exact hW⟩)) (fun W => by kernel_rfl) ?_
    try simp only [Act.put, List.setIfInBounds_toArray, List.set_cons_zero, List.set_cons_succ]
    first | (refine pl_no (i := 8) (oi := { dst := some 14, op := Go.Op.binOp Go.BinOp.add 3 (Go.Operand.tmp 13) (Go.Operand.const (Go.Value.int Go.IntKind.i64 1)) 3, type := 3, pos := "order.go:83", after := #[{ on := 7, ground := Go.Ground.data }, { on := 3, ground := Go.Ground.guard }], guard := some (3, false) }) rfl (by kernel_rfl) (by kernel_rfl) rfl ?_) | ((refine pl_yes (i := 8) (oi := { dst := some 14, op := Go.Op.binOp Go.BinOp.add 3 (Go.Operand.tmp 13) (Go.Operand.const (Go.Value.int Go.IntKind.i64 1)) 3, type := 3, pos := "order.go:83", after := #[{ on := 7, ground := Go.Ground.data }, { on := 3, ground := Go.Ground.guard }], guard := some (3, false) }) (v := ?_) rfl (by kernel_rfl) (by kernel_rfl) rfl ?_ ?_); rotate_left; focus (intro W hW; (try dsimp only at hW); go_split_ands; go_simp; (try (simp (disch := omega) only [IntWalk.i64_in]; (try go_simp))); (try (split; (next => omega); (try go_simp))); try rfl; done))
    try simp only [Act.put, List.setIfInBounds_toArray, List.set_cons_zero, List.set_cons_succ]
    first | (refine pl_no (i := 9) (oi := { dst := some 15, op := Go.Op.binOp Go.BinOp.neq 3 (Go.Operand.tmp 11) (Go.Operand.tmp 14) 3, type := 4, pos := "order.go:83", after := #[{ on := 5, ground := Go.Ground.data }, { on := 8, ground := Go.Ground.data }, { on := 3, ground := Go.Ground.guard }], guard := some (3, false) }) rfl (by kernel_rfl) (by kernel_rfl) rfl ?_) | ((refine pl_yes (i := 9) (oi := { dst := some 15, op := Go.Op.binOp Go.BinOp.neq 3 (Go.Operand.tmp 11) (Go.Operand.tmp 14) 3, type := 4, pos := "order.go:83", after := #[{ on := 5, ground := Go.Ground.data }, { on := 8, ground := Go.Ground.data }, { on := 3, ground := Go.Ground.guard }], guard := some (3, false) }) (v := ?_) rfl (by kernel_rfl) (by kernel_rfl) rfl ?_ ?_); rotate_left; focus (intro W hW; (try dsimp only at hW); go_split_ands; go_simp; (try (simp (disch := omega) only [IntWalk.i64_in]; (try go_simp))); (try (split; (next => omega); (try go_simp))); try rfl; done))
    try simp only [Act.put, List.setIfInBounds_toArray, List.set_cons_zero, List.set_cons_succ]
    ((refine pl_yes (i := 10) (oi := { dst := some 16, op := Go.Op.pick (Go.Operand.tmp 9) (Go.Operand.const (Go.Value.bool true)) (Go.Operand.tmp 15), type := 4, pos := "order.go:83", after := #[{ on := 3, ground := Go.Ground.data }, { on := 9, ground := Go.Ground.data }], guard := none }) (v := ?_) rfl (by kernel_rfl) (by kernel_rfl) rfl ?_ ?_); rotate_left; focus (intro W hW; (try dsimp only at hW); go_split_ands; go_simp; (try (simp (disch := omega) only [IntWalk.i64_in]; (try go_simp))); (try (split; (next => omega); (try go_simp))); try rfl; done))
    try simp only [Act.put, List.setIfInBounds_toArray, List.set_cons_zero, List.set_cons_succ]
    -- ready: []
    refine pl_done (by kernel_rfl)  ?_
    rintro w1 ⟨_, _, _, _, _, _, _, hc1⟩
    have hcw1 := hc0.trans hc1
    have s1 := HS.out w1 hc1
    by_cases hn : n = st.after.length
    · have hn2 : (n != (st.after.length : Int) - 1 + 1) = false := by simp; omega
      have hn3 : (n == (st.after.length : Int)) = true := by simpa using hn
      have Hn := Lib.hid hn
      clear hn
      by_cases hk : k = 1
      · subst hk
        obtain ⟨s12, _, s11, s13, _, _, _, _⟩ := s1
        obtain ⟨lv, rv, av, hv⟩ := H.out.keepNo hcw1
        obtain ⟨A0, c0, rfl⟩ := hv.sl.slice
        have cp : w1.cell? ⟨p, 0, none⟩ = some (.slice A0 st.last.length c0) := cell_obj (i := 0) hv.obj rfl
        have h8 := (vright_iff.1 HI.out.right).2.1
        have hcov := Lib.hid (fun W hW => vcovers_any _ _ _ _ cut st.last W (Hs.out.keepNo (w' := W) (hcw1.trans hW)) (hv.sl.keepNo hW) hl (by omega))
        have htot := Lib.hid (fun W hW => vtotal_any _ _ cut W (Hs.out.keepNo (w' := W) (hcw1.trans hW)) hl)
        cases hcv : coversB cut st.last with
        | false =>
          have hres := Lib.hid (show addF st (n, 1, cut, tag, t, u) = (st, 150) by unfold addF; rw [if_pos ⟨Hb.out, Hn.out⟩]; simp only [if_true]; rw [if_neg (by rw [hcv]; simp)])
          rw [hcv] at hcov
          clear hcv
          go_wp2_with (first | (with_reducible refine stop_append ?_) | (with_reducible refine stop_copy ?_) | (with_reducible refine stop_make ?_) | (with_reducible refine stop_lookup ?_) | (with_reducible refine stop_update ?_) | (with_reducible refine stop_slice ?_) | (with_reducible refine stop_range ?_) | (with_reducible refine stop_next ?_) | (with_reducible refine stop_convert ⟨_, rfl⟩ ?_) | (with_reducible refine stop_convertB ⟨_, _, _, rfl⟩ ?_) | (with_reducible refine stop_eqSlice ⟨_, _, rfl⟩ ?_))
          refine pl_start (fun W => W.cell? ⟨q2, 0, none⟩ = some (.pointer (some ⟨p, 0, none⟩)) ∧ W.cell? ⟨q3, 2, none⟩ = some (.slice A cut.length c) ∧ W.cell? ⟨p, 0, none⟩ = some (.slice A0 st.last.length c0) ∧ Chg No w1 W) (by kernel_rfl) (by kernel_rfl) ⟨s12, s13, cp, (Chg.refl No w1).drew⟩ ?_
          ((refine pl_yes (i := 0) (oi := { dst := some 32, op := Go.Op.fieldAddr 58 (Go.Operand.tmp 3) 2, type := 0, pos := "order.go:91", after := #[], guard := none }) (v := ?_) rfl (by kernel_rfl) (by kernel_rfl) rfl ?_ ?_); rotate_left; focus (intro W hW; (try dsimp only at hW); go_split_ands; go_simp; (try (simp (disch := omega) only [IntWalk.i64_in]; (try go_simp))); (try (split; (next => omega); (try go_simp))); try rfl; done))
          try simp only [Act.put, List.setIfInBounds_toArray, List.set_cons_zero, List.set_cons_succ]
          ((refine pl_yes (i := 1) (oi := { dst := some 33, op := Go.Op.load 46 (Go.Operand.tmp 32), type := 46, pos := "order.go:91", after := #[{ on := 0, ground := Go.Ground.data }], guard := none }) (v := ?_) rfl (by kernel_rfl) (by kernel_rfl) rfl ?_ ?_); rotate_left; focus (intro W hW; (try dsimp only at hW); go_split_ands; go_simp; (try (simp (disch := omega) only [IntWalk.i64_in]; (try go_simp))); (try (split; (next => omega); (try go_simp))); try rfl; done))
          try simp only [Act.put, List.setIfInBounds_toArray, List.set_cons_zero, List.set_cons_succ]
          ((refine pl_yes (i := 2) (oi := { dst := some 34, op := Go.Op.load 25 (Go.Operand.tmp 2), type := 25, pos := "order.go:91", after := #[], guard := none }) (v := ?_) rfl (by kernel_rfl) (by kernel_rfl) rfl ?_ ?_); rotate_left; focus (intro W hW; (try dsimp only at hW); go_split_ands; go_simp; (try (simp (disch := omega) only [IntWalk.i64_in]; (try go_simp))); (try (split; (next => omega); (try go_simp))); try rfl; done))
          try simp only [Act.put, List.setIfInBounds_toArray, List.set_cons_zero, List.set_cons_succ]
          ((refine pl_yes (i := 3) (oi := { dst := some 35, op := Go.Op.nilCheck (Go.Operand.tmp 34), type := 0, pos := "order.go:91", after := #[{ on := 2, ground := Go.Ground.data }], guard := none }) (v := ?_) rfl (by kernel_rfl) (by kernel_rfl) rfl ?_ ?_); rotate_left; focus (intro W hW; (try dsimp only at hW); go_split_ands; go_simp; (try (simp (disch := omega) only [IntWalk.i64_in]; (try go_simp))); (try (split; (next => omega); (try go_simp))); try rfl; done))
          try simp only [Act.put, List.setIfInBounds_toArray, List.set_cons_zero, List.set_cons_succ]
          ((refine pl_yes (i := 4) (oi := { dst := some 36, op := Go.Op.fieldAddr 122 (Go.Operand.tmp 35) 0, type := 0, pos := "order.go:91", after := #[{ on := 3, ground := Go.Ground.data }], guard := none }) (v := ?_) rfl (by kernel_rfl) (by kernel_rfl) rfl ?_ ?_); rotate_left; focus (intro W hW; (try dsimp only at hW); go_split_ands; go_simp; (try (simp (disch := omega) only [IntWalk.i64_in]; (try go_simp))); (try (split; (next => omega); (try go_simp))); try rfl; done))
          try simp only [Act.put, List.setIfInBounds_toArray, List.set_cons_zero, List.set_cons_succ]
          ((refine pl_yes (i := 5) (oi := { dst := some 37, op := Go.Op.load 46 (Go.Operand.tmp 36), type := 46, pos := "order.go:91", after := #[{ on := 4, ground := Go.Ground.data }], guard := none }) (v := ?_) rfl (by kernel_rfl) (by kernel_rfl) rfl ?_ ?_); rotate_left; focus (intro W hW; (try dsimp only at hW); go_split_ands; go_simp; (try (simp (disch := omega) only [IntWalk.i64_in]; (try go_simp))); (try (split; (next => omega); (try go_simp))); try rfl; done))
          try simp only [Act.put, List.setIfInBounds_toArray, List.set_cons_zero, List.set_cons_succ]
          -- ready: [6]
          refine pl_call (i := 6) (oi := { dst := some 38, op := Go.Op.call { callee := Go.Callee.value (Go.Operand.func 63), args := #[Go.Operand.tmp 33, Go.Operand.tmp 37], argTypes := #[46, 46] }, type := 4, pos := "order.go:91", after := #[{ on := 1, ground := Go.Ground.data }, { on := 5, ground := Go.Ground.data }], guard := none }) (.bool false) rfl (by kernel_rfl) (by kernel_rfl) rfl (by exact (fun W hW => (hcov.out W hW.2.2.2).mono fun x w' h => ⟨h.1, h.2.cell hW.1 (not_no _), h.2.cell hW.2.1 (not_no _), h.2.cell hW.2.2.1 (not_no _), hW.2.2.2.trans h.2⟩)) (fun W => by kernel_rfl) ?_
          try simp only [Act.put, List.setIfInBounds_toArray, List.set_cons_zero, List.set_cons_succ]
          ((refine pl_yes (i := 7) (oi := { dst := some 39, op := Go.Op.unOp Go.UnOp.not 4 (Go.Operand.tmp 38), type := 4, pos := "order.go:91", after := #[{ on := 6, ground := Go.Ground.data }], guard := none }) (v := ?_) rfl (by kernel_rfl) (by kernel_rfl) rfl ?_ ?_); rotate_left; focus (intro W hW; (try dsimp only at hW); go_split_ands; go_simp; (try (simp (disch := omega) only [IntWalk.i64_in]; (try go_simp))); (try (split; (next => omega); (try go_simp))); try rfl; done))
          try simp only [Act.put, List.setIfInBounds_toArray, List.set_cons_zero, List.set_cons_succ]
          ((refine pl_yes (i := 8) (oi := { dst := some 31, op := Go.Op.assign (Go.Operand.tmp 39), type := 4, pos := "order.go:91", after := #[{ on := 7, ground := Go.Ground.data }, { on := 6, ground := Go.Ground.chain }], guard := none }) (v := ?_) rfl (by kernel_rfl) (by kernel_rfl) rfl ?_ ?_); rotate_left; focus (intro W hW; (try dsimp only at hW); go_split_ands; go_simp; (try (simp (disch := omega) only [IntWalk.i64_in]; (try go_simp))); (try (split; (next => omega); (try go_simp))); try rfl; done))
          try simp only [Act.put, List.setIfInBounds_toArray, List.set_cons_zero, List.set_cons_succ]
          -- ready: []
          refine pl_done (by kernel_rfl)  ?_
          rintro w2 ⟨_, _, _, hc2⟩
          go_wp2_with (first | (with_reducible refine stop_append ?_) | (with_reducible refine stop_copy ?_) | (with_reducible refine stop_make ?_) | (with_reducible refine stop_lookup ?_) | (with_reducible refine stop_update ?_) | (with_reducible refine stop_slice ?_) | (with_reducible refine stop_range ?_) | (with_reducible refine stop_next ?_) | (with_reducible refine stop_convert ⟨_, rfl⟩ ?_) | (with_reducible refine stop_convertB ⟨_, _, _, rfl⟩ ?_) | (with_reducible refine stop_eqSlice ⟨_, _, rfl⟩ ?_))
          refine marks_ret (results_tmp rfl _ _ _) ?_
          exact Hstay.out _ _ (hcw1.trans hc2) hres.out
        | true =>
          rw [hcv] at hcov
          have Hcv := Lib.hid hcv
          clear hcv
          go_wp2_with (first | (with_reducible refine stop_append ?_) | (with_reducible refine stop_copy ?_) | (with_reducible refine stop_make ?_) | (with_reducible refine stop_lookup ?_) | (with_reducible refine stop_update ?_) | (with_reducible refine stop_slice ?_) | (with_reducible refine stop_range ?_) | (with_reducible refine stop_next ?_) | (with_reducible refine stop_convert ⟨_, rfl⟩ ?_) | (with_reducible refine stop_convertB ⟨_, _, _, rfl⟩ ?_) | (with_reducible refine stop_eqSlice ⟨_, _, rfl⟩ ?_))
          refine pl_start (fun W => W.cell? ⟨q2, 0, none⟩ = some (.pointer (some ⟨p, 0, none⟩)) ∧ W.cell? ⟨q3, 2, none⟩ = some (.slice A cut.length c) ∧ W.cell? ⟨p, 0, none⟩ = some (.slice A0 st.last.length c0) ∧ Chg No w1 W) (by kernel_rfl) (by kernel_rfl) ⟨s12, s13, cp, (Chg.refl No w1).drew⟩ ?_
          ((refine pl_yes (i := 0) (oi := { dst := some 32, op := Go.Op.fieldAddr 58 (Go.Operand.tmp 3) 2, type := 0, pos := "order.go:91", after := #[], guard := none }) (v := ?_) rfl (by kernel_rfl) (by kernel_rfl) rfl ?_ ?_); rotate_left; focus (intro W hW; (try dsimp only at hW); go_split_ands; go_simp; (try (simp (disch := omega) only [IntWalk.i64_in]; (try go_simp))); (try (split; (next => omega); (try go_simp))); try rfl; done))
          try simp only [Act.put, List.setIfInBounds_toArray, List.set_cons_zero, List.set_cons_succ]
          ((refine pl_yes (i := 1) (oi := { dst := some 33, op := Go.Op.load 46 (Go.Operand.tmp 32), type := 46, pos := "order.go:91", after := #[{ on := 0, ground := Go.Ground.data }], guard := none }) (v := ?_) rfl (by kernel_rfl) (by kernel_rfl) rfl ?_ ?_); rotate_left; focus (intro W hW; (try dsimp only at hW); go_split_ands; go_simp; (try (simp (disch := omega) only [IntWalk.i64_in]; (try go_simp))); (try (split; (next => omega); (try go_simp))); try rfl; done))
          try simp only [Act.put, List.setIfInBounds_toArray, List.set_cons_zero, List.set_cons_succ]
          ((refine pl_yes (i := 2) (oi := { dst := some 34, op := Go.Op.load 25 (Go.Operand.tmp 2), type := 25, pos := "order.go:91", after := #[], guard := none }) (v := ?_) rfl (by kernel_rfl) (by kernel_rfl) rfl ?_ ?_); rotate_left; focus (intro W hW; (try dsimp only at hW); go_split_ands; go_simp; (try (simp (disch := omega) only [IntWalk.i64_in]; (try go_simp))); (try (split; (next => omega); (try go_simp))); try rfl; done))
          try simp only [Act.put, List.setIfInBounds_toArray, List.set_cons_zero, List.set_cons_succ]
          ((refine pl_yes (i := 3) (oi := { dst := some 35, op := Go.Op.nilCheck (Go.Operand.tmp 34), type := 0, pos := "order.go:91", after := #[{ on := 2, ground := Go.Ground.data }], guard := none }) (v := ?_) rfl (by kernel_rfl) (by kernel_rfl) rfl ?_ ?_); rotate_left; focus (intro W hW; (try dsimp only at hW); go_split_ands; go_simp; (try (simp (disch := omega) only [IntWalk.i64_in]; (try go_simp))); (try (split; (next => omega); (try go_simp))); try rfl; done))
          try simp only [Act.put, List.setIfInBounds_toArray, List.set_cons_zero, List.set_cons_succ]
          ((refine pl_yes (i := 4) (oi := { dst := some 36, op := Go.Op.fieldAddr 122 (Go.Operand.tmp 35) 0, type := 0, pos := "order.go:91", after := #[{ on := 3, ground := Go.Ground.data }], guard := none }) (v := ?_) rfl (by kernel_rfl) (by kernel_rfl) rfl ?_ ?_); rotate_left; focus (intro W hW; (try dsimp only at hW); go_split_ands; go_simp; (try (simp (disch := omega) only [IntWalk.i64_in]; (try go_simp))); (try (split; (next => omega); (try go_simp))); try rfl; done))
          try simp only [Act.put, List.setIfInBounds_toArray, List.set_cons_zero, List.set_cons_succ]
          ((refine pl_yes (i := 5) (oi := { dst := some 37, op := Go.Op.load 46 (Go.Operand.tmp 36), type := 46, pos := "order.go:91", after := #[{ on := 4, ground := Go.Ground.data }], guard := none }) (v := ?_) rfl (by kernel_rfl) (by kernel_rfl) rfl ?_ ?_); rotate_left; focus (intro W hW; (try dsimp only at hW); go_split_ands; go_simp; (try (simp (disch := omega) only [IntWalk.i64_in]; (try go_simp))); (try (split; (next => omega); (try go_simp))); try rfl; done))
          try simp only [Act.put, List.setIfInBounds_toArray, List.set_cons_zero, List.set_cons_succ]
          -- ready: [6]
          refine pl_call (i := 6) (oi := { dst := some 38, op := Go.Op.call { callee := Go.Callee.value (Go.Operand.func 63), args := #[Go.Operand.tmp 33, Go.Operand.tmp 37], argTypes := #[46, 46] }, type := 4, pos := "order.go:91", after := #[{ on := 1, ground := Go.Ground.data }, { on := 5, ground := Go.Ground.data }], guard := none }) (.bool true) rfl (by kernel_rfl) (by kernel_rfl) rfl (by exact (fun W hW => (hcov.out W hW.2.2.2).mono fun x w' h => ⟨h.1, h.2.cell hW.1 (not_no _), h.2.cell hW.2.1 (not_no _), h.2.cell hW.2.2.1 (not_no _), hW.2.2.2.trans h.2⟩)) (fun W => by kernel_rfl) ?_
          try simp only [Act.put, List.setIfInBounds_toArray, List.set_cons_zero, List.set_cons_succ]
          ((refine pl_yes (i := 7) (oi := { dst := some 39, op := Go.Op.unOp Go.UnOp.not 4 (Go.Operand.tmp 38), type := 4, pos := "order.go:91", after := #[{ on := 6, ground := Go.Ground.data }], guard := none }) (v := ?_) rfl (by kernel_rfl) (by kernel_rfl) rfl ?_ ?_); rotate_left; focus (intro W hW; (try dsimp only at hW); go_split_ands; go_simp; (try (simp (disch := omega) only [IntWalk.i64_in]; (try go_simp))); (try (split; (next => omega); (try go_simp))); try rfl; done))
          try simp only [Act.put, List.setIfInBounds_toArray, List.set_cons_zero, List.set_cons_succ]
          ((refine pl_yes (i := 8) (oi := { dst := some 31, op := Go.Op.assign (Go.Operand.tmp 39), type := 4, pos := "order.go:91", after := #[{ on := 7, ground := Go.Ground.data }, { on := 6, ground := Go.Ground.chain }], guard := none }) (v := ?_) rfl (by kernel_rfl) (by kernel_rfl) rfl ?_ ?_); rotate_left; focus (intro W hW; (try dsimp only at hW); go_split_ands; go_simp; (try (simp (disch := omega) only [IntWalk.i64_in]; (try go_simp))); (try (split; (next => omega); (try go_simp))); try rfl; done))
          try simp only [Act.put, List.setIfInBounds_toArray, List.set_cons_zero, List.set_cons_succ]
          -- ready: []
          refine pl_done (by kernel_rfl)  ?_
          rintro w2 ⟨s12, s13, cp, hc2⟩
          by_cases hbig : 1000000 < total cut
          · have hres := Lib.hid (show addF st (n, 1, cut, tag, t, u) = (st, 1) by unfold addF; rw [if_pos ⟨Hb.out, Hn.out⟩]; simp only [if_true]; rw [if_pos Hcv.out, if_pos hbig])
            go_wp2_with (first | (with_reducible refine stop_append ?_) | (with_reducible refine stop_copy ?_) | (with_reducible refine stop_make ?_) | (with_reducible refine stop_lookup ?_) | (with_reducible refine stop_update ?_) | (with_reducible refine stop_slice ?_) | (with_reducible refine stop_range ?_) | (with_reducible refine stop_next ?_) | (with_reducible refine stop_convert ⟨_, rfl⟩ ?_) | (with_reducible refine stop_convertB ⟨_, _, _, rfl⟩ ?_) | (with_reducible refine stop_eqSlice ⟨_, _, rfl⟩ ?_))
            refine (htot.out _ hc2).mono ?_
            rintro x w3 ⟨rfl, hc3⟩
            go_wp2_with (first | (with_reducible refine stop_append ?_) | (with_reducible refine stop_copy ?_) | (with_reducible refine stop_make ?_) | (with_reducible refine stop_lookup ?_) | (with_reducible refine stop_update ?_) | (with_reducible refine stop_slice ?_) | (with_reducible refine stop_range ?_) | (with_reducible refine stop_next ?_) | (with_reducible refine stop_convert ⟨_, rfl⟩ ?_) | (with_reducible refine stop_convertB ⟨_, _, _, rfl⟩ ?_) | (with_reducible refine stop_eqSlice ⟨_, _, rfl⟩ ?_))
            refine marks_ret (results_tmp rfl _ _ _) ?_
            exact Hstay.out _ _ ((hcw1.trans hc2).trans hc3) hres.out
          · have hres := Lib.hid (show addF st (n, 1, cut, tag, t, u) = (⟨cut, st.runs ++ bringsF st.len 0 st.last cut, st.after ++ [total cut]⟩, 0) by unfold addF; rw [if_pos ⟨Hb.out, Hn.out⟩]; simp only [if_true]; rw [if_pos Hcv.out, if_neg hbig])
            go_wp2_with (first | (with_reducible refine stop_append ?_) | (with_reducible refine stop_copy ?_) | (with_reducible refine stop_make ?_) | (with_reducible refine stop_lookup ?_) | (with_reducible refine stop_update ?_) | (with_reducible refine stop_slice ?_) | (with_reducible refine stop_range ?_) | (with_reducible refine stop_next ?_) | (with_reducible refine stop_convert ⟨_, rfl⟩ ?_) | (with_reducible refine stop_convertB ⟨_, _, _, rfl⟩ ?_) | (with_reducible refine stop_eqSlice ⟨_, _, rfl⟩ ?_))
            refine (htot.out _ hc2).mono ?_
            rintro x w3 ⟨rfl, hc3⟩
            have s12 := hc3.cell s12 (not_no _)
            have s13 := hc3.cell s13 (not_no _)
            have cp := hc3.cell cp (not_no _)
            have hv3 := hv.keep (hc2.trans hc3) (fun _ f => f.elim)
            have hcw3 := (hcw1.trans hc2).trans hc3
            have o2 := ((hc1.trans hc2).trans hc3).obj o2 (not_no _)
            have o3 := ((hc1.trans hc2).trans hc3).obj o3 (not_no _)
            have hq3s : q3 < w3.heap.size := lt_of_heap o3
            clear hc2 hc3 hv hcov HS s0 hent hright
            go_wp2_with (first | (with_reducible refine stop_append ?_) | (with_reducible refine stop_copy ?_) | (with_reducible refine stop_make ?_) | (with_reducible refine stop_lookup ?_) | (with_reducible refine stop_update ?_) | (with_reducible refine stop_slice ?_) | (with_reducible refine stop_range ?_) | (with_reducible refine stop_next ?_) | (with_reducible refine stop_convert ⟨_, rfl⟩ ?_) | (with_reducible refine stop_convertB ⟨_, _, _, rfl⟩ ?_) | (with_reducible refine stop_eqSlice ⟨_, _, rfl⟩ ?_))
            refine (brings_any p A cut.length c _).mono ?_
            rintro x w4 ⟨rfl, rfl⟩
            go_wp2_with (first | (with_reducible refine stop_append ?_) | (with_reducible refine stop_copy ?_) | (with_reducible refine stop_make ?_) | (with_reducible refine stop_lookup ?_) | (with_reducible refine stop_update ?_) | (with_reducible refine stop_slice ?_) | (with_reducible refine stop_range ?_) | (with_reducible refine stop_next ?_) | (with_reducible refine stop_convert ⟨_, rfl⟩ ?_) | (with_reducible refine stop_convertB ⟨_, _, _, rfl⟩ ?_) | (with_reducible refine stop_eqSlice ⟨_, _, rfl⟩ ?_))
            obtain ⟨ws, hws⟩ : ∃ W, W = (w3.alloc (.cells #[.pointer (some ⟨p, 0, none⟩)] 25)).alloc (.cells #[.slice A cut.length c] 46) := ⟨_, rfl⟩
            have hcs : Chg No w3 ws := by rw [hws]; exact ((Chg.refl No w3).alloc _).alloc _
            have oa : ws.heap[w3.heap.size]? = some (.cells #[.pointer (some ⟨p, 0, none⟩)] 25 (0, 0)) := by rw [hws]; exact ((Chg.refl No _).alloc _).obj (alloc_obj w3 _) (not_no _)
            have ob : ws.heap[w3.heap.size + 1]? = some (.cells #[.slice A cut.length c] 46 (0, 0)) := by
              have := alloc_obj (w3.alloc (.cells #[.pointer (some ⟨p, 0, none⟩)] 25)) (.cells #[.slice A cut.length c] 46)
              rw [World.size_alloc] at this
              rw [hws]; exact this
            have hB : ws.heap.size = w3.heap.size + 1 + 1 := by rw [hws]; simp
            rw [← hws]
            clear hws s12 s13 cp s11
            have o2 := hcs.obj o2 (not_no _)
            have o3 := hcs.obj o3 (not_no _)
            have hvs := hv3.keep hcs (fun _ f => f.elim)
            have hws3 : w.heap.size ≤ w3.heap.size := hcw3.size
            obtain ⟨hgr, hgv, hge⟩ := covers_iff.1 Hcv.out
            have hhi : hi ≤ w.heap.size := by obtain ⟨_, _, _, h⟩ := H.out; exact h.hhi
            have hI0 : AddI w lo hi ws.heap.size p q2 q3 w3.heap.size (w3.heap.size + 1) (.slice A0 st.last.length c0) av (.slice A cut.length c) cut #[.int .i64 n, .int .i64 1, .slice A cut.length c, .int .i64 tag, .int .i64 t, .int .i64 u] st [] ws :=
              ⟨rv, by rw [List.append_nil]; exact hvs.loop (by omega) (Nat.le_refl _), o2, o3, oa, ob, Hs.out.keepNo (hcw3.trans hcs), (hcw3.trans hcs).of_no⟩
            have hpB : p < ws.heap.size := by omega
            have hwB : w.heap.size ≤ ws.heap.size := by omega
            refine wp_rangeFunc_box (α := Rn) (encs := encR) (gf := 95) (lb := #[.pointer (some ⟨w3.heap.size, 0, none⟩), .pointer (some ⟨w3.heap.size + 1, 0, none⟩)]) rfl (fun args W => by kernel_rfl) (BrQ ws.heap.size p w3.heap.size (w3.heap.size + 1) (.slice A0 st.last.length c0) (.slice A cut.length c) st.last cut) (xs := bringsF st.len 0 st.last cut)
              (brings_stops (H.out.keepNo (hcw3.trans hcs)) HI.out hge (by have := hge.len; omega) (fun x hx => ((vright_iff.1 hgr).2.2 x hx).2) hI0.brq) (fun _ => rfl) (AddI w lo hi ws.heap.size p q2 q3 w3.heap.size (w3.heap.size + 1) (.slice A0 st.last.length c0) av (.slice A cut.length c) cut #[.int .i64 n, .int .i64 1, .slice A cut.length c, .int .i64 tag, .int .i64 t, .int .i64 u] st) (fun _ _ h => h.brq) (fun s W W' row h hg hr => h.turn hwB hg hr) (fun W W' row h hg hr => h.turn hg hr (by omega) (by omega) hpB) hI0 5 124 (fun x => #[.int .i64 x.1, .int .i64 x.2.1.1, .int .i64 x.2.1.2, .int .i64 x.2.2]) (fun b W => p < W.heap.size ∧ ∀ u, W.cell? ⟨p, 1, none⟩ = some u → ¬ OB u b)
              (fun pre W W' h hc => by
                obtain ⟨rv', h1, _⟩ := h
                refine ⟨Nat.lt_of_lt_of_le (lt_of_heap h1.obj) hc.size, fun u hu => ?_⟩
                have := hc.cell (cell_obj (i := 1) h1.obj rfl) (not_no _)
                rw [this] at hu
                cases hu
                exact fun e => by have := (h1.rb _ e).2; omega)
              (fun b W W' row h hg hr => ⟨Nat.lt_of_lt_of_le h.1 hg.size, fun u hu => h.2 u (by
                rw [← World.cell?_of_block (w := W) (a := ⟨p, 1, none⟩) (hg.block p h.1 (fun e => by have := (hr p e.symm).1; omega))]; exact hu)⟩) ?assign (fun _ _ _ h hc => h.no hc) (fun _ _ h => by obtain ⟨_, h, _⟩ := h; exact h.hB.2) ?body ?done
            case assign =>
              intro l pre x W K hi0 hK
              rw [show wideAt (some l) = Fence.wide.inRound l from rfl]
              dsimp only [encR] at hK ⊢
              have HK := Lib.hid hK
              clear hK
              gi_wp2
              have hk := HK.out _ ((Chg.refl No W).alloc _) (alloc_obj W _)
              simp only [List.zip_toArray, List.zip_cons_cons, List.zip_nil_right, List.foldl_toArray, List.foldl_cons, List.foldl_nil, List.setIfInBounds_toArray, List.set_cons_zero, List.set_cons_succ] at hk
              exact hk
            case body =>
              intro l pre x b W hi0 hbB hbo hz hlen
              dsimp only [encR]
              obtain ⟨rv', h1, h2, h3, h4, h5, h6, h7⟩ := hi0
              obtain ⟨rs, hrs⟩ : ∃ rs, rs = st.runs ++ pre := ⟨_, rfl⟩
              rw [← hrs] at h1
              have Hrsl := Lib.hid (show rs.length = st.runs.length + pre.length by rw [hrs]; simp)
              have Hrs := Lib.hid hrs
              clear hrs
              obtain ⟨A6, c6, rfl⟩ := h1.row.slice
              have b2 := cell_obj (i := 0) h2 rfl
              have bp := cell_obj (i := 1) h1.obj rfl
              simp only [List.zip_toArray, List.zip_cons_cons, List.zip_nil_right, List.foldl_toArray, List.foldl_cons, List.foldl_nil, List.setIfInBounds_toArray, List.set_cons_zero, List.set_cons_succ]
              refine wpIn_block ?_
              obtain ⟨x0, ⟨x1, x2⟩, x3⟩ := x
              simp only at hbo ⊢
              have e0 : W.cell? ⟨b, 0, none⟩ = some (.int .i64 x0) := cell_obj (i := 0) hbo rfl
              have e1 : W.cell? ⟨b, 1, none⟩ = some (.int .i64 x1) := cell_obj (i := 1) hbo rfl
              have e2 : W.cell? ⟨b, 2, none⟩ = some (.int .i64 x2) := cell_obj (i := 2) hbo rfl
              have e3 : W.cell? ⟨b, 3, none⟩ = some (.int .i64 x3) := cell_obj (i := 3) hbo rfl
              have b2 : W.cell? ⟨q2, 0, none⟩ = some (.pointer (some ⟨p, 0, none⟩)) := cell_obj (i := 0) h2 rfl
              have bp : W.cell? ⟨p, 1, none⟩ = some (.slice A6 rs.length c6) := cell_obj (i := 1) h1.obj rfl
              have hlen2 := brings_len st.last cut st.len 0
              have hruns := HI.out.runsLen
              refine rti_start (fun W => W.cell? ⟨q2, 0, none⟩ = some (.pointer (some ⟨p, 0, none⟩)) ∧ W.cell? ⟨p, 1, none⟩ = some (.slice A6 rs.length c6) ∧ W.cell? ⟨b, 0, none⟩ = some (.int .i64 x0) ∧ W.cell? ⟨b, 1, none⟩ = some (.int .i64 x1) ∧ W.cell? ⟨b, 2, none⟩ = some (.int .i64 x2) ∧ W.cell? ⟨b, 3, none⟩ = some (.int .i64 x3)) (r := some l) (by kernel_rfl) (by kernel_rfl) ?_
              ((refine rt_yes (i := 0) (oi := { dst := some 50, op := Go.Op.load 25 (Go.Operand.tmp 2), type := 25, pos := "order.go:97", after := #[], guard := none }) (v := ?_) rfl (by kernel_rfl) (by kernel_rfl) (by kernel_rfl) (fun _ _ _ h => h) rfl ?_ ?_); rotate_left; focus (intro W hW; (try dsimp only at hW); go_split_ands; go_simp; (try (simp (disch := omega) only [IntWalk.i64_in]; (try go_simp))); (try (split; (next => omega); (try go_simp))); try rfl; done))
              try simp only [Act.put, List.setIfInBounds_toArray, List.set_cons_zero, List.set_cons_succ]
              ((refine rt_yes (i := 1) (oi := { dst := some 51, op := Go.Op.load 25 (Go.Operand.tmp 2), type := 25, pos := "order.go:97", after := #[], guard := none }) (v := ?_) rfl (by kernel_rfl) (by kernel_rfl) (by kernel_rfl) (fun _ _ _ h => h) rfl ?_ ?_); rotate_left; focus (intro W hW; (try dsimp only at hW); go_split_ands; go_simp; (try (simp (disch := omega) only [IntWalk.i64_in]; (try go_simp))); (try (split; (next => omega); (try go_simp))); try rfl; done))
              try simp only [Act.put, List.setIfInBounds_toArray, List.set_cons_zero, List.set_cons_succ]
              ((refine rt_yes (i := 2) (oi := { dst := some 52, op := Go.Op.nilCheck (Go.Operand.tmp 51), type := 0, pos := "order.go:97", after := #[{ on := 1, ground := Go.Ground.data }], guard := none }) (v := ?_) rfl (by kernel_rfl) (by kernel_rfl) (by kernel_rfl) (fun _ _ _ h => h) rfl ?_ ?_); rotate_left; focus (intro W hW; (try dsimp only at hW); go_split_ands; go_simp; (try (simp (disch := omega) only [IntWalk.i64_in]; (try go_simp))); (try (split; (next => omega); (try go_simp))); try rfl; done))
              try simp only [Act.put, List.setIfInBounds_toArray, List.set_cons_zero, List.set_cons_succ]
              ((refine rt_yes (i := 3) (oi := { dst := some 53, op := Go.Op.fieldAddr 122 (Go.Operand.tmp 52) 1, type := 0, pos := "order.go:97", after := #[{ on := 2, ground := Go.Ground.data }], guard := none }) (v := ?_) rfl (by kernel_rfl) (by kernel_rfl) (by kernel_rfl) (fun _ _ _ h => h) rfl ?_ ?_); rotate_left; focus (intro W hW; (try dsimp only at hW); go_split_ands; go_simp; (try (simp (disch := omega) only [IntWalk.i64_in]; (try go_simp))); (try (split; (next => omega); (try go_simp))); try rfl; done))
              try simp only [Act.put, List.setIfInBounds_toArray, List.set_cons_zero, List.set_cons_succ]
              ((refine rt_yes (i := 4) (oi := { dst := some 54, op := Go.Op.load 120 (Go.Operand.tmp 53), type := 120, pos := "order.go:97", after := #[{ on := 3, ground := Go.Ground.data }], guard := none }) (v := ?_) rfl (by kernel_rfl) (by kernel_rfl) (by kernel_rfl) (fun _ _ _ h => h) rfl ?_ ?_); rotate_left; focus (intro W hW; (try dsimp only at hW); go_split_ands; go_simp; (try (simp (disch := omega) only [IntWalk.i64_in]; (try go_simp))); (try (split; (next => omega); (try go_simp))); try rfl; done))
              try simp only [Act.put, List.setIfInBounds_toArray, List.set_cons_zero, List.set_cons_succ]
              ((refine rt_yes (i := 5) (oi := { dst := some 55, op := Go.Op.load 124 (Go.Operand.tmp 5), type := 124, pos := "order.go:97", after := #[], guard := none }) (v := ?_) rfl (by kernel_rfl) (by kernel_rfl) (by kernel_rfl) (fun _ _ _ h => h) rfl ?_ ?_); rotate_left; focus (intro W hW; (try dsimp only at hW); go_split_ands; go_simp; (try (simp (disch := omega) only [IntWalk.i64_in]; (try go_simp))); (try (split; (next => omega); (try go_simp))); try rfl; done))
              try simp only [Act.put, List.setIfInBounds_toArray, List.set_cons_zero, List.set_cons_succ]
              -- ready: [6]
              have t0 : (fun W => W.cell? ⟨q2, 0, none⟩ = some (.pointer (some ⟨p, 0, none⟩)) ∧ W.cell? ⟨p, 1, none⟩ = some (.slice A6 rs.length c6) ∧ W.cell? ⟨b, 0, none⟩ = some (.int .i64 x0) ∧ W.cell? ⟨b, 1, none⟩ = some (.int .i64 x1) ∧ W.cell? ⟨b, 2, none⟩ = some (.int .i64 x2) ∧ W.cell? ⟨b, 3, none⟩ = some (.int .i64 x3)) W.drew := ⟨b2, bp, e0, e1, e2, e3⟩
              refine rt_k (fun W => W.cell? ⟨q2, 0, none⟩ = some (.pointer (some ⟨p, 0, none⟩)) ∧ W.cell? ⟨p, 1, none⟩ = some (.slice A6 rs.length c6) ∧ W.cell? ⟨b, 0, none⟩ = some (.int .i64 x0) ∧ W.cell? ⟨b, 1, none⟩ = some (.int .i64 x1) ∧ W.cell? ⟨b, 2, none⟩ = some (.int .i64 x2) ∧ W.cell? ⟨b, 3, none⟩ = some (.int .i64 x3)) (i := 6) (oi := { dst := some 56, op := Go.Op.buildSlice 120 1 #[(0, Go.Operand.tmp 55)], type := 120, pos := "order.go:97", after := #[{ on := 5, ground := Go.Ground.data }], guard := none }) (by kernel_rfl) t0 (fun _ h => h) rfl (by rfl) (fun K hK => ?_)
              go_simp
              refine hK _ _ ?_
              clear hK K
              try simp only [Act.put, List.setIfInBounds_toArray, List.set_cons_zero, List.set_cons_succ]
              -- ready: [7]
              have hc3 : Chg No W (W.drew.alloc (.cells #[.int .i64 x0, .int .i64 x1, .int .i64 x2, .int .i64 x3] 124)) := (Chg.refl No W).drew.alloc _
              have t3 : (fun W => W.cell? ⟨q2, 0, none⟩ = some (.pointer (some ⟨p, 0, none⟩)) ∧ W.cell? ⟨p, 1, none⟩ = some (.slice A6 rs.length c6) ∧ W.cell? ⟨b, 0, none⟩ = some (.int .i64 x0) ∧ W.cell? ⟨b, 1, none⟩ = some (.int .i64 x1) ∧ W.cell? ⟨b, 2, none⟩ = some (.int .i64 x2) ∧ W.cell? ⟨b, 3, none⟩ = some (.int .i64 x3)) (W.drew.alloc (.cells #[.int .i64 x0, .int .i64 x1, .int .i64 x2, .int .i64 x3] 124)) := ⟨hc3.cell b2 (not_no _), hc3.cell bp (not_no _), hc3.cell e0 (not_no _), hc3.cell e1 (not_no _), hc3.cell e2 (not_no _), hc3.cell e3 (not_no _)⟩
              have hzb := hz.2 _ bp
              have hp1 := h1.hp
              have hB1 := h1.hB
              have h14 := h1.keepNo hc3
              refine rt_append_row (α := Int × (Int × Int) × Int) (fun W => W.cell? ⟨q2, 0, none⟩ = some (.pointer (some ⟨p, 0, none⟩)) ∧ W.cell? ⟨p, 1, none⟩ = some (.slice A6 rs.length c6) ∧ W.cell? ⟨b, 0, none⟩ = some (.int .i64 x0) ∧ W.cell? ⟨b, 1, none⟩ = some (.int .i64 x1) ∧ W.cell? ⟨b, 2, none⟩ = some (.int .i64 x2) ∧ W.cell? ⟨b, 3, none⟩ = some (.int .i64 x3)) (i := 7) (by kernel_rfl) t3 (fun _ h => h) rfl rfl Try.underlying120 info_run rfl h14.row rfl rfl (Sl.lit1 (F := No) (y := (x0, (x1, x2), x3)) rfl ⟨[_], [_, _, _], rfl, rfl, [_, _], [_], rfl, ⟨[_], [_], rfl, rfl, rfl⟩, rfl⟩ (not_no _)) (by simp) (by have := Hrsl.out; simp; omega) (by have := Hrsl.out; simp [show Rep.n (Int × (Int × Int) × Int) = 4 from rfl]; omega) (by simp; omega) ?_
              intro v5 w5 hown5 hc5 hb5
              have hnq : ∀ q, hi ≤ q → q < ws.heap.size → ¬ OB (.slice A6 rs.length c6) q := fun q a1 a2 e => by have := (h1.rb q e).1; omega
              have t5 : (fun W => W.cell? ⟨q2, 0, none⟩ = some (.pointer (some ⟨p, 0, none⟩)) ∧ W.cell? ⟨p, 1, none⟩ = some (.slice A6 rs.length c6) ∧ W.cell? ⟨b, 0, none⟩ = some (.int .i64 x0) ∧ W.cell? ⟨b, 1, none⟩ = some (.int .i64 x1) ∧ W.cell? ⟨b, 2, none⟩ = some (.int .i64 x2) ∧ W.cell? ⟨b, 3, none⟩ = some (.int .i64 x3)) w5 := ⟨hc5.cell t3.1 (fun g => hnq q2 (by omega) (by omega) g.1), hc5.cell t3.2.1 (fun g => g.2.1 (.inr (.inr (.inl rfl)))), hc5.cell t3.2.2.1 (fun g => hzb g.1), hc5.cell t3.2.2.2.1 (fun g => hzb g.1), hc5.cell t3.2.2.2.2.1 (fun g => hzb g.1), hc5.cell t3.2.2.2.2.2 (fun g => hzb g.1)⟩
              have o5 := hc5.obj h14.obj (fun g => g.2.1 (.inr (.inr (.inl rfl))))
              have f5 := free_obj (i := 1) o5
              have c5 := t5.2.1
              have hfin := AddI.app (w := w) (cut := cut) Hrs.out h14 (hc3.obj h2 (not_no _)) (hc3.obj h3 (not_no _)) (hc3.obj h4 (not_no _)) (hc3.obj h5 (not_no _)) (h6.keepNo hc3) (h7.trans hc3.of_no) ⟨⟨by omega, by omega⟩, ⟨by omega, by omega⟩, ⟨by omega, by omega⟩, ⟨by omega, by omega⟩⟩ hwB hown5 hc5 hb5
              obtain ⟨A7, c7, rfl⟩ := hown5.slice
              rw [show (rs ++ [(x0, (x1, x2), x3)]).length = rs.length + 1 by simp] at hfin
              have Hfin := Lib.hid hfin
              have Hc3 := Lib.hid hc3
              clear hown5 hb5 hfin o5 hc5
              try simp only [Act.put, List.setIfInBounds_toArray, List.set_cons_zero, List.set_cons_succ]
              ((refine rt_yes (i := 8) (oi := { dst := some 58, op := Go.Op.nilCheck (Go.Operand.tmp 50), type := 0, pos := "order.go:97", after := #[{ on := 0, ground := Go.Ground.data }, { on := 0, ground := Go.Ground.phase }, { on := 1, ground := Go.Ground.phase }, { on := 2, ground := Go.Ground.phase }, { on := 3, ground := Go.Ground.phase }, { on := 4, ground := Go.Ground.phase }, { on := 5, ground := Go.Ground.phase }, { on := 6, ground := Go.Ground.phase }, { on := 7, ground := Go.Ground.phase }], guard := none }) (v := ?_) rfl (by kernel_rfl) (by kernel_rfl) (by kernel_rfl) (fun _ _ _ h => h) rfl ?_ ?_); rotate_left; focus (intro W hW; (try dsimp only at hW); go_split_ands; go_simp; (try (simp (disch := omega) only [IntWalk.i64_in]; (try go_simp))); (try (split; (next => omega); (try go_simp))); try rfl; done))
              try simp only [Act.put, List.setIfInBounds_toArray, List.set_cons_zero, List.set_cons_succ]
              ((refine rt_yes (i := 9) (oi := { dst := some 59, op := Go.Op.fieldAddr 122 (Go.Operand.tmp 58) 1, type := 0, pos := "order.go:97", after := #[{ on := 8, ground := Go.Ground.data }, { on := 0, ground := Go.Ground.phase }, { on := 1, ground := Go.Ground.phase }, { on := 2, ground := Go.Ground.phase }, { on := 3, ground := Go.Ground.phase }, { on := 4, ground := Go.Ground.phase }, { on := 5, ground := Go.Ground.phase }, { on := 6, ground := Go.Ground.phase }, { on := 7, ground := Go.Ground.phase }], guard := none }) (v := ?_) rfl (by kernel_rfl) (by kernel_rfl) (by kernel_rfl) (fun _ _ _ h => h) rfl ?_ ?_); rotate_left; focus (intro W hW; (try dsimp only at hW); go_split_ands; go_simp; (try (simp (disch := omega) only [IntWalk.i64_in]; (try go_simp))); (try (split; (next => omega); (try go_simp))); try rfl; done))
              try simp only [Act.put, List.setIfInBounds_toArray, List.set_cons_zero, List.set_cons_succ]
              -- ready: [10]
              refine rt_k (fun W => W.cell? ⟨q2, 0, none⟩ = some (.pointer (some ⟨p, 0, none⟩)) ∧ W.cell? ⟨p, 1, none⟩ = some (.slice A6 rs.length c6) ∧ W.cell? ⟨b, 0, none⟩ = some (.int .i64 x0) ∧ W.cell? ⟨b, 1, none⟩ = some (.int .i64 x1) ∧ W.cell? ⟨b, 2, none⟩ = some (.int .i64 x2) ∧ W.cell? ⟨b, 3, none⟩ = some (.int .i64 x3)) (i := 10) (oi := { dst := none, op := Go.Op.store 120 (Go.Operand.tmp 59) (Go.Operand.tmp 57), type := 0, pos := "order.go:97", after := #[{ on := 9, ground := Go.Ground.data }, { on := 7, ground := Go.Ground.data }, { on := 7, ground := Go.Ground.chain }, { on := 0, ground := Go.Ground.phase }, { on := 1, ground := Go.Ground.phase }, { on := 2, ground := Go.Ground.phase }, { on := 3, ground := Go.Ground.phase }, { on := 4, ground := Go.Ground.phase }, { on := 5, ground := Go.Ground.phase }, { on := 6, ground := Go.Ground.phase }, { on := 7, ground := Go.Ground.phase }], guard := none }) (by kernel_rfl) t5 (fun _ h => h) rfl (by rfl) (fun K hK => ?_)
              go_simp
              refine hK _ _ ?_
              clear hK K
              try simp only [Act.put, List.setIfInBounds_toArray, List.set_cons_zero, List.set_cons_succ]
              -- ready: []
              refine rt_done (by kernel_rfl)  ?_
              exact ⟨(keeps_of_chg (G := No) Hc3.out (fun _ _ f _ => f.elim)).trans Hfin.out.1, fun _ => Hfin.out.2.brq, Hfin.out.2⟩
            case done =>
              intro D W hD hi0 hK
              obtain ⟨rv', h1, h2, h3, h4, h5, h6, h7⟩ := hi0
              have hpD : p < D := by omega
              have hp1 := h1.hp
              have hWB := h1.hB
              have hord := h1.ord
              obtain ⟨A7, c7, rfl⟩ := h1.ra.slice
              have s1 : W.cell? ⟨q2, 0, none⟩ = some (.pointer (some ⟨p, 0, none⟩)) := cell_obj (i := 0) h2 rfl
              have s2 : W.cell? ⟨q3, 2, none⟩ = some (.slice A cut.length c) := cell_obj (i := 2) h3 rfl
              have p0 : W.cell? ⟨p, 0, none⟩ = some (.slice A0 st.last.length c0) := cell_obj (i := 0) h1.obj rfl
              have hpf := free_obj (i := 0) h1.obj
              go_wp2_with (first | (with_reducible refine stop_append ?_) | (with_reducible refine stop_copy ?_) | (with_reducible refine stop_make ?_) | (with_reducible refine stop_lookup ?_) | (with_reducible refine stop_update ?_) | (with_reducible refine stop_slice ?_) | (with_reducible refine stop_range ?_) | (with_reducible refine stop_next ?_) | (with_reducible refine stop_convert ⟨_, rfl⟩ ?_) | (with_reducible refine stop_convertB ⟨_, _, _, rfl⟩ ?_) | (with_reducible refine stop_eqSlice ⟨_, _, rfl⟩ ?_))
              refine rt_start (fun W => W.cell? ⟨q2, 0, none⟩ = some (.pointer (some ⟨p, 0, none⟩)) ∧ W.cell? ⟨q3, 2, none⟩ = some (.slice A cut.length c)) (by kernel_rfl) ?_
              ((refine rt_yes (i := 0) (oi := { dst := some 60, op := Go.Op.load 25 (Go.Operand.tmp 2), type := 25, pos := "order.go:99", after := #[], guard := none }) (v := ?_) rfl (by kernel_rfl) (by kernel_rfl) (by kernel_rfl) (fun _ _ _ h => h) rfl ?_ ?_); rotate_left; focus (intro W hW; (try dsimp only at hW); go_split_ands; go_simp; (try (simp (disch := omega) only [IntWalk.i64_in]; (try go_simp))); (try (split; (next => omega); (try go_simp))); try rfl; done))
              try simp only [Act.put, List.setIfInBounds_toArray, List.set_cons_zero, List.set_cons_succ]
              ((refine rt_yes (i := 1) (oi := { dst := some 61, op := Go.Op.fieldAddr 58 (Go.Operand.tmp 3) 2, type := 0, pos := "order.go:99", after := #[], guard := none }) (v := ?_) rfl (by kernel_rfl) (by kernel_rfl) (by kernel_rfl) (fun _ _ _ h => h) rfl ?_ ?_); rotate_left; focus (intro W hW; (try dsimp only at hW); go_split_ands; go_simp; (try (simp (disch := omega) only [IntWalk.i64_in]; (try go_simp))); (try (split; (next => omega); (try go_simp))); try rfl; done))
              try simp only [Act.put, List.setIfInBounds_toArray, List.set_cons_zero, List.set_cons_succ]
              ((refine rt_yes (i := 2) (oi := { dst := some 62, op := Go.Op.load 46 (Go.Operand.tmp 61), type := 46, pos := "order.go:99", after := #[{ on := 1, ground := Go.Ground.data }], guard := none }) (v := ?_) rfl (by kernel_rfl) (by kernel_rfl) (by kernel_rfl) (fun _ _ _ h => h) rfl ?_ ?_); rotate_left; focus (intro W hW; (try dsimp only at hW); go_split_ands; go_simp; (try (simp (disch := omega) only [IntWalk.i64_in]; (try go_simp))); (try (split; (next => omega); (try go_simp))); try rfl; done))
              try simp only [Act.put, List.setIfInBounds_toArray, List.set_cons_zero, List.set_cons_succ]
              -- ready: [3]
              have t0 : (fun W => W.cell? ⟨q2, 0, none⟩ = some (.pointer (some ⟨p, 0, none⟩)) ∧ W.cell? ⟨q3, 2, none⟩ = some (.slice A cut.length c)) W.drew := ⟨s1, s2⟩
              refine rt_k (fun W => W.cell? ⟨q2, 0, none⟩ = some (.pointer (some ⟨p, 0, none⟩)) ∧ W.cell? ⟨q3, 2, none⟩ = some (.slice A cut.length c)) (i := 3) (oi := { dst := some 63, op := Go.Op.call { callee := Go.Callee.value (Go.Operand.func 66), args := #[Go.Operand.tmp 62], argTypes := #[46] }, type := 46, pos := "order.go:99", after := #[{ on := 2, ground := Go.Ground.data }], guard := none }) (by kernel_rfl) t0 (fun _ h => h) rfl (by rfl) (fun K hK => ?_)
              go_simp
              refine (vclone_any _ _ cut _ ((h6.keepNo (Chg.refl No W).drew)) (by have := hge.len; omega)).mono ?_
              rintro x w5 ⟨v5, rfl, hc5, hs5⟩
              have hc5 : Chg No W w5 := (Chg.refl No W).drew.trans hc5
              have t5 : (fun W => W.cell? ⟨q2, 0, none⟩ = some (.pointer (some ⟨p, 0, none⟩)) ∧ W.cell? ⟨q3, 2, none⟩ = some (.slice A cut.length c)) w5 := ⟨hc5.cell s1 (not_no _), hc5.cell s2 (not_no _)⟩
              refine hK _ _ ?_
              clear hK K
              try simp only [Act.put, List.setIfInBounds_toArray, List.set_cons_zero, List.set_cons_succ]
              ((refine rt_yes (i := 4) (oi := { dst := some 64, op := Go.Op.nilCheck (Go.Operand.tmp 60), type := 0, pos := "order.go:99", after := #[{ on := 0, ground := Go.Ground.data }, { on := 0, ground := Go.Ground.phase }, { on := 1, ground := Go.Ground.phase }, { on := 2, ground := Go.Ground.phase }, { on := 3, ground := Go.Ground.phase }], guard := none }) (v := ?_) rfl (by kernel_rfl) (by kernel_rfl) (by kernel_rfl) (fun _ _ _ h => h) rfl ?_ ?_); rotate_left; focus (intro W hW; (try dsimp only at hW); go_split_ands; go_simp; (try (simp (disch := omega) only [IntWalk.i64_in]; (try go_simp))); (try (split; (next => omega); (try go_simp))); try rfl; done))
              try simp only [Act.put, List.setIfInBounds_toArray, List.set_cons_zero, List.set_cons_succ]
              ((refine rt_yes (i := 5) (oi := { dst := some 65, op := Go.Op.fieldAddr 122 (Go.Operand.tmp 64) 0, type := 0, pos := "order.go:99", after := #[{ on := 4, ground := Go.Ground.data }, { on := 0, ground := Go.Ground.phase }, { on := 1, ground := Go.Ground.phase }, { on := 2, ground := Go.Ground.phase }, { on := 3, ground := Go.Ground.phase }], guard := none }) (v := ?_) rfl (by kernel_rfl) (by kernel_rfl) (by kernel_rfl) (fun _ _ _ h => h) rfl ?_ ?_); rotate_left; focus (intro W hW; (try dsimp only at hW); go_split_ands; go_simp; (try (simp (disch := omega) only [IntWalk.i64_in]; (try go_simp))); (try (split; (next => omega); (try go_simp))); try rfl; done))
              try simp only [Act.put, List.setIfInBounds_toArray, List.set_cons_zero, List.set_cons_succ]
              -- ready: [6]
              have o5 := hc5.obj h1.obj (not_no _)
              have f5 := free_obj (i := 0) o5
              have c5 := cell_obj (i := 0) o5 rfl
              have hv6 := hord.setlast rfl hc5 hs5
              obtain ⟨A5, c5', rfl⟩ := hs5.slice
              refine rt_k (fun W => W.cell? ⟨q2, 0, none⟩ = some (.pointer (some ⟨p, 0, none⟩)) ∧ W.cell? ⟨q3, 2, none⟩ = some (.slice A cut.length c)) (i := 6) (oi := { dst := none, op := Go.Op.store 46 (Go.Operand.tmp 65) (Go.Operand.tmp 63), type := 0, pos := "order.go:99", after := #[{ on := 5, ground := Go.Ground.data }, { on := 3, ground := Go.Ground.data }, { on := 3, ground := Go.Ground.chain }, { on := 0, ground := Go.Ground.phase }, { on := 1, ground := Go.Ground.phase }, { on := 2, ground := Go.Ground.phase }, { on := 3, ground := Go.Ground.phase }], guard := none }) (by kernel_rfl) t5 (fun _ h => h) rfl (by rfl) (fun K hK => ?_)
              go_simp
              refine hK _ _ ?_
              clear hK K
              try simp only [Act.put, List.setIfInBounds_toArray, List.set_cons_zero, List.set_cons_succ]
              -- ready: []
              refine rt_done (by kernel_rfl)  ?_
              have hset := chg_set (w := w5) (b := p) (i := 0) (.slice A5 cut.length c5')
              have hq2p : ¬ At p q2 := by simp only [At]; omega
              have hDp : ¬ At p D := by simp only [At]; omega
              have s1 := hset.cell t5.1 hq2p
              have hK6 := hset.obj (hc5.obj hK (not_no _)) hDp
              have hsz6 : (w5.setCell ⟨p, 0, none⟩ (.slice A5 cut.length c5')).heap.size = w5.heap.size := by simp
              have hcw6 : Chg (In lo hi) w (w5.setCell ⟨p, 0, none⟩ (.slice A5 cut.length c5')) := (h7.trans hc5.of_no).trans (hset.weak (fun k _ g => by simp only [At] at g; exact ⟨by omega, by omega⟩))
              have htot6 : Sl (Ge lo) w (.slice A cut.length c) cut := Hs.out
              have hcl8 : cut.length ≤ 8 := by have := hge.len; omega
              have hD5 : D < w5.heap.size := lt_of_heap (hc5.obj hK (not_no _))
              have hsz5 := hc5.size
              clear o5 f5 c5 s2 p0 hpf t5 t0 hset hK
              generalize w5.setCell ⟨p, 0, none⟩ (.slice A5 cut.length c5') = w6 at hv6 s1 hK6 hsz6 hcw6 ⊢
              have p0 : w6.cell? ⟨p, 0, none⟩ = some (.slice A5 cut.length c5') := cell_obj (i := 0) hv6.obj rfl
              have p2 : w6.cell? ⟨p, 2, none⟩ = some (.slice A7 st.after.length c7) := cell_obj (i := 2) hv6.obj rfl
              go_wp2_with (first | (with_reducible refine stop_append ?_) | (with_reducible refine stop_copy ?_) | (with_reducible refine stop_make ?_) | (with_reducible refine stop_lookup ?_) | (with_reducible refine stop_update ?_) | (with_reducible refine stop_slice ?_) | (with_reducible refine stop_range ?_) | (with_reducible refine stop_next ?_) | (with_reducible refine stop_convert ⟨_, rfl⟩ ?_) | (with_reducible refine stop_convertB ⟨_, _, _, rfl⟩ ?_) | (with_reducible refine stop_eqSlice ⟨_, _, rfl⟩ ?_))
              refine rt_start (fun W => W.cell? ⟨q2, 0, none⟩ = some (.pointer (some ⟨p, 0, none⟩)) ∧ W.cell? ⟨p, 0, none⟩ = some (.slice A5 cut.length c5') ∧ W.cell? ⟨p, 2, none⟩ = some (.slice A7 st.after.length c7)) (by kernel_rfl) ?_
              ((refine rt_yes (i := 0) (oi := { dst := some 66, op := Go.Op.load 25 (Go.Operand.tmp 2), type := 25, pos := "order.go:100", after := #[], guard := none }) (v := ?_) rfl (by kernel_rfl) (by kernel_rfl) (by kernel_rfl) (fun _ _ _ h => h) rfl ?_ ?_); rotate_left; focus (intro W hW; (try dsimp only at hW); go_split_ands; go_simp; (try (simp (disch := omega) only [IntWalk.i64_in]; (try go_simp))); (try (split; (next => omega); (try go_simp))); try rfl; done))
              try simp only [Act.put, List.setIfInBounds_toArray, List.set_cons_zero, List.set_cons_succ]
              ((refine rt_yes (i := 1) (oi := { dst := some 67, op := Go.Op.load 25 (Go.Operand.tmp 2), type := 25, pos := "order.go:100", after := #[], guard := none }) (v := ?_) rfl (by kernel_rfl) (by kernel_rfl) (by kernel_rfl) (fun _ _ _ h => h) rfl ?_ ?_); rotate_left; focus (intro W hW; (try dsimp only at hW); go_split_ands; go_simp; (try (simp (disch := omega) only [IntWalk.i64_in]; (try go_simp))); (try (split; (next => omega); (try go_simp))); try rfl; done))
              try simp only [Act.put, List.setIfInBounds_toArray, List.set_cons_zero, List.set_cons_succ]
              ((refine rt_yes (i := 2) (oi := { dst := some 68, op := Go.Op.nilCheck (Go.Operand.tmp 67), type := 0, pos := "order.go:100", after := #[{ on := 1, ground := Go.Ground.data }], guard := none }) (v := ?_) rfl (by kernel_rfl) (by kernel_rfl) (by kernel_rfl) (fun _ _ _ h => h) rfl ?_ ?_); rotate_left; focus (intro W hW; (try dsimp only at hW); go_split_ands; go_simp; (try (simp (disch := omega) only [IntWalk.i64_in]; (try go_simp))); (try (split; (next => omega); (try go_simp))); try rfl; done))
              try simp only [Act.put, List.setIfInBounds_toArray, List.set_cons_zero, List.set_cons_succ]
              ((refine rt_yes (i := 3) (oi := { dst := some 69, op := Go.Op.fieldAddr 122 (Go.Operand.tmp 68) 2, type := 0, pos := "order.go:100", after := #[{ on := 2, ground := Go.Ground.data }], guard := none }) (v := ?_) rfl (by kernel_rfl) (by kernel_rfl) (by kernel_rfl) (fun _ _ _ h => h) rfl ?_ ?_); rotate_left; focus (intro W hW; (try dsimp only at hW); go_split_ands; go_simp; (try (simp (disch := omega) only [IntWalk.i64_in]; (try go_simp))); (try (split; (next => omega); (try go_simp))); try rfl; done))
              try simp only [Act.put, List.setIfInBounds_toArray, List.set_cons_zero, List.set_cons_succ]
              ((refine rt_yes (i := 4) (oi := { dst := some 70, op := Go.Op.load 46 (Go.Operand.tmp 69), type := 46, pos := "order.go:100", after := #[{ on := 3, ground := Go.Ground.data }], guard := none }) (v := ?_) rfl (by kernel_rfl) (by kernel_rfl) (by kernel_rfl) (fun _ _ _ h => h) rfl ?_ ?_); rotate_left; focus (intro W hW; (try dsimp only at hW); go_split_ands; go_simp; (try (simp (disch := omega) only [IntWalk.i64_in]; (try go_simp))); (try (split; (next => omega); (try go_simp))); try rfl; done))
              try simp only [Act.put, List.setIfInBounds_toArray, List.set_cons_zero, List.set_cons_succ]
              ((refine rt_yes (i := 5) (oi := { dst := some 71, op := Go.Op.load 25 (Go.Operand.tmp 2), type := 25, pos := "order.go:100", after := #[], guard := none }) (v := ?_) rfl (by kernel_rfl) (by kernel_rfl) (by kernel_rfl) (fun _ _ _ h => h) rfl ?_ ?_); rotate_left; focus (intro W hW; (try dsimp only at hW); go_split_ands; go_simp; (try (simp (disch := omega) only [IntWalk.i64_in]; (try go_simp))); (try (split; (next => omega); (try go_simp))); try rfl; done))
              try simp only [Act.put, List.setIfInBounds_toArray, List.set_cons_zero, List.set_cons_succ]
              ((refine rt_yes (i := 6) (oi := { dst := some 72, op := Go.Op.nilCheck (Go.Operand.tmp 71), type := 0, pos := "order.go:100", after := #[{ on := 5, ground := Go.Ground.data }], guard := none }) (v := ?_) rfl (by kernel_rfl) (by kernel_rfl) (by kernel_rfl) (fun _ _ _ h => h) rfl ?_ ?_); rotate_left; focus (intro W hW; (try dsimp only at hW); go_split_ands; go_simp; (try (simp (disch := omega) only [IntWalk.i64_in]; (try go_simp))); (try (split; (next => omega); (try go_simp))); try rfl; done))
              try simp only [Act.put, List.setIfInBounds_toArray, List.set_cons_zero, List.set_cons_succ]
              ((refine rt_yes (i := 7) (oi := { dst := some 73, op := Go.Op.fieldAddr 122 (Go.Operand.tmp 72) 0, type := 0, pos := "order.go:100", after := #[{ on := 6, ground := Go.Ground.data }], guard := none }) (v := ?_) rfl (by kernel_rfl) (by kernel_rfl) (by kernel_rfl) (fun _ _ _ h => h) rfl ?_ ?_); rotate_left; focus (intro W hW; (try dsimp only at hW); go_split_ands; go_simp; (try (simp (disch := omega) only [IntWalk.i64_in]; (try go_simp))); (try (split; (next => omega); (try go_simp))); try rfl; done))
              try simp only [Act.put, List.setIfInBounds_toArray, List.set_cons_zero, List.set_cons_succ]
              ((refine rt_yes (i := 8) (oi := { dst := some 74, op := Go.Op.load 46 (Go.Operand.tmp 73), type := 46, pos := "order.go:100", after := #[{ on := 7, ground := Go.Ground.data }], guard := none }) (v := ?_) rfl (by kernel_rfl) (by kernel_rfl) (by kernel_rfl) (fun _ _ _ h => h) rfl ?_ ?_); rotate_left; focus (intro W hW; (try dsimp only at hW); go_split_ands; go_simp; (try (simp (disch := omega) only [IntWalk.i64_in]; (try go_simp))); (try (split; (next => omega); (try go_simp))); try rfl; done))
              try simp only [Act.put, List.setIfInBounds_toArray, List.set_cons_zero, List.set_cons_succ]
              -- ready: [9]
              have t0 : (fun W => W.cell? ⟨q2, 0, none⟩ = some (.pointer (some ⟨p, 0, none⟩)) ∧ W.cell? ⟨p, 0, none⟩ = some (.slice A5 cut.length c5') ∧ W.cell? ⟨p, 2, none⟩ = some (.slice A7 st.after.length c7)) w6.drew := ⟨s1, p0, p2⟩
              refine rt_k (fun W => W.cell? ⟨q2, 0, none⟩ = some (.pointer (some ⟨p, 0, none⟩)) ∧ W.cell? ⟨p, 0, none⟩ = some (.slice A5 cut.length c5') ∧ W.cell? ⟨p, 2, none⟩ = some (.slice A7 st.after.length c7)) (i := 9) (oi := { dst := some 75, op := Go.Op.call { callee := Go.Callee.value (Go.Operand.func 64), args := #[Go.Operand.tmp 74], argTypes := #[46] }, type := 3, pos := "order.go:100", after := #[{ on := 8, ground := Go.Ground.data }], guard := none }) (by kernel_rfl) t0 (fun _ h => h) rfl (by rfl) (fun K hK => ?_)
              go_simp
              refine (vtotal_any _ _ cut _ (hv6.sl.keepNo (Chg.refl No w6).drew) (by omega)).mono ?_
              rintro x w7 ⟨rfl, hc7⟩
              have hc7 : Chg No w6 w7 := (Chg.refl No w6).drew.trans hc7
              have t7 : (fun W => W.cell? ⟨q2, 0, none⟩ = some (.pointer (some ⟨p, 0, none⟩)) ∧ W.cell? ⟨p, 0, none⟩ = some (.slice A5 cut.length c5') ∧ W.cell? ⟨p, 2, none⟩ = some (.slice A7 st.after.length c7)) w7 := ⟨hc7.cell s1 (not_no _), hc7.cell p0 (not_no _), hc7.cell p2 (not_no _)⟩
              refine hK _ _ ?_
              clear hK K
              try simp only [Act.put, List.setIfInBounds_toArray, List.set_cons_zero, List.set_cons_succ]
              -- ready: [10]
              refine rt_k (fun W => W.cell? ⟨q2, 0, none⟩ = some (.pointer (some ⟨p, 0, none⟩)) ∧ W.cell? ⟨p, 0, none⟩ = some (.slice A5 cut.length c5') ∧ W.cell? ⟨p, 2, none⟩ = some (.slice A7 st.after.length c7)) (i := 10) (oi := { dst := some 76, op := Go.Op.buildSlice 46 1 #[(0, Go.Operand.tmp 75)], type := 46, pos := "order.go:100", after := #[{ on := 9, ground := Go.Ground.data }], guard := none }) (by kernel_rfl) t7 (fun _ h => h) rfl (by rfl) (fun K hK => ?_)
              go_simp
              refine hK _ _ ?_
              clear hK K
              try simp only [Act.put, List.setIfInBounds_toArray, List.set_cons_zero, List.set_cons_succ]
              -- ready: [11]
              have hc8 : Chg No w6 (w7.alloc (.cells #[.int .i64 (total cut)] 3)) := hc7.alloc _
              have t8 : (fun W => W.cell? ⟨q2, 0, none⟩ = some (.pointer (some ⟨p, 0, none⟩)) ∧ W.cell? ⟨p, 0, none⟩ = some (.slice A5 cut.length c5') ∧ W.cell? ⟨p, 2, none⟩ = some (.slice A7 st.after.length c7)) (w7.alloc (.cells #[.int .i64 (total cut)] 3)) := ⟨hc8.cell s1 (not_no _), hc8.cell p0 (not_no _), hc8.cell p2 (not_no _)⟩
              have hv8 := hv6.keepNo' hc8
              refine rt_append_row (α := Int) (fun W => W.cell? ⟨q2, 0, none⟩ = some (.pointer (some ⟨p, 0, none⟩)) ∧ W.cell? ⟨p, 0, none⟩ = some (.slice A5 cut.length c5') ∧ W.cell? ⟨p, 2, none⟩ = some (.slice A7 st.after.length c7)) (i := 11) (by kernel_rfl) t8 (fun _ h => h) rfl rfl Try.underlying46 vinfo_int rfl hv8.ra rfl rfl (Sl.lit1 (F := No) (y := total cut) rfl rfl (not_no _)) (by simp) (by simp; omega) (by simp; omega) (by have := hc7.size; simp; omega) ?_
              intro v9 w9 hown9 hc9 hb9
              have hq2r : ∀ q, hi ≤ q → q < ws.heap.size → ¬ OB (.slice A7 st.after.length c7) q := fun q a1 a2 e => by have := h1.ab q e; omega
              have t9 : (fun W => W.cell? ⟨q2, 0, none⟩ = some (.pointer (some ⟨p, 0, none⟩)) ∧ W.cell? ⟨p, 0, none⟩ = some (.slice A5 cut.length c5') ∧ W.cell? ⟨p, 2, none⟩ = some (.slice A7 st.after.length c7)) w9 := ⟨hc9.cell t8.1 (fun g => hq2r q2 (by omega) (by omega) g.1), hc9.cell t8.2.1 (fun g => g.2.1 (.inr (.inr (.inl rfl)))), hc9.cell t8.2.2 (fun g => g.2.1 (.inr (.inr (.inl rfl))))⟩
              have hK9 := hc9.obj (hc8.obj hK6 (not_no _)) (fun g => by have := h1.ab D g.1; omega)
              have o9 := hc9.obj hv8.obj (fun g => g.2.1 (.inr (.inr (.inl rfl))))
              have f9 := free_obj (i := 2) o9
              have c9 := t9.2.2
              have hfin := hv8.app hown9 hc9 hb9
              obtain ⟨A9, c9', rfl⟩ := hown9.slice
              rw [show (st.after ++ [total cut]).length = st.after.length + 1 by simp] at hfin
              have hKf := (chg_set (w := w9) (b := p) (i := 2) (.slice A9 (st.after.length + 1) c9')).obj hK9 hDp
              have Hfin := Lib.hid hfin
              have Hchg := Lib.hid ((hcw6.trans hc8.of_no).trans' (H := In lo hi) hfin.2.2 (fun _ _ g => g) (fun k hk g => by
                rcases g with g | g
                · have h3 := h1.ab k g.1
                  have h4 := g.2.1
                  simp only [not_or] at h4
                  exact ⟨by omega, h3⟩
                · subst g; exact ⟨by omega, by omega⟩))
              clear hown9 hb9 hfin o9 hc9
              try simp only [Act.put, List.setIfInBounds_toArray, List.set_cons_zero, List.set_cons_succ]
              ((refine rt_yes (i := 12) (oi := { dst := some 78, op := Go.Op.nilCheck (Go.Operand.tmp 66), type := 0, pos := "order.go:100", after := #[{ on := 0, ground := Go.Ground.data }, { on := 0, ground := Go.Ground.phase }, { on := 1, ground := Go.Ground.phase }, { on := 2, ground := Go.Ground.phase }, { on := 3, ground := Go.Ground.phase }, { on := 4, ground := Go.Ground.phase }, { on := 5, ground := Go.Ground.phase }, { on := 6, ground := Go.Ground.phase }, { on := 7, ground := Go.Ground.phase }, { on := 8, ground := Go.Ground.phase }, { on := 9, ground := Go.Ground.phase }, { on := 10, ground := Go.Ground.phase }, { on := 11, ground := Go.Ground.phase }], guard := none }) (v := ?_) rfl (by kernel_rfl) (by kernel_rfl) (by kernel_rfl) (fun _ _ _ h => h) rfl ?_ ?_); rotate_left; focus (intro W hW; (try dsimp only at hW); go_split_ands; go_simp; (try (simp (disch := omega) only [IntWalk.i64_in]; (try go_simp))); (try (split; (next => omega); (try go_simp))); try rfl; done))
              try simp only [Act.put, List.setIfInBounds_toArray, List.set_cons_zero, List.set_cons_succ]
              ((refine rt_yes (i := 13) (oi := { dst := some 79, op := Go.Op.fieldAddr 122 (Go.Operand.tmp 78) 2, type := 0, pos := "order.go:100", after := #[{ on := 12, ground := Go.Ground.data }, { on := 0, ground := Go.Ground.phase }, { on := 1, ground := Go.Ground.phase }, { on := 2, ground := Go.Ground.phase }, { on := 3, ground := Go.Ground.phase }, { on := 4, ground := Go.Ground.phase }, { on := 5, ground := Go.Ground.phase }, { on := 6, ground := Go.Ground.phase }, { on := 7, ground := Go.Ground.phase }, { on := 8, ground := Go.Ground.phase }, { on := 9, ground := Go.Ground.phase }, { on := 10, ground := Go.Ground.phase }, { on := 11, ground := Go.Ground.phase }], guard := none }) (v := ?_) rfl (by kernel_rfl) (by kernel_rfl) (by kernel_rfl) (fun _ _ _ h => h) rfl ?_ ?_); rotate_left; focus (intro W hW; (try dsimp only at hW); go_split_ands; go_simp; (try (simp (disch := omega) only [IntWalk.i64_in]; (try go_simp))); (try (split; (next => omega); (try go_simp))); try rfl; done))
              try simp only [Act.put, List.setIfInBounds_toArray, List.set_cons_zero, List.set_cons_succ]
              -- ready: [14]
              refine rt_k (fun W => W.cell? ⟨q2, 0, none⟩ = some (.pointer (some ⟨p, 0, none⟩)) ∧ W.cell? ⟨p, 0, none⟩ = some (.slice A5 cut.length c5') ∧ W.cell? ⟨p, 2, none⟩ = some (.slice A7 st.after.length c7)) (i := 14) (oi := { dst := none, op := Go.Op.store 46 (Go.Operand.tmp 79) (Go.Operand.tmp 77), type := 0, pos := "order.go:100", after := #[{ on := 13, ground := Go.Ground.data }, { on := 11, ground := Go.Ground.data }, { on := 11, ground := Go.Ground.chain }, { on := 0, ground := Go.Ground.phase }, { on := 1, ground := Go.Ground.phase }, { on := 2, ground := Go.Ground.phase }, { on := 3, ground := Go.Ground.phase }, { on := 4, ground := Go.Ground.phase }, { on := 5, ground := Go.Ground.phase }, { on := 6, ground := Go.Ground.phase }, { on := 7, ground := Go.Ground.phase }, { on := 8, ground := Go.Ground.phase }, { on := 9, ground := Go.Ground.phase }, { on := 10, ground := Go.Ground.phase }, { on := 11, ground := Go.Ground.phase }], guard := none }) (by kernel_rfl) t9 (fun _ h => h) rfl (by rfl) (fun K hK => ?_)
              go_simp
              refine hK _ _ ?_
              clear hK K
              try simp only [Act.put, List.setIfInBounds_toArray, List.set_cons_zero, List.set_cons_succ]
              -- ready: []
              refine rt_done (by kernel_rfl)  ?_
              go_wp2_with (first | (with_reducible refine stop_append ?_) | (with_reducible refine stop_copy ?_) | (with_reducible refine stop_make ?_) | (with_reducible refine stop_lookup ?_) | (with_reducible refine stop_update ?_) | (with_reducible refine stop_slice ?_) | (with_reducible refine stop_range ?_) | (with_reducible refine stop_next ?_) | (with_reducible refine stop_convert ⟨_, rfl⟩ ?_) | (with_reducible refine stop_convertB ⟨_, _, _, rfl⟩ ?_) | (with_reducible refine stop_eqSlice ⟨_, _, rfl⟩ ?_))
              refine marks_ret1 hKf (results_tmp rfl _ _ _) ?_
              rw [hres.out]
              refine ⟨rfl, Hchg.out.trans' (chg_put (G := At D) rfl) (fun _ _ g => g) (fun k hk g => by simp only [At] at g; omega), ?_⟩
              obtain ⟨lv', rv', av', hv'⟩ := Hfin.out.1
              have hgp := grownBy_putObj' (w9.setCell ⟨p, 2, none⟩ (.slice A9 (st.after.length + 1) c9')) D (.deferred none)
              have := hv'.turn hgp (fun r e => by cases e; exact ⟨_, hKf, rfl⟩)
              exact Ord.top ⟨lv', rv', av', this⟩
      · have hk2 : (k == 1) = false := by simpa using hk
        have hres := Lib.hid (show addF st (n, k, cut, tag, t, u) = (⟨st.last, st.runs, st.after ++ [st.len]⟩, 0) by unfold addF; rw [if_pos ⟨Hb.out, Hn.out⟩, if_neg hk])
        clear hk
        obtain ⟨s12, _, s11, _, _, _, _, _⟩ := s1
        obtain ⟨lv, rv, av, hv⟩ := H.out.keepNo hcw1
        obtain ⟨A2, c2, rfl⟩ := hv.ra.slice
        have cp : w1.cell? ⟨p, 2, none⟩ = some (.slice A2 st.after.length c2) := cell_obj (i := 2) hv.obj rfl
        have ha1 := hv.hhi
        have hq2h : hi ≤ q2 := by obtain ⟨_, _, _, h⟩ := H.out; have := h.hhi; omega
        have hqp : q2 ≠ p := by omega
        go_wp2_with (first | (with_reducible refine stop_append ?_) | (with_reducible refine stop_copy ?_) | (with_reducible refine stop_make ?_) | (with_reducible refine stop_lookup ?_) | (with_reducible refine stop_update ?_) | (with_reducible refine stop_slice ?_) | (with_reducible refine stop_range ?_) | (with_reducible refine stop_next ?_) | (with_reducible refine stop_convert ⟨_, rfl⟩ ?_) | (with_reducible refine stop_convertB ⟨_, _, _, rfl⟩ ?_) | (with_reducible refine stop_eqSlice ⟨_, _, rfl⟩ ?_))
        refine rt_start (fun W => W.cell? ⟨q2, 0, none⟩ = some (.pointer (some ⟨p, 0, none⟩)) ∧ W.cell? ⟨p, 2, none⟩ = some (.slice A2 st.after.length c2)) (by kernel_rfl) ?_
        ((refine rt_yes (i := 0) (oi := { dst := some 20, op := Go.Op.load 25 (Go.Operand.tmp 2), type := 25, pos := "order.go:87", after := #[], guard := none }) (v := ?_) rfl (by kernel_rfl) (by kernel_rfl) (by kernel_rfl) (fun _ _ _ h => h) rfl ?_ ?_); rotate_left; focus (intro W hW; (try dsimp only at hW); go_split_ands; go_simp; (try (simp (disch := omega) only [IntWalk.i64_in]; (try go_simp))); (try (split; (next => omega); (try go_simp))); try rfl; done))
        try simp only [Act.put, List.setIfInBounds_toArray, List.set_cons_zero, List.set_cons_succ]
        ((refine rt_yes (i := 1) (oi := { dst := some 21, op := Go.Op.load 25 (Go.Operand.tmp 2), type := 25, pos := "order.go:87", after := #[], guard := none }) (v := ?_) rfl (by kernel_rfl) (by kernel_rfl) (by kernel_rfl) (fun _ _ _ h => h) rfl ?_ ?_); rotate_left; focus (intro W hW; (try dsimp only at hW); go_split_ands; go_simp; (try (simp (disch := omega) only [IntWalk.i64_in]; (try go_simp))); (try (split; (next => omega); (try go_simp))); try rfl; done))
        try simp only [Act.put, List.setIfInBounds_toArray, List.set_cons_zero, List.set_cons_succ]
        ((refine rt_yes (i := 2) (oi := { dst := some 22, op := Go.Op.nilCheck (Go.Operand.tmp 21), type := 0, pos := "order.go:87", after := #[{ on := 1, ground := Go.Ground.data }], guard := none }) (v := ?_) rfl (by kernel_rfl) (by kernel_rfl) (by kernel_rfl) (fun _ _ _ h => h) rfl ?_ ?_); rotate_left; focus (intro W hW; (try dsimp only at hW); go_split_ands; go_simp; (try (simp (disch := omega) only [IntWalk.i64_in]; (try go_simp))); (try (split; (next => omega); (try go_simp))); try rfl; done))
        try simp only [Act.put, List.setIfInBounds_toArray, List.set_cons_zero, List.set_cons_succ]
        ((refine rt_yes (i := 3) (oi := { dst := some 23, op := Go.Op.fieldAddr 122 (Go.Operand.tmp 22) 2, type := 0, pos := "order.go:87", after := #[{ on := 2, ground := Go.Ground.data }], guard := none }) (v := ?_) rfl (by kernel_rfl) (by kernel_rfl) (by kernel_rfl) (fun _ _ _ h => h) rfl ?_ ?_); rotate_left; focus (intro W hW; (try dsimp only at hW); go_split_ands; go_simp; (try (simp (disch := omega) only [IntWalk.i64_in]; (try go_simp))); (try (split; (next => omega); (try go_simp))); try rfl; done))
        try simp only [Act.put, List.setIfInBounds_toArray, List.set_cons_zero, List.set_cons_succ]
        ((refine rt_yes (i := 4) (oi := { dst := some 24, op := Go.Op.load 46 (Go.Operand.tmp 23), type := 46, pos := "order.go:87", after := #[{ on := 3, ground := Go.Ground.data }], guard := none }) (v := ?_) rfl (by kernel_rfl) (by kernel_rfl) (by kernel_rfl) (fun _ _ _ h => h) rfl ?_ ?_); rotate_left; focus (intro W hW; (try dsimp only at hW); go_split_ands; go_simp; (try (simp (disch := omega) only [IntWalk.i64_in]; (try go_simp))); (try (split; (next => omega); (try go_simp))); try rfl; done))
        try simp only [Act.put, List.setIfInBounds_toArray, List.set_cons_zero, List.set_cons_succ]
        ((refine rt_yes (i := 5) (oi := { dst := some 25, op := Go.Op.load 25 (Go.Operand.tmp 2), type := 25, pos := "order.go:87", after := #[], guard := none }) (v := ?_) rfl (by kernel_rfl) (by kernel_rfl) (by kernel_rfl) (fun _ _ _ h => h) rfl ?_ ?_); rotate_left; focus (intro W hW; (try dsimp only at hW); go_split_ands; go_simp; (try (simp (disch := omega) only [IntWalk.i64_in]; (try go_simp))); (try (split; (next => omega); (try go_simp))); try rfl; done))
        try simp only [Act.put, List.setIfInBounds_toArray, List.set_cons_zero, List.set_cons_succ]
        -- ready: [6]
        have t0 : (fun W => W.cell? ⟨q2, 0, none⟩ = some (.pointer (some ⟨p, 0, none⟩)) ∧ W.cell? ⟨p, 2, none⟩ = some (.slice A2 st.after.length c2)) w1.drew := ⟨s12, cp⟩
        refine rt_k (fun W => W.cell? ⟨q2, 0, none⟩ = some (.pointer (some ⟨p, 0, none⟩)) ∧ W.cell? ⟨p, 2, none⟩ = some (.slice A2 st.after.length c2)) (i := 6) (oi := { dst := some 26, op := Go.Op.call { callee := Go.Callee.value (Go.Operand.func 20), args := #[Go.Operand.tmp 25], argTypes := #[25] }, type := 3, pos := "order.go:87", after := #[{ on := 5, ground := Go.Ground.data }], guard := none }) (by kernel_rfl) t0 (fun _ h => h) rfl (by rfl) (fun K hK => ?_)
        go_simp
        refine (olen_any (H.out.keepNo hcw1.drew) HI.out).mono ?_
        rintro x w2 ⟨rfl, hc2⟩
        have hc2 : Chg No w1 w2 := (Chg.refl No w1).drew.trans hc2
        have t2 : (fun W => W.cell? ⟨q2, 0, none⟩ = some (.pointer (some ⟨p, 0, none⟩)) ∧ W.cell? ⟨p, 2, none⟩ = some (.slice A2 st.after.length c2)) w2 := ⟨hc2.cell s12 (not_no _), hc2.cell cp (not_no _)⟩
        refine hK _ _ ?_
        clear hK K
        try simp only [Act.put, List.setIfInBounds_toArray, List.set_cons_zero, List.set_cons_succ]
        -- ready: [7]
        refine rt_k (fun W => W.cell? ⟨q2, 0, none⟩ = some (.pointer (some ⟨p, 0, none⟩)) ∧ W.cell? ⟨p, 2, none⟩ = some (.slice A2 st.after.length c2)) (i := 7) (oi := { dst := some 27, op := Go.Op.buildSlice 46 1 #[(0, Go.Operand.tmp 26)], type := 46, pos := "order.go:87", after := #[{ on := 6, ground := Go.Ground.data }], guard := none }) (by kernel_rfl) t2 (fun _ h => h) rfl (by rfl) (fun K hK => ?_)
        go_simp
        refine hK _ _ ?_
        clear hK K
        try simp only [Act.put, List.setIfInBounds_toArray, List.set_cons_zero, List.set_cons_succ]
        -- ready: [8]
        have hc3 : Chg No w1 (w2.alloc (.cells #[.int .i64 st.len] 3)) := hc2.alloc _
        have t3 : (fun W => W.cell? ⟨q2, 0, none⟩ = some (.pointer (some ⟨p, 0, none⟩)) ∧ W.cell? ⟨p, 2, none⟩ = some (.slice A2 st.after.length c2)) (w2.alloc (.cells #[.int .i64 st.len] 3)) := ⟨hc3.cell s12 (not_no _), hc3.cell cp (not_no _)⟩
        have hv3 := hv.keep hc3 (fun _ f => f.elim)
        refine rt_append_row (α := Int) (fun W => W.cell? ⟨q2, 0, none⟩ = some (.pointer (some ⟨p, 0, none⟩)) ∧ W.cell? ⟨p, 2, none⟩ = some (.slice A2 st.after.length c2)) (i := 8) (by kernel_rfl) t3 (fun _ h => h) rfl rfl Try.underlying46 vinfo_int rfl hv3.ra rfl rfl (Sl.lit1 (F := No) (y := st.len) rfl rfl (not_no _)) (by simp) (by simp; omega) (by simp; omega) (by have := hv3.hp; have := hv3.hhi; omega) ?_
        intro v5 w5 hown5 hc5 hb5
        have t5 : (fun W => W.cell? ⟨q2, 0, none⟩ = some (.pointer (some ⟨p, 0, none⟩)) ∧ W.cell? ⟨p, 2, none⟩ = some (.slice A2 st.after.length c2)) w5 := ⟨hc5.cell t3.1 (fun g => g.2.1 (.inr (.inl hq2h))), hc5.cell t3.2 (fun g => g.2.1 (.inr (.inr (.inl rfl))))⟩
        have o5 := hc5.obj hv3.obj (fun g => g.2.1 (.inr (.inr (.inl rfl))))
        have f5 := free_obj (i := 2) o5
        have c5 := t5.2
        have hfin := hv3.app hown5 hc5 hb5
        obtain ⟨A5, c5', rfl⟩ := hown5.slice
        rw [show (st.after ++ [st.len]).length = st.after.length + 1 by simp] at hfin
        have Hfin := Lib.hid hfin
        clear hown5 hb5 hfin o5
        try simp only [Act.put, List.setIfInBounds_toArray, List.set_cons_zero, List.set_cons_succ]
        ((refine rt_yes (i := 9) (oi := { dst := some 29, op := Go.Op.nilCheck (Go.Operand.tmp 20), type := 0, pos := "order.go:87", after := #[{ on := 0, ground := Go.Ground.data }, { on := 0, ground := Go.Ground.phase }, { on := 1, ground := Go.Ground.phase }, { on := 2, ground := Go.Ground.phase }, { on := 3, ground := Go.Ground.phase }, { on := 4, ground := Go.Ground.phase }, { on := 5, ground := Go.Ground.phase }, { on := 6, ground := Go.Ground.phase }, { on := 7, ground := Go.Ground.phase }, { on := 8, ground := Go.Ground.phase }], guard := none }) (v := ?_) rfl (by kernel_rfl) (by kernel_rfl) (by kernel_rfl) (fun _ _ _ h => h) rfl ?_ ?_); rotate_left; focus (intro W hW; (try dsimp only at hW); go_split_ands; go_simp; (try (simp (disch := omega) only [IntWalk.i64_in]; (try go_simp))); (try (split; (next => omega); (try go_simp))); try rfl; done))
        try simp only [Act.put, List.setIfInBounds_toArray, List.set_cons_zero, List.set_cons_succ]
        ((refine rt_yes (i := 10) (oi := { dst := some 30, op := Go.Op.fieldAddr 122 (Go.Operand.tmp 29) 2, type := 0, pos := "order.go:87", after := #[{ on := 9, ground := Go.Ground.data }, { on := 0, ground := Go.Ground.phase }, { on := 1, ground := Go.Ground.phase }, { on := 2, ground := Go.Ground.phase }, { on := 3, ground := Go.Ground.phase }, { on := 4, ground := Go.Ground.phase }, { on := 5, ground := Go.Ground.phase }, { on := 6, ground := Go.Ground.phase }, { on := 7, ground := Go.Ground.phase }, { on := 8, ground := Go.Ground.phase }], guard := none }) (v := ?_) rfl (by kernel_rfl) (by kernel_rfl) (by kernel_rfl) (fun _ _ _ h => h) rfl ?_ ?_); rotate_left; focus (intro W hW; (try dsimp only at hW); go_split_ands; go_simp; (try (simp (disch := omega) only [IntWalk.i64_in]; (try go_simp))); (try (split; (next => omega); (try go_simp))); try rfl; done))
        try simp only [Act.put, List.setIfInBounds_toArray, List.set_cons_zero, List.set_cons_succ]
        -- ready: [11]
        refine rt_k (fun W => W.cell? ⟨q2, 0, none⟩ = some (.pointer (some ⟨p, 0, none⟩)) ∧ W.cell? ⟨p, 2, none⟩ = some (.slice A2 st.after.length c2)) (i := 11) (oi := { dst := none, op := Go.Op.store 46 (Go.Operand.tmp 30) (Go.Operand.tmp 28), type := 0, pos := "order.go:87", after := #[{ on := 10, ground := Go.Ground.data }, { on := 8, ground := Go.Ground.data }, { on := 8, ground := Go.Ground.chain }, { on := 0, ground := Go.Ground.phase }, { on := 1, ground := Go.Ground.phase }, { on := 2, ground := Go.Ground.phase }, { on := 3, ground := Go.Ground.phase }, { on := 4, ground := Go.Ground.phase }, { on := 5, ground := Go.Ground.phase }, { on := 6, ground := Go.Ground.phase }, { on := 7, ground := Go.Ground.phase }, { on := 8, ground := Go.Ground.phase }], guard := none }) (by kernel_rfl) t5 (fun _ h => h) rfl (by rfl) (fun K hK => ?_)
        go_simp
        refine hK _ _ ?_
        clear hK K
        try simp only [Act.put, List.setIfInBounds_toArray, List.set_cons_zero, List.set_cons_succ]
        -- ready: []
        refine rt_done (by kernel_rfl)  ?_
        go_wp2_with (first | (with_reducible refine stop_append ?_) | (with_reducible refine stop_copy ?_) | (with_reducible refine stop_make ?_) | (with_reducible refine stop_lookup ?_) | (with_reducible refine stop_update ?_) | (with_reducible refine stop_slice ?_) | (with_reducible refine stop_range ?_) | (with_reducible refine stop_next ?_) | (with_reducible refine stop_convert ⟨_, rfl⟩ ?_) | (with_reducible refine stop_convertB ⟨_, _, _, rfl⟩ ?_) | (with_reducible refine stop_eqSlice ⟨_, _, rfl⟩ ?_))
        refine marks_ret (results_tmp rfl _ _ _) ?_
        rw [hres.out]
        exact ⟨rfl, (hcw1.trans hc3).of_no.trans Hfin.out.2.1, Hfin.out.1⟩
    · have hn2 : (n != (st.after.length : Int) - 1 + 1) = true := by simp; omega
      have hn3 : (n == (st.after.length : Int)) = false := by simpa using hn
      have hres := Lib.hid (show addF st (n, k, cut, tag, t, u) = (st, 150) by unfold addF; rw [if_neg (fun h => hn h.2)])
      clear hn
      go_wp2_with (first | (with_reducible refine stop_append ?_) | (with_reducible refine stop_copy ?_) | (with_reducible refine stop_make ?_) | (with_reducible refine stop_lookup ?_) | (with_reducible refine stop_update ?_) | (with_reducible refine stop_slice ?_) | (with_reducible refine stop_range ?_) | (with_reducible refine stop_next ?_) | (with_reducible refine stop_convert ⟨_, rfl⟩ ?_) | (with_reducible refine stop_convertB ⟨_, _, _, rfl⟩ ?_) | (with_reducible refine stop_eqSlice ⟨_, _, rfl⟩ ?_))
      refine marks_ret (results_tmp rfl _ _ _) ?_
      exact Hstay.out _ _ hcw1 hres.out
end Go.Proofs.Ytbjpoamnglfjeaa
