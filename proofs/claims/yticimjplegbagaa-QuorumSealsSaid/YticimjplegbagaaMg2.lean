/- Texts Eng, Eng2. -/
import Derived.Test.YticimjplegbagaaMg1
import Derived.OwnWalk
import Derived.Deep.AppendSrc
import Derived.Lib.ConvBytes
import Derived.Laws.BytesArg
import Derived.Laws.BytesString
import Derived.Laws.MakeOwn
/- Where a walk stands still, and the laws that take it on from there: append, copy, make, conversions. They speak of no program. -/
namespace Cb
open Go Go.RowKit
variable {α : Type} {P : Program} {ops rest : List Oper} {Q : Exit → Act → World → Prop} {a : Act} {w : World} {OPS : Array Oper}

/-- A goal at which the walk stands. -/
def Stop (p : Prop) : Prop := p
theorem stop_append {d : Option Tmp} {as : Array Operand} {ts : Array TypeId} {ty : TypeId} {p : String} {af : Array Edge} {g : Option (Nat × Bool)}
    (h : Stop (wpList P OPS Q (⟨d, .call ⟨.builtin .append, as, ts⟩, ty, p, af, g⟩ :: rest) a w)) : wpList P OPS Q (⟨d, .call ⟨.builtin .append, as, ts⟩, ty, p, af, g⟩ :: rest) a w := h
theorem stop_copy {d : Option Tmp} {as : Array Operand} {ts : Array TypeId} {ty : TypeId} {p : String} {af : Array Edge} {g : Option (Nat × Bool)}
    (h : Stop (wpList P OPS Q (⟨d, .call ⟨.builtin .copy, as, ts⟩, ty, p, af, g⟩ :: rest) a w)) : wpList P OPS Q (⟨d, .call ⟨.builtin .copy, as, ts⟩, ty, p, af, g⟩ :: rest) a w := h
theorem stop_make {d : Option Tmp} {t : TypeId} {l c : Operand} {ty : TypeId} {p : String} {af : Array Edge} {g : Option (Nat × Bool)}
    (h : Stop (wpList P OPS Q (⟨d, .makeSlice t l c, ty, p, af, g⟩ :: rest) a w)) : wpList P OPS Q (⟨d, .makeSlice t l c, ty, p, af, g⟩ :: rest) a w := h
theorem stop_lookup {d : Option Tmp} {t : TypeId} {l c : Operand} {b : Bool} {ty : TypeId} {p : String} {af : Array Edge} {g : Option (Nat × Bool)}
    (h : Stop (wpList P OPS Q (⟨d, .lookup t l c b, ty, p, af, g⟩ :: rest) a w)) : wpList P OPS Q (⟨d, .lookup t l c b, ty, p, af, g⟩ :: rest) a w := h
theorem stop_update {d : Option Tmp} {t : TypeId} {m k v : Operand} {ty : TypeId} {p : String} {af : Array Edge} {g : Option (Nat × Bool)}
    (h : Stop (wpList P OPS Q (⟨d, .mapUpdate t m k v, ty, p, af, g⟩ :: rest) a w)) : wpList P OPS Q (⟨d, .mapUpdate t m k v, ty, p, af, g⟩ :: rest) a w := h
theorem stop_slice {d : Option Tmp} {t : TypeId} {x : Operand} {l u m : Option Operand} {ty : TypeId} {p : String} {af : Array Edge} {g : Option (Nat × Bool)}
    (h : Stop (wpList P OPS Q (⟨d, .slice t x l u m, ty, p, af, g⟩ :: rest) a w)) : wpList P OPS Q (⟨d, .slice t x l u m, ty, p, af, g⟩ :: rest) a w := h
theorem stop_range {d : Option Tmp} {t : TypeId} {x : Operand} {ty : TypeId} {p : String} {af : Array Edge} {g : Option (Nat × Bool)}
    (h : Stop (wpList P OPS Q (⟨d, .range t x, ty, p, af, g⟩ :: rest) a w)) : wpList P OPS Q (⟨d, .range t x, ty, p, af, g⟩ :: rest) a w := h
theorem stop_next {d : Option Tmp} {x : Operand} {b : Bool} {ty : TypeId} {p : String} {af : Array Edge} {g : Option (Nat × Bool)}
    (h : Stop (wpList P OPS Q (⟨d, .next x b, ty, p, af, g⟩ :: rest) a w)) : wpList P OPS Q (⟨d, .next x b, ty, p, af, g⟩ :: rest) a w := h
theorem stop_convert {d : Option Tmp} {t u : TypeId} {x : Operand} {ty : TypeId} {p : String} {af : Array Edge} {g : Option (Nat × Bool)} (_hx : ∃ s, a.eval x = .string s)
    (h : Stop (wpList P OPS Q (⟨d, .convert t u x, ty, p, af, g⟩ :: rest) a w)) : wpList P OPS Q (⟨d, .convert t u x, ty, p, af, g⟩ :: rest) a w := h
theorem stop_convertB {d : Option Tmp} {t u : TypeId} {x : Operand} {ty : TypeId} {p : String} {af : Array Edge} {g : Option (Nat × Bool)} (_hx : ∃ A n c, a.eval x = .slice A n c)
    (h : Stop (wpList P OPS Q (⟨d, .convert t u x, ty, p, af, g⟩ :: rest) a w)) : wpList P OPS Q (⟨d, .convert t u x, ty, p, af, g⟩ :: rest) a w := h

theorem stop_eqSlice {d : Option Tmp} {t u : TypeId} {x y : Operand} {ty : TypeId} {p : String} {af : Array Edge} {g : Option (Nat × Bool)} (_hx : ∃ n c, a.eval y = .slice none n c)
    (h : Stop (wpList P OPS Q (⟨d, .binOp .eql t x y u, ty, p, af, g⟩ :: rest) a w)) : wpList P OPS Q (⟨d, .binOp .eql t x y u, ty, p, af, g⟩ :: rest) a w := h

/-- One operation that runs to a value. -/
theorem step_run {o : Oper} {v : Value} {w' : World} (hg : o.guard = none) (hr : (execOp a.eval o).run P w = .ok (.value v) w')
    (h : wpList P OPS Q rest (a.put o.dst v) w') : wpList P OPS Q (o :: rest) a w :=
  wpList_plain hg fun K hK => by unfold Oper.wp; rw [hr]; exact hK _ _ h

theorem Own.slice [Rep α] {F : Nat → Prop} {base : Nat} {T : TypeId} {v : Value} {xs : List α} (h : Own F w base T v xs) : ∃ A c, v = .slice A xs.length c := by
  obtain ⟨ds, _, _, ho⟩ := h
  rcases ho.2 with ⟨rfl, h0⟩ | ⟨g, cap, cur, rfl, _⟩
  · exact ⟨none, 0, by rw [h0]⟩
  · exact ⟨_, _, rfl⟩
/-! ### append -/
theorem run_append_src (base : Nat) (t tx ty e : TypeId) (i : TypeInfo) (z : Value) (size bytes : Nat) (ht : P.underlying t = some (.slice e)) (hi : P.info? e = some i) (hz : i.zero = some z)
    (hsize : i.size = size) (hby : i.bytes = bytes) (hzs : z.cells.size = size)
    (v : Value) (n : Nat) (xs : List Value) (hown : w.ownsRow base e size v n xs)
    (x : Value) (m : Nat) (news : List Value) (hs : Src P size tx x m news w)
    (h63 : n + m ≤ maxLen) (hbytes : (n + m) * bytes ≤ 140737488355328) (hbase : base ≤ w.heap.size) :
    ∃ v' w', (Builtin.append_ #[t, tx] ty #[v, x]).run P w = .ok v' w' ∧ w'.ownsRow base e size v' (n + m) (xs ++ news) ∧ Grew w w' v v' := by
  subst hsize
  subst hby
  have hl := hs.newsLen
  have hsmall : n + m ≤ 9223372036854775807 := by simp only [maxLen] at h63; omega
  have hlen : (xs ++ news).length = (n + m) * i.size := by rw [List.length_append, hown.1, hl, Nat.add_mul]
  have grown : ∀ (old : Nat), old < n + m →
      (w.drew.alloc (.cells ((xs ++ news).toArray ++ Builtin.zeroCells z.cells (grownCap w (n + m) old e - (n + m))) e)).ownsRow base e i.size
        (.slice (some ⟨w.heap.size, 0, none⟩) (n + m) (grownCap w (n + m) old e)) (n + m) (xs ++ news) ∧
      Grew w (w.drew.alloc (.cells ((xs ++ news).toArray ++ Builtin.zeroCells z.cells (grownCap w (n + m) old e - (n + m))) e)) v (.slice (some ⟨w.heap.size, 0, none⟩) (n + m) (grownCap w (n + m) old e)) := by
    intro old ho
    have hge := grownCap_ge w (n + m) old e
    have hcm : grownCap w (n + m) old e ≤ maxLen := grownCap_le_maxLen w (n + m) old e h63
    refine ⟨⟨hlen, .inr ⟨w.heap.size, _, _, rfl, hbase, heap_alloc_new w.drew _, hge, hcm, ?_, ?_⟩⟩, ⟨⟨rfl, rfl, rfl, by simp, fun k hk _ => heap_alloc_old w.drew _ k hk⟩, fun k hk => by simp [Value.ownBlock] at hk; omega⟩⟩
    · simp only [Array.size_append, List.size_toArray, size_zeroCells, hzs, List.length_append, hown.1, hl, ← Nat.add_mul]
      congr 1
      omega
    · rw [Array.toList_append, ← hlen]
      exact List.take_left
  rcases id hown.2 with ⟨rfl, rfl⟩ | ⟨g, cap, cur, rfl, hbg, hg, hnc, hcm, hcs, htake⟩
  · have hx : xs = [] := List.eq_nil_of_length_eq_zero (by simpa using hown.1)
    subst hx
    by_cases hm : m = 0
    · subst hm
      have hn : news = [] := List.eq_nil_of_length_eq_zero (by simpa using hl)
      subst hn
      refine ⟨.slice none 0 0, w, ?_, World.ownsRow_nil w base e i.size, Grew.refl _ _⟩
      rcases hs.kind with ⟨e', hk⟩ | hk <;>
        simp [Builtin.append_, run_underlying ht, run_underlying hk, Go.sizeOf, typeInfo, hi, hs.len, hs.cells]
    · have hr := run_append_grow_src (P := P) w t tx ty e i z ht hi hz none 0 0 [] (by simp [Builtin.firstCells]) x m news hs (by omega) (by omega) (by
        have := hbytes; simp only [Nat.zero_add] at this ⊢; simp only [Builtin.nextslicecap, Nat.mul_zero]; rw [if_pos (by omega)]; omega)
      have hgr := grown 0 (by omega)
      exact ⟨_, _, hr, hgr.1, hgr.2⟩
  · by_cases hroom : n + m ≤ cap
    · have hcells : ∀ j, j < news.length → (w.cell? ⟨g, 0 + n * i.size + j, none⟩).isSome = true := fun j hj => by
        rw [cell_of_row w g _ cur e (0, 0) hg]
        have : n * i.size + news.length ≤ cur.size := by rw [hl, hcs, ← Nat.add_mul]; exact Nat.mul_le_mul_right _ hroom
        simp; omega
      have hr := run_append_room_src (P := P) w t tx ty e i ht hi g 0 n cap x m news hs hroom hcells (fun j _ => by simp [World.frozen?, hg])
      have hfit : n * i.size + news.length ≤ cur.size := by rw [hl, hcs, ← Nat.add_mul]; exact Nat.mul_le_mul_right _ hroom
      have hset : w.setCells g (0 + n * i.size) news = w.setRow g (cur.toList.take (n * i.size) ++ news ++ cur.toList.drop (n * i.size + news.length)).toArray := by
        have h1 := run_storeCells_at P g (n * i.size) e news 0 cur w hg (by simpa using hfit) hs.one
        have h2 := run_storeCells_cells (P := P) g (n * i.size) news 0 w (by simpa using hcells) (fun j _ => by simp [World.frozen?, hg]) hs.one
        rw [h1] at h2
        simpa using (Result.ok.inj h2).2.symm
      rw [hset] at hr
      refine ⟨_, _, hr, ⟨hlen, .inr ⟨g, cap, _, rfl, hbg, setRow_heap w g cur _ e _ hg, hroom, hcm, ?_, ?_⟩⟩, ⟨⟨rfl, rfl, rfl, by simp, fun k _ hk => setRow_other w g k _ (fun e => hk (by simp [Value.ownBlock, e]))⟩, fun k hk => .inl hk⟩⟩
      · simp only [List.size_toArray, List.length_append, List.length_take, List.length_drop, Array.length_toList]
        omega
      · rw [htake, ← hlen]
        exact List.take_left
    · have holds : ∀ j u, xs[j]? = some u → w.cell? ((⟨g, 0, none⟩ : Addr).add j) = some u := hown.cells (g := g) rfl
      have hr := run_append_grow_src (P := P) w t tx ty e i z ht hi hz (some ⟨g, 0, none⟩) n cap xs (run_firstCells_some w.drew i.size n ⟨g, 0, none⟩ n cap xs hown.1 (by simpa using holds)) x m news hs (by omega) (by omega) (growslice_fits (by omega) hbytes)
      have hgr := grown cap (by omega)
      exact ⟨_, _, hr, hgr.1, hgr.2⟩
/-- What an element type's row of the program's table says. -/
def Info (P : Program) (e : TypeId) (z : Value) (size bytes : Nat) : Prop := (P.info? e).map (fun i => (i.zero, i.size, i.bytes)) = some (some z, size, bytes)

/-- append(s, x...): s is the call's own (or nil), the elements that x reads as are put behind. -/
theorem run_append_typed [Rep α] {o : Oper} {s x : Operand} {t tx : TypeId} {F : Nat → Prop} {base : Nat} {e : TypeId} {z : Value} {bytes : Nat}
    (hop : o.op = .call ⟨.builtin .append, #[s, x], #[t, tx]⟩)
    (ht : P.underlying t = some (.slice e)) (hi : Info P e z (Rep.n α) bytes) (hz : z.cells.size = Rep.n α)
    {v sv : Value} {xs ys : List α} (hown : Own F w base e v xs) (hs : a.eval s = v) (hx : a.eval x = sv)
    {m : Nat} {news : List (List Value)} (hsrc : Src P (Rep.n α) tx sv m news.flatten w) (hm : news.length = ys.length) (hmm : m = ys.length) (hd : ∀ i (h : i < ys.length) (h' : i < news.length), Rep.cs (Or F (OB v)) w ys[i] news[i])
    (h63 : xs.length + ys.length ≤ 140737488351232) (hbytes : (xs.length + ys.length) * bytes ≤ 140737488355328) (hbase : base ≤ w.heap.size) :
    ∃ v' w', (execOp a.eval o).run P w = .ok (.value v') w' ∧ Own F w' base e v' (xs ++ ys) ∧ Grew w w' v v' := by
  obtain ⟨i, hi', hz0, hz1, hz2⟩ := info_parts hi
  obtain ⟨ds, hl, hc, ho⟩ := hown
  obtain ⟨v', w', hr, h2, h3⟩ := run_append_src (w := w) (P := P) base t tx o.type e i z (Rep.n α) bytes ht hi' hz0 hz1 hz2 hz v xs.length ds.flatten ho sv m news.flatten hsrc (by subst hmm; simp only [maxLen]; omega) (by subst hmm; exact hbytes) hbase
  refine ⟨v', w', ?_, ⟨ds ++ news, by simp [hl, hm], ?_, ?_⟩, h3⟩
  · simp only [execOp, hop, resolve, invoke, builtin, Sem.run_bind, Sem.run_pure, Result.andThen_ok, List.map_toArray, List.map_cons, List.map_nil, hs, hx, hr]
  · have hkeep : ∀ (y : α) (c : List Value), Rep.cs (Or F (OB v)) w y c → Rep.cs (Or F (OB v')) w' y c := fun y c hy =>
      Rep.weak (Rep.keep (Rep.weak hy (G := Or F (Or (OB v) (OB v'))) (fun b hb g => by
        rcases g with g | g | g
        · exact .inl g
        · exact .inr g
        · rcases h3.blk b g with f | f
          · exact .inr f
          · omega)) (h3.chg.weak (fun b _ g => .inr (.inl g)))) (fun b _ g => by
        rcases g with g | g
        · exact .inl g
        · exact .inr (.inr g))
    intro j hj hj'
    by_cases hlt : j < xs.length
    · rw [List.getElem_append_left hlt, List.getElem_append_left (by omega)]
      exact hkeep _ _ (hc j hlt (by omega))
    · rw [List.getElem_append_right (by omega), List.getElem_append_right (by omega)]
      simp only [hl]
      exact hkeep _ _ (hd _ (by simp at hj; omega) (by simp at hj'; omega))
  · rw [List.length_append, List.flatten_append]; subst hmm; exact h2
theorem step_append [Rep α] {d : Option Tmp} {s x : Operand} {t tx ty : TypeId} {p : String} {af : Array Edge} {F : Nat → Prop} {base : Nat} {e : TypeId} {z : Value} {bytes : Nat}
    (ht : P.underlying t = some (.slice e)) (hi : Info P e z (Rep.n α) bytes) (hz : z.cells.size = Rep.n α)
    {v sv : Value} {xs ys : List α} (hown : Own F w base e v xs) (hs : a.eval s = v) (hx : a.eval x = sv)
    {m : Nat} {news : List (List Value)} (hsrc : Src P (Rep.n α) tx sv m news.flatten w) (hm : news.length = ys.length) (hmm : m = ys.length) (hd : ∀ i (h : i < ys.length) (h' : i < news.length), Rep.cs (Or F (OB v)) w ys[i] news[i])
    (h63 : xs.length + ys.length ≤ 140737488351232) (hbytes : (xs.length + ys.length) * bytes ≤ 140737488355328) (hbase : base ≤ w.heap.size)
    (h : ∀ v' w', Own F w' base e v' (xs ++ ys) → Grew w w' v v' → wpList P OPS Q rest (a.put d v') w') :
    Stop (wpList P OPS Q (⟨d, .call ⟨.builtin .append, #[s, x], #[t, tx]⟩, ty, p, af, none⟩ :: rest) a w) := by
  obtain ⟨v', w', hr, h1, h2⟩ := run_append_typed (o := ⟨d, .call ⟨.builtin .append, #[s, x], #[t, tx]⟩, ty, p, af, none⟩) rfl ht hi hz hown hs hx hsrc hm hmm hd h63 hbytes hbase
  exact step_run rfl hr (h v' w' h1 h2)
/-- The source is a slice that reads as a list. -/
theorem Src.sl [Rep α] {F : Nat → Prop} {tx e' : TypeId} (hk : P.underlying tx = some (.slice e')) {A : Option Addr} {n c : Nat} {ys : List α} (h : Sl F w (.slice A n c) ys) :
    ∃ news : List (List Value), Src P (Rep.n α) tx (.slice A n c) ys.length news.flatten w ∧ news.length = ys.length ∧ ∀ i (h : i < ys.length) (h' : i < news.length), Rep.cs F w ys[i] news[i] := by
  obtain ⟨A', c', e, hl, h⟩ := h
  cases e
  rcases h with rfl | ⟨b, o, rfl, hb, hlt, hr⟩
  · refine ⟨[], ?_, rfl, fun _ h => absurd h (by simp)⟩
    cases A with
    | none => exact Src.ofNil w hk c
    | some ad => exact Src.ofSlice w hk ad 0 c [] (by simp) (by simp) (by simp)
  · have hch : ∃ news : List (List Value), news.length = ys.length ∧ ∀ i (h : i < ys.length) (h' : i < news.length), Rep.cs F w ys[i] news[i] ∧ ∀ j u, news[i][j]? = some u → w.cell? ⟨b, o + i * Rep.n α + j, none⟩ = some u := by
      refine ⟨(List.finRange ys.length).map fun i => Classical.choose (hr i.1 i.2), by simp, fun i h h' => ?_⟩
      simp only [List.getElem_map, List.getElem_finRange]
      exact Classical.choose_spec (hr i h)
    obtain ⟨news, hn, hc⟩ := hch
    have hlen : ∀ d ∈ news, d.length = Rep.n α := fun d hd => by
      obtain ⟨i, hi, rfl⟩ := List.mem_iff_getElem.1 hd
      exact Rep.len (hc i (by omega) hi).1
    have hfl : news.flatten.length = ys.length * Rep.n α := by
      rw [← hn]; clear hn hc
      induction news with
      | nil => simp
      | cons d r ih => simp only [List.flatten_cons, List.length_append, List.length_cons, Nat.add_mul]; rw [ih (fun d hd => hlen d (by simp [hd])), hlen d (by simp)]; omega
    refine ⟨news, Src.ofSlice w hk ⟨b, o, none⟩ ys.length c news.flatten hfl ?_ ?_, hn, fun i h h' => (hc i h h').1⟩
    · intro j u hu
      have hj : j < ys.length * Rep.n α := by rw [← hfl]; exact (List.getElem?_eq_some_iff.1 hu).1
      have hpos : 0 < Rep.n α := by rcases Nat.eq_zero_or_pos (Rep.n α) with h | h; simp [h] at hj; exact h
      have hi : j / Rep.n α < ys.length := Nat.div_lt_of_lt_mul (by rwa [Nat.mul_comm])
      have hje : j = j / Rep.n α * Rep.n α + j % Rep.n α := by rw [Nat.mul_comm]; exact (Nat.div_add_mod j (Rep.n α)).symm
      rw [hje, flatten_get hlen _ _ (by omega) (Nat.mod_lt _ hpos)] at hu
      have := (hc _ hi (by omega)).2 _ _ hu
      rw [Addr.add_lit, hje, ← Nat.add_assoc]
      exact this
    · intro u hu
      obtain ⟨d, hd, hu⟩ := List.mem_flatten.1 hu
      obtain ⟨i, hi, rfl⟩ := List.mem_iff_getElem.1 hd
      exact Rep.one (hc i (by omega) hi).1 u hu
/-- Values that point to nothing. -/
class Flat (α : Type) [Rep α] : Prop where
  flat : ∀ {F G : Nat → Prop} {w w' : World} {x : α} {c : List Value}, Rep.cs F w x c → Rep.cs G w' x c
instance : Flat Int := ⟨fun h => h⟩
instance : Flat UInt8 := ⟨fun h => h⟩
instance : Flat Bool := ⟨fun h => h⟩
instance : Flat ByteArray := ⟨fun h => h⟩
instance {α β : Type} [Rep α] [Rep β] [Flat α] [Flat β] : Flat (α × β) := ⟨fun ⟨a, b, h, ha, hb⟩ => ⟨a, b, h, Flat.flat ha, Flat.flat hb⟩⟩
theorem run_append_sl [Rep α] {o : Oper} {s x : Operand} {t : TypeId} {F G : Nat → Prop} {base : Nat} {e : TypeId} {z : Value} {bytes : Nat}
    (hop : o.op = .call ⟨.builtin .append, #[s, x], #[t, t]⟩)
    (ht : P.underlying t = some (.slice e)) (hi : Info P e z (Rep.n α) bytes) (hz : z.cells.size = Rep.n α)
    {v : Value} {A : Option Addr} {n c : Nat} {xs ys : List α} (hown : Own F w base e v xs) (hs : a.eval s = v) (hx : a.eval x = .slice A n c)
    (hy : Sl G w (.slice A n c) ys) (hG : ∀ b, b < w.heap.size → Or F (OB v) b → G b)
    (h63 : xs.length + ys.length ≤ 140737488351232) (hbytes : (xs.length + ys.length) * bytes ≤ 140737488355328) (hbase : base ≤ w.heap.size) :
    ∃ v' w', (execOp a.eval o).run P w = .ok (.value v') w' ∧ Own F w' base e v' (xs ++ ys) ∧ Grew w w' v v' := by
  obtain ⟨news, hsrc, hn, hd⟩ := Src.sl ht hy
  exact run_append_typed hop ht hi hz hown hs hx hsrc hn rfl (fun i h h' => Rep.weak (hd i h h') hG) h63 hbytes hbase
theorem run_append_flat [Rep α] [Flat α] {o : Oper} {s x : Operand} {t : TypeId} {F G : Nat → Prop} {base : Nat} {e : TypeId} {z : Value} {bytes : Nat}
    (hop : o.op = .call ⟨.builtin .append, #[s, x], #[t, t]⟩)
    (ht : P.underlying t = some (.slice e)) (hi : Info P e z (Rep.n α) bytes) (hz : z.cells.size = Rep.n α)
    {v : Value} {A : Option Addr} {n c : Nat} {xs ys : List α} (hown : Own F w base e v xs) (hs : a.eval s = v) (hx : a.eval x = .slice A n c)
    (hy : Sl G w (.slice A n c) ys)
    (h63 : xs.length + ys.length ≤ 140737488351232) (hbytes : (xs.length + ys.length) * bytes ≤ 140737488355328) (hbase : base ≤ w.heap.size) :
    ∃ v' w', (execOp a.eval o).run P w = .ok (.value v') w' ∧ Own F w' base e v' (xs ++ ys) ∧ Grew w w' v v' := by
  obtain ⟨news, hsrc, hn, hd⟩ := Src.sl ht hy
  exact run_append_typed hop ht hi hz hown hs hx hsrc hn rfl (fun i h h' => Flat.flat (hd i h h')) h63 hbytes hbase
theorem step_append_sl [Rep α] {d : Option Tmp} {s x : Operand} {t ty : TypeId} {p : String} {af : Array Edge} {F G : Nat → Prop} {base : Nat} {e : TypeId} {z : Value} {bytes : Nat}
    (ht : P.underlying t = some (.slice e)) (hi : Info P e z (Rep.n α) bytes) (hz : z.cells.size = Rep.n α)
    {v : Value} {A : Option Addr} {n c : Nat} {xs ys : List α} (hown : Own F w base e v xs) (hs : a.eval s = v) (hx : a.eval x = .slice A n c)
    (hy : Sl G w (.slice A n c) ys) (hG : ∀ b, b < w.heap.size → Or F (OB v) b → G b)
    (h63 : xs.length + ys.length ≤ 140737488351232) (hbytes : (xs.length + ys.length) * bytes ≤ 140737488355328) (hbase : base ≤ w.heap.size)
    (h : ∀ v' w', Own F w' base e v' (xs ++ ys) → Grew w w' v v' → wpList P OPS Q rest (a.put d v') w') :
    Stop (wpList P OPS Q (⟨d, .call ⟨.builtin .append, #[s, x], #[t, t]⟩, ty, p, af, none⟩ :: rest) a w) := by
  obtain ⟨news, hsrc, hn, hd⟩ := Src.sl ht hy
  exact step_append ht hi hz hown hs hx hsrc hn rfl (fun i h h' => Rep.weak (hd i h h') hG) h63 hbytes hbase h
theorem step_append_flat [Rep α] [Flat α] {d : Option Tmp} {s x : Operand} {t ty : TypeId} {p : String} {af : Array Edge} {F G : Nat → Prop} {base : Nat} {e : TypeId} {z : Value} {bytes : Nat}
    (ht : P.underlying t = some (.slice e)) (hi : Info P e z (Rep.n α) bytes) (hz : z.cells.size = Rep.n α)
    {v : Value} {A : Option Addr} {n c : Nat} {xs ys : List α} (hown : Own F w base e v xs) (hs : a.eval s = v) (hx : a.eval x = .slice A n c)
    (hy : Sl G w (.slice A n c) ys)
    (h63 : xs.length + ys.length ≤ 140737488351232) (hbytes : (xs.length + ys.length) * bytes ≤ 140737488355328) (hbase : base ≤ w.heap.size)
    (h : ∀ v' w', Own F w' base e v' (xs ++ ys) → Grew w w' v v' → wpList P OPS Q rest (a.put d v') w') :
    Stop (wpList P OPS Q (⟨d, .call ⟨.builtin .append, #[s, x], #[t, t]⟩, ty, p, af, none⟩ :: rest) a w) := by
  obtain ⟨news, hsrc, hn, hd⟩ := Src.sl ht hy
  exact step_append ht hi hz hown hs hx hsrc hn rfl (fun i h h' => Flat.flat (hd i h h')) h63 hbytes hbase h
/-- A literal row that was just laid. -/
theorem Sl.lit [Rep α] {F : Nat → Prop} {T : TypeId} {ys : List α} {ds : List (List Value)} {C : Array Value} (hC : C = ds.flatten.toArray) (hl : ds.length = ys.length) (hd : ∀ i (h : i < ys.length) (h' : i < ds.length), Rep.cs F w ys[i] ds[i]) (hF : ¬ F w.heap.size) {n c : Nat} (hn : n = ys.length) (hc : n ≤ c) :
    Sl F (w.alloc (.cells C T)) (.slice (some ⟨w.heap.size, 0, none⟩) n c) ys := by
  subst hn; subst hC
  have hlen : ∀ d ∈ ds, d.length = Rep.n α := fun d hd' => by
    obtain ⟨i, hi, rfl⟩ := List.mem_iff_getElem.1 hd'
    exact Rep.len (hd i (by omega) hi)
  refine ⟨_, _, rfl, hc, .inr ⟨_, 0, rfl, hF, by simp, fun i hi => ⟨ds[i], Rep.keep (hd i hi (by omega)) ((Chg.refl _ _).alloc _), fun j u hu => ?_⟩⟩⟩
  have hj : j < Rep.n α := by rw [← Rep.len (hd i hi (by omega))]; exact (List.getElem?_eq_some_iff.1 hu).1
  rw [World.cell?_alloc_new]
  simp only [Nat.zero_add, List.getElem?_toArray]
  rw [flatten_get hlen i j (by omega) hj]; exact hu
theorem Sl.lit1 [Rep α] {F : Nat → Prop} {T : TypeId} {y : α} {d : List Value} {C : Array Value} (hC : C = d.toArray) (hd : Rep.cs F w y d) (hF : ¬ F w.heap.size) :
    Sl F (w.alloc (.cells C T)) (.slice (some ⟨w.heap.size, 0, none⟩) 1 1) [y] :=
  Sl.lit (ys := [y]) (ds := [d]) (by simpa using hC) rfl (fun i h h' => by
    simp only [List.length_singleton, Nat.lt_one_iff] at h
    subst h
    exact hd) hF rfl (Nat.le_refl _)
end Cb


/- More laws of the engine: strings and bytes, make, copy. They speak of no program. -/
namespace Cb
open Go Go.RowKit
variable {α : Type} {P : Program} {rest : List Oper} {Q : Exit → Act → World → Prop} {a : Act} {w : World} {OPS : Array Oper}

theorem flatten_single {α β : Type} (f : α → β) (l : List α) : (l.map fun b => [f b]).flatten = l.map f := by induction l <;> simp_all
/-- make([]T, n): n zeros. -/
theorem step_make [Rep α] {d : Option Tmp} {l c : Operand} {t ty : TypeId} {p : String} {af : Array Edge} (F : Nat → Prop) (base : Nat) {e : TypeId} {z : Value} {bytes : Nat} (x : α)
    (ht : P.underlying t = some (.slice e)) (hi : Info P e z (Rep.n α) bytes) (hz : Rep.cs (Or F (At w.heap.size)) w x z.cells.toList) (hp : 0 < Rep.n α)
    {n : Nat} {kl kc : IntKind} (hl : a.eval l = .int kl n) (hc : a.eval c = .int kc n) (hb : n * bytes ≤ 140737488355328) (hn : n ≤ 140737488351232) (hbase : base ≤ w.heap.size)
    (h : ∀ v w', Own F w' base e v (List.replicate n x) → v.ownBlock = some w.heap.size → Chg No w w' → wpList P OPS Q rest (a.put d v) w') :
    Stop (wpList P OPS Q (⟨d, .makeSlice t l c, ty, p, af, none⟩ :: rest) a w) := by
  obtain ⟨i, hi', hz0, hz1, hz2⟩ := info_parts hi
  obtain ⟨w', hrun, r1, r2⟩ := run_make_full (P := P) w base t e i z (Rep.n α) ht hi' hz0 hz1 kl kc n (by rw [hz2, Nat.mul_comm]; omega) (by simp only [maxLen]; omega) hbase
  have hcells : (madeCells z.cells (n * Rep.n α)).toList = (List.replicate n z.cells.toList).flatten := by
    have hzl : z.cells.toList.length = Rep.n α := Rep.len hz
    have hzs : z.cells.size = Rep.n α := by simpa using hzl
    apply List.ext_getElem
    · simp [madeCells, List.sum_replicate_nat, hzs]
    · intro k h1 h2
      have hk : k < n * Rep.n α := by simpa [madeCells] using h1
      have hkn : k / Rep.n α < n := Nat.div_lt_of_lt_mul (by rwa [Nat.mul_comm])
      have e1 : k = k / Rep.n α * Rep.n α + k % Rep.n α := by rw [Nat.mul_comm]; exact (Nat.div_add_mod k (Rep.n α)).symm
      have e2 := flatten_get (ds := List.replicate n z.cells.toList) (n := Rep.n α) (fun d hd => by rw [List.eq_of_mem_replicate hd]; exact hzl) (k / Rep.n α) (k % Rep.n α) (by simpa using hkn) (Nat.mod_lt _ hp)
      rw [← e1] at e2
      have e3 : (List.replicate n z.cells.toList).flatten[k]? = some ((List.replicate n z.cells.toList).flatten[k]) := List.getElem?_eq_getElem h2
      rw [e2] at e3
      have hm : k % Rep.n α < z.cells.size := by rw [hzs]; exact Nat.mod_lt _ hp
      simp only [List.getElem_replicate, Array.getElem?_toList, Array.getElem?_eq_getElem hm, Option.some.injEq] at e3
      rw [← e3]
      simp only [madeCells, Array.getElem_toList, Array.getElem_map, Array.getElem_range, hzs]
      exact getElem!_pos z.cells (k % Rep.n α) hm
  refine step_run rfl (v := .slice (some ⟨w.heap.size, 0, none⟩) n n) (w' := w') ?_ (h _ w' ⟨List.replicate n z.cells.toList, by simp, fun i h h' => ?_, ?_⟩ rfl ⟨r2.os, r2.tape, r2.output, r2.size, fun k hk _ => r2.block k hk (by simp)⟩)
  · simp only [execOp, hl, hc, Sem.run_bind, hrun, Result.andThen_ok, Sem.run_pure]
  · simp only [List.getElem_replicate]
    have hb2 : ∀ b, OB (.slice (some ⟨w.heap.size, 0, none⟩) n n) b → b = w.heap.size := fun b hb => by simp [OB, Value.ownBlock] at hb; exact hb.symm
    exact Rep.weak (Rep.keep hz ⟨r2.os, r2.tape, r2.output, r2.size, fun k hk _ => r2.block k hk (by simp)⟩) (fun b _ g => g.imp id (hb2 b))
  · rw [← hcells]; simpa using r1

/-- What a bound of a cut is. -/
def Bound (a : Act) (x : Option Operand) (d k : Nat) : Prop := (x = none ∧ k = d) ∨ ∃ o kd, x = some o ∧ a.eval o = .int kd k
theorem Bound.none {a : Act} {d : Nat} : Bound a .none d d := .inl ⟨rfl, rfl⟩
theorem Bound.some {a : Act} {o : Operand} {d k : Nat} {kd : IntKind} (h : a.eval o = .int kd k) : Bound a (.some o) d k := .inr ⟨o, kd, rfl, h⟩
theorem run_sliceBound_in (w : World) (kd : IntKind) (k y : Nat) (cd : BoundsCode) (hky : k ≤ y) : (Instr.sliceBound (.int kd k) y cd).run P w = .ok k w := by
  simp [Instr.sliceBound, asIntOf, hky]
/-! ### Objects: a block of cells known whole -/
theorem cell_obj {w : World} {b i : Nat} {C : Array Value} {T : TypeId} {fz : Nat × Nat} (h : w.heap[b]? = some (.cells C T fz)) {u : Value} (hu : C[i]? = some u) : w.cell? ⟨b, i, none⟩ = some u := by
  simp [World.cell?, h, hu]
theorem free_obj {w : World} {b i : Nat} {C : Array Value} {T : TypeId} (h : w.heap[b]? = some (.cells C T (0, 0))) : w.frozen? ⟨b, i, none⟩ = false := by
  simp [World.frozen?, h]
theorem set_obj {w : World} {b i : Nat} {C : Array Value} {T : TypeId} {fz : Nat × Nat} (h : w.heap[b]? = some (.cells C T fz)) (u : Value) : (w.setCell ⟨b, i, none⟩ u).heap[b]? = some (.cells (C.setIfInBounds i u) T fz) := by
  simp [World.setCell, Array.getElem?_modify, h]
theorem chg_set {w : World} {b i : Nat} (u : Value) : Chg (At b) w (w.setCell ⟨b, i, none⟩ u) := (Chg.refl (At b) w).setCell (p := ⟨b, i, none⟩) (.inl rfl) u
theorem alloc_obj (w : World) (o : Obj) : (w.alloc o).heap[w.heap.size]? = some o := heap_alloc_new w o
end Cb

