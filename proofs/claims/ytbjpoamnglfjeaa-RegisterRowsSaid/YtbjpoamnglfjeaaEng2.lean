/- More laws of the engine: strings and bytes, make, copy. They speak of no program. -/
import Derived.Test.YtbjpoamnglfjeaaEng
namespace Cb
open Go Go.RowKit
variable {α : Type} {P : Program} {rest : List Oper} {Q : Exit → Act → World → Prop} {a : Act} {w : World} {OPS : Array Oper}

theorem flatten_single {α β : Type} (f : α → β) (l : List α) : (l.map fun b => [f b]).flatten = l.map f := by induction l <;> simp_all
/-- append(b, s...): a string's bytes are put behind. -/
theorem step_append_str {d : Option Tmp} {s x : Operand} {t tx ty : TypeId} {p : String} {af : Array Edge} {F : Nat → Prop} {base : Nat} {e : TypeId} {z : Value}
    (ht : P.underlying t = some (.slice e)) (htx : P.underlying tx = some .string) (hi : Info P e z 1 1) (hz : z.cells.size = 1)
    {v : Value} {y : ByteArray} {xs : List UInt8} (hown : Own F w base e v xs) (hs : a.eval s = v) (hx : a.eval x = .string y)
    (h63 : xs.length + y.size ≤ 140737488351232) (hbase : base ≤ w.heap.size)
    (h : ∀ v' w', Own F w' base e v' (xs ++ y.data.toList) → Grew w w' v v' → wpList P OPS Q rest (a.put d v') w') :
    Stop (wpList P OPS Q (⟨d, .call ⟨.builtin .append, #[s, x], #[t, tx]⟩, ty, p, af, none⟩ :: rest) a w) := by
  have hl : y.data.toList.length = y.size := by rw [Array.length_toList]; rfl
  refine step_append (α := UInt8) ht hi hz hown hs hx (m := y.size) (news := y.data.toList.map fun b => [Value.int .u8 b.toNat]) ?_ (by simp) hl.symm ?_ (by omega) (by omega) hbase h
  · rw [flatten_single]; exact Src.ofString w htx y
  · intro i h h'; simp only [List.getElem_map]; rfl

/-- []byte(s). -/
theorem step_conv_sb {d : Option Tmp} {x : Operand} {t u ty : TypeId} {p : String} {af : Array Edge} {e : TypeId} (F : Nat → Prop)
    (ht : P.underlying t = some .string) (hu : P.underlying u = some (.slice e)) (he : P.underlying e = some (.int .u8)) {s : ByteArray} (hx : a.eval x = .string s) (hF : ¬ F w.heap.size)
    (h : ∀ v w', Sl F w' v s.data.toList → Chg No w w' → wpList P OPS Q rest (a.put d v) w') :
    Stop (wpList P OPS Q (⟨d, .convert t u x, ty, p, af, none⟩ :: rest) a w) := by
  have hl : s.data.toList.length = s.size := by rw [Array.length_toList]; rfl
  refine step_run rfl (v := .slice (some ⟨w.heap.size, 0, none⟩) s.size (grownCap w s.size 0 e)) (w' := Lib.bytesWorld w e s) ?_ (h _ _ ?_ ?_)
  · simp only [execOp, hx, Sem.run_bind, Lib.run_convert_string_bytes w t u e s ht hu he, Result.andThen_ok, Sem.run_pure]
  · refine ⟨_, _, by rw [hl], by rw [hl]; exact grownCap_ge w _ _ _, .inr ⟨w.heap.size, 0, rfl, hF, by rw [Lib.bytesWorld_size]; omega, fun i hi => ⟨_, rfl, fun j u hu => ?_⟩⟩⟩
    have hj : j = 0 := by have := (List.getElem?_eq_some_iff.1 hu).1; simpa using this
    subst hj
    simp only [List.getElem?_cons_zero, Option.some.injEq] at hu
    subst hu
    rw [show 0 + i * Rep.n UInt8 + 0 = i by simp [Rep.n], Lib.bytesWorld_cell w e s i (by omega)]
    rw [List.getD_eq_getElem?_getD, List.getElem?_eq_getElem hi]; rfl
  · exact ⟨rfl, rfl, rfl, by rw [Lib.bytesWorld_size]; omega, fun k hk _ => Lib.bytesWorld_at_old w e s k hk⟩

/-- string(b). -/
theorem run_conv_bs {t u : TypeId} {e : TypeId} {F : Nat → Prop} {w : World}
    (ht : P.underlying t = some (.slice e)) (he : P.underlying e = some (.int .u8)) (hu : P.underlying u = some .string) {A : Option Addr} {n c : Nat} {bs : List UInt8} (hs : Sl F w (.slice A n c) bs) :
    (convert t u (.slice A n c)).run P w = .ok (.string ⟨bs.toArray⟩) w := by
  obtain ⟨A', c', e', hl, h⟩ := hs
  cases e'
  rcases h with rfl | ⟨b, o, rfl, hb, hlt, hr⟩
  · cases A with
    | none => exact run_convert_bytes_nil w t e ht he _ _ u hu
    | some ad =>
      rw [run_convert_bytes_string w t u e _ _ _ ht he hu]
      have := run_bytesToString (P := P) w ad 0 c [] (by simp [loadCells, loadCellsFrom])
      simp only [List.foldl_nil] at this
      rw [List.length_nil, this]; rfl
  · have := run_convert_bytes_arg (P := P) w t e ht he b o bs.length c (bs.map fun x => (x.toNat : Int)) (by simp) (fun i hi => by
      obtain ⟨d, rfl, hj⟩ := hr i hi
      have := hj 0 _ rfl
      simp only [Rep.n, Nat.mul_one, Nat.add_zero] at this
      rw [this, List.getD_eq_getElem?_getD, List.getElem?_map, List.getElem?_eq_getElem hi]; rfl) u hu
    rw [this]
    simp [strOfNums]
    congr 3
    conv => rhs; rw [← List.map_id bs]
    exact List.map_congr_left (fun x _ => by simp)
theorem run_conv_op {d : Option Tmp} {x : Operand} {t u ty : TypeId} {p : String} {af : Array Edge} {gd : Option (Nat × Bool)} {a : Act} {e : TypeId} {F : Nat → Prop} {w : World} {A : Option Addr} {n c : Nat} {bs : List UInt8} (hx : a.eval x = .slice A n c)
    (ht : P.underlying t = some (.slice e)) (he : P.underlying e = some (.int .u8)) (hu : P.underlying u = some .string) (hs : Sl F w (.slice A n c) bs) :
    (execOp a.eval ⟨d, .convert t u x, ty, p, af, gd⟩).run P w = .ok (.value (.string ⟨bs.toArray⟩)) w := by
  simp only [execOp, hx, Sem.run_bind, run_conv_bs ht he hu hs, Result.andThen_ok, Sem.run_pure]
theorem step_conv_bs {d : Option Tmp} {x : Operand} {t u ty : TypeId} {p : String} {af : Array Edge} {e : TypeId} {F : Nat → Prop}
    (ht : P.underlying t = some (.slice e)) (he : P.underlying e = some (.int .u8)) (hu : P.underlying u = some .string) {A : Option Addr} {n c : Nat} {bs : List UInt8} (hx : a.eval x = .slice A n c) (hs : Sl F w (.slice A n c) bs)
    (h : wpList P OPS Q rest (a.put d (.string ⟨bs.toArray⟩)) w) :
    Stop (wpList P OPS Q (⟨d, .convert t u x, ty, p, af, none⟩ :: rest) a w) := by
  refine step_run rfl (v := .string ⟨bs.toArray⟩) (w' := w) ?_ h
  simp only [execOp, hx, Sem.run_bind, run_conv_bs ht he hu hs, Result.andThen_ok, Sem.run_pure]

/-- make([]T, n): n zeros. -/
theorem step_make [Rep α] {d : Option Tmp} {l c : Operand} {t ty : TypeId} {p : String} {af : Array Edge} (F : Nat → Prop) (base : Nat) {e : TypeId} {z : Value} {bytes : Nat} (x : α)
    (ht : P.underlying t = some (.slice e)) (hi : Info P e z (Rep.n α) bytes) (hz : Rep.cs (Or F (At w.heap.size)) w x z.cells.toList) (hp : 0 < Rep.n α)
    {n : Nat} {kl kc : IntKind} (hl : a.eval l = .int kl n) (hc : a.eval c = .int kc n) (hb : n * bytes ≤ 140737488355328) (hn : n ≤ 140737488351232) (hbase : base ≤ w.heap.size)
    (h : ∀ v w', Own F w' base e v (List.replicate n x) → v.ownBlock = some w.heap.size → Chg No w w' → wpList P OPS Q rest (a.put d v) w') :
    Stop (wpList P OPS Q (⟨d, .makeSlice t l c, ty, p, af, none⟩ :: rest) a w) := by
  obtain ⟨i, hi', hz0, hz1, hz2⟩ := info_parts hi
  obtain ⟨w', hrun, r1, r2⟩ := run_make_full (P := P) w base t e i z (Rep.n α) ht hi' hz0 hz1 kl kc n (by rw [hz2, Nat.mul_comm]; omega) (by simp only [maxLen]; omega) hbase
  have hcells : (madeCells z.cells (n * Rep.n α)).toList = (List.replicate n z.cells.toList).flatten := by
    have hzl : z.cells.toList.length = Rep.n α := Rep.len hz
    have hzs : z.cells.size = Rep.n α := by simpa using hzl
    apply List.ext_getElem
    · simp [madeCells, List.sum_replicate_nat, hzs]
    · intro k h1 h2
      have hk : k < n * Rep.n α := by simpa [madeCells] using h1
      have hkn : k / Rep.n α < n := Nat.div_lt_of_lt_mul (by rwa [Nat.mul_comm])
      have e1 : k = k / Rep.n α * Rep.n α + k % Rep.n α := by rw [Nat.mul_comm]; exact (Nat.div_add_mod k (Rep.n α)).symm
      have e2 := flatten_get (ds := List.replicate n z.cells.toList) (n := Rep.n α) (fun d hd => by rw [List.eq_of_mem_replicate hd]; exact hzl) (k / Rep.n α) (k % Rep.n α) (by simpa using hkn) (Nat.mod_lt _ hp)
      rw [← e1] at e2
      have e3 : (List.replicate n z.cells.toList).flatten[k]? = some ((List.replicate n z.cells.toList).flatten[k]) := List.getElem?_eq_getElem h2
      rw [e2] at e3
      have hm : k % Rep.n α < z.cells.size := by rw [hzs]; exact Nat.mod_lt _ hp
      simp only [List.getElem_replicate, Array.getElem?_toList, Array.getElem?_eq_getElem hm, Option.some.injEq] at e3
      rw [← e3]
      simp only [madeCells, Array.getElem_toList, Array.getElem_map, Array.getElem_range, hzs]
      exact getElem!_pos z.cells (k % Rep.n α) hm
  refine step_run rfl (v := .slice (some ⟨w.heap.size, 0, none⟩) n n) (w' := w') ?_ (h _ w' ⟨List.replicate n z.cells.toList, by simp, fun i h h' => ?_, ?_⟩ rfl ⟨r2.os, r2.tape, r2.output, r2.size, fun k hk _ => r2.block k hk (by simp)⟩)
  · simp only [execOp, hl, hc, Sem.run_bind, hrun, Result.andThen_ok, Sem.run_pure]
  · simp only [List.getElem_replicate]
    have hb2 : ∀ b, OB (.slice (some ⟨w.heap.size, 0, none⟩) n n) b → b = w.heap.size := fun b hb => by simp [OB, Value.ownBlock] at hb; exact hb.symm
    exact Rep.weak (Rep.keep hz ⟨r2.os, r2.tape, r2.output, r2.size, fun k hk _ => r2.block k hk (by simp)⟩) (fun b _ g => g.imp id (hb2 b))
  · rw [← hcells]; simpa using r1

/-- copy(own, y): as many as there is room for. -/
theorem step_copy [Rep α] [Flat α] {d : Option Tmp} {s x : Operand} {t tx ty : TypeId} {p : String} {af : Array Edge} {F G : Nat → Prop} {base : Nat} {e : TypeId} {z : Value} {bytes : Nat}
    (ht : P.underlying t = some (.slice e)) (htx : P.underlying tx = some (.slice e)) (hi : Info P e z (Rep.n α) bytes)
    {v : Value} {A : Option Addr} {n c : Nat} {xs ys : List α} (hown : Own F w base e v xs) (hs : a.eval s = v) (hx : a.eval x = .slice A n c) (hy : Sl G w (.slice A n c) ys) (hle : ys.length = xs.length)
    (h : ∀ w', Own F w' base e v ys → Chg (OB v) w w' → wpList P OPS Q rest (a.put d (goInt ys.length)) w') :
    Stop (wpList P OPS Q (⟨d, .call ⟨.builtin .copy, #[s, x], #[t, tx]⟩, ty, p, af, none⟩ :: rest) a w) := by
  obtain ⟨i, hi', hz0, hz1, hz2⟩ := info_parts hi
  obtain ⟨news, hsrc, hn, hd⟩ := Src.sl htx hy
  obtain ⟨ds, hl, hc, ho⟩ := hown
  obtain ⟨hyn, _⟩ := hy.len
  subst hyn
  have hfl : news.flatten.length = ys.length * Rep.n α := hsrc.newsLen
  have hstep : ∀ w', (Builtin.copy_ #[t, tx] ty #[v, .slice A ys.length c]).run P w = .ok (goInt ys.length) w' → w'.ownsRow base e (Rep.n α) v ys.length news.flatten → Chg (OB v) w w' →
      Stop (wpList P OPS Q (⟨d, .call ⟨.builtin .copy, #[s, x], #[t, tx]⟩, ty, p, af, none⟩ :: rest) a w) := fun w' hr h1 h2 => by
    refine step_run rfl (v := goInt ys.length) (w' := w') ?_ (h w' ⟨news, hn, fun i h h' => Flat.flat (hd i h h'), h1⟩ h2)
    simp only [execOp, resolve, invoke, builtin, Sem.run_bind, Sem.run_pure, Result.andThen_ok, List.map_toArray, List.map_cons, List.map_nil, hs, hx, hr]
  rcases id ho.2 with ⟨rfl, h0⟩ | ⟨g, cap, cur, rfl, hbg, hg, hnc, hcm, hcs, htake⟩
  · have hy0 : ys = [] := List.eq_nil_of_length_eq_zero (by omega)
    subst hy0
    have hn0 : news = [] := List.eq_nil_of_length_eq_zero (by simpa using hn)
    subst hn0
    refine hstep w ?_ (World.ownsRow_nil w base e _) (Chg.refl _ _)
    have := hsrc.cells
    have hl := hsrc.len w
    simp only [List.length_nil] at this hl ⊢
    simp [Builtin.copy_, run_underlying ht, Go.sizeOf, typeInfo, hi', hz1, hl, this]
  · have hfit : 0 + 0 + news.flatten.length ≤ cur.size := by rw [hfl, hcs]; simp only [Nat.zero_add]; exact Nat.mul_le_mul_right _ (by omega)
    have hst := run_storeCells_at P g 0 e news.flatten 0 cur w hg hfit hsrc.one
    simp only [Nat.add_zero, Nat.zero_add, List.take_zero, List.nil_append] at hst
    refine hstep (w.setRow g (news.flatten ++ List.drop news.flatten.length cur.toList).toArray) ?_ ⟨hfl, .inr ⟨g, cap, _, by rw [hle], hbg, setRow_heap w g cur _ e _ hg, by omega, hcm, ?_, ?_⟩⟩ ⟨rfl, rfl, rfl, by simp [World.setRow], fun k _ hk => setRow_other w g k _ (fun e => hk (by simp [OB, Value.ownBlock, e]))⟩
    · have hl' := hsrc.len w
      have hc' := hsrc.cells
      have hmin : Nat.min ys.length xs.length = ys.length := by rw [hle]; exact Nat.min_self _
      simp [Builtin.copy_, run_underlying ht, Go.sizeOf, typeInfo, hi', hz1, hl', hmin, hc', hst]
    · simp only [List.size_toArray, List.length_append, List.length_drop, Array.length_toList]; omega
    · rw [← hfl]; exact List.take_left
/-- What a bound of a cut is. -/
def Bound (a : Act) (x : Option Operand) (d k : Nat) : Prop := (x = none ∧ k = d) ∨ ∃ o kd, x = some o ∧ a.eval o = .int kd k
theorem Bound.none {a : Act} {d : Nat} : Bound a .none d d := .inl ⟨rfl, rfl⟩
theorem Bound.some {a : Act} {o : Operand} {d k : Nat} {kd : IntKind} (h : a.eval o = .int kd k) : Bound a (.some o) d k := .inr ⟨o, kd, rfl, h⟩
theorem Bound.some' {a : Act} {o : Operand} {d k : Nat} {kd : IntKind} {i : Int} (h : a.eval o = .int kd i) (e : i = k) : Bound a (.some o) d k := by subst e; exact .inr ⟨o, kd, rfl, h⟩
theorem run_sliceBound_in (w : World) (kd : IntKind) (k y : Nat) (cd : BoundsCode) (hky : k ≤ y) : (Instr.sliceBound (.int kd k) y cd).run P w = .ok k w := by
  simp [Instr.sliceBound, asIntOf, hky]
/-- x[lo:hi]. -/
theorem run_slice [Rep α] {F : Nat → Prop} {x : Operand} {t e : TypeId} {z : Value} {bytes : Nat} {lo hi : Option Operand}
    (ht : P.underlying t = some (.slice e)) (hi' : Info P e z (Rep.n α) bytes) {A : Option Addr} {n c l h : Nat} {xs : List α} (hs : Sl F w (.slice A n c) xs)
    (hl : Bound a lo 0 l) (hh : Bound a hi n h) (h1 : l ≤ h) (h2 : h ≤ xs.length) (hx : a.eval x = .slice A n c) :
    ∃ A' c', (Instr.slice t (a.eval x) (lo.map a.eval) (hi.map a.eval) none).run P w = .ok (.slice A' (h - l) c') w ∧ Sl F w (.slice A' (h - l) c') ((xs.take h).drop l) := by
  obtain ⟨i, hi0, hz0, hz1, hz2⟩ := info_parts hi'
  obtain ⟨hn, hc⟩ := hs.len
  subst hn
  have hb : ∀ (cd : BoundsCode) (cd2 : BoundsCode), (Instr.sliceBounds true xs.length c (lo.map a.eval) (hi.map a.eval) none).run P w = .ok (l, h, c) w := by
    intro _ _
    have hhc : h ≤ c := by omega
    rcases hl with ⟨rfl, rfl⟩ | ⟨o, kd, rfl, ho⟩ <;> rcases hh with ⟨rfl, rfl⟩ | ⟨o2, kd2, rfl, ho2⟩ <;>
      simp [Instr.sliceBounds, *, run_sliceBound_in]
  refine ⟨_, _, by simp [Instr.slice, hx, run_underlying ht, hb .index .index, Go.sizeOf, typeInfo, hi0]; exact ⟨rfl, rfl⟩, ?_⟩
  obtain ⟨A', c', e', hlen, hr⟩ := hs
  cases e'
  have hll : ((xs.take h).drop l).length = h - l := by simp; omega
  refine ⟨_, _, by rw [hll], by rw [hll]; omega, ?_⟩
  rcases hr with rfl | ⟨b, o, rfl, hb', hlt, hr⟩
  · left; simp
  · by_cases hcl : c = l
    · left; apply List.eq_nil_of_length_eq_zero; omega
    · right
      refine ⟨b, o + l * Rep.n α, by rw [if_neg hcl]; simp [hz1, Addr.add_lit], hb', hlt, fun k hk => ?_⟩
      obtain ⟨d, hd, hj⟩ := hr (l + k) (by omega)
      refine ⟨d, by simpa using hd, fun j u hu => ?_⟩
      have := hj j u hu
      rw [show o + l * Rep.n α + k * Rep.n α + j = o + (l + k) * Rep.n α + j by rw [Nat.add_mul]; omega]
      exact this
theorem step_slice [Rep α] {F : Nat → Prop} {d : Option Tmp} {x : Operand} {t ty e : TypeId} {p : String} {af : Array Edge} {z : Value} {bytes : Nat} {lo hi : Option Operand}
    (ht : P.underlying t = some (.slice e)) (hi' : Info P e z (Rep.n α) bytes) {A : Option Addr} {n c l h : Nat} {xs : List α} (hs : Sl F w (.slice A n c) xs) (hx : a.eval x = .slice A n c)
    (hl : Bound a lo 0 l) (hh : Bound a hi n h) (h1 : l ≤ h) (h2 : h ≤ xs.length)
    (hk : ∀ A' c', Sl F w (.slice A' (h - l) c') ((xs.take h).drop l) → wpList P OPS Q rest (a.put d (.slice A' (h - l) c')) w) :
    Stop (wpList P OPS Q (⟨d, .slice t x lo hi none, ty, p, af, none⟩ :: rest) a w) := by
  obtain ⟨A', c', hr, hs'⟩ := run_slice ht hi' hs hl hh h1 h2 hx
  refine step_run rfl (v := .slice A' (h - l) c') (w' := w) ?_ (hk A' c' hs')
  have := hr
  rcases hl with ⟨rfl, rfl⟩ | ⟨o, kd, rfl, ho⟩ <;> rcases hh with ⟨rfl, rfl⟩ | ⟨o2, kd2, rfl, ho2⟩ <;>
    · simp only [Option.map_some, Option.map_none] at this
      simp only [execOp, Instr.sliceAt, Sem.run_bind, run_underlying ht, Option.map_some, Option.map_none, this, Result.andThen_ok, Sem.run_pure]

/-- s[lo:hi] of a string. -/
theorem run_slice_text {t : TypeId} {lo hi : Option Operand} (ht : P.underlying t = some .string) {s : ByteArray} {l h : Nat} (hl : Bound a lo 0 l) (hh : Bound a hi s.size h) (h1 : l ≤ h) (h2 : h ≤ s.size) :
    (Instr.sliceAt t (.string s) (lo.map a.eval) (hi.map a.eval) none).run P w = .ok (.string ⟨((s.data.toList.take h).drop l).toArray⟩) w := by
  have hb : (Instr.sliceBounds false s.size s.size (lo.map a.eval) (hi.map a.eval) none).run P w = .ok (l, h, s.size) w := by
    rcases hl with ⟨rfl, rfl⟩ | ⟨o, kd, rfl, ho⟩ <;> rcases hh with ⟨rfl, rfl⟩ | ⟨o2, kd2, rfl, ho2⟩ <;>
      simp [Instr.sliceBounds, *, run_sliceBound_in]
  have hx : s.extract l h = ⟨((s.data.toList.take h).drop l).toArray⟩ := by
    rw [ByteArray.ext_iff, ByteArray.data_extract]
    apply Array.ext'
    simp [List.drop_take]
  simp [Instr.sliceAt, Instr.slice, run_underlying ht, hb, hx]
theorem step_slice_text {d : Option Tmp} {x : Operand} {t ty : TypeId} {p : String} {af : Array Edge} {lo hi : Option Operand}
    (ht : P.underlying t = some .string) {s : ByteArray} {l h : Nat} (hx : a.eval x = .string s) (hl : Bound a lo 0 l) (hh : Bound a hi s.size h) (h1 : l ≤ h) (h2 : h ≤ s.size)
    (hk : wpList P OPS Q rest (a.put d (.string ⟨((s.data.toList.take h).drop l).toArray⟩)) w) :
    Stop (wpList P OPS Q (⟨d, .slice t x lo hi none, ty, p, af, none⟩ :: rest) a w) := by
  refine step_run rfl (v := .string ⟨((s.data.toList.take h).drop l).toArray⟩) (w' := w) ?_ hk
  have := run_slice_text (w := w) ht hl hh h1 h2
  rcases hl with ⟨rfl, rfl⟩ | ⟨o, kd, rfl, ho⟩ <;> rcases hh with ⟨rfl, rfl⟩ | ⟨o2, kd2, rfl, ho2⟩ <;>
    · simp only [Option.map_some, Option.map_none] at this
      simp only [execOp, hx, Sem.run_bind, Option.map_some, Option.map_none, this, Result.andThen_ok, Sem.run_pure]

/-! ### Objects: a block of cells known whole -/
theorem cell_obj {w : World} {b i : Nat} {C : Array Value} {T : TypeId} {fz : Nat × Nat} (h : w.heap[b]? = some (.cells C T fz)) {u : Value} (hu : C[i]? = some u) : w.cell? ⟨b, i, none⟩ = some u := by
  simp [World.cell?, h, hu]
theorem free_obj {w : World} {b i : Nat} {C : Array Value} {T : TypeId} (h : w.heap[b]? = some (.cells C T (0, 0))) : w.frozen? ⟨b, i, none⟩ = false := by
  simp [World.frozen?, h]
theorem set_obj {w : World} {b i : Nat} {C : Array Value} {T : TypeId} {fz : Nat × Nat} (h : w.heap[b]? = some (.cells C T fz)) (u : Value) : (w.setCell ⟨b, i, none⟩ u).heap[b]? = some (.cells (C.setIfInBounds i u) T fz) := by
  simp [World.setCell, Array.getElem?_modify, h]
theorem chg_set {w : World} {b i : Nat} (u : Value) : Chg (At b) w (w.setCell ⟨b, i, none⟩ u) := (Chg.refl (At b) w).setCell (p := ⟨b, i, none⟩) (.inl rfl) u
theorem chg_ge {w : World} {b i : Nat} (u : Value) : Chg (Ge b) w (w.setCell ⟨b, i, none⟩ u) := (Chg.refl (Ge b) w).setCell (p := ⟨b, i, none⟩) (.inl (Nat.le_refl _)) u
theorem alloc_obj (w : World) (o : Obj) : (w.alloc o).heap[w.heap.size]? = some o := heap_alloc_new w o
end Cb
