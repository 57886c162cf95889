/- What the reference's frames need: sources of an append, rows stored into, frames copied. -/
import Derived.Test.YtlfiaaoegeodnaaRefY
import Derived.Test.YtlfiaaoegeodnaaRefX
import Derived.Test.YtlfiaaoegeodnaaLapW
namespace Go.Proofs.Ytlfiaaoegeodnaa
open Go.ChangeShapes Go.WideShapes Go.ChangeAt Go.RowKit

/-- numbers that an append may take: nil, or a row -/
def Src2 (w : World) (v : Value) (zs : List Int) : Prop := (v = .slice none 0 0 ∧ zs = []) ∨ ∃ ad c, v = .slice (some ad) zs.length c ∧ ∀ j u, (zs.map (Value.int .i64))[j]? = some u → w.cell? (ad.add j) = some u
theorem src2_of {w : World} {a : Option Addr} {n c : Nat} {zs : List Int} (hz : zs.length = n) (h : SlA w a zs) (h0 : a = none → c = 0) : Src2 w (.slice a n c) zs := by
  rcases a with _ | ad
  · rcases h with rfl | ⟨g, o, e, _⟩
    · refine Or.inl ⟨?_, rfl⟩
      rw [h0 rfl, ← hz]
      rfl
    · cases e
  · refine Or.inr ⟨ad, c, by rw [hz], fun j u hu => ?_⟩
    have hlt := (List.getElem?_eq_some_iff.1 hu).1
    rw [List.length_map] at hlt
    rcases h with rfl | ⟨g, o, e, _, hc⟩
    · simp at hlt
    · cases e
      rw [Addr.add_mid, hc j hlt]
      rw [List.getElem?_map, List.getElem?_eq_getElem hlt] at hu
      simp only [Option.map_some, Option.some.injEq] at hu
      rw [← hu, List.getD_eq_getElem?_getD, List.getElem?_eq_getElem hlt, Option.getD_some]
theorem src2_alloc {w : World} {v : Value} {zs : List Int} (h : Src2 w v zs) (o : Obj) : Src2 (w.alloc o) v zs := by
  rcases h with h | ⟨ad, c, rfl, hc⟩
  · exact Or.inl h
  · exact Or.inr ⟨ad, c, rfl, fun j u hu => by rw [World.cell?_alloc_lt _ _ _ (World.block_lt_of_cell? w _ (hc j u hu))]; exact hc j u hu⟩
theorem wpList_append_src2 (w : World) {ops : Array Oper} {rest : List Oper} {o : Oper} {a : Act} {Q : Exit → Act → World → Prop} (hgd : o.guard = none) (s x : Operand)
    (ho : o.op = .call { callee := .builtin .append, args := #[s, x], argTypes := #[52, 52] })
    (base : Nat) (v : Value) (n : Nat) (xs : List Int) (hs : a.eval s = v) (hown : w.ownsRow base 3 1 v n (xs.map (Value.int .i64)))
    (vx : Value) (zs : List Int) (hx : a.eval x = vx) (hz : Src2 w vx zs) (hsm : n + zs.length ≤ 1000000) (hbase : base ≤ w.heap.size)
    (h : ∀ v' w', w'.ownsRow base 3 1 v' (n + zs.length) ((xs ++ zs).map (Value.int .i64)) → w.grownBy w' v.ownBlock → wpList Try.prog ops Q rest (a.put o.dst v') w') :
    wpList Try.prog ops Q (o :: rest) a w := by
  obtain ⟨inf, hinf, hzr, hsz, hby⟩ := info_parts (P := Try.prog) (e := 3) (z := .int .i64 0) (size := 1) (bytes := 8) (by kernel_rfl)
  rcases hz with ⟨rfl, rfl⟩ | ⟨ad, c, rfl, hc⟩
  · refine wpList_append_own_none hgd s x 52 ho base 3 inf 1 Try.underlying52 hinf v n _ hs hown hx (h v w ?_ ⟨rfl, rfl, rfl, Nat.le_refl _, fun _ _ _ => rfl⟩)
    simpa using hown
  · refine wpList_append_own w hgd s x 52 ho base 3 inf (.int .i64 0) 1 8 Try.underlying52 hinf hzr hsz hby rfl (by decide) v n _ hs hown ad zs.length c (zs.map (Value.int .i64)) hx (by simp) hc (ints_one1 zs) (by unfold maxLen; omega) (by omega) hbase ?_
    intro v' w' h1 h2 _
    exact h v' w' (by rw [List.map_append]; exact h1) h2
/-- a slice of whole numbers that came in: nil has no room -/
theorem open_slz {H : Type} {enc : TypeId × Value → H} {P : Program} {w : World} {base b0 : Nat} {held : Bool} {r : Reach} {t e : TypeId} {v : Value} {d : DataW H} {ps : List MemPlace}
    (ht : P.underlying t = some (.slice e)) (he : P.underlying e = some (.int .i64)) (hc : P.cellsOf e = 1)
    (hval : Value.okWide P w r b0 t v) (hd : DataW.Trod enc P w base (fun _ => true) held t v d ps) :
    ∃ (a : Option Addr) (n c : Nat) (zs : List Int), v = .slice a n c ∧ zs.length = n ∧ n ≤ maxLen ∧ SlA w a zs ∧ (∀ z ∈ zs, (Lit.int .i64 z).wf = true) ∧ (a = none → c = 0) := by
  obtain ⟨a, n, c, zs, rfl, h1, h2, h3, h4⟩ := open_sl ht he hc hval hd
  refine ⟨a, n, c, zs, rfl, h1, h2, h3, h4, ?_⟩
  rintro rfl
  obtain ⟨fuel, hf⟩ := hd
  rcases open_ints ht he hc hf with ⟨hcs, hx⟩ | ⟨a', len', cap', zs, hcs, _⟩
  · simp [Value.cells] at hcs
    exact hcs.2
  · simp [Value.cells] at hcs

theorem blkP_set {w : World} {g i : Nat} {t : TypeId} {zs : List Int} (h : BlkP w g t zs) (v : Int) : BlkP (w.setCell ⟨g, i, none⟩ (.int .i64 v)) g t (zs.set i v) := by
  obtain ⟨cs, h, hc⟩ := h
  refine ⟨_, blk_set h i (.int .i64 v), fun j hj => ?_⟩
  rw [List.length_set] at hj
  rw [Array.getElem?_setIfInBounds]
  have hs := (Array.getElem?_eq_some_iff.1 (hc j hj)).1
  by_cases e : i = j
  · subst e
    rw [if_pos rfl, if_pos hs, getD_set_eq hj]
  · rw [if_neg e, hc j hj, getD_set_ne e]
theorem blkP_far {w : World} {g b i : Nat} {t : TypeId} {zs : List Int} (h : BlkP w g t zs) (hb : g ≠ b) (u : Value) : BlkP (w.setCell ⟨b, i, none⟩ u) g t zs := by
  obtain ⟨cs, h, hc⟩ := h
  exact ⟨cs, blk_far h hb u, hc⟩
/-- the first numbers of a frame, copied into zeros -/
def cpy (f : List Int) (m : Nat) : List Int := (List.range 32).map fun j => if j < m then f.getD j 0 else 0
theorem cpy_len (f : List Int) (m : Nat) : (cpy f m).length = 32 := by simp [cpy]
theorem cpy_get (f : List Int) {m j : Nat} (h : j < 32) : (cpy f m).getD j 0 = if j < m then f.getD j 0 else 0 := range32_get _ h
theorem cpy_zero (f : List Int) : cpy f 0 = List.replicate 32 0 := by
  refine list_getD_ext (by rw [cpy_len]; simp) (fun j hj => ?_)
  rw [cpy_len] at hj
  rw [cpy_get _ hj, if_neg (by omega), List.getD_eq_getElem?_getD, List.getElem?_replicate, if_pos hj]
  rfl
theorem cpy_succ (f : List Int) {m : Nat} (h : m < 32) : (cpy f m).set m (f.getD m 0) = cpy f (m + 1) := by
  refine list_getD_ext (by simp [cpy_len]) (fun j hj => ?_)
  rw [List.length_set, cpy_len] at hj
  by_cases e : m = j
  · subst e
    rw [getD_set_eq (by rw [cpy_len]; exact hj), cpy_get _ hj, if_pos (by omega)]
  · rw [getD_set_ne e, cpy_get _ hj, cpy_get _ hj]
    by_cases c : j < m
    · rw [if_pos c, if_pos (by omega)]
    · rw [if_neg c, if_neg (by omega)]
theorem cpy_all {f : List Int} (h : f.length = 32) : cpy f 32 = f := by
  refine list_getD_ext (by rw [cpy_len, h]) (fun j hj => ?_)
  rw [cpy_len] at hj
  rw [cpy_get _ hj, if_pos hj]
/-- samples, and zeros behind them: a zero more -/
theorem pad_succ (l : List Int) {j : Nat} (h1 : l.length ≤ j) (h2 : j < 32 * countN l.length) : (flat (framesOf l)).take j ++ [0] = (flat (framesOf l)).take (j + 1) := by
  have hl : (flat (framesOf l)).length = 32 * countN l.length := by rw [flat_len, framesOf_len]
  rw [List.take_succ_eq_append_getElem (by omega)]
  congr 2
  have h3 := framesOf_at l h2
  rw [getD_beyond l h1, List.getD_eq_getElem?_getD, List.getElem?_eq_getElem (by omega), Option.getD_some] at h3
  exact h3.symm
theorem pad_zero (l : List Int) : (flat (framesOf l)).take l.length = l := by
  have hl : (flat (framesOf l)).length = 32 * countN l.length := by rw [flat_len, framesOf_len]
  have hr := countN_room l.length
  refine list_getD_ext (by rw [List.length_take]; omega) (fun p hp => ?_)
  rw [List.length_take] at hp
  rw [getD_take (by omega), framesOf_at l (by omega)]
/-- '[][32]int{f}' -/
theorem wpList_build_row (w : World) {ops : Array Oper} {rest : List Oper} {o : Oper} {a : Act} {Q : Exit → Act → World → Prop} (hg : o.guard = none) (x : Operand) (ho : o.op = .buildSlice 60 1 #[(0, x)])
    (zs : List Int) (hl : zs.length = 32) (hx : a.eval x = .agg (ints zs))
    (h : wpList Try.prog ops Q rest (a.put o.dst (.slice (some ⟨w.heap.size, 0, none⟩) 1 1)) (w.alloc (.cells (ints zs) 43))) : wpList Try.prog ops Q (o :: rest) a w := by
  obtain ⟨inf, hinf, hzr, hsz, hby⟩ := info_parts (P := Try.prog) (e := 43) (z := .agg #[Value.int .i64 0, Value.int .i64 0, Value.int .i64 0, Value.int .i64 0, Value.int .i64 0, Value.int .i64 0, Value.int .i64 0, Value.int .i64 0, Value.int .i64 0, Value.int .i64 0, Value.int .i64 0, Value.int .i64 0, Value.int .i64 0, Value.int .i64 0, Value.int .i64 0, Value.int .i64 0, Value.int .i64 0, Value.int .i64 0, Value.int .i64 0, Value.int .i64 0, Value.int .i64 0, Value.int .i64 0, Value.int .i64 0, Value.int .i64 0, Value.int .i64 0, Value.int .i64 0, Value.int .i64 0, Value.int .i64 0, Value.int .i64 0, Value.int .i64 0, Value.int .i64 0, Value.int .i64 0]) (size := 32) (bytes := 256) (by kernel_rfl)
  refine Go.wpList_buildSlice hg 60 43 1 #[(0, x)] ho (ints zs) inf (.agg #[Value.int .i64 0, Value.int .i64 0, Value.int .i64 0, Value.int .i64 0, Value.int .i64 0, Value.int .i64 0, Value.int .i64 0, Value.int .i64 0, Value.int .i64 0, Value.int .i64 0, Value.int .i64 0, Value.int .i64 0, Value.int .i64 0, Value.int .i64 0, Value.int .i64 0, Value.int .i64 0, Value.int .i64 0, Value.int .i64 0, Value.int .i64 0, Value.int .i64 0, Value.int .i64 0, Value.int .i64 0, Value.int .i64 0, Value.int .i64 0, Value.int .i64 0, Value.int .i64 0, Value.int .i64 0, Value.int .i64 0, Value.int .i64 0, Value.int .i64 0, Value.int .i64 0, Value.int .i64 0]) Try.underlying60 hinf hzr (by rw [hsz]; decide) (by rw [hsz]; decide) ?_ h
  have := Great.fill_whole (s := 32) (by decide) [.agg (ints zs)] ((Array.range 32).map ((Value.agg #[Value.int .i64 0, Value.int .i64 0, Value.int .i64 0, Value.int .i64 0, Value.int .i64 0, Value.int .i64 0, Value.int .i64 0, Value.int .i64 0, Value.int .i64 0, Value.int .i64 0, Value.int .i64 0, Value.int .i64 0, Value.int .i64 0, Value.int .i64 0, Value.int .i64 0, Value.int .i64 0, Value.int .i64 0, Value.int .i64 0, Value.int .i64 0, Value.int .i64 0, Value.int .i64 0, Value.int .i64 0, Value.int .i64 0, Value.int .i64 0, Value.int .i64 0, Value.int .i64 0, Value.int .i64 0, Value.int .i64 0, Value.int .i64 0, Value.int .i64 0, Value.int .i64 0, Value.int .i64 0]).cells[· % (Value.agg #[Value.int .i64 0, Value.int .i64 0, Value.int .i64 0, Value.int .i64 0, Value.int .i64 0, Value.int .i64 0, Value.int .i64 0, Value.int .i64 0, Value.int .i64 0, Value.int .i64 0, Value.int .i64 0, Value.int .i64 0, Value.int .i64 0, Value.int .i64 0, Value.int .i64 0, Value.int .i64 0, Value.int .i64 0, Value.int .i64 0, Value.int .i64 0, Value.int .i64 0, Value.int .i64 0, Value.int .i64 0, Value.int .i64 0, Value.int .i64 0, Value.int .i64 0, Value.int .i64 0, Value.int .i64 0, Value.int .i64 0, Value.int .i64 0, Value.int .i64 0, Value.int .i64 0, Value.int .i64 0]).cells.size]!)) (by intro v hv; simp at hv; subst hv; simp [Value.cells, ints, hl]) (by simp)
  rw [hsz]
  simp only [List.map_toArray, List.map_cons, List.map_nil, hx]
  rw [Nat.one_mul, show [(0, Value.agg (ints zs))] = ([Value.agg (ints zs)].zipIdx 0).map fun x => (x.2, x.1) from rfl, this]
  simp [Value.cells]
theorem news_row (w : World) (zs : List Int) : ∀ j u, (zs.map (Value.int .i64))[j]? = some u → (w.alloc (.cells (ints zs) 43)).cell? ((⟨w.heap.size, 0, none⟩ : Addr).add j) = some u := fun j u hu => by
  have hlt := (List.getElem?_eq_some_iff.1 hu).1
  rw [List.length_map] at hlt
  rw [Addr.add_mid, Nat.zero_add, blk_int (blk_new w 43 (ints zs)) hlt]
  rw [List.getElem?_map, List.getElem?_eq_getElem hlt] at hu
  simp only [Option.map_some, Option.some.injEq] at hu
  rw [← hu, List.getD_eq_getElem?_getD, List.getElem?_eq_getElem hlt, Option.getD_some]
end Go.Proofs.Ytlfiaaoegeodnaa
