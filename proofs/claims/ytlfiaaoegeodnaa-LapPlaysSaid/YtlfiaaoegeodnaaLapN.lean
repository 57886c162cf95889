/- LapNear: plain law and walk; Held's result as a row of its own; an append of a row that may be nil. -/
import Derived.Test.YtlfiaaoegeodnaaLapL
import Derived.Laws.AppendOwnNone
namespace Go.Proofs.Ytlfiaaoegeodnaa
open Go.RowKit
attribute [local go_sem ↓] Go.wp_at_zero Go.wp_at_succ

theorem getD_take {l : List Int} {k p : Nat} (h : p < k) : (l.take k).getD p 0 = l.getD p 0 := by
  rw [List.getD_eq_getElem?_getD, List.getElem?_take, if_pos h, ← List.getD_eq_getElem?_getD]
theorem frames_alike {l m : List Int} {i p : Nat} (h : ∀ q, q < p → l.getD q 0 = m.getD q 0) (hi : i < countN l.length) (hj : i < countN m.length) :
    ∀ j, 32 * i + j < p → j < 32 → ((framesOf l).getD i []).getD j 0 = ((framesOf m).getD i []).getD j 0 := fun j h1 h2 => by
  rw [framesOf_get l hi, framesOf_get m hj, range32_get _ h2, range32_get _ h2, h _ h1]
/-- frame i looks at no sample from 32 i + 48 on -/
theorem frames_near {l m : List Int} {i : Nat} (h : ∀ q, q < 32 * i + 48 → l.getD q 0 = m.getD q 0) (hi : i + 1 < countN l.length) (hj : i + 1 < countN m.length) :
    (framesL l).getD i [] = (framesL m).getD i [] := by
  rw [framesL_get (by omega), framesL_get (by omega)]
  congr 1
  have hl := framesOf_all l
  have hm := framesOf_all m
  rw [All32, framesOf_len] at hl hm
  refine list_getD_ext (by rw [seamed_len, seamed_len]) (fun j hj' => ?_)
  rw [seamed_len] at hj'
  rw [seamed_get _ _ hj', seamed_get _ _ hj']
  by_cases h16 : j < 16
  · rw [if_pos h16, if_pos h16]
    by_cases h0 : 0 < i
    · rw [if_pos (by omega), if_pos (by omega)]
      exact (HalfB1.2 _ _ _ _ (hl (i - 1) (by omega)) (hm (i - 1) (by omega)) (hl i (by omega)) (hm i (by omega)) (fun q _ h2 => frames_alike h (by omega) (by omega) q (by omega) h2) (fun q h1 => frames_alike h (by omega) (by omega) q (by omega) (by omega))).1 j h16
    · rw [if_neg (by omega), if_neg (by omega)]
      exact frames_alike h (by omega) (by omega) j (by omega) hj'
  · rw [if_neg h16, if_neg h16, if_pos (by omega), if_pos (by omega)]
    exact (HalfA1.2 _ _ _ _ (hl i (by omega)) (hm i (by omega)) (hl (i + 1) (by omega)) (hm (i + 1) (by omega)) (fun q _ h2 => frames_alike h (by omega) (by omega) q (by omega) h2) (fun q h1 => frames_alike h (by omega) (by omega) q (by omega) (by omega))).1 j (by omega) hj'

/-- a row of one's own, in a world further on -/
theorem owns_below {w w' : World} {base n B : Nat} {v : Value} {t : TypeId} {xs : List Value} (h : w.ownsRow base t 1 v n xs) (hb : Below B w w') (hB : w.heap.size ≤ B) : w'.ownsRow base t 1 v n xs := by
  obtain ⟨hl, h | ⟨g, cap, cur, rfl, h1, h2, h3⟩⟩ := h
  · exact ⟨hl, Or.inl h⟩
  · have hg : g < w.heap.size := (Array.getElem?_eq_some_iff.1 h2).1
    exact ⟨hl, Or.inr ⟨g, cap, cur, rfl, h1, (hb.block g (by omega)).trans h2, h3⟩⟩
/-- what an append's second argument may be: nil, or numbers that lie in a row -/
def SrcRow (w : World) (v : Value) (zs : List Int) : Prop := (v = .slice none 0 0 ∧ zs = []) ∨ ∃ g o c, v = .slice (some ⟨g, o, none⟩) zs.length c ∧ ∀ j, j < zs.length → w.cell? ⟨g, o + j, none⟩ = some (.int .i64 (zs.getD j 0))
theorem src_owns {w : World} {base n : Nat} {v : Value} {zs : List Int} (h : w.ownsRow base 3 1 v n (zs.map (Value.int .i64))) : SrcRow w v zs := by
  have hl := h.1
  rw [List.length_map] at hl
  obtain ⟨_, ⟨h1, h2⟩ | ⟨g, cap, cur, rfl, h1, h2, h3, h4, h5, h6⟩⟩ := h
  · exact Or.inl ⟨h1, List.length_eq_zero_iff.1 (by omega)⟩
  · refine Or.inr ⟨g, 0, cap, by rw [show zs.length = n by omega], fun j hj => ?_⟩
    have h7 := congrArg (fun l : List Value => l[j]?) h6
    simp only [List.getElem?_take, List.getElem?_map, Array.getElem?_toList] at h7
    rw [if_pos (by omega), List.getElem?_eq_getElem hj] at h7
    rw [Nat.zero_add, List.getD_eq_getElem?_getD, List.getElem?_eq_getElem hj]
    simpa [World.cell?, h2] using h7
theorem wpList_append_src (w : World) {ops : Array Oper} {rest : List Oper} {o : Oper} {a : Act} {Q : Exit → Act → World → Prop} (hgd : o.guard = none) (s x : Operand)
    (ho : o.op = .call { callee := .builtin .append, args := #[s, x], argTypes := #[52, 52] })
    (base : Nat) (v : Value) (n : Nat) (xs : List Int) (hs : a.eval s = v) (hown : w.ownsRow base 3 1 v n (xs.map (Value.int .i64)))
    (vx : Value) (zs : List Int) (hx : a.eval x = vx) (hz : SrcRow w vx zs) (hsm : n + zs.length ≤ 1000000) (hbase : base ≤ w.heap.size)
    (h : ∀ v' w', w'.ownsRow base 3 1 v' (n + zs.length) ((xs ++ zs).map (Value.int .i64)) → w.grownBy w' v.ownBlock → wpList Try.prog ops Q rest (a.put o.dst v') w') :
    wpList Try.prog ops Q (o :: rest) a w := by
  obtain ⟨inf, hinf, hzr, hsz, hby⟩ := info_parts (P := Try.prog) (e := 3) (z := .int .i64 0) (size := 1) (bytes := 8) (by kernel_rfl)
  rcases hz with ⟨rfl, rfl⟩ | ⟨g, o2, c, rfl, hc⟩
  · refine wpList_append_own_none hgd s x 52 ho base 3 inf 1 Try.underlying52 hinf v n _ hs hown hx (h v w ?_ ⟨rfl, rfl, rfl, Nat.le_refl _, fun _ _ _ => rfl⟩)
    simpa using hown
  · refine wpList_append_own w hgd s x 52 ho base 3 inf (.int .i64 0) 1 8 Try.underlying52 hinf hzr hsz hby rfl (by decide) v n _ hs hown ⟨g, o2, none⟩ zs.length c (zs.map (Value.int .i64)) hx (by simp) ?_ ?_ (by unfold maxLen; omega) (by omega) hbase ?_
    · intro j u hj
      have hlt := (List.getElem?_eq_some_iff.1 hj).1
      rw [List.length_map] at hlt
      rw [Addr.add_mid, hc j hlt]
      rw [List.getElem?_map, List.getElem?_eq_getElem hlt] at hj
      simp only [Option.map_some, Option.some.injEq] at hj
      rw [← hj, List.getD_eq_getElem?_getD, List.getElem?_eq_getElem hlt, Option.getD_some]
    · intro u hu
      obtain ⟨z, _, rfl⟩ := List.mem_map.1 hu
      rfl
    · intro v' w' h1 h2 _
      exact h v' w' (by rw [List.map_append]; exact h1) h2

set_option maxHeartbeats 2000000 in
theorem held11_owns (a : Option Addr) (n c : Nat) (zs : List Int) (w : World) (hz : zs.length = n) (hn : n ≤ maxLen) (h : SlA w a zs) (hi : ∀ z ∈ zs, -9223372036854775808 ≤ z ∧ z ≤ 9223372036854775807) :
    Calls Try.prog 55 #[.slice a n c] w fun e w' => ∃ v, e = .returned v ∧ w'.ownsRow w.heap.size 3 1 v (heldS zs).length ((heldS zs).map (Value.int .i64)) ∧ Below w.heap.size w w' := by
  unfold maxLen at hn
  obtain ⟨inf, hinf, hzr, hsz, hby⟩ := info_parts (P := Try.prog) (e := 3) (z := .int .i64 0) (size := 1) (bytes := 8) (by kernel_rfl)
  have H := Lib.hid h
  have HI := Lib.hid hi
  have HO := Lib.hid (World.ownsRow_nil w w.heap.size 3 1)
  clear h hi
  go_enter Try.func55, Try.ntmps55
  go_wp2_with fail
  go_loopg [3, 4] (min 384 n) (fun gg s3 s4 wr => ∃ kk : Nat, kk ≤ min 384 n ∧ min 384 n - kk ≤ gg ∧ s4 = .int .i64 kk ∧ Aside (Below w.heap.size w wr) ∧ Aside (wr.ownsRow w.heap.size 3 1 s3 kk ((heldS (zs.take kk)).map (Value.int .i64))))
  case atStart => exact ⟨0, Nat.zero_le _, by omega, rfl, Below.refl _ w, HO.out⟩
  case round =>
    clear HO
    obtain ⟨kk, hkk, hgk, rfl, B, O⟩ := hrel
    by_cases hlt : kk < min 384 n
    · have hltz : (kk : Int) < n := by omega
      have hlt3 : (kk : Int) < 384 := by omega
      have hk0 : 0 ≤ (kk : Int) := by omega
      obtain ⟨g0, o0, rfl, hg0, hcs⟩ := slA_at (slA_below H.out B.out) (k := kk) (by omega)
      have cx := hcs kk (by omega)
      have hx := HI.out (zs.getD kk 0) (by rw [List.getD_eq_getElem?_getD, List.getElem?_eq_getElem (by omega)]; exact List.getElem_mem (by omega))
      have HT := Lib.hid (heldS_take zs (k := kk) (by omega) (by omega))
      generalize zs.getD kk 0 = x at *
      have hbx := tmod_bd x (m := 1048576) (by omega)
      have hs := B.out.size
      clear hcs
      go_wp2_with (first | (at_builtin; refine wpList_append_own _ rfl _ _ 52 rfl w.heap.size 3 inf (.int .i64 0) 1 8 Try.underlying52 hinf hzr hsz hby rfl (by decide) _ kk _ rfl (O.out.alloc _) ⟨wr.heap.size, 0, none⟩ 1 1 [.int .i64 (x.tmod 1048577)] rfl rfl (cell_one_new _ _ _) (by simp [Value.oneCell']) (by unfold maxLen; omega) (by omega) (by simp; omega) ?_; intro v' w5 hown' hgrow _))
      have hol := O.out.lt
      have B5 := Lib.hid ((B.out.alloc hs (.cells #[.int .i64 (x.tmod 1048577)] 3)).grown hgrow (by simp; omega) (fun k e => (hol k e).1))
      rw [show [Value.int .i64 (x.tmod 1048577)] = [x.tmod 1048577].map (Value.int .i64) from rfl, ← List.map_append, ← HT.out] at hown'
      have O5 := Lib.hid hown'
      clear hown' hgrow hol O B
      go_wp2_with fail
      go_roundg (min 384 n - (kk + 1))
      case measure => omega
      case rel => exact ⟨kk + 1, by omega, by omega, by go_num, B5.out, O5.out⟩
    · have he : heldS (zs.take kk) = heldS zs := by
        unfold heldS
        rw [List.take_take]
        congr 1
        by_cases h3 : n ≤ 384
        · rw [List.take_of_length_le (by omega), List.take_of_length_le (by omega)]
        · rw [show min 384 kk = 384 by omega]
      have hO := O.out
      rw [he, show kk = (heldS zs).length by rw [heldS_len]; omega] at hO
      have OO := Lib.hid hO
      clear hO he
      by_cases hc : kk < n
      · have hltz : (kk : Int) < n := by omega
        have hlt3 : ¬ (kk : Int) < 384 := by omega
        go_wp2_with fail
        go_ret
        exact ⟨_, rfl, OO.out, B.out⟩
      · have hltz : ¬ (kk : Int) < n := by omega
        go_wp2_with fail
        go_ret
        exact ⟨_, rfl, OO.out, B.out⟩
end Go.Proofs.Ytlfiaaoegeodnaa
