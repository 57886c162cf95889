/- Plain laws of the reference's waves: two rows of 16 in place of 32 numbers in turn. No Go in it. -/
import Derived.Test.YtlfiaaoegeodnaaLapQ
namespace Go.Proofs.Ytlfiaaoegeodnaa

def ev (zs : List Int) : List Int := (List.range 16).map fun i => zs.getD (i * 2) 0
def od (zs : List Int) : List Int := (List.range 16).map fun i => zs.getD (i * 2 + 1) 0
theorem ev_len (zs : List Int) : (ev zs).length = 16 := by simp [ev]
theorem od_len (zs : List Int) : (od zs).length = 16 := by simp [od]
theorem ev_get (zs : List Int) {i : Nat} (h : i < 16) : (ev zs).getD i 0 = zs.getD (i * 2) 0 := by
  simp [ev, List.getD_eq_getElem?_getD, List.getElem?_map, List.getElem?_range h]
theorem od_get (zs : List Int) {i : Nat} (h : i < 16) : (od zs).getD i 0 = zs.getD (i * 2 + 1) 0 := by
  simp [od, List.getD_eq_getElem?_getD, List.getElem?_map, List.getElem?_range h]
theorem ev_set0 {zs : List Int} (hl : zs.length = 32) {i : Nat} (hi : i < 16) (v : Int) : ev (zs.set (i * 2) v) = (ev zs).set i v := by
  refine list_getD_ext (by simp [ev_len]) (fun p hp => ?_)
  rw [ev_len] at hp
  rw [ev_get _ hp]
  by_cases h : i = p
  · subst h
    rw [getD_set_eq (by omega), getD_set_eq (by rw [ev_len]; exact hp)]
  · rw [getD_set_ne (by omega), getD_set_ne h, ev_get _ hp]
theorem ev_set1 (zs : List Int) (i : Nat) (v : Int) : ev (zs.set (i * 2 + 1) v) = ev zs := by
  refine list_getD_ext (by simp [ev_len]) (fun p hp => ?_)
  rw [ev_len] at hp
  rw [ev_get _ hp, ev_get _ hp, getD_set_ne (by omega)]
theorem od_set0 (zs : List Int) (i : Nat) (v : Int) : od (zs.set (i * 2) v) = od zs := by
  refine list_getD_ext (by simp [od_len]) (fun p hp => ?_)
  rw [od_len] at hp
  rw [od_get _ hp, od_get _ hp, getD_set_ne (by omega)]
theorem od_set1 {zs : List Int} (hl : zs.length = 32) {i : Nat} (hi : i < 16) (v : Int) : od (zs.set (i * 2 + 1) v) = (od zs).set i v := by
  refine list_getD_ext (by simp [od_len]) (fun p hp => ?_)
  rw [od_len] at hp
  rw [od_get _ hp]
  by_cases h : i = p
  · subst h
    rw [getD_set_eq (by omega), getD_set_eq (by rw [od_len]; exact hp)]
  · rw [getD_set_ne (by omega), getD_set_ne h, od_get _ hp]

theorem in_ev (zs : List Int) {n : Nat} (h : n < 16) : ev (inTo zs (n + 1)) = (ev (inTo zs n)).set n (turnL (zs.getD (2 * n) 0) (zs.getD (31 - 2 * n) 0) (edgeN n)).1 := by
  rw [inTo, ev_set1, ev_set0 (inTo_len zs n) h]
theorem in_od (zs : List Int) {n : Nat} (h : n < 16) : od (inTo zs (n + 1)) = (od (inTo zs n)).set n (turnL (zs.getD (2 * n) 0) (zs.getD (31 - 2 * n) 0) (edgeN n)).2 := by
  rw [inTo, od_set1 (by rw [List.length_set]; exact inTo_len zs n) h, od_set0]

theorem cross_ev {zs : List Int} (hl : zs.length = 32) {p q : Nat} (hp : p < 16) (hq : q < 16) :
    ev (wCross p q zs) = ((ev zs).set p (turnL ((ev zs).getD p 0) ((ev zs).getD q 0) 64).2).set q (turnL ((ev zs).getD p 0) ((ev zs).getD q 0) 64).1 := by
  unfold wCross wCross1
  rw [ev_set1, ev_set1, ev_set0 (by rw [List.length_set]; exact hl) hq, ev_set0 hl hp, ev_get _ hp, ev_get _ hq]
theorem cross_od {zs : List Int} (hl : zs.length = 32) {p q : Nat} (hp : p < 16) (hq : q < 16) :
    od (wCross p q zs) = ((od zs).set p (turnL ((od zs).getD p 0) ((od zs).getD q 0) 64).2).set q (turnL ((od zs).getD p 0) ((od zs).getD q 0) 64).1 := by
  unfold wCross
  have hl1 : (wCross1 (p * 2) (q * 2) zs).length = 32 := by simp [wCross1, hl]
  have e : od (wCross1 (p * 2) (q * 2) zs) = od zs := by unfold wCross1; rw [od_set0, od_set0]
  rw [← e]
  generalize wCross1 (p * 2) (q * 2) zs = z at *
  unfold wCross1
  rw [od_set1 (by rw [List.length_set]; exact hl1) hq, od_set1 hl1 hp, od_get _ hp, od_get _ hq]
theorem ahead_ev {zs : List Int} (hl : zs.length = 32) {p q : Nat} (hp : p < 16) (hq : q < 16) (k : Int) :
    ev (wAhead p q k zs) = ((ev zs).set p (turnL ((ev zs).getD p 0) ((ev zs).getD q 0) 64).2).set q (turnL (turnL ((ev zs).getD p 0) ((ev zs).getD q 0) 64).1 (turnL ((od zs).getD p 0) ((od zs).getD q 0) 64).1 k).1 := by
  have he := cross_ev hl hp hq
  have ho := cross_od hl hp hq
  have hl2 := (wCross_len p q zs).trans hl
  unfold wAhead
  generalize wCross p q zs = z at *
  have h1 : z.getD (q * 2) 0 = (turnL ((ev zs).getD p 0) ((ev zs).getD q 0) 64).1 := by
    rw [← ev_get z hq, he, getD_set_eq (by rw [List.length_set, ev_len]; exact hq)]
  have h2 : z.getD (q * 2 + 1) 0 = (turnL ((od zs).getD p 0) ((od zs).getD q 0) 64).1 := by
    rw [← od_get z hq, ho, getD_set_eq (by rw [List.length_set, od_len]; exact hq)]
  unfold wTurn
  rw [ev_set1, ev_set0 hl2 hq, h1, h2, he, List.set_set]
theorem ahead_od {zs : List Int} (hl : zs.length = 32) {p q : Nat} (hp : p < 16) (hq : q < 16) (k : Int) :
    od (wAhead p q k zs) = ((od zs).set p (turnL ((od zs).getD p 0) ((od zs).getD q 0) 64).2).set q (turnL (turnL ((ev zs).getD p 0) ((ev zs).getD q 0) 64).1 (turnL ((od zs).getD p 0) ((od zs).getD q 0) 64).1 k).2 := by
  have he := cross_ev hl hp hq
  have ho := cross_od hl hp hq
  have hl2 := (wCross_len p q zs).trans hl
  unfold wAhead
  generalize wCross p q zs = z at *
  have h1 : z.getD (q * 2) 0 = (turnL ((ev zs).getD p 0) ((ev zs).getD q 0) 64).1 := by
    rw [← ev_get z hq, he, getD_set_eq (by rw [List.length_set, ev_len]; exact hq)]
  have h2 : z.getD (q * 2 + 1) 0 = (turnL ((od zs).getD p 0) ((od zs).getD q 0) 64).1 := by
    rw [← od_get z hq, ho, getD_set_eq (by rw [List.length_set, od_len]; exact hq)]
  unfold wTurn
  rw [od_set1 (by rw [List.length_set]; exact hl2) hq, od_set0, h1, h2, ho, List.set_set]

/-- the reference's way out: from zeros -/
def rOut (st : List Int) : Nat → List Int
  | 0 => List.replicate 32 0
  | n + 1 => ((rOut st n).set (2 * n) (turnL ((ev st).getD (flipN n) 0) ((od st).getD (flipN n) 0) (edgeN n)).1).set (31 - 2 * n) (-(turnL ((ev st).getD (flipN n) 0) ((od st).getD (flipN n) 0) (edgeN n)).2)
theorem rOut_len (st : List Int) (n : Nat) : (rOut st n).length = 32 := by
  induction n with
  | zero => rfl
  | succ n ih => simp [rOut, ih]
theorem flip_ne {a b : Nat} (ha : a < 16) (hb : b < 16) (h : a ≠ b) : flipN a ≠ flipN b := fun e => h (by rw [← flip_flip ha, ← flip_flip hb, e])
theorem turnTo_away (st : List Int) {m : Nat} (hm : m < 16) : ∀ n, n ≤ m → (turnTo st n).getD (flipN m * 2) 0 = st.getD (flipN m * 2) 0 ∧ (turnTo st n).getD (flipN m * 2 + 1) 0 = st.getD (flipN m * 2 + 1) 0
  | 0, _ => ⟨rfl, rfl⟩
  | n + 1, h => by
    have ih := turnTo_away st hm n (by omega)
    have hne := flip_ne (a := n) (b := m) (by omega) hm (by omega)
    rw [turnTo, wTurn, getD_set_ne (by omega), getD_set_ne (by omega), getD_set_ne (by omega), getD_set_ne (by omega)]
    exact ih
theorem turnTo_here {st : List Int} (hl : st.length = 32) {n : Nat} (hn : n < 16) :
    (turnTo st (n + 1)).getD (flipN n * 2) 0 = (turnL ((ev st).getD (flipN n) 0) ((od st).getD (flipN n) 0) (edgeN n)).1 ∧ (turnTo st (n + 1)).getD (flipN n * 2 + 1) 0 = (turnL ((ev st).getD (flipN n) 0) ((od st).getD (flipN n) 0) (edgeN n)).2 := by
  have h := turnTo_away st hn n (Nat.le_refl _)
  have hlt := flip_lt n
  have hl2 := (turnTo_len st n).trans hl
  rw [turnTo, wTurn, ev_get _ hlt, od_get _ hlt, h.1, h.2]
  refine ⟨?_, ?_⟩
  · rw [getD_set_ne (by omega), getD_set_eq (by omega)]
  · rw [getD_set_eq (by rw [List.length_set]; omega)]
theorem rOut_same {st zs : List Int} (hl : st.length = 32) (hz : zs.length = 32) : ∀ n, n ≤ 16 → ∀ p, p < 32 → (if p % 2 = 0 then p / 2 else (31 - p) / 2) < n → (rOut st n).getD p 0 = (outTo st zs n).getD p 0
  | 0, _, p, _, h => absurd h (Nat.not_lt_zero _)
  | n + 1, hn, p, hp, h => by
    have hlo := outTo_len st zs n
    have hh := turnTo_here hl (n := n) (by omega)
    have hlr := rOut_len st n
    rw [rOut, outTo, hh.1, hh.2]
    by_cases e1 : 31 - 2 * n = p
    · subst e1
      rw [getD_set_eq (by rw [List.length_set]; omega), getD_set_eq (by rw [List.length_set]; omega)]
    · rw [getD_set_ne e1, getD_set_ne e1]
      by_cases e2 : 2 * n = p
      · subst e2
        rw [getD_set_eq (by omega), getD_set_eq (by omega)]
      · rw [getD_set_ne e2, getD_set_ne e2]
        refine rOut_same hl hz n (by omega) p hp ?_
        split at h
        · next he => rw [if_pos he]; omega
        · next he => rw [if_neg he]; omega
/-- the reference's waves are the program's -/
theorem rOut_waves {zs : List Int} (hz : zs.length = 32) : rOut (mid4 (inTo zs 16)) 16 = wavesL zs := by
  have hl : (mid4 (inTo zs 16)).length = 32 := (mid4_len _).trans (inTo_len zs 16)
  refine list_getD_ext (by rw [rOut_len, wavesL_len, hz]) (fun p hp => ?_)
  rw [rOut_len] at hp
  exact rOut_same hl hz 16 (Nat.le_refl _) p hp (by split <;> omega)
end Go.Proofs.Ytlfiaaoegeodnaa
