/- Plain laws of layer 17: budgets, distances. No Go in it. -/
import Derived.Test.YtnmhbonheaoldaaBandI
namespace Go.Proofs.Ytnmhbonheaoldaa

/-- how often a gain is halved on its way from band j to band b -/
def shN (b j : Nat) : Nat := if j ≤ b then b - j else 2 * (j - b)
def termL (s : List Int) (b j : Nat) : Int := 4 * 2 ^ (s.getD j 0).toNat / 2 ^ shN b j
def budTo (s : List Int) (b : Nat) : Nat → Int
  | 0 => 0
  | k + 1 => max (budTo s b k) (termL s b k)
def budL (s : List Int) (b : Nat) : Int := budTo s b 8

theorem pow_pos' (n : Nat) : (0 : Int) < 2 ^ n := Int.pow_pos (by decide)
theorem gain_nonneg (n : Nat) : (0 : Int) ≤ 4 * 2 ^ n := Int.mul_nonneg (by decide) (Int.le_of_lt (pow_pos' n))
theorem div_pow_add (x : Int) (a c : Nat) : x / 2 ^ (a + c) = x / 2 ^ a / 2 ^ c := by
  rw [Int.pow_add, Int.ediv_ediv_of_nonneg (Int.le_of_lt (pow_pos' a))]
theorem div_pow_mono {x : Int} (hx : 0 ≤ x) {a c : Nat} (h : a ≤ c) : x / 2 ^ c ≤ x / 2 ^ a := by
  obtain ⟨d, rfl⟩ := Nat.le.dest h
  rw [div_pow_add]
  exact Int.ediv_le_self _ (Int.ediv_nonneg hx (Int.le_of_lt (pow_pos' a)))
theorem termL_nonneg (s : List Int) (b j : Nat) : 0 ≤ termL s b j := Int.ediv_nonneg (gain_nonneg _) (Int.le_of_lt (pow_pos' _))
theorem budTo_nonneg (s : List Int) (b : Nat) : ∀ k, 0 ≤ budTo s b k
  | 0 => Int.le_refl _
  | k + 1 => by have := budTo_nonneg s b k; simp only [budTo]; omega
theorem le_budTo {s : List Int} {b j : Nat} : ∀ {k}, j < k → termL s b j ≤ budTo s b k
  | 0, h => absurd h (Nat.not_lt_zero _)
  | k + 1, h => by
    simp only [budTo]
    by_cases e : j = k
    · subst e; omega
    · have := le_budTo (s := s) (b := b) (show j < k by omega); omega
theorem budTo_le {s : List Int} {b : Nat} {m : Int} (hm : 0 ≤ m) : ∀ {k}, (∀ j, j < k → termL s b j ≤ m) → budTo s b k ≤ m
  | 0, _ => hm
  | k + 1, h => by
    simp only [budTo]
    have h1 := budTo_le (s := s) (b := b) hm (k := k) (fun j hj => h j (by omega))
    have h2 := h k (by omega)
    omega
theorem budTo_div {s t : List Int} {b c : Nat} {d : Int} (hd : 0 < d) (hj : ∀ j, termL s b j / d ≤ termL t c j) : ∀ k, budTo s b k / d ≤ budTo t c k
  | 0 => by simp [budTo]
  | k + 1 => by
    have h1 := budTo_div hd hj k
    have h2 := hj k
    simp only [budTo]
    rcases Int.le_total (budTo s b k) (termL s b k) with h | h
    · rw [Int.max_eq_right h]; omega
    · rw [Int.max_eq_left h]; omega
theorem slopes_half (s : List Int) (b : Nat) : budL s b / 2 ≤ budL s (b + 1) := by
  refine budTo_div (by decide) (fun j => ?_) 8
  unfold termL
  have e : ∀ x : Int, x / 2 = x / 2 ^ 1 := fun _ => rfl
  rw [e, ← div_pow_add]
  refine div_pow_mono (gain_nonneg _) ?_
  unfold shN
  split <;> split <;> omega
theorem slopes_quarter (s : List Int) (b : Nat) : budL s (b + 1) / 4 ≤ budL s b := by
  refine budTo_div (by decide) (fun j => ?_) 8
  unfold termL
  have e : ∀ x : Int, x / 4 = x / 2 ^ 2 := fun x => rfl
  rw [e, ← div_pow_add]
  refine div_pow_mono (gain_nonneg _) ?_
  unfold shN
  split <;> split <;> omega
theorem own_budget (s : List Int) {b : Nat} (hb : b < 8) : 4 * 2 ^ (s.getD b 0).toNat ≤ budL s b := by
  have h := le_budTo (s := s) (b := b) hb
  have e : termL s b b = 4 * 2 ^ (s.getD b 0).toNat := by
    unfold termL shN
    rw [if_pos (Nat.le_refl _), Nat.sub_self, Int.pow_zero, Int.ediv_one]
  rw [e] at h
  exact h
theorem budget_mono {s t : List Int} (h : ∀ j, (s.getD j 0).toNat ≤ (t.getD j 0).toNat) (b : Nat) : budL s b ≤ budL t b := by
  have := budTo_div (s := s) (t := t) (b := b) (c := b) (d := 1) (by decide) (fun j => by
    rw [Int.ediv_one]
    refine Int.ediv_le_ediv (pow_pos' _) (Int.mul_le_mul_of_nonneg_left ?_ (by decide))
    exact_mod_cast Nat.pow_le_pow_right (by decide) (h j)) 8
  rw [Int.ediv_one] at this
  exact this
theorem pow_le_15 {n : Nat} (h : n ≤ 15) : (2 : Int) ^ n ≤ 32768 := (pow_le15 h).1
theorem budL_le {s : List Int} (h : ∀ j, (s.getD j 0).toNat ≤ 15) (b : Nat) : budL s b ≤ 131072 := by
  refine budTo_le (by decide) (fun j _ => ?_)
  have h1 := pow_le_15 (h j)
  have h2 : termL s b j ≤ 4 * 2 ^ (s.getD j 0).toNat := Int.ediv_le_self _ (gain_nonneg _)
  omega
theorem right_get {s : List Int} (h : rightB s = true) (j : Nat) : 0 ≤ s.getD j 0 ∧ s.getD j 0 ≤ 15 := by
  simp only [rightB, Bool.not_eq_true', List.any_eq_false, Bool.not_eq_true, Bool.or_eq_false_iff, decide_eq_false_iff_not, Int.not_lt] at h
  rw [List.getD_eq_getElem?_getD]
  rcases Nat.lt_or_ge j s.length with hlt | hge
  · rw [List.getElem?_eq_getElem hlt]; exact h _ (List.getElem_mem hlt)
  · rw [List.getElem?_eq_none hge]; decide
theorem right_le {s : List Int} (h : rightB s = true) (j : Nat) : (s.getD j 0).toNat ≤ 15 := by
  have := right_get h j; omega

/-- how far pulses are from others -/
def gapZ (x y : Int) : Int := max (x - y) (y - x)
def greatB (x : Int) : Bool := decide (x < -1048576) || decide (1048576 < x)
def farTo (y z : List Int) : Nat → Int
  | 0 => 0
  | k + 1 => farTo y z k + gapZ (y.getD k 0) (z.getD k 0)
def heldTo (y z : List Int) (k : Nat) : Bool := (List.range k).all fun i => !greatB (y.getD i 0) && !greatB (z.getD i 0)
def farL (y z : List Int) : Int := if heldTo y z 4 then farTo y z 4 else -1
theorem heldTo_succ (y z : List Int) (k : Nat) : heldTo y z (k + 1) = (heldTo y z k && (!greatB (y.getD k 0) && !greatB (z.getD k 0))) := by
  simp [heldTo, List.range_succ]
theorem heldTo_le {y z : List Int} {k n : Nat} (h : k ≤ n) (hh : heldTo y z k = false) : heldTo y z n = false := by
  rw [Bool.eq_false_iff] at hh ⊢
  intro hn
  apply hh
  simp only [heldTo, List.all_eq_true, List.mem_range] at hn ⊢
  exact fun i hi => hn i (by omega)
theorem gapZ_nonneg (x y : Int) : 0 ≤ gapZ x y := by unfold gapZ; omega
theorem gapZ_comm (x y : Int) : gapZ x y = gapZ y x := by unfold gapZ; omega
theorem gapZ_zero {x y : Int} : gapZ x y = 0 ↔ x = y := by unfold gapZ; omega
theorem farTo_bd {y z : List Int} : ∀ {k}, heldTo y z k = true → 0 ≤ farTo y z k ∧ farTo y z k ≤ 2097152 * k
  | 0, _ => by simp [farTo]
  | k + 1, h => by
    rw [heldTo_succ, Bool.and_eq_true] at h
    have ih := farTo_bd h.1
    have h2 := h.2
    simp only [greatB, Bool.and_eq_true, Bool.not_eq_true', Bool.or_eq_false_iff, decide_eq_false_iff_not] at h2
    simp only [farTo, gapZ]
    omega
theorem farTo_comm (y z : List Int) : ∀ k, farTo y z k = farTo z y k
  | 0 => rfl
  | k + 1 => by simp only [farTo, farTo_comm y z k, gapZ_comm (y.getD k 0)]
theorem farTo_zero {y z : List Int} : ∀ {k}, farTo y z k = 0 ↔ ∀ i, i < k → y.getD i 0 = z.getD i 0
  | 0 => by simp [farTo]
  | k + 1 => by
    have ih := farTo_zero (y := y) (z := z) (k := k)
    have h0 : ∀ n, 0 ≤ farTo y z n := fun n => by
      induction n with
      | zero => exact Int.le_refl _
      | succ n ihn => have := gapZ_nonneg (y.getD n 0) (z.getD n 0); simp only [farTo]; omega
    have h1 := h0 k
    have h2 := gapZ_nonneg (y.getD k 0) (z.getD k 0)
    have h3 := gapZ_zero (x := y.getD k 0) (y := z.getD k 0)
    simp only [farTo]
    constructor
    · intro h i hi
      by_cases e : i = k
      · subst e; exact h3.1 (by omega)
      · exact ih.1 (by omega) i (by omega)
    · intro h
      have a := ih.2 (fun i hi => h i (by omega))
      have b := h3.2 (h k (by omega))
      omega
theorem heldTo_comm (y z : List Int) (k : Nat) : heldTo y z k = heldTo z y k := by
  unfold heldTo
  congr 1
  funext i
  exact Bool.and_comm _ _
theorem farL_comm (y z : List Int) : farL y z = farL z y := by unfold farL; rw [heldTo_comm, farTo_comm]
end Go.Proofs.Ytnmhbonheaoldaa
