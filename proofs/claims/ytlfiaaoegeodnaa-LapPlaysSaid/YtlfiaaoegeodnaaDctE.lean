/- Plain laws of dct: the squares' sum. No Go in it. -/
import Derived.Test.YtlfiaaoegeodnaaDctI
namespace Go.Proofs.Ytlfiaaoegeodnaa

def sumN (f : Nat → Int) : Nat → Int
  | 0 => 0
  | n + 1 => sumN f n + f n
def sq (zs : List Int) (i : Nat) : Int := zs.getD i 0 * zs.getD i 0
/-- the squares' sum -/
def T (zs : List Int) : Int := sumN (sq zs) 32
theorem sqz_nonneg (zs : List Int) (i : Nat) : 0 ≤ sq zs i := by
  unfold sq
  rcases Int.le_total 0 (zs.getD i 0) with h | h
  · exact Int.mul_nonneg h h
  · exact Int.mul_nonneg_of_nonpos_of_nonpos h h
theorem sumN_nonneg {f : Nat → Int} (h : ∀ i, 0 ≤ f i) (n : Nat) : 0 ≤ sumN f n := by
  induction n with
  | zero => exact Int.le_refl 0
  | succ n ih => have := h n; rw [sumN]; omega
theorem T_nonneg (zs : List Int) : 0 ≤ T zs := sumN_nonneg (sqz_nonneg zs) 32
theorem sumN_set (zs : List Int) {i : Nat} (hi : i < zs.length) (v : Int) (n : Nat) : sumN (sq (zs.set i v)) n = sumN (sq zs) n + if i < n then v * v - sq zs i else 0 := by
  induction n with
  | zero => rfl
  | succ n ih =>
    rw [sumN, sumN, ih]
    by_cases e : i = n
    · subst e
      rw [if_neg (by omega), if_pos (by omega)]
      unfold sq
      rw [getD_set_eq hi]
      omega
    · have : sq (zs.set i v) n = sq zs n := by unfold sq; rw [getD_set_ne e]
      rw [this]
      by_cases h : i < n
      · rw [if_pos h, if_pos (by omega)]; omega
      · rw [if_neg h, if_neg (by omega)]; omega
theorem T_set {zs : List Int} (hl : zs.length = 32) {i : Nat} (hi : i < 32) (v : Int) : T (zs.set i v) = T zs + v * v - sq zs i := by
  unfold T
  rw [sumN_set zs (by omega), if_pos hi]; omega
theorem sq_set_ne {zs : List Int} {i j : Nat} (h : i ≠ j) (v : Int) : sq (zs.set i v) j = sq zs j := by unfold sq; rw [getD_set_ne h]
theorem T_op2 {f : Int → Int → Int × Int} {p q : Nat} {zs : List Int} (hl : zs.length = 32) (hp : p < 32) (hq : q < 32) (hpq : p ≠ q) :
    T (op2 f p q zs) = T zs + (f (zs.getD p 0) (zs.getD q 0)).1 * (f (zs.getD p 0) (zs.getD q 0)).1 + (f (zs.getD p 0) (zs.getD q 0)).2 * (f (zs.getD p 0) (zs.getD q 0)).2 - sq zs p - sq zs q := by
  unfold op2
  rw [T_set (by simpa using hl) hq, T_set hl hp, sq_set_ne hpq]
  omega
theorem sq2_le {zs : List Int} (hl : zs.length = 32) {p q : Nat} (hp : p < 32) (hq : q < 32) (hpq : p ≠ q) : sq zs p + sq zs q ≤ T zs := by
  have h := T_nonneg ((zs.set p 0).set q 0)
  rw [T_set (by simpa using hl) hq, T_set hl hp, sq_set_ne hpq] at h
  omega
theorem sq_le {zs : List Int} (hl : zs.length = 32) {p : Nat} (hp : p < 32) : sq zs p ≤ T zs := by
  have h := T_nonneg (zs.set p 0)
  rw [T_set hl hp] at h
  omega
theorem sq_op2_ne {f : Int → Int → Int × Int} {p q x : Nat} {zs : List Int} (h1 : x ≠ p) (h2 : x ≠ q) : sq (op2 f p q zs) x = sq zs x := by unfold sq; rw [op2_ne h1 h2]
theorem sq_op2 {f : Int → Int → Int × Int} {p q : Nat} {zs : List Int} (hp : p < zs.length) (hq : q < zs.length) (hpq : p ≠ q) :
    sq (op2 f p q zs) p = (f (zs.getD p 0) (zs.getD q 0)).1 * (f (zs.getD p 0) (zs.getD q 0)).1 ∧ sq (op2 f p q zs) q = (f (zs.getD p 0) (zs.getD q 0)).2 * (f (zs.getD p 0) (zs.getD q 0)).2 := by
  unfold sq; rw [op2_fst hp hpq, op2_snd hq]; exact ⟨rfl, rfl⟩

/-- how much the squares of a pair may grow -/
def Gr (A C : Int) (f : Int → Int → Int × Int) : Prop := ∀ a b, 1024 * ((f a b).1 * (f a b).1 + (f a b).2 * (f a b).2) ≤ A * (a * a + b * b) + C
theorem mul_self_nn (x : Int) : 0 ≤ x * x := by
  rcases Int.le_total 0 x with h | h
  · exact Int.mul_nonneg h h
  · exact Int.mul_nonneg_of_nonpos_of_nonpos h h
theorem great_of (a b : Int) : ∃ m : Int, 0 ≤ m ∧ -m ≤ a ∧ a ≤ m ∧ -m ≤ b ∧ b ≤ m ∧ m * m ≤ a * a + b * b := by
  have ha := mul_self_nn a
  have hb := mul_self_nn b
  have key : ∀ x y : Int, 0 ≤ y * y → x.natAbs ≥ y.natAbs → ∃ m : Int, 0 ≤ m ∧ -m ≤ x ∧ x ≤ m ∧ -m ≤ y ∧ y ≤ m ∧ m * m ≤ x * x + y * y := by
    intro x y hy h
    refine ⟨x.natAbs, by omega, by omega, by omega, by omega, by omega, ?_⟩
    have : (x.natAbs : Int) * x.natAbs = x * x := by
      rcases Int.natAbs_eq x with e | e
      · rw [← e]
      · rw [show (x.natAbs : Int) = -x by omega, Int.neg_mul_neg]
    omega
  by_cases h : a.natAbs ≥ b.natAbs
  · exact key a b hb h
  · obtain ⟨m, h0, h1, h2, h3, h4, h5⟩ := key b a ha (by omega)
    exact ⟨m, h0, h3, h4, h1, h2, by omega⟩
theorem turn_grows (a b k : Int) : ∃ m : Int, 0 ≤ m ∧ m * m ≤ a * a + b * b ∧ 1024 * ((turnL a b k).1 * (turnL a b k).1 + (turnL a b k).2 * (turnL a b k).2 - (a * a + b * b)) ≤ a * a + b * b + 8192 * m + 8192 := by
  obtain ⟨m, h0, h1, h2, h3, h4, h5⟩ := great_of a b
  exact ⟨m, h0, h5, (turnL_size h0 h1 h2 h3 h4 h5 k).1⟩
theorem back_grows (a b k : Int) : ∃ m : Int, 0 ≤ m ∧ m * m ≤ a * a + b * b ∧ 1024 * ((backL a b k).1 * (backL a b k).1 + (backL a b k).2 * (backL a b k).2 - (a * a + b * b)) ≤ a * a + b * b + 8192 * m + 8192 := by
  obtain ⟨m, h0, h1, h2, h3, h4, h5⟩ := great_of a b
  exact ⟨m, h0, h5, backL_size h0 h1 h2 h3 h4 h5 k⟩

/-- all ways of turning grow no more than so -/
def Grows (A C : Int) : Prop := (∀ k, Gr A C (fT k)) ∧ (∀ k, Gr A C (fB k)) ∧ Gr A C fC ∧ Gr A C fU

theorem room1 {m S : Int} (h : m * m ≤ S) : 8192 * m ≤ 8 * S + 2097152 := by
  have h1 := mul_self_nn (m - 512)
  have h2 : (m - 512) * (m - 512) = m * m - 2 * 512 * m + 512 * 512 := by grind
  omega
theorem grows1 : Grows 1033 2105344 := by
  have hT : ∀ k, Gr 1033 2105344 (fT k) := fun k a b => by
    obtain ⟨m, h0, h1, h2⟩ := turn_grows a b k
    have h3 := room1 h1
    show 1024 * ((turnL a b k).1 * (turnL a b k).1 + (turnL a b k).2 * (turnL a b k).2) ≤ _
    omega
  have hB : ∀ k, Gr 1033 2105344 (fB k) := fun k a b => by
    obtain ⟨m, h0, h1, h2⟩ := back_grows a b k
    have h3 := room1 h1
    show 1024 * ((backL a b k).1 * (backL a b k).1 + (backL a b k).2 * (backL a b k).2) ≤ _
    omega
  refine ⟨hT, hB, fun a b => ?_, fun a b => ?_⟩
  · have h : 1024 * ((turnL a b 64).1 * (turnL a b 64).1 + (turnL a b 64).2 * (turnL a b 64).2) ≤ 1033 * (a * a + b * b) + 2105344 := hT 64 a b
    show 1024 * ((turnL a b 64).2 * (turnL a b 64).2 + (turnL a b 64).1 * (turnL a b 64).1) ≤ _
    omega
  · have h : 1024 * ((backL b a 64).1 * (backL b a 64).1 + (backL b a 64).2 * (backL b a 64).2) ≤ 1033 * (b * b + a * a) + 2105344 := hB 64 b a
    show 1024 * ((backL b a 64).1 * (backL b a 64).1 + (backL b a 64).2 * (backL b a 64).2) ≤ _
    omega

theorem room2 {m S : Int} (h : m * m ≤ S) : 8192 * m ≤ 64 * S + 262144 := by
  have h1 := mul_self_nn (m - 64)
  have h2 : (m - 64) * (m - 64) = m * m - 2 * 64 * m + 64 * 64 := by grind
  omega
theorem grows2 : Grows 1089 270336 := by
  have hT : ∀ k, Gr 1089 270336 (fT k) := fun k a b => by
    obtain ⟨m, h0, h1, h2⟩ := turn_grows a b k
    have h3 := room2 h1
    show 1024 * ((turnL a b k).1 * (turnL a b k).1 + (turnL a b k).2 * (turnL a b k).2) ≤ _
    omega
  have hB : ∀ k, Gr 1089 270336 (fB k) := fun k a b => by
    obtain ⟨m, h0, h1, h2⟩ := back_grows a b k
    have h3 := room2 h1
    show 1024 * ((backL a b k).1 * (backL a b k).1 + (backL a b k).2 * (backL a b k).2) ≤ _
    omega
  refine ⟨hT, hB, fun a b => ?_, fun a b => ?_⟩
  · have h : 1024 * ((turnL a b 64).1 * (turnL a b 64).1 + (turnL a b 64).2 * (turnL a b 64).2) ≤ 1089 * (a * a + b * b) + 270336 := hT 64 a b
    show 1024 * ((turnL a b 64).2 * (turnL a b 64).2 + (turnL a b 64).1 * (turnL a b 64).1) ≤ _
    omega
  · have h : 1024 * ((backL b a 64).1 * (backL b a 64).1 + (backL b a 64).2 * (backL b a 64).2) ≤ 1089 * (b * b + a * a) + 270336 := hB 64 b a
    show 1024 * ((backL b a 64).1 * (backL b a 64).1 + (backL b a 64).2 * (backL b a 64).2) ≤ _
    omega

theorem T_step {A C : Int} {f : Int → Int → Int × Int} (hf : Gr A C f) {p q : Nat} {zs : List Int} (hl : zs.length = 32) (hp : p < 32) (hq : q < 32) (hpq : p ≠ q) :
    1024 * T (op2 f p q zs) ≤ 1024 * T zs + (A * (sq zs p + sq zs q) + C) - 1024 * (sq zs p + sq zs q) := by
  have h := hf (zs.getD p 0) (zs.getD q 0)
  rw [T_op2 hl hp hq hpq]
  unfold sq
  omega

/-- a bound on the squares' sum after n turns -/
def bnd : Nat → Int
  | 0 => 147573952589676412928
  | n + 1 => bnd n + bnd n / 64 + 3000
theorem bnd_pos : ∀ n, 0 ≤ bnd n
  | 0 => by decide
  | n + 1 => by have := bnd_pos n; rw [bnd]; omega
theorem bnd_mono {m n : Nat} (h : m ≤ n) : bnd m ≤ bnd n := by
  induction n with
  | zero => have : m = 0 := by omega
            subst this; exact Int.le_refl _
  | succ n ih =>
    by_cases e : m = n + 1
    · subst e; exact Int.le_refl _
    · have := ih (by omega)
      have := bnd_pos n
      rw [bnd]; omega
theorem bnd_200 : bnd 200 ≤ 75557863725914323419136 := by decide +kernel
def TB (n : Nat) (zs : List Int) : Prop := zs.length = 32 ∧ T zs ≤ bnd n
theorem tb_mono {m n : Nat} {zs : List Int} (h : TB m zs) (hmn : m ≤ n) : TB n zs := ⟨h.1, Int.le_trans h.2 (bnd_mono hmn)⟩
theorem tb_op2 {f : Int → Int → Int × Int} (hf : Gr 1033 2105344 f) {n p q : Nat} {zs : List Int} (h : TB n zs) (hp : p < 32) (hq : q < 32) (hpq : p ≠ q) : TB (n + 1) (op2 f p q zs) := by
  have h1 := T_step hf h.1 hp hq hpq
  have h2 := sq2_le h.1 hp hq hpq
  have h3 := h.2
  have h4 := bnd_pos n
  refine ⟨(op2_len _ _ _ _).trans h.1, ?_⟩
  rw [bnd]
  omega
theorem tb_fit {n : Nat} {zs : List Int} (h : TB n zs) (hn : n ≤ 200) : Fit zs := by
  intro z hz
  obtain ⟨i, hi, rfl⟩ := List.mem_iff_getElem.1 hz
  have h1 := sq_le h.1 (p := i) (by have := h.1; omega)
  have h2 := h.2
  have h3 := bnd_mono hn
  have h4 := bnd_200
  have e : sq zs i = zs[i] * zs[i] := by unfold sq; rw [List.getD_eq_getElem?_getD, List.getElem?_eq_getElem hi]; rfl
  rw [e] at h1
  generalize zs[i] = z at *
  have key : z * z ≤ 75557863725914323419136 := by omega
  constructor
  · apply Classical.byContradiction
    intro hc
    have h5 : (274877906945 : Int) * 274877906945 ≤ (-z) * (-z) := Int.mul_le_mul (by omega) (by omega) (by omega) (by omega)
    rw [Int.neg_mul_neg] at h5
    omega
  · apply Classical.byContradiction
    intro hc
    have h5 : (274877906945 : Int) * 274877906945 ≤ z * z := Int.mul_le_mul (by omega) (by omega) (by omega) (by omega)
    omega
theorem tb_turn {n i : Nat} {k : Int} {zs : List Int} (h : TB n zs) (hi : i < 16) : TB (n + 1) (wTurn i k zs) := tb_op2 (grows1.1 k) h (by omega) (by omega) (by omega)
theorem tb_back {n i : Nat} {k : Int} {zs : List Int} (h : TB n zs) (hi : i < 16) : TB (n + 1) (wBack i k zs) := tb_op2 (grows1.2.1 k) h (by omega) (by omega) (by omega)
theorem tb_ahead {n i j : Nat} {k : Int} {zs : List Int} (h : TB n zs) (hi : i < 16) (hj : j < 16) (hij : i ≠ j) : TB (n + 3) (wAhead i j k zs) :=
  tb_op2 (grows1.1 k) (tb_op2 grows1.2.2.1 (tb_op2 grows1.2.2.1 h (by omega) (by omega) (by omega)) (by omega) (by omega) (by omega)) (by omega) (by omega) (by omega)
theorem tb_behind {n i j : Nat} {k : Int} {zs : List Int} (h : TB n zs) (hi : i < 16) (hj : j < 16) (hij : i ≠ j) : TB (n + 3) (wBehind i j k zs) :=
  tb_op2 grows1.2.2.2 (tb_op2 grows1.2.2.2 (tb_op2 (grows1.2.1 k) h (by omega) (by omega) (by omega)) (by omega) (by omega) (by omega)) (by omega) (by omega) (by omega)

/-- a step of three turns -/
def Three (F : Step) : Prop := ∀ n i j k zs, TB n zs → i < 16 → j < 16 → i ≠ j → TB (n + 3) (F i j k zs)
theorem tb_in {F : Step} (hF : Three F) {c s p : Nat} {zs : List Int} (h : TB c zs) : ∀ m, (∀ x, x < m → p + x < 16 ∧ p + x + s / 2 < 16 ∧ 0 < s / 2) → TB (c + 3 * m) (stageIn F s p m zs)
  | 0, _ => h
  | m + 1, hb => by
    have h1 := hb m (by omega)
    exact tb_mono (hF _ _ _ _ _ (tb_in hF h m (fun x hx => hb x (by omega))) h1.1 h1.2.1 (by omega)) (by omega)
theorem tb_to {F : Step} (hF : Three F) {c s n : Nat} {zs : List Int} (h : TB c zs) (hb : ∀ t x, t < n → x < s / 2 → t * s + x < 16 ∧ t * s + x + s / 2 < 16 ∧ 0 < s / 2) : ∀ t, t ≤ n → TB (c + 3 * (t * (s / 2))) (stageTo F s t zs)
  | 0, _ => by rw [Nat.zero_mul]; exact h
  | t + 1, ht => by
    have h1 := tb_to hF h hb t (by omega)
    have h2 := tb_in hF (s := s) (p := t * s) h1 (s / 2) (fun x hx => hb t x (by omega) hx)
    rw [stageTo]
    exact tb_mono h2 (by have := Nat.add_mul t 1 (s / 2); omega)
theorem tb_stage {F : Step} (hF : Three F) {c s n : Nat} {zs : List Int} (h : TB c zs) (hb : ∀ t x, t < n → x < s / 2 → t * s + x < 16 ∧ t * s + x + s / 2 < 16 ∧ 0 < s / 2) (h8 : n * (s / 2) = 8) (hc : c ≤ 150) :
    StageFit F s n zs ∧ TB (c + 24) (stageTo F s n zs) := by
  refine ⟨fun t m ht hm => ?_, ?_⟩
  · have h1 := tb_in hF (s := s) (p := t * s) (tb_to hF h hb t (by omega)) m (fun x hx => hb t x ht (by omega))
    have h2 : (t + 1) * (s / 2) ≤ n * (s / 2) := Nat.mul_le_mul_right _ (by omega)
    have h3 := Nat.add_mul t 1 (s / 2)
    exact tb_fit h1 (by omega)
  · exact tb_mono (tb_to hF h hb n (by omega)) (by omega)

theorem sumN_le_const {f : Nat → Int} {c : Int} (h : ∀ i, f i ≤ c) (n : Nat) : sumN f n ≤ n * c := by
  induction n with
  | zero => simp [sumN]
  | succ n ih => have := h n; rw [sumN, show ((n + 1 : Nat) : Int) * c = n * c + c by rw [Int.natCast_add]; grind]; omega
theorem tb_start {zs : List Int} (hl : zs.length = 32) (h : AllIn 1610612738 zs) : TB 0 zs := by
  refine ⟨hl, ?_⟩
  have h1 : ∀ i, sq zs i ≤ 2594073391807856644 := by
    intro i
    have hz := allIn_get h i
    unfold sq
    generalize zs.getD i 0 = z at *
    rcases Int.le_total 0 z with h0 | h0
    · exact Int.le_trans (Int.mul_le_mul hz.2 hz.2 h0 (by omega)) (by decide)
    · have := Int.mul_le_mul (a := -z) (b := -z) (c := 1610612738) (d := 1610612738) (by omega) (by omega) (by omega) (by omega)
      rw [Int.neg_mul_neg] at this
      exact Int.le_trans this (by decide)
  have h2 := sumN_le_const h1 32
  unfold T
  rw [bnd]
  omega

theorem inTo_in {zs : List Int} (h : AllIn 1073741824 zs) : ∀ n, AllIn 1610612738 (inTo zs n)
  | 0 => by intro z hz; have : z = 0 := by simpa [inTo] using hz
            omega
  | n + 1 => by
    have h1 := allIn_get h (2 * n)
    have h2 := allIn_get h (31 - 2 * n)
    have h3 := turnL_in (a := zs.getD (2 * n) 0) (b := zs.getD (31 - 2 * n) 0) (k := edgeN n) (c := 1073741824) (by omega) h1.1 h1.2 h2.1 h2.2
    exact allIn_set (allIn_set (inTo_in h n) _ (by omega) (by omega)) _ (by omega) (by omega)
theorem binTo_in {zs : List Int} (h : AllIn 1073741824 zs) : ∀ n, AllIn 1610612738 (binTo zs n)
  | 0 => by intro z hz; have : z = 0 := by simpa [binTo] using hz
            omega
  | n + 1 => by
    have h1 := allIn_get h (2 * n)
    have h2 := allIn_get h (31 - 2 * n)
    have h3 := backL_in (a := zs.getD (2 * n) 0) (b := -zs.getD (31 - 2 * n) 0) (k := edgeN n) (c := 1073741824) (by omega) h1.1 h1.2 (by omega) (by omega)
    exact allIn_set (allIn_set (binTo_in h n) _ (by omega) (by omega)) _ (by omega) (by omega)
theorem tb_turnTo {c : Nat} {st : List Int} (h : TB c st) : ∀ n, TB (c + n) (turnTo st n)
  | 0 => h
  | n + 1 => tb_turn (tb_turnTo h n) (flip_lt n)
theorem tb_backTo {c : Nat} {st : List Int} (h : TB c st) : ∀ n, n ≤ 16 → TB (c + n) (backTo st n)
  | 0, _ => h
  | n + 1, hn => tb_back (tb_backTo h n (by omega)) (by omega)

theorem waves_fit {zs : List Int} (h : AllIn 1073741824 zs) : WavesFit zs := by
  have h0 : ∀ n, TB 0 (inTo zs n) := fun n => tb_start (inTo_len zs n) (inTo_in h n)
  have hF : Three wAhead := fun _ _ _ _ _ a b c d => tb_ahead a b c d
  have s1 := tb_stage hF (s := 16) (n := 1) (h0 16) (fun t x _ _ => by omega) (by omega) (by omega)
  have s2 := tb_stage hF (s := 8) (n := 2) s1.2 (fun t x _ _ => by omega) (by omega) (by omega)
  have s3 := tb_stage hF (s := 4) (n := 4) s2.2 (fun t x _ _ => by omega) (by omega) (by omega)
  have s4 := tb_stage hF (s := 2) (n := 8) s3.2 (fun t x _ _ => by omega) (by omega) (by omega)
  exact ⟨fun n _ => tb_fit (h0 n) (by omega), s1.1, s2.1, s3.1, s4.1, fun n hn => tb_fit (tb_turnTo s4.2 n) (by omega)⟩
theorem back_fit {zs : List Int} (h : AllIn 1073741824 zs) : BackFit zs := by
  have h0 : ∀ n, TB 0 (binTo zs n) := fun n => tb_start (binTo_len zs n) (binTo_in h n)
  have hF : Three wBehind := fun _ _ _ _ _ a b c d => tb_behind a b c d
  have s1 := tb_stage hF (s := 2) (n := 8) (h0 16) (fun t x _ _ => by omega) (by omega) (by omega)
  have s2 := tb_stage hF (s := 4) (n := 4) s1.2 (fun t x _ _ => by omega) (by omega) (by omega)
  have s3 := tb_stage hF (s := 8) (n := 2) s2.2 (fun t x _ _ => by omega) (by omega) (by omega)
  have s4 := tb_stage hF (s := 16) (n := 1) s3.2 (fun t x _ _ => by omega) (by omega) (by omega)
  exact ⟨fun n _ => tb_fit (h0 n) (by omega), s1.1, s2.1, s3.1, s4.1, fun n hn => tb_fit (tb_backTo s4.2 n hn) (by omega)⟩
end Go.Proofs.Ytlfiaaoegeodnaa
