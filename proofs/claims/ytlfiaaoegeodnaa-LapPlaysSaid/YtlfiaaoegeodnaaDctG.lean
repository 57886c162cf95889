/- Plain laws of dct: how the squares' sum of a frame turns into that of its waves, and back. No Go in it. -/
import Derived.Test.YtlfiaaoegeodnaaDctZ
namespace Go.Proofs.Ytlfiaaoegeodnaa

def S4 (zs : List Int) (i j : Nat) : Int := sq zs (i * 2) + sq zs (i * 2 + 1) + sq zs (j * 2) + sq zs (j * 2 + 1)
def sumS4 (zs : List Int) : List (Nat × Nat × Int) → Int
  | [] => 0
  | t :: L => S4 zs t.1 t.2.1 + sumS4 zs L
theorem sumS4_congr {xs ys : List Int} : ∀ L : List (Nat × Nat × Int), (∀ t ∈ L, S4 xs t.1 t.2.1 = S4 ys t.1 t.2.1) → sumS4 xs L = sumS4 ys L
  | [], _ => rfl
  | t :: L, h => by rw [sumS4, sumS4, h t (by simp), sumS4_congr L (fun s hs => h s (by simp [hs]))]
/-- a step grows no more than so, and turns its own points alone -/
def StepGr (K C : Int) (F : Step) : Prop := ∀ i j k zs, zs.length = 32 → i < 16 → j < 16 → i ≠ j → 1048576 * T (F i j k zs) ≤ 1048576 * T zs + K * S4 zs i j + C
def Alone (F : Step) : Prop := ∀ i j k zs x, x ≠ i → x ≠ j → sq (F i j k zs) (x * 2) = sq zs (x * 2) ∧ sq (F i j k zs) (x * 2 + 1) = sq zs (x * 2 + 1)
theorem near_ahead : Alone wAhead := fun i j k zs x h1 h2 => by
  rw [wAhead_op, sq_op2_ne (by omega) (by omega), sq_op2_ne (by omega) (by omega), sq_op2_ne (by omega) (by omega), sq_op2_ne (by omega) (by omega), sq_op2_ne (by omega) (by omega), sq_op2_ne (by omega) (by omega)]
  simp only [and_self]
theorem near_behind : Alone wBehind := fun i j k zs x h1 h2 => by
  rw [wBehind_op, sq_op2_ne (by omega) (by omega), sq_op2_ne (by omega) (by omega), sq_op2_ne (by omega) (by omega), sq_op2_ne (by omega) (by omega), sq_op2_ne (by omega) (by omega), sq_op2_ne (by omega) (by omega)]
  simp only [and_self]
theorem steps_T {F : Step} {K C : Int} (hF : ∀ i j k zs, (F i j k zs).length = zs.length) (hs : StepGr K C F) (hn : Alone F) : ∀ (L : List (Nat × Nat × Int)) (zs : List Int), zs.length = 32 → Apart L →
    1048576 * T (steps F L zs) ≤ 1048576 * T zs + K * sumS4 zs L + L.length * C
  | [], zs, _, _ => by simp [steps, sumS4]
  | t :: L, zs, hl, h => by
    have ht := h.2 t (by simp)
    have hp := List.pairwise_cons.1 h.1
    have h1 := hs t.1 t.2.1 t.2.2 zs hl ht.1 ht.2.1 ht.2.2
    have h2 := steps_T hF hs hn L (F t.1 t.2.1 t.2.2 zs) ((hF _ _ _ _).trans hl) ⟨hp.2, fun s hm => h.2 s (by simp [hm])⟩
    have h3 : sumS4 (F t.1 t.2.1 t.2.2 zs) L = sumS4 zs L := sumS4_congr L (fun s hm => by
      have hq := hp.1 s hm
      have n1 := hn t.1 t.2.1 t.2.2 zs s.1 (Ne.symm hq.1) (Ne.symm hq.2.2.1)
      have n2 := hn t.1 t.2.1 t.2.2 zs s.2.1 (Ne.symm hq.2.1) (Ne.symm hq.2.2.2)
      unfold S4
      rw [n1.1, n1.2, n2.1, n2.2])
    rw [h3] at h2
    have e1 : K * sumS4 zs (t :: L) = K * S4 zs t.1 t.2.1 + K * sumS4 zs L := by rw [sumS4, Int.mul_add]
    have e2 : ((t :: L).length : Int) * C = C + L.length * C := by rw [List.length_cons, Int.natCast_add, Int.add_mul]; omega
    show 1048576 * T (steps F L (F t.1 t.2.1 t.2.2 zs)) ≤ _
    omega
theorem sum_pairs16 (zs : List Int) : sumS4 zs pairs16 = T zs := by simp only [pairs16, sumS4, S4, T, sumN, Nat.reduceMul, Nat.reduceAdd]; omega
theorem sum_pairs8 (zs : List Int) : sumS4 zs pairs8 = T zs := by simp only [pairs8, sumS4, S4, T, sumN, Nat.reduceMul, Nat.reduceAdd]; omega
theorem sum_pairs4 (zs : List Int) : sumS4 zs pairs4 = T zs := by simp only [pairs4, sumS4, S4, T, sumN, Nat.reduceMul, Nat.reduceAdd]; omega
theorem sum_pairs2 (zs : List Int) : sumS4 zs pairs2 = T zs := by simp only [pairs2, sumS4, S4, T, sumN, Nat.reduceMul, Nat.reduceAdd]; omega

theorem sumN_le {f g : Nat → Int} {A C : Int} {n : Nat} (h : ∀ m, m < n → 1024 * f m ≤ A * g m + C) : ∀ k, k ≤ n → 1024 * sumN f k ≤ A * sumN g k + k * C
  | 0, _ => by simp [sumN]
  | k + 1, hk => by
    have h1 := sumN_le h k (by omega)
    have h2 := h k (by omega)
    rw [sumN, sumN, Int.mul_add A, show ((k + 1 : Nat) : Int) * C = k * C + C by rw [Int.natCast_add, Int.add_mul]; omega]
    omega
theorem T_points (zs : List Int) : sumN (fun m => sq zs (m * 2) + sq zs (m * 2 + 1)) 16 = T zs := by simp only [T, sumN, Nat.reduceMul, Nat.reduceAdd]; omega
theorem T_flips (zs : List Int) : sumN (fun m => sq zs (flipN m * 2) + sq zs (flipN m * 2 + 1)) 16 = T zs := by simp only [T, sumN, flipN, Nat.reduceMul, Nat.reduceAdd, Nat.reduceMod, Nat.reduceDiv]; omega
theorem T_ends (zs : List Int) : sumN (fun m => sq zs (2 * m) + sq zs (31 - 2 * m)) 16 = T zs := by simp only [T, sumN, Nat.reduceMul, Nat.reduceSub]; omega
theorem sumN_congr {f g : Nat → Int} {n : Nat} (h : ∀ m, m < n → f m = g m) : sumN f n = sumN g n := by
  induction n with
  | zero => rfl
  | succ n ih => rw [sumN, sumN, ih (fun m hm => h m (by omega)), h n (by omega)]

theorem in_T {A C : Int} (hg : Grows A C) (zs : List Int) : 1024 * T (inTo zs 16) ≤ A * T zs + 16 * C := by
  rw [← T_points, ← T_ends zs]
  refine sumN_le (n := 16) (fun m hm => ?_) 16 (by omega)
  have h1 := inTo_at zs 16 (by omega) m hm
  have h2 := hg.1 (edgeN m) (zs.getD (2 * m) 0) (zs.getD (31 - 2 * m) 0)
  unfold sq
  rw [h1.1, h1.2]
  exact h2
theorem bin_T {A C : Int} (hg : Grows A C) (zs : List Int) : 1024 * T (binTo zs 16) ≤ A * T zs + 16 * C := by
  rw [← T_flips, ← T_ends zs]
  refine sumN_le (n := 16) (fun m hm => ?_) 16 (by omega)
  have h1 := binTo_at zs 16 (by omega) m hm
  have h2 := hg.2.1 (edgeN m) (zs.getD (2 * m) 0) (-zs.getD (31 - 2 * m) 0)
  unfold sq
  rw [h1.1, h1.2]
  rw [Int.neg_mul_neg] at h2
  exact h2
theorem out_T {A C : Int} (hg : Grows A C) {st zs : List Int} (hl : st.length = 32) (hz : zs.length = 32) : 1024 * T (outTo st zs 16) ≤ A * T st + 16 * C := by
  rw [← T_ends (outTo st zs 16), ← T_flips st]
  refine sumN_le (n := 16) (fun m hm => ?_) 16 (by omega)
  have h1 := outTo_at st zs hl hz 16 (by omega) m hm
  have h2 := hg.1 (edgeN m) (st.getD (flipN m * 2) 0) (st.getD (flipN m * 2 + 1) 0)
  unfold sq
  rw [h1.1, h1.2, Int.neg_mul_neg]
  exact h2
theorem bout_T {A C : Int} (hg : Grows A C) {st zs : List Int} (hl : st.length = 32) (hz : zs.length = 32) : 1024 * T (boutTo st zs 16) ≤ A * T st + 16 * C := by
  rw [← T_ends (boutTo st zs 16), ← T_points st]
  refine sumN_le (n := 16) (fun m hm => ?_) 16 (by omega)
  have h1 := boutTo_at st zs hl hz 16 (by omega) m hm
  have h2 := hg.2.1 (edgeN m) (st.getD (m * 2) 0) (st.getD (m * 2 + 1) 0)
  unfold sq
  rw [h1.1, h1.2]
  exact h2

theorem ahead_gr1 : StepGr 18513 6505512960 wAhead := fun i j k zs hl hi hj hij => by
  have g := grows1
  have l1 := (op2_len fC (i * 2) (j * 2) zs).trans hl
  have l2 := (op2_len fC (i * 2 + 1) (j * 2 + 1) (op2 fC (i * 2) (j * 2) zs)).trans l1
  have s1 := T_step g.2.2.1 (p := i * 2) (q := j * 2) hl (by omega) (by omega) (by omega)
  have s2 := T_step g.2.2.1 (p := i * 2 + 1) (q := j * 2 + 1) l1 (by omega) (by omega) (by omega)
  have s3 := T_step (g.1 k) (p := j * 2) (q := j * 2 + 1) l2 (by omega) (by omega) (by omega)
  have p1 := sq_op2 (f := fC) (p := i * 2) (q := j * 2) (zs := zs) (by omega) (by omega) (by omega)
  have p2 := sq_op2 (f := fC) (p := i * 2 + 1) (q := j * 2 + 1) (zs := op2 fC (i * 2) (j * 2) zs) (by omega) (by omega) (by omega)
  have e1 := sq_op2_ne (f := fC) (p := i * 2) (q := j * 2) (x := i * 2 + 1) (zs := zs) (by omega) (by omega)
  have e2 := sq_op2_ne (f := fC) (p := i * 2) (q := j * 2) (x := j * 2 + 1) (zs := zs) (by omega) (by omega)
  have e3 := sq_op2_ne (f := fC) (p := i * 2 + 1) (q := j * 2 + 1) (x := j * 2) (zs := op2 fC (i * 2) (j * 2) zs) (by omega) (by omega)
  have g1 := g.2.2.1 (zs.getD (i * 2) 0) (zs.getD (j * 2) 0)
  have g2 := g.2.2.1 ((op2 fC (i * 2) (j * 2) zs).getD (i * 2 + 1) 0) ((op2 fC (i * 2) (j * 2) zs).getD (j * 2 + 1) 0)
  have n1 := sqz_nonneg (op2 fC (i * 2) (j * 2) zs) (i * 2)
  have n2 := sqz_nonneg (op2 fC (i * 2 + 1) (j * 2 + 1) (op2 fC (i * 2) (j * 2) zs)) (i * 2 + 1)
  rw [← p1.1, ← p1.2] at g1
  rw [← p2.1, ← p2.2] at g2
  rw [show ∀ i j, zs.getD i 0 * zs.getD i 0 + zs.getD j 0 * zs.getD j 0 = sq zs i + sq zs j from fun _ _ => rfl] at g1
  rw [show ∀ i j, (op2 fC i j zs).getD (i + 1) 0 * (op2 fC i j zs).getD (i + 1) 0 + (op2 fC i j zs).getD (j + 1) 0 * (op2 fC i j zs).getD (j + 1) 0 = sq (op2 fC i j zs) (i + 1) + sq (op2 fC i j zs) (j + 1) from fun _ _ => rfl] at g2
  unfold S4
  rw [wAhead_op]
  rw [e1, e2] at s2 g2
  rw [e3] at s3
  clear p1 p2 e1 e2 e3 l1 l2 g
  omega
theorem behind_gr1 : StepGr 18513 6505512960 wBehind := fun i j k zs hl hi hj hij => by
  have g := grows1
  have l1 := (op2_len (fB k) (j * 2) (j * 2 + 1) zs).trans hl
  have l2 := (op2_len fU (i * 2) (j * 2) (op2 (fB k) (j * 2) (j * 2 + 1) zs)).trans l1
  have s1 := T_step (g.2.1 k) (p := j * 2) (q := j * 2 + 1) hl (by omega) (by omega) (by omega)
  have s2 := T_step g.2.2.2 (p := i * 2) (q := j * 2) l1 (by omega) (by omega) (by omega)
  have s3 := T_step g.2.2.2 (p := i * 2 + 1) (q := j * 2 + 1) l2 (by omega) (by omega) (by omega)
  have p1 := sq_op2 (f := fB k) (p := j * 2) (q := j * 2 + 1) (zs := zs) (by omega) (by omega) (by omega)
  have e1 := sq_op2_ne (f := fB k) (p := j * 2) (q := j * 2 + 1) (x := i * 2) (zs := zs) (by omega) (by omega)
  have e2 := sq_op2_ne (f := fB k) (p := j * 2) (q := j * 2 + 1) (x := i * 2 + 1) (zs := zs) (by omega) (by omega)
  have e3 := sq_op2_ne (f := fU) (p := i * 2) (q := j * 2) (x := i * 2 + 1) (zs := op2 (fB k) (j * 2) (j * 2 + 1) zs) (by omega) (by omega)
  have e4 := sq_op2_ne (f := fU) (p := i * 2) (q := j * 2) (x := j * 2 + 1) (zs := op2 (fB k) (j * 2) (j * 2 + 1) zs) (by omega) (by omega)
  have g1 := g.2.1 k (zs.getD (j * 2) 0) (zs.getD (j * 2 + 1) 0)
  rw [← p1.1, ← p1.2] at g1
  rw [show ∀ i j, zs.getD i 0 * zs.getD i 0 + zs.getD j 0 * zs.getD j 0 = sq zs i + sq zs j from fun _ _ => rfl] at g1
  have n1 := sqz_nonneg zs (j * 2)
  have n2 := sqz_nonneg zs (j * 2 + 1)
  have n3 := sqz_nonneg zs (i * 2)
  have n4 := sqz_nonneg zs (i * 2 + 1)
  unfold S4
  rw [wBehind_op]
  rw [e3, e4, e2] at s3
  rw [e1] at s2
  clear p1 e1 e2 e3 e4 l1 l2 g
  omega
theorem waves_T1 {zs : List Int} (hl : zs.length = 32) : ∃ t1 t2 t3 t4 t5 : Int, 1024 * t1 ≤ 1033 * T zs + 16 * 2105344 ∧ 1048576 * t2 ≤ 1067089 * t1 + 8 * 6505512960 ∧ 1048576 * t3 ≤ 1067089 * t2 + 8 * 6505512960 ∧ 1048576 * t4 ≤ 1067089 * t3 + 8 * 6505512960 ∧ 1048576 * t5 ≤ 1067089 * t4 + 8 * 6505512960 ∧ 1024 * T (wavesL zs) ≤ 1033 * t5 + 16 * 2105344 := by
  have l0 := inTo_len zs 16
  have l1 := (stageTo_len wAhead_len 16 1 (inTo zs 16)).trans l0
  have l2 := (stageTo_len wAhead_len 8 2 (stageTo wAhead 16 1 (inTo zs 16))).trans l1
  have l3 := (stageTo_len wAhead_len 4 4 (stageTo wAhead 8 2 (stageTo wAhead 16 1 (inTo zs 16)))).trans l2
  have s1 := steps_T wAhead_len ahead_gr1 near_ahead pairs16 _ l0 apart16
  have s2 := steps_T wAhead_len ahead_gr1 near_ahead pairs8 _ l1 apart8
  have s3 := steps_T wAhead_len ahead_gr1 near_ahead pairs4 _ l2 apart4
  have s4 := steps_T wAhead_len ahead_gr1 near_ahead pairs2 _ l3 apart2
  rw [sum_pairs16, ← stage_list16, show pairs16.length = 8 from rfl] at s1
  rw [sum_pairs8, ← stage_list8, show pairs8.length = 8 from rfl] at s2
  rw [sum_pairs4, ← stage_list4, show pairs4.length = 8 from rfl] at s3
  rw [sum_pairs2, ← stage_list2, show pairs2.length = 8 from rfl] at s4
  refine ⟨T (inTo zs 16), T (stageTo wAhead 16 1 (inTo zs 16)), T (stageTo wAhead 8 2 (stageTo wAhead 16 1 (inTo zs 16))), T (stageTo wAhead 4 4 (stageTo wAhead 8 2 (stageTo wAhead 16 1 (inTo zs 16)))), T (stageTo wAhead 2 8 (stageTo wAhead 4 4 (stageTo wAhead 8 2 (stageTo wAhead 16 1 (inTo zs 16))))), in_T grows1 zs, ?_, ?_, ?_, ?_, out_T grows1 ((mid4_len _).trans l0) hl⟩
  · exact Int.le_trans s1 (by omega)
  · exact Int.le_trans s2 (by omega)
  · exact Int.le_trans s3 (by omega)
  · exact Int.le_trans s4 (by omega)
theorem back_T1 {zs : List Int} (hl : zs.length = 32) : ∃ t1 t2 t3 t4 t5 : Int, 1024 * t1 ≤ 1033 * T zs + 16 * 2105344 ∧ 1048576 * t2 ≤ 1067089 * t1 + 8 * 6505512960 ∧ 1048576 * t3 ≤ 1067089 * t2 + 8 * 6505512960 ∧ 1048576 * t4 ≤ 1067089 * t3 + 8 * 6505512960 ∧ 1048576 * t5 ≤ 1067089 * t4 + 8 * 6505512960 ∧ 1024 * T (dbackL zs) ≤ 1033 * t5 + 16 * 2105344 := by
  have l0 := binTo_len zs 16
  have l1 := (stageTo_len wBehind_len 2 8 (binTo zs 16)).trans l0
  have l2 := (stageTo_len wBehind_len 4 4 (stageTo wBehind 2 8 (binTo zs 16))).trans l1
  have l3 := (stageTo_len wBehind_len 8 2 (stageTo wBehind 4 4 (stageTo wBehind 2 8 (binTo zs 16)))).trans l2
  have s1 := steps_T wBehind_len behind_gr1 near_behind pairs2 _ l0 apart2
  have s2 := steps_T wBehind_len behind_gr1 near_behind pairs4 _ l1 apart4
  have s3 := steps_T wBehind_len behind_gr1 near_behind pairs8 _ l2 apart8
  have s4 := steps_T wBehind_len behind_gr1 near_behind pairs16 _ l3 apart16
  rw [sum_pairs2, ← stage_list2, show pairs2.length = 8 from rfl] at s1
  rw [sum_pairs4, ← stage_list4, show pairs4.length = 8 from rfl] at s2
  rw [sum_pairs8, ← stage_list8, show pairs8.length = 8 from rfl] at s3
  rw [sum_pairs16, ← stage_list16, show pairs16.length = 8 from rfl] at s4
  refine ⟨T (binTo zs 16), T (stageTo wBehind 2 8 (binTo zs 16)), T (stageTo wBehind 4 4 (stageTo wBehind 2 8 (binTo zs 16))), T (stageTo wBehind 8 2 (stageTo wBehind 4 4 (stageTo wBehind 2 8 (binTo zs 16)))), T (stageTo wBehind 16 1 (stageTo wBehind 8 2 (stageTo wBehind 4 4 (stageTo wBehind 2 8 (binTo zs 16))))), bin_T grows1 zs, ?_, ?_, ?_, ?_, bout_T grows1 ((bmid4_len _).trans l0) hl⟩
  · exact Int.le_trans s1 (by omega)
  · exact Int.le_trans s2 (by omega)
  · exact Int.le_trans s3 (by omega)
  · exact Int.le_trans s4 (by omega)

theorem ahead_gr2 : StepGr 137345 865615872 wAhead := fun i j k zs hl hi hj hij => by
  have g := grows2
  have l1 := (op2_len fC (i * 2) (j * 2) zs).trans hl
  have l2 := (op2_len fC (i * 2 + 1) (j * 2 + 1) (op2 fC (i * 2) (j * 2) zs)).trans l1
  have s1 := T_step g.2.2.1 (p := i * 2) (q := j * 2) hl (by omega) (by omega) (by omega)
  have s2 := T_step g.2.2.1 (p := i * 2 + 1) (q := j * 2 + 1) l1 (by omega) (by omega) (by omega)
  have s3 := T_step (g.1 k) (p := j * 2) (q := j * 2 + 1) l2 (by omega) (by omega) (by omega)
  have p1 := sq_op2 (f := fC) (p := i * 2) (q := j * 2) (zs := zs) (by omega) (by omega) (by omega)
  have p2 := sq_op2 (f := fC) (p := i * 2 + 1) (q := j * 2 + 1) (zs := op2 fC (i * 2) (j * 2) zs) (by omega) (by omega) (by omega)
  have e1 := sq_op2_ne (f := fC) (p := i * 2) (q := j * 2) (x := i * 2 + 1) (zs := zs) (by omega) (by omega)
  have e2 := sq_op2_ne (f := fC) (p := i * 2) (q := j * 2) (x := j * 2 + 1) (zs := zs) (by omega) (by omega)
  have e3 := sq_op2_ne (f := fC) (p := i * 2 + 1) (q := j * 2 + 1) (x := j * 2) (zs := op2 fC (i * 2) (j * 2) zs) (by omega) (by omega)
  have g1 := g.2.2.1 (zs.getD (i * 2) 0) (zs.getD (j * 2) 0)
  have g2 := g.2.2.1 ((op2 fC (i * 2) (j * 2) zs).getD (i * 2 + 1) 0) ((op2 fC (i * 2) (j * 2) zs).getD (j * 2 + 1) 0)
  have n1 := sqz_nonneg (op2 fC (i * 2) (j * 2) zs) (i * 2)
  have n2 := sqz_nonneg (op2 fC (i * 2 + 1) (j * 2 + 1) (op2 fC (i * 2) (j * 2) zs)) (i * 2 + 1)
  rw [← p1.1, ← p1.2] at g1
  rw [← p2.1, ← p2.2] at g2
  rw [show ∀ i j, zs.getD i 0 * zs.getD i 0 + zs.getD j 0 * zs.getD j 0 = sq zs i + sq zs j from fun _ _ => rfl] at g1
  rw [show ∀ i j, (op2 fC i j zs).getD (i + 1) 0 * (op2 fC i j zs).getD (i + 1) 0 + (op2 fC i j zs).getD (j + 1) 0 * (op2 fC i j zs).getD (j + 1) 0 = sq (op2 fC i j zs) (i + 1) + sq (op2 fC i j zs) (j + 1) from fun _ _ => rfl] at g2
  unfold S4
  rw [wAhead_op]
  rw [e1, e2] at s2 g2
  rw [e3] at s3
  clear p1 p2 e1 e2 e3 l1 l2 g
  omega
theorem behind_gr2 : StepGr 137345 865615872 wBehind := fun i j k zs hl hi hj hij => by
  have g := grows2
  have l1 := (op2_len (fB k) (j * 2) (j * 2 + 1) zs).trans hl
  have l2 := (op2_len fU (i * 2) (j * 2) (op2 (fB k) (j * 2) (j * 2 + 1) zs)).trans l1
  have s1 := T_step (g.2.1 k) (p := j * 2) (q := j * 2 + 1) hl (by omega) (by omega) (by omega)
  have s2 := T_step g.2.2.2 (p := i * 2) (q := j * 2) l1 (by omega) (by omega) (by omega)
  have s3 := T_step g.2.2.2 (p := i * 2 + 1) (q := j * 2 + 1) l2 (by omega) (by omega) (by omega)
  have p1 := sq_op2 (f := fB k) (p := j * 2) (q := j * 2 + 1) (zs := zs) (by omega) (by omega) (by omega)
  have e1 := sq_op2_ne (f := fB k) (p := j * 2) (q := j * 2 + 1) (x := i * 2) (zs := zs) (by omega) (by omega)
  have e2 := sq_op2_ne (f := fB k) (p := j * 2) (q := j * 2 + 1) (x := i * 2 + 1) (zs := zs) (by omega) (by omega)
  have e3 := sq_op2_ne (f := fU) (p := i * 2) (q := j * 2) (x := i * 2 + 1) (zs := op2 (fB k) (j * 2) (j * 2 + 1) zs) (by omega) (by omega)
  have e4 := sq_op2_ne (f := fU) (p := i * 2) (q := j * 2) (x := j * 2 + 1) (zs := op2 (fB k) (j * 2) (j * 2 + 1) zs) (by omega) (by omega)
  have g1 := g.2.1 k (zs.getD (j * 2) 0) (zs.getD (j * 2 + 1) 0)
  rw [← p1.1, ← p1.2] at g1
  rw [show ∀ i j, zs.getD i 0 * zs.getD i 0 + zs.getD j 0 * zs.getD j 0 = sq zs i + sq zs j from fun _ _ => rfl] at g1
  have n1 := sqz_nonneg zs (j * 2)
  have n2 := sqz_nonneg zs (j * 2 + 1)
  have n3 := sqz_nonneg zs (i * 2)
  have n4 := sqz_nonneg zs (i * 2 + 1)
  unfold S4
  rw [wBehind_op]
  rw [e3, e4, e2] at s3
  rw [e1] at s2
  clear p1 e1 e2 e3 e4 l1 l2 g
  omega
theorem waves_T2 {zs : List Int} (hl : zs.length = 32) : ∃ t1 t2 t3 t4 t5 : Int, 1024 * t1 ≤ 1089 * T zs + 16 * 270336 ∧ 1048576 * t2 ≤ 1185921 * t1 + 8 * 865615872 ∧ 1048576 * t3 ≤ 1185921 * t2 + 8 * 865615872 ∧ 1048576 * t4 ≤ 1185921 * t3 + 8 * 865615872 ∧ 1048576 * t5 ≤ 1185921 * t4 + 8 * 865615872 ∧ 1024 * T (wavesL zs) ≤ 1089 * t5 + 16 * 270336 := by
  have l0 := inTo_len zs 16
  have l1 := (stageTo_len wAhead_len 16 1 (inTo zs 16)).trans l0
  have l2 := (stageTo_len wAhead_len 8 2 (stageTo wAhead 16 1 (inTo zs 16))).trans l1
  have l3 := (stageTo_len wAhead_len 4 4 (stageTo wAhead 8 2 (stageTo wAhead 16 1 (inTo zs 16)))).trans l2
  have s1 := steps_T wAhead_len ahead_gr2 near_ahead pairs16 _ l0 apart16
  have s2 := steps_T wAhead_len ahead_gr2 near_ahead pairs8 _ l1 apart8
  have s3 := steps_T wAhead_len ahead_gr2 near_ahead pairs4 _ l2 apart4
  have s4 := steps_T wAhead_len ahead_gr2 near_ahead pairs2 _ l3 apart2
  rw [sum_pairs16, ← stage_list16, show pairs16.length = 8 from rfl] at s1
  rw [sum_pairs8, ← stage_list8, show pairs8.length = 8 from rfl] at s2
  rw [sum_pairs4, ← stage_list4, show pairs4.length = 8 from rfl] at s3
  rw [sum_pairs2, ← stage_list2, show pairs2.length = 8 from rfl] at s4
  refine ⟨T (inTo zs 16), T (stageTo wAhead 16 1 (inTo zs 16)), T (stageTo wAhead 8 2 (stageTo wAhead 16 1 (inTo zs 16))), T (stageTo wAhead 4 4 (stageTo wAhead 8 2 (stageTo wAhead 16 1 (inTo zs 16)))), T (stageTo wAhead 2 8 (stageTo wAhead 4 4 (stageTo wAhead 8 2 (stageTo wAhead 16 1 (inTo zs 16))))), in_T grows2 zs, ?_, ?_, ?_, ?_, out_T grows2 ((mid4_len _).trans l0) hl⟩
  · exact Int.le_trans s1 (by omega)
  · exact Int.le_trans s2 (by omega)
  · exact Int.le_trans s3 (by omega)
  · exact Int.le_trans s4 (by omega)
theorem back_T2 {zs : List Int} (hl : zs.length = 32) : ∃ t1 t2 t3 t4 t5 : Int, 1024 * t1 ≤ 1089 * T zs + 16 * 270336 ∧ 1048576 * t2 ≤ 1185921 * t1 + 8 * 865615872 ∧ 1048576 * t3 ≤ 1185921 * t2 + 8 * 865615872 ∧ 1048576 * t4 ≤ 1185921 * t3 + 8 * 865615872 ∧ 1048576 * t5 ≤ 1185921 * t4 + 8 * 865615872 ∧ 1024 * T (dbackL zs) ≤ 1089 * t5 + 16 * 270336 := by
  have l0 := binTo_len zs 16
  have l1 := (stageTo_len wBehind_len 2 8 (binTo zs 16)).trans l0
  have l2 := (stageTo_len wBehind_len 4 4 (stageTo wBehind 2 8 (binTo zs 16))).trans l1
  have l3 := (stageTo_len wBehind_len 8 2 (stageTo wBehind 4 4 (stageTo wBehind 2 8 (binTo zs 16)))).trans l2
  have s1 := steps_T wBehind_len behind_gr2 near_behind pairs2 _ l0 apart2
  have s2 := steps_T wBehind_len behind_gr2 near_behind pairs4 _ l1 apart4
  have s3 := steps_T wBehind_len behind_gr2 near_behind pairs8 _ l2 apart8
  have s4 := steps_T wBehind_len behind_gr2 near_behind pairs16 _ l3 apart16
  rw [sum_pairs2, ← stage_list2, show pairs2.length = 8 from rfl] at s1
  rw [sum_pairs4, ← stage_list4, show pairs4.length = 8 from rfl] at s2
  rw [sum_pairs8, ← stage_list8, show pairs8.length = 8 from rfl] at s3
  rw [sum_pairs16, ← stage_list16, show pairs16.length = 8 from rfl] at s4
  refine ⟨T (binTo zs 16), T (stageTo wBehind 2 8 (binTo zs 16)), T (stageTo wBehind 4 4 (stageTo wBehind 2 8 (binTo zs 16))), T (stageTo wBehind 8 2 (stageTo wBehind 4 4 (stageTo wBehind 2 8 (binTo zs 16)))), T (stageTo wBehind 16 1 (stageTo wBehind 8 2 (stageTo wBehind 4 4 (stageTo wBehind 2 8 (binTo zs 16))))), bin_T grows2 zs, ?_, ?_, ?_, ?_, bout_T grows2 ((bmid4_len _).trans l0) hl⟩
  · exact Int.le_trans s1 (by omega)
  · exact Int.le_trans s2 (by omega)
  · exact Int.le_trans s3 (by omega)
  · exact Int.le_trans s4 (by omega)

theorem waves_size {zs : List Int} (hl : zs.length = 32) : T (wavesL zs) ≤ T zs + T zs / 8 + 1000000 ∧ T zs ≤ T (wavesL zs) + T (wavesL zs) / 8 - T (wavesL zs) / 64 + 1000000 := by
  have n0 := T_nonneg zs
  have n1 := T_nonneg (wavesL zs)
  constructor
  · obtain ⟨t1, t2, t3, t4, t5, h1, h2, h3, h4, h5, h6⟩ := waves_T1 hl
    omega
  · obtain ⟨t1, t2, t3, t4, t5, h1, h2, h3, h4, h5, h6⟩ := back_T1 ((wavesL_len zs).trans hl)
    rw [back_waves hl] at h6
    omega
theorem waves_small {zs : List Int} (hl : zs.length = 32) : 100 * T (wavesL zs) ≤ 190 * T zs + 6500000 ∧ 100 * T (dbackL zs) ≤ 190 * T zs + 6500000 := by
  have n0 := T_nonneg zs
  constructor
  · obtain ⟨t1, t2, t3, t4, t5, h1, h2, h3, h4, h5, h6⟩ := waves_T2 hl
    omega
  · obtain ⟨t1, t2, t3, t4, t5, h1, h2, h3, h4, h5, h6⟩ := back_T2 hl
    omega
end Go.Proofs.Ytlfiaaoegeodnaa
