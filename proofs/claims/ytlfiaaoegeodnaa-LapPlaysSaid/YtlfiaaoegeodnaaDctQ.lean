/- Plain laws of the wheel: what undoes what. No Go in it. -/
import Derived.Test.YtlfiaaoegeodnaaDctP
namespace Go.Proofs.Ytlfiaaoegeodnaa

/-- two numbers turned together -/
def op2 (f : Int → Int → Int × Int) (p q : Nat) (zs : List Int) : List Int := (zs.set p (f (zs.getD p 0) (zs.getD q 0)).1).set q (f (zs.getD p 0) (zs.getD q 0)).2
theorem op2_len (f : Int → Int → Int × Int) (p q : Nat) (zs : List Int) : (op2 f p q zs).length = zs.length := by simp [op2]
theorem op2_fst {f : Int → Int → Int × Int} {p q : Nat} {zs : List Int} (hp : p < zs.length) (h : p ≠ q) : (op2 f p q zs).getD p 0 = (f (zs.getD p 0) (zs.getD q 0)).1 := by
  unfold op2; rw [getD_set_ne (Ne.symm h), getD_set_eq hp]
theorem op2_snd {f : Int → Int → Int × Int} {p q : Nat} {zs : List Int} (hq : q < zs.length) : (op2 f p q zs).getD q 0 = (f (zs.getD p 0) (zs.getD q 0)).2 := by
  unfold op2; rw [getD_set_eq (by simpa using hq)]
theorem op2_ne {f : Int → Int → Int × Int} {p q x : Nat} {zs : List Int} (h1 : x ≠ p) (h2 : x ≠ q) : (op2 f p q zs).getD x 0 = zs.getD x 0 := by
  unfold op2; rw [getD_set_ne (Ne.symm h2), getD_set_ne (Ne.symm h1)]

theorem getD_ext {xs ys : List Int} (hl : xs.length = ys.length) (h : ∀ i, i < xs.length → xs.getD i 0 = ys.getD i 0) : xs = ys := by
  apply List.ext_getElem hl
  intro i h1 h2
  have := h i h1
  simpa [List.getD_eq_getElem?_getD, h1, h2] using this

theorem op2_comm {f g : Int → Int → Int × Int} {p q r s : Nat} {zs : List Int} (hp : p < zs.length) (hq : q < zs.length) (hr : r < zs.length) (hs : s < zs.length)
    (hpq : p ≠ q) (hrs : r ≠ s) (h1 : p ≠ r) (h2 : p ≠ s) (h3 : q ≠ r) (h4 : q ≠ s) : op2 g r s (op2 f p q zs) = op2 f p q (op2 g r s zs) := by
  apply getD_ext (by simp [op2_len])
  intro i hi
  have hA := op2_len f p q zs
  have hB := op2_len g r s zs
  by_cases e1 : i = r
  · subst e1; rw [op2_fst (by omega) hrs, op2_ne (Ne.symm h1) (Ne.symm h3), op2_ne (Ne.symm h1) (Ne.symm h3), op2_ne (Ne.symm h2) (Ne.symm h4), op2_fst hr hrs]
  · by_cases e2 : i = s
    · subst e2; rw [op2_snd (by omega), op2_ne (Ne.symm h1) (Ne.symm h3), op2_ne (Ne.symm h2) (Ne.symm h4), op2_ne (Ne.symm h2) (Ne.symm h4), op2_snd hs]
    · rw [op2_ne e1 e2]
      by_cases e3 : i = p
      · subst e3; rw [op2_fst hp hpq, op2_fst (by omega) hpq, op2_ne h1 h2, op2_ne h3 h4]
      · by_cases e4 : i = q
        · subst e4; rw [op2_snd hq, op2_snd (by omega), op2_ne h1 h2, op2_ne h3 h4]
        · rw [op2_ne e3 e4, op2_ne e3 e4, op2_ne e1 e2]

theorem op2_inv {f g : Int → Int → Int × Int} {p q : Nat} {zs : List Int} (hp : p < zs.length) (hq : q < zs.length) (hpq : p ≠ q) (h : ∀ a b, g (f a b).1 (f a b).2 = (a, b)) : op2 g p q (op2 f p q zs) = zs := by
  apply getD_ext (by simp [op2_len])
  intro i _
  have hA := op2_len f p q zs
  by_cases e1 : i = p
  · subst e1; rw [op2_fst (by omega) hpq, op2_fst hp hpq, op2_snd hq, h]
  · by_cases e2 : i = q
    · subst e2; rw [op2_snd (by omega), op2_fst hp hpq, op2_snd hq, h]
    · rw [op2_ne e1 e2, op2_ne e1 e2]

def fT (k a b : Int) : Int × Int := turnL a b k
def fB (k a b : Int) : Int × Int := backL a b k
def fC (a b : Int) : Int × Int := ((turnL a b 64).2, (turnL a b 64).1)
def fU (a b : Int) : Int × Int := backL b a 64
theorem fTB (k a b : Int) : fB k (fT k a b).1 (fT k a b).2 = (a, b) := back_turn a b k
theorem fBT (k a b : Int) : fT k (fB k a b).1 (fB k a b).2 = (a, b) := turn_back a b k
theorem fCU (a b : Int) : fU (fC a b).1 (fC a b).2 = (a, b) := back_turn a b 64
theorem fUC (a b : Int) : fC (fU a b).1 (fU a b).2 = (a, b) := by
  have h := turn_back b a 64
  unfold fC fU
  rw [h]
theorem wTurn_op (i : Nat) (k : Int) (zs : List Int) : wTurn i k zs = op2 (fT k) (i * 2) (i * 2 + 1) zs := rfl
theorem wBack_op (i : Nat) (k : Int) (zs : List Int) : wBack i k zs = op2 (fB k) (i * 2) (i * 2 + 1) zs := rfl
theorem wCross_op (i j : Nat) (zs : List Int) : wCross i j zs = op2 fC (i * 2 + 1) (j * 2 + 1) (op2 fC (i * 2) (j * 2) zs) := rfl
theorem wUncross_op (i j : Nat) (zs : List Int) : wUncross i j zs = op2 fU (i * 2 + 1) (j * 2 + 1) (op2 fU (i * 2) (j * 2) zs) := rfl
theorem wAhead_op (i j : Nat) (k : Int) (zs : List Int) : wAhead i j k zs = op2 (fT k) (j * 2) (j * 2 + 1) (op2 fC (i * 2 + 1) (j * 2 + 1) (op2 fC (i * 2) (j * 2) zs)) := rfl
theorem wBehind_op (i j : Nat) (k : Int) (zs : List Int) : wBehind i j k zs = op2 fU (i * 2 + 1) (j * 2 + 1) (op2 fU (i * 2) (j * 2) (op2 (fB k) (j * 2) (j * 2 + 1) zs)) := rfl

theorem behind_ahead {i j : Nat} {k : Int} {zs : List Int} (hl : zs.length = 32) (hi : i < 16) (hj : j < 16) (hij : i ≠ j) : wBehind i j k (wAhead i j k zs) = zs := by
  rw [wBehind_op, wAhead_op, op2_inv (by simp [op2_len]; omega) (by simp [op2_len]; omega) (by omega) (fTB k)]
  rw [op2_comm (f := fC) (g := fU) (p := i * 2 + 1) (q := j * 2 + 1) (by simp [op2_len]; omega) (by simp [op2_len]; omega) (by simp [op2_len]; omega) (by simp [op2_len]; omega) (by omega) (by omega) (by omega) (by omega) (by omega) (by omega)]
  rw [op2_inv (f := fC) (g := fU) (p := i * 2) (q := j * 2) (by omega) (by omega) (by omega) fCU, op2_inv (by omega) (by omega) (by omega) fCU]
theorem ahead_behind {i j : Nat} {k : Int} {zs : List Int} (hl : zs.length = 32) (hi : i < 16) (hj : j < 16) (hij : i ≠ j) : wAhead i j k (wBehind i j k zs) = zs := by
  rw [wBehind_op, wAhead_op]
  rw [op2_comm (f := fU) (g := fC) (p := i * 2 + 1) (q := j * 2 + 1) (r := i * 2) (s := j * 2) (by simp [op2_len]; omega) (by simp [op2_len]; omega) (by simp [op2_len]; omega) (by simp [op2_len]; omega) (by omega) (by omega) (by omega) (by omega) (by omega) (by omega)]
  rw [op2_inv (f := fU) (g := fC) (p := i * 2) (q := j * 2) (by simp [op2_len]; omega) (by simp [op2_len]; omega) (by omega) fUC, op2_inv (by simp [op2_len]; omega) (by simp [op2_len]; omega) (by omega) fUC, op2_inv (by omega) (by omega) (by omega) (fBT k)]

abbrev Step := Nat → Nat → Int → List Int → List Int
def steps (F : Step) (L : List (Nat × Nat × Int)) (zs : List Int) : List Int := L.foldl (fun z t => F t.1 t.2.1 t.2.2 z) zs
/-- the steps touch no point twice -/
def Apart (L : List (Nat × Nat × Int)) : Prop := L.Pairwise (fun s t => s.1 ≠ t.1 ∧ s.1 ≠ t.2.1 ∧ s.2.1 ≠ t.1 ∧ s.2.1 ≠ t.2.1) ∧ ∀ t ∈ L, t.1 < 16 ∧ t.2.1 < 16 ∧ t.1 ≠ t.2.1

theorem behind_comm {i j r s : Nat} {k l : Int} {zs : List Int} (hl : zs.length = 32) (hi : i < 16) (hj : j < 16) (hij : i ≠ j) (hr : r < 16) (hs : s < 16) (hrs : r ≠ s) (h1 : i ≠ r) (h2 : i ≠ s) (h3 : j ≠ r) (h4 : j ≠ s) :
    wBehind i j k (wAhead r s l zs) = wAhead r s l (wBehind i j k zs) := by
  have C : ∀ {f g : Int → Int → Int × Int} {p q x y : Nat} {ys : List Int}, ys.length = 32 → p < 32 → q < 32 → x < 32 → y < 32 → p ≠ q → x ≠ y → p ≠ x → p ≠ y → q ≠ x → q ≠ y → op2 g x y (op2 f p q ys) = op2 f p q (op2 g x y ys) :=
    fun hy a1 a2 a3 a4 b1 b2 b3 b4 b5 b6 => op2_comm (by omega) (by omega) (by omega) (by omega) b1 b2 b3 b4 b5 b6
  rw [wBehind_op, wBehind_op, wAhead_op, wAhead_op]
  have e1 : ∀ {f g : Int → Int → Int × Int} {p q x y : Nat}, p < 32 → q < 32 → x < 32 → y < 32 → p ≠ q → x ≠ y → p ≠ x → p ≠ y → q ≠ x → q ≠ y → ∀ ys : List Int, ys.length = 32 → op2 g x y (op2 f p q ys) = op2 f p q (op2 g x y ys) :=
    fun a1 a2 a3 a4 b1 b2 b3 b4 b5 b6 ys hy => C hy a1 a2 a3 a4 b1 b2 b3 b4 b5 b6
  have T3 : ∀ {g : Int → Int → Int × Int} {x y : Nat}, x < 32 → y < 32 → x ≠ y → r * 2 ≠ x → r * 2 + 1 ≠ x → s * 2 ≠ x → s * 2 + 1 ≠ x → r * 2 ≠ y → r * 2 + 1 ≠ y → s * 2 ≠ y → s * 2 + 1 ≠ y → ∀ ys : List Int, ys.length = 32 →
      op2 g x y (op2 (fT l) (s * 2) (s * 2 + 1) (op2 fC (r * 2 + 1) (s * 2 + 1) (op2 fC (r * 2) (s * 2) ys))) = op2 (fT l) (s * 2) (s * 2 + 1) (op2 fC (r * 2 + 1) (s * 2 + 1) (op2 fC (r * 2) (s * 2) (op2 g x y ys))) := by
    intro g x y hx hy hxy c1 c2 c3 c4 d1 d2 d3 d4 ys hys
    rw [e1 (by omega) (by omega) hx hy (by omega) hxy c3 d3 c4 d4 _ (by simp [op2_len, hys]), e1 (by omega) (by omega) hx hy (by omega) hxy c2 d2 c4 d4 _ (by simp [op2_len, hys]), e1 (by omega) (by omega) hx hy (by omega) hxy c1 d1 c3 d3 _ hys]
  rw [T3 (by omega) (by omega) (by omega) (by omega) (by omega) (by omega) (by omega) (by omega) (by omega) (by omega) (by omega) _ hl]
  rw [T3 (by omega) (by omega) (by omega) (by omega) (by omega) (by omega) (by omega) (by omega) (by omega) (by omega) (by omega) _ (by simp [op2_len, hl])]
  rw [T3 (by omega) (by omega) (by omega) (by omega) (by omega) (by omega) (by omega) (by omega) (by omega) (by omega) (by omega) _ (by simp [op2_len, hl])]

theorem steps_len {F : Step} (hF : ∀ i j k zs, (F i j k zs).length = zs.length) (L : List (Nat × Nat × Int)) (zs : List Int) : (steps F L zs).length = zs.length := by
  induction L generalizing zs with
  | nil => rfl
  | cons t L ih => exact (ih _).trans (hF _ _ _ _)

theorem steps_cross {F B : Step} (hF : ∀ i j k zs, (F i j k zs).length = zs.length)
    (hc : ∀ i j k r s l zs, zs.length = 32 → i < 16 → j < 16 → i ≠ j → r < 16 → s < 16 → r ≠ s → i ≠ r → i ≠ s → j ≠ r → j ≠ s → B i j k (F r s l zs) = F r s l (B i j k zs))
    {i j : Nat} {k : Int} (hi : i < 16) (hj : j < 16) (hij : i ≠ j) : ∀ (L : List (Nat × Nat × Int)) (zs : List Int), zs.length = 32 → (∀ t ∈ L, t.1 < 16 ∧ t.2.1 < 16 ∧ t.1 ≠ t.2.1 ∧ i ≠ t.1 ∧ i ≠ t.2.1 ∧ j ≠ t.1 ∧ j ≠ t.2.1) →
      B i j k (steps F L zs) = steps F L (B i j k zs)
  | [], _, _, _ => rfl
  | t :: L, zs, hl, h => by
    have ht := h t (by simp)
    show B i j k (steps F L (F t.1 t.2.1 t.2.2 zs)) = steps F L (F t.1 t.2.1 t.2.2 (B i j k zs))
    rw [steps_cross hF hc hi hj hij L _ ((hF _ _ _ _).trans hl) (fun s hs => h s (by simp [hs])), hc _ _ _ _ _ _ _ hl hi hj hij ht.1 ht.2.1 ht.2.2.1 ht.2.2.2.1 ht.2.2.2.2.1 ht.2.2.2.2.2.1 ht.2.2.2.2.2.2]

theorem steps_inv {F B : Step} (hF : ∀ i j k zs, (F i j k zs).length = zs.length)
    (hc : ∀ i j k r s l zs, zs.length = 32 → i < 16 → j < 16 → i ≠ j → r < 16 → s < 16 → r ≠ s → i ≠ r → i ≠ s → j ≠ r → j ≠ s → B i j k (F r s l zs) = F r s l (B i j k zs))
    (hv : ∀ i j k zs, zs.length = 32 → i < 16 → j < 16 → i ≠ j → B i j k (F i j k zs) = zs) : ∀ (L : List (Nat × Nat × Int)) (zs : List Int), zs.length = 32 → Apart L → steps B L (steps F L zs) = zs
  | [], _, _, _ => rfl
  | t :: L, zs, hl, h => by
    have ht := h.2 t (by simp)
    have hp := List.pairwise_cons.1 h.1
    show steps B L (B t.1 t.2.1 t.2.2 (steps F L (F t.1 t.2.1 t.2.2 zs))) = zs
    rw [steps_cross hF hc ht.1 ht.2.1 ht.2.2 L _ ((hF _ _ _ _).trans hl) (fun s hs => ⟨(h.2 s (by simp [hs])).1, (h.2 s (by simp [hs])).2.1, (h.2 s (by simp [hs])).2.2, (hp.1 s hs).1, (hp.1 s hs).2.1, (hp.1 s hs).2.2.1, (hp.1 s hs).2.2.2⟩),
      hv _ _ _ _ hl ht.1 ht.2.1 ht.2.2]
    exact steps_inv hF hc hv L zs hl ⟨hp.2, fun s hs => h.2 s (by simp [hs])⟩

def pairs16 : List (Nat × Nat × Int) := [(0, 8, 0), (1, 9, -32), (2, 10, -64), (3, 11, -96), (4, 12, -128), (5, 13, -160), (6, 14, -192), (7, 15, -224)]
theorem apart16 : Apart pairs16 := by unfold Apart pairs16; decide +kernel
theorem stage_list16 (F : Step) (zs : List Int) : stageTo F 16 1 zs = steps F pairs16 zs := rfl
theorem undo16 {zs : List Int} (hl : zs.length = 32) : stageTo wBehind 16 1 (stageTo wAhead 16 1 zs) = zs := by
  rw [stage_list16, stage_list16]
  exact steps_inv wAhead_len (fun _ _ _ _ _ _ _ => behind_comm) (fun _ _ _ _ => behind_ahead) _ _ hl apart16
theorem redo16 {zs : List Int} (hl : zs.length = 32) : stageTo wAhead 16 1 (stageTo wBehind 16 1 zs) = zs := by
  rw [stage_list16, stage_list16]
  exact steps_inv wBehind_len (fun _ _ _ _ _ _ _ h a1 a2 a3 b1 b2 b3 c1 c2 c3 c4 => (behind_comm h b1 b2 b3 a1 a2 a3 (Ne.symm c1) (Ne.symm c3) (Ne.symm c2) (Ne.symm c4)).symm) (fun _ _ _ _ => ahead_behind) _ _ hl apart16
def pairs8 : List (Nat × Nat × Int) := [(0, 4, 0), (1, 5, -64), (2, 6, -128), (3, 7, -192), (8, 12, 0), (9, 13, -64), (10, 14, -128), (11, 15, -192)]
theorem apart8 : Apart pairs8 := by unfold Apart pairs8; decide +kernel
theorem stage_list8 (F : Step) (zs : List Int) : stageTo F 8 2 zs = steps F pairs8 zs := rfl
theorem undo8 {zs : List Int} (hl : zs.length = 32) : stageTo wBehind 8 2 (stageTo wAhead 8 2 zs) = zs := by
  rw [stage_list8, stage_list8]
  exact steps_inv wAhead_len (fun _ _ _ _ _ _ _ => behind_comm) (fun _ _ _ _ => behind_ahead) _ _ hl apart8
theorem redo8 {zs : List Int} (hl : zs.length = 32) : stageTo wAhead 8 2 (stageTo wBehind 8 2 zs) = zs := by
  rw [stage_list8, stage_list8]
  exact steps_inv wBehind_len (fun _ _ _ _ _ _ _ h a1 a2 a3 b1 b2 b3 c1 c2 c3 c4 => (behind_comm h b1 b2 b3 a1 a2 a3 (Ne.symm c1) (Ne.symm c3) (Ne.symm c2) (Ne.symm c4)).symm) (fun _ _ _ _ => ahead_behind) _ _ hl apart8
def pairs4 : List (Nat × Nat × Int) := [(0, 2, 0), (1, 3, -128), (4, 6, 0), (5, 7, -128), (8, 10, 0), (9, 11, -128), (12, 14, 0), (13, 15, -128)]
theorem apart4 : Apart pairs4 := by unfold Apart pairs4; decide +kernel
theorem stage_list4 (F : Step) (zs : List Int) : stageTo F 4 4 zs = steps F pairs4 zs := rfl
theorem undo4 {zs : List Int} (hl : zs.length = 32) : stageTo wBehind 4 4 (stageTo wAhead 4 4 zs) = zs := by
  rw [stage_list4, stage_list4]
  exact steps_inv wAhead_len (fun _ _ _ _ _ _ _ => behind_comm) (fun _ _ _ _ => behind_ahead) _ _ hl apart4
theorem redo4 {zs : List Int} (hl : zs.length = 32) : stageTo wAhead 4 4 (stageTo wBehind 4 4 zs) = zs := by
  rw [stage_list4, stage_list4]
  exact steps_inv wBehind_len (fun _ _ _ _ _ _ _ h a1 a2 a3 b1 b2 b3 c1 c2 c3 c4 => (behind_comm h b1 b2 b3 a1 a2 a3 (Ne.symm c1) (Ne.symm c3) (Ne.symm c2) (Ne.symm c4)).symm) (fun _ _ _ _ => ahead_behind) _ _ hl apart4
def pairs2 : List (Nat × Nat × Int) := [(0, 1, 0), (2, 3, 0), (4, 5, 0), (6, 7, 0), (8, 9, 0), (10, 11, 0), (12, 13, 0), (14, 15, 0)]
theorem apart2 : Apart pairs2 := by unfold Apart pairs2; decide +kernel
theorem stage_list2 (F : Step) (zs : List Int) : stageTo F 2 8 zs = steps F pairs2 zs := rfl
theorem undo2 {zs : List Int} (hl : zs.length = 32) : stageTo wBehind 2 8 (stageTo wAhead 2 8 zs) = zs := by
  rw [stage_list2, stage_list2]
  exact steps_inv wAhead_len (fun _ _ _ _ _ _ _ => behind_comm) (fun _ _ _ _ => behind_ahead) _ _ hl apart2
theorem redo2 {zs : List Int} (hl : zs.length = 32) : stageTo wAhead 2 8 (stageTo wBehind 2 8 zs) = zs := by
  rw [stage_list2, stage_list2]
  exact steps_inv wBehind_len (fun _ _ _ _ _ _ _ h a1 a2 a3 b1 b2 b3 c1 c2 c3 c4 => (behind_comm h b1 b2 b3 a1 a2 a3 (Ne.symm c1) (Ne.symm c3) (Ne.symm c2) (Ne.symm c4)).symm) (fun _ _ _ _ => ahead_behind) _ _ hl apart2
theorem bmid_mid {zs : List Int} (hl : zs.length = 32) : bmid4 (mid4 zs) = zs := by
  have l1 := (stageTo_len wAhead_len 16 1 zs).trans hl
  have l2 := (stageTo_len wAhead_len 8 2 (stageTo wAhead 16 1 zs)).trans l1
  have l3 := (stageTo_len wAhead_len 4 4 (stageTo wAhead 8 2 (stageTo wAhead 16 1 zs))).trans l2
  unfold bmid4 mid4
  rw [undo2 l3, undo4 l2, undo8 l1, undo16 hl]
theorem mid_bmid {zs : List Int} (hl : zs.length = 32) : mid4 (bmid4 zs) = zs := by
  have l1 := (stageTo_len wBehind_len 2 8 zs).trans hl
  have l2 := (stageTo_len wBehind_len 4 4 (stageTo wBehind 2 8 zs)).trans l1
  have l3 := (stageTo_len wBehind_len 8 2 (stageTo wBehind 4 4 (stageTo wBehind 2 8 zs))).trans l2
  unfold bmid4 mid4
  rw [redo16 l3, redo8 l2, redo4 l1, redo2 hl]
end Go.Proofs.Ytlfiaaoegeodnaa
