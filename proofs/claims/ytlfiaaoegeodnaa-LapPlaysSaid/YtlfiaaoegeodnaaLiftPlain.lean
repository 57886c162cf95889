/- Plain laws on the angles' table: sines and cosines as whole numbers. No Go in it. Plain laws on angles: turns by right angles. No Go in it. Plain laws on angles: the sum of two angles. No Go in it. Plain laws of the turns that can be undone. No Go in it. Plain laws of turns: how near they are to the turns that they stand for, and to one another. No Go in it. Plain laws of turns: the squares' sum, a turn behind a turn, parts. No Go in it. Plain laws of turns and their undoing: how great the numbers get. No Go in it. Plain laws of the wheel: 16 points, each two numbers, as 32 numbers. No Go in it. -/
import Derived.Test.YtlfiaaoegeodnaaNum
namespace Go.Proofs.Ytlfiaaoegeodnaa

/-- the cosine and the sine of the angle 2^(6-n), and that angle -/
def hc : Nat → Int
  | 0 => 759250124
  | 1 => 992008094
  | 2 => 1053110175
  | 3 => 1068571463
  | 4 => 1072448454
  | 5 => 1073418432
  | 6 => 1073660972
  | _ => 0
def hs : Nat → Int
  | 0 => 759250124
  | 1 => 410903207
  | 2 => 209476638
  | 3 => 105245105
  | 4 => 52686017
  | 5 => 26350953
  | 6 => 13176485
  | _ => 0
def hd : Nat → Int
  | 0 => 64
  | 1 => 32
  | 2 => 16
  | 3 => 8
  | 4 => 4
  | 5 => 2
  | 6 => 1
  | _ => 1

/-- the cosine and the sine of an angle below a right one, behind n of its seven bits -/
def bel (k : Int) : Nat → Int × Int
  | 0 => (1073741824, 0)
  | n + 1 => if k / hd n % 2 = 1 then (((bel k n).1 * hc n - (bel k n).2 * hs n + 536870912) / 1073741824, ((bel k n).1 * hs n + (bel k n).2 * hc n + 536870912) / 1073741824) else bel k n

theorem bel_bd_all : ∀ k : Fin 128, ∀ n : Fin 8, 0 ≤ (bel k.val n.val).1 ∧ (bel k.val n.val).1 ≤ 1073741824 ∧ 0 ≤ (bel k.val n.val).2 ∧ (bel k.val n.val).2 ≤ 1073741824 := by decide +kernel

theorem bel_bd {k : Int} (h0 : 0 ≤ k) (h1 : k < 128) {n : Nat} (hn : n ≤ 7) : 0 ≤ (bel k n).1 ∧ (bel k n).1 ≤ 1073741824 ∧ 0 ≤ (bel k n).2 ∧ (bel k n).2 ≤ 1073741824 := by
  have h := bel_bd_all ⟨k.toNat, by omega⟩ ⟨n, by omega⟩
  have e : ((k.toNat : Nat) : Int) = k := by omega
  simpa only [e] using h

/-- the cosine and the sine of any angle -/
def trigT (k : Int) : Int × Int :=
  if k % 512 / 128 = 0 then ((bel (k % 512 % 128) 7).1, (bel (k % 512 % 128) 7).2)
  else if k % 512 / 128 = 1 then (-(bel (k % 512 % 128) 7).2, (bel (k % 512 % 128) 7).1)
  else if k % 512 / 128 = 2 then (-(bel (k % 512 % 128) 7).1, -(bel (k % 512 % 128) 7).2)
  else ((bel (k % 512 % 128) 7).2, -(bel (k % 512 % 128) 7).1)

theorem trigT_0 {k : Int} (h : k % 512 / 128 = 0) : trigT k = ((bel (k % 512 % 128) 7).1, (bel (k % 512 % 128) 7).2) := by
  unfold trigT; rw [if_pos h]
theorem trigT_1 {k : Int} (h : k % 512 / 128 = 1) : trigT k = (-(bel (k % 512 % 128) 7).2, (bel (k % 512 % 128) 7).1) := by
  unfold trigT; rw [if_neg (by omega), if_pos h]
theorem trigT_2 {k : Int} (h : k % 512 / 128 = 2) : trigT k = (-(bel (k % 512 % 128) 7).1, -(bel (k % 512 % 128) 7).2) := by
  unfold trigT; rw [if_neg (by omega), if_neg (by omega), if_pos h]
theorem trigT_3 {k : Int} (h : k % 512 / 128 = 3) : trigT k = ((bel (k % 512 % 128) 7).2, -(bel (k % 512 % 128) 7).1) := by
  unfold trigT; rw [if_neg (by omega), if_neg (by omega), if_neg (by omega)]

theorem trigT_bd (k : Int) : -1073741824 ≤ (trigT k).1 ∧ (trigT k).1 ≤ 1073741824 ∧ -1073741824 ≤ (trigT k).2 ∧ (trigT k).2 ≤ 1073741824 := by
  have hb := bel_bd (k := k % 512 % 128) (by omega) (by omega) (n := 7) (by omega)
  unfold trigT
  split
  · dsimp only; omega
  · split
    · dsimp only; omega
    · split <;> (dsimp only; omega)

theorem trigT_512 (k : Int) : trigT (k % 512) = trigT k := by
  unfold trigT; rw [Int.emod_emod_of_dvd _ (by decide)]

end Go.Proofs.Ytlfiaaoegeodnaa

namespace Go.Proofs.Ytlfiaaoegeodnaa

def rot (p : Int × Int) : Int × Int := (-p.2, p.1)

theorem trigT_congr {a b : Int} (h : a % 512 = b % 512) : trigT a = trigT b := by
  rw [← trigT_512 a, ← trigT_512 b, h]

theorem trigT_128 (k : Int) : trigT (k + 128) = rot (trigT k) := by
  have hq : k % 512 / 128 = 0 ∨ k % 512 / 128 = 1 ∨ k % 512 / 128 = 2 ∨ k % 512 / 128 = 3 := by omega
  have e : (k + 128) % 512 % 128 = k % 512 % 128 := by omega
  rcases hq with hq | hq | hq | hq
  · rw [trigT_0 hq, trigT_1 (by omega), e]; rfl
  · rw [trigT_1 hq, trigT_2 (by omega), e]; rfl
  · rw [trigT_2 hq, trigT_3 (by omega), e]; simp [rot]
  · rw [trigT_3 hq, trigT_0 (by omega), e]; simp [rot]

theorem trig_right {k x y : Int} (h : trigT k = (x, y)) : trigT (k + 128) = (-y, x) := by rw [trigT_128, h]; rfl
theorem trig_half {k x y : Int} (h : trigT k = (x, y)) : trigT (k + 256) = (-x, -y) := by
  rw [show k + 256 = k + 128 + 128 by omega]; exact trig_right (trig_right h)
theorem trig_all {k x y : Int} (h : trigT k = (x, y)) : trigT (k - 512) = (x, y) := by rw [← h]; exact trigT_congr (by omega)

/-- What holds from 0 to 127, and stays with a right angle more, and goes by the rest by 512, holds everywhere. -/
theorem quarters {Q : Int → Prop} (hp : ∀ j, Q (j % 512) → Q j) (hs : ∀ j, Q j → Q (j + 128)) (h0 : ∀ j, 0 ≤ j → j < 128 → Q j) (j : Int) : Q j := by
  apply hp
  have hq : j % 512 / 128 = 0 ∨ j % 512 / 128 = 1 ∨ j % 512 / 128 = 2 ∨ j % 512 / 128 = 3 := by omega
  rcases hq with hq | hq | hq | hq
  · exact h0 _ (by omega) (by omega)
  · have := hs _ (h0 (j % 512 - 128) (by omega) (by omega))
    rwa [show j % 512 - 128 + 128 = j % 512 by omega] at this
  · have := hs _ (hs _ (h0 (j % 512 - 256) (by omega) (by omega)))
    rwa [show j % 512 - 256 + 128 + 128 = j % 512 by omega] at this
  · have := hs _ (hs _ (hs _ (h0 (j % 512 - 384) (by omega) (by omega))))
    rwa [show j % 512 - 384 + 128 + 128 + 128 = j % 512 by omega] at this

theorem rises_all : ∀ i : Fin 128, (trigT (i.val + 1)).1 < (trigT i.val).1 ∧ (trigT i.val).2 < (trigT (i.val + 1)).2 := by decide +kernel

theorem close_all : ∀ i : Fin 512, (trigT i.val).1 - (trigT (128 - i.val)).2 ≤ 2048 ∧ (trigT (128 - i.val)).2 - (trigT i.val).1 ≤ 2048 ∧
    (trigT i.val).1 * (trigT i.val).1 + (trigT i.val).2 * (trigT i.val).2 - 1152921504606846976 ≤ 4398046511104 ∧
    1152921504606846976 - ((trigT i.val).1 * (trigT i.val).1 + (trigT i.val).2 * (trigT i.val).2) ≤ 4398046511104 := by decide +kernel

theorem trig_close (k : Int) : (trigT k).1 - (trigT (128 - k)).2 ≤ 2048 ∧ (trigT (128 - k)).2 - (trigT k).1 ≤ 2048 ∧
    (trigT k).1 * (trigT k).1 + (trigT k).2 * (trigT k).2 - 1152921504606846976 ≤ 4398046511104 ∧
    1152921504606846976 - ((trigT k).1 * (trigT k).1 + (trigT k).2 * (trigT k).2) ≤ 4398046511104 := by
  have h := close_all ⟨(k % 512).toNat, by omega⟩
  have e : (((k % 512).toNat : Nat) : Int) = k % 512 := by omega
  simp only [e] at h
  rw [trigT_512, trigT_congr (a := 128 - k % 512) (b := 128 - k) (by omega)] at h
  exact h
end Go.Proofs.Ytlfiaaoegeodnaa

namespace Go.Proofs.Ytlfiaaoegeodnaa

def tab : List (Int × Int) := [(1073741824, 0), (1073660972, 13176485), (1073418432, 26350953), (1073014237, 39521485), (1072448454, 52686017), (1071721160, 65842663), (1070832471, 78989361), (1069782516, 92124196), (1068571463, 105245105), (1067199479, 118350217), (1065666783, 131437473), (1063973596, 144504968), (1062120188, 157550652), (1060106819, 170572658), (1057933808, 183568944), (1055601469, 196537617), (1053110175, 209476638), (1050460272, 222384167), (1047652181, 235258174), (1044686309, 248096784), (1041563125, 260897984), (1038283071, 273659941), (1034846665, 286380654), (1031254405, 299058271), (1027506860, 311690800), (1023604558, 324276440), (1019548115, 336813214), (1015338121, 349299296), (1010975239, 361732729), (1006460089, 374111732), (1001793382, 386434365), (996975796, 398698832), (992008094, 410903207), (986890974, 423045751), (981625246, 435124556), (976211674, 447137863), (970651110, 459083788), (964944347, 470960621), (959092283, 482766499), (953095767, 494499704), (946955745, 506158394), (940673088, 517740903), (934248785, 529245414), (927683771, 540670250), (920979078, 552013622), (914135662, 563273904), (907154598, 574449331), (900036902, 585538276), (892783697, 596538995), (885396008, 607449923), (877875001, 618269345), (870221770, 628995684), (862437516, 639627259), (854523352, 650162547), (846480521, 660599898), (838310192, 670937790), (830013651, 681174603), (821592078, 691308872), (813046798, 701339007), (804379054, 711263548), (795590207, 721080939), (786681513, 730789773), (777654371, 740388530), (768510093, 749875810), (759250124, 759250124), (749875771, 768510135), (740388514, 777654389), (730789732, 786681553), (721080933, 795590213), (711263505, 804379092), (701338988, 813046814), (691308827, 821592114), (681174599, 830013654), (670937746, 838310228), (660599879, 846480536), (650162501, 854523386), (639627252, 862437521), (628995637, 870221803), (618269324, 877875014), (607449875, 885396038), (596538994, 892783696), (585538228, 900036933), (574449310, 907154610), (563273854, 914135690), (552013614, 920979081), (540670200, 927683799), (529245391, 934248796), (517740851, 940673113), (506158389, 946955745), (494499653, 953095792), (482766477, 959092292), (470960568, 964944370), (459083780, 970651111), (447137810, 976211695), (435124533, 981625252), (423045697, 986890992), (410903206, 992008093), (398698780, 996975818), (386434343, 1001793391), (374111679, 1006460108), (361732722, 1010975241), (349299243, 1015338139), (336813191, 1019548122), (324276385, 1023604573), (311690796, 1027506860), (299058216, 1031254421), (286380630, 1034846671), (273659885, 1038283084), (260897976, 1041563125), (248096728, 1044686321), (235258150, 1047652184), (222384111, 1050460281), (209476638, 1053110173), (196537562, 1055601479), (183568921, 1057933811), (170572602, 1060106826), (157550644, 1062120187), (144504911, 1063973602), (131437449, 1065666783), (118350160, 1067199481), (105245101, 1068571460), (92124140, 1069782519), (78989337, 1070832470), (65842606, 1071721159), (52686009, 1072448451), (39521428, 1073014236), (26350929, 1073418428), (13176428, 1073660967)]
theorem tab_len : tab.length = 128 := by decide +kernel
theorem tab_all : ∀ k : Fin 128, tab[k.val]? = some (bel k.val 7) := by decide +kernel
def tab2 : List (Int × Int) := tab ++ tab.map rot

/-- r is nearly the turn by both: but for B, by 2^30 -/
def Near (B : Int) (p q r : Int × Int) : Prop :=
  -B ≤ p.1 * q.1 - p.2 * q.2 - r.1 * 1073741824 ∧ p.1 * q.1 - p.2 * q.2 - r.1 * 1073741824 ≤ B ∧
  -B ≤ p.1 * q.2 + p.2 * q.1 - r.2 * 1073741824 ∧ p.1 * q.2 + p.2 * q.1 - r.2 * 1073741824 ≤ B
instance (B : Int) (p q r : Int × Int) : Decidable (Near B p q r) := by unfold Near; exact inferInstance

def nearRow (B : Int) (p : Int × Int) : List (Int × Int) → List (Int × Int) → Bool
  | q :: qs, r :: rs => decide (Near B p q r) && nearRow B p qs rs
  | _, _ => true
def nearTab (B : Int) (qs : List (Int × Int)) : List (Int × Int) → List (Int × Int) → Bool
  | p :: ps, r :: rs => nearRow B p qs (r :: rs) && nearTab B qs ps rs
  | _, _ => true

theorem nearRow_get {B : Int} {p : Int × Int} : ∀ {qs rs : List (Int × Int)} {i : Nat} {q r : Int × Int}, nearRow B p qs rs = true → qs[i]? = some q → rs[i]? = some r → Near B p q r
  | [], _, _, _, _, _, h, _ => by simp at h
  | _ :: _, [], _, _, _, _, _, h => by simp at h
  | q' :: qs, r' :: rs, 0, q, r, h, hq, hr => by
    simp only [nearRow, Bool.and_eq_true, decide_eq_true_eq] at h
    simp at hq hr
    subst hq hr
    exact h.1
  | q' :: qs, r' :: rs, i + 1, q, r, h, hq, hr => by
    simp only [nearRow, Bool.and_eq_true, decide_eq_true_eq] at h
    simp at hq hr
    exact nearRow_get h.2 hq hr

theorem nearTab_get {B : Int} {qs : List (Int × Int)} : ∀ {ps rs : List (Int × Int)} {i j : Nat} {p q r : Int × Int}, nearTab B qs ps rs = true → ps[j]? = some p → qs[i]? = some q → rs[j + i]? = some r → Near B p q r
  | [], _, _, _, _, _, _, _, h, _, _ => by simp at h
  | _ :: _, [], _, _, _, _, _, _, _, _, h => by simp at h
  | p' :: ps, r' :: rs, i, 0, p, q, r, h, hp, hq, hr => by
    simp only [nearTab, Bool.and_eq_true] at h
    simp at hp
    subst hp
    rw [Nat.zero_add] at hr
    exact nearRow_get h.1 hq hr
  | p' :: ps, r' :: rs, i, j + 1, p, q, r, h, hp, hq, hr => by
    simp only [nearTab, Bool.and_eq_true] at h
    simp at hp
    rw [Nat.add_right_comm] at hr
    simp at hr
    exact nearTab_get h.2 hp hq hr

theorem near_tab : nearTab 64424509440 tab tab tab2 = true := by decide +kernel

theorem tab_trig {k : Nat} (h : k < 128) : tab[k]? = some (trigT k) := by
  rw [tab_all ⟨k, h⟩, trigT_0 (by omega), show (k : Int) % 512 % 128 = k by omega]
theorem tab2_trig {k : Nat} (h : k < 256) : tab2[k]? = some (trigT k) := by
  unfold tab2
  by_cases h1 : k < 128
  · rw [List.getElem?_append_left (by rw [tab_len]; exact h1), tab_trig h1]
  · rw [List.getElem?_append_right (by rw [tab_len]; omega), tab_len, List.getElem?_map, tab_trig (by omega)]
    have := trigT_128 (k - 128 : Int)
    rw [show (k : Int) - 128 + 128 = k by omega] at this
    rw [this, show ((k - 128 : Nat) : Int) = (k : Int) - 128 by omega]
    rfl

theorem near_low {j k : Nat} (hj : j < 128) (hk : k < 128) : Near 64424509440 (trigT j) (trigT k) (trigT (j + k)) := by
  have := nearTab_get near_tab (tab_trig hj) (tab_trig hk) (tab2_trig (k := j + k) (by omega))
  rwa [Int.natCast_add] at this

theorem near_rot_left {B : Int} {p q r : Int × Int} (h : Near B p q r) : Near B (rot p) q (rot r) := by
  unfold Near rot at *
  simp only [Int.neg_mul] at *
  omega
theorem near_rot_right {B : Int} {p q r : Int × Int} (h : Near B p q r) : Near B p (rot q) (rot r) := by
  unfold Near rot at *
  simp only [Int.mul_neg, Int.neg_mul] at *
  omega

theorem near_all (j k : Int) : Near 64424509440 (trigT j) (trigT k) (trigT (j + k)) := by
  refine quarters (Q := fun j => ∀ k, Near 64424509440 (trigT j) (trigT k) (trigT (j + k))) ?_ ?_ ?_ j k
  · intro j h k
    have := h k
    rw [trigT_512, trigT_congr (a := j % 512 + k) (b := j + k) (by omega)] at this
    exact this
  · intro j h k
    rw [trigT_128, show j + 128 + k = j + k + 128 by omega, trigT_128]
    exact near_rot_left (h k)
  · intro j h0 h1
    refine quarters (Q := fun k => Near 64424509440 (trigT j) (trigT k) (trigT (j + k))) ?_ ?_ ?_
    · intro k h
      rw [trigT_512, trigT_congr (a := j + k % 512) (b := j + k) (by omega)] at h
      exact h
    · intro k h
      rw [trigT_128, show j + (k + 128) = j + k + 128 by omega, trigT_128]
      exact near_rot_right h
    · intro k h2 h3
      obtain ⟨a, rfl⟩ := Int.eq_ofNat_of_zero_le h0
      obtain ⟨b, rfl⟩ := Int.eq_ofNat_of_zero_le h2
      exact near_low (by omega) (by omega)

theorem sum_near (j k : Int) : ((trigT j).1 * (trigT k).1 - (trigT j).2 * (trigT k).2) / 1073741824 - (trigT (j + k)).1 ≤ 8192 ∧
    (trigT (j + k)).1 - ((trigT j).1 * (trigT k).1 - (trigT j).2 * (trigT k).2) / 1073741824 ≤ 8192 ∧
    ((trigT j).1 * (trigT k).2 + (trigT j).2 * (trigT k).1) / 1073741824 - (trigT (j + k)).2 ≤ 8192 ∧
    (trigT (j + k)).2 - ((trigT j).1 * (trigT k).2 + (trigT j).2 * (trigT k).1) / 1073741824 ≤ 8192 := by
  have h := near_all j k
  unfold Near at h
  generalize (trigT j).1 * (trigT k).1 - (trigT j).2 * (trigT k).2 = u at *
  generalize (trigT j).1 * (trigT k).2 + (trigT j).2 * (trigT k).1 = v at *
  omega
end Go.Proofs.Ytlfiaaoegeodnaa

namespace Go.Proofs.Ytlfiaaoegeodnaa

/-- a number's part by a factor -/
def part (x m : Int) : Int := (x * m + 16384) / 32768
def facP (k : Int) : Int := ((1073741824 - (trigT k).1) * 32768 + (trigT k).2 / 2) / (trigT k).2
def facQ (k : Int) : Int := ((trigT k).2 + 16384) / 32768

theorem fac_all : ∀ k : Fin 65, 0 ≤ facP k.val ∧ facP k.val ≤ 13573 ∧ 0 ≤ facQ k.val ∧ facQ k.val ≤ 23170 ∧ (1 ≤ k.val → 13176485 ≤ (trigT k.val).2) := by decide +kernel
theorem fac_bd {k : Int} (h0 : 0 ≤ k) (h1 : k ≤ 64) : 0 ≤ facP k ∧ facP k ≤ 13573 ∧ 0 ≤ facQ k ∧ facQ k ≤ 23170 ∧ (1 ≤ k → 13176485 ≤ (trigT k).2) := by
  have h := fac_all ⟨k.toNat, by omega⟩
  have e : ((k.toNat : Nat) : Int) = k := by omega
  simp only [e] at h
  exact ⟨h.1, h.2.1, h.2.2.1, h.2.2.2.1, fun hk => h.2.2.2.2 (by omega)⟩
theorem facP_0 : facP 0 = 0 := by decide +kernel
theorem facQ_0 : facQ 0 = 0 := by decide +kernel

/-- a product with a factor lies between nothing and the number by 2^15 -/
theorem mul_bd {x m b c : Int} (hm : 0 ≤ m) (hc : m ≤ c) (hx : -b ≤ x) (hx1 : x ≤ b) : -(b * c) ≤ x * m ∧ x * m ≤ b * c := by
  have hb : 0 ≤ b := by omega
  have h1 : x * m ≤ b * m := Int.mul_le_mul_of_nonneg_right hx1 hm
  have h2 : -b * m ≤ x * m := Int.mul_le_mul_of_nonneg_right hx hm
  have h3 : b * m ≤ b * c := Int.mul_le_mul_of_nonneg_left hc hb
  rw [Int.neg_mul] at h2
  omega

theorem part_bd {x m b : Int} (hm : 0 ≤ m) (hc : m ≤ 32768) (hx : -b ≤ x) (hx1 : x ≤ b) : -b ≤ part x m ∧ part x m ≤ b := by
  have h := mul_bd hm hc hx hx1
  unfold part
  omega

/-- a turn by an angle from 0 to 64, or its undoing -/
def small (a b k : Int) (back : Bool) : Int × Int :=
  if back then
    (a + part b (facP k) + part (b - part (a + part b (facP k)) (facQ k)) (facP k), b - part (a + part b (facP k)) (facQ k))
  else
    (a - part b (facP k) - part (b + part (a - part b (facP k)) (facQ k)) (facP k), b + part (a - part b (facP k)) (facQ k))

/-- a part is the product, by 2^15, but for a half -/
theorem part_sp (x m : Int) : x * m - 16383 ≤ 32768 * part x m ∧ 32768 * part x m ≤ x * m + 16384 := by
  unfold part
  omega

/-- how great the numbers behind three steps are at most: p and q being the factors -/
theorem steps_bd {a b p q c u v z : Int} (_hp : 0 ≤ p) (_hp1 : p ≤ 13573) (_hq : 0 ≤ q) (_hq1 : q ≤ 23170) (ha : -c ≤ a) (ha1 : a ≤ c) (hb : -c ≤ b) (hb1 : b ≤ c)
    (hu : -(c * 13573) - 16384 ≤ 32768 * u ∧ 32768 * u ≤ c * 13573 + 16384)
    (hv : ∀ d, -d ≤ a - u → a - u ≤ d → -(d * 23170) - 16384 ≤ 32768 * v ∧ 32768 * v ≤ d * 23170 + 16384)
    (hz : ∀ d, -d ≤ b + v → b + v ≤ d → -(d * 13573) - 16384 ≤ 32768 * z ∧ 32768 * z ≤ d * 13573 + 16384) :
    -(3 * c + 3) ≤ a - u - z ∧ a - u - z ≤ 3 * c + 3 ∧ -(3 * c + 3) ≤ b + v ∧ b + v ≤ 3 * c + 3 := by
  have h1 := hv (c + (c * 13573 + 16384) / 32768) (by omega) (by omega)
  have h2 := hz (2 * c + 1) (by omega) (by omega)
  omega

theorem part_of {x m d c : Int} (hm : 0 ≤ m) (hc : m ≤ c) (h0 : -d ≤ x) (h1 : x ≤ d) : -(d * c) - 16384 ≤ 32768 * part x m ∧ 32768 * part x m ≤ d * c + 16384 := by
  have h := mul_bd hm hc h0 h1
  have h2 := part_sp x m
  omega

/-- how great a turn's numbers are at most -/
theorem small_bd {a b k : Int} (s : Bool) {c : Int} (h0 : 0 ≤ k) (h1 : k ≤ 64) (ha : -c ≤ a) (ha1 : a ≤ c) (hb : -c ≤ b) (hb1 : b ≤ c) :
    -(3 * c + 3) ≤ (small a b k s).1 ∧ (small a b k s).1 ≤ 3 * c + 3 ∧ -(3 * c + 3) ≤ (small a b k s).2 ∧ (small a b k s).2 ≤ 3 * c + 3 := by
  have hf := fac_bd h0 h1
  cases s with
  | false =>
    simp only [small, Bool.false_eq_true, if_false]
    exact steps_bd hf.1 hf.2.1 hf.2.2.1 hf.2.2.2.1 ha ha1 hb hb1 (part_of hf.1 hf.2.1 hb hb1) (fun d h0 h1 => part_of hf.2.2.1 hf.2.2.2.1 h0 h1) (fun d h0 h1 => part_of hf.1 hf.2.1 h0 h1)
  | true =>
    simp only [small, if_true]
    have h := steps_bd (a := a) (b := b) (c := c) (u := -part b (facP k)) (v := -part (a + part b (facP k)) (facQ k)) (z := -part (b - part (a + part b (facP k)) (facQ k)) (facP k)) hf.1 hf.2.1 hf.2.2.1 hf.2.2.2.1 ha ha1 hb hb1
      (by have := part_of (x := b) hf.1 hf.2.1 hb hb1; omega)
      (fun d h0 h1 => by have := part_of (x := a + part b (facP k)) (d := d) hf.2.2.1 hf.2.2.2.1 (by omega) (by omega); omega)
      (fun d h0 h1 => by have := part_of (x := b - part (a + part b (facP k)) (facQ k)) (d := d) hf.1 hf.2.1 (by omega) (by omega); omega)
    omega

theorem small_back (a b k : Int) (s : Bool) : small (small a b k s).1 (small a b k s).2 k (!s) = (a, b) := by
  cases s with
  | false =>
    simp only [small, Bool.false_eq_true, if_false, Bool.not_false, if_true]
    rw [show a - part b (facP k) - part (b + part (a - part b (facP k)) (facQ k)) (facP k) + part (b + part (a - part b (facP k)) (facQ k)) (facP k) = a - part b (facP k) by omega,
      show b + part (a - part b (facP k)) (facQ k) - part (a - part b (facP k)) (facQ k) = b by omega]
    exact Prod.ext (by dsimp only; omega) rfl
  | true =>
    simp only [small, Bool.false_eq_true, if_false, Bool.not_true, if_true]
    rw [show a + part b (facP k) + part (b - part (a + part b (facP k)) (facQ k)) (facP k) - part (b - part (a + part b (facP k)) (facQ k)) (facP k) = a + part b (facP k) by omega,
      show b - part (a + part b (facP k)) (facQ k) + part (a + part b (facP k)) (facQ k) = b by omega]
    exact Prod.ext (by dsimp only; omega) rfl

/-- quarters: so many right angles on, and back -/
def rots : Nat → Int × Int → Int × Int
  | 0, p => p
  | n + 1, p => rots n (-p.2, p.1)
def unrots : Nat → Int × Int → Int × Int
  | 0, p => p
  | n + 1, p => unrots n (p.2, -p.1)
def quarts (k : Int) : Nat := (k % 512 / 128 + if k % 512 % 128 ≤ 64 then 0 else 1).toNat

/-- a turn by any angle of two numbers that may be turned, and its undoing -/
def turnL (a b k : Int) : Int × Int :=
  if k % 512 % 128 ≤ 64 then rots (quarts k) (small a b (k % 512 % 128) false)
  else rots (quarts k) (small a b (128 - k % 512 % 128) true)
def backL (a b k : Int) : Int × Int :=
  if k % 512 % 128 ≤ 64 then small (unrots (quarts k) (a, b)).1 (unrots (quarts k) (a, b)).2 (k % 512 % 128) true
  else small (unrots (quarts k) (a, b)).1 (unrots (quarts k) (a, b)).2 (128 - k % 512 % 128) false

theorem unrots_rots (n : Nat) : ∀ p, unrots n (rots n p) = p := by
  intro p
  have hs : ∀ n p, rots (n + 1) p = (-(rots n p).2, (rots n p).1) := by
    intro n
    induction n with
    | zero => intro p; rfl
    | succ n ih => intro p; rw [rots, ih]; rfl
  induction n with
  | zero => rfl
  | succ n ih => rw [hs, unrots]; simp only [Int.neg_neg]; exact ih
theorem rots_unrots (n : Nat) : ∀ p, rots n (unrots n p) = p := by
  intro p
  have hs : ∀ n p, unrots (n + 1) p = ((unrots n p).2, -(unrots n p).1) := by
    intro n
    induction n with
    | zero => intro p; rfl
    | succ n ih => intro p; rw [unrots, ih]; rfl
  induction n with
  | zero => rfl
  | succ n ih => rw [hs, rots]; simp only [Int.neg_neg]; exact ih

theorem back_turn (a b k : Int) : backL (turnL a b k).1 (turnL a b k).2 k = (a, b) := by
  unfold backL turnL
  split
  · rw [Prod.eta, unrots_rots]; exact small_back a b _ false
  · rw [Prod.eta, unrots_rots]; exact small_back a b _ true
theorem turn_back (a b k : Int) : turnL (backL a b k).1 (backL a b k).2 k = (a, b) := by
  unfold backL turnL
  split
  · rw [show (false : Bool) = !true from rfl, small_back, Prod.eta, rots_unrots]
  · rw [show (true : Bool) = !false from rfl, small_back, Prod.eta, rots_unrots]

end Go.Proofs.Ytlfiaaoegeodnaa

namespace Go.Proofs.Ytlfiaaoegeodnaa

theorem near_b {a b p q c s u v r1 r2 : Int} (h1 : 32768 * u = b * p + r1) (h2 : 32768 * v = (a - u) * q + r2) :
    1073741824 * (b + v) - (a * s + b * c) = a * (32768 * q - s) + b * (1073741824 - p * q - c) + (32768 * r2 - q * r1) := by
  grind
theorem near_a {a b p q c s u v z r1 r2 r3 : Int} (h1 : 32768 * u = b * p + r1) (h2 : 32768 * v = (a - u) * q + r2) (h3 : 32768 * z = (b + v) * p + r3) :
    32768 * (1073741824 * (a - u - z) - (a * c - b * s)) = a * (32768 * (1073741824 - p * q - c)) - b * (p * (2147483648 - p * q) - 32768 * s) - r1 * (1073741824 - p * q) - p * (32768 * r2) - 1073741824 * r3 := by
  grind

/-- a product of two numbers that are no greater than so much -/
theorem mul_in {x y b c : Int} (hx : -b ≤ x) (hx1 : x ≤ b) (hy : -c ≤ y) (hy1 : y ≤ c) : -(b * c) ≤ x * y ∧ x * y ≤ b * c := by
  have h1 := Int.mul_nonneg (a := b - x) (b := c - y) (by omega) (by omega)
  have h2 := Int.mul_nonneg (a := b + x) (b := c + y) (by omega) (by omega)
  have h3 := Int.mul_nonneg (a := b - x) (b := c + y) (by omega) (by omega)
  have h4 := Int.mul_nonneg (a := b + x) (b := c - y) (by omega) (by omega)
  constructor <;> grind

/-- what the factors of an angle are: nearly its cosine's and its sine's -/
def FacNear (p q c s : Int) : Prop :=
  -32768 ≤ 1073741824 - p * q - c ∧ 1073741824 - p * q - c ≤ 32768 ∧ -32768 ≤ 32768 * q - s ∧ 32768 * q - s ≤ 32768 ∧
  -1073741824 ≤ p * (2147483648 - p * q) - 32768 * s ∧ p * (2147483648 - p * q) - 32768 * s ≤ 1073741824 ∧
  -13573 ≤ p ∧ p ≤ 13573 ∧ -23170 ≤ q ∧ q ≤ 23170 ∧ 0 ≤ 1073741824 - p * q ∧ 0 ≤ p * q
instance (p q c s : Int) : Decidable (FacNear p q c s) := by unfold FacNear; exact inferInstance

theorem facNear_all : ∀ k : Fin 65, FacNear (facP k.val) (facQ k.val) (trigT k.val).1 (trigT k.val).2 ∧ FacNear (-facP k.val) (-facQ k.val) (trigT (-k.val)).1 (trigT (-k.val)).2 := by decide +kernel
theorem facNear {k : Int} (h0 : 0 ≤ k) (h1 : k ≤ 64) : FacNear (facP k) (facQ k) (trigT k).1 (trigT k).2 ∧ FacNear (-facP k) (-facQ k) (trigT (-k)).1 (trigT (-k)).2 := by
  have h := facNear_all ⟨k.toNat, by omega⟩
  have e : ((k.toNat : Nat) : Int) = k := by omega
  simp only [e] at h
  exact h

/-- (x, y) is nearly (a, b) turned so that c and s are the cosine and the sine; no number being greater than m -/
def TurnNear (m a b c s x y : Int) : Prop :=
  -(65536 * m + 1296121856) ≤ 1073741824 * x - (a * c - b * s) ∧ 1073741824 * x - (a * c - b * s) ≤ 65536 * m + 1296121856 ∧
  -(65536 * m + 1296121856) ≤ 1073741824 * y - (a * s + b * c) ∧ 1073741824 * y - (a * s + b * c) ≤ 65536 * m + 1296121856

theorem steps_near {m a b p q c s u v z r1 r2 r3 : Int} (hf : FacNear p q c s) (ha : -m ≤ a) (ha1 : a ≤ m) (hb : -m ≤ b) (hb1 : b ≤ m)
    (h1 : 32768 * u = b * p + r1) (h2 : 32768 * v = (a - u) * q + r2) (h3 : 32768 * z = (b + v) * p + r3)
    (e1 : -16384 ≤ r1) (e1' : r1 ≤ 16384) (e2 : -16384 ≤ r2) (e2' : r2 ≤ 16384) (e3 : -16384 ≤ r3) (e3' : r3 ≤ 16384) : TurnNear m a b c s (a - u - z) (b + v) := by
  obtain ⟨f1, f2, f3, f4, f5, f6, f7, f8, f9, f10, f11, f12⟩ := hf
  have ea := near_a (c := c) (s := s) h1 h2 h3
  have eb := near_b (c := c) (s := s) h1 h2
  have g1 := mul_in ha ha1 f3 f4
  have g2 := mul_in hb hb1 f1 f2
  have g3 := mul_in (x := q) (y := r1) (b := 23170) (c := 16384) f9 f10 e1 e1'
  have g4 := mul_in (x := a) (y := 32768 * (1073741824 - p * q - c)) (b := m) (c := 1073741824) ha ha1 (by omega) (by omega)
  have g5 := mul_in (x := b) (y := p * (2147483648 - p * q) - 32768 * s) (b := m) (c := 1073741824) hb hb1 f5 f6
  have g6 := mul_in (x := r1) (y := 1073741824 - p * q) (b := 16384) (c := 1073741824) e1 e1' (by omega) (by omega)
  have g7 := mul_in (x := p) (y := 32768 * r2) (b := 13573) (c := 536870912) f7 f8 (by omega) (by omega)
  refine ⟨?_, ?_, ?_, ?_⟩
  · omega
  · omega
  · omega
  · omega

theorem small_near {m a b k : Int} (h0 : 0 ≤ k) (h1 : k ≤ 64) (ha : -m ≤ a) (ha1 : a ≤ m) (hb : -m ≤ b) (hb1 : b ≤ m) :
    TurnNear m a b (trigT k).1 (trigT k).2 (small a b k false).1 (small a b k false).2 ∧ TurnNear m a b (trigT (-k)).1 (trigT (-k)).2 (small a b k true).1 (small a b k true).2 := by
  have hf := facNear h0 h1
  refine ⟨?_, ?_⟩
  · simp only [small, Bool.false_eq_true, if_false]
    have p1 := part_sp b (facP k)
    have p2 := part_sp (a - part b (facP k)) (facQ k)
    have p3 := part_sp (b + part (a - part b (facP k)) (facQ k)) (facP k)
    exact steps_near hf.1 ha ha1 hb hb1 (u := part b (facP k)) (v := part (a - part b (facP k)) (facQ k)) (z := part (b + part (a - part b (facP k)) (facQ k)) (facP k))
      (r1 := 32768 * part b (facP k) - b * facP k) (r2 := 32768 * part (a - part b (facP k)) (facQ k) - (a - part b (facP k)) * facQ k)
      (r3 := 32768 * part (b + part (a - part b (facP k)) (facQ k)) (facP k) - (b + part (a - part b (facP k)) (facQ k)) * facP k)
      (by omega) (by omega) (by omega) (by omega) (by omega) (by omega) (by omega) (by omega) (by omega)
  · simp only [small, if_true]
    have p1 := part_sp b (facP k)
    have p2 := part_sp (a + part b (facP k)) (facQ k)
    have p3 := part_sp (b - part (a + part b (facP k)) (facQ k)) (facP k)
    have h := steps_near hf.2 ha ha1 hb hb1 (u := -part b (facP k)) (v := -part (a + part b (facP k)) (facQ k)) (z := -part (b - part (a + part b (facP k)) (facQ k)) (facP k))
      (r1 := b * facP k - 32768 * part b (facP k)) (r2 := (a + part b (facP k)) * facQ k - 32768 * part (a + part b (facP k)) (facQ k))
      (r3 := (b - part (a + part b (facP k)) (facQ k)) * facP k - 32768 * part (b - part (a + part b (facP k)) (facQ k)) (facP k))
      (by simp only [Int.mul_neg]; omega) (by simp only [Int.mul_neg, Int.sub_neg]; omega) (by simp only [Int.mul_neg, ← Int.sub_eq_add_neg]; omega) (by omega) (by omega) (by omega) (by omega) (by omega) (by omega)
    rw [Int.sub_neg, Int.sub_neg, ← Int.sub_eq_add_neg] at h
    exact h

theorem near_rot {m a b c s x y : Int} (h : TurnNear m a b c s x y) : TurnNear m a b (-s) c (-y) x := by
  unfold TurnNear at *
  simp only [Int.mul_neg] at *
  omega

theorem rots_succ : ∀ n p, rots (n + 1) p = rot (rots n p) := by
  intro n
  induction n with
  | zero => intro p; rfl
  | succ n ih => intro p; rw [rots, ih]; rfl
theorem rots_4 (p : Int × Int) : rots 4 p = p := by
  obtain ⟨x, y⟩ := p
  simp only [rots, Int.neg_neg]

theorem turnL_congr {j k : Int} (a b : Int) (h : j % 512 = k % 512) : turnL a b j = turnL a b k := by
  unfold turnL quarts
  rw [h]
theorem backL_congr {j k : Int} (a b : Int) (h : j % 512 = k % 512) : backL a b j = backL a b k := by
  unfold backL quarts
  rw [h]

theorem turnL_128 (a b k : Int) : turnL a b (k + 128) = rot (turnL a b k) := by
  have e : (k + 128) % 512 % 128 = k % 512 % 128 := by omega
  unfold turnL quarts
  rw [e]
  have hq : k % 512 / 128 = 0 ∨ k % 512 / 128 = 1 ∨ k % 512 / 128 = 2 ∨ k % 512 / 128 = 3 := by omega
  split
  · rcases hq with hq | hq | hq | hq
    · rw [hq, show (k + 128) % 512 / 128 = 1 by omega]; exact rots_succ _ _
    · rw [hq, show (k + 128) % 512 / 128 = 2 by omega]; exact rots_succ _ _
    · rw [hq, show (k + 128) % 512 / 128 = 3 by omega]; exact rots_succ _ _
    · rw [hq, show (k + 128) % 512 / 128 = 0 by omega, ← rots_succ]; exact (rots_4 _).symm
  · rcases hq with hq | hq | hq | hq
    · rw [hq, show (k + 128) % 512 / 128 = 1 by omega]; exact rots_succ _ _
    · rw [hq, show (k + 128) % 512 / 128 = 2 by omega]; exact rots_succ _ _
    · rw [hq, show (k + 128) % 512 / 128 = 3 by omega]; exact rots_succ _ _
    · rw [hq, show (k + 128) % 512 / 128 = 0 by omega, ← rots_succ]
      show rots 1 _ = rots 5 _
      rw [rots_succ 4, rots_4]; rfl

theorem part_0 (x : Int) : part x 0 = 0 := by unfold part; omega
theorem turnL_0 (a b : Int) : turnL a b 0 = (a, b) := by
  show rots 0 (small a b 0 false) = (a, b)
  simp only [rots, small, facP_0, facQ_0, part_0, Bool.false_eq_true, if_false]
  simp

theorem turnL_near {m a b : Int} (ha : -m ≤ a) (ha1 : a ≤ m) (hb : -m ≤ b) (hb1 : b ≤ m) (k : Int) : TurnNear m a b (trigT k).1 (trigT k).2 (turnL a b k).1 (turnL a b k).2 := by
  refine quarters (Q := fun k => TurnNear m a b (trigT k).1 (trigT k).2 (turnL a b k).1 (turnL a b k).2) ?_ ?_ ?_ k
  · intro j h
    rw [trigT_512, turnL_congr a b (j := j % 512) (k := j) (by omega)] at h
    exact h
  · intro j h
    rw [trigT_128, turnL_128]
    exact near_rot h
  · intro j h0 h1
    by_cases h : j ≤ 64
    · have e : turnL a b j = small a b j false := by
        unfold turnL quarts
        rw [show j % 512 % 128 = j by omega, if_pos h, if_pos h, show j % 512 / 128 = 0 by omega]
        rfl
      rw [e]
      exact (small_near h0 h ha ha1 hb hb1).1
    · have e : turnL a b j = rot (small a b (128 - j) true) := by
        unfold turnL quarts
        rw [show j % 512 % 128 = j by omega, if_neg h, if_neg h, show j % 512 / 128 = 0 by omega]
        rfl
      have e2 : trigT j = rot (trigT (-(128 - j))) := by rw [← trigT_128]; exact congrArg trigT (by omega)
      rw [e, e2]
      exact near_rot (small_near (by omega) (by omega) ha ha1 hb hb1).2
end Go.Proofs.Ytlfiaaoegeodnaa

namespace Go.Proofs.Ytlfiaaoegeodnaa

theorem trig_sum_all : ∀ k : Fin 512, ((trigT k.val).1.natAbs : Int) + (trigT k.val).2.natAbs ≤ 1518500276 := by decide +kernel
theorem trig_sum (k : Int) : ((trigT k).1.natAbs : Int) + (trigT k).2.natAbs ≤ 1518500276 := by
  have h := trig_sum_all ⟨(k % 512).toNat, by omega⟩
  have e : (((k % 512).toNat : Nat) : Int) = k % 512 := by omega
  simp only [e] at h
  rw [trigT_512] at h
  exact h

theorem turned_in {m a b c s : Int} (ha : -m ≤ a) (ha1 : a ≤ m) (hb : -m ≤ b) (hb1 : b ≤ m) (h : (c.natAbs : Int) + s.natAbs ≤ 1518500276) :
    -(m * 1518500276) ≤ a * c - b * s ∧ a * c - b * s ≤ m * 1518500276 ∧ -(m * 1518500276) ≤ a * s + b * c ∧ a * s + b * c ≤ m * 1518500276 := by
  have h1 := mul_in (x := a) (y := c) (c := (c.natAbs : Int)) ha ha1 (by omega) (by omega)
  have h2 := mul_in (x := b) (y := s) (c := (s.natAbs : Int)) hb hb1 (by omega) (by omega)
  have h3 := mul_in (x := a) (y := s) (c := (s.natAbs : Int)) ha ha1 (by omega) (by omega)
  have h4 := mul_in (x := b) (y := c) (c := (c.natAbs : Int)) hb hb1 (by omega) (by omega)
  have h5 : m * ((c.natAbs : Int) + s.natAbs) ≤ m * 1518500276 := Int.mul_le_mul_of_nonneg_left h (by omega)
  rw [Int.mul_add] at h5
  omega

theorem sq_parts {a b c s x y : Int} : 1152921504606846976 * (x * x + y * y) = (a * a + b * b) * (c * c + s * s) +
    2 * ((a * c - b * s) * (1073741824 * x - (a * c - b * s)) + (a * s + b * c) * (1073741824 * y - (a * s + b * c))) +
    ((1073741824 * x - (a * c - b * s)) * (1073741824 * x - (a * c - b * s)) + (1073741824 * y - (a * s + b * c)) * (1073741824 * y - (a * s + b * c))) := by grind

theorem sq_nonneg (x : Int) : 0 ≤ x * x := by
  rcases Int.le_total 0 x with h | h
  · exact Int.mul_nonneg h h
  · exact Int.mul_nonneg_of_nonpos_of_nonpos h h

theorem exp_1 (m : Int) : m * 1518500276 * (65536 * m + 1296121856) = 99516434087936 * (m * m) + 1968161396065632256 * m := by grind
theorem exp_2 (m : Int) : (65536 * m + 1296121856) * (65536 * m + 1296121856) = 4294967296 * (m * m) + 169885283909632 * m + 1679931865600884736 := by grind

theorem size_near {m a b c s x y : Int} (_hm : 0 ≤ m) (ha : -m ≤ a) (ha1 : a ≤ m) (hb : -m ≤ b) (hb1 : b ≤ m) (hS : m * m ≤ a * a + b * b)
    (h : (c.natAbs : Int) + s.natAbs ≤ 1518500276) (hc1 : c * c + s * s ≤ 1152921504606846976 + 4398046511104) (hc2 : 1152921504606846976 - 4398046511104 ≤ c * c + s * s)
    (hn : TurnNear m a b c s x y) :
    1024 * (x * x + y * y - (a * a + b * b)) ≤ a * a + b * b + 8192 * m + 8192 ∧ 1024 * ((a * a + b * b) - (x * x + y * y)) ≤ a * a + b * b + 8192 * m + 8192 := by
  have hk := sq_parts (a := a) (b := b) (c := c) (s := s) (x := x) (y := y)
  have hU := turned_in ha ha1 hb hb1 h
  obtain ⟨n1, n2, n3, n4⟩ := hn
  generalize 1073741824 * x - (a * c - b * s) = e1 at *
  generalize 1073741824 * y - (a * s + b * c) = e2 at *
  generalize a * c - b * s = U at *
  generalize a * s + b * c = V at *
  have q1 := mul_in hU.1 hU.2.1 n1 n2
  have q2 := mul_in hU.2.2.1 hU.2.2.2 n3 n4
  have q3 := mul_in n1 n2 n1 n2
  have q4 := mul_in n3 n4 n3 n4
  have s1 : (a * a + b * b) * (c * c + s * s) ≤ (a * a + b * b) * (1152921504606846976 + 4398046511104) := Int.mul_le_mul_of_nonneg_left hc1 (by have := sq_nonneg a; have := sq_nonneg b; omega)
  have s2 : (a * a + b * b) * (1152921504606846976 - 4398046511104) ≤ (a * a + b * b) * (c * c + s * s) := Int.mul_le_mul_of_nonneg_left hc2 (by have := sq_nonneg a; have := sq_nonneg b; omega)
  have t1 := sq_nonneg e1
  have t2 := sq_nonneg e2
  have t3 := sq_nonneg m
  rw [exp_1] at q1 q2
  rw [exp_2] at q3 q4
  generalize (a * a + b * b) * (c * c + s * s) = W at *
  generalize hX : x * x + y * y = X at *
  generalize hA : a * a + b * b = A at *
  generalize hM : m * m = M at *
  generalize U * e1 = k1 at *
  generalize V * e2 = k2 at *
  generalize e1 * e1 = k3 at *
  generalize e2 * e2 = k4 at *
  omega

theorem turnL_size {m a b : Int} (hm : 0 ≤ m) (ha : -m ≤ a) (ha1 : a ≤ m) (hb : -m ≤ b) (hb1 : b ≤ m) (hS : m * m ≤ a * a + b * b) (k : Int) :
    1024 * ((turnL a b k).1 * (turnL a b k).1 + (turnL a b k).2 * (turnL a b k).2 - (a * a + b * b)) ≤ a * a + b * b + 8192 * m + 8192 ∧
    1024 * ((a * a + b * b) - ((turnL a b k).1 * (turnL a b k).1 + (turnL a b k).2 * (turnL a b k).2)) ≤ a * a + b * b + 8192 * m + 8192 := by
  have hc := trig_close k
  exact size_near hm ha ha1 hb hb1 hS (trig_sum k) (by omega) (by omega) (turnL_near ha ha1 hb hb1 k)

theorem twice_id {a b c1 s1 c2 s2 c3 s3 x1 y1 x2 x3 : Int} :
    1152921504606846976 * (x2 - x3) = (a * (c1 * c2 - s1 * s2 - c3 * 1073741824) - b * (c1 * s2 + s1 * c2 - s3 * 1073741824)) +
      ((1073741824 * x1 - (a * c1 - b * s1)) * c2 - (1073741824 * y1 - (a * s1 + b * c1)) * s2) +
      1073741824 * (1073741824 * x2 - (x1 * c2 - y1 * s2)) - 1073741824 * (1073741824 * x3 - (a * c3 - b * s3)) := by grind
theorem twice_id2 {a b c1 s1 c2 s2 c3 s3 x1 y1 y2 y3 : Int} :
    1152921504606846976 * (y2 - y3) = (a * (c1 * s2 + s1 * c2 - s3 * 1073741824) + b * (c1 * c2 - s1 * s2 - c3 * 1073741824)) +
      ((1073741824 * x1 - (a * c1 - b * s1)) * s2 + (1073741824 * y1 - (a * s1 + b * c1)) * c2) +
      1073741824 * (1073741824 * y2 - (x1 * s2 + y1 * c2)) - 1073741824 * (1073741824 * y3 - (a * s3 + b * c3)) := by grind

theorem near_small {m a b c s x y : Int} (_hm : 0 ≤ m) (ha : -m ≤ a) (ha1 : a ≤ m) (hb : -m ≤ b) (hb1 : b ≤ m) (h : (c.natAbs : Int) + s.natAbs ≤ 1518500276) (hn : TurnNear m a b c s x y) :
    -(2 * m + 2) ≤ x ∧ x ≤ 2 * m + 2 ∧ -(2 * m + 2) ≤ y ∧ y ≤ 2 * m + 2 := by
  have hU := turned_in ha ha1 hb hb1 h
  obtain ⟨n1, n2, n3, n4⟩ := hn
  omega

theorem turnL_twice {m a b : Int} (hm : 0 ≤ m) (ha : -m ≤ a) (ha1 : a ≤ m) (hb : -m ≤ b) (hb1 : b ≤ m) (j k : Int) :
    (turnL (turnL a b j).1 (turnL a b j).2 k).1 - (turnL a b (j + k)).1 ≤ m / 256 + 16 ∧ (turnL a b (j + k)).1 - (turnL (turnL a b j).1 (turnL a b j).2 k).1 ≤ m / 256 + 16 ∧
    (turnL (turnL a b j).1 (turnL a b j).2 k).2 - (turnL a b (j + k)).2 ≤ m / 256 + 16 ∧ (turnL a b (j + k)).2 - (turnL (turnL a b j).1 (turnL a b j).2 k).2 ≤ m / 256 + 16 := by
  have h1 := turnL_near ha ha1 hb hb1 j
  have h3 := turnL_near ha ha1 hb hb1 (j + k)
  have hs := near_small hm ha ha1 hb hb1 (trig_sum j) h1
  have h2 := turnL_near hs.1 hs.2.1 hs.2.2.1 hs.2.2.2 k
  have hn := near_all j k
  have ht := trigT_bd k
  generalize turnL (turnL a b j).1 (turnL a b j).2 k = z2 at *
  generalize turnL a b (j + k) = z3 at *
  generalize turnL a b j = z1 at *
  generalize trigT (j + k) = w3 at *
  generalize trigT j = w1 at *
  generalize trigT k = w2 at *
  obtain ⟨x1, y1⟩ := z1
  obtain ⟨x2, y2⟩ := z2
  obtain ⟨x3, y3⟩ := z3
  obtain ⟨c1, s1⟩ := w1
  obtain ⟨c2, s2⟩ := w2
  obtain ⟨c3, s3⟩ := w3
  dsimp only at *
  have k1 := twice_id (a := a) (b := b) (c1 := c1) (s1 := s1) (c2 := c2) (s2 := s2) (c3 := c3) (s3 := s3) (x1 := x1) (y1 := y1) (x2 := x2) (x3 := x3)
  have k2 := twice_id2 (a := a) (b := b) (c1 := c1) (s1 := s1) (c2 := c2) (s2 := s2) (c3 := c3) (s3 := s3) (x1 := x1) (y1 := y1) (y2 := y2) (y3 := y3)
  obtain ⟨a1, a2, a3, a4⟩ := h1
  obtain ⟨b1, b2, b3, b4⟩ := h2
  obtain ⟨d1, d2, d3, d4⟩ := h3
  obtain ⟨n1, n2, n3, n4⟩ := hn
  dsimp only at n1 n2 n3 n4
  generalize 1073741824 * x1 - (a * c1 - b * s1) = e1 at *
  generalize 1073741824 * y1 - (a * s1 + b * c1) = e2 at *
  generalize 1073741824 * x2 - (x1 * c2 - y1 * s2) = e3 at *
  generalize 1073741824 * y2 - (x1 * s2 + y1 * c2) = e4 at *
  generalize 1073741824 * x3 - (a * c3 - b * s3) = e5 at *
  generalize 1073741824 * y3 - (a * s3 + b * c3) = e6 at *
  generalize c1 * c2 - s1 * s2 - c3 * 1073741824 = g1 at *
  generalize c1 * s2 + s1 * c2 - s3 * 1073741824 = g2 at *
  have q1 := mul_in ha ha1 n1 n2
  have q2 := mul_in hb hb1 n3 n4
  have q3 := mul_in ha ha1 n3 n4
  have q4 := mul_in hb hb1 n1 n2
  have q5 := mul_in a1 a2 ht.1 ht.2.1
  have q6 := mul_in a3 a4 ht.2.2.1 ht.2.2.2
  have q7 := mul_in a1 a2 ht.2.2.1 ht.2.2.2
  have q8 := mul_in a3 a4 ht.1 ht.2.1
  generalize a * g1 = t1 at *
  generalize b * g2 = t2 at *
  generalize a * g2 = t3 at *
  generalize b * g1 = t4 at *
  generalize e1 * c2 = t5 at *
  generalize e2 * s2 = t6 at *
  generalize e1 * s2 = t7 at *
  generalize e2 * c2 = t8 at *
  refine ⟨?_, ?_, ?_, ?_⟩ <;> omega

theorem part_between {y f : Int} (h0 : 0 ≤ f) (h1 : f ≤ 32768) : (y ≤ part y f ∨ 0 ≤ part y f) ∧ (part y f ≤ y ∨ part y f ≤ 0) := by
  unfold part
  rcases Int.le_total 0 y with h | h
  · have a1 := Int.mul_nonneg h h0
    have a2 : y * f ≤ y * 32768 := Int.mul_le_mul_of_nonneg_left h1 h
    omega
  · have a1 : y * f ≤ 0 := Int.mul_nonpos_of_nonpos_of_nonneg h h0
    have a2 : y * 32768 ≤ y * f := Int.mul_le_mul_of_nonpos_left h h1
    omega
theorem part_whole (y : Int) : part y 32768 = y := by unfold part; omega

end Go.Proofs.Ytlfiaaoegeodnaa

namespace Go.Proofs.Ytlfiaaoegeodnaa

theorem unrots_succ : ∀ n p, unrots (n + 1) p = ((unrots n p).2, -(unrots n p).1) := by
  intro n
  induction n with
  | zero => intro p; rfl
  | succ n ih => intro p; rw [unrots, ih]; rfl
theorem unrots_4 (p : Int × Int) : unrots 4 p = p := by
  obtain ⟨x, y⟩ := p
  simp only [unrots, Int.neg_neg]

theorem backL_128 (a b k : Int) : backL a b (k + 128) = backL b (-a) k := by
  have e : (k + 128) % 512 % 128 = k % 512 % 128 := by omega
  have h : ∀ n, unrots (n + 1) (a, b) = unrots n (b, -a) := fun n => rfl
  unfold backL quarts
  rw [e]
  have hq : k % 512 / 128 = 0 ∨ k % 512 / 128 = 1 ∨ k % 512 / 128 = 2 ∨ k % 512 / 128 = 3 := by omega
  split
  · rcases hq with hq | hq | hq | hq
    · rw [hq, show (k + 128) % 512 / 128 = 1 by omega]; rfl
    · rw [hq, show (k + 128) % 512 / 128 = 2 by omega]; rfl
    · rw [hq, show (k + 128) % 512 / 128 = 3 by omega]; rfl
    · rw [hq, show (k + 128) % 512 / 128 = 0 by omega]
      show small (unrots 0 (a, b)).1 (unrots 0 (a, b)).2 _ _ = small (unrots 4 (a, b)).1 (unrots 4 (a, b)).2 _ _
      rw [unrots_4]; rfl
  · rcases hq with hq | hq | hq | hq
    · rw [hq, show (k + 128) % 512 / 128 = 1 by omega]; rfl
    · rw [hq, show (k + 128) % 512 / 128 = 2 by omega]; rfl
    · rw [hq, show (k + 128) % 512 / 128 = 3 by omega]; rfl
    · rw [hq, show (k + 128) % 512 / 128 = 0 by omega]
      show small (unrots 1 (a, b)).1 (unrots 1 (a, b)).2 _ _ = small (unrots 5 (a, b)).1 (unrots 5 (a, b)).2 _ _
      rw [show unrots 5 (a, b) = unrots 4 (b, -a) from rfl, unrots_4]; rfl

theorem near_unrot {m a b c s x y : Int} (h : TurnNear m b (-a) (-s) c x y) : TurnNear m a b c s x y := by
  unfold TurnNear at *
  simp only [Int.mul_neg, Int.neg_mul] at *
  omega

theorem backL_near {m a b : Int} (ha : -m ≤ a) (ha1 : a ≤ m) (hb : -m ≤ b) (hb1 : b ≤ m) (k : Int) : TurnNear m a b (trigT (-k)).1 (trigT (-k)).2 (backL a b k).1 (backL a b k).2 := by
  refine quarters (Q := fun k => ∀ a b : Int, -m ≤ a → a ≤ m → -m ≤ b → b ≤ m → TurnNear m a b (trigT (-k)).1 (trigT (-k)).2 (backL a b k).1 (backL a b k).2) ?_ ?_ ?_ k a b ha ha1 hb hb1
  · intro j h a b h1 h2 h3 h4
    have := h a b h1 h2 h3 h4
    rw [trigT_congr (a := -(j % 512)) (b := -j) (by omega), backL_congr a b (j := j % 512) (k := j) (by omega)] at this
    exact this
  · intro j h a b h1 h2 h3 h4
    have := h b (-a) h3 h4 (by omega) (by omega)
    rw [backL_128]
    have e : trigT (-j) = rot (trigT (-(j + 128))) := by rw [← trigT_128]; exact congrArg trigT (by omega)
    rw [e] at this
    exact near_unrot this
  · intro j h0 h1 a b k1 k2 k3 k4
    by_cases h : j ≤ 64
    · have e : backL a b j = small a b j true := by
        unfold backL quarts
        rw [show j % 512 % 128 = j by omega, if_pos h, if_pos h, show j % 512 / 128 = 0 by omega]
        rfl
      rw [e]
      exact (small_near h0 h k1 k2 k3 k4).2
    · have e : backL a b j = small b (-a) (128 - j) false := by
        unfold backL quarts
        rw [show j % 512 % 128 = j by omega, if_neg h, if_neg h, show j % 512 / 128 = 0 by omega]
        rfl
      have e2 : trigT (128 - j) = rot (trigT (-j)) := by rw [← trigT_128]; exact congrArg trigT (by omega)
      have := (small_near (k := 128 - j) (a := b) (b := -a) (m := m) (by omega) (by omega) k3 k4 (by omega) (by omega)).1
      rw [e]
      rw [e2] at this
      exact near_unrot this

theorem near_in {m a b c s x y : Int} (ha : -m ≤ a) (ha1 : a ≤ m) (hb : -m ≤ b) (hb1 : b ≤ m) (h : (c.natAbs : Int) + s.natAbs ≤ 1518500276) (hn : TurnNear m a b c s x y) :
    -(m + m / 2 + 2) ≤ x ∧ x ≤ m + m / 2 + 2 ∧ -(m + m / 2 + 2) ≤ y ∧ y ≤ m + m / 2 + 2 := by
  have hU := turned_in ha ha1 hb hb1 h
  obtain ⟨n1, n2, n3, n4⟩ := hn
  omega

theorem turnL_in {c a b k : Int} (_hc : 0 ≤ c) (ha : -c ≤ a) (ha1 : a ≤ c) (hb : -c ≤ b) (hb1 : b ≤ c) :
    -(c + c / 2 + 2) ≤ (turnL a b k).1 ∧ (turnL a b k).1 ≤ c + c / 2 + 2 ∧ -(c + c / 2 + 2) ≤ (turnL a b k).2 ∧ (turnL a b k).2 ≤ c + c / 2 + 2 :=
  near_in ha ha1 hb hb1 (trig_sum k) (turnL_near ha ha1 hb hb1 k)
theorem backL_in {c a b k : Int} (_hc : 0 ≤ c) (ha : -c ≤ a) (ha1 : a ≤ c) (hb : -c ≤ b) (hb1 : b ≤ c) :
    -(c + c / 2 + 2) ≤ (backL a b k).1 ∧ (backL a b k).1 ≤ c + c / 2 + 2 ∧ -(c + c / 2 + 2) ≤ (backL a b k).2 ∧ (backL a b k).2 ≤ c + c / 2 + 2 :=
  near_in ha ha1 hb hb1 (trig_sum (-k)) (backL_near ha ha1 hb hb1 k)

theorem backL_size {m a b : Int} (hm : 0 ≤ m) (ha : -m ≤ a) (ha1 : a ≤ m) (hb : -m ≤ b) (hb1 : b ≤ m) (hS : m * m ≤ a * a + b * b) (k : Int) :
    1024 * ((backL a b k).1 * (backL a b k).1 + (backL a b k).2 * (backL a b k).2 - (a * a + b * b)) ≤ a * a + b * b + 8192 * m + 8192 := by
  have hc := trig_close (-k)
  exact (size_near hm ha ha1 hb hb1 hS (trig_sum (-k)) (by omega) (by omega) (backL_near ha ha1 hb hb1 k)).1
end Go.Proofs.Ytlfiaaoegeodnaa

namespace Go.Proofs.Ytlfiaaoegeodnaa

/-- all numbers are from -c to c -/
def AllIn (c : Int) (zs : List Int) : Prop := ∀ z ∈ zs, -c ≤ z ∧ z ≤ c
theorem allIn_get {c : Int} {zs : List Int} (h : AllIn c zs) (i : Nat) (hc : 0 ≤ c := by omega) : -c ≤ zs.getD i 0 ∧ zs.getD i 0 ≤ c := by
  rw [List.getD_eq_getElem?_getD]
  cases hi : zs[i]? with
  | none => simp; omega
  | some z => exact h z (List.mem_of_getElem? hi)
theorem allIn_set {c : Int} {zs : List Int} (h : AllIn c zs) (i : Nat) {v : Int} (h0 : -c ≤ v) (h1 : v ≤ c) : AllIn c (zs.set i v) := by
  intro z hz
  rcases List.mem_or_eq_of_mem_set hz with hz | rfl
  · exact h z hz
  · exact ⟨h0, h1⟩
theorem allIn_mono {c d : Int} {zs : List Int} (h : AllIn c zs) (hcd : c ≤ d) : AllIn d zs := fun z hz => by have := h z hz; omega

def wTurn (i : Nat) (k : Int) (zs : List Int) : List Int :=
  (zs.set (i * 2) (turnL (zs.getD (i * 2) 0) (zs.getD (i * 2 + 1) 0) k).1).set (i * 2 + 1) (turnL (zs.getD (i * 2) 0) (zs.getD (i * 2 + 1) 0) k).2
def wBack (i : Nat) (k : Int) (zs : List Int) : List Int :=
  (zs.set (i * 2) (backL (zs.getD (i * 2) 0) (zs.getD (i * 2 + 1) 0) k).1).set (i * 2 + 1) (backL (zs.getD (i * 2) 0) (zs.getD (i * 2 + 1) 0) k).2
/-- two numbers crossed -/
def wCross1 (p q : Nat) (zs : List Int) : List Int :=
  (zs.set p (turnL (zs.getD p 0) (zs.getD q 0) 64).2).set q (turnL (zs.getD p 0) (zs.getD q 0) 64).1
def wUncross1 (p q : Nat) (zs : List Int) : List Int :=
  (zs.set p (backL (zs.getD q 0) (zs.getD p 0) 64).1).set q (backL (zs.getD q 0) (zs.getD p 0) 64).2
theorem wCross1_in {p q : Nat} {c : Int} {zs : List Int} (h : AllIn c zs) (hc : 0 ≤ c) : AllIn (c + c / 2 + 2) (wCross1 p q zs) := by
  have h1 := allIn_get h p
  have h2 := allIn_get h q
  have h3 := turnL_in (a := zs.getD p 0) (b := zs.getD q 0) (k := 64) hc h1.1 h1.2 h2.1 h2.2
  exact allIn_set (allIn_set (allIn_mono h (by omega)) p h3.2.2.1 h3.2.2.2) q h3.1 h3.2.1
theorem wUncross1_in {p q : Nat} {c : Int} {zs : List Int} (h : AllIn c zs) (hc : 0 ≤ c) : AllIn (c + c / 2 + 2) (wUncross1 p q zs) := by
  have h1 := allIn_get h p
  have h2 := allIn_get h q
  have h3 := backL_in (a := zs.getD q 0) (b := zs.getD p 0) (k := 64) hc h2.1 h2.2 h1.1 h1.2
  exact allIn_set (allIn_set (allIn_mono h (by omega)) p h3.1 h3.2.1) q h3.2.2.1 h3.2.2.2
def wCross (i j : Nat) (zs : List Int) : List Int := wCross1 (i * 2 + 1) (j * 2 + 1) (wCross1 (i * 2) (j * 2) zs)
def wUncross (i j : Nat) (zs : List Int) : List Int := wUncross1 (i * 2 + 1) (j * 2 + 1) (wUncross1 (i * 2) (j * 2) zs)

end Go.Proofs.Ytlfiaaoegeodnaa
