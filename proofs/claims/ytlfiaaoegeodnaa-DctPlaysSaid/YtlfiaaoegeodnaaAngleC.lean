/- Plain laws on angles: the sum of two angles. No Go in it. -/
import Derived.Test.YtlfiaaoegeodnaaAngleB
namespace Go.Proofs.Ytlfiaaoegeodnaa

def tab : List (Int × Int) := [(1073741824, 0), (1073660972, 13176485), (1073418432, 26350953), (1073014237, 39521485), (1072448454, 52686017), (1071721160, 65842663), (1070832471, 78989361), (1069782516, 92124196), (1068571463, 105245105), (1067199479, 118350217), (1065666783, 131437473), (1063973596, 144504968), (1062120188, 157550652), (1060106819, 170572658), (1057933808, 183568944), (1055601469, 196537617), (1053110175, 209476638), (1050460272, 222384167), (1047652181, 235258174), (1044686309, 248096784), (1041563125, 260897984), (1038283071, 273659941), (1034846665, 286380654), (1031254405, 299058271), (1027506860, 311690800), (1023604558, 324276440), (1019548115, 336813214), (1015338121, 349299296), (1010975239, 361732729), (1006460089, 374111732), (1001793382, 386434365), (996975796, 398698832), (992008094, 410903207), (986890974, 423045751), (981625246, 435124556), (976211674, 447137863), (970651110, 459083788), (964944347, 470960621), (959092283, 482766499), (953095767, 494499704), (946955745, 506158394), (940673088, 517740903), (934248785, 529245414), (927683771, 540670250), (920979078, 552013622), (914135662, 563273904), (907154598, 574449331), (900036902, 585538276), (892783697, 596538995), (885396008, 607449923), (877875001, 618269345), (870221770, 628995684), (862437516, 639627259), (854523352, 650162547), (846480521, 660599898), (838310192, 670937790), (830013651, 681174603), (821592078, 691308872), (813046798, 701339007), (804379054, 711263548), (795590207, 721080939), (786681513, 730789773), (777654371, 740388530), (768510093, 749875810), (759250124, 759250124), (749875771, 768510135), (740388514, 777654389), (730789732, 786681553), (721080933, 795590213), (711263505, 804379092), (701338988, 813046814), (691308827, 821592114), (681174599, 830013654), (670937746, 838310228), (660599879, 846480536), (650162501, 854523386), (639627252, 862437521), (628995637, 870221803), (618269324, 877875014), (607449875, 885396038), (596538994, 892783696), (585538228, 900036933), (574449310, 907154610), (563273854, 914135690), (552013614, 920979081), (540670200, 927683799), (529245391, 934248796), (517740851, 940673113), (506158389, 946955745), (494499653, 953095792), (482766477, 959092292), (470960568, 964944370), (459083780, 970651111), (447137810, 976211695), (435124533, 981625252), (423045697, 986890992), (410903206, 992008093), (398698780, 996975818), (386434343, 1001793391), (374111679, 1006460108), (361732722, 1010975241), (349299243, 1015338139), (336813191, 1019548122), (324276385, 1023604573), (311690796, 1027506860), (299058216, 1031254421), (286380630, 1034846671), (273659885, 1038283084), (260897976, 1041563125), (248096728, 1044686321), (235258150, 1047652184), (222384111, 1050460281), (209476638, 1053110173), (196537562, 1055601479), (183568921, 1057933811), (170572602, 1060106826), (157550644, 1062120187), (144504911, 1063973602), (131437449, 1065666783), (118350160, 1067199481), (105245101, 1068571460), (92124140, 1069782519), (78989337, 1070832470), (65842606, 1071721159), (52686009, 1072448451), (39521428, 1073014236), (26350929, 1073418428), (13176428, 1073660967)]
theorem tab_len : tab.length = 128 := by decide +kernel
theorem tab_all : ∀ k : Fin 128, tab[k.val]? = some (bel k.val 7) := by decide +kernel
def tab2 : List (Int × Int) := tab ++ tab.map rot

/-- r is nearly the turn by both: but for B, by 2^30 -/
def Near (B : Int) (p q r : Int × Int) : Prop :=
  -B ≤ p.1 * q.1 - p.2 * q.2 - r.1 * 1073741824 ∧ p.1 * q.1 - p.2 * q.2 - r.1 * 1073741824 ≤ B ∧
  -B ≤ p.1 * q.2 + p.2 * q.1 - r.2 * 1073741824 ∧ p.1 * q.2 + p.2 * q.1 - r.2 * 1073741824 ≤ B
instance (B : Int) (p q r : Int × Int) : Decidable (Near B p q r) := by unfold Near; exact inferInstance

def nearRow (B : Int) (p : Int × Int) : List (Int × Int) → List (Int × Int) → Bool
  | q :: qs, r :: rs => decide (Near B p q r) && nearRow B p qs rs
  | _, _ => true
def nearTab (B : Int) (qs : List (Int × Int)) : List (Int × Int) → List (Int × Int) → Bool
  | p :: ps, r :: rs => nearRow B p qs (r :: rs) && nearTab B qs ps rs
  | _, _ => true

theorem nearRow_get {B : Int} {p : Int × Int} : ∀ {qs rs : List (Int × Int)} {i : Nat} {q r : Int × Int}, nearRow B p qs rs = true → qs[i]? = some q → rs[i]? = some r → Near B p q r
  | [], _, _, _, _, _, h, _ => by simp at h
  | _ :: _, [], _, _, _, _, _, h => by simp at h
  | q' :: qs, r' :: rs, 0, q, r, h, hq, hr => by
    simp only [nearRow, Bool.and_eq_true, decide_eq_true_eq] at h
    simp at hq hr
    subst hq hr
    exact h.1
  | q' :: qs, r' :: rs, i + 1, q, r, h, hq, hr => by
    simp only [nearRow, Bool.and_eq_true, decide_eq_true_eq] at h
    simp at hq hr
    exact nearRow_get h.2 hq hr

theorem nearTab_get {B : Int} {qs : List (Int × Int)} : ∀ {ps rs : List (Int × Int)} {i j : Nat} {p q r : Int × Int}, nearTab B qs ps rs = true → ps[j]? = some p → qs[i]? = some q → rs[j + i]? = some r → Near B p q r
  | [], _, _, _, _, _, _, _, h, _, _ => by simp at h
  | _ :: _, [], _, _, _, _, _, _, _, _, h => by simp at h
  | p' :: ps, r' :: rs, i, 0, p, q, r, h, hp, hq, hr => by
    simp only [nearTab, Bool.and_eq_true] at h
    simp at hp
    subst hp
    rw [Nat.zero_add] at hr
    exact nearRow_get h.1 hq hr
  | p' :: ps, r' :: rs, i, j + 1, p, q, r, h, hp, hq, hr => by
    simp only [nearTab, Bool.and_eq_true] at h
    simp at hp
    rw [Nat.add_right_comm] at hr
    simp at hr
    exact nearTab_get h.2 hp hq hr

theorem near_tab : nearTab 64424509440 tab tab tab2 = true := by decide +kernel

theorem tab_trig {k : Nat} (h : k < 128) : tab[k]? = some (trigT k) := by
  rw [tab_all ⟨k, h⟩, trigT_0 (by omega), show (k : Int) % 512 % 128 = k by omega]
theorem tab2_trig {k : Nat} (h : k < 256) : tab2[k]? = some (trigT k) := by
  unfold tab2
  by_cases h1 : k < 128
  · rw [List.getElem?_append_left (by rw [tab_len]; exact h1), tab_trig h1]
  · rw [List.getElem?_append_right (by rw [tab_len]; omega), tab_len, List.getElem?_map, tab_trig (by omega)]
    have := trigT_128 (k - 128 : Int)
    rw [show (k : Int) - 128 + 128 = k by omega] at this
    rw [this, show ((k - 128 : Nat) : Int) = (k : Int) - 128 by omega]
    rfl

theorem near_low {j k : Nat} (hj : j < 128) (hk : k < 128) : Near 64424509440 (trigT j) (trigT k) (trigT (j + k)) := by
  have := nearTab_get near_tab (tab_trig hj) (tab_trig hk) (tab2_trig (k := j + k) (by omega))
  rwa [Int.natCast_add] at this

theorem near_rot_left {B : Int} {p q r : Int × Int} (h : Near B p q r) : Near B (rot p) q (rot r) := by
  unfold Near rot at *
  simp only [Int.neg_mul] at *
  omega
theorem near_rot_right {B : Int} {p q r : Int × Int} (h : Near B p q r) : Near B p (rot q) (rot r) := by
  unfold Near rot at *
  simp only [Int.mul_neg, Int.neg_mul] at *
  omega

theorem near_all (j k : Int) : Near 64424509440 (trigT j) (trigT k) (trigT (j + k)) := by
  refine quarters (Q := fun j => ∀ k, Near 64424509440 (trigT j) (trigT k) (trigT (j + k))) ?_ ?_ ?_ j k
  · intro j h k
    have := h k
    rw [trigT_512, trigT_congr (a := j % 512 + k) (b := j + k) (by omega)] at this
    exact this
  · intro j h k
    rw [trigT_128, show j + 128 + k = j + k + 128 by omega, trigT_128]
    exact near_rot_left (h k)
  · intro j h0 h1
    refine quarters (Q := fun k => Near 64424509440 (trigT j) (trigT k) (trigT (j + k))) ?_ ?_ ?_
    · intro k h
      rw [trigT_512, trigT_congr (a := j + k % 512) (b := j + k) (by omega)] at h
      exact h
    · intro k h
      rw [trigT_128, show j + (k + 128) = j + k + 128 by omega, trigT_128]
      exact near_rot_right h
    · intro k h2 h3
      obtain ⟨a, rfl⟩ := Int.eq_ofNat_of_zero_le h0
      obtain ⟨b, rfl⟩ := Int.eq_ofNat_of_zero_le h2
      exact near_low (by omega) (by omega)

theorem sum_near (j k : Int) : ((trigT j).1 * (trigT k).1 - (trigT j).2 * (trigT k).2) / 1073741824 - (trigT (j + k)).1 ≤ 8192 ∧
    (trigT (j + k)).1 - ((trigT j).1 * (trigT k).1 - (trigT j).2 * (trigT k).2) / 1073741824 ≤ 8192 ∧
    ((trigT j).1 * (trigT k).2 + (trigT j).2 * (trigT k).1) / 1073741824 - (trigT (j + k)).2 ≤ 8192 ∧
    (trigT (j + k)).2 - ((trigT j).1 * (trigT k).2 + (trigT j).2 * (trigT k).1) / 1073741824 ≤ 8192 := by
  have h := near_all j k
  unfold Near at h
  generalize (trigT j).1 * (trigT k).1 - (trigT j).2 * (trigT k).2 = u at *
  generalize (trigT j).1 * (trigT k).2 + (trigT j).2 * (trigT k).1 = v at *
  omega
end Go.Proofs.Ytlfiaaoegeodnaa
