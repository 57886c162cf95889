/- Bits (layer 6): what was laid, as a number; what is read of it (plain). Bits (layer 6): what is read (plain). Vectors of so many pulses (layer 14): the vector of a number (plain). Packets (layer 14):  -/
import Derived.Test.YtiigipnfnfpepaaGreatDoorUC17
import Derived.Laws.BitsLemmas
namespace Go.Proofs.YtiigipnfnfpepaaGreatDoor

def valL : List UInt8 → Nat
 | [] => 0
 | b :: l => b.toNat * 256 ^ l.length + valL l
theorem valL_app : ∀ (o p : List UInt8), valL (o ++ p) = valL o * 256 ^ p.length + valL p
 | [], p => by simp [valL]
 | b :: l, p => by
  rw [List.cons_append, valL, valL, valL_app l p, List.length_append, Nat.pow_add, Nat.add_mul, Nat.mul_assoc, Nat.add_assoc]
theorem valL_lt : ∀ l : List UInt8, valL l < 256 ^ l.length
 | [] => by simp [valL]
 | b :: l => by
  have h1 := valL_lt l
  have h2 : b.toNat < 256 := b.toNat_lt
  rw [valL, List.length_cons, Nat.pow_succ]
  have h3 : b.toNat * 256 ^ l.length + 256 ^ l.length ≤ 256 * 256 ^ l.length := by
   rw [← Nat.succ_mul]; exact Nat.mul_le_mul_right _ h2
  omega
theorem valL_zeros : ∀ n : Nat, valL (List.replicate n 0) = 0
 | 0 => rfl
 | n + 1 => by rw [List.replicate_succ, valL, valL_zeros n]; simp
theorem pow256 (n : Nat) : 256 ^ n = 2 ^ (8 * n) := by rw [show (256 : Nat) = 2 ^ 8 from rfl, ← Nat.pow_mul]

structure WV (o : List UInt8) (n N : Nat) : Prop where
 len : o.length = (n + 7) / 8
 val : valL o = N * 2 ^ (8 * o.length - n)
 lt : N < 2 ^ n

theorem oneX_is : ∀ r, r < 8 → ∀ m, m < 2 ^ r → ∀ b : Nat, b < 2 → oneX r (b : Int) ((m * 2 ^ (8 - r) : Nat) : Int) = ((m * 2 ^ (8 - r) + b * 2 ^ (7 - r) : Nat) : Int) := by decide +kernel

theorem wv_one {o : List UInt8} {n N : Nat} (h : WV o n N) {b : Nat} (hb : b < 2) : WV (oneO o n (b : Int)) (n + 1) (2 * N + b) := by
 obtain ⟨q, r, hn, hr⟩ : ∃ q r, n = 8 * q + r ∧ r < 8 := ⟨n / 8, n % 8, by omega, by omega⟩
 have hq : n / 8 = q := by omega
 have hr8 : n % 8 = r := by omega
 have hl := h.len
 have hroom : (roomO o n).length = q + 1 ∧ valL (roomO o n) = N * 2 ^ (8 - r) := by
  rw [roomO, hr8]
  by_cases h0 : r = 0
  · rw [if_pos h0, List.length_append, valL_app, h.val]
    have e : o.length = q := by omega
    refine ⟨by simp [e], ?_⟩
    rw [e, hn, h0]
    simp [valL]
  · rw [if_neg h0]
    have e : o.length = q + 1 := by omega
    refine ⟨e, ?_⟩
    rw [h.val, e, show 8 * (q + 1) - n = 8 - r by omega]
 obtain ⟨h1, h2⟩ := hroom
 rw [oneO, hq, hr8]
 generalize roomO o n = o1 at *
 obtain ⟨p, x, rfl⟩ : ∃ p x, o1 = p ++ [x] := by
  have : o1 ≠ [] := fun e => by rw [e] at h1; simp at h1
  exact ⟨o1.dropLast, o1.getLast this, (List.dropLast_concat_getLast this).symm⟩
 have hp : p.length = q := by simpa using h1
 have hx : (p ++ [x]).getD q 0 = x := by rw [List.getD_eq_getElem?_getD, ← hp]; simp
 rw [hx]
 rw [valL_app] at h2
 have hv1 : valL [x] = x.toNat := by simp [valL]
 rw [hv1, List.length_singleton, Nat.pow_one] at h2
 have hx256 : x.toNat < 256 := x.toNat_lt
 have h256 : (256 : Nat) = 2 ^ r * 2 ^ (8 - r) := by rw [← Nat.pow_add, show r + (8 - r) = 8 by omega]
 have hxm : ∃ m, x.toNat = m * 2 ^ (8 - r) ∧ m < 2 ^ r := by
  have hd : 2 ^ (8 - r) ∣ x.toNat := by
   have h3 : 2 ^ (8 - r) ∣ valL p * 256 + x.toNat := ⟨N, by rw [h2, Nat.mul_comm]⟩
   have h4 : 2 ^ (8 - r) ∣ valL p * 256 := ⟨valL p * 2 ^ r, by rw [h256]; rw [Nat.mul_comm (2 ^ (8 - r)), ← Nat.mul_assoc]⟩
   exact (Nat.dvd_add_right h4).1 h3
  obtain ⟨m, hm⟩ := hd
  refine ⟨m, by rw [hm, Nat.mul_comm], ?_⟩
  rw [hm, h256, Nat.mul_comm] at hx256
  exact Nat.lt_of_mul_lt_mul_right hx256
 obtain ⟨m, hm, hmr⟩ := hxm
 have ho := oneX_is r hr m hmr b hb
 rw [← hm] at ho
 have hlt : x.toNat + b * 2 ^ (7 - r) < 256 := by
  have h5 : 2 ^ (8 - r) = 2 * 2 ^ (7 - r) := by rw [show 8 - r = (7 - r) + 1 by omega, Nat.pow_succ, Nat.mul_comm]
  have h6 : b * 2 ^ (7 - r) < 2 ^ (8 - r) := by
   rw [h5]; exact Nat.mul_lt_mul_of_pos_right hb (Nat.two_pow_pos _)
  have h7 : (m + 1) * 2 ^ (8 - r) ≤ 2 ^ r * 2 ^ (8 - r) := Nat.mul_le_mul_right _ hmr
  rw [← h256, Nat.add_mul, Nat.one_mul, ← hm] at h7
  omega
 rw [ho]
 have hvb : (valB ((x.toNat + b * 2 ^ (7 - r) : Nat) : Int)).toNat = x.toNat + b * 2 ^ (7 - r) := by
  generalize x.toNat + b * 2 ^ (7 - r) = v at *
  have := valB_of (x := (v : Int)) (by omega) (by omega)
  omega
 have hset : (p ++ [x]).set q (valB ((x.toNat + b * 2 ^ (7 - r) : Nat) : Int)) = p ++ [valB ((x.toNat + b * 2 ^ (7 - r) : Nat) : Int)] := by
  rw [List.set_append_right _ _ (by omega), hp, Nat.sub_self]; rfl
 rw [hset]
 refine ⟨by simp; omega, ?_, ?_⟩
 · rw [valL_app, List.length_append, hp]
   have hv2 : ∀ y : UInt8, valL [y] = y.toNat := fun y => by simp [valL]
   rw [hv2, hvb, List.length_singleton, Nat.pow_one, ← Nat.add_assoc, h2, show 8 * (q + 1) - (n + 1) = 7 - r by omega]
   rw [show 8 - r = (7 - r) + 1 by omega, Nat.pow_succ, Nat.add_mul]
   rw [show N * (2 ^ (7 - r) * 2) = 2 * N * 2 ^ (7 - r) by rw [Nat.mul_comm (2 ^ (7 - r)) 2, ← Nat.mul_assoc, Nat.mul_comm N 2]]
 · have := h.lt
   rw [Nat.pow_succ]
   omega

theorem low_one {y : Int} (h0 : 0 ≤ y) (h1 : y < 2 ^ 62) : bits .and .i64 y 1 = y % 2 := by
 have := bits_mask .i64 62 (by decide) (fun n h0 h1 => by rw [IntKind.wrap_i64]; omega) 1 (by decide) y h0 h1
 simpa using this
theorem wv_putS {x : Nat} (hx : x < 2 ^ 62) : ∀ (n : Nat) (st : List UInt8 × Nat) (N : Nat), WV st.1 st.2 N → WV (putS x n st).1 (putS x n st).2 (N * 2 ^ n + x % 2 ^ n)
 | 0, st, N, h => by simpa [putS, Nat.mod_one] using h
 | n + 1, st, N, h => by
  rw [putS]
  have e : bits .and .i64 ((x : Int) / 2 ^ n) 1 = ((x / 2 ^ n % 2 : Nat) : Int) := by
   have e1 : ((x : Int) / 2 ^ n) = ((x / 2 ^ n : Nat) : Int) := by push_cast; rfl
   have h2 : x / 2 ^ n ≤ x := Nat.div_le_self _ _
   rw [e1]
   generalize x / 2 ^ n = y at *
   rw [low_one (Int.natCast_nonneg y) (by have : (y : Int) ≤ (x : Int) := by exact_mod_cast h2
                                          have : (x : Int) < 2 ^ 62 := by exact_mod_cast hx
                                          omega)]
   rfl
  rw [e]
  have h1 := wv_one h (b := x / 2 ^ n % 2) (Nat.mod_lt _ (by decide))
  have h2 := wv_putS hx n (oneO st.1 st.2 ((x / 2 ^ n % 2 : Nat) : Int), st.2 + 1) (2 * N + x / 2 ^ n % 2) h1
  have e2 : N * 2 ^ (n + 1) + x % 2 ^ (n + 1) = (2 * N + x / 2 ^ n % 2) * 2 ^ n + x % 2 ^ n := by
   rw [Nat.pow_succ, Nat.mod_mul, Nat.add_mul]
   rw [show N * (2 ^ n * 2) = 2 * N * 2 ^ n by rw [Nat.mul_comm (2 ^ n) 2, ← Nat.mul_assoc, Nat.mul_comm N 2], Nat.mul_comm (2 ^ n) (x / 2 ^ n % 2)]
   omega
  rw [e2]
  exact h2
theorem wv_putO {x n N : Nat} {st : List UInt8 × Nat} (h : WV st.1 st.2 N) (hx : x < 2 ^ n) (hn : n ≤ 56) : WV (putO x n st).1 (st.2 + n) (N * 2 ^ n + x) ∧ (putO x n st).2 = st.2 + n := by
 have h1 : ¬ ((x : Int) < 0 ∨ 0 < (x : Int) / 2 ^ n) := by
  have e1 : ((x : Int) / 2 ^ n) = ((x / 2 ^ n : Nat) : Int) := by push_cast; rfl
  rw [e1, Nat.div_eq_of_lt hx]
  omega
 rw [putO, if_neg h1]
 have h2 := wv_putS (x := x) (Nat.lt_of_lt_of_le hx (Nat.pow_le_pow_right (by decide) (by omega))) n st N h
 rw [Nat.mod_eq_of_lt hx] at h2
 have h3 := putS_len (x : Int) n st
 rw [h3] at h2
 exact ⟨h2, h3⟩
theorem wv_nil : WV [] 0 0 := ⟨rfl, rfl, by decide⟩
end Go.Proofs.YtiigipnfnfpepaaGreatDoor
namespace Go.Proofs.YtiigipnfnfpepaaGreatDoor

def bitN (s : List UInt8) (p : Nat) : Nat := (s.getD (p / 8) 0).toNat / 2 ^ (7 - p % 8) % 2
def getN (s : List UInt8) (p : Nat) : Nat → Nat
 | 0 => 0
 | n + 1 => 2 * getN s p n + bitN s (p + n)
theorem div_pow_add (a m n : Nat) : a / 2 ^ (m + n) = a / 2 ^ m / 2 ^ n := by rw [Nat.pow_add, Nat.div_div_eq_div_mul]
theorem bitN_val : ∀ (s : List UInt8) (p : Nat), p < 8 * s.length → bitN s p = valL s / 2 ^ (8 * s.length - 1 - p) % 2
 | [], p, h => by simp at h
 | b :: l, p, h => by
  have hlt := valL_lt l
  rw [pow256] at hlt
  rw [List.length_cons] at h ⊢
  by_cases h8 : p < 8
  · -- the first byte
    have e : 8 * (l.length + 1) - 1 - p = 8 * l.length + (7 - p) := by omega
    rw [bitN, show p / 8 = 0 by omega, List.getD_cons_zero, show p % 8 = p by omega, e, div_pow_add, valL, pow256]
    rw [Nat.mul_comm b.toNat, Nat.mul_add_div (Nat.two_pow_pos _), Nat.div_eq_of_lt hlt, Nat.add_zero]
  · have ih := bitN_val l (p - 8) (by omega)
    have e1 : bitN (b :: l) p = bitN l (p - 8) := by
     rw [bitN, bitN, show p / 8 = (p - 8) / 8 + 1 by omega, List.getD_cons_succ, show (p - 8) % 8 = p % 8 by omega]
    rw [e1, ih, show 8 * (l.length + 1) - 1 - p = 8 * l.length - 1 - (p - 8) by omega]
    generalize hk : 8 * l.length - 1 - (p - 8) = k at *
    have e2 : 8 * l.length = k + ((p - 8) + 1) := by omega
    rw [valL, pow256, e2, Nat.pow_add, ← Nat.mul_assoc, Nat.mul_comm b.toNat, Nat.mul_assoc, Nat.mul_add_div (Nat.two_pow_pos _), Nat.pow_succ, ← Nat.mul_assoc, Nat.add_comm, Nat.mul_comm _ 2, Nat.add_mul_mod_self_left]
theorem getN_val (s : List UInt8) (p : Nat) : ∀ n, p + n ≤ 8 * s.length → getN s p n = valL s / 2 ^ (8 * s.length - (p + n)) % 2 ^ n
 | 0, _ => by simp [getN, Nat.mod_one]
 | n + 1, h => by
  rw [getN, getN_val s p n (by omega), bitN_val s (p + n) (by omega)]
  have e1 : 8 * s.length - (p + n) = (8 * s.length - (p + (n + 1))) + 1 := by omega
  have e2 : 8 * s.length - 1 - (p + n) = 8 * s.length - (p + (n + 1)) := by omega
  rw [e1, e2, div_pow_add]
  generalize valL s / 2 ^ (8 * s.length - (p + (n + 1))) = v
  rw [Nat.pow_one, Nat.pow_succ, Nat.mul_comm (2 ^ n) 2, Nat.mod_mul]
  omega
def Pre (s : List UInt8) (P N : Nat) : Prop := P ≤ 8 * s.length ∧ valL s / 2 ^ (8 * s.length - P) = N
theorem pre_back {s : List UInt8} {P n N x : Nat} (h : Pre s (P + n) (N * 2 ^ n + x)) (hx : x < 2 ^ n) : Pre s P N ∧ getN s P n = x := by
 obtain ⟨h1, h2⟩ := h
 refine ⟨⟨by omega, ?_⟩, ?_⟩
 · rw [show 8 * s.length - P = (8 * s.length - (P + n)) + n by omega, div_pow_add, h2, Nat.mul_comm, Nat.mul_add_div (Nat.two_pow_pos _), Nat.div_eq_of_lt hx, Nat.add_zero]
 · rw [getN_val s P n h1, h2, Nat.mul_comm, Nat.mul_add_mod, Nat.mod_eq_of_lt hx]
theorem pre_pad {o : List UInt8} {n N : Nat} (h : WV o n N) (k : Nat) : Pre (o ++ List.replicate k 0) n N := by
 have hl := h.len
 refine ⟨by rw [List.length_append]; omega, ?_⟩
 rw [valL_app, valL_zeros, Nat.add_zero, h.val, List.length_replicate, pow256, List.length_append, List.length_replicate, Nat.mul_assoc, ← Nat.pow_add, show 8 * o.length - n + 8 * k = 8 * (o.length + k) - n by omega, Nat.mul_div_cancel _ (Nat.two_pow_pos _)]
theorem zeros_pad {o : List UInt8} {n N : Nat} (h : WV o n N) (k : Nat) {p : Nat} (hp : n ≤ p) (hp2 : p < 8 * (o ++ List.replicate k 0).length) : bitN (o ++ List.replicate k 0) p = 0 := by
 have hl := h.len
 rw [bitN_val _ _ hp2, valL_app, valL_zeros, Nat.add_zero, h.val, List.length_replicate, pow256, Nat.mul_assoc, ← Nat.pow_add]
 rw [List.length_append, List.length_replicate] at hp2 ⊢
 have e : 8 * o.length - n + 8 * k = (8 * (o.length + k) - 1 - p) + (1 + (p - n)) := by omega
 rw [e, Nat.pow_add, ← Nat.mul_assoc, Nat.mul_comm N, Nat.mul_assoc, Nat.mul_div_cancel_left _ (Nat.two_pow_pos _), Nat.pow_add, Nat.pow_one, ← Nat.mul_assoc, Nat.mul_comm N 2, Nat.mul_assoc, Nat.mul_mod_right]
end Go.Proofs.YtiigipnfnfpepaaGreatDoor
namespace Go.Proofs.YtiigipnfnfpepaaGreatDoor

def sumK (n k : Nat) (l : List Int) : Int := (l.map fun z => cntI n (k - z.natAbs)).sum
theorem cnt_rec : ∀ n, n < 4 → ∀ k, k < 13 → sumK n k (numsL k) = cntI (n + 1) k := by decide +kernel
theorem cnt_in : ∀ n, n < 5 → ∀ k, k < 13 → 0 ≤ cntI n k ∧ cntI n k < 1000000 := by decide +kernel
theorem cnt_bits : ∀ k, k < 13 → cntI 4 k ≤ 2 ^ bitsK k := by decide +kernel
theorem sumK_app (n k : Nat) (a b : List Int) : sumK n k (a ++ b) = sumK n k a + sumK n k b := by simp [sumK]
theorem sumK_cons (n k : Nat) (z : Int) (b : List Int) : sumK n k (z :: b) = cntI n (k - z.natAbs) + sumK n k b := by simp [sumK]
theorem sumK_ge {n k : Nat} (hn : n < 5) (hk : k < 13) : ∀ l : List Int, 0 ≤ sumK n k l
 | [] => by simp [sumK]
 | z :: l => by
  have := sumK_ge hn hk l
  have := (cnt_in n hn (k - z.natAbs) (by omega)).1
  rw [sumK_cons]; omega
def pickL (n k : Nat) : List Int → Int → Int × Int
 | [], i => (0, i)
 | z :: r, i => if i < cntI n (k - z.natAbs) then (z, i) else pickL n k r (i - cntI n (k - z.natAbs))
def vecL : Nat → Nat → Int → List Int
 | 0, _, _ => []
 | n + 1, k, i => (pickL n k (numsL k) i).1 :: vecL n (k - (pickL n k (numsL k) i).1.natAbs) (pickL n k (numsL k) i).2
theorem pick_at {n k : Nat} (hn : n < 5) (hk : k < 13) (y : Int) (post : List Int) {t : Int} (h0 : 0 ≤ t) (h1 : t < cntI n (k - y.natAbs)) : ∀ pre : List Int, pickL n k (pre ++ y :: post) (sumK n k pre + t) = (y, t)
 | [] => by
  rw [List.nil_append, pickL, show sumK n k [] = 0 from rfl, Int.zero_add, if_pos h1]
 | z :: pre => by
  have hp := sumK_ge hn hk pre
  have hz := (cnt_in n hn (k - z.natAbs) (by omega)).1
  rw [List.cons_append, pickL, sumK_cons, if_neg (by omega), show cntI n (k - z.natAbs) + sumK n k pre + t - cntI n (k - z.natAbs) = sumK n k pre + t by omega]
  exact pick_at hn hk y post h0 h1 pre
def idxN : List Int → Nat → Int
 | [], _ => 0
 | y :: r, k => sumK r.length k ((numsL k).take (posL (numsL k) y)) + idxN r (k - y.natAbs)
theorem pos_split {l : List Int} {y : Int} (h : y ∈ l) : l = l.take (posL l y) ++ y :: l.drop (posL l y + 1) := by
 have h1 := posL_lt h
 have h2 := posL_at h
 rw [List.getD_eq_getElem?_getD, List.getElem?_eq_getElem h1, Option.getD_some] at h2
 conv => lhs; rw [← List.take_append_drop (posL l y) l, List.drop_eq_getElem_cons h1, h2]
theorem idx_vec : ∀ (ys : List Int) (k : Nat), ys.length ≤ 4 → k < 13 → plN ys = k → 0 ≤ idxN ys k ∧ idxN ys k < cntI ys.length k ∧ vecL ys.length k (idxN ys k) = ys
 | [], k, _, _, h => by
  have : k = 0 := h.symm
  subst this
  exact ⟨by decide, by decide +kernel, rfl⟩
 | y :: r, k, hl, hk, h => by
  simp only [List.length_cons] at hl
  have hyk : y.natAbs + plN r = k := h
  have hm : y ∈ numsL k := mem_numsL (by omega) (by omega)
  obtain ⟨i0, i1, i2⟩ := idx_vec r (k - y.natAbs) (by omega) (by omega) (by omega)
  have hs := pos_split hm
  have hsum := cnt_rec r.length (by omega) k hk
  have hn5 : r.length < 5 := by omega
  have hpre := sumK_ge hn5 hk ((numsL k).take (posL (numsL k) y))
  have hpost := sumK_ge hn5 hk ((numsL k).drop (posL (numsL k) y + 1))
  have hpick := pick_at hn5 hk y ((numsL k).drop (posL (numsL k) y + 1)) i0 i1 ((numsL k).take (posL (numsL k) y))
  rw [← hs] at hpick
  rw [hs, sumK_app, sumK_cons] at hsum
  refine ⟨?_, ?_, ?_⟩
  · rw [idxN]; omega
  · rw [idxN, List.length_cons, ← hsum]; omega
  · rw [idxN, List.length_cons, vecL, hpick]
    exact congrArg (y :: ·) i2
theorem wrap_in {x : Int} (h0 : 0 ≤ x) (h1 : x < 1000000000) : IntKind.i64.wrap x = x := IntWalk.i64_in _ (by omega)
theorem idxAdd_is {n k : Nat} (hn : n < 5) (hk : k < 13) : ∀ (l : List Int) (i : Int), 0 ≤ i → i + 1000000 * l.length < 1000000000 → idxAdd n k l i = i + sumK n k l
 | [], i, _, _ => by simp [idxAdd, sumK]
 | z :: r, i, h0, h1 => by
  have hz := cnt_in n hn (k - z.natAbs) (by omega)
  simp only [List.length_cons] at h1
  rw [idxAdd, wrap_in (by omega) (by omega), idxAdd_is hn hk r _ (by omega) (by push_cast at h1; omega), sumK_cons]
  omega
theorem idxGo_is : ∀ (ys : List Int) (k : Nat) (i : Int), ys.length ≤ 4 → k < 13 → plN ys = k → 0 ≤ i → i ≤ 30000000 * (4 - (ys.length : Int)) → idxGo ys k i = i + idxN ys k
 | [], _, i, _, _, _, _, _ => by simp [idxGo, idxN]
 | y :: r, k, i, hl, hk, h, h0, h1 => by
  simp only [List.length_cons] at hl h1
  have hyk : y.natAbs + plN r = k := h
  have hn5 : r.length < 5 := by omega
  have hlen : ((numsL k).take (posL (numsL k) y)).length ≤ 25 := by rw [List.length_take, numsL_len]; omega
  have hm : y ∈ numsL k := mem_numsL (by omega) (by omega)
  have hsum := cnt_rec r.length (by omega) k hk
  have hs := pos_split hm
  have hpre := sumK_ge hn5 hk ((numsL k).take (posL (numsL k) y))
  have hpost := sumK_ge hn5 hk ((numsL k).drop (posL (numsL k) y + 1))
  have hcy := (cnt_in r.length hn5 (k - y.natAbs) (by omega)).1
  have hck := (cnt_in (r.length + 1) (by omega) k hk).2
  rw [hs, sumK_app, sumK_cons] at hsum
  rw [idxGo, idxAdd_is hn5 hk _ i h0 (by push_cast at h1; omega), idxGo_is r (k - y.natAbs) _ (by omega) (by omega) (by omega) (by omega) (by push_cast at h1; omega), idxN]
  omega
theorem index_vec {ys : List Int} (hl : ys.length = 4) (hk : plN ys ≤ 12) : 0 ≤ indexI ys ∧ indexI ys < cntI 4 (plN ys) ∧ vecL 4 (plN ys) (indexI ys) = ys := by
 have h := idx_vec ys (plN ys) (by omega) (by omega) rfl
 rw [indexI, idxGo_is ys (plN ys) 0 (by omega) (by omega) rfl (Int.le_refl _) (by omega), Int.zero_add]
 rw [hl] at h
 exact h
end Go.Proofs.YtiigipnfnfpepaaGreatDoor
namespace Go.Proofs.YtiigipnfnfpepaaGreatDoor

theorem sumA_plN : ∀ y : List Int, sumA y = (plN y : Int)
 | [] => rfl
 | x :: l => by
  have := sumA_plN l
  simp only [sumA, List.map_cons, List.sum_cons, plN] at *
  push_cast
  omega
def nSide (n : Nat) (sd : List Int) : Nat → Nat
 | 0 => n
 | k + 1 => nSide n sd k * 2 ^ 4 + (sd.getD k 0).toNat
def nPuls (m : Nat) (ys : List (List Int)) : Nat → Nat
 | 0 => m
 | k + 1 => nPuls m ys k * 2 ^ bitsK (sumA (ys.getD k [])).toNat + (indexI (ys.getD k [])).toNat
theorem bitsTo_succ (ys : List (List Int)) (k : Nat) : bitsTo ys (k + 1) = bitsTo ys k + bitsK (sumA (ys.getD k [])).toNat := by
 simp [bitsTo, List.range_succ]
theorem wv_num {n : Nat} (hn : n < 65536) : WV (numW n).1 16 n ∧ (numW n).2 = 16 := by
 have h := wv_putO (x := n) (n := 16) (st := ([], 0)) wv_nil (by omega) (by omega)
 simpa [numW] using h
theorem wv_side {n : Nat} {sd : List Int} (hn : n < 65536) (hs : ∀ b, b < 8 → 0 ≤ sd.getD b 0 ∧ sd.getD b 0 ≤ 15) : ∀ k, k ≤ 8 → WV (sidesW sd k (numW n)).1 (16 + 4 * k) (nSide n sd k) ∧ (sidesW sd k (numW n)).2 = 16 + 4 * k
 | 0, _ => wv_num hn
 | k + 1, hk => by
  obtain ⟨h1, h2⟩ := wv_side hn hs k (by omega)
  rw [sidesW_succ, nSide]
  have hb := hs k (by omega)
  obtain ⟨x, hx⟩ : ∃ x : Nat, sd.getD k 0 = x := ⟨(sd.getD k 0).toNat, by omega⟩
  rw [hx] at hb ⊢
  rw [← h2] at h1
  have h := wv_putO (x := x) (n := 4) h1 (by omega) (by omega)
  rw [h2] at h
  rw [Int.toNat_natCast, show 16 + 4 * (k + 1) = 16 + 4 * k + 4 by omega]
  exact h
theorem idx_fits {s : Shp} (h : SK s) {b : Nat} (hb : b < 8) : 0 ≤ indexI (s.ys.getD b []) ∧ (indexI (s.ys.getD b [])).toNat < 2 ^ bitsK (sumA (s.ys.getD b [])).toNat ∧ bitsK (sumA (s.ys.getD b [])).toNat ≤ 30 ∧ vecL 4 (sumA (s.ys.getD b [])).toNat (indexI (s.ys.getD b [])) = s.ys.getD b [] := by
 have hl := shp_ylen h.ok hb
 have hs := getD_all h.sum (i := b) (by rw [h.ok.yl]; exact hb) []
 rw [sumA_plN] at hs ⊢
 rw [Int.toNat_natCast]
 generalize s.ys.getD b [] = y at *
 have h1 := index_vec hl (by omega)
 have h2 := cnt_bits (plN y) (by omega)
 have h3 := (bitsK_all (plN y) (by omega)).1
 refine ⟨h1.1, ?_, h3, h1.2.2⟩
 have h4 : ((indexI y).toNat : Int) < ((2 ^ bitsK (plN y) : Nat) : Int) := by
  push_cast
  omega
 omega
theorem pulsW_zero (ys : List (List Int)) (st : Bits) : pulsW ys 0 st = st := rfl
theorem nPuls_zero (m : Nat) (ys : List (List Int)) : nPuls m ys 0 = m := rfl
theorem bitsTo_zero (ys : List (List Int)) : bitsTo ys 0 = 0 := rfl
theorem wv_puls {n : Nat} {s : Shp} (hn : n < 65536) (h : SK s) : ∀ k, k ≤ 8 → WV (pulsW s.ys k (sidesW s.sd 8 (numW n))).1 (48 + bitsTo s.ys k) (nPuls (nSide n s.sd 8) s.ys k) ∧ (pulsW s.ys k (sidesW s.sd 8 (numW n))).2 = 48 + bitsTo s.ys k
 | 0, _ => by
  have := wv_side hn (fun b hb => sd_in h.ok hb) 8 (Nat.le_refl _)
  rw [pulsW_zero, nPuls_zero, bitsTo_zero]
  rw [show 16 + 4 * 8 = 48 + 0 from rfl] at this
  exact this
 | k + 1, hk => by
  obtain ⟨h1, h2⟩ := wv_puls hn h k (by omega)
  rw [pulsW_succ, nPuls, bitsTo_succ, ← Nat.add_assoc]
  obtain ⟨i0, i1, i2, _⟩ := idx_fits h (b := k) (by omega)
  obtain ⟨x, hx⟩ : ∃ x : Nat, indexI (s.ys.getD k []) = x := ⟨(indexI (s.ys.getD k [])).toNat, by omega⟩
  rw [hx] at i1 ⊢
  rw [Int.toNat_natCast] at i1 ⊢
  rw [← h2] at h1
  have h := wv_putO (x := x) (n := bitsK (sumA (s.ys.getD k [])).toNat) h1 i1 (by omega)
  rw [h2] at h
  exact h
def bodyL (n : Nat) (s : Shp) (size : Nat) : List UInt8 := (layW n s).1 ++ List.replicate (size - 2 - (layW n s).1.length) 0
theorem layL_body (n : Nat) (s : Shp) (size : Nat) : layL n s size = sealL (bodyL n s size) := rfl
structure Reads (body : List UInt8) (n : Nat) (s : Shp) : Prop where
 num : getN body 0 16 = n
 side : ∀ b, b < 8 → (getN body (16 + 4 * b) 4 : Int) = s.sd.getD b 0
 puls : ∀ b, b < 8 → (getN body (48 + bitsTo s.ys b) (bitsK (sumA (s.ys.getD b [])).toNat) : Int) = indexI (s.ys.getD b [])
 zero : ∀ p, 48 + bitsTo s.ys 8 ≤ p → p < 8 * body.length → bitN body p = 0
 long : 48 + bitsTo s.ys 8 ≤ 8 * body.length
theorem body_reads {n : Nat} {s : Shp} (hn : n < 65536) (h : SK s) (size : Nat) : Reads (bodyL n s size) n s := by
 obtain ⟨h1, h2⟩ := wv_puls hn h 8 (Nat.le_refl _)
 have hp := pre_pad h1 (size - 2 - (layW n s).1.length)
 have hz := fun p => zeros_pad h1 (size - 2 - (layW n s).1.length) (p := p)
 rw [show (pulsW s.ys 8 (sidesW s.sd 8 (numW n))).1 ++ List.replicate (size - 2 - (layW n s).1.length) 0 = bodyL n s size from rfl] at hp hz
 generalize bodyL n s size = B at *
 have hP : ∀ j, j ≤ 8 → Pre B (48 + bitsTo s.ys (8 - j)) (nPuls (nSide n s.sd 8) s.ys (8 - j)) := fun j => by
  induction j with
  | zero => exact fun _ => hp
  | succ j ih =>
   intro hj
   have h3 := ih (by omega)
   rw [show 8 - j = (8 - (j + 1)) + 1 by omega, bitsTo_succ, nPuls, ← Nat.add_assoc] at h3
   exact (pre_back h3 (idx_fits h (b := 8 - (j + 1)) (by omega)).2.1).1
 have hPk : ∀ k, k ≤ 8 → Pre B (48 + bitsTo s.ys k) (nPuls (nSide n s.sd 8) s.ys k) := fun k hk => by
  have := hP (8 - k) (by omega)
  rwa [show 8 - (8 - k) = k by omega] at this
 have hsd : ∀ b, b < 8 → (s.sd.getD b 0).toNat < 2 ^ 4 := fun b hb => by have := sd_in h.ok hb; omega
 have hS : ∀ j, j ≤ 8 → Pre B (16 + 4 * (8 - j)) (nSide n s.sd (8 - j)) := fun j => by
  induction j with
  | zero => exact fun _ => hPk 0 (by omega)
  | succ j ih =>
   intro hj
   have h3 := ih (by omega)
   rw [show 8 - j = (8 - (j + 1)) + 1 by omega, show 16 + 4 * (8 - (j + 1) + 1) = 16 + 4 * (8 - (j + 1)) + 4 by omega, nSide] at h3
   exact (pre_back h3 (hsd _ (by omega))).1
 have hSk : ∀ k, k ≤ 8 → Pre B (16 + 4 * k) (nSide n s.sd k) := fun k hk => by
  have := hS (8 - k) (by omega)
  rwa [show 8 - (8 - k) = k by omega] at this
 refine ⟨?_, fun b hb => ?_, fun b hb => ?_, hz, hp.1⟩
 · have h3 := hSk 0 (by omega)
   have h4 : Pre B (0 + 16) (0 * 2 ^ 16 + n) := by simpa [nSide] using h3
   exact (pre_back h4 (by omega)).2
 · have h3 := hSk (b + 1) (by omega)
   rw [show 16 + 4 * (b + 1) = 16 + 4 * b + 4 by omega, nSide] at h3
   have h4 := (pre_back h3 (hsd b hb)).2
   have := sd_in h.ok hb
   omega
 · have h3 := hPk (b + 1) (by omega)
   rw [bitsTo_succ, nPuls, ← Nat.add_assoc] at h3
   obtain ⟨i0, i1, _⟩ := idx_fits h hb
   have h4 := (pre_back h3 i1).2
   omega
end Go.Proofs.YtiigipnfnfpepaaGreatDoor
