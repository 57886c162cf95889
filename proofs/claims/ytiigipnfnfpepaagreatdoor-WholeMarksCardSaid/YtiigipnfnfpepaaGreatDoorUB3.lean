/- Plain laws of layer 11: frames that lie one behind the other, samples in frames, seams, waves. No Go in it. Frames in one block: a frame read, a frame written. Contracts of lap.Seam and lap.Unseam. Th -/
import Derived.Test.YtiigipnfnfpepaaGreatDoorUB1
import Derived.Test.YtiigipnfnfpepaaGreatDoorUB2
import Derived.Test.YtiigipnfnfpepaaGreatDoorUA
import Derived.Deep.LoopGhost
import Derived.Deep.RegionWith
import Derived.Deep.RegionHeld3
import Derived.Deep.DrawnRows
import Derived.IntWalk
import Derived.Lib.MinMax
import Derived.Laws.MakeOwn
import Derived.OwnWalk
import Derived.Maps.AppendAt
import Derived.Laws.OwnMore
import Derived.WalkSpells
import Derived.Deep.QuietTactic
import Derived.BigQuiet
import Derived.Laws.AppendOwnNone
namespace Go.Proofs.YtiigipnfnfpepaaGreatDoor

def flat (fs : List (List Int)) : List Int := (List.range (32 * fs.length)).map fun p => (fs.getD (p / 32) []).getD (p % 32) 0
def All32 (fs : List (List Int)) : Prop := ∀ i, i < fs.length → (fs.getD i []).length = 32
theorem flat_len (fs : List (List Int)) : (flat fs).length = 32 * fs.length := by simp [flat]
theorem flat_get {fs : List (List Int)} {p : Nat} (h : p < 32 * fs.length) : (flat fs).getD p 0 = (fs.getD (p / 32) []).getD (p % 32) 0 := by
 simp [flat, List.getD_eq_getElem?_getD, List.getElem?_map, List.getElem?_range h]
theorem flat_at {fs : List (List Int)} {i j : Nat} (hi : i < fs.length) (hj : j < 32) : (flat fs).getD (32 * i + j) 0 = (fs.getD i []).getD j 0 := by
 rw [flat_get (by omega), show (32 * i + j) / 32 = i by omega, show (32 * i + j) % 32 = j by omega]
theorem frames_getD_set (fs : List (List Int)) (i j : Nat) (f : List Int) : (fs.set i f).getD j [] = if i = j ∧ i < fs.length then f else fs.getD j [] := by
 simp only [List.getD_eq_getElem?_getD, List.getElem?_set]
 by_cases h : i = j
 · subst h
   by_cases h2 : i < fs.length
   · simp [h2]
   · simp [h2]
 · simp [h]
theorem frames_ext {fs gs : List (List Int)} (hl : fs.length = gs.length) (h : ∀ i, i < fs.length → fs.getD i [] = gs.getD i []) : fs = gs := by
 apply List.ext_getElem hl
 intro i h1 h2
 have := h i h1
 simpa [List.getD_eq_getElem?_getD, List.getElem?_eq_getElem h1, List.getElem?_eq_getElem h2] using this

def countN (n : Nat) : Nat := n / 32 + min (n % 32) 1 + 1
def framesOf (l : List Int) : List (List Int) := (List.range (countN l.length)).map fun i => (List.range 32).map fun j => l.getD (32 * i + j) 0
theorem framesOf_len (l : List Int) : (framesOf l).length = countN l.length := by simp [framesOf]
theorem framesOf_get (l : List Int) {i : Nat} (h : i < countN l.length) : (framesOf l).getD i [] = (List.range 32).map fun j => l.getD (32 * i + j) 0 := by
 simp [framesOf, List.getD_eq_getElem?_getD, List.getElem?_map, List.getElem?_range h]
theorem framesOf_all (l : List Int) : All32 (framesOf l) := by
 intro i hi
 rw [framesOf_len] at hi
 rw [framesOf_get l hi]
 simp
theorem range32_get (f : Nat → Int) {j : Nat} (h : j < 32) : ((List.range 32).map f).getD j 0 = f j := by
 simp [List.getD_eq_getElem?_getD, List.getElem?_map, List.getElem?_range h]
theorem fill_frames (l : List Int) : overTo (fun i => l.getD i 0) (List.replicate (32 * countN l.length) 0) l.length = flat (framesOf l) := by
 refine list_getD_ext (by simp [overTo_len, flat_len, framesOf_len]) (fun p hp => ?_)
 have hp' : p < 32 * countN l.length := by simpa [overTo_len] using hp
 rw [overTo_get (by simpa using hp'), flat_get (by rw [framesOf_len]; exact hp'), framesOf_get l (by omega), range32_get _ (by omega), show 32 * (p / 32) + p % 32 = p by omega]
 split
 · rfl
 · next h =>
   rw [List.getD_eq_getElem?_getD, List.getD_eq_getElem?_getD, List.getElem?_eq_none (by omega : l.length ≤ p)]
   rw [Option.getD_none, List.getElem?_replicate]
   split <;> rfl

def seamTo (A B : List Int → List Int → List Int) (fs : List (List Int)) : Nat → List (List Int)
 | 0 => fs
 | k + 1 => ((seamTo A B fs k).set k (A ((seamTo A B fs k).getD k []) ((seamTo A B fs k).getD (k + 1) []))).set (k + 1) (B ((seamTo A B fs k).getD k []) ((seamTo A B fs k).getD (k + 1) []))
theorem seamTo_len (A B : List Int → List Int → List Int) (fs : List (List Int)) : ∀ k, (seamTo A B fs k).length = fs.length
 | 0 => rfl
 | k + 1 => by simp [seamTo, seamTo_len A B fs k]
def eachTo (F : List Int → List Int) (fs : List (List Int)) (k : Nat) : List (List Int) := (List.range fs.length).map fun i => if i < k then F (fs.getD i []) else fs.getD i []
theorem eachTo_len (F : List Int → List Int) (fs : List (List Int)) (k : Nat) : (eachTo F fs k).length = fs.length := by simp [eachTo]
theorem eachTo_get (F : List Int → List Int) {fs : List (List Int)} {k i : Nat} (h : i < fs.length) : (eachTo F fs k).getD i [] = if i < k then F (fs.getD i []) else fs.getD i [] := by
 simp [eachTo, List.getD_eq_getElem?_getD, List.getElem?_map, List.getElem?_range h]
theorem eachTo_zero (F : List Int → List Int) (fs : List (List Int)) : eachTo F fs 0 = fs := by
 refine frames_ext (eachTo_len _ _ _) (fun i hi => ?_)
 rw [eachTo_len] at hi
 rw [eachTo_get F hi, if_neg (by omega)]
theorem eachTo_succ (F : List Int → List Int) {fs : List (List Int)} {k : Nat} (hk : k < fs.length) : (eachTo F fs k).set k (F (fs.getD k [])) = eachTo F fs (k + 1) := by
 refine frames_ext (by simp [eachTo_len]) (fun i hi => ?_)
 have hi' : i < fs.length := by simpa [eachTo_len] using hi
 rw [frames_getD_set, eachTo_get F hi', eachTo_get F hi', eachTo_len]
 by_cases e : k = i
 · subst e
   rw [if_pos ⟨rfl, hk⟩, if_pos (by omega)]
 · rw [if_neg (by omega)]
   by_cases h : i < k
   · rw [if_pos h, if_pos (by omega)]
   · rw [if_neg h, if_neg (by omega)]
theorem eachTo_all (F : List Int → List Int) {fs : List (List Int)} {n : Nat} (h : fs.length = n) : eachTo F fs n = fs.map F := by
 refine frames_ext (by simp [eachTo_len]) (fun i hi => ?_)
 rw [eachTo_len] at hi
 rw [eachTo_get F hi, if_pos (by omega)]
 simp [List.getD_eq_getElem?_getD, List.getElem?_eq_getElem hi]

def framesL (l : List Int) : List (List Int) := (seamTo seam1 seam2 (framesOf l) (countN l.length - 1)).map wavesL
section
variable {A B : List Int → List Int → List Int} {fs : List (List Int)}
def HalfA (A : List Int → List Int → List Int) : Prop := (∀ a b, (A a b).length = a.length) ∧ ∀ a a' b b' : List Int, a.length = 32 → a'.length = 32 → b.length = 32 → b'.length = 32 → (∀ i, 16 ≤ i → i < 32 → a.getD i 0 = a'.getD i 0) → (∀ i, i < 16 → b.getD i 0 = b'.getD i 0) → (∀ i, 16 ≤ i → i < 32 → (A a b).getD i 0 = (A a' b').getD i 0) ∧ ∀ i, i < 16 → (A a b).getD i 0 = a.getD i 0
def HalfB (B : List Int → List Int → List Int) : Prop := (∀ a b, (B a b).length = b.length) ∧ ∀ a a' b b' : List Int, a.length = 32 → a'.length = 32 → b.length = 32 → b'.length = 32 → (∀ i, 16 ≤ i → i < 32 → a.getD i 0 = a'.getD i 0) → (∀ i, i < 16 → b.getD i 0 = b'.getD i 0) → (∀ i, i < 16 → (B a b).getD i 0 = (B a' b').getD i 0) ∧ ∀ i, 16 ≤ i → i < 32 → (B a b).getD i 0 = b.getD i 0
theorem seamA_half (F : Int → Int → Int → Int × Int) : HalfA (fun a b => seamA F a b 16) := by
 refine ⟨fun a b => seamA_len F a b 16, fun a a' b b' ha ha' hb hb' h1 h2 => ⟨fun i hi hi2 => ?_, fun i hi => ?_⟩⟩
 · rw [seamA_get (by omega), seamA_get (by omega), if_pos (by omega), if_pos (by omega), h1 i hi hi2, h2 (31 - i) (by omega)]
 · rw [seamA_get (by omega), if_neg (by omega)]
theorem seamB_half (F : Int → Int → Int → Int × Int) : HalfB (fun a b => seamB F a b 16) := by
 refine ⟨fun a b => seamB_len F a b 16, fun a a' b b' ha ha' hb hb' h1 h2 => ⟨fun i hi => ?_, fun i hi hi2 => ?_⟩⟩
 · rw [seamB_get (by omega), seamB_get (by omega), if_pos (by omega), if_pos (by omega), h2 i hi, h1 (31 - i) (by omega) (by omega)]
 · rw [seamB_get (by omega), if_neg (by omega)]

theorem HalfA1 : HalfA seam1 := seamA_half turnL
theorem HalfB1 : HalfB seam2 := seamB_half turnL
theorem seam1_len (a b : List Int) : (seam1 a b).length = a.length := seamA_len _ _ _ _
theorem seam2_len (a b : List Int) : (seam2 a b).length = b.length := seamB_len _ _ _ _
def seamed (A B : List Int → List Int → List Int) (fs : List (List Int)) (k i : Nat) : List Int :=
 (List.range 32).map fun j => if j < 16 then (if 0 < i ∧ i ≤ k then (B (fs.getD (i - 1) []) (fs.getD i [])).getD j 0 else (fs.getD i []).getD j 0)
  else (if i < k then (A (fs.getD i []) (fs.getD (i + 1) [])).getD j 0 else (fs.getD i []).getD j 0)
theorem seamed_len (k i : Nat) : (seamed A B fs k i).length = 32 := by simp [seamed]
theorem seamed_get (k i : Nat) {j : Nat} (h : j < 32) : (seamed A B fs k i).getD j 0 = if j < 16 then (if 0 < i ∧ i ≤ k then (B (fs.getD (i - 1) []) (fs.getD i [])).getD j 0 else (fs.getD i []).getD j 0)
 else (if i < k then (A (fs.getD i []) (fs.getD (i + 1) [])).getD j 0 else (fs.getD i []).getD j 0) := range32_get _ h
theorem seamTo_get (hA : HalfA A) (hB : HalfB B) (h32 : All32 fs) : ∀ k, k + 1 ≤ fs.length → ∀ i, i < fs.length → (seamTo A B fs k).getD i [] = seamed A B fs k i
 | 0, _, i, hi => by
  refine list_getD_ext (by rw [seamed_len]; exact h32 i hi) (fun j hj => ?_)
  have hj' : j < 32 := by have : (seamTo A B fs 0).getD i [] = fs.getD i [] := rfl
                          rw [this, h32 i hi] at hj; exact hj
  rw [seamed_get 0 i hj']
  simp only [seamTo]
  split
  · rw [if_neg (by omega)]
  · rw [if_neg (by omega)]
 | k + 1, hk, i, hi => by
  have ih := seamTo_get hA hB h32 k (by omega)
  have hlk := ih k (by omega)
  have hlk1 := ih (k + 1) (by omega)
  have hk0 := h32 k (by omega)
  have hk1 := h32 (k + 1) (by omega)
  have sl0 : (seamed A B fs k k).length = 32 := seamed_len k k
  have sl1 : (seamed A B fs k (k + 1)).length = 32 := seamed_len k (k + 1)
  have e1 : ∀ j, 16 ≤ j → j < 32 → (seamed A B fs k k).getD j 0 = (fs.getD k []).getD j 0 := fun j h1 h2 => by
   rw [seamed_get k k h2, if_neg (by omega), if_neg (by omega)]
  have e2 : ∀ j, j < 16 → (seamed A B fs k (k + 1)).getD j 0 = (fs.getD (k + 1) []).getD j 0 := fun j h1 => by
   rw [seamed_get k (k + 1) (by omega), if_pos h1, if_neg (by omega)]
  have e3 : ∀ j, 16 ≤ j → j < 32 → (seamed A B fs k (k + 1)).getD j 0 = (fs.getD (k + 1) []).getD j 0 := fun j h1 h2 => by
   rw [seamed_get k (k + 1) h2, if_neg (by omega), if_neg (by omega)]
  have ga := hA.2 _ _ _ _ sl0 hk0 sl1 hk1 e1 e2
  have gb := hB.2 _ _ _ _ sl0 hk0 sl1 hk1 e1 e2
  simp only [seamTo, frames_getD_set, List.length_set, seamTo_len, hlk, hlk1]
  by_cases c1 : k + 1 = i
  · subst c1
    rw [if_pos ⟨rfl, by omega⟩]
    refine list_getD_ext (by rw [hB.1, seamed_len, seamed_len]) (fun j hj => ?_)
    have hj' : j < 32 := by rw [hB.1, sl1] at hj; exact hj
    rw [seamed_get (k + 1) (k + 1) hj']
    by_cases h : j < 16
    · rw [if_pos h, if_pos (by omega), gb.1 j h, show k + 1 - 1 = k by omega]
    · rw [if_neg h, if_neg (by omega), gb.2 j (by omega) hj', e3 j (by omega) hj']
  · rw [if_neg (by omega)]
    by_cases c2 : k = i
    · subst c2
      rw [if_pos ⟨rfl, by omega⟩]
      refine list_getD_ext (by rw [hA.1, seamed_len, seamed_len]) (fun j hj => ?_)
      have hj' : j < 32 := by rw [hA.1, sl0] at hj; exact hj
      rw [seamed_get (k + 1) k hj']
      by_cases h : j < 16
      · rw [if_pos h, ga.2 j h, seamed_get k k hj', if_pos h]
        by_cases c : 0 < k
        · rw [if_pos (by omega), if_pos (by omega)]
        · rw [if_neg (by omega), if_neg (by omega)]
      · rw [if_neg h, if_pos (by omega), ga.1 j (by omega) hj']
    · rw [if_neg (by omega), ih i hi]
      refine list_getD_ext (by rw [seamed_len, seamed_len]) (fun j hj => ?_)
      have hj' : j < 32 := by rw [seamed_len] at hj; exact hj
      rw [seamed_get k i hj', seamed_get (k + 1) i hj']
      by_cases h : j < 16
      · rw [if_pos h, if_pos h]
        by_cases c : 0 < i ∧ i ≤ k
        · rw [if_pos c, if_pos (by omega)]
        · rw [if_neg c, if_neg (by omega)]
      · rw [if_neg h, if_neg h]
        by_cases c : i < k
        · rw [if_pos c, if_pos (by omega)]
        · rw [if_neg c, if_neg (by omega)]
end
end Go.Proofs.YtiigipnfnfpepaaGreatDoor
namespace Go.Proofs.YtiigipnfnfpepaaGreatDoor
open Go.RowKit

theorem frame_range {w : World} {g : Nat} {t : TypeId} {fs : List (List Int)} {i o : Nat} (h : Blk w g t (ints (flat fs))) (hi : i < fs.length) (hl : (fs.getD i []).length = 32) (ho : o = i * 32) : w.rangeAt g o ((fs.getD i []).map (Value.int .i64)) := fun j v hv => by
 subst ho
 have hj : j < 32 := by
  have := (List.getElem?_eq_some_iff.1 hv).1
  rw [List.length_map, hl] at this
  exact this
 rw [blk_int h (by rw [flat_len]; omega), show i * 32 + j = 32 * i + j by omega, flat_at hi hj]
 rw [List.getElem?_map, List.getElem?_eq_getElem (by omega)] at hv
 simp only [Option.map_some, Option.some.injEq] at hv
 rw [← hv, List.getD_eq_getElem?_getD, List.getElem?_eq_getElem (by omega), Option.getD_some]

theorem ints_at (zs : List Int) {i : Nat} (h : i < zs.length) : (ints zs)[i]? = some (.int .i64 (zs.getD i 0)) := by
 rw [ints_get, List.getElem?_eq_getElem h]
 simp [List.getD, List.getElem?_eq_getElem h]

theorem frame_there {w : World} {g : Nat} {t : TypeId} {fs : List (List Int)} {i o : Nat} (h : Blk w g t (ints (flat fs))) (hi : i < fs.length) (ho : o = i * 32) : w.there g o 32 := fun j hj => by
 subst ho
 exact ⟨by rw [blk_int h (by rw [flat_len]; omega)]; rfl, blk_free h _⟩

theorem frame_store {w : World} {g : Nat} {t : TypeId} {fs : List (List Int)} {i o : Nat} {f : List Int} (h : Blk w g t (ints (flat fs))) (hi : i < fs.length) (hf : f.length = 32) (ho : o = i * 32) :
 Blk (w.setCells g o (f.map (Value.int .i64))) g t (ints (flat (fs.set i f))) ∧ w.grownBy (w.setCells g o (f.map (Value.int .i64))) (some g) := by
 subst ho
 obtain ⟨cs', k1, k2, k3, k4, k5, k6⟩ := setCells_blk (f.map (Value.int .i64)) (i * 32) w h (by rw [ints_size, flat_len, List.length_map, hf]; omega)
 rw [List.length_map, hf] at k5 k6
 rw [ints_size, flat_len] at k3
 have e : cs' = ints (flat (fs.set i f)) := by
  apply Array.ext_getElem?
  intro p
  rcases Nat.lt_or_ge p (32 * fs.length) with hp | hp
  · rw [ints_at _ (by rw [flat_len, List.length_set]; exact hp), flat_get (by rw [List.length_set]; exact hp), frames_getD_set]
    by_cases h1 : p < i * 32
    · rw [k4 p h1, ints_at _ (by rw [flat_len]; exact hp), flat_get hp, if_neg (by omega)]
    · by_cases h2 : p < i * 32 + 32
      · have := k5 (p - i * 32) (by omega)
        rw [show i * 32 + (p - i * 32) = p by omega] at this
        rw [this, if_pos (by omega), List.getElem?_map, List.getElem?_eq_getElem (by omega : p - i * 32 < f.length), show p % 32 = p - i * 32 by omega]
        simp [List.getD_eq_getElem?_getD, List.getElem?_eq_getElem (by omega : p - i * 32 < f.length)]
      · rw [k6 p (by omega), ints_at _ (by rw [flat_len]; exact hp), flat_get hp, if_neg (by omega)]
  · rw [Array.getElem?_eq_none (by omega), Array.getElem?_eq_none (by rw [ints_size, flat_len, List.length_set]; exact hp)]
 rw [e] at k1
 exact ⟨k1, k2⟩

theorem zeros_get (n i : Nat) : (List.replicate n (0 : Int)).getD i 0 = 0 := by
 rw [List.getD_eq_getElem?_getD, List.getElem?_replicate]
 split <;> rfl
theorem made_frames (m : Nat) : madeCells (ints (List.replicate 32 0)) (m * 32) = ints (List.replicate (32 * m) 0) := by
 apply Array.ext_getElem?
 intro p
 rcases Nat.lt_or_ge p (32 * m) with hp | hp
 · have hp2 : p % 32 < 32 := by omega
   rw [ints_at _ (by simpa using hp)]
   simp only [madeCells, Array.getElem?_map, ints_size, List.length_replicate]
   rw [Array.getElem?_range, if_pos (by omega)]
   simp only [Option.map_some, Option.some.injEq]
   have h0 := ints_at (List.replicate 32 0) (i := p % 32) (by simpa using hp2)
   rw [getElem!_pos _ _ (by rw [ints_size, List.length_replicate]; exact hp2)]
   rw [Array.getElem?_eq_getElem (by rw [ints_size, List.length_replicate]; exact hp2), Option.some.injEq] at h0
   rw [h0, zeros_get, zeros_get]
 · rw [Array.getElem?_eq_none (by rw [size_madeCells]; omega), Array.getElem?_eq_none (by rw [ints_size, List.length_replicate]; exact hp)]
end Go.Proofs.YtiigipnfnfpepaaGreatDoor
namespace Go.Proofs.YtiigipnfnfpepaaGreatDoor
open Go.RowKit
attribute [local go_sem ↓] Go.wp_at_zero Go.wp_at_succ

theorem results_two_rows {P : Program} {fn : Func} {p q : Tmp} {ty : TypeId} (h : fn.results = #[.cell p ty, .cell q ty]) (tmps : Array Value) (w : World) (g g' : Nat) (t t' : TypeId) (cs cs' : Array Value) (fr fr' : Nat × Nat) (d : TypeDesc)
 (hp : tmps.getD p undef = .pointer (some ⟨g, 0, none⟩)) (hq : tmps.getD q undef = .pointer (some ⟨g', 0, none⟩)) (hg : w.heap[g]? = some (.cells cs t fr)) (hg' : w.heap[g']? = some (.cells cs' t' fr'))
 (hu : P.underlying ty = some d) (hd : (match d with | .struct _ | .array _ _ => true | _ => false) = true) (hi : (P.info? ty).map (·.size) = some cs.size) (hi' : (P.info? ty).map (·.size) = some cs'.size) :
 (results fn tmps).run P w = .ok (.tuple #[.agg cs, .agg cs']) w := by
 have hp' : tmps[p]?.getD undef = .pointer (some ⟨g, 0, none⟩) := by simpa using hp
 have hq' : tmps[q]?.getD undef = .pointer (some ⟨g', 0, none⟩) := by simpa using hq
 simp [results, h, hp', hq', asAddr, run_loadVar_row w g t ty cs fr d hg hu hd hi, run_loadVar_row w g' t' ty cs' fr' d hg' hu hd hi']

set_option maxRecDepth 100000 in
set_option maxHeartbeats 4000000 in
theorem seam_calls (a b : List Int) (w : World) (ha : a.length = 32) (hb : b.length = 32) (hia : AllIn 1099511627776 a) (hib : AllIn 1099511627776 b) :
 Calls Tryz.prog 116 #[.agg (ints a), .agg (ints b)] w fun e w' => e = .returned (.tuple #[.agg (ints (seamA turnL a b 16)), .agg (ints (seamB turnL a b 16))]) ∧ Below w.heap.size w w' := by
 have b0 := blk_alloc (blk_alloc (blk_alloc (blk_new w 94 (ints a)) (.cells (ints b) 94)) (.cells #[Value.int .i64 0, .int .i64 0, .int .i64 0, .int .i64 0, .int .i64 0, .int .i64 0, .int .i64 0, .int .i64 0, .int .i64 0, .int .i64 0, .int .i64 0, .int .i64 0, .int .i64 0, .int .i64 0, .int .i64 0, .int .i64 0, .int .i64 0, .int .i64 0, .int .i64 0, .int .i64 0, .int .i64 0, .int .i64 0, .int .i64 0, .int .i64 0, .int .i64 0, .int .i64 0, .int .i64 0, .int .i64 0, .int .i64 0, .int .i64 0, .int .i64 0, .int .i64 0] 94)) (.cells #[Value.int .i64 0, .int .i64 0, .int .i64 0, .int .i64 0, .int .i64 0, .int .i64 0, .int .i64 0, .int .i64 0, .int .i64 0, .int .i64 0, .int .i64 0, .int .i64 0, .int .i64 0, .int .i64 0, .int .i64 0, .int .i64 0, .int .i64 0, .int .i64 0, .int .i64 0, .int .i64 0, .int .i64 0, .int .i64 0, .int .i64 0, .int .i64 0, .int .i64 0, .int .i64 0, .int .i64 0, .int .i64 0, .int .i64 0, .int .i64 0, .int .i64 0, .int .i64 0] 94)
 have b1 := blk_alloc (blk_alloc (blk_new (w.alloc (.cells (ints a) 94)) 94 (ints b)) (.cells #[Value.int .i64 0, .int .i64 0, .int .i64 0, .int .i64 0, .int .i64 0, .int .i64 0, .int .i64 0, .int .i64 0, .int .i64 0, .int .i64 0, .int .i64 0, .int .i64 0, .int .i64 0, .int .i64 0, .int .i64 0, .int .i64 0, .int .i64 0, .int .i64 0, .int .i64 0, .int .i64 0, .int .i64 0, .int .i64 0, .int .i64 0, .int .i64 0, .int .i64 0, .int .i64 0, .int .i64 0, .int .i64 0, .int .i64 0, .int .i64 0, .int .i64 0, .int .i64 0] 94)) (.cells #[Value.int .i64 0, .int .i64 0, .int .i64 0, .int .i64 0, .int .i64 0, .int .i64 0, .int .i64 0, .int .i64 0, .int .i64 0, .int .i64 0, .int .i64 0, .int .i64 0, .int .i64 0, .int .i64 0, .int .i64 0, .int .i64 0, .int .i64 0, .int .i64 0, .int .i64 0, .int .i64 0, .int .i64 0, .int .i64 0, .int .i64 0, .int .i64 0, .int .i64 0, .int .i64 0, .int .i64 0, .int .i64 0, .int .i64 0, .int .i64 0, .int .i64 0, .int .i64 0] 94)
 have b2 := blk_alloc (blk_new ((w.alloc (.cells (ints a) 94)).alloc (.cells (ints b) 94)) 94 #[Value.int .i64 0, .int .i64 0, .int .i64 0, .int .i64 0, .int .i64 0, .int .i64 0, .int .i64 0, .int .i64 0, .int .i64 0, .int .i64 0, .int .i64 0, .int .i64 0, .int .i64 0, .int .i64 0, .int .i64 0, .int .i64 0, .int .i64 0, .int .i64 0, .int .i64 0, .int .i64 0, .int .i64 0, .int .i64 0, .int .i64 0, .int .i64 0, .int .i64 0, .int .i64 0, .int .i64 0, .int .i64 0, .int .i64 0, .int .i64 0, .int .i64 0, .int .i64 0]) (.cells #[Value.int .i64 0, .int .i64 0, .int .i64 0, .int .i64 0, .int .i64 0, .int .i64 0, .int .i64 0, .int .i64 0, .int .i64 0, .int .i64 0, .int .i64 0, .int .i64 0, .int .i64 0, .int .i64 0, .int .i64 0, .int .i64 0, .int .i64 0, .int .i64 0, .int .i64 0, .int .i64 0, .int .i64 0, .int .i64 0, .int .i64 0, .int .i64 0, .int .i64 0, .int .i64 0, .int .i64 0, .int .i64 0, .int .i64 0, .int .i64 0, .int .i64 0, .int .i64 0] 94)
 have b3 := blk_new (((w.alloc (.cells (ints a) 94)).alloc (.cells (ints b) 94)).alloc (.cells #[Value.int .i64 0, .int .i64 0, .int .i64 0, .int .i64 0, .int .i64 0, .int .i64 0, .int .i64 0, .int .i64 0, .int .i64 0, .int .i64 0, .int .i64 0, .int .i64 0, .int .i64 0, .int .i64 0, .int .i64 0, .int .i64 0, .int .i64 0, .int .i64 0, .int .i64 0, .int .i64 0, .int .i64 0, .int .i64 0, .int .i64 0, .int .i64 0, .int .i64 0, .int .i64 0, .int .i64 0, .int .i64 0, .int .i64 0, .int .i64 0, .int .i64 0, .int .i64 0] 94)) 94 #[Value.int .i64 0, .int .i64 0, .int .i64 0, .int .i64 0, .int .i64 0, .int .i64 0, .int .i64 0, .int .i64 0, .int .i64 0, .int .i64 0, .int .i64 0, .int .i64 0, .int .i64 0, .int .i64 0, .int .i64 0, .int .i64 0, .int .i64 0, .int .i64 0, .int .i64 0, .int .i64 0, .int .i64 0, .int .i64 0, .int .i64 0, .int .i64 0, .int .i64 0, .int .i64 0, .int .i64 0, .int .i64 0, .int .i64 0, .int .i64 0, .int .i64 0, .int .i64 0]
 rw [show (w.alloc (.cells (ints a) 94)).heap.size = w.heap.size + 1 by simp] at b1
 rw [show ((w.alloc (.cells (ints a) 94)).alloc (.cells (ints b) 94)).heap.size = w.heap.size + 2 by simp] at b2
 rw [show (((w.alloc (.cells (ints a) 94)).alloc (.cells (ints b) 94)).alloc (.cells #[Value.int .i64 0, .int .i64 0, .int .i64 0, .int .i64 0, .int .i64 0, .int .i64 0, .int .i64 0, .int .i64 0, .int .i64 0, .int .i64 0, .int .i64 0, .int .i64 0, .int .i64 0, .int .i64 0, .int .i64 0, .int .i64 0, .int .i64 0, .int .i64 0, .int .i64 0, .int .i64 0, .int .i64 0, .int .i64 0, .int .i64 0, .int .i64 0, .int .i64 0, .int .i64 0, .int .i64 0, .int .i64 0, .int .i64 0, .int .i64 0, .int .i64 0, .int .i64 0] 94)).heap.size = w.heap.size + 3 by simp] at b3
 have hA : Below w.heap.size w ((((w.alloc (.cells (ints a) 94)).alloc (.cells (ints b) 94)).alloc (.cells #[Value.int .i64 0, .int .i64 0, .int .i64 0, .int .i64 0, .int .i64 0, .int .i64 0, .int .i64 0, .int .i64 0, .int .i64 0, .int .i64 0, .int .i64 0, .int .i64 0, .int .i64 0, .int .i64 0, .int .i64 0, .int .i64 0, .int .i64 0, .int .i64 0, .int .i64 0, .int .i64 0, .int .i64 0, .int .i64 0, .int .i64 0, .int .i64 0, .int .i64 0, .int .i64 0, .int .i64 0, .int .i64 0, .int .i64 0, .int .i64 0, .int .i64 0, .int .i64 0] 94)).alloc (.cells #[Value.int .i64 0, .int .i64 0, .int .i64 0, .int .i64 0, .int .i64 0, .int .i64 0, .int .i64 0, .int .i64 0, .int .i64 0, .int .i64 0, .int .i64 0, .int .i64 0, .int .i64 0, .int .i64 0, .int .i64 0, .int .i64 0, .int .i64 0, .int .i64 0, .int .i64 0, .int .i64 0, .int .i64 0, .int .i64 0, .int .i64 0, .int .i64 0, .int .i64 0, .int .i64 0, .int .i64 0, .int .i64 0, .int .i64 0, .int .i64 0, .int .i64 0, .int .i64 0] 94)) := ((((Below.refl _ w).alloc (Nat.le_refl _) _).alloc (by simp) _).alloc (by simp; omega) _).alloc (by simp; omega) _
 have HS := hid (show Blk ((((w.alloc (.cells (ints a) 94)).alloc (.cells (ints b) 94)).alloc (.cells #[Value.int .i64 0, .int .i64 0, .int .i64 0, .int .i64 0, .int .i64 0, .int .i64 0, .int .i64 0, .int .i64 0, .int .i64 0, .int .i64 0, .int .i64 0, .int .i64 0, .int .i64 0, .int .i64 0, .int .i64 0, .int .i64 0, .int .i64 0, .int .i64 0, .int .i64 0, .int .i64 0, .int .i64 0, .int .i64 0, .int .i64 0, .int .i64 0, .int .i64 0, .int .i64 0, .int .i64 0, .int .i64 0, .int .i64 0, .int .i64 0, .int .i64 0, .int .i64 0] 94)).alloc (.cells #[Value.int .i64 0, .int .i64 0, .int .i64 0, .int .i64 0, .int .i64 0, .int .i64 0, .int .i64 0, .int .i64 0, .int .i64 0, .int .i64 0, .int .i64 0, .int .i64 0, .int .i64 0, .int .i64 0, .int .i64 0, .int .i64 0, .int .i64 0, .int .i64 0, .int .i64 0, .int .i64 0, .int .i64 0, .int .i64 0, .int .i64 0, .int .i64 0, .int .i64 0, .int .i64 0, .int .i64 0, .int .i64 0, .int .i64 0, .int .i64 0, .int .i64 0, .int .i64 0] 94)) w.heap.size 94 (ints a) ∧ _ ∧ _ ∧ _ ∧ _ from ⟨b0, b1, b2, b3, hA⟩)
 clear b0 b1 b2 b3 hA
 have HIA := hid hia
 have HIB := hid hib
 clear hia hib
 go_enter Tryz.func116, Tryz.ntmps116
 go_wp2_with fail
 go_loopg [7] 16 (fun gg s7 wr => ∃ kk : Nat, kk ≤ 16 ∧ 16 - kk ≤ gg ∧ s7 = .int .i64 kk ∧ Aside (Blk wr w.heap.size 94 (ints (seamA turnL a b kk)) ∧ Blk wr (w.heap.size + 1) 94 (ints (seamB turnL a b kk)) ∧ Blk wr (w.heap.size + 2) 94 #[Value.int .i64 0, .int .i64 0, .int .i64 0, .int .i64 0, .int .i64 0, .int .i64 0, .int .i64 0, .int .i64 0, .int .i64 0, .int .i64 0, .int .i64 0, .int .i64 0, .int .i64 0, .int .i64 0, .int .i64 0, .int .i64 0, .int .i64 0, .int .i64 0, .int .i64 0, .int .i64 0, .int .i64 0, .int .i64 0, .int .i64 0, .int .i64 0, .int .i64 0, .int .i64 0, .int .i64 0, .int .i64 0, .int .i64 0, .int .i64 0, .int .i64 0, .int .i64 0] ∧ Blk wr (w.heap.size + 3) 94 #[Value.int .i64 0, .int .i64 0, .int .i64 0, .int .i64 0, .int .i64 0, .int .i64 0, .int .i64 0, .int .i64 0, .int .i64 0, .int .i64 0, .int .i64 0, .int .i64 0, .int .i64 0, .int .i64 0, .int .i64 0, .int .i64 0, .int .i64 0, .int .i64 0, .int .i64 0, .int .i64 0, .int .i64 0, .int .i64 0, .int .i64 0, .int .i64 0, .int .i64 0, .int .i64 0, .int .i64 0, .int .i64 0, .int .i64 0, .int .i64 0, .int .i64 0, .int .i64 0] ∧ Below w.heap.size w wr))
 case atStart => exact ⟨0, Nat.zero_le _, by omega, rfl, by rw [seamA_zero ha, seamB_zero]; exact HS.out⟩
 case round =>
  clear HS
  obtain ⟨kk, hkk, hgk, rfl, H⟩ := hrel
  by_cases hlt : kk < 16
  · have hltz : (kk : Int) < 16 := by omega
    have hk0 : 0 ≤ (kk : Int) := by omega
    have hk1 : (kk : Int) < 32 := by omega
    have hk2 : 0 ≤ 31 - (kk : Int) := by omega
    have hk3 : 31 - (kk : Int) < 32 := by omega
    have hk4 : (31 - (kk : Int)).toNat = 31 - kk := by omega
    have hk5 : (kk : Int) ≤ 31 := by omega
    have hk6 : 31 < 32 + (kk : Int) := by omega
    have hw1 : IntKind.i64.wrap (31 - (kk : Int)) = 31 - kk := IntWalk.i64_in _ ⟨by omega, by omega⟩
    have hw2 : IntKind.i64.wrap (4 * (kk : Int)) = 4 * kk := IntWalk.i64_in _ ⟨by omega, by omega⟩
    have hw3 : IntKind.i64.wrap (62 - 4 * (kk : Int)) = 62 - 4 * kk := IntWalk.i64_in _ ⟨by omega, by omega⟩
    have hla := seamA_len turnL a b kk
    have hlb := seamB_len turnL a b kk
    have HA := hid (seamA_succ (F := turnL) (b := b) ha hlt)
    have HB := hid (seamB_succ (F := turnL) (a := a) hb hlt)
    have hhere := seam_here (F := turnL) ha hb hlt
    have c0 := blk_int H.out.1 (i := 31 - kk) (by omega)
    have c1 := blk_int H.out.2.1 (i := kk) (by omega)
    rw [hhere.1] at c0
    rw [hhere.2] at c1
    have hx := allIn_get HIA.out (31 - kk)
    have hy := allIn_get HIB.out kk
    have ct := fun W => turnL_calls (a.getD (31 - kk) 0) (b.getD kk 0) (62 - 4 * kk) W hx.1 hx.2 hy.1 hy.2 (by omega) (by omega)
    have hsz := H.out.2.2.2.2.size
    have hl0 := blk_lt H.out.1
    have hl1 := blk_lt H.out.2.1
    generalize a.getD (31 - kk) 0 = x at *
    generalize b.getD kk 0 = y at *
    generalize (turnL x y (62 - 4 * (kk : Int))).1 = p at *
    generalize (turnL x y (62 - 4 * (kk : Int))).2 = q at *
    clear hhere hx hy hla hlb
    go_wp2_with fail
    refine wp_region_held_drew (S := (fun _ => True)) (by kernel_rfl) trivial (fun hHeld => ?_)
    refine wpAnyH_take (i := 0) (oi := ⟨_,_,_,_,_,_⟩) (v := ?_) rfl (by kernel_rfl) (by kernel_rfl) (by kernel_rfl) (fun _ _ _ h => h) (Or.inl ⟨by rfl, ?_⟩) (by assumption) ?_; rotate_left; · intro W hSw; (try dsimp only at hSw); go_simp; try with_reducible rfl
    try simp only [Act.put, tA, tB, tC]
    refine wpAnyH_take (i := 1) (oi := ⟨_,_,_,_,_,_⟩) (v := ?_) rfl (by kernel_rfl) (by kernel_rfl) (by kernel_rfl) (fun _ _ _ h => h) (Or.inl ⟨by rfl, ?_⟩) (by assumption) ?_; rotate_left; · intro W hSw; (try dsimp only at hSw); go_simp; try with_reducible rfl
    try simp only [Act.put, tA, tB, tC]
    refine wpAnyH_take (i := 2) (oi := ⟨_,_,_,_,_,_⟩) (v := ?_) rfl (by kernel_rfl) (by kernel_rfl) (by kernel_rfl) (fun _ _ _ h => h) (Or.inl ⟨by rfl, ?_⟩) (by assumption) ?_; rotate_left; · intro W hSw; (try dsimp only at hSw); go_simp; try with_reducible rfl
    try simp only [Act.put, tA, tB, tC]
    refine wpAnyH_take (i := 3) (oi := ⟨_,_,_,_,_,_⟩) (v := ?_) rfl (by kernel_rfl) (by kernel_rfl) (by kernel_rfl) (fun _ _ _ h => h) (Or.inl ⟨by rfl, ?_⟩) (by assumption) ?_; rotate_left; · intro W hSw; (try dsimp only at hSw); go_simp; try with_reducible rfl
    try simp only [Act.put, tA, tB, tC]
    refine wpAnyH_take (i := 4) (oi := ⟨_,_,_,_,_,_⟩) (v := ?_) rfl (by kernel_rfl) (by kernel_rfl) (by kernel_rfl) (fun _ _ _ h => h) (Or.inl ⟨by rfl, ?_⟩) (by assumption) ?_; rotate_left; · intro W hSw; (try dsimp only at hSw); go_simp; try with_reducible rfl
    try simp only [Act.put, tA, tB, tC]
    refine wpAnyH_take (i := 5) (oi := ⟨_,_,_,_,_,_⟩) (v := ?_) rfl (by kernel_rfl) (by kernel_rfl) (by kernel_rfl) (fun _ _ _ h => h) (Or.inl ⟨by rfl, ?_⟩) (by assumption) ?_; rotate_left; · intro W hSw; (try dsimp only at hSw); go_simp; try with_reducible rfl
    try simp only [Act.put, tA, tB, tC]
    refine wpAnyH_take (i := 7) (oi := ⟨_,_,_,_,_,_⟩) (v := ?_) rfl (by kernel_rfl) (by kernel_rfl) (by kernel_rfl) (fun _ _ _ h => h) (Or.inl ⟨by rfl, ?_⟩) (by assumption) ?_; rotate_left; · intro W hSw; (try dsimp only at hSw); go_simp; try with_reducible rfl
    try simp only [Act.put, tA, tB, tC]
    refine wpAnyH_take (i := 8) (oi := ⟨_,_,_,_,_,_⟩) (v := ?_) rfl (by kernel_rfl) (by kernel_rfl) (by kernel_rfl) (fun _ _ _ h => h) (Or.inl ⟨by rfl, ?_⟩) (by assumption) ?_; rotate_left; · intro W hSw; (try dsimp only at hSw); go_simp; try with_reducible rfl
    try simp only [Act.put, tA, tB, tC]
    refine wpAnyH_take (i := 10) (oi := ⟨_,_,_,_,_,_⟩) (v := ?_) rfl (by kernel_rfl) (by kernel_rfl) (by kernel_rfl) (fun _ _ _ h => h) (Or.inl ⟨by rfl, ?_⟩) (by assumption) ?_; rotate_left; · intro W hSw; (try dsimp only at hSw); go_simp; try with_reducible rfl
    try simp only [Act.put, tA, tB, tC]
    refine wpAnyH_take (i := 11) (oi := ⟨_,_,_,_,_,_⟩) (v := ?_) rfl (by kernel_rfl) (by kernel_rfl) (by kernel_rfl) (fun _ _ _ h => h) (Or.inl ⟨by rfl, ?_⟩) (by assumption) ?_; rotate_left; · intro W hSw; (try dsimp only at hSw); go_simp; try with_reducible rfl
    try simp only [Act.put, tA, tB, tC]
    refine wpAnyH_take (i := 12) (oi := ⟨_,_,_,_,_,_⟩) (v := ?_) rfl (by kernel_rfl) (by kernel_rfl) (by kernel_rfl) (fun _ _ _ h => h) (Or.inl ⟨by rfl, ?_⟩) (by assumption) ?_; rotate_left; · intro W hSw; (try dsimp only at hSw); go_simp; try with_reducible rfl
    try simp only [Act.put, tA, tB, tC]
    refine wpAnyH_ready (rs := [6, 9]) (by kernel_rfl) (by simp) ?_
    refine AllReadyH.cons (o := ⟨_,_,_,_,_,_⟩) rfl (fun K hK => ?_) (AllReadyH.cons (o := ⟨_,_,_,_,_,_⟩) rfl (fun K hK => ?_) AllReadyH.nil)
    · go_simp
      refine hK.out _ _ trivial (fun _ => ?_)
      clear hK K
      try simp only [Act.put, tA, tB, tC]
      refine wpAnyH_ready (rs := [9]) (by kernel_rfl) (by simp) ?_
      refine AllReadyH.cons (o := ⟨_,_,_,_,_,_⟩) rfl (fun K hK => ?_) AllReadyH.nil
      go_simp
      skip
      refine hK.out _ _ trivial (fun hHeld => ?_)
      clear hK K
      try simp only [Act.put, tA, tB, tC]
      refine wpAnyH_ready (rs := [13]) (by kernel_rfl) (by simp) ?_
      refine AllReadyH.cons (o := ⟨_,_,_,_,_,_⟩) rfl (fun K hK => ?_) AllReadyH.nil
      go_simp
      refine (ct _).mono ?_
      rintro e w1 ⟨rfl, hC⟩
      go_simp
      have m0 := blk_below (blk_drew H.out.1) hC (by simpa using hl0)
      have m1 := blk_below (blk_drew H.out.2.1) hC (by simpa using hl1)
      have m2 := blk_below (blk_drew H.out.2.2.1) hC (blk_lt H.out.2.2.1)
      have m3 := blk_below (blk_drew H.out.2.2.2.1) hC (blk_lt H.out.2.2.2.1)
      have m4 := bnext H.out.2.2.2.2.drew hC
      refine hK.out _ _ trivial (fun _ => ?_)
      clear hK K
      try simp only [Act.put, tA, tB, tC]
      refine wpAnyH_take (i := 14) (oi := ⟨_,_,_,_,_,_⟩) (v := ?_) rfl (by kernel_rfl) (by kernel_rfl) (by kernel_rfl) (fun _ _ _ h => h) (Or.inl ⟨by rfl, ?_⟩) (by assumption) ?_; rotate_left; · intro W hSw; (try dsimp only at hSw); go_simp; try with_reducible rfl
      try simp only [Act.put, tA, tB, tC]
      refine wpAnyH_take (i := 15) (oi := ⟨_,_,_,_,_,_⟩) (v := ?_) rfl (by kernel_rfl) (by kernel_rfl) (by kernel_rfl) (fun _ _ _ h => h) (Or.inl ⟨by rfl, ?_⟩) (by assumption) ?_; rotate_left; · intro W hSw; (try dsimp only at hSw); go_simp; try with_reducible rfl
      try simp only [Act.put, tA, tB, tC]
      refine wpAnyH_take (i := 16) (oi := ⟨_,_,_,_,_,_⟩) (v := ?_) rfl (by kernel_rfl) (by kernel_rfl) (by kernel_rfl) (fun _ _ _ h => h) (Or.inl ⟨by rfl, ?_⟩) (by assumption) ?_; rotate_left; · intro W hSw; (try dsimp only at hSw); go_simp; try with_reducible rfl
      try simp only [Act.put, tA, tB, tC]
      refine wpAnyH_take (i := 17) (oi := ⟨_,_,_,_,_,_⟩) (v := ?_) rfl (by kernel_rfl) (by kernel_rfl) (by kernel_rfl) (fun _ _ _ h => h) (Or.inl ⟨by rfl, ?_⟩) (by assumption) ?_; rotate_left; · intro W hSw; (try dsimp only at hSw); go_simp; try with_reducible rfl
      try simp only [Act.put, tA, tB, tC]
      have d0 := blk_int m0 (i := 31 - kk) (by rw [seamA_len]; omega)
      have d1 := blk_int m1 (i := kk) (by rw [seamB_len]; omega)
      have f0 := blk_free m0 (31 - kk)
      have f1 := blk_free m1 kk
      have M := hid (show Blk w1 w.heap.size 94 (ints (seamA turnL a b kk)) ∧ Blk w1 (w.heap.size + 1) 94 (ints (seamB turnL a b kk)) ∧ Blk w1 (w.heap.size + 2) 94 #[Value.int .i64 0, .int .i64 0, .int .i64 0, .int .i64 0, .int .i64 0, .int .i64 0, .int .i64 0, .int .i64 0, .int .i64 0, .int .i64 0, .int .i64 0, .int .i64 0, .int .i64 0, .int .i64 0, .int .i64 0, .int .i64 0, .int .i64 0, .int .i64 0, .int .i64 0, .int .i64 0, .int .i64 0, .int .i64 0, .int .i64 0, .int .i64 0, .int .i64 0, .int .i64 0, .int .i64 0, .int .i64 0, .int .i64 0, .int .i64 0, .int .i64 0, .int .i64 0] ∧ Blk w1 (w.heap.size + 3) 94 #[Value.int .i64 0, .int .i64 0, .int .i64 0, .int .i64 0, .int .i64 0, .int .i64 0, .int .i64 0, .int .i64 0, .int .i64 0, .int .i64 0, .int .i64 0, .int .i64 0, .int .i64 0, .int .i64 0, .int .i64 0, .int .i64 0, .int .i64 0, .int .i64 0, .int .i64 0, .int .i64 0, .int .i64 0, .int .i64 0, .int .i64 0, .int .i64 0, .int .i64 0, .int .i64 0, .int .i64 0, .int .i64 0, .int .i64 0, .int .i64 0, .int .i64 0, .int .i64 0] ∧ Below w.heap.size w w1 from ⟨m0, m1, m2, m3, m4⟩)
      clear m0 m1 m2 m3 m4 H c0 c1
      refine wpAnyH_ready (rs := [18]) (by kernel_rfl) (by simp) ?_
      refine AllReadyH.cons (o := ⟨_,_,_,_,_,_⟩) rfl (fun K hK => ?_) AllReadyH.nil
      go_simp
      skip
      refine hK.out _ _ trivial (fun hHeld => ?_)
      clear hK K
      try simp only [Act.put, tA, tB, tC]
      refine wpAnyH_take (i := 19) (oi := ⟨_,_,_,_,_,_⟩) (v := ?_) rfl (by kernel_rfl) (by kernel_rfl) (by kernel_rfl) (fun _ _ _ h => h) (Or.inl ⟨by rfl, ?_⟩) (by assumption) ?_; rotate_left; · intro W hSw; (try dsimp only at hSw); go_simp; try with_reducible rfl
      try simp only [Act.put, tA, tB, tC]
      refine wpAnyH_ready (rs := [20]) (by kernel_rfl) (by simp) ?_
      refine AllReadyH.cons (o := ⟨_,_,_,_,_,_⟩) rfl (fun K hK => ?_) AllReadyH.nil
      go_simp
      skip
      refine hK.out _ _ trivial (fun hHeld => ?_)
      clear hK K
      try simp only [Act.put, tA, tB, tC]
      refine wpAnyH_done (by kernel_rfl) ?_ _
      have M' := M.out
      clear d0 d1 f0 f1 hw1 hw2 hw3
      go_wp2_with fail
      go_roundg (16 - (kk + 1))
      case measure => omega
      case rel =>
       obtain ⟨h1, h2, h3, h4, h5⟩ := M.out
       refine ⟨kk + 1, by omega, by omega, by go_num, ⟨?_, ?_, blk_far (blk_far h3 (by omega) _) (by omega) _, blk_far (blk_far h4 (by omega) _) (by omega) _, (h5.setCell (p := ⟨_, _, none⟩) (by show w.heap.size ≤ w.heap.size; omega) _).setCell (p := ⟨_, _, none⟩) (by show w.heap.size ≤ w.heap.size + 1; omega) _⟩⟩
       · have h := blk_far (blk_set_int h1 (31 - kk) p) (b := w.heap.size + 1) (i := kk) (by omega) (.int .i64 q)
         rw [HA.out] at h
         exact h
       · have h := blk_set_int (blk_far h2 (b := w.heap.size) (i := 31 - kk) (by omega) (.int .i64 p)) kk q
         rw [HB.out] at h
         exact h
    · go_simp
      refine hK.out _ _ trivial (fun _ => ?_)
      clear hK K
      try simp only [Act.put, tA, tB, tC]
      refine wpAnyH_ready (rs := [6]) (by kernel_rfl) (by simp) ?_
      refine AllReadyH.cons (o := ⟨_,_,_,_,_,_⟩) rfl (fun K hK => ?_) AllReadyH.nil
      go_simp
      skip
      refine hK.out _ _ trivial (fun hHeld => ?_)
      clear hK K
      try simp only [Act.put, tA, tB, tC]
      refine wpAnyH_ready (rs := [13]) (by kernel_rfl) (by simp) ?_
      refine AllReadyH.cons (o := ⟨_,_,_,_,_,_⟩) rfl (fun K hK => ?_) AllReadyH.nil
      go_simp
      refine (ct _).mono ?_
      rintro e w1 ⟨rfl, hC⟩
      go_simp
      have m0 := blk_below (blk_drew H.out.1) hC (by simpa using hl0)
      have m1 := blk_below (blk_drew H.out.2.1) hC (by simpa using hl1)
      have m2 := blk_below (blk_drew H.out.2.2.1) hC (blk_lt H.out.2.2.1)
      have m3 := blk_below (blk_drew H.out.2.2.2.1) hC (blk_lt H.out.2.2.2.1)
      have m4 := bnext H.out.2.2.2.2.drew hC
      refine hK.out _ _ trivial (fun _ => ?_)
      clear hK K
      try simp only [Act.put, tA, tB, tC]
      refine wpAnyH_take (i := 14) (oi := ⟨_,_,_,_,_,_⟩) (v := ?_) rfl (by kernel_rfl) (by kernel_rfl) (by kernel_rfl) (fun _ _ _ h => h) (Or.inl ⟨by rfl, ?_⟩) (by assumption) ?_; rotate_left; · intro W hSw; (try dsimp only at hSw); go_simp; try with_reducible rfl
      try simp only [Act.put, tA, tB, tC]
      refine wpAnyH_take (i := 15) (oi := ⟨_,_,_,_,_,_⟩) (v := ?_) rfl (by kernel_rfl) (by kernel_rfl) (by kernel_rfl) (fun _ _ _ h => h) (Or.inl ⟨by rfl, ?_⟩) (by assumption) ?_; rotate_left; · intro W hSw; (try dsimp only at hSw); go_simp; try with_reducible rfl
      try simp only [Act.put, tA, tB, tC]
      refine wpAnyH_take (i := 16) (oi := ⟨_,_,_,_,_,_⟩) (v := ?_) rfl (by kernel_rfl) (by kernel_rfl) (by kernel_rfl) (fun _ _ _ h => h) (Or.inl ⟨by rfl, ?_⟩) (by assumption) ?_; rotate_left; · intro W hSw; (try dsimp only at hSw); go_simp; try with_reducible rfl
      try simp only [Act.put, tA, tB, tC]
      refine wpAnyH_take (i := 17) (oi := ⟨_,_,_,_,_,_⟩) (v := ?_) rfl (by kernel_rfl) (by kernel_rfl) (by kernel_rfl) (fun _ _ _ h => h) (Or.inl ⟨by rfl, ?_⟩) (by assumption) ?_; rotate_left; · intro W hSw; (try dsimp only at hSw); go_simp; try with_reducible rfl
      try simp only [Act.put, tA, tB, tC]
      have d0 := blk_int m0 (i := 31 - kk) (by rw [seamA_len]; omega)
      have d1 := blk_int m1 (i := kk) (by rw [seamB_len]; omega)
      have f0 := blk_free m0 (31 - kk)
      have f1 := blk_free m1 kk
      have M := hid (show Blk w1 w.heap.size 94 (ints (seamA turnL a b kk)) ∧ Blk w1 (w.heap.size + 1) 94 (ints (seamB turnL a b kk)) ∧ Blk w1 (w.heap.size + 2) 94 #[Value.int .i64 0, .int .i64 0, .int .i64 0, .int .i64 0, .int .i64 0, .int .i64 0, .int .i64 0, .int .i64 0, .int .i64 0, .int .i64 0, .int .i64 0, .int .i64 0, .int .i64 0, .int .i64 0, .int .i64 0, .int .i64 0, .int .i64 0, .int .i64 0, .int .i64 0, .int .i64 0, .int .i64 0, .int .i64 0, .int .i64 0, .int .i64 0, .int .i64 0, .int .i64 0, .int .i64 0, .int .i64 0, .int .i64 0, .int .i64 0, .int .i64 0, .int .i64 0] ∧ Blk w1 (w.heap.size + 3) 94 #[Value.int .i64 0, .int .i64 0, .int .i64 0, .int .i64 0, .int .i64 0, .int .i64 0, .int .i64 0, .int .i64 0, .int .i64 0, .int .i64 0, .int .i64 0, .int .i64 0, .int .i64 0, .int .i64 0, .int .i64 0, .int .i64 0, .int .i64 0, .int .i64 0, .int .i64 0, .int .i64 0, .int .i64 0, .int .i64 0, .int .i64 0, .int .i64 0, .int .i64 0, .int .i64 0, .int .i64 0, .int .i64 0, .int .i64 0, .int .i64 0, .int .i64 0, .int .i64 0] ∧ Below w.heap.size w w1 from ⟨m0, m1, m2, m3, m4⟩)
      clear m0 m1 m2 m3 m4 H c0 c1
      refine wpAnyH_ready (rs := [18]) (by kernel_rfl) (by simp) ?_
      refine AllReadyH.cons (o := ⟨_,_,_,_,_,_⟩) rfl (fun K hK => ?_) AllReadyH.nil
      go_simp
      skip
      refine hK.out _ _ trivial (fun hHeld => ?_)
      clear hK K
      try simp only [Act.put, tA, tB, tC]
      refine wpAnyH_take (i := 19) (oi := ⟨_,_,_,_,_,_⟩) (v := ?_) rfl (by kernel_rfl) (by kernel_rfl) (by kernel_rfl) (fun _ _ _ h => h) (Or.inl ⟨by rfl, ?_⟩) (by assumption) ?_; rotate_left; · intro W hSw; (try dsimp only at hSw); go_simp; try with_reducible rfl
      try simp only [Act.put, tA, tB, tC]
      refine wpAnyH_ready (rs := [20]) (by kernel_rfl) (by simp) ?_
      refine AllReadyH.cons (o := ⟨_,_,_,_,_,_⟩) rfl (fun K hK => ?_) AllReadyH.nil
      go_simp
      skip
      refine hK.out _ _ trivial (fun hHeld => ?_)
      clear hK K
      try simp only [Act.put, tA, tB, tC]
      refine wpAnyH_done (by kernel_rfl) ?_ _
      have M' := M.out
      clear d0 d1 f0 f1 hw1 hw2 hw3
      go_wp2_with fail
      go_roundg (16 - (kk + 1))
      case measure => omega
      case rel =>
       obtain ⟨h1, h2, h3, h4, h5⟩ := M.out
       refine ⟨kk + 1, by omega, by omega, by go_num, ⟨?_, ?_, blk_far (blk_far h3 (by omega) _) (by omega) _, blk_far (blk_far h4 (by omega) _) (by omega) _, (h5.setCell (p := ⟨_, _, none⟩) (by show w.heap.size ≤ w.heap.size; omega) _).setCell (p := ⟨_, _, none⟩) (by show w.heap.size ≤ w.heap.size + 1; omega) _⟩⟩
       · have h := blk_far (blk_set_int h1 (31 - kk) p) (b := w.heap.size + 1) (i := kk) (by omega) (.int .i64 q)
         rw [HA.out] at h
         exact h
       · have h := blk_set_int (blk_far h2 (b := w.heap.size) (i := 31 - kk) (by omega) (.int .i64 p)) kk q
         rw [HB.out] at h
         exact h
  · have hltz : ¬ (kk : Int) < 16 := by omega
    obtain rfl : kk = 16 := by omega
    obtain ⟨h0, h1, h2, h3, h4⟩ := H.out
    have hl0 := (seamA_len turnL a b 16).trans ha
    have hl1 := (seamB_len turnL a b 16).trans hb
    clear H
    generalize hX : seamA turnL a b 16 = x at *
    generalize hY : seamB turnL a b 16 = y at *
    have HX := hid hX
    have HY := hid hY
    clear hX hY
    have hs := h4.size
    have hu := Tryz.underlying94
    have hi0 : (Tryz.prog.info? 94).map (·.size) = some (x.map (Value.int .i64)).length := by rw [List.length_map, hl0]; kernel_rfl
    have hi1 : (Tryz.prog.info? 94).map (·.size) = some (y.map (Value.int .i64)).length := by rw [List.length_map, hl1]; kernel_rfl
    go_wp2_with fail
    refine wp_region_held_drew (S := (fun W => Blk W w.heap.size 94 (ints x) ∧ Blk W (w.heap.size + 1) 94 (ints y))) (by kernel_rfl) ⟨blk_drew h0, blk_drew h1⟩ (fun hHeld => ?_)
    refine wpAnyH_take (i := 0) (oi := ⟨_,_,_,_,_,_⟩) (v := _) rfl (by kernel_rfl) (by kernel_rfl) (by kernel_rfl) (fun _ _ _ h => h) (yieldsIf_load_mid (by rfl) _ _ rfl _ _ rfl _ _ (fun _ h => range_whole h.1) hu rfl hi0) (by assumption) ?_
    try simp only [Act.put, tA, tB, tC]
    refine wpAnyH_take (i := 1) (oi := ⟨_,_,_,_,_,_⟩) (v := _) rfl (by kernel_rfl) (by kernel_rfl) (by kernel_rfl) (fun _ _ _ h => h) (yieldsIf_load_mid (by rfl) _ _ rfl _ _ rfl _ _ (fun _ h => range_whole h.2) hu rfl hi1) (by assumption) ?_
    try simp only [Act.put, tA, tB, tC]
    have h2' := blk_drew h2
    have h3' := blk_drew h3
    have h4' := h4.drew
    have hs' := h4'.size
    clear h0 h1 h2 h3 h4 hs
    refine wpAnyH_ready (rs := [2]) (by kernel_rfl) (by simp) ?_
    refine AllReadyH.cons (o := ⟨_,_,_,_,_,_⟩) rfl (fun K hK => ?_) AllReadyH.nil
    rw [if_pos (by rfl)]
    refine wp_store_mid 94 _ _ rfl (w.heap.size + 2) 0 (ints x) rfl rfl (by rw [ints_size, hl0]; exact blk_there h2') (by rw [ints_size, hl0]; kernel_rfl) (ints_one _) ?_
    have k1 := setCells_whole (new := ints x) h2' (by rw [ints_size, hl0]; rfl)
    have h5 := blk_grown h3' k1.2 (by simp)
    have h6 := below_grown h4' k1.2 hs' (by omega)
    refine hK.out _ _ ⟨blk_grown hHeld.1 k1.2 (by simp), blk_grown hHeld.2 k1.2 (by simp)⟩ (fun hHeld => ?_)
    clear hK K
    try simp only [Act.put]
    have hs6 := h6.size
    have k0 := k1.1
    clear h2' h3' h4' hs' k1
    refine wpAnyH_ready (rs := [3]) (by kernel_rfl) (by simp) ?_
    refine AllReadyH.cons (o := ⟨_,_,_,_,_,_⟩) rfl (fun K hK => ?_) AllReadyH.nil
    rw [if_pos (by rfl)]
    refine wp_store_mid 94 _ _ rfl (w.heap.size + 3) 0 (ints y) rfl rfl (by rw [ints_size, hl1]; exact blk_there h5) (by rw [ints_size, hl1]; kernel_rfl) (ints_one _) ?_
    have k2 := setCells_whole (new := ints y) h5 (by rw [ints_size, hl1]; rfl)
    have h7 := below_grown h6 k2.2 hs6 (by omega)
    have k3 := blk_grown k0 k2.2 (by simp)
    have k4 := k2.1
    refine hK.out _ _ ⟨blk_grown hHeld.1 k2.2 (by simp), blk_grown hHeld.2 k2.2 (by simp)⟩ (fun hHeld => ?_)
    clear hK K
    try simp only [Act.put]
    refine wpAnyH_done (by kernel_rfl) ?_ _
    clear hHeld
    go_wp2_with fail
    exact bodyPost_ret (results_two_rows rfl _ _ (w.heap.size + 2) (w.heap.size + 3) 94 94 (ints x) (ints y) (0, 0) (0, 0) _ rfl rfl k3 k4 Tryz.underlying94 rfl (by rw [ints_size, hl0]; kernel_rfl) (by rw [ints_size, hl1]; kernel_rfl)) rfl ⟨by rw [HX.out, HY.out], h7⟩

end Go.Proofs.YtiigipnfnfpepaaGreatDoor
namespace Go.Proofs.YtiigipnfnfpepaaGreatDoor
open Go.RowKit
attribute [local go_sem ↓] Go.wp_at_zero Go.wp_at_succ

set_option maxRecDepth 100000 in
theorem count_calls (n : Int) (w : World) (h0 : 0 ≤ n) (h1 : n ≤ 9223372036854775807) : Calls Tryz.prog 114 #[.int .i64 n] w fun e w' => e = .returned (.int .i64 (n / 32 + min (n % 32) 1 + 1)) ∧ w = w' := by
 go_enter Tryz.func114, Tryz.ntmps114
 go_wp2
 go_ret
 exact ⟨rfl, rfl⟩
theorem countN_cast (n : Nat) : (n : Int) / 32 + min ((n : Int) % 32) 1 + 1 = (countN n : Int) := by unfold countN; omega

set_option maxRecDepth 100000 in
theorem lgreat_calls (m : Int) (w : World) : Calls Tryz.prog 115 #[.int .i64 m] w fun e w' => e = .returned (.func (.func 142) #[] #[.pointer (some ⟨w.heap.size, 0, none⟩)]) ∧ w.alloc (.cells #[.int .i64 m] 3) = w' := by
 go_enter Tryz.func115, Tryz.ntmps115
 go_wp2
 go_ret
 exact ⟨rfl, rfl⟩

set_option maxRecDepth 100000 in
theorem lgreatf_calls (x m : Int) (b : Nat) (W : World) (hm0 : 0 ≤ m) (hm : m ≤ 1099511627776) (hc : W.cell? ⟨b, 0, none⟩ = some (.int .i64 m)) :
 Calls Tryz.prog 142 #[.int .i64 x, .pointer (some ⟨b, 0, none⟩)] W fun e w' => e = .returned (.bool (decide (x < -m) || decide (m < x))) ∧ Below W.heap.size W w' := by
 by_cases h : x < -m
 · go_enter Tryz.func142, Tryz.ntmps142
   go_wp2
   go_ret
   exact ⟨by simp [h], by first | exact Below.refl _ _ | exact (Below.refl _ _).drew | exact below_draws (Below.refl _ _) _⟩
 · by_cases h2 : m < x
   · go_enter Tryz.func142, Tryz.ntmps142
     go_wp2
     go_ret
     exact ⟨by simp, by first | exact Below.refl _ _ | exact (Below.refl _ _).drew | exact below_draws (Below.refl _ _) _⟩
   · go_enter Tryz.func142, Tryz.ntmps142
     go_wp2
     go_ret
     exact ⟨by simp [h, h2], by first | exact Below.refl _ _ | exact (Below.refl _ _).drew | exact below_draws (Below.refl _ _) _⟩

theorem lcontains (m : Int) (a : Option Addr) (n c : Nat) (zs : List Int) (w : World) (hm0 : 0 ≤ m) (hm : m ≤ 1099511627776) (hz : zs.length = n) (hbig : n ≤ 9223372036854775807) (h : SlA w a zs) (hi : ∀ z ∈ zs, -9223372036854775808 ≤ z ∧ z ≤ 9223372036854775807) :
 Calls Tryz.prog 73 #[.slice a n c, .func (.func 142) #[] #[.pointer (some ⟨w.heap.size, 0, none⟩)]] (w.alloc (.cells #[.int .i64 m] 3)) fun e w' => e = .returned (.bool (zs.any fun x => decide (x < -m) || decide (m < x))) ∧ Below (w.alloc (.cells #[.int .i64 m] 3)).heap.size (w.alloc (.cells #[.int .i64 m] 3)) w' :=
 containsf_any 142 #[.pointer (some ⟨w.heap.size, 0, none⟩)] _ a n c zs _ hz hbig (slA_below h ((Below.refl _ w).alloc (Nat.le_refl _) _)) hi
  (enters_at Tryz.func142 (by kernel_rfl) rfl)
  (fun W x hb _ _ => (lgreatf_calls x m w.heap.size W hm0 hm ((hb.cell (p := ⟨w.heap.size, 0, none⟩) (by simp)).trans (by simp))).mono fun _ _ h => ⟨h.1, bnext hb h.2⟩)

def greatL (m : Int) (zs : List Int) : Bool := zs.any fun x => decide (x < -m) || decide (m < x)
theorem greatL_in {m : Int} {zs : List Int} : greatL m zs = false ↔ AllIn m zs := by
 simp only [greatL, List.any_eq_false, Bool.not_eq_true, Bool.or_eq_false_iff, decide_eq_false_iff_not, AllIn]
 constructor <;> intro h z hz <;> have := h z hz <;> omega

end Go.Proofs.YtiigipnfnfpepaaGreatDoor
namespace Go.Proofs.YtiigipnfnfpepaaGreatDoor
open Go.RowKit
attribute [local go_sem ↓] Go.wp_at_zero Go.wp_at_succ

theorem seamed_in {c : Int} {A B : List Int → List Int → List Int} {fs : List (List Int)} (hc : 0 ≤ c) (h : ∀ i, AllIn c (fs.getD i []))
 (hA : ∀ a b, AllIn c a → AllIn c b → AllIn (c + c / 2 + 2) (A a b)) (hB : ∀ a b, AllIn c a → AllIn c b → AllIn (c + c / 2 + 2) (B a b)) (k i : Nat) : AllIn (c + c / 2 + 2) (seamed A B fs k i) := by
 intro z hz
 simp only [seamed, List.mem_map, List.mem_range] at hz
 obtain ⟨j, _, rfl⟩ := hz
 have h1 := allIn_get (h i) j
 have h2 := allIn_get (hB _ _ (h (i - 1)) (h i)) j
 have h3 := allIn_get (hA _ _ (h i) (h (i + 1))) j
 split <;> split <;> omega
theorem framesOf_in {c : Int} {l : List Int} (hc : 0 ≤ c) (h : AllIn c l) (i : Nat) : AllIn c ((framesOf l).getD i []) := by
 rcases Nat.lt_or_ge i (countN l.length) with hi | hi
 · rw [framesOf_get l hi]
   intro z hz
   simp only [List.mem_map, List.mem_range] at hz
   obtain ⟨j, _, rfl⟩ := hz
   exact allIn_get h _
 · rw [List.getD_eq_getElem?_getD, List.getElem?_eq_none (by rw [framesOf_len]; exact hi)]
   intro z hz
   simp at hz
theorem seam1_in {c : Int} (hc : 0 ≤ c) (a b : List Int) (ha : AllIn c a) (hb : AllIn c b) : AllIn (c + c / 2 + 2) (seam1 a b) :=
 seamA_in hc ha hb (fun _ _ _ h1 h2 h3 h4 => ⟨(turnL_in hc h1 h2 h3 h4).1, (turnL_in hc h1 h2 h3 h4).2.1⟩) 16
theorem seam2_in {c : Int} (hc : 0 ≤ c) (a b : List Int) (ha : AllIn c a) (hb : AllIn c b) : AllIn (c + c / 2 + 2) (seam2 a b) :=
 seamB_in hc ha hb (fun _ _ _ h1 h2 h3 h4 => (turnL_in hc h1 h2 h3 h4).2.2) 16
theorem countN_pos (n : Nat) : 1 ≤ countN n := by unfold countN; omega
theorem countN_room (n : Nat) : n ≤ 32 * countN n - 32 ∧ 32 * countN n ≤ n + 64 := by unfold countN; omega
theorem seams_is {A B : List Int → List Int → List Int} {fs : List (List Int)} (hA : HalfA A) (hB : HalfB B) (h32 : All32 fs) {k i : Nat} (hk : k + 1 ≤ fs.length) (hi : i < fs.length) : (seamTo A B fs k).getD i [] = seamed A B fs k i := seamTo_get hA hB h32 k hk i hi
theorem seamTo_all {A B : List Int → List Int → List Int} {fs : List (List Int)} (hA : HalfA A) (hB : HalfB B) (h32 : All32 fs) {k : Nat} (hk : k + 1 ≤ fs.length) : All32 (seamTo A B fs k) := by
 intro i hi
 rw [seamTo_len] at hi
 rw [seams_is hA hB h32 hk hi, seamed_len]

set_option maxRecDepth 100000 in
set_option maxHeartbeats 8000000 in
theorem frames_calls (a : Option Addr) (n c : Nat) (l : List Int) (w : World) (hz : l.length = n) (hn : n ≤ 100000) (h : SlA w a l) (hl : AllIn 1048576 l) :
 Calls Tryz.prog 76 #[.slice a n c] w fun e w' => ∃ g, e = .returned (.tuple #[.slice (some ⟨g, 0, none⟩) (countN n) (countN n), .int .i64 0]) ∧ w.heap.size ≤ g ∧ Blk w' g 94 (ints (flat (framesL l))) ∧ Below w.heap.size w w' := by
 have hc := lcontains 1048576 a n c l w (by omega) (by omega) hz (by omega) h (allIn_i64 hl)
 have hA := (Below.refl _ w).alloc (Nat.le_refl _) (.cells #[.int .i64 1048576] 3)
 rw [show (l.any fun x => decide (x < -1048576) || decide (1048576 < x)) = false from greatL_in.2 hl] at hc
 have h32 := framesOf_all l
 have hfl := framesOf_len l
 rw [hz] at hfl
 have hin0 := framesOf_in (by omega) hl
 have hff := fill_frames l
 rw [hz] at hff
 have hroom := countN_room n
 have hpos := countN_pos n
 have hcn := countN_cast n
 have HFL := hid (show framesL l = (seamTo seam1 seam2 (framesOf l) (countN n - 1)).map wavesL by unfold framesL; rw [hz])
 generalize hm : countN n = m at *
 have HM := hid hm
 clear hm
 have HCN := hid hcn
 have H := hid h
 have HFF := hid hff
 have HL := hid hl
 have H32 := hid h32
 have HIN := hid hin0
 obtain ⟨inf, hinf, hzr, hsz, hby⟩ := info_parts (P := Tryz.prog) (e := 94) (z := .agg #[Value.int .i64 0, .int .i64 0, .int .i64 0, .int .i64 0, .int .i64 0, .int .i64 0, .int .i64 0, .int .i64 0, .int .i64 0, .int .i64 0, .int .i64 0, .int .i64 0, .int .i64 0, .int .i64 0, .int .i64 0, .int .i64 0, .int .i64 0, .int .i64 0, .int .i64 0, .int .i64 0, .int .i64 0, .int .i64 0, .int .i64 0, .int .i64 0, .int .i64 0, .int .i64 0, .int .i64 0, .int .i64 0, .int .i64 0, .int .i64 0, .int .i64 0, .int .i64 0]) (size := 32) (bytes := 256) (by kernel_rfl)
 have hmk := fun (W : World) => run_make (P := Tryz.prog) W 90 94 inf (.agg #[Value.int .i64 0, .int .i64 0, .int .i64 0, .int .i64 0, .int .i64 0, .int .i64 0, .int .i64 0, .int .i64 0, .int .i64 0, .int .i64 0, .int .i64 0, .int .i64 0, .int .i64 0, .int .i64 0, .int .i64 0, .int .i64 0, .int .i64 0, .int .i64 0, .int .i64 0, .int .i64 0, .int .i64 0, .int .i64 0, .int .i64 0, .int .i64 0, .int .i64 0, .int .i64 0, .int .i64 0, .int .i64 0, .int .i64 0, .int .i64 0, .int .i64 0, .int .i64 0]) Tryz.underlying90 hinf hzr .i64 .i64 m m (by omega) (Int.le_refl _) (by rw [hby]; omega) (by omega)
 rw [hsz, Int.toNat_natCast, show (Value.agg #[Value.int .i64 0, .int .i64 0, .int .i64 0, .int .i64 0, .int .i64 0, .int .i64 0, .int .i64 0, .int .i64 0, .int .i64 0, .int .i64 0, .int .i64 0, .int .i64 0, .int .i64 0, .int .i64 0, .int .i64 0, .int .i64 0, .int .i64 0, .int .i64 0, .int .i64 0, .int .i64 0, .int .i64 0, .int .i64 0, .int .i64 0, .int .i64 0, .int .i64 0, .int .i64 0, .int .i64 0, .int .i64 0, .int .i64 0, .int .i64 0, .int .i64 0, .int .i64 0]).cells = ints (List.replicate 32 0) by kernel_rfl, made_frames] at hmk
 have HMK := hid hmk
 clear hmk hinf hzr hsz hby hcn h hff hl h32 hin0
 have cc := fun W => count_calls n W (by omega) (by omega)
 rw [HCN.out] at cc
 go_enter Tryz.func76, Tryz.ntmps76
 go_wp2_with fail
 refine (lgreat_calls _ _).mono ?_
 rintro e w1 ⟨rfl, rfl⟩
 go_wp2_with fail
 refine hc.mono ?_
 rintro e w2 ⟨rfl, hB⟩
 have hE := hid (bnext hA hB)
 clear hc hA hB
 have hm5 : (m : Int) ≤ 4096 := by omega
 go_wp2_with fail
 refine (cc _).mono ?_
 rintro e w' ⟨rfl, rfl⟩
 go_wp2_with fail
 refine (cc _).mono ?_
 rintro e w' ⟨rfl, rfl⟩
 have hmk := HMK.out w2
 go_wp2_with fail
 have hs := hE.out.size
 have B0 := hid (hE.out.alloc hs (.cells (ints (List.replicate (32 * m) 0)) 94))
 have K0 := hid (blk_new w2 94 (ints (List.replicate (32 * m) 0)))
 clear hmk hE
 generalize hg : w2.heap.size = g at *
 have HG := hid hg
 clear hg
 go_loopg [24] n (fun gg s24 wr => ∃ kk : Nat, kk ≤ n ∧ n - kk ≤ gg ∧ s24 = .int .i64 kk ∧ Aside (Below w.heap.size w wr) ∧ Aside (Blk wr g 94 (ints (overTo (fun i => l.getD i 0) (List.replicate (32 * m) 0) kk))))
 case atStart => exact ⟨0, Nat.zero_le _, by omega, rfl, B0.out, by rw [overTo_zero]; exact K0.out⟩
 case round =>
  clear B0 K0
  obtain ⟨kk, hkk, hgk, rfl, B, K0⟩ := hrel
  by_cases hlt : kk < n
  · have hltz : (kk : Int) < n := by omega
    obtain ⟨q, hq⟩ : ∃ q : Nat, (kk : Int) / 32 = q := ⟨kk / 32, by omega⟩
    obtain ⟨r, hr⟩ : ∃ r : Nat, (kk : Int) % 32 = r := ⟨kk % 32, by omega⟩
    have hqr : q * 32 + r = kk := by omega
    have hqm : (q : Int) < m := by omega
    have hr32 : (r : Int) < 32 := by omega
    have hSl := slA_at (slA_below2 H.out B.out) (k := kk) (by omega)
    obtain ⟨g0, o0, rfl, hg0, hcs⟩ := hSl
    have cx := hcs kk (by omega)
    have hlo := overTo_len (fun i => l.getD i 0) (List.replicate (32 * m) 0) kk
    have c0 := blk_int K0.out (i := kk) (by rw [hlo, List.length_replicate]; omega)
    have f0 := blk_free K0.out kk
    have HOV := hid (overTo_succ (g := fun i => l.getD i 0) (zs := List.replicate (32 * m) 0) (k := kk) (v := l.getD kk 0) rfl (by rw [List.length_replicate]; omega))
    rw [← hqr] at c0 f0
    generalize l.getD kk 0 = x at *
    have HQR := hid hqr
    clear hqr hcs hlo
    go_wp2_with fail
    go_roundg (n - (kk + 1))
    case measure => omega
    case rel =>
     have hh := blk_set_int K0.out kk x
     rw [HOV.out] at hh
     have hbb := B.out.setCell (p := ⟨g, kk, none⟩) hs (.int .i64 x)
     rw [← HQR.out] at hh hbb
     exact ⟨kk + 1, by omega, by omega, by go_num, hbb, by rw [HQR.out] at hh ⊢; exact hh⟩
  · have hltz : ¬ (kk : Int) < n := by omega
    obtain rfl : kk = n := by omega
    have K1 := K0.out
    rw [HFF.out] at K1
    have K2 := hid K1
    have hA1 := HalfA1
    have hB1 := HalfB1
    clear K0 K1 HFF hltz hgk hkk
    go_wp2_with fail
    go_loopg [41] (m - 1) (fun gg s41 wr => ∃ kk : Nat, kk ≤ m - 1 ∧ m - 1 - kk ≤ gg ∧ s41 = .int .i64 kk ∧ Aside (Below w.heap.size w wr) ∧ Aside (Blk wr g 94 (ints (flat (seamTo seam1 seam2 (framesOf l) kk)))))
    case atStart => exact ⟨0, Nat.zero_le _, by omega, rfl, B.out, K2.out⟩
    case round =>
     clear K2 B
     obtain ⟨kk, hkk, hgk, rfl, B, K0⟩ := hrel
     by_cases hlt : kk < m - 1
     · have hltz : (kk : Int) < (m : Int) - 1 := by omega
       have hk0 : 0 ≤ (kk : Int) := by omega
       have hk1 : (kk : Int) < m := by omega
       have hk2 : 0 ≤ (kk : Int) + 1 := by omega
       have hk3 : (kk : Int) + 1 < m := by omega
       have hk4 : ((kk : Int) + 1).toNat = kk + 1 := by omega
       have hw1 : IntKind.i64.wrap ((kk : Int) + 1) = kk + 1 := IntWalk.i64_in _ ⟨by omega, by omega⟩
       have hlt' : kk + 1 < m := by omega
       have hst : seamTo seam1 seam2 (framesOf l) (kk + 1) = ((seamTo seam1 seam2 (framesOf l) kk).set kk (seam1 ((seamTo seam1 seam2 (framesOf l) kk).getD kk []) ((seamTo seam1 seam2 (framesOf l) kk).getD (kk + 1) []))).set (kk + 1) (seam2 ((seamTo seam1 seam2 (framesOf l) kk).getD kk []) ((seamTo seam1 seam2 (framesOf l) kk).getD (kk + 1) [])) := rfl
       have hal := seamTo_all hA1 hB1 H32.out (k := kk) (by omega)
       have hsl := seamTo_len seam1 seam2 (framesOf l) kk
       rw [hfl] at hsl
       have hf0 := hal kk (by omega)
       have hf1 := hal (kk + 1) (by omega)
       have hi0 := seamed_in (by omega) HIN.out (fun a b => seam1_in (by omega) a b) (fun a b => seam2_in (by omega) a b) kk kk
       have hi1 := seamed_in (by omega) HIN.out (fun a b => seam1_in (by omega) a b) (fun a b => seam2_in (by omega) a b) kk (kk + 1)
       rw [← seams_is hA1 hB1 H32.out (by omega) (by omega)] at hi0 hi1
       have hr0 := frame_range (o := kk * 32) (blk_drew K0.out) (by omega) hf0 rfl
       have hr1 := frame_range (o := (kk + 1) * 32) (blk_drew K0.out) (by omega) hf1 rfl
       have hlx := seam1_len ((seamTo seam1 seam2 (framesOf l) kk).getD kk []) ((seamTo seam1 seam2 (framesOf l) kk).getD (kk + 1) [])
       have hly := seam2_len ((seamTo seam1 seam2 (framesOf l) kk).getD kk []) ((seamTo seam1 seam2 (framesOf l) kk).getD (kk + 1) [])
       have ct := fun W => seam_calls _ _ W hf0 hf1 (allIn_mono hi0 (by omega)) (allIn_mono hi1 (by omega))
       rw [hf0] at hlx
       rw [hf1] at hly
       have HST := hid hst
       clear hst hi0 hi1 hal
       generalize hT : seamTo seam1 seam2 (framesOf l) kk = T at *
       change ∀ W, Calls _ _ #[.agg (ints (T.getD kk [])), .agg (ints (T.getD (kk + 1) []))] W (fun e w' => e = .returned (.tuple #[.agg (ints (seam1 (T.getD kk []) (T.getD (kk + 1) []))), .agg (ints (seam2 (T.getD kk []) (T.getD (kk + 1) [])))]) ∧ Below W.heap.size W w') at ct
       generalize seam1 (T.getD kk []) (T.getD (kk + 1) []) = x at *
       generalize seam2 (T.getD kk []) (T.getD (kk + 1) []) = y at *
       generalize T.getD kk [] = f0 at *
       generalize T.getD (kk + 1) [] = f1 at *
       have hu := Tryz.underlying94
       have hi0 : (Tryz.prog.info? 94).map (·.size) = some (f0.map (Value.int .i64)).length := by rw [List.length_map, hf0]; kernel_rfl
       have hi1 : (Tryz.prog.info? 94).map (·.size) = some (f1.map (Value.int .i64)).length := by rw [List.length_map, hf1]; kernel_rfl
       have hgs : w.heap.size ≤ g := hs
       clear hT
       simp only [ints] at ct
       go_wp2_with fail
       refine wp_region_held_drew (S := (fun _ => True)) (by kernel_rfl) trivial (fun hHeld => ?_)
       refine wpAnyH_take (i := 0) (oi := ⟨_,_,_,_,_,_⟩) (v := ?_) rfl (by kernel_rfl) (by kernel_rfl) (by kernel_rfl) (fun _ _ _ h => h) (Or.inl ⟨by rfl, ?_⟩) (by assumption) ?_; rotate_left; · intro W hSw; (try dsimp only at hSw); go_simp; try with_reducible rfl
       try simp only [Act.put, tA, tB, tC]
       refine wpAnyH_take (i := 1) (oi := ⟨_,_,_,_,_,_⟩) (v := ?_) rfl (by kernel_rfl) (by kernel_rfl) (by kernel_rfl) (fun _ _ _ h => h) (Or.inl ⟨by rfl, ?_⟩) (by assumption) ?_; rotate_left; · intro W hSw; (try dsimp only at hSw); go_simp; try with_reducible rfl
       try simp only [Act.put, tA, tB, tC]
       refine wpAnyH_take (i := 2) (oi := ⟨_,_,_,_,_,_⟩) (v := ?_) rfl (by kernel_rfl) (by kernel_rfl) (by kernel_rfl) (fun _ _ _ h => h) (Or.inl ⟨by rfl, ?_⟩) (by assumption) ?_; rotate_left; · intro W hSw; (try dsimp only at hSw); go_simp; try with_reducible rfl
       try simp only [Act.put, tA, tB, tC]
       refine wpAnyH_take (i := 3) (oi := ⟨_,_,_,_,_,_⟩) (v := ?_) rfl (by kernel_rfl) (by kernel_rfl) (by kernel_rfl) (fun _ _ _ h => h) (Or.inl ⟨by rfl, ?_⟩) (by assumption) ?_; rotate_left; · intro W hSw; (try dsimp only at hSw); go_simp; try with_reducible rfl
       try simp only [Act.put, tA, tB, tC]
       refine wpAnyH_take (i := 4) (oi := ⟨_,_,_,_,_,_⟩) (v := ?_) rfl (by kernel_rfl) (by kernel_rfl) (by kernel_rfl) (fun _ _ _ h => h) (Or.inl ⟨by rfl, ?_⟩) (by assumption) ?_; rotate_left; · intro W hSw; (try dsimp only at hSw); go_simp; try with_reducible rfl
       try simp only [Act.put, tA, tB, tC]
       refine wpAnyH_take (i := 5) (oi := ⟨_,_,_,_,_,_⟩) (v := ?_) rfl (by kernel_rfl) (by kernel_rfl) (by kernel_rfl) (fun _ _ _ h => h) (Or.inl ⟨by rfl, ?_⟩) (by assumption) ?_; rotate_left; · intro W hSw; (try dsimp only at hSw); go_simp; try with_reducible rfl
       try simp only [Act.put, tA, tB, tC]
       refine wpAnyH_take (i := 6) (oi := ⟨_,_,_,_,_,_⟩) (v := ?_) rfl (by kernel_rfl) (by kernel_rfl) (by kernel_rfl) (fun _ _ _ h => h) (Or.inl ⟨by rfl, ?_⟩) (by assumption) ?_; rotate_left; · intro W hSw; (try dsimp only at hSw); go_simp; try with_reducible rfl
       try simp only [Act.put, tA, tB, tC]
       refine wpAnyH_take (i := 7) (oi := ⟨_,_,_,_,_,_⟩) (v := ?_) rfl (by kernel_rfl) (by kernel_rfl) (by kernel_rfl) (fun _ _ _ h => h) (Or.inl ⟨by rfl, ?_⟩) (by assumption) ?_; rotate_left; · intro W hSw; (try dsimp only at hSw); go_simp; try with_reducible rfl
       try simp only [Act.put, tA, tB, tC]
       refine wpAnyH_take (i := 9) (oi := ⟨_,_,_,_,_,_⟩) (v := ?_) rfl (by kernel_rfl) (by kernel_rfl) (by kernel_rfl) (fun _ _ _ h => h) (Or.inl ⟨by rfl, ?_⟩) (by assumption) ?_; rotate_left; · intro W hSw; (try dsimp only at hSw); go_simp; try with_reducible rfl
       try simp only [Act.put, tA, tB, tC]
       refine wpAnyH_take (i := 10) (oi := ⟨_,_,_,_,_,_⟩) (v := ?_) rfl (by kernel_rfl) (by kernel_rfl) (by kernel_rfl) (fun _ _ _ h => h) (Or.inl ⟨by rfl, ?_⟩) (by assumption) ?_; rotate_left; · intro W hSw; (try dsimp only at hSw); go_simp; try with_reducible rfl
       try simp only [Act.put, tA, tB, tC]
       refine wpAnyH_take (i := 11) (oi := ⟨_,_,_,_,_,_⟩) (v := ?_) rfl (by kernel_rfl) (by kernel_rfl) (by kernel_rfl) (fun _ _ _ h => h) (Or.inl ⟨by rfl, ?_⟩) (by assumption) ?_; rotate_left; · intro W hSw; (try dsimp only at hSw); go_simp; try with_reducible rfl
       try simp only [Act.put, tA, tB, tC]
       refine wpAnyH_take (i := 12) (oi := ⟨_,_,_,_,_,_⟩) (v := ?_) rfl (by kernel_rfl) (by kernel_rfl) (by kernel_rfl) (fun _ _ _ h => h) (Or.inl ⟨by rfl, ?_⟩) (by assumption) ?_; rotate_left; · intro W hSw; (try dsimp only at hSw); go_simp; try with_reducible rfl
       try simp only [Act.put, tA, tB, tC]
       refine wpAnyH_ready (rs := [8, 13]) (by kernel_rfl) (by simp) ?_
       refine AllReadyH.cons (o := ⟨_,_,_,_,_,_⟩) rfl (fun K hK => ?_) (AllReadyH.cons (o := ⟨_,_,_,_,_,_⟩) rfl (fun K hK => ?_) AllReadyH.nil)
       · rw [if_pos (by rfl)]
         refine wp_load_mid 94 _ rfl g (kk * 32) rfl (f0.map (Value.int .i64)) _ hr0 hu rfl hi0 ?_
         refine hK.out _ _ trivial (fun _ => ?_)
         clear hK K
         try simp only [Act.put, tA, tB, tC]
         refine wpAnyH_ready (rs := [13]) (by kernel_rfl) (by simp) ?_
         refine AllReadyH.cons (o := ⟨_,_,_,_,_,_⟩) rfl (fun K hK => ?_) AllReadyH.nil
         rw [if_pos (by rfl)]
         refine wp_load_mid 94 _ rfl g ((kk + 1) * 32) rfl (f1.map (Value.int .i64)) _ hr1 hu rfl hi1 ?_
         refine hK.out _ _ trivial (fun _ => ?_)
         clear hK K
         try simp only [Act.put, tA, tB, tC]
         refine wpAnyH_ready (rs := [14]) (by kernel_rfl) (by simp) ?_
         refine AllReadyH.cons (o := ⟨_,_,_,_,_,_⟩) rfl (fun K hK => ?_) AllReadyH.nil
         go_simp
         refine (ct _).mono ?_
         rintro e w1 ⟨rfl, hC⟩
         go_simp
         have m0 := blk_below (blk_drew K0.out) hC (blk_lt K0.out)
         have m4 := bnext B.out.drew hC
         refine hK.out _ _ trivial (fun _ => ?_)
         clear hK K
         try simp only [Act.put, tA, tB, tC]
         refine wpAnyH_take (i := 15) (oi := ⟨_,_,_,_,_,_⟩) (v := ?_) rfl (by kernel_rfl) (by kernel_rfl) (by kernel_rfl) (fun _ _ _ h => h) (Or.inl ⟨by rfl, ?_⟩) (by assumption) ?_; rotate_left; · intro W hSw; (try dsimp only at hSw); go_simp; try with_reducible rfl
         try simp only [Act.put, tA, tB, tC]
         refine wpAnyH_take (i := 16) (oi := ⟨_,_,_,_,_,_⟩) (v := ?_) rfl (by kernel_rfl) (by kernel_rfl) (by kernel_rfl) (fun _ _ _ h => h) (Or.inl ⟨by rfl, ?_⟩) (by assumption) ?_; rotate_left; · intro W hSw; (try dsimp only at hSw); go_simp; try with_reducible rfl
         try simp only [Act.put, tA, tB, tC]
         refine wpAnyH_take (i := 17) (oi := ⟨_,_,_,_,_,_⟩) (v := ?_) rfl (by kernel_rfl) (by kernel_rfl) (by kernel_rfl) (fun _ _ _ h => h) (Or.inl ⟨by rfl, ?_⟩) (by assumption) ?_; rotate_left; · intro W hSw; (try dsimp only at hSw); go_simp; try with_reducible rfl
         try simp only [Act.put, tA, tB, tC]
         refine wpAnyH_take (i := 18) (oi := ⟨_,_,_,_,_,_⟩) (v := ?_) rfl (by kernel_rfl) (by kernel_rfl) (by kernel_rfl) (fun _ _ _ h => h) (Or.inl ⟨by rfl, ?_⟩) (by assumption) ?_; rotate_left; · intro W hSw; (try dsimp only at hSw); go_simp; try with_reducible rfl
         try simp only [Act.put, tA, tB, tC]
         refine wpAnyH_ready (rs := [19]) (by kernel_rfl) (by simp) ?_
         refine AllReadyH.cons (o := ⟨_,_,_,_,_,_⟩) rfl (fun K hK => ?_) AllReadyH.nil
         rw [if_pos (by rfl)]
         refine wp_store_mid 94 _ _ rfl g (kk * 32) (ints x) rfl rfl (by rw [ints_size, hlx]; exact frame_there m0 (by first | omega | (rw [List.length_set]; omega)) rfl) (by rw [ints_size, hlx]; kernel_rfl) (ints_one _) ?_
         have k1 := frame_store (i := kk) m0 (by omega) hlx rfl
         have hs4 := m4.size
         have m5 := below_grown m4 k1.2 hs4 (by omega)
         have m1 := k1.1
         clear m0 m4 k1 hs4
         refine hK.out _ _ trivial (fun _ => ?_)
         clear hK K
         try simp only [Act.put]
         refine wpAnyH_take (i := 20) (oi := ⟨_,_,_,_,_,_⟩) (v := ?_) rfl (by kernel_rfl) (by kernel_rfl) (by kernel_rfl) (fun _ _ _ h => h) (Or.inl ⟨by rfl, ?_⟩) (by assumption) ?_; rotate_left; · intro W hSw; (try dsimp only at hSw); go_simp; try with_reducible rfl
         try simp only [Act.put, tA, tB, tC]
         refine wpAnyH_ready (rs := [21]) (by kernel_rfl) (by simp) ?_
         refine AllReadyH.cons (o := ⟨_,_,_,_,_,_⟩) rfl (fun K hK => ?_) AllReadyH.nil
         rw [if_pos (by rfl)]
         refine wp_store_mid 94 _ _ rfl g ((kk + 1) * 32) (ints y) rfl rfl (by rw [ints_size, hly]; exact frame_there m1 (by first | omega | (rw [List.length_set]; omega)) rfl) (by rw [ints_size, hly]; kernel_rfl) (ints_one _) ?_
         have k1 := frame_store (i := kk + 1) m1 (by rw [List.length_set]; omega) hly rfl
         have hs4 := m5.size
         have m6 := hid (below_grown m5 k1.2 hs4 (by omega))
         have m2 := hid k1.1
         clear m1 m5 k1 hs4
         refine hK.out _ _ trivial (fun _ => ?_)
         clear hK K
         try simp only [Act.put]
         refine wpAnyH_done (by kernel_rfl) ?_ _
         clear hw1 hk4 ct
         go_wp2_with fail
         go_roundg (m - 1 - (kk + 1))
         case measure => omega
         case rel => exact ⟨kk + 1, by omega, by omega, by go_num, m6.out, by rw [HST.out]; exact m2.out⟩
       · rw [if_pos (by rfl)]
         refine wp_load_mid 94 _ rfl g ((kk + 1) * 32) rfl (f1.map (Value.int .i64)) _ hr1 hu rfl hi1 ?_
         refine hK.out _ _ trivial (fun _ => ?_)
         clear hK K
         try simp only [Act.put, tA, tB, tC]
         refine wpAnyH_ready (rs := [8]) (by kernel_rfl) (by simp) ?_
         refine AllReadyH.cons (o := ⟨_,_,_,_,_,_⟩) rfl (fun K hK => ?_) AllReadyH.nil
         rw [if_pos (by rfl)]
         refine wp_load_mid 94 _ rfl g (kk * 32) rfl (f0.map (Value.int .i64)) _ hr0 hu rfl hi0 ?_
         refine hK.out _ _ trivial (fun _ => ?_)
         clear hK K
         try simp only [Act.put, tA, tB, tC]
         refine wpAnyH_ready (rs := [14]) (by kernel_rfl) (by simp) ?_
         refine AllReadyH.cons (o := ⟨_,_,_,_,_,_⟩) rfl (fun K hK => ?_) AllReadyH.nil
         go_simp
         refine (ct _).mono ?_
         rintro e w1 ⟨rfl, hC⟩
         go_simp
         have m0 := blk_below (blk_drew K0.out) hC (blk_lt K0.out)
         have m4 := bnext B.out.drew hC
         refine hK.out _ _ trivial (fun _ => ?_)
         clear hK K
         try simp only [Act.put, tA, tB, tC]
         refine wpAnyH_take (i := 15) (oi := ⟨_,_,_,_,_,_⟩) (v := ?_) rfl (by kernel_rfl) (by kernel_rfl) (by kernel_rfl) (fun _ _ _ h => h) (Or.inl ⟨by rfl, ?_⟩) (by assumption) ?_; rotate_left; · intro W hSw; (try dsimp only at hSw); go_simp; try with_reducible rfl
         try simp only [Act.put, tA, tB, tC]
         refine wpAnyH_take (i := 16) (oi := ⟨_,_,_,_,_,_⟩) (v := ?_) rfl (by kernel_rfl) (by kernel_rfl) (by kernel_rfl) (fun _ _ _ h => h) (Or.inl ⟨by rfl, ?_⟩) (by assumption) ?_; rotate_left; · intro W hSw; (try dsimp only at hSw); go_simp; try with_reducible rfl
         try simp only [Act.put, tA, tB, tC]
         refine wpAnyH_take (i := 17) (oi := ⟨_,_,_,_,_,_⟩) (v := ?_) rfl (by kernel_rfl) (by kernel_rfl) (by kernel_rfl) (fun _ _ _ h => h) (Or.inl ⟨by rfl, ?_⟩) (by assumption) ?_; rotate_left; · intro W hSw; (try dsimp only at hSw); go_simp; try with_reducible rfl
         try simp only [Act.put, tA, tB, tC]
         refine wpAnyH_take (i := 18) (oi := ⟨_,_,_,_,_,_⟩) (v := ?_) rfl (by kernel_rfl) (by kernel_rfl) (by kernel_rfl) (fun _ _ _ h => h) (Or.inl ⟨by rfl, ?_⟩) (by assumption) ?_; rotate_left; · intro W hSw; (try dsimp only at hSw); go_simp; try with_reducible rfl
         try simp only [Act.put, tA, tB, tC]
         refine wpAnyH_ready (rs := [19]) (by kernel_rfl) (by simp) ?_
         refine AllReadyH.cons (o := ⟨_,_,_,_,_,_⟩) rfl (fun K hK => ?_) AllReadyH.nil
         rw [if_pos (by rfl)]
         refine wp_store_mid 94 _ _ rfl g (kk * 32) (ints x) rfl rfl (by rw [ints_size, hlx]; exact frame_there m0 (by first | omega | (rw [List.length_set]; omega)) rfl) (by rw [ints_size, hlx]; kernel_rfl) (ints_one _) ?_
         have k1 := frame_store (i := kk) m0 (by omega) hlx rfl
         have hs4 := m4.size
         have m5 := below_grown m4 k1.2 hs4 (by omega)
         have m1 := k1.1
         clear m0 m4 k1 hs4
         refine hK.out _ _ trivial (fun _ => ?_)
         clear hK K
         try simp only [Act.put]
         refine wpAnyH_take (i := 20) (oi := ⟨_,_,_,_,_,_⟩) (v := ?_) rfl (by kernel_rfl) (by kernel_rfl) (by kernel_rfl) (fun _ _ _ h => h) (Or.inl ⟨by rfl, ?_⟩) (by assumption) ?_; rotate_left; · intro W hSw; (try dsimp only at hSw); go_simp; try with_reducible rfl
         try simp only [Act.put, tA, tB, tC]
         refine wpAnyH_ready (rs := [21]) (by kernel_rfl) (by simp) ?_
         refine AllReadyH.cons (o := ⟨_,_,_,_,_,_⟩) rfl (fun K hK => ?_) AllReadyH.nil
         rw [if_pos (by rfl)]
         refine wp_store_mid 94 _ _ rfl g ((kk + 1) * 32) (ints y) rfl rfl (by rw [ints_size, hly]; exact frame_there m1 (by first | omega | (rw [List.length_set]; omega)) rfl) (by rw [ints_size, hly]; kernel_rfl) (ints_one _) ?_
         have k1 := frame_store (i := kk + 1) m1 (by rw [List.length_set]; omega) hly rfl
         have hs4 := m5.size
         have m6 := hid (below_grown m5 k1.2 hs4 (by omega))
         have m2 := hid k1.1
         clear m1 m5 k1 hs4
         refine hK.out _ _ trivial (fun _ => ?_)
         clear hK K
         try simp only [Act.put]
         refine wpAnyH_done (by kernel_rfl) ?_ _
         clear hw1 hk4 ct
         go_wp2_with fail
         go_roundg (m - 1 - (kk + 1))
         case measure => omega
         case rel => exact ⟨kk + 1, by omega, by omega, by go_num, m6.out, by rw [HST.out]; exact m2.out⟩
     · have hltz : ¬ (kk : Int) < (m : Int) - 1 := by omega
       obtain rfl : kk = m - 1 := by omega
       have K1 := hid K0.out
       have B1 := hid B.out
       have hSl := seamTo_len seam1 seam2 (framesOf l) (m - 1)
       rw [hfl] at hSl
       have hal := seamTo_all hA1 hB1 H32.out (k := m - 1) (by omega)
       have hin : ∀ i, i < m → AllIn 1572866 ((seamTo seam1 seam2 (framesOf l) (m - 1)).getD i []) := fun i hi => by
        rw [seams_is hA1 hB1 H32.out (by omega) (by omega)]
        exact allIn_mono (seamed_in (by omega) HIN.out (fun a b => seam1_in (by omega) a b) (fun a b => seam2_in (by omega) a b) (m - 1) i) (by omega)
       have HAL := hid hal
       have HN := hid hin
       have HF2 := HFL
       clear K0 B hal hin hltz hgk hkk HFL HIN H32
       generalize seamTo seam1 seam2 (framesOf l) (m - 1) = T at *
       go_wp2_with fail
       go_loopg [67] m (fun gg s67 wr => ∃ kk : Nat, kk ≤ m ∧ m - kk ≤ gg ∧ s67 = .int .i64 kk ∧ Aside (Below w.heap.size w wr) ∧ Aside (Blk wr g 94 (ints (flat (eachTo wavesL T kk)))))
       case atStart => exact ⟨0, Nat.zero_le _, by omega, rfl, B1.out, by rw [eachTo_zero]; exact K1.out⟩
       case round =>
        clear K1 B1
        obtain ⟨kk, hkk, hgk, rfl, B, K0⟩ := hrel
        by_cases hlt : kk < m
        · have hltz : (kk : Int) < (m : Int) := by omega
          have hk0 : 0 ≤ (kk : Int) := by omega
          have hel := eachTo_len wavesL T kk
          have hfk := eachTo_get wavesL (fs := T) (k := kk) (i := kk) (by omega)
          rw [if_neg (by omega)] at hfk
          have hf0 := HAL.out kk (by omega)
          have hr0 := frame_range (o := kk * 32) K0.out (i := kk) (by omega) (by rw [hfk]; exact hf0) rfl
          rw [hfk] at hr0
          have cw := fun W => waves_of hf0 (allIn_mono (HN.out kk hlt) (by omega)) W
          have hlx := (wavesL_len (T.getD kk [])).trans hf0
          have HSU := hid (eachTo_succ wavesL (fs := T) (k := kk) (by omega))
          generalize wavesL (T.getD kk []) = x at *
          generalize T.getD kk [] = f0 at *
          clear hfk
          simp only [ints] at cw
          go_wp2_with (first | (refine wpList_load_mid rfl 94 _ rfl g (kk * 32) rfl (f0.map (Value.int .i64)) _ hr0 Tryz.underlying94 rfl (by rw [List.length_map, hf0]; kernel_rfl) ?_))
          refine (cw _).mono ?_
          rintro e w1 ⟨rfl, hC⟩
          have m0 := blk_below K0.out hC (blk_lt K0.out)
          have m4 := bnext B.out hC
          clear hr0 hC K0 B cw
          have hs4 := m4.size
          go_wp2_with (first | (refine wpList_store_mid rfl 94 _ _ rfl g (kk * 32) (ints x) rfl rfl (by rw [ints_size, hlx]; exact frame_there m0 (by omega) rfl) (by rw [ints_size, hlx]; kernel_rfl) (ints_one _) ?_))
          have k1 := frame_store (i := kk) m0 (by omega) hlx rfl
          have m5 := hid (below_grown m4 k1.2 hs4 hs)
          have m1 := k1.1
          rw [HSU.out] at m1
          have m2 := hid m1
          clear m0 m4 k1 hs4 m1
          go_wp2_with fail
          go_roundg (m - (kk + 1))
          case measure => omega
          case rel => exact ⟨kk + 1, by omega, by omega, by go_num, m5.out, m2.out⟩
        · have hltz : ¬ (kk : Int) < (m : Int) := by omega
          obtain rfl : kk = m := by omega
          go_wp2_with fail
          go_ret2
          have hf := K0.out
          rw [eachTo_all wavesL hSl, ← HF2.out] at hf
          exact ⟨g, rfl, hs, hf, B.out⟩
end Go.Proofs.YtiigipnfnfpepaaGreatDoor
namespace Go.Proofs.YtiigipnfnfpepaaGreatDoor
open Go.RowKit
attribute [local go_sem ↓] Go.wp_at_zero Go.wp_at_succ

section
variable {w w' : World} {g : Nat} {t : TypeId} {zs : List Int}
end
section
variable {w : World} {g : Nat} {t : TypeId} {fs : List (List Int)} {i o : Nat}
end

end Go.Proofs.YtiigipnfnfpepaaGreatDoor
namespace Go.Proofs.YtiigipnfnfpepaaGreatDoor
open Go.RowKit
attribute [local go_sem ↓] Go.wp_at_zero Go.wp_at_succ

end Go.Proofs.YtiigipnfnfpepaaGreatDoor
namespace Go.Proofs.YtiigipnfnfpepaaGreatDoor
open Go.RowKit
attribute [local go_sem ↓] Go.wp_at_zero Go.wp_at_succ

theorem map_getD (F : List Int → List Int) {fs : List (List Int)} {i : Nat} (h : i < fs.length) : (fs.map F).getD i [] = F (fs.getD i []) := by
 simp [List.getD_eq_getElem?_getD, List.getElem?_eq_getElem h]
theorem framesL_len (l : List Int) : (framesL l).length = countN l.length := by unfold framesL; rw [List.length_map, seamTo_len, framesOf_len]
theorem framesL_get {l : List Int} {i : Nat} (h : i < countN l.length) : (framesL l).getD i [] = wavesL (seamed seam1 seam2 (framesOf l) (countN l.length - 1) i) := by
 have hp := countN_pos l.length
 unfold framesL
 rw [map_getD wavesL (by rw [seamTo_len, framesOf_len]; exact h), seams_is HalfA1 HalfB1 (framesOf_all l) (by rw [framesOf_len]; omega) (by rw [framesOf_len]; exact h)]
theorem framesL_all (l : List Int) : All32 (framesL l) := by
 intro i hi
 rw [framesL_len] at hi
 rw [framesL_get hi, wavesL_len, seamed_len]
end Go.Proofs.YtiigipnfnfpepaaGreatDoor
namespace Go.Proofs.YtiigipnfnfpepaaGreatDoor
open Go.RowKit
attribute [local go_sem ↓] Go.wp_at_zero Go.wp_at_succ

end Go.Proofs.YtiigipnfnfpepaaGreatDoor
namespace Go.Proofs.YtiigipnfnfpepaaGreatDoor
open Go.RowKit
attribute [local go_sem ↓] Go.wp_at_zero Go.wp_at_succ

theorem frames_alike {l m : List Int} {i p : Nat} (h : ∀ q, q < p → l.getD q 0 = m.getD q 0) (hi : i < countN l.length) (hj : i < countN m.length) :
 ∀ j, 32 * i + j < p → j < 32 → ((framesOf l).getD i []).getD j 0 = ((framesOf m).getD i []).getD j 0 := fun j h1 h2 => by
 rw [framesOf_get l hi, framesOf_get m hj, range32_get _ h2, range32_get _ h2, h _ h1]
theorem frames_near {l m : List Int} {i : Nat} (h : ∀ q, q < 32 * i + 48 → l.getD q 0 = m.getD q 0) (hi : i + 1 < countN l.length) (hj : i + 1 < countN m.length) :
 (framesL l).getD i [] = (framesL m).getD i [] := by
 rw [framesL_get (by omega), framesL_get (by omega)]
 congr 1
 have hl := framesOf_all l
 have hm := framesOf_all m
 rw [All32, framesOf_len] at hl hm
 refine list_getD_ext (by rw [seamed_len, seamed_len]) (fun j hj' => ?_)
 rw [seamed_len] at hj'
 rw [seamed_get _ _ hj', seamed_get _ _ hj']
 by_cases h16 : j < 16
 · rw [if_pos h16, if_pos h16]
   by_cases h0 : 0 < i
   · rw [if_pos (by omega), if_pos (by omega)]
     exact (HalfB1.2 _ _ _ _ (hl (i - 1) (by omega)) (hm (i - 1) (by omega)) (hl i (by omega)) (hm i (by omega)) (fun q _ h2 => frames_alike h (by omega) (by omega) q (by omega) h2) (fun q h1 => frames_alike h (by omega) (by omega) q (by omega) (by omega))).1 j h16
   · rw [if_neg (by omega), if_neg (by omega)]
     exact frames_alike h (by omega) (by omega) j (by omega) hj'
 · rw [if_neg h16, if_neg h16, if_pos (by omega), if_pos (by omega)]
   exact (HalfA1.2 _ _ _ _ (hl i (by omega)) (hm i (by omega)) (hl (i + 1) (by omega)) (hm (i + 1) (by omega)) (fun q _ h2 => frames_alike h (by omega) (by omega) q (by omega) h2) (fun q h1 => frames_alike h (by omega) (by omega) q (by omega) (by omega))).1 j (by omega) hj'

end Go.Proofs.YtiigipnfnfpepaaGreatDoor
