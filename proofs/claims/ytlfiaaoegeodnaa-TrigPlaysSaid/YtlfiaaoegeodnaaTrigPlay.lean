/- The walk of TrigPlays. -/
import Derived.Test.YtlfiaaoegeodnaaTable
import Derived.Test.YtlfiaaoegeodnaaRefT
import Derived.Test.YtlfiaaoegeodnaaTrigLaws
namespace Go.Proofs.Ytlfiaaoegeodnaa
open Go.RowKit

set_option maxHeartbeats 1000000 in
theorem trigPlays_walk (a0 : Int) (a1 : Int) (_w0 : (Lit.int .i64 a0).wf = true) (_w1 : (Lit.int .u64 a1).wf = true) (w : World) :
    Calls Try.prog 8 #[.int .i64 a0, .int .u64 a1] w (LawTrue w) := by
  have hm := mask62 a1
  have hb := i64_bounds _w0
  have ht := tmod_bd a0 (m := 127) (by omega)
  simp only [Int.reduceAdd] at ht
  go_enter Try.func8, Try.ntmps8
  go_wp2_with fail
  refine (awakeT_calls _).mono ?_
  rintro e w1 ⟨rfl, hB⟩
  go_wp2_with fail
  refine (turn_calls _ _ hb.1 hb.2).mono ?_
  rintro e w2 ⟨rfl, hn⟩
  replace hB := bnext hB hn
  clear hn
  go_wp2_with fail
  refine (rturn_calls _ _).mono ?_
  rintro e w' ⟨rfl, rfl⟩
  go_wp2_with fail
  refine (rturn_calls _ _).mono ?_
  rintro e w' ⟨rfl, rfl⟩
  go_wp2_with fail
  obtain ⟨n, hn⟩ : ∃ n : Nat, a0.tmod 128 % 128 = (n : Int) := ⟨(a0.tmod 128 % 128).toNat, by omega⟩
  rw [hn]
  have hn2 : n < 128 := by omega
  have b1 := trigT_0 (k := (n : Int)) (by omega)
  rw [show (n : Int) % 512 % 128 = n by omega] at b1
  refine (table_calls _).mono ?_
  rintro e w3 ⟨zs, hz, rfl, hg⟩
  replace hB := bnext hB hg
  clear hg hn
  have HL := Lib.hid hz.1
  have k0 := blk_new w3 33 Try.zeroCells33
  have kB := hB.alloc hB.size (.cells Try.zeroCells33 33)
  go_wp2_with (first | (refine wpList_store_blk rfl 33 _ _ rfl w3.heap.size 33 _ (ints zs) rfl rfl k0 (by rw [ints_size, HL.out]; kernel_rfl) (by rw [ints_size, HL.out]; kernel_rfl) (ints_one _) ?_; intro w4 n0 hg))
  have hB4 := below_grown kB hg kB.size hB.size
  clear hB kB k0 hg
  have e1 := (hz.2 n hn2).1
  have e2 := (hz.2 n hn2).2
  have f0 := blk_int n0 (i := n * 2) (by rw [HL.out]; omega)
  have f1 := blk_int n0 (i := n * 2 + 1) (by rw [HL.out]; omega)
  rw [Nat.mul_comm n 2] at f0 f1
  rw [e1] at f0
  rw [e2] at f1
  rw [Nat.mul_comm 2 n] at f0 f1
  clear e1 e2 hz b1
  generalize wrap64 (bits BinOp.and IntKind.u64 a1 4611686018427387903) = m at hm
  refine (root_any m _ hm.1 hm.2).mono ?_
  rintro e w' ⟨r, hr, rfl, rfl⟩
  have HR := Lib.hid hr
  clear hr
  go_wp2_with fail
  refine (rroot_at m r _ HR.out hm.1 (by omega)).mono ?_
  rintro e w' ⟨rfl, rfl⟩
  go_wp2_with fail
  go_ret
  exact ⟨rfl, hB4⟩
end Go.Proofs.Ytlfiaaoegeodnaa
