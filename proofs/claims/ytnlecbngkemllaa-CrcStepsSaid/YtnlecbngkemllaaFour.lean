/- The reference's Four, at any sum: its four bytes. -/
import Derived.Test.YtnlecbngkemllaaSealed
import Derived.OpenShut
namespace Go.Proofs.Ytnlecbngkemllaa.Crc
open Go.RowKit Go.Proofs.Ytnlecbngkemllaa.P Go.Proofs.YtnlecbngkemllaaW.PrintWords Go.Proofs.YtnlecbngkemllaaW.PrintLast

theorem wrap_small (n : Int) (h0 : 0 ≤ n) (h1 : n ≤ 100) : wrap64 (n + 1) = n + 1 := by unfold wrap64; omega
theorem Four_eq (v : BitVec 32) : congressref01_Four.f 5 (N v) = some (strOfNums [N v % 256, (N v / 256) % 256, (N v / 65536) % 256, (N v / 16777216) % 256]) := by
  have hv := N_range v
  generalize N v = n at *
  have m : ∀ x : Int, 0 ≤ x → (Int.tdiv x 256) % 4294967296 = x / 256 % 4294967296 := by
    intro x hx
    rw [Int.tdiv_eq_ediv_of_nonneg hx]
  have r : ∀ x : Int, 0 ≤ x → (Int.tmod x 256) % 256 = x % 256 := by
    intro x hx
    rw [Int.tmod_eq_emod_of_nonneg hx]
    omega
  have n1 : n / 256 % 4294967296 = n / 256 := by omega
  have n2 : n / 256 / 256 % 4294967296 = n / 65536 := by omega
  have n3 : n / 65536 / 256 % 4294967296 = n / 16777216 := by omega
  have w0 : wrap64 (0 + 1) = 1 := by unfold wrap64; omega
  have w1 : wrap64 (1 + 1) = 2 := by unfold wrap64; omega
  have w2 : wrap64 (2 + 1) = 3 := by unfold wrap64; omega
  have w3 : wrap64 (3 + 1) = 4 := by unfold wrap64; omega
  unfold congressref01_Four.f
  rw [if_pos (by decide)]
  simp only [congressref01_Four.l0, List.replicate, List.length_cons, List.length_nil]
  rw [if_pos (by decide), if_pos (by decide), if_pos (by decide), w0, if_pos (by decide), if_pos (by decide), if_pos (by simp), w1, if_pos (by decide), if_pos (by decide), if_pos (by simp), w2, if_pos (by decide), if_pos (by decide), if_pos (by simp), w3, if_neg (by decide)]
  rw [m n hv.1, n1, m (n / 256) (by omega), n2, m (n / 65536) (by omega), n3, r n hv.1, r _ (by omega), r _ (by omega), r _ (by omega)]
  rfl
end Go.Proofs.Ytnlecbngkemllaa.Crc
