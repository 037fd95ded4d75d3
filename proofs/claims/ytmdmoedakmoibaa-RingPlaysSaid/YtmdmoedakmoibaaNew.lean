/- The ring's New: what it answers and makes. -/
import Derived.Test.YtmdmoedakmoibaaRing
namespace Go.Proofs.Ytmdmoedakmoibaa.P
open Go.RowKit Go.Proofs.YtmdmoedakmoibaaW.PrintWords Go.Proofs.YtmdmoedakmoibaaW.PrintLast Go.Proofs.YtmdmoedakmoibaaW.PrintMore
set_option linter.unusedVariables false
set_option linter.unusedSimpArgs false

set_option maxHeartbeats 1600000 in
theorem new_no (n : Int) (h : n < 0 ∨ 64 < n) (w : World) :
    Calls Try.prog 7 #[.int .i64 n] w fun e w' => e = .returned (.tuple #[.pointer none, .bool false]) ∧ w = w' := by
  by_cases h0 : n < 0
  · have d0 : decide (n < 0) = true := decide_eq_true h0
    go_enter Try.func7, Try.ntmps7
    go_wp2
    go_ret2
    exact ⟨rfl, rfl⟩
  · have d0 : decide (n < 0) = false := decide_eq_false h0
    have d1 : decide (64 < n) = true := decide_eq_true (by omega)
    go_enter Try.func7, Try.ntmps7
    go_wp2
    go_ret2
    exact ⟨rfl, rfl⟩
theorem made_form {w1 : World} {b n : Nat} {v : Value} {E : List S31} (ho : Kd.R k31 31 w1 b (fun k => k = b) v E) (hn : E.length = n) (hv : ∃ k, v.ownBlock = some k ∧ b ≤ k) : ∃ cap, v = .slice (some ⟨b, 0, none⟩) n cap := by
  obtain ⟨inner, hown⟩ := Kd.R_own ho
  obtain ⟨k, hk, _⟩ := hv
  rcases hown.2 with ⟨rfl, _⟩ | ⟨g, cap, cur, rfl, _⟩
  · simp [Value.ownBlock] at hk
  · have : g = b := ho.1 g (by simp [Value.ownBlock])
    subst this
    exact ⟨cap, by rw [hn]⟩
set_option maxHeartbeats 1600000 in
theorem new_ok (n : Nat) (h : n ≤ 64) (w : World) :
    Calls Try.prog 7 #[.int .i64 n] w fun e w' => ∃ g B cap, e = .returned (.tuple #[.pointer (some ⟨g, 0, none⟩), .bool true]) ∧ w.heap.size ≤ g ∧ w.heap.size ≤ B ∧ RingX w' g B n cap 0 0 (List.replicate n z31) ∧ Below w.heap.size w w' := by
  have d0 : decide ((n : Int) < 0) = false := decide_eq_false (by omega)
  have d1 : decide (64 < (n : Int)) = false := decide_eq_false (by omega)
  go_enter Try.func7, Try.ntmps7
  go_wp2_with (first | ((with_reducible refine gate_dst (N := 11) rfl ?_); refine Kd.R_make k31 _ 31 rfl (N := 11) rfl 22 _ _ rfl (n : Int) rfl rfl Try.underlying22 _ 56 info31 rfl (by decide) (by decide) z31 (ok := fun k => k = w.heap.size) (okp := fun _ => False) (k31_mkM _ _ _ _) (fun _ hk => hk.elim) rfl (by omega) (by omega) (Below.refl _ _) (Nat.le_refl _) ?_; intro v1 w1 ho hb hg hnew; rw [Int.toNat_natCast] at ho; obtain ⟨cap, hv1⟩ := made_form ho List.length_replicate hnew; rw [hv1]; rw [hv1] at ho; have HO := Aside0.mk ho; have HB := Aside0.mk hb; clear ho hb hg hnew hv1))
  go_ret2
  have hlt : w.heap.size < w1.heap.size := Kd.R_lt HO.out w.heap.size (by simp [Value.ownBlock])
  refine ⟨w1.heap.size, w.heap.size, cap, rfl, Nat.le_of_lt hlt, Nat.le_refl _, ⟨List.length_replicate, Nat.zero_le _, h, fun hn => hn, ?_, Kd.R_alloc HO.out _, by omega⟩, below_alloc HB.out _⟩
  exact blk_new w1 _
end Go.Proofs.Ytmdmoedakmoibaa.P
