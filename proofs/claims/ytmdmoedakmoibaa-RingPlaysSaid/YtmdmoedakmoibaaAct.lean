/- An act, as it lies in a list. -/
import Derived.Test.YtmdmoedakmoibaaSeen
namespace Go.Proofs.Ytmdmoedakmoibaa.P
open Go.RowKit Go.Proofs.YtmdmoedakmoibaaW.PrintWords Go.Proofs.YtmdmoedakmoibaaW.PrintLast Go.Proofs.YtmdmoedakmoibaaW.PrintMore
set_option linter.unusedVariables false
/-- An act. -/
structure S42 where
  d : Int
  i : Int
  e : S31
  s : Int
def z42 : S42 := ⟨0, 0, z31, 0⟩
def k42 : Kd S42 := Kd.iso (Kd.pair (Kd.int .i64) (Kd.pair (Kd.int .i64) (Kd.pair k31 (Kd.int .u64)))) (fun x : S42 => (x.d, x.i, x.e, x.s))
def act (x : S42) : List Value := [.int .i64 x.d, .int .i64 x.i, .int .i64 x.e.f0, .int .i64 x.e.f1, .int .i64 x.e.f2, .int .u64 x.e.f3, .int .u64 x.e.f4, .string x.e.f5, .int .u64 x.s]
theorem k42_open {w : World} {x : S42} {cs : List Value} (h : k42.K w x cs) : cs = act x := by
  obtain ⟨_, _, rfl, rfl, ⟨_, _, rfl, rfl, ⟨_, _, rfl, he, rfl⟩⟩⟩ := h
  obtain rfl := k31_open he
  rfl
theorem k42_mk (w : World) (x : S42) : k42.K w x (act x) :=
  ⟨[.int .i64 x.d], _, rfl, rfl, ⟨[.int .i64 x.i], _, rfl, rfl, ⟨_, [.int .u64 x.s], rfl, k31_mk w x.e, rfl⟩⟩⟩
/-- The cells of an act. -/
structure ActAt (w : World) (ad : Addr) (x : S42) : Prop where
  c0 : w.cell? ad = some (.int .i64 x.d)
  c1 : w.cell? ⟨ad.block, ad.off + 1, none⟩ = some (.int .i64 x.i)
  c2 : w.cell? ⟨ad.block, ad.off + 2, none⟩ = some (.int .i64 x.e.f0)
  c3 : w.cell? ⟨ad.block, ad.off + 3, none⟩ = some (.int .i64 x.e.f1)
  c4 : w.cell? ⟨ad.block, ad.off + 4, none⟩ = some (.int .i64 x.e.f2)
  c5 : w.cell? ⟨ad.block, ad.off + 5, none⟩ = some (.int .u64 x.e.f3)
  c6 : w.cell? ⟨ad.block, ad.off + 6, none⟩ = some (.int .u64 x.e.f4)
  c7 : w.cell? ⟨ad.block, ad.off + 7, none⟩ = some (.string x.e.f5)
  c8 : w.cell? ⟨ad.block, ad.off + 8, none⟩ = some (.int .u64 x.s)
theorem act_at {w : World} {A : Option Addr} {n : Nat} {xs : List S42} (h : Kd.C k42 w A n xs) (i : Nat) (hi : i < n) : ∃ ad, A = some ad ∧ ActAt w (ad.add (i * 9)) (xs.getD i z42) := by
  obtain ⟨ad, c, e, _, hK, hc0⟩ := Kd.C_get h z42 i (by omega) (by omega)
  rw [Int.toNat_natCast] at hK hc0
  have hc : ∀ j u, c[j]? = some u → w.cell? (ad.add (i * 9 + j)) = some u := hc0
  obtain rfl := k42_open hK
  exact ⟨ad, e, hc 0 _ rfl, by rw [← add_field _ _ 1 (by omega)]; exact hc 1 _ rfl, by rw [← add_field _ _ 2 (by omega)]; exact hc 2 _ rfl, by rw [← add_field _ _ 3 (by omega)]; exact hc 3 _ rfl, by rw [← add_field _ _ 4 (by omega)]; exact hc 4 _ rfl, by rw [← add_field _ _ 5 (by omega)]; exact hc 5 _ rfl, by rw [← add_field _ _ 6 (by omega)]; exact hc 6 _ rfl, by rw [← add_field _ _ 7 (by omega)]; exact hc 7 _ rfl, by rw [← add_field _ _ 8 (by omega)]; exact hc 8 _ rfl⟩
/-- An act in a box of its own. -/
structure BoxAct (w : World) (b : Nat) (x : S42) : Prop where
  blk : w.heap[b]? = some (.cells (act x).toArray 42 (0, 0))
section
variable {w w' : World} {b g B : Nat} {x : S42}
theorem BoxAct.new (w : World) (x : S42) : BoxAct (w.alloc (.cells (act x).toArray 42)) w.heap.size x := ⟨blk_new w _⟩
theorem BoxAct.below (h : BoxAct w b x) (hb : Below w.heap.size w w') : BoxAct w' b x := ⟨(hb.block b (blk_lt h.blk)).trans h.blk⟩
theorem BoxAct.only (h : BoxAct w b x) (hb : Only w w' g B) (h1 : b ≠ g) (h2 : b ≠ B) : BoxAct w' b x := ⟨(hb.block b (blk_lt h.blk) h1 h2).trans h.blk⟩
theorem BoxAct.cells (h : BoxAct w b x) : w.cell? ⟨b, 0, none⟩ = some (.int .i64 x.d) ∧ w.cell? ⟨b, 1, none⟩ = some (.int .i64 x.i) ∧ w.cell? ⟨b, 2, none⟩ = some (.int .i64 x.e.f0) ∧ w.cell? ⟨b, 3, none⟩ = some (.int .i64 x.e.f1) ∧ w.cell? ⟨b, 4, none⟩ = some (.int .i64 x.e.f2) ∧
    w.cell? ⟨b, 5, none⟩ = some (.int .u64 x.e.f3) ∧ w.cell? ⟨b, 6, none⟩ = some (.int .u64 x.e.f4) ∧ w.cell? ⟨b, 7, none⟩ = some (.string x.e.f5) ∧ w.cell? ⟨b, 8, none⟩ = some (.int .u64 x.s) := by
  refine ⟨?_, ?_, ?_, ?_, ?_, ?_, ?_, ?_, ?_⟩ <;> (rw [blk_cell h.blk]; rfl)
end
section
variable {w : World} {A : Option Addr} {c : Nat}
theorem rpeek_nil (i : Int) (hC : Kd.C k31 w A 0 ([] : List S31)) :
    Calls Try.prog 17 #[.slice A 0 c, .int .i64 i] w fun e w' => e = .returned (.tuple #[.agg #[.int .i64 0, .int .i64 0, .int .i64 0, .int .u64 0, .int .u64 0, .string ⟨#[]⟩], .bool false]) ∧ Below w.heap.size w w' := by
  have := rpeek_q A c [] i w hC (Nat.zero_le _)
  rw [if_neg (by simp), decide_eq_false (by simp)] at this
  exact this
theorem rpeek_cons (f : S31) (l : List S31) (hC : Kd.C k31 w A (f :: l).length (f :: l)) (hc : (f :: l).length ≤ c) :
    Calls Try.prog 17 #[.slice A (f :: l).length c, .int .i64 0] w fun e w' => e = .returned (.tuple #[.agg #[.int .i64 f.f0, .int .i64 f.f1, .int .i64 f.f2, .int .u64 f.f3, .int .u64 f.f4, .string f.f5], .bool true]) ∧ Below w.heap.size w w' := by
  have := rpeek_q A c (f :: l) 0 w hC hc
  rw [if_pos (by simp), decide_eq_true (by simp)] at this
  exact this
theorem Seen.tail {g B : Nat} {ad : Addr} {f : S31} {l : List S31} (h : Seen w g B (some ad) c (f :: l)) : Seen w g B (some ⟨ad.block, ad.off + 6, none⟩) (c - 1) l := by
  have hle := h.le
  rw [List.length_cons] at hle
  obtain ⟨h1, h2, h3⟩ := h.off ad rfl (by simp)
  refine ⟨by omega, ⟨rfl, by have := h.read.2.1; rw [List.length_cons] at this; omega, fun hp => ?_⟩, fun ad' e _ => by cases e; exact ⟨h1, h2, h3⟩⟩
  obtain ⟨ad2, e2, hr⟩ := h.read.2.2 (by simp)
  obtain rfl : ad = ad2 := by injection e2
  refine ⟨_, rfl, fun j p hj => ?_⟩
  obtain ⟨c', hl, hK, hc⟩ := hr (j + 1) p (by simpa using hj)
  refine ⟨c', hl, hK, fun i u hu => ?_⟩
  rw [← hc i u hu]
  have hs : k31.sz = 6 := rfl
  rw [hs]
  congr 1
  have hne : (j + 1) * 6 + i ≠ 0 := by omega
  simp only [Addr.add, if_neg hne]
  split
  all_goals simp
  all_goals omega
theorem Seen.tail0 {g B : Nat} (A' : Option Addr) : Seen w g B A' 0 [] := ⟨Nat.le_refl _, ⟨rfl, Nat.zero_le _, fun h => absurd h (Nat.lt_irrefl 0)⟩, fun ad e h => absurd h (Nat.lt_irrefl 0)⟩
end
end Go.Proofs.Ytmdmoedakmoibaa.P
