/- Rows of a call's own beside a ring. -/
import Derived.Test.YtmdmoedakmoibaaDropsWalk
namespace Go.Proofs.Ytmdmoedakmoibaa.P
open Go.RowKit Go.Proofs.YtmdmoedakmoibaaW.PrintWords Go.Proofs.YtmdmoedakmoibaaW.PrintLast Go.Proofs.YtmdmoedakmoibaaW.PrintMore
set_option linter.unusedVariables false

/-- A row of entries of the call's own. -/
def Mine (w0 w : World) (v : Value) (xs : List S31) : Prop := Kd.R k31 31 w w0.heap.size (fun k => v.ownBlock = some k) v xs
section
variable {w0 w w1 : World} {v v1 : Value} {xs : List S31} {g B : Nat}
theorem Mine.of {ok : Nat → Prop} (h : Kd.R k31 31 w w0.heap.size ok v xs) : Mine w0 w v xs :=
  Kd.R_flat (fun h => by obtain rfl := k31_openM h; exact k31_mkM _ _ _ _) h (fun k hk _ => hk)
theorem Mine.any (h : Mine w0 w v xs) : Kd.R k31 31 w w0.heap.size (fun _ => True) v xs := Kd.R_mono h (fun _ _ => trivial)
theorem Mine.step (h : Mine w0 w v xs) (hm : ∀ k, v.ownBlock = some k → k < w.heap.size → w1.heap[k]? = w.heap[k]?) : Mine w0 w1 v xs := Kd.R_step h hm
theorem Mine.lt (h : Mine w0 w v xs) : ∀ k, v.ownBlock = some k → k < w.heap.size := Kd.R_lt h
theorem Mine.reads {A : Option Addr} {n c : Nat} (h : Mine w0 w (.slice A n c) xs) : Kd.C k31 w A n xs := by
  obtain ⟨hn, _, hC⟩ := Kd.R_reads' h
  rw [hn]
  exact hC
/-- None of a ring's blocks. -/
def Off (v : Value) (g B : Nat) : Prop := ∀ k, v.ownBlock = some k → k ≠ g ∧ k ≠ B
theorem Mine.below (h : Mine w0 w v xs) (hb : Below w.heap.size w w1) : Mine w0 w1 v xs := h.step (fun k _ hk => hb.block k hk)
theorem Mine.only (h : Mine w0 w v xs) (ho : Only w w1 g B) (hf : Off v g B) : Mine w0 w1 v xs := h.step (fun k hk hl => ho.block k hl (hf k hk).1 (hf k hk).2)
theorem Off.new (hg : g < w.heap.size) (hB : B < w.heap.size) (h : ∃ b, v.ownBlock = some b ∧ w.heap.size ≤ b) : Off v g B := by
  obtain ⟨b, hb, hl⟩ := h
  intro k hk
  rw [hb] at hk
  injection hk with hk
  exact ⟨by omega, by omega⟩
theorem Off.after (h : Off v g B) (hg : g < w.heap.size) (hB : B < w.heap.size) (hat : v1.ownBlock = v.ownBlock ∨ ∃ b, v1.ownBlock = some b ∧ w.heap.size ≤ b) : Off v1 g B := by
  rcases hat with e | hn
  · intro k hk
    exact h k (by rw [← e]; exact hk)
  · exact Off.new hg hB hn
end
/-- Two rows, with no block in common. -/
def Apart2 (v u : Value) : Prop := ∀ k, v.ownBlock = some k → u.ownBlock ≠ some k
theorem Apart2.symm {v u : Value} (h : Apart2 v u) : Apart2 u v := fun k hk he => h k he hk
/-- A ring, and two rows of the call's own. -/
structure Two (w0 w : World) (g B room : Nat) (q : List S31) (vt : Value) (tk : List S31) (vc : Value) (cm : List S31) : Prop where
  ring : RingQ w g B room q
  t : Mine w0 w vt tk
  c : Mine w0 w vc cm
  tg : Off vt g B
  cg : Off vc g B
  tc : Apart2 vt vc
section
variable {w0 w w1 : World} {g B room : Nat} {q q' : List S31} {vt vc v1 : Value} {tk cm xs : List S31}
theorem Two.below (h : Two w0 w g B room q vt tk vc cm) (hb : Below w.heap.size w w1) : Two w0 w1 g B room q vt tk vc cm := ⟨h.ring.below hb, h.t.below hb, h.c.below hb, h.tg, h.cg, h.tc⟩
theorem Two.drewN (h : Two w0 w g B room q vt tk vc cm) (n : Nat) : Two w0 (w.drewN n) g B room q vt tk vc cm := h.below (pw_below_drewN (Below.refl _ _) n)
theorem Two.only (h : Two w0 w g B room q vt tk vc cm) (ho : Only w w1 g B) (hr : RingQ w1 g B room q') : Two w0 w1 g B room q' vt tk vc cm := ⟨hr, h.t.only ho h.tg, h.c.only ho h.cg, h.tg, h.cg, h.tc⟩
theorem Two.putT (h : Two w0 w g B room q vt tk vc cm) {ok : Nat → Prop} (hr : Kd.R k31 31 w1 w0.heap.size ok v1 xs) (hg : w.grownBy w1 vt.ownBlock) (hat : v1.ownBlock = vt.ownBlock ∨ ∃ b, v1.ownBlock = some b ∧ w.heap.size ≤ b) : Two w0 w1 g B room q v1 xs vc cm := by
  have ng : some g ≠ vt.ownBlock := fun e => (h.tg g e.symm).1 rfl
  have nB : some B ≠ vt.ownBlock := fun e => (h.tg B e.symm).2 rfl
  refine ⟨h.ring.kept (hg.block g h.ring.lt ng) (hg.block B h.ring.Blt nB), Mine.of hr, h.c.step (fun k hk hl => hg.block k hl (fun e => h.tc k e.symm hk)), h.tg.after h.ring.lt h.ring.Blt hat, h.cg, ?_⟩
  rcases hat with e | ⟨b, hb, hl⟩
  · intro k hk
    exact h.tc k (by rw [← e]; exact hk)
  · intro k hk e
    rw [hb] at hk
    injection hk with hk
    have := h.c.lt k e
    omega
theorem Two.putC (h : Two w0 w g B room q vt tk vc cm) {ok : Nat → Prop} (hr : Kd.R k31 31 w1 w0.heap.size ok v1 xs) (hg : w.grownBy w1 vc.ownBlock) (hat : v1.ownBlock = vc.ownBlock ∨ ∃ b, v1.ownBlock = some b ∧ w.heap.size ≤ b) : Two w0 w1 g B room q vt tk v1 xs := by
  have ng : some g ≠ vc.ownBlock := fun e => (h.cg g e.symm).1 rfl
  have nB : some B ≠ vc.ownBlock := fun e => (h.cg B e.symm).2 rfl
  refine ⟨h.ring.kept (hg.block g h.ring.lt ng) (hg.block B h.ring.Blt nB), h.t.step (fun k hk hl => hg.block k hl (fun e => h.tc k hk e.symm)), Mine.of hr, h.tg, h.cg.after h.ring.lt h.ring.Blt hat, ?_⟩
  rcases hat with e | ⟨b, hb, hl⟩
  · intro k hk
    rw [e]
    exact h.tc k hk
  · intro k hk e
    rw [hb] at e
    injection e with e
    have := h.t.lt k hk
    omega
theorem Two.start (hr : RingQ w g B room q) (ht : Mine w0 w vt tk) (htg : Off vt g B) {ok : Nat → Prop} (hc : Kd.R k31 31 w1 w.heap.size ok v1 xs) (h0 : w0.heap.size ≤ w.heap.size) (hb : Below w.heap.size w w1) (hn : ∃ b, v1.ownBlock = some b ∧ w.heap.size ≤ b) : Two w0 w1 g B room q vt tk v1 xs :=
  ⟨hr.below hb, ht.below hb, Mine.of (Kd.R_lower hc h0), htg, Off.new hr.lt hr.Blt hn, fun k hk e => by
    obtain ⟨b, hb2, hl⟩ := hn
    rw [hb2] at e
    injection e with e
    have := ht.lt k hk
    omega⟩
end
end Go.Proofs.Ytmdmoedakmoibaa.P
