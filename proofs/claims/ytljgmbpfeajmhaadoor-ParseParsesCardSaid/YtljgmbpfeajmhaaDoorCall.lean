/- The parser's call: what request the words say, or that they say none. -/
import Derived.Test.YtljgmbpfeajmhaaDoorTakes
set_option linter.unusedVariables false
set_option linter.unusedSimpArgs false
namespace Go.Proofs.YtljgmbpfeajmhaaDoor
open Go.Proofs Go.Shelf Go.RowKit Go.Proofs.YtljgmbpfeajmhaaDoorW.PrintWords Go.Proofs.YtljgmbpfeajmhaaDoorW.PrintLast
/-- A call. -/
structure Call7 where
  kind : Int
  handle : Int
  other : Int
  give : Int
  grp : Int
  svc : Int
  txt : List UInt8
deriving DecidableEq
def Call7.cells (c : Call7) : Array Value := #[.int .i64 c.kind, .int .u64 c.handle, .int .u64 c.other, .int .i64 c.give, .int .i64 c.grp, .int .i64 c.svc, .string ⟨c.txt.toArray⟩]
def z7 : Call7 := ⟨0, 0, 0, 0, 0, 0, []⟩
/-- A call under way: the parser, the call's two blocks, and that all else is as it was. -/
structure CS (w w' : World) (B R C : Nat) (c : Call7) (r : List UInt8) (e : Bool) : Prop where
  pat : PAt w' B r e
  rb : w'.heap[R]? = some (.cells z7.cells 24 (0, 0))
  cb : w'.heap[C]? = some (.cells c.cells 24 (0, 0))
  g : w.grownBy w' (some B)
  rB : R ≠ B
  cB : C ≠ B
  rC : R ≠ C
  rn : w.heap.size ≤ R
  cn : w.heap.size ≤ C
section
variable {w w' w2 : World} {B R C : Nat} {c : Call7} {r r2 : List UInt8} {e e2 : Bool}
theorem CS.step (h : CS w w' B R C c r e) (hg : w'.grownBy w2 (some B)) (hb : PAt w2 B r2 e2) : CS w w2 B R C c r2 e2 :=
  { h with pat := hb, rb := (hg.block _ (blk_lt h.rb) (fun x => h.rB (by injection x))).trans h.rb, cb := (hg.block _ (blk_lt h.cb) (fun x => h.cB (by injection x))).trans h.cb, g := g_trans h.g hg }
theorem g_new {w w' : World} {row : Option Nat} (h : w.grownBy w' row) {C : Nat} (hC : w.heap.size ≤ C) (i : Nat) (v : Value) : w.grownBy (w'.setCell ⟨C, i, none⟩ v) row :=
  ⟨h.os, h.tape, h.output, by simp [World.setCell]; exact h.size, fun k hk hne => (Below.heap_setCell w' ⟨C, i, none⟩ v k (fun e => by simp at e; omega)).trans (h.block k hk hne)⟩
theorem CS.set (h : CS w w' B R C c r e) (i : Nat) (v : Value) (c2 : Call7) (hc : c.cells.setIfInBounds i v = c2.cells) : CS w (w'.setCell ⟨C, i, none⟩ v) B R C c2 r e :=
  { h with pat := blk_far h.pat (fun x => h.cB x.symm) v, rb := blk_far h.rb h.rC v, cb := by rw [← hc]; exact blk_set h.cb i v, g := g_new h.g h.cn i v }
theorem CS.put (h : CS w w' B R C c r e) (c2 : Call7) : CS w (((((((w'.setCell ⟨C, 0, none⟩ (.int .i64 c2.kind)).setCell ⟨C, 1, none⟩ (.int .u64 c2.handle)).setCell ⟨C, 2, none⟩ (.int .u64 c2.other)).setCell ⟨C, 3, none⟩ (.int .i64 c2.give)).setCell ⟨C, 4, none⟩ (.int .i64 c2.grp)).setCell ⟨C, 5, none⟩ (.int .i64 c2.svc)).setCell ⟨C, 6, none⟩ (.string ⟨c2.txt.toArray⟩)) B R C c2 r e :=
  ((((((h.set 0 _ ⟨c2.kind, c.handle, c.other, c.give, c.grp, c.svc, c.txt⟩ rfl).set 1 _ ⟨c2.kind, c2.handle, c.other, c.give, c.grp, c.svc, c.txt⟩ rfl).set 2 _ ⟨c2.kind, c2.handle, c2.other, c.give, c.grp, c.svc, c.txt⟩ rfl).set 3 _ ⟨c2.kind, c2.handle, c2.other, c2.give, c.grp, c.svc, c.txt⟩ rfl).set 4 _ ⟨c2.kind, c2.handle, c2.other, c2.give, c2.grp, c.svc, c.txt⟩ rfl).set 5 _ ⟨c2.kind, c2.handle, c2.other, c2.give, c2.grp, c2.svc, c.txt⟩ rfl).set 6 _ c2 rfl
theorem CS.fill (h : CS w w' B R C c r e) (c2 : Call7) : (((((((w'.setCell ⟨R, 0, none⟩ (.int .i64 c2.kind)).setCell ⟨R, 1, none⟩ (.int .u64 c2.handle)).setCell ⟨R, 2, none⟩ (.int .u64 c2.other)).setCell ⟨R, 3, none⟩ (.int .i64 c2.give)).setCell ⟨R, 4, none⟩ (.int .i64 c2.grp)).setCell ⟨R, 5, none⟩ (.int .i64 c2.svc)).setCell ⟨R, 6, none⟩ (.string ⟨c2.txt.toArray⟩)).heap[R]? = some (.cells c2.cells 24 (0, 0)) ∧
    w.grownBy (((((((w'.setCell ⟨R, 0, none⟩ (.int .i64 c2.kind)).setCell ⟨R, 1, none⟩ (.int .u64 c2.handle)).setCell ⟨R, 2, none⟩ (.int .u64 c2.other)).setCell ⟨R, 3, none⟩ (.int .i64 c2.give)).setCell ⟨R, 4, none⟩ (.int .i64 c2.grp)).setCell ⟨R, 5, none⟩ (.int .i64 c2.svc)).setCell ⟨R, 6, none⟩ (.string ⟨c2.txt.toArray⟩)) (some B) :=
  ⟨blk_set (blk_set (blk_set (blk_set (blk_set (blk_set (blk_set h.rb 0 _) 1 _) 2 _) 3 _) 4 _) 5 _) 6 _, g_new (g_new (g_new (g_new (g_new (g_new (g_new h.g h.rn 0 _) h.rn 1 _) h.rn 2 _) h.rn 3 _) h.rn 4 _) h.rn 5 _) h.rn 6 _⟩
theorem CS.endg (h : CS w w' B R C c r e) (hg : w'.grownBy w2 (some B)) : w.grownBy w2 (some B) := g_trans h.g hg
end
theorem CS.start (w : World) (B : Nat) (r : List UInt8) (h : PAt w B r false) : CS w ((w.alloc (.cells #[.int .i64 0, .int .u64 0, .int .u64 0, .int .i64 0, .int .i64 0, .int .i64 0, .string ⟨#[]⟩] 24)).alloc (.cells #[.int .i64 0, .int .u64 0, .int .u64 0, .int .i64 0, .int .i64 0, .int .i64 0, .string ⟨#[]⟩] 24)) B w.heap.size (w.heap.size + 1) z7 r false := by
  have hlt := blk_lt h
  have b1 := below_alloc (Below.refl w.heap.size w) (.cells #[.int .i64 0, .int .u64 0, .int .u64 0, .int .i64 0, .int .i64 0, .int .i64 0, .string ⟨#[]⟩] 24)
  refine ⟨?_, ?_, ?_, ?_, by omega, by omega, by omega, Nat.le_refl _, Nat.le_succ _⟩
  · exact blk_alloc (blk_alloc h _) _
  · exact blk_alloc (blk_new w _) _
  · have := blk_new (w.alloc (.cells #[.int .i64 0, .int .u64 0, .int .u64 0, .int .i64 0, .int .i64 0, .int .i64 0, .string ⟨#[]⟩] 24)) (.cells #[.int .i64 0, .int .u64 0, .int .u64 0, .int .i64 0, .int .i64 0, .int .i64 0, .string ⟨#[]⟩] 24)
    rw [World.size_alloc] at this
    exact this
  · exact grown_of_below (below_then b1 b1.size (below_alloc (Below.refl _ _) _)) _
def fin (o : Option (Call7 × List UInt8 × Bool)) : Option Call7 := o.bind fun x => if x.2.2 = true then some x.1 else none
/-- What a call of the parser comes to: a call, or a panic. -/
def CallEnd (w : World) (B : Nat) (o : Option Call7) (e : Ending) (w' : World) : Prop :=
  (match o with | some c => e = .returned (.agg c.cells) | none => e = .panicked [trouble]) ∧ w.grownBy w' (some B)
theorem numP_len {a b : Nat} {r : List UInt8} {en : Bool} {n : Nat} {r2 : List UInt8} {e2 : Bool} (h : numP a b r en = some (n, r2, e2)) : r2.length ≤ r.length := by
  unfold numP at h
  obtain ⟨x, hx, h⟩ := Option.bind_eq_some_iff.1 h
  obtain ⟨m, hm, h⟩ := Option.bind_eq_some_iff.1 h
  have := (wordP_len hx).2
  split at h
  · simp only [Option.some.injEq, Prod.mk.injEq] at h
    rw [h.2] at this
    exact this
  · cases h
theorem handP_len {r : List UInt8} {en : Bool} {n : Nat} {r2 : List UInt8} {e2 : Bool} (h : handP r en = some (n, r2, e2)) : r2.length ≤ r.length := numP_len h
theorem svcP_len {r : List UInt8} {en : Bool} {n : Nat} {r2 : List UInt8} {e2 : Bool} (h : svcP r en = some (n, r2, e2)) : r2.length ≤ r.length := by
  unfold svcP at h
  obtain ⟨x, hx, h⟩ := Option.bind_eq_some_iff.1 h
  obtain ⟨m, hm, h⟩ := Option.bind_eq_some_iff.1 h
  have := (wordP_len hx).2
  simp only [Option.some.injEq, Prod.mk.injEq] at h
  rw [h.2] at this
  exact this
theorem textP_len {r : List UInt8} {en : Bool} {t : List UInt8} {r2 : List UInt8} {e2 : Bool} (h : textP r en = some (t, r2, e2)) : r2.length ≤ r.length := by
  unfold textP at h
  split at h
  · cases h
  · split at h
    · split at h
      · cases h; exact Nat.le_refl _
      · cases h
    · cases h

def k_open (r : List UInt8) (e : Bool) : Option (Call7 × List UInt8 × Bool) :=
  some ({ z7 with kind := 0 }, (r, e))
def k_close (r : List UInt8) (e : Bool) : Option (Call7 × List UInt8 × Bool) :=
  (handP r e).bind fun x0 => some ({ z7 with kind := 1, handle := x0.1 }, x0.2)
def k_mint (r : List UInt8) (e : Bool) : Option (Call7 × List UInt8 × Bool) :=
  (handP r e).bind fun x0 => (numP 1 7 x0.2.1 x0.2.2).bind fun x1 => some ({ z7 with kind := 2, handle := x0.1, give := x1.1 }, x1.2)
def k_revoke (r : List UInt8) (e : Bool) : Option (Call7 × List UInt8 × Bool) :=
  (handP r e).bind fun x0 => (handP x0.2.1 x0.2.2).bind fun x1 => some ({ z7 with kind := 3, handle := x0.1, other := x1.1 }, x1.2)
def k_join (r : List UInt8) (e : Bool) : Option (Call7 × List UInt8 × Bool) :=
  (handP r e).bind fun x0 => (numP 0 7 x0.2.1 x0.2.2).bind fun x1 => some ({ z7 with kind := 4, handle := x0.1, grp := x1.1 }, x1.2)
def k_leave (r : List UInt8) (e : Bool) : Option (Call7 × List UInt8 × Bool) :=
  (handP r e).bind fun x0 => (numP 0 7 x0.2.1 x0.2.2).bind fun x1 => some ({ z7 with kind := 5, handle := x0.1, grp := x1.1 }, x1.2)
def k_send (r : List UInt8) (e : Bool) : Option (Call7 × List UInt8 × Bool) :=
  (handP r e).bind fun x0 => (numP 0 7 x0.2.1 x0.2.2).bind fun x1 => (svcP x1.2.1 x1.2.2).bind fun x2 => (textP x2.2.1 x2.2.2).bind fun x3 => some ({ z7 with kind := 6, handle := x0.1, grp := x1.1, svc := x2.1, txt := x3.1 }, x3.2)
set_option maxRecDepth 100000 in
set_option maxHeartbeats 4000000 in
theorem call_open (B : Nat) (r r1 : List UInt8) (e1 : Bool) (w0 w : World) (h : PAt w B r false) (hs : r.length ≤ 281474976710656) (hE : PEnv w0 w B) (hw : wordP r false = some ([111, 112, 101, 110], r1, e1)) :
    Calls Tryd.prog 18 #[.pointer (some ⟨B, 0, none⟩)] w fun e w' => CallEnd w B (fin (k_open r1 e1)) e w' := by
  have HE := Aside0.mk hE
  have HS := Aside0.mk (show r1.length ≤ 281474976710656 from by have := (wordP_len hw).2; simp only at this; omega)
  have C2 := Aside0.mk (CS.start w B r h)
  have W1 := word_q B r false _ C2.out.pat (by omega)
  unfold PStep at W1
  rw [hw] at W1
  clear h hs hE hw
  go_enter Tryd.func18, Tryd.ntmps18
  go_wp2_with fail
  refine W1.mono ?_
  clear W1
  rintro e w1 ⟨⟨rfl, hb⟩, hg⟩
  have C3 := Aside0.mk (C2.out.step hg hb)
  clear hb hg C2
  generalize w.heap.size = R at *
  have c0 : w1.cell? ⟨R + 1, 0, none⟩ = some (.int .i64 0) := (blk_cell C3.out.cb 0).trans rfl
  have f0 := blk_frozen C3.out.cb 0
  have c1 : w1.cell? ⟨R + 1, 1, none⟩ = some (.int .u64 0) := (blk_cell C3.out.cb 1).trans rfl
  have f1 := blk_frozen C3.out.cb 1
  have c2 : w1.cell? ⟨R + 1, 2, none⟩ = some (.int .u64 0) := (blk_cell C3.out.cb 2).trans rfl
  have f2 := blk_frozen C3.out.cb 2
  have c3 : w1.cell? ⟨R + 1, 3, none⟩ = some (.int .i64 0) := (blk_cell C3.out.cb 3).trans rfl
  have f3 := blk_frozen C3.out.cb 3
  have c4 : w1.cell? ⟨R + 1, 4, none⟩ = some (.int .i64 0) := (blk_cell C3.out.cb 4).trans rfl
  have f4 := blk_frozen C3.out.cb 4
  have c5 : w1.cell? ⟨R + 1, 5, none⟩ = some (.int .i64 0) := (blk_cell C3.out.cb 5).trans rfl
  have f5 := blk_frozen C3.out.cb 5
  have c6 : w1.cell? ⟨R + 1, 6, none⟩ = some (.string ⟨#[]⟩) := (blk_cell C3.out.cb 6).trans rfl
  have f6 := blk_frozen C3.out.cb 6
  have pe := C3.out.pat.c1
  have bn : ¬ R + 1 = B := C3.out.cB
  have bn2 : ¬ B = R + 1 := fun x => C3.out.cB x.symm
  have C4 := Aside0.mk (show CS w ((w1).setCell ⟨R + 1, 0, none⟩ (.int .i64 0)) B R (R + 1) z7 r1 e1 from C3.out.set 0 (.int .i64 0) z7 rfl)
  go_wp2_with fail
  clear c0 c1 c2 c3 c4 c5 c6 f0 f1 f2 f3 f4 f5 f6 C3 pe bn bn2
  generalize (w1).setCell ⟨R + 1, 0, none⟩ (.int .i64 0) = x at C4 ⊢
  have HQ := Aside0.mk (show fin (k_open r1 e1) = if e1 = true then some ({ z7 with kind := 0 } : Call7) else none from by simp only [k_open, fin, Option.bind_some])
  cases e1
  · refine (need_false _).mono ?_
    rintro e w9 ⟨rfl, rfl⟩
    refine ⟨rfl, ?_, C4.out.g⟩
    rw [HQ.out]
    rfl
  · refine (need_true _).mono ?_
    rintro e w9 ⟨rfl, rfl⟩
    have c0 : w9.cell? ⟨R + 1, 0, none⟩ = some (.int .i64 0) := (blk_cell C4.out.cb 0).trans rfl
    have f0 := blk_frozen C4.out.cb 0
    have c1 : w9.cell? ⟨R + 1, 1, none⟩ = some (.int .u64 0) := (blk_cell C4.out.cb 1).trans rfl
    have f1 := blk_frozen C4.out.cb 1
    have c2 : w9.cell? ⟨R + 1, 2, none⟩ = some (.int .u64 0) := (blk_cell C4.out.cb 2).trans rfl
    have f2 := blk_frozen C4.out.cb 2
    have c3 : w9.cell? ⟨R + 1, 3, none⟩ = some (.int .i64 0) := (blk_cell C4.out.cb 3).trans rfl
    have f3 := blk_frozen C4.out.cb 3
    have c4 : w9.cell? ⟨R + 1, 4, none⟩ = some (.int .i64 0) := (blk_cell C4.out.cb 4).trans rfl
    have f4 := blk_frozen C4.out.cb 4
    have c5 : w9.cell? ⟨R + 1, 5, none⟩ = some (.int .i64 0) := (blk_cell C4.out.cb 5).trans rfl
    have f5 := blk_frozen C4.out.cb 5
    have c6 : w9.cell? ⟨R + 1, 6, none⟩ = some (.string ⟨#[]⟩) := (blk_cell C4.out.cb 6).trans rfl
    have f6 := blk_frozen C4.out.cb 6
    have d0 : w9.cell? ⟨R, 0, none⟩ = some (.int .i64 0) := (blk_cell C4.out.rb 0).trans rfl
    have g0 := blk_frozen C4.out.rb 0
    have d1 : w9.cell? ⟨R, 1, none⟩ = some (.int .u64 0) := (blk_cell C4.out.rb 1).trans rfl
    have g1 := blk_frozen C4.out.rb 1
    have d2 : w9.cell? ⟨R, 2, none⟩ = some (.int .u64 0) := (blk_cell C4.out.rb 2).trans rfl
    have g2 := blk_frozen C4.out.rb 2
    have d3 : w9.cell? ⟨R, 3, none⟩ = some (.int .i64 0) := (blk_cell C4.out.rb 3).trans rfl
    have g3 := blk_frozen C4.out.rb 3
    have d4 : w9.cell? ⟨R, 4, none⟩ = some (.int .i64 0) := (blk_cell C4.out.rb 4).trans rfl
    have g4 := blk_frozen C4.out.rb 4
    have d5 : w9.cell? ⟨R, 5, none⟩ = some (.int .i64 0) := (blk_cell C4.out.rb 5).trans rfl
    have g5 := blk_frozen C4.out.rb 5
    have d6 : w9.cell? ⟨R, 6, none⟩ = some (.string ⟨#[]⟩) := (blk_cell C4.out.rb 6).trans rfl
    have g6 := blk_frozen C4.out.rb 6
    have rc : ¬ R = R + 1 := C4.out.rC
    have rc2 : ¬ R + 1 = R := fun x => C4.out.rC x.symm
    go_wp2
    clear c0 c1 c2 c3 c4 c5 c6 f0 f1 f2 f3 f4 f5 f6 d0 d1 d2 d3 d4 d5 d6 g0 g1 g2 g3 g4 g5 g6 rc rc2
    have hf : ((((((((w9).setCell ⟨R, 0, none⟩ (.int .i64 0)).setCell ⟨R, 1, none⟩ (.int .u64 0)).setCell ⟨R, 2, none⟩ (.int .u64 0)).setCell ⟨R, 3, none⟩ (.int .i64 0)).setCell ⟨R, 4, none⟩ (.int .i64 0)).setCell ⟨R, 5, none⟩ (.int .i64 0)).setCell ⟨R, 6, none⟩ (.string ⟨#[]⟩)).heap[R]? = some (.cells #[.int .i64 0, .int .u64 0, .int .u64 0, .int .i64 0, .int .i64 0, .int .i64 0, .string ⟨#[]⟩] 24 (0, 0)) ∧ w.grownBy ((((((((w9).setCell ⟨R, 0, none⟩ (.int .i64 0)).setCell ⟨R, 1, none⟩ (.int .u64 0)).setCell ⟨R, 2, none⟩ (.int .u64 0)).setCell ⟨R, 3, none⟩ (.int .i64 0)).setCell ⟨R, 4, none⟩ (.int .i64 0)).setCell ⟨R, 5, none⟩ (.int .i64 0)).setCell ⟨R, 6, none⟩ (.string ⟨#[]⟩)) (some B) := C4.out.fill ({ z7 with kind := 0 } : Call7)
    generalize (((((((w9).setCell ⟨R, 0, none⟩ (.int .i64 0)).setCell ⟨R, 1, none⟩ (.int .u64 0)).setCell ⟨R, 2, none⟩ (.int .u64 0)).setCell ⟨R, 3, none⟩ (.int .i64 0)).setCell ⟨R, 4, none⟩ (.int .i64 0)).setCell ⟨R, 5, none⟩ (.int .i64 0)).setCell ⟨R, 6, none⟩ (.string ⟨#[]⟩) = w10 at hf ⊢
    obtain ⟨hr, hg⟩ := hf
    have r0 : w10.cell? ⟨R, 0, none⟩ = some (.int .i64 0) := (blk_cell hr 0).trans rfl
    have r1 : w10.cell? ⟨R, 1, none⟩ = some (.int .u64 0) := (blk_cell hr 1).trans rfl
    have r2 : w10.cell? ⟨R, 2, none⟩ = some (.int .u64 0) := (blk_cell hr 2).trans rfl
    have r3 : w10.cell? ⟨R, 3, none⟩ = some (.int .i64 0) := (blk_cell hr 3).trans rfl
    have r4 : w10.cell? ⟨R, 4, none⟩ = some (.int .i64 0) := (blk_cell hr 4).trans rfl
    have r5 : w10.cell? ⟨R, 5, none⟩ = some (.int .i64 0) := (blk_cell hr 5).trans rfl
    have r6 : w10.cell? ⟨R, 6, none⟩ = some (.string ⟨#[]⟩) := (blk_cell hr 6).trans rfl
    refine bodyPost_ret (v := .agg #[.int .i64 0, .int .u64 0, .int .u64 0, .int .i64 0, .int .i64 0, .int .i64 0, .string ⟨#[]⟩]) (by simp [results, Tryd.results18, go_sem, r0, r1, r2, r3, r4, r5, r6]) rfl ⟨?_, hg⟩
    rw [HQ.out]
    rfl
set_option maxRecDepth 100000 in
set_option maxHeartbeats 4000000 in
theorem call_close (B : Nat) (r r1 : List UInt8) (e1 : Bool) (w0 w : World) (h : PAt w B r false) (hs : r.length ≤ 281474976710656) (hE : PEnv w0 w B) (hw : wordP r false = some ([99, 108, 111, 115, 101], r1, e1)) :
    Calls Tryd.prog 18 #[.pointer (some ⟨B, 0, none⟩)] w fun e w' => CallEnd w B (fin (k_close r1 e1)) e w' := by
  have HE := Aside0.mk hE
  have HS := Aside0.mk (show r1.length ≤ 281474976710656 from by have := (wordP_len hw).2; simp only at this; omega)
  have C2 := Aside0.mk (CS.start w B r h)
  have W1 := word_q B r false _ C2.out.pat (by omega)
  unfold PStep at W1
  rw [hw] at W1
  clear h hs hE hw
  go_enter Tryd.func18, Tryd.ntmps18
  go_wp2_with fail
  refine W1.mono ?_
  clear W1
  rintro e w1 ⟨⟨rfl, hb⟩, hg⟩
  have C3 := Aside0.mk (C2.out.step hg hb)
  clear hb hg C2
  generalize w.heap.size = R at *
  have N0 := handle_q B r1 e1 w0 _ C3.out.pat HS.out (HE.out.step C3.out.g)
  unfold PStep encU at N0
  cases q0 : handP r1 e1 with
  | none =>
    rw [q0] at N0
    have HQ := Aside0.mk (show fin (k_close r1 e1) = none from by simp only [k_close, fin, q0, Option.bind_some, Option.bind_none])
    clear q0
    go_wp2_with fail
    refine N0.mono ?_
    rintro e w2 ⟨rfl, hg⟩
    refine ⟨rfl, ?_, C3.out.endg hg⟩
    rw [HQ.out]
  | some x =>
    obtain ⟨y0, r2, e2⟩ := x
    rw [q0] at N0
    have HS := Aside0.mk (Nat.le_trans (handP_len q0) HS.out)
    have Q0 := Aside0.mk q0
    clear q0
    go_wp2_with fail
    refine N0.mono ?_
    rintro e w2 ⟨⟨rfl, hb⟩, hg⟩
    have C4 := Aside0.mk (C3.out.step hg hb)
    clear hb hg C3 N0
    have c0 : w2.cell? ⟨R + 1, 0, none⟩ = some (.int .i64 0) := (blk_cell C4.out.cb 0).trans rfl
    have f0 := blk_frozen C4.out.cb 0
    have c1 : w2.cell? ⟨R + 1, 1, none⟩ = some (.int .u64 0) := (blk_cell C4.out.cb 1).trans rfl
    have f1 := blk_frozen C4.out.cb 1
    have c2 : w2.cell? ⟨R + 1, 2, none⟩ = some (.int .u64 0) := (blk_cell C4.out.cb 2).trans rfl
    have f2 := blk_frozen C4.out.cb 2
    have c3 : w2.cell? ⟨R + 1, 3, none⟩ = some (.int .i64 0) := (blk_cell C4.out.cb 3).trans rfl
    have f3 := blk_frozen C4.out.cb 3
    have c4 : w2.cell? ⟨R + 1, 4, none⟩ = some (.int .i64 0) := (blk_cell C4.out.cb 4).trans rfl
    have f4 := blk_frozen C4.out.cb 4
    have c5 : w2.cell? ⟨R + 1, 5, none⟩ = some (.int .i64 0) := (blk_cell C4.out.cb 5).trans rfl
    have f5 := blk_frozen C4.out.cb 5
    have c6 : w2.cell? ⟨R + 1, 6, none⟩ = some (.string ⟨#[]⟩) := (blk_cell C4.out.cb 6).trans rfl
    have f6 := blk_frozen C4.out.cb 6
    have C5 := Aside0.mk (show CS w ((((((((w2).setCell ⟨R + 1, 0, none⟩ (.int .i64 1)).setCell ⟨R + 1, 1, none⟩ (.int .u64 (y0 : Int))).setCell ⟨R + 1, 2, none⟩ (.int .u64 0)).setCell ⟨R + 1, 3, none⟩ (.int .i64 0)).setCell ⟨R + 1, 4, none⟩ (.int .i64 0)).setCell ⟨R + 1, 5, none⟩ (.int .i64 0)).setCell ⟨R + 1, 6, none⟩ (.string ⟨#[]⟩)) B R (R + 1) ({ z7 with kind := 1, handle := y0 } : Call7) r2 e2 from C4.out.put ({ z7 with kind := 1, handle := y0 } : Call7))
    have pe := C4.out.pat.c1
    have bn : ¬ R + 1 = B := C4.out.cB
    have bn2 : ¬ B = R + 1 := fun x => C4.out.cB x.symm
    go_wp2_with fail
    clear c0 c1 c2 c3 c4 c5 c6 f0 f1 f2 f3 f4 f5 f6 C4 pe bn bn2
    generalize (((((((w2).setCell ⟨R + 1, 0, none⟩ (.int .i64 1)).setCell ⟨R + 1, 1, none⟩ (.int .u64 (y0 : Int))).setCell ⟨R + 1, 2, none⟩ (.int .u64 0)).setCell ⟨R + 1, 3, none⟩ (.int .i64 0)).setCell ⟨R + 1, 4, none⟩ (.int .i64 0)).setCell ⟨R + 1, 5, none⟩ (.int .i64 0)).setCell ⟨R + 1, 6, none⟩ (.string ⟨#[]⟩) = x0 at C5 ⊢
    have HQ := Aside0.mk (show fin (k_close r1 e1) = if e2 = true then some ({ z7 with kind := 1, handle := y0 } : Call7) else none from by simp only [k_close, fin, Q0.out, Option.bind_some])
    cases e2
    · refine (need_false _).mono ?_
      rintro e w9 ⟨rfl, rfl⟩
      refine ⟨rfl, ?_, C5.out.g⟩
      rw [HQ.out]
      rfl
    · refine (need_true _).mono ?_
      rintro e w9 ⟨rfl, rfl⟩
      have c0 : w9.cell? ⟨R + 1, 0, none⟩ = some (.int .i64 1) := (blk_cell C5.out.cb 0).trans rfl
      have f0 := blk_frozen C5.out.cb 0
      have c1 : w9.cell? ⟨R + 1, 1, none⟩ = some (.int .u64 (y0 : Int)) := (blk_cell C5.out.cb 1).trans rfl
      have f1 := blk_frozen C5.out.cb 1
      have c2 : w9.cell? ⟨R + 1, 2, none⟩ = some (.int .u64 0) := (blk_cell C5.out.cb 2).trans rfl
      have f2 := blk_frozen C5.out.cb 2
      have c3 : w9.cell? ⟨R + 1, 3, none⟩ = some (.int .i64 0) := (blk_cell C5.out.cb 3).trans rfl
      have f3 := blk_frozen C5.out.cb 3
      have c4 : w9.cell? ⟨R + 1, 4, none⟩ = some (.int .i64 0) := (blk_cell C5.out.cb 4).trans rfl
      have f4 := blk_frozen C5.out.cb 4
      have c5 : w9.cell? ⟨R + 1, 5, none⟩ = some (.int .i64 0) := (blk_cell C5.out.cb 5).trans rfl
      have f5 := blk_frozen C5.out.cb 5
      have c6 : w9.cell? ⟨R + 1, 6, none⟩ = some (.string ⟨#[]⟩) := (blk_cell C5.out.cb 6).trans rfl
      have f6 := blk_frozen C5.out.cb 6
      have d0 : w9.cell? ⟨R, 0, none⟩ = some (.int .i64 0) := (blk_cell C5.out.rb 0).trans rfl
      have g0 := blk_frozen C5.out.rb 0
      have d1 : w9.cell? ⟨R, 1, none⟩ = some (.int .u64 0) := (blk_cell C5.out.rb 1).trans rfl
      have g1 := blk_frozen C5.out.rb 1
      have d2 : w9.cell? ⟨R, 2, none⟩ = some (.int .u64 0) := (blk_cell C5.out.rb 2).trans rfl
      have g2 := blk_frozen C5.out.rb 2
      have d3 : w9.cell? ⟨R, 3, none⟩ = some (.int .i64 0) := (blk_cell C5.out.rb 3).trans rfl
      have g3 := blk_frozen C5.out.rb 3
      have d4 : w9.cell? ⟨R, 4, none⟩ = some (.int .i64 0) := (blk_cell C5.out.rb 4).trans rfl
      have g4 := blk_frozen C5.out.rb 4
      have d5 : w9.cell? ⟨R, 5, none⟩ = some (.int .i64 0) := (blk_cell C5.out.rb 5).trans rfl
      have g5 := blk_frozen C5.out.rb 5
      have d6 : w9.cell? ⟨R, 6, none⟩ = some (.string ⟨#[]⟩) := (blk_cell C5.out.rb 6).trans rfl
      have g6 := blk_frozen C5.out.rb 6
      have rc : ¬ R = R + 1 := C5.out.rC
      have rc2 : ¬ R + 1 = R := fun x => C5.out.rC x.symm
      go_wp2
      clear c0 c1 c2 c3 c4 c5 c6 f0 f1 f2 f3 f4 f5 f6 d0 d1 d2 d3 d4 d5 d6 g0 g1 g2 g3 g4 g5 g6 rc rc2
      have hf : ((((((((w9).setCell ⟨R, 0, none⟩ (.int .i64 1)).setCell ⟨R, 1, none⟩ (.int .u64 (y0 : Int))).setCell ⟨R, 2, none⟩ (.int .u64 0)).setCell ⟨R, 3, none⟩ (.int .i64 0)).setCell ⟨R, 4, none⟩ (.int .i64 0)).setCell ⟨R, 5, none⟩ (.int .i64 0)).setCell ⟨R, 6, none⟩ (.string ⟨#[]⟩)).heap[R]? = some (.cells #[.int .i64 1, .int .u64 (y0 : Int), .int .u64 0, .int .i64 0, .int .i64 0, .int .i64 0, .string ⟨#[]⟩] 24 (0, 0)) ∧ w.grownBy ((((((((w9).setCell ⟨R, 0, none⟩ (.int .i64 1)).setCell ⟨R, 1, none⟩ (.int .u64 (y0 : Int))).setCell ⟨R, 2, none⟩ (.int .u64 0)).setCell ⟨R, 3, none⟩ (.int .i64 0)).setCell ⟨R, 4, none⟩ (.int .i64 0)).setCell ⟨R, 5, none⟩ (.int .i64 0)).setCell ⟨R, 6, none⟩ (.string ⟨#[]⟩)) (some B) := C5.out.fill ({ z7 with kind := 1, handle := y0 } : Call7)
      generalize (((((((w9).setCell ⟨R, 0, none⟩ (.int .i64 1)).setCell ⟨R, 1, none⟩ (.int .u64 (y0 : Int))).setCell ⟨R, 2, none⟩ (.int .u64 0)).setCell ⟨R, 3, none⟩ (.int .i64 0)).setCell ⟨R, 4, none⟩ (.int .i64 0)).setCell ⟨R, 5, none⟩ (.int .i64 0)).setCell ⟨R, 6, none⟩ (.string ⟨#[]⟩) = w10 at hf ⊢
      obtain ⟨hr, hg⟩ := hf
      have r0 : w10.cell? ⟨R, 0, none⟩ = some (.int .i64 1) := (blk_cell hr 0).trans rfl
      have r1 : w10.cell? ⟨R, 1, none⟩ = some (.int .u64 (y0 : Int)) := (blk_cell hr 1).trans rfl
      have r2 : w10.cell? ⟨R, 2, none⟩ = some (.int .u64 0) := (blk_cell hr 2).trans rfl
      have r3 : w10.cell? ⟨R, 3, none⟩ = some (.int .i64 0) := (blk_cell hr 3).trans rfl
      have r4 : w10.cell? ⟨R, 4, none⟩ = some (.int .i64 0) := (blk_cell hr 4).trans rfl
      have r5 : w10.cell? ⟨R, 5, none⟩ = some (.int .i64 0) := (blk_cell hr 5).trans rfl
      have r6 : w10.cell? ⟨R, 6, none⟩ = some (.string ⟨#[]⟩) := (blk_cell hr 6).trans rfl
      refine bodyPost_ret (v := .agg #[.int .i64 1, .int .u64 (y0 : Int), .int .u64 0, .int .i64 0, .int .i64 0, .int .i64 0, .string ⟨#[]⟩]) (by simp [results, Tryd.results18, go_sem, r0, r1, r2, r3, r4, r5, r6]) rfl ⟨?_, hg⟩
      rw [HQ.out]
      rfl
set_option maxRecDepth 100000 in
set_option maxHeartbeats 4000000 in
theorem call_mint (B : Nat) (r r1 : List UInt8) (e1 : Bool) (w0 w : World) (h : PAt w B r false) (hs : r.length ≤ 281474976710656) (hE : PEnv w0 w B) (hw : wordP r false = some ([109, 105, 110, 116], r1, e1)) :
    Calls Tryd.prog 18 #[.pointer (some ⟨B, 0, none⟩)] w fun e w' => CallEnd w B (fin (k_mint r1 e1)) e w' := by
  have HE := Aside0.mk hE
  have HS := Aside0.mk (show r1.length ≤ 281474976710656 from by have := (wordP_len hw).2; simp only at this; omega)
  have C2 := Aside0.mk (CS.start w B r h)
  have W1 := word_q B r false _ C2.out.pat (by omega)
  unfold PStep at W1
  rw [hw] at W1
  clear h hs hE hw
  go_enter Tryd.func18, Tryd.ntmps18
  go_wp2_with fail
  refine W1.mono ?_
  clear W1
  rintro e w1 ⟨⟨rfl, hb⟩, hg⟩
  have C3 := Aside0.mk (C2.out.step hg hb)
  clear hb hg C2
  generalize w.heap.size = R at *
  have N0 := handle_q B r1 e1 w0 _ C3.out.pat HS.out (HE.out.step C3.out.g)
  unfold PStep encU at N0
  cases q0 : handP r1 e1 with
  | none =>
    rw [q0] at N0
    have HQ := Aside0.mk (show fin (k_mint r1 e1) = none from by simp only [k_mint, fin, q0, Option.bind_some, Option.bind_none])
    clear q0
    go_wp2_with fail
    refine N0.mono ?_
    rintro e w2 ⟨rfl, hg⟩
    refine ⟨rfl, ?_, C3.out.endg hg⟩
    rw [HQ.out]
  | some x =>
    obtain ⟨y0, r2, e2⟩ := x
    rw [q0] at N0
    have HS := Aside0.mk (Nat.le_trans (handP_len q0) HS.out)
    have Q0 := Aside0.mk q0
    clear q0
    go_wp2_with fail
    refine N0.mono ?_
    rintro e w2 ⟨⟨rfl, hb⟩, hg⟩
    have C4 := Aside0.mk (C3.out.step hg hb)
    clear hb hg C3 N0
    have c0 : w2.cell? ⟨R + 1, 0, none⟩ = some (.int .i64 0) := (blk_cell C4.out.cb 0).trans rfl
    have f0 := blk_frozen C4.out.cb 0
    have c1 : w2.cell? ⟨R + 1, 1, none⟩ = some (.int .u64 0) := (blk_cell C4.out.cb 1).trans rfl
    have f1 := blk_frozen C4.out.cb 1
    have c2 : w2.cell? ⟨R + 1, 2, none⟩ = some (.int .u64 0) := (blk_cell C4.out.cb 2).trans rfl
    have f2 := blk_frozen C4.out.cb 2
    have c3 : w2.cell? ⟨R + 1, 3, none⟩ = some (.int .i64 0) := (blk_cell C4.out.cb 3).trans rfl
    have f3 := blk_frozen C4.out.cb 3
    have c4 : w2.cell? ⟨R + 1, 4, none⟩ = some (.int .i64 0) := (blk_cell C4.out.cb 4).trans rfl
    have f4 := blk_frozen C4.out.cb 4
    have c5 : w2.cell? ⟨R + 1, 5, none⟩ = some (.int .i64 0) := (blk_cell C4.out.cb 5).trans rfl
    have f5 := blk_frozen C4.out.cb 5
    have c6 : w2.cell? ⟨R + 1, 6, none⟩ = some (.string ⟨#[]⟩) := (blk_cell C4.out.cb 6).trans rfl
    have f6 := blk_frozen C4.out.cb 6
    have C5 := Aside0.mk (show CS w ((((((((w2).setCell ⟨R + 1, 0, none⟩ (.int .i64 2)).setCell ⟨R + 1, 1, none⟩ (.int .u64 (y0 : Int))).setCell ⟨R + 1, 2, none⟩ (.int .u64 0)).setCell ⟨R + 1, 3, none⟩ (.int .i64 0)).setCell ⟨R + 1, 4, none⟩ (.int .i64 0)).setCell ⟨R + 1, 5, none⟩ (.int .i64 0)).setCell ⟨R + 1, 6, none⟩ (.string ⟨#[]⟩)) B R (R + 1) ({ z7 with kind := 2, handle := y0 } : Call7) r2 e2 from C4.out.put ({ z7 with kind := 2, handle := y0 } : Call7))
    go_wp2_with fail
    clear c0 c1 c2 c3 c4 c5 c6 f0 f1 f2 f3 f4 f5 f6 C4
    generalize (((((((w2).setCell ⟨R + 1, 0, none⟩ (.int .i64 2)).setCell ⟨R + 1, 1, none⟩ (.int .u64 (y0 : Int))).setCell ⟨R + 1, 2, none⟩ (.int .u64 0)).setCell ⟨R + 1, 3, none⟩ (.int .i64 0)).setCell ⟨R + 1, 4, none⟩ (.int .i64 0)).setCell ⟨R + 1, 5, none⟩ (.int .i64 0)).setCell ⟨R + 1, 6, none⟩ (.string ⟨#[]⟩) = x0 at C5 ⊢
    have N1 := small_q B r2 e2 1 7 w0 _ C5.out.pat HS.out (HE.out.step C5.out.g) (by decide) (by decide)
    unfold PStep encI at N1
    cases q1 : numP 1 7 r2 e2 with
    | none =>
      rw [q1] at N1
      have HQ := Aside0.mk (show fin (k_mint r1 e1) = none from by simp only [k_mint, fin, Q0.out, q1, Option.bind_some, Option.bind_none])
      clear q1
      go_wp2_with fail
      refine N1.mono ?_
      rintro e w2 ⟨rfl, hg⟩
      refine ⟨rfl, ?_, C5.out.endg hg⟩
      rw [HQ.out]
    | some x =>
      obtain ⟨y1, r3, e3⟩ := x
      rw [q1] at N1
      have HS := Aside0.mk (Nat.le_trans (numP_len q1) HS.out)
      have Q1 := Aside0.mk q1
      clear q1
      go_wp2_with fail
      refine N1.mono ?_
      rintro e w3 ⟨⟨rfl, hb⟩, hg⟩
      have C6 := Aside0.mk (C5.out.step hg hb)
      clear hb hg C5 N1
      have c0 : w3.cell? ⟨R + 1, 0, none⟩ = some (.int .i64 2) := (blk_cell C6.out.cb 0).trans rfl
      have f0 := blk_frozen C6.out.cb 0
      have c1 : w3.cell? ⟨R + 1, 1, none⟩ = some (.int .u64 (y0 : Int)) := (blk_cell C6.out.cb 1).trans rfl
      have f1 := blk_frozen C6.out.cb 1
      have c2 : w3.cell? ⟨R + 1, 2, none⟩ = some (.int .u64 0) := (blk_cell C6.out.cb 2).trans rfl
      have f2 := blk_frozen C6.out.cb 2
      have c3 : w3.cell? ⟨R + 1, 3, none⟩ = some (.int .i64 0) := (blk_cell C6.out.cb 3).trans rfl
      have f3 := blk_frozen C6.out.cb 3
      have c4 : w3.cell? ⟨R + 1, 4, none⟩ = some (.int .i64 0) := (blk_cell C6.out.cb 4).trans rfl
      have f4 := blk_frozen C6.out.cb 4
      have c5 : w3.cell? ⟨R + 1, 5, none⟩ = some (.int .i64 0) := (blk_cell C6.out.cb 5).trans rfl
      have f5 := blk_frozen C6.out.cb 5
      have c6 : w3.cell? ⟨R + 1, 6, none⟩ = some (.string ⟨#[]⟩) := (blk_cell C6.out.cb 6).trans rfl
      have f6 := blk_frozen C6.out.cb 6
      have C7 := Aside0.mk (show CS w ((w3).setCell ⟨R + 1, 3, none⟩ (.int .i64 (y1 : Int))) B R (R + 1) ({ z7 with kind := 2, handle := y0, give := y1 } : Call7) r3 e3 from C6.out.set 3 (.int .i64 (y1 : Int)) ({ z7 with kind := 2, handle := y0, give := y1 } : Call7) rfl)
      have pe := C6.out.pat.c1
      have bn : ¬ R + 1 = B := C6.out.cB
      have bn2 : ¬ B = R + 1 := fun x => C6.out.cB x.symm
      go_wp2_with fail
      clear c0 c1 c2 c3 c4 c5 c6 f0 f1 f2 f3 f4 f5 f6 C6 pe bn bn2
      generalize (w3).setCell ⟨R + 1, 3, none⟩ (.int .i64 (y1 : Int)) = x1 at C7 ⊢
      have HQ := Aside0.mk (show fin (k_mint r1 e1) = if e3 = true then some ({ z7 with kind := 2, handle := y0, give := y1 } : Call7) else none from by simp only [k_mint, fin, Q0.out, Q1.out, Option.bind_some])
      cases e3
      · refine (need_false _).mono ?_
        rintro e w9 ⟨rfl, rfl⟩
        refine ⟨rfl, ?_, C7.out.g⟩
        rw [HQ.out]
        rfl
      · refine (need_true _).mono ?_
        rintro e w9 ⟨rfl, rfl⟩
        have c0 : w9.cell? ⟨R + 1, 0, none⟩ = some (.int .i64 2) := (blk_cell C7.out.cb 0).trans rfl
        have f0 := blk_frozen C7.out.cb 0
        have c1 : w9.cell? ⟨R + 1, 1, none⟩ = some (.int .u64 (y0 : Int)) := (blk_cell C7.out.cb 1).trans rfl
        have f1 := blk_frozen C7.out.cb 1
        have c2 : w9.cell? ⟨R + 1, 2, none⟩ = some (.int .u64 0) := (blk_cell C7.out.cb 2).trans rfl
        have f2 := blk_frozen C7.out.cb 2
        have c3 : w9.cell? ⟨R + 1, 3, none⟩ = some (.int .i64 (y1 : Int)) := (blk_cell C7.out.cb 3).trans rfl
        have f3 := blk_frozen C7.out.cb 3
        have c4 : w9.cell? ⟨R + 1, 4, none⟩ = some (.int .i64 0) := (blk_cell C7.out.cb 4).trans rfl
        have f4 := blk_frozen C7.out.cb 4
        have c5 : w9.cell? ⟨R + 1, 5, none⟩ = some (.int .i64 0) := (blk_cell C7.out.cb 5).trans rfl
        have f5 := blk_frozen C7.out.cb 5
        have c6 : w9.cell? ⟨R + 1, 6, none⟩ = some (.string ⟨#[]⟩) := (blk_cell C7.out.cb 6).trans rfl
        have f6 := blk_frozen C7.out.cb 6
        have d0 : w9.cell? ⟨R, 0, none⟩ = some (.int .i64 0) := (blk_cell C7.out.rb 0).trans rfl
        have g0 := blk_frozen C7.out.rb 0
        have d1 : w9.cell? ⟨R, 1, none⟩ = some (.int .u64 0) := (blk_cell C7.out.rb 1).trans rfl
        have g1 := blk_frozen C7.out.rb 1
        have d2 : w9.cell? ⟨R, 2, none⟩ = some (.int .u64 0) := (blk_cell C7.out.rb 2).trans rfl
        have g2 := blk_frozen C7.out.rb 2
        have d3 : w9.cell? ⟨R, 3, none⟩ = some (.int .i64 0) := (blk_cell C7.out.rb 3).trans rfl
        have g3 := blk_frozen C7.out.rb 3
        have d4 : w9.cell? ⟨R, 4, none⟩ = some (.int .i64 0) := (blk_cell C7.out.rb 4).trans rfl
        have g4 := blk_frozen C7.out.rb 4
        have d5 : w9.cell? ⟨R, 5, none⟩ = some (.int .i64 0) := (blk_cell C7.out.rb 5).trans rfl
        have g5 := blk_frozen C7.out.rb 5
        have d6 : w9.cell? ⟨R, 6, none⟩ = some (.string ⟨#[]⟩) := (blk_cell C7.out.rb 6).trans rfl
        have g6 := blk_frozen C7.out.rb 6
        have rc : ¬ R = R + 1 := C7.out.rC
        have rc2 : ¬ R + 1 = R := fun x => C7.out.rC x.symm
        go_wp2
        clear c0 c1 c2 c3 c4 c5 c6 f0 f1 f2 f3 f4 f5 f6 d0 d1 d2 d3 d4 d5 d6 g0 g1 g2 g3 g4 g5 g6 rc rc2
        have hf : ((((((((w9).setCell ⟨R, 0, none⟩ (.int .i64 2)).setCell ⟨R, 1, none⟩ (.int .u64 (y0 : Int))).setCell ⟨R, 2, none⟩ (.int .u64 0)).setCell ⟨R, 3, none⟩ (.int .i64 (y1 : Int))).setCell ⟨R, 4, none⟩ (.int .i64 0)).setCell ⟨R, 5, none⟩ (.int .i64 0)).setCell ⟨R, 6, none⟩ (.string ⟨#[]⟩)).heap[R]? = some (.cells #[.int .i64 2, .int .u64 (y0 : Int), .int .u64 0, .int .i64 (y1 : Int), .int .i64 0, .int .i64 0, .string ⟨#[]⟩] 24 (0, 0)) ∧ w.grownBy ((((((((w9).setCell ⟨R, 0, none⟩ (.int .i64 2)).setCell ⟨R, 1, none⟩ (.int .u64 (y0 : Int))).setCell ⟨R, 2, none⟩ (.int .u64 0)).setCell ⟨R, 3, none⟩ (.int .i64 (y1 : Int))).setCell ⟨R, 4, none⟩ (.int .i64 0)).setCell ⟨R, 5, none⟩ (.int .i64 0)).setCell ⟨R, 6, none⟩ (.string ⟨#[]⟩)) (some B) := C7.out.fill ({ z7 with kind := 2, handle := y0, give := y1 } : Call7)
        generalize (((((((w9).setCell ⟨R, 0, none⟩ (.int .i64 2)).setCell ⟨R, 1, none⟩ (.int .u64 (y0 : Int))).setCell ⟨R, 2, none⟩ (.int .u64 0)).setCell ⟨R, 3, none⟩ (.int .i64 (y1 : Int))).setCell ⟨R, 4, none⟩ (.int .i64 0)).setCell ⟨R, 5, none⟩ (.int .i64 0)).setCell ⟨R, 6, none⟩ (.string ⟨#[]⟩) = w10 at hf ⊢
        obtain ⟨hr, hg⟩ := hf
        have r0 : w10.cell? ⟨R, 0, none⟩ = some (.int .i64 2) := (blk_cell hr 0).trans rfl
        have r1 : w10.cell? ⟨R, 1, none⟩ = some (.int .u64 (y0 : Int)) := (blk_cell hr 1).trans rfl
        have r2 : w10.cell? ⟨R, 2, none⟩ = some (.int .u64 0) := (blk_cell hr 2).trans rfl
        have r3 : w10.cell? ⟨R, 3, none⟩ = some (.int .i64 (y1 : Int)) := (blk_cell hr 3).trans rfl
        have r4 : w10.cell? ⟨R, 4, none⟩ = some (.int .i64 0) := (blk_cell hr 4).trans rfl
        have r5 : w10.cell? ⟨R, 5, none⟩ = some (.int .i64 0) := (blk_cell hr 5).trans rfl
        have r6 : w10.cell? ⟨R, 6, none⟩ = some (.string ⟨#[]⟩) := (blk_cell hr 6).trans rfl
        refine bodyPost_ret (v := .agg #[.int .i64 2, .int .u64 (y0 : Int), .int .u64 0, .int .i64 (y1 : Int), .int .i64 0, .int .i64 0, .string ⟨#[]⟩]) (by simp [results, Tryd.results18, go_sem, r0, r1, r2, r3, r4, r5, r6]) rfl ⟨?_, hg⟩
        rw [HQ.out]
        rfl
set_option maxRecDepth 100000 in
set_option maxHeartbeats 4000000 in
theorem call_revoke (B : Nat) (r r1 : List UInt8) (e1 : Bool) (w0 w : World) (h : PAt w B r false) (hs : r.length ≤ 281474976710656) (hE : PEnv w0 w B) (hw : wordP r false = some ([114, 101, 118, 111, 107, 101], r1, e1)) :
    Calls Tryd.prog 18 #[.pointer (some ⟨B, 0, none⟩)] w fun e w' => CallEnd w B (fin (k_revoke r1 e1)) e w' := by
  have HE := Aside0.mk hE
  have HS := Aside0.mk (show r1.length ≤ 281474976710656 from by have := (wordP_len hw).2; simp only at this; omega)
  have C2 := Aside0.mk (CS.start w B r h)
  have W1 := word_q B r false _ C2.out.pat (by omega)
  unfold PStep at W1
  rw [hw] at W1
  clear h hs hE hw
  go_enter Tryd.func18, Tryd.ntmps18
  go_wp2_with fail
  refine W1.mono ?_
  clear W1
  rintro e w1 ⟨⟨rfl, hb⟩, hg⟩
  have C3 := Aside0.mk (C2.out.step hg hb)
  clear hb hg C2
  generalize w.heap.size = R at *
  have N0 := handle_q B r1 e1 w0 _ C3.out.pat HS.out (HE.out.step C3.out.g)
  unfold PStep encU at N0
  cases q0 : handP r1 e1 with
  | none =>
    rw [q0] at N0
    have HQ := Aside0.mk (show fin (k_revoke r1 e1) = none from by simp only [k_revoke, fin, q0, Option.bind_some, Option.bind_none])
    clear q0
    go_wp2_with fail
    refine N0.mono ?_
    rintro e w2 ⟨rfl, hg⟩
    refine ⟨rfl, ?_, C3.out.endg hg⟩
    rw [HQ.out]
  | some x =>
    obtain ⟨y0, r2, e2⟩ := x
    rw [q0] at N0
    have HS := Aside0.mk (Nat.le_trans (handP_len q0) HS.out)
    have Q0 := Aside0.mk q0
    clear q0
    go_wp2_with fail
    refine N0.mono ?_
    rintro e w2 ⟨⟨rfl, hb⟩, hg⟩
    have C4 := Aside0.mk (C3.out.step hg hb)
    clear hb hg C3 N0
    have c0 : w2.cell? ⟨R + 1, 0, none⟩ = some (.int .i64 0) := (blk_cell C4.out.cb 0).trans rfl
    have f0 := blk_frozen C4.out.cb 0
    have c1 : w2.cell? ⟨R + 1, 1, none⟩ = some (.int .u64 0) := (blk_cell C4.out.cb 1).trans rfl
    have f1 := blk_frozen C4.out.cb 1
    have c2 : w2.cell? ⟨R + 1, 2, none⟩ = some (.int .u64 0) := (blk_cell C4.out.cb 2).trans rfl
    have f2 := blk_frozen C4.out.cb 2
    have c3 : w2.cell? ⟨R + 1, 3, none⟩ = some (.int .i64 0) := (blk_cell C4.out.cb 3).trans rfl
    have f3 := blk_frozen C4.out.cb 3
    have c4 : w2.cell? ⟨R + 1, 4, none⟩ = some (.int .i64 0) := (blk_cell C4.out.cb 4).trans rfl
    have f4 := blk_frozen C4.out.cb 4
    have c5 : w2.cell? ⟨R + 1, 5, none⟩ = some (.int .i64 0) := (blk_cell C4.out.cb 5).trans rfl
    have f5 := blk_frozen C4.out.cb 5
    have c6 : w2.cell? ⟨R + 1, 6, none⟩ = some (.string ⟨#[]⟩) := (blk_cell C4.out.cb 6).trans rfl
    have f6 := blk_frozen C4.out.cb 6
    have C5 := Aside0.mk (show CS w ((((((((w2).setCell ⟨R + 1, 0, none⟩ (.int .i64 3)).setCell ⟨R + 1, 1, none⟩ (.int .u64 (y0 : Int))).setCell ⟨R + 1, 2, none⟩ (.int .u64 0)).setCell ⟨R + 1, 3, none⟩ (.int .i64 0)).setCell ⟨R + 1, 4, none⟩ (.int .i64 0)).setCell ⟨R + 1, 5, none⟩ (.int .i64 0)).setCell ⟨R + 1, 6, none⟩ (.string ⟨#[]⟩)) B R (R + 1) ({ z7 with kind := 3, handle := y0 } : Call7) r2 e2 from C4.out.put ({ z7 with kind := 3, handle := y0 } : Call7))
    go_wp2_with fail
    clear c0 c1 c2 c3 c4 c5 c6 f0 f1 f2 f3 f4 f5 f6 C4
    generalize (((((((w2).setCell ⟨R + 1, 0, none⟩ (.int .i64 3)).setCell ⟨R + 1, 1, none⟩ (.int .u64 (y0 : Int))).setCell ⟨R + 1, 2, none⟩ (.int .u64 0)).setCell ⟨R + 1, 3, none⟩ (.int .i64 0)).setCell ⟨R + 1, 4, none⟩ (.int .i64 0)).setCell ⟨R + 1, 5, none⟩ (.int .i64 0)).setCell ⟨R + 1, 6, none⟩ (.string ⟨#[]⟩) = x0 at C5 ⊢
    have N1 := handle_q B r2 e2 w0 _ C5.out.pat HS.out (HE.out.step C5.out.g)
    unfold PStep encU at N1
    cases q1 : handP r2 e2 with
    | none =>
      rw [q1] at N1
      have HQ := Aside0.mk (show fin (k_revoke r1 e1) = none from by simp only [k_revoke, fin, Q0.out, q1, Option.bind_some, Option.bind_none])
      clear q1
      go_wp2_with fail
      refine N1.mono ?_
      rintro e w2 ⟨rfl, hg⟩
      refine ⟨rfl, ?_, C5.out.endg hg⟩
      rw [HQ.out]
    | some x =>
      obtain ⟨y1, r3, e3⟩ := x
      rw [q1] at N1
      have HS := Aside0.mk (Nat.le_trans (handP_len q1) HS.out)
      have Q1 := Aside0.mk q1
      clear q1
      go_wp2_with fail
      refine N1.mono ?_
      rintro e w3 ⟨⟨rfl, hb⟩, hg⟩
      have C6 := Aside0.mk (C5.out.step hg hb)
      clear hb hg C5 N1
      have c0 : w3.cell? ⟨R + 1, 0, none⟩ = some (.int .i64 3) := (blk_cell C6.out.cb 0).trans rfl
      have f0 := blk_frozen C6.out.cb 0
      have c1 : w3.cell? ⟨R + 1, 1, none⟩ = some (.int .u64 (y0 : Int)) := (blk_cell C6.out.cb 1).trans rfl
      have f1 := blk_frozen C6.out.cb 1
      have c2 : w3.cell? ⟨R + 1, 2, none⟩ = some (.int .u64 0) := (blk_cell C6.out.cb 2).trans rfl
      have f2 := blk_frozen C6.out.cb 2
      have c3 : w3.cell? ⟨R + 1, 3, none⟩ = some (.int .i64 0) := (blk_cell C6.out.cb 3).trans rfl
      have f3 := blk_frozen C6.out.cb 3
      have c4 : w3.cell? ⟨R + 1, 4, none⟩ = some (.int .i64 0) := (blk_cell C6.out.cb 4).trans rfl
      have f4 := blk_frozen C6.out.cb 4
      have c5 : w3.cell? ⟨R + 1, 5, none⟩ = some (.int .i64 0) := (blk_cell C6.out.cb 5).trans rfl
      have f5 := blk_frozen C6.out.cb 5
      have c6 : w3.cell? ⟨R + 1, 6, none⟩ = some (.string ⟨#[]⟩) := (blk_cell C6.out.cb 6).trans rfl
      have f6 := blk_frozen C6.out.cb 6
      have C7 := Aside0.mk (show CS w ((w3).setCell ⟨R + 1, 2, none⟩ (.int .u64 (y1 : Int))) B R (R + 1) ({ z7 with kind := 3, handle := y0, other := y1 } : Call7) r3 e3 from C6.out.set 2 (.int .u64 (y1 : Int)) ({ z7 with kind := 3, handle := y0, other := y1 } : Call7) rfl)
      have pe := C6.out.pat.c1
      have bn : ¬ R + 1 = B := C6.out.cB
      have bn2 : ¬ B = R + 1 := fun x => C6.out.cB x.symm
      go_wp2_with fail
      clear c0 c1 c2 c3 c4 c5 c6 f0 f1 f2 f3 f4 f5 f6 C6 pe bn bn2
      generalize (w3).setCell ⟨R + 1, 2, none⟩ (.int .u64 (y1 : Int)) = x1 at C7 ⊢
      have HQ := Aside0.mk (show fin (k_revoke r1 e1) = if e3 = true then some ({ z7 with kind := 3, handle := y0, other := y1 } : Call7) else none from by simp only [k_revoke, fin, Q0.out, Q1.out, Option.bind_some])
      cases e3
      · refine (need_false _).mono ?_
        rintro e w9 ⟨rfl, rfl⟩
        refine ⟨rfl, ?_, C7.out.g⟩
        rw [HQ.out]
        rfl
      · refine (need_true _).mono ?_
        rintro e w9 ⟨rfl, rfl⟩
        have c0 : w9.cell? ⟨R + 1, 0, none⟩ = some (.int .i64 3) := (blk_cell C7.out.cb 0).trans rfl
        have f0 := blk_frozen C7.out.cb 0
        have c1 : w9.cell? ⟨R + 1, 1, none⟩ = some (.int .u64 (y0 : Int)) := (blk_cell C7.out.cb 1).trans rfl
        have f1 := blk_frozen C7.out.cb 1
        have c2 : w9.cell? ⟨R + 1, 2, none⟩ = some (.int .u64 (y1 : Int)) := (blk_cell C7.out.cb 2).trans rfl
        have f2 := blk_frozen C7.out.cb 2
        have c3 : w9.cell? ⟨R + 1, 3, none⟩ = some (.int .i64 0) := (blk_cell C7.out.cb 3).trans rfl
        have f3 := blk_frozen C7.out.cb 3
        have c4 : w9.cell? ⟨R + 1, 4, none⟩ = some (.int .i64 0) := (blk_cell C7.out.cb 4).trans rfl
        have f4 := blk_frozen C7.out.cb 4
        have c5 : w9.cell? ⟨R + 1, 5, none⟩ = some (.int .i64 0) := (blk_cell C7.out.cb 5).trans rfl
        have f5 := blk_frozen C7.out.cb 5
        have c6 : w9.cell? ⟨R + 1, 6, none⟩ = some (.string ⟨#[]⟩) := (blk_cell C7.out.cb 6).trans rfl
        have f6 := blk_frozen C7.out.cb 6
        have d0 : w9.cell? ⟨R, 0, none⟩ = some (.int .i64 0) := (blk_cell C7.out.rb 0).trans rfl
        have g0 := blk_frozen C7.out.rb 0
        have d1 : w9.cell? ⟨R, 1, none⟩ = some (.int .u64 0) := (blk_cell C7.out.rb 1).trans rfl
        have g1 := blk_frozen C7.out.rb 1
        have d2 : w9.cell? ⟨R, 2, none⟩ = some (.int .u64 0) := (blk_cell C7.out.rb 2).trans rfl
        have g2 := blk_frozen C7.out.rb 2
        have d3 : w9.cell? ⟨R, 3, none⟩ = some (.int .i64 0) := (blk_cell C7.out.rb 3).trans rfl
        have g3 := blk_frozen C7.out.rb 3
        have d4 : w9.cell? ⟨R, 4, none⟩ = some (.int .i64 0) := (blk_cell C7.out.rb 4).trans rfl
        have g4 := blk_frozen C7.out.rb 4
        have d5 : w9.cell? ⟨R, 5, none⟩ = some (.int .i64 0) := (blk_cell C7.out.rb 5).trans rfl
        have g5 := blk_frozen C7.out.rb 5
        have d6 : w9.cell? ⟨R, 6, none⟩ = some (.string ⟨#[]⟩) := (blk_cell C7.out.rb 6).trans rfl
        have g6 := blk_frozen C7.out.rb 6
        have rc : ¬ R = R + 1 := C7.out.rC
        have rc2 : ¬ R + 1 = R := fun x => C7.out.rC x.symm
        go_wp2
        clear c0 c1 c2 c3 c4 c5 c6 f0 f1 f2 f3 f4 f5 f6 d0 d1 d2 d3 d4 d5 d6 g0 g1 g2 g3 g4 g5 g6 rc rc2
        have hf : ((((((((w9).setCell ⟨R, 0, none⟩ (.int .i64 3)).setCell ⟨R, 1, none⟩ (.int .u64 (y0 : Int))).setCell ⟨R, 2, none⟩ (.int .u64 (y1 : Int))).setCell ⟨R, 3, none⟩ (.int .i64 0)).setCell ⟨R, 4, none⟩ (.int .i64 0)).setCell ⟨R, 5, none⟩ (.int .i64 0)).setCell ⟨R, 6, none⟩ (.string ⟨#[]⟩)).heap[R]? = some (.cells #[.int .i64 3, .int .u64 (y0 : Int), .int .u64 (y1 : Int), .int .i64 0, .int .i64 0, .int .i64 0, .string ⟨#[]⟩] 24 (0, 0)) ∧ w.grownBy ((((((((w9).setCell ⟨R, 0, none⟩ (.int .i64 3)).setCell ⟨R, 1, none⟩ (.int .u64 (y0 : Int))).setCell ⟨R, 2, none⟩ (.int .u64 (y1 : Int))).setCell ⟨R, 3, none⟩ (.int .i64 0)).setCell ⟨R, 4, none⟩ (.int .i64 0)).setCell ⟨R, 5, none⟩ (.int .i64 0)).setCell ⟨R, 6, none⟩ (.string ⟨#[]⟩)) (some B) := C7.out.fill ({ z7 with kind := 3, handle := y0, other := y1 } : Call7)
        generalize (((((((w9).setCell ⟨R, 0, none⟩ (.int .i64 3)).setCell ⟨R, 1, none⟩ (.int .u64 (y0 : Int))).setCell ⟨R, 2, none⟩ (.int .u64 (y1 : Int))).setCell ⟨R, 3, none⟩ (.int .i64 0)).setCell ⟨R, 4, none⟩ (.int .i64 0)).setCell ⟨R, 5, none⟩ (.int .i64 0)).setCell ⟨R, 6, none⟩ (.string ⟨#[]⟩) = w10 at hf ⊢
        obtain ⟨hr, hg⟩ := hf
        have r0 : w10.cell? ⟨R, 0, none⟩ = some (.int .i64 3) := (blk_cell hr 0).trans rfl
        have r1 : w10.cell? ⟨R, 1, none⟩ = some (.int .u64 (y0 : Int)) := (blk_cell hr 1).trans rfl
        have r2 : w10.cell? ⟨R, 2, none⟩ = some (.int .u64 (y1 : Int)) := (blk_cell hr 2).trans rfl
        have r3 : w10.cell? ⟨R, 3, none⟩ = some (.int .i64 0) := (blk_cell hr 3).trans rfl
        have r4 : w10.cell? ⟨R, 4, none⟩ = some (.int .i64 0) := (blk_cell hr 4).trans rfl
        have r5 : w10.cell? ⟨R, 5, none⟩ = some (.int .i64 0) := (blk_cell hr 5).trans rfl
        have r6 : w10.cell? ⟨R, 6, none⟩ = some (.string ⟨#[]⟩) := (blk_cell hr 6).trans rfl
        refine bodyPost_ret (v := .agg #[.int .i64 3, .int .u64 (y0 : Int), .int .u64 (y1 : Int), .int .i64 0, .int .i64 0, .int .i64 0, .string ⟨#[]⟩]) (by simp [results, Tryd.results18, go_sem, r0, r1, r2, r3, r4, r5, r6]) rfl ⟨?_, hg⟩
        rw [HQ.out]
        rfl
set_option maxRecDepth 100000 in
set_option maxHeartbeats 4000000 in
theorem call_join (B : Nat) (r r1 : List UInt8) (e1 : Bool) (w0 w : World) (h : PAt w B r false) (hs : r.length ≤ 281474976710656) (hE : PEnv w0 w B) (hw : wordP r false = some ([106, 111, 105, 110], r1, e1)) :
    Calls Tryd.prog 18 #[.pointer (some ⟨B, 0, none⟩)] w fun e w' => CallEnd w B (fin (k_join r1 e1)) e w' := by
  have HE := Aside0.mk hE
  have HS := Aside0.mk (show r1.length ≤ 281474976710656 from by have := (wordP_len hw).2; simp only at this; omega)
  have C2 := Aside0.mk (CS.start w B r h)
  have W1 := word_q B r false _ C2.out.pat (by omega)
  unfold PStep at W1
  rw [hw] at W1
  clear h hs hE hw
  go_enter Tryd.func18, Tryd.ntmps18
  go_wp2_with fail
  refine W1.mono ?_
  clear W1
  rintro e w1 ⟨⟨rfl, hb⟩, hg⟩
  have C3 := Aside0.mk (C2.out.step hg hb)
  clear hb hg C2
  generalize w.heap.size = R at *
  have N0 := handle_q B r1 e1 w0 _ C3.out.pat HS.out (HE.out.step C3.out.g)
  unfold PStep encU at N0
  cases q0 : handP r1 e1 with
  | none =>
    rw [q0] at N0
    have HQ := Aside0.mk (show fin (k_join r1 e1) = none from by simp only [k_join, fin, q0, Option.bind_some, Option.bind_none])
    clear q0
    go_wp2_with fail
    refine N0.mono ?_
    rintro e w2 ⟨rfl, hg⟩
    refine ⟨rfl, ?_, C3.out.endg hg⟩
    rw [HQ.out]
  | some x =>
    obtain ⟨y0, r2, e2⟩ := x
    rw [q0] at N0
    have HS := Aside0.mk (Nat.le_trans (handP_len q0) HS.out)
    have Q0 := Aside0.mk q0
    clear q0
    go_wp2_with fail
    refine N0.mono ?_
    rintro e w2 ⟨⟨rfl, hb⟩, hg⟩
    have C4 := Aside0.mk (C3.out.step hg hb)
    clear hb hg C3 N0
    have c0 : w2.cell? ⟨R + 1, 0, none⟩ = some (.int .i64 0) := (blk_cell C4.out.cb 0).trans rfl
    have f0 := blk_frozen C4.out.cb 0
    have c1 : w2.cell? ⟨R + 1, 1, none⟩ = some (.int .u64 0) := (blk_cell C4.out.cb 1).trans rfl
    have f1 := blk_frozen C4.out.cb 1
    have c2 : w2.cell? ⟨R + 1, 2, none⟩ = some (.int .u64 0) := (blk_cell C4.out.cb 2).trans rfl
    have f2 := blk_frozen C4.out.cb 2
    have c3 : w2.cell? ⟨R + 1, 3, none⟩ = some (.int .i64 0) := (blk_cell C4.out.cb 3).trans rfl
    have f3 := blk_frozen C4.out.cb 3
    have c4 : w2.cell? ⟨R + 1, 4, none⟩ = some (.int .i64 0) := (blk_cell C4.out.cb 4).trans rfl
    have f4 := blk_frozen C4.out.cb 4
    have c5 : w2.cell? ⟨R + 1, 5, none⟩ = some (.int .i64 0) := (blk_cell C4.out.cb 5).trans rfl
    have f5 := blk_frozen C4.out.cb 5
    have c6 : w2.cell? ⟨R + 1, 6, none⟩ = some (.string ⟨#[]⟩) := (blk_cell C4.out.cb 6).trans rfl
    have f6 := blk_frozen C4.out.cb 6
    have C5 := Aside0.mk (show CS w ((((((((w2).setCell ⟨R + 1, 0, none⟩ (.int .i64 4)).setCell ⟨R + 1, 1, none⟩ (.int .u64 (y0 : Int))).setCell ⟨R + 1, 2, none⟩ (.int .u64 0)).setCell ⟨R + 1, 3, none⟩ (.int .i64 0)).setCell ⟨R + 1, 4, none⟩ (.int .i64 0)).setCell ⟨R + 1, 5, none⟩ (.int .i64 0)).setCell ⟨R + 1, 6, none⟩ (.string ⟨#[]⟩)) B R (R + 1) ({ z7 with kind := 4, handle := y0 } : Call7) r2 e2 from C4.out.put ({ z7 with kind := 4, handle := y0 } : Call7))
    go_wp2_with fail
    clear c0 c1 c2 c3 c4 c5 c6 f0 f1 f2 f3 f4 f5 f6 C4
    generalize (((((((w2).setCell ⟨R + 1, 0, none⟩ (.int .i64 4)).setCell ⟨R + 1, 1, none⟩ (.int .u64 (y0 : Int))).setCell ⟨R + 1, 2, none⟩ (.int .u64 0)).setCell ⟨R + 1, 3, none⟩ (.int .i64 0)).setCell ⟨R + 1, 4, none⟩ (.int .i64 0)).setCell ⟨R + 1, 5, none⟩ (.int .i64 0)).setCell ⟨R + 1, 6, none⟩ (.string ⟨#[]⟩) = x0 at C5 ⊢
    have N1 := small_q B r2 e2 0 7 w0 _ C5.out.pat HS.out (HE.out.step C5.out.g) (by decide) (by decide)
    unfold PStep encI at N1
    cases q1 : numP 0 7 r2 e2 with
    | none =>
      rw [q1] at N1
      have HQ := Aside0.mk (show fin (k_join r1 e1) = none from by simp only [k_join, fin, Q0.out, q1, Option.bind_some, Option.bind_none])
      clear q1
      go_wp2_with fail
      refine N1.mono ?_
      rintro e w2 ⟨rfl, hg⟩
      refine ⟨rfl, ?_, C5.out.endg hg⟩
      rw [HQ.out]
    | some x =>
      obtain ⟨y1, r3, e3⟩ := x
      rw [q1] at N1
      have HS := Aside0.mk (Nat.le_trans (numP_len q1) HS.out)
      have Q1 := Aside0.mk q1
      clear q1
      go_wp2_with fail
      refine N1.mono ?_
      rintro e w3 ⟨⟨rfl, hb⟩, hg⟩
      have C6 := Aside0.mk (C5.out.step hg hb)
      clear hb hg C5 N1
      have c0 : w3.cell? ⟨R + 1, 0, none⟩ = some (.int .i64 4) := (blk_cell C6.out.cb 0).trans rfl
      have f0 := blk_frozen C6.out.cb 0
      have c1 : w3.cell? ⟨R + 1, 1, none⟩ = some (.int .u64 (y0 : Int)) := (blk_cell C6.out.cb 1).trans rfl
      have f1 := blk_frozen C6.out.cb 1
      have c2 : w3.cell? ⟨R + 1, 2, none⟩ = some (.int .u64 0) := (blk_cell C6.out.cb 2).trans rfl
      have f2 := blk_frozen C6.out.cb 2
      have c3 : w3.cell? ⟨R + 1, 3, none⟩ = some (.int .i64 0) := (blk_cell C6.out.cb 3).trans rfl
      have f3 := blk_frozen C6.out.cb 3
      have c4 : w3.cell? ⟨R + 1, 4, none⟩ = some (.int .i64 0) := (blk_cell C6.out.cb 4).trans rfl
      have f4 := blk_frozen C6.out.cb 4
      have c5 : w3.cell? ⟨R + 1, 5, none⟩ = some (.int .i64 0) := (blk_cell C6.out.cb 5).trans rfl
      have f5 := blk_frozen C6.out.cb 5
      have c6 : w3.cell? ⟨R + 1, 6, none⟩ = some (.string ⟨#[]⟩) := (blk_cell C6.out.cb 6).trans rfl
      have f6 := blk_frozen C6.out.cb 6
      have C7 := Aside0.mk (show CS w ((w3).setCell ⟨R + 1, 4, none⟩ (.int .i64 (y1 : Int))) B R (R + 1) ({ z7 with kind := 4, handle := y0, grp := y1 } : Call7) r3 e3 from C6.out.set 4 (.int .i64 (y1 : Int)) ({ z7 with kind := 4, handle := y0, grp := y1 } : Call7) rfl)
      have pe := C6.out.pat.c1
      have bn : ¬ R + 1 = B := C6.out.cB
      have bn2 : ¬ B = R + 1 := fun x => C6.out.cB x.symm
      go_wp2_with fail
      clear c0 c1 c2 c3 c4 c5 c6 f0 f1 f2 f3 f4 f5 f6 C6 pe bn bn2
      generalize (w3).setCell ⟨R + 1, 4, none⟩ (.int .i64 (y1 : Int)) = x1 at C7 ⊢
      have HQ := Aside0.mk (show fin (k_join r1 e1) = if e3 = true then some ({ z7 with kind := 4, handle := y0, grp := y1 } : Call7) else none from by simp only [k_join, fin, Q0.out, Q1.out, Option.bind_some])
      cases e3
      · refine (need_false _).mono ?_
        rintro e w9 ⟨rfl, rfl⟩
        refine ⟨rfl, ?_, C7.out.g⟩
        rw [HQ.out]
        rfl
      · refine (need_true _).mono ?_
        rintro e w9 ⟨rfl, rfl⟩
        have c0 : w9.cell? ⟨R + 1, 0, none⟩ = some (.int .i64 4) := (blk_cell C7.out.cb 0).trans rfl
        have f0 := blk_frozen C7.out.cb 0
        have c1 : w9.cell? ⟨R + 1, 1, none⟩ = some (.int .u64 (y0 : Int)) := (blk_cell C7.out.cb 1).trans rfl
        have f1 := blk_frozen C7.out.cb 1
        have c2 : w9.cell? ⟨R + 1, 2, none⟩ = some (.int .u64 0) := (blk_cell C7.out.cb 2).trans rfl
        have f2 := blk_frozen C7.out.cb 2
        have c3 : w9.cell? ⟨R + 1, 3, none⟩ = some (.int .i64 0) := (blk_cell C7.out.cb 3).trans rfl
        have f3 := blk_frozen C7.out.cb 3
        have c4 : w9.cell? ⟨R + 1, 4, none⟩ = some (.int .i64 (y1 : Int)) := (blk_cell C7.out.cb 4).trans rfl
        have f4 := blk_frozen C7.out.cb 4
        have c5 : w9.cell? ⟨R + 1, 5, none⟩ = some (.int .i64 0) := (blk_cell C7.out.cb 5).trans rfl
        have f5 := blk_frozen C7.out.cb 5
        have c6 : w9.cell? ⟨R + 1, 6, none⟩ = some (.string ⟨#[]⟩) := (blk_cell C7.out.cb 6).trans rfl
        have f6 := blk_frozen C7.out.cb 6
        have d0 : w9.cell? ⟨R, 0, none⟩ = some (.int .i64 0) := (blk_cell C7.out.rb 0).trans rfl
        have g0 := blk_frozen C7.out.rb 0
        have d1 : w9.cell? ⟨R, 1, none⟩ = some (.int .u64 0) := (blk_cell C7.out.rb 1).trans rfl
        have g1 := blk_frozen C7.out.rb 1
        have d2 : w9.cell? ⟨R, 2, none⟩ = some (.int .u64 0) := (blk_cell C7.out.rb 2).trans rfl
        have g2 := blk_frozen C7.out.rb 2
        have d3 : w9.cell? ⟨R, 3, none⟩ = some (.int .i64 0) := (blk_cell C7.out.rb 3).trans rfl
        have g3 := blk_frozen C7.out.rb 3
        have d4 : w9.cell? ⟨R, 4, none⟩ = some (.int .i64 0) := (blk_cell C7.out.rb 4).trans rfl
        have g4 := blk_frozen C7.out.rb 4
        have d5 : w9.cell? ⟨R, 5, none⟩ = some (.int .i64 0) := (blk_cell C7.out.rb 5).trans rfl
        have g5 := blk_frozen C7.out.rb 5
        have d6 : w9.cell? ⟨R, 6, none⟩ = some (.string ⟨#[]⟩) := (blk_cell C7.out.rb 6).trans rfl
        have g6 := blk_frozen C7.out.rb 6
        have rc : ¬ R = R + 1 := C7.out.rC
        have rc2 : ¬ R + 1 = R := fun x => C7.out.rC x.symm
        go_wp2
        clear c0 c1 c2 c3 c4 c5 c6 f0 f1 f2 f3 f4 f5 f6 d0 d1 d2 d3 d4 d5 d6 g0 g1 g2 g3 g4 g5 g6 rc rc2
        have hf : ((((((((w9).setCell ⟨R, 0, none⟩ (.int .i64 4)).setCell ⟨R, 1, none⟩ (.int .u64 (y0 : Int))).setCell ⟨R, 2, none⟩ (.int .u64 0)).setCell ⟨R, 3, none⟩ (.int .i64 0)).setCell ⟨R, 4, none⟩ (.int .i64 (y1 : Int))).setCell ⟨R, 5, none⟩ (.int .i64 0)).setCell ⟨R, 6, none⟩ (.string ⟨#[]⟩)).heap[R]? = some (.cells #[.int .i64 4, .int .u64 (y0 : Int), .int .u64 0, .int .i64 0, .int .i64 (y1 : Int), .int .i64 0, .string ⟨#[]⟩] 24 (0, 0)) ∧ w.grownBy ((((((((w9).setCell ⟨R, 0, none⟩ (.int .i64 4)).setCell ⟨R, 1, none⟩ (.int .u64 (y0 : Int))).setCell ⟨R, 2, none⟩ (.int .u64 0)).setCell ⟨R, 3, none⟩ (.int .i64 0)).setCell ⟨R, 4, none⟩ (.int .i64 (y1 : Int))).setCell ⟨R, 5, none⟩ (.int .i64 0)).setCell ⟨R, 6, none⟩ (.string ⟨#[]⟩)) (some B) := C7.out.fill ({ z7 with kind := 4, handle := y0, grp := y1 } : Call7)
        generalize (((((((w9).setCell ⟨R, 0, none⟩ (.int .i64 4)).setCell ⟨R, 1, none⟩ (.int .u64 (y0 : Int))).setCell ⟨R, 2, none⟩ (.int .u64 0)).setCell ⟨R, 3, none⟩ (.int .i64 0)).setCell ⟨R, 4, none⟩ (.int .i64 (y1 : Int))).setCell ⟨R, 5, none⟩ (.int .i64 0)).setCell ⟨R, 6, none⟩ (.string ⟨#[]⟩) = w10 at hf ⊢
        obtain ⟨hr, hg⟩ := hf
        have r0 : w10.cell? ⟨R, 0, none⟩ = some (.int .i64 4) := (blk_cell hr 0).trans rfl
        have r1 : w10.cell? ⟨R, 1, none⟩ = some (.int .u64 (y0 : Int)) := (blk_cell hr 1).trans rfl
        have r2 : w10.cell? ⟨R, 2, none⟩ = some (.int .u64 0) := (blk_cell hr 2).trans rfl
        have r3 : w10.cell? ⟨R, 3, none⟩ = some (.int .i64 0) := (blk_cell hr 3).trans rfl
        have r4 : w10.cell? ⟨R, 4, none⟩ = some (.int .i64 (y1 : Int)) := (blk_cell hr 4).trans rfl
        have r5 : w10.cell? ⟨R, 5, none⟩ = some (.int .i64 0) := (blk_cell hr 5).trans rfl
        have r6 : w10.cell? ⟨R, 6, none⟩ = some (.string ⟨#[]⟩) := (blk_cell hr 6).trans rfl
        refine bodyPost_ret (v := .agg #[.int .i64 4, .int .u64 (y0 : Int), .int .u64 0, .int .i64 0, .int .i64 (y1 : Int), .int .i64 0, .string ⟨#[]⟩]) (by simp [results, Tryd.results18, go_sem, r0, r1, r2, r3, r4, r5, r6]) rfl ⟨?_, hg⟩
        rw [HQ.out]
        rfl
set_option maxRecDepth 100000 in
set_option maxHeartbeats 4000000 in
theorem call_leave (B : Nat) (r r1 : List UInt8) (e1 : Bool) (w0 w : World) (h : PAt w B r false) (hs : r.length ≤ 281474976710656) (hE : PEnv w0 w B) (hw : wordP r false = some ([108, 101, 97, 118, 101], r1, e1)) :
    Calls Tryd.prog 18 #[.pointer (some ⟨B, 0, none⟩)] w fun e w' => CallEnd w B (fin (k_leave r1 e1)) e w' := by
  have HE := Aside0.mk hE
  have HS := Aside0.mk (show r1.length ≤ 281474976710656 from by have := (wordP_len hw).2; simp only at this; omega)
  have C2 := Aside0.mk (CS.start w B r h)
  have W1 := word_q B r false _ C2.out.pat (by omega)
  unfold PStep at W1
  rw [hw] at W1
  clear h hs hE hw
  go_enter Tryd.func18, Tryd.ntmps18
  go_wp2_with fail
  refine W1.mono ?_
  clear W1
  rintro e w1 ⟨⟨rfl, hb⟩, hg⟩
  have C3 := Aside0.mk (C2.out.step hg hb)
  clear hb hg C2
  generalize w.heap.size = R at *
  have N0 := handle_q B r1 e1 w0 _ C3.out.pat HS.out (HE.out.step C3.out.g)
  unfold PStep encU at N0
  cases q0 : handP r1 e1 with
  | none =>
    rw [q0] at N0
    have HQ := Aside0.mk (show fin (k_leave r1 e1) = none from by simp only [k_leave, fin, q0, Option.bind_some, Option.bind_none])
    clear q0
    go_wp2_with fail
    refine N0.mono ?_
    rintro e w2 ⟨rfl, hg⟩
    refine ⟨rfl, ?_, C3.out.endg hg⟩
    rw [HQ.out]
  | some x =>
    obtain ⟨y0, r2, e2⟩ := x
    rw [q0] at N0
    have HS := Aside0.mk (Nat.le_trans (handP_len q0) HS.out)
    have Q0 := Aside0.mk q0
    clear q0
    go_wp2_with fail
    refine N0.mono ?_
    rintro e w2 ⟨⟨rfl, hb⟩, hg⟩
    have C4 := Aside0.mk (C3.out.step hg hb)
    clear hb hg C3 N0
    have c0 : w2.cell? ⟨R + 1, 0, none⟩ = some (.int .i64 0) := (blk_cell C4.out.cb 0).trans rfl
    have f0 := blk_frozen C4.out.cb 0
    have c1 : w2.cell? ⟨R + 1, 1, none⟩ = some (.int .u64 0) := (blk_cell C4.out.cb 1).trans rfl
    have f1 := blk_frozen C4.out.cb 1
    have c2 : w2.cell? ⟨R + 1, 2, none⟩ = some (.int .u64 0) := (blk_cell C4.out.cb 2).trans rfl
    have f2 := blk_frozen C4.out.cb 2
    have c3 : w2.cell? ⟨R + 1, 3, none⟩ = some (.int .i64 0) := (blk_cell C4.out.cb 3).trans rfl
    have f3 := blk_frozen C4.out.cb 3
    have c4 : w2.cell? ⟨R + 1, 4, none⟩ = some (.int .i64 0) := (blk_cell C4.out.cb 4).trans rfl
    have f4 := blk_frozen C4.out.cb 4
    have c5 : w2.cell? ⟨R + 1, 5, none⟩ = some (.int .i64 0) := (blk_cell C4.out.cb 5).trans rfl
    have f5 := blk_frozen C4.out.cb 5
    have c6 : w2.cell? ⟨R + 1, 6, none⟩ = some (.string ⟨#[]⟩) := (blk_cell C4.out.cb 6).trans rfl
    have f6 := blk_frozen C4.out.cb 6
    have C5 := Aside0.mk (show CS w ((((((((w2).setCell ⟨R + 1, 0, none⟩ (.int .i64 5)).setCell ⟨R + 1, 1, none⟩ (.int .u64 (y0 : Int))).setCell ⟨R + 1, 2, none⟩ (.int .u64 0)).setCell ⟨R + 1, 3, none⟩ (.int .i64 0)).setCell ⟨R + 1, 4, none⟩ (.int .i64 0)).setCell ⟨R + 1, 5, none⟩ (.int .i64 0)).setCell ⟨R + 1, 6, none⟩ (.string ⟨#[]⟩)) B R (R + 1) ({ z7 with kind := 5, handle := y0 } : Call7) r2 e2 from C4.out.put ({ z7 with kind := 5, handle := y0 } : Call7))
    go_wp2_with fail
    clear c0 c1 c2 c3 c4 c5 c6 f0 f1 f2 f3 f4 f5 f6 C4
    generalize (((((((w2).setCell ⟨R + 1, 0, none⟩ (.int .i64 5)).setCell ⟨R + 1, 1, none⟩ (.int .u64 (y0 : Int))).setCell ⟨R + 1, 2, none⟩ (.int .u64 0)).setCell ⟨R + 1, 3, none⟩ (.int .i64 0)).setCell ⟨R + 1, 4, none⟩ (.int .i64 0)).setCell ⟨R + 1, 5, none⟩ (.int .i64 0)).setCell ⟨R + 1, 6, none⟩ (.string ⟨#[]⟩) = x0 at C5 ⊢
    have N1 := small_q B r2 e2 0 7 w0 _ C5.out.pat HS.out (HE.out.step C5.out.g) (by decide) (by decide)
    unfold PStep encI at N1
    cases q1 : numP 0 7 r2 e2 with
    | none =>
      rw [q1] at N1
      have HQ := Aside0.mk (show fin (k_leave r1 e1) = none from by simp only [k_leave, fin, Q0.out, q1, Option.bind_some, Option.bind_none])
      clear q1
      go_wp2_with fail
      refine N1.mono ?_
      rintro e w2 ⟨rfl, hg⟩
      refine ⟨rfl, ?_, C5.out.endg hg⟩
      rw [HQ.out]
    | some x =>
      obtain ⟨y1, r3, e3⟩ := x
      rw [q1] at N1
      have HS := Aside0.mk (Nat.le_trans (numP_len q1) HS.out)
      have Q1 := Aside0.mk q1
      clear q1
      go_wp2_with fail
      refine N1.mono ?_
      rintro e w3 ⟨⟨rfl, hb⟩, hg⟩
      have C6 := Aside0.mk (C5.out.step hg hb)
      clear hb hg C5 N1
      have c0 : w3.cell? ⟨R + 1, 0, none⟩ = some (.int .i64 5) := (blk_cell C6.out.cb 0).trans rfl
      have f0 := blk_frozen C6.out.cb 0
      have c1 : w3.cell? ⟨R + 1, 1, none⟩ = some (.int .u64 (y0 : Int)) := (blk_cell C6.out.cb 1).trans rfl
      have f1 := blk_frozen C6.out.cb 1
      have c2 : w3.cell? ⟨R + 1, 2, none⟩ = some (.int .u64 0) := (blk_cell C6.out.cb 2).trans rfl
      have f2 := blk_frozen C6.out.cb 2
      have c3 : w3.cell? ⟨R + 1, 3, none⟩ = some (.int .i64 0) := (blk_cell C6.out.cb 3).trans rfl
      have f3 := blk_frozen C6.out.cb 3
      have c4 : w3.cell? ⟨R + 1, 4, none⟩ = some (.int .i64 0) := (blk_cell C6.out.cb 4).trans rfl
      have f4 := blk_frozen C6.out.cb 4
      have c5 : w3.cell? ⟨R + 1, 5, none⟩ = some (.int .i64 0) := (blk_cell C6.out.cb 5).trans rfl
      have f5 := blk_frozen C6.out.cb 5
      have c6 : w3.cell? ⟨R + 1, 6, none⟩ = some (.string ⟨#[]⟩) := (blk_cell C6.out.cb 6).trans rfl
      have f6 := blk_frozen C6.out.cb 6
      have C7 := Aside0.mk (show CS w ((w3).setCell ⟨R + 1, 4, none⟩ (.int .i64 (y1 : Int))) B R (R + 1) ({ z7 with kind := 5, handle := y0, grp := y1 } : Call7) r3 e3 from C6.out.set 4 (.int .i64 (y1 : Int)) ({ z7 with kind := 5, handle := y0, grp := y1 } : Call7) rfl)
      have pe := C6.out.pat.c1
      have bn : ¬ R + 1 = B := C6.out.cB
      have bn2 : ¬ B = R + 1 := fun x => C6.out.cB x.symm
      go_wp2_with fail
      clear c0 c1 c2 c3 c4 c5 c6 f0 f1 f2 f3 f4 f5 f6 C6 pe bn bn2
      generalize (w3).setCell ⟨R + 1, 4, none⟩ (.int .i64 (y1 : Int)) = x1 at C7 ⊢
      have HQ := Aside0.mk (show fin (k_leave r1 e1) = if e3 = true then some ({ z7 with kind := 5, handle := y0, grp := y1 } : Call7) else none from by simp only [k_leave, fin, Q0.out, Q1.out, Option.bind_some])
      cases e3
      · refine (need_false _).mono ?_
        rintro e w9 ⟨rfl, rfl⟩
        refine ⟨rfl, ?_, C7.out.g⟩
        rw [HQ.out]
        rfl
      · refine (need_true _).mono ?_
        rintro e w9 ⟨rfl, rfl⟩
        have c0 : w9.cell? ⟨R + 1, 0, none⟩ = some (.int .i64 5) := (blk_cell C7.out.cb 0).trans rfl
        have f0 := blk_frozen C7.out.cb 0
        have c1 : w9.cell? ⟨R + 1, 1, none⟩ = some (.int .u64 (y0 : Int)) := (blk_cell C7.out.cb 1).trans rfl
        have f1 := blk_frozen C7.out.cb 1
        have c2 : w9.cell? ⟨R + 1, 2, none⟩ = some (.int .u64 0) := (blk_cell C7.out.cb 2).trans rfl
        have f2 := blk_frozen C7.out.cb 2
        have c3 : w9.cell? ⟨R + 1, 3, none⟩ = some (.int .i64 0) := (blk_cell C7.out.cb 3).trans rfl
        have f3 := blk_frozen C7.out.cb 3
        have c4 : w9.cell? ⟨R + 1, 4, none⟩ = some (.int .i64 (y1 : Int)) := (blk_cell C7.out.cb 4).trans rfl
        have f4 := blk_frozen C7.out.cb 4
        have c5 : w9.cell? ⟨R + 1, 5, none⟩ = some (.int .i64 0) := (blk_cell C7.out.cb 5).trans rfl
        have f5 := blk_frozen C7.out.cb 5
        have c6 : w9.cell? ⟨R + 1, 6, none⟩ = some (.string ⟨#[]⟩) := (blk_cell C7.out.cb 6).trans rfl
        have f6 := blk_frozen C7.out.cb 6
        have d0 : w9.cell? ⟨R, 0, none⟩ = some (.int .i64 0) := (blk_cell C7.out.rb 0).trans rfl
        have g0 := blk_frozen C7.out.rb 0
        have d1 : w9.cell? ⟨R, 1, none⟩ = some (.int .u64 0) := (blk_cell C7.out.rb 1).trans rfl
        have g1 := blk_frozen C7.out.rb 1
        have d2 : w9.cell? ⟨R, 2, none⟩ = some (.int .u64 0) := (blk_cell C7.out.rb 2).trans rfl
        have g2 := blk_frozen C7.out.rb 2
        have d3 : w9.cell? ⟨R, 3, none⟩ = some (.int .i64 0) := (blk_cell C7.out.rb 3).trans rfl
        have g3 := blk_frozen C7.out.rb 3
        have d4 : w9.cell? ⟨R, 4, none⟩ = some (.int .i64 0) := (blk_cell C7.out.rb 4).trans rfl
        have g4 := blk_frozen C7.out.rb 4
        have d5 : w9.cell? ⟨R, 5, none⟩ = some (.int .i64 0) := (blk_cell C7.out.rb 5).trans rfl
        have g5 := blk_frozen C7.out.rb 5
        have d6 : w9.cell? ⟨R, 6, none⟩ = some (.string ⟨#[]⟩) := (blk_cell C7.out.rb 6).trans rfl
        have g6 := blk_frozen C7.out.rb 6
        have rc : ¬ R = R + 1 := C7.out.rC
        have rc2 : ¬ R + 1 = R := fun x => C7.out.rC x.symm
        go_wp2
        clear c0 c1 c2 c3 c4 c5 c6 f0 f1 f2 f3 f4 f5 f6 d0 d1 d2 d3 d4 d5 d6 g0 g1 g2 g3 g4 g5 g6 rc rc2
        have hf : ((((((((w9).setCell ⟨R, 0, none⟩ (.int .i64 5)).setCell ⟨R, 1, none⟩ (.int .u64 (y0 : Int))).setCell ⟨R, 2, none⟩ (.int .u64 0)).setCell ⟨R, 3, none⟩ (.int .i64 0)).setCell ⟨R, 4, none⟩ (.int .i64 (y1 : Int))).setCell ⟨R, 5, none⟩ (.int .i64 0)).setCell ⟨R, 6, none⟩ (.string ⟨#[]⟩)).heap[R]? = some (.cells #[.int .i64 5, .int .u64 (y0 : Int), .int .u64 0, .int .i64 0, .int .i64 (y1 : Int), .int .i64 0, .string ⟨#[]⟩] 24 (0, 0)) ∧ w.grownBy ((((((((w9).setCell ⟨R, 0, none⟩ (.int .i64 5)).setCell ⟨R, 1, none⟩ (.int .u64 (y0 : Int))).setCell ⟨R, 2, none⟩ (.int .u64 0)).setCell ⟨R, 3, none⟩ (.int .i64 0)).setCell ⟨R, 4, none⟩ (.int .i64 (y1 : Int))).setCell ⟨R, 5, none⟩ (.int .i64 0)).setCell ⟨R, 6, none⟩ (.string ⟨#[]⟩)) (some B) := C7.out.fill ({ z7 with kind := 5, handle := y0, grp := y1 } : Call7)
        generalize (((((((w9).setCell ⟨R, 0, none⟩ (.int .i64 5)).setCell ⟨R, 1, none⟩ (.int .u64 (y0 : Int))).setCell ⟨R, 2, none⟩ (.int .u64 0)).setCell ⟨R, 3, none⟩ (.int .i64 0)).setCell ⟨R, 4, none⟩ (.int .i64 (y1 : Int))).setCell ⟨R, 5, none⟩ (.int .i64 0)).setCell ⟨R, 6, none⟩ (.string ⟨#[]⟩) = w10 at hf ⊢
        obtain ⟨hr, hg⟩ := hf
        have r0 : w10.cell? ⟨R, 0, none⟩ = some (.int .i64 5) := (blk_cell hr 0).trans rfl
        have r1 : w10.cell? ⟨R, 1, none⟩ = some (.int .u64 (y0 : Int)) := (blk_cell hr 1).trans rfl
        have r2 : w10.cell? ⟨R, 2, none⟩ = some (.int .u64 0) := (blk_cell hr 2).trans rfl
        have r3 : w10.cell? ⟨R, 3, none⟩ = some (.int .i64 0) := (blk_cell hr 3).trans rfl
        have r4 : w10.cell? ⟨R, 4, none⟩ = some (.int .i64 (y1 : Int)) := (blk_cell hr 4).trans rfl
        have r5 : w10.cell? ⟨R, 5, none⟩ = some (.int .i64 0) := (blk_cell hr 5).trans rfl
        have r6 : w10.cell? ⟨R, 6, none⟩ = some (.string ⟨#[]⟩) := (blk_cell hr 6).trans rfl
        refine bodyPost_ret (v := .agg #[.int .i64 5, .int .u64 (y0 : Int), .int .u64 0, .int .i64 0, .int .i64 (y1 : Int), .int .i64 0, .string ⟨#[]⟩]) (by simp [results, Tryd.results18, go_sem, r0, r1, r2, r3, r4, r5, r6]) rfl ⟨?_, hg⟩
        rw [HQ.out]
        rfl
set_option maxRecDepth 100000 in
set_option maxHeartbeats 4000000 in
theorem call_send (B : Nat) (r r1 : List UInt8) (e1 : Bool) (w0 w : World) (h : PAt w B r false) (hs : r.length ≤ 281474976710656) (hE : PEnv w0 w B) (hw : wordP r false = some ([115, 101, 110, 100], r1, e1)) :
    Calls Tryd.prog 18 #[.pointer (some ⟨B, 0, none⟩)] w fun e w' => CallEnd w B (fin (k_send r1 e1)) e w' := by
  have HE := Aside0.mk hE
  have HS := Aside0.mk (show r1.length ≤ 281474976710656 from by have := (wordP_len hw).2; simp only at this; omega)
  have C2 := Aside0.mk (CS.start w B r h)
  have W1 := word_q B r false _ C2.out.pat (by omega)
  unfold PStep at W1
  rw [hw] at W1
  clear h hs hE hw
  go_enter Tryd.func18, Tryd.ntmps18
  go_wp2_with fail
  refine W1.mono ?_
  clear W1
  rintro e w1 ⟨⟨rfl, hb⟩, hg⟩
  have C3 := Aside0.mk (C2.out.step hg hb)
  clear hb hg C2
  generalize w.heap.size = R at *
  have N0 := handle_q B r1 e1 w0 _ C3.out.pat HS.out (HE.out.step C3.out.g)
  unfold PStep encU at N0
  cases q0 : handP r1 e1 with
  | none =>
    rw [q0] at N0
    have HQ := Aside0.mk (show fin (k_send r1 e1) = none from by simp only [k_send, fin, q0, Option.bind_some, Option.bind_none])
    clear q0
    go_wp2_with fail
    refine N0.mono ?_
    rintro e w2 ⟨rfl, hg⟩
    refine ⟨rfl, ?_, C3.out.endg hg⟩
    rw [HQ.out]
  | some x =>
    obtain ⟨y0, r2, e2⟩ := x
    rw [q0] at N0
    have HS := Aside0.mk (Nat.le_trans (handP_len q0) HS.out)
    have Q0 := Aside0.mk q0
    clear q0
    go_wp2_with fail
    refine N0.mono ?_
    rintro e w2 ⟨⟨rfl, hb⟩, hg⟩
    have C4 := Aside0.mk (C3.out.step hg hb)
    clear hb hg C3 N0
    have c0 : w2.cell? ⟨R + 1, 0, none⟩ = some (.int .i64 0) := (blk_cell C4.out.cb 0).trans rfl
    have f0 := blk_frozen C4.out.cb 0
    have c1 : w2.cell? ⟨R + 1, 1, none⟩ = some (.int .u64 0) := (blk_cell C4.out.cb 1).trans rfl
    have f1 := blk_frozen C4.out.cb 1
    have c2 : w2.cell? ⟨R + 1, 2, none⟩ = some (.int .u64 0) := (blk_cell C4.out.cb 2).trans rfl
    have f2 := blk_frozen C4.out.cb 2
    have c3 : w2.cell? ⟨R + 1, 3, none⟩ = some (.int .i64 0) := (blk_cell C4.out.cb 3).trans rfl
    have f3 := blk_frozen C4.out.cb 3
    have c4 : w2.cell? ⟨R + 1, 4, none⟩ = some (.int .i64 0) := (blk_cell C4.out.cb 4).trans rfl
    have f4 := blk_frozen C4.out.cb 4
    have c5 : w2.cell? ⟨R + 1, 5, none⟩ = some (.int .i64 0) := (blk_cell C4.out.cb 5).trans rfl
    have f5 := blk_frozen C4.out.cb 5
    have c6 : w2.cell? ⟨R + 1, 6, none⟩ = some (.string ⟨#[]⟩) := (blk_cell C4.out.cb 6).trans rfl
    have f6 := blk_frozen C4.out.cb 6
    have C5 := Aside0.mk (show CS w ((((((((w2).setCell ⟨R + 1, 0, none⟩ (.int .i64 6)).setCell ⟨R + 1, 1, none⟩ (.int .u64 (y0 : Int))).setCell ⟨R + 1, 2, none⟩ (.int .u64 0)).setCell ⟨R + 1, 3, none⟩ (.int .i64 0)).setCell ⟨R + 1, 4, none⟩ (.int .i64 0)).setCell ⟨R + 1, 5, none⟩ (.int .i64 0)).setCell ⟨R + 1, 6, none⟩ (.string ⟨#[]⟩)) B R (R + 1) ({ z7 with kind := 6, handle := y0 } : Call7) r2 e2 from C4.out.put ({ z7 with kind := 6, handle := y0 } : Call7))
    go_wp2_with fail
    clear c0 c1 c2 c3 c4 c5 c6 f0 f1 f2 f3 f4 f5 f6 C4
    generalize (((((((w2).setCell ⟨R + 1, 0, none⟩ (.int .i64 6)).setCell ⟨R + 1, 1, none⟩ (.int .u64 (y0 : Int))).setCell ⟨R + 1, 2, none⟩ (.int .u64 0)).setCell ⟨R + 1, 3, none⟩ (.int .i64 0)).setCell ⟨R + 1, 4, none⟩ (.int .i64 0)).setCell ⟨R + 1, 5, none⟩ (.int .i64 0)).setCell ⟨R + 1, 6, none⟩ (.string ⟨#[]⟩) = x0 at C5 ⊢
    have N1 := small_q B r2 e2 0 7 w0 _ C5.out.pat HS.out (HE.out.step C5.out.g) (by decide) (by decide)
    unfold PStep encI at N1
    cases q1 : numP 0 7 r2 e2 with
    | none =>
      rw [q1] at N1
      have HQ := Aside0.mk (show fin (k_send r1 e1) = none from by simp only [k_send, fin, Q0.out, q1, Option.bind_some, Option.bind_none])
      clear q1
      go_wp2_with fail
      refine N1.mono ?_
      rintro e w2 ⟨rfl, hg⟩
      refine ⟨rfl, ?_, C5.out.endg hg⟩
      rw [HQ.out]
    | some x =>
      obtain ⟨y1, r3, e3⟩ := x
      rw [q1] at N1
      have HS := Aside0.mk (Nat.le_trans (numP_len q1) HS.out)
      have Q1 := Aside0.mk q1
      clear q1
      go_wp2_with fail
      refine N1.mono ?_
      rintro e w3 ⟨⟨rfl, hb⟩, hg⟩
      have C6 := Aside0.mk (C5.out.step hg hb)
      clear hb hg C5 N1
      have c0 : w3.cell? ⟨R + 1, 0, none⟩ = some (.int .i64 6) := (blk_cell C6.out.cb 0).trans rfl
      have f0 := blk_frozen C6.out.cb 0
      have c1 : w3.cell? ⟨R + 1, 1, none⟩ = some (.int .u64 (y0 : Int)) := (blk_cell C6.out.cb 1).trans rfl
      have f1 := blk_frozen C6.out.cb 1
      have c2 : w3.cell? ⟨R + 1, 2, none⟩ = some (.int .u64 0) := (blk_cell C6.out.cb 2).trans rfl
      have f2 := blk_frozen C6.out.cb 2
      have c3 : w3.cell? ⟨R + 1, 3, none⟩ = some (.int .i64 0) := (blk_cell C6.out.cb 3).trans rfl
      have f3 := blk_frozen C6.out.cb 3
      have c4 : w3.cell? ⟨R + 1, 4, none⟩ = some (.int .i64 0) := (blk_cell C6.out.cb 4).trans rfl
      have f4 := blk_frozen C6.out.cb 4
      have c5 : w3.cell? ⟨R + 1, 5, none⟩ = some (.int .i64 0) := (blk_cell C6.out.cb 5).trans rfl
      have f5 := blk_frozen C6.out.cb 5
      have c6 : w3.cell? ⟨R + 1, 6, none⟩ = some (.string ⟨#[]⟩) := (blk_cell C6.out.cb 6).trans rfl
      have f6 := blk_frozen C6.out.cb 6
      have C7 := Aside0.mk (show CS w ((w3).setCell ⟨R + 1, 4, none⟩ (.int .i64 (y1 : Int))) B R (R + 1) ({ z7 with kind := 6, handle := y0, grp := y1 } : Call7) r3 e3 from C6.out.set 4 (.int .i64 (y1 : Int)) ({ z7 with kind := 6, handle := y0, grp := y1 } : Call7) rfl)
      go_wp2_with fail
      clear c0 c1 c2 c3 c4 c5 c6 f0 f1 f2 f3 f4 f5 f6 C6
      generalize (w3).setCell ⟨R + 1, 4, none⟩ (.int .i64 (y1 : Int)) = x1 at C7 ⊢
      have N2 := service_q B r3 e3 w0 _ C7.out.pat HS.out (HE.out.step C7.out.g)
      unfold PStep encI at N2
      cases q2 : svcP r3 e3 with
      | none =>
        rw [q2] at N2
        have HQ := Aside0.mk (show fin (k_send r1 e1) = none from by simp only [k_send, fin, Q0.out, Q1.out, q2, Option.bind_some, Option.bind_none])
        clear q2
        go_wp2_with fail
        refine N2.mono ?_
        rintro e w2 ⟨rfl, hg⟩
        refine ⟨rfl, ?_, C7.out.endg hg⟩
        rw [HQ.out]
      | some x =>
        obtain ⟨y2, r4, e4⟩ := x
        rw [q2] at N2
        have HS := Aside0.mk (Nat.le_trans (svcP_len q2) HS.out)
        have Q2 := Aside0.mk q2
        clear q2
        go_wp2_with fail
        refine N2.mono ?_
        rintro e w4 ⟨⟨rfl, hb⟩, hg⟩
        have C8 := Aside0.mk (C7.out.step hg hb)
        clear hb hg C7 N2
        have c0 : w4.cell? ⟨R + 1, 0, none⟩ = some (.int .i64 6) := (blk_cell C8.out.cb 0).trans rfl
        have f0 := blk_frozen C8.out.cb 0
        have c1 : w4.cell? ⟨R + 1, 1, none⟩ = some (.int .u64 (y0 : Int)) := (blk_cell C8.out.cb 1).trans rfl
        have f1 := blk_frozen C8.out.cb 1
        have c2 : w4.cell? ⟨R + 1, 2, none⟩ = some (.int .u64 0) := (blk_cell C8.out.cb 2).trans rfl
        have f2 := blk_frozen C8.out.cb 2
        have c3 : w4.cell? ⟨R + 1, 3, none⟩ = some (.int .i64 0) := (blk_cell C8.out.cb 3).trans rfl
        have f3 := blk_frozen C8.out.cb 3
        have c4 : w4.cell? ⟨R + 1, 4, none⟩ = some (.int .i64 (y1 : Int)) := (blk_cell C8.out.cb 4).trans rfl
        have f4 := blk_frozen C8.out.cb 4
        have c5 : w4.cell? ⟨R + 1, 5, none⟩ = some (.int .i64 0) := (blk_cell C8.out.cb 5).trans rfl
        have f5 := blk_frozen C8.out.cb 5
        have c6 : w4.cell? ⟨R + 1, 6, none⟩ = some (.string ⟨#[]⟩) := (blk_cell C8.out.cb 6).trans rfl
        have f6 := blk_frozen C8.out.cb 6
        have C9 := Aside0.mk (show CS w ((w4).setCell ⟨R + 1, 5, none⟩ (.int .i64 (y2 : Int))) B R (R + 1) ({ z7 with kind := 6, handle := y0, grp := y1, svc := y2 } : Call7) r4 e4 from C8.out.set 5 (.int .i64 (y2 : Int)) ({ z7 with kind := 6, handle := y0, grp := y1, svc := y2 } : Call7) rfl)
        go_wp2_with fail
        clear c0 c1 c2 c3 c4 c5 c6 f0 f1 f2 f3 f4 f5 f6 C8
        generalize (w4).setCell ⟨R + 1, 5, none⟩ (.int .i64 (y2 : Int)) = x2 at C9 ⊢
        have N3 := text_q B r4 e4 _ C9.out.pat HS.out
        unfold PStep encS at N3
        cases q3 : textP r4 e4 with
        | none =>
          rw [q3] at N3
          have HQ := Aside0.mk (show fin (k_send r1 e1) = none from by simp only [k_send, fin, Q0.out, Q1.out, Q2.out, q3, Option.bind_some, Option.bind_none])
          clear q3
          go_wp2_with fail
          refine N3.mono ?_
          rintro e w2 ⟨rfl, hg⟩
          refine ⟨rfl, ?_, C9.out.endg hg⟩
          rw [HQ.out]
        | some x =>
          obtain ⟨y3, r5, e5⟩ := x
          rw [q3] at N3
          have HS := Aside0.mk (Nat.le_trans (textP_len q3) HS.out)
          have Q3 := Aside0.mk q3
          clear q3
          go_wp2_with fail
          refine N3.mono ?_
          rintro e w5 ⟨⟨rfl, hb⟩, hg⟩
          have C10 := Aside0.mk (C9.out.step hg hb)
          clear hb hg C9 N3
          have c0 : w5.cell? ⟨R + 1, 0, none⟩ = some (.int .i64 6) := (blk_cell C10.out.cb 0).trans rfl
          have f0 := blk_frozen C10.out.cb 0
          have c1 : w5.cell? ⟨R + 1, 1, none⟩ = some (.int .u64 (y0 : Int)) := (blk_cell C10.out.cb 1).trans rfl
          have f1 := blk_frozen C10.out.cb 1
          have c2 : w5.cell? ⟨R + 1, 2, none⟩ = some (.int .u64 0) := (blk_cell C10.out.cb 2).trans rfl
          have f2 := blk_frozen C10.out.cb 2
          have c3 : w5.cell? ⟨R + 1, 3, none⟩ = some (.int .i64 0) := (blk_cell C10.out.cb 3).trans rfl
          have f3 := blk_frozen C10.out.cb 3
          have c4 : w5.cell? ⟨R + 1, 4, none⟩ = some (.int .i64 (y1 : Int)) := (blk_cell C10.out.cb 4).trans rfl
          have f4 := blk_frozen C10.out.cb 4
          have c5 : w5.cell? ⟨R + 1, 5, none⟩ = some (.int .i64 (y2 : Int)) := (blk_cell C10.out.cb 5).trans rfl
          have f5 := blk_frozen C10.out.cb 5
          have c6 : w5.cell? ⟨R + 1, 6, none⟩ = some (.string ⟨#[]⟩) := (blk_cell C10.out.cb 6).trans rfl
          have f6 := blk_frozen C10.out.cb 6
          have C11 := Aside0.mk (show CS w ((w5).setCell ⟨R + 1, 6, none⟩ (.string ⟨y3.toArray⟩)) B R (R + 1) ({ z7 with kind := 6, handle := y0, grp := y1, svc := y2, txt := y3 } : Call7) r5 e5 from C10.out.set 6 (.string ⟨y3.toArray⟩) ({ z7 with kind := 6, handle := y0, grp := y1, svc := y2, txt := y3 } : Call7) rfl)
          have pe := C10.out.pat.c1
          have bn : ¬ R + 1 = B := C10.out.cB
          have bn2 : ¬ B = R + 1 := fun x => C10.out.cB x.symm
          go_wp2_with fail
          clear c0 c1 c2 c3 c4 c5 c6 f0 f1 f2 f3 f4 f5 f6 C10 pe bn bn2
          generalize (w5).setCell ⟨R + 1, 6, none⟩ (.string ⟨y3.toArray⟩) = x3 at C11 ⊢
          have HQ := Aside0.mk (show fin (k_send r1 e1) = if e5 = true then some ({ z7 with kind := 6, handle := y0, grp := y1, svc := y2, txt := y3 } : Call7) else none from by simp only [k_send, fin, Q0.out, Q1.out, Q2.out, Q3.out, Option.bind_some])
          cases e5
          · refine (need_false _).mono ?_
            rintro e w9 ⟨rfl, rfl⟩
            refine ⟨rfl, ?_, C11.out.g⟩
            rw [HQ.out]
            rfl
          · refine (need_true _).mono ?_
            rintro e w9 ⟨rfl, rfl⟩
            have c0 : w9.cell? ⟨R + 1, 0, none⟩ = some (.int .i64 6) := (blk_cell C11.out.cb 0).trans rfl
            have f0 := blk_frozen C11.out.cb 0
            have c1 : w9.cell? ⟨R + 1, 1, none⟩ = some (.int .u64 (y0 : Int)) := (blk_cell C11.out.cb 1).trans rfl
            have f1 := blk_frozen C11.out.cb 1
            have c2 : w9.cell? ⟨R + 1, 2, none⟩ = some (.int .u64 0) := (blk_cell C11.out.cb 2).trans rfl
            have f2 := blk_frozen C11.out.cb 2
            have c3 : w9.cell? ⟨R + 1, 3, none⟩ = some (.int .i64 0) := (blk_cell C11.out.cb 3).trans rfl
            have f3 := blk_frozen C11.out.cb 3
            have c4 : w9.cell? ⟨R + 1, 4, none⟩ = some (.int .i64 (y1 : Int)) := (blk_cell C11.out.cb 4).trans rfl
            have f4 := blk_frozen C11.out.cb 4
            have c5 : w9.cell? ⟨R + 1, 5, none⟩ = some (.int .i64 (y2 : Int)) := (blk_cell C11.out.cb 5).trans rfl
            have f5 := blk_frozen C11.out.cb 5
            have c6 : w9.cell? ⟨R + 1, 6, none⟩ = some (.string ⟨y3.toArray⟩) := (blk_cell C11.out.cb 6).trans rfl
            have f6 := blk_frozen C11.out.cb 6
            have d0 : w9.cell? ⟨R, 0, none⟩ = some (.int .i64 0) := (blk_cell C11.out.rb 0).trans rfl
            have g0 := blk_frozen C11.out.rb 0
            have d1 : w9.cell? ⟨R, 1, none⟩ = some (.int .u64 0) := (blk_cell C11.out.rb 1).trans rfl
            have g1 := blk_frozen C11.out.rb 1
            have d2 : w9.cell? ⟨R, 2, none⟩ = some (.int .u64 0) := (blk_cell C11.out.rb 2).trans rfl
            have g2 := blk_frozen C11.out.rb 2
            have d3 : w9.cell? ⟨R, 3, none⟩ = some (.int .i64 0) := (blk_cell C11.out.rb 3).trans rfl
            have g3 := blk_frozen C11.out.rb 3
            have d4 : w9.cell? ⟨R, 4, none⟩ = some (.int .i64 0) := (blk_cell C11.out.rb 4).trans rfl
            have g4 := blk_frozen C11.out.rb 4
            have d5 : w9.cell? ⟨R, 5, none⟩ = some (.int .i64 0) := (blk_cell C11.out.rb 5).trans rfl
            have g5 := blk_frozen C11.out.rb 5
            have d6 : w9.cell? ⟨R, 6, none⟩ = some (.string ⟨#[]⟩) := (blk_cell C11.out.rb 6).trans rfl
            have g6 := blk_frozen C11.out.rb 6
            have rc : ¬ R = R + 1 := C11.out.rC
            have rc2 : ¬ R + 1 = R := fun x => C11.out.rC x.symm
            go_wp2
            clear c0 c1 c2 c3 c4 c5 c6 f0 f1 f2 f3 f4 f5 f6 d0 d1 d2 d3 d4 d5 d6 g0 g1 g2 g3 g4 g5 g6 rc rc2
            have hf : ((((((((w9).setCell ⟨R, 0, none⟩ (.int .i64 6)).setCell ⟨R, 1, none⟩ (.int .u64 (y0 : Int))).setCell ⟨R, 2, none⟩ (.int .u64 0)).setCell ⟨R, 3, none⟩ (.int .i64 0)).setCell ⟨R, 4, none⟩ (.int .i64 (y1 : Int))).setCell ⟨R, 5, none⟩ (.int .i64 (y2 : Int))).setCell ⟨R, 6, none⟩ (.string ⟨y3.toArray⟩)).heap[R]? = some (.cells #[.int .i64 6, .int .u64 (y0 : Int), .int .u64 0, .int .i64 0, .int .i64 (y1 : Int), .int .i64 (y2 : Int), .string ⟨y3.toArray⟩] 24 (0, 0)) ∧ w.grownBy ((((((((w9).setCell ⟨R, 0, none⟩ (.int .i64 6)).setCell ⟨R, 1, none⟩ (.int .u64 (y0 : Int))).setCell ⟨R, 2, none⟩ (.int .u64 0)).setCell ⟨R, 3, none⟩ (.int .i64 0)).setCell ⟨R, 4, none⟩ (.int .i64 (y1 : Int))).setCell ⟨R, 5, none⟩ (.int .i64 (y2 : Int))).setCell ⟨R, 6, none⟩ (.string ⟨y3.toArray⟩)) (some B) := C11.out.fill ({ z7 with kind := 6, handle := y0, grp := y1, svc := y2, txt := y3 } : Call7)
            generalize (((((((w9).setCell ⟨R, 0, none⟩ (.int .i64 6)).setCell ⟨R, 1, none⟩ (.int .u64 (y0 : Int))).setCell ⟨R, 2, none⟩ (.int .u64 0)).setCell ⟨R, 3, none⟩ (.int .i64 0)).setCell ⟨R, 4, none⟩ (.int .i64 (y1 : Int))).setCell ⟨R, 5, none⟩ (.int .i64 (y2 : Int))).setCell ⟨R, 6, none⟩ (.string ⟨y3.toArray⟩) = w10 at hf ⊢
            obtain ⟨hr, hg⟩ := hf
            have r0 : w10.cell? ⟨R, 0, none⟩ = some (.int .i64 6) := (blk_cell hr 0).trans rfl
            have r1 : w10.cell? ⟨R, 1, none⟩ = some (.int .u64 (y0 : Int)) := (blk_cell hr 1).trans rfl
            have r2 : w10.cell? ⟨R, 2, none⟩ = some (.int .u64 0) := (blk_cell hr 2).trans rfl
            have r3 : w10.cell? ⟨R, 3, none⟩ = some (.int .i64 0) := (blk_cell hr 3).trans rfl
            have r4 : w10.cell? ⟨R, 4, none⟩ = some (.int .i64 (y1 : Int)) := (blk_cell hr 4).trans rfl
            have r5 : w10.cell? ⟨R, 5, none⟩ = some (.int .i64 (y2 : Int)) := (blk_cell hr 5).trans rfl
            have r6 : w10.cell? ⟨R, 6, none⟩ = some (.string ⟨y3.toArray⟩) := (blk_cell hr 6).trans rfl
            refine bodyPost_ret (v := .agg #[.int .i64 6, .int .u64 (y0 : Int), .int .u64 0, .int .i64 0, .int .i64 (y1 : Int), .int .i64 (y2 : Int), .string ⟨y3.toArray⟩]) (by simp [results, Tryd.results18, go_sem, r0, r1, r2, r3, r4, r5, r6]) rfl ⟨?_, hg⟩
            rw [HQ.out]
            rfl
def restP (x r : List UInt8) (e : Bool) : Option (Call7 × List UInt8 × Bool) :=
  if x = [111, 112, 101, 110] then k_open r e else if x = [99, 108, 111, 115, 101] then k_close r e else if x = [109, 105, 110, 116] then k_mint r e else if x = [114, 101, 118, 111, 107, 101] then k_revoke r e else if x = [106, 111, 105, 110] then k_join r e else if x = [108, 101, 97, 118, 101] then k_leave r e else if x = [115, 101, 110, 100] then k_send r e else none
/-- What request a text says. -/
def callP (r : List UInt8) : Option Call7 := fin ((wordP r false).bind fun x => restP x.1 x.2.1 x.2.2)
set_option maxRecDepth 100000 in
set_option maxHeartbeats 4000000 in
theorem call_other (B : Nat) (r x r1 : List UInt8) (e1 : Bool) (w : World) (h : PAt w B r false) (hs : r.length ≤ 281474976710656) (hw : wordP r false = some (x, r1, e1))
    (h0 : (x == [111, 112, 101, 110]) = false) (h1 : (x == [99, 108, 111, 115, 101]) = false) (h2 : (x == [109, 105, 110, 116]) = false) (h3 : (x == [114, 101, 118, 111, 107, 101]) = false) (h4 : (x == [106, 111, 105, 110]) = false) (h5 : (x == [108, 101, 97, 118, 101]) = false) (h6 : (x == [115, 101, 110, 100]) = false) :
    Calls Tryd.prog 18 #[.pointer (some ⟨B, 0, none⟩)] w fun e w' => CallEnd w B none e w' := by
  have C2 := Aside0.mk (CS.start w B r h)
  have W1 := word_q B r false _ C2.out.pat (by omega)
  unfold PStep at W1
  rw [hw] at W1
  clear h hs hw
  go_enter Tryd.func18, Tryd.ntmps18
  go_wp2_with fail
  refine W1.mono ?_
  clear W1
  rintro e w1 ⟨⟨rfl, hb⟩, hg⟩
  have C3 := Aside0.mk (C2.out.step hg hb)
  clear hb hg C2
  go_wp2_with fail
  exact ⟨rfl, rfl, C3.out.g⟩
theorem call_q (B : Nat) (r : List UInt8) (w0 w : World) (h : PAt w B r false) (hs : r.length ≤ 281474976710656) (hE : PEnv w0 w B) :
    Calls Tryd.prog 18 #[.pointer (some ⟨B, 0, none⟩)] w fun e w' => CallEnd w B (callP r) e w' := by
  obtain ⟨⟨x, r1, e1⟩, hw⟩ : ∃ x, wordP r false = some x := ⟨_, rfl⟩
  have hc : callP r = fin (restP x r1 e1) := by unfold callP; rw [hw]; rfl
  rw [hc]
  unfold restP
  by_cases h0 : x = [111, 112, 101, 110]
  · subst h0
    have := call_open B r r1 e1 w0 w h hs hE hw
    simpa using this
  rw [if_neg h0]
  by_cases h1 : x = [99, 108, 111, 115, 101]
  · subst h1
    have := call_close B r r1 e1 w0 w h hs hE hw
    simpa using this
  rw [if_neg h1]
  by_cases h2 : x = [109, 105, 110, 116]
  · subst h2
    have := call_mint B r r1 e1 w0 w h hs hE hw
    simpa using this
  rw [if_neg h2]
  by_cases h3 : x = [114, 101, 118, 111, 107, 101]
  · subst h3
    have := call_revoke B r r1 e1 w0 w h hs hE hw
    simpa using this
  rw [if_neg h3]
  by_cases h4 : x = [106, 111, 105, 110]
  · subst h4
    have := call_join B r r1 e1 w0 w h hs hE hw
    simpa using this
  rw [if_neg h4]
  by_cases h5 : x = [108, 101, 97, 118, 101]
  · subst h5
    have := call_leave B r r1 e1 w0 w h hs hE hw
    simpa using this
  rw [if_neg h5]
  by_cases h6 : x = [115, 101, 110, 100]
  · subst h6
    have := call_send B r r1 e1 w0 w h hs hE hw
    simpa using this
  rw [if_neg h6]
  exact call_other B r x r1 e1 w h hs hw (beq_eq_false_iff_ne.2 h0) (beq_eq_false_iff_ne.2 h1) (beq_eq_false_iff_ne.2 h2) (beq_eq_false_iff_ne.2 h3) (beq_eq_false_iff_ne.2 h4) (beq_eq_false_iff_ne.2 h5) (beq_eq_false_iff_ne.2 h6)
end Go.Proofs.YtljgmbpfeajmhaaDoor
