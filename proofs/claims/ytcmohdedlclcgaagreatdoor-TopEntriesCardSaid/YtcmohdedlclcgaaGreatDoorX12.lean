/- Part of the proof of TopEntries: an entry: its runs. -/
import Derived.Test.YtcmohdedlclcgaaGreatDoorX09
import Derived.Test.YtcmohdedlclcgaaGreatDoorProg
import Derived.KernelRfl
import Derived.Test.YtcmohdedlclcgaaGreatDoorX10
set_option linter.unusedVariables false
set_option linter.unusedSimpArgs false
set_option linter.unusedSectionVars false
namespace Go.Ex
noncomputable section
/-! the entry's runs -/
/-- widths of numbers: a packet's fields, the sum, an entry's fields, bytes -/
def widthL : List Nat := [1, 4, 4, 1, 4, 4, 4, 4, 4, 4, 4, 4, 4, 4, 4, 4, 4, 4, 4, 4, 4, 4, 1, 4, 4, 4, 4, 4, 4, 4, 4, 4, 1, 4, 4, 1, 4]
def widthN (j : Nat) : Nat := match Nat.blt j 37 with
  | true => match dropN j widthL with
    | w :: _ => w
    | [] => 1
  | false => match Nat.beq j 40, Nat.beq j 67, Nat.beq j 68 with
    | true, _, _ => 4
    | _, true, _ => 2
    | _, _, true => 4
    | _, _, _ => 1
/-- a row of numbers' bytes -/
def byL (j : Nat) : Nat → List Nat
  | 0 => []
  | n + 1 => Nat.add byteFrom (Nat.add (Nat.mul 8 j) n) :: byL j n
def txtL (j : Nat) : Nat → List Nat
  | 0 => []
  | n + 1 => Nat.add byteFrom (Nat.mul 8 j) :: txtL (Nat.succ j) n
def zerL : Nat → List Nat
  | 0 => []
  | n + 1 => constFrom :: zerL n
/-- an entry with a text of n bytes -/
def entX (n : Nat) : XV := .agg 6 [nuN 64 3, nuN 65 3, nuN 66 3, nuN 67 7, nuN 68 7, mkS (txtL 512 n)]
/-- its bytes -/
def entB (n : Nat) : List Nat := appN (byL 64 1) (appN (byL 65 1) (appN (byL 66 1) (appN (byL 67 2) (appN (byL 68 4) (Nat.add constFrom n :: appN (txtL 512 n) (zerL (18 - n)))))))
def isL : List XV → List XV → Bool
  | [], [] => true
  | x :: xs, y :: ys => match same x y (some (.unk, ⟨.nil, 0⟩)) with
    | some _ => isL xs ys
    | none => false
  | _, _ => false
/-- of a function's answers one is known -/
def ansL (xs : List XV) (y : XV) : List XV → Option XV := fun zs => match isL xs zs with
  | true => some y
  | false => none
def okX : XV := .int .i64 (.ofNat 0)
def entF (n : Nat) (f : FuncId) : Option (List XV → Option XV) := match f with
  | 7 => some (ansL [entX n] okX)
  | _ => none
def noD : BinOp → Nat → IntKind → Int → Option Bool := fun _ _ _ _ => none
def noQ' : BinOp → TypeId → List XV → Option XV := fun _ _ _ => none
def noL : Nat → Option XV := fun _ => none
@[reducible] def entT (P : Program) (n : Nat) : Tab := tabN P widthN noD noQ' noL (entF n)
def kIs (ys : List XV) : XV → XW → R := fun v w => vTuple v fun vs => match isL vs ys with
  | true => some (v, w)
  | false => none

end
end Go.Ex
open Go.Proofs
namespace Go.Ex
def levE : Nat := 166901169975553466643775033061374959361227855118796038283567923957587311844336190229990502299565788539271719126200669407604427931508156727252785385148918976358994881354674563860304221674690055238441515541836468098023883559512024729589473141711387046166190866408027779740311029341932107302097314871282519522164558934049627025756899726962875204743821196012988430071414378051594439660977386258662622987538702165614520668098203498012288138701879393823190627928895718764859589898567031696821013397383575197614442011034310321022881216449795801712265377673706789177904636504671935447535308138568638804171053185246212897447101983877722128954909638537200783418245870779830312639536981194000330528643717260642920202586400491269225756245910731358208
set_option maxRecDepth 1000000
/-- an entry's text is at most 16 bytes long -/
def upto (p : Nat → Bool) : Nat → Bool
  | 0 => true
  | n + 1 => p n && upto p n
theorem upto_ok {p : Nat → Bool} : ∀ {n : Nat}, upto p n = true → ∀ i, i < n → p i = true
  | 0, _, i, hi => absurd hi (Nat.not_lt_zero i)
  | n + 1, h, i, hi => by
    unfold upto at h
    rw [Bool.and_eq_true] at h
    rcases Nat.lt_succ_iff_lt_or_eq.1 hi with h' | h'
    · exact upto_ok h.2 i h'
    · rw [h']; exact h.1
theorem entEnc_all : upto (fun n => ((@callN (entT Tryz.prog n) Tryz.prog levE 10 60 false).f [entX n] E1 (kIs [.strA (entB n), okX])).isSome) 17 = true := by kernel_rfl
theorem entDec_all : upto (fun n => ((@callN (entT Tryz.prog n) Tryz.prog levE 10 62 false).f [.strA (entB n)] E1 (kIs [entX n, okX])).isSome) 17 = true := by kernel_rfl
end Go.Ex
