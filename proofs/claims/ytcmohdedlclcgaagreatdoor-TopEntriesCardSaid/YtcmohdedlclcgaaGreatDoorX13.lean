/- Part of the proof of TopEntries: entry.Check: its runs. -/
import Derived.Test.YtcmohdedlclcgaaGreatDoorX12
set_option linter.unusedVariables false
set_option linter.unusedSimpArgs false
set_option linter.unusedSectionVars false
namespace Go.Ex
noncomputable section
/-! entry.Check's runs: a stage tells which test fails first -/
def uA (k : Nat) : Nat := Nat.add textFrom k
def chkX : XV := .agg 6 [.atom (uA 0), .atom (uA 1), .atom (uA 2), nuN 67 7, nuN 68 7, .atom (uA 5)]
def zerX : XV := .agg 6 [.int .i64 (.ofNat 0), .int .i64 (.ofNat 0), .int .i64 (.ofNat 0), .int .u64 (.ofNat 0), .int .u64 (.ofNat 0), .str 0 0]
def inL (q : Nat) : List Nat → Bool
  | [] => false
  | n :: l => Nat.beq q n || inL q l
/-- test t of stage q -/
def tst (q t : Nat) : Option Bool := match Nat.beq q 0 || Nat.blt q t with
  | true => none
  | false => some (notB (Nat.beq q t))
def sh67 : Nat := 4298
def sh68 : Nat := 4364
def chkD (q : Nat) (b : BinOp) (i : Nat) (k : IntKind) (n : Int) : Option Bool := match k with
  | .i64 => match b, n with
    | .geq, .ofNat 0 => match Nat.beq i (uA 1), Nat.beq i (uA 2) with
      | true, _ => tst q 1
      | _, true => tst q 3
      | _, _ => none
    | .lss, .ofNat 4 => match Nat.beq i (uA 1) with
      | true => tst q 2
      | false => none
    | .lss, .ofNat 8 => match Nat.beq i (uA 2) with
      | true => tst q 4
      | false => none
    | .leq, .ofNat 16 => match Nat.beq i (uA 6) with
      | true => tst q 7
      | false => none
    | .eql, .ofNat 1 => match Nat.beq i (uA 0) && Nat.ble 8 q with
      | true => some (Nat.beq q 8)
      | false => none
    | .eql, .ofNat 2 => match Nat.beq i (uA 0) && Nat.ble 9 q, Nat.beq i (uA 1) && (Nat.ble 9 q && Nat.ble q 14) with
      | true, _ => some (inL q [9, 10, 11])
      | _, true => some (inL q [9, 10, 12, 13])
      | _, _ => none
    | .eql, .ofNat 3 => match Nat.beq i (uA 0) && Nat.ble 12 q with
      | true => some (inL q [12, 13, 14])
      | false => none
    | _, _ => none
  | .u64 => match b, n with
    | .eql, .ofNat 0 => match Nat.beq i sh67, Nat.beq i sh68 with
      | true, _ => tst q 5
      | _, true => tst q 6
      | _, _ => none
    | _, _ => none
  | _ => none
def chkQ (q : Nat) (b : BinOp) (t : TypeId) (xs : List XV) : Option XV := match b with
  | .eql => match Nat.beq t 30 && isL xs [chkX, zerX], Nat.beq t 9 && (isL xs [.atom (uA 5), .str 0 0] && inL q [9, 10, 12, 13]) with
    | true, _ => some (.bool (Nat.beq q 0))
    | _, true => some (.bool (inL q [9, 12]))
    | _, _ => none
  | _ => none
def chkL (i : Nat) : Option XV := match Nat.beq i (uA 5) with
  | true => some (.atom (uA 6))
  | false => none
def w8 : Nat → Nat := fun _ => 8
def noFn : FuncId → Option (List XV → Option XV) := fun _ => none
@[reducible] def chkT (P : Program) (q : Nat) : Tab := tabN P w8 (chkD q) (chkQ q) chkL noFn
def chkR (q : Nat) : XV := match inL q [0, 8, 9, 12] with
  | true => okX
  | false => .int .i64 (.ofNat 30)
def kOne (y : XV) : XV → XW → R := fun v w => same v y (some (v, w))
end
end Go.Ex
open Go.Proofs
namespace Go.Ex
def levC : Nat := 24519928653854221733733552434404946938043941143013490688
set_option maxRecDepth 1000000
theorem chk_all : upto (fun q => ((@callN (chkT Tryz.prog q) Tryz.prog levC 4 7 false).f [chkX] E1 (kOne (chkR q))).isSome) 16 = true := by kernel_rfl
end Go.Ex
