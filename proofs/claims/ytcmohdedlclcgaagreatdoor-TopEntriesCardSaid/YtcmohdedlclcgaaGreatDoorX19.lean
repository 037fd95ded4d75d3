/- Part of the proof of TopEntries: the law's runs. -/
import Derived.Test.YtcmohdedlclcgaaGreatDoorX17
import Derived.Test.YtcmohdedlclcgaaGreatDoorX13
import Derived.Test.YtcmohdedlclcgaaGreatDoorX12
set_option linter.unusedVariables false
set_option linter.unusedSimpArgs false
set_option linter.unusedSectionVars false
namespace Go.Ex
noncomputable section
/-! the law's runs: t: the tenant; s: 0 nil, 1 none, 2 one, 3 two, 4 more; o: which of the list's entries are empty; m: which of the other lanes'; bad: which entry may not be (0: none); enc: may the packet? -/
structure Pth where
  t : Nat
  s : Nat
  o : Nat
  m : Nat
  bad : Nat
  enc : Bool
def Pth.n (p : Pth) : Nat := Nat.sub p.s 1
def bitB (m i : Nat) : Bool := Nat.beq (Nat.mod (Nat.shiftRight m i) 2) 1
/-- the place of a lane among the others -/
def otherL (t a : Nat) : Nat := match Nat.blt a t with
  | true => a
  | false => Nat.sub a 1
/-- is entry k empty? where that is known -/
def Pth.em (p : Pth) (k : Nat) : Option Bool := match Nat.blt k 6 && (notB (Nat.beq (Nat.div k 2) p.t) && (p.enc && Nat.beq p.bad 0)), Nat.ble 20 k && (Nat.blt k 22 && (Nat.blt (Nat.sub k 20) p.n && (Nat.beq p.bad 0 || Nat.blt k p.bad))) with
  | true, _ => some (bitB p.m (Nat.add (Nat.mul 2 (otherL p.t (Nat.div k 2))) (Nat.mod k 2)))
  | _, true => some (bitB p.o (Nat.sub k 20))
  | _, _ => none
def zerC : List XV := [.int .i64 (.ofNat 0), .int .i64 (.ofNat 0), .int .i64 (.ofNat 0), .int .u64 (.ofNat 0), .int .u64 (.ofNat 0), .str 0 0]
/-- slot i of the list -/
def Pth.slot (p : Pth) (i : Nat) : List XV := match Nat.blt i p.n with
  | true => entA (Nat.add 20 i)
  | false => zerC
def Pth.lane (p : Pth) (a : Nat) : List XV := match Nat.beq a p.t with
  | true => appL (p.slot 1) (p.slot 0)
  | false => entsA (Nat.mul 2 a) 2
/-- the packet with the list in its lane -/
def Pth.pkt (p : Pth) : XV := .agg 145 (appL (appL (appL (appL (appL (appL (entsA 12 6) (numsA 35 2)) (entsA 6 6)) (appL (appL (p.lane 2) (p.lane 1)) (p.lane 0))) (numsA 33 2)) [uaX 0]) (numsA 0 32))
def ans7' (n b k : Nat) (xs : List XV) : Option XV := match Nat.ble 20 k && (Nat.blt k 22 && (Nat.blt (Nat.sub k 20) n && (Nat.beq b 0 || Nat.ble k b))) with
  | true => ansL [.agg 6 (entA k)] (match Nat.beq k b with
    | true => e30X
    | false => okX) xs
  | false => none
def Pth.F (p : Pth) (f : FuncId) : Option (List XV → Option XV) := match f with
  | 6 => some (ansL [] (.bool true))
  | 7 => some fun xs => ans7' p.n p.bad (entK xs) xs
  | 9 => some fun xs => match Nat.beq p.bad 0 with
    | true => ansL [p.pkt] (match p.enc with
      | true => .tuple [uaX 500, okX]
      | false => .tuple [.str 0 0, errX]) xs
    | false => none
  | 10 => some fun xs => match Nat.beq p.bad 0 && p.enc with
    | true => ansL [uaX 500] (.tuple [p.pkt, okX]) xs
    | false => none
  | _ => none
def ansQ (p : Pth) (k : Nat) (x y : XV) : Option XV := match p.em k, isL [x] [.agg 6 (entA k)], isL [y] [zerX], isL [y] [.agg 6 (entA k)] with
  | some e, true, true, _ => some (.bool (notB e))
  | some _, true, _, true => some (.bool false)
  | _, _, _, _ => none
def Pth.Q (p : Pth) (b : BinOp) (t : TypeId) (xs : List XV) : Option XV := match b, xs with
  | .neq, [x, y] => match Nat.beq t 30 with
    | true => ansQ p (entK [x]) x y
    | false => none
  | _, _ => none
@[reducible] def pthT (P : Program) (p : Pth) : Tab := tabN P w8 noD p.Q noL p.F
/-- the list -/
def Pth.list (p : Pth) (k c : Nat) : XV := match p.s with
  | 0 => .sliceNil
  | 1 => .sliceE
  | 2 => .slice 1 0 1 c 0
  | 3 => .slice 1 0 2 c 0
  | _ => .slice 1 0 (Nat.succ (Nat.succ (Nat.succ k))) c 0
def Pth.cells (p : Pth) : List XV := match p.s with
  | 0 => []
  | 1 => []
  | 2 => entA 20
  | _ => appL (entA 21) (entA 20)
def Pth.E (p : Pth) (e : TypeId) : XW := match p.s with
  | 0 => ⟨.nil, 20⟩
  | 1 => ⟨.nil, 20⟩
  | _ => ⟨(Tr.nil : Tr XB).set dep 1 (some (.cells e (lenC p.cells) p.cells false none 0 true)), 20⟩
def Pth.args (p : Pth) (k c : Nat) : List XV := [pktX (uaX 0), .int .i64 (.ofNat p.t), p.list k c]
/-! a tenant that there is none of -/
def outD (neg : Bool) (b : BinOp) (i : Nat) (k : IntKind) (n : Int) : Option Bool := match b, k, n with
  | .lss, .i64, .ofNat 0 => match Nat.beq i (Nat.add textFrom 501) with
    | true => some neg
    | false => none
  | .gtr, .i64, .ofNat 2 => match Nat.beq i (Nat.add textFrom 501) && notB neg with
    | true => some true
    | false => none
  | _, _, _ => none
def outF (f : FuncId) : Option (List XV → Option XV) := match f with
  | 6 => some (ansL [] (.bool true))
  | _ => none
@[reducible] def outT (P : Program) (neg : Bool) : Tab := tabN P w8 (outD neg) noQ' noL outF
/-! a packet that may not be -/
def badF (f : FuncId) : Option (List XV → Option XV) := match f with
  | 25 => some (ansL [pktX (uaX 0)] errX)
  | _ => none
@[reducible] def badT (P : Program) : Tab := tabN P w8 noD noQ' noL badF
end
end Go.Ex
open Go.Proofs
namespace Go.Ex
def levF : Nat := 79228162532711081667287056384
def levB : Nat := 15721288165661697071640089833737607674324132669546969932459232684805490293358780445149319241794761715543812509992889985819693169086244644171716770307237088009184997168751456865311761060269575683681098058049971951485712485152551850854017164160010278221977842912818963564244592193837530602928501352845978627379690062937559762817813044238746950230343680
noncomputable def runF (p : Pth) (e : TypeId) (k c : Nat) : R := (@callN (pthT Tryz.prog p) Tryz.prog levF 7 3 false).f (p.args k c) (p.E e) (kOne (.bool true))
set_option maxRecDepth 1000000
theorem out_run (neg : Bool) : ((@callN (outT Tryz.prog neg) Tryz.prog levF 7 3 false).f [pktX (uaX 0), uaX 501, .unk] E1 (kOne (.bool true))).isSome = true := by
  cases neg <;> kernel_rfl
theorem bad_run : ((@callN (badT Tryz.prog) Tryz.prog levB 12 9 false).f [pktX (uaX 0)] E1 (kIs [.str 0 0, errX])).isSome = true := by kernel_rfl
theorem b20_run (e : TypeId) (k c : Nat) : upto (fun t => upto (fun s => (runF ⟨t, s + 2, 0, 0, 20, true⟩ e k c).isSome) 3) 3 = true := by kernel_rfl
theorem b21_run (e : TypeId) (k c : Nat) : upto (fun t => upto (fun s => upto (fun o => (runF ⟨t, s + 3, o, 0, 21, true⟩ e k c).isSome) 2) 2) 3 = true := by kernel_rfl
theorem err_run0 (e : TypeId) (k c : Nat) : upto (fun t => upto (fun s => (runF ⟨t, s, 0, 0, 0, false⟩ e k c).isSome) 2) 3 = true := by kernel_rfl
theorem err_run2 (e : TypeId) (k c : Nat) : upto (fun t => upto (fun o => (runF ⟨t, 2, o, 0, 0, false⟩ e k c).isSome) 2) 3 = true := by kernel_rfl
theorem err_run3 (e : TypeId) (k c : Nat) : upto (fun t => upto (fun s => upto (fun o => (runF ⟨t, s + 3, o, 0, 0, false⟩ e k c).isSome) 4) 2) 3 = true := by kernel_rfl
end Go.Ex
