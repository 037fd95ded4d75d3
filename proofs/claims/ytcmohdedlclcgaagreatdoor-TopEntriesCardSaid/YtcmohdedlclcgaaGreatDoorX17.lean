/- Part of the proof of TopEntries: a packet: its runs. -/
import Derived.Test.YtcmohdedlclcgaaGreatDoorX12
import Derived.Test.YtcmohdedlclcgaaGreatDoorX15
set_option linter.unusedVariables false
set_option linter.unusedSimpArgs false
set_option linter.unusedSectionVars false
namespace Go.Ex
noncomputable section
/-! a packet's runs -/
def uaX (k : Nat) : XV := .atom (Nat.add textFrom k)
/-- entry k of a packet: not looked into -/
def entA (k : Nat) : List XV := [uaX (Nat.add 100 (Nat.mul 8 k)), uaX (Nat.add 101 (Nat.mul 8 k)), uaX (Nat.add 102 (Nat.mul 8 k)), uaX (Nat.add 103 (Nat.mul 8 k)), uaX (Nat.add 104 (Nat.mul 8 k)), uaX (Nat.add 105 (Nat.mul 8 k))]
def entsA (k : Nat) : Nat → List XV
  | 0 => []
  | n + 1 => appL (entsA (Nat.succ k) n) (entA k)
def numsA (j : Nat) : Nat → List XV
  | 0 => []
  | n + 1 => nuN j 6 :: numsA (Nat.succ j) n
/-- a packet's cells -/
def pktC (r : XV) : List XV := appL (appL (appL (appL (appL (entsA 12 6) (numsA 35 2)) (entsA 0 12)) (numsA 33 2)) [r]) (numsA 0 32)
def pktX (r : XV) : XV := .agg 145 (pktC r)
/-- bytes of numbers in a row -/
def numsB (j : Nat) : Nat → List Nat
  | 0 => []
  | n + 1 => appN (byL j (widthN j)) (numsB (Nat.succ j) n)
def entsB (k : Nat) : Nat → List Nat
  | 0 => []
  | n + 1 => appN (txtL (Nat.add 1024 (Nat.mul 32 k)) 28) (entsB (Nat.succ k) n)
def bodyB : List Nat := appN (numsB 0 35) (appN (entsB 0 12) (appN (numsB 35 2) (entsB 12 6)))
/-- the sum's bytes, from the least on -/
def sumB : List Nat := [Nat.add byteFrom (Nat.mul 8 40), Nat.add byteFrom (Nat.add (Nat.mul 8 40) 1), Nat.add byteFrom (Nat.add (Nat.mul 8 40) 2), Nat.add byteFrom (Nat.add (Nat.mul 8 40) 3)]
def sealB : List Nat := appN bodyB sumB
def first (xs : List XV) : Nat := match xs with
  | .agg _ (.atom i :: _) :: _ => i
  | .strA (i :: _) :: _ => i
  | _ => 0
/-- which entry, by its first atom; by its first byte -/
def entK (xs : List XV) : Nat := Nat.div (Nat.sub (first xs) (Nat.add textFrom 100)) 8
def bytK (xs : List XV) : Nat := Nat.div (Nat.sub (Nat.div (Nat.sub (first xs) byteFrom) 8) 1024) 32
def errX : XV := .int .i64 (.ofNat 52)
def ans60 (k : Nat) (xs : List XV) : Option XV := match Nat.blt k 18 with
  | true => ansL [.agg 6 (entA k)] (.tuple [.strA (txtL (Nat.add 1024 (Nat.mul 32 k)) 28), okX]) xs
  | false => none
def ans62 (k : Nat) (xs : List XV) : Option XV := match Nat.blt k 18 with
  | true => ansL [.strA (txtL (Nat.add 1024 (Nat.mul 32 k)) 28)] (.tuple [.agg 6 (entA k), okX]) xs
  | false => none
/-- functions that are known: packet.Check (25), truth (28), crc.Of (48), entry.Encode (60), entry.Decode (62) -/
def pktF (ok : Bool) (rdy : Bool) (f : FuncId) : Option (List XV → Option XV) := match f with
  | 25 => some fun xs => match isL xs [pktX (uaX 0)], isL xs [pktX (.bool rdy)] && ok with
    | true, _ => some (match ok with
      | true => okX
      | false => errX)
    | _, true => some okX
    | _, _ => none
  | 28 => some (ansL [uaX 0] (nuN 32 6))
  | 48 => some (ansL [.strA bodyB] (nuN 40 6))
  | 60 => some fun xs => ans60 (entK xs) xs
  | 62 => some fun xs => ans62 (bytK xs) xs
  | _ => none
def pktD (rdy : Bool) (b : BinOp) (i : Nat) (k : IntKind) (n : Int) : Option Bool := match b, k, n with
  | .eql, .u32, .ofNat 1 => match Nat.beq i 2054 with
    | true => some rdy
    | false => none
  | .gtr, .u32, .ofNat 1 => match Nat.beq i 2054 with
    | true => some false
    | false => none
  | _, _, _ => none
@[reducible] def pktT (P : Program) (W : Nat → Nat) (ok rdy : Bool) : Tab := tabN P W (pktD rdy) noQ' noL (pktF ok rdy)
/-! packet.Check: a stage tells which test fails -/
def pcNum (j : Nat) : Nat := match j with
  | 0 => 0
  | 35 => 1
  | 3 => 2
  | 22 => 3
  | _ => 99
def pcD (q : Nat) (b : BinOp) (i : Nat) (k : IntKind) (n : Int) : Option Bool := match b, k, n with
  | .geq, .u32, .ofNat 8 => match Nat.blt i textFrom && Nat.beq (Nat.mod i 64) 6 with
    | true => match Nat.ble (pcNum (Nat.div i 64)) q with
      | true => some (Nat.beq (pcNum (Nat.div i 64)) q)
      | false => none
    | false => none
  | _, _, _ => none
def e30X : XV := .int .i64 (.ofNat 30)
def ans7 (q k : Nat) (xs : List XV) : Option XV := match Nat.blt k 18 && Nat.ble (Nat.add 4 k) q with
  | true => ansL [.agg 6 (entA k)] (match Nat.beq (Nat.add 4 k) q with
    | true => e30X
    | false => okX) xs
  | false => none
def pcF (q : Nat) (f : FuncId) : Option (List XV → Option XV) := match f with
  | 7 => some fun xs => ans7 q (entK xs) xs
  | _ => none
@[reducible] def pcT (P : Program) (W : Nat → Nat) (q : Nat) : Tab := tabN P W (pcD q) noQ' noL (pcF q)
def pcR (q : Nat) : XV := match Nat.beq q 22 with
  | true => okX
  | false => errX
end
end Go.Ex
open Go.Proofs
namespace Go.Ex
def levP : Nat := 12194330274671844653836956516133577251507149209633002694851072607638498842326342223396755466206674573523840973803795639637930869648744169603072
set_option maxRecDepth 1000000
theorem pktEnc_run (rdy : Bool) : ((@callN (pktT Tryz.prog widthN true rdy) Tryz.prog levP 10 9 false).f [pktX (uaX 0)] E1 (kIs [.strA sealB, okX])).isSome = true := by
  cases rdy <;> kernel_rfl
theorem pktBad_run (rdy : Bool) : ((@callN (pktT Tryz.prog w8 false rdy) Tryz.prog levP 10 9 false).f [pktX (uaX 0)] E1 (kIs [.str 0 0, errX])).isSome = true := by
  cases rdy <;> kernel_rfl
theorem pktDec_run (rdy : Bool) : ((@callN (pktT Tryz.prog widthN true rdy) Tryz.prog levP 10 10 false).f [.strA sealB] E1 (kIs [pktX (.bool rdy), okX])).isSome = true := by
  cases rdy <;> kernel_rfl
def levPc : Nat := 9173994463960286046443283581208347763186259959887000583468335908631615689036264437324480200006088416821248
theorem pktChk_all : upto (fun q => ((@callN (pcT Tryz.prog w8 q) Tryz.prog levPc 4 25 false).f [pktX (uaX 0)] E1 (kOne (pcR q))).isSome) 23 = true := by kernel_rfl
theorem bodyB_byte : (bodyB.all fun i => Nat.ble byteFrom i && Nat.blt i constFrom && !(Nat.beq (Nat.div (Nat.sub i byteFrom) 8) 40)) = true := by kernel_rfl
theorem bodyB_len : (bodyB.length) = 637 := by kernel_rfl
end Go.Ex
