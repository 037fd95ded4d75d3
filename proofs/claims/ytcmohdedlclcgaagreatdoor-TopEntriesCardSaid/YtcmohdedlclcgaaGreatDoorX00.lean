/- Part of the proof of TopEntries: the executor: its definitions. -/
import GoSem.Step
set_option linter.unusedVariables false
set_option linter.unusedSimpArgs false
set_option linter.unusedSectionVars false
open Go
namespace Go.Ex
noncomputable section

/-! trees: a heap -/
inductive Tr (α : Type) where
  | nil
  | node (v : Option α) (l r : Tr α)

def Tr.get {α : Type} (t : Tr α) : Nat → Option α := @Tr.rec α (fun _ => Nat → Option α) (fun _ => none)
  (fun v _ _ gl gr n => @Bool.rec (fun _ => Option α) (@Bool.rec (fun _ => Option α) (gr (Nat.sub (Nat.div n 2) 1)) (gl (Nat.div n 2)) (Nat.beq (Nat.mod n 2) 1)) v (Nat.beq n 0)) t

def Tr.set {α : Type} (f : Nat) : Tr α → Nat → Option α → Tr α := @Nat.rec (fun _ => Tr α → Nat → Option α → Tr α) (fun t _ _ => t)
  (fun _ ih t n x => @Tr.rec α (fun _ => Tr α)
    (@Bool.rec (fun _ => Tr α) (@Bool.rec (fun _ => Tr α) (.node none .nil (ih .nil (Nat.sub (Nat.div n 2) 1) x)) (.node none (ih .nil (Nat.div n 2) x) .nil) (Nat.beq (Nat.mod n 2) 1)) (.node x .nil .nil) (Nat.beq n 0))
    (fun v l r _ _ => @Bool.rec (fun _ => Tr α) (@Bool.rec (fun _ => Tr α) (.node v l (ih r (Nat.sub (Nat.div n 2) 1) x)) (.node v (ih l (Nat.div n 2) x) r) (Nat.beq (Nat.mod n 2) 1)) (.node x l r) (Nat.beq n 0)) t) f

/-! slots -/
structure N4 (α : Type) where
  a : α
  b : α
  c : α
  d : α
  e : α
  f : α
  g : α
  h : α
  i : α
  j : α
  k : α
  l : α
  m : α
  n : α
  o : α
  p : α

structure BG (α β : Type) where
  f : α → β
structure BU (α β : Type) where
  f : α → β → α

def gUp {α β : Type} (d : Nat) (g : BG α β) : BG (N4 α) β := match g with
  | ⟨g⟩ => match d with
    | 0 => ⟨fun t => g t.a⟩
    | 1 => ⟨fun t => g t.b⟩
    | 2 => ⟨fun t => g t.c⟩
    | 3 => ⟨fun t => g t.d⟩
    | 4 => ⟨fun t => g t.e⟩
    | 5 => ⟨fun t => g t.f⟩
    | 6 => ⟨fun t => g t.g⟩
    | 7 => ⟨fun t => g t.h⟩
    | 8 => ⟨fun t => g t.i⟩
    | 9 => ⟨fun t => g t.j⟩
    | 10 => ⟨fun t => g t.k⟩
    | 11 => ⟨fun t => g t.l⟩
    | 12 => ⟨fun t => g t.m⟩
    | 13 => ⟨fun t => g t.n⟩
    | 14 => ⟨fun t => g t.o⟩
    | _ => ⟨fun t => g t.p⟩


def sUp {α β : Type} (d : Nat) (g : BU α β) : BU (N4 α) β := match g with
  | ⟨g⟩ => match d with
    | 0 => ⟨fun t v => @N4.rec α (fun _ => N4 α) (fun a b c d e f gg h i j k l m n o p => ⟨g a v, b, c, d, e, f, gg, h, i, j, k, l, m, n, o, p⟩) t⟩
    | 1 => ⟨fun t v => @N4.rec α (fun _ => N4 α) (fun a b c d e f gg h i j k l m n o p => ⟨a, g b v, c, d, e, f, gg, h, i, j, k, l, m, n, o, p⟩) t⟩
    | 2 => ⟨fun t v => @N4.rec α (fun _ => N4 α) (fun a b c d e f gg h i j k l m n o p => ⟨a, b, g c v, d, e, f, gg, h, i, j, k, l, m, n, o, p⟩) t⟩
    | 3 => ⟨fun t v => @N4.rec α (fun _ => N4 α) (fun a b c d e f gg h i j k l m n o p => ⟨a, b, c, g d v, e, f, gg, h, i, j, k, l, m, n, o, p⟩) t⟩
    | 4 => ⟨fun t v => @N4.rec α (fun _ => N4 α) (fun a b c d e f gg h i j k l m n o p => ⟨a, b, c, d, g e v, f, gg, h, i, j, k, l, m, n, o, p⟩) t⟩
    | 5 => ⟨fun t v => @N4.rec α (fun _ => N4 α) (fun a b c d e f gg h i j k l m n o p => ⟨a, b, c, d, e, g f v, gg, h, i, j, k, l, m, n, o, p⟩) t⟩
    | 6 => ⟨fun t v => @N4.rec α (fun _ => N4 α) (fun a b c d e f gg h i j k l m n o p => ⟨a, b, c, d, e, f, g gg v, h, i, j, k, l, m, n, o, p⟩) t⟩
    | 7 => ⟨fun t v => @N4.rec α (fun _ => N4 α) (fun a b c d e f gg h i j k l m n o p => ⟨a, b, c, d, e, f, gg, g h v, i, j, k, l, m, n, o, p⟩) t⟩
    | 8 => ⟨fun t v => @N4.rec α (fun _ => N4 α) (fun a b c d e f gg h i j k l m n o p => ⟨a, b, c, d, e, f, gg, h, g i v, j, k, l, m, n, o, p⟩) t⟩
    | 9 => ⟨fun t v => @N4.rec α (fun _ => N4 α) (fun a b c d e f gg h i j k l m n o p => ⟨a, b, c, d, e, f, gg, h, i, g j v, k, l, m, n, o, p⟩) t⟩
    | 10 => ⟨fun t v => @N4.rec α (fun _ => N4 α) (fun a b c d e f gg h i j k l m n o p => ⟨a, b, c, d, e, f, gg, h, i, j, g k v, l, m, n, o, p⟩) t⟩
    | 11 => ⟨fun t v => @N4.rec α (fun _ => N4 α) (fun a b c d e f gg h i j k l m n o p => ⟨a, b, c, d, e, f, gg, h, i, j, k, g l v, m, n, o, p⟩) t⟩
    | 12 => ⟨fun t v => @N4.rec α (fun _ => N4 α) (fun a b c d e f gg h i j k l m n o p => ⟨a, b, c, d, e, f, gg, h, i, j, k, l, g m v, n, o, p⟩) t⟩
    | 13 => ⟨fun t v => @N4.rec α (fun _ => N4 α) (fun a b c d e f gg h i j k l m n o p => ⟨a, b, c, d, e, f, gg, h, i, j, k, l, m, g n v, o, p⟩) t⟩
    | 14 => ⟨fun t v => @N4.rec α (fun _ => N4 α) (fun a b c d e f gg h i j k l m n o p => ⟨a, b, c, d, e, f, gg, h, i, j, k, l, m, n, g o v, p⟩) t⟩
    | _ => ⟨fun t v => @N4.rec α (fun _ => N4 α) (fun a b c d e f gg h i j k l m n o p => ⟨a, b, c, d, e, f, gg, h, i, j, k, l, m, n, o, g p v⟩) t⟩

abbrev S4 (β : Type) := N4 (N4 β)

def get4 {β : Type} (n : Nat) : BG (S4 β) β := gUp (Nat.mod (Nat.div n 16) 16) (gUp (Nat.mod n 16) ⟨fun x => x⟩)
def set4 {β : Type} (n : Nat) : BU (S4 β) β := sUp (Nat.mod (Nat.div n 16) 16) (sUp (Nat.mod n 16) ⟨fun _ v => v⟩)

def andB (a b : Bool) : Bool := @Bool.rec (fun _ => Bool) false b a
def orB (a b : Bool) : Bool := @Bool.rec (fun _ => Bool) b true a
def notB (a : Bool) : Bool := @Bool.rec (fun _ => Bool) true false a
def eqB (a b : Bool) : Bool := @Bool.rec (fun _ => Bool) (notB b) b a


/-! values -/
inductive XV where
  | unk
  | bad
  | bool (b : Bool)
  | int (k : IntKind) (n : Int)
  | str (n c : Nat)
  | ptr (b o : Nat)
  | ptrNil
  | slice (b o n c m : Nat)
  | sliceNil
  | sliceE
  | map (r : Nat)
  | mapNil
  | func (fn : Fn) (f c : List XV)
  | nilFunc
  | iface (t : TypeId) (v : XV)
  | nilIface
  | agg (n : Nat) (cs : List XV)
  | tuple (vs : List XV)
  /-- a value that is not looked into -/
  | atom (i : Nat)
  /-- a string of bytes that are not looked into -/
  | strA (l : List Nat)

inductive XB where
  | cells (elem : TypeId) (n : Nat) (cs : List XV) (plain : Bool) (kin : Option Nat) (frz : Nat) (ro : Bool)
  | map (es : List (XV × XV)) (clock : Nat)
  | iter (n c pos : Nat)

structure XW where
  heap : Tr XB
  next : Nat

abbrev R := Option (XV × XW)

def eqNs : List Nat → List Nat → Bool := @List.rec Nat (fun _ => List Nat → Bool) (fun l => @List.rec Nat (fun _ => Bool) true (fun _ _ _ => false) l)
  (fun v _ ih l => @List.rec Nat (fun _ => Bool) false (fun u us _ => @Bool.rec (fun _ => Bool) false (ih us) (Nat.beq v u)) l)
def atomsL : List Nat → List XV := @List.rec Nat (fun _ => List XV) [] (fun v _ ih => .atom v :: ih)
def lenNs : List Nat → Nat := @List.rec Nat (fun _ => Nat) 0 (fun _ _ n => Nat.succ n)
/-- an atom past this bound is a byte -/
def byteFrom : Nat := 1048576
def vInt : XV → (IntKind → Int → R) → R := @XV.rec (fun _ => (IntKind → Int → R) → R) (fun _ => Unit)
  (fun _ => none) (fun _ => none) (fun _ => fun _ => none) (fun k n => fun κ => κ k n) (fun _ _ => fun _ => none) (fun _ _ => fun _ => none) (fun _ => none) (fun _ _ _ _ _ => fun _ => none) (fun _ => none) (fun _ => none) (fun _ => fun _ => none) (fun _ => none) (fun _ _ _ _ _ => fun _ => none) (fun _ => none) (fun _ _ _ => fun _ => none) (fun _ => none) (fun _ _ _ => fun _ => none) (fun _ _ => fun _ => none) (fun _ => fun _ => none) (fun _ => fun _ => none)
  () (fun _ _ _ _ => ())
def vIf : XV → R → R → R := @XV.rec (fun _ => R → R → R) (fun _ => Unit)
  (fun _ _ => none) (fun _ _ => none) (fun b => fun x y => @Bool.rec (fun _ => R) (y) (x) b) (fun _ _ => fun _ _ => none) (fun _ _ => fun _ _ => none) (fun _ _ => fun _ _ => none) (fun _ _ => none) (fun _ _ _ _ _ => fun _ _ => none) (fun _ _ => none) (fun _ _ => none) (fun _ => fun _ _ => none) (fun _ _ => none) (fun _ _ _ _ _ => fun _ _ => none) (fun _ _ => none) (fun _ _ _ => fun _ _ => none) (fun _ _ => none) (fun _ _ _ => fun _ _ => none) (fun _ _ => fun _ _ => none) (fun _ => fun _ _ => none) (fun _ => fun _ _ => none)
  () (fun _ _ _ _ => ())
def vBool : XV → (Bool → R) → R := @XV.rec (fun _ => (Bool → R) → R) (fun _ => Unit)
  (fun _ => none) (fun _ => none) (fun b => fun κ => κ b) (fun _ _ => fun _ => none) (fun _ _ => fun _ => none) (fun _ _ => fun _ => none) (fun _ => none) (fun _ _ _ _ _ => fun _ => none) (fun _ => none) (fun _ => none) (fun _ => fun _ => none) (fun _ => none) (fun _ _ _ _ _ => fun _ => none) (fun _ => none) (fun _ _ _ => fun _ => none) (fun _ => none) (fun _ _ _ => fun _ => none) (fun _ _ => fun _ => none) (fun _ => fun _ => none) (fun _ => fun _ => none)
  () (fun _ _ _ _ => ())
def vPtr : XV → (Nat → Nat → R) → R := @XV.rec (fun _ => (Nat → Nat → R) → R) (fun _ => Unit)
  (fun _ => none) (fun _ => none) (fun _ => fun _ => none) (fun _ _ => fun _ => none) (fun _ _ => fun _ => none) (fun b o => fun κ => κ b o) (fun _ => none) (fun _ _ _ _ _ => fun _ => none) (fun _ => none) (fun _ => none) (fun _ => fun _ => none) (fun _ => none) (fun _ _ _ _ _ => fun _ => none) (fun _ => none) (fun _ _ _ => fun _ => none) (fun _ => none) (fun _ _ _ => fun _ => none) (fun _ _ => fun _ => none) (fun _ => fun _ => none) (fun _ => fun _ => none)
  () (fun _ _ _ _ => ())
def vPtrN : XV → (Nat → Nat → R) → R → R := @XV.rec (fun _ => (Nat → Nat → R) → R → R) (fun _ => Unit)
  (fun _ _ => none) (fun _ _ => none) (fun _ => fun _ _ => none) (fun _ _ => fun _ _ => none) (fun _ _ => fun _ _ => none) (fun b o => fun κ _ => κ b o) (fun _ x => x) (fun _ _ _ _ _ => fun _ _ => none) (fun _ _ => none) (fun _ _ => none) (fun _ => fun _ _ => none) (fun _ _ => none) (fun _ _ _ _ _ => fun _ _ => none) (fun _ _ => none) (fun _ _ _ => fun _ _ => none) (fun _ _ => none) (fun _ _ _ => fun _ _ => none) (fun _ _ => fun _ _ => none) (fun _ => fun _ _ => none) (fun _ => fun _ _ => none)
  () (fun _ _ _ _ => ())
def vStr : XV → (Nat → Nat → R) → R := @XV.rec (fun _ => (Nat → Nat → R) → R) (fun _ => Unit)
  (fun _ => none) (fun _ => none) (fun _ => fun _ => none) (fun _ _ => fun _ => none) (fun n c => fun κ => κ n c) (fun _ _ => fun _ => none) (fun _ => none) (fun _ _ _ _ _ => fun _ => none) (fun _ => none) (fun _ => none) (fun _ => fun _ => none) (fun _ => none) (fun _ _ _ _ _ => fun _ => none) (fun _ => none) (fun _ _ _ => fun _ => none) (fun _ => none) (fun _ _ _ => fun _ => none) (fun _ _ => fun _ => none) (fun _ => fun _ => none) (fun _ => fun _ => none)
  () (fun _ _ _ _ => ())
def vAgg : XV → (Nat → List XV → R) → R := @XV.rec (fun _ => (Nat → List XV → R) → R) (fun _ => Unit)
  (fun _ => none) (fun _ => none) (fun _ => fun _ => none) (fun _ _ => fun _ => none) (fun _ _ => fun _ => none) (fun _ _ => fun _ => none) (fun _ => none) (fun _ _ _ _ _ => fun _ => none) (fun _ => none) (fun _ => none) (fun _ => fun _ => none) (fun _ => none) (fun _ _ _ _ _ => fun _ => none) (fun _ => none) (fun _ _ _ => fun _ => none) (fun _ => none) (fun n cs _ => fun κ => κ n cs) (fun _ _ => fun _ => none) (fun _ => fun _ => none) (fun _ => fun _ => none)
  () (fun _ _ _ _ => ())
def vTuple : XV → (List XV → R) → R := @XV.rec (fun _ => (List XV → R) → R) (fun _ => Unit)
  (fun _ => none) (fun _ => none) (fun _ => fun _ => none) (fun _ _ => fun _ => none) (fun _ _ => fun _ => none) (fun _ _ => fun _ => none) (fun _ => none) (fun _ _ _ _ _ => fun _ => none) (fun _ => none) (fun _ => none) (fun _ => fun _ => none) (fun _ => none) (fun _ _ _ _ _ => fun _ => none) (fun _ => none) (fun _ _ _ => fun _ => none) (fun _ => none) (fun _ _ _ => fun _ => none) (fun vs _ => fun κ => κ vs) (fun _ => fun _ => none) (fun _ => fun _ => none)
  () (fun _ _ _ _ => ())
def vSl : XV → (Nat → Nat → Nat → Nat → Nat → R) → R → R → R := @XV.rec (fun _ => (Nat → Nat → Nat → Nat → Nat → R) → R → R → R) (fun _ => Unit)
  (fun _ _ _ => none) (fun _ _ _ => none) (fun _ => fun _ _ _ => none) (fun _ _ => fun _ _ _ => none) (fun _ _ => fun _ _ _ => none) (fun _ _ => fun _ _ _ => none) (fun _ _ _ => none) (fun b o n c m => fun κ _ _ => κ b o n c m) (fun _ x _ => x) (fun _ _ x => x) (fun _ => fun _ _ _ => none) (fun _ _ _ => none) (fun _ _ _ _ _ => fun _ _ _ => none) (fun _ _ _ => none) (fun _ _ _ => fun _ _ _ => none) (fun _ _ _ => none) (fun _ _ _ => fun _ _ _ => none) (fun _ _ => fun _ _ _ => none) (fun _ => fun _ _ _ => none) (fun _ => fun _ _ _ => none)
  () (fun _ _ _ _ => ())
def vMap : XV → (Nat → R) → R → R := @XV.rec (fun _ => (Nat → R) → R → R) (fun _ => Unit)
  (fun _ _ => none) (fun _ _ => none) (fun _ => fun _ _ => none) (fun _ _ => fun _ _ => none) (fun _ _ => fun _ _ => none) (fun _ _ => fun _ _ => none) (fun _ _ => none) (fun _ _ _ _ _ => fun _ _ => none) (fun _ _ => none) (fun _ _ => none) (fun r => fun κ _ => κ r) (fun _ x => x) (fun _ _ _ _ _ => fun _ _ => none) (fun _ _ => none) (fun _ _ _ => fun _ _ => none) (fun _ _ => none) (fun _ _ _ => fun _ _ => none) (fun _ _ => fun _ _ => none) (fun _ => fun _ _ => none) (fun _ => fun _ _ => none)
  () (fun _ _ _ _ => ())
def vFunc : XV → (Fn → List XV → List XV → R) → R → R := @XV.rec (fun _ => (Fn → List XV → List XV → R) → R → R) (fun _ => Unit)
  (fun _ _ => none) (fun _ _ => none) (fun _ => fun _ _ => none) (fun _ _ => fun _ _ => none) (fun _ _ => fun _ _ => none) (fun _ _ => fun _ _ => none) (fun _ _ => none) (fun _ _ _ _ _ => fun _ _ => none) (fun _ _ => none) (fun _ _ => none) (fun _ => fun _ _ => none) (fun _ _ => none) (fun fn f c _ _ => fun κ _ => κ fn f c) (fun _ x => x) (fun _ _ _ => fun _ _ => none) (fun _ _ => none) (fun _ _ _ => fun _ _ => none) (fun _ _ => fun _ _ => none) (fun _ => fun _ _ => none) (fun _ => fun _ _ => none)
  () (fun _ _ _ _ => ())
def vIface : XV → (TypeId → XV → R) → R → R := @XV.rec (fun _ => (TypeId → XV → R) → R → R) (fun _ => Unit)
  (fun _ _ => none) (fun _ _ => none) (fun _ => fun _ _ => none) (fun _ _ => fun _ _ => none) (fun _ _ => fun _ _ => none) (fun _ _ => fun _ _ => none) (fun _ _ => none) (fun _ _ _ _ _ => fun _ _ => none) (fun _ _ => none) (fun _ _ => none) (fun _ => fun _ _ => none) (fun _ _ => none) (fun _ _ _ _ _ => fun _ _ => none) (fun _ _ => none) (fun t v _ => fun κ _ => κ t v) (fun _ x => x) (fun _ _ _ => fun _ _ => none) (fun _ _ => fun _ _ => none) (fun _ => fun _ _ => none) (fun _ => fun _ _ => none)
  () (fun _ _ _ _ => ())
def vCells : XV → (Nat → List XV → R) → R := @XV.rec (fun _ => (Nat → List XV → R) → R) (fun _ => Unit)
  (fun κ => κ 1 [XV.unk]) (fun _ => none) (fun b => fun κ => κ 1 [(XV.bool b)]) (fun k n => fun κ => κ 1 [(XV.int k n)]) (fun n c => fun κ => κ 1 [(XV.str n c)]) (fun b o => fun κ => κ 1 [(XV.ptr b o)]) (fun κ => κ 1 [XV.ptrNil]) (fun b o n c m => fun κ => κ 1 [(XV.slice b o n c m)]) (fun κ => κ 1 [XV.sliceNil]) (fun κ => κ 1 [XV.sliceE]) (fun r => fun κ => κ 1 [(XV.map r)]) (fun κ => κ 1 [XV.mapNil]) (fun fn f c _ _ => fun κ => κ 1 [(XV.func fn f c)]) (fun κ => κ 1 [XV.nilFunc]) (fun t v _ => fun κ => κ 1 [(XV.iface t v)]) (fun κ => κ 1 [XV.nilIface]) (fun n cs _ => fun κ => κ n cs) (fun _ _ => fun _ => none) (fun i => fun κ => κ 1 [(XV.atom i)]) (fun l => fun κ => κ 1 [(XV.strA l)])
  () (fun _ _ _ _ => ())
def vNil : XV → (XV → R) → R := @XV.rec (fun _ => (XV → R) → R) (fun _ => Unit)
  (fun _ => none) (fun _ => none) (fun _ => fun _ => none) (fun _ _ => fun _ => none) (fun _ _ => fun _ => none) (fun b o => fun κ => κ (.ptr b o)) (fun _ => none) (fun _ _ _ _ _ => fun _ => none) (fun _ => none) (fun _ => none) (fun _ => fun _ => none) (fun _ => none) (fun _ _ _ _ _ => fun _ => none) (fun _ => none) (fun _ _ _ => fun _ => none) (fun _ => none) (fun _ _ _ => fun _ => none) (fun _ _ => fun _ => none) (fun _ => fun _ => none) (fun _ => fun _ => none)
  () (fun _ _ _ _ => ())
def vWantT : XV → (Bool → R) → R := @XV.rec (fun _ => (Bool → R) → R) (fun _ => Unit)
  (fun _ => none) (fun _ => none) (fun b => fun κ => κ b) (fun _ _ => fun κ => κ false) (fun _ _ => fun κ => κ false) (fun _ _ => fun κ => κ false) (fun κ => κ false) (fun _ _ _ _ _ => fun κ => κ false) (fun κ => κ false) (fun κ => κ false) (fun _ => fun κ => κ false) (fun κ => κ false) (fun _ _ _ _ _ => fun κ => κ false) (fun κ => κ false) (fun _ _ _ => fun κ => κ false) (fun κ => κ false) (fun _ _ _ => fun κ => κ false) (fun _ _ => fun κ => κ false) (fun _ => fun _ => none) (fun _ => fun κ => κ false)
  () (fun _ _ _ _ => ())
def vWantF : XV → (Bool → R) → R := @XV.rec (fun _ => (Bool → R) → R) (fun _ => Unit)
  (fun _ => none) (fun _ => none) (fun b => fun κ => κ (notB b)) (fun _ _ => fun κ => κ false) (fun _ _ => fun κ => κ false) (fun _ _ => fun κ => κ false) (fun κ => κ false) (fun _ _ _ _ _ => fun κ => κ false) (fun κ => κ false) (fun κ => κ false) (fun _ => fun κ => κ false) (fun κ => κ false) (fun _ _ _ _ _ => fun κ => κ false) (fun κ => κ false) (fun _ _ _ => fun κ => κ false) (fun κ => κ false) (fun _ _ _ => fun κ => κ false) (fun _ _ => fun κ => κ false) (fun _ => fun _ => none) (fun _ => fun κ => κ false)
  () (fun _ _ _ _ => ())
def vKey : XV → (IntKind → Int → R) → (Nat → Nat → R) → R := @XV.rec (fun _ => (IntKind → Int → R) → (Nat → Nat → R) → R) (fun _ => Unit)
  (fun _ _ => none) (fun _ _ => none) (fun _ => fun _ _ => none) (fun k n => fun κ _ => κ k n) (fun n c => fun _ κ => κ n c) (fun _ _ => fun _ _ => none) (fun _ _ => none) (fun _ _ _ _ _ => fun _ _ => none) (fun _ _ => none) (fun _ _ => none) (fun _ => fun _ _ => none) (fun _ _ => none) (fun _ _ _ _ _ => fun _ _ => none) (fun _ _ => none) (fun _ _ _ => fun _ _ => none) (fun _ _ => none) (fun _ _ _ => fun _ _ => none) (fun _ _ => fun _ _ => none) (fun _ => fun _ _ => none) (fun _ => fun _ _ => none)
  () (fun _ _ _ _ => ())
def vAtom : XV → (Nat → R) → R := @XV.rec (fun _ => (Nat → R) → R) (fun _ => Unit)
  (fun _ => none) (fun _ => none) (fun _ => fun _ => none) (fun _ _ => fun _ => none) (fun _ _ => fun _ => none) (fun _ _ => fun _ => none) (fun _ => none) (fun _ _ _ _ _ => fun _ => none) (fun _ => none) (fun _ => none) (fun _ => fun _ => none) (fun _ => none) (fun _ _ _ _ _ => fun _ => none) (fun _ => none) (fun _ _ _ => fun _ => none) (fun _ => none) (fun _ _ _ => fun _ => none) (fun _ _ => fun _ => none) (fun i => fun κ => κ i) (fun _ => fun _ => none)
  () (fun _ _ _ _ => ())
def vStrA : XV → (List Nat → R) → R → R := @XV.rec (fun _ => (List Nat → R) → R → R) (fun _ => Unit)
  (fun _ x => x) (fun _ x => x) (fun _ => fun _ x => x) (fun _ _ => fun _ x => x) (fun _ _ => fun _ x => x) (fun _ _ => fun _ x => x) (fun _ x => x) (fun _ _ _ _ _ => fun _ x => x) (fun _ x => x) (fun _ x => x) (fun _ => fun _ x => x) (fun _ x => x) (fun _ _ _ _ _ => fun _ x => x) (fun _ x => x) (fun _ _ _ => fun _ x => x) (fun _ x => x) (fun _ _ _ => fun _ x => x) (fun _ _ => fun _ x => x) (fun _ => fun _ x => x) (fun l => fun κ _ => κ l)
  () (fun _ _ _ _ => ())
def vAtB : XV → R → R → R := @XV.rec (fun _ => R → R → R) (fun _ => Unit)
  (fun _ x => x) (fun _ x => x) (fun _ => fun _ x => x) (fun _ _ => fun _ x => x) (fun _ _ => fun _ x => x) (fun _ _ => fun _ x => x) (fun _ x => x) (fun _ _ _ _ _ => fun _ x => x) (fun _ x => x) (fun _ x => x) (fun _ => fun _ x => x) (fun _ x => x) (fun _ _ _ _ _ => fun _ x => x) (fun _ x => x) (fun _ _ _ => fun _ x => x) (fun _ x => x) (fun _ _ _ => fun _ x => x) (fun _ _ => fun _ x => x) (fun _ => fun x _ => x) (fun _ => fun _ x => x)
  () (fun _ _ _ _ => ())
def vStrSl : XV → (Nat → Nat → R) → (Nat → Nat → Nat → R) → R → R := @XV.rec (fun _ => (Nat → Nat → R) → (Nat → Nat → Nat → R) → R → R) (fun _ => Unit)
  (fun _ _ _ => none) (fun _ _ _ => none) (fun _ => fun _ _ _ => none) (fun _ _ => fun _ _ _ => none) (fun n c => fun κ _ _ => κ n c) (fun _ _ => fun _ _ _ => none) (fun _ _ _ => none) (fun b o n _ _ => fun _ κ _ => κ b o n) (fun _ _ x => x) (fun _ _ x => x) (fun _ => fun _ _ _ => none) (fun _ _ _ => none) (fun _ _ _ _ _ => fun _ _ _ => none) (fun _ _ _ => none) (fun _ _ _ => fun _ _ _ => none) (fun _ _ _ => none) (fun _ _ _ => fun _ _ _ => none) (fun _ _ => fun _ _ _ => none) (fun _ => fun _ _ _ => none) (fun _ => fun _ _ _ => none)
  () (fun _ _ _ _ => ())


def cut : Bool → R → R := @Bool.rec (fun _ => R → R) (fun _ => none) (fun x => x)
def iNat : Int → (Nat → R) → R := @Int.rec (fun _ => (Nat → R) → R) (fun n κ => κ n) (fun _ _ => none)
def iff : Bool → R → R → R := @Bool.rec (fun _ => R → R → R) (fun _ y => y) (fun x _ => x)
def forceN : Nat → (Nat → R) → R := @Nat.rec (fun _ => (Nat → R) → R) (fun κ => κ 0) (fun n _ κ => κ (Nat.succ n))
def forceI : Int → (Int → R) → R := @Int.rec (fun _ => (Int → R) → R) (fun n κ => forceN n fun n => κ (.ofNat n)) (fun n κ => forceN n fun n => κ (.negSucc n))
def oCells : Option XB → (TypeId → Nat → List XV → Bool → Option Nat → Nat → Bool → R) → R := @Option.rec XB (fun _ => (TypeId → Nat → List XV → Bool → Option Nat → Nat → Bool → R) → R) (fun _ => none)
  (@XB.rec (fun _ => (TypeId → Nat → List XV → Bool → Option Nat → Nat → Bool → R) → R) (fun e n cs p k f r κ => κ e n cs p k f r) (fun _ _ _ => none) (fun _ _ _ _ => none))
def oMap : Option XB → (List (XV × XV) → Nat → R) → R := @Option.rec XB (fun _ => (List (XV × XV) → Nat → R) → R) (fun _ => none)
  (@XB.rec (fun _ => (List (XV × XV) → Nat → R) → R) (fun _ _ _ _ _ _ _ _ => none) (fun es c κ => κ es c) (fun _ _ _ _ => none))
def oIter : Option XB → (Nat → Nat → Nat → R) → R := @Option.rec XB (fun _ => (Nat → Nat → Nat → R) → R) (fun _ => none)
  (@XB.rec (fun _ => (Nat → Nat → Nat → R) → R) (fun _ _ _ _ _ _ _ _ => none) (fun _ _ _ => none) (fun n c p κ => κ n c p))
def dropL : Nat → List XV → List XV := @Nat.rec (fun _ => List XV → List XV) (fun l => l) (fun _ ih l => @List.rec XV (fun _ => List XV) [] (fun _ t _ => ih t) l)
def takeL : Nat → List XV → List XV := @Nat.rec (fun _ => List XV → List XV) (fun _ => []) (fun _ ih l => @List.rec XV (fun _ => List XV) [] (fun x t _ => x :: ih t) l)
def nthO : Nat → List XV → (XV → R) → R := @Nat.rec (fun _ => List XV → (XV → R) → R) (fun l κ => @List.rec XV (fun _ => R) none (fun x _ _ => κ x) l) (fun _ ih l κ => @List.rec XV (fun _ => R) none (fun _ t _ => ih t κ) l)
def overL (vs : List XV) : List XV → List XV := @List.rec XV (fun _ => List XV → List XV) (fun cs => cs) (fun v _ ih cs => @List.rec XV (fun _ => List XV) [] (fun _ t _ => v :: ih t) cs) vs
def setL (vs : List XV) : Nat → List XV → List XV := @Nat.rec (fun _ => List XV → List XV) (fun cs => overL vs cs) (fun _ ih cs => @List.rec XV (fun _ => List XV) [] (fun c t _ => c :: ih t) cs)
def appL (ys : List XV) : List XV → List XV := @List.rec XV (fun _ => List XV) ys (fun x _ ih => x :: ih)
def repL (l : List XV) : Nat → List XV := @Nat.rec (fun _ => List XV) [] (fun _ ih => appL ih l)
def bytesL : Nat → Nat → List XV := @Nat.rec (fun _ => Nat → List XV) (fun _ => []) (fun _ ih c => .int .u8 (.ofNat (Nat.mod c 256)) :: ih (Nat.div c 256))
def lenC : List XV → Nat := @List.rec XV (fun _ => Nat) 0 (fun _ _ ih => Nat.succ ih)
def kNum : IntKind → Nat := @IntKind.rec (fun _ => Nat) 0 1 2 3 4 5 6 7

def dep : Nat := 14
def lim : Nat := 16000

/-! numbers -/
def byteAt (c i : Nat) : Nat := Nat.mod (Nat.shiftRight c (Nat.mul 8 i)) 256
def cutC (c l n : Nat) : Nat := Nat.mod (Nat.shiftRight c (Nat.mul 8 l)) (Nat.pow 2 (Nat.mul 8 n))


def addX : Int → Int → Int := @Int.rec (fun _ => Int → Int)
  (fun a => @Int.rec (fun _ => Int) (fun b => .ofNat (Nat.add a b)) (fun b => @Bool.rec (fun _ => Int) (.negSucc (Nat.sub b a)) (.ofNat (Nat.sub a (Nat.succ b))) (Nat.blt b a)))
  (fun a => @Int.rec (fun _ => Int) (fun b => @Bool.rec (fun _ => Int) (.negSucc (Nat.sub a b)) (.ofNat (Nat.sub b (Nat.succ a))) (Nat.blt a b)) (fun b => .negSucc (Nat.succ (Nat.add a b))))
def negX : Int → Int := @Int.rec (fun _ => Int) (fun n => @Nat.rec (fun _ => Int) (.ofNat 0) (fun m _ => .negSucc m) n) (fun n => .ofNat (Nat.succ n))
def eqX : Int → Int → Bool := @Int.rec (fun _ => Int → Bool) (fun a => @Int.rec (fun _ => Bool) (fun b => Nat.beq a b) (fun _ => false)) (fun a => @Int.rec (fun _ => Bool) (fun _ => false) (fun b => Nat.beq a b))
def ltX : Int → Int → Bool := @Int.rec (fun _ => Int → Bool) (fun a => @Int.rec (fun _ => Bool) (fun b => Nat.blt a b) (fun _ => false)) (fun a => @Int.rec (fun _ => Bool) (fun _ => true) (fun b => Nat.blt b a))
def wrapS (M H : Nat) (r : Nat) : Int := @Bool.rec (fun _ => Int) (.negSucc (Nat.sub (Nat.sub M 1) r)) (.ofNat r) (Nat.blt r H)
def resid (M : Nat) : Int → Nat := @Int.rec (fun _ => Nat) (fun m => Nat.mod m M) (fun m => Nat.sub (Nat.sub M 1) (Nat.mod m M))
def wrapX : IntKind → Int → Int := @IntKind.rec (fun _ => Int → Int)
  (fun n => wrapS 256 128 (resid 256 n)) (fun n => wrapS 65536 32768 (resid 65536 n)) (fun n => wrapS 4294967296 2147483648 (resid 4294967296 n)) (fun n => wrapS 18446744073709551616 9223372036854775808 (resid 18446744073709551616 n))
  (fun n => .ofNat (resid 256 n)) (fun n => .ofNat (resid 65536 n)) (fun n => .ofNat (resid 4294967296 n)) (fun n => .ofNat (resid 18446744073709551616 n))

/-! sameness -/
def sameF : XV → XV → R → R := @XV.rec (fun _ => XV → R → R) (fun _ => Unit)
  (fun _ _ => none) (fun _ _ => none) (fun b => fun u x => vBool u fun b1 => cut (eqB b b1) x) (fun k n => fun u x => vInt u fun k1 n1 => cut (andB (Nat.beq (kNum k) (kNum k1)) (eqX n n1)) x) (fun n c => fun u x => vStr u fun n1 c1 => cut (andB (Nat.beq n n1) (Nat.beq c c1)) x) (fun b o => fun u x => vPtr u fun b1 o1 => cut (andB (Nat.beq b b1) (Nat.beq o o1)) x) (fun u x => vPtrN u (fun _ _ => none) x) (fun b o n c m => fun u x => vSl u (fun b1 o1 n1 c1 m1 => cut (andB (Nat.beq b b1) (andB (Nat.beq o o1) (andB (Nat.beq n n1) (andB (Nat.beq c c1) (Nat.beq m m1))))) x) none none) (fun u x => vSl u (fun _ _ _ _ _ => none) x none) (fun u x => none) (fun r => fun u x => vMap u (fun r1 => cut (Nat.beq r r1) x) none) (fun u x => vMap u (fun _ => none) x) (fun _ _ _ _ _ => fun _ _ => none) (fun u x => vFunc u (fun _ _ _ => none) x) (fun _ _ _ => fun _ _ => none) (fun u x => vIface u (fun _ _ => none) x) (fun _ _ _ => fun _ _ => none) (fun _ _ => fun _ _ => none) (fun i => fun u x => vAtom u fun i1 => cut (Nat.beq i i1) x) (fun l => fun u x => vStrA u (fun l1 => cut (eqNs l l1) x) none)
  () (fun _ _ _ _ => ())
def sameL : List XV → List XV → R → R := @List.rec XV (fun _ => List XV → R → R) (fun l x => @List.rec XV (fun _ => R) x (fun _ _ _ => none) l) (fun v _ ih l x => @List.rec XV (fun _ => R) none (fun u us _ => sameF v u (ih us x)) l)
def same : XV → XV → R → R := @XV.rec (fun _ => XV → R → R) (fun _ => Unit)
  (fun u x => sameF XV.unk u x) (fun u x => sameF XV.bad u x) (fun b => fun u x => sameF (XV.bool b) u x) (fun k n => fun u x => sameF (XV.int k n) u x) (fun n c => fun u x => sameF (XV.str n c) u x) (fun b o => fun u x => sameF (XV.ptr b o) u x) (fun u x => sameF XV.ptrNil u x) (fun b o n c m => fun u x => sameF (XV.slice b o n c m) u x) (fun u x => sameF XV.sliceNil u x) (fun u x => sameF XV.sliceE u x) (fun r => fun u x => sameF (XV.map r) u x) (fun u x => sameF XV.mapNil u x) (fun fn f c _ _ => fun u x => sameF (XV.func fn f c) u x) (fun u x => sameF XV.nilFunc u x) (fun t v _ => fun u x => sameF (XV.iface t v) u x) (fun u x => sameF XV.nilIface u x) (fun n cs _ => fun u x => vAgg u fun n1 cs1 => cut (Nat.beq n n1) (sameL cs cs1 x)) (fun vs _ => fun u x => vTuple u fun vs1 => sameL vs vs1 x) (fun i => fun u x => sameF (XV.atom i) u x) (fun l => fun u x => sameF (XV.strA l) u x)
  () (fun _ _ _ _ => ())
def vId : XV → (Nat → R) → R := @XV.rec (fun _ => (Nat → R) → R) (fun _ => Unit)
  (fun _ => none) (fun _ => none) (fun _ => fun _ => none) (fun _ _ => fun _ => none) (fun _ _ => fun _ => none) (fun b _ => fun κ => κ b) (fun _ => none) (fun b _ _ _ _ => fun κ => κ b) (fun _ => none) (fun _ => none) (fun r => fun κ => κ r) (fun _ => none) (fun _ _ _ _ _ => fun _ => none) (fun _ => none) (fun _ _ _ => fun _ => none) (fun _ => none) (fun _ _ _ => fun _ => none) (fun _ _ => fun _ => none) (fun _ => fun _ => none) (fun _ => fun _ => none)
  () (fun _ _ _ _ => ())

/-! rows of a table -/

def nthT {α : Type} : Nat → List α → Option α := @Nat.rec (fun _ => List α → Option α) (fun l => @List.rec α (fun _ => Option α) none (fun x _ _ => some x) l) (fun _ ih l => @List.rec α (fun _ => Option α) none (fun _ t _ => ih t) l)

def funcAt (P : Program) (f : FuncId) : Option Func := nthT f P.funcs.toList
def infoAt (P : Program) (t : TypeId) : Option TypeInfo := nthT t P.types.toList

/-! types -/
def descOf (P : Program) : TypeDesc → Option TypeDesc
  | .named _ u => match infoAt P u with
    | some i => some i.desc
    | none => none
  | d => some d
def under (P : Program) (t : TypeId) : Option TypeDesc := match infoAt P t with
  | some i => descOf P i.desc
  | none => none
def size (P : Program) (t : TypeId) : Option Nat := match infoAt P t with
  | some i => some i.size
  | none => none
def bytesOf (P : Program) (t : TypeId) : Option Nat := match infoAt P t with
  | some i => some i.bytes
  | none => none
def aggD : TypeDesc → Bool
  | .struct _ | .array .. => true
  | _ => false
def isAgg (P : Program) (t : TypeId) : Option Bool := match under P t with
  | some d => some (aggD d)
  | none => none
def notInt (P : Program) (t : TypeId) : Bool := match under P t with
  | some (.int _) => false
  | some _ => true
  | none => false

/-! constants -/
def codeL : List UInt8 → Nat
  | [] => 0
  | b :: bs => Nat.add b.toNat (Nat.mul 256 (codeL bs))
def ofFlat : Value → XV
  | .bool b => .bool b
  | .int k n => .int k n
  | .string s => .str s.size (codeL s.data.toList)
  | .pointer none => .ptrNil
  | .slice none 0 0 => .sliceNil
  | .map none => .mapNil
  | .nilFunc => .nilFunc
  | .nilIface => .nilIface
  | .agg _ => .bad
  | .tuple _ => .bad
  | _ => .unk
def allFlat : List Value → Bool
  | [] => true
  | .agg _ :: _ => false
  | .tuple _ :: _ => false
  | _ :: vs => allFlat vs
def ofFlats : List Value → List XV
  | [] => []
  | v :: vs => ofFlat v :: ofFlats vs
def undefX : XV := .tuple []
def ofValue : Value → XV
  | .agg cs => match allFlat cs.toList with
    | true => .agg cs.size (ofFlats cs.toList)
    | false => .bad
  | .tuple ⟨[]⟩ => undefX
  | v => ofFlat v
/-- a type's zero cells -/
def zeroOf (P : Program) (t : TypeId) : Option (List XV) := match infoAt P t with
  | some i => match i.zero with
    | some (.agg cs) => match allFlat cs.toList with
      | true => some (ofFlats cs.toList)
      | false => none
    | some (.tuple _) => none
    | some v => some [ofFlat v]
    | none => none
  | none => none

abbrev Sl := S4 XV
def emptySl : Sl := match (⟨undefX, undefX, undefX, undefX, undefX, undefX, undefX, undefX, undefX, undefX, undefX, undefX, undefX, undefX, undefX, undefX⟩ : N4 XV) with
  | a => ⟨a, a, a, a, a, a, a, a, a, a, a, a, a, a, a, a⟩

abbrev BE := BG Sl XV
structure BL where
  f : Sl → List XV
structure BV where
  f : Sl → XW → (XV → R) → R
structure BA where
  f : Sl → (XB → (Nat → XV) → R) → R
structure BF where
  f : Sl → XW → (XV → XW → R) → R
structure BD where
  f : Sl → (FuncId → List XV → R) → R
structure BN where
  f : Sl → Nat → (Nat → R) → R
structure BQ where
  f : XV → XV → (Bool → R) → R
structure BP where
  f : Nat → List XV → (XV → R) → R

def noV : BV := ⟨fun _ _ _ => none⟩
def noA : BA := ⟨fun _ _ => none⟩
def noF : BF := ⟨fun _ _ _ => none⟩

/-! operands -/
def getB (n : Nat) : BE := match Nat.blt n 256 with
  | true => match get4 n with
    | ⟨g⟩ => ⟨g⟩
  | false => ⟨fun _ => undefX⟩

def cE : Operand → BE
  | .tmp t => getB t
  | .const v => match ofValue v with
    | x => ⟨fun _ => x⟩
  | .global g => match g with
    | 0 => ⟨fun _ => .ptr 0 0⟩
    | _ => ⟨fun _ => .bad⟩
  | .func f => ⟨fun _ => .func (.func f) [] []⟩

def cEs : List Operand → BL
  | [] => ⟨fun _ => []⟩
  | x :: xs => match cE x, cEs xs with
    | ⟨f⟩, ⟨g⟩ => ⟨fun t => f t :: g t⟩

def u1 (x : Operand) (k : XV → XW → (XV → R) → R) : BV := match cE x with
  | ⟨f⟩ => ⟨fun t w κ => k (f t) w κ⟩
def u2 (x y : Operand) (k : XV → XV → XW → (XV → R) → R) : BV := match cE x, cE y with
  | ⟨f⟩, ⟨g⟩ => ⟨fun t w κ => k (f t) (g t) w κ⟩

/-! cells -/
def hCells (w : XW) (b : Nat) (κ : TypeId → Nat → List XV → Bool → Option Nat → Nat → Bool → R) : R := oCells (w.heap.get b) κ

def loadN (n : Nat) (w : XW) (b o : Nat) (κ : List XV → R) : R :=
  hCells w b fun _ m cs _ _ _ _ => cut (Nat.ble (Nat.add o n) m) (κ (takeL n (dropL o cs)))

def load1 (w : XW) (b o : Nat) (κ : XV → R) : R :=
  hCells w b fun _ m cs _ _ _ _ => cut (Nat.blt o m) (nthO o cs κ)

def kill (h : Tr XB) (k : Option Nat) : Tr XB := @Option.rec Nat (fun _ => Tr XB) h (fun b => h.set dep b none) k
def kinOk (k : Option Nat) : Bool := @Option.rec Nat (fun _ => Bool) true (fun b => Nat.blt b lim) k

def putAt (w : XW) (b : Nat) (x : XB) : XW := ⟨w.heap.set dep b (some x), w.next⟩

/-- cells stored -/
def storeAt (w : XW) (b o n : Nat) (vs : List XV) (κ : XW → R) : R :=
  hCells w b fun e m cs p k f ro => cut (andB (Nat.ble f o) (andB (Nat.ble (Nat.add o n) m) (andB (notB ro) (andB (Nat.blt b lim) (kinOk k)))))
    (κ ⟨(kill w.heap k).set dep b (some (.cells e m (setL vs o cs) p none f false)), w.next⟩)

/-- a new block -/
def newB (x : XB) (w : XW) (κ : Nat → XW → R) : R :=
  forceN w.next fun n => cut (Nat.blt n lim) (κ n ⟨w.heap.set dep n (some x), Nat.succ n⟩)

/-! a part of cells -/
def cPart (P : Program) (t : TypeId) (off : Nat) : BP := match isAgg P t, size P t with
  | some true, some n => ⟨fun m cs κ => cut (Nat.ble (Nat.add off n) m) (κ (.agg n (takeL n (dropL off cs))))⟩
  | some false, some _ => ⟨fun m cs κ => cut (Nat.blt off m) (nthO off cs κ)⟩
  | _, _ => ⟨fun _ _ _ => none⟩

/-! equality -/
def noQ : BQ := ⟨fun _ _ _ => none⟩
def qInt : BQ := ⟨fun x y κ => vInt x fun k a => vInt y fun k' b => cut (Nat.beq (kNum k) (kNum k')) (κ (eqX a b))⟩
def vSlN (v : XV) (x y : R) : R := vSl v (fun _ _ _ _ _ => x) y none
def vMapN (v : XV) (x y : R) : R := vMap v (fun _ => x) y
def vFuncN (v : XV) (x y : R) : R := vFunc v (fun _ _ _ => x) y
def vIfaceN (v : XV) (x y : R) : R := vIface v (fun _ _ => x) y

def qvSlN : BQ := ⟨fun x y κ => vSlN x (vSlN y none (κ false)) (vSlN y (κ false) (κ true))⟩
def qvMapN : BQ := ⟨fun x y κ => vMapN x (vMapN y none (κ false)) (vMapN y (κ false) (κ true))⟩
def qvFuncN : BQ := ⟨fun x y κ => vFuncN x (vFuncN y none (κ false)) (vFuncN y (κ false) (κ true))⟩
def qvIfaceN : BQ := ⟨fun x y κ => vIfaceN x (vIfaceN y none (κ false)) (vIfaceN y (κ false) (κ true))⟩
def cEqF (P : Program) (eq : TypeId → BQ) : List Field → BQ
  | [] => ⟨fun _ _ κ => κ true⟩
  | f :: fs => match f.name == "_" with
    | true => cEqF P eq fs
    | false => match cPart P f.type f.offset, eq f.type, cEqF P eq fs with
      | ⟨p⟩, ⟨q⟩, ⟨g⟩ => ⟨fun x y κ => vAgg x fun n cs => vAgg y fun m es => p n cs fun a => p m es fun b => q a b fun r => iff r (g x y κ) (κ false)⟩
def cEqA (P : Program) (e : TypeId) (n : Nat) (q : XV → XV → (Bool → R) → R) : Nat → Nat → BQ
  | 0, _ => ⟨fun _ _ κ => κ true⟩
  | len + 1, i => match cPart P e (i * n), cEqA P e n q len (i + 1) with
    | ⟨p⟩, ⟨g⟩ => ⟨fun x y κ => vAgg x fun n cs => vAgg y fun m es => p n cs fun a => p m es fun b => q a b fun r => iff r (g x y κ) (κ false)⟩
def cEq (P : Program) : Nat → TypeId → BQ
  | 0, _ => noQ
  | d + 1, t => match under P t with
    | some .bool => ⟨fun x y κ => vBool x fun a => vBool y fun b => κ (eqB a b)⟩
    | some (.int _) => qInt
    | some .string => ⟨fun x y κ => vStr x fun n c => vStr y fun m e => κ (andB (Nat.beq n m) (Nat.beq c e))⟩
    | some (.pointer e) => match size P e with
      | some (_ + 1) => ⟨fun x y κ => vPtrN x (fun b o => vPtrN y (fun b' o' => cut (Nat.beq b b') (κ (Nat.beq o o'))) (κ false)) (vPtrN y (fun _ _ => κ false) (κ true))⟩
      | _ => noQ
    | some (.interface _) => qvIfaceN
    | some (.slice _) => qvSlN
    | some (.map ..) => qvMapN
    | some (.func ..) => qvFuncN
    | some (.struct fs) => match P.stoodInHeld t with
      | true => noQ
      | false => match cEqF P (fun t => cEq P d t) fs.toList with
        | ⟨g⟩ => ⟨fun x y κ => vAgg x fun n cs => vAgg y fun m es => g (.agg n cs) (.agg m es) κ⟩
    | some (.array len e) => match size P e with
      | some n => match cEq P d e with
        | ⟨q⟩ => match cEqA P e n q len 0 with
          | ⟨g⟩ => ⟨fun x y κ => vAgg x fun n cs => vAgg y fun m es => g (.agg n cs) (.agg m es) κ⟩
      | none => noQ
    | _ => noQ

/-! operators -/
def intB (op : BinOp) : Option (IntKind → Int → Int → (XV → R) → R) := match op with
  | .add => some fun k a b κ => forceI (wrapX k (addX a b)) fun n => κ (.int k n)
  | .sub => some fun k a b κ => forceI (wrapX k (addX a (negX b))) fun n => κ (.int k n)
  | .mul => some fun k a b κ => forceI (wrapX k (Int.mul a b)) fun n => κ (.int k n)
  | .eql => some fun _ a b κ => κ (.bool (eqX a b))
  | .neq => some fun _ a b κ => κ (.bool (notB (eqX a b)))
  | .lss => some fun _ a b κ => κ (.bool (ltX a b))
  | .leq => some fun _ a b κ => κ (.bool (notB (ltX b a)))
  | .gtr => some fun _ a b κ => κ (.bool (ltX b a))
  | .geq => some fun _ a b κ => κ (.bool (notB (ltX a b)))
  | .quo => some fun k a b κ => iNat a fun a => iNat b fun b => cut (notB (Nat.beq b 0)) (forceI (wrapX k (.ofNat (Nat.div a b))) fun n => κ (.int k n))
  | .rem => some fun k a b κ => iNat a fun a => iNat b fun b => cut (notB (Nat.beq b 0)) (forceN (Nat.mod a b) fun n => κ (.int k (.ofNat n)))
  | .and => some fun k a b κ => iNat a fun a => iNat b fun b => forceI (wrapX k (.ofNat (Nat.land a b))) fun n => κ (.int k n)
  | .or => some fun k a b κ => iNat a fun a => iNat b fun b => forceI (wrapX k (.ofNat (Nat.lor a b))) fun n => κ (.int k n)
  | .andNot => some fun k a b κ => iNat a fun a => iNat b fun b => forceI (wrapX k (.ofNat (Nat.land a (Nat.sub (Nat.sub (Nat.pow 2 k.bits) 1) (Nat.mod b (Nat.pow 2 k.bits)))))) fun n => κ (.int k n)
  | .xor => some fun k a b κ => iNat a fun a => iNat b fun b => forceI (wrapX k (.ofNat (Nat.xor a b))) fun n => κ (.int k n)
  | _ => none

def shB (op : BinOp) : Option (IntKind → Nat → Nat → (XV → R) → R) := match op with
  | .shl => some fun k a b κ => cut (Nat.ble b k.bits) (forceI (wrapX k (.ofNat (Nat.mul a (Nat.pow 2 b)))) fun n => κ (.int k n))
  | .shr => some fun k a b κ => cut (Nat.ble b k.bits) (forceN (Nat.div a (Nat.pow 2 b)) fun n => κ (.int k (.ofNat n)))
  | _ => none

def strB (op : BinOp) : Option (Nat → Nat → Nat → Nat → (XV → R) → R) := match op with
  | .add => some fun n c m d κ => forceN (Nat.add n m) fun s => cut (Nat.blt s 1000000) (forceN (Nat.add c (Nat.shiftLeft d (Nat.mul 8 n))) fun c => κ (.str s c))
  | .eql => some fun n c m d κ => κ (.bool (andB (Nat.beq n m) (Nat.beq c d)))
  | .neq => some fun n c m d κ => κ (.bool (notB (andB (Nat.beq n m) (Nat.beq c d))))
  | _ => none

def isConst : Operand → Bool
  | .const _ => true
  | _ => false

def eqOp : BinOp → Option Bool
  | .eql => some true
  | .neq => some false
  | _ => none

/-- a comparison of anything but numbers and strings -/
def cCmp (P : Program) (want : Bool) (t : TypeId) (x y : Operand) : BV := match cE x, cE y, cEq P 60 t with
  | ⟨f⟩, ⟨g⟩, ⟨q⟩ => match under P t with
    | some (.interface _) => match isConst x || isConst y with
      | true => ⟨fun s _ κ => q (f s) (g s) fun r => κ (.bool (eqB want r))⟩
      | false => ⟨fun s _ κ => vIfaceN (f s) (q (f s) (g s) fun r => κ (.bool (eqB want r))) none⟩
    | some (.struct _) | some (.array ..) => match P.eqGuardType P.depth t with
      | true => noV
      | false => ⟨fun s _ κ => q (f s) (g s) fun r => κ (.bool (eqB want r))⟩
    | some .bool | some (.pointer _) | some (.slice _) | some (.map ..) | some (.func ..) => ⟨fun s _ κ => q (f s) (g s) fun r => κ (.bool (eqB want r))⟩
    | _ => noV

def cBin (P : Program) (op : BinOp) (t : TypeId) (x y : Operand) : BV := match under P t with
  | some (.int _) => match intB op, shB op, cE x, cE y with
    | some h, _, ⟨f⟩, ⟨g⟩ => ⟨fun s _ κ => vInt (f s) fun k a => vInt (g s) fun k' b => cut (Nat.beq (kNum k) (kNum k')) (h k a b κ)⟩
    | none, some h, ⟨f⟩, ⟨g⟩ => ⟨fun s _ κ => vInt (f s) fun k a => vInt (g s) fun _ b => iNat a fun a => iNat b fun b => h k a b κ⟩
    | none, none, _, _ => noV
  | some .string => match strB op, cE x, cE y with
    | some h, ⟨f⟩, ⟨g⟩ => ⟨fun s _ κ => vStr (f s) fun n c => vStr (g s) fun m d => h n c m d κ⟩
    | none, _, _ => noV
  | _ => match eqOp op with
    | some want => cCmp P want t x y
    | none => noV

def cUn (op : UnOp) (x : Operand) : BV := match op with
  | .not => u1 x fun v _ κ => vBool v fun b => κ (.bool (notB b))
  | .neg => u1 x fun v _ κ => vInt v fun k n => forceI (wrapX k (negX n)) fun n => κ (.int k n)
  | .xor => u1 x fun v _ κ => vInt v fun k n => forceI (wrapX k (addX (negX n) (.negSucc 0))) fun n => κ (.int k n)
  | _ => noV

/-! strings out of cells -/
def bytesX : List XV → (Nat → R) → R := @List.rec XV (fun _ => (Nat → R) → R) (fun κ => κ 0) (fun v _ ih κ => vInt v fun k n => cut (Nat.beq (kNum k) 4) (iNat n fun n => cut (Nat.blt n 256) (ih fun c => forceN (Nat.add n (Nat.mul 256 c)) κ)))

/-- the atoms of cells -/
def atsX : List XV → (List Nat → R) → R := @List.rec XV (fun _ => (List Nat → R) → R) (fun κ => κ []) (fun v _ ih κ => vAtom v fun i => cut (Nat.ble byteFrom i) (ih fun l => κ (i :: l)))
def strX (n : Nat) (l : List XV) (κ : XV → R) : R := @List.rec XV (fun _ => R) (bytesX l fun c => κ (.str n c)) (fun v _ _ => vAtB v (atsX l fun a => κ (.strA a)) (bytesX l fun c => κ (.str n c))) l

def cConv (P : Program) (src dst : TypeId) (x : Operand) : BV := match under P src, under P dst with
  | some .unsafePointer, some .unsafePointer => u1 x fun v _ κ => vPtrN v (fun b o => κ (.ptr b o)) (κ .ptrNil)
  | some (.pointer t), some .unsafePointer => match size P t with
    | some (_ + 1) => u1 x fun v w κ => vPtrN v (fun b o => hCells w b fun _ m _ _ _ _ _ => cut (Nat.blt o m) (κ (.ptr b o))) (κ .ptrNil)
    | _ => noV
  | some .unsafePointer, some (.pointer u) => match size P u with
    | some _ => u1 x fun v w κ => vPtrN v (fun b o => hCells w b fun e m _ p _ _ _ => cut (andB p (Go.liesAt P P.depth e (m / P.cellsOf e) o u 1)) (κ (.ptr b o))) (κ .ptrNil)
    | none => noV
  | some (.int _), some (.int k) => u1 x fun v _ κ => vInt v fun _ n => forceI (wrapX k n) fun n => κ (.int k n)
  | some .string, some .string => u1 x fun v _ κ => vStr v fun n c => κ (.str n c)
  | some (.slice e), some .string => match under P e with
    | some (.int .u8) => u1 x fun v w κ => vSl v (fun b o n _ _ => loadN n w b o fun l => strX n l κ) (κ (.str 0 0)) none
    | _ => noV
  | _, _ => noV

/-- a string's bytes in a new block; it is not written -/
def cBytes (P : Program) (src dst : TypeId) (x : Operand) : Option BF := match under P src, under P dst with
  | some .string, some (.slice e) => match under P e, cE x with
    | some (.int .u8), ⟨f⟩ => some ⟨fun s w κ => vStr (f s) fun n c => newB (.cells e n (bytesL n c) false none 0 true) w fun id w => κ (.slice id 0 n n 1) w⟩
    | _, _ => none
  | _, _ => none

/-! places -/
def fieldOff (P : Program) (s : TypeId) (f : Nat) : Option Nat := match under P s with
  | some (.struct fs) => match fs[f]? with
    | some fd => match size P fd.type with
      | some (_ + 1) => some fd.offset
      | _ => none
    | none => none
  | _ => none

def cFieldAddr (P : Program) (s : TypeId) (x : Operand) (f : Nat) : BV := match fieldOff P s f with
  | some d => u1 x fun v _ κ => vPtr v fun b o => κ (.ptr b (Nat.add o d))
  | none => noV

def cField (P : Program) (t : TypeId) (x : Operand) (f : Nat) : BV := match under P t with
  | some (.struct fs) => match fs[f]? with
    | some fd => match cPart P fd.type fd.offset with
      | ⟨p⟩ => u1 x fun v _ κ => vAgg v fun n cs => p n cs κ
    | none => noV
  | _ => noV

def cIndexAddr (P : Program) (t : TypeId) (x ix : Operand) : BV := match under P t with
  | some (.array len e) => match size P e with
    | some sz => u2 x ix fun v i _ κ => vInt i fun _ i => iNat i fun i => cut (Nat.blt i len) (vPtr v fun b o => κ (.ptr b (Nat.add o (Nat.mul i sz))))
    | none => noV
  | some (.slice e) => match size P e with
    | some sz => u2 x ix fun v i _ κ => vInt i fun _ i => iNat i fun i => vSl v (fun b o n _ _ => cut (Nat.blt i n) (κ (.ptr b (Nat.add o (Nat.mul i sz))))) none none
    | none => noV
  | _ => noV

def cIndex (P : Program) (t : TypeId) (x ix : Operand) : BV := match under P t with
  | some (.array len e) => match size P e, isAgg P e with
    | some sz, some false => u2 x ix fun v i _ κ => vInt i fun _ i => iNat i fun i => cut (Nat.blt i len) (vAgg v fun m cs => cut (Nat.blt (Nat.mul i sz) m) (nthO (Nat.mul i sz) cs κ))
    | some sz, some true => u2 x ix fun v i _ κ => vInt i fun _ i => iNat i fun i => cut (Nat.blt i len) (vAgg v fun m cs => cut (Nat.ble (Nat.add (Nat.mul i sz) sz) m) (κ (.agg sz (takeL sz (dropL (Nat.mul i sz) cs)))))
    | _, _ => noV
  | some .string => u2 x ix fun v i _ κ => vInt i fun _ i => iNat i fun i => vStr v fun n c => cut (Nat.blt i n) (forceN (byteAt c i) fun b => κ (.int .u8 (.ofNat b)))
  | _ => noV

def cLoad (P : Program) (t : TypeId) (x : Operand) : BV := match isAgg P t, size P t with
  | some true, some n => u1 x fun v w κ => vPtr v fun b o => loadN n w b o fun l => κ (.agg n l)
  | some false, some _ => u1 x fun v w κ => vPtr v fun b o => load1 w b o κ
  | _, _ => noV

/-! slices -/
def cO : Option Operand → BN
  | none => ⟨fun _ d κ => κ d⟩
  | some x => match cE x with
    | ⟨f⟩ => ⟨fun s _ κ => vInt (f s) fun _ i => iNat i κ⟩

def cSlice (P : Program) (t : TypeId) (x : Operand) (lo hi mx : Option Operand) : BV := match cE x, cO lo, cO hi, cO mx with
  | ⟨f⟩, ⟨lo'⟩, ⟨hi'⟩, ⟨mx'⟩ =>
    match (mx.isSome && hi.isNone) with
    | true => noV
    | false => match under P t with
      | some .string => match mx with
        | some _ => noV
        | none => ⟨fun s _ κ => vStr (f s) fun n c => hi' s n fun h => cut (Nat.ble h n) (lo' s 0 fun l => cut (Nat.ble l h) (forceN (cutC c l (Nat.sub h l)) fun c => κ (.str (Nat.sub h l) c)))⟩
      | some (.slice e) => match size P e with
        | some sz => ⟨fun s _ κ => vSl (f s)
            (fun b o n c m => mx' s c fun q => cut (Nat.ble q c) (hi' s n fun h => cut (Nat.ble h q) (lo' s 0 fun l => cut (Nat.ble l h)
              (iff (Nat.beq q l)
                (match mx with
                  | some _ => κ (.slice b o (Nat.sub h l) (Nat.sub q l) 0)
                  | none => iff (Nat.beq m 0) (κ (.slice b o (Nat.sub h l) (Nat.sub q l) 0)) (κ .sliceE))
                (match mx with
                  | some _ => κ (.slice b (Nat.add o (Nat.mul l sz)) (Nat.sub h l) (Nat.sub q l) 0)
                  | none => cut (orB (Nat.beq m 0) (Nat.beq m sz)) (κ (.slice b (Nat.add o (Nat.mul l sz)) (Nat.sub h l) (Nat.sub q l) m)))))))
            (mx' s 0 fun q => cut (Nat.beq q 0) (hi' s 0 fun h => cut (Nat.beq h 0) (lo' s 0 fun l => cut (Nat.beq l 0) (κ .sliceNil))))
            (match mx with
              | some _ => none
              | none => hi' s 0 fun h => cut (Nat.beq h 0) (lo' s 0 fun l => cut (Nat.beq l 0) (κ .sliceE)))⟩
        | none => noV
      | some (.array n e) => match size P e with
        | some sz => ⟨fun s _ κ => vPtr (f s) fun b o => mx' s n fun q => cut (Nat.ble q n) (hi' s n fun h => cut (Nat.ble h q) (lo' s 0 fun l => cut (Nat.ble l h)
            (iff (Nat.beq q l) (κ (.slice b o (Nat.sub h l) (Nat.sub q l) 0)) (κ (.slice b (Nat.add o (Nat.mul l sz)) (Nat.sub h l) (Nat.sub q l) 0)))))⟩
        | none => noV
      | _ => noV

/-! structs, arrays -/
structure BFl where
  f : Sl → List XV → (List XV → R) → R

def cFill (place : Nat → Option (Nat × Nat)) (tot : Nat) : List (Nat × Operand) → BFl
  | [] => ⟨fun _ cs κ => κ cs⟩
  | (i, x) :: rest => match place i with
    | none => ⟨fun _ _ _ => none⟩
    | some (off, sz) => match Nat.ble (off + sz) tot, cE x, cFill place tot rest with
      | true, ⟨g⟩, ⟨h⟩ => ⟨fun s cs κ => vCells (g s) fun n l => cut (Nat.beq n sz) (h s (setL l off cs) κ)⟩
      | false, _, _ => ⟨fun _ _ _ => none⟩

def fieldPlace (P : Program) (fs : Array Field) (i : Nat) : Option (Nat × Nat) := match fs[i]? with
  | some f => match size P f.type with
    | some s => some (f.offset, s)
    | none => none
  | none => none
/-- every field's type is there -/
def fieldsOk (P : Program) : List Field → Bool
  | [] => true
  | f :: fs => match size P f.type with
    | some _ => fieldsOk P fs
    | none => false

def cBuild (P : Program) (t : TypeId) (parts : List (Nat × Operand)) : BV := match zeroOf P t, under P t with
  | some z, some (.struct fs) => match fieldsOk P fs.toList, lenC z with
    | true, n => match cFill (fieldPlace P fs) n parts with
      | ⟨h⟩ => ⟨fun s _ κ => h s z fun cs => κ (.agg n cs)⟩
    | false, _ => noV
  | some z, some (.array _ e) => match size P e, lenC z with
    | some sz, n => match cFill (fun i => some (i * sz, sz)) n parts with
      | ⟨h⟩ => ⟨fun s _ κ => h s z fun cs => κ (.agg n cs)⟩
    | none, _ => noV
  | _, _ => noV

def cBuildSlice (P : Program) (t : TypeId) (len : Nat) (parts : List (Nat × Operand)) : BA := match under P t with
  | some (.slice e) => match size P e, zeroOf P e with
    | some sz, some z => match Nat.beq (lenC z) sz, Nat.ble (len * sz) 65536, cFill (fun i => some (i * sz, sz)) (len * sz) parts with
      | true, true, ⟨h⟩ => ⟨fun s κ => h s (repL z len) fun cs => κ (.cells e (len * sz) cs true none 0 false) fun id => .slice id 0 len len 0⟩
      | _, _, _ => noA
    | _, _ => noA
  | _ => noA

/-! new blocks -/
def cAlloc (P : Program) (t : TypeId) : BA := match zeroOf P t with
  | some z => match lenC z with
    | n => ⟨fun _ κ => κ (.cells t n z true none 0 false) fun id => .ptr id 0⟩
  | none => noA

def cBox (t : TypeId) (x : Operand) : BA := match cE x with
  | ⟨f⟩ => ⟨fun s κ => vCells (f s) fun n l => κ (.cells t n l true none 0 false) fun id => .ptr id 0⟩

def cMakeSlice (P : Program) (t : TypeId) (l c : Operand) : BA := match under P t with
  | some (.slice e) => match size P e, zeroOf P e, bytesOf P e with
    | some sz, some z, some by_ => match Nat.beq (lenC z) sz, cE l, cE c with
      | true, ⟨f⟩, ⟨g⟩ => ⟨fun s κ => vInt (f s) fun _ l => iNat l fun l => vInt (g s) fun _ c => iNat c fun c =>
          cut (andB (Nat.ble l c) (andB (Nat.blt c 65536) (Nat.blt (Nat.mul c by_) 1000000000))) (κ (.cells e (Nat.mul c sz) (repL z c) true none 0 false) fun id => .slice id 0 l c 0)⟩
      | false, _, _ => noA
    | _, _, _ => noA
  | _ => noA

def cRange (P : Program) (t : TypeId) (x : Operand) : BA := match under P t with
  | some .string => match cE x with
    | ⟨f⟩ => ⟨fun s κ => vStr (f s) fun n c => κ (.iter n c 0) fun id => .ptr id 0⟩
  | _ => noA

/-! maps -/
def eqKey (x y : XV) (κ : Bool → R) : R := vKey x (fun k a => vInt y fun k' b => cut (Nat.beq (kNum k) (kNum k')) (κ (eqX a b))) (fun n c => vStr y fun m d => κ (andB (Nat.beq n m) (Nat.beq c d)))

def findK (k : XV) : List (XV × XV) → Nat → (Nat → XV → R) → (Nat → R) → R := @List.rec (XV × XV) (fun _ => Nat → (Nat → XV → R) → (Nat → R) → R) (fun i _ x => x i) (fun e _ ih i κ x => eqKey k e.1 fun b => iff b (κ i e.2) (ih (Nat.succ i) κ x))

def cKey (P : Program) (t : TypeId) : Option Bool := match under P t with
  | some (.int _) => some true
  | some .string => some false
  | _ => none
def keyIs (b : Bool) (i : XV) (x : R) : R := match b with
  | true => vInt i fun _ _ => x
  | false => vStr i fun _ _ => x
def zeroX (P : Program) (t : TypeId) : Option XV := match infoAt P t with
  | some i => match i.zero with
    | some v => some (ofValue v)
    | none => none
  | none => none

def cLookup (P : Program) (t : TypeId) (x ix : Operand) (ok : Bool) : BV := match under P t with
  | some (.map k e) => match cKey P k, zeroX P e, ok with
    | some b, some z, true => u2 x ix fun m i w κ => keyIs b i (vMap m (fun r => oMap (w.heap.get r) fun es _ => findK i es 0 (fun _ v => κ (.tuple [v, .bool true])) (fun _ => κ (.tuple [z, .bool false]))) (κ (.tuple [z, .bool false])))
    | some b, some z, false => u2 x ix fun m i w κ => keyIs b i (vMap m (fun r => oMap (w.heap.get r) fun es _ => findK i es 0 (fun _ v => κ v) (fun _ => κ z)) (κ z))
    | _, _, _ => noV
  | _ => noV

def setPair (e : XV × XV) : Nat → List (XV × XV) → List (XV × XV) := @Nat.rec (fun _ => List (XV × XV) → List (XV × XV)) (fun l => @List.rec (XV × XV) (fun _ => List (XV × XV)) [] (fun _ t _ => e :: t) l) (fun _ ih l => @List.rec (XV × XV) (fun _ => List (XV × XV)) [] (fun x t _ => x :: ih t) l)
def snocP (e : XV × XV) (l : List (XV × XV)) : List (XV × XV) := @List.rec (XV × XV) (fun _ => List (XV × XV)) [e] (fun x _ ih => x :: ih) l

def cMapUpdate (P : Program) (t : TypeId) (m k x : Operand) : BF := match under P t with
  | some (.map kt _) => match cKey P kt, cE m, cE k, cE x with
    | some b, ⟨m⟩, ⟨k⟩, ⟨x⟩ => ⟨fun s w κ => keyIs b (k s) (vMap (m s) (fun r => cut (Nat.blt r lim) (oMap (w.heap.get r) fun es clock =>
        findK (k s) es 0 (fun i _ => κ undefX (putAt w r (.map (setPair (k s, x s) i es) clock))) (fun _ => κ undefX (putAt w r (.map (snocP (k s, x s) es) (Nat.succ clock)))))) none)⟩
    | none, _, _, _ => noF
  | _ => noF

/-! strings' iterators -/
def cNext (it : Operand) : BF := match cE it with
  | ⟨f⟩ => ⟨fun s w κ => vPtr (f s) fun r o => cut (andB (Nat.beq o 0) (Nat.blt r lim)) (oIter (w.heap.get r) fun n c pos =>
      iff (Nat.blt pos n) (forceN (byteAt c pos) fun b => cut (Nat.blt b 128) (κ (.tuple [.bool true, .int .i64 (.ofNat pos), .int .i32 (.ofNat b)]) (putAt w r (.iter n c (Nat.succ pos)))))
        (κ (.tuple [.bool false]) w))⟩

/-! stores -/
def cStore (P : Program) (t : TypeId) (x y : Operand) : BF := match size P t, cE x, cE y with
  | some sz, ⟨f⟩, ⟨g⟩ => ⟨fun s w κ => vPtr (f s) fun b o => vCells (g s) fun n l => cut (Nat.beq n sz) (storeAt w b o n l fun w => κ undefX w)⟩
  | none, _, _ => noF

/-! builtins -/
/-- what is appended or copied: n elements at most -/
def newCells (sz : Nat) (v : XV) (w : XW) (κ : Nat → List XV → R) : R :=
  vStrA v (fun l => cut (Nat.beq sz 1) (forceN (lenNs l) fun n => κ n (atomsL l))) (vStrSl v (fun n c => cut (Nat.beq sz 1) (κ n (bytesL n c))) (fun b o n => loadN (Nat.mul n sz) w b o fun l => κ n l) (κ 0 []))

def grow (e sz len n : Nat) (b o m : Nat) (l : List XV) (w : XW) (κ : XV → XW → R) : R :=
  hCells w b fun e' q cs p k f ro => cut (andB (Nat.ble (Nat.add o (Nat.mul len sz)) q) (Nat.blt (Nat.add len n) 1000000))
    (iff (Nat.beq m 0)
      (newB (.cells e (Nat.mul (Nat.add len n) sz) (appL l (takeL (Nat.mul len sz) (dropL o cs))) false none 0 false) w fun id w => κ (.slice id 0 (Nat.add len n) (Nat.add len n) sz) w)
      (cut (andB (Nat.beq m sz) (andB (notB p) (andB (notB ro) (andB (Nat.ble f (Nat.add o (Nat.mul len sz))) (andB (Nat.blt b lim) (andB (kinOk k) (Nat.beq e e')))))))
        (forceN w.next fun id => cut (Nat.blt id lim)
          (κ (.slice id 0 (Nat.add len n) (Nat.add len n) sz)
            ⟨((kill w.heap k).set dep b (some (.cells e' (Nat.add o (Nat.mul len sz)) (takeL (Nat.add o (Nat.mul len sz)) cs) false (some id) f false))).set dep id
              (some (.cells e (Nat.mul (Nat.add len n) sz) (appL l (takeL (Nat.mul len sz) (dropL o cs))) false (some b) (Nat.sub f o) false)), Nat.succ id⟩))))

def cAppend (P : Program) (t u : TypeId) (x y : Operand) : BF := match under P t, notInt P u with
  | some (.slice e), true => match size P e, bytesOf P e, zeroOf P e with
    | some sz, some by_, some z => match andB (Nat.blt 0 sz) (andB (Nat.beq (lenC z) sz) (Nat.blt by_ 1000000)), cE x, cE y with
      | true, ⟨f⟩, ⟨g⟩ => ⟨fun s w κ => newCells sz (g s) w fun n l => vSl (f s)
          (fun b o len c m => cut (Nat.ble len c) (iff (Nat.beq n 0) (κ (.slice b o len c m) w)
            (iff (Nat.ble (Nat.add len n) c)
              (storeAt w b (Nat.add o (Nat.mul len sz)) (Nat.mul n sz) l fun w => κ (.slice b o (Nat.add len n) c m) w)
              (grow e sz len n b o m l w κ))))
          (iff (Nat.beq n 0) (κ .sliceNil w) (cut (Nat.blt n 1000000) (newB (.cells e (Nat.mul n sz) l false none 0 false) w fun id w => κ (.slice id 0 n n sz) w)))
          (iff (Nat.beq n 0) (κ .sliceE w) none)⟩
      | false, _, _ => noF
    | _, _, _ => noF
  | _, _ => noF

def maxN (a b : Nat) : Nat := @Bool.rec (fun _ => Nat) a b (Nat.ble a b)
def minN (a b : Nat) : Nat := @Bool.rec (fun _ => Nat) b a (Nat.ble a b)

def cCopy (P : Program) (t : TypeId) (x y : Operand) : BF := match under P t with
  | some (.slice e) => match size P e, cE x, cE y with
    | some sz, ⟨f⟩, ⟨g⟩ => ⟨fun s w κ => vSl (f s)
        (fun b o n _ _ => vStrSl (g s) (fun m c => cut (Nat.beq sz 1) (forceN (minN m n) fun k => storeAt w b o (Nat.mul k sz) (bytesL k c) fun w => κ (.int .i64 (.ofNat k)) w))
          (fun b' o' m => forceN (minN m n) fun k => loadN (Nat.mul k sz) w b' o' fun l => storeAt w b o (Nat.mul k sz) l fun w => κ (.int .i64 (.ofNat k)) w)
          (κ (.int .i64 (.ofNat 0)) w))
        (vStrSl (g s) (fun _ _ => κ (.int .i64 (.ofNat 0)) w) (fun _ _ _ => κ (.int .i64 (.ofNat 0)) w) (κ (.int .i64 (.ofNat 0)) w))
        none⟩
    | none, _, _ => noF
  | _ => noF

def cClear (P : Program) (t : TypeId) (x : Operand) : BF := match under P t with
  | some (.slice e) => match size P e, zeroOf P e, cE x with
    | some sz, some z, ⟨f⟩ => match Nat.beq (lenC z) sz with
      | true => ⟨fun s w κ => vSl (f s) (fun b o n _ _ => iff (Nat.beq n 0) (κ undefX w) (storeAt w b o (Nat.mul n sz) (repL z n) fun w => κ undefX w)) (κ undefX w) (κ undefX w)⟩
      | false => noF
    | _, _, _ => noF
  | _ => noF

def cUnsafeString (P : Program) (t : TypeId) (x y : Operand) : BF := match under P t with
  | some (.pointer u) => match cE x, cE y with
    | ⟨f⟩, ⟨g⟩ => ⟨fun s w κ => vInt (g s) fun _ n => iNat n fun n => cut (Nat.blt n 1000000) (vPtrN (f s)
        (fun b o => iff (Nat.beq n 0) (κ (.str 0 0) w) (hCells w b fun e m cs p k f ro =>
          cut (andB (Nat.ble (Nat.add o n) m) (andB (Nat.blt b lim) (andB (kinOk k) (andB (Nat.beq (P.cellsOf e) 1) (andB (notB ro) (Go.sameLayout P P.depth e u))))))
            (strX n (takeL n (dropL o cs)) fun v => κ v ⟨(kill w.heap k).set dep b (some (.cells e m cs p none (maxN f (Nat.add o n)) ro)), w.next⟩)))
        (cut (Nat.beq n 0) (κ (.str 0 0) w)))⟩
  | _ => noF

def cLen (P : Program) (t : TypeId) (x : Operand) : BV := match under P t with
  | some .string => u1 x fun v _ κ => vStr v fun n _ => κ (.int .i64 (.ofNat n))
  | some (.slice _) => u1 x fun v _ κ => vSl v (fun _ _ n _ _ => κ (.int .i64 (.ofNat n))) (κ (.int .i64 (.ofNat 0))) (κ (.int .i64 (.ofNat 0)))
  | some (.array n _) => ⟨fun _ _ κ => κ (.int .i64 (.ofNat n))⟩
  | _ => noV

def cCap (P : Program) (t : TypeId) (x : Operand) : BV := match under P t with
  | some (.slice _) => u1 x fun v _ κ => vSl v (fun _ _ _ c m => cut (Nat.beq m 0) (κ (.int .i64 (.ofNat c)))) (κ (.int .i64 (.ofNat 0))) none
  | _ => noV

structure BM where
  f : Sl → IntKind → Int → (XV → R) → R
def cMins (lt : Bool) : List Operand → BM
  | [] => ⟨fun _ k a κ => κ (.int k a)⟩
  | y :: ys => match cE y, cMins lt ys, lt with
    | ⟨g⟩, ⟨h⟩, true => ⟨fun s k a κ => vInt (g s) fun _ b => iff (ltX b a) (h s k b κ) (h s k a κ)⟩
    | ⟨g⟩, ⟨h⟩, false => ⟨fun s k a κ => vInt (g s) fun _ b => iff (ltX a b) (h s k b κ) (h s k a κ)⟩
def cMin (lt : Bool) (x : Operand) (ys : List Operand) : BV := match cE x, cMins lt ys with
  | ⟨f⟩, ⟨h⟩ => ⟨fun s _ κ => vInt (f s) fun k a => h s k a κ⟩

def cSliceData (x : Operand) : BV := u1 x fun v _ κ => vSl v (fun b o _ c _ => cut (notB (Nat.beq c 0)) (κ (.ptr b o))) (κ .ptrNil) none

/-! functions without a body -/
def findB (x : Nat) : Nat → Nat → Nat → Int := @Nat.rec (fun _ => Nat → Nat → Int) (fun _ _ => .negSucc 0) (fun _ ih c i => @Bool.rec (fun _ => Int) (ih (Nat.div c 256) (Nat.succ i)) (.ofNat i) (Nat.beq (Nat.mod c 256) x))
def countB (x : Nat) : Nat → Nat → Nat → Nat := @Nat.rec (fun _ => Nat → Nat → Nat) (fun _ k => k) (fun _ ih c k => ih (Nat.div c 256) (@Bool.rec (fun _ => Nat) k (Nat.succ k) (Nat.beq (Nat.mod c 256) x)))

inductive Cl where
  | pure (g : Sl → XV)
  | val (f : Sl → XW → (XV → R) → R)
  | new (f : Sl → (XB → (Nat → XV) → R) → R)
  | eff (f : Sl → XW → (XV → XW → R) → R)
  | dfr (f : Sl → (FuncId → List XV → R) → R)
  | none

def ofV : BV → Cl | ⟨f⟩ => .val f
def ofA : BA → Cl | ⟨f⟩ => .new f
def ofF : BF → Cl | ⟨f⟩ => .eff f
def ofE : BE → Cl | ⟨f⟩ => .pure f

/-- abi.NoEscape, bytealg.MakeNoZero, IndexByteString, CountString -/
def cExtern (P : Program) (f : FuncId) (args : List Operand) : Cl := match f, args with
  | 79, [x] => ofV (u1 x fun v _ κ => κ v)
  | 188, [x] => match under P 82, cE x with
    | some (.slice e), ⟨f⟩ => .eff fun s w κ => vInt (f s) fun k n => cut (Nat.beq (kNum k) 3) (iNat n fun n => cut (Nat.blt n 1000000) (newB (.cells e n (repL [.unk] n) false none 0 false) w fun id w => κ (.slice id 0 n n 1) w))
    | _, _ => .none
  | 301, [x, y] => ofV (u2 x y fun v u _ κ => vStr v fun n c => vInt u fun k b => cut (Nat.beq (kNum k) 4) (iNat b fun b => cut (Nat.blt b 256) (forceI (findB b n c 0) fun i => κ (.int .i64 i))))
  | 181, [x, y] => ofV (u2 x y fun v u _ κ => vStr v fun n c => vInt u fun k b => cut (Nat.beq (kNum k) 4) (iNat b fun b => cut (Nat.blt b 256) (forceN (countB b n c 0) fun i => κ (.int .i64 (.ofNat i)))))
  | _, _ => .none

/-! calls -/
structure BFn where
  f : List XV → XW → (XV → XW → R) → R
abbrev Rec := FuncId → Bool → BFn

def hasBody (P : Program) (f : FuncId) : Bool := match funcAt P f with
  | some fn => match fn.body with
    | some _ => match fn.name == "runtime.NumGoroutine" with
      | true => false
      | false => true
    | none => false
  | none => false

def fnFunc : Fn → (FuncId → R) → R := @Fn.rec (fun _ => (FuncId → R) → R) (fun f κ => κ f) (fun _ _ => none) (fun _ _ _ => none) (fun _ _ _ _ _ => none) (fun _ _ => none)

/-- the function and its arguments behind a function's value -/
def target (P : Program) (v : XV) (args : List XV) (κ : FuncId → List XV → R) : R :=
  vFunc v (fun fn first cap => fnFunc fn fun f => cut (hasBody P f) (κ f (appL (appL cap args) first))) none

def cCall (P : Program) (call : Rec) (f : Operand) (args : List Operand) : Cl := match f with
  | .func f => match funcAt P f with
    | some fn => match fn.body with
      | none => match fn.name == "runtime.NumGoroutine" with
        | true => .none
        | false => cExtern P f args
      | some _ => match hasBody P f, cEs args with
        | true, ⟨xs⟩ => .eff fun s w κ => (call f false).f (xs s) w κ
        | false, _ => .none
    | none => .none
  | f => match cE f, cEs args with
    | ⟨f⟩, ⟨xs⟩ => .eff fun s w κ => target P (f s) (xs s) fun f args => (call f false).f args w κ

def cDefer (P : Program) (f : Operand) (args : List Operand) : Cl := match cE f, cEs args with
  | ⟨f⟩, ⟨xs⟩ => .dfr fun s κ => target P (f s) (xs s) κ

def cBuiltin (P : Program) (b : Builtin) (ts : Array TypeId) (args : List Operand) : Cl := match b, ts[0]?, args with
  | .append, some t, [x, y] => match ts[1]? with
    | some u => ofF (cAppend P t u x y)
    | none => .none
  | .copy, some t, [x, y] => ofF (cCopy P t x y)
  | .clear, some t, [x] => ofF (cClear P t x)
  | .unsafeString, some t, [x, y] => ofF (cUnsafeString P t x y)
  | .len, some t, [x] => ofV (cLen P t x)
  | .cap, some t, [x] => ofV (cCap P t x)
  | .min, _, x :: ys => ofV (cMin true x ys)
  | .max, _, x :: ys => ofV (cMin false x ys)
  | .unsafeSliceData, _, [x] => ofV (cSliceData x)
  | _, _, _ => .none

def cPick (c x y : Operand) : BV := match cE c, cE x, cE y with
  | ⟨c⟩, ⟨f⟩, ⟨g⟩ => ⟨fun s _ κ => vIf (c s) (κ (f s)) (κ (g s))⟩

def cIface (P : Program) (t : TypeId) (x : Operand) : BV := match under P t with
  | some (.interface _) => noV
  | some _ => u1 x fun v _ κ => κ (.iface t v)
  | none => noV

def cFunc (fn : Fn) (f c : List Operand) : BV := match cEs f, cEs c with
  | ⟨f⟩, ⟨c⟩ => ⟨fun s _ κ => κ (.func fn (f s) (c s))⟩

def cCl0 (P : Program) (call : Rec) (op : Op) : Cl := match op with
  | .move x => ofE (cE x)
  | .assign x => ofE (cE x)
  | .pick c x y => ofV (cPick c x y)
  | .alloc t => ofA (cAlloc P t)
  | .box t x => ofA (cBox t x)
  | .build t parts => ofV (cBuild P t parts.toList)
  | .buildSlice t len parts => ofA (cBuildSlice P t len parts.toList)
  | .load t x => ofV (cLoad P t x)
  | .store t x y => ofF (cStore P t x y)
  | .nilCheck x => ofV (u1 x fun v _ κ => vNil v κ)
  | .binOp op t x y _ => ofV (cBin P op t x y)
  | .unOp op _ x => ofV (cUn op x)
  | .convert s d x => match cBytes P s d x with
    | some b => ofF b
    | none => ofV (cConv P s d x)
  | .makeInterface t x => ofV (cIface P t x)
  | .makeFunc fn f c => ofV (cFunc fn f.toList c.toList)
  | .makeMap _ none => .new fun _ κ => κ (.map [] 0) fun id => .map id
  | .makeSlice t l c => ofA (cMakeSlice P t l c)
  | .slice t x lo hi mx => ofV (cSlice P t x lo hi mx)
  | .fieldAddr s x f => ofV (cFieldAddr P s x f)
  | .field t x f => ofV (cField P t x f)
  | .indexAddr t x ix => ofV (cIndexAddr P t x ix)
  | .index t x ix => ofV (cIndex P t x ix)
  | .lookup t x ix ok => ofV (cLookup P t x ix ok)
  | .mapUpdate t m k x => ofF (cMapUpdate P t m k x)
  | .insert t m k x => ofF (cMapUpdate P t m k x)
  | .range t x => ofA (cRange P t x)
  | .next it true => ofF (cNext it)
  | .extract t i => ofV (u1 t fun v _ κ => vTuple v fun vs => nthO i vs κ)
  | .call c => match c.callee with
    | .builtin b => cBuiltin P b c.argTypes c.args.toList
    | .value f => cCall P call f c.args.toList
    | _ => .none
  | .defer c => match c.callee with
    | .value f => cDefer P f c.args.toList
    | _ => .none
  | _ => .none

/-- answers of operations and functions that are known by other means -/
class Tab where
  op : Op → Option (List XV → Option XV)
  fn : FuncId → Option (List XV → Option XV)
variable [Tab]

def oX : Option XV → (XV → R) → R → R := @Option.rec XV (fun _ => (XV → R) → R → R) (fun _ x => x) (fun v κ _ => κ v)

def hook (xs : Sl → List XV) (g : List XV → Option XV) : Cl → Cl
  | .val f => .val fun s w κ => oX (g (xs s)) κ (f s w κ)
  | c => c

def cCl (P : Program) (call : Rec) (op : Op) : Cl := match Tab.op op with
  | none => cCl0 P call op
  | some g => match cEs op.operands.toList with
    | ⟨xs⟩ => hook xs g (cCl0 P call op)

abbrev DS := List (FuncId × List XV)
abbrev K := Sl → DS → XW → R

structure BR where
  f : Sl → DS → XW → K → R

/-- where a result goes -/
def cDst (n : Nat) (dst : Option Tmp) : Option (BU Sl XV) := match dst with
  | none => some ⟨fun t _ => t⟩
  | some d => match Nat.blt d n with
    | true => match set4 d with
      | ⟨g⟩ => some ⟨g⟩
    | false => none

structure BW where
  f : Sl → (Bool → R) → R

/-- is an operation wanted? -/
def cWant (ops : Array Oper) (j : Nat) (want : Bool) : BW := match (ops[j]?).bind (·.dst) with
  | some d => match getB d, want with
    | ⟨g⟩, true => ⟨fun t κ => vWantT (g t) κ⟩
    | ⟨g⟩, false => ⟨fun t κ => vWantF (g t) κ⟩
  | none => ⟨fun _ _ => none⟩

def isRecover : Op → Bool
  | .call { callee := .builtin .recover, .. } => true
  | _ => false

def cOper (P : Program) (call : Rec) (n : Nat) (ops : Array Oper) (o : Oper) (r : BR) : BR :=
  match cDst n o.dst, r with
  | some ⟨p⟩, ⟨r⟩ => match o.guard with
    | none => match cCl P call o.op with
      | .pure g => ⟨fun t ds w k => r (p t (g t)) ds w k⟩
      | .val f => ⟨fun t ds w k => f t w fun v => r (p t v) ds w k⟩
      | .new f => ⟨fun t ds w k => f t fun x mk => newB x w fun n w => r (p t (mk n)) ds w k⟩
      | .eff f => ⟨fun t ds w k => f t w fun v w => r (p t v) ds w k⟩
      | .dfr f => ⟨fun t ds w k => f t fun fn args => r (p t undefX) ((fn, args) :: ds) w k⟩
      | .none => ⟨fun _ _ _ _ => none⟩
    | some (j, want) => match cWant ops j want, cCl P call o.op with
      | ⟨h⟩, .pure g => ⟨fun t ds w k => h t fun b => iff b (r (p t (g t)) ds w k) (r (p t undefX) ds w k)⟩
      | ⟨h⟩, .val f => ⟨fun t ds w k => h t fun b => iff b (f t w fun v => r (p t v) ds w k) (r (p t undefX) ds w k)⟩
      | ⟨h⟩, .new f => ⟨fun t ds w k => h t fun b => iff b (f t fun x mk => newB x w fun n w => r (p t (mk n)) ds w k) (r (p t undefX) ds w k)⟩
      | ⟨h⟩, .eff f => ⟨fun t ds w k => h t fun b => iff b (f t w fun v w => r (p t v) ds w k) (r (p t undefX) ds w k)⟩
      | ⟨h⟩, .dfr f => ⟨fun t ds w k => h t fun b => iff b (f t fun fn args => r (p t undefX) ((fn, args) :: ds) w k) (r (p t undefX) ds w k)⟩
      | _, .none => ⟨fun _ _ _ _ => none⟩
  | none, _ => ⟨fun _ _ _ _ => none⟩

def cOps (P : Program) (call : Rec) (n : Nat) (ops : Array Oper) : List Oper → BR
  | [] => ⟨fun t ds w k => k t ds w⟩
  | o :: rest => cOper P call n ops o (cOps P call n ops rest)

/-! a drawn region: one order is run; what another order may do at another time is looked at again -/
def bindX (r : R) (κ : XV → XW → R) : R := @Option.rec (XV × XW) (fun _ => R) none (fun p => κ p.1 p.2) r
def kinNone (k : Option Nat) : Bool := @Option.rec Nat (fun _ => Bool) true (fun _ => false) k

structure Row where
  i : Nat
  d : Nat
  e : Bool
  c : Bool
  ev : Sl → XW → R
  ck : Sl → XW → List Nat → (List Nat → R) → R
  ef : Sl → XW → (XV → XW → R) → R
  p : Sl → XV → Sl

/-- what an operation is after: in any order; as gc orders -/
def dmask : List Edge → Nat
  | [] => 0
  | e :: es => match e.ground with
    | .textOnly _ => dmask es
    | .gcOnly _ => dmask es
    | _ => Nat.lor (Nat.pow 2 e.on) (dmask es)
def gmask : List Edge → Nat
  | [] => 0
  | e :: es => match e.ground with
    | .textOnly _ => gmask es
    | _ => Nat.lor (Nat.pow 2 e.on) (gmask es)
def hasBit (m i : Nat) : Bool := Nat.beq (Nat.mod (Nat.shiftRight m i) 2) 1
def subM (a b : Nat) : Bool := Nat.beq (Nat.land a b) a

/-- does an operation look at the heap? -/
def readsH : Op → Bool
  | .load .. | .lookup .. | .convert .. => true
  | _ => false

def isAssign : Op → Bool
  | .assign _ => true
  | _ => false

def guardB (ops : Array Oper) (g : Option (Nat × Bool)) : BW := match g with
  | none => ⟨fun _ κ => κ true⟩
  | some (j, want) => cWant ops j want

def slotOf (dst : Option Tmp) : Option BE := match dst with
  | none => none
  | some d => some (getB d)

def ckV (ev : Sl → XW → R) : Option BE → Sl → XW → List Nat → (List Nat → R) → R
  | none => fun t w seen κ => bindX (ev t w) fun _ _ => κ seen
  | some ⟨s⟩ => fun t w seen κ => bindX (ev t w) fun v _ => same v (s t) (κ seen)

def memN (n : Nat) : List Nat → Bool
  | [] => false
  | m :: ms => orB (Nat.beq n m) (memN n ms)

/-- a block that was made: does it stand as it would be made? -/
def ckA (h : Sl → (Bool → R) → R) (f : Sl → (XB → (Nat → XV) → R) → R) : Option BE → Sl → XW → List Nat → (List Nat → R) → R
  | none => fun _ _ _ _ => none
  | some ⟨s⟩ => fun t w seen κ => h t fun b => iff b
      (f t fun y mk => vId (s t) fun id => cut (andB (Nat.blt id w.next) (notB (memN id seen))) (same (mk id) (s t) (oCells (some y) fun e m cs p k f r => hCells w id fun e' m' cs' p' k' f' r' =>
        cut (andB (Nat.beq e e') (andB (Nat.beq m m') (andB (eqB p p') (andB (kinNone k) (andB (kinNone k') (andB (Nat.beq f f') (andB (notB r) (notB r')))))))) (sameL cs cs' (κ (id :: seen))))))
      (same undefX (s t) (κ seen))

def noCall : Rec := fun _ _ => ⟨fun _ _ _ => none⟩

def noCk : Sl → XW → List Nat → (List Nat → R) → R := fun _ _ seen κ => κ seen

def cRow (P : Program) (call : Rec) (n : Nat) (ops : Array Oper) (i : Nat) (o : Oper) : Option Row :=
  match cDst n o.dst, guardB ops o.guard, dmask o.after.toList, slotOf o.dst with
  | some ⟨p⟩, ⟨h⟩, d, s => match cCl P call o.op with
    | .pure g => match isAssign o.op with
      | true => some ⟨i, d, true, false, fun _ _ => none, noCk, fun t w κ => h t fun b => iff b (κ (g t) w) (κ undefX w), p⟩
      | false => match (fun t w => h t fun b => iff b (some (g t, w)) (some (undefX, w))) with
        | ev => some ⟨i, d, false, false, ev, noCk, fun _ _ _ => none, p⟩
    | .val f => match (fun t w => bindX (h t fun b => iff b (f t w fun v => some (v, w)) (some (undefX, w))) fun v _ => some (v, w)) with
      | ev => match readsH o.op with
        | true => match ckV ev s with
          | ck => some ⟨i, d, false, true, ev, ck, fun _ _ _ => none, p⟩
        | false => some ⟨i, d, false, false, ev, noCk, fun _ _ _ => none, p⟩
    | .new f => match ckA h f s with
      | ck => some ⟨i, d, false, true, fun t w => h t fun b => iff b (f t fun x mk => newB x w fun n w => vId (mk n) fun n' => cut (Nat.beq n n') (some (mk n, w))) (some (undefX, w)), ck, fun _ _ _ => none, p⟩
    | .eff f => some ⟨i, d, true, false, fun _ _ => none, noCk, fun t w κ => h t fun b => iff b (f t w κ) (κ undefX w), p⟩
    | _ => none
  | none, _, _, _ => none

def cRows (P : Program) (call : Rec) (n : Nat) (ops : Array Oper) : Nat → List Oper → Option (List Row)
  | _, [] => some []
  | i, o :: rest => match cRow P call n ops i o, cRows P call n ops (i + 1) rest with
    | some r, some rs => some (r :: rs)
    | _, _ => none

/-- the tmps an operation looks at -/
def tmpsOf : List Operand → List Nat
  | [] => []
  | .tmp t :: xs => t :: tmpsOf xs
  | _ :: xs => tmpsOf xs
def looks (ops : Array Oper) (o : Oper) : List Nat := match o.guard with
  | none => tmpsOf o.op.operands.toList
  | some (j, _) => match (ops[j]?).bind (·.dst) with
    | some d => d :: tmpsOf o.op.operands.toList
    | none => tmpsOf o.op.operands.toList
/-- which operation writes a tmp: a number in base 256, 0: none -/
def wrOf (W t : Nat) : Nat := Nat.mod (Nat.shiftRight W (Nat.mul 8 t)) 256
def mkW : List Oper → Nat → Nat
  | [], _ => 0
  | o :: rest, i => match o.dst with
    | none => mkW rest (Nat.succ i)
    | some t => Nat.add (Nat.shiftLeft (Nat.succ i) (Nat.mul 8 t)) (mkW rest (Nat.succ i))
/-- what is ahead of what is in m too; the rows stand in descending order -/
def down : List Row → Nat → Nat
  | [], m => m
  | r :: rs, m => match hasBit m r.i with
    | true => down rs (Nat.lor r.d m)
    | false => down rs m
/-- the effects, each with what is ahead of it -/
def effs (rev : List Row) : List Row → List (Nat × Nat)
  | [] => []
  | r :: rs => match r.e with
    | true => (r.i, down rev (Nat.pow 2 r.i)) :: effs rev rs
    | false => effs rev rs
/-- is j an effect, and i itself or ahead of it? -/
def aheadOf (i j : Nat) : List (Nat × Nat) → Bool
  | [] => false
  | (k, m) :: es => match Nat.beq j k with
    | true => Nat.beq i j || hasBit m i
    | false => aheadOf i j es
def looksOk (W : Nat) (es : List (Nat × Nat)) (i d : Nat) : List Nat → Bool
  | [] => true
  | t :: ts => match wrOf W t with
    | 0 => looksOk W es i d ts
    | j + 1 => match hasBit d j || aheadOf i j es with
      | true => looksOk W es i d ts
      | false => false
def dstOk (W i : Nat) : Option Tmp → Bool
  | none => true
  | some t => Nat.beq (wrOf W t) (Nat.succ i)
def onsOk (i : Nat) : List Edge → Bool
  | [] => true
  | e :: es => match e.ground with
    | .gcOnly _ => onsOk i es
    | _ => match Nat.blt e.on i with
      | true => onsOk i es
      | false => false
def hasGc : List Edge → Bool
  | [] => false
  | e :: es => match e.ground with
    | .gcOnly _ => true
    | _ => hasGc es
def anyGc : List Oper → Bool
  | [] => false
  | o :: os => match hasGc o.after.toList with
    | true => true
    | false => anyGc os
/-- gc's order can list all: one round after another -/
def gcRound : List Oper → Nat → Nat → Nat
  | [], _, m => m
  | o :: os, i, m => match subM (gmask o.after.toList) m with
    | true => gcRound os (Nat.succ i) (Nat.lor m (Nat.pow 2 i))
    | false => gcRound os (Nat.succ i) m
def gcRounds (ops : List Oper) : Nat → Nat → Nat
  | 0, m => m
  | n + 1, m => gcRounds ops n (gcRound ops 0 m)
def allBits : List Oper → Nat → Nat → Bool
  | [], _, _ => true
  | _ :: os, i, m => match hasBit m i with
    | true => allBits os (Nat.succ i) m
    | false => false
def gcOk (ops : List Oper) : Bool := match anyGc ops with
  | false => true
  | true => allBits ops 0 (gcRounds ops 3 0)
/-- a region that is as it is to be -/
def drawOk (W : Nat) (es : List (Nat × Nat)) (ops : Array Oper) : Nat → List Oper → Bool
  | _, [] => true
  | i, o :: rest => match onsOk i o.after.toList, dstOk W i o.dst, looksOk W es i (dmask o.after.toList) (looks ops o) with
    | true, true, true => drawOk W es ops (Nat.succ i) rest
    | _, _, _ => false

structure Scan where
  c : Nat
  l : List Row
/-- what can be listed ahead of the next effect -/
def scan : List Row → Nat → Scan
  | [], c => ⟨c, []⟩
  | r :: rs, c => match r.e || hasBit c r.i || !(subM r.d c) with
    | true => scan rs c
    | false => match scan rs (Nat.lor c (Nat.pow 2 r.i)) with
      | ⟨c, l⟩ => ⟨c, r :: l⟩
def readyR (c : Nat) : List Row → List Row
  | [] => []
  | r :: rs => match hasBit c r.i || !(subM r.d c) with
    | true => readyR c rs
    | false => r :: readyR c rs
def allIn (c : Nat) : List Row → Bool
  | [] => true
  | r :: rs => match hasBit c r.i with
    | true => allIn c rs
    | false => false
structure BNews where
  f : Sl → XW → (Sl → XW → R) → R
def cNews : List Row → BNews
  | [] => ⟨fun t w κ => κ t w⟩
  | r :: rs => match r, cNews rs with
    | ⟨_, _, _, _, ev, _, _, p⟩, ⟨g⟩ => ⟨fun t w κ => bindX (ev t w) fun v w => g (p t v) w κ⟩
structure BCk where
  f : Sl → XW → List Nat → (List Nat → R) → R
def cCks (c m : Nat) : List Row → BCk
  | [] => ⟨fun _ _ seen κ => κ seen⟩
  | r :: rs => match r, cCks c m rs with
    | ⟨i, _, _, true, _, ck, _, _⟩, ⟨g⟩ => match hasBit c i && !(hasBit m i) with
      | true => ⟨fun t w seen κ => ck t w seen fun seen => g t w seen κ⟩
      | false => ⟨g⟩
    | ⟨_, _, _, false, _, _, _, _⟩, ⟨g⟩ => ⟨g⟩

def cStage (rows rev : List Row) : Nat → Nat → Nat → BR
  | 0, _, _ => ⟨fun _ _ _ _ => none⟩
  | fuel + 1, c, m => match scan rows c with
    | ⟨c, l⟩ => match cNews l, cCks c m rows, readyR c rows with
      | ⟨nw⟩, ⟨ck⟩, [] => match allIn c rows with
        | true => ⟨fun t ds w k => nw t w fun t w => ck t w [] fun _ => k t ds w⟩
        | false => ⟨fun _ _ _ _ => none⟩
      | ⟨nw⟩, ⟨ck⟩, [r] => match r, cStage rows rev fuel (Nat.lor c (Nat.pow 2 r.i)) (down rev (Nat.lor m (Nat.pow 2 r.i))) with
        | ⟨_, _, true, _, _, _, ef, p⟩, ⟨g⟩ => ⟨fun t ds w k => nw t w fun t w => ck t w [] fun _ => ef t w fun v w => g (p t v) ds w k⟩
        | ⟨_, _, false, _, _, _, _, _⟩, _ => ⟨fun _ _ _ _ => none⟩
      | _, _, _ => ⟨fun _ _ _ _ => none⟩

def cDraw (P : Program) (call : Rec) (n : Nat) (ops : Array Oper) : BR := match cRows P call n ops 0 ops.toList with
  | some rows => match drawOk (mkW ops.toList 0) (effs rows.reverse rows) ops 0 ops.toList with
    | true => match gcOk ops.toList with
      | true => cStage rows rows.reverse (rows.length + 1) 0 0
      | false => ⟨fun _ _ _ _ => none⟩
    | false => ⟨fun _ _ _ _ => none⟩
  | none => ⟨fun _ _ _ _ => none⟩

structure BC where
  f : Sl → DS → XW → K → (Nat → K) → K → R


def loopF (f : Sl → DS → XW → K → (Nat → K) → K → R) : Nat → Sl → DS → XW → K → (Nat → K) → K → R :=
  @Nat.rec (fun _ => Sl → DS → XW → K → (Nat → K) → K → R) (fun _ _ _ _ _ _ => none)
    (fun _ ih t ds w k e r => f t ds w (fun t ds w => ih t ds w k e r) e r)

def cC (P : Program) (call : Rec) (nt : Nat) : Code → BC
  | .skip => ⟨fun t ds w k _ _ => k t ds w⟩
  | .region _ ops false => match cOps P call nt ops ops.toList with
    | ⟨f⟩ => ⟨fun t ds w k _ _ => f t ds w k⟩
  | .region _ ops true => match cDraw P call nt ops with
    | ⟨f⟩ => ⟨fun t ds w k _ _ => f t ds w k⟩
  | .seq x y => match cC P call nt x, cC P call nt y with
    | ⟨f⟩, ⟨g⟩ => ⟨fun t ds w k e r => f t ds w (fun t ds w => g t ds w k e r) e r⟩
  | .cond c x y => match cE c, cC P call nt x, cC P call nt y with
    | ⟨c⟩, ⟨f⟩, ⟨g⟩ => ⟨fun t ds w k e r => vIf (c t) (f t ds w k e r) (g t ds w k e r)⟩
  | .block id x => match cC P call nt x with
    | ⟨f⟩ => ⟨fun t ds w k e r => f t ds w k (fun i t ds w => iff (Nat.beq i id) (k t ds w) (e i t ds w)) r⟩
  | .loop x => match cC P call nt x with
    | ⟨f⟩ => ⟨fun t ds w k e r => loopF f 10000 t ds w k e r⟩
  | .exit id => ⟨fun t ds w _ e _ => e id t ds w⟩
  | .label _ => ⟨fun t ds w k _ _ => k t ds w⟩
  | .ret => ⟨fun t ds w _ _ r => r t ds w⟩
  | _ => ⟨fun _ _ _ _ _ _ => none⟩

/-! a deferred function: regions, conditions; its recover yields nil -/
def cOperD (P : Program) (n : Nat) (ops : Array Oper) (o : Oper) (r : BR) : BR := match isRecover o.op, o.guard with
  | true, none => match cDst n o.dst, r with
    | some ⟨p⟩, ⟨r⟩ => ⟨fun t ds w k => r (p t .nilIface) ds w k⟩
    | none, _ => ⟨fun _ _ _ _ => none⟩
  | true, some _ => ⟨fun _ _ _ _ => none⟩
  | false, _ => cOper P (fun _ _ => ⟨fun _ _ _ => none⟩) n ops o r

def cOpsD (P : Program) (n : Nat) (ops : Array Oper) : List Oper → BR
  | [] => ⟨fun t ds w k => k t ds w⟩
  | o :: rest => cOperD P n ops o (cOpsD P n ops rest)

def cD (P : Program) (nt : Nat) : Code → BR
  | .skip => ⟨fun t ds w k => k t ds w⟩
  | .region _ ops false => match cOpsD P nt ops ops.toList with
    | ⟨f⟩ => ⟨f⟩
  | .seq x y => match cD P nt x, cD P nt y with
    | ⟨f⟩, ⟨g⟩ => ⟨fun t ds w k => f t ds w fun t ds w => g t ds w k⟩
  | .cond c x y => match cE c, cD P nt x, cD P nt y with
    | ⟨c⟩, ⟨f⟩, ⟨g⟩ => ⟨fun t ds w k => vIf (c t) (f t ds w k) (g t ds w k)⟩
  | _ => ⟨fun _ _ _ _ => none⟩

structure BRes where
  f : Sl → XW → (List XV → R) → R

def cRess (P : Program) : List ResultVar → BRes
  | [] => ⟨fun _ _ κ => κ []⟩
  | .tmp t :: rs => match getB t, cRess P rs with
    | ⟨f⟩, ⟨g⟩ => ⟨fun s w κ => g s w fun vs => κ (f s :: vs)⟩
  | .cell a t :: rs => match cLoad P t (.tmp a), cRess P rs with
    | ⟨f⟩, ⟨g⟩ => ⟨fun s w κ => f s w fun v => g s w fun vs => κ (v :: vs)⟩

/-- one result is itself, more are a tuple -/
def tup (rs : List ResultVar) : List XV → (XV → R) → R := match rs with
  | [_] => fun l κ => nthO 0 l κ
  | _ => fun l κ => κ (.tuple l)

structure BAr where
  f : List XV → Sl → (Sl → R) → R

def layC : Nat → Nat → BAr
  | 0, _ => ⟨fun l t κ => @List.rec XV (fun _ => R) (κ t) (fun _ _ _ => none) l⟩
  | n + 1, i => match set4 i, layC n (i + 1) with
    | ⟨g⟩, ⟨h⟩ => ⟨fun l t κ => @List.rec XV (fun _ => R) (κ t) (fun v vs _ => h vs (g t v) κ) l⟩

def undefer (call : Rec) : DS → XW → (XW → R) → R := @List.rec (FuncId × List XV) (fun _ => XW → (XW → R) → R) (fun w κ => κ w) (fun d _ ih w κ => (call d.1 true).f d.2 w fun _ w => ih w κ)

/-- a small function's numbers -/
def fits (fn : Func) : Bool := Nat.ble fn.ntmps 256 && Nat.ble (fn.params.size + fn.nfree) fn.ntmps

def cF (P : Program) (call : Rec) (f : FuncId) : BFn := match funcAt P f with
  | none => ⟨fun _ _ _ => none⟩
  | some fn => match fits fn, fn.body with
    | true, some c => match cC P call fn.ntmps c, cRess P fn.results.toList, layC (fn.params.size + fn.nfree) 0, tup fn.results.toList with
      | ⟨g⟩, ⟨res⟩, ⟨lay⟩, tp => ⟨fun args w κ => lay args emptySl fun t => g t [] w
          (fun t ds w => undefer call ds w fun w => res t w fun vs => tp vs fun v => κ v w) (fun _ _ _ _ => none)
          (fun t ds w => undefer call ds w fun w => res t w fun vs => tp vs fun v => κ v w)⟩
    | _, _ => ⟨fun _ _ _ => none⟩

def cFD (P : Program) (f : FuncId) : BFn := match funcAt P f with
  | none => ⟨fun _ _ _ => none⟩
  | some fn => match fits fn, fn.body with
    | true, some c => match cD P fn.ntmps c, cRess P fn.results.toList, layC (fn.params.size + fn.nfree) 0, tup fn.results.toList with
      | ⟨g⟩, ⟨res⟩, ⟨lay⟩, tp => ⟨fun args w κ => lay args emptySl fun t => g t [] w
          (fun t ds w => match ds with | [] => res t w fun vs => tp vs fun v => κ v w | _ => none)⟩
    | _, _ => ⟨fun _ _ _ => none⟩

/-- a function: as it is known, or by its code -/
def cFT (P : Program) (call : Rec) (f : FuncId) : BFn := match Tab.fn f with
  | none => cF P call f
  | some g => ⟨fun args w κ => oX (g args) (fun v => κ v w) none⟩

/-- functions' levels: a callee's is below its caller's -/
def levOf (T f : Nat) : Nat := Nat.mod (Nat.shiftRight T (Nat.mul 8 f)) 256

def callN (P : Program) (T : Nat) : Nat → Rec := @Nat.rec (fun _ => Rec) (fun _ _ => ⟨fun _ _ _ => none⟩)
  (fun n ih f d => @Bool.rec (fun _ => BFn) (ih f d) (@Bool.rec (fun _ => BFn) (cFT P ih f) (cFD P f) d) (Nat.beq (levOf T f) n))

end
end Go.Ex
