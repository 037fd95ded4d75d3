/- The check sum over bit vectors: a register's step is linear and one to one. No Go in it. -/
import Derived.Test.YtnlecbngkemllaaOf
namespace Go.Proofs.Ytnlecbngkemllaa.Crc
open Go.Proofs.Ytnlecbngkemllaa.P

def N (b : BitVec 32) : Int := (b.toNat : Int)
def poly : BitVec 32 := 3988292384#32
/-- One bit's step. -/
def hsB (b : BitVec 32) : BitVec 32 := if b.getLsbD 0 = true then (b >>> 1) ^^^ poly else b >>> 1
def halfB : Nat → BitVec 32 → BitVec 32
  | 0, b => b
  | j + 1, b => hsB (halfB j b)

theorem N_inj {a b : BitVec 32} (h : N a = N b) : a = b := by
  apply BitVec.eq_of_toNat_eq
  unfold N at h
  omega
theorem N_range (a : BitVec 32) : 0 ≤ N a ∧ N a < 4294967296 := by
  unfold N
  have := a.isLt
  omega
theorem ofInt_N (a : BitVec 32) : BitVec.ofInt 32 (N a) = a := by
  unfold N
  rw [BitVec.ofInt_natCast]
  simp
theorem bits_xor (a b : BitVec 32) : Go.bits .xor .u32 (N a) (N b) = N (a ^^^ b) := by
  have h : Go.bits .xor .u32 (N a) (N b) = IntKind.u32.wrap (((BitVec.ofInt 32 (N a) ^^^ BitVec.ofInt 32 (N b)).toNat : Nat) : Int) := rfl
  rw [h, ofInt_N, ofInt_N, IntKind.wrap_u32]
  have := (N_range (a ^^^ b))
  unfold N at *
  omega
theorem bits_and (a b : BitVec 32) : Go.bits .and .u32 (N a) (N b) = N (a &&& b) := by
  have h : Go.bits .and .u32 (N a) (N b) = IntKind.u32.wrap (((BitVec.ofInt 32 (N a) &&& BitVec.ofInt 32 (N b)).toNat : Nat) : Int) := rfl
  rw [h, ofInt_N, ofInt_N, IntKind.wrap_u32]
  have := (N_range (a &&& b))
  unfold N at *
  omega
theorem N_half (a : BitVec 32) : N a / (2 : Int) = N (a >>> 1) := by
  unfold N
  rw [BitVec.toNat_ushiftRight, Nat.shiftRight_eq_div_pow]
  omega
theorem N_sixteenth (a : BitVec 32) : N a / (16 : Int) = N (a >>> 4) := by
  unfold N
  rw [BitVec.toNat_ushiftRight, Nat.shiftRight_eq_div_pow]
  omega
theorem lsb_iff (b : BitVec 32) : b.getLsbD 0 = true ↔ b.toNat % 2 = 1 := by
  rw [BitVec.getLsbD, Nat.testBit_zero]
  simp
theorem and_one (b : BitVec 32) : (N (b &&& 1#32) = 1) ↔ b.getLsbD 0 = true := by
  rw [lsb_iff]
  unfold N
  rw [BitVec.toNat_and]
  have : (1#32 : BitVec 32).toNat = 1 := rfl
  rw [this, Nat.and_one_is_mod]
  omega
theorem hs_N (b : BitVec 32) : hs (N b) = N (hsB b) := by
  unfold hs hsB
  have e1 : (1 : Int) = N 1#32 := rfl
  have e2 : (3988292384 : Int) = N poly := rfl
  have e3 : Go.bits .and .u32 (N b) 1 = N (b &&& 1#32) := by rw [e1, bits_and]
  have e4 : Go.bits .xor .u32 (N b / 2) 3988292384 = N ((b >>> 1) ^^^ poly) := by rw [e2, N_half, bits_xor]
  rw [e3, e4, N_half]
  by_cases h : b.getLsbD 0 = true
  · rw [if_pos ((and_one b).mpr h), if_pos h]
  · rw [if_neg (fun h' => h ((and_one b).mp h')), if_neg h]
theorem half_N (j : Nat) (b : BitVec 32) : half j (N b) = N (halfB j b) := by
  induction j with
  | zero => rfl
  | succ j ih => simp only [half, halfB]; rw [ih, hs_N]

theorem hsB_eq (b : BitVec 32) : hsB b = (b >>> 1) ^^^ (if b.getLsbD 0 = true then poly else 0#32) := by
  unfold hsB
  split <;> simp
theorem xlc (a b c : BitVec 32) : a ^^^ (b ^^^ c) = b ^^^ (a ^^^ c) := by
  rw [← BitVec.xor_assoc, BitVec.xor_comm a b, BitVec.xor_assoc]
theorem xxa (a b : BitVec 32) : a ^^^ (a ^^^ b) = b := by
  rw [← BitVec.xor_assoc, BitVec.xor_self, BitVec.zero_xor]
theorem hsB_xor (a b : BitVec 32) : hsB (a ^^^ b) = hsB a ^^^ hsB b := by
  rw [hsB_eq, hsB_eq a, hsB_eq b, BitVec.ushiftRight_xor_distrib, BitVec.getLsbD_xor]
  cases a.getLsbD 0 <;> cases b.getLsbD 0
  · simp
  · simp [BitVec.xor_assoc]
  · simp [BitVec.xor_assoc, BitVec.xor_comm (b >>> 1) poly]
  · simp only [Bool.xor_self, Bool.false_eq_true, if_false, if_true, BitVec.xor_zero, BitVec.xor_assoc]
    rw [xlc poly]
    simp [BitVec.xor_self]
theorem hsB_zero : hsB 0#32 = 0#32 := by decide
theorem halfB_xor (j : Nat) (a b : BitVec 32) : halfB j (a ^^^ b) = halfB j a ^^^ halfB j b := by
  induction j with
  | zero => rfl
  | succ j ih => simp only [halfB]; rw [ih, hsB_xor]
theorem halfB_zero (j : Nat) : halfB j 0#32 = 0#32 := by
  induction j with
  | zero => rfl
  | succ j ih => simp only [halfB]; rw [ih, hsB_zero]
theorem halfB_add (i j : Nat) (b : BitVec 32) : halfB (i + j) b = halfB i (halfB j b) := by
  induction i with
  | zero => rw [Nat.zero_add]; rfl
  | succ i ih => rw [Nat.succ_add]; simp only [halfB]; rw [ih]
theorem xor_eq_zero {a b : BitVec 32} : a ^^^ b = 0#32 ↔ a = b := BitVec.xor_eq_zero_iff
theorem hsB_ker (b : BitVec 32) (h : hsB b = 0#32) : b = 0#32 := by
  unfold hsB at h
  by_cases c : b.getLsbD 0 = true
  · rw [if_pos c] at h
    have h2 := xor_eq_zero.mp h
    have h3 : (b >>> 1).toNat = poly.toNat := by rw [h2]
    rw [BitVec.toNat_ushiftRight, Nat.shiftRight_eq_div_pow] at h3
    have : poly.toNat = 3988292384 := rfl
    have := b.isLt
    omega
  · rw [if_neg c] at h
    have h3 : (b >>> 1).toNat = (0#32 : BitVec 32).toNat := by rw [h]
    rw [BitVec.toNat_ushiftRight, Nat.shiftRight_eq_div_pow] at h3
    have h4 : ¬ b.toNat % 2 = 1 := fun h' => c ((lsb_iff b).mpr h')
    apply BitVec.eq_of_toNat_eq
    have : (0#32 : BitVec 32).toNat = 0 := rfl
    omega
theorem halfB_ker (j : Nat) (b : BitVec 32) (h : halfB j b = 0#32) : b = 0#32 := by
  induction j with
  | zero => exact h
  | succ j ih => exact ih (hsB_ker _ h)
theorem halfB_inj (j : Nat) {a b : BitVec 32} (h : halfB j a = halfB j b) : a = b := by
  have : halfB j (a ^^^ b) = 0#32 := by rw [halfB_xor, h]; exact xor_eq_zero.mpr rfl
  exact xor_eq_zero.mp (halfB_ker j _ this)
/-- Where the low bits are none, so many steps are a shift. -/
theorem halfB_shift (j : Nat) : ∀ b : BitVec 32, b.toNat % 2 ^ j = 0 → halfB j b = b >>> j := by
  induction j with
  | zero => intro b _; simp [halfB]
  | succ j ih =>
    intro b h
    have h1 : b.toNat % 2 ^ j = 0 := by
      rw [Nat.pow_succ] at h
      have := Nat.mod_mul_right_mod b.toNat (2 ^ j) 2
      rw [h] at this
      simpa using this.symm
    simp only [halfB]
    rw [ih b h1]
    have hb : ¬ (b >>> j).getLsbD 0 = true := by
      rw [lsb_iff, BitVec.toNat_ushiftRight, Nat.shiftRight_eq_div_pow]
      intro h2
      have h3 := Nat.div_add_mod b.toNat (2 ^ j)
      rw [h1, Nat.add_zero] at h3
      have h4 : b.toNat % (2 ^ j * 2) = (2 ^ j * (b.toNat / 2 ^ j)) % (2 ^ j * 2) := by rw [h3]
      rw [Nat.mul_mod_mul_left, h2, Nat.mul_one] at h4
      rw [Nat.pow_succ] at h
      have := Nat.two_pow_pos j
      omega
    unfold hsB
    rw [if_neg hb, BitVec.shiftRight_add]
/-- What a mask leaves behind a mask is none of it. -/
theorem mask_off (x m : BitVec 32) : (x ^^^ (x &&& m)) &&& m = 0#32 := by
  apply BitVec.eq_of_getLsbD_eq
  intro i _
  simp only [BitVec.getLsbD_and, BitVec.getLsbD_xor, BitVec.getLsbD_zero]
  cases x.getLsbD i <;> cases m.getLsbD i <;> rfl
theorem low4 (y : BitVec 32) (h : y &&& 15#32 = 0#32) : y.toNat % 2 ^ 4 = 0 := by
  have h2 : (y &&& 15#32).toNat = 0 := by rw [h]; rfl
  rw [BitVec.toNat_and] at h2
  have e : (15#32 : BitVec 32).toNat = 2 ^ 4 - 1 := rfl
  rw [e, Nat.and_two_pow_sub_one_eq_mod] at h2
  exact h2
theorem and15_shift (x : BitVec 32) : (x &&& 15#32) >>> 4 = 0#32 := by
  apply BitVec.eq_of_toNat_eq
  rw [BitVec.toNat_ushiftRight, Nat.shiftRight_eq_div_pow, BitVec.toNat_and]
  have e : (15#32 : BitVec 32).toNat = 15 := rfl
  have := @Nat.and_le_right x.toNat 15
  have z : (0#32 : BitVec 32).toNat = 0 := rfl
  rw [e, z]
  omega
theorem four_steps (x : BitVec 32) : halfB 4 x = (x >>> 4) ^^^ halfB 4 (x &&& 15#32) := by
  have h1 : x = (x ^^^ (x &&& 15#32)) ^^^ (x &&& 15#32) := by rw [BitVec.xor_assoc, BitVec.xor_self, BitVec.xor_zero]
  have h2 : halfB 4 (x ^^^ (x &&& 15#32)) = x >>> 4 := by
    rw [halfB_shift 4 _ (low4 _ (mask_off x 15#32)), BitVec.ushiftRight_xor_distrib, and15_shift, BitVec.xor_zero]
  have h3 : halfB 4 x = halfB 4 ((x ^^^ (x &&& 15#32)) ^^^ (x &&& 15#32)) := by rw [← h1]
  rw [h3, halfB_xor, h2]
theorem nib_N (x : BitVec 32) : nib (N x) = N (halfB 4 x) := by
  have e1 : (15 : Int) = N 15#32 := rfl
  have e2 : Go.bits .and .u32 (N x) 15 = N (x &&& 15#32) := by rw [e1, bits_and]
  unfold nib
  rw [e2, half_N, N_sixteenth, bits_xor, ← four_steps]
def by8 (c : UInt8) : BitVec 32 := BitVec.ofNat 32 c.toNat
theorem by8_N (c : UInt8) : ((c.toNat : Int) % 4294967296) = N (by8 c) := by
  unfold N by8
  rw [BitVec.toNat_ofNat]
  have := c.toNat_lt
  omega
/-- A register and one byte more. -/
def stepB (r : BitVec 32) (c : UInt8) : BitVec 32 := halfB 8 (r ^^^ by8 c)
def F (r : BitVec 32) (l : List UInt8) : BitVec 32 := l.foldl stepB r
theorem byt_N (x : BitVec 32) (c : UInt8) : byt (N x) c = N (stepB x c) := by
  unfold byt stepB
  rw [by8_N, bits_xor, nib_N, nib_N, ← halfB_add]
theorem fold_N (l : List UInt8) : ∀ r : BitVec 32, l.foldl byt (N r) = N (F r l) := by
  induction l with
  | nil => intro r; rfl
  | cons c l ih => intro r; simp only [List.foldl_cons, F]; rw [byt_N]; exact ih _
def ones : BitVec 32 := 4294967295#32
theorem ofB_N (s : ByteArray) : ofB s = N (ones ^^^ F ones s.data.toList) := by
  have e1 : IntKind.u32.max = N ones := rfl
  have e2 : (4294967295 : Int) = N ones := rfl
  unfold ofB
  rw [e2, fold_N, e1, bits_xor]
theorem F_append (r : BitVec 32) (l m : List UInt8) : F r (l ++ m) = F (F r l) m := List.foldl_append
theorem stepB_inj {a b : BitVec 32} {c : UInt8} (h : stepB a c = stepB b c) : a = b := by
  have h2 := halfB_inj 8 h
  have h3 : (a ^^^ by8 c) ^^^ by8 c = (b ^^^ by8 c) ^^^ by8 c := by rw [h2]
  rwa [BitVec.xor_assoc, BitVec.xor_assoc, BitVec.xor_self, BitVec.xor_zero, BitVec.xor_zero] at h3
theorem F_inj (l : List UInt8) : ∀ {a b : BitVec 32}, F a l = F b l → a = b := by
  induction l with
  | nil => intro a b h; exact h
  | cons c l ih => intro a b h; exact stepB_inj (ih h)
theorem by8_xor (x y : UInt8) : by8 (x ^^^ y) = by8 x ^^^ by8 y := by
  apply BitVec.eq_of_toNat_eq
  unfold by8
  rw [BitVec.toNat_xor, BitVec.toNat_ofNat, BitVec.toNat_ofNat, BitVec.toNat_ofNat, UInt8.toNat_xor]
  have h1 := x.toNat_lt
  have h2 := y.toNat_lt
  have h3 : x.toNat ^^^ y.toNat < 2 ^ 8 := Nat.xor_lt_two_pow h1 h2
  rw [Nat.mod_eq_of_lt (by omega), Nat.mod_eq_of_lt (by omega), Nat.mod_eq_of_lt (by omega)]
theorem stepB_xor (a b : BitVec 32) (c d : UInt8) : stepB (a ^^^ b) (c ^^^ d) = stepB a c ^^^ stepB b d := by
  unfold stepB
  rw [← halfB_xor, by8_xor]
  congr 1
  rw [BitVec.xor_assoc, BitVec.xor_assoc, xlc b]
theorem F_xor (l : List UInt8) : ∀ (m : List UInt8) (a b : BitVec 32), l.length = m.length → F (a ^^^ b) (List.zipWith (· ^^^ ·) l m) = F a l ^^^ F b m := by
  induction l with
  | nil => intro m a b h; cases m with
    | nil => rfl
    | cons d m => cases h
  | cons c l ih => intro m a b h; cases m with
    | nil => cases h
    | cons d m =>
      have h2 : F (a ^^^ b) (List.zipWith (· ^^^ ·) (c :: l) (d :: m)) = F (stepB (a ^^^ b) (c ^^^ d)) (List.zipWith (· ^^^ ·) l m) := rfl
      rw [h2, stepB_xor]
      exact ih m _ _ (by simpa using h)
/-- At most four bytes as one number, the first one lowest. -/
def word : List UInt8 → BitVec 32
  | [] => 0#32
  | c :: l => by8 c ^^^ (word l <<< 8)
theorem by8_toNat (c : UInt8) : (by8 c).toNat = c.toNat := by
  unfold by8
  rw [BitVec.toNat_ofNat]
  exact Nat.mod_eq_of_lt (by have := c.toNat_lt; omega)
theorem shl8 (x : BitVec 32) : (x <<< 8).toNat = x.toNat * 256 % 4294967296 := by
  rw [BitVec.toNat_shiftLeft, Nat.shiftLeft_eq]
theorem word_lt : ∀ l : List UInt8, l.length ≤ 4 → (word l).toNat < 2 ^ (8 * l.length)
  | [], _ => by decide
  | c :: l, h => by
    have h0 : l.length ≤ 3 := by simpa using h
    have ih := word_lt l (by omega)
    have h1 : (by8 c).toNat < 2 ^ (8 * (l.length + 1)) := by
      rw [by8_toNat]
      exact Nat.lt_of_lt_of_le c.toNat_lt (Nat.pow_le_pow_right (by decide) (by omega))
    have h2 : (word l <<< 8).toNat < 2 ^ (8 * (l.length + 1)) := by
      rw [shl8]
      refine Nat.lt_of_le_of_lt (Nat.mod_le _ _) ?_
      rw [Nat.mul_add, Nat.pow_add]
      exact Nat.mul_lt_mul_of_pos_right ih (by decide)
    simp only [word, List.length_cons]
    rw [BitVec.toNat_xor]
    exact Nat.xor_lt_two_pow h1 h2
theorem word_back (l : List UInt8) (h : l.length ≤ 3) : halfB 8 (word l <<< 8) = word l := by
  have hl := word_lt l (by omega)
  have h24 : (word l).toNat < 2 ^ 24 := Nat.lt_of_lt_of_le hl (Nat.pow_le_pow_right (by decide) (by omega))
  rw [halfB_shift 8 _ (by rw [shl8]; omega)]
  apply BitVec.eq_of_toNat_eq
  rw [BitVec.toNat_ushiftRight, Nat.shiftRight_eq_div_pow, shl8]
  omega
theorem F_word (l : List UInt8) : ∀ r : BitVec 32, l.length ≤ 4 → F r l = halfB (8 * l.length) (r ^^^ word l) := by
  induction l with
  | nil => intro r _; simp [F, word, halfB]
  | cons c l ih =>
    intro r h
    have h0 : l.length ≤ 3 := by simpa using h
    have e : F r (c :: l) = F (stepB r c) l := rfl
    rw [e, ih _ (by omega), List.length_cons, Nat.mul_add, halfB_add]
    congr 1
    simp only [word, Nat.mul_one]
    rw [← BitVec.xor_assoc, halfB_xor, word_back l h0]
    rfl
theorem word_inj (l : List UInt8) : ∀ m : List UInt8, l.length = m.length → l.length ≤ 4 → word l = word m → l = m := by
  induction l with
  | nil => intro m h _ _; cases m with
    | nil => rfl
    | cons d m => cases h
  | cons c l ih => intro m h hl hw; cases m with
    | nil => cases h
    | cons d m =>
      have h0 : l.length ≤ 3 := by simpa using hl
      have h1 : l.length = m.length := by simpa using h
      have hw2 : (word (c :: l)).toNat % 2 ^ 8 = (word (d :: m)).toNat % 2 ^ 8 := by rw [hw]
      have low : ∀ (x : UInt8) (n : List UInt8), (word (x :: n)).toNat % 2 ^ 8 = x.toNat := by
        intro x n
        simp only [word]
        rw [BitVec.toNat_xor, Nat.xor_mod_two_pow, by8_toNat, shl8]
        have := x.toNat_lt
        rw [show (word n).toNat * 256 % 4294967296 % 2 ^ 8 = 0 by omega, Nat.xor_zero]
        omega
      rw [low, low] at hw2
      obtain rfl : c = d := UInt8.toNat_inj.mp hw2
      have h3 : word l <<< 8 = word m <<< 8 := by
        have := congrArg (by8 c ^^^ ·) hw
        simp only [word] at this
        rwa [xxa, xxa] at this
      have h4 : word l = word m := by rw [← word_back l h0, ← word_back m (by omega), h3]
      rw [ih m h1 (by omega) h4]
/-- Unlike texts of one length of at most four bytes turn a register into unlike ones. -/
theorem F_short {r : BitVec 32} {l m : List UInt8} (h : l.length = m.length) (h4 : l.length ≤ 4) (e : F r l = F r m) : l = m := by
  rw [F_word l r h4, F_word m r (by omega), h] at e
  have e2 := halfB_inj _ e
  have e3 := congrArg (r ^^^ ·) e2
  simp only [xxa] at e3
  exact word_inj l m h h4 e3
/-- Texts that are alike but for four bytes beside one another are alike if they turn a register into the same. -/
theorem F_burst {r : BitVec 32} {l m : List UInt8} (n : Nat) (h : l.length = m.length) (h1 : l.take n = m.take n) (h2 : l.drop (n + 4) = m.drop (n + 4)) (e : F r l = F r m) : l = m := by
  have sp : ∀ x : List UInt8, x = x.take n ++ ((x.drop n).take 4 ++ x.drop (n + 4)) := by
    intro x
    have : x.drop (n + 4) = (x.drop n).drop 4 := by rw [List.drop_drop]
    rw [this, List.take_append_drop, List.take_append_drop]
  rw [sp l, sp m, F_append, F_append, F_append, F_append, h1, h2] at e
  have e2 := F_inj _ e
  have e3 := F_short (by simp [h]) (by simp; omega) e2
  rw [sp l, sp m, h1, h2, e3]
/-- The four bytes of a sum, the lowest first. -/
def B4 (b : BitVec 32) : List UInt8 := [UInt8.ofNat (b.toNat % 256), UInt8.ofNat (b.toNat / 256 % 256), UInt8.ofNat (b.toNat / 65536 % 256), UInt8.ofNat (b.toNat / 16777216 % 256)]
end Go.Proofs.Ytnlecbngkemllaa.Crc
