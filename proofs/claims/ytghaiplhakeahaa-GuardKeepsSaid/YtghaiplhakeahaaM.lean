/- Plain mathematics of digests: a number of 64 bits, its bytes, the state and how it is stirred. -/
import Derived.WalkKit
import Derived.Lib.Hide
namespace Go.Proofs.Ytghaiplhakeahaa
set_option linter.unusedSimpArgs false
set_option linter.unusedVariables false
open Go.RowKit

/-- A number of 64 bits as the model's integer. -/
theorem nv_ex : ∃ f : BitVec 64 → Int, ∀ x, f x = (x.toNat : Int) := ⟨fun x => (x.toNat : Int), fun _ => rfl⟩
noncomputable def nv : BitVec 64 → Int := Classical.choose nv_ex
theorem nv_eq (x : BitVec 64) : nv x = (x.toNat : Int) := Classical.choose_spec nv_ex x
theorem nv_lit (n : Nat) (h : n < 18446744073709551616) : nv (BitVec.ofNat 64 n) = (n : Int) := by rw [nv_eq, BitVec.toNat_ofNat, Nat.mod_eq_of_lt (by omega)]
theorem nv_zero : (Value.int .u64 0) = .int .u64 (nv 0#64) := by rw [nv_lit 0 (by decide)]; rfl
theorem nv_bd (x : BitVec 64) : 0 ≤ nv x ∧ nv x ≤ 18446744073709551615 := by simp only [nv_eq]; have := x.isLt; omega
theorem nv_inj {x y : BitVec 64} (h : nv x = nv y) : x = y := BitVec.eq_of_toNat_eq (by simp only [nv_eq] at h; omega)

/-- The byte of a number at a place, the lowest first. -/
theorem by8_ex : ∃ f : BitVec 64 → Nat → Int, ∀ x i, f x i = ((x.toNat / 256 ^ i % 256 : Nat) : Int) := ⟨fun x i => ((x.toNat / 256 ^ i % 256 : Nat) : Int), fun _ _ => rfl⟩
noncomputable def by8 : BitVec 64 → Nat → Int := Classical.choose by8_ex
theorem by8_eq (x : BitVec 64) (i : Nat) : by8 x i = ((x.toNat / 256 ^ i % 256 : Nat) : Int) := Classical.choose_spec by8_ex x i

theorem by8_bd (x : BitVec 64) (i : Nat) : 0 ≤ by8 x i ∧ by8 x i ≤ 255 := by simp only [by8_eq]; omega

theorem by8_0 (x : BitVec 64) : by8 x 0 = nv x % 256 := by simp [by8_eq, nv_eq]
theorem by8_1 (x : BitVec 64) : by8 x 1 = nv x / 256 % 256 := by simp [by8_eq, nv_eq]
theorem by8_2 (x : BitVec 64) : by8 x 2 = nv x / 65536 % 256 := by simp [by8_eq, nv_eq]
theorem by8_3 (x : BitVec 64) : by8 x 3 = nv x / 16777216 % 256 := by simp [by8_eq, nv_eq]
theorem by8_4 (x : BitVec 64) : by8 x 4 = nv x / 4294967296 % 256 := by simp [by8_eq, nv_eq]
theorem by8_5 (x : BitVec 64) : by8 x 5 = nv x / 1099511627776 % 256 := by simp [by8_eq, nv_eq]
theorem by8_6 (x : BitVec 64) : by8 x 6 = nv x / 281474976710656 % 256 := by simp [by8_eq, nv_eq]
theorem by8_7 (x : BitVec 64) : by8 x 7 = nv x / 72057594037927936 := by
  have := x.isLt
  simp [by8_eq, nv_eq]; omega

@[go_sem] theorem bits_xor (a b : BitVec 64) : bits .xor .u64 (nv a) (nv b) = nv (a ^^^ b) := by
  simp only [nv_eq]; rw [bits_xor_u64_nat _ _ a.isLt b.isLt]; simp

@[go_sem] theorem wrap_add (a b : BitVec 64) : IntKind.u64.wrap (nv a + nv b) = nv (a + b) := by
  simp only [nv_eq]; rw [IntKind.wrap_u64, BitVec.toNat_add]; omega

theorem bits_xor_k (k : Nat) (hk : k < 6) (a : BitVec 64) : bits .xor .u64 (nv a) ((k : Int) + 1) = nv (a ^^^ BitVec.ofNat 64 (k + 1)) := by
  have e : ((k : Int) + 1) = nv (BitVec.ofNat 64 (k + 1)) := by
    simp only [nv_eq]; rw [BitVec.toNat_ofNat, Nat.mod_eq_of_lt (by omega)]; rfl
  rw [e, bits_xor]

theorem bits_or_nat (a b : Nat) (ha : a < 18446744073709551616) (hb : b < 18446744073709551616) :
    bits .or .u64 (a : Int) (b : Int) = ((a ||| b : Nat) : Int) := by
  have hx : a ||| b < 2 ^ 64 := Nat.or_lt_two_pow (by omega) (by omega)
  have h1 : (BitVec.ofInt 64 (a : Int)).toNat = a := by
    rw [BitVec.ofInt_natCast, BitVec.toNat_ofNat]; exact Nat.mod_eq_of_lt (by omega)
  have h2 : (BitVec.ofInt 64 (b : Int)).toNat = b := by
    rw [BitVec.ofInt_natCast, BitVec.toNat_ofNat]; exact Nat.mod_eq_of_lt (by omega)
  show IntKind.u64.wrap ((BitVec.ofInt 64 (a : Int) ||| BitVec.ofInt 64 (b : Int)).toNat : Int) = _
  rw [BitVec.toNat_or, h1, h2, IntKind.wrap_u64]
  omega

/-- Two numbers of which the one lies below the other one's bits: or is and. -/
theorem or_add (a b : Int) (k : Nat) (h0 : 0 ≤ a) (ha : a < 2 ^ k) (hb0 : 0 ≤ b) (hs : a + b * 2 ^ k < 18446744073709551616) :
    bits .or .u64 a (b * 2 ^ k) = a + b * 2 ^ k := by
  obtain ⟨a, rfl⟩ := Int.eq_ofNat_of_zero_le h0
  obtain ⟨b, rfl⟩ := Int.eq_ofNat_of_zero_le hb0
  have ha' : a < 2 ^ k := by exact_mod_cast ha
  have e2 : ((b : Int) * 2 ^ k) = ((b * 2 ^ k : Nat) : Int) := by rw [Int.natCast_mul, Int.natCast_pow]; rfl
  rw [e2] at hs ⊢
  have hs' : a + b * 2 ^ k < 18446744073709551616 := by omega
  have e := Nat.two_pow_add_eq_or_of_lt ha' b
  rw [bits_or_nat _ _ (by omega) (by omega), Nat.or_comm, Nat.mul_comm, ← e]; omega

theorem num_law (x : BitVec 64) : bits .or .u64 (bits .or .u64 (bits .or .u64 (bits .or .u64 (bits .or .u64 (bits .or .u64 (bits .or .u64 (bits .or .u64 0 (by8 x 0)) (by8 x 1 * 256)) (by8 x 2 * 65536)) (by8 x 3 * 16777216)) (by8 x 4 * 4294967296)) (by8 x 5 * 1099511627776)) (by8 x 6 * 281474976710656)) (by8 x 7 * 72057594037927936) = nv x := by
  have hx := nv_bd x
  have b0 := by8_bd x 0
  have b1 := by8_bd x 1
  have b2 := by8_bd x 2
  have b3 := by8_bd x 3
  have b4 := by8_bd x 4
  have b5 := by8_bd x 5
  have b6 := by8_bd x 6
  have b7 := by8_bd x 7
  have e : by8 x 0 + by8 x 1 * 256 + by8 x 2 * 65536 + by8 x 3 * 16777216 + by8 x 4 * 4294967296 + by8 x 5 * 1099511627776 + by8 x 6 * 281474976710656 + by8 x 7 * 72057594037927936 = nv x := by
    rw [by8_0, by8_1, by8_2, by8_3, by8_4, by8_5, by8_6, by8_7]; omega
  have e0 := or_add 0 (by8 x 0) 0 (by omega) (by omega) (by omega) (by omega)
  simp only [Int.pow_zero, Int.mul_one, Int.zero_add] at e0
  rw [e0,
    show (256 : Int) = 2 ^ 8 from rfl, or_add _ _ 8 (by omega) (by omega) (by omega) (by omega),
    show (65536 : Int) = 2 ^ 16 from rfl, or_add _ _ 16 (by omega) (by omega) (by omega) (by omega),
    show (16777216 : Int) = 2 ^ 24 from rfl, or_add _ _ 24 (by omega) (by omega) (by omega) (by omega),
    show (4294967296 : Int) = 2 ^ 32 from rfl, or_add _ _ 32 (by omega) (by omega) (by omega) (by omega),
    show (1099511627776 : Int) = 2 ^ 40 from rfl, or_add _ _ 40 (by omega) (by omega) (by omega) (by omega),
    show (281474976710656 : Int) = 2 ^ 48 from rfl, or_add _ _ 48 (by omega) (by omega) (by omega) (by omega),
    show (72057594037927936 : Int) = 2 ^ 56 from rfl, or_add _ _ 56 (by omega) (by omega) (by omega) (by omega)]
  exact e

theorem rot_law0 (x : BitVec 64) (k : Nat) (h : k < 64) :
    bits .or .u64 (IntKind.u64.wrap ((x.toNat : Int) * 2 ^ k)) ((x.toNat : Int) / 2 ^ (64 - k)) = ((x.rotateLeft k).toNat : Int) := by
  have hx := x.isLt
  have e1 : IntKind.u64.wrap ((x.toNat : Int) * 2 ^ k) = (((x <<< k).toNat : Nat) : Int) := by
    rw [IntKind.wrap_u64, BitVec.toNat_shiftLeft, Nat.shiftLeft_eq, Int.natCast_emod, Int.natCast_mul, Int.natCast_pow]; rfl
  have e2 : (x.toNat : Int) / 2 ^ (64 - k) = (((x >>> (64 - k)).toNat : Nat) : Int) := by
    rw [BitVec.toNat_ushiftRight, Nat.shiftRight_eq_div_pow, Int.natCast_ediv, Int.natCast_pow]; rfl
  rw [e1, e2, bits_or_nat _ _ (x <<< k).isLt (x >>> (64 - k)).isLt, ← BitVec.toNat_or, BitVec.rotateLeft_def, Nat.mod_eq_of_lt h]


theorem rot_law (x : BitVec 64) (k : Nat) (h : k < 64) : bits .or .u64 (IntKind.u64.wrap (nv x * 2 ^ k)) (nv x / 2 ^ (64 - k)) = nv (x.rotateLeft k) := by simp only [nv_eq]; exact rot_law0 x k h
theorem rot_32 (x : BitVec 64) : bits .or .u64 (IntKind.u64.wrap (nv x * 4294967296)) (nv x / 4294967296) = nv (x.rotateLeft 32) := rot_law x 32 (by omega)
theorem rot_24 (x : BitVec 64) : bits .or .u64 (IntKind.u64.wrap (nv x * 16777216)) (nv x / 1099511627776) = nv (x.rotateLeft 24) := rot_law x 24 (by omega)
theorem rot_16 (x : BitVec 64) : bits .or .u64 (IntKind.u64.wrap (nv x * 65536)) (nv x / 281474976710656) = nv (x.rotateLeft 16) := rot_law x 16 (by omega)
theorem rot_63 (x : BitVec 64) : bits .or .u64 (IntKind.u64.wrap (nv x * 9223372036854775808)) (nv x / 2) = nv (x.rotateLeft 63) := rot_law x 63 (by omega)

/-- A state: four words. -/
structure St where
  a : BitVec 64
  b : BitVec 64
  c : BitVec 64
  d : BitVec 64
  deriving DecidableEq

/-- One round. -/
def mixR (r : BitVec 64) (s : St) : St :=
  let a := (s.a + s.b) ^^^ r
  let d := (s.d ^^^ a).rotateLeft 32
  let c := s.c + d
  let b := (s.b ^^^ c).rotateLeft 24
  let a := a + b
  let d := (d ^^^ a).rotateLeft 16
  let c := c + d
  let b := (b ^^^ c).rotateLeft 63
  ⟨a, b, c, d⟩

def stirN : Nat → St → St
  | 0, s => s
  | n + 1, s => mixR (BitVec.ofNat 64 (n + 1)) (stirN n s)

def stirF (s : St) : St := stirN 6 s
def takeF (s : St) (n : BitVec 64) : St := stirF { s with a := s.a ^^^ n }
def givesF (s : St) : BitVec 64 := s.a ^^^ s.c
def ini0 : BitVec 64 := 2611923443488327891#64
def ini1 : BitVec 64 := 1376283091369227076#64
def ini2 : BitVec 64 := 11820040416388919760#64
theorem nv_ini0 : nv ini0 = 2611923443488327891 := by rw [nv_eq]; decide
theorem nv_ini1 : nv ini1 = 1376283091369227076 := by rw [nv_eq]; decide
theorem nv_ini2 : nv ini2 = 11820040416388919760 := by rw [nv_eq]; decide
def beginF (k : BitVec 64) : St := ⟨ini0, ini1, ini2, k⟩
def oneF (d : BitVec 64) : BitVec 64 := givesF (takeF (beginF 2#64) d)
def twoF (a b : BitVec 64) : BitVec 64 := givesF (takeF (takeF (beginF 3#64) a) b)
def chainF (d : BitVec 64) : Nat → BitVec 64
  | 0 => d
  | n + 1 => oneF (chainF d n)

/-- The four words of a state, laid from a cell on. -/
noncomputable def putSt (w : World) (b o : Nat) (s : St) : World :=
  (((w.setCell ⟨b, o, none⟩ (.int .u64 (nv s.a))).setCell ⟨b, o + 1, none⟩ (.int .u64 (nv s.b))).setCell ⟨b, o + 2, none⟩ (.int .u64 (nv s.c))).setCell ⟨b, o + 3, none⟩ (.int .u64 (nv s.d))

end Go.Proofs.Ytghaiplhakeahaa
