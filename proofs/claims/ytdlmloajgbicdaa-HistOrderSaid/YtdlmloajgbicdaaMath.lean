/-
  The bits of the words of layer 1, over whole numbers alone: what a mask, a shift and an 'or' are, and what turning sixteen bits round does. No condition.
-/
import Derived.Test.YtdlmloajgbicdaaWMore
import Derived.Laws.BitsLemmas
namespace Go.Proofs.Ytdlmloajgbicdaa.Wm
open Go.RowKit Go.Proofs.YtdlmloajgbicdaaW.PrintWords Go.Proofs.YtdlmloajgbicdaaW.PrintLast Go.Proofs.YtdlmloajgbicdaaW.PrintMore
set_option linter.unusedVariables false
set_option linter.unusedSimpArgs false

theorem wrap64_id {x : Int} (h0 : -9223372036854775808 ≤ x) (h1 : x < 9223372036854775808) : wrap64 x = x := by unfold wrap64; omega
theorem w64_id {x : Int} (h0 : -9223372036854775808 ≤ x) (h1 : x < 9223372036854775808) : IntKind.i64.wrap x = x := by rw [IntKind.wrap_i64]; omega
theorem pow_le62 {b : Nat} (hb : b ≤ 62) : (2 : Int) ^ b ≤ 4611686018427387904 := by
  have h : 2 ^ b ≤ 2 ^ 62 := Nat.pow_le_pow_right (by decide) hb
  have h2 : ((2 ^ b : Nat) : Int) ≤ ((2 ^ 62 : Nat) : Int) := by exact_mod_cast h
  simpa using h2
theorem pow_pos' (b : Nat) : (0 : Int) < 2 ^ b := Int.pow_pos (by decide)

/-- A mask of b bits: what is left modulo 2^b, whatever the number. -/
theorem and_mask (x : Int) (b : Nat) (hb : b ≤ 62) : Go.bits .and .i64 x (2 ^ b - 1) = x % 2 ^ b := by
  have hp : 0 < 2 ^ b := Nat.two_pow_pos b
  have hle : 2 ^ b ≤ 2 ^ 62 := Nat.pow_le_pow_right (by decide) hb
  have hc : ((2 : Int) ^ b - 1) = ((2 ^ b - 1 : Nat) : Int) := by rw [Int.natCast_sub hp]; simp
  have hlt : 2 ^ b - 1 < 2 ^ IntKind.bits .i64 := by
    have : (2 : Nat) ^ 62 < 2 ^ IntKind.bits .i64 := by decide
    omega
  have hx : (BitVec.ofInt (IntKind.bits .i64) x).toNat = (x % 18446744073709551616).toNat := by rw [BitVec.toNat_ofInt]; rfl
  have e : Go.bits .and .i64 x (2 ^ b - 1) = IntKind.i64.wrap ((((x % 18446744073709551616).toNat % 2 ^ b : Nat)) : Int) := by
    rw [hc]
    simp only [Go.bits, BitVec.toNat_and, BitVec.ofInt_natCast, BitVec.toNat_ofNat, Nat.mod_eq_of_lt hlt, hx, Nat.and_two_pow_sub_one_eq_mod]
  rw [e]
  have h2 : (((x % 18446744073709551616).toNat % 2 ^ b : Nat) : Int) = x % 2 ^ b := by
    rw [Int.natCast_emod, Int.toNat_of_nonneg (Int.emod_nonneg _ (by decide))]
    have hd : ((2 ^ b : Nat) : Int) ∣ 18446744073709551616 := by
      have : 2 ^ b ∣ 2 ^ 64 := Nat.pow_dvd_pow 2 (by omega)
      have h3 : ((2 ^ b : Nat) : Int) ∣ ((2 ^ 64 : Nat) : Int) := Int.natCast_dvd_natCast.2 this
      simpa using h3
    rw [Int.emod_emod_of_dvd _ hd]; simp
  rw [h2]
  have h3 := Int.emod_nonneg x (Int.ne_of_gt (pow_pos' b))
  have h4 := Int.emod_lt_of_pos x (pow_pos' b)
  have h5 := pow_le62 hb
  exact w64_id (by omega) (by omega)

/-- Numbers that share no bit are joined by adding. -/
theorem or_join (x y : Int) (i : Nat) (hx0 : 0 ≤ x) (hx1 : x < 2 ^ i) (m : Int) (hy : y = 2 ^ i * m) (hm : 0 ≤ m) (hy1 : y < 9223372036854775808) (hi : i ≤ 62) :
    Go.bits .or .i64 x y = x + y := by
  have h5 := pow_le62 hi
  have hc : Go.bits .or .i64 x y = Go.bits .or .i64 y x := by
    simp only [Go.bits, BitVec.or_comm]
  rw [hc, Int.add_comm]
  refine bits_join .i64 63 (by decide) (fun n h0 h1 => w64_id (by omega) (by simpa using h1)) i y x ?_ ?_ ?_ hx0 hx1 ?_
  · rw [hy]; exact Int.mul_nonneg (Int.le_of_lt (pow_pos' i)) hm
  · rw [hy]; simp
  · simpa using hy1
  · have : (2 : Int) ^ 63 = 9223372036854775808 := by decide
    omega

theorem shl_one {b : Nat} (hb : b ≤ 62) : shl .i64 1 (b : Int) = 2 ^ b := by
  unfold shl
  have h1 : min ((b : Int)).toNat (IntKind.bits .i64) = b := by simp [IntKind.bits]; omega
  rw [h1, Int.one_mul]
  have := pow_le62 hb; have := pow_pos' b
  exact w64_id (by omega) (by omega)
theorem shl_of {x : Int} {b : Nat} (h0 : 0 ≤ x) (h1 : x * 2 ^ b < 9223372036854775808) (hb : b ≤ 62) : shl .i64 x (b : Int) = x * 2 ^ b := by
  unfold shl
  have h2 : min ((b : Int)).toNat (IntKind.bits .i64) = b := by simp [IntKind.bits]; omega
  rw [h2]
  have h3 : 0 ≤ x * 2 ^ b := Int.mul_nonneg h0 (Int.le_of_lt (pow_pos' b))
  exact w64_id (by omega) (by omega)
theorem shr_of {x : Int} {b : Nat} (hb : b ≤ 64) : shr .i64 x (b : Int) = x / 2 ^ b := by
  unfold shr
  have h2 : min ((b : Int)).toNat (IntKind.bits .i64) = b := by simp [IntKind.bits]; omega
  rw [h2]

/-! ### Bits turned round -/
/-- The lowest n bits of x, turned round. -/
def rv : Nat → Nat → Nat
  | 0, _ => 0
  | n + 1, x => 2 * rv n x + x / 2 ^ n % 2
theorem rv_zero (x : Nat) : rv 0 x = 0 := rfl
theorem rv_succ (n x : Nat) : rv (n + 1) x = 2 * rv n x + x / 2 ^ n % 2 := rfl
theorem rv_lt (n x : Nat) : rv n x < 2 ^ n := by
  induction n with
  | zero => simp [rv]
  | succ n ih => simp only [rv, Nat.pow_succ]; omega
theorem rv_bit (n x j : Nat) : (rv n x).testBit j = (decide (j < n) && x.testBit (n - 1 - j)) := by
  induction n generalizing j with
  | zero => simp [rv]
  | succ n ih =>
    cases j with
    | zero =>
      simp only [rv, Nat.testBit_eq_decide_div_mod_eq, Nat.sub_zero, Nat.add_sub_cancel, Nat.pow_zero, Nat.div_one]
      have : (2 * rv n x + x / 2 ^ n % 2) % 2 = x / 2 ^ n % 2 := by omega
      rw [this]; simp
    | succ j =>
      simp only [rv, Nat.testBit_succ]
      have : (2 * rv n x + x / 2 ^ n % 2) / 2 = rv n x := by omega
      rw [this, ih]
      by_cases h : j < n
      · have h2 : n - 1 - j = n + 1 - 1 - (j + 1) := by omega
        simp [h, h2]
      · simp [h]
theorem rv_rv {n x : Nat} (h : x < 2 ^ n) : rv n (rv n x) = x := by
  refine Nat.eq_of_testBit_eq fun j => ?_
  rw [rv_bit, rv_bit]
  by_cases hj : j < n
  · have h1 : n - 1 - j < n := by omega
    have h2 : n - 1 - (n - 1 - j) = j := by omega
    simp [hj, h1, h2]
  · have : x < 2 ^ j := Nat.lt_of_lt_of_le h (Nat.pow_le_pow_right (by decide) (by omega))
    simp [hj, Nat.testBit_lt_two_pow this]
theorem rv_inj {n x y : Nat} (hx : x < 2 ^ n) (hy : y < 2 ^ n) (h : rv n x = rv n y) : x = y := by
  rw [← rv_rv hx, ← rv_rv hy, h]
theorem rv_mod {i n : Nat} (x : Nat) (h : n ≤ i) : rv n (x % 2 ^ i) = rv n x := by
  induction n with
  | zero => rfl
  | succ n ih =>
    simp only [rv, ih (by omega)]
    have h1 : x % 2 ^ i / 2 ^ n % 2 = x / 2 ^ n % 2 := by
      have e1 := Nat.testBit_mod_two_pow x i n
      rw [Nat.testBit_eq_decide_div_mod_eq, Nat.testBit_eq_decide_div_mod_eq] at e1
      have h2 : n < i := by omega
      simp only [h2, decide_true, Bool.true_and, decide_eq_decide] at e1
      omega
    rw [h1]
/-- Of a number below 2^i no bit from place i on is set. -/
theorem rv_small {i : Nat} (d : Nat) {x : Nat} (h : x < 2 ^ i) : rv (i + d) x = rv i x * 2 ^ d := by
  induction d with
  | zero => simp
  | succ d ih =>
    have h1 : x / 2 ^ (i + d) = 0 := Nat.div_eq_of_lt (Nat.lt_of_lt_of_le h (Nat.pow_le_pow_right (by decide) (by omega)))
    have : rv (i + (d + 1)) x = 2 * rv (i + d) x + x / 2 ^ (i + d) % 2 := rfl
    rw [this, ih, h1, Nat.pow_succ, Nat.zero_mod, Nat.add_zero, Nat.mul_comm 2, Nat.mul_assoc]
/-- All bits turned round: the lower ones come to stand on top. -/
theorem rv_split (i d x : Nat) : ∃ r, r < 2 ^ d ∧ rv (i + d) x = rv i x * 2 ^ d + r := by
  induction d with
  | zero => exact ⟨0, by simp, by simp⟩
  | succ d ih =>
    obtain ⟨r, hr, e⟩ := ih
    refine ⟨2 * r + x / 2 ^ (i + d) % 2, by rw [Nat.pow_succ]; omega, ?_⟩
    have : rv (i + (d + 1)) x = 2 * rv (i + d) x + x / 2 ^ (i + d) % 2 := rfl
    rw [this, e, Nat.pow_succ, Nat.mul_add, ← Nat.mul_assoc, Nat.mul_comm (2 ^ d) 2, ← Nat.mul_assoc, Nat.mul_comm 2 (rv i x), Nat.add_assoc]
attribute [irreducible] rv
end Go.Proofs.Ytdlmloajgbicdaa.Wm
