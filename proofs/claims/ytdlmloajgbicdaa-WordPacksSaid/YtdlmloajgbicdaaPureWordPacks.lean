/-
  What any pointer is as a number, any number as a pointer, and what comes behind any one, is as the document says: of any numbers, with no condition.
-/
import Derived.Test.YtdlmloajgbicdaaPWordPacksx4
import Derived.Test.YtdlmloajgbicdaaMath
namespace Go.Proofs.Ytdlmloajgbicdaa.Pure
open Go.RowKit Go.Proofs.Ytdlmloajgbicdaa.PWordPacks Go.Proofs.Ytdlmloajgbicdaa.Wm Go.Proofs.YtdlmloajgbicdaaW.PrintWords Go.Proofs.YtdlmloajgbicdaaW.PrintLast Go.Proofs.YtdlmloajgbicdaaW.PrintMore
set_option linter.unusedSimpArgs false
set_option linter.unusedVariables false
namespace WPacks
theorem get_at (l : List S67) (i : Nat) (x : S67) (h : l[i]? = some x) : rd_T67 l (i : Int) = x := by
  unfold rd_T67
  rw [List.getD_eq_getElem?_getD, Int.toNat_natCast, h]; rfl
/-- One round of 'laid'. -/
theorem laid_step (k i at_ b : Nat) (l : List S67) (x n f : Int) (hi : (i : Int) < n) (hl : i < l.length) (hx : l[i]? = some ⟨f, b⟩) (hx0 : 0 ≤ x) (hx1 : x < 2 ^ at_) (hb : at_ + b ≤ 62) (hi2 : i < 1000) :
    word_laid.l0 (k + 1) x at_ l n i = word_laid.l0 k (x + 2 ^ at_ * (f % 2 ^ b)) ((at_ + b : Nat) : Int) l n ((i + 1 : Nat) : Int) := by
  have e := get_at l i _ hx
  have hm0 := Int.emod_nonneg f (Int.ne_of_gt (pow_pos' b))
  have hm1 := Int.emod_lt_of_pos f (pow_pos' b)
  have h62 := pow_le62 hb
  have hp : (2 : Int) ^ (at_ + b) = 2 ^ at_ * 2 ^ b := Int.pow_add _ _ _
  have hlt : 2 ^ at_ * (f % 2 ^ b) < 4611686018427387904 + 1 := by
    have := Int.mul_le_mul_of_nonneg_left (show f % 2 ^ b ≤ 2 ^ b by omega) (Int.le_of_lt (pow_pos' at_))
    omega
  have h1 : shl .i64 1 (b : Int) = 2 ^ b := shl_one (by omega)
  have hpb := pow_le62 (show b ≤ 62 by omega)
  have hpp := pow_pos' b
  have h2 : wrap64 ((2 : Int) ^ b - 1) = 2 ^ b - 1 := wrap64_id (by omega) (by omega)
  have h3 : shl .i64 (f % 2 ^ b) (at_ : Int) = 2 ^ at_ * (f % 2 ^ b) := by
    rw [shl_of hm0 (by rw [Int.mul_comm]; omega) (by omega), Int.mul_comm]
  have h4 : Go.bits .or .i64 x (2 ^ at_ * (f % 2 ^ b)) = x + 2 ^ at_ * (f % 2 ^ b) := or_join x _ at_ hx0 hx1 _ rfl hm0 (by omega) (by omega)
  simp only [word_laid.l0]
  rw [if_pos hi, if_pos (by omega), if_pos (by omega), e]
  simp only []
  rw [if_pos (by omega), if_pos (by omega), h1, h2, and_mask _ _ (by omega), h3, h4]
  rw [wrap64_id (by omega) (by omega), wrap64_id (by omega) (by omega)]
  rfl
theorem laid_end (k i : Nat) (l : List S67) (x a n : Int) (hi : ¬ (i : Int) < n) : word_laid.l0 (k + 1) x a l n i = some x := by
  simp only [word_laid.l0]; rw [if_neg hi]
/-- Three fields, laid. -/
theorem laid_three (k : Nat) (f g h : Int) (a b c : Nat) (hs : a + b + c ≤ 62) (hk : 4 ≤ k) :
    word_laid.f k [(⟨f, a⟩ : S67), ⟨g, b⟩, ⟨h, c⟩] = some (f % 2 ^ a + 2 ^ a * (g % 2 ^ b) + 2 ^ (a + b) * (h % 2 ^ c)) := by
  obtain ⟨k, rfl⟩ : ∃ m, k = m + 4 := ⟨k - 4, by omega⟩
  have pa := pow_pos' a; have pb := pow_pos' b; have pc := pow_pos' c
  have f0 := Int.emod_nonneg f (Int.ne_of_gt pa); have f1 := Int.emod_lt_of_pos f pa
  have g0 := Int.emod_nonneg g (Int.ne_of_gt pb); have g1 := Int.emod_lt_of_pos g pb
  have gm : 2 ^ a * (g % 2 ^ b) ≤ 2 ^ a * (2 ^ b - 1) := Int.mul_le_mul_of_nonneg_left (by omega) (Int.le_of_lt pa)
  have gn : 0 ≤ 2 ^ a * (g % 2 ^ b) := Int.mul_nonneg (Int.le_of_lt pa) g0
  have pab : (2 : Int) ^ (a + b) = 2 ^ a * 2 ^ b := Int.pow_add _ _ _
  rw [Int.mul_sub, ← pab, Int.mul_one] at gm
  unfold word_laid.f
  have s1 := laid_step (k + 3) 0 0 a [(⟨f, a⟩ : S67), ⟨g, b⟩, ⟨h, c⟩] 0 3 f (by omega) (by simp) rfl (by omega) (by decide) (by omega) (by omega)
  have s2 := laid_step (k + 2) 1 a b [(⟨f, a⟩ : S67), ⟨g, b⟩, ⟨h, c⟩] (f % 2 ^ a) 3 g (by omega) (by simp) rfl (by omega) (by omega) (by omega) (by omega)
  have s3 := laid_step (k + 1) 2 (a + b) c [(⟨f, a⟩ : S67), ⟨g, b⟩, ⟨h, c⟩] (f % 2 ^ a + 2 ^ a * (g % 2 ^ b)) 3 h (by omega) (by simp) rfl (by omega) (by omega) (by omega) (by omega)
  have s4 := laid_end k 3 [(⟨f, a⟩ : S67), ⟨g, b⟩, ⟨h, c⟩] (f % 2 ^ a + 2 ^ a * (g % 2 ^ b) + 2 ^ (a + b) * (h % 2 ^ c)) ((a + b + c : Nat) : Int) 3 (by omega)
  have e0 : (0 : Int) + 2 ^ 0 * (f % 2 ^ a) = f % 2 ^ a := by rw [Int.pow_zero]; omega
  rw [e0, Nat.zero_add] at s1
  exact (s1.trans s2).trans (s3.trans s4)
/-- One round of 'read'. -/
theorem read_step (k i b : Nat) (x : Int) (out l : List Int) (n : Int) (hi : (i : Int) < n) (hl : i < l.length) (hx : l[i]? = some (b : Int)) (hb : b ≤ 62) (ho : out.length < 17592186044416) (hi2 : i < 1000) :
    word_read.l0 (k + 1) x out l n i = word_read.l0 k (x / 2 ^ b) (out ++ [x % 2 ^ b]) l n ((i + 1 : Nat) : Int) := by
  have e : rd l (i : Int) = b := by
    unfold rd
    rw [List.getD_eq_getElem?_getD, Int.toNat_natCast, hx]; rfl
  have hpb := pow_le62 hb
  have hpp := pow_pos' b
  simp only [word_read.l0]
  rw [if_pos hi, if_pos (by omega), if_pos (by omega), e, if_pos (by omega), if_pos ho, shl_one hb, wrap64_id (by omega) (by omega), and_mask _ _ hb, shr_of (by omega), wrap64_id (by omega) (by omega)]
  rfl
theorem read_end (k i : Nat) (x : Int) (out l : List Int) (n : Int) (hi : ¬ (i : Int) < n) : word_read.l0 (k + 1) x out l n i = some out := by
  simp only [word_read.l0]; rw [if_neg hi]
theorem read_three (k : Nat) (x : Int) (a b c : Nat) (hs : a + b + c ≤ 62) (hk : 4 ≤ k) :
    word_read.f k x [(a : Int), (b : Int), (c : Int)] = some [x % 2 ^ a, x / 2 ^ a % 2 ^ b, x / 2 ^ a / 2 ^ b % 2 ^ c] := by
  obtain ⟨k, rfl⟩ : ∃ m, k = m + 4 := ⟨k - 4, by omega⟩
  unfold word_read.f
  have s1 := read_step (k + 3) 0 a x [] [(a : Int), (b : Int), (c : Int)] 3 (by omega) (by simp) rfl (by omega) (by simp) (by omega)
  have s2 := read_step (k + 2) 1 b (x / 2 ^ a) [x % 2 ^ a] [(a : Int), (b : Int), (c : Int)] 3 (by omega) (by simp) rfl (by omega) (by simp) (by omega)
  have s3 := read_step (k + 1) 2 c (x / 2 ^ a / 2 ^ b) [x % 2 ^ a, x / 2 ^ a % 2 ^ b] [(a : Int), (b : Int), (c : Int)] 3 (by omega) (by simp) rfl (by omega) (by simp) (by omega)
  have s4 := read_end k 3 (x / 2 ^ a / 2 ^ b / 2 ^ c) [x % 2 ^ a, x / 2 ^ a % 2 ^ b, x / 2 ^ a / 2 ^ b % 2 ^ c] [(a : Int), (b : Int), (c : Int)] 3 (by omega)
  exact (s1.trans s2).trans (s3.trans s4)

def mark01 (m : Bool) : Int := if m then 1 else 0
theorem pack_f (k : Nat) (i : Int) (m : Bool) (c : Int) (hk : 4 ≤ k) : word_Pack.f k i m c = some (i % 65536 + 65536 * mark01 m + 131072 * (c % 268435456)) := by
  unfold word_Pack.f mark01
  cases m with
  | true =>
    have := laid_three k i 1 c 16 1 28 (by decide) hk
    simp only [if_true, Option.bind_some] at this ⊢
    have e : ((16 : Nat) : Int) = 16 := rfl
    rw [show ([(⟨i, 16⟩ : S67), ⟨1, 1⟩, ⟨c, 28⟩]) = [(⟨i, ((16 : Nat) : Int)⟩ : S67), ⟨1, ((1 : Nat) : Int)⟩, ⟨c, ((28 : Nat) : Int)⟩] from rfl, this]
    rfl
  | false =>
    have := laid_three k i 0 c 16 1 28 (by decide) hk
    simp only [Bool.false_eq_true, if_false, Option.bind_some] at this ⊢
    rw [show ([(⟨i, 16⟩ : S67), ⟨0, 1⟩, ⟨c, 28⟩]) = [(⟨i, ((16 : Nat) : Int)⟩ : S67), ⟨0, ((1 : Nat) : Int)⟩, ⟨c, ((28 : Nat) : Int)⟩] from rfl, this]
    rfl
theorem of_f (k : Nat) (n : Int) (hk : 4 ≤ k) : word_Of.f k n = some (n % 65536, (n / 65536 % 2 == 1), n / 131072 % 268435456) := by
  unfold word_Of.f
  have := read_three k n 16 1 28 (by decide) hk
  rw [show ([16, 1, 28] : List Int) = [((16 : Nat) : Int), ((1 : Nat) : Int), ((28 : Nat) : Int)] from rfl, this]
  have e : n / 2 ^ 16 / 2 ^ 1 % 2 ^ 28 = n / 131072 % 268435456 := by
    have : (2 : Int) ^ 16 = 65536 := rfl
    have : (2 : Int) ^ 1 = 2 := rfl
    have : (2 : Int) ^ 28 = 268435456 := rfl
    simp only [*]; omega
  simp only [Option.bind_some, List.length_cons, List.length_nil]
  rw [if_pos (by decide), if_pos (by decide), if_pos (by decide)]
  simp only [rd, Int.toNat_zero, List.getD_cons_zero, show (1 : Int).toNat = 1 from rfl, show (2 : Int).toNat = 2 from rfl, List.getD_cons_succ]
  rw [e]; rfl
theorem turn_f (k : Nat) (i : Int) (m : Bool) (c tt : Int) (hk : 4 ≤ k) : word_Turn.f k i m c tt = some (tt % 65536, false, wrap64 (c + 1) % 268435456) := by
  unfold word_Turn.f
  rw [pack_f k _ _ _ hk]
  simp only [Option.bind_some, mark01, Bool.false_eq_true, if_false]
  rw [of_f k _ hk]
  simp only [Option.bind_some]
  have e1 : (tt % 65536 + 65536 * 0 + 131072 * (wrap64 (c + 1) % 268435456)) % 65536 = tt % 65536 := by omega
  have e2 : (tt % 65536 + 65536 * 0 + 131072 * (wrap64 (c + 1) % 268435456)) / 65536 % 2 = 0 := by omega
  have e3 : (tt % 65536 + 65536 * 0 + 131072 * (wrap64 (c + 1) % 268435456)) / 131072 % 268435456 = wrap64 (c + 1) % 268435456 := by omega
  rw [e1, e2, e3]; rfl
theorem offer_f (k : Nat) (v kind c : Int) (hk : 4 ≤ k) : word_Offer.f k v kind c = some (v % 4294967296 + 4294967296 * (kind % 4) + 17179869184 * (c % 268435456)) := by
  unfold word_Offer.f
  have := laid_three k v kind c 32 2 28 (by decide) hk
  rw [show ([(⟨v, 32⟩ : S67), ⟨kind, 2⟩, ⟨c, 28⟩]) = [(⟨v, ((32 : Nat) : Int)⟩ : S67), ⟨kind, ((2 : Nat) : Int)⟩, ⟨c, ((28 : Nat) : Int)⟩] from rfl, this]
  rfl
theorem offered_f (k : Nat) (n : Int) (hk : 4 ≤ k) : word_Offered.f k n = some (n % 4294967296, n / 4294967296 % 4, n / 17179869184 % 268435456) := by
  unfold word_Offered.f
  have := read_three k n 32 2 28 (by decide) hk
  rw [show ([32, 2, 28] : List Int) = [((32 : Nat) : Int), ((2 : Nat) : Int), ((28 : Nat) : Int)] from rfl, this]
  have e : n / 2 ^ 32 / 2 ^ 2 % 2 ^ 28 = n / 17179869184 % 268435456 := by
    have : (2 : Int) ^ 32 = 4294967296 := rfl
    have : (2 : Int) ^ 2 = 4 := rfl
    have : (2 : Int) ^ 28 = 268435456 := rfl
    simp only [*]; omega
  simp only [Option.bind_some, List.length_cons, List.length_nil]
  rw [if_pos (by decide), if_pos (by decide), if_pos (by decide)]
  simp only [rd, Int.toNat_zero, List.getD_cons_zero, show (1 : Int).toNat = 1 from rfl, show (2 : Int).toNat = 2 from rfl, List.getD_cons_succ]
  rw [e]; rfl
/-- One round of 'Rev'. -/
theorem rev_step (k i x : Nat) (hi : i < 16) (hx : x < 4611686018427387904) : word_Rev.l0 (k + 1) x (rv i x : Nat) i = word_Rev.l0 k x (rv (i + 1) x : Nat) ((i + 1 : Nat) : Int) := by
  have h1 := rv_lt i x
  have h2 : 2 ^ i ≤ 2 ^ 16 := Nat.pow_le_pow_right (by decide) (by omega)
  have h3 : (2 : Nat) ^ 16 = 65536 := rfl
  simp only [word_Rev.l0]
  rw [if_pos (by omega), if_pos (by omega), shr_of (by omega)]
  have e1 := and_mask ((x : Int) / 2 ^ i) 1 (by decide)
  rw [show ((2 : Int) ^ 1 - 1) = 1 from rfl, show ((2 : Int) ^ 1) = 2 from rfl] at e1
  rw [e1, wrap64_id (by omega) (by omega), wrap64_id (x := (i : Int) + 1) (by omega) (by omega)]
  have e2 : Go.bits .or .i64 ((rv i x : Int) * 2) ((x : Int) / 2 ^ i % 2) = (x : Int) / 2 ^ i % 2 + (rv i x : Int) * 2 := by
    have hc : Go.bits .or .i64 ((rv i x : Int) * 2) ((x : Int) / 2 ^ i % 2) = Go.bits .or .i64 ((x : Int) / 2 ^ i % 2) ((rv i x : Int) * 2) := by
      simp only [Go.bits, BitVec.or_comm]
    rw [hc]
    exact or_join _ _ 1 (by omega) (by rw [show ((2 : Int) ^ 1) = 2 from rfl]; omega) (rv i x) (by rw [show ((2 : Int) ^ 1) = 2 from rfl]; omega) (by omega) (by omega) (by decide)
  rw [e2]
  have e3 : (x : Int) / 2 ^ i % 2 + (rv i x : Int) * 2 = ((rv (i + 1) x : Nat) : Int) := by
    rw [rv_succ]
    have : ((x / 2 ^ i % 2 : Nat) : Int) = (x : Int) / 2 ^ i % 2 := by simp
    omega
  rw [e3]; rfl
theorem rev_all (d : Nat) : ∀ (k i x : Nat), i + d = 16 → d < k → x < 4611686018427387904 → word_Rev.l0 k x (rv i x : Nat) i = some ((rv 16 x : Nat) : Int) := by
  induction d with
  | zero =>
    intro k i x hi hk hx
    obtain ⟨k, rfl⟩ : ∃ m, k = m + 1 := ⟨k - 1, by omega⟩
    obtain rfl : i = 16 := by omega
    simp only [word_Rev.l0]; rw [if_neg (by omega)]
  | succ d ih =>
    intro k i x hi hk hx
    obtain ⟨k, rfl⟩ : ∃ m, k = m + 1 := ⟨k - 1, by omega⟩
    rw [rev_step k i x (by omega) hx]
    exact ih k (i + 1) x (by omega) (by omega) hx
theorem rev_f (k x : Nat) (hk : 17 ≤ k) (hx : x < 4611686018427387904) : word_Rev.f k (x : Int) = some ((rv 16 x : Nat) : Int) := by
  unfold word_Rev.f
  have h := rev_all 16 k 0 x (by omega) (by omega) hx
  rw [rv_zero] at h
  exact h
theorem rv16_lt (x : Nat) : rv 16 x < 65536 := rv_lt 16 x
theorem dummy_f (k x : Nat) (hk : 17 ≤ k) (hx : x < 4611686018427387904) : word_Dummy.f k (x : Int) = some ((2 * rv 16 x : Nat) : Int) := by
  unfold word_Dummy.f
  rw [rev_f k x hk hx]
  simp only [Option.bind_some]
  have := rv16_lt x
  rw [wrap64_id (by omega) (by omega)]
  congr 1; omega
theorem real_f (k x : Nat) (hk : 17 ≤ k) (hx : x < 4611686018427387904) : word_Real.f k (x : Int) = some ((2 * rv 16 x + 1 : Nat) : Int) := by
  unfold word_Real.f
  rw [rev_f k x hk hx]
  simp only [Option.bind_some]
  have := rv16_lt x
  rw [wrap64_id (by omega) (by omega)]
  have hc : Go.bits .or .i64 ((rv 16 x : Int) * 2) 1 = Go.bits .or .i64 1 ((rv 16 x : Int) * 2) := by simp only [Go.bits, BitVec.or_comm]
  rw [hc, or_join 1 _ 1 (by decide) (by decide) (rv 16 x) (by rw [show ((2 : Int) ^ 1) = 2 from rfl]; omega) (by omega) (by omega) (by decide)]
  congr 1; omega
theorem key_f (k x : Nat) (hk : 17 ≤ k) (hx : x < 4611686018427387904) : word_Key.f k (x : Int) = some ((rv 16 (x / 2) : Nat) : Int) := by
  unfold word_Key.f
  have : ((x : Int) / 2) = ((x / 2 : Nat) : Int) := by omega
  rw [this, rev_f k (x / 2) hk (by omega)]
  rfl
theorem awake_f (k : Nat) (hk : 17 ≤ k) : underwoodlaw01_awake.f k = some true := by
  obtain ⟨m, rfl⟩ : ∃ m, k = 17 + m := ⟨k - 17, by omega⟩
  have hl : ∀ m, LeO (underwoodlaw01_awake.f 17) (underwoodlaw01_awake.f (17 + m)) := fun m => by
    induction m with
    | zero => exact LeO.refl _
    | succ m ih => exact fun r h => underwoodlaw01_awake.mono _ _ (ih r h)
  exact hl m _ (by decide +kernel)
end WPacks
open WPacks
theorem wf16 {x : Int} (h : (Lit.int .u16 x).wf = true) : ∃ n : Nat, x = n ∧ n < 65536 := by
  have h1 : IntKind.u16.min = 0 := rfl
  have h2 : IntKind.u16.max = 65535 := rfl
  simp only [Lit.wf, Bool.and_eq_true, decide_eq_true_eq, h1, h2] at h
  exact ⟨x.toNat, by omega, by omega⟩
theorem wfu {k : IntKind} {x m : Int} (h : (Lit.int k x).wf = true) (h1 : k.min = 0) (h2 : k.max = m) : 0 ≤ x ∧ x ≤ m := by
  simp only [Lit.wf, Bool.and_eq_true, decide_eq_true_eq, h1, h2] at h
  exact h
theorem wfi {x : Int} (h : (Lit.int .i64 x).wf = true) : -9223372036854775808 ≤ x ∧ x ≤ 9223372036854775807 := by
  have h1 : IntKind.i64.min = -9223372036854775808 := rfl
  have h2 : IntKind.i64.max = 9223372036854775807 := rfl
  simp only [Lit.wf, Bool.and_eq_true, decide_eq_true_eq, h1, h2] at h
  exact h

theorem tmod_neg (m n : Int) (hn : 0 < n) : (Int.tmod m n < 0 → Int.tmod m n + n = m % n) ∧ (¬ Int.tmod m n < 0 → Int.tmod m n = m % n) := by
  have h1 := Int.emod_nonneg m (Int.ne_of_gt hn)
  have h2 := Int.emod_lt_of_pos m hn
  have h3 := Int.tmod_lt_of_pos m hn
  have h4 : -n < Int.tmod m n := by
    have := Int.tmod_lt_of_pos (-m) hn
    rw [Int.neg_tmod] at this; omega
  have h5 : (Int.tmod m n) % n = m % n := by
    have e := Int.mul_tdiv_add_tmod m n
    have : m % n = (n * Int.tdiv m n + Int.tmod m n) % n := by rw [e]
    rw [this, Int.mul_add_emod_self_left]
  constructor
  · intro h
    have : (Int.tmod m n + n) % n = m % n := by rw [Int.add_emod_right]; exact h5
    rw [← this, Int.emod_eq_of_lt (by omega) (by omega)]
  · intro h
    rw [← h5, Int.emod_eq_of_lt (by omega) h3]
theorem mod_f (m n : Int) (hn : 0 < n) (hn2 : n < 9223372036854775808) : underwoodref01_mod.f m n = some (m % n) := by
  have h := tmod_neg m n hn
  have h1 := Int.emod_nonneg m (Int.ne_of_gt hn)
  have h2 := Int.emod_lt_of_pos m hn
  unfold underwoodref01_mod.f
  rw [if_neg (by omega)]
  by_cases c : Int.tmod m n < 0
  · rw [if_pos c, h.1 c, wrap64_id (by omega) (by omega)]
  · rw [if_neg c, h.2 c]
theorem refpack (i : Int) (m : Bool) (c : Int) : underwoodref01_Pack.f i m c = some (i % 65536 + 65536 * mark01 m + 131072 * (c % 268435456)) := by
  unfold underwoodref01_Pack.f
  rw [mod_f _ _ (by decide) (by decide), mod_f _ _ (by decide) (by decide)]
  simp only [Option.bind_some]
  rw [wrap64_id (x := 131072 * (c % 268435456)) (by omega) (by omega), wrap64_id (x := i % 65536 + 131072 * (c % 268435456)) (by omega) (by omega)]
  cases m with
  | true => rw [if_pos rfl, wrap64_id (by omega) (by omega)]; simp only [mark01, if_true]; congr 1; omega
  | false => rw [if_neg (by decide)]; simp only [mark01, Bool.false_eq_true, if_false]; congr 1; omega
theorem refof (n : Int) : underwoodref01_Of.f n = some (n % 65536, (n / 65536 % 2 == 1), n / 131072 % 268435456) := by
  unfold underwoodref01_Of.f
  rw [mod_f _ _ (by decide) (by decide)]
  simp only [Option.bind_some]
  have h1 : 0 ≤ n % 35184372088832 := by omega
  rw [Int.tmod_eq_emod_of_nonneg h1, Int.tdiv_eq_ediv_of_nonneg h1, Int.tdiv_eq_ediv_of_nonneg h1, wrap64_id (by omega) (by omega), wrap64_id (by omega) (by omega), Int.tmod_eq_emod_of_nonneg (by omega)]
  have e : n % 35184372088832 / 65536 % 2 = n / 65536 % 2 := by omega
  rw [e]
  congr 1
  refine Prod.ext (by omega) (Prod.ext rfl (by simp only []; omega))
theorem refturn (i : Int) (m : Bool) (c tt : Int) : underwoodref01_Turn.f i m c tt = some (tt % 65536, false, (c + 1) % 268435456) := by
  unfold underwoodref01_Turn.f
  rw [mod_f _ _ (by decide) (by decide), mod_f _ _ (by decide) (by decide)]
  simp only [Option.bind_some]
  rw [wrap64_id (x := c % 268435456 + 1) (by omega) (by omega), mod_f _ _ (by decide) (by decide)]
  simp only [Option.bind_some]
  congr 1
  refine Prod.ext rfl (Prod.ext rfl (by simp only []; omega))
theorem wrap_mod (c : Int) : wrap64 (c + 1) % 268435456 = (c + 1) % 268435456 := by unfold wrap64; omega
theorem WordPacks (i : Int) (m : Bool) (c n tt : Int) : underwoodlaw01_WordPacks.f 17 i m c n tt = some true := by
  unfold underwoodlaw01_WordPacks.f
  rw [awake_f 17 (by omega), pack_f 17 i m c (by omega), refpack, of_f 17 n (by omega), refof, turn_f 17 i m c tt (by omega), refturn, wrap_mod]
  simp only [Option.bind_some, if_true, beq_self_eq_true, Bool.and_self]

end Go.Proofs.Ytdlmloajgbicdaa.Pure
