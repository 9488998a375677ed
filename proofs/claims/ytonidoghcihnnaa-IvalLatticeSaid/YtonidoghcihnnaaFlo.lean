/- Floats of 64 bits as indices: their order and their values. -/
import Ieee.Arith
namespace Go.Proofs.Ytonidoghcihnnaa

/-- The rung of infinity, and the weight of the sign. -/
def INF : Nat := 9218868437227405312
def SGN : Nat := 9223372036854775808
def BN : Nat := 4503599627370496

theorem INF_eq : INF = 9218868437227405312 := rfl
theorem SGN_eq : SGN = 9223372036854775808 := rfl
theorem BN_eq : BN = 4503599627370496 := rfl

/-- The magnitude of a rung, in units of 2^-1074. -/
def mag (r : Nat) : Nat := if r < BN then r else (BN + r % BN) * 2 ^ (r / BN - 1)

theorem mag_small {r : Nat} (h : r < BN) : mag r = r := by unfold mag; rw [if_pos h]

theorem mag_zero : mag 0 = 0 := by unfold mag BN; rfl

/-- k 2^L, k at most 2^53, is a rung's magnitude. -/
theorem mag_scaled {k L : Nat} (hk : k ≤ 2 * BN) (h : L = 0 ∨ BN ≤ k) : mag (L * BN + k) = k * 2 ^ L := by
  have hb : 0 < BN := by unfold BN; omega
  by_cases h1 : k < BN
  · have hL : L = 0 := by omega
    subst hL
    rw [Nat.zero_mul, Nat.zero_add, mag_small h1]; simp
  · by_cases h2 : k = 2 * BN
    · subst h2
      have e : L * BN + 2 * BN = (L + 2) * BN := by rw [Nat.add_mul]
      unfold mag
      rw [e, if_neg (by rw [Nat.not_lt]; exact Nat.le_mul_of_pos_left _ (by omega)), Nat.mul_mod_left, Nat.mul_div_cancel _ hb]
      rw [Nat.add_zero, show L + 2 - 1 = L + 1 by omega, Nat.pow_succ, Nat.mul_comm 2 BN, Nat.mul_assoc, Nat.mul_comm (2^L) 2]
    · obtain ⟨t, rfl⟩ : ∃ t, k = BN + t := ⟨k - BN, by omega⟩
      have ht : t < BN := by omega
      have e : L * BN + (BN + t) = t + (L + 1) * BN := by rw [Nat.add_mul]; omega
      unfold mag
      have hle : BN ≤ (L + 1) * BN := Nat.le_mul_of_pos_left _ (by omega)
      rw [e, if_neg (by omega), Nat.add_mul_mod_self_right, Nat.mod_eq_of_lt ht, Nat.add_mul_div_right _ _ hb, Nat.div_eq_of_lt ht]
      rw [Nat.zero_add, Nat.add_sub_cancel]

/-- Every rung is of that form. -/
theorem rung_form (r : Nat) : ∃ k L, r = L * BN + k ∧ k < 2 * BN ∧ (L = 0 ∨ BN ≤ k) := by
  have hb : 0 < BN := by unfold BN; omega
  by_cases h : r < BN
  · exact ⟨r, 0, by omega, by omega, Or.inl rfl⟩
  · refine ⟨BN + r % BN, r / BN - 1, ?_, ?_, Or.inr (by omega)⟩
    · have hd := Nat.div_add_mod r BN
      have h1 : 1 ≤ r / BN := (Nat.one_le_div_iff hb).2 (by omega)
      obtain ⟨d, hd'⟩ : ∃ d, r / BN = d + 1 := ⟨r / BN - 1, by omega⟩
      rw [hd'] at hd ⊢
      rw [Nat.mul_comm, Nat.add_mul] at hd
      rw [Nat.add_sub_cancel]; omega
    · have := Nat.mod_lt r hb; omega

theorem mag_succ_lt (r : Nat) : mag r < mag (r + 1) := by
  obtain ⟨k, L, rfl, hk, h⟩ := rung_form r
  rw [mag_scaled (by omega) h, Nat.add_assoc, mag_scaled (by omega) (by omega), Nat.add_mul]
  have := Nat.two_pow_pos L
  omega

theorem mag_lt {r s : Nat} (h : r < s) : mag r < mag s := by
  induction s with
  | zero => omega
  | succ s ih =>
    have := mag_succ_lt s
    by_cases e : r = s
    · subst e; exact this
    · have := ih (by omega); omega

theorem mag_le {r s : Nat} (h : r ≤ s) : mag r ≤ mag s := by
  by_cases e : r = s
  · subst e; exact Nat.le_refl _
  · exact Nat.le_of_lt (mag_lt (by omega))

theorem mag_lt_iff {r s : Nat} : mag r < mag s ↔ r < s := by
  refine ⟨fun h => ?_, mag_lt⟩
  rw [← Nat.not_le]; intro h2; have := mag_le h2; omega

theorem mag_inj {r s : Nat} (h : mag r = mag s) : r = s := by
  rcases Nat.lt_trichotomy r s with h1 | h1 | h1
  · have := mag_lt h1; omega
  · exact h1
  · have := mag_lt h1; omega

theorem mag_top (L : Nat) : mag (L * BN + 2 * BN) = 2 ^ (53 + L) := by
  have h53 : 2 * BN = 2 ^ 53 := by rw [BN_eq]
  rw [mag_scaled (Nat.le_refl _) (Or.inr (by rw [BN_eq]; decide)), h53, ← Nat.pow_add]

theorem mag_INF : ∃ L : Nat, L = 2045 ∧ mag INF = 2 ^ (53 + L) := by
  obtain ⟨L, hL⟩ : ∃ L : Nat, L = 2045 := ⟨_, rfl⟩
  refine ⟨L, hL, ?_⟩
  rw [← mag_top, show INF = L * BN + 2 * BN by rw [hL, BN_eq, INF_eq]]

/-- The index of a word: its place in the order. -/
def ix (b : Nat) : Int := if b < SGN then (b : Int) else -((b - SGN : Nat) : Int)
/-- The word of an index. -/
def wd (i : Int) : Nat := if i < 0 then SGN + i.natAbs else i.natAbs
/-- An index's value in units of 2^-1074. -/
def fi (i : Int) : Int := if i < 0 then -(mag i.natAbs : Int) else (mag i.natAbs : Int)

theorem fi_neg (i : Int) : fi (-i) = -fi i := by
  unfold fi
  rcases Int.lt_trichotomy i 0 with h | h | h
  · rw [if_neg (by omega), if_pos h, Int.natAbs_neg]; omega
  · subst h; simp [mag_zero]
  · rw [if_pos (by omega), if_neg (by omega), Int.natAbs_neg]

theorem fi_zero : fi 0 = 0 := by unfold fi; simp [mag_zero]

theorem fi_lt {i j : Int} (h : i < j) : fi i < fi j := by
  unfold fi
  by_cases hi : i < 0
  · rw [if_pos hi]
    by_cases hj : j < 0
    · rw [if_pos hj]; have := mag_lt (show j.natAbs < i.natAbs by omega); omega
    · rw [if_neg hj]
      have := mag_lt (show 0 < i.natAbs by omega); rw [mag_zero] at this; omega
  · rw [if_neg hi, if_neg (by omega)]
    have := mag_lt (show i.natAbs < j.natAbs by omega); omega

theorem fi_lt_iff {i j : Int} : fi i < fi j ↔ i < j := by
  refine ⟨fun h => ?_, fi_lt⟩
  rcases Int.lt_trichotomy i j with h1 | h1 | h1
  · exact h1
  · subst h1; omega
  · have := fi_lt h1; omega

theorem fi_le_iff {i j : Int} : fi i ≤ fi j ↔ i ≤ j := by
  have := @fi_lt_iff j i; omega

theorem fi_inj {i j : Int} (h : fi i = fi j) : i = j := by
  have := @fi_lt_iff j i; have := @fi_lt_iff i j; omega

/-- Which words are no number. -/
def nan (b : Nat) : Prop := INF < b % SGN
/-- The words. -/
def word (b : Nat) : Prop := b < 2 * SGN

theorem ix_wd {i : Int} (h : i.natAbs < SGN) : ix (wd i) = i := by
  unfold ix wd
  by_cases hi : i < 0
  · rw [if_pos hi, if_neg (by omega), Nat.add_sub_cancel_left]; omega
  · rw [if_neg hi, if_pos h]; omega

theorem word_wd {i : Int} (h : i.natAbs < SGN) : word (wd i) := by
  unfold word wd; split <;> omega

theorem nan_wd {i : Int} (h : i.natAbs ≤ INF) : ¬ nan (wd i) := by
  unfold nan wd; rw [INF_eq] at *; unfold SGN; split <;> omega

theorem ix_abs {b : Nat} (hn : ¬ nan b) (hw : word b) : (ix b).natAbs ≤ INF := by
  unfold nan at hn; unfold word at hw; unfold ix; rw [INF_eq] at *; unfold SGN at *; split <;> omega

/-- A word without a sign of its own at zero. -/
theorem wd_ix {b : Nat} (h0 : b ≠ SGN) : wd (ix b) = b := by
  unfold ix wd
  split
  · rw [if_neg (by omega)]; omega
  · rw [if_pos (by omega)]; omega


theorem read_nan {b : Nat} (h : nan b) : ∃ s f, Ieee.double.read b = .nan s f := by
  unfold nan at h
  refine ⟨b / SGN % 2 == 1, b % SGN - INF, ?_⟩
  unfold Ieee.Format.read
  rw [show Ieee.double.signWeight = SGN from rfl, show Ieee.double.binade = BN from rfl, show Ieee.double.infRung = INF from by decide]
  dsimp only
  rw [INF_eq, BN_eq] at *
  rw [if_neg (by omega), if_neg (by omega), if_neg (by omega)]

theorem read_num {b : Nat} (h : b % SGN < INF) : ∃ m e, Ieee.double.read b = .number (b / SGN % 2 == 1) m (e - 1074) ∧ 0 ≤ e ∧ m * 2 ^ e.toNat = mag (b % SGN) ∧ (e = 0 ∨ BN ≤ m) ∧ m < 2 * BN := by
  unfold Ieee.Format.read
  rw [show Ieee.double.signWeight = SGN from rfl, show Ieee.double.binade = BN from rfl, show Ieee.double.infRung = INF from by decide, show Ieee.double.leastPlace = -1074 from by decide]
  dsimp only
  by_cases h1 : b % SGN < BN
  · rw [if_pos h1]
    exact ⟨_, 0, rfl, Int.le_refl _, by rw [mag_small h1]; simp, Or.inl rfl, by omega⟩
  · rw [if_neg h1, if_pos h]
    refine ⟨BN + b % SGN % BN, ((b % SGN / BN - 1 : Nat) : Int), ?_, Int.natCast_nonneg _, ?_, Or.inr (by omega), ?_⟩
    · rw [show (-1074 : Int) + ((b % SGN / BN - 1 : Nat) : Int) = ((b % SGN / BN - 1 : Nat) : Int) - 1074 by omega]
    · unfold mag; rw [if_neg h1, Int.toNat_natCast]
    · have := Nat.mod_lt (b % SGN) (show 0 < BN by rw [BN_eq]; decide); omega

theorem read_inf {b : Nat} (h : b % SGN = INF) : Ieee.double.read b = .infinity (b / SGN % 2 == 1) := by
  unfold Ieee.Format.read
  rw [show Ieee.double.signWeight = SGN from rfl, show Ieee.double.binade = BN from rfl, show Ieee.double.infRung = INF from by decide]
  dsimp only
  rw [if_neg (by rw [h, INF_eq, BN_eq]; decide), if_neg (by rw [h]; exact Nat.lt_irrefl _), if_pos h]

theorem ix_sign {b : Nat} (hw : word b) : ix b = if (b / SGN % 2 == 1) then -((b % SGN : Nat) : Int) else ((b % SGN : Nat) : Int) := by
  unfold ix word SGN at *
  by_cases h : b < 9223372036854775808
  · have : b / 9223372036854775808 % 2 = 0 := by omega
    rw [if_pos h, this]; simp; omega
  · have : b / 9223372036854775808 % 2 = 1 := by omega
    rw [if_neg h, this]; simp; omega

theorem fi_sign {b : Nat} (hw : word b) : fi (ix b) = if (b / SGN % 2 == 1) then -(mag (b % SGN) : Int) else (mag (b % SGN) : Int) := by
  rw [ix_sign hw]
  by_cases h : (b / SGN % 2 == 1) = true
  · rw [if_pos h, if_pos h, fi_neg]; unfold fi; rw [if_neg (by omega), Int.natAbs_natCast]
  · rw [if_neg h, if_neg h]; unfold fi; rw [if_neg (by omega), Int.natAbs_natCast]

theorem signed_shift (s : Bool) (m n : Nat) : Ieee.signed s m n = if s then -((m * 2 ^ n : Nat) : Int) else ((m * 2 ^ n : Nat) : Int) := by
  unfold Ieee.signed; rw [Nat.shiftLeft_eq]

theorem order_nan {a b : Nat} (h : nan a ∨ nan b) : Ieee.double.order a b = none := by
  unfold Ieee.Format.order
  rcases h with h | h
  · obtain ⟨s, f, e⟩ := read_nan h
    rw [e]; rfl
  · obtain ⟨s, f, e⟩ := read_nan h
    rw [e]; cases Ieee.double.read a <;> rfl

theorem scale_sign (s : Bool) (x k : Nat) : (if s = true then -((x * k : Nat) : Int) else ((x * k : Nat) : Int)) = (if s = true then -(x : Int) else (x : Int)) * (k : Int) := by
  cases s
  · simp
  · simp [Int.neg_mul]

theorem compare_scale {x y : Int} {k : Int} (hk : 0 < k) : compare (x * k) (y * k) = compare x y := by
  rcases Int.lt_trichotomy x y with h | h | h
  · have h2 := Int.mul_lt_mul_of_pos_right h hk
    rw [Int.compare_eq_lt.2 h, Int.compare_eq_lt.2 h2]
  · subst h; simp
  · have h2 := Int.mul_lt_mul_of_pos_right h hk
    rw [Int.compare_eq_gt.2 h, Int.compare_eq_gt.2 h2]

theorem compare_mono {i j : Int} : compare (fi i) (fi j) = compare i j := by
  rcases Int.lt_trichotomy i j with h | h | h
  · rw [Int.compare_eq_lt.2 h, Int.compare_eq_lt.2 (fi_lt h)]
  · subst h; simp
  · rw [Int.compare_eq_gt.2 h, Int.compare_eq_gt.2 (fi_lt h)]

/-- The model's order of two numbers is their indices'. -/
theorem order_num {a b : Nat} (ha : word a) (hb : word b) (na : ¬ nan a) (nb : ¬ nan b) : Ieee.double.order a b = some (compare (ix a) (ix b)) := by
  have la : b % SGN ≤ INF := by unfold nan at nb; omega
  have lb : a % SGN ≤ INF := by unfold nan at na; omega
  unfold Ieee.Format.order
  by_cases fa : a % SGN < INF
  · obtain ⟨m, e, ra, he, hm, _⟩ := read_num fa
    by_cases fb : b % SGN < INF
    · obtain ⟨n, f, rb, hf, hn, _⟩ := read_num fb
      rw [ra, rb]
      unfold Ieee.Datum.order
      dsimp only
      rw [← compare_mono (i := ix a), fi_sign ha, fi_sign hb, ← hm, ← hn, signed_shift, signed_shift]
      congr 1
      have e1 : (e - 1074 - min (e - 1074) (f - 1074)).toNat + (min e f).toNat = e.toNat := by omega
      have e2 : (f - 1074 - min (e - 1074) (f - 1074)).toNat + (min e f).toNat = f.toNat := by omega
      rw [← e1, ← e2, Nat.pow_add, Nat.pow_add, ← Nat.mul_assoc, ← Nat.mul_assoc]
      generalize hx : m * 2 ^ (e - 1074 - min (e - 1074) (f - 1074)).toNat = x
      generalize hy : n * 2 ^ (f - 1074 - min (e - 1074) (f - 1074)).toNat = y
      rw [scale_sign, scale_sign, compare_scale]
      exact Int.natCast_pos.2 (Nat.two_pow_pos _)
    · have hb' : b % SGN = INF := by omega
      rw [ra, read_inf hb', ix_sign ha, ix_sign hb, hb']
      unfold Ieee.Datum.order
      dsimp only
      congr 1
      have : (b / SGN % 2 == 1) = true ∨ (b / SGN % 2 == 1) = false := by cases (b / SGN % 2 == 1) <;> simp
      rcases this with h | h
      · rw [h]; simp only [if_true]; symm; rw [Int.compare_eq_gt]; split <;> omega
      · rw [h]; simp only [Bool.false_eq_true, if_false]; symm; rw [Int.compare_eq_lt]; split <;> omega
  · have ha' : a % SGN = INF := by omega
    by_cases fb : b % SGN < INF
    · obtain ⟨n, f, rb, hf, hn, _⟩ := read_num fb
      rw [rb, read_inf ha', ix_sign ha, ix_sign hb, ha']
      unfold Ieee.Datum.order
      dsimp only
      congr 1
      have : (a / SGN % 2 == 1) = true ∨ (a / SGN % 2 == 1) = false := by cases (a / SGN % 2 == 1) <;> simp
      rcases this with h | h
      · rw [h]; simp only [if_true]; symm; rw [Int.compare_eq_lt]; split <;> omega
      · rw [h]; simp only [Bool.false_eq_true, if_false]; symm; rw [Int.compare_eq_gt]; split <;> omega
    · have hb' : b % SGN = INF := by omega
      rw [read_inf ha', read_inf hb', ix_sign ha, ix_sign hb, ha', hb']
      have t1 : (a / SGN % 2 == 1) = true ∨ (a / SGN % 2 == 1) = false := by cases (a / SGN % 2 == 1) <;> simp
      have t2 : (b / SGN % 2 == 1) = true ∨ (b / SGN % 2 == 1) = false := by cases (b / SGN % 2 == 1) <;> simp
      rcases t1 with h1 | h1 <;> rcases t2 with h2 | h2 <;> rw [h1, h2] <;> decide


theorem order_swap (a b : Nat) : Ieee.double.order a b = (Ieee.double.order b a).map Ordering.swap := by
  unfold Ieee.Format.order
  generalize Ieee.double.read a = x
  generalize Ieee.double.read b = y
  cases x <;> cases y <;> simp only [Ieee.Datum.order, Option.map_none, Option.map_some] <;> congr 1
  · rename_i s m i t n j
    rw [Int.min_comm]
    generalize Ieee.signed s m _ = x
    generalize Ieee.signed t n _ = y
    rcases Int.lt_trichotomy x y with h | h | h
    · rw [Int.compare_eq_lt.2 h, Int.compare_eq_gt.2 h]; rfl
    · subst h; simp
    · rw [Int.compare_eq_gt.2 h, Int.compare_eq_lt.2 h]; rfl
  · rename_i s m i t
    cases t <;> rfl
  · rename_i s t m i
    cases s <;> rfl
  · rename_i s t
    cases s <;> cases t <;> rfl

/-- Float comparisons of words. -/
@[irreducible] def feq (a b : Nat) : Bool := Ieee.double.order a b == some .eq
@[irreducible] def flt (a b : Nat) : Bool := Ieee.double.order a b == some .lt
@[irreducible] def fle (a b : Nat) : Bool := Ieee.double.order a b == some .lt || Ieee.double.order a b == some .eq

theorem order_gt (a b : Nat) : (Ieee.double.order a b == some .gt) = flt b a := by
  unfold flt; rw [order_swap]; rcases Ieee.double.order b a with _ | (_ | _ | _) <;> rfl
theorem order_ge (a b : Nat) : (Ieee.double.order a b == some .gt || Ieee.double.order a b == some .eq) = fle b a := by
  unfold fle; rw [order_swap a b]; rcases Ieee.double.order b a with _ | (_ | _ | _) <;> rfl

theorem feq_num {a b : Nat} (ha : word a) (hb : word b) (na : ¬ nan a) (nb : ¬ nan b) : feq a b = decide (ix a = ix b) := by
  unfold feq; rw [order_num ha hb na nb]
  rcases Int.lt_trichotomy (ix a) (ix b) with h | h | h
  · rw [Int.compare_eq_lt.2 h, decide_eq_false (by omega)]; rfl
  · rw [h, decide_eq_true rfl]; simp
  · rw [Int.compare_eq_gt.2 h, decide_eq_false (by omega)]; rfl
theorem flt_num {a b : Nat} (ha : word a) (hb : word b) (na : ¬ nan a) (nb : ¬ nan b) : flt a b = decide (ix a < ix b) := by
  unfold flt; rw [order_num ha hb na nb]
  rcases Int.lt_trichotomy (ix a) (ix b) with h | h | h
  · rw [Int.compare_eq_lt.2 h, decide_eq_true (by omega)]; rfl
  · rw [h, decide_eq_false (by omega)]; simp
  · rw [Int.compare_eq_gt.2 h, decide_eq_false (by omega)]; rfl
theorem fle_num {a b : Nat} (ha : word a) (hb : word b) (na : ¬ nan a) (nb : ¬ nan b) : fle a b = decide (ix a ≤ ix b) := by
  unfold fle; rw [order_num ha hb na nb]
  rcases Int.lt_trichotomy (ix a) (ix b) with h | h | h
  · rw [Int.compare_eq_lt.2 h, decide_eq_true (by omega)]; rfl
  · rw [h, decide_eq_true (by omega)]; simp
  · rw [Int.compare_eq_gt.2 h, decide_eq_false (by omega)]; rfl
theorem feq_nan {a b : Nat} (h : nan a ∨ nan b) : feq a b = false := by unfold feq; rw [order_nan h]; rfl
theorem flt_nan {a b : Nat} (h : nan a ∨ nan b) : flt a b = false := by unfold flt; rw [order_nan h]; rfl
theorem fle_nan {a b : Nat} (h : nan a ∨ nan b) : fle a b = false := by unfold fle; rw [order_nan h]; rfl

end Go.Proofs.Ytonidoghcihnnaa
