/- The walks of ulp.Split and ulp.both. -/
import Derived.Test.YtonidoghcihnnaaScale
import Derived.Lib.Hide
namespace Go.Proofs.Ytonidoghcihnnaa
open Go.RowKit
set_option maxRecDepth 100000
set_option maxHeartbeats 1000000
set_option linter.unusedSimpArgs false
set_option linter.unusedVariables false

theorem split_nan (x : Nat) (w : World) (h0 : feq x x = false) :
    Calls Try.prog 122 #[.float .f64 x] w fun e w' => e = .returned (.tuple #[.agg #[.bool false, .int .u64 0, .int .i64 0], .bool false]) ∧ Below w.heap.size w w' := by
  go_enter Try.func122, Try.ntmps122
  go_wp2_with (go_at_call 100; refine (isNaN_any _ _).mono ?_; rintro e w1 ⟨rfl, hw⟩; subst hw)
  exact bodyPost_ret (v := .tuple #[.agg #[.bool false, .int .u64 0, .int .i64 0], .bool false]) (by simp [results, Try.results122, go_sem, *]) rfl ⟨rfl, (by repeat (first | (with_reducible assumption) | (with_reducible exact Below.refl _ _) | ((with_reducible refine Below.alloc ?_ ?_ _); rotate_left; exact (by first | omega | (simp; done) | (simp; omega))) | ((with_reducible refine Below.setCell ?_ ?_ _); rotate_left; exact (by first | omega | (simp; done) | (simp; omega))) | (with_reducible refine Below.drew ?_)))⟩
theorem split_inf (x : Nat) (w : World) (h0 : feq x x = true) (h1 : flt 9218868437227405311 (absw x) = true) :
    Calls Try.prog 122 #[.float .f64 x] w fun e w' => e = .returned (.tuple #[.agg #[.bool false, .int .u64 0, .int .i64 0], .bool false]) ∧ Below w.heap.size w w' := by
  go_enter Try.func122, Try.ntmps122
  go_wp2_with (first | (go_at_call 81; refine (isInf_any _ _).mono ?_; rintro e w1 ⟨rfl, hw⟩; subst hw) | (go_at_call 100; refine (isNaN_any _ _).mono ?_; rintro e w1 ⟨rfl, hw⟩; subst hw))
  exact bodyPost_ret (v := .tuple #[.agg #[.bool false, .int .u64 0, .int .i64 0], .bool false]) (by simp [results, Try.results122, go_sem, *]) rfl ⟨rfl, (by repeat (first | (with_reducible assumption) | (with_reducible exact Below.refl _ _) | ((with_reducible refine Below.alloc ?_ ?_ _); rotate_left; exact (by first | omega | (simp; done) | (simp; omega))) | ((with_reducible refine Below.setCell ?_ ?_ _); rotate_left; exact (by first | omega | (simp; done) | (simp; omega))) | (with_reducible refine Below.drew ?_)))⟩
theorem split_zero (x : Nat) (w : World) (h0 : feq x x = true) (h1 : flt 9218868437227405311 (absw x) = false) (hm : IntKind.u64.wrap ((x : Int) * 4096) / 4096 = 0) (he : IntKind.u64.wrap ((x : Int) * 2) / 9007199254740992 = 0) :
    Calls Try.prog 122 #[.float .f64 x] w fun e w' => e = .returned (.tuple #[.agg #[.bool false, .int .u64 0, .int .i64 0], .bool true]) ∧ Below w.heap.size w w' := by
  have hb := run_tobits
  go_enter Try.func122, Try.ntmps122
  go_wp2_with (first | (go_at_call 81; refine (isInf_any _ _).mono ?_; rintro e w1 ⟨rfl, hw⟩; subst hw) | (go_at_call 100; refine (isNaN_any _ _).mono ?_; rintro e w1 ⟨rfl, hw⟩; subst hw))
  exact bodyPost_ret (v := .tuple #[.agg #[.bool false, .int .u64 0, .int .i64 0], .bool true]) (by simp [results, Try.results122, go_sem, *]) rfl ⟨rfl, (by repeat (first | (with_reducible assumption) | (with_reducible exact Below.refl _ _) | ((with_reducible refine Below.alloc ?_ ?_ _); rotate_left; exact (by first | omega | (simp; done) | (simp; omega))) | ((with_reducible refine Below.setCell ?_ ?_ _); rotate_left; exact (by first | omega | (simp; done) | (simp; omega))) | (with_reducible refine Below.drew ?_)))⟩
theorem split_sub (x m : Nat) (ng : Bool) (w : World) (h0 : feq x x = true) (h1 : flt 9218868437227405311 (absw x) = false) (hm : IntKind.u64.wrap ((x : Int) * 4096) / 4096 = (m : Int)) (hm0 : ((m : Int) == 0) = false) (he : IntKind.u64.wrap ((x : Int) * 2) / 9007199254740992 = 0) (hn : flt x 0 = ng) :
    Calls Try.prog 122 #[.float .f64 x] w fun e w' => e = .returned (.tuple #[.agg #[.bool ng, .int .u64 (m : Int), .int .i64 (-1074)], .bool true]) ∧ Below w.heap.size w w' := by
  have hb := run_tobits
  go_enter Try.func122, Try.ntmps122
  go_wp2_with (first | (go_at_call 81; refine (isInf_any _ _).mono ?_; rintro e w1 ⟨rfl, hw⟩; subst hw) | (go_at_call 100; refine (isNaN_any _ _).mono ?_; rintro e w1 ⟨rfl, hw⟩; subst hw))
  exact bodyPost_ret (v := .tuple #[.agg #[.bool ng, .int .u64 (m : Int), .int .i64 (-1074)], .bool true]) (by simp [results, Try.results122, go_sem, *]) rfl ⟨rfl, (by repeat (first | (with_reducible assumption) | (with_reducible exact Below.refl _ _) | ((with_reducible refine Below.alloc ?_ ?_ _); rotate_left; exact (by first | omega | (simp; done) | (simp; omega))) | ((with_reducible refine Below.setCell ?_ ?_ _); rotate_left; exact (by first | omega | (simp; done) | (simp; omega))) | (with_reducible refine Below.drew ?_)))⟩
theorem split_norm (x m E M : Nat) (ng : Bool) (w : World) (h0 : feq x x = true) (h1 : flt 9218868437227405311 (absw x) = false) (hm : IntKind.u64.wrap ((x : Int) * 4096) / 4096 = (m : Int)) (hm0 : ((m : Int) == 0) = false) (he : IntKind.u64.wrap ((x : Int) * 2) / 9007199254740992 = (E : Int)) (hE0 : ((E : Int) == 0) = false) (hE : (E : Int) ≤ 2046)
    (hor : Go.bits .or .u64 (m : Int) 4503599627370496 = (M : Int)) (hn : flt x 0 = ng) :
    Calls Try.prog 122 #[.float .f64 x] w fun e w' => e = .returned (.tuple #[.agg #[.bool ng, .int .u64 (M : Int), .int .i64 ((E : Int) + -1074 - 1)], .bool true]) ∧ Below w.heap.size w w' := by
  have hb := run_tobits
  go_enter Try.func122, Try.ntmps122
  go_wp2_with (first | (go_at_call 81; refine (isInf_any _ _).mono ?_; rintro e w1 ⟨rfl, hw⟩; subst hw) | (go_at_call 100; refine (isNaN_any _ _).mono ?_; rintro e w1 ⟨rfl, hw⟩; subst hw))
  exact bodyPost_ret (v := .tuple #[.agg #[.bool ng, .int .u64 (M : Int), .int .i64 ((E : Int) + -1074 - 1)], .bool true]) (by simp [results, Try.results122, go_sem, *]) rfl ⟨rfl, (by repeat (first | (with_reducible assumption) | (with_reducible exact Below.refl _ _) | ((with_reducible refine Below.alloc ?_ ?_ _); rotate_left; exact (by first | omega | (simp; done) | (simp; omega))) | ((with_reducible refine Below.setCell ?_ ?_ _); rotate_left; exact (by first | omega | (simp; done) | (simp; omega))) | (with_reducible refine Below.drew ?_)))⟩
theorem split_norm0 (x E : Nat) (ng : Bool) (w : World) (h0 : feq x x = true) (h1 : flt 9218868437227405311 (absw x) = false) (hm : IntKind.u64.wrap ((x : Int) * 4096) / 4096 = 0) (he : IntKind.u64.wrap ((x : Int) * 2) / 9007199254740992 = (E : Int)) (hE0 : ((E : Int) == 0) = false) (hE : (E : Int) ≤ 2046)
    (hor : Go.bits .or .u64 0 4503599627370496 = 4503599627370496) (hn : flt x 0 = ng) :
    Calls Try.prog 122 #[.float .f64 x] w fun e w' => e = .returned (.tuple #[.agg #[.bool ng, .int .u64 4503599627370496, .int .i64 ((E : Int) + -1074 - 1)], .bool true]) ∧ Below w.heap.size w w' := by
  have hb := run_tobits
  go_enter Try.func122, Try.ntmps122
  go_wp2_with (first | (go_at_call 81; refine (isInf_any _ _).mono ?_; rintro e w1 ⟨rfl, hw⟩; subst hw) | (go_at_call 100; refine (isNaN_any _ _).mono ?_; rintro e w1 ⟨rfl, hw⟩; subst hw))
  exact bodyPost_ret (v := .tuple #[.agg #[.bool ng, .int .u64 4503599627370496, .int .i64 ((E : Int) + -1074 - 1)], .bool true]) (by simp [results, Try.results122, go_sem, *]) rfl ⟨rfl, (by repeat (first | (with_reducible assumption) | (with_reducible exact Below.refl _ _) | ((with_reducible refine Below.alloc ?_ ?_ _); rotate_left; exact (by first | omega | (simp; done) | (simp; omega))) | ((with_reducible refine Below.setCell ?_ ?_ _); rotate_left; exact (by first | omega | (simp; done) | (simp; omega))) | (with_reducible refine Below.drew ?_)))⟩

/-- The parts of a finite float. -/
def splM (x : Nat) : Nat := if x % SGN < BN then x % SGN else BN + x % SGN % BN
def splE (x : Nat) : Int := if x % SGN = 0 then 0 else if x % SGN < BN then -1074 else ((x % SGN / BN : Nat) : Int) - 1075
/-- Is it below 0? -/
def splN (x : Nat) : Bool := decide (ix x < 0)

theorem absw_word {x : Nat} (h : word x) : absw x = x % SGN := by
  unfold absw
  have hS : SGN = 2 ^ 63 := rfl
  unfold word at h
  unfold Go.bits
  dsimp only
  rw [wrap_u64, show (9223372036854775808 : Int) = ((9223372036854775808 : Nat) : Int) from rfl, BitVec.ofInt_natCast, BitVec.ofInt_natCast, BitVec.toNat_and, BitVec.toNat_not, BitVec.toNat_ofNat, BitVec.toNat_ofNat]
  rw [show IntKind.u64.bits = 64 from rfl, Nat.mod_eq_of_lt (show x < 2 ^ 64 by rw [show (2 : Nat) ^ 64 = 2 * 2 ^ 63 by rw [Nat.pow_succ, Nat.mul_comm]]; omega)]
  rw [show (2 : Nat) ^ 64 - 1 - 9223372036854775808 % 2 ^ 64 = 2 ^ 63 - 1 by decide, Nat.and_two_pow_sub_one_eq_mod, hS]
  have h63 : (2 : Nat) ^ 63 = 9223372036854775808 := rfl
  rw [h63]; omega

theorem inf_absw {x : Nat} (h : word x) (hn : ¬ nan x) : flt 9218868437227405311 (absw x) = decide (INF ≤ x % SGN) := by
  have hI := INF_eq
  unfold nan at hn
  have hm := nw_wd (i := LM) (by rw [LM_eq, hI]; decide)
  have hr : x % SGN < SGN := Nat.mod_lt _ (by unfold SGN; decide)
  have hw : word (x % SGN) := by unfold word; omega
  have hnn : ¬ nan (x % SGN) := by unfold nan; rw [Nat.mod_eq_of_lt hr]; omega
  rw [absw_word h, ← wd_LM, flt_num hm.1 hw hm.2.1 hnn, ix_of (by rw [LM_eq, hI]; decide), ix_nat (by omega), LM_eq, Bool.eq_iff_iff]
  simp only [decide_eq_true_eq]; omega

theorem split_fin {x : Nat} (h : finw x) (w : World) :
    Calls Try.prog 122 #[.float .f64 x] w fun e w' => e = .returned (.tuple #[.agg #[.bool (splN x), .int .u64 (splM x : Nat), .int .i64 (splE x)], .bool true]) ∧ Below w.heap.size w w' := by
  have hB := BN_eq; have hI := INF_eq
  have hw := h.1; have hr := h.2; have hn := h.num
  have e0 : feq x x = true := by rw [feq_num hw hw hn hn]; simp
  have e1 : flt 9218868437227405311 (absw x) = false := by rw [inf_absw hw hn]; simp; omega
  have z := nw_wd zero_le'
  have e2 : flt x 0 = splN x := by rw [← wd_0, flt_num hw z.1 hn z.2.1, ix_of zero_le']; rfl
  have hword := hw
  unfold word at hw
  have hm : IntKind.u64.wrap ((x : Int) * 4096) / 4096 = ((x % BN : Nat) : Int) := by rw [wrap_u64, hB]; omega
  have he : IntKind.u64.wrap ((x : Int) * 2) / 9007199254740992 = ((x % SGN / BN : Nat) : Int) := by rw [wrap_u64, hB]; unfold SGN; omega
  have hxm : x % SGN % BN = x % BN := by rw [hB]; unfold SGN; omega
  by_cases h1 : x % SGN < BN
  · have hE : x % SGN / BN = 0 := Nat.div_eq_of_lt h1
    rw [hE] at he
    have hxm2 : x % SGN = x % BN := by rw [← hxm, Nat.mod_eq_of_lt h1]
    by_cases h2 : x % SGN = 0
    · have hN : splN x = false := by
        unfold splN; rw [ix_sign hword, h2]; simp
      have hM : splM x = 0 := by unfold splM; rw [if_pos h1, h2]
      have hE2 : splE x = 0 := by unfold splE; rw [if_pos h2]
      rw [hN, hM, hE2]
      rw [← hxm2, h2] at hm
      exact split_zero x w e0 e1 hm he
    · have hM : splM x = x % BN := by unfold splM; rw [if_pos h1, hxm2]
      have hE2 : splE x = -1074 := by unfold splE; rw [if_neg h2, if_pos h1]
      rw [hM, hE2]
      exact split_sub x (x % BN) (splN x) w e0 e1 hm (by simp; omega) he e2
  · have hM : splM x = BN + x % BN := by unfold splM; rw [if_neg h1, hxm]
    have hE2 : splE x = ((x % SGN / BN : Nat) : Int) + -1074 - 1 := by unfold splE; rw [if_neg (by omega), if_neg h1]; omega
    have hor := or_exp (t := x % BN) 1 (Nat.mod_lt _ (by omega)) (by omega) (by omega)
    rw [show (1 : Int) * 4503599627370496 = 4503599627370496 by omega, show (1 : Int).toNat * BN + x % BN = BN + x % BN by rw [show (1 : Int).toNat = 1 from rfl, Nat.one_mul]] at hor
    have hE0 : (((x % SGN / BN : Nat) : Int) == 0) = false := by
      have : 1 ≤ x % SGN / BN := (Nat.one_le_div_iff (by omega)).2 (by omega)
      simp only [beq_eq_false_iff_ne]; omega
    have hEl : ((x % SGN / BN : Nat) : Int) ≤ 2046 := by rw [hB]; omega
    rw [hM, hE2]
    by_cases h2 : x % BN = 0
    · rw [h2] at hm hor ⊢
      have := split_norm0 x (x % SGN / BN) (splN x) w e0 e1 hm he hE0 hEl (by rw [hB] at hor; exact hor) e2
      rw [show ((BN + 0 : Nat) : Int) = 4503599627370496 by rw [hB]; rfl]
      exact this
    · exact split_norm x (x % BN) (x % SGN / BN) (BN + x % BN) (splN x) w e0 e1 hm (by simp only [beq_eq_false_iff_ne]; omega) he hE0 hEl hor e2

theorem split_bad {x : Nat} (hw : word x) (h : ¬ finw x) (w : World) :
    Calls Try.prog 122 #[.float .f64 x] w fun e w' => e = .returned (.tuple #[.agg #[.bool false, .int .u64 0, .int .i64 0], .bool false]) ∧ Below w.heap.size w w' := by
  by_cases hn : nan x
  · exact split_nan x w (feq_nan (Or.inl hn))
  · exact split_inf x w (by rw [feq_num hw hw hn hn]; simp) (by rw [inf_absw hw hn, decide_eq_true]; unfold finw at h; simp [hw] at h; exact h)

/-- What the parts are worth. -/
theorem spl_vq {x : Nat} (h : finw x) : vq x = rsign (splN x) ((splM x : Rat) * p2 (splE x)) := by
  have hB := BN_eq; have hI := INF_eq
  have hi := ix_sign h.1
  by_cases hz : x % SGN = 0
  · have h1 : ix x = 0 := by rw [hi, hz]; simp
    have hM : splM x = 0 := by unfold splM; rw [if_pos (by omega), hz]
    unfold vq splN
    rw [h1, fq_zero, hM]
    simp [rsign]
  · have hv : ((splM x : Rat) * p2 (splE x)) = fq ((x % SGN : Nat) : Int) := by
      unfold splM splE
      rw [if_neg hz]
      by_cases h1 : x % SGN < BN
      · rw [if_pos h1, if_pos h1]
        have := fq_scaled (k := x % SGN) (L := 0) (by omega) (Or.inl rfl)
        rw [Nat.zero_mul, Nat.zero_add] at this
        rw [this]; congr 1
      · rw [if_neg h1, if_neg h1]
        have hd := Nat.div_add_mod (x % SGN) BN
        have h2 : 1 ≤ x % SGN / BN := (Nat.one_le_div_iff (by omega)).2 (by omega)
        have := fq_normal (E := x % SGN / BN - 1) (t := x % SGN % BN) (Nat.mod_lt _ (by omega))
        rw [Nat.sub_add_cancel h2, Nat.mul_comm, hd] at this
        rw [this]; congr 2; omega
    rw [hv]
    unfold vq splN rsign
    rw [hi]
    cases hs : (x / SGN % 2 == 1)
    · simp only [Bool.false_eq_true, if_false]; rw [decide_eq_false (by omega)]; simp
    · simp only [if_true]; rw [decide_eq_true (by omega), fq_neg]; simp
theorem spl_bound {x : Nat} (h : finw x) : splM x < 2 * BN ∧ -1074 ≤ splE x ∧ splE x ≤ 971 ∧ ((splM x = 0 ∧ splE x = 0) ∨ (0 < splM x ∧ (splE x = -1074 ∨ BN ≤ splM x))) := by
  have hB := BN_eq; have hI := INF_eq
  have := h.2
  have hm := Nat.mod_lt (x % SGN) (show 0 < BN by omega)
  unfold splM splE
  by_cases hz : x % SGN = 0
  · rw [if_pos hz, if_pos (by omega), hz]; omega
  · rw [if_neg hz]
    by_cases h1 : x % SGN < BN
    · rw [if_pos h1, if_pos h1]; omega
    · rw [if_neg h1, if_neg h1]
      have h2 : 1 ≤ x % SGN / BN := (Nat.one_le_div_iff (by omega)).2 (by omega)
      have h3 : x % SGN / BN ≤ 2046 := by rw [hB]; omega
      omega

end Go.Proofs.Ytonidoghcihnnaa
