/- Walks of the smallest float functions. -/
import Derived.Test.YtonidoghcihnnaaRows
import Derived.Test.YtonidoghcihnnaaFlo
import Derived.Test.YtonidoghcihnnaaGrow
import Derived.WalkKit
import Derived.WalkSpells
import Derived.Laws.Externs
namespace Go.Proofs.Ytonidoghcihnnaa
open Go.RowKit (wrap32 wrap64)
open Go.RowKit
set_option maxRecDepth 100000
set_option maxHeartbeats 400000

@[go_sem] theorem cmp_eql (t : TypeId) (a b : Nat) : binOp .eql t (.float .f64 a) (.float .f64 b) = pure (.bool (feq a b)) := by unfold feq; simp only [binOp, Op.floatCmp]; rfl
@[go_sem] theorem cmp_neq (t : TypeId) (a b : Nat) : binOp .neq t (.float .f64 a) (.float .f64 b) = pure (.bool (!feq a b)) := by unfold feq; simp only [binOp, Op.floatCmp]; rfl
@[go_sem] theorem cmp_lss (t : TypeId) (a b : Nat) : binOp .lss t (.float .f64 a) (.float .f64 b) = pure (.bool (flt a b)) := by unfold flt; simp only [binOp, Op.floatCmp]; rfl
@[go_sem] theorem cmp_leq (t : TypeId) (a b : Nat) : binOp .leq t (.float .f64 a) (.float .f64 b) = pure (.bool (fle a b)) := by unfold fle; simp only [binOp, Op.floatCmp]; rfl
@[go_sem] theorem cmp_gtr (t : TypeId) (a b : Nat) : binOp .gtr t (.float .f64 a) (.float .f64 b) = pure (.bool (flt b a)) := by rw [← order_gt]; simp only [binOp, Op.floatCmp]; rfl
@[go_sem] theorem cmp_geq (t : TypeId) (a b : Nat) : binOp .geq t (.float .f64 a) (.float .f64 b) = pure (.bool (fle b a)) := by rw [← order_ge]; simp only [binOp, Op.floatCmp]; rfl

@[go_sem] theorem run_store_float {P : Program} {a : Addr} {m : Mode} {w : World} (k : FloatKind) (b : Nat) : (store a (.float k b) m).run P w = stored P w a (.float k b) m := run_store P w a _ m rfl

@[go_sem] theorem run_equalIn_float {P : Program} {w : World} (d : Nat) (t : TypeId) (a b : Nat) (h : P.underlying t = some (.float .f64)) : (Op.equalIn (d + 1) t (.float .f64 a) (.float .f64 b)).run P w = .ok (feq a b) w := by
  unfold feq
  simp only [Op.equalIn, Sem.run_bind, run_underlying h, Result.andThen]
  rfl

/-- Two intervals held against each other. -/
theorem run_ival_eql (a b c d : Nat) (w : World) : (binOp .eql 35 (.agg #[.float .f64 a, .float .f64 b]) (.agg #[.float .f64 c, .float .f64 d])).run Try.prog w = .ok (.bool (feq a c && feq b d)) w := by
  go_simp
  cases feq a c <;> cases feq b d <;> rfl
attribute [go_sem ↓] run_ival_eql

theorem run_tobits (a : Nat) (w : World) : (callFunc 95 #[.float .f64 a]).run Try.prog w = .ok (.value (.int .u64 a)) w := by
  rw [run_callFunc_extern (e := Extern.MathFloatBits.float64bits) Try.func95 (by kernel_rfl) (by kernel_rfl) (by kernel_rfl) (by kernel_rfl)]
  rfl
theorem run_frombits (n : Int) (w : World) : (callFunc 94 #[.int .u64 n]).run Try.prog w = .ok (.value (.float .f64 n.toNat)) w := by
  rw [run_callFunc_extern (e := Extern.MathFloatBits.float64frombits) Try.func94 (by kernel_rfl) (by kernel_rfl) (by kernel_rfl) (by kernel_rfl)]
  rfl

theorem isNaN_any (a : Nat) (w : World) : Calls Try.prog 100 #[.float .f64 a] w fun e w' => e = .returned (.bool (!feq a a)) ∧ w' = w := by
  go_enter Try.func100, Try.ntmps100
  go_wp2
  go_ret
  exact ⟨rfl, rfl⟩

/-- The sign's bit. -/
@[irreducible] def sgb (a : Nat) : Bool := decide (wrap64 (a : Int) < 0)
theorem sgb_word {a : Nat} (h : word a) : sgb a = decide (SGN ≤ a) := by
  unfold sgb wrap64; unfold word SGN at *
  by_cases h2 : 9223372036854775808 ≤ a
  · rw [decide_eq_true h2, decide_eq_true (by omega)]
  · rw [decide_eq_false h2, decide_eq_false (by omega)]

theorem signbit_any (a : Nat) (w : World) : Calls Try.prog 130 #[.float .f64 a] w fun e w' => e = .returned (.bool (sgb a)) ∧ w' = w := by
  have hb := run_tobits
  unfold sgb
  go_enter Try.func130, Try.ntmps130
  go_wp2
  go_ret
  exact ⟨rfl, rfl⟩

theorem inf_pos (w : World) : Calls Try.prog 73 #[.int .i64 1] w fun e w' => e = .returned (.float .f64 9218868437227405312) ∧ w' = w := by
  have hb := run_frombits
  go_enter Try.func73, Try.ntmps73
  go_wp2
  go_ret
  exact ⟨rfl, rfl⟩
theorem inf_neg (w : World) : Calls Try.prog 73 #[.int .i64 (-1)] w fun e w' => e = .returned (.float .f64 18442240474082181120) ∧ w' = w := by
  have hb := run_frombits
  go_enter Try.func73, Try.ntmps73
  go_wp2
  go_ret
  exact ⟨rfl, rfl⟩
theorem nan_any (w : World) : Calls Try.prog 87 #[] w fun e w' => e = .returned (.float .f64 9221120237041090561) ∧ w' = w := by
  have hb := run_frombits
  go_enter Try.func87, Try.ntmps87
  go_wp2
  go_ret
  exact ⟨rfl, rfl⟩
/-- The amount. -/
@[irreducible] def absw (a : Nat) : Nat := (Go.bits .andNot .u64 (a : Int) 9223372036854775808).toNat
theorem abs_any (a : Nat) (w : World) : Calls Try.prog 59 #[.float .f64 a] w fun e w' => e = .returned (.float .f64 (absw a)) ∧ w' = w := by
  have hb := run_tobits
  have hb2 := run_frombits
  unfold absw
  go_enter Try.func59, Try.ntmps59
  go_wp2
  go_ret
  exact ⟨rfl, rfl⟩
/-- -0 made 0. -/
@[irreducible] def cleanW (a : Nat) : Nat := if feq a 0 = true then 0 else a
theorem clean_any (a : Nat) (w : World) : Calls Try.prog 101 #[.float .f64 a] w fun e w' => e = .returned (.float .f64 (cleanW a)) ∧ w' = w := by
  by_cases h : feq a 0 = true
  · rw [show cleanW a = 0 by unfold cleanW; rw [if_pos h]]
    go_enter Try.func101, Try.ntmps101
    go_wp2
    go_ret
    exact ⟨rfl, rfl⟩
  · rw [show cleanW a = a by unfold cleanW; rw [if_neg h]]
    have h' : feq a 0 = false := by simpa using h
    go_enter Try.func101, Try.ntmps101
    go_wp2
    go_ret
    exact ⟨rfl, rfl⟩
theorem zero_any (a : Nat) (w : World) : Calls Try.prog 96 #[.float .f64 a] w fun e w' => e = .returned (.float .f64 (cleanW a)) ∧ w' = w := by
  by_cases h : feq a 0 = true
  · rw [show cleanW a = 0 by unfold cleanW; rw [if_pos h]]
    go_enter Try.func96, Try.ntmps96
    go_wp2
    go_ret
    exact ⟨rfl, rfl⟩
  · rw [show cleanW a = a by unfold cleanW; rw [if_neg h]]
    have h' : feq a 0 = false := by simpa using h
    go_enter Try.func96, Try.ntmps96
    go_wp2
    go_ret
    exact ⟨rfl, rfl⟩
/-- Is it a number? -/
@[irreducible] def isNumB (a : Nat) : Bool := fle a 0 || flt 0 a
theorem isNum_any (a : Nat) (w : World) : Calls Try.prog 86 #[.float .f64 a] w fun e w' => e = .returned (.bool (isNumB a)) ∧ w' = w := by
  cases h : fle a 0
  · rw [show isNumB a = flt 0 a by unfold isNumB; rw [h, Bool.false_or]]
    go_enter Try.func86, Try.ntmps86
    go_wp2
    go_ret
    exact ⟨rfl, rfl⟩
  · rw [show isNumB a = true by unfold isNumB; rw [h, Bool.true_or]]
    go_enter Try.func86, Try.ntmps86
    go_wp2
    go_ret
    exact ⟨rfl, rfl⟩
/-- Is it -0? -/
@[irreducible] def minus0B (a : Nat) : Bool := feq a 0 && !((a : Int) == 0)
theorem minus0_any (a : Nat) (w : World) : Calls Try.prog 110 #[.float .f64 a] w fun e w' => e = .returned (.bool (minus0B a)) ∧ w' = w := by
  have hb := run_tobits
  cases h : feq a 0
  · rw [show minus0B a = false by unfold minus0B; rw [h, Bool.false_and]]
    go_enter Try.func110, Try.ntmps110
    go_wp2
    go_ret
    exact ⟨rfl, rfl⟩
  · rw [show minus0B a = !((a : Int) == 0) by unfold minus0B; rw [h, Bool.true_and]]
    go_enter Try.func110, Try.ntmps110
    go_wp2
    go_ret
    exact ⟨rfl, rfl⟩
theorem isInf_any (a : Nat) (w : World) : Calls Try.prog 81 #[.float .f64 a, .int .i64 0] w fun e w' => e = .returned (.bool (flt 9218868437227405311 (absw a))) ∧ w' = w := by
  go_enter Try.func81, Try.ntmps81
  go_wp2_with fail
  refine (abs_any _ _).mono ?_
  rintro e w1 ⟨rfl, rfl⟩
  go_wp2
  go_ret
  exact ⟨rfl, rfl⟩
/-- The same word, or no number both. -/
@[irreducible] def sameB (a b : Nat) : Bool := if isNumB a && isNumB b then (a : Int) == (b : Int) else !isNumB a && !isNumB b
theorem rsame_any (a b : Nat) (w : World) : Calls Try.prog 61 #[.float .f64 a, .float .f64 b] w fun e w' => e = .returned (.bool (sameB a b)) ∧ w' = w := by
  have hb := run_tobits
  cases ha : isNumB a
  · rw [show sameB a b = !isNumB b by unfold sameB; rw [ha]; simp]
    go_enter Try.func61, Try.ntmps61
    go_wp2_with (go_at_call 86; refine (isNum_any _ _).mono ?_; rintro e w1 ⟨rfl, rfl⟩)
    go_ret
    exact ⟨rfl, rfl⟩
  · cases hb2 : isNumB b
    · rw [show sameB a b = false by unfold sameB; rw [ha, hb2]; simp]
      go_enter Try.func61, Try.ntmps61
      go_wp2_with (go_at_call 86; refine (isNum_any _ _).mono ?_; rintro e w1 ⟨rfl, rfl⟩)
      go_ret
      exact ⟨rfl, rfl⟩
    · rw [show sameB a b = ((a : Int) == (b : Int)) by unfold sameB; rw [ha, hb2]; simp]
      go_enter Try.func61, Try.ntmps61
      go_wp2_with (go_at_call 86; refine (isNum_any _ _).mono ?_; rintro e w1 ⟨rfl, rfl⟩)
      go_ret
      exact ⟨rfl, rfl⟩
theorem rinf_pos (w : World) : Calls Try.prog 54 #[.int .i64 1] w fun e w' => e = .returned (.float .f64 9218868437227405312) ∧ w' = w := by
  go_enter Try.func54, Try.ntmps54
  go_wp2_with fail
  refine (inf_pos _).mono ?_
  rintro e w1 ⟨rfl, rfl⟩
  go_wp2
  go_ret
  exact ⟨rfl, rfl⟩
theorem rinf_neg (w : World) : Calls Try.prog 54 #[.int .i64 (-1)] w fun e w' => e = .returned (.float .f64 18442240474082181120) ∧ w' = w := by
  go_enter Try.func54, Try.ntmps54
  go_wp2_with fail
  refine (inf_neg _).mono ?_
  rintro e w1 ⟨rfl, rfl⟩
  go_wp2
  go_ret
  exact ⟨rfl, rfl⟩

theorem empty_any (w : World) : Calls Try.prog 64 #[] w fun e w' => e = .returned (.agg #[.float .f64 9218868437227405312, .float .f64 18442240474082181120]) ∧ Below w.heap.size w w' := by
  go_enter Try.func64, Try.ntmps64
  go_wp2_with fail
  refine (inf_pos _).mono ?_
  rintro e w1 ⟨rfl, rfl⟩
  go_wp2_with fail
  refine (inf_neg _).mono ?_
  rintro e w1 ⟨rfl, rfl⟩
  go_wp2
  exact bodyPost_ret (v := (.agg #[.float .f64 9218868437227405312, .float .f64 18442240474082181120])) (by simp [results, Try.results64, go_sem]) rfl ⟨rfl, (Below.refl _ _).alloc (Nat.le_refl _) _⟩

end Go.Proofs.Ytonidoghcihnnaa
