/- math/bits.Add64 and Sub64, as laws of the call. -/
import Derived.Test.YtonidoghcihnnaaUlpA
import Derived.Laws.Externs
namespace Go.Proofs.Ytonidoghcihnnaa
open Go.RowKit
set_option maxRecDepth 100000

theorem run_add (x y : Nat) (w : World) (s c : Nat) (hs : (x + y) % 18446744073709551616 = s) (hc : (x + y) / 18446744073709551616 = c) :
    (callFunc 123 #[.int .u64 x, .int .u64 y, .int .u64 0]).run Try.prog w = .ok (.value (.tuple #[.int .u64 s, .int .u64 c])) w := by
  subst hs hc
  rw [run_callFunc_extern Try.func123 (by kernel_rfl) (by kernel_rfl) (by kernel_rfl) (e := add64Entry) (by kernel_rfl), run_add64 x y 0 (by omega) (by omega) (by omega) (by omega)]
  simp only [Result.andThen]
  congr 5 <;> omega

/-- What the model runs in math/bits.Sub64's place. -/
def subRow : Array Value → Sem Value := ((Extern.MathBitsCarry.rows.drop 1).headD ("", fun _ => pure undef)).2

theorem run_subRow {P : Program} (x y b : Nat) (hb : b ≤ 1) (w : World) :
    (subRow #[.int .u64 x, .int .u64 y, .int .u64 b]).run P w = .ok (.tuple #[.int .u64 (((x + 18446744073709551616 - y - b) % 18446744073709551616 : Nat) : Int), .int .u64 ((if x < y + b then 1 else 0 : Nat) : Int)]) w := by
  rcases (show b = 0 ∨ b = 1 by omega) with rfl | rfl <;> rfl

theorem run_sub (x y b : Nat) (w : World) (s c : Nat) (hb : b ≤ 1) (hs : (x + 18446744073709551616 - y - b) % 18446744073709551616 = s) (hc : (if x < y + b then 1 else 0) = c) :
    (callFunc 124 #[.int .u64 x, .int .u64 y, .int .u64 b]).run Try.prog w = .ok (.value (.tuple #[.int .u64 s, .int .u64 c])) w := by
  subst hs hc
  rw [run_callFunc_extern Try.func124 (by kernel_rfl) (by kernel_rfl) (by kernel_rfl) (e := subRow) (by kernel_rfl), run_subRow x y b hb]
  rfl

end Go.Proofs.Ytonidoghcihnnaa
