/- An interval that comes in: what it holds. -/
import Derived.Test.YtonidoghcihnnaaNone
import Derived.Test.YtonidoghcihnnaaPure
import Derived.ProofKit
import Derived.Deep.Slices
import Derived.Lib.SmallJoins
namespace Go.Proofs.Ytonidoghcihnnaa
open Go.ChangeShapes Go.WideShapes Go.ChangeAt Go.RowKit Go.Deep Go.Joins
set_option maxRecDepth 100000
section
variable {H : Type} {enc : TypeId × Value → H} {P : Program} {w : World} {base : Nat} {spare : Nat → Bool} {held : Bool}

/-- A float's reading. -/
theorem trod_floatW {t : TypeId} {fuel : Nat} {v : Value} {x : DataW H × List MemPlace} (ht : P.underlying t = some (.float .f64)) (h : DataW.trod enc P w base spare held fuel t [v] = some x) :
    ∃ b, v = .float .f64 b ∧ x = (.lit (.float .f64 b), []) ∧ (Lit.float .f64 b).wf = true ∧ word b := by
  cases fuel with
  | zero => simp [DataW.trod] at h
  | succ n =>
    unfold DataW.trod at h
    rw [ht] at h
    cases v <;> simp at h
    obtain ⟨⟨h1, h2⟩, h3⟩ := h
    subst h1
    refine ⟨_, rfl, h3.symm, h2, ?_⟩
    simp only [Lit.wf, decide_eq_true_eq] at h2
    unfold word SGN
    omega
end

/-- An interval. -/
theorem open_ival {H : Type} {enc : TypeId × Value → H} {w : World} {spare : Nat → Bool} {held : Bool} {r : Reach} {b0 : Nat} {v : Value} {d : DataW H} {p : List MemPlace}
    (hv : Value.okWide Try.prog w r b0 35 v) (h : DataW.Trod enc Try.prog w 0 spare held 35 v d p) : ∃ a b, v = .agg #[.float .f64 a, .float .f64 b] ∧ word a ∧ word b := by
  obtain ⟨c0, c1, y0, y1, n, hv, hd, hp, t0, t1⟩ := open_agg2 Try.underlying35 (by kernel_rfl) (by kernel_rfl) hv h
  obtain ⟨a, e0, _, _, w0⟩ := trod_floatW Try.underlying33 t0
  obtain ⟨b, e1, _, _, w1⟩ := trod_floatW Try.underlying33 t1
  exact ⟨a, b, by rw [hv, e0, e1], w0, w1⟩
/-- A float. -/
theorem open_floatW {H : Type} {enc : TypeId × Value → H} {w : World} {spare : Nat → Bool} {held : Bool} {r : Reach} {b0 : Nat} {v : Value} {d : DataW H} {p : List MemPlace}
    (hv : Value.okWide Try.prog w r b0 33 v) (h : DataW.Trod enc Try.prog w 0 spare held 33 v d p) : ∃ a, v = .float .f64 a ∧ word a := by
  obtain ⟨n, h⟩ := h
  have hc : ∃ b, v = .float .f64 b := by
    simp only [Value.okWide, Try.underlying33, Cell.okWide] at hv
    cases v <;> simp_all [Cell.ok]
  obtain ⟨b, rfl⟩ := hc
  obtain ⟨a, e0, _, _, w0⟩ := trod_floatW Try.underlying33 (v := .float .f64 b) (by simpa [Value.cells] using h)
  exact ⟨a, e0, w0⟩

theorem own : ownKnob Try.prog.godebug = none := by kernel_rfl
theorem laidOut : laidOutB Try.prog = true := by kernel_rfl

end Go.Proofs.Ytonidoghcihnnaa
