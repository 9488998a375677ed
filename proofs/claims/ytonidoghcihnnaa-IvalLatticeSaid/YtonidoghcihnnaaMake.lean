/- The walks of intervals that are made. -/
import Derived.Test.YtonidoghcihnnaaNone
import Derived.Test.YtonidoghcihnnaaArith
namespace Go.Proofs.Ytonidoghcihnnaa
open Go.RowKit
set_option maxRecDepth 100000
set_option maxHeartbeats 1000000

theorem run_fadd {P : Program} (t : TypeId) {a b r : Nat} (h : Ieee.double.add a b = some r) (w : World) : (binOp .add t (.float .f64 a) (.float .f64 b)).run P w = .ok (.float .f64 r) w := by
  simp [binOp, Op.floatArith, show FloatKind.f64.format = Ieee.double from rfl, h]
theorem bcell {W w1 : World} (hb : Below W.heap.size W w1) : (∀ b o, b < W.heap.size → w1.cell? ⟨b, o, none⟩ = W.cell? ⟨b, o, none⟩) ∧ (∀ b o, b < W.heap.size → w1.frozen? ⟨b, o, none⟩ = W.frozen? ⟨b, o, none⟩) :=
  ⟨fun b o h => hb.cell (p := ⟨b, o, none⟩) h, fun b o h => hb.frozen (p := ⟨b, o, none⟩) h⟩

theorem make_yes (a b : Nat) (w : World) (ha : word a) (hb : word b) (na : ¬ nan a) (nb : ¬ nan b) (hr : rightB (wd (ix a)) (wd (ix b)) = true) :
    Calls Try.prog 65 #[.float .f64 a, .float .f64 b] w fun e w' => e = .returned (.agg #[.float .f64 (wd (ix a)), .float .f64 (wd (ix b))]) ∧ Below w.heap.size w w' := by
  have h1 : ∀ w, (binOp .add 33 (.float .f64 a) (.float .f64 0)).run Try.prog w = .ok (.float .f64 (wd (ix a))) w := run_fadd _ (add_zero ha na)
  have h2 : ∀ w, (binOp .add 33 (.float .f64 b) (.float .f64 0)).run Try.prog w = .ok (.float .f64 (wd (ix b))) w := run_fadd _ (add_zero hb nb)
  go_enter Try.func65, Try.ntmps65
  go_wp2_with fail
  refine (right_any _ _ _).mono ?_
  rintro e w1 ⟨rfl, hb1⟩
  have hw1 : Below w.heap.size w w1 := Below.trans (by repeat (first | (with_reducible assumption) | (with_reducible exact Below.refl _ _) | ((with_reducible refine Below.alloc ?_ ?_ _); rotate_left; exact (by first | omega | (simp; done) | (simp; omega))) | ((with_reducible refine Below.setCell ?_ ?_ _); rotate_left; exact (by first | omega | (simp; done) | (simp; omega))) | (with_reducible refine Below.drew ?_))) (hb1.mono (by first | omega | (simp; done) | (simp; omega)))
  have hs1 := hb1.size
  simp at hs1
  have k0 := below_cell hb1 (p := ⟨w.heap.size, 0, none⟩) (v := .float .f64 0) (by first | assumption | (go_simp; done))
  have k0z := below_frozen hb1 (p := ⟨w.heap.size, 0, none⟩) (v := .float .f64 0) (by first | assumption | (go_simp; done)) (by first | assumption | (go_simp; done))
  have k1 := below_cell hb1 (p := ⟨w.heap.size, 1, none⟩) (v := .float .f64 0) (by first | assumption | (go_simp; done))
  have k1z := below_frozen hb1 (p := ⟨w.heap.size, 1, none⟩) (v := .float .f64 0) (by first | assumption | (go_simp; done)) (by first | assumption | (go_simp; done))
  have l0 := below_cell hb1 (p := ⟨w.heap.size + 1, 0, none⟩) (v := .float .f64 (wd (ix a))) (by first | assumption | (go_simp; done))
  have l0z := below_frozen hb1 (p := ⟨w.heap.size + 1, 0, none⟩) (v := .float .f64 (wd (ix a))) (by first | assumption | (go_simp; done)) (by first | assumption | (go_simp; done))
  have l1 := below_cell hb1 (p := ⟨w.heap.size + 1, 1, none⟩) (v := .float .f64 (wd (ix b))) (by first | assumption | (go_simp; done))
  have l1z := below_frozen hb1 (p := ⟨w.heap.size + 1, 1, none⟩) (v := .float .f64 (wd (ix b))) (by first | assumption | (go_simp; done)) (by first | assumption | (go_simp; done))
  go_wp2
  exact bodyPost_ret (v := (.agg #[.float .f64 (wd (ix a)), .float .f64 (wd (ix b))])) (by simp [results, Try.results65, go_sem, *]) rfl ⟨rfl, (by repeat (first | (with_reducible assumption) | (with_reducible exact Below.refl _ _) | ((with_reducible refine Below.alloc ?_ ?_ _); rotate_left; exact (by first | omega | (simp; done) | (simp; omega))) | ((with_reducible refine Below.setCell ?_ ?_ _); rotate_left; exact (by first | omega | (simp; done) | (simp; omega))) | (with_reducible refine Below.drew ?_)))⟩

theorem make_no (a b : Nat) (w : World) (ha : word a) (hb : word b) (na : ¬ nan a) (nb : ¬ nan b) (hr : rightB (wd (ix a)) (wd (ix b)) = false) :
    Calls Try.prog 65 #[.float .f64 a, .float .f64 b] w fun e w' => e = .returned (.agg #[.float .f64 9218868437227405312, .float .f64 18442240474082181120]) ∧ Below w.heap.size w w' := by
  have h1 : ∀ w, (binOp .add 33 (.float .f64 a) (.float .f64 0)).run Try.prog w = .ok (.float .f64 (wd (ix a))) w := run_fadd _ (add_zero ha na)
  have h2 : ∀ w, (binOp .add 33 (.float .f64 b) (.float .f64 0)).run Try.prog w = .ok (.float .f64 (wd (ix b))) w := run_fadd _ (add_zero hb nb)
  go_enter Try.func65, Try.ntmps65
  go_wp2_with fail
  refine (right_any _ _ _).mono ?_
  rintro e w1 ⟨rfl, hb1⟩
  have hw1 : Below w.heap.size w w1 := Below.trans (by repeat (first | (with_reducible assumption) | (with_reducible exact Below.refl _ _) | ((with_reducible refine Below.alloc ?_ ?_ _); rotate_left; exact (by first | omega | (simp; done) | (simp; omega))) | ((with_reducible refine Below.setCell ?_ ?_ _); rotate_left; exact (by first | omega | (simp; done) | (simp; omega))) | (with_reducible refine Below.drew ?_))) (hb1.mono (by first | omega | (simp; done) | (simp; omega)))
  have hs1 := hb1.size
  simp at hs1
  have k0 := below_cell hb1 (p := ⟨w.heap.size, 0, none⟩) (v := .float .f64 0) (by first | assumption | (go_simp; done))
  have k0z := below_frozen hb1 (p := ⟨w.heap.size, 0, none⟩) (v := .float .f64 0) (by first | assumption | (go_simp; done)) (by first | assumption | (go_simp; done))
  have k1 := below_cell hb1 (p := ⟨w.heap.size, 1, none⟩) (v := .float .f64 0) (by first | assumption | (go_simp; done))
  have k1z := below_frozen hb1 (p := ⟨w.heap.size, 1, none⟩) (v := .float .f64 0) (by first | assumption | (go_simp; done)) (by first | assumption | (go_simp; done))
  go_wp2_with fail
  refine (empty_any _).mono ?_
  rintro e w2 ⟨rfl, hb2⟩
  have hw2 : Below w.heap.size w w2 := Below.trans hw1 (hb2.mono (by first | omega | (simp; done) | (simp; omega)))
  have m0 := below_cell hb2 (p := ⟨w.heap.size, 0, none⟩) (v := .float .f64 0) (by first | assumption | (go_simp; done))
  have m0z := below_frozen hb2 (p := ⟨w.heap.size, 0, none⟩) (v := .float .f64 0) (by first | assumption | (go_simp; done)) (by first | assumption | (go_simp; done))
  have m1 := below_cell hb2 (p := ⟨w.heap.size, 1, none⟩) (v := .float .f64 0) (by first | assumption | (go_simp; done))
  have m1z := below_frozen hb2 (p := ⟨w.heap.size, 1, none⟩) (v := .float .f64 0) (by first | assumption | (go_simp; done)) (by first | assumption | (go_simp; done))
  go_wp2
  exact bodyPost_ret (v := (.agg #[.float .f64 9218868437227405312, .float .f64 18442240474082181120])) (by simp [results, Try.results65, go_sem, *]) rfl ⟨rfl, (by repeat (first | (with_reducible assumption) | (with_reducible exact Below.refl _ _) | ((with_reducible refine Below.alloc ?_ ?_ _); rotate_left; exact (by first | omega | (simp; done) | (simp; omega))) | ((with_reducible refine Below.setCell ?_ ?_ _); rotate_left; exact (by first | omega | (simp; done) | (simp; omega))) | (with_reducible refine Below.drew ?_)))⟩

end Go.Proofs.Ytonidoghcihnnaa
