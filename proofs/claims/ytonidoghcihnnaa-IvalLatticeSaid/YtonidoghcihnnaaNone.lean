/- The walks of what an interval holds nothing. -/
import Derived.Test.YtonidoghcihnnaaRight
namespace Go.Proofs.Ytonidoghcihnnaa
open Go.RowKit
set_option maxRecDepth 100000
set_option maxHeartbeats 1000000

/-- Does it hold nothing? (the reference) -/
@[irreducible] def noneR (lo hi : Nat) : Bool := !rightR lo hi || flt hi lo
theorem rnone_any (lo hi : Nat) (w : World) : Calls Try.prog 42 #[(.agg #[.float .f64 lo, .float .f64 hi])] w fun e w' => e = .returned (.bool (noneR lo hi)) ∧ Below w.heap.size w w' := by
  cases h : rightR lo hi
  · rw [show noneR lo hi = true by unfold noneR; rw [h]; rfl]
    go_enter Try.func42, Try.ntmps42
    go_wp2_with fail
    refine (rright_any _ _ _).mono ?_
    rintro e w1 ⟨rfl, hb1⟩
    have d0 := below_cell hb1 (p := ⟨w.heap.size, 0, none⟩) (v := .float .f64 lo) (by simp)
    have d1 := below_cell hb1 (p := ⟨w.heap.size, 1, none⟩) (v := .float .f64 hi) (by simp)
    go_wp2
    go_ret
    exact ⟨rfl, Below.trans (by repeat (first | (with_reducible assumption) | (with_reducible exact Below.refl _ _) | ((with_reducible refine Below.alloc ?_ ?_ _); rotate_left; exact (by first | omega | (simp; done) | (simp; omega))) | ((with_reducible refine Below.setCell ?_ ?_ _); rotate_left; exact (by first | omega | (simp; done) | (simp; omega))) | (with_reducible refine Below.drew ?_))) (hb1.mono (by simp))⟩
  · rw [show noneR lo hi = flt hi lo by unfold noneR; rw [h]; rfl]
    go_enter Try.func42, Try.ntmps42
    go_wp2_with fail
    refine (rright_any _ _ _).mono ?_
    rintro e w1 ⟨rfl, hb1⟩
    have d0 := below_cell hb1 (p := ⟨w.heap.size, 0, none⟩) (v := .float .f64 lo) (by simp)
    have d1 := below_cell hb1 (p := ⟨w.heap.size, 1, none⟩) (v := .float .f64 hi) (by simp)
    go_wp2
    go_ret
    exact ⟨rfl, Below.trans (by repeat (first | (with_reducible assumption) | (with_reducible exact Below.refl _ _) | ((with_reducible refine Below.alloc ?_ ?_ _); rotate_left; exact (by first | omega | (simp; done) | (simp; omega))) | ((with_reducible refine Below.setCell ?_ ?_ _); rotate_left; exact (by first | omega | (simp; done) | (simp; omega))) | (with_reducible refine Below.drew ?_))) (hb1.mono (by simp))⟩

/-- Does it hold nothing? -/
@[irreducible] def noneB (lo hi : Nat) : Bool := !rightB lo hi || (feq lo 9218868437227405312 && feq hi 18442240474082181120)

theorem none1_any (lo hi b : Nat) (w : World) (c0 : w.cell? ⟨b, 0, none⟩ = some (.float .f64 lo)) (c1 : w.cell? ⟨b, 1, none⟩ = some (.float .f64 hi)) :
    Calls Try.prog 53 #[.slice (some ⟨b, 0, none⟩) 1 1] w fun e w' => e = .returned (.bool (noneB lo hi)) ∧ Below w.heap.size w w' := by
  obtain ⟨r, hr⟩ : ∃ r, rightB lo hi = r := ⟨_, rfl⟩
  obtain ⟨q, hq⟩ : ∃ q, (feq lo 9218868437227405312 && feq hi 18442240474082181120) = q := ⟨_, rfl⟩
  have hn : noneB lo hi = (!r || q) := by unfold noneB; rw [hr, hq]
  rw [hn]
  clear hn
  go_enter Try.func53, Try.ntmps53
  go_wp2_with fail
  refine wp_loop_rounds 2 ?_
  rw [rounds_succ]
  go_wp2_with fail
  refine wp_region_grow (by kernel_rfl) (by kernel_rfl) ?_
  intro X _ N hN hup
  have d0 := grow_cell hN (p := ⟨w.heap.size, 0, none⟩) (v := .float .f64 lo) (by simp)
  have d1 := grow_cell hN (p := ⟨w.heap.size, 1, none⟩) (v := .float .f64 hi) (by simp)
  cases r with
  | false =>
    repeat (go_big_quiet_step ((first | (go_at_call 83; exact grow_of (hup _) (right_any _ _ _)) | (go_at_call 64; exact grow_of (hup _) (empty_any _)))))
    refine wpQuiet_nil ?_
    rintro _ ⟨x, rfl⟩
    go_wp2
    try rw [rounds_succ]
    go_wp2
    go_ret
    exact ⟨rfl, Below.trans (by repeat (first | (with_reducible assumption) | (with_reducible exact Below.refl _ _) | ((with_reducible refine Below.alloc ?_ ?_ _); rotate_left; exact (by first | omega | (simp; done) | (simp; omega))) | ((with_reducible refine Below.setCell ?_ ?_ _); rotate_left; exact (by first | omega | (simp; done) | (simp; omega))) | (with_reducible refine Below.drew ?_))) ((hN x).mono (by simp))⟩
  | true =>
    cases q with
    | true =>
      repeat (go_big_quiet_step ((first | (go_at_call 83; exact grow_of (hup _) (right_any _ _ _)) | (go_at_call 64; exact grow_of (hup _) (empty_any _)))))
      refine wpQuiet_nil ?_
      rintro _ ⟨x, rfl⟩
      go_wp2
      try rw [rounds_succ]
      go_wp2
      go_ret
      exact ⟨rfl, Below.trans (by repeat (first | (with_reducible assumption) | (with_reducible exact Below.refl _ _) | ((with_reducible refine Below.alloc ?_ ?_ _); rotate_left; exact (by first | omega | (simp; done) | (simp; omega))) | ((with_reducible refine Below.setCell ?_ ?_ _); rotate_left; exact (by first | omega | (simp; done) | (simp; omega))) | (with_reducible refine Below.drew ?_))) ((hN x).mono (by simp))⟩
    | false =>
      repeat (go_big_quiet_step ((first | (go_at_call 83; exact grow_of (hup _) (right_any _ _ _)) | (go_at_call 64; exact grow_of (hup _) (empty_any _)))))
      refine wpQuiet_nil ?_
      rintro _ ⟨x, rfl⟩
      go_wp2
      try rw [rounds_succ]
      go_wp2
      go_ret
      exact ⟨rfl, Below.trans (by repeat (first | (with_reducible assumption) | (with_reducible exact Below.refl _ _) | ((with_reducible refine Below.alloc ?_ ?_ _); rotate_left; exact (by first | omega | (simp; done) | (simp; omega))) | ((with_reducible refine Below.setCell ?_ ?_ _); rotate_left; exact (by first | omega | (simp; done) | (simp; omega))) | (with_reducible refine Below.drew ?_))) ((hN x).mono (by simp))⟩

end Go.Proofs.Ytonidoghcihnnaa
