/- ival.none of two intervals. -/
import Derived.Test.YtonidoghcihnnaaNone
import Derived.Lib.Hide
import Derived.Lib.SliceRun
namespace Go.Proofs.Ytonidoghcihnnaa
open Go.RowKit
set_option maxRecDepth 100000
set_option maxHeartbeats 1000000
set_option linter.unusedSimpArgs false
set_option linter.unusedVariables false

theorem none2_walk (a b c d k : Nat) (w : World) (r q s u : Bool) (hr : ∀ w, Calls Try.prog 83 #[(.agg #[.float .f64 a, .float .f64 b])] w fun e w' => e = .returned (.bool r) ∧ Below w.heap.size w w') (hq : (feq a 9218868437227405312 && feq b 18442240474082181120) = q)
    (hs : ∀ w, Calls Try.prog 83 #[(.agg #[.float .f64 c, .float .f64 d])] w fun e w' => e = .returned (.bool s) ∧ Below w.heap.size w w') (hu : (feq c 9218868437227405312 && feq d 18442240474082181120) = u)
    (c0 : w.cell? ⟨k, 0, none⟩ = some (.float .f64 a)) (c1 : w.cell? ⟨k, 1, none⟩ = some (.float .f64 b)) (c2 : w.cell? ⟨k, 2, none⟩ = some (.float .f64 c)) (c3 : w.cell? ⟨k, 3, none⟩ = some (.float .f64 d)) (v : Bool) (hv : ((!r || q) || (!s || u)) = v) :
    Calls Try.prog 53 #[.slice (some ⟨k, 0, none⟩) 2 2] w fun e w' => e = .returned (.bool v) ∧ Below w.heap.size w w' := by
  have HR := Lib.hid hr
  have HS := Lib.hid hs
  have HU := Lib.hid hu
  have HQ := Lib.hid hq
  have HV := Lib.hid hv
  clear hr hs hu hq hv
  go_enter Try.func53, Try.ntmps53
  go_wp2_with fail
  refine wp_loop_rounds 3 ?_
  rw [rounds_succ]
  go_wp2_with fail
  refine wp_region_grow (by kernel_rfl) (by kernel_rfl) ?_
  intro X _ N hN hup
  have d0 := grow_cell hN (p := ⟨w.heap.size, 0, none⟩) (v := .float .f64 a) (by simp)
  have d1 := grow_cell hN (p := ⟨w.heap.size, 1, none⟩) (v := .float .f64 b) (by simp)
  have e2 := grow_cell hN (p := ⟨k, 2, none⟩) (v := .float .f64 c) (Lib.cell?_alloc_some _ c2)
  have e3 := grow_cell hN (p := ⟨k, 3, none⟩) (v := .float .f64 d) (Lib.cell?_alloc_some _ c3)
  have hb : ∀ x, Below w.heap.size w (N x) := fun x => Below.trans (by repeat (first | (with_reducible assumption) | (with_reducible exact Below.refl _ _) | ((with_reducible refine Below.alloc ?_ ?_ _); rotate_left; exact (by first | omega | (simp; done) | (simp; omega))) | ((with_reducible refine Below.setCell ?_ ?_ _); rotate_left; exact (by first | omega | (simp; done) | (simp; omega))) | (with_reducible refine Below.drew ?_))) ((hN x).mono (by simp))
  clear hN c0 c1 c2 c3
  have hq := HQ.out
  cases r with
  | false =>
    repeat (go_big_quiet_step ((first | (go_at_call 83; exact grow_of (hup _) (HR.out _)) | (go_at_call 64; exact grow_of (hup _) (empty_any _)))))
    refine wpQuiet_nil ?_
    rintro _ ⟨x, rfl⟩
    go_wp2
    go_ret
    exact ⟨by rw [← HV.out]; rfl, hb _⟩
  | true =>
    cases q with
    | true =>
      repeat (go_big_quiet_step ((first | (go_at_call 83; exact grow_of (hup _) (HR.out _)) | (go_at_call 64; exact grow_of (hup _) (empty_any _)))))
      refine wpQuiet_nil ?_
      rintro _ ⟨x, rfl⟩
      go_wp2
      go_ret
      exact ⟨by rw [← HV.out]; rfl, hb _⟩
    | false =>
      repeat (go_big_quiet_step ((first | (go_at_call 83; exact grow_of (hup _) (HR.out _)) | (go_at_call 64; exact grow_of (hup _) (empty_any _)))))
      refine wpQuiet_nil ?_
      rintro _ ⟨x, rfl⟩
      go_wp2
      rw [rounds_succ]
      go_wp2_with fail
      refine wp_region_grow (by kernel_rfl) (by kernel_rfl) ?_
      intro Y _ M hM hup2
      have f0 := grow_cell hM (p := ⟨(N x).heap.size, 0, none⟩) (v := .float .f64 c) (by simp)
      have f1 := grow_cell hM (p := ⟨(N x).heap.size, 1, none⟩) (v := .float .f64 d) (by simp)
      have hb2 : ∀ y, Below w.heap.size w (M y) := fun y => (hb x).trans (Below.trans (Below.alloc (Below.refl _ _) (hb x).size _) ((hM y).mono (by have := (hb x).size; simp; omega)))
      clear hM hq d0 d1
      have hu := HU.out
      cases s with
      | false =>
        repeat (go_big_quiet_step ((first | (go_at_call 83; exact grow_of (hup2 _) (HS.out _)) | (go_at_call 64; exact grow_of (hup2 _) (empty_any _)))))
        refine wpQuiet_nil ?_
        rintro _ ⟨x, rfl⟩
        go_wp2
        go_ret
        exact ⟨by rw [← HV.out]; rfl, hb2 _⟩
      | true =>
        cases u with
        | true =>
          repeat (go_big_quiet_step ((first | (go_at_call 83; exact grow_of (hup2 _) (HS.out _)) | (go_at_call 64; exact grow_of (hup2 _) (empty_any _)))))
          refine wpQuiet_nil ?_
          rintro _ ⟨x, rfl⟩
          go_wp2
          go_ret
          exact ⟨by rw [← HV.out]; rfl, hb2 _⟩
        | false =>
          repeat (go_big_quiet_step ((first | (go_at_call 83; exact grow_of (hup2 _) (HS.out _)) | (go_at_call 64; exact grow_of (hup2 _) (empty_any _)))))
          refine wpQuiet_nil ?_
          rintro _ ⟨x, rfl⟩
          go_wp2
          try rw [rounds_succ]
          go_wp2
          go_ret
          exact ⟨by rw [← HV.out]; rfl, hb2 _⟩

theorem none2_any (a b c d k : Nat) (w : World) (c0 : w.cell? ⟨k, 0, none⟩ = some (.float .f64 a)) (c1 : w.cell? ⟨k, 1, none⟩ = some (.float .f64 b)) (c2 : w.cell? ⟨k, 2, none⟩ = some (.float .f64 c)) (c3 : w.cell? ⟨k, 3, none⟩ = some (.float .f64 d)) :
    Calls Try.prog 53 #[.slice (some ⟨k, 0, none⟩) 2 2] w fun e w' => e = .returned (.bool (noneB a b || noneB c d)) ∧ Below w.heap.size w w' :=
  none2_walk a b c d k w _ _ _ _ (fun w => right_any a b w) rfl (fun w => right_any c d w) rfl c0 c1 c2 c3 _ (by unfold noneB; rfl)

end Go.Proofs.Ytonidoghcihnnaa
