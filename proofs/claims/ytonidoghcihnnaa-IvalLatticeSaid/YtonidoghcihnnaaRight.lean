/- The walks of what an interval may be. -/
import Derived.Test.YtonidoghcihnnaaLeaf
namespace Go.Proofs.Ytonidoghcihnnaa
open Go.RowKit
set_option maxRecDepth 100000
set_option maxHeartbeats 1000000

theorem plus_no (a : Nat) (w : World) (h : feq a 0 = false) : Calls Try.prog 111 #[.float .f64 a] w fun e w' => e = .returned (.bool true) ∧ w' = w := by
  go_enter Try.func111, Try.ntmps111
  go_wp2
  go_ret
  exact ⟨rfl, rfl⟩
theorem plus_yes (a : Nat) (w : World) (h : feq a 0 = true) : Calls Try.prog 111 #[.float .f64 a] w fun e w' => e = .returned (.bool (!sgb a)) ∧ w' = w := by
  go_enter Try.func111, Try.ntmps111
  go_wp2_with fail
  refine (signbit_any _ _).mono ?_
  rintro e w1 ⟨rfl, rfl⟩
  go_wp2
  go_ret
  exact ⟨rfl, rfl⟩
theorem plus_any (a : Nat) (w : World) : Calls Try.prog 111 #[.float .f64 a] w fun e w' => e = .returned (.bool (!feq a 0 || !sgb a)) ∧ w' = w := by
  by_cases h : feq a 0 = true
  · refine (plus_yes a w h).mono ?_
    rintro e w1 ⟨rfl, rfl⟩
    simp [h]
  · have h' : feq a 0 = false := by simpa using h
    refine (plus_no a w h').mono ?_
    rintro e w1 ⟨rfl, rfl⟩
    simp [h']

/-- What ival.Right asks. -/
@[irreducible] def rightB (lo hi : Nat) : Bool := (feq lo 9218868437227405312 && feq hi 18442240474082181120) || (fle lo hi && flt lo 9218868437227405312 && flt 18442240474082181120 hi && (!feq lo 0 || !sgb lo) && (!feq hi 0 || !sgb hi))

theorem right_ways (lo hi : Nat) (w : World) (E b1 b2 b3 b4 b5 r : Bool) (hE : (feq lo 9218868437227405312 && feq hi 18442240474082181120) = E) (h1 : fle lo hi = b1) (h2 : flt lo 9218868437227405312 = b2) (h3 : flt 18442240474082181120 hi = b3) (h4 : (!feq lo 0 || !sgb lo) = b4) (h5 : (!feq hi 0 || !sgb hi) = b5) (hr : (E || (b1 && b2 && b3 && b4 && b5)) = r) :
    Calls Try.prog 83 #[(.agg #[.float .f64 lo, .float .f64 hi])] w fun e w' => e = .returned (.bool r) ∧ Below w.heap.size w w' := by
  go_enter Try.func83, Try.ntmps83
  go_wp2
  refine wp_region_grow (by kernel_rfl) (by kernel_rfl) ?_
  intro X _ N hN hup
  have d0 := grow_cell hN (p := ⟨w.heap.size, 0, none⟩) (v := .float .f64 lo) (by simp)
  have d1 := grow_cell hN (p := ⟨w.heap.size, 1, none⟩) (v := .float .f64 hi) (by simp)
  cases E with
  | true =>
    repeat (go_big_quiet_step (first | (go_at_call 64; exact grow_of (hup _) (empty_any _)) | (go_at_call 111; exact grow_same (plus_any _ _)) | (go_at_call 73; first | exact grow_same (inf_pos _) | exact grow_same (inf_neg _))))
    refine wpQuiet_nil ?_
    rintro _ ⟨x, rfl⟩
    go_wp2
    go_ret
    exact ⟨by rw [← hr]; rfl, Below.trans (by repeat (first | (with_reducible assumption) | (with_reducible exact Below.refl _ _) | ((with_reducible refine Below.alloc ?_ ?_ _); rotate_left; exact (by first | omega | (simp; done) | (simp; omega))) | ((with_reducible refine Below.setCell ?_ ?_ _); rotate_left; exact (by first | omega | (simp; done) | (simp; omega))) | (with_reducible refine Below.drew ?_))) ((hN x).mono (by simp))⟩
  | false =>
    cases b1 with
    | false =>
      repeat (go_big_quiet_step (first | (go_at_call 64; exact grow_of (hup _) (empty_any _)) | (go_at_call 111; exact grow_same (plus_any _ _)) | (go_at_call 73; first | exact grow_same (inf_pos _) | exact grow_same (inf_neg _))))
      refine wpQuiet_nil ?_
      rintro _ ⟨x, rfl⟩
      go_wp2
      go_ret
      exact ⟨by rw [← hr]; rfl, Below.trans (by repeat (first | (with_reducible assumption) | (with_reducible exact Below.refl _ _) | ((with_reducible refine Below.alloc ?_ ?_ _); rotate_left; exact (by first | omega | (simp; done) | (simp; omega))) | ((with_reducible refine Below.setCell ?_ ?_ _); rotate_left; exact (by first | omega | (simp; done) | (simp; omega))) | (with_reducible refine Below.drew ?_))) ((hN x).mono (by simp))⟩
    | true =>
      cases b2 with
      | false =>
        repeat (go_big_quiet_step (first | (go_at_call 64; exact grow_of (hup _) (empty_any _)) | (go_at_call 111; exact grow_same (plus_any _ _)) | (go_at_call 73; first | exact grow_same (inf_pos _) | exact grow_same (inf_neg _))))
        refine wpQuiet_nil ?_
        rintro _ ⟨x, rfl⟩
        go_wp2
        go_ret
        exact ⟨by rw [← hr]; rfl, Below.trans (by repeat (first | (with_reducible assumption) | (with_reducible exact Below.refl _ _) | ((with_reducible refine Below.alloc ?_ ?_ _); rotate_left; exact (by first | omega | (simp; done) | (simp; omega))) | ((with_reducible refine Below.setCell ?_ ?_ _); rotate_left; exact (by first | omega | (simp; done) | (simp; omega))) | (with_reducible refine Below.drew ?_))) ((hN x).mono (by simp))⟩
      | true =>
        cases b3 with
        | false =>
          repeat (go_big_quiet_step (first | (go_at_call 64; exact grow_of (hup _) (empty_any _)) | (go_at_call 111; exact grow_same (plus_any _ _)) | (go_at_call 73; first | exact grow_same (inf_pos _) | exact grow_same (inf_neg _))))
          refine wpQuiet_nil ?_
          rintro _ ⟨x, rfl⟩
          go_wp2
          go_ret
          exact ⟨by rw [← hr]; rfl, Below.trans (by repeat (first | (with_reducible assumption) | (with_reducible exact Below.refl _ _) | ((with_reducible refine Below.alloc ?_ ?_ _); rotate_left; exact (by first | omega | (simp; done) | (simp; omega))) | ((with_reducible refine Below.setCell ?_ ?_ _); rotate_left; exact (by first | omega | (simp; done) | (simp; omega))) | (with_reducible refine Below.drew ?_))) ((hN x).mono (by simp))⟩
        | true =>
          cases b4 with
          | false =>
            repeat (go_big_quiet_step (first | (go_at_call 64; exact grow_of (hup _) (empty_any _)) | (go_at_call 111; exact grow_same (plus_any _ _)) | (go_at_call 73; first | exact grow_same (inf_pos _) | exact grow_same (inf_neg _))))
            refine wpQuiet_nil ?_
            rintro _ ⟨x, rfl⟩
            go_wp2
            go_ret
            exact ⟨by rw [← hr]; rfl, Below.trans (by repeat (first | (with_reducible assumption) | (with_reducible exact Below.refl _ _) | ((with_reducible refine Below.alloc ?_ ?_ _); rotate_left; exact (by first | omega | (simp; done) | (simp; omega))) | ((with_reducible refine Below.setCell ?_ ?_ _); rotate_left; exact (by first | omega | (simp; done) | (simp; omega))) | (with_reducible refine Below.drew ?_))) ((hN x).mono (by simp))⟩
          | true =>
            repeat (go_big_quiet_step (first | (go_at_call 64; exact grow_of (hup _) (empty_any _)) | (go_at_call 111; exact grow_same (plus_any _ _)) | (go_at_call 73; first | exact grow_same (inf_pos _) | exact grow_same (inf_neg _))))
            refine wpQuiet_nil ?_
            rintro _ ⟨x, rfl⟩
            go_wp2
            go_ret
            exact ⟨by rw [← hr]; rfl, Below.trans (by repeat (first | (with_reducible assumption) | (with_reducible exact Below.refl _ _) | ((with_reducible refine Below.alloc ?_ ?_ _); rotate_left; exact (by first | omega | (simp; done) | (simp; omega))) | ((with_reducible refine Below.setCell ?_ ?_ _); rotate_left; exact (by first | omega | (simp; done) | (simp; omega))) | (with_reducible refine Below.drew ?_))) ((hN x).mono (by simp))⟩

theorem right_any (lo hi : Nat) (w : World) : Calls Try.prog 83 #[(.agg #[.float .f64 lo, .float .f64 hi])] w fun e w' => e = .returned (.bool (rightB lo hi)) ∧ Below w.heap.size w w' := by
  unfold rightB
  exact right_ways lo hi w _ _ _ _ _ _ _ rfl rfl rfl rfl rfl rfl rfl

/-- What the reference's Right asks. -/
@[irreducible] def rightR (lo hi : Nat) : Bool := (feq lo 9218868437227405312 && feq hi 18442240474082181120) || (fle lo hi && !feq lo 9218868437227405312 && !feq hi 18442240474082181120 && !minus0B lo && !minus0B hi)

theorem rright_ways (lo hi : Nat) (w : World) (p q b1 b4 b5 r : Bool) (hp : feq lo 9218868437227405312 = p) (hq : feq hi 18442240474082181120 = q) (h1 : fle lo hi = b1) (h4 : minus0B lo = b4) (h5 : minus0B hi = b5) (hr : ((p && q) || (b1 && !p && !q && !b4 && !b5)) = r) :
    Calls Try.prog 82 #[(.agg #[.float .f64 lo, .float .f64 hi])] w fun e w' => e = .returned (.bool r) ∧ Below w.heap.size w w' := by
  go_enter Try.func82, Try.ntmps82
  go_wp2
  refine wp_region_grow (by kernel_rfl) (by kernel_rfl) ?_
  intro X _ N hN hup
  have d0 := grow_cell hN (p := ⟨w.heap.size, 0, none⟩) (v := .float .f64 lo) (by simp)
  have d1 := grow_cell hN (p := ⟨w.heap.size, 1, none⟩) (v := .float .f64 hi) (by simp)
  have hb : ∀ x, Below w.heap.size w (N x) := fun x => Below.trans (by repeat (first | (with_reducible assumption) | (with_reducible exact Below.refl _ _) | ((with_reducible refine Below.alloc ?_ ?_ _); rotate_left; exact (by first | omega | (simp; done) | (simp; omega))) | ((with_reducible refine Below.setCell ?_ ?_ _); rotate_left; exact (by first | omega | (simp; done) | (simp; omega))) | (with_reducible refine Below.drew ?_))) ((hN x).mono (by simp))
  clear hN
  cases p with
  | true =>
    cases q with
    | true =>
      repeat (go_big_quiet_step ((go_at_call 54; first | exact grow_same (rinf_pos _) | exact grow_same (rinf_neg _))))
      refine wpQuiet_nil ?_
      rintro _ ⟨x, rfl⟩
      go_wp2
      go_ret
      exact ⟨by rw [← hr]; rfl, hb x⟩
    | false =>
      repeat (go_big_quiet_step ((go_at_call 54; first | exact grow_same (rinf_pos _) | exact grow_same (rinf_neg _))))
      refine wpQuiet_nil ?_
      rintro _ ⟨x, rfl⟩
      go_wp2
      refine wp_region_grow (by kernel_rfl) (by kernel_rfl) ?_
      intro Y _ M hM hup2
      have e0 := grow_cell hM (d0 x)
      have e1 := grow_cell hM (d1 x)
      cases b1
      all_goals
        repeat (go_big_quiet_step ((first | (go_at_call 54; first | exact grow_same (rinf_pos _) | exact grow_same (rinf_neg _)) | (go_at_call 110; exact grow_same (minus0_any _ _)))))
        refine wpQuiet_nil ?_
        rintro _ ⟨x, rfl⟩
        go_wp2
        go_ret
        exact ⟨by rw [← hr]; rfl, (hb _).trans ((hM _).mono (hb _).size)⟩
  | false =>
    repeat (go_big_quiet_step ((go_at_call 54; first | exact grow_same (rinf_pos _) | exact grow_same (rinf_neg _))))
    refine wpQuiet_nil ?_
    rintro _ ⟨x, rfl⟩
    go_wp2
    refine wp_region_grow (by kernel_rfl) (by kernel_rfl) ?_
    intro Y _ M hM hup2
    have e0 := grow_cell hM (d0 x)
    have e1 := grow_cell hM (d1 x)
    cases b1 with
    | false =>
      repeat (go_big_quiet_step ((first | (go_at_call 54; first | exact grow_same (rinf_pos _) | exact grow_same (rinf_neg _)) | (go_at_call 110; exact grow_same (minus0_any _ _)))))
      refine wpQuiet_nil ?_
      rintro _ ⟨x, rfl⟩
      go_wp2
      go_ret
      exact ⟨by rw [← hr]; rfl, (hb _).trans ((hM _).mono (hb _).size)⟩
    | true =>
      cases q with
      | true =>
        repeat (go_big_quiet_step ((first | (go_at_call 54; first | exact grow_same (rinf_pos _) | exact grow_same (rinf_neg _)) | (go_at_call 110; exact grow_same (minus0_any _ _)))))
        refine wpQuiet_nil ?_
        rintro _ ⟨x, rfl⟩
        go_wp2
        go_ret
        exact ⟨by rw [← hr]; rfl, (hb _).trans ((hM _).mono (hb _).size)⟩
      | false =>
        cases b4 with
        | true =>
          repeat (go_big_quiet_step ((first | (go_at_call 54; first | exact grow_same (rinf_pos _) | exact grow_same (rinf_neg _)) | (go_at_call 110; exact grow_same (minus0_any _ _)))))
          refine wpQuiet_nil ?_
          rintro _ ⟨x, rfl⟩
          go_wp2
          go_ret
          exact ⟨by rw [← hr]; rfl, (hb _).trans ((hM _).mono (hb _).size)⟩
        | false =>
          repeat (go_big_quiet_step ((first | (go_at_call 54; first | exact grow_same (rinf_pos _) | exact grow_same (rinf_neg _)) | (go_at_call 110; exact grow_same (minus0_any _ _)))))
          refine wpQuiet_nil ?_
          rintro _ ⟨x, rfl⟩
          go_wp2
          go_ret
          exact ⟨by rw [← hr]; rfl, (hb _).trans ((hM _).mono (hb _).size)⟩

theorem rright_any (lo hi : Nat) (w : World) : Calls Try.prog 82 #[(.agg #[.float .f64 lo, .float .f64 hi])] w fun e w' => e = .returned (.bool (rightR lo hi)) ∧ Below w.heap.size w w' := by
  unfold rightR
  exact rright_ways lo hi w _ _ _ _ _ _ rfl rfl rfl rfl rfl rfl

end Go.Proofs.Ytonidoghcihnnaa
