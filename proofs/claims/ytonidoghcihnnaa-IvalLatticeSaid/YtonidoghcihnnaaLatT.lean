/- The walk of the law IvalLattice, of what holds something (2). -/
import Derived.Test.YtonidoghcihnnaaLatA
namespace Go.Proofs.Ytonidoghcihnnaa
open Go.RowKit
set_option maxRecDepth 100000
set_option maxHeartbeats 2000000
set_option linter.unusedSimpArgs false
set_option linter.unusedVariables false

theorem lat_some_t_n (a b c d v hl hh ml mh z1 z2 s1 s2 n1 n2 k1 k2 mi ma : Nat) (q : Bool) (w : World)
    (h1 : ∀ w, Calls Try.prog 24 #[(.agg #[.float .f64 a, .float .f64 b]), (.agg #[.float .f64 c, .float .f64 d])] w fun e w' => e = .returned (.agg #[.float .f64 hl, .float .f64 hh]) ∧ Below w.heap.size w w')
    (h2 : ∀ w, Calls Try.prog 26 #[(.agg #[.float .f64 a, .float .f64 b]), (.agg #[.float .f64 c, .float .f64 d])] w fun e w' => e = .returned (.agg #[.float .f64 ml, .float .f64 mh]) ∧ Below w.heap.size w w')
    (i1 : ∀ w, Calls Try.prog 40 #[(.agg #[.float .f64 a, .float .f64 b]), (.agg #[.float .f64 hl, .float .f64 hh])] w fun e w' => e = .returned (.bool true) ∧ Below w.heap.size w w')
    (i2 : ∀ w, Calls Try.prog 40 #[(.agg #[.float .f64 c, .float .f64 d]), (.agg #[.float .f64 hl, .float .f64 hh])] w fun e w' => e = .returned (.bool true) ∧ Below w.heap.size w w')
    (i3 : ∀ w, Calls Try.prog 40 #[(.agg #[.float .f64 ml, .float .f64 mh]), (.agg #[.float .f64 a, .float .f64 b])] w fun e w' => e = .returned (.bool true) ∧ Below w.heap.size w w')
    (i4 : ∀ w, Calls Try.prog 40 #[(.agg #[.float .f64 ml, .float .f64 mh]), (.agg #[.float .f64 c, .float .f64 d])] w fun e w' => e = .returned (.bool true) ∧ Below w.heap.size w w')
    (a1 : ∀ w, Calls Try.prog 41 #[(.agg #[.float .f64 ml, .float .f64 mh]), .float .f64 v] w fun e w' => e = .returned (.bool q) ∧ Below w.heap.size w w')
    (a2 : ∀ w, Calls Try.prog 41 #[(.agg #[.float .f64 a, .float .f64 b]), .float .f64 v] w fun e w' => e = .returned (.bool true) ∧ Below w.heap.size w w')
    (a3 : ∀ w, Calls Try.prog 41 #[(.agg #[.float .f64 c, .float .f64 d]), .float .f64 v] w fun e w' => e = .returned (.bool q) ∧ Below w.heap.size w w')
    (n1' : ∀ w, Calls Try.prog 42 #[(.agg #[.float .f64 a, .float .f64 b])] w fun e w' => e = .returned (.bool false) ∧ Below w.heap.size w w')
    (m1 : ∀ w, Calls Try.prog 34 #[(.agg #[.float .f64 a, .float .f64 b]), (.agg #[.float .f64 a, .float .f64 b])] w fun e w' => e = .returned (.agg #[.float .f64 z1, .float .f64 z2]) ∧ Below w.heap.size w w')
    (m2 : ∀ w, Calls Try.prog 32 #[(.agg #[.float .f64 a, .float .f64 b]), (.agg #[.float .f64 a, .float .f64 b])] w fun e w' => e = .returned (.agg #[.float .f64 s1, .float .f64 s2]) ∧ Below w.heap.size w w')
    (m3 : ∀ w, Calls Try.prog 41 #[(.agg #[.float .f64 s1, .float .f64 s2]), .float .f64 0] w fun e w' => e = .returned (.bool true) ∧ Below w.heap.size w w')
    (r : feq a 0 = false)
    (m4 : ∀ w, Calls Try.prog 41 #[(.agg #[.float .f64 z1, .float .f64 z2]), .float .f64 4607182418800017408] w fun e w' => e = .returned (.bool true) ∧ Below w.heap.size w w')
    (m5 : ∀ w, Calls Try.prog 28 #[(.agg #[.float .f64 a, .float .f64 b])] w fun e w' => e = .returned (.agg #[.float .f64 n1, .float .f64 n2]) ∧ Below w.heap.size w w')
    (m6 : ∀ w, Calls Try.prog 28 #[(.agg #[.float .f64 n1, .float .f64 n2])] w fun e w' => e = .returned (.agg #[.float .f64 k1, .float .f64 k2]) ∧ Below w.heap.size w w')
    (m7 : ∀ w, Calls Try.prog 40 #[(.agg #[.float .f64 a, .float .f64 b]), (.agg #[.float .f64 k1, .float .f64 k2])] w fun e w' => e = .returned (.bool true) ∧ Below w.heap.size w w')
    (m8 : ∀ w, Calls Try.prog 21 #[(.agg #[.float .f64 a, .float .f64 b])] w fun e w' => e = .returned (.float .f64 mi) ∧ Below w.heap.size w w')
    (m9 : ∀ w, Calls Try.prog 19 #[(.agg #[.float .f64 a, .float .f64 b])] w fun e w' => e = .returned (.float .f64 ma) ∧ Below w.heap.size w w') (hle : fle mi ma = true) :
    Calls Try.prog 9 #[(.agg #[.float .f64 a, .float .f64 b]), (.agg #[.float .f64 c, .float .f64 d]), .float .f64 v] w fun e w' => e = .returned (.bool true) ∧ Below w.heap.size w w' := by
  have H1 := Lib.hid h1
  have H2 := Lib.hid h2
  have I1 := Lib.hid i1
  have I2 := Lib.hid i2
  have I3 := Lib.hid i3
  have I4 := Lib.hid i4
  have A1 := Lib.hid a1
  have A2 := Lib.hid a2
  have A3 := Lib.hid a3
  have N1 := Lib.hid n1'
  have M1 := Lib.hid m1
  have M2 := Lib.hid m2
  have M3 := Lib.hid m3
  have M4 := Lib.hid m4
  clear m4
  have M5 := Lib.hid m5
  have M6 := Lib.hid m6
  have M7 := Lib.hid m7
  have M8 := Lib.hid m8
  have M9 := Lib.hid m9
  clear h1 h2 i1 i2 i3 i4 a1 a2 a3 n1' m1 m2 m3 m5 m6 m7 m8 m9
  go_enter Try.func9, Try.ntmps9
  go_wp2_with fail
  refine wp_region_spec' 8 6 2 [6, 7] (by kernel_rfl) (by kernel_rfl) (by kernel_rfl) (by kernel_rfl) (twoNew ((w.alloc (.cells #[.float .f64 a, .float .f64 b] 35)).alloc (.cells #[.float .f64 c, .float .f64 d] 35))) ?hI ?hup ?h
  case hI => exact twoNew_none _ _
  case hup => exact twoNew_up _
  case h =>
    simp only [List.take_succ_cons, List.take_zero, List.drop_succ_cons, List.drop_zero, Nat.reduceAdd, Nat.reduceSub, List.append_nil]
    intro X _ M hM hup
    have d0 := grow_cell hM (p := ⟨w.heap.size, 0, none⟩) (v := .float .f64 a) (by go_simp)
    have d1 := grow_cell hM (p := ⟨w.heap.size, 1, none⟩) (v := .float .f64 b) (by go_simp)
    have d2 := grow_cell hM (p := ⟨w.heap.size + 1, 0, none⟩) (v := .float .f64 c) (by go_simp)
    have d3 := grow_cell hM (p := ⟨w.heap.size + 1, 1, none⟩) (v := .float .f64 d) (by go_simp)
    repeat (go_big_quiet_step (first | (go_at_call 24; exact grow_of (hup _) (H1.out _)) | (go_at_call 26; exact grow_of (hup _) (H2.out _))))
    refine wpQuiet_nil ?_
    clear hup hM d0 d1 d2 d3
    refine ⟨?_, ?_⟩
    · intro s hs o ho vs w1 hb hI hn _
      have hs' : s = 6 ∨ s = 7 := by simpa using hs
      have key := twoNew_alloc _ s hs' vs w1 hb hI hn
      rcases hs' with rfl | rfl
      · cases ho
        exact specAt_alloc rfl rfl key
      · cases ho
        exact specAt_alloc rfl rfl key
    · intro vs w1 hb hI hsome
      obtain ⟨v6, hv6⟩ := Option.isSome_iff_exists.1 (hsome 6 (by simp))
      obtain ⟨v7, hv7⟩ := Option.isSome_iff_exists.1 (hsome 7 (by simp))
      obtain ⟨b6, rfl, p1, p2, p3, p4, p5, p6⟩ := hI.1 v6 hv6
      obtain ⟨b7, rfl, q1, q2, q3, q4, q5, q6⟩ := hI.2.1 v7 hv7
      have hne : b6 ≠ b7 := fun e => hI.2.2 _ hv6 (e ▸ hv7)
      simp only [putsp, hv6, hv7, slotOf, List.getElem?_toArray, List.getElem?_cons_succ, List.getElem?_cons_zero, Option.bind_some]
      have hbx : Below w.heap.size w w1 := Below.trans (by repeat (first | (with_reducible assumption) | (with_reducible exact Below.refl _ _) | ((with_reducible refine Below.alloc ?_ ?_ _); rotate_left; exact (by first | omega | (simp; done) | (simp; omega))) | ((with_reducible refine Below.setCell ?_ ?_ _); rotate_left; exact (by first | omega | (simp; done) | (simp; omega))) | (with_reducible refine Below.drew ?_))) (hb.mono (by simp; omega))
      have s6 : w.heap.size < b6 := by simp at p1; omega
      have s7 : w.heap.size < b7 := by simp at q1; omega
      have t6 : w.heap.size + 1 < b6 := by simp at p1; omega
      have t7 : w.heap.size + 1 < b7 := by simp at q1; omega
      have g0 : w.heap.size ≤ b6 := Nat.le_of_lt s6
      have g1 : w.heap.size ≤ b7 := Nat.le_of_lt s7
      have c0 := below_cell hb (p := ⟨w.heap.size, 0, none⟩) (v := .float .f64 a) (by go_simp)
      have c0z := below_frozen hb (p := ⟨w.heap.size, 0, none⟩) (v := .float .f64 a) (by go_simp) (by go_simp)
      have c1 := below_cell hb (p := ⟨w.heap.size, 1, none⟩) (v := .float .f64 b) (by go_simp)
      have c1z := below_frozen hb (p := ⟨w.heap.size, 1, none⟩) (v := .float .f64 b) (by go_simp) (by go_simp)
      have c2 := below_cell hb (p := ⟨w.heap.size + 1, 0, none⟩) (v := .float .f64 c) (by go_simp)
      have c2z := below_frozen hb (p := ⟨w.heap.size + 1, 0, none⟩) (v := .float .f64 c) (by go_simp) (by go_simp)
      have c3 := below_cell hb (p := ⟨w.heap.size + 1, 1, none⟩) (v := .float .f64 d) (by go_simp)
      have c3z := below_frozen hb (p := ⟨w.heap.size + 1, 1, none⟩) (v := .float .f64 d) (by go_simp) (by go_simp)
      clear hI hsome hv6 hv7 hb p1 q1
      have hne' : b7 ≠ b6 := fun e => hne e.symm
      go_wp2_with fail
      refine wp_region_grow (by kernel_rfl) (by kernel_rfl) ?_
      intro X _ N hN hup
      have e0 := grow_cell hN (p := ⟨w.heap.size, 0, none⟩) (v := .float .f64 a) (by go_simp)
      have e0z := fun x => below_frozen (hN x) (p := ⟨w.heap.size, 0, none⟩) (v := .float .f64 a) (by go_simp) (by go_simp)
      have e1 := grow_cell hN (p := ⟨w.heap.size, 1, none⟩) (v := .float .f64 b) (by go_simp)
      have e1z := fun x => below_frozen (hN x) (p := ⟨w.heap.size, 1, none⟩) (v := .float .f64 b) (by go_simp) (by go_simp)
      have e2 := grow_cell hN (p := ⟨w.heap.size + 1, 0, none⟩) (v := .float .f64 c) (by go_simp)
      have e2z := fun x => below_frozen (hN x) (p := ⟨w.heap.size + 1, 0, none⟩) (v := .float .f64 c) (by go_simp) (by go_simp)
      have e3 := grow_cell hN (p := ⟨w.heap.size + 1, 1, none⟩) (v := .float .f64 d) (by go_simp)
      have e3z := fun x => below_frozen (hN x) (p := ⟨w.heap.size + 1, 1, none⟩) (v := .float .f64 d) (by go_simp) (by go_simp)
      have e4 := grow_cell hN (p := ⟨b6, 0, none⟩) (v := .float .f64 hl) (by go_simp)
      have e5 := grow_cell hN (p := ⟨b6, 1, none⟩) (v := .float .f64 hh) (by go_simp)
      have e6 := grow_cell hN (p := ⟨b7, 0, none⟩) (v := .float .f64 ml) (by go_simp)
      have e7 := grow_cell hN (p := ⟨b7, 1, none⟩) (v := .float .f64 mh) (by go_simp)
      have hbm : ∀ x, Below w.heap.size w (N x) := fun x => Below.trans ((((hbx.setCell g0 _).setCell g0 _).setCell g1 _).setCell g1 _) ((hN x).mono (by simp; omega))
      have hsz : ∀ x, w.heap.size + 2 ≤ (N x).heap.size := fun x => by
        have h1 := (hN x).size
        simp at h1; omega
      clear hN c0 c1 c2 c3 c0z c1z c2z c3z p2 p3 p4 p5 p6 q2 q3 q4 q5 q6 hne hne' s6 s7 t6 t7 g0 g1
      repeat (go_big_quiet_step (first | (go_at_call 40; first | with_reducible exact grow_of (hup _) (I1.out _) | with_reducible exact grow_of (hup _) (I2.out _) | with_reducible exact grow_of (hup _) (I3.out _) | with_reducible exact grow_of (hup _) (I4.out _)) | (go_at_call 41; first | with_reducible exact grow_of (hup _) (A1.out _) | with_reducible exact grow_of (hup _) (A2.out _) | with_reducible exact grow_of (hup _) (A3.out _))))
      refine wpQuiet_nil ?_
      rintro _ ⟨x, rfl⟩
      have hbx' := hbm x
      have hsx := hsz x
      have f0 := e0 x
      have f0z := e0z x
      have f1 := e1 x
      have f1z := e1z x
      have f2 := e2 x
      have f2z := e2z x
      have f3 := e3 x
      have f3z := e3z x
      clear hbm hsz e0 e1 e2 e3 e0z e1z e2z e3z e4 e5 e6 e7 hup hbx
      go_wp2_with fail
      refine Calls.mono (N1.out _) ?_
      rintro e w2 ⟨rfl, hb2⟩
      have hw2 : Below w.heap.size w w2 := Below.trans (by repeat (first | (with_reducible assumption) | (with_reducible exact Below.refl _ _) | ((with_reducible refine Below.alloc ?_ ?_ _); rotate_left; exact (by first | omega | (simp; done) | (simp; omega))) | ((with_reducible refine Below.setCell ?_ ?_ _); rotate_left; exact (by first | omega | (simp; done) | (simp; omega))) | (with_reducible refine Below.drew ?_))) (hb2.mono (by first | omega | (simp; done) | (simp; omega)))
      have hs2 := hb2.size
      try simp at hs2
      have hl2_0 : w.heap.size < w2.heap.size := by omega
      have k2_0_0 := below_cell hb2 (p := ⟨w.heap.size, 0, none⟩) (v := .float .f64 a) (by first | assumption | (go_simp; done))
      have k2_0_0z := below_frozen hb2 (p := ⟨w.heap.size, 0, none⟩) (v := .float .f64 a) (by first | assumption | (go_simp; done)) (by first | assumption | (go_simp; done))
      have k2_0_1 := below_cell hb2 (p := ⟨w.heap.size, 1, none⟩) (v := .float .f64 b) (by first | assumption | (go_simp; done))
      have k2_0_1z := below_frozen hb2 (p := ⟨w.heap.size, 1, none⟩) (v := .float .f64 b) (by first | assumption | (go_simp; done)) (by first | assumption | (go_simp; done))
      clear hb2
      go_wp2_with fail
      refine Calls.mono (M1.out _) ?_
      rintro e w3 ⟨rfl, hb3⟩
      have hw3 : Below w.heap.size w w3 := Below.trans (by repeat (first | (with_reducible assumption) | (with_reducible exact Below.refl _ _) | ((with_reducible refine Below.alloc ?_ ?_ _); rotate_left; exact (by first | omega | (simp; done) | (simp; omega))) | ((with_reducible refine Below.setCell ?_ ?_ _); rotate_left; exact (by first | omega | (simp; done) | (simp; omega))) | (with_reducible refine Below.drew ?_))) (hb3.mono (by first | omega | (simp; done) | (simp; omega)))
      have hs3 := hb3.size
      try simp at hs3
      have hl3_0 : w.heap.size < w3.heap.size := by omega
      have k3_0_0 := below_cell hb3 (p := ⟨w.heap.size, 0, none⟩) (v := .float .f64 a) (by first | assumption | (go_simp; done))
      have k3_0_0z := below_frozen hb3 (p := ⟨w.heap.size, 0, none⟩) (v := .float .f64 a) (by first | assumption | (go_simp; done)) (by first | assumption | (go_simp; done))
      have k3_0_1 := below_cell hb3 (p := ⟨w.heap.size, 1, none⟩) (v := .float .f64 b) (by first | assumption | (go_simp; done))
      have k3_0_1z := below_frozen hb3 (p := ⟨w.heap.size, 1, none⟩) (v := .float .f64 b) (by first | assumption | (go_simp; done)) (by first | assumption | (go_simp; done))
      clear hb3
      go_wp2_with fail
      refine wp_region_grow (by kernel_rfl) (by kernel_rfl) ?_
      intro X _ N hN hup
      have e0 := grow_cell hN (p := ⟨w.heap.size, 0, none⟩) (v := .float .f64 a) (by go_simp)
      have e1 := grow_cell hN (p := ⟨w.heap.size, 1, none⟩) (v := .float .f64 b) (by go_simp)
      have e2 := grow_cell hN (p := ⟨w3.heap.size, 0, none⟩) (v := .float .f64 z1) (by go_simp)
      have e3 := grow_cell hN (p := ⟨w3.heap.size, 1, none⟩) (v := .float .f64 z2) (by go_simp)
      have hbm : ∀ x, Below w.heap.size w (N x) := fun x => Below.trans (by repeat (first | (with_reducible assumption) | (with_reducible exact Below.refl _ _) | ((with_reducible refine Below.alloc ?_ ?_ _); rotate_left; exact (by first | omega | (simp; done) | (simp; omega))) | ((with_reducible refine Below.setCell ?_ ?_ _); rotate_left; exact (by first | omega | (simp; done) | (simp; omega))) | (with_reducible refine Below.drew ?_))) ((hN x).mono (by have := hw3.size; simp; omega))
      clear hN
      repeat (go_big_quiet_step (first | (go_at_call 32; exact grow_of (hup _) (M2.out _)) | (go_at_call 41; first | with_reducible exact grow_of (hup _) (M3.out _) | with_reducible exact grow_of (hup _) (M4.out _)) | (go_at_call 28; first | with_reducible exact grow_of (hup _) (M5.out _) | with_reducible exact grow_of (hup _) (M6.out _)) | (go_at_call 40; exact grow_of (hup _) (M7.out _)) | (go_at_call 21; exact grow_of (hup _) (M8.out _)) | (go_at_call 19; exact grow_of (hup _) (M9.out _))))
      refine wpQuiet_nil ?_
      rintro _ ⟨x, rfl⟩
      have hbx2 := hbm x
      go_wp2
      go_ret
      exact ⟨rfl, (by repeat (first | (with_reducible assumption) | (with_reducible exact Below.refl _ _) | ((with_reducible refine Below.alloc ?_ ?_ _); rotate_left; exact (by first | omega | (simp; done) | (simp; omega))) | ((with_reducible refine Below.setCell ?_ ?_ _); rotate_left; exact (by first | omega | (simp; done) | (simp; omega))) | (with_reducible refine Below.drew ?_)))⟩

theorem lat_some_t_m (a b c d v hl hh ml mh z1 z2 s1 s2 n1 n2 k1 k2 mi ma : Nat) (q : Bool) (w : World)
    (h1 : ∀ w, Calls Try.prog 24 #[(.agg #[.float .f64 a, .float .f64 b]), (.agg #[.float .f64 c, .float .f64 d])] w fun e w' => e = .returned (.agg #[.float .f64 hl, .float .f64 hh]) ∧ Below w.heap.size w w')
    (h2 : ∀ w, Calls Try.prog 26 #[(.agg #[.float .f64 a, .float .f64 b]), (.agg #[.float .f64 c, .float .f64 d])] w fun e w' => e = .returned (.agg #[.float .f64 ml, .float .f64 mh]) ∧ Below w.heap.size w w')
    (i1 : ∀ w, Calls Try.prog 40 #[(.agg #[.float .f64 a, .float .f64 b]), (.agg #[.float .f64 hl, .float .f64 hh])] w fun e w' => e = .returned (.bool true) ∧ Below w.heap.size w w')
    (i2 : ∀ w, Calls Try.prog 40 #[(.agg #[.float .f64 c, .float .f64 d]), (.agg #[.float .f64 hl, .float .f64 hh])] w fun e w' => e = .returned (.bool true) ∧ Below w.heap.size w w')
    (i3 : ∀ w, Calls Try.prog 40 #[(.agg #[.float .f64 ml, .float .f64 mh]), (.agg #[.float .f64 a, .float .f64 b])] w fun e w' => e = .returned (.bool true) ∧ Below w.heap.size w w')
    (i4 : ∀ w, Calls Try.prog 40 #[(.agg #[.float .f64 ml, .float .f64 mh]), (.agg #[.float .f64 c, .float .f64 d])] w fun e w' => e = .returned (.bool true) ∧ Below w.heap.size w w')
    (a1 : ∀ w, Calls Try.prog 41 #[(.agg #[.float .f64 ml, .float .f64 mh]), .float .f64 v] w fun e w' => e = .returned (.bool q) ∧ Below w.heap.size w w')
    (a2 : ∀ w, Calls Try.prog 41 #[(.agg #[.float .f64 a, .float .f64 b]), .float .f64 v] w fun e w' => e = .returned (.bool true) ∧ Below w.heap.size w w')
    (a3 : ∀ w, Calls Try.prog 41 #[(.agg #[.float .f64 c, .float .f64 d]), .float .f64 v] w fun e w' => e = .returned (.bool q) ∧ Below w.heap.size w w')
    (n1' : ∀ w, Calls Try.prog 42 #[(.agg #[.float .f64 a, .float .f64 b])] w fun e w' => e = .returned (.bool false) ∧ Below w.heap.size w w')
    (m1 : ∀ w, Calls Try.prog 34 #[(.agg #[.float .f64 a, .float .f64 b]), (.agg #[.float .f64 a, .float .f64 b])] w fun e w' => e = .returned (.agg #[.float .f64 z1, .float .f64 z2]) ∧ Below w.heap.size w w')
    (m2 : ∀ w, Calls Try.prog 32 #[(.agg #[.float .f64 a, .float .f64 b]), (.agg #[.float .f64 a, .float .f64 b])] w fun e w' => e = .returned (.agg #[.float .f64 s1, .float .f64 s2]) ∧ Below w.heap.size w w')
    (m3 : ∀ w, Calls Try.prog 41 #[(.agg #[.float .f64 s1, .float .f64 s2]), .float .f64 0] w fun e w' => e = .returned (.bool true) ∧ Below w.heap.size w w')
    (r : feq a 0 = true) (t : feq b 0 = false)
    (m4 : ∀ w, Calls Try.prog 41 #[(.agg #[.float .f64 z1, .float .f64 z2]), .float .f64 4607182418800017408] w fun e w' => e = .returned (.bool true) ∧ Below w.heap.size w w')
    (m5 : ∀ w, Calls Try.prog 28 #[(.agg #[.float .f64 a, .float .f64 b])] w fun e w' => e = .returned (.agg #[.float .f64 n1, .float .f64 n2]) ∧ Below w.heap.size w w')
    (m6 : ∀ w, Calls Try.prog 28 #[(.agg #[.float .f64 n1, .float .f64 n2])] w fun e w' => e = .returned (.agg #[.float .f64 k1, .float .f64 k2]) ∧ Below w.heap.size w w')
    (m7 : ∀ w, Calls Try.prog 40 #[(.agg #[.float .f64 a, .float .f64 b]), (.agg #[.float .f64 k1, .float .f64 k2])] w fun e w' => e = .returned (.bool true) ∧ Below w.heap.size w w')
    (m8 : ∀ w, Calls Try.prog 21 #[(.agg #[.float .f64 a, .float .f64 b])] w fun e w' => e = .returned (.float .f64 mi) ∧ Below w.heap.size w w')
    (m9 : ∀ w, Calls Try.prog 19 #[(.agg #[.float .f64 a, .float .f64 b])] w fun e w' => e = .returned (.float .f64 ma) ∧ Below w.heap.size w w') (hle : fle mi ma = true) :
    Calls Try.prog 9 #[(.agg #[.float .f64 a, .float .f64 b]), (.agg #[.float .f64 c, .float .f64 d]), .float .f64 v] w fun e w' => e = .returned (.bool true) ∧ Below w.heap.size w w' := by
  have H1 := Lib.hid h1
  have H2 := Lib.hid h2
  have I1 := Lib.hid i1
  have I2 := Lib.hid i2
  have I3 := Lib.hid i3
  have I4 := Lib.hid i4
  have A1 := Lib.hid a1
  have A2 := Lib.hid a2
  have A3 := Lib.hid a3
  have N1 := Lib.hid n1'
  have M1 := Lib.hid m1
  have M2 := Lib.hid m2
  have M3 := Lib.hid m3
  have M4 := Lib.hid m4
  clear m4
  have M5 := Lib.hid m5
  have M6 := Lib.hid m6
  have M7 := Lib.hid m7
  have M8 := Lib.hid m8
  have M9 := Lib.hid m9
  clear h1 h2 i1 i2 i3 i4 a1 a2 a3 n1' m1 m2 m3 m5 m6 m7 m8 m9
  go_enter Try.func9, Try.ntmps9
  go_wp2_with fail
  refine wp_region_spec' 8 6 2 [6, 7] (by kernel_rfl) (by kernel_rfl) (by kernel_rfl) (by kernel_rfl) (twoNew ((w.alloc (.cells #[.float .f64 a, .float .f64 b] 35)).alloc (.cells #[.float .f64 c, .float .f64 d] 35))) ?hI ?hup ?h
  case hI => exact twoNew_none _ _
  case hup => exact twoNew_up _
  case h =>
    simp only [List.take_succ_cons, List.take_zero, List.drop_succ_cons, List.drop_zero, Nat.reduceAdd, Nat.reduceSub, List.append_nil]
    intro X _ M hM hup
    have d0 := grow_cell hM (p := ⟨w.heap.size, 0, none⟩) (v := .float .f64 a) (by go_simp)
    have d1 := grow_cell hM (p := ⟨w.heap.size, 1, none⟩) (v := .float .f64 b) (by go_simp)
    have d2 := grow_cell hM (p := ⟨w.heap.size + 1, 0, none⟩) (v := .float .f64 c) (by go_simp)
    have d3 := grow_cell hM (p := ⟨w.heap.size + 1, 1, none⟩) (v := .float .f64 d) (by go_simp)
    repeat (go_big_quiet_step (first | (go_at_call 24; exact grow_of (hup _) (H1.out _)) | (go_at_call 26; exact grow_of (hup _) (H2.out _))))
    refine wpQuiet_nil ?_
    clear hup hM d0 d1 d2 d3
    refine ⟨?_, ?_⟩
    · intro s hs o ho vs w1 hb hI hn _
      have hs' : s = 6 ∨ s = 7 := by simpa using hs
      have key := twoNew_alloc _ s hs' vs w1 hb hI hn
      rcases hs' with rfl | rfl
      · cases ho
        exact specAt_alloc rfl rfl key
      · cases ho
        exact specAt_alloc rfl rfl key
    · intro vs w1 hb hI hsome
      obtain ⟨v6, hv6⟩ := Option.isSome_iff_exists.1 (hsome 6 (by simp))
      obtain ⟨v7, hv7⟩ := Option.isSome_iff_exists.1 (hsome 7 (by simp))
      obtain ⟨b6, rfl, p1, p2, p3, p4, p5, p6⟩ := hI.1 v6 hv6
      obtain ⟨b7, rfl, q1, q2, q3, q4, q5, q6⟩ := hI.2.1 v7 hv7
      have hne : b6 ≠ b7 := fun e => hI.2.2 _ hv6 (e ▸ hv7)
      simp only [putsp, hv6, hv7, slotOf, List.getElem?_toArray, List.getElem?_cons_succ, List.getElem?_cons_zero, Option.bind_some]
      have hbx : Below w.heap.size w w1 := Below.trans (by repeat (first | (with_reducible assumption) | (with_reducible exact Below.refl _ _) | ((with_reducible refine Below.alloc ?_ ?_ _); rotate_left; exact (by first | omega | (simp; done) | (simp; omega))) | ((with_reducible refine Below.setCell ?_ ?_ _); rotate_left; exact (by first | omega | (simp; done) | (simp; omega))) | (with_reducible refine Below.drew ?_))) (hb.mono (by simp; omega))
      have s6 : w.heap.size < b6 := by simp at p1; omega
      have s7 : w.heap.size < b7 := by simp at q1; omega
      have t6 : w.heap.size + 1 < b6 := by simp at p1; omega
      have t7 : w.heap.size + 1 < b7 := by simp at q1; omega
      have g0 : w.heap.size ≤ b6 := Nat.le_of_lt s6
      have g1 : w.heap.size ≤ b7 := Nat.le_of_lt s7
      have c0 := below_cell hb (p := ⟨w.heap.size, 0, none⟩) (v := .float .f64 a) (by go_simp)
      have c0z := below_frozen hb (p := ⟨w.heap.size, 0, none⟩) (v := .float .f64 a) (by go_simp) (by go_simp)
      have c1 := below_cell hb (p := ⟨w.heap.size, 1, none⟩) (v := .float .f64 b) (by go_simp)
      have c1z := below_frozen hb (p := ⟨w.heap.size, 1, none⟩) (v := .float .f64 b) (by go_simp) (by go_simp)
      have c2 := below_cell hb (p := ⟨w.heap.size + 1, 0, none⟩) (v := .float .f64 c) (by go_simp)
      have c2z := below_frozen hb (p := ⟨w.heap.size + 1, 0, none⟩) (v := .float .f64 c) (by go_simp) (by go_simp)
      have c3 := below_cell hb (p := ⟨w.heap.size + 1, 1, none⟩) (v := .float .f64 d) (by go_simp)
      have c3z := below_frozen hb (p := ⟨w.heap.size + 1, 1, none⟩) (v := .float .f64 d) (by go_simp) (by go_simp)
      clear hI hsome hv6 hv7 hb p1 q1
      have hne' : b7 ≠ b6 := fun e => hne e.symm
      go_wp2_with fail
      refine wp_region_grow (by kernel_rfl) (by kernel_rfl) ?_
      intro X _ N hN hup
      have e0 := grow_cell hN (p := ⟨w.heap.size, 0, none⟩) (v := .float .f64 a) (by go_simp)
      have e0z := fun x => below_frozen (hN x) (p := ⟨w.heap.size, 0, none⟩) (v := .float .f64 a) (by go_simp) (by go_simp)
      have e1 := grow_cell hN (p := ⟨w.heap.size, 1, none⟩) (v := .float .f64 b) (by go_simp)
      have e1z := fun x => below_frozen (hN x) (p := ⟨w.heap.size, 1, none⟩) (v := .float .f64 b) (by go_simp) (by go_simp)
      have e2 := grow_cell hN (p := ⟨w.heap.size + 1, 0, none⟩) (v := .float .f64 c) (by go_simp)
      have e2z := fun x => below_frozen (hN x) (p := ⟨w.heap.size + 1, 0, none⟩) (v := .float .f64 c) (by go_simp) (by go_simp)
      have e3 := grow_cell hN (p := ⟨w.heap.size + 1, 1, none⟩) (v := .float .f64 d) (by go_simp)
      have e3z := fun x => below_frozen (hN x) (p := ⟨w.heap.size + 1, 1, none⟩) (v := .float .f64 d) (by go_simp) (by go_simp)
      have e4 := grow_cell hN (p := ⟨b6, 0, none⟩) (v := .float .f64 hl) (by go_simp)
      have e5 := grow_cell hN (p := ⟨b6, 1, none⟩) (v := .float .f64 hh) (by go_simp)
      have e6 := grow_cell hN (p := ⟨b7, 0, none⟩) (v := .float .f64 ml) (by go_simp)
      have e7 := grow_cell hN (p := ⟨b7, 1, none⟩) (v := .float .f64 mh) (by go_simp)
      have hbm : ∀ x, Below w.heap.size w (N x) := fun x => Below.trans ((((hbx.setCell g0 _).setCell g0 _).setCell g1 _).setCell g1 _) ((hN x).mono (by simp; omega))
      have hsz : ∀ x, w.heap.size + 2 ≤ (N x).heap.size := fun x => by
        have h1 := (hN x).size
        simp at h1; omega
      clear hN c0 c1 c2 c3 c0z c1z c2z c3z p2 p3 p4 p5 p6 q2 q3 q4 q5 q6 hne hne' s6 s7 t6 t7 g0 g1
      repeat (go_big_quiet_step (first | (go_at_call 40; first | with_reducible exact grow_of (hup _) (I1.out _) | with_reducible exact grow_of (hup _) (I2.out _) | with_reducible exact grow_of (hup _) (I3.out _) | with_reducible exact grow_of (hup _) (I4.out _)) | (go_at_call 41; first | with_reducible exact grow_of (hup _) (A1.out _) | with_reducible exact grow_of (hup _) (A2.out _) | with_reducible exact grow_of (hup _) (A3.out _))))
      refine wpQuiet_nil ?_
      rintro _ ⟨x, rfl⟩
      have hbx' := hbm x
      have hsx := hsz x
      have f0 := e0 x
      have f0z := e0z x
      have f1 := e1 x
      have f1z := e1z x
      have f2 := e2 x
      have f2z := e2z x
      have f3 := e3 x
      have f3z := e3z x
      clear hbm hsz e0 e1 e2 e3 e0z e1z e2z e3z e4 e5 e6 e7 hup hbx
      go_wp2_with fail
      refine Calls.mono (N1.out _) ?_
      rintro e w2 ⟨rfl, hb2⟩
      have hw2 : Below w.heap.size w w2 := Below.trans (by repeat (first | (with_reducible assumption) | (with_reducible exact Below.refl _ _) | ((with_reducible refine Below.alloc ?_ ?_ _); rotate_left; exact (by first | omega | (simp; done) | (simp; omega))) | ((with_reducible refine Below.setCell ?_ ?_ _); rotate_left; exact (by first | omega | (simp; done) | (simp; omega))) | (with_reducible refine Below.drew ?_))) (hb2.mono (by first | omega | (simp; done) | (simp; omega)))
      have hs2 := hb2.size
      try simp at hs2
      have hl2_0 : w.heap.size < w2.heap.size := by omega
      have k2_0_0 := below_cell hb2 (p := ⟨w.heap.size, 0, none⟩) (v := .float .f64 a) (by first | assumption | (go_simp; done))
      have k2_0_0z := below_frozen hb2 (p := ⟨w.heap.size, 0, none⟩) (v := .float .f64 a) (by first | assumption | (go_simp; done)) (by first | assumption | (go_simp; done))
      have k2_0_1 := below_cell hb2 (p := ⟨w.heap.size, 1, none⟩) (v := .float .f64 b) (by first | assumption | (go_simp; done))
      have k2_0_1z := below_frozen hb2 (p := ⟨w.heap.size, 1, none⟩) (v := .float .f64 b) (by first | assumption | (go_simp; done)) (by first | assumption | (go_simp; done))
      clear hb2
      go_wp2_with fail
      refine Calls.mono (M1.out _) ?_
      rintro e w3 ⟨rfl, hb3⟩
      have hw3 : Below w.heap.size w w3 := Below.trans (by repeat (first | (with_reducible assumption) | (with_reducible exact Below.refl _ _) | ((with_reducible refine Below.alloc ?_ ?_ _); rotate_left; exact (by first | omega | (simp; done) | (simp; omega))) | ((with_reducible refine Below.setCell ?_ ?_ _); rotate_left; exact (by first | omega | (simp; done) | (simp; omega))) | (with_reducible refine Below.drew ?_))) (hb3.mono (by first | omega | (simp; done) | (simp; omega)))
      have hs3 := hb3.size
      try simp at hs3
      have hl3_0 : w.heap.size < w3.heap.size := by omega
      have k3_0_0 := below_cell hb3 (p := ⟨w.heap.size, 0, none⟩) (v := .float .f64 a) (by first | assumption | (go_simp; done))
      have k3_0_0z := below_frozen hb3 (p := ⟨w.heap.size, 0, none⟩) (v := .float .f64 a) (by first | assumption | (go_simp; done)) (by first | assumption | (go_simp; done))
      have k3_0_1 := below_cell hb3 (p := ⟨w.heap.size, 1, none⟩) (v := .float .f64 b) (by first | assumption | (go_simp; done))
      have k3_0_1z := below_frozen hb3 (p := ⟨w.heap.size, 1, none⟩) (v := .float .f64 b) (by first | assumption | (go_simp; done)) (by first | assumption | (go_simp; done))
      clear hb3
      go_wp2_with fail
      refine wp_region_grow (by kernel_rfl) (by kernel_rfl) ?_
      intro X _ N hN hup
      have e0 := grow_cell hN (p := ⟨w.heap.size, 0, none⟩) (v := .float .f64 a) (by go_simp)
      have e1 := grow_cell hN (p := ⟨w.heap.size, 1, none⟩) (v := .float .f64 b) (by go_simp)
      have e2 := grow_cell hN (p := ⟨w3.heap.size, 0, none⟩) (v := .float .f64 z1) (by go_simp)
      have e3 := grow_cell hN (p := ⟨w3.heap.size, 1, none⟩) (v := .float .f64 z2) (by go_simp)
      have hbm : ∀ x, Below w.heap.size w (N x) := fun x => Below.trans (by repeat (first | (with_reducible assumption) | (with_reducible exact Below.refl _ _) | ((with_reducible refine Below.alloc ?_ ?_ _); rotate_left; exact (by first | omega | (simp; done) | (simp; omega))) | ((with_reducible refine Below.setCell ?_ ?_ _); rotate_left; exact (by first | omega | (simp; done) | (simp; omega))) | (with_reducible refine Below.drew ?_))) ((hN x).mono (by have := hw3.size; simp; omega))
      clear hN
      repeat (go_big_quiet_step (first | (go_at_call 32; exact grow_of (hup _) (M2.out _)) | (go_at_call 41; first | with_reducible exact grow_of (hup _) (M3.out _) | with_reducible exact grow_of (hup _) (M4.out _)) | (go_at_call 28; first | with_reducible exact grow_of (hup _) (M5.out _) | with_reducible exact grow_of (hup _) (M6.out _)) | (go_at_call 40; exact grow_of (hup _) (M7.out _)) | (go_at_call 21; exact grow_of (hup _) (M8.out _)) | (go_at_call 19; exact grow_of (hup _) (M9.out _))))
      refine wpQuiet_nil ?_
      rintro _ ⟨x, rfl⟩
      have hbx2 := hbm x
      go_wp2
      go_ret
      exact ⟨rfl, (by repeat (first | (with_reducible assumption) | (with_reducible exact Below.refl _ _) | ((with_reducible refine Below.alloc ?_ ?_ _); rotate_left; exact (by first | omega | (simp; done) | (simp; omega))) | ((with_reducible refine Below.setCell ?_ ?_ _); rotate_left; exact (by first | omega | (simp; done) | (simp; omega))) | (with_reducible refine Below.drew ?_)))⟩

theorem lat_some_t_z (a b c d v hl hh ml mh z1 z2 s1 s2 n1 n2 k1 k2 mi ma : Nat) (q : Bool) (w : World)
    (h1 : ∀ w, Calls Try.prog 24 #[(.agg #[.float .f64 a, .float .f64 b]), (.agg #[.float .f64 c, .float .f64 d])] w fun e w' => e = .returned (.agg #[.float .f64 hl, .float .f64 hh]) ∧ Below w.heap.size w w')
    (h2 : ∀ w, Calls Try.prog 26 #[(.agg #[.float .f64 a, .float .f64 b]), (.agg #[.float .f64 c, .float .f64 d])] w fun e w' => e = .returned (.agg #[.float .f64 ml, .float .f64 mh]) ∧ Below w.heap.size w w')
    (i1 : ∀ w, Calls Try.prog 40 #[(.agg #[.float .f64 a, .float .f64 b]), (.agg #[.float .f64 hl, .float .f64 hh])] w fun e w' => e = .returned (.bool true) ∧ Below w.heap.size w w')
    (i2 : ∀ w, Calls Try.prog 40 #[(.agg #[.float .f64 c, .float .f64 d]), (.agg #[.float .f64 hl, .float .f64 hh])] w fun e w' => e = .returned (.bool true) ∧ Below w.heap.size w w')
    (i3 : ∀ w, Calls Try.prog 40 #[(.agg #[.float .f64 ml, .float .f64 mh]), (.agg #[.float .f64 a, .float .f64 b])] w fun e w' => e = .returned (.bool true) ∧ Below w.heap.size w w')
    (i4 : ∀ w, Calls Try.prog 40 #[(.agg #[.float .f64 ml, .float .f64 mh]), (.agg #[.float .f64 c, .float .f64 d])] w fun e w' => e = .returned (.bool true) ∧ Below w.heap.size w w')
    (a1 : ∀ w, Calls Try.prog 41 #[(.agg #[.float .f64 ml, .float .f64 mh]), .float .f64 v] w fun e w' => e = .returned (.bool q) ∧ Below w.heap.size w w')
    (a2 : ∀ w, Calls Try.prog 41 #[(.agg #[.float .f64 a, .float .f64 b]), .float .f64 v] w fun e w' => e = .returned (.bool true) ∧ Below w.heap.size w w')
    (a3 : ∀ w, Calls Try.prog 41 #[(.agg #[.float .f64 c, .float .f64 d]), .float .f64 v] w fun e w' => e = .returned (.bool q) ∧ Below w.heap.size w w')
    (n1' : ∀ w, Calls Try.prog 42 #[(.agg #[.float .f64 a, .float .f64 b])] w fun e w' => e = .returned (.bool false) ∧ Below w.heap.size w w')
    (m1 : ∀ w, Calls Try.prog 34 #[(.agg #[.float .f64 a, .float .f64 b]), (.agg #[.float .f64 a, .float .f64 b])] w fun e w' => e = .returned (.agg #[.float .f64 z1, .float .f64 z2]) ∧ Below w.heap.size w w')
    (m2 : ∀ w, Calls Try.prog 32 #[(.agg #[.float .f64 a, .float .f64 b]), (.agg #[.float .f64 a, .float .f64 b])] w fun e w' => e = .returned (.agg #[.float .f64 s1, .float .f64 s2]) ∧ Below w.heap.size w w')
    (m3 : ∀ w, Calls Try.prog 41 #[(.agg #[.float .f64 s1, .float .f64 s2]), .float .f64 0] w fun e w' => e = .returned (.bool true) ∧ Below w.heap.size w w')
    (r : feq a 0 = true) (t : feq b 0 = true)
    (m5 : ∀ w, Calls Try.prog 28 #[(.agg #[.float .f64 a, .float .f64 b])] w fun e w' => e = .returned (.agg #[.float .f64 n1, .float .f64 n2]) ∧ Below w.heap.size w w')
    (m6 : ∀ w, Calls Try.prog 28 #[(.agg #[.float .f64 n1, .float .f64 n2])] w fun e w' => e = .returned (.agg #[.float .f64 k1, .float .f64 k2]) ∧ Below w.heap.size w w')
    (m7 : ∀ w, Calls Try.prog 40 #[(.agg #[.float .f64 a, .float .f64 b]), (.agg #[.float .f64 k1, .float .f64 k2])] w fun e w' => e = .returned (.bool true) ∧ Below w.heap.size w w')
    (m8 : ∀ w, Calls Try.prog 21 #[(.agg #[.float .f64 a, .float .f64 b])] w fun e w' => e = .returned (.float .f64 mi) ∧ Below w.heap.size w w')
    (m9 : ∀ w, Calls Try.prog 19 #[(.agg #[.float .f64 a, .float .f64 b])] w fun e w' => e = .returned (.float .f64 ma) ∧ Below w.heap.size w w') (hle : fle mi ma = true) :
    Calls Try.prog 9 #[(.agg #[.float .f64 a, .float .f64 b]), (.agg #[.float .f64 c, .float .f64 d]), .float .f64 v] w fun e w' => e = .returned (.bool true) ∧ Below w.heap.size w w' := by
  have H1 := Lib.hid h1
  have H2 := Lib.hid h2
  have I1 := Lib.hid i1
  have I2 := Lib.hid i2
  have I3 := Lib.hid i3
  have I4 := Lib.hid i4
  have A1 := Lib.hid a1
  have A2 := Lib.hid a2
  have A3 := Lib.hid a3
  have N1 := Lib.hid n1'
  have M1 := Lib.hid m1
  have M2 := Lib.hid m2
  have M3 := Lib.hid m3
  have M4 : True := trivial
  have M5 := Lib.hid m5
  have M6 := Lib.hid m6
  have M7 := Lib.hid m7
  have M8 := Lib.hid m8
  have M9 := Lib.hid m9
  clear h1 h2 i1 i2 i3 i4 a1 a2 a3 n1' m1 m2 m3 m5 m6 m7 m8 m9
  go_enter Try.func9, Try.ntmps9
  go_wp2_with fail
  refine wp_region_spec' 8 6 2 [6, 7] (by kernel_rfl) (by kernel_rfl) (by kernel_rfl) (by kernel_rfl) (twoNew ((w.alloc (.cells #[.float .f64 a, .float .f64 b] 35)).alloc (.cells #[.float .f64 c, .float .f64 d] 35))) ?hI ?hup ?h
  case hI => exact twoNew_none _ _
  case hup => exact twoNew_up _
  case h =>
    simp only [List.take_succ_cons, List.take_zero, List.drop_succ_cons, List.drop_zero, Nat.reduceAdd, Nat.reduceSub, List.append_nil]
    intro X _ M hM hup
    have d0 := grow_cell hM (p := ⟨w.heap.size, 0, none⟩) (v := .float .f64 a) (by go_simp)
    have d1 := grow_cell hM (p := ⟨w.heap.size, 1, none⟩) (v := .float .f64 b) (by go_simp)
    have d2 := grow_cell hM (p := ⟨w.heap.size + 1, 0, none⟩) (v := .float .f64 c) (by go_simp)
    have d3 := grow_cell hM (p := ⟨w.heap.size + 1, 1, none⟩) (v := .float .f64 d) (by go_simp)
    repeat (go_big_quiet_step (first | (go_at_call 24; exact grow_of (hup _) (H1.out _)) | (go_at_call 26; exact grow_of (hup _) (H2.out _))))
    refine wpQuiet_nil ?_
    clear hup hM d0 d1 d2 d3
    refine ⟨?_, ?_⟩
    · intro s hs o ho vs w1 hb hI hn _
      have hs' : s = 6 ∨ s = 7 := by simpa using hs
      have key := twoNew_alloc _ s hs' vs w1 hb hI hn
      rcases hs' with rfl | rfl
      · cases ho
        exact specAt_alloc rfl rfl key
      · cases ho
        exact specAt_alloc rfl rfl key
    · intro vs w1 hb hI hsome
      obtain ⟨v6, hv6⟩ := Option.isSome_iff_exists.1 (hsome 6 (by simp))
      obtain ⟨v7, hv7⟩ := Option.isSome_iff_exists.1 (hsome 7 (by simp))
      obtain ⟨b6, rfl, p1, p2, p3, p4, p5, p6⟩ := hI.1 v6 hv6
      obtain ⟨b7, rfl, q1, q2, q3, q4, q5, q6⟩ := hI.2.1 v7 hv7
      have hne : b6 ≠ b7 := fun e => hI.2.2 _ hv6 (e ▸ hv7)
      simp only [putsp, hv6, hv7, slotOf, List.getElem?_toArray, List.getElem?_cons_succ, List.getElem?_cons_zero, Option.bind_some]
      have hbx : Below w.heap.size w w1 := Below.trans (by repeat (first | (with_reducible assumption) | (with_reducible exact Below.refl _ _) | ((with_reducible refine Below.alloc ?_ ?_ _); rotate_left; exact (by first | omega | (simp; done) | (simp; omega))) | ((with_reducible refine Below.setCell ?_ ?_ _); rotate_left; exact (by first | omega | (simp; done) | (simp; omega))) | (with_reducible refine Below.drew ?_))) (hb.mono (by simp; omega))
      have s6 : w.heap.size < b6 := by simp at p1; omega
      have s7 : w.heap.size < b7 := by simp at q1; omega
      have t6 : w.heap.size + 1 < b6 := by simp at p1; omega
      have t7 : w.heap.size + 1 < b7 := by simp at q1; omega
      have g0 : w.heap.size ≤ b6 := Nat.le_of_lt s6
      have g1 : w.heap.size ≤ b7 := Nat.le_of_lt s7
      have c0 := below_cell hb (p := ⟨w.heap.size, 0, none⟩) (v := .float .f64 a) (by go_simp)
      have c0z := below_frozen hb (p := ⟨w.heap.size, 0, none⟩) (v := .float .f64 a) (by go_simp) (by go_simp)
      have c1 := below_cell hb (p := ⟨w.heap.size, 1, none⟩) (v := .float .f64 b) (by go_simp)
      have c1z := below_frozen hb (p := ⟨w.heap.size, 1, none⟩) (v := .float .f64 b) (by go_simp) (by go_simp)
      have c2 := below_cell hb (p := ⟨w.heap.size + 1, 0, none⟩) (v := .float .f64 c) (by go_simp)
      have c2z := below_frozen hb (p := ⟨w.heap.size + 1, 0, none⟩) (v := .float .f64 c) (by go_simp) (by go_simp)
      have c3 := below_cell hb (p := ⟨w.heap.size + 1, 1, none⟩) (v := .float .f64 d) (by go_simp)
      have c3z := below_frozen hb (p := ⟨w.heap.size + 1, 1, none⟩) (v := .float .f64 d) (by go_simp) (by go_simp)
      clear hI hsome hv6 hv7 hb p1 q1
      have hne' : b7 ≠ b6 := fun e => hne e.symm
      go_wp2_with fail
      refine wp_region_grow (by kernel_rfl) (by kernel_rfl) ?_
      intro X _ N hN hup
      have e0 := grow_cell hN (p := ⟨w.heap.size, 0, none⟩) (v := .float .f64 a) (by go_simp)
      have e0z := fun x => below_frozen (hN x) (p := ⟨w.heap.size, 0, none⟩) (v := .float .f64 a) (by go_simp) (by go_simp)
      have e1 := grow_cell hN (p := ⟨w.heap.size, 1, none⟩) (v := .float .f64 b) (by go_simp)
      have e1z := fun x => below_frozen (hN x) (p := ⟨w.heap.size, 1, none⟩) (v := .float .f64 b) (by go_simp) (by go_simp)
      have e2 := grow_cell hN (p := ⟨w.heap.size + 1, 0, none⟩) (v := .float .f64 c) (by go_simp)
      have e2z := fun x => below_frozen (hN x) (p := ⟨w.heap.size + 1, 0, none⟩) (v := .float .f64 c) (by go_simp) (by go_simp)
      have e3 := grow_cell hN (p := ⟨w.heap.size + 1, 1, none⟩) (v := .float .f64 d) (by go_simp)
      have e3z := fun x => below_frozen (hN x) (p := ⟨w.heap.size + 1, 1, none⟩) (v := .float .f64 d) (by go_simp) (by go_simp)
      have e4 := grow_cell hN (p := ⟨b6, 0, none⟩) (v := .float .f64 hl) (by go_simp)
      have e5 := grow_cell hN (p := ⟨b6, 1, none⟩) (v := .float .f64 hh) (by go_simp)
      have e6 := grow_cell hN (p := ⟨b7, 0, none⟩) (v := .float .f64 ml) (by go_simp)
      have e7 := grow_cell hN (p := ⟨b7, 1, none⟩) (v := .float .f64 mh) (by go_simp)
      have hbm : ∀ x, Below w.heap.size w (N x) := fun x => Below.trans ((((hbx.setCell g0 _).setCell g0 _).setCell g1 _).setCell g1 _) ((hN x).mono (by simp; omega))
      have hsz : ∀ x, w.heap.size + 2 ≤ (N x).heap.size := fun x => by
        have h1 := (hN x).size
        simp at h1; omega
      clear hN c0 c1 c2 c3 c0z c1z c2z c3z p2 p3 p4 p5 p6 q2 q3 q4 q5 q6 hne hne' s6 s7 t6 t7 g0 g1
      repeat (go_big_quiet_step (first | (go_at_call 40; first | with_reducible exact grow_of (hup _) (I1.out _) | with_reducible exact grow_of (hup _) (I2.out _) | with_reducible exact grow_of (hup _) (I3.out _) | with_reducible exact grow_of (hup _) (I4.out _)) | (go_at_call 41; first | with_reducible exact grow_of (hup _) (A1.out _) | with_reducible exact grow_of (hup _) (A2.out _) | with_reducible exact grow_of (hup _) (A3.out _))))
      refine wpQuiet_nil ?_
      rintro _ ⟨x, rfl⟩
      have hbx' := hbm x
      have hsx := hsz x
      have f0 := e0 x
      have f0z := e0z x
      have f1 := e1 x
      have f1z := e1z x
      have f2 := e2 x
      have f2z := e2z x
      have f3 := e3 x
      have f3z := e3z x
      clear hbm hsz e0 e1 e2 e3 e0z e1z e2z e3z e4 e5 e6 e7 hup hbx
      go_wp2_with fail
      refine Calls.mono (N1.out _) ?_
      rintro e w2 ⟨rfl, hb2⟩
      have hw2 : Below w.heap.size w w2 := Below.trans (by repeat (first | (with_reducible assumption) | (with_reducible exact Below.refl _ _) | ((with_reducible refine Below.alloc ?_ ?_ _); rotate_left; exact (by first | omega | (simp; done) | (simp; omega))) | ((with_reducible refine Below.setCell ?_ ?_ _); rotate_left; exact (by first | omega | (simp; done) | (simp; omega))) | (with_reducible refine Below.drew ?_))) (hb2.mono (by first | omega | (simp; done) | (simp; omega)))
      have hs2 := hb2.size
      try simp at hs2
      have hl2_0 : w.heap.size < w2.heap.size := by omega
      have k2_0_0 := below_cell hb2 (p := ⟨w.heap.size, 0, none⟩) (v := .float .f64 a) (by first | assumption | (go_simp; done))
      have k2_0_0z := below_frozen hb2 (p := ⟨w.heap.size, 0, none⟩) (v := .float .f64 a) (by first | assumption | (go_simp; done)) (by first | assumption | (go_simp; done))
      have k2_0_1 := below_cell hb2 (p := ⟨w.heap.size, 1, none⟩) (v := .float .f64 b) (by first | assumption | (go_simp; done))
      have k2_0_1z := below_frozen hb2 (p := ⟨w.heap.size, 1, none⟩) (v := .float .f64 b) (by first | assumption | (go_simp; done)) (by first | assumption | (go_simp; done))
      clear hb2
      go_wp2_with fail
      refine Calls.mono (M1.out _) ?_
      rintro e w3 ⟨rfl, hb3⟩
      have hw3 : Below w.heap.size w w3 := Below.trans (by repeat (first | (with_reducible assumption) | (with_reducible exact Below.refl _ _) | ((with_reducible refine Below.alloc ?_ ?_ _); rotate_left; exact (by first | omega | (simp; done) | (simp; omega))) | ((with_reducible refine Below.setCell ?_ ?_ _); rotate_left; exact (by first | omega | (simp; done) | (simp; omega))) | (with_reducible refine Below.drew ?_))) (hb3.mono (by first | omega | (simp; done) | (simp; omega)))
      have hs3 := hb3.size
      try simp at hs3
      have hl3_0 : w.heap.size < w3.heap.size := by omega
      have k3_0_0 := below_cell hb3 (p := ⟨w.heap.size, 0, none⟩) (v := .float .f64 a) (by first | assumption | (go_simp; done))
      have k3_0_0z := below_frozen hb3 (p := ⟨w.heap.size, 0, none⟩) (v := .float .f64 a) (by first | assumption | (go_simp; done)) (by first | assumption | (go_simp; done))
      have k3_0_1 := below_cell hb3 (p := ⟨w.heap.size, 1, none⟩) (v := .float .f64 b) (by first | assumption | (go_simp; done))
      have k3_0_1z := below_frozen hb3 (p := ⟨w.heap.size, 1, none⟩) (v := .float .f64 b) (by first | assumption | (go_simp; done)) (by first | assumption | (go_simp; done))
      clear hb3
      go_wp2_with fail
      refine wp_region_grow (by kernel_rfl) (by kernel_rfl) ?_
      intro X _ N hN hup
      have e0 := grow_cell hN (p := ⟨w.heap.size, 0, none⟩) (v := .float .f64 a) (by go_simp)
      have e1 := grow_cell hN (p := ⟨w.heap.size, 1, none⟩) (v := .float .f64 b) (by go_simp)
      have e2 := grow_cell hN (p := ⟨w3.heap.size, 0, none⟩) (v := .float .f64 z1) (by go_simp)
      have e3 := grow_cell hN (p := ⟨w3.heap.size, 1, none⟩) (v := .float .f64 z2) (by go_simp)
      have hbm : ∀ x, Below w.heap.size w (N x) := fun x => Below.trans (by repeat (first | (with_reducible assumption) | (with_reducible exact Below.refl _ _) | ((with_reducible refine Below.alloc ?_ ?_ _); rotate_left; exact (by first | omega | (simp; done) | (simp; omega))) | ((with_reducible refine Below.setCell ?_ ?_ _); rotate_left; exact (by first | omega | (simp; done) | (simp; omega))) | (with_reducible refine Below.drew ?_))) ((hN x).mono (by have := hw3.size; simp; omega))
      clear hN
      repeat (go_big_quiet_step (first | (go_at_call 32; exact grow_of (hup _) (M2.out _)) | (go_at_call 41; first | with_reducible exact grow_of (hup _) (M3.out _)) | (go_at_call 28; first | with_reducible exact grow_of (hup _) (M5.out _) | with_reducible exact grow_of (hup _) (M6.out _)) | (go_at_call 40; exact grow_of (hup _) (M7.out _)) | (go_at_call 21; exact grow_of (hup _) (M8.out _)) | (go_at_call 19; exact grow_of (hup _) (M9.out _))))
      refine wpQuiet_nil ?_
      rintro _ ⟨x, rfl⟩
      have hbx2 := hbm x
      go_wp2
      go_ret
      exact ⟨rfl, (by repeat (first | (with_reducible assumption) | (with_reducible exact Below.refl _ _) | ((with_reducible refine Below.alloc ?_ ?_ _); rotate_left; exact (by first | omega | (simp; done) | (simp; omega))) | ((with_reducible refine Below.setCell ?_ ?_ _); rotate_left; exact (by first | omega | (simp; done) | (simp; omega))) | (with_reducible refine Below.drew ?_)))⟩

end Go.Proofs.Ytonidoghcihnnaa
