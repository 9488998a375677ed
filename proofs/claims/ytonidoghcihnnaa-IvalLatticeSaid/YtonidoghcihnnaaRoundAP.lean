/- The walk of ulp.value's round: digits are cut off. -/
import Derived.Test.YtonidoghcihnnaaMade
import Derived.Test.YtonidoghcihnnaaUlpA
import Derived.Lib.Hide
namespace Go.Proofs.Ytonidoghcihnnaa
open Go.RowKit
set_option maxRecDepth 100000
set_option maxHeartbeats 1000000
set_option linter.unusedSimpArgs false
set_option linter.unusedVariables false

theorem round_A_false_hi_up (more : Bool) (hi lo : Nat) (e d s lost q : Int) (x n : Nat) (w : World) (d1 : -1 ≤ d) (d2 : d ≤ 1) (d3 : max d (-1) = d) (d4 : min d 1 = d)
    (hz1 : ((hi : Int) == 0) = false) (g1 : 0 < d) (g2 : 0 < lost) (e1 : -5000 ≤ e) (e2 : e ≤ 5000) (hn2 : (n : Int) ≤ 128) (hs : max ((n : Int) - 53) (-1074 - e) = s) (s2 : s ≤ 6000)
    (hlen : ∀ w, Calls Try.prog 125 #[.agg #[.bool false, .int .u64 hi, .int .u64 lo, .int .i64 e, .bool more]] w fun e w' => e = .returned (.int .i64 (n : Nat)) ∧ Below w.heap.size w w')
    (q1 : 0 ≤ q) (q2 : q ≤ 9007199254740992)
    (s1 : 0 < s) (hsh : ∀ w, Calls Try.prog 126 #[.agg #[.bool false, .int .u64 hi, .int .u64 lo, .int .i64 e, .bool more], .int .i64 s] w fun e w' => e = .returned (.tuple #[.int .u64 q, .int .i64 lost]) ∧ Below w.heap.size w w')
    (hmade : ∀ w, Calls Try.prog 127 #[.agg #[.bool false, .int .u64 hi, .int .u64 lo, .int .i64 e, .bool more], .int .u64 (q + 1), .int .i64 (e + s), .int .i64 d] w fun e w' => e = .returned (.float .f64 x) ∧ Below w.heap.size w w') :
    Calls Try.prog 99 #[.agg #[.bool false, .int .u64 hi, .int .u64 lo, .int .i64 e, .bool more], .int .i64 d] w fun e w' => e = .returned (.float .f64 x) ∧ Below w.heap.size w w' := by
  have Hlen := Lib.hid hlen
  have Hsh := Lib.hid hsh
  have Hmade := Lib.hid hmade
  clear hlen hmade
  clear hsh
  go_enter Try.func99, Try.ntmps99
  go_wp2_with fail
  refine wp_region_grow (by kernel_rfl) (by kernel_rfl) ?_
  intro X _ N hN hup
  have c0 := grow_cell hN (p := ⟨w.heap.size, 0, none⟩) (v := .bool false) (by go_simp)
  have c1 := grow_cell hN (p := ⟨w.heap.size, 1, none⟩) (v := .int .u64 hi) (by go_simp)
  have c2 := grow_cell hN (p := ⟨w.heap.size, 2, none⟩) (v := .int .u64 lo) (by go_simp)
  have c3 := grow_cell hN (p := ⟨w.heap.size, 3, none⟩) (v := .int .i64 e) (by go_simp)
  have c4 := grow_cell hN (p := ⟨w.heap.size, 4, none⟩) (v := .bool more) (by go_simp)
  have hb : ∀ x, Below w.heap.size w (N x) := fun x => Below.trans (by repeat (first | (with_reducible assumption) | (with_reducible exact Below.refl _ _) | ((with_reducible refine Below.alloc ?_ ?_ _); rotate_left; exact (by first | omega | (simp; done) | (simp; omega))) | ((with_reducible refine Below.setCell ?_ ?_ _); rotate_left; exact (by first | omega | (simp; done) | (simp; omega))) | (with_reducible refine Below.drew ?_))) ((hN x).mono (by first | omega | (simp; done) | (simp; omega)))
  have hz : ∀ x, w.heap.size < (N x).heap.size := fun x => by have := (hN x).size; simp at this; omega
  repeat (go_big_quiet_step ((go_at_call 125; exact grow_of (hup _) (Hlen.out _))))
  refine wpQuiet_nil ?_
  rintro _ ⟨y, rfl⟩
  have hby := hb y
  have hzy := hz y
  go_wp2_with fail
  refine Calls.mono (Hsh.out _) ?_
  rintro e' w1 ⟨rfl, hb1⟩
  have k0 := below_cell hb1 (c0 y)
  have k1 := below_cell hb1 (c1 y)
  have k2 := below_cell hb1 (c2 y)
  have k3 := below_cell hb1 (c3 y)
  have k4 := below_cell hb1 (c4 y)
  have hw1 : Below w.heap.size w w1 := Below.trans hby (hb1.mono (by first | omega | (simp; done) | (simp; omega)))
  clear Hsh hb hz c0 c1 c2 c3 c4 hN hup Hlen
  go_wp2_with fail
  refine Calls.mono (Hmade.out _) ?_
  rintro e' w2 ⟨rfl, hb2⟩
  have hs1 := hb1.size
  have hw2 : Below w.heap.size w w2 := Below.trans hw1 (hb2.mono (by first | omega | (simp; done) | (simp; omega)))
  clear Hmade
  go_wp2
  go_ret
  exact ⟨rfl, hw2⟩

theorem round_A_false_hi_upExact (more : Bool) (hi lo : Nat) (e d s lost q : Int) (x n : Nat) (w : World) (d1 : -1 ≤ d) (d2 : d ≤ 1) (d3 : max d (-1) = d) (d4 : min d 1 = d)
    (hz1 : ((hi : Int) == 0) = false) (g1 : 0 < d)  (e1 : -5000 ≤ e) (e2 : e ≤ 5000) (hn2 : (n : Int) ≤ 128) (hs : max ((n : Int) - 53) (-1074 - e) = s) (s2 : s ≤ 6000)
    (hlen : ∀ w, Calls Try.prog 125 #[.agg #[.bool false, .int .u64 hi, .int .u64 lo, .int .i64 e, .bool more]] w fun e w' => e = .returned (.int .i64 (n : Nat)) ∧ Below w.heap.size w w')
    (q1 : 0 ≤ q) (q2 : q ≤ 9007199254740992)
    (s1 : 0 < s) (hsh : ∀ w, Calls Try.prog 126 #[.agg #[.bool false, .int .u64 hi, .int .u64 lo, .int .i64 e, .bool more], .int .i64 s] w fun e w' => e = .returned (.tuple #[.int .u64 q, .int .i64 0]) ∧ Below w.heap.size w w')
    (hmade : ∀ w, Calls Try.prog 127 #[.agg #[.bool false, .int .u64 hi, .int .u64 lo, .int .i64 e, .bool more], .int .u64 q, .int .i64 (e + s), .int .i64 d] w fun e w' => e = .returned (.float .f64 x) ∧ Below w.heap.size w w') :
    Calls Try.prog 99 #[.agg #[.bool false, .int .u64 hi, .int .u64 lo, .int .i64 e, .bool more], .int .i64 d] w fun e w' => e = .returned (.float .f64 x) ∧ Below w.heap.size w w' := by
  have Hlen := Lib.hid hlen
  have Hsh := Lib.hid hsh
  have Hmade := Lib.hid hmade
  clear hlen hmade
  clear hsh
  go_enter Try.func99, Try.ntmps99
  go_wp2_with fail
  refine wp_region_grow (by kernel_rfl) (by kernel_rfl) ?_
  intro X _ N hN hup
  have c0 := grow_cell hN (p := ⟨w.heap.size, 0, none⟩) (v := .bool false) (by go_simp)
  have c1 := grow_cell hN (p := ⟨w.heap.size, 1, none⟩) (v := .int .u64 hi) (by go_simp)
  have c2 := grow_cell hN (p := ⟨w.heap.size, 2, none⟩) (v := .int .u64 lo) (by go_simp)
  have c3 := grow_cell hN (p := ⟨w.heap.size, 3, none⟩) (v := .int .i64 e) (by go_simp)
  have c4 := grow_cell hN (p := ⟨w.heap.size, 4, none⟩) (v := .bool more) (by go_simp)
  have hb : ∀ x, Below w.heap.size w (N x) := fun x => Below.trans (by repeat (first | (with_reducible assumption) | (with_reducible exact Below.refl _ _) | ((with_reducible refine Below.alloc ?_ ?_ _); rotate_left; exact (by first | omega | (simp; done) | (simp; omega))) | ((with_reducible refine Below.setCell ?_ ?_ _); rotate_left; exact (by first | omega | (simp; done) | (simp; omega))) | (with_reducible refine Below.drew ?_))) ((hN x).mono (by first | omega | (simp; done) | (simp; omega)))
  have hz : ∀ x, w.heap.size < (N x).heap.size := fun x => by have := (hN x).size; simp at this; omega
  repeat (go_big_quiet_step ((go_at_call 125; exact grow_of (hup _) (Hlen.out _))))
  refine wpQuiet_nil ?_
  rintro _ ⟨y, rfl⟩
  have hby := hb y
  have hzy := hz y
  go_wp2_with fail
  refine Calls.mono (Hsh.out _) ?_
  rintro e' w1 ⟨rfl, hb1⟩
  have k0 := below_cell hb1 (c0 y)
  have k1 := below_cell hb1 (c1 y)
  have k2 := below_cell hb1 (c2 y)
  have k3 := below_cell hb1 (c3 y)
  have k4 := below_cell hb1 (c4 y)
  have hw1 : Below w.heap.size w w1 := Below.trans hby (hb1.mono (by first | omega | (simp; done) | (simp; omega)))
  clear Hsh hb hz c0 c1 c2 c3 c4 hN hup Hlen
  go_wp2_with fail
  refine Calls.mono (Hmade.out _) ?_
  rintro e' w2 ⟨rfl, hb2⟩
  have hs1 := hb1.size
  have hw2 : Below w.heap.size w w2 := Below.trans hw1 (hb2.mono (by first | omega | (simp; done) | (simp; omega)))
  clear Hmade
  go_wp2
  go_ret
  exact ⟨rfl, hw2⟩

theorem round_A_false_hi_down (more : Bool) (hi lo : Nat) (e d s lost q : Int) (x n : Nat) (w : World) (d1 : -1 ≤ d) (d2 : d ≤ 1) (d3 : max d (-1) = d) (d4 : min d 1 = d)
    (hz1 : ((hi : Int) == 0) = false) (g1 : d < 0) (e1 : -5000 ≤ e) (e2 : e ≤ 5000) (hn2 : (n : Int) ≤ 128) (hs : max ((n : Int) - 53) (-1074 - e) = s) (s2 : s ≤ 6000)
    (hlen : ∀ w, Calls Try.prog 125 #[.agg #[.bool false, .int .u64 hi, .int .u64 lo, .int .i64 e, .bool more]] w fun e w' => e = .returned (.int .i64 (n : Nat)) ∧ Below w.heap.size w w')
    (q1 : 0 ≤ q) (q2 : q ≤ 9007199254740992)
    (s1 : 0 < s) (hsh : ∀ w, Calls Try.prog 126 #[.agg #[.bool false, .int .u64 hi, .int .u64 lo, .int .i64 e, .bool more], .int .i64 s] w fun e w' => e = .returned (.tuple #[.int .u64 q, .int .i64 lost]) ∧ Below w.heap.size w w')
    (hmade : ∀ w, Calls Try.prog 127 #[.agg #[.bool false, .int .u64 hi, .int .u64 lo, .int .i64 e, .bool more], .int .u64 q, .int .i64 (e + s), .int .i64 d] w fun e w' => e = .returned (.float .f64 x) ∧ Below w.heap.size w w') :
    Calls Try.prog 99 #[.agg #[.bool false, .int .u64 hi, .int .u64 lo, .int .i64 e, .bool more], .int .i64 d] w fun e w' => e = .returned (.float .f64 x) ∧ Below w.heap.size w w' := by
  have Hlen := Lib.hid hlen
  have Hsh := Lib.hid hsh
  have Hmade := Lib.hid hmade
  clear hlen hmade
  clear hsh
  go_enter Try.func99, Try.ntmps99
  go_wp2_with fail
  refine wp_region_grow (by kernel_rfl) (by kernel_rfl) ?_
  intro X _ N hN hup
  have c0 := grow_cell hN (p := ⟨w.heap.size, 0, none⟩) (v := .bool false) (by go_simp)
  have c1 := grow_cell hN (p := ⟨w.heap.size, 1, none⟩) (v := .int .u64 hi) (by go_simp)
  have c2 := grow_cell hN (p := ⟨w.heap.size, 2, none⟩) (v := .int .u64 lo) (by go_simp)
  have c3 := grow_cell hN (p := ⟨w.heap.size, 3, none⟩) (v := .int .i64 e) (by go_simp)
  have c4 := grow_cell hN (p := ⟨w.heap.size, 4, none⟩) (v := .bool more) (by go_simp)
  have hb : ∀ x, Below w.heap.size w (N x) := fun x => Below.trans (by repeat (first | (with_reducible assumption) | (with_reducible exact Below.refl _ _) | ((with_reducible refine Below.alloc ?_ ?_ _); rotate_left; exact (by first | omega | (simp; done) | (simp; omega))) | ((with_reducible refine Below.setCell ?_ ?_ _); rotate_left; exact (by first | omega | (simp; done) | (simp; omega))) | (with_reducible refine Below.drew ?_))) ((hN x).mono (by first | omega | (simp; done) | (simp; omega)))
  have hz : ∀ x, w.heap.size < (N x).heap.size := fun x => by have := (hN x).size; simp at this; omega
  repeat (go_big_quiet_step ((go_at_call 125; exact grow_of (hup _) (Hlen.out _))))
  refine wpQuiet_nil ?_
  rintro _ ⟨y, rfl⟩
  have hby := hb y
  have hzy := hz y
  go_wp2_with fail
  refine Calls.mono (Hsh.out _) ?_
  rintro e' w1 ⟨rfl, hb1⟩
  have k0 := below_cell hb1 (c0 y)
  have k1 := below_cell hb1 (c1 y)
  have k2 := below_cell hb1 (c2 y)
  have k3 := below_cell hb1 (c3 y)
  have k4 := below_cell hb1 (c4 y)
  have hw1 : Below w.heap.size w w1 := Below.trans hby (hb1.mono (by first | omega | (simp; done) | (simp; omega)))
  clear Hsh hb hz c0 c1 c2 c3 c4 hN hup Hlen
  go_wp2_with fail
  refine Calls.mono (Hmade.out _) ?_
  rintro e' w2 ⟨rfl, hb2⟩
  have hs1 := hb1.size
  have hw2 : Below w.heap.size w w2 := Below.trans hw1 (hb2.mono (by first | omega | (simp; done) | (simp; omega)))
  clear Hmade
  go_wp2
  go_ret
  exact ⟨rfl, hw2⟩

theorem round_A_false_hi_more (more : Bool) (hi lo : Nat) (e d s lost q : Int) (x n : Nat) (w : World) 
    (hz1 : ((hi : Int) == 0) = false)  (e1 : -5000 ≤ e) (e2 : e ≤ 5000) (hn2 : (n : Int) ≤ 128) (hs : max ((n : Int) - 53) (-1074 - e) = s) (s2 : s ≤ 6000)
    (hlen : ∀ w, Calls Try.prog 125 #[.agg #[.bool false, .int .u64 hi, .int .u64 lo, .int .i64 e, .bool more]] w fun e w' => e = .returned (.int .i64 (n : Nat)) ∧ Below w.heap.size w w')
    (q1 : 0 ≤ q) (q2 : q ≤ 9007199254740992)
    (s1 : 0 < s) (hsh : ∀ w, Calls Try.prog 126 #[.agg #[.bool false, .int .u64 hi, .int .u64 lo, .int .i64 e, .bool more], .int .i64 s] w fun e w' => e = .returned (.tuple #[.int .u64 q, .int .i64 3]) ∧ Below w.heap.size w w')
    (hmade : ∀ w, Calls Try.prog 127 #[.agg #[.bool false, .int .u64 hi, .int .u64 lo, .int .i64 e, .bool more], .int .u64 (q + 1), .int .i64 (e + s), .int .i64 0] w fun e w' => e = .returned (.float .f64 x) ∧ Below w.heap.size w w') :
    Calls Try.prog 99 #[.agg #[.bool false, .int .u64 hi, .int .u64 lo, .int .i64 e, .bool more], .int .i64 0] w fun e w' => e = .returned (.float .f64 x) ∧ Below w.heap.size w w' := by
  have Hlen := Lib.hid hlen
  have Hsh := Lib.hid hsh
  have Hmade := Lib.hid hmade
  clear hlen hmade
  clear hsh
  go_enter Try.func99, Try.ntmps99
  go_wp2_with fail
  refine wp_region_grow (by kernel_rfl) (by kernel_rfl) ?_
  intro X _ N hN hup
  have c0 := grow_cell hN (p := ⟨w.heap.size, 0, none⟩) (v := .bool false) (by go_simp)
  have c1 := grow_cell hN (p := ⟨w.heap.size, 1, none⟩) (v := .int .u64 hi) (by go_simp)
  have c2 := grow_cell hN (p := ⟨w.heap.size, 2, none⟩) (v := .int .u64 lo) (by go_simp)
  have c3 := grow_cell hN (p := ⟨w.heap.size, 3, none⟩) (v := .int .i64 e) (by go_simp)
  have c4 := grow_cell hN (p := ⟨w.heap.size, 4, none⟩) (v := .bool more) (by go_simp)
  have hb : ∀ x, Below w.heap.size w (N x) := fun x => Below.trans (by repeat (first | (with_reducible assumption) | (with_reducible exact Below.refl _ _) | ((with_reducible refine Below.alloc ?_ ?_ _); rotate_left; exact (by first | omega | (simp; done) | (simp; omega))) | ((with_reducible refine Below.setCell ?_ ?_ _); rotate_left; exact (by first | omega | (simp; done) | (simp; omega))) | (with_reducible refine Below.drew ?_))) ((hN x).mono (by first | omega | (simp; done) | (simp; omega)))
  have hz : ∀ x, w.heap.size < (N x).heap.size := fun x => by have := (hN x).size; simp at this; omega
  repeat (go_big_quiet_step ((go_at_call 125; exact grow_of (hup _) (Hlen.out _))))
  refine wpQuiet_nil ?_
  rintro _ ⟨y, rfl⟩
  have hby := hb y
  have hzy := hz y
  go_wp2_with fail
  refine Calls.mono (Hsh.out _) ?_
  rintro e' w1 ⟨rfl, hb1⟩
  have k0 := below_cell hb1 (c0 y)
  have k1 := below_cell hb1 (c1 y)
  have k2 := below_cell hb1 (c2 y)
  have k3 := below_cell hb1 (c3 y)
  have k4 := below_cell hb1 (c4 y)
  have hw1 : Below w.heap.size w w1 := Below.trans hby (hb1.mono (by first | omega | (simp; done) | (simp; omega)))
  clear Hsh hb hz c0 c1 c2 c3 c4 hN hup Hlen
  go_wp2_with fail
  refine Calls.mono (Hmade.out _) ?_
  rintro e' w2 ⟨rfl, hb2⟩
  have hs1 := hb1.size
  have hw2 : Below w.heap.size w w2 := Below.trans hw1 (hb2.mono (by first | omega | (simp; done) | (simp; omega)))
  clear Hmade
  go_wp2
  go_ret
  exact ⟨rfl, hw2⟩

theorem round_A_false_hi_odd (more : Bool) (hi lo : Nat) (e d s lost q : Int) (x n : Nat) (w : World) 
    (hz1 : ((hi : Int) == 0) = false)  (g3 : (Go.bits .and .u64 q 1 == 1) = true) (e1 : -5000 ≤ e) (e2 : e ≤ 5000) (hn2 : (n : Int) ≤ 128) (hs : max ((n : Int) - 53) (-1074 - e) = s) (s2 : s ≤ 6000)
    (hlen : ∀ w, Calls Try.prog 125 #[.agg #[.bool false, .int .u64 hi, .int .u64 lo, .int .i64 e, .bool more]] w fun e w' => e = .returned (.int .i64 (n : Nat)) ∧ Below w.heap.size w w')
    (q1 : 0 ≤ q) (q2 : q ≤ 9007199254740992)
    (s1 : 0 < s) (hsh : ∀ w, Calls Try.prog 126 #[.agg #[.bool false, .int .u64 hi, .int .u64 lo, .int .i64 e, .bool more], .int .i64 s] w fun e w' => e = .returned (.tuple #[.int .u64 q, .int .i64 2]) ∧ Below w.heap.size w w')
    (hmade : ∀ w, Calls Try.prog 127 #[.agg #[.bool false, .int .u64 hi, .int .u64 lo, .int .i64 e, .bool more], .int .u64 (q + 1), .int .i64 (e + s), .int .i64 0] w fun e w' => e = .returned (.float .f64 x) ∧ Below w.heap.size w w') :
    Calls Try.prog 99 #[.agg #[.bool false, .int .u64 hi, .int .u64 lo, .int .i64 e, .bool more], .int .i64 0] w fun e w' => e = .returned (.float .f64 x) ∧ Below w.heap.size w w' := by
  have Hlen := Lib.hid hlen
  have Hsh := Lib.hid hsh
  have Hmade := Lib.hid hmade
  clear hlen hmade
  clear hsh
  go_enter Try.func99, Try.ntmps99
  go_wp2_with fail
  refine wp_region_grow (by kernel_rfl) (by kernel_rfl) ?_
  intro X _ N hN hup
  have c0 := grow_cell hN (p := ⟨w.heap.size, 0, none⟩) (v := .bool false) (by go_simp)
  have c1 := grow_cell hN (p := ⟨w.heap.size, 1, none⟩) (v := .int .u64 hi) (by go_simp)
  have c2 := grow_cell hN (p := ⟨w.heap.size, 2, none⟩) (v := .int .u64 lo) (by go_simp)
  have c3 := grow_cell hN (p := ⟨w.heap.size, 3, none⟩) (v := .int .i64 e) (by go_simp)
  have c4 := grow_cell hN (p := ⟨w.heap.size, 4, none⟩) (v := .bool more) (by go_simp)
  have hb : ∀ x, Below w.heap.size w (N x) := fun x => Below.trans (by repeat (first | (with_reducible assumption) | (with_reducible exact Below.refl _ _) | ((with_reducible refine Below.alloc ?_ ?_ _); rotate_left; exact (by first | omega | (simp; done) | (simp; omega))) | ((with_reducible refine Below.setCell ?_ ?_ _); rotate_left; exact (by first | omega | (simp; done) | (simp; omega))) | (with_reducible refine Below.drew ?_))) ((hN x).mono (by first | omega | (simp; done) | (simp; omega)))
  have hz : ∀ x, w.heap.size < (N x).heap.size := fun x => by have := (hN x).size; simp at this; omega
  repeat (go_big_quiet_step ((go_at_call 125; exact grow_of (hup _) (Hlen.out _))))
  refine wpQuiet_nil ?_
  rintro _ ⟨y, rfl⟩
  have hby := hb y
  have hzy := hz y
  go_wp2_with fail
  refine Calls.mono (Hsh.out _) ?_
  rintro e' w1 ⟨rfl, hb1⟩
  have k0 := below_cell hb1 (c0 y)
  have k1 := below_cell hb1 (c1 y)
  have k2 := below_cell hb1 (c2 y)
  have k3 := below_cell hb1 (c3 y)
  have k4 := below_cell hb1 (c4 y)
  have hw1 : Below w.heap.size w w1 := Below.trans hby (hb1.mono (by first | omega | (simp; done) | (simp; omega)))
  clear Hsh hb hz c0 c1 c2 c3 c4 hN hup Hlen
  go_wp2_with fail
  refine Calls.mono (Hmade.out _) ?_
  rintro e' w2 ⟨rfl, hb2⟩
  have hs1 := hb1.size
  have hw2 : Below w.heap.size w w2 := Below.trans hw1 (hb2.mono (by first | omega | (simp; done) | (simp; omega)))
  clear Hmade
  go_wp2
  go_ret
  exact ⟨rfl, hw2⟩

theorem round_A_false_hi_even (more : Bool) (hi lo : Nat) (e d s lost q : Int) (x n : Nat) (w : World) 
    (hz1 : ((hi : Int) == 0) = false)  (g3 : (Go.bits .and .u64 q 1 == 1) = false) (e1 : -5000 ≤ e) (e2 : e ≤ 5000) (hn2 : (n : Int) ≤ 128) (hs : max ((n : Int) - 53) (-1074 - e) = s) (s2 : s ≤ 6000)
    (hlen : ∀ w, Calls Try.prog 125 #[.agg #[.bool false, .int .u64 hi, .int .u64 lo, .int .i64 e, .bool more]] w fun e w' => e = .returned (.int .i64 (n : Nat)) ∧ Below w.heap.size w w')
    (q1 : 0 ≤ q) (q2 : q ≤ 9007199254740992)
    (s1 : 0 < s) (hsh : ∀ w, Calls Try.prog 126 #[.agg #[.bool false, .int .u64 hi, .int .u64 lo, .int .i64 e, .bool more], .int .i64 s] w fun e w' => e = .returned (.tuple #[.int .u64 q, .int .i64 2]) ∧ Below w.heap.size w w')
    (hmade : ∀ w, Calls Try.prog 127 #[.agg #[.bool false, .int .u64 hi, .int .u64 lo, .int .i64 e, .bool more], .int .u64 q, .int .i64 (e + s), .int .i64 0] w fun e w' => e = .returned (.float .f64 x) ∧ Below w.heap.size w w') :
    Calls Try.prog 99 #[.agg #[.bool false, .int .u64 hi, .int .u64 lo, .int .i64 e, .bool more], .int .i64 0] w fun e w' => e = .returned (.float .f64 x) ∧ Below w.heap.size w w' := by
  have Hlen := Lib.hid hlen
  have Hsh := Lib.hid hsh
  have Hmade := Lib.hid hmade
  clear hlen hmade
  clear hsh
  go_enter Try.func99, Try.ntmps99
  go_wp2_with fail
  refine wp_region_grow (by kernel_rfl) (by kernel_rfl) ?_
  intro X _ N hN hup
  have c0 := grow_cell hN (p := ⟨w.heap.size, 0, none⟩) (v := .bool false) (by go_simp)
  have c1 := grow_cell hN (p := ⟨w.heap.size, 1, none⟩) (v := .int .u64 hi) (by go_simp)
  have c2 := grow_cell hN (p := ⟨w.heap.size, 2, none⟩) (v := .int .u64 lo) (by go_simp)
  have c3 := grow_cell hN (p := ⟨w.heap.size, 3, none⟩) (v := .int .i64 e) (by go_simp)
  have c4 := grow_cell hN (p := ⟨w.heap.size, 4, none⟩) (v := .bool more) (by go_simp)
  have hb : ∀ x, Below w.heap.size w (N x) := fun x => Below.trans (by repeat (first | (with_reducible assumption) | (with_reducible exact Below.refl _ _) | ((with_reducible refine Below.alloc ?_ ?_ _); rotate_left; exact (by first | omega | (simp; done) | (simp; omega))) | ((with_reducible refine Below.setCell ?_ ?_ _); rotate_left; exact (by first | omega | (simp; done) | (simp; omega))) | (with_reducible refine Below.drew ?_))) ((hN x).mono (by first | omega | (simp; done) | (simp; omega)))
  have hz : ∀ x, w.heap.size < (N x).heap.size := fun x => by have := (hN x).size; simp at this; omega
  repeat (go_big_quiet_step ((go_at_call 125; exact grow_of (hup _) (Hlen.out _))))
  refine wpQuiet_nil ?_
  rintro _ ⟨y, rfl⟩
  have hby := hb y
  have hzy := hz y
  go_wp2_with fail
  refine Calls.mono (Hsh.out _) ?_
  rintro e' w1 ⟨rfl, hb1⟩
  have k0 := below_cell hb1 (c0 y)
  have k1 := below_cell hb1 (c1 y)
  have k2 := below_cell hb1 (c2 y)
  have k3 := below_cell hb1 (c3 y)
  have k4 := below_cell hb1 (c4 y)
  have hw1 : Below w.heap.size w w1 := Below.trans hby (hb1.mono (by first | omega | (simp; done) | (simp; omega)))
  clear Hsh hb hz c0 c1 c2 c3 c4 hN hup Hlen
  go_wp2_with fail
  refine Calls.mono (Hmade.out _) ?_
  rintro e' w2 ⟨rfl, hb2⟩
  have hs1 := hb1.size
  have hw2 : Below w.heap.size w w2 := Below.trans hw1 (hb2.mono (by first | omega | (simp; done) | (simp; omega)))
  clear Hmade
  go_wp2
  go_ret
  exact ⟨rfl, hw2⟩

theorem round_A_false_hi_less (more : Bool) (hi lo : Nat) (e d s lost q : Int) (x n : Nat) (w : World) 
    (hz1 : ((hi : Int) == 0) = false) (g2 : (lost == 3) = false) (g3 : (lost == 2) = false) (e1 : -5000 ≤ e) (e2 : e ≤ 5000) (hn2 : (n : Int) ≤ 128) (hs : max ((n : Int) - 53) (-1074 - e) = s) (s2 : s ≤ 6000)
    (hlen : ∀ w, Calls Try.prog 125 #[.agg #[.bool false, .int .u64 hi, .int .u64 lo, .int .i64 e, .bool more]] w fun e w' => e = .returned (.int .i64 (n : Nat)) ∧ Below w.heap.size w w')
    (q1 : 0 ≤ q) (q2 : q ≤ 9007199254740992)
    (s1 : 0 < s) (hsh : ∀ w, Calls Try.prog 126 #[.agg #[.bool false, .int .u64 hi, .int .u64 lo, .int .i64 e, .bool more], .int .i64 s] w fun e w' => e = .returned (.tuple #[.int .u64 q, .int .i64 lost]) ∧ Below w.heap.size w w')
    (hmade : ∀ w, Calls Try.prog 127 #[.agg #[.bool false, .int .u64 hi, .int .u64 lo, .int .i64 e, .bool more], .int .u64 q, .int .i64 (e + s), .int .i64 0] w fun e w' => e = .returned (.float .f64 x) ∧ Below w.heap.size w w') :
    Calls Try.prog 99 #[.agg #[.bool false, .int .u64 hi, .int .u64 lo, .int .i64 e, .bool more], .int .i64 0] w fun e w' => e = .returned (.float .f64 x) ∧ Below w.heap.size w w' := by
  have Hlen := Lib.hid hlen
  have Hsh := Lib.hid hsh
  have Hmade := Lib.hid hmade
  clear hlen hmade
  clear hsh
  go_enter Try.func99, Try.ntmps99
  go_wp2_with fail
  refine wp_region_grow (by kernel_rfl) (by kernel_rfl) ?_
  intro X _ N hN hup
  have c0 := grow_cell hN (p := ⟨w.heap.size, 0, none⟩) (v := .bool false) (by go_simp)
  have c1 := grow_cell hN (p := ⟨w.heap.size, 1, none⟩) (v := .int .u64 hi) (by go_simp)
  have c2 := grow_cell hN (p := ⟨w.heap.size, 2, none⟩) (v := .int .u64 lo) (by go_simp)
  have c3 := grow_cell hN (p := ⟨w.heap.size, 3, none⟩) (v := .int .i64 e) (by go_simp)
  have c4 := grow_cell hN (p := ⟨w.heap.size, 4, none⟩) (v := .bool more) (by go_simp)
  have hb : ∀ x, Below w.heap.size w (N x) := fun x => Below.trans (by repeat (first | (with_reducible assumption) | (with_reducible exact Below.refl _ _) | ((with_reducible refine Below.alloc ?_ ?_ _); rotate_left; exact (by first | omega | (simp; done) | (simp; omega))) | ((with_reducible refine Below.setCell ?_ ?_ _); rotate_left; exact (by first | omega | (simp; done) | (simp; omega))) | (with_reducible refine Below.drew ?_))) ((hN x).mono (by first | omega | (simp; done) | (simp; omega)))
  have hz : ∀ x, w.heap.size < (N x).heap.size := fun x => by have := (hN x).size; simp at this; omega
  repeat (go_big_quiet_step ((go_at_call 125; exact grow_of (hup _) (Hlen.out _))))
  refine wpQuiet_nil ?_
  rintro _ ⟨y, rfl⟩
  have hby := hb y
  have hzy := hz y
  go_wp2_with fail
  refine Calls.mono (Hsh.out _) ?_
  rintro e' w1 ⟨rfl, hb1⟩
  have k0 := below_cell hb1 (c0 y)
  have k1 := below_cell hb1 (c1 y)
  have k2 := below_cell hb1 (c2 y)
  have k3 := below_cell hb1 (c3 y)
  have k4 := below_cell hb1 (c4 y)
  have hw1 : Below w.heap.size w w1 := Below.trans hby (hb1.mono (by first | omega | (simp; done) | (simp; omega)))
  clear Hsh hb hz c0 c1 c2 c3 c4 hN hup Hlen
  go_wp2_with fail
  refine Calls.mono (Hmade.out _) ?_
  rintro e' w2 ⟨rfl, hb2⟩
  have hs1 := hb1.size
  have hw2 : Below w.heap.size w w2 := Below.trans hw1 (hb2.mono (by first | omega | (simp; done) | (simp; omega)))
  clear Hmade
  go_wp2
  go_ret
  exact ⟨rfl, hw2⟩

theorem round_A_false_lo_up (more : Bool) (hi lo : Nat) (e d s lost q : Int) (x n : Nat) (w : World) (d1 : -1 ≤ d) (d2 : d ≤ 1) (d3 : max d (-1) = d) (d4 : min d 1 = d)
    (hz1 : ((hi : Int) == 0) = true) (hz2 : ((lo : Int) == 0) = false) (g1 : 0 < d) (g2 : 0 < lost) (e1 : -5000 ≤ e) (e2 : e ≤ 5000) (hn2 : (n : Int) ≤ 128) (hs : max ((n : Int) - 53) (-1074 - e) = s) (s2 : s ≤ 6000)
    (hlen : ∀ w, Calls Try.prog 125 #[.agg #[.bool false, .int .u64 hi, .int .u64 lo, .int .i64 e, .bool more]] w fun e w' => e = .returned (.int .i64 (n : Nat)) ∧ Below w.heap.size w w')
    (q1 : 0 ≤ q) (q2 : q ≤ 9007199254740992)
    (s1 : 0 < s) (hsh : ∀ w, Calls Try.prog 126 #[.agg #[.bool false, .int .u64 hi, .int .u64 lo, .int .i64 e, .bool more], .int .i64 s] w fun e w' => e = .returned (.tuple #[.int .u64 q, .int .i64 lost]) ∧ Below w.heap.size w w')
    (hmade : ∀ w, Calls Try.prog 127 #[.agg #[.bool false, .int .u64 hi, .int .u64 lo, .int .i64 e, .bool more], .int .u64 (q + 1), .int .i64 (e + s), .int .i64 d] w fun e w' => e = .returned (.float .f64 x) ∧ Below w.heap.size w w') :
    Calls Try.prog 99 #[.agg #[.bool false, .int .u64 hi, .int .u64 lo, .int .i64 e, .bool more], .int .i64 d] w fun e w' => e = .returned (.float .f64 x) ∧ Below w.heap.size w w' := by
  have Hlen := Lib.hid hlen
  have Hsh := Lib.hid hsh
  have Hmade := Lib.hid hmade
  clear hlen hmade
  clear hsh
  go_enter Try.func99, Try.ntmps99
  go_wp2_with fail
  refine wp_region_grow (by kernel_rfl) (by kernel_rfl) ?_
  intro X _ N hN hup
  have c0 := grow_cell hN (p := ⟨w.heap.size, 0, none⟩) (v := .bool false) (by go_simp)
  have c1 := grow_cell hN (p := ⟨w.heap.size, 1, none⟩) (v := .int .u64 hi) (by go_simp)
  have c2 := grow_cell hN (p := ⟨w.heap.size, 2, none⟩) (v := .int .u64 lo) (by go_simp)
  have c3 := grow_cell hN (p := ⟨w.heap.size, 3, none⟩) (v := .int .i64 e) (by go_simp)
  have c4 := grow_cell hN (p := ⟨w.heap.size, 4, none⟩) (v := .bool more) (by go_simp)
  have hb : ∀ x, Below w.heap.size w (N x) := fun x => Below.trans (by repeat (first | (with_reducible assumption) | (with_reducible exact Below.refl _ _) | ((with_reducible refine Below.alloc ?_ ?_ _); rotate_left; exact (by first | omega | (simp; done) | (simp; omega))) | ((with_reducible refine Below.setCell ?_ ?_ _); rotate_left; exact (by first | omega | (simp; done) | (simp; omega))) | (with_reducible refine Below.drew ?_))) ((hN x).mono (by first | omega | (simp; done) | (simp; omega)))
  have hz : ∀ x, w.heap.size < (N x).heap.size := fun x => by have := (hN x).size; simp at this; omega
  repeat (go_big_quiet_step ((go_at_call 125; exact grow_of (hup _) (Hlen.out _))))
  refine wpQuiet_nil ?_
  rintro _ ⟨y, rfl⟩
  have hby := hb y
  have hzy := hz y
  go_wp2_with fail
  refine Calls.mono (Hsh.out _) ?_
  rintro e' w1 ⟨rfl, hb1⟩
  have k0 := below_cell hb1 (c0 y)
  have k1 := below_cell hb1 (c1 y)
  have k2 := below_cell hb1 (c2 y)
  have k3 := below_cell hb1 (c3 y)
  have k4 := below_cell hb1 (c4 y)
  have hw1 : Below w.heap.size w w1 := Below.trans hby (hb1.mono (by first | omega | (simp; done) | (simp; omega)))
  clear Hsh hb hz c0 c1 c2 c3 c4 hN hup Hlen
  go_wp2_with fail
  refine Calls.mono (Hmade.out _) ?_
  rintro e' w2 ⟨rfl, hb2⟩
  have hs1 := hb1.size
  have hw2 : Below w.heap.size w w2 := Below.trans hw1 (hb2.mono (by first | omega | (simp; done) | (simp; omega)))
  clear Hmade
  go_wp2
  go_ret
  exact ⟨rfl, hw2⟩

theorem round_A_false_lo_upExact (more : Bool) (hi lo : Nat) (e d s lost q : Int) (x n : Nat) (w : World) (d1 : -1 ≤ d) (d2 : d ≤ 1) (d3 : max d (-1) = d) (d4 : min d 1 = d)
    (hz1 : ((hi : Int) == 0) = true) (hz2 : ((lo : Int) == 0) = false) (g1 : 0 < d)  (e1 : -5000 ≤ e) (e2 : e ≤ 5000) (hn2 : (n : Int) ≤ 128) (hs : max ((n : Int) - 53) (-1074 - e) = s) (s2 : s ≤ 6000)
    (hlen : ∀ w, Calls Try.prog 125 #[.agg #[.bool false, .int .u64 hi, .int .u64 lo, .int .i64 e, .bool more]] w fun e w' => e = .returned (.int .i64 (n : Nat)) ∧ Below w.heap.size w w')
    (q1 : 0 ≤ q) (q2 : q ≤ 9007199254740992)
    (s1 : 0 < s) (hsh : ∀ w, Calls Try.prog 126 #[.agg #[.bool false, .int .u64 hi, .int .u64 lo, .int .i64 e, .bool more], .int .i64 s] w fun e w' => e = .returned (.tuple #[.int .u64 q, .int .i64 0]) ∧ Below w.heap.size w w')
    (hmade : ∀ w, Calls Try.prog 127 #[.agg #[.bool false, .int .u64 hi, .int .u64 lo, .int .i64 e, .bool more], .int .u64 q, .int .i64 (e + s), .int .i64 d] w fun e w' => e = .returned (.float .f64 x) ∧ Below w.heap.size w w') :
    Calls Try.prog 99 #[.agg #[.bool false, .int .u64 hi, .int .u64 lo, .int .i64 e, .bool more], .int .i64 d] w fun e w' => e = .returned (.float .f64 x) ∧ Below w.heap.size w w' := by
  have Hlen := Lib.hid hlen
  have Hsh := Lib.hid hsh
  have Hmade := Lib.hid hmade
  clear hlen hmade
  clear hsh
  go_enter Try.func99, Try.ntmps99
  go_wp2_with fail
  refine wp_region_grow (by kernel_rfl) (by kernel_rfl) ?_
  intro X _ N hN hup
  have c0 := grow_cell hN (p := ⟨w.heap.size, 0, none⟩) (v := .bool false) (by go_simp)
  have c1 := grow_cell hN (p := ⟨w.heap.size, 1, none⟩) (v := .int .u64 hi) (by go_simp)
  have c2 := grow_cell hN (p := ⟨w.heap.size, 2, none⟩) (v := .int .u64 lo) (by go_simp)
  have c3 := grow_cell hN (p := ⟨w.heap.size, 3, none⟩) (v := .int .i64 e) (by go_simp)
  have c4 := grow_cell hN (p := ⟨w.heap.size, 4, none⟩) (v := .bool more) (by go_simp)
  have hb : ∀ x, Below w.heap.size w (N x) := fun x => Below.trans (by repeat (first | (with_reducible assumption) | (with_reducible exact Below.refl _ _) | ((with_reducible refine Below.alloc ?_ ?_ _); rotate_left; exact (by first | omega | (simp; done) | (simp; omega))) | ((with_reducible refine Below.setCell ?_ ?_ _); rotate_left; exact (by first | omega | (simp; done) | (simp; omega))) | (with_reducible refine Below.drew ?_))) ((hN x).mono (by first | omega | (simp; done) | (simp; omega)))
  have hz : ∀ x, w.heap.size < (N x).heap.size := fun x => by have := (hN x).size; simp at this; omega
  repeat (go_big_quiet_step ((go_at_call 125; exact grow_of (hup _) (Hlen.out _))))
  refine wpQuiet_nil ?_
  rintro _ ⟨y, rfl⟩
  have hby := hb y
  have hzy := hz y
  go_wp2_with fail
  refine Calls.mono (Hsh.out _) ?_
  rintro e' w1 ⟨rfl, hb1⟩
  have k0 := below_cell hb1 (c0 y)
  have k1 := below_cell hb1 (c1 y)
  have k2 := below_cell hb1 (c2 y)
  have k3 := below_cell hb1 (c3 y)
  have k4 := below_cell hb1 (c4 y)
  have hw1 : Below w.heap.size w w1 := Below.trans hby (hb1.mono (by first | omega | (simp; done) | (simp; omega)))
  clear Hsh hb hz c0 c1 c2 c3 c4 hN hup Hlen
  go_wp2_with fail
  refine Calls.mono (Hmade.out _) ?_
  rintro e' w2 ⟨rfl, hb2⟩
  have hs1 := hb1.size
  have hw2 : Below w.heap.size w w2 := Below.trans hw1 (hb2.mono (by first | omega | (simp; done) | (simp; omega)))
  clear Hmade
  go_wp2
  go_ret
  exact ⟨rfl, hw2⟩

theorem round_A_false_lo_down (more : Bool) (hi lo : Nat) (e d s lost q : Int) (x n : Nat) (w : World) (d1 : -1 ≤ d) (d2 : d ≤ 1) (d3 : max d (-1) = d) (d4 : min d 1 = d)
    (hz1 : ((hi : Int) == 0) = true) (hz2 : ((lo : Int) == 0) = false) (g1 : d < 0) (e1 : -5000 ≤ e) (e2 : e ≤ 5000) (hn2 : (n : Int) ≤ 128) (hs : max ((n : Int) - 53) (-1074 - e) = s) (s2 : s ≤ 6000)
    (hlen : ∀ w, Calls Try.prog 125 #[.agg #[.bool false, .int .u64 hi, .int .u64 lo, .int .i64 e, .bool more]] w fun e w' => e = .returned (.int .i64 (n : Nat)) ∧ Below w.heap.size w w')
    (q1 : 0 ≤ q) (q2 : q ≤ 9007199254740992)
    (s1 : 0 < s) (hsh : ∀ w, Calls Try.prog 126 #[.agg #[.bool false, .int .u64 hi, .int .u64 lo, .int .i64 e, .bool more], .int .i64 s] w fun e w' => e = .returned (.tuple #[.int .u64 q, .int .i64 lost]) ∧ Below w.heap.size w w')
    (hmade : ∀ w, Calls Try.prog 127 #[.agg #[.bool false, .int .u64 hi, .int .u64 lo, .int .i64 e, .bool more], .int .u64 q, .int .i64 (e + s), .int .i64 d] w fun e w' => e = .returned (.float .f64 x) ∧ Below w.heap.size w w') :
    Calls Try.prog 99 #[.agg #[.bool false, .int .u64 hi, .int .u64 lo, .int .i64 e, .bool more], .int .i64 d] w fun e w' => e = .returned (.float .f64 x) ∧ Below w.heap.size w w' := by
  have Hlen := Lib.hid hlen
  have Hsh := Lib.hid hsh
  have Hmade := Lib.hid hmade
  clear hlen hmade
  clear hsh
  go_enter Try.func99, Try.ntmps99
  go_wp2_with fail
  refine wp_region_grow (by kernel_rfl) (by kernel_rfl) ?_
  intro X _ N hN hup
  have c0 := grow_cell hN (p := ⟨w.heap.size, 0, none⟩) (v := .bool false) (by go_simp)
  have c1 := grow_cell hN (p := ⟨w.heap.size, 1, none⟩) (v := .int .u64 hi) (by go_simp)
  have c2 := grow_cell hN (p := ⟨w.heap.size, 2, none⟩) (v := .int .u64 lo) (by go_simp)
  have c3 := grow_cell hN (p := ⟨w.heap.size, 3, none⟩) (v := .int .i64 e) (by go_simp)
  have c4 := grow_cell hN (p := ⟨w.heap.size, 4, none⟩) (v := .bool more) (by go_simp)
  have hb : ∀ x, Below w.heap.size w (N x) := fun x => Below.trans (by repeat (first | (with_reducible assumption) | (with_reducible exact Below.refl _ _) | ((with_reducible refine Below.alloc ?_ ?_ _); rotate_left; exact (by first | omega | (simp; done) | (simp; omega))) | ((with_reducible refine Below.setCell ?_ ?_ _); rotate_left; exact (by first | omega | (simp; done) | (simp; omega))) | (with_reducible refine Below.drew ?_))) ((hN x).mono (by first | omega | (simp; done) | (simp; omega)))
  have hz : ∀ x, w.heap.size < (N x).heap.size := fun x => by have := (hN x).size; simp at this; omega
  repeat (go_big_quiet_step ((go_at_call 125; exact grow_of (hup _) (Hlen.out _))))
  refine wpQuiet_nil ?_
  rintro _ ⟨y, rfl⟩
  have hby := hb y
  have hzy := hz y
  go_wp2_with fail
  refine Calls.mono (Hsh.out _) ?_
  rintro e' w1 ⟨rfl, hb1⟩
  have k0 := below_cell hb1 (c0 y)
  have k1 := below_cell hb1 (c1 y)
  have k2 := below_cell hb1 (c2 y)
  have k3 := below_cell hb1 (c3 y)
  have k4 := below_cell hb1 (c4 y)
  have hw1 : Below w.heap.size w w1 := Below.trans hby (hb1.mono (by first | omega | (simp; done) | (simp; omega)))
  clear Hsh hb hz c0 c1 c2 c3 c4 hN hup Hlen
  go_wp2_with fail
  refine Calls.mono (Hmade.out _) ?_
  rintro e' w2 ⟨rfl, hb2⟩
  have hs1 := hb1.size
  have hw2 : Below w.heap.size w w2 := Below.trans hw1 (hb2.mono (by first | omega | (simp; done) | (simp; omega)))
  clear Hmade
  go_wp2
  go_ret
  exact ⟨rfl, hw2⟩

theorem round_A_false_lo_more (more : Bool) (hi lo : Nat) (e d s lost q : Int) (x n : Nat) (w : World) 
    (hz1 : ((hi : Int) == 0) = true) (hz2 : ((lo : Int) == 0) = false)  (e1 : -5000 ≤ e) (e2 : e ≤ 5000) (hn2 : (n : Int) ≤ 128) (hs : max ((n : Int) - 53) (-1074 - e) = s) (s2 : s ≤ 6000)
    (hlen : ∀ w, Calls Try.prog 125 #[.agg #[.bool false, .int .u64 hi, .int .u64 lo, .int .i64 e, .bool more]] w fun e w' => e = .returned (.int .i64 (n : Nat)) ∧ Below w.heap.size w w')
    (q1 : 0 ≤ q) (q2 : q ≤ 9007199254740992)
    (s1 : 0 < s) (hsh : ∀ w, Calls Try.prog 126 #[.agg #[.bool false, .int .u64 hi, .int .u64 lo, .int .i64 e, .bool more], .int .i64 s] w fun e w' => e = .returned (.tuple #[.int .u64 q, .int .i64 3]) ∧ Below w.heap.size w w')
    (hmade : ∀ w, Calls Try.prog 127 #[.agg #[.bool false, .int .u64 hi, .int .u64 lo, .int .i64 e, .bool more], .int .u64 (q + 1), .int .i64 (e + s), .int .i64 0] w fun e w' => e = .returned (.float .f64 x) ∧ Below w.heap.size w w') :
    Calls Try.prog 99 #[.agg #[.bool false, .int .u64 hi, .int .u64 lo, .int .i64 e, .bool more], .int .i64 0] w fun e w' => e = .returned (.float .f64 x) ∧ Below w.heap.size w w' := by
  have Hlen := Lib.hid hlen
  have Hsh := Lib.hid hsh
  have Hmade := Lib.hid hmade
  clear hlen hmade
  clear hsh
  go_enter Try.func99, Try.ntmps99
  go_wp2_with fail
  refine wp_region_grow (by kernel_rfl) (by kernel_rfl) ?_
  intro X _ N hN hup
  have c0 := grow_cell hN (p := ⟨w.heap.size, 0, none⟩) (v := .bool false) (by go_simp)
  have c1 := grow_cell hN (p := ⟨w.heap.size, 1, none⟩) (v := .int .u64 hi) (by go_simp)
  have c2 := grow_cell hN (p := ⟨w.heap.size, 2, none⟩) (v := .int .u64 lo) (by go_simp)
  have c3 := grow_cell hN (p := ⟨w.heap.size, 3, none⟩) (v := .int .i64 e) (by go_simp)
  have c4 := grow_cell hN (p := ⟨w.heap.size, 4, none⟩) (v := .bool more) (by go_simp)
  have hb : ∀ x, Below w.heap.size w (N x) := fun x => Below.trans (by repeat (first | (with_reducible assumption) | (with_reducible exact Below.refl _ _) | ((with_reducible refine Below.alloc ?_ ?_ _); rotate_left; exact (by first | omega | (simp; done) | (simp; omega))) | ((with_reducible refine Below.setCell ?_ ?_ _); rotate_left; exact (by first | omega | (simp; done) | (simp; omega))) | (with_reducible refine Below.drew ?_))) ((hN x).mono (by first | omega | (simp; done) | (simp; omega)))
  have hz : ∀ x, w.heap.size < (N x).heap.size := fun x => by have := (hN x).size; simp at this; omega
  repeat (go_big_quiet_step ((go_at_call 125; exact grow_of (hup _) (Hlen.out _))))
  refine wpQuiet_nil ?_
  rintro _ ⟨y, rfl⟩
  have hby := hb y
  have hzy := hz y
  go_wp2_with fail
  refine Calls.mono (Hsh.out _) ?_
  rintro e' w1 ⟨rfl, hb1⟩
  have k0 := below_cell hb1 (c0 y)
  have k1 := below_cell hb1 (c1 y)
  have k2 := below_cell hb1 (c2 y)
  have k3 := below_cell hb1 (c3 y)
  have k4 := below_cell hb1 (c4 y)
  have hw1 : Below w.heap.size w w1 := Below.trans hby (hb1.mono (by first | omega | (simp; done) | (simp; omega)))
  clear Hsh hb hz c0 c1 c2 c3 c4 hN hup Hlen
  go_wp2_with fail
  refine Calls.mono (Hmade.out _) ?_
  rintro e' w2 ⟨rfl, hb2⟩
  have hs1 := hb1.size
  have hw2 : Below w.heap.size w w2 := Below.trans hw1 (hb2.mono (by first | omega | (simp; done) | (simp; omega)))
  clear Hmade
  go_wp2
  go_ret
  exact ⟨rfl, hw2⟩

theorem round_A_false_lo_odd (more : Bool) (hi lo : Nat) (e d s lost q : Int) (x n : Nat) (w : World) 
    (hz1 : ((hi : Int) == 0) = true) (hz2 : ((lo : Int) == 0) = false)  (g3 : (Go.bits .and .u64 q 1 == 1) = true) (e1 : -5000 ≤ e) (e2 : e ≤ 5000) (hn2 : (n : Int) ≤ 128) (hs : max ((n : Int) - 53) (-1074 - e) = s) (s2 : s ≤ 6000)
    (hlen : ∀ w, Calls Try.prog 125 #[.agg #[.bool false, .int .u64 hi, .int .u64 lo, .int .i64 e, .bool more]] w fun e w' => e = .returned (.int .i64 (n : Nat)) ∧ Below w.heap.size w w')
    (q1 : 0 ≤ q) (q2 : q ≤ 9007199254740992)
    (s1 : 0 < s) (hsh : ∀ w, Calls Try.prog 126 #[.agg #[.bool false, .int .u64 hi, .int .u64 lo, .int .i64 e, .bool more], .int .i64 s] w fun e w' => e = .returned (.tuple #[.int .u64 q, .int .i64 2]) ∧ Below w.heap.size w w')
    (hmade : ∀ w, Calls Try.prog 127 #[.agg #[.bool false, .int .u64 hi, .int .u64 lo, .int .i64 e, .bool more], .int .u64 (q + 1), .int .i64 (e + s), .int .i64 0] w fun e w' => e = .returned (.float .f64 x) ∧ Below w.heap.size w w') :
    Calls Try.prog 99 #[.agg #[.bool false, .int .u64 hi, .int .u64 lo, .int .i64 e, .bool more], .int .i64 0] w fun e w' => e = .returned (.float .f64 x) ∧ Below w.heap.size w w' := by
  have Hlen := Lib.hid hlen
  have Hsh := Lib.hid hsh
  have Hmade := Lib.hid hmade
  clear hlen hmade
  clear hsh
  go_enter Try.func99, Try.ntmps99
  go_wp2_with fail
  refine wp_region_grow (by kernel_rfl) (by kernel_rfl) ?_
  intro X _ N hN hup
  have c0 := grow_cell hN (p := ⟨w.heap.size, 0, none⟩) (v := .bool false) (by go_simp)
  have c1 := grow_cell hN (p := ⟨w.heap.size, 1, none⟩) (v := .int .u64 hi) (by go_simp)
  have c2 := grow_cell hN (p := ⟨w.heap.size, 2, none⟩) (v := .int .u64 lo) (by go_simp)
  have c3 := grow_cell hN (p := ⟨w.heap.size, 3, none⟩) (v := .int .i64 e) (by go_simp)
  have c4 := grow_cell hN (p := ⟨w.heap.size, 4, none⟩) (v := .bool more) (by go_simp)
  have hb : ∀ x, Below w.heap.size w (N x) := fun x => Below.trans (by repeat (first | (with_reducible assumption) | (with_reducible exact Below.refl _ _) | ((with_reducible refine Below.alloc ?_ ?_ _); rotate_left; exact (by first | omega | (simp; done) | (simp; omega))) | ((with_reducible refine Below.setCell ?_ ?_ _); rotate_left; exact (by first | omega | (simp; done) | (simp; omega))) | (with_reducible refine Below.drew ?_))) ((hN x).mono (by first | omega | (simp; done) | (simp; omega)))
  have hz : ∀ x, w.heap.size < (N x).heap.size := fun x => by have := (hN x).size; simp at this; omega
  repeat (go_big_quiet_step ((go_at_call 125; exact grow_of (hup _) (Hlen.out _))))
  refine wpQuiet_nil ?_
  rintro _ ⟨y, rfl⟩
  have hby := hb y
  have hzy := hz y
  go_wp2_with fail
  refine Calls.mono (Hsh.out _) ?_
  rintro e' w1 ⟨rfl, hb1⟩
  have k0 := below_cell hb1 (c0 y)
  have k1 := below_cell hb1 (c1 y)
  have k2 := below_cell hb1 (c2 y)
  have k3 := below_cell hb1 (c3 y)
  have k4 := below_cell hb1 (c4 y)
  have hw1 : Below w.heap.size w w1 := Below.trans hby (hb1.mono (by first | omega | (simp; done) | (simp; omega)))
  clear Hsh hb hz c0 c1 c2 c3 c4 hN hup Hlen
  go_wp2_with fail
  refine Calls.mono (Hmade.out _) ?_
  rintro e' w2 ⟨rfl, hb2⟩
  have hs1 := hb1.size
  have hw2 : Below w.heap.size w w2 := Below.trans hw1 (hb2.mono (by first | omega | (simp; done) | (simp; omega)))
  clear Hmade
  go_wp2
  go_ret
  exact ⟨rfl, hw2⟩

theorem round_A_false_lo_even (more : Bool) (hi lo : Nat) (e d s lost q : Int) (x n : Nat) (w : World) 
    (hz1 : ((hi : Int) == 0) = true) (hz2 : ((lo : Int) == 0) = false)  (g3 : (Go.bits .and .u64 q 1 == 1) = false) (e1 : -5000 ≤ e) (e2 : e ≤ 5000) (hn2 : (n : Int) ≤ 128) (hs : max ((n : Int) - 53) (-1074 - e) = s) (s2 : s ≤ 6000)
    (hlen : ∀ w, Calls Try.prog 125 #[.agg #[.bool false, .int .u64 hi, .int .u64 lo, .int .i64 e, .bool more]] w fun e w' => e = .returned (.int .i64 (n : Nat)) ∧ Below w.heap.size w w')
    (q1 : 0 ≤ q) (q2 : q ≤ 9007199254740992)
    (s1 : 0 < s) (hsh : ∀ w, Calls Try.prog 126 #[.agg #[.bool false, .int .u64 hi, .int .u64 lo, .int .i64 e, .bool more], .int .i64 s] w fun e w' => e = .returned (.tuple #[.int .u64 q, .int .i64 2]) ∧ Below w.heap.size w w')
    (hmade : ∀ w, Calls Try.prog 127 #[.agg #[.bool false, .int .u64 hi, .int .u64 lo, .int .i64 e, .bool more], .int .u64 q, .int .i64 (e + s), .int .i64 0] w fun e w' => e = .returned (.float .f64 x) ∧ Below w.heap.size w w') :
    Calls Try.prog 99 #[.agg #[.bool false, .int .u64 hi, .int .u64 lo, .int .i64 e, .bool more], .int .i64 0] w fun e w' => e = .returned (.float .f64 x) ∧ Below w.heap.size w w' := by
  have Hlen := Lib.hid hlen
  have Hsh := Lib.hid hsh
  have Hmade := Lib.hid hmade
  clear hlen hmade
  clear hsh
  go_enter Try.func99, Try.ntmps99
  go_wp2_with fail
  refine wp_region_grow (by kernel_rfl) (by kernel_rfl) ?_
  intro X _ N hN hup
  have c0 := grow_cell hN (p := ⟨w.heap.size, 0, none⟩) (v := .bool false) (by go_simp)
  have c1 := grow_cell hN (p := ⟨w.heap.size, 1, none⟩) (v := .int .u64 hi) (by go_simp)
  have c2 := grow_cell hN (p := ⟨w.heap.size, 2, none⟩) (v := .int .u64 lo) (by go_simp)
  have c3 := grow_cell hN (p := ⟨w.heap.size, 3, none⟩) (v := .int .i64 e) (by go_simp)
  have c4 := grow_cell hN (p := ⟨w.heap.size, 4, none⟩) (v := .bool more) (by go_simp)
  have hb : ∀ x, Below w.heap.size w (N x) := fun x => Below.trans (by repeat (first | (with_reducible assumption) | (with_reducible exact Below.refl _ _) | ((with_reducible refine Below.alloc ?_ ?_ _); rotate_left; exact (by first | omega | (simp; done) | (simp; omega))) | ((with_reducible refine Below.setCell ?_ ?_ _); rotate_left; exact (by first | omega | (simp; done) | (simp; omega))) | (with_reducible refine Below.drew ?_))) ((hN x).mono (by first | omega | (simp; done) | (simp; omega)))
  have hz : ∀ x, w.heap.size < (N x).heap.size := fun x => by have := (hN x).size; simp at this; omega
  repeat (go_big_quiet_step ((go_at_call 125; exact grow_of (hup _) (Hlen.out _))))
  refine wpQuiet_nil ?_
  rintro _ ⟨y, rfl⟩
  have hby := hb y
  have hzy := hz y
  go_wp2_with fail
  refine Calls.mono (Hsh.out _) ?_
  rintro e' w1 ⟨rfl, hb1⟩
  have k0 := below_cell hb1 (c0 y)
  have k1 := below_cell hb1 (c1 y)
  have k2 := below_cell hb1 (c2 y)
  have k3 := below_cell hb1 (c3 y)
  have k4 := below_cell hb1 (c4 y)
  have hw1 : Below w.heap.size w w1 := Below.trans hby (hb1.mono (by first | omega | (simp; done) | (simp; omega)))
  clear Hsh hb hz c0 c1 c2 c3 c4 hN hup Hlen
  go_wp2_with fail
  refine Calls.mono (Hmade.out _) ?_
  rintro e' w2 ⟨rfl, hb2⟩
  have hs1 := hb1.size
  have hw2 : Below w.heap.size w w2 := Below.trans hw1 (hb2.mono (by first | omega | (simp; done) | (simp; omega)))
  clear Hmade
  go_wp2
  go_ret
  exact ⟨rfl, hw2⟩

theorem round_A_false_lo_less (more : Bool) (hi lo : Nat) (e d s lost q : Int) (x n : Nat) (w : World) 
    (hz1 : ((hi : Int) == 0) = true) (hz2 : ((lo : Int) == 0) = false) (g2 : (lost == 3) = false) (g3 : (lost == 2) = false) (e1 : -5000 ≤ e) (e2 : e ≤ 5000) (hn2 : (n : Int) ≤ 128) (hs : max ((n : Int) - 53) (-1074 - e) = s) (s2 : s ≤ 6000)
    (hlen : ∀ w, Calls Try.prog 125 #[.agg #[.bool false, .int .u64 hi, .int .u64 lo, .int .i64 e, .bool more]] w fun e w' => e = .returned (.int .i64 (n : Nat)) ∧ Below w.heap.size w w')
    (q1 : 0 ≤ q) (q2 : q ≤ 9007199254740992)
    (s1 : 0 < s) (hsh : ∀ w, Calls Try.prog 126 #[.agg #[.bool false, .int .u64 hi, .int .u64 lo, .int .i64 e, .bool more], .int .i64 s] w fun e w' => e = .returned (.tuple #[.int .u64 q, .int .i64 lost]) ∧ Below w.heap.size w w')
    (hmade : ∀ w, Calls Try.prog 127 #[.agg #[.bool false, .int .u64 hi, .int .u64 lo, .int .i64 e, .bool more], .int .u64 q, .int .i64 (e + s), .int .i64 0] w fun e w' => e = .returned (.float .f64 x) ∧ Below w.heap.size w w') :
    Calls Try.prog 99 #[.agg #[.bool false, .int .u64 hi, .int .u64 lo, .int .i64 e, .bool more], .int .i64 0] w fun e w' => e = .returned (.float .f64 x) ∧ Below w.heap.size w w' := by
  have Hlen := Lib.hid hlen
  have Hsh := Lib.hid hsh
  have Hmade := Lib.hid hmade
  clear hlen hmade
  clear hsh
  go_enter Try.func99, Try.ntmps99
  go_wp2_with fail
  refine wp_region_grow (by kernel_rfl) (by kernel_rfl) ?_
  intro X _ N hN hup
  have c0 := grow_cell hN (p := ⟨w.heap.size, 0, none⟩) (v := .bool false) (by go_simp)
  have c1 := grow_cell hN (p := ⟨w.heap.size, 1, none⟩) (v := .int .u64 hi) (by go_simp)
  have c2 := grow_cell hN (p := ⟨w.heap.size, 2, none⟩) (v := .int .u64 lo) (by go_simp)
  have c3 := grow_cell hN (p := ⟨w.heap.size, 3, none⟩) (v := .int .i64 e) (by go_simp)
  have c4 := grow_cell hN (p := ⟨w.heap.size, 4, none⟩) (v := .bool more) (by go_simp)
  have hb : ∀ x, Below w.heap.size w (N x) := fun x => Below.trans (by repeat (first | (with_reducible assumption) | (with_reducible exact Below.refl _ _) | ((with_reducible refine Below.alloc ?_ ?_ _); rotate_left; exact (by first | omega | (simp; done) | (simp; omega))) | ((with_reducible refine Below.setCell ?_ ?_ _); rotate_left; exact (by first | omega | (simp; done) | (simp; omega))) | (with_reducible refine Below.drew ?_))) ((hN x).mono (by first | omega | (simp; done) | (simp; omega)))
  have hz : ∀ x, w.heap.size < (N x).heap.size := fun x => by have := (hN x).size; simp at this; omega
  repeat (go_big_quiet_step ((go_at_call 125; exact grow_of (hup _) (Hlen.out _))))
  refine wpQuiet_nil ?_
  rintro _ ⟨y, rfl⟩
  have hby := hb y
  have hzy := hz y
  go_wp2_with fail
  refine Calls.mono (Hsh.out _) ?_
  rintro e' w1 ⟨rfl, hb1⟩
  have k0 := below_cell hb1 (c0 y)
  have k1 := below_cell hb1 (c1 y)
  have k2 := below_cell hb1 (c2 y)
  have k3 := below_cell hb1 (c3 y)
  have k4 := below_cell hb1 (c4 y)
  have hw1 : Below w.heap.size w w1 := Below.trans hby (hb1.mono (by first | omega | (simp; done) | (simp; omega)))
  clear Hsh hb hz c0 c1 c2 c3 c4 hN hup Hlen
  go_wp2_with fail
  refine Calls.mono (Hmade.out _) ?_
  rintro e' w2 ⟨rfl, hb2⟩
  have hs1 := hb1.size
  have hw2 : Below w.heap.size w w2 := Below.trans hw1 (hb2.mono (by first | omega | (simp; done) | (simp; omega)))
  clear Hmade
  go_wp2
  go_ret
  exact ⟨rfl, hw2⟩

end Go.Proofs.Ytonidoghcihnnaa
