/- The walks of tape's and orreryref05's small functions: how many operations one needs; may an operation be? -/
import Derived.Test.YtonidoghcihnnaaNone
import Derived.Test.YtonidoghcihnnaaPure
import Derived.Lib.Hide
namespace Go.Proofs.Ytonidoghcihnnaa
open Go.RowKit
set_option maxRecDepth 100000
set_option maxHeartbeats 1000000
set_option linter.unusedSimpArgs false
set_option linter.unusedVariables false

theorem run_ival_neq (a b c d : Nat) (w : World) : (binOp .neq 35 (.agg #[.float .f64 a, .float .f64 b]) (.agg #[.float .f64 c, .float .f64 d])).run Try.prog w = .ok (.bool (!(feq a c && feq b d))) w := by
  go_simp
  cases feq a c <;> cases feq b d <;> rfl
attribute [go_sem ↓] run_ival_neq

/-- How many operations one of a kind needs. -/
def needI (k : Int) : Int := if k = 1 ∨ k = 2 then 0 else if 3 ≤ k ∧ k ≤ 6 then 2 else if 7 ≤ k ∧ k ≤ 14 then 1 else -1

theorem needs_any (k : Int) (w : World) : Calls Try.prog 48 #[.int .i64 k] w fun e w' => e = .returned (.int .i64 (needI k)) ∧ w' = w := by
  unfold needI
  by_cases h1 : k = 1
  · subst h1
    go_enter Try.func48, Try.ntmps48
    go_wp2
    go_ret
    exact ⟨rfl, rfl⟩
  by_cases h2 : k = 2
  · subst h2
    go_enter Try.func48, Try.ntmps48
    go_wp2
    go_ret
    exact ⟨rfl, rfl⟩
  rw [if_neg (by omega)]
  have e1 : (k == 1) = false := by simpa using h1
  have e2 : (k == 2) = false := by simpa using h2
  by_cases h3 : 3 ≤ k
  · by_cases h4 : k ≤ 6
    · rw [if_pos ⟨h3, h4⟩]
      go_enter Try.func48, Try.ntmps48
      go_wp2
      go_ret
      exact ⟨rfl, rfl⟩
    rw [if_neg (by omega)]
    by_cases h6 : k ≤ 14
    · rw [if_pos ⟨by omega, h6⟩]
      have h5 : 7 ≤ k := by omega
      go_enter Try.func48, Try.ntmps48
      go_wp2
      go_ret
      exact ⟨rfl, rfl⟩
    · rw [if_neg (by omega)]
      have h5 : 7 ≤ k := by omega
      go_enter Try.func48, Try.ntmps48
      go_wp2
      go_ret
      exact ⟨rfl, rfl⟩
  · rw [if_neg (by omega), if_neg (by omega)]
    have h5 : ¬ 7 ≤ k := by omega
    go_enter Try.func48, Try.ntmps48
    go_wp2
    go_ret
    exact ⟨rfl, rfl⟩

theorem args_any (k : Int) (w : World) : Calls Try.prog 46 #[.int .i64 k] w fun e w' => e = .returned (.int .i64 (needI k)) ∧ w' = w := by
  unfold needI
  by_cases h1 : k = 1
  · subst h1
    go_enter Try.func46, Try.ntmps46
    go_wp2
    go_ret
    exact ⟨rfl, rfl⟩
  by_cases h2 : k = 2
  · subst h2
    go_enter Try.func46, Try.ntmps46
    go_wp2
    go_ret
    exact ⟨rfl, rfl⟩
  rw [if_neg (by omega)]
  have e1 : (k == 1) = false := by simpa using h1
  have e2 : (k == 2) = false := by simpa using h2
  by_cases h3 : 3 ≤ k
  · by_cases h4 : k ≤ 6
    · rw [if_pos ⟨h3, h4⟩]
      go_enter Try.func46, Try.ntmps46
      go_wp2
      go_ret
      exact ⟨rfl, rfl⟩
    rw [if_neg (by omega)]
    by_cases h6 : k ≤ 14
    · rw [if_pos ⟨by omega, h6⟩]
      have h5 : 7 ≤ k := by omega
      go_enter Try.func46, Try.ntmps46
      go_wp2
      go_ret
      exact ⟨rfl, rfl⟩
    · rw [if_neg (by omega)]
      have h5 : 7 ≤ k := by omega
      go_enter Try.func46, Try.ntmps46
      go_wp2
      go_ret
      exact ⟨rfl, rfl⟩
  · rw [if_neg (by omega), if_neg (by omega)]
    have h5 : ¬ 7 ≤ k := by omega
    go_enter Try.func46, Try.ntmps46
    go_wp2
    go_ret
    exact ⟨rfl, rfl⟩

/-- May an operation be, as the i-th, of a tape of so many variables? -/
def okOp (k A B N : Int) (lo hi : Nat) (i vars : Int) : Bool :=
  if k = 1 then !noneB lo hi
  else if k = 2 then decide (0 ≤ N) && decide (N < vars)
  else if 3 ≤ k ∧ k ≤ 6 then decide (0 ≤ A) && decide (A < i) && decide (0 ≤ B) && decide (B < i)
  else if k = 8 then decide (0 ≤ A) && decide (A < i) && decide (-64 ≤ N) && decide (N ≤ 64)
  else if 7 ≤ k ∧ k ≤ 14 then decide (0 ≤ A) && decide (A < i)
  else false

def OPV (k A B N : Int) (lo hi : Nat) : Value := .agg #[.int .i64 k, .int .i64 A, .int .i64 B, .int .i64 N, .float .f64 lo, .float .f64 hi]

theorem right_two (k A B N i vars : Int) (lo hi : Nat) (w : World) (r : Bool) (hn : needI k = 2) (e1 : (k == 1) = false) (e2 : (k == 2) = false) (e8 : (k == 8) = false)
    (hr : (decide (0 ≤ A) && decide (A < i) && decide (0 ≤ B) && decide (B < i)) = r) :
    Calls Try.prog 43 #[OPV k A B N lo hi, .int .i64 i, .int .i64 vars] w fun e w' => e = .returned (.bool r) ∧ Below w.heap.size w w' := by
  have H := Lib.hid hn
  clear hn
  have Hr := Lib.hid hr
  clear hr
  unfold OPV
  by_cases hA : 0 ≤ A
  · by_cases hA2 : A < i
    · by_cases hB : 0 ≤ B
      · by_cases hB2 : B < i
        · go_enter Try.func43, Try.ntmps43
          go_wp2_with (go_at_call 48; refine (needs_any _ _).mono ?_; rintro e w1 ⟨rfl, hw⟩; subst hw; rw [H.out])
          go_ret
          exact ⟨by rw [← Hr.out]; first | (simp [*]; done) | (simp; omega), (by repeat (first | exact Below.refl _ _ | assumption | refine Below.alloc ?_ (by first | omega | (simp; done) | (simp; omega)) _ | refine Below.setCell ?_ (by first | omega | (simp; done) | (simp; omega)) _ | refine Below.drew ?_))⟩
        · go_enter Try.func43, Try.ntmps43
          go_wp2_with (go_at_call 48; refine (needs_any _ _).mono ?_; rintro e w1 ⟨rfl, hw⟩; subst hw; rw [H.out])
          go_ret
          exact ⟨by rw [← Hr.out]; first | (simp [*]; done) | (simp; omega), (by repeat (first | exact Below.refl _ _ | assumption | refine Below.alloc ?_ (by first | omega | (simp; done) | (simp; omega)) _ | refine Below.setCell ?_ (by first | omega | (simp; done) | (simp; omega)) _ | refine Below.drew ?_))⟩
      · go_enter Try.func43, Try.ntmps43
        go_wp2_with (go_at_call 48; refine (needs_any _ _).mono ?_; rintro e w1 ⟨rfl, hw⟩; subst hw; rw [H.out])
        go_ret
        exact ⟨by rw [← Hr.out]; first | (simp [*]; done) | (simp; omega), (by repeat (first | exact Below.refl _ _ | assumption | refine Below.alloc ?_ (by first | omega | (simp; done) | (simp; omega)) _ | refine Below.setCell ?_ (by first | omega | (simp; done) | (simp; omega)) _ | refine Below.drew ?_))⟩
    · go_enter Try.func43, Try.ntmps43
      go_wp2_with (go_at_call 48; refine (needs_any _ _).mono ?_; rintro e w1 ⟨rfl, hw⟩; subst hw; rw [H.out])
      go_ret
      exact ⟨by rw [← Hr.out]; first | (simp [*]; done) | (simp; omega), (by repeat (first | exact Below.refl _ _ | assumption | refine Below.alloc ?_ (by first | omega | (simp; done) | (simp; omega)) _ | refine Below.setCell ?_ (by first | omega | (simp; done) | (simp; omega)) _ | refine Below.drew ?_))⟩
  · go_enter Try.func43, Try.ntmps43
    go_wp2_with (go_at_call 48; refine (needs_any _ _).mono ?_; rintro e w1 ⟨rfl, hw⟩; subst hw; rw [H.out])
    go_ret
    exact ⟨by rw [← Hr.out]; first | (simp [*]; done) | (simp; omega), (by repeat (first | exact Below.refl _ _ | assumption | refine Below.alloc ?_ (by first | omega | (simp; done) | (simp; omega)) _ | refine Below.setCell ?_ (by first | omega | (simp; done) | (simp; omega)) _ | refine Below.drew ?_))⟩
theorem right_one (k A B N i vars : Int) (lo hi : Nat) (w : World) (r : Bool) (hn : needI k = 1) (e1 : (k == 1) = false) (e2 : (k == 2) = false) (e8 : (k == 8) = false)
    (hr : (decide (0 ≤ A) && decide (A < i)) = r) :
    Calls Try.prog 43 #[OPV k A B N lo hi, .int .i64 i, .int .i64 vars] w fun e w' => e = .returned (.bool r) ∧ Below w.heap.size w w' := by
  have H := Lib.hid hn
  clear hn
  have Hr := Lib.hid hr
  clear hr
  unfold OPV
  by_cases hA : 0 ≤ A
  · by_cases hA2 : A < i
    · go_enter Try.func43, Try.ntmps43
      go_wp2_with (go_at_call 48; refine (needs_any _ _).mono ?_; rintro e w1 ⟨rfl, hw⟩; subst hw; rw [H.out])
      go_ret
      exact ⟨by rw [← Hr.out]; first | (simp [*]; done) | (simp; omega), (by repeat (first | exact Below.refl _ _ | assumption | refine Below.alloc ?_ (by first | omega | (simp; done) | (simp; omega)) _ | refine Below.setCell ?_ (by first | omega | (simp; done) | (simp; omega)) _ | refine Below.drew ?_))⟩
    · go_enter Try.func43, Try.ntmps43
      go_wp2_with (go_at_call 48; refine (needs_any _ _).mono ?_; rintro e w1 ⟨rfl, hw⟩; subst hw; rw [H.out])
      go_ret
      exact ⟨by rw [← Hr.out]; first | (simp [*]; done) | (simp; omega), (by repeat (first | exact Below.refl _ _ | assumption | refine Below.alloc ?_ (by first | omega | (simp; done) | (simp; omega)) _ | refine Below.setCell ?_ (by first | omega | (simp; done) | (simp; omega)) _ | refine Below.drew ?_))⟩
  · go_enter Try.func43, Try.ntmps43
    go_wp2_with (go_at_call 48; refine (needs_any _ _).mono ?_; rintro e w1 ⟨rfl, hw⟩; subst hw; rw [H.out])
    go_ret
    exact ⟨by rw [← Hr.out]; first | (simp [*]; done) | (simp; omega), (by repeat (first | exact Below.refl _ _ | assumption | refine Below.alloc ?_ (by first | omega | (simp; done) | (simp; omega)) _ | refine Below.setCell ?_ (by first | omega | (simp; done) | (simp; omega)) _ | refine Below.drew ?_))⟩
theorem right_pow (k A B N i vars : Int) (lo hi : Nat) (w : World) (r : Bool) (hn : needI k = 1) (e1 : (k == 1) = false) (e2 : (k == 2) = false) (e8 : (k == 8) = true)
    (hr : (decide (0 ≤ A) && decide (A < i) && decide (-64 ≤ N) && decide (N ≤ 64)) = r) :
    Calls Try.prog 43 #[OPV k A B N lo hi, .int .i64 i, .int .i64 vars] w fun e w' => e = .returned (.bool r) ∧ Below w.heap.size w w' := by
  have H := Lib.hid hn
  clear hn
  have Hr := Lib.hid hr
  clear hr
  unfold OPV
  by_cases hA : 0 ≤ A
  · by_cases hA2 : A < i
    · by_cases hN : -64 ≤ N
      · by_cases hN2 : N ≤ 64
        · go_enter Try.func43, Try.ntmps43
          go_wp2_with (go_at_call 48; refine (needs_any _ _).mono ?_; rintro e w1 ⟨rfl, hw⟩; subst hw; rw [H.out])
          go_ret
          exact ⟨by rw [← Hr.out]; first | (simp [*]; done) | (simp; omega), (by repeat (first | exact Below.refl _ _ | assumption | refine Below.alloc ?_ (by first | omega | (simp; done) | (simp; omega)) _ | refine Below.setCell ?_ (by first | omega | (simp; done) | (simp; omega)) _ | refine Below.drew ?_))⟩
        · go_enter Try.func43, Try.ntmps43
          go_wp2_with (go_at_call 48; refine (needs_any _ _).mono ?_; rintro e w1 ⟨rfl, hw⟩; subst hw; rw [H.out])
          go_ret
          exact ⟨by rw [← Hr.out]; first | (simp [*]; done) | (simp; omega), (by repeat (first | exact Below.refl _ _ | assumption | refine Below.alloc ?_ (by first | omega | (simp; done) | (simp; omega)) _ | refine Below.setCell ?_ (by first | omega | (simp; done) | (simp; omega)) _ | refine Below.drew ?_))⟩
      · go_enter Try.func43, Try.ntmps43
        go_wp2_with (go_at_call 48; refine (needs_any _ _).mono ?_; rintro e w1 ⟨rfl, hw⟩; subst hw; rw [H.out])
        go_ret
        exact ⟨by rw [← Hr.out]; first | (simp [*]; done) | (simp; omega), (by repeat (first | exact Below.refl _ _ | assumption | refine Below.alloc ?_ (by first | omega | (simp; done) | (simp; omega)) _ | refine Below.setCell ?_ (by first | omega | (simp; done) | (simp; omega)) _ | refine Below.drew ?_))⟩
    · go_enter Try.func43, Try.ntmps43
      go_wp2_with (go_at_call 48; refine (needs_any _ _).mono ?_; rintro e w1 ⟨rfl, hw⟩; subst hw; rw [H.out])
      go_ret
      exact ⟨by rw [← Hr.out]; first | (simp [*]; done) | (simp; omega), (by repeat (first | exact Below.refl _ _ | assumption | refine Below.alloc ?_ (by first | omega | (simp; done) | (simp; omega)) _ | refine Below.setCell ?_ (by first | omega | (simp; done) | (simp; omega)) _ | refine Below.drew ?_))⟩
  · go_enter Try.func43, Try.ntmps43
    go_wp2_with (go_at_call 48; refine (needs_any _ _).mono ?_; rintro e w1 ⟨rfl, hw⟩; subst hw; rw [H.out])
    go_ret
    exact ⟨by rw [← Hr.out]; first | (simp [*]; done) | (simp; omega), (by repeat (first | exact Below.refl _ _ | assumption | refine Below.alloc ?_ (by first | omega | (simp; done) | (simp; omega)) _ | refine Below.setCell ?_ (by first | omega | (simp; done) | (simp; omega)) _ | refine Below.drew ?_))⟩
theorem right_var (k A B N i vars : Int) (lo hi : Nat) (w : World) (r : Bool) (hn : needI k = 0) (e1 : (k == 1) = false) (e2 : (k == 2) = true)
    (hr : (decide (0 ≤ N) && decide (N < vars)) = r) :
    Calls Try.prog 43 #[OPV k A B N lo hi, .int .i64 i, .int .i64 vars] w fun e w' => e = .returned (.bool r) ∧ Below w.heap.size w w' := by
  have H := Lib.hid hn
  clear hn
  have Hr := Lib.hid hr
  clear hr
  unfold OPV
  by_cases hN : 0 ≤ N
  · by_cases hN2 : N < vars
    · go_enter Try.func43, Try.ntmps43
      go_wp2_with (go_at_call 48; refine (needs_any _ _).mono ?_; rintro e w1 ⟨rfl, hw⟩; subst hw; rw [H.out])
      go_ret
      exact ⟨by rw [← Hr.out]; first | (simp [*]; done) | (simp; omega), (by repeat (first | exact Below.refl _ _ | assumption | refine Below.alloc ?_ (by first | omega | (simp; done) | (simp; omega)) _ | refine Below.setCell ?_ (by first | omega | (simp; done) | (simp; omega)) _ | refine Below.drew ?_))⟩
    · go_enter Try.func43, Try.ntmps43
      go_wp2_with (go_at_call 48; refine (needs_any _ _).mono ?_; rintro e w1 ⟨rfl, hw⟩; subst hw; rw [H.out])
      go_ret
      exact ⟨by rw [← Hr.out]; first | (simp [*]; done) | (simp; omega), (by repeat (first | exact Below.refl _ _ | assumption | refine Below.alloc ?_ (by first | omega | (simp; done) | (simp; omega)) _ | refine Below.setCell ?_ (by first | omega | (simp; done) | (simp; omega)) _ | refine Below.drew ?_))⟩
  · go_enter Try.func43, Try.ntmps43
    go_wp2_with (go_at_call 48; refine (needs_any _ _).mono ?_; rintro e w1 ⟨rfl, hw⟩; subst hw; rw [H.out])
    go_ret
    exact ⟨by rw [← Hr.out]; first | (simp [*]; done) | (simp; omega), (by repeat (first | exact Below.refl _ _ | assumption | refine Below.alloc ?_ (by first | omega | (simp; done) | (simp; omega)) _ | refine Below.setCell ?_ (by first | omega | (simp; done) | (simp; omega)) _ | refine Below.drew ?_))⟩
theorem right_no (k A B N i vars : Int) (lo hi : Nat) (w : World) (r : Bool) (hn : needI k = (-1)) (e1 : (k == 1) = false) (e2 : (k == 2) = false) (e8 : (k == 8) = false)
    (hr : false = r) :
    Calls Try.prog 43 #[OPV k A B N lo hi, .int .i64 i, .int .i64 vars] w fun e w' => e = .returned (.bool r) ∧ Below w.heap.size w w' := by
  have H := Lib.hid hn
  clear hn
  have Hr := Lib.hid hr
  clear hr
  unfold OPV
  go_enter Try.func43, Try.ntmps43
  go_wp2_with (go_at_call 48; refine (needs_any _ _).mono ?_; rintro e w1 ⟨rfl, hw⟩; subst hw; rw [H.out])
  go_ret
  exact ⟨by rw [← Hr.out]; first | (simp [*]; done) | (simp; omega), (by repeat (first | exact Below.refl _ _ | assumption | refine Below.alloc ?_ (by first | omega | (simp; done) | (simp; omega)) _ | refine Below.setCell ?_ (by first | omega | (simp; done) | (simp; omega)) _ | refine Below.drew ?_))⟩

theorem right_const (k A B N i vars : Int) (lo hi : Nat) (w : World) (r : Bool) (hn : needI k = 0) (e1 : (k == 1) = true) (hr : (!noneB lo hi) = r) :
    Calls Try.prog 43 #[OPV k A B N lo hi, .int .i64 i, .int .i64 vars] w fun e w' => e = .returned (.bool r) ∧ Below w.heap.size w w' := by
  have H := Lib.hid hn
  clear hn
  obtain ⟨p, hp⟩ : ∃ p, rightB lo hi = p := ⟨_, rfl⟩
  obtain ⟨q, hq⟩ : ∃ q, (feq lo 9218868437227405312 && feq hi 18442240474082181120) = q := ⟨_, rfl⟩
  have Hr : (p && !q) = r := by rw [← hr]; unfold noneB; rw [hp, hq]; cases p <;> cases q <;> rfl
  have Hr2 := Lib.hid Hr
  clear Hr
  clear hr
  unfold OPV
  go_enter Try.func43, Try.ntmps43
  go_wp2_with (go_at_call 48; refine (needs_any _ _).mono ?_; rintro e w1 ⟨rfl, hw⟩; subst hw; rw [H.out])
  refine wp_region_grow (by kernel_rfl) (by kernel_rfl) ?_
  intro X _ N hN hup
  have d4 := grow_cell hN (p := ⟨w.heap.size, 4, none⟩) (v := .float .f64 lo) (by simp)
  have d5 := grow_cell hN (p := ⟨w.heap.size, 5, none⟩) (v := .float .f64 hi) (by simp)
  have hb : ∀ x, Below w.heap.size w (N x) := fun x => Below.trans (by repeat (first | exact Below.refl _ _ | assumption | refine Below.alloc ?_ (by first | omega | (simp; done) | (simp; omega)) _ | refine Below.setCell ?_ (by first | omega | (simp; done) | (simp; omega)) _ | refine Below.drew ?_)) ((hN x).mono (by simp))
  clear hN
  have R0 : ∀ w, Calls Try.prog 83 #[(.agg #[.float .f64 lo, .float .f64 hi])] w fun e w' => e = .returned (.bool p) ∧ Below w.heap.size w w' := fun w => hp ▸ right_any lo hi w
  have R0' := Lib.hid R0
  clear R0 hp
  have hq' := Lib.hid hq
  clear hq
  cases p with
  | false =>
    have hq := hq'.out
    repeat (go_big_quiet_step ((first | (go_at_call 83; exact grow_of (hup _) (R0'.out _)) | (go_at_call 64; exact grow_of (hup _) (empty_any _)))))
    refine wpQuiet_nil ?_
    rintro _ ⟨x, rfl⟩
    go_wp2
    go_ret
    exact ⟨by rw [← Hr2.out]; rfl, hb x⟩
  | true =>
    cases q with
    | true =>
      have hq := hq'.out
      repeat (go_big_quiet_step ((first | (go_at_call 83; exact grow_of (hup _) (R0'.out _)) | (go_at_call 64; exact grow_of (hup _) (empty_any _)))))
      refine wpQuiet_nil ?_
      rintro _ ⟨x, rfl⟩
      go_wp2
      go_ret
      exact ⟨by rw [← Hr2.out]; rfl, hb x⟩
    | false =>
      have hq := hq'.out
      repeat (go_big_quiet_step ((first | (go_at_call 83; exact grow_of (hup _) (R0'.out _)) | (go_at_call 64; exact grow_of (hup _) (empty_any _)))))
      refine wpQuiet_nil ?_
      rintro _ ⟨x, rfl⟩
      go_wp2
      go_ret
      exact ⟨by rw [← Hr2.out]; rfl, hb x⟩

theorem opright_any (k A B N i vars : Int) (lo hi : Nat) (w : World) :
    Calls Try.prog 43 #[OPV k A B N lo hi, .int .i64 i, .int .i64 vars] w fun e w' => e = .returned (.bool (okOp k A B N lo hi i vars)) ∧ Below w.heap.size w w' := by
  unfold okOp
  by_cases h1 : k = 1
  · rw [if_pos h1]
    exact right_const k A B N i vars lo hi w _ (by unfold needI; rw [if_pos (Or.inl h1)]) (by simpa using h1) rfl
  rw [if_neg h1]
  by_cases h2 : k = 2
  · rw [if_pos h2]
    exact right_var k A B N i vars lo hi w _ (by unfold needI; rw [if_pos (Or.inr h2)]) (by simpa using h1) (by simpa using h2) rfl
  rw [if_neg h2]
  have e1 : (k == 1) = false := by simpa using h1
  have e2 : (k == 2) = false := by simpa using h2
  have n0 : ¬ (k = 1 ∨ k = 2) := by omega
  by_cases h3 : 3 ≤ k ∧ k ≤ 6
  · rw [if_pos h3]
    exact right_two k A B N i vars lo hi w _ (by unfold needI; rw [if_neg n0, if_pos h3]) e1 e2 (by simp; omega) rfl
  rw [if_neg h3]
  by_cases h8 : k = 8
  · rw [if_pos h8]
    exact right_pow k A B N i vars lo hi w _ (by unfold needI; rw [if_neg n0, if_neg h3, if_pos (by omega)]) e1 e2 (by simpa using h8) rfl
  rw [if_neg h8]
  have e8 : (k == 8) = false := by simpa using h8
  by_cases h7 : 7 ≤ k ∧ k ≤ 14
  · rw [if_pos h7]
    exact right_one k A B N i vars lo hi w _ (by unfold needI; rw [if_neg n0, if_neg h3, if_pos h7]) e1 e2 e8 rfl
  rw [if_neg h7]
  exact right_no k A B N i vars lo hi w _ (by unfold needI; rw [if_neg n0, if_neg h3, if_neg h7]) e1 e2 e8 rfl

end Go.Proofs.Ytonidoghcihnnaa
