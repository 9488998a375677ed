/- The walk of ulp.Div. -/
import Derived.Test.YtonidoghcihnnaaDivW
import Derived.Test.YtonidoghcihnnaaDivV
import Derived.Test.YtonidoghcihnnaaMul
namespace Go.Proofs.Ytonidoghcihnnaa
open Go.RowKit
set_option maxRecDepth 100000
set_option maxHeartbeats 1000000
set_option linter.unusedSimpArgs false
set_option linter.unusedVariables false

/-- The quotient of two places, rounded (the second one not 0, not both infinite). -/
noncomputable def divI (i j dir : Int) : Int := if i.natAbs < INF then (if j.natAbs < INF then rnd (fq i / fq j) dir else 0) else if (i < 0) ↔ (j < 0) then (INF : Int) else -(INF : Int)
theorem divI_abs (i j dir : Int) : (divI i j dir).natAbs ≤ INF := by
  have hI := INF_eq
  unfold divI
  split
  · split
    · exact rnd_abs _ _
    · omega
  · split <;> omega

theorem div_zero (a b Mb : Nat) (Ea Eb dir : Int) (na nb : Bool) (w : World)
    (hb : ∀ w, Calls Try.prog 97 #[.float .f64 a, .float .f64 b] w fun e w' => e = .returned (.tuple #[.agg #[.bool na, .int .u64 0, .int .i64 Ea], .agg #[.bool nb, .int .u64 (Mb : Int), .int .i64 Eb], .bool true]) ∧ Below w.heap.size w w')
    (z2 : feq b 0 = false) :
    Calls Try.prog 71 #[.float .f64 a, .float .f64 b, .int .i64 dir] w fun e w' => e = .returned (.float .f64 0) ∧ Below w.heap.size w w' := by
  have Hb := Lib.hid hb
  clear hb
  go_enter Try.func71, Try.ntmps71
  go_wp2_with fail
  refine Calls.mono (Hb.out _) ?_
  rintro e w1 ⟨rfl, hb1⟩
  have hw1 : Below w.heap.size w w1 := Below.trans (by repeat (first | (with_reducible assumption) | (with_reducible exact Below.refl _ _) | ((with_reducible refine Below.alloc ?_ ?_ _); rotate_left; exact (by first | omega | (simp; done) | (simp; omega))) | ((with_reducible refine Below.setCell ?_ ?_ _); rotate_left; exact (by first | omega | (simp; done) | (simp; omega))) | (with_reducible refine Below.drew ?_))) (hb1.mono (by first | omega | (simp; done) | (simp; omega)))
  have hs1 := hb1.size
  try simp at hs1
  clear hb1
  go_wp2
  go_ret
  exact ⟨rfl, (by repeat (first | (with_reducible assumption) | (with_reducible exact Below.refl _ _) | ((with_reducible refine Below.alloc ?_ ?_ _); rotate_left; exact (by first | omega | (simp; done) | (simp; omega))) | ((with_reducible refine Below.setCell ?_ ?_ _); rotate_left; exact (by first | omega | (simp; done) | (simp; omega))) | (with_reducible refine Below.drew ?_)))⟩

theorem div_out (a b Ma Mb : Nat) (Ea Eb dir : Int) (na nb : Bool) (r : Nat) (w : World)
    (hb : ∀ w, Calls Try.prog 97 #[.float .f64 a, .float .f64 b] w fun e w' => e = .returned (.tuple #[.agg #[.bool na, .int .u64 (Ma : Int), .int .i64 Ea], .agg #[.bool nb, .int .u64 (Mb : Int), .int .i64 Eb], .bool false]) ∧ Below w.heap.size w w')
    (z2 : feq b 0 = false) (hr : ∀ w, (binOp .quo 33 (.float .f64 a) (.float .f64 b)).run Try.prog w = .ok (.float .f64 r) w) :
    Calls Try.prog 71 #[.float .f64 a, .float .f64 b, .int .i64 dir] w fun e w' => e = .returned (.float .f64 (cleanW r)) ∧ Below w.heap.size w w' := by
  have Hb := Lib.hid hb
  clear hb
  go_enter Try.func71, Try.ntmps71
  go_wp2_with fail
  refine Calls.mono (Hb.out _) ?_
  rintro e w1 ⟨rfl, hb1⟩
  have hw1 : Below w.heap.size w w1 := Below.trans (by repeat (first | (with_reducible assumption) | (with_reducible exact Below.refl _ _) | ((with_reducible refine Below.alloc ?_ ?_ _); rotate_left; exact (by first | omega | (simp; done) | (simp; omega))) | ((with_reducible refine Below.setCell ?_ ?_ _); rotate_left; exact (by first | omega | (simp; done) | (simp; omega))) | (with_reducible refine Below.drew ?_))) (hb1.mono (by first | omega | (simp; done) | (simp; omega)))
  have hs1 := hb1.size
  try simp at hs1
  clear hb1
  go_wp2_with (go_at_call 101; refine (clean_any _ _).mono ?_; rintro e wz ⟨rfl, hwz⟩; subst hwz)
  go_ret
  exact ⟨rfl, (by repeat (first | (with_reducible assumption) | (with_reducible exact Below.refl _ _) | ((with_reducible refine Below.alloc ?_ ?_ _); rotate_left; exact (by first | omega | (simp; done) | (simp; omega))) | ((with_reducible refine Below.setCell ?_ ?_ _); rotate_left; exact (by first | omega | (simp; done) | (simp; omega))) | (with_reducible refine Below.drew ?_)))⟩

theorem div_none (a b Ma Mb : Nat) (Ea Eb dir : Int) (na nb : Bool) (R : World → Nat) (w : World)
    (hb : ∀ w, Calls Try.prog 97 #[.float .f64 a, .float .f64 b] w fun e w' => e = .returned (.tuple #[.agg #[.bool na, .int .u64 (Ma : Int), .int .i64 Ea], .agg #[.bool nb, .int .u64 (Mb : Int), .int .i64 Eb], .bool false]) ∧ Below w.heap.size w w')
    (z2 : feq b 0 = false) (hr : ∀ w, (binOp .quo 33 (.float .f64 a) (.float .f64 b)).run Try.prog w = .ok (.float .f64 (R w)) w.drew) :
    Calls Try.prog 71 #[.float .f64 a, .float .f64 b, .int .i64 dir] w fun e w' => (∃ w0, e = .returned (.float .f64 (cleanW (R w0)))) ∧ Below w.heap.size w w' := by
  have Hb := Lib.hid hb
  clear hb
  go_enter Try.func71, Try.ntmps71
  go_wp2_with fail
  refine Calls.mono (Hb.out _) ?_
  rintro e w1 ⟨rfl, hb1⟩
  have hw1 : Below w.heap.size w w1 := Below.trans (by repeat (first | (with_reducible assumption) | (with_reducible exact Below.refl _ _) | ((with_reducible refine Below.alloc ?_ ?_ _); rotate_left; exact (by first | omega | (simp; done) | (simp; omega))) | ((with_reducible refine Below.setCell ?_ ?_ _); rotate_left; exact (by first | omega | (simp; done) | (simp; omega))) | (with_reducible refine Below.drew ?_))) (hb1.mono (by first | omega | (simp; done) | (simp; omega)))
  have hs1 := hb1.size
  try simp at hs1
  clear hb1
  go_wp2_with (go_at_call 101; refine (clean_any _ _).mono ?_; rintro e wz ⟨rfl, hwz⟩; subst hwz)
  go_ret
  exact ⟨⟨_, rfl⟩, (by repeat (first | (with_reducible assumption) | (with_reducible exact Below.refl _ _) | ((with_reducible refine Below.alloc ?_ ?_ _); rotate_left; exact (by first | omega | (simp; done) | (simp; omega))) | ((with_reducible refine Below.setCell ?_ ?_ _); rotate_left; exact (by first | omega | (simp; done) | (simp; omega))) | (with_reducible refine Below.drew ?_)))⟩

theorem div_go (a b Ma Mb n k X Y x2 x3 quo rem : Nat) (Ea Eb dir : Int) (na nb neg more : Bool) (r : Nat) (w : World)
    (hb : ∀ w, Calls Try.prog 97 #[.float .f64 a, .float .f64 b] w fun e w' => e = .returned (.tuple #[.agg #[.bool na, .int .u64 (Ma : Int), .int .i64 Ea], .agg #[.bool nb, .int .u64 (Mb : Int), .int .i64 Eb], .bool true]) ∧ Below w.heap.size w w')
    (z2 : feq b 0 = false) (hM : ((Ma : Int) == 0) = false) (e1 : -1074 ≤ Ea) (e2 : Ea ≤ 971) (f1 : -1074 ≤ Eb) (f2 : Eb ≤ 971) (n1 : (n : Int) ≤ 64) (k1 : (k : Int) ≤ 64) (hn : (!(na == nb)) = neg)
    (hl1 : ∀ w, Calls Try.prog 102 #[.int .u64 (Ma : Int)] w fun e w' => e = .returned (.int .i64 (n : Int)) ∧ w' = w)
    (hl2 : ∀ w, Calls Try.prog 102 #[.int .u64 (Mb : Int)] w fun e w' => e = .returned (.int .i64 (k : Int)) ∧ w' = w)
    (hX : IntKind.u64.wrap ((Ma : Int) * 2 ^ n) = (X : Int)) (hY : IntKind.u64.wrap ((Mb : Int) * 2 ^ k) = (Y : Int))
    (hx2 : (X : Int) / 2 = (x2 : Int)) (hx3 : IntKind.u64.wrap ((X : Int) * 9223372036854775808) = (x3 : Int))
    (hd : ∀ w, Calls Try.prog 103 #[.int .u64 (x2 : Int), .int .u64 (x3 : Int), .int .u64 (Y : Int)] w fun e w' => e = .returned (.tuple #[.int .u64 (quo : Int), .int .u64 (rem : Int)]) ∧ w' = w)
    (hm : decide (0 < rem) = more)
    (hr : ∀ w, Calls Try.prog 99 #[.agg #[.bool neg, .int .u64 0, .int .u64 (quo : Int), .int .i64 (Ea - (n : Int) - (Eb - (k : Int)) - 63), .bool more], .int .i64 dir] w fun e w' => e = .returned (.float .f64 r) ∧ Below w.heap.size w w') :
    Calls Try.prog 71 #[.float .f64 a, .float .f64 b, .int .i64 dir] w fun e w' => e = .returned (.float .f64 r) ∧ Below w.heap.size w w' := by
  have Hb := Lib.hid hb
  have Hd := Lib.hid hd
  have Hr := Lib.hid hr
  have L1 := Lib.hid hl1
  have L2 := Lib.hid hl2
  clear hb hd hr hl1 hl2
  go_enter Try.func71, Try.ntmps71
  go_wp2_with fail
  refine Calls.mono (Hb.out _) ?_
  rintro e w1 ⟨rfl, hb1⟩
  go_wp2_with fail
  refine wp_region_grow (by kernel_rfl) (by kernel_rfl) ?_
  intro X _ N hN hup
  have d0 := grow_cell hN (p := ⟨w1.heap.size, 0, none⟩) (v := .bool na) (by go_simp)
  have d1 := grow_cell hN (p := ⟨w1.heap.size, 1, none⟩) (v := .int .u64 (Ma : Int)) (by go_simp)
  have d2 := grow_cell hN (p := ⟨w1.heap.size, 2, none⟩) (v := .int .i64 Ea) (by go_simp)
  have d3 := grow_cell hN (p := ⟨w1.heap.size + 1, 0, none⟩) (v := .bool nb) (by go_simp)
  have d4 := grow_cell hN (p := ⟨w1.heap.size + 1, 1, none⟩) (v := .int .u64 (Mb : Int)) (by go_simp)
  have d5 := grow_cell hN (p := ⟨w1.heap.size + 1, 2, none⟩) (v := .int .i64 Eb) (by go_simp)
  have hbm : ∀ x, Below w.heap.size w (N x) := fun x => by
    have hs1 := hb1.size
    exact Below.trans (hb1.trans ((Below.refl _ _).alloc (by omega) _ |>.alloc (by simp; omega) _)) ((hN x).mono (by simp; omega))
  clear hN
  repeat (go_big_quiet_step ((go_at_call 102; first | with_reducible exact grow_same (L1.out _) | with_reducible exact grow_same (L2.out _))))
  refine wpQuiet_nil ?_
  rintro _ ⟨x, rfl⟩
  have hbx := hbm x
  go_wp2_with fail
  go_quiet (fail)
  go_wp2_with (first | (go_at_call 103; refine (Hd.out _).mono ?_; rintro e wz ⟨rfl, hwz⟩; subst hwz) | (go_at_call 99; with_reducible refine Calls.mono (Hr.out _) ?_; rintro e w2 ⟨rfl, hb2⟩))
  go_ret
  exact ⟨rfl, hbx.trans (Below.trans (show Below w.heap.size (N x) ((N x).drewN _) from ⟨rfl, rfl, rfl, Nat.le_refl _, fun _ _ => rfl⟩) (hb2.mono (by have := hbx.size; simp; omega)))⟩


/-- The words of a quotient of which one is infinite. -/
theorem div_inf {a b : Nat} (ha : word a) (na : ¬ nan a) (hb : word b) (nb : ¬ nan b) (zb : ix b ≠ 0) (h : ¬ (finw a ∧ finw b)) (h2 : finw a ∨ finw b) (dir : Int) :
    ∃ r, Ieee.double.div a b = some r ∧ cleanW r = wd (divI (ix a) (ix b) dir) := by
  have hI := INF_eq
  have nz : ∀ {x : Nat}, word x → ix x ≠ 0 → x % SGN < INF → ∃ m e, Ieee.double.read x = .number (x / SGN % 2 == 1) m e ∧ m ≠ 0 := fun {x} hx hz hf => by
    obtain ⟨m, e, hr, he, hm, _⟩ := read_num hf
    refine ⟨m, _, hr, fun h0 => hz ?_⟩
    have : fi (ix x) = 0 := by
      rw [fi_sign hx, ← hm, h0, Nat.zero_mul]; simp
    exact fi_eq_zero this
  unfold Ieee.Format.div
  by_cases fa : a % SGN < INF
  · have fb : ¬ b % SGN < INF := fun fb => h ⟨⟨ha, fa⟩, hb, fb⟩
    have hb2 : b % SGN = INF := by unfold nan at nb; omega
    obtain ⟨m, e, hr, he, hm, _⟩ := read_num fa
    rw [hr, read_inf hb2]
    unfold Ieee.Datum.quotient
    dsimp only
    rw [Option.map_some]
    refine ⟨_, rfl, ?_⟩
    have f1 := (fin_iff ha na).1 ⟨ha, fa⟩
    have f2 : ¬ (ix b).natAbs < INF := fun g => fb ((fin_iff hb nb).2 g).2
    unfold divI
    rw [if_pos f1, if_neg f2]
    unfold Ieee.Format.write
    dsimp only
    unfold Ieee.Format.nearest
    rw [if_pos rfl, word_double]
    have hz : ∀ s : Bool, word (if s then SGN + 0 else 0) ∧ ¬ nan (if s then SGN + 0 else 0) ∧ ix (if s then SGN + 0 else 0) = 0 := fun s => by
      cases s
      · exact ⟨by unfold word SGN; decide, by unfold nan SGN; rw [hI]; decide, by unfold ix SGN; rfl⟩
      · exact ⟨by unfold word SGN; decide, by unfold nan SGN; rw [hI]; decide, by unfold ix SGN; rfl⟩
    obtain ⟨z1, z2, z3⟩ := hz ((a / SGN % 2 == 1) ^^ (b / SGN % 2 == 1))
    rw [cleanW_num z1 z2, z3]
  · have ha2 : a % SGN = INF := by unfold nan at na; omega
    have f1 : ¬ (ix a).natAbs < INF := fun g => fa ((fin_iff ha na).2 g).2
    have fb : b % SGN < INF := by
      rcases h2 with g | g
      · exact absurd g.2 fa
      · exact g.2
    have za : ix a ≠ 0 := fun g => f1 (by rw [g]; rw [hI]; decide)
    obtain ⟨m, e, hr, hm⟩ := nz hb zb fb
    rw [hr, read_inf ha2]
    unfold Ieee.Datum.quotient
    dsimp only
    rw [Option.map_some]
    refine ⟨_, rfl, ?_⟩
    rw [write_inf, sign_ix ha za, sign_ix hb zb]
    unfold divI
    rw [if_neg f1]
    have e0 : (if (decide (ix a < 0) ^^ decide (ix b < 0)) = true then -(INF : Int) else INF) = if (ix a < 0) ↔ (ix b < 0) then (INF : Int) else -(INF : Int) := by
      by_cases h1 : ix a < 0 <;> by_cases h2 : ix b < 0 <;> simp [h1, h2]
    rw [e0]
    have e1 : (if (ix a < 0) ↔ (ix b < 0) then (INF : Int) else -(INF : Int)).natAbs ≤ INF := by split <;> omega
    have n1 := nw_wd e1
    rw [cleanW_num n1.1 n1.2.1, ix_of e1]

theorem div_nan {a b : Nat} (ha : word a) (na : ¬ nan a) (hb : word b) (nb : ¬ nan b) (h1 : ¬ finw a) (h2 : ¬ finw b) : Ieee.double.div a b = none := by
  have fa : a % SGN = INF := by unfold nan at na; unfold finw at h1; simp [ha] at h1; omega
  have fb : b % SGN = INF := by unfold nan at nb; unfold finw at h2; simp [hb] at h2; omega
  unfold Ieee.Format.div
  rw [read_inf fa, read_inf fb]
  rfl

theorem run_fquo_nan {P : Program} (t : TypeId) {a b : Nat} (h : Ieee.double.div a b = none) (w : World) : (binOp .quo t (.float .f64 a) (.float .f64 b)).run P w = .ok (.float .f64 ((Question.nanBits .f64 a b).cut (w.tape w.drawn (.nanBits .f64 a b)))) w.drew := by
  have e : FloatKind.f64.format = Ieee.double := rfl
  simp [binOp, Op.floatArith, e, h, Question.forced]
theorem nan_cut (a b t : Nat) : nan ((Question.nanBits .f64 a b).cut t) ∧ word ((Question.nanBits .f64 a b).cut t) := by
  unfold Question.cut nan word SGN
  rw [INF_eq]
  dsimp only
  have h1 := Nat.mod_lt (t / 2) (show 0 < 2 ^ 52 - 1 by decide)
  have h2 := Nat.mod_lt t (show 0 < 2 by decide)
  generalize t / 2 % (2 ^ 52 - 1) = m at *
  generalize t % 2 = s at *
  have e63 : (2 : Nat) ^ 63 = 9223372036854775808 := rfl
  have e52 : (2 : Nat) ^ 52 - 1 = 4503599627370495 := rfl
  rw [e63]
  rw [e52] at h1
  omega

/-- ulp.Div. -/
theorem ulpDiv_any (a b : Nat) (dir : Int) (w : World) (ha : word a) (na : ¬ nan a) (hb : word b) (nb : ¬ nan b) (zb : ix b ≠ 0) (hf : finw a ∨ finw b) (d1 : -1 ≤ dir) (d2 : dir ≤ 1) :
    Calls Try.prog 71 #[.float .f64 a, .float .f64 b, .int .i64 dir] w fun e w' => e = .returned (.float .f64 (wd (divI (ix a) (ix b) dir))) ∧ Below w.heap.size w w' := by
  have hB := BN_eq
  have zb2 := feq_0 hb nb
  rw [decide_eq_false zb] at zb2
  by_cases h : finw a ∧ finw b
  · obtain ⟨pa, pb⟩ := h
    have bo := fun w => both_fin pa pb w
    have e0 : divI (ix a) (ix b) dir = rnd (vq a / vq b) dir := by
      unfold divI
      rw [if_pos ((fin_iff ha na).1 pa), if_pos ((fin_iff hb nb).1 pb)]
      rfl
    rw [e0]
    obtain ⟨m1, l1, u1, c1⟩ := spl_bound pa
    obtain ⟨m2, l2, u2, c2⟩ := spl_bound pb
    by_cases hM : splM a = 0
    · have v0 : vq a / vq b = 0 := by
        rw [spl_vq pa, hM]; unfold rsign; cases splN a <;> simp [Rat.div_def]
      rw [v0, rnd_0, wd_0]
      have bo' := bo
      rw [hM] at bo'
      exact div_zero a b _ _ _ dir _ _ w bo' zb2
    · have hM2 : splM b ≠ 0 := fun g => zb (by
        have hv := spl_vq pb
        rw [g] at hv
        have : fq (ix b) = fq 0 := by
          rw [fq_zero]; unfold vq at hv; rw [hv]; unfold rsign; cases splN b <;> simp
        exact fq_inj this)
      have hW := W64_eq
      have w1 : splM a < W64 := by omega
      have w2 : splM b < W64 := by omega
      have ub1 := upN_bound hM w1
      have ub2 := upN_bound hM2 w2
      have hY : 0 < upN (splM b) := by omega
      have qb := quo_bound ub1.1 ub1.2 ub2.1 ub2.2
      have bl1 : blen (splM a) ≤ 64 := blen_of_lt (by rw [← W64_pow]; exact w1)
      have bl2 : blen (splM b) ≤ 64 := blen_of_lt (by rw [← W64_pow]; exact w2)
      have lz : ∀ m : Nat, m < W64 → ∀ w, Calls Try.prog 102 #[.int .u64 (m : Int)] w fun e w' => e = .returned (.int .i64 ((64 - blen m : Nat) : Int)) ∧ w' = w := fun m hm w => by
        have hbm : blen m ≤ 64 := blen_of_lt (by rw [← W64_pow]; exact hm)
        have h1 := Try.bits_LeadingZeros64 (m : Int) w (by omega) (by omega)
        rw [Int.toNat_natCast, bitLen_eq hm, show (64 : Int) - (blen m : Int) = ((64 - blen m : Nat) : Int) by omega] at h1
        exact h1
      have up : ∀ m : Nat, upN m < W64 → IntKind.u64.wrap ((m : Int) * 2 ^ (64 - blen m)) = (upN m : Int) := fun m hm => by
        have e1 : (m : Int) * 2 ^ (64 - blen m) = ((upN m : Nat) : Int) := by unfold upN; simp
        rw [e1]; exact wrap_fit hm
      have dw := div_worth pa pb hM hM2
      have qr := quo_rat (X := upN (splM a)) hY (splE a - (64 - (blen (splM a) : Int)) - (splE b - (64 - (blen (splM b) : Int))) - 63)
      have he : splE a - ((64 - blen (splM a) : Nat) : Int) - (splE b - ((64 - blen (splM b) : Nat) : Int)) - 63 = splE a - (64 - (blen (splM a) : Int)) - (splE b - (64 - (blen (splM b) : Int))) - 63 := by omega
      have d64 := fun w => div64_any (hi := upN (splM a) / 2) (lo := upN (splM a) % 2 * 9223372036854775808) (y := upN (splM b)) w (by omega) (by omega) (by omega) ub2.1 ub2.2
      have hx : upN (splM a) / 2 * W64 + upN (splM a) % 2 * 9223372036854775808 = upN (splM a) * 9223372036854775808 := by rw [hW]; omega
      rw [hx] at d64
      have rr := fun w => round_rnd (hi := 0) (lo := upN (splM a) * 9223372036854775808 / upN (splM b)) (dir := dir) (by omega) qb.2 (by omega) (by omega) qr.2.1 qr.2.2.1 qr.2.2.2 dw (fun _ => by have := qb.1; omega) d1 d2 w
      have rr2 : ∀ w, Calls Try.prog 99 #[.agg #[.bool (!(splN a == splN b)), .int .u64 0, .int .u64 ((upN (splM a) * 9223372036854775808 / upN (splM b) : Nat) : Int), .int .i64 (splE a - ((64 - blen (splM a) : Nat) : Int) - (splE b - ((64 - blen (splM b) : Nat) : Int)) - 63), .bool (decide (0 < upN (splM a) * 9223372036854775808 % upN (splM b)))], .int .i64 dir] w fun e w' => e = .returned (.float .f64 (wd (rnd (vq a / vq b) dir))) ∧ Below w.heap.size w w' := fun w => by
        rw [he]; exact rr w
      exact div_go a b (splM a) (splM b) _ _ (upN (splM a)) (upN (splM b)) (upN (splM a) / 2) (upN (splM a) % 2 * 9223372036854775808) _ _ _ _ dir _ _ _ _ _ w bo zb2 (by simp; omega) l1 u1 l2 u2 (by omega) (by omega) rfl (lz _ w1) (lz _ w2) (up _ ub1.2) (up _ ub2.2) (by omega) (by rw [wrap_u64]; omega) d64 rfl rr2
  · obtain ⟨sa, sb, Ma, Mb, Ea, Eb, bo⟩ := both_bad ha hb h
    obtain ⟨r, h1, h2⟩ := div_inf ha na hb nb zb h hf dir
    rw [← h2]
    exact div_out a b Ma Mb Ea Eb dir sa sb r w bo zb2 (run_fquo _ h1)

theorem ulpDiv_nan (a b : Nat) (dir : Int) (w : World) (ha : word a) (na : ¬ nan a) (hb : word b) (nb : ¬ nan b) (fa : ¬ finw a) (fb : ¬ finw b) :
    Calls Try.prog 71 #[.float .f64 a, .float .f64 b, .int .i64 dir] w fun e w' => (∃ r, e = .returned (.float .f64 r) ∧ nan r ∧ word r) ∧ Below w.heap.size w w' := by
  have zb : ix b ≠ 0 := fun g => fb ((fin_iff hb nb).2 (by rw [g, INF_eq]; decide))
  have zb2 := feq_0 hb nb
  rw [decide_eq_false zb] at zb2
  obtain ⟨sa, sb, Ma, Mb, Ea, Eb, bo⟩ := both_bad ha hb (fun g => fa g.1)
  refine (div_none a b Ma Mb Ea Eb dir sa sb _ w bo zb2 (run_fquo_nan _ (div_nan ha na hb nb fa fb))).mono ?_
  rintro e w' ⟨⟨w0, rfl⟩, hb'⟩
  have nc := nan_cut a b (w0.tape w0.drawn (.nanBits .f64 a b))
  refine ⟨⟨_, rfl, ?_⟩, hb'⟩
  have : cleanW ((Question.nanBits .f64 a b).cut (w0.tape w0.drawn (.nanBits .f64 a b))) = (Question.nanBits .f64 a b).cut (w0.tape w0.drawn (.nanBits .f64 a b)) := by
    unfold cleanW
    rw [feq_nan (Or.inl nc.1)]; rfl
  rw [this]
  exact nc

end Go.Proofs.Ytonidoghcihnnaa
