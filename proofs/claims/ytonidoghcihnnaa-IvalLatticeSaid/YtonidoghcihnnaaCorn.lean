/- The walk of ival's corners, at ulp.Div and at ulp.Mul. -/
import Derived.Test.YtonidoghcihnnaaDiv
import Derived.Test.YtonidoghcihnnaaEnds
import Derived.Deep.LoopGhost
import Derived.Lib.Hide
import Derived.Lib.SliceRun
namespace Go.Proofs.Ytonidoghcihnnaa
open Go.RowKit
set_option maxRecDepth 100000
set_option maxHeartbeats 2000000
set_option linter.unusedSimpArgs false
set_option linter.unusedVariables false

/-- A pair of ends: what is made of it moves the ends found so far out, unless it is no number. -/
def cstep (N : Nat → Nat → Bool) (D U : Nat → Nat → Int) (s : Int × Int) (x y : Nat) : Int × Int := if N x y = true then (min s.1 (D x y), max s.2 (U x y)) else s
def cfit (s : Int × Int) : Prop := s.1.natAbs ≤ INF ∧ s.2.natAbs ≤ INF
theorem cstep_fit {N : Nat → Nat → Bool} {D U : Nat → Nat → Int} {s : Int × Int} {x y : Nat} (h : cfit s) (hD : (D x y).natAbs ≤ INF) (hU : (U x y).natAbs ≤ INF) : cfit (cstep N D U s x y) := by
  unfold cstep cfit at *
  split
  · dsimp only; omega
  · exact h
def corn (N : Nat → Nat → Bool) (D U : Nat → Nat → Int) (a b c d : Nat) : Int × Int := cstep N D U (cstep N D U (cstep N D U (cstep N D U (IM, -IM) a c) a d) b c) b d

/-- What an operator of two floats and a side makes of a pair. -/
@[reducible] def Makes (N : Nat → Nat → Bool) (D : Nat → Nat → Int) (f : Nat) (dir : Int) (x y : Nat) : Prop := ∀ w, Calls Try.prog f #[.float .f64 x, .float .f64 y, .int .i64 dir] w fun e w' => (∃ r, e = .returned (.float .f64 r) ∧ (N x y = true → r = wd (D x y)) ∧ (N x y = false → nan r)) ∧ Below w.heap.size w w'
theorem run_minwd (i j : Int) (hi : i.natAbs ≤ INF) (hj : j.natAbs ≤ INF) (w : World) : (Builtin.min_ #[33, 33] 33 #[.float .f64 (wd i), .float .f64 (wd j)]).run Try.prog w = .ok (.float .f64 (wd (min i j))) w := by
  rw [run_fmin _ _ (nw_wd hi) (nw_wd hj)]
  congr 2
  have n := minw_nw (nw_wd hi) (nw_wd hj)
  rw [← nw_ix n, minw_ix, ix_of hi, ix_of hj]
theorem run_maxwd (i j : Int) (hi : i.natAbs ≤ INF) (hj : j.natAbs ≤ INF) (w : World) : (Builtin.max_ #[33, 33] 33 #[.float .f64 (wd i), .float .f64 (wd j)]).run Try.prog w = .ok (.float .f64 (wd (max i j))) w := by
  rw [run_fmax _ _ (nw_wd hi) (nw_wd hj)]
  congr 2
  have n := maxw_nw (nw_wd hi) (nw_wd hj)
  rw [← nw_ix n, maxw_ix, ix_of hi, ix_of hj]

theorem corners_div (a b c d : Nat) (N : Nat → Nat → Bool) (D U : Nat → Nat → Int) (w : World) (hD : ∀ x y, (D x y).natAbs ≤ INF) (hU : ∀ x y, (U x y).natAbs ≤ INF)
    (dn : ∀ x y, (x = a ∨ x = b) → (y = c ∨ y = d) → Makes N D 71 (-1) x y) (up : ∀ x y, (x = a ∨ x = b) → (y = c ∨ y = d) → Makes N U 71 1 x y) (lo hi : Nat)
    (hm : ∀ w, Calls Try.prog 67 #[.float .f64 (wd (corn N D U a b c d).1), .float .f64 (wd (corn N D U a b c d).2)] w fun e w' => e = .returned (.agg #[.float .f64 lo, .float .f64 hi]) ∧ Below w.heap.size w w') :
    Calls Try.prog 70 #[(.agg #[.float .f64 a, .float .f64 b]), (.agg #[.float .f64 c, .float .f64 d]), .func (.func 71) #[] #[]] w fun e w' => e = .returned (.agg #[.float .f64 lo, .float .f64 hi]) ∧ Below w.heap.size w w' := by
  have Dn := Lib.hid dn
  have Up := Lib.hid up
  have Hm := Lib.hid hm
  clear dn up hm
  go_enter Try.func70, Try.ntmps70
  go_wp2_with (go_at_call 73; first | (with_reducible refine (inf_pos _).mono ?_; rintro e wz ⟨rfl, hwz⟩; subst hwz) | (with_reducible refine (inf_neg _).mono ?_; rintro e wz ⟨rfl, hwz⟩; subst hwz))
  go_loopg [7, 8, 23] 2 (fun g l h i wr => ∃ k : Nat, g = 2 - k ∧ i = .int .i64 k ∧ ∃ s : Int × Int, l = .float .f64 (wd s.1) ∧ h = .float .f64 (wd s.2) ∧ Hid (Below w.heap.size w wr) ∧ Hid (w.heap.size + 4 ≤ wr.heap.size) ∧
    wr.cell? ⟨w.heap.size + 1, 0, none⟩ = some (.float .f64 c) ∧ wr.cell? ⟨w.heap.size + 1, 1, none⟩ = some (.float .f64 d) ∧
    wr.cell? ⟨w.heap.size + 2, 0, none⟩ = some (.float .f64 0) ∧ wr.cell? ⟨w.heap.size + 2, 1, none⟩ = some (.float .f64 0) ∧ wr.frozen? ⟨w.heap.size + 2, 0, none⟩ = false ∧ wr.frozen? ⟨w.heap.size + 2, 1, none⟩ = false ∧
    wr.cell? ⟨w.heap.size + 3, 0, none⟩ = some (.float .f64 a) ∧ wr.cell? ⟨w.heap.size + 3, 1, none⟩ = some (.float .f64 b) ∧ Hid (cfit s) ∧
    ((k = 0 ∧ s = (IM, -IM)) ∨ (k = 1 ∧ s = cstep N D U (cstep N D U (IM, -IM) a c) a d) ∨ (k = 2 ∧ s = corn N D U a b c d)))
  case atStart =>
    refine ⟨0, rfl, rfl, (IM, -IM), by rw [wd_IM], by rw [wd_nIM], (show Below w.heap.size w _ from (by repeat (first | (with_reducible assumption) | (with_reducible exact Below.refl _ _) | ((with_reducible refine Below.alloc ?_ ?_ _); rotate_left; exact (by first | omega | (simp; done) | (simp; omega))) | ((with_reducible refine Below.setCell ?_ ?_ _); rotate_left; exact (by first | omega | (simp; done) | (simp; omega))) | (with_reducible refine Below.drew ?_)))), (show w.heap.size + 4 ≤ _ from (by simp)), by go_simp, by go_simp, by go_simp, by go_simp, by go_simp, by go_simp, by go_simp, by go_simp, ⟨IM_le, nIM_le⟩, Or.inl ⟨rfl, rfl⟩⟩
  case round =>
    obtain ⟨k, rfl, rfl, s, rfl, rfl, hb, hs, y0, y1, z0, z1, zf0, zf1, u0, u1, ft, ways⟩ := hrel
    rcases ways with ⟨rfl, hss⟩ | ⟨rfl, hss⟩ | ⟨rfl, hss⟩
    · have hv : s = (IM, -IM) := hss
      subst hss
      go_wp2_with fail
      go_loopg [7, 8, 33] 2 (fun g l h i wq => ∃ j : Nat, g = 2 - j ∧ i = .int .i64 j ∧ ∃ t : Int × Int, l = .float .f64 (wd t.1) ∧ h = .float .f64 (wd t.2) ∧ Hid (Below w.heap.size w wq) ∧ Hid (wr.heap.size < wq.heap.size ∧ w.heap.size + 4 ≤ wr.heap.size) ∧
          wq.cell? ⟨w.heap.size + 1, 0, none⟩ = some (.float .f64 c) ∧ wq.cell? ⟨w.heap.size + 1, 1, none⟩ = some (.float .f64 d) ∧
          wq.cell? ⟨w.heap.size + 2, 0, none⟩ = some (.float .f64 0) ∧ wq.cell? ⟨w.heap.size + 2, 1, none⟩ = some (.float .f64 0) ∧ wq.frozen? ⟨w.heap.size + 2, 0, none⟩ = false ∧ wq.frozen? ⟨w.heap.size + 2, 1, none⟩ = false ∧
          wq.cell? ⟨w.heap.size + 3, 0, none⟩ = some (.float .f64 a) ∧ wq.cell? ⟨w.heap.size + 3, 1, none⟩ = some (.float .f64 b) ∧
          wq.cell? ⟨wr.heap.size, 0, none⟩ = some (.float .f64 c) ∧ wq.cell? ⟨wr.heap.size, 1, none⟩ = some (.float .f64 d) ∧ Hid (cfit t) ∧
          Hid ((j = 0 ∧ t = (IM, -IM)) ∨ (j = 1 ∧ t = (cstep N D U (IM, -IM) a c)) ∨ (j = 2 ∧ t = (cstep N D U (cstep N D U (IM, -IM) a c) a d))))
      case atStart =>
        have hs' := hs.out
        refine ⟨0, rfl, rfl, (IM, -IM), rfl, rfl, hb.out.alloc (by omega) _, ⟨by simp, hs'⟩, Lib.cell?_alloc_some _ y0, Lib.cell?_alloc_some _ y1, Lib.cell?_alloc_some _ z0, Lib.cell?_alloc_some _ z1, below_frozen (Below.alloc (Below.refl _ _) (Nat.le_refl _) _) z0 zf0, below_frozen (Below.alloc (Below.refl _ _) (Nat.le_refl _) _) z1 zf1, Lib.cell?_alloc_some _ u0, Lib.cell?_alloc_some _ u1, by simp, by simp, ft.out, Or.inl ⟨rfl, rfl⟩⟩
      case round =>
        obtain ⟨j, rfl, rfl, t, rfl, rfl, hb2, hs2, y0, y1, z0, z1, zf0, zf1, u0, u1, v0, v1, ft2, ways2⟩ := hrel
        rcases ways2.out with ⟨rfl, ht⟩ | ⟨rfl, ht⟩ | ⟨rfl, ht⟩
        · clear ways2
          have Ht := Lib.hid ht
          clear ht
          cases hn : N a c
          · have hl := Lib.hid hn
            clear hn
            go_wp2_with (first | (go_at_call 100; refine (isNaN_any _ _).mono ?_; rintro e wz ⟨rfl, hwz⟩; subst hwz; rw [feq_nan (Or.inl (q1 hl.out))]) | (go_at_call 71; first | (with_reducible refine Calls.mono (Dn.out a c (by simp) (by simp) _) ?_; rintro e w1 ⟨⟨r1, rfl, p1, q1⟩, hb3⟩) | (with_reducible refine Calls.mono (Up.out a c (by simp) (by simp) _) ?_; rintro e w2 ⟨⟨r2, rfl, p2, q2⟩, hb4⟩)))
            go_roundg 1
            case measure => omega
            case rel =>
              have hB : Below wr.heap.size wr wz := hb3.trans (hb4.mono hb3.size)
              refine ⟨1, by omega, by go_num, (cstep N D U t a c), ?_, ?_, hb2.out.trans (hB.mono hb2.out.size), ⟨Nat.lt_of_lt_of_le hs2.out.1 hB.size, hs2.out.2⟩, below_cell hB y0, below_cell hB y1, below_cell hB z0, below_cell hB z1, below_frozen hB z0 zf0, below_frozen hB z1 zf1, below_cell hB u0, below_cell hB u1, below_cell hB v0, below_cell hB v1, cstep_fit ft2.out (hD _ _) (hU _ _), Or.inr (Or.inl ⟨rfl, by rw [Ht.out]⟩)⟩
              · unfold cstep; rw [hl.out]; rfl
              · unfold cstep; rw [hl.out]; rfl
          · have hl := Lib.hid hn
            clear hn
            have mn := run_minwd t.1 (D a c) ft2.out.1 (hD _ _)
            have mx := run_maxwd t.2 (U a c) ft2.out.2 (hU _ _)
            go_wp2_with (first | (go_at_call 100; refine (isNaN_any _ _).mono ?_; rintro e wz ⟨rfl, hwz⟩; subst hwz; rw [feq_self (nw_wd (hD a c)).1 (nw_wd (hD a c)).2.1]) | (go_at_call 71; first | (with_reducible refine Calls.mono (Dn.out a c (by simp) (by simp) _) ?_; rintro e w1 ⟨⟨r1, rfl, p1, q1⟩, hb3⟩; rw [p1 hl.out]) | (with_reducible refine Calls.mono (Up.out a c (by simp) (by simp) _) ?_; rintro e w2 ⟨⟨r2, rfl, p2, q2⟩, hb4⟩; rw [p2 hl.out])))
            go_roundg 1
            case measure => omega
            case rel =>
              have hB : Below wr.heap.size wr wz := hb3.trans (hb4.mono hb3.size)
              refine ⟨1, by omega, by go_num, (cstep N D U t a c), ?_, ?_, hb2.out.trans (hB.mono hb2.out.size), ⟨Nat.lt_of_lt_of_le hs2.out.1 hB.size, hs2.out.2⟩, below_cell hB y0, below_cell hB y1, below_cell hB z0, below_cell hB z1, below_frozen hB z0 zf0, below_frozen hB z1 zf1, below_cell hB u0, below_cell hB u1, below_cell hB v0, below_cell hB v1, cstep_fit ft2.out (hD _ _) (hU _ _), Or.inr (Or.inl ⟨rfl, by rw [Ht.out]⟩)⟩
              · unfold cstep; rw [hl.out]; rfl
              · unfold cstep; rw [hl.out]; rfl
        · clear ways2
          have Ht := Lib.hid ht
          clear ht
          cases hn : N a d
          · have hl := Lib.hid hn
            clear hn
            go_wp2_with (first | (go_at_call 100; refine (isNaN_any _ _).mono ?_; rintro e wz ⟨rfl, hwz⟩; subst hwz; rw [feq_nan (Or.inl (q1 hl.out))]) | (go_at_call 71; first | (with_reducible refine Calls.mono (Dn.out a d (by simp) (by simp) _) ?_; rintro e w1 ⟨⟨r1, rfl, p1, q1⟩, hb3⟩) | (with_reducible refine Calls.mono (Up.out a d (by simp) (by simp) _) ?_; rintro e w2 ⟨⟨r2, rfl, p2, q2⟩, hb4⟩)))
            go_roundg 0
            case measure => omega
            case rel =>
              have hB : Below wr.heap.size wr wz := hb3.trans (hb4.mono hb3.size)
              refine ⟨2, by omega, by go_num, (cstep N D U t a d), ?_, ?_, hb2.out.trans (hB.mono hb2.out.size), ⟨Nat.lt_of_lt_of_le hs2.out.1 hB.size, hs2.out.2⟩, below_cell hB y0, below_cell hB y1, below_cell hB z0, below_cell hB z1, below_frozen hB z0 zf0, below_frozen hB z1 zf1, below_cell hB u0, below_cell hB u1, below_cell hB v0, below_cell hB v1, cstep_fit ft2.out (hD _ _) (hU _ _), Or.inr (Or.inr ⟨rfl, by rw [Ht.out]⟩)⟩
              · unfold cstep; rw [hl.out]; rfl
              · unfold cstep; rw [hl.out]; rfl
          · have hl := Lib.hid hn
            clear hn
            have mn := run_minwd t.1 (D a d) ft2.out.1 (hD _ _)
            have mx := run_maxwd t.2 (U a d) ft2.out.2 (hU _ _)
            go_wp2_with (first | (go_at_call 100; refine (isNaN_any _ _).mono ?_; rintro e wz ⟨rfl, hwz⟩; subst hwz; rw [feq_self (nw_wd (hD a d)).1 (nw_wd (hD a d)).2.1]) | (go_at_call 71; first | (with_reducible refine Calls.mono (Dn.out a d (by simp) (by simp) _) ?_; rintro e w1 ⟨⟨r1, rfl, p1, q1⟩, hb3⟩; rw [p1 hl.out]) | (with_reducible refine Calls.mono (Up.out a d (by simp) (by simp) _) ?_; rintro e w2 ⟨⟨r2, rfl, p2, q2⟩, hb4⟩; rw [p2 hl.out])))
            go_roundg 0
            case measure => omega
            case rel =>
              have hB : Below wr.heap.size wr wz := hb3.trans (hb4.mono hb3.size)
              refine ⟨2, by omega, by go_num, (cstep N D U t a d), ?_, ?_, hb2.out.trans (hB.mono hb2.out.size), ⟨Nat.lt_of_lt_of_le hs2.out.1 hB.size, hs2.out.2⟩, below_cell hB y0, below_cell hB y1, below_cell hB z0, below_cell hB z1, below_frozen hB z0 zf0, below_frozen hB z1 zf1, below_cell hB u0, below_cell hB u1, below_cell hB v0, below_cell hB v1, cstep_fit ft2.out (hD _ _) (hU _ _), Or.inr (Or.inr ⟨rfl, by rw [Ht.out]⟩)⟩
              · unfold cstep; rw [hl.out]; rfl
              · unfold cstep; rw [hl.out]; rfl
        · clear ways2
          have ht' := ht
          subst ht'
          go_wp2_with fail
          go_roundg 1
          case measure => omega
          case rel =>
            refine ⟨1, by omega, by go_num, _, rfl, rfl, hb2.out, (Nat.le_trans hs2.out.2 (Nat.le_of_lt hs2.out.1)), y0, y1, z0, z1, zf0, zf1, u0, u1, ft2.out, Or.inr (Or.inl ⟨rfl, rfl⟩)⟩
    · subst hss
      go_wp2_with fail
      go_loopg [7, 8, 33] 2 (fun g l h i wq => ∃ j : Nat, g = 2 - j ∧ i = .int .i64 j ∧ ∃ t : Int × Int, l = .float .f64 (wd t.1) ∧ h = .float .f64 (wd t.2) ∧ Hid (Below w.heap.size w wq) ∧ Hid (wr.heap.size < wq.heap.size ∧ w.heap.size + 4 ≤ wr.heap.size) ∧
          wq.cell? ⟨w.heap.size + 1, 0, none⟩ = some (.float .f64 c) ∧ wq.cell? ⟨w.heap.size + 1, 1, none⟩ = some (.float .f64 d) ∧
          wq.cell? ⟨w.heap.size + 2, 0, none⟩ = some (.float .f64 0) ∧ wq.cell? ⟨w.heap.size + 2, 1, none⟩ = some (.float .f64 0) ∧ wq.frozen? ⟨w.heap.size + 2, 0, none⟩ = false ∧ wq.frozen? ⟨w.heap.size + 2, 1, none⟩ = false ∧
          wq.cell? ⟨w.heap.size + 3, 0, none⟩ = some (.float .f64 a) ∧ wq.cell? ⟨w.heap.size + 3, 1, none⟩ = some (.float .f64 b) ∧
          wq.cell? ⟨wr.heap.size, 0, none⟩ = some (.float .f64 c) ∧ wq.cell? ⟨wr.heap.size, 1, none⟩ = some (.float .f64 d) ∧ Hid (cfit t) ∧
          Hid ((j = 0 ∧ t = (cstep N D U (cstep N D U (IM, -IM) a c) a d)) ∨ (j = 1 ∧ t = (cstep N D U (cstep N D U (cstep N D U (IM, -IM) a c) a d) b c)) ∨ (j = 2 ∧ t = (cstep N D U (cstep N D U (cstep N D U (cstep N D U (IM, -IM) a c) a d) b c) b d))))
      case atStart =>
        have hs' := hs.out
        refine ⟨0, rfl, rfl, (cstep N D U (cstep N D U (IM, -IM) a c) a d), rfl, rfl, hb.out.alloc (by omega) _, ⟨by simp, hs'⟩, Lib.cell?_alloc_some _ y0, Lib.cell?_alloc_some _ y1, Lib.cell?_alloc_some _ z0, Lib.cell?_alloc_some _ z1, below_frozen (Below.alloc (Below.refl _ _) (Nat.le_refl _) _) z0 zf0, below_frozen (Below.alloc (Below.refl _ _) (Nat.le_refl _) _) z1 zf1, Lib.cell?_alloc_some _ u0, Lib.cell?_alloc_some _ u1, by simp, by simp, ft.out, Or.inl ⟨rfl, rfl⟩⟩
      case round =>
        obtain ⟨j, rfl, rfl, t, rfl, rfl, hb2, hs2, y0, y1, z0, z1, zf0, zf1, u0, u1, v0, v1, ft2, ways2⟩ := hrel
        rcases ways2.out with ⟨rfl, ht⟩ | ⟨rfl, ht⟩ | ⟨rfl, ht⟩
        · clear ways2
          have Ht := Lib.hid ht
          clear ht
          cases hn : N b c
          · have hl := Lib.hid hn
            clear hn
            go_wp2_with (first | (go_at_call 100; refine (isNaN_any _ _).mono ?_; rintro e wz ⟨rfl, hwz⟩; subst hwz; rw [feq_nan (Or.inl (q1 hl.out))]) | (go_at_call 71; first | (with_reducible refine Calls.mono (Dn.out b c (by simp) (by simp) _) ?_; rintro e w1 ⟨⟨r1, rfl, p1, q1⟩, hb3⟩) | (with_reducible refine Calls.mono (Up.out b c (by simp) (by simp) _) ?_; rintro e w2 ⟨⟨r2, rfl, p2, q2⟩, hb4⟩)))
            go_roundg 1
            case measure => omega
            case rel =>
              have hB : Below wr.heap.size wr wz := hb3.trans (hb4.mono hb3.size)
              refine ⟨1, by omega, by go_num, (cstep N D U t b c), ?_, ?_, hb2.out.trans (hB.mono hb2.out.size), ⟨Nat.lt_of_lt_of_le hs2.out.1 hB.size, hs2.out.2⟩, below_cell hB y0, below_cell hB y1, below_cell hB z0, below_cell hB z1, below_frozen hB z0 zf0, below_frozen hB z1 zf1, below_cell hB u0, below_cell hB u1, below_cell hB v0, below_cell hB v1, cstep_fit ft2.out (hD _ _) (hU _ _), Or.inr (Or.inl ⟨rfl, by rw [Ht.out]⟩)⟩
              · unfold cstep; rw [hl.out]; rfl
              · unfold cstep; rw [hl.out]; rfl
          · have hl := Lib.hid hn
            clear hn
            have mn := run_minwd t.1 (D b c) ft2.out.1 (hD _ _)
            have mx := run_maxwd t.2 (U b c) ft2.out.2 (hU _ _)
            go_wp2_with (first | (go_at_call 100; refine (isNaN_any _ _).mono ?_; rintro e wz ⟨rfl, hwz⟩; subst hwz; rw [feq_self (nw_wd (hD b c)).1 (nw_wd (hD b c)).2.1]) | (go_at_call 71; first | (with_reducible refine Calls.mono (Dn.out b c (by simp) (by simp) _) ?_; rintro e w1 ⟨⟨r1, rfl, p1, q1⟩, hb3⟩; rw [p1 hl.out]) | (with_reducible refine Calls.mono (Up.out b c (by simp) (by simp) _) ?_; rintro e w2 ⟨⟨r2, rfl, p2, q2⟩, hb4⟩; rw [p2 hl.out])))
            go_roundg 1
            case measure => omega
            case rel =>
              have hB : Below wr.heap.size wr wz := hb3.trans (hb4.mono hb3.size)
              refine ⟨1, by omega, by go_num, (cstep N D U t b c), ?_, ?_, hb2.out.trans (hB.mono hb2.out.size), ⟨Nat.lt_of_lt_of_le hs2.out.1 hB.size, hs2.out.2⟩, below_cell hB y0, below_cell hB y1, below_cell hB z0, below_cell hB z1, below_frozen hB z0 zf0, below_frozen hB z1 zf1, below_cell hB u0, below_cell hB u1, below_cell hB v0, below_cell hB v1, cstep_fit ft2.out (hD _ _) (hU _ _), Or.inr (Or.inl ⟨rfl, by rw [Ht.out]⟩)⟩
              · unfold cstep; rw [hl.out]; rfl
              · unfold cstep; rw [hl.out]; rfl
        · clear ways2
          have Ht := Lib.hid ht
          clear ht
          cases hn : N b d
          · have hl := Lib.hid hn
            clear hn
            go_wp2_with (first | (go_at_call 100; refine (isNaN_any _ _).mono ?_; rintro e wz ⟨rfl, hwz⟩; subst hwz; rw [feq_nan (Or.inl (q1 hl.out))]) | (go_at_call 71; first | (with_reducible refine Calls.mono (Dn.out b d (by simp) (by simp) _) ?_; rintro e w1 ⟨⟨r1, rfl, p1, q1⟩, hb3⟩) | (with_reducible refine Calls.mono (Up.out b d (by simp) (by simp) _) ?_; rintro e w2 ⟨⟨r2, rfl, p2, q2⟩, hb4⟩)))
            go_roundg 0
            case measure => omega
            case rel =>
              have hB : Below wr.heap.size wr wz := hb3.trans (hb4.mono hb3.size)
              refine ⟨2, by omega, by go_num, (cstep N D U t b d), ?_, ?_, hb2.out.trans (hB.mono hb2.out.size), ⟨Nat.lt_of_lt_of_le hs2.out.1 hB.size, hs2.out.2⟩, below_cell hB y0, below_cell hB y1, below_cell hB z0, below_cell hB z1, below_frozen hB z0 zf0, below_frozen hB z1 zf1, below_cell hB u0, below_cell hB u1, below_cell hB v0, below_cell hB v1, cstep_fit ft2.out (hD _ _) (hU _ _), Or.inr (Or.inr ⟨rfl, by rw [Ht.out]⟩)⟩
              · unfold cstep; rw [hl.out]; rfl
              · unfold cstep; rw [hl.out]; rfl
          · have hl := Lib.hid hn
            clear hn
            have mn := run_minwd t.1 (D b d) ft2.out.1 (hD _ _)
            have mx := run_maxwd t.2 (U b d) ft2.out.2 (hU _ _)
            go_wp2_with (first | (go_at_call 100; refine (isNaN_any _ _).mono ?_; rintro e wz ⟨rfl, hwz⟩; subst hwz; rw [feq_self (nw_wd (hD b d)).1 (nw_wd (hD b d)).2.1]) | (go_at_call 71; first | (with_reducible refine Calls.mono (Dn.out b d (by simp) (by simp) _) ?_; rintro e w1 ⟨⟨r1, rfl, p1, q1⟩, hb3⟩; rw [p1 hl.out]) | (with_reducible refine Calls.mono (Up.out b d (by simp) (by simp) _) ?_; rintro e w2 ⟨⟨r2, rfl, p2, q2⟩, hb4⟩; rw [p2 hl.out])))
            go_roundg 0
            case measure => omega
            case rel =>
              have hB : Below wr.heap.size wr wz := hb3.trans (hb4.mono hb3.size)
              refine ⟨2, by omega, by go_num, (cstep N D U t b d), ?_, ?_, hb2.out.trans (hB.mono hb2.out.size), ⟨Nat.lt_of_lt_of_le hs2.out.1 hB.size, hs2.out.2⟩, below_cell hB y0, below_cell hB y1, below_cell hB z0, below_cell hB z1, below_frozen hB z0 zf0, below_frozen hB z1 zf1, below_cell hB u0, below_cell hB u1, below_cell hB v0, below_cell hB v1, cstep_fit ft2.out (hD _ _) (hU _ _), Or.inr (Or.inr ⟨rfl, by rw [Ht.out]⟩)⟩
              · unfold cstep; rw [hl.out]; rfl
              · unfold cstep; rw [hl.out]; rfl
        · clear ways2
          have ht' := ht
          subst ht'
          go_wp2_with fail
          go_roundg 0
          case measure => omega
          case rel =>
            refine ⟨2, by omega, by go_num, _, rfl, rfl, hb2.out, (Nat.le_trans hs2.out.2 (Nat.le_of_lt hs2.out.1)), y0, y1, z0, z1, zf0, zf1, u0, u1, ft2.out, Or.inr (Or.inr ⟨rfl, rfl⟩)⟩
    · subst hss
      have Ef := ft.out
      go_wp2_with (go_at_call 67; with_reducible refine Calls.mono (Hm.out _) ?_; rintro e w1 ⟨rfl, hb1⟩; have k0 := below_cell hb1 z0; have k1 := below_cell hb1 z1; have k0z := below_frozen hb1 z0 zf0; have k1z := below_frozen hb1 z1 zf1)
      have hw1 : Below w.heap.size w w1 := hb.out.trans (hb1.mono hb.out.size)
      exact bodyPost_ret (v := (.agg #[.float .f64 lo, .float .f64 hi])) (by simp [results, Try.results70, go_sem, *]) rfl ⟨rfl, (by repeat (first | (with_reducible assumption) | (with_reducible exact Below.refl _ _) | ((with_reducible refine Below.alloc ?_ ?_ _); rotate_left; exact (by first | omega | (simp; done) | (simp; omega))) | ((with_reducible refine Below.setCell ?_ ?_ _); rotate_left; exact (by first | omega | (simp; done) | (simp; omega))) | (with_reducible refine Below.drew ?_)))⟩

end Go.Proofs.Ytonidoghcihnnaa
