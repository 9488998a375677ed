/- The walk of orreryref05.Right. -/
import Derived.Test.YtonidoghcihnnaaTapeB
namespace Go.Proofs.Ytonidoghcihnnaa
open Go.RowKit
set_option maxRecDepth 100000
set_option linter.unusedSimpArgs false
set_option linter.unusedVariables false

/-- May an operation be? (the reference) -/
def okOpR (k A B N : Int) (lo hi : Nat) (i vars : Int) : Bool :=
  if k = 1 then !noneR lo hi
  else if k = 2 then decide (0 ≤ N) && decide (N < vars)
  else if 3 ≤ k ∧ k ≤ 6 then decide (0 ≤ A) && decide (A < i) && decide (0 ≤ B) && decide (B < i)
  else if k = 8 then decide (0 ≤ A) && decide (A < i) && decide (-64 ≤ N) && decide (N ≤ 64)
  else if 7 ≤ k ∧ k ≤ 14 then decide (0 ≤ A) && decide (A < i)
  else false
theorem okOpR_eq (k A B N : Int) {lo hi : Nat} (i vars : Int) (h1 : word lo) (h2 : word hi) : okOpR k A B N lo hi i vars = okOp k A B N lo hi i vars := by
  unfold okOpR okOp
  rw [none_eq h1 h2]

set_option maxHeartbeats 1000000 in
theorem rtright_head (V : Int) (oa ob : Option Addr) (len cap m cap2 : Nat) (w : World) (h : V < 0 ∨ 64 < V ∨ (4000 : Int) < len ∨ (400 : Int) < m) :
    Calls Try.prog 11 #[.agg #[.int .i64 V, .slice oa len cap, .slice ob m cap2]] w fun e w' => e = .returned (.bool false) ∧ Below w.heap.size w w' := by
  by_cases h0 : V < 0
  · go_enter Try.func11, Try.ntmps11
    go_wp2
    go_ret
    exact ⟨rfl, (by repeat (first | exact Below.refl _ _ | assumption | refine Below.alloc ?_ (by first | omega | (simp; done) | (simp; omega)) _ | refine Below.setCell ?_ (by first | omega | (simp; done) | (simp; omega)) _ | refine Below.drew ?_))⟩
  by_cases h1 : 64 < V
  · go_enter Try.func11, Try.ntmps11
    go_wp2
    go_ret
    exact ⟨rfl, (by repeat (first | exact Below.refl _ _ | assumption | refine Below.alloc ?_ (by first | omega | (simp; done) | (simp; omega)) _ | refine Below.setCell ?_ (by first | omega | (simp; done) | (simp; omega)) _ | refine Below.drew ?_))⟩
  by_cases h2 : (4000 : Int) < len
  · go_enter Try.func11, Try.ntmps11
    go_wp2
    go_ret
    exact ⟨rfl, (by repeat (first | exact Below.refl _ _ | assumption | refine Below.alloc ?_ (by first | omega | (simp; done) | (simp; omega)) _ | refine Below.setCell ?_ (by first | omega | (simp; done) | (simp; omega)) _ | refine Below.drew ?_))⟩
  have h3 : (400 : Int) < m := by omega
  go_enter Try.func11, Try.ntmps11
  go_wp2
  go_ret
  exact ⟨rfl, (by repeat (first | exact Below.refl _ _ | assumption | refine Below.alloc ?_ (by first | omega | (simp; done) | (simp; omega)) _ | refine Below.setCell ?_ (by first | omega | (simp; done) | (simp; omega)) _ | refine Below.drew ?_))⟩

set_option maxHeartbeats 8000000 in
theorem rtright_loop (V : Int) (oa ob : Option Addr) (b off len cap m cap2 bo offo : Nat) (K A B N : Nat → Int) (L H : Nat → Nat) (O : Nat → Int) (w : World) (h0 : ¬ V < 0) (h1 : ¬ 64 < V) (h2 : ¬ (4000 : Int) < len) (h3 : ¬ (400 : Int) < m)
    (hoa : 0 < len → oa = some ⟨b, off, none⟩) (hops : OpsAt w b off len K A B N L H) (hob : 0 < m → ob = some ⟨bo, offo, none⟩) (ho : ∀ j, j < m → w.cell? ⟨bo, offo + j, none⟩ = some (.int .i64 (O j)))
    (r : Bool) (hr : ((allB len fun i => okOpR (K i) (A i) (B i) (N i) (L i) (H i) i V) && allB m fun j => okOut len (O j)) = r) :
    Calls Try.prog 11 #[.agg #[.int .i64 V, .slice oa len cap, .slice ob m cap2]] w fun e w' => e = .returned (.bool r) ∧ Below w.heap.size w w' := by
  have hoa' := Lib.hid hoa
  have hops' := Lib.hid hops
  have hob' := Lib.hid hob
  have ho' := Lib.hid ho
  have hr' := Lib.hid hr
  clear hoa hops hob ho hr
  go_enter Try.func11, Try.ntmps11
  go_wp2_with fail
  go_loopg [31] len (fun g i wr => ∃ k : Nat, k ≤ len ∧ g = len - k ∧ i = .int .i64 k ∧ Hid (Below w.heap.size w wr) ∧ Hid (w.heap.size < wr.heap.size) ∧ wr.cell? ⟨w.heap.size, 0, none⟩ = some (.int .i64 V) ∧ wr.cell? ⟨w.heap.size, 1, none⟩ = some (.slice oa len cap) ∧ wr.cell? ⟨w.heap.size, 2, none⟩ = some (.slice ob m cap2) ∧
    Hid (∀ j, j < k → okOpR (K j) (A j) (B j) (N j) (L j) (H j) j V = true))
  case atStart => exact ⟨0, Nat.zero_le _, rfl, rfl, (by repeat (first | exact Below.refl _ _ | assumption | refine Below.alloc ?_ (by first | omega | (simp; done) | (simp; omega)) _ | refine Below.setCell ?_ (by first | omega | (simp; done) | (simp; omega)) _ | refine Below.drew ?_)), by show w.heap.size < _; simp, by simp, by simp, by simp, fun j hj => absurd hj (by omega)⟩
  case round =>
    obtain ⟨k, hk, hg, rfl, hb, hs, c0, c1, c2, hall⟩ := hrel
    by_cases hlt : k < len
    · have e := hoa'.out (by omega)
      subst e
      obtain ⟨d0, d1, d2, d3, d4, d5⟩ := (hops'.out.mono hb.out) k hlt
      have hlt' : (k : Int) < (len : Int) := by omega
      have a0 : ∀ o, (wr.alloc o).cell? ⟨w.heap.size, 0, none⟩ = some (.int .i64 V) := fun o => Lib.cell?_alloc_some _ c0
      have a1 : ∀ o, (wr.alloc o).cell? ⟨w.heap.size, 1, none⟩ = some (.slice (some ⟨b, off, none⟩) len cap) := fun o => Lib.cell?_alloc_some _ c1
      have a2 : ∀ o, (wr.alloc o).cell? ⟨w.heap.size, 2, none⟩ = some (.slice ob m cap2) := fun o => Lib.cell?_alloc_some _ c2
      have hwa : Hid (∀ o, Below w.heap.size w (wr.alloc o)) := fun o => hb.out.alloc (Nat.le_of_lt hs.out) _
      generalize hKg : K k = kk at d0
      generalize hAg : A k = aa at d1
      generalize hBg : B k = bb at d2
      generalize hNg : N k = nn at d3
      generalize hLg : L k = ll at d4
      generalize hHg : H k = hh at d5
      have hO : Hid (∀ x, okOpR kk aa bb nn ll hh k V = x → okOpR (K k) (A k) (B k) (N k) (L k) (H k) k V = x) := fun x hx => by rw [hKg, hAg, hBg, hNg, hLg, hHg]; exact hx
      clear hKg hAg hBg hNg hLg hHg
      by_cases h4 : kk = 1
      · have H0 : Hid (needI kk = 0) := (by show needI kk = 0; unfold needI; rw [if_pos (Or.inl h4)])
        subst h4
        obtain ⟨p, hp⟩ : ∃ p, noneR ll hh = p := ⟨_, rfl⟩
        have R : Hid (∀ w, Calls Try.prog 42 #[(.agg #[.float .f64 ll, .float .f64 hh])] w fun e w' => e = .returned (.bool p) ∧ Below w.heap.size w w') := fun w => hp ▸ rnone_any ll hh w
        have hp2 := Lib.hid hp
        clear hp
        cases p
        · have hl : Hid (okOpR (K k) (A k) (B k) (N k) (L k) (H k) k V = true) := hO.out _ (by unfold okOpR; rw [if_pos rfl, hp2.out]; rfl)
          go_wp2_with (first | (go_at_call 46; refine (args_any _ _).mono ?_; rintro e wa ⟨rfl, hwa1⟩; subst hwa1; rw [H0.out]) | (go_at_call 42; refine (R.out _).mono ?_; rintro e w1 ⟨rfl, hb1⟩; have f0 := below_cell hb1 (p := ⟨wr.heap.size, 0, none⟩) (v := .int .i64 1) (by simp); have f3 := below_cell hb1 (p := ⟨wr.heap.size, 3, none⟩) (v := .int .i64 nn) (by simp); have g0 := below_cell hb1 (a0 _); have g1 := below_cell hb1 (a1 _); have g2 := below_cell hb1 (a2 _); have hsz := hb1.size))
          go_roundg (len - (k + 1))
          case measure => omega
          case rel =>
            refine ⟨k + 1, by omega, rfl, by go_num, (hwa.out _).trans (hb1.mono (by have := hs.out; simp; omega)), ?_, g0, g1, g2, fun j hj => ?_⟩
            · have h2 := hs.out; show w.heap.size < _; first | omega | (simp; omega) | (simp at hsz; omega)
            · by_cases hjk : j = k
              · rw [hjk]; exact hl.out
              · exact hall.out j (by omega)
        · have hl : Hid (okOpR (K k) (A k) (B k) (N k) (L k) (H k) k V = false) := hO.out _ (by unfold okOpR; rw [if_pos rfl, hp2.out]; rfl)
          go_wp2_with (first | (go_at_call 46; refine (args_any _ _).mono ?_; rintro e wa ⟨rfl, hwa1⟩; subst hwa1; rw [H0.out]) | (go_at_call 42; refine (R.out _).mono ?_; rintro e w1 ⟨rfl, hb1⟩; have f0 := below_cell hb1 (p := ⟨wr.heap.size, 0, none⟩) (v := .int .i64 1) (by simp); have f3 := below_cell hb1 (p := ⟨wr.heap.size, 3, none⟩) (v := .int .i64 nn) (by simp); have g0 := below_cell hb1 (a0 _); have g1 := below_cell hb1 (a1 _); have g2 := below_cell hb1 (a2 _); have hsz := hb1.size))
          go_ret
          exact ⟨by rw [← hr'.out, allB_no hlt hl.out]; rfl, (hwa.out _).trans (hb1.mono (by have := hs.out; simp; omega))⟩
      have e1 : (kk == 1) = false := by simpa using h4
      by_cases h5 : kk = 2
      · have H0 : Hid (needI kk = 0) := (by show needI kk = 0; unfold needI; rw [if_pos (Or.inr h5)])
        subst h5
        by_cases q0 : nn < 0
        · have hl : Hid (okOpR (K k) (A k) (B k) (N k) (L k) (H k) k V = false) := hO.out _ (by unfold okOpR; rw [if_neg (by decide), if_pos rfl]; simp; omega)
          go_wp2_with (first | (go_at_call 46; refine (args_any _ _).mono ?_; rintro e wa ⟨rfl, hwa1⟩; subst hwa1; rw [H0.out]))
          go_ret
          exact ⟨by rw [← hr'.out, allB_no hlt hl.out]; rfl, hwa.out _⟩
        by_cases q1 : V ≤ nn
        · have hl : Hid (okOpR (K k) (A k) (B k) (N k) (L k) (H k) k V = false) := hO.out _ (by unfold okOpR; rw [if_neg (by decide), if_pos rfl]; simp; omega)
          go_wp2_with (first | (go_at_call 46; refine (args_any _ _).mono ?_; rintro e wa ⟨rfl, hwa1⟩; subst hwa1; rw [H0.out]))
          go_ret
          exact ⟨by rw [← hr'.out, allB_no hlt hl.out]; rfl, hwa.out _⟩
        have hl : Hid (okOpR (K k) (A k) (B k) (N k) (L k) (H k) k V = true) := hO.out _ (by unfold okOpR; rw [if_neg (by decide), if_pos rfl]; simp; omega)
        go_wp2_with (first | (go_at_call 46; refine (args_any _ _).mono ?_; rintro e wa ⟨rfl, hwa1⟩; subst hwa1; rw [H0.out]))
        go_roundg (len - (k + 1))
        case measure => omega
        case rel =>
          refine ⟨k + 1, by omega, rfl, by go_num, hwa.out _, ?_, a0 _, a1 _, a2 _, fun j hj => ?_⟩
          · have h2 := hs.out; show w.heap.size < _; first | omega | (simp; omega) | (simp at hsz; omega)
          · by_cases hjk : j = k
            · rw [hjk]; exact hl.out
            · exact hall.out j (by omega)
      have e2 : (kk == 2) = false := by simpa using h5
      by_cases h6 : 3 ≤ kk ∧ kk ≤ 6
      · have H0 : Hid (needI kk = 2) := (by show needI kk = 2; unfold needI; rw [if_neg (by omega), if_pos h6])
        have e8 : (kk == 8) = false := by simp; omega
        have h6' := Lib.hid h6
        clear h6
        by_cases q0 : aa < 0
        · have hl : Hid (okOpR (K k) (A k) (B k) (N k) (L k) (H k) k V = false) := hO.out _ (by unfold okOpR; rw [if_neg h4, if_neg h5, if_pos h6'.out]; simp; omega)
          go_wp2_with (first | (go_at_call 46; refine (args_any _ _).mono ?_; rintro e wa ⟨rfl, hwa1⟩; subst hwa1; rw [H0.out]))
          go_ret
          exact ⟨by rw [← hr'.out, allB_no hlt hl.out]; rfl, hwa.out _⟩
        by_cases q1 : (k : Int) ≤ aa
        · have hl : Hid (okOpR (K k) (A k) (B k) (N k) (L k) (H k) k V = false) := hO.out _ (by unfold okOpR; rw [if_neg h4, if_neg h5, if_pos h6'.out]; simp; omega)
          go_wp2_with (first | (go_at_call 46; refine (args_any _ _).mono ?_; rintro e wa ⟨rfl, hwa1⟩; subst hwa1; rw [H0.out]))
          go_ret
          exact ⟨by rw [← hr'.out, allB_no hlt hl.out]; rfl, hwa.out _⟩
        by_cases q2 : bb < 0
        · have hl : Hid (okOpR (K k) (A k) (B k) (N k) (L k) (H k) k V = false) := hO.out _ (by unfold okOpR; rw [if_neg h4, if_neg h5, if_pos h6'.out]; simp; omega)
          go_wp2_with (first | (go_at_call 46; refine (args_any _ _).mono ?_; rintro e wa ⟨rfl, hwa1⟩; subst hwa1; rw [H0.out]))
          go_ret
          exact ⟨by rw [← hr'.out, allB_no hlt hl.out]; rfl, hwa.out _⟩
        by_cases q3 : (k : Int) ≤ bb
        · have hl : Hid (okOpR (K k) (A k) (B k) (N k) (L k) (H k) k V = false) := hO.out _ (by unfold okOpR; rw [if_neg h4, if_neg h5, if_pos h6'.out]; simp; omega)
          go_wp2_with (first | (go_at_call 46; refine (args_any _ _).mono ?_; rintro e wa ⟨rfl, hwa1⟩; subst hwa1; rw [H0.out]))
          go_ret
          exact ⟨by rw [← hr'.out, allB_no hlt hl.out]; rfl, hwa.out _⟩
        have hl : Hid (okOpR (K k) (A k) (B k) (N k) (L k) (H k) k V = true) := hO.out _ (by unfold okOpR; rw [if_neg h4, if_neg h5, if_pos h6'.out]; simp; omega)
        go_wp2_with (first | (go_at_call 46; refine (args_any _ _).mono ?_; rintro e wa ⟨rfl, hwa1⟩; subst hwa1; rw [H0.out]))
        go_roundg (len - (k + 1))
        case measure => omega
        case rel =>
          refine ⟨k + 1, by omega, rfl, by go_num, hwa.out _, ?_, a0 _, a1 _, a2 _, fun j hj => ?_⟩
          · have h2 := hs.out; show w.heap.size < _; first | omega | (simp; omega) | (simp at hsz; omega)
          · by_cases hjk : j = k
            · rw [hjk]; exact hl.out
            · exact hall.out j (by omega)
      have h6' := Lib.hid h6
      clear h6
      by_cases h7 : kk = 8
      · have H0 : Hid (needI kk = 1) := (by show needI kk = 1; unfold needI; rw [if_neg (by omega), if_neg h6'.out, if_pos (by omega)])
        subst h7
        by_cases q0 : aa < 0
        · have hl : Hid (okOpR (K k) (A k) (B k) (N k) (L k) (H k) k V = false) := hO.out _ (by unfold okOpR; rw [if_neg (by decide), if_neg (by decide), if_neg (by decide), if_pos rfl]; simp; omega)
          go_wp2_with (first | (go_at_call 46; refine (args_any _ _).mono ?_; rintro e wa ⟨rfl, hwa1⟩; subst hwa1; rw [H0.out]))
          go_ret
          exact ⟨by rw [← hr'.out, allB_no hlt hl.out]; rfl, hwa.out _⟩
        by_cases q1 : (k : Int) ≤ aa
        · have hl : Hid (okOpR (K k) (A k) (B k) (N k) (L k) (H k) k V = false) := hO.out _ (by unfold okOpR; rw [if_neg (by decide), if_neg (by decide), if_neg (by decide), if_pos rfl]; simp; omega)
          go_wp2_with (first | (go_at_call 46; refine (args_any _ _).mono ?_; rintro e wa ⟨rfl, hwa1⟩; subst hwa1; rw [H0.out]))
          go_ret
          exact ⟨by rw [← hr'.out, allB_no hlt hl.out]; rfl, hwa.out _⟩
        by_cases q2 : nn < -64
        · have hl : Hid (okOpR (K k) (A k) (B k) (N k) (L k) (H k) k V = false) := hO.out _ (by unfold okOpR; rw [if_neg (by decide), if_neg (by decide), if_neg (by decide), if_pos rfl]; simp; omega)
          go_wp2_with (first | (go_at_call 46; refine (args_any _ _).mono ?_; rintro e wa ⟨rfl, hwa1⟩; subst hwa1; rw [H0.out]))
          go_ret
          exact ⟨by rw [← hr'.out, allB_no hlt hl.out]; rfl, hwa.out _⟩
        by_cases q3 : 64 < nn
        · have hl : Hid (okOpR (K k) (A k) (B k) (N k) (L k) (H k) k V = false) := hO.out _ (by unfold okOpR; rw [if_neg (by decide), if_neg (by decide), if_neg (by decide), if_pos rfl]; simp; omega)
          go_wp2_with (first | (go_at_call 46; refine (args_any _ _).mono ?_; rintro e wa ⟨rfl, hwa1⟩; subst hwa1; rw [H0.out]))
          go_ret
          exact ⟨by rw [← hr'.out, allB_no hlt hl.out]; rfl, hwa.out _⟩
        have hl : Hid (okOpR (K k) (A k) (B k) (N k) (L k) (H k) k V = true) := hO.out _ (by unfold okOpR; rw [if_neg (by decide), if_neg (by decide), if_neg (by decide), if_pos rfl]; simp; omega)
        go_wp2_with (first | (go_at_call 46; refine (args_any _ _).mono ?_; rintro e wa ⟨rfl, hwa1⟩; subst hwa1; rw [H0.out]))
        go_roundg (len - (k + 1))
        case measure => omega
        case rel =>
          refine ⟨k + 1, by omega, rfl, by go_num, hwa.out _, ?_, a0 _, a1 _, a2 _, fun j hj => ?_⟩
          · have h2 := hs.out; show w.heap.size < _; first | omega | (simp; omega) | (simp at hsz; omega)
          · by_cases hjk : j = k
            · rw [hjk]; exact hl.out
            · exact hall.out j (by omega)
      have e8 : (kk == 8) = false := by simpa using h7
      by_cases h8 : 7 ≤ kk ∧ kk ≤ 14
      · have H0 : Hid (needI kk = 1) := (by show needI kk = 1; unfold needI; rw [if_neg (by omega), if_neg h6'.out, if_pos h8])
        have h8' := Lib.hid h8
        clear h8
        by_cases q0 : aa < 0
        · have hl : Hid (okOpR (K k) (A k) (B k) (N k) (L k) (H k) k V = false) := hO.out _ (by unfold okOpR; rw [if_neg h4, if_neg h5, if_neg h6'.out, if_neg h7, if_pos h8'.out]; simp; omega)
          go_wp2_with (first | (go_at_call 46; refine (args_any _ _).mono ?_; rintro e wa ⟨rfl, hwa1⟩; subst hwa1; rw [H0.out]))
          go_ret
          exact ⟨by rw [← hr'.out, allB_no hlt hl.out]; rfl, hwa.out _⟩
        by_cases q1 : (k : Int) ≤ aa
        · have hl : Hid (okOpR (K k) (A k) (B k) (N k) (L k) (H k) k V = false) := hO.out _ (by unfold okOpR; rw [if_neg h4, if_neg h5, if_neg h6'.out, if_neg h7, if_pos h8'.out]; simp; omega)
          go_wp2_with (first | (go_at_call 46; refine (args_any _ _).mono ?_; rintro e wa ⟨rfl, hwa1⟩; subst hwa1; rw [H0.out]))
          go_ret
          exact ⟨by rw [← hr'.out, allB_no hlt hl.out]; rfl, hwa.out _⟩
        have hl : Hid (okOpR (K k) (A k) (B k) (N k) (L k) (H k) k V = true) := hO.out _ (by unfold okOpR; rw [if_neg h4, if_neg h5, if_neg h6'.out, if_neg h7, if_pos h8'.out]; simp; omega)
        go_wp2_with (first | (go_at_call 46; refine (args_any _ _).mono ?_; rintro e wa ⟨rfl, hwa1⟩; subst hwa1; rw [H0.out]))
        go_roundg (len - (k + 1))
        case measure => omega
        case rel =>
          refine ⟨k + 1, by omega, rfl, by go_num, hwa.out _, ?_, a0 _, a1 _, a2 _, fun j hj => ?_⟩
          · have h2 := hs.out; show w.heap.size < _; first | omega | (simp; omega) | (simp at hsz; omega)
          · by_cases hjk : j = k
            · rw [hjk]; exact hl.out
            · exact hall.out j (by omega)
      have h8' := Lib.hid h8
      clear h8
      have H0 : Hid (needI kk = (-1)) := (by show needI kk = (-1); unfold needI; rw [if_neg (by omega), if_neg h6'.out, if_neg h8'.out])
      have hl : Hid (okOpR (K k) (A k) (B k) (N k) (L k) (H k) k V = false) := hO.out _ (by unfold okOpR; rw [if_neg h4, if_neg h5, if_neg h6'.out, if_neg h7, if_neg h8'.out])
      go_wp2_with (first | (go_at_call 46; refine (args_any _ _).mono ?_; rintro e wa ⟨rfl, hwa1⟩; subst hwa1; rw [H0.out]))
      go_ret
      exact ⟨by rw [← hr'.out, allB_no hlt hl.out]; rfl, hwa.out _⟩
    · have hlt' : ¬ (k : Int) < (len : Int) := by omega
      have hkm : k = len := by omega
      have hk' := Lib.hid hkm
      clear hkm
      have hall2 : Hid ((allB len fun i => okOpR (K i) (A i) (B i) (N i) (L i) (H i) i V) = true) := (allB_iff _ _).2 (hk'.out ▸ hall.out)
      go_wp2_with fail
      go_loopg [115] m (fun g i wx => wx = wr ∧ ∃ k : Nat, k ≤ m ∧ g = m - k ∧ i = .int .i64 k ∧ Hid (∀ j, j < k → okOut len (O j) = true))
      case atStart => exact ⟨rfl, 0, Nat.zero_le _, rfl, rfl, fun j hj => absurd hj (by omega)⟩
      case round =>
        obtain ⟨hwr, n, hn, hgn, rfl, halln⟩ := hrel
        subst hwr
        by_cases hnl : n < m
        · have e := hob'.out (by omega)
          subst e
          have d := below_cell hb.out (ho'.out n hnl)
          have hnl' : (n : Int) < (m : Int) := by omega
          by_cases q0 : O n < 0
          · have hl : Hid (okOut len (O n) = false) := by show okOut len (O n) = false; unfold okOut; simp; omega
            go_wp2_with fail
            go_ret
            exact ⟨by rw [← hr'.out, hall2.out, allB_no hnl hl.out]; rfl, hb.out⟩
          by_cases q1 : (len : Int) ≤ O n
          · have hl : Hid (okOut len (O n) = false) := by show okOut len (O n) = false; unfold okOut; simp; omega
            go_wp2_with fail
            go_ret
            exact ⟨by rw [← hr'.out, hall2.out, allB_no hnl hl.out]; rfl, hb.out⟩
          have hl : Hid (okOut len (O n) = true) := by show okOut len (O n) = true; unfold okOut; simp; omega
          go_wp2_with fail
          go_roundg (m - (n + 1))
          case measure => omega
          case rel =>
            refine ⟨rfl, n + 1, by omega, rfl, by go_num, fun j hj => ?_⟩
            by_cases hjk : j = n
            · rw [hjk]; exact hl.out
            · exact halln.out j (by omega)
        · have hnl' : ¬ (n : Int) < (m : Int) := by omega
          have hnm : n = m := by omega
          have hk2 := Lib.hid hnm
          clear hnm
          have hall3 : Hid ((allB m fun j => okOut len (O j)) = true) := (allB_iff _ _).2 (hk2.out ▸ halln.out)
          go_wp2_with fail
          go_ret
          exact ⟨by rw [← hr'.out, hall2.out, hall3.out]; rfl, hb.out⟩

end Go.Proofs.Ytonidoghcihnnaa
