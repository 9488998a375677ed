/- The walk of math/bits.Div64 at a divisor of 64 bits. -/
import Derived.Test.YtonidoghcihnnaaDivLaw
import Derived.Test.YtonidoghcihnnaaShelf
import Derived.Deep.LoopGhost
import Derived.Lib.Hide
namespace Go.Proofs.Ytonidoghcihnnaa
open Go.RowKit
set_option maxRecDepth 100000
set_option maxHeartbeats 1000000
set_option linter.unusedSimpArgs false
set_option linter.unusedVariables false

theorem wrap_fit {n : Nat} (h : n < W64) : IntKind.u64.wrap (n : Int) = (n : Int) := by rw [wrap_u64_nat, Nat.mod_eq_of_lt h]


theorem div64_walk (hi lo y y1 y0 u1 u0 Q1 Q0 n21 s1 t1 s2 t2 QQ RR : Nat) (w : World) (h1 : ((y : Int) == 0) = false) (h2 : ¬ (y : Int) ≤ (hi : Int)) (h3 : ((hi : Int) == 0) = false)
    (hz : ∀ w, Calls Try.prog 102 #[.int .u64 (y : Int)] w fun e w' => e = .returned (.int .i64 0) ∧ w' = w)
    (hwy : IntKind.u64.wrap (y : Int) = (y : Int)) (hwh : IntKind.u64.wrap (hi : Int) = (hi : Int)) (hwl : IntKind.u64.wrap (lo : Int) = (lo : Int)) (hy1 : (y : Int) / 4294967296 = (y1 : Int)) (h4 : ¬ (y1 : Int) = 0) (hy0 : Go.bits .and .u64 (y : Int) 4294967295 = (y0 : Int)) (hu1 : (lo : Int) / 4294967296 = (u1 : Int)) (hu0 : Go.bits .and .u64 (lo : Int) 4294967295 = (u0 : Int))
    (hor : Go.bits .or .u64 (hi : Int) ((lo : Int) / 18446744073709551616) = (hi : Int)) (hq1 : IntKind.u64.wrap ((hi : Int) / (y1 : Int)) = (s1 : Int)) (hr1 : IntKind.u64.wrap ((hi : Int) - IntKind.u64.wrap ((s1 : Int) * (y1 : Int))) = (t1 : Int))
    (hn : IntKind.u64.wrap (IntKind.u64.wrap (IntKind.u64.wrap ((hi : Int) * 4294967296) + (u1 : Int)) - IntKind.u64.wrap ((Q1 : Int) * (y : Int))) = (n21 : Int))
    (hq2 : IntKind.u64.wrap ((n21 : Int) / (y1 : Int)) = (s2 : Int)) (hr2 : IntKind.u64.wrap ((n21 : Int) - IntKind.u64.wrap ((s2 : Int) * (y1 : Int))) = (t2 : Int))
    (hQ : IntKind.u64.wrap (IntKind.u64.wrap ((Q1 : Int) * 4294967296) + (Q0 : Int)) = (QQ : Int)) (hQ2 : (Q1 : Int) * 4294967296 + (Q0 : Int) = (QQ : Int)) (hQ3 : IntKind.u64.wrap (QQ : Int) = (QQ : Int)) (hR : IntKind.u64.wrap (IntKind.u64.wrap (IntKind.u64.wrap ((n21 : Int) * 4294967296) + (u0 : Int)) - IntKind.u64.wrap ((Q0 : Int) * (y : Int))) = (RR : Int))
    (d1 : Digit hi u1 y Q1) (d0 : Digit n21 u0 y Q0) (ey1 : y1 = y / 4294967296) (ey0 : y0 = y % 4294967296) (st1 : Trial hi u1 y Q1 s1 t1 ∧ t1 < 4294967296) (st2 : Trial n21 u0 y Q0 s2 t2 ∧ t2 < 4294967296) :
    Calls Try.prog 103 #[.int .u64 (hi : Int), .int .u64 (lo : Int), .int .u64 (y : Int)] w fun e w' => e = .returned (.tuple #[.int .u64 (QQ : Int), .int .u64 (RR : Int)]) ∧ w' = w := by
  have Hz := Lib.hid hz
  have D1 := Lib.hid d1
  have D0 := Lib.hid d0
  have e1 := Lib.hid ey1
  have e0 := Lib.hid ey0
  have S1 := Lib.hid st1
  have S2 := Lib.hid st2
  clear hz d1 d0 ey1 ey0 st1 st2
  go_enter Try.func103, Try.ntmps103
  go_wp2_with (go_at_call 102; refine (Hz.out _).mono ?_; rintro e wz ⟨rfl, hwz⟩; subst hwz)
  go_loopg [15, 16] s1 (fun g a b wr => wr = wz ∧ ∃ r : Nat, a = .int .u64 (g : Int) ∧ b = .int .u64 (r : Int) ∧ Hid (Trial hi u1 y Q1 g r ∧ r < 4294967296))
  case atStart => exact ⟨rfl, t1, rfl, rfl, S1.out⟩
  case round =>
    obtain ⟨hwr, r, rfl, rfl, T⟩ := hrel
    subst hwr
    generalize gk = q at *
    obtain ⟨p, hp⟩ : ∃ p : Nat, p = q * y0 := ⟨_, rfl⟩
    obtain ⟨d, hd⟩ : ∃ d : Nat, d = 4294967296 * r + u1 := ⟨_, rfl⟩
    have v2 : IntKind.u64.wrap (IntKind.u64.wrap (4294967296 * (r : Int)) + (u1 : Int)) = (d : Int) := by
      have h1 := T.out.2; have h2 := D1.out.u
      rw [wrap_u64, wrap_u64]; omega
    have HP := Lib.hid hp
    have HD := Lib.hid hd
    clear hp hd
    by_cases g : (4294967296 : Int) ≤ (q : Int) ∨ (d : Int) < (p : Int)
    · have N := T.out.1.next D1.out (by have := HP.out; have := HD.out; have := e0.out; subst this; omega)
      obtain ⟨q', hq'⟩ : ∃ q' : Nat, q' = q - 1 := ⟨_, rfl⟩
      obtain ⟨r', hr'⟩ : ∃ r' : Nat, r' = r + y1 := ⟨_, rfl⟩
      have T' : Hid (Trial hi u1 y Q1 q' r') := by rw [hq', hr', e1.out]; exact N.2
      have v4 : IntKind.u64.wrap ((q : Int) - 1) = (q' : Int) := by
        have h1 := N.1; have h2 := T.out.1.small D1.out
        rw [wrap_u64]; omega
      have v5 : IntKind.u64.wrap ((r : Int) + (y1 : Int)) = (r' : Int) := by
        have h1 := T.out.2; have h2 := e1.out; have h3 := D1.out.y2
        rw [wrap_u64]; omega
      have hlt : Hid (q' < q) := by have := N.1; show q' < q; omega
      clear N hq' hr'
      by_cases g1 : (4294967296 : Int) ≤ (q : Int)
      · clear v2 HP HD g
        by_cases g2 : (4294967296 : Int) ≤ (r' : Int)
        · have h := T'.out.stop2 D1.out (by omega)
          subst h
          clear T T' hlt
          go_wp2_with fail
          go_loopg [18, 16] s2 (fun g a b wq => wq = wr ∧ ∃ r : Nat, a = .int .u64 (g : Int) ∧ b = .int .u64 (r : Int) ∧ Hid (Trial n21 u0 y Q0 g r ∧ r < 4294967296))
          case atStart => exact ⟨rfl, t2, rfl, rfl, S2.out⟩
          case round =>
            obtain ⟨hwr, r, rfl, rfl, T⟩ := hrel
            subst hwr
            generalize gk = q at *
            obtain ⟨p, hp⟩ : ∃ p : Nat, p = q * y0 := ⟨_, rfl⟩
            obtain ⟨d, hd⟩ : ∃ d : Nat, d = 4294967296 * r + u0 := ⟨_, rfl⟩
            have v2 : IntKind.u64.wrap (IntKind.u64.wrap (4294967296 * (r : Int)) + (u0 : Int)) = (d : Int) := by
              have h1 := T.out.2; have h2 := D0.out.u
              rw [wrap_u64, wrap_u64]; omega
            have HP := Lib.hid hp
            have HD := Lib.hid hd
            clear hp hd
            by_cases g : (4294967296 : Int) ≤ (q : Int) ∨ (d : Int) < (p : Int)
            · have N := T.out.1.next D0.out (by have := HP.out; have := HD.out; have := e0.out; subst this; omega)
              obtain ⟨q', hq'⟩ : ∃ q' : Nat, q' = q - 1 := ⟨_, rfl⟩
              obtain ⟨r', hr'⟩ : ∃ r' : Nat, r' = r + y1 := ⟨_, rfl⟩
              have T' : Hid (Trial n21 u0 y Q0 q' r') := by rw [hq', hr', e1.out]; exact N.2
              have v4 : IntKind.u64.wrap ((q : Int) - 1) = (q' : Int) := by
                have h1 := N.1; have h2 := T.out.1.small D0.out
                rw [wrap_u64]; omega
              have v5 : IntKind.u64.wrap ((r : Int) + (y1 : Int)) = (r' : Int) := by
                have h1 := T.out.2; have h2 := e1.out; have h3 := D0.out.y2
                rw [wrap_u64]; omega
              have hlt : Hid (q' < q) := by have := N.1; show q' < q; omega
              clear N hq' hr'
              by_cases g1 : (4294967296 : Int) ≤ (q : Int)
              · clear v2 HP HD g
                by_cases g2 : (4294967296 : Int) ≤ (r' : Int)
                · have h := T'.out.stop2 D0.out (by omega)
                  subst h
                  clear T T' hlt
                  go_wp2
                  go_ret2
                  exact ⟨rfl, rfl⟩
                · go_wp2_with fail
                  go_roundg q'
                  case measure => exact hlt.out
                  case rel => exact ⟨rfl, r', by go_num, by go_num, T'.out, by omega⟩
              · have g3 : (d : Int) < (p : Int) := by omega
                have v1 : IntKind.u64.wrap ((q : Int) * (y0 : Int)) = (p : Int) := by
                  have h1 := e0.out; have h2 : y0 < 4294967296 := by omega
                  have h3 := Nat.mul_le_mul (show q ≤ 4294967296 by omega) (Nat.le_of_lt h2)
                  have h4 : q * y0 < W64 := by
                    rw [W64_eq]
                    rcases Nat.eq_zero_or_pos y0 with h5 | h5
                    · rw [h5]; omega
                    · have := Nat.mul_lt_mul_of_lt_of_le (show q < 4294967296 by omega) (Nat.le_of_lt h2) (by omega); omega
                  rw [HP.out, ← Int.natCast_mul]; exact wrap_fit h4
                clear HP HD g
                by_cases g2 : (4294967296 : Int) ≤ (r' : Int)
                · have h := T'.out.stop2 D0.out (by omega)
                  subst h
                  clear T T' hlt
                  go_wp2
                  go_ret2
                  exact ⟨rfl, rfl⟩
                · go_wp2_with fail
                  go_roundg q'
                  case measure => exact hlt.out
                  case rel => exact ⟨rfl, r', by go_num, by go_num, T'.out, by omega⟩
            · have g1 : ¬ (4294967296 : Int) ≤ (q : Int) := by omega
              have g3 : ¬ (d : Int) < (p : Int) := by omega
              have v1 : IntKind.u64.wrap ((q : Int) * (y0 : Int)) = (p : Int) := by
                have h1 := e0.out; have h2 : y0 < 4294967296 := by omega
                have h4 : q * y0 < W64 := by
                  rw [W64_eq]
                  rcases Nat.eq_zero_or_pos y0 with h5 | h5
                  · rw [h5]; omega
                  · have := Nat.mul_lt_mul_of_lt_of_le (show q < 4294967296 by omega) (Nat.le_of_lt h2) (by omega); omega
                rw [HP.out, ← Int.natCast_mul]; exact wrap_fit h4
              have h := T.out.1.stop D0.out (by have := HP.out; have := HD.out; have := e0.out; subst this; omega)
              subst h
              clear T HP HD g
              go_wp2
              go_ret2
              exact ⟨rfl, rfl⟩
        · go_wp2_with fail
          go_roundg q'
          case measure => exact hlt.out
          case rel => exact ⟨rfl, r', by go_num, by go_num, T'.out, by omega⟩
      · have g3 : (d : Int) < (p : Int) := by omega
        have v1 : IntKind.u64.wrap ((q : Int) * (y0 : Int)) = (p : Int) := by
          have h1 := e0.out; have h2 : y0 < 4294967296 := by omega
          have h3 := Nat.mul_le_mul (show q ≤ 4294967296 by omega) (Nat.le_of_lt h2)
          have h4 : q * y0 < W64 := by
            rw [W64_eq]
            rcases Nat.eq_zero_or_pos y0 with h5 | h5
            · rw [h5]; omega
            · have := Nat.mul_lt_mul_of_lt_of_le (show q < 4294967296 by omega) (Nat.le_of_lt h2) (by omega); omega
          rw [HP.out, ← Int.natCast_mul]; exact wrap_fit h4
        clear HP HD g
        by_cases g2 : (4294967296 : Int) ≤ (r' : Int)
        · have h := T'.out.stop2 D1.out (by omega)
          subst h
          clear T T' hlt
          go_wp2_with fail
          go_loopg [18, 16] s2 (fun g a b wq => wq = wr ∧ ∃ r : Nat, a = .int .u64 (g : Int) ∧ b = .int .u64 (r : Int) ∧ Hid (Trial n21 u0 y Q0 g r ∧ r < 4294967296))
          case atStart => exact ⟨rfl, t2, rfl, rfl, S2.out⟩
          case round =>
            obtain ⟨hwr, r, rfl, rfl, T⟩ := hrel
            subst hwr
            generalize gk = q at *
            obtain ⟨p, hp⟩ : ∃ p : Nat, p = q * y0 := ⟨_, rfl⟩
            obtain ⟨d, hd⟩ : ∃ d : Nat, d = 4294967296 * r + u0 := ⟨_, rfl⟩
            have v2 : IntKind.u64.wrap (IntKind.u64.wrap (4294967296 * (r : Int)) + (u0 : Int)) = (d : Int) := by
              have h1 := T.out.2; have h2 := D0.out.u
              rw [wrap_u64, wrap_u64]; omega
            have HP := Lib.hid hp
            have HD := Lib.hid hd
            clear hp hd
            by_cases g : (4294967296 : Int) ≤ (q : Int) ∨ (d : Int) < (p : Int)
            · have N := T.out.1.next D0.out (by have := HP.out; have := HD.out; have := e0.out; subst this; omega)
              obtain ⟨q', hq'⟩ : ∃ q' : Nat, q' = q - 1 := ⟨_, rfl⟩
              obtain ⟨r', hr'⟩ : ∃ r' : Nat, r' = r + y1 := ⟨_, rfl⟩
              have T' : Hid (Trial n21 u0 y Q0 q' r') := by rw [hq', hr', e1.out]; exact N.2
              have v4 : IntKind.u64.wrap ((q : Int) - 1) = (q' : Int) := by
                have h1 := N.1; have h2 := T.out.1.small D0.out
                rw [wrap_u64]; omega
              have v5 : IntKind.u64.wrap ((r : Int) + (y1 : Int)) = (r' : Int) := by
                have h1 := T.out.2; have h2 := e1.out; have h3 := D0.out.y2
                rw [wrap_u64]; omega
              have hlt : Hid (q' < q) := by have := N.1; show q' < q; omega
              clear N hq' hr'
              by_cases g1 : (4294967296 : Int) ≤ (q : Int)
              · clear v2 HP HD g
                by_cases g2 : (4294967296 : Int) ≤ (r' : Int)
                · have h := T'.out.stop2 D0.out (by omega)
                  subst h
                  clear T T' hlt
                  go_wp2
                  go_ret2
                  exact ⟨rfl, rfl⟩
                · go_wp2_with fail
                  go_roundg q'
                  case measure => exact hlt.out
                  case rel => exact ⟨rfl, r', by go_num, by go_num, T'.out, by omega⟩
              · have g3 : (d : Int) < (p : Int) := by omega
                have v1 : IntKind.u64.wrap ((q : Int) * (y0 : Int)) = (p : Int) := by
                  have h1 := e0.out; have h2 : y0 < 4294967296 := by omega
                  have h3 := Nat.mul_le_mul (show q ≤ 4294967296 by omega) (Nat.le_of_lt h2)
                  have h4 : q * y0 < W64 := by
                    rw [W64_eq]
                    rcases Nat.eq_zero_or_pos y0 with h5 | h5
                    · rw [h5]; omega
                    · have := Nat.mul_lt_mul_of_lt_of_le (show q < 4294967296 by omega) (Nat.le_of_lt h2) (by omega); omega
                  rw [HP.out, ← Int.natCast_mul]; exact wrap_fit h4
                clear HP HD g
                by_cases g2 : (4294967296 : Int) ≤ (r' : Int)
                · have h := T'.out.stop2 D0.out (by omega)
                  subst h
                  clear T T' hlt
                  go_wp2
                  go_ret2
                  exact ⟨rfl, rfl⟩
                · go_wp2_with fail
                  go_roundg q'
                  case measure => exact hlt.out
                  case rel => exact ⟨rfl, r', by go_num, by go_num, T'.out, by omega⟩
            · have g1 : ¬ (4294967296 : Int) ≤ (q : Int) := by omega
              have g3 : ¬ (d : Int) < (p : Int) := by omega
              have v1 : IntKind.u64.wrap ((q : Int) * (y0 : Int)) = (p : Int) := by
                have h1 := e0.out; have h2 : y0 < 4294967296 := by omega
                have h4 : q * y0 < W64 := by
                  rw [W64_eq]
                  rcases Nat.eq_zero_or_pos y0 with h5 | h5
                  · rw [h5]; omega
                  · have := Nat.mul_lt_mul_of_lt_of_le (show q < 4294967296 by omega) (Nat.le_of_lt h2) (by omega); omega
                rw [HP.out, ← Int.natCast_mul]; exact wrap_fit h4
              have h := T.out.1.stop D0.out (by have := HP.out; have := HD.out; have := e0.out; subst this; omega)
              subst h
              clear T HP HD g
              go_wp2
              go_ret2
              exact ⟨rfl, rfl⟩
        · go_wp2_with fail
          go_roundg q'
          case measure => exact hlt.out
          case rel => exact ⟨rfl, r', by go_num, by go_num, T'.out, by omega⟩
    · have g1 : ¬ (4294967296 : Int) ≤ (q : Int) := by omega
      have g3 : ¬ (d : Int) < (p : Int) := by omega
      have v1 : IntKind.u64.wrap ((q : Int) * (y0 : Int)) = (p : Int) := by
        have h1 := e0.out; have h2 : y0 < 4294967296 := by omega
        have h4 : q * y0 < W64 := by
          rw [W64_eq]
          rcases Nat.eq_zero_or_pos y0 with h5 | h5
          · rw [h5]; omega
          · have := Nat.mul_lt_mul_of_lt_of_le (show q < 4294967296 by omega) (Nat.le_of_lt h2) (by omega); omega
        rw [HP.out, ← Int.natCast_mul]; exact wrap_fit h4
      have h := T.out.1.stop D1.out (by have := HP.out; have := HD.out; have := e0.out; subst this; omega)
      subst h
      clear T HP HD g
      go_wp2_with fail
      go_loopg [18, 16] s2 (fun g a b wq => wq = wr ∧ ∃ r : Nat, a = .int .u64 (g : Int) ∧ b = .int .u64 (r : Int) ∧ Hid (Trial n21 u0 y Q0 g r ∧ r < 4294967296))
      case atStart => exact ⟨rfl, t2, rfl, rfl, S2.out⟩
      case round =>
        obtain ⟨hwr, r, rfl, rfl, T⟩ := hrel
        subst hwr
        generalize gk = q at *
        obtain ⟨p, hp⟩ : ∃ p : Nat, p = q * y0 := ⟨_, rfl⟩
        obtain ⟨d, hd⟩ : ∃ d : Nat, d = 4294967296 * r + u0 := ⟨_, rfl⟩
        have v2 : IntKind.u64.wrap (IntKind.u64.wrap (4294967296 * (r : Int)) + (u0 : Int)) = (d : Int) := by
          have h1 := T.out.2; have h2 := D0.out.u
          rw [wrap_u64, wrap_u64]; omega
        have HP := Lib.hid hp
        have HD := Lib.hid hd
        clear hp hd
        by_cases g : (4294967296 : Int) ≤ (q : Int) ∨ (d : Int) < (p : Int)
        · have N := T.out.1.next D0.out (by have := HP.out; have := HD.out; have := e0.out; subst this; omega)
          obtain ⟨q', hq'⟩ : ∃ q' : Nat, q' = q - 1 := ⟨_, rfl⟩
          obtain ⟨r', hr'⟩ : ∃ r' : Nat, r' = r + y1 := ⟨_, rfl⟩
          have T' : Hid (Trial n21 u0 y Q0 q' r') := by rw [hq', hr', e1.out]; exact N.2
          have v4 : IntKind.u64.wrap ((q : Int) - 1) = (q' : Int) := by
            have h1 := N.1; have h2 := T.out.1.small D0.out
            rw [wrap_u64]; omega
          have v5 : IntKind.u64.wrap ((r : Int) + (y1 : Int)) = (r' : Int) := by
            have h1 := T.out.2; have h2 := e1.out; have h3 := D0.out.y2
            rw [wrap_u64]; omega
          have hlt : Hid (q' < q) := by have := N.1; show q' < q; omega
          clear N hq' hr'
          by_cases g1 : (4294967296 : Int) ≤ (q : Int)
          · clear v2 HP HD g
            by_cases g2 : (4294967296 : Int) ≤ (r' : Int)
            · have h := T'.out.stop2 D0.out (by omega)
              subst h
              clear T T' hlt
              go_wp2
              go_ret2
              exact ⟨rfl, rfl⟩
            · go_wp2_with fail
              go_roundg q'
              case measure => exact hlt.out
              case rel => exact ⟨rfl, r', by go_num, by go_num, T'.out, by omega⟩
          · have g3 : (d : Int) < (p : Int) := by omega
            have v1 : IntKind.u64.wrap ((q : Int) * (y0 : Int)) = (p : Int) := by
              have h1 := e0.out; have h2 : y0 < 4294967296 := by omega
              have h3 := Nat.mul_le_mul (show q ≤ 4294967296 by omega) (Nat.le_of_lt h2)
              have h4 : q * y0 < W64 := by
                rw [W64_eq]
                rcases Nat.eq_zero_or_pos y0 with h5 | h5
                · rw [h5]; omega
                · have := Nat.mul_lt_mul_of_lt_of_le (show q < 4294967296 by omega) (Nat.le_of_lt h2) (by omega); omega
              rw [HP.out, ← Int.natCast_mul]; exact wrap_fit h4
            clear HP HD g
            by_cases g2 : (4294967296 : Int) ≤ (r' : Int)
            · have h := T'.out.stop2 D0.out (by omega)
              subst h
              clear T T' hlt
              go_wp2
              go_ret2
              exact ⟨rfl, rfl⟩
            · go_wp2_with fail
              go_roundg q'
              case measure => exact hlt.out
              case rel => exact ⟨rfl, r', by go_num, by go_num, T'.out, by omega⟩
        · have g1 : ¬ (4294967296 : Int) ≤ (q : Int) := by omega
          have g3 : ¬ (d : Int) < (p : Int) := by omega
          have v1 : IntKind.u64.wrap ((q : Int) * (y0 : Int)) = (p : Int) := by
            have h1 := e0.out; have h2 : y0 < 4294967296 := by omega
            have h4 : q * y0 < W64 := by
              rw [W64_eq]
              rcases Nat.eq_zero_or_pos y0 with h5 | h5
              · rw [h5]; omega
              · have := Nat.mul_lt_mul_of_lt_of_le (show q < 4294967296 by omega) (Nat.le_of_lt h2) (by omega); omega
            rw [HP.out, ← Int.natCast_mul]; exact wrap_fit h4
          have h := T.out.1.stop D0.out (by have := HP.out; have := HD.out; have := e0.out; subst this; omega)
          subst h
          clear T HP HD g
          go_wp2
          go_ret2
          exact ⟨rfl, rfl⟩

theorem and_low {n : Nat} (h : n < W64) : Go.bits .and .u64 (n : Int) 4294967295 = ((n % 4294967296 : Nat) : Int) := by
  have h1 := Go.bits_mask .u64 64 (by decide) (fun n h0 h1 => by rw [wrap_u64]; have : (2 : Int) ^ 64 = 18446744073709551616 := rfl; omega) 32 (by decide) (n : Int) (by omega) (by have : (2 : Int) ^ 64 = 18446744073709551616 := rfl; rw [W64_eq] at h; omega)
  rw [show (2 : Int) ^ 32 - 1 = 4294967295 from rfl, show (2 : Int) ^ 32 = 4294967296 from rfl] at h1
  rw [h1]; omega
theorem or_zero {n : Nat} (h : n < W64) : Go.bits .or .u64 (n : Int) 0 = (n : Int) := by
  rw [show (0 : Int) = ((0 : Nat) : Int) from rfl, Go.u64_or_nat _ _ (by rw [← W64_eq]; exact h) (by decide), Nat.or_zero]

theorem div64_some {hi lo y Q1 Q0 n21 RR : Nat} (w : World) (h0 : hi ≠ 0) (h : hi < y) (hl : lo < W64) (y1 : 9223372036854775808 ≤ y) (y2 : y < W64) (D1 : Digit hi (lo / 4294967296) y Q1) (hn : n21 = hi * 4294967296 + lo / 4294967296 - Q1 * y)
    (D0 : Digit n21 (lo % 4294967296) y Q0) (hR : RR = n21 * 4294967296 + lo % 4294967296 - Q0 * y) :
    Calls Try.prog 103 #[.int .u64 (hi : Int), .int .u64 (lo : Int), .int .u64 (y : Int)] w fun e w' => e = .returned (.tuple #[.int .u64 ((Q1 * 4294967296 + Q0 : Nat) : Int), .int .u64 (RR : Int)]) ∧ w' = w := by
  have hW := W64_eq
  have S1 := Trial.start D1
  have S2 := Trial.start D0
  have r1 := D1.rest; have r0 := D0.rest; have l1 := D1.lt; have l0 := D0.lt
  have s1 := S1.1.small D1; have s2 := S2.1.small D0
  have hyy : 2147483648 ≤ y / 4294967296 ∧ y / 4294967296 < 4294967296 := by omega
  have a1 := Nat.div_add_mod hi (y / 4294967296)
  have a2 := Nat.div_add_mod n21 (y / 4294967296)
  have hblen : blen y = 64 := blen_unique (k := 63) (by omega) (by omega)
  obtain ⟨P1, hP1⟩ : ∃ P, P = Q1 * y := ⟨_, rfl⟩
  obtain ⟨P0, hP0⟩ : ∃ P, P = Q0 * y := ⟨_, rfl⟩
  rw [← hP1] at hn r1
  rw [← hP0] at hR r0
  have c1 : (Q1 : Int) * (y : Int) = (P1 : Int) := by rw [hP1, Int.natCast_mul]
  have c0 : (Q0 : Int) * (y : Int) = (P0 : Int) := by rw [hP0, Int.natCast_mul]
  obtain ⟨A1, hA1⟩ : ∃ A, A = hi / (y / 4294967296) := ⟨_, rfl⟩
  obtain ⟨A2, hA2⟩ : ∃ A, A = n21 / (y / 4294967296) := ⟨_, rfl⟩
  obtain ⟨M1, hM1⟩ : ∃ A, A = hi % (y / 4294967296) := ⟨_, rfl⟩
  obtain ⟨M2, hM2⟩ : ∃ A, A = n21 % (y / 4294967296) := ⟨_, rfl⟩
  obtain ⟨Y1, hY1⟩ : ∃ A, A = y / 4294967296 := ⟨_, rfl⟩
  have dd1 : (hi : Int) / (Y1 : Int) = (A1 : Int) := by rw [hA1, ← hY1]; simp
  have dd2 : (n21 : Int) / (Y1 : Int) = (A2 : Int) := by rw [hA2, ← hY1]; simp
  rw [← hA1, ← hM1] at S1 a1
  rw [← hA2, ← hM2] at S2 a2
  rw [← hA1] at s1
  rw [← hA2] at s2
  rw [← hY1] at a1 a2
  obtain ⟨X1, hX1⟩ : ∃ A, A = Y1 * A1 := ⟨_, rfl⟩
  obtain ⟨X2, hX2⟩ : ∃ A, A = Y1 * A2 := ⟨_, rfl⟩
  have q1 : (A1 : Int) * (Y1 : Int) = (X1 : Int) := by rw [hX1, ← Int.natCast_mul, Nat.mul_comm]
  have q2 : (A2 : Int) * (Y1 : Int) = (X2 : Int) := by rw [hX2, ← Int.natCast_mul, Nat.mul_comm]
  rw [← hX1] at a1
  rw [← hX2] at a2
  clear hX1 hX2 hP1 hP0 hA1 hA2 hM1 hM2
  have b1 := D1.h; have b0 := D0.h
  refine div64_walk hi lo y Y1 (y % 4294967296) (lo / 4294967296) (lo % 4294967296) Q1 Q0 n21 A1 M1 A2 M2 (Q1 * 4294967296 + Q0) RR w
    (by simp; omega) (by omega) (by simp; omega) (fun w => ?_) (wrap_fit y2) (wrap_fit (by omega)) (wrap_fit hl) (by omega) (by omega) (and_low y2) (by omega) (and_low hl) ?_ ?_ ?_ ?_ ?_ ?_ ?_ ?_ ?_ ?_ D1 D0 hY1 rfl S1 S2
  · have h1 := Try.bits_LeadingZeros64 (y : Int) w (by omega) (by omega)
    rw [Int.toNat_natCast, bitLen_eq y2, hblen] at h1
    exact h1
  · rw [show (lo : Int) / 18446744073709551616 = 0 by omega]
    exact or_zero (by omega)
  · rw [dd1]
    exact wrap_fit (by omega)
  · rw [q1, wrap_u64, wrap_u64]; omega
  · rw [c1, wrap_u64, wrap_u64, wrap_u64, wrap_u64]; omega
  · rw [dd2]
    exact wrap_fit (by omega)
  · rw [q2, wrap_u64, wrap_u64]; omega
  · rw [wrap_u64, wrap_u64]; omega
  · omega
  · exact wrap_fit (by omega)
  · rw [c0, wrap_u64, wrap_u64, wrap_u64, wrap_u64]; omega

/-- math/bits.Div64 at a divisor of 64 bits, and a number that is greater than 64 bits. -/
theorem div64_any {hi lo y : Nat} (w : World) (h0 : hi ≠ 0) (h : hi < y) (hl : lo < W64) (y1 : 9223372036854775808 ≤ y) (y2 : y < W64) :
    Calls Try.prog 103 #[.int .u64 (hi : Int), .int .u64 (lo : Int), .int .u64 (y : Int)] w fun e w' => e = .returned (.tuple #[.int .u64 (((hi * W64 + lo) / y : Nat) : Int), .int .u64 (((hi * W64 + lo) % y : Nat) : Int)]) ∧ w' = w := by
  have hW := W64_eq
  have D1 := Digit.of (un := lo / 4294967296) y1 (by omega) h (by omega)
  have D0 := Digit.of (un := lo % 4294967296) y1 (by omega) D1.rest.1 (by omega)
  have dg := digits D1 D0
  have key := div64_some w h0 h hl y1 y2 D1 rfl D0 rfl
  have e1 : ∀ Q1 Q0 R : Nat, hi * 18446744073709551616 + lo = (Q1 * 4294967296 + Q0) * y + R → R < y → (hi * W64 + lo) / y = Q1 * 4294967296 + Q0 ∧ (hi * W64 + lo) % y = R := fun Q1 Q0 R g1 g2 => by
    rw [hW, g1]
    constructor
    · rw [Nat.mul_comm, Nat.mul_add_div (by omega), Nat.div_eq_of_lt g2, Nat.add_zero]
    · rw [Nat.mul_comm, Nat.mul_add_mod, Nat.mod_eq_of_lt g2]
  have e2 := e1 _ _ _ dg.1 dg.2.1
  rw [e2.1, e2.2]
  exact key

end Go.Proofs.Ytonidoghcihnnaa
