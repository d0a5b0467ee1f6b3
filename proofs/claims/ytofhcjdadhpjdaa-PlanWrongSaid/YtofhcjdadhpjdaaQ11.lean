-- written by a program of this session (wip/xprint) over the translation
import Derived.Test.YtofhcjdadhpjdaaQ0
import Derived.Test.YtofhcjdadhpjdaaQ10
namespace Go.Proofs.Ytofhcjdadhpjdaa.Q
open Go.RowKit Go.Proofs.YtofhcjdadhpjdaaW.PrintWords Go.Proofs.YtofhcjdadhpjdaaW.PrintLast Go.Proofs.YtofhcjdadhpjdaaW.PrintMore
attribute [local go_sem] max2_int min2_int max_two min_two max_three min_three max_four min_four   -- for this text's walks alone
set_option linter.unusedVariables false
set_option linter.unusedSimpArgs false

/-! ### quote_Escape: function 115 -/
mutual
def quote_Escape.j0 : Nat → ByteArray → Int → Bool → Option (Int × Int × Int)
  | 0, _, _, _ => none
  | k + 1, x0, x1, x11 => if x11 = true then (some (0, 0, 3)) else (if (wrap64 (x1 + 1)) = (x0.size : Int) then (some (0, 0, 5)) else (if 0 ≤ (wrap64 (x1 + 1)) then (if (wrap64 (x1 + 1)) < (x0.size : Int) then ((quote_digit.f (bt x0 (wrap64 (x1 + 1)))).bind fun t113 => (if t113 = true then (quote_Escape.l0 k x0 x1 0 (wrap64 (x1 + 1))) else (if (bt x0 (wrap64 (x1 + 1))) = 114 then (some (((0 + 3) + 1) + 9, wrap64 (x1 + 2), 0)) else (if (bt x0 (wrap64 (x1 + 1))) = 110 then (some ((0 + 1) + 9, wrap64 (x1 + 2), 0)) else (if (bt x0 (wrap64 (x1 + 1))) = 116 then (some (0 + 9, wrap64 (x1 + 2), 0)) else (some (bt x0 (wrap64 (x1 + 1)), wrap64 (x1 + 2), 0))))))) else (none)) else (none)))
def quote_Escape.l0 : Nat → ByteArray → Int → Int → Int → Option (Int × Int × Int)
  | 0, _, _, _, _ => none
  | k + 1, x0, x1, x8, x9 => if x9 < (x0.size : Int) then (if x9 < (wrap64 (x1 + 4)) then (if 0 ≤ x9 then ((quote_digit.f (bt x0 x9)).bind fun t114 => (if t114 = true then (quote_Escape.l0 k x0 x1 (Go.bits .or .i64 (wrap64 (x8 * 8)) (((bt x0 x9) - 48) % 256)) (wrap64 (x9 + 1))) else (some ((x8) % 256, x9, 0)))) else (none)) else (some ((x8) % 256, x9, 0))) else (some ((x8) % 256, x9, 0))
end
def quote_Escape.f (k : Nat) (a0 : ByteArray) (a1 : Int) : Option (Int × Int × Int) := if a1 < 0 then (quote_Escape.j0 k a0 a1 true) else (if a1 ≥ (a0.size : Int) then (quote_Escape.j0 k a0 a1 true) else (if 0 ≤ a1 then (if a1 < (a0.size : Int) then (quote_Escape.j0 k a0 a1 ((bt a0 a1) != 92)) else (none)) else (none)))
set_option maxHeartbeats 8000000 in
set_option maxRecDepth 100000 in
theorem quote_Escape.calls (k : Nat) (a0 : ByteArray) (a1 : Int) (r1 : Int) (r2 : Int) (r3 : Int) (w : World) (h : quote_Escape.f k a0 a1 = some (r1, r2, r3)) :
    Calls Try.prog 115 #[.string a0, .int .i64 a1] w fun e w' => e = .returned (.tuple #[.int .u8 r1, .int .i64 r2, .int .i64 r3]) ∧ Drawn0 w w' := by
  have H : (if a1 < 0 then (quote_Escape.j0 k a0 a1 true) else (if a1 ≥ (a0.size : Int) then (quote_Escape.j0 k a0 a1 true) else (if 0 ≤ a1 then (if a1 < (a0.size : Int) then (quote_Escape.j0 k a0 a1 ((bt a0 a1) != 92)) else (none)) else (none)))) = some (r1, r2, r3) := h
  clear h
  have HC3 := Aside0.mk H
  clear H
  go_enter Try.func115, Try.ntmps115
  go_upto_region 1 with (fail)
  go_cut [11] (fun v11 wc => ∃ (kq : Nat) (x11_2 : Bool), v11 = .bool x11_2 ∧ Aside0 (quote_Escape.j0 kq a0 a1 x11_2 = some (r1, r2, r3)) ∧ Aside0 (kq ≤ k) ∧ Drawn0 w wc)
  case first =>
    have H := HC3.out
    clear HC3
    by_cases c4 : a1 < 0
    · rw [if_pos c4] at H
      have c4b0 : decide (a1 < 0) = true := decide_eq_true c4
      clear c4
      (first | rw [c4b0] | (simp only [i64_w, i32_w]; rw [c4b0]) | skip)
      have H' := Aside0.mk H
      clear H
      go_wp2
      go_meet
      case rel => exact ⟨_, (true), (by first | rfl | (simp; done) | (simp [*]; done)), H', ⟨by first | omega | exact Nat.le_refl _⟩, by repeat (first | exact Drawn0.refl _ | apply Drawn0.step)⟩
    · rw [if_neg c4] at H
      have c4b0 : decide (a1 < 0) = false := decide_eq_false c4
      clear c4
      (first | rw [c4b0] | (simp only [i64_w, i32_w]; rw [c4b0]) | skip)
      by_cases c5 : a1 ≥ (a0.size : Int)
      · rw [if_pos c5] at H
        have c5b0 : decide ((a0.size : Int) ≤ a1) = true := decide_eq_true c5
        clear c5
        have H' := Aside0.mk H
        clear H
        go_wp2
        go_meet
        case rel => exact ⟨_, (true), (by first | rfl | (simp; done) | (simp [*]; done)), H', ⟨by first | omega | exact Nat.le_refl _⟩, by repeat (first | exact Drawn0.refl _ | apply Drawn0.step)⟩
      · rw [if_neg c5] at H
        have c5b0 : decide ((a0.size : Int) ≤ a1) = false := decide_eq_false c5
        clear c5
        by_cases c6 : 0 ≤ a1
        · rw [if_pos c6] at H
          have c6b0 : decide (0 ≤ a1) = true := decide_eq_true c6
          clear c6
          by_cases c7 : a1 < (a0.size : Int)
          · rw [if_pos c7] at H
            have c7b0 : decide (a1 < (a0.size : Int)) = true := decide_eq_true c7
            clear c7
            have H' := Aside0.mk H
            clear H
            have p8 : 0 ≤ (a1 : Int) := of_decide_eq_true (by first | (with_reducible assumption) | assumption)
            have q8 : a1 < (a0.size : Int) := of_decide_eq_true (by first | (with_reducible assumption) | assumption)
            have hx8 := bt_at a0 a1
            replace p8 := eq_true p8
            replace q8 := eq_true q8
            go_wp2
            go_meet
            case rel => exact ⟨_, (((bt a0 a1) != 92)), (by first | rfl | (simp; done) | (simp [*]; done)), H', ⟨by first | omega | exact Nat.le_refl _⟩, by repeat (first | exact Drawn0.refl _ | apply Drawn0.step)⟩
          · rw [if_neg c7] at H
            exact absurd H (by simp)
        · rw [if_neg c6] at H
          exact absurd H (by simp)
  case rest =>
    clear HC3
    try clear c1
    try clear p2
    try clear c4
    try clear c4b0
    try clear c5
    try clear c5b0
    try clear c6
    try clear c6b0
    try clear c7
    try clear c7b0
    try clear p8
    try clear q8
    try clear hx8
    try clear p8
    try clear q8
    obtain ⟨kq, x11_2, rfl, HA, HJ2, ⟨mc2, rfl⟩⟩ := hcut
    cases kq with
    | zero => exact absurd HA.out (by simp [quote_Escape.j0])
    | succ kj2 =>
      have H := HA.out
      clear HA
      simp only [quote_Escape.j0] at H
      by_cases c9 : x11_2 = true
      · subst c9
        have H1 : (some (0, 0, 3)) = some (r1, r2, r3) := by rw [if_pos rfl] at H; exact H
        clear H
        have H := H1
        clear H1
        simp only [Option.some.injEq, Prod.mk.injEq] at H
        obtain ⟨rfl, rfl, rfl⟩ := H
        go_wp2
        go_ret3
        exact ⟨by first | rfl | (simp; done) | (simp [*]; done), by repeat (first | exact Drawn0.refl _ | apply Drawn0.step)⟩
      · replace c9 := Bool.eq_false_iff.mpr c9
        subst c9
        have H1 : (if (wrap64 (a1 + 1)) = (a0.size : Int) then (some (0, 0, 5)) else (if 0 ≤ (wrap64 (a1 + 1)) then (if (wrap64 (a1 + 1)) < (a0.size : Int) then ((quote_digit.f (bt a0 (wrap64 (a1 + 1)))).bind fun t113 => (if t113 = true then (quote_Escape.l0 kj2 a0 a1 0 (wrap64 (a1 + 1))) else (if (bt a0 (wrap64 (a1 + 1))) = 114 then (some (((0 + 3) + 1) + 9, wrap64 (a1 + 2), 0)) else (if (bt a0 (wrap64 (a1 + 1))) = 110 then (some ((0 + 1) + 9, wrap64 (a1 + 2), 0)) else (if (bt a0 (wrap64 (a1 + 1))) = 116 then (some (0 + 9, wrap64 (a1 + 2), 0)) else (some (bt a0 (wrap64 (a1 + 1)), wrap64 (a1 + 2), 0))))))) else (none)) else (none))) = some (r1, r2, r3) := by rw [if_neg (show ¬ (false = true) by decide)] at H; exact H
        clear H
        have H := H1
        clear H1
        by_cases c10 : (wrap64 (a1 + 1)) = (a0.size : Int)
        · rw [if_pos c10] at H
          have c10b0 : ((wrap64 (a1 + 1)) == (a0.size : Int)) = true := beq_iff_eq.mpr c10
          have c10b1 : ((wrap64 (a1 + 1)) != (a0.size : Int)) = false := bne_eq_false_iff_eq.mpr c10
          clear c10
          simp only [Option.some.injEq, Prod.mk.injEq] at H
          obtain ⟨rfl, rfl, rfl⟩ := H
          go_wp2
          go_ret3
          exact ⟨by first | rfl | (simp; done) | (simp [*]; done), by repeat (first | exact Drawn0.refl _ | apply Drawn0.step)⟩
        · rw [if_neg c10] at H
          have c10b0 : ((wrap64 (a1 + 1)) == (a0.size : Int)) = false := beq_eq_false_iff_ne.mpr c10
          have c10b1 : ((wrap64 (a1 + 1)) != (a0.size : Int)) = true := bne_iff_ne.mpr c10
          obtain ⟨ji11, hji11⟩ : ∃ j_ : Int, (wrap64 (a1 + 1)) = j_ := ⟨_, rfl⟩
          replace H : (if 0 ≤ (ji11) then (if (ji11) < (a0.size : Int) then ((quote_digit.f (bt a0 (ji11))).bind fun t113 => (if t113 = true then (quote_Escape.l0 kj2 a0 a1 0 ji11) else (if (bt a0 (ji11)) = 114 then (some (((0 + 3) + 1) + 9, wrap64 (a1 + 2), 0)) else (if (bt a0 (ji11)) = 110 then (some ((0 + 1) + 9, wrap64 (a1 + 2), 0)) else (if (bt a0 (ji11)) = 116 then (some (0 + 9, wrap64 (a1 + 2), 0)) else (some (bt a0 (ji11), wrap64 (a1 + 2), 0))))))) else (none)) else (none)) = some (r1, r2, r3) := by first | (rw [hji11] at H; exact H) | (simp only [hji11] at H ⊢; exact H)
          (try rw [hji11] at c10b0)
          (try rw [hji11] at c10b1)
          have hji11w : (IntKind.i64.wrap (a1 + 1)) = ji11 := (i64_w _).trans hji11
          by_cases c12 : 0 ≤ (ji11)
          · rw [if_pos c12] at H
            have c12b0 : decide (0 ≤ (ji11)) = true := decide_eq_true c12
            clear c12
            by_cases c13 : (ji11) < (a0.size : Int)
            · rw [if_pos c13] at H
              have c13b0 : decide ((ji11) < (a0.size : Int)) = true := decide_eq_true c13
              clear c13
              replace H := Option.bind_eq_some_iff.mp H
              obtain ⟨t113, A150, H⟩ := H
              replace H : (if t113 = true then (quote_Escape.l0 kj2 a0 a1 0 ji11) else (if (bt a0 (ji11)) = 114 then (some (((0 + 3) + 1) + 9, wrap64 (a1 + 2), 0)) else (if (bt a0 (ji11)) = 110 then (some ((0 + 1) + 9, wrap64 (a1 + 2), 0)) else (if (bt a0 (ji11)) = 116 then (some (0 + 9, wrap64 (a1 + 2), 0)) else (some (bt a0 (ji11), wrap64 (a1 + 2), 0)))))) = some (r1, r2, r3) := H
              have A15 := Aside0.mk A150
              clear A150
              by_cases c16 : t113 = true
              · subst c16
                have H1 : (quote_Escape.l0 kj2 a0 a1 0 ji11) = some (r1, r2, r3) := by rw [if_pos rfl] at H; exact H
                clear H
                have H := H1
                clear H1
                have H' := Aside0.mk H
                clear H
                have p14 : 0 ≤ ((ji11) : Int) := of_decide_eq_true (by first | (with_reducible assumption) | assumption)
                have q14 : (ji11) < (a0.size : Int) := of_decide_eq_true (by first | (with_reducible assumption) | assumption)
                have hx14 := bt_at a0 (ji11)
                replace p14 := eq_true p14
                replace q14 := eq_true q14
                go_wp2_with (first | ((with_reducible refine gate_callee (f := 124) rfl ?_); refine goesL_ (some 37) rfl rfl Try.func124 (by kernel_rfl) rfl #[.int .u8 (bt a0 (ji11))] rfl (by (try simp only [List.map_toArray, List.map_cons, List.map_nil]); first | done | (simp only [hji11]; rfl) | rfl | (simp only [List.length_drop, List.length_take]; rfl)) ?_; (with_reducible refine (quote_digit.calls (bt a0 (ji11)) true _ A15.out).mono ?_); rintro e w' ⟨rfl, ⟨nd, rfl⟩⟩; refine ⟨_, rfl, ?_⟩))
                go_loopg [8, 9] kj2 (fun kq v8 v9 w' => ∃ (x8_2 : Int) (x9_2 : Int), v8 = .int .i64 x8_2 ∧ v9 = .int .i64 x9_2 ∧ Aside0 (quote_Escape.l0 kq a0 a1 x8_2 x9_2 = some (r1, r2, r3)) ∧ Aside0 (kq ≤ kj2) ∧ Drawn0 w w')
                case atStart => exact ⟨(0), (ji11), (by first | rfl | (simp; done) | (simp [*]; done)), (by first | rfl | (simp; done) | (simp only [← hji11] <;> (first | rfl | simp)) | (simp [*]; done)), H', ⟨Nat.le_refl _⟩, by repeat (first | exact Drawn0.refl _ | apply Drawn0.step)⟩
                case round =>
                  clear H'
                  try clear c1
                  try clear p1
                  try clear q1
                  try clear hx1
                  try clear c2
                  try clear p2
                  try clear c4
                  try clear c4b0
                  try clear c5
                  try clear c5b0
                  try clear c6
                  try clear c6b0
                  try clear p6
                  try clear c7
                  try clear c7b0
                  try clear p8
                  try clear q8
                  try clear hx8
                  try clear c9
                  try clear c10
                  try clear c10b0
                  try clear c10b1
                  try clear c11
                  try clear c12
                  try clear c12b0
                  try clear c13
                  try clear c13b0
                  try clear p14
                  try clear q14
                  try clear hx14
                  try clear c16
                  try clear p14
                  try clear p2
                  try clear p8
                  try clear q14
                  try clear q8
                  obtain ⟨x8_2, x9_2, rfl, rfl, HA, HK2, ⟨m2, rfl⟩⟩ := hrel
                  cases gk with
                  | zero => exact absurd HA.out (by simp [quote_Escape.l0])
                  | succ k2 =>
                    have H := HA.out
                    clear HA
                    simp only [quote_Escape.l0] at H
                    by_cases c17 : x9_2 < (a0.size : Int)
                    · rw [if_pos c17] at H
                      have c17b0 : decide (x9_2 < (a0.size : Int)) = true := decide_eq_true c17
                      clear c17
                      by_cases c18 : x9_2 < (wrap64 (a1 + 4))
                      · rw [if_pos c18] at H
                        have c18b0 : decide (x9_2 < (wrap64 (a1 + 4))) = true := decide_eq_true c18
                        clear c18
                        by_cases c19 : 0 ≤ x9_2
                        · rw [if_pos c19] at H
                          have c19b0 : decide (0 ≤ x9_2) = true := decide_eq_true c19
                          clear c19
                          replace H := Option.bind_eq_some_iff.mp H
                          obtain ⟨t114, A210, H⟩ := H
                          replace H : (if t114 = true then (quote_Escape.l0 k2 a0 a1 (Go.bits .or .i64 (wrap64 (x8_2 * 8)) (((bt a0 x9_2) - 48) % 256)) (wrap64 (x9_2 + 1))) else (some ((x8_2) % 256, x9_2, 0))) = some (r1, r2, r3) := H
                          have A21 := Aside0.mk A210
                          clear A210
                          by_cases c22 : t114 = true
                          · subst c22
                            have H1 : (quote_Escape.l0 k2 a0 a1 (Go.bits .or .i64 (wrap64 (x8_2 * 8)) (((bt a0 x9_2) - 48) % 256)) (wrap64 (x9_2 + 1))) = some (r1, r2, r3) := by rw [if_pos rfl] at H; exact H
                            clear H
                            have H := H1
                            clear H1
                            have H' := Aside0.mk H
                            clear H
                            have p20 : 0 ≤ (x9_2 : Int) := of_decide_eq_true (by first | (with_reducible assumption) | assumption)
                            have q20 : x9_2 < (a0.size : Int) := of_decide_eq_true (by first | (with_reducible assumption) | assumption)
                            have hx20 := bt_at a0 x9_2
                            replace p20 := eq_true p20
                            replace q20 := eq_true q20
                            go_wp2_with (first | (go_at_call 124; (with_reducible refine (quote_digit.calls (bt a0 x9_2) true _ A21.out).mono ?_); rintro e w' ⟨rfl, ⟨nd, rfl⟩⟩; have p23 : 0 ≤ (x9_2 : Int) := of_decide_eq_true (by first | (with_reducible assumption) | assumption); have q23 : x9_2 < (a0.size : Int) := of_decide_eq_true (by first | (with_reducible assumption) | assumption); have hx23 := bt_at a0 x9_2; replace p23 := eq_true p23; replace q23 := eq_true q23))
                            go_roundg k2
                            case measure => have := HJ2.out; have := HK2.out; omega
                            case rel => exact ⟨(Go.bits .or .i64 (wrap64 (x8_2 * 8)) (((bt a0 x9_2) - 48) % 256)), (wrap64 (x9_2 + 1)), (by first | rfl | (simp; done) | (simp [*]; done)), (by first | rfl | (simp; done) | (simp [*]; done)), H', ⟨by have := HJ2.out; have := HK2.out; omega⟩, by repeat (first | exact Drawn0.refl _ | apply Drawn0.step)⟩
                          · replace c22 := Bool.eq_false_iff.mpr c22
                            subst c22
                            have H1 : (some ((x8_2) % 256, x9_2, 0)) = some (r1, r2, r3) := by rw [if_neg (show ¬ (false = true) by decide)] at H; exact H
                            clear H
                            have H := H1
                            clear H1
                            simp only [Option.some.injEq, Prod.mk.injEq] at H
                            obtain ⟨rfl, rfl, rfl⟩ := H
                            have p20 : 0 ≤ (x9_2 : Int) := of_decide_eq_true (by first | (with_reducible assumption) | assumption)
                            have q20 : x9_2 < (a0.size : Int) := of_decide_eq_true (by first | (with_reducible assumption) | assumption)
                            have hx20 := bt_at a0 x9_2
                            replace p20 := eq_true p20
                            replace q20 := eq_true q20
                            go_wp2_with (first | (go_at_call 124; (with_reducible refine (quote_digit.calls (bt a0 x9_2) false _ A21.out).mono ?_); rintro e w' ⟨rfl, ⟨nd, rfl⟩⟩))
                            go_ret3
                            exact ⟨by first | rfl | (simp; done) | (simp only [← hji11] <;> (first | rfl | simp)) | (simp [*]; done), by repeat (first | exact Drawn0.refl _ | apply Drawn0.step)⟩
                        · rw [if_neg c19] at H
                          exact absurd H (by simp)
                      · rw [if_neg c18] at H
                        have c18b0 : decide (x9_2 < (wrap64 (a1 + 4))) = false := decide_eq_false c18
                        clear c18
                        simp only [Option.some.injEq, Prod.mk.injEq] at H
                        obtain ⟨rfl, rfl, rfl⟩ := H
                        go_wp2
                        go_ret3
                        exact ⟨by first | rfl | (simp; done) | (simp only [← hji11] <;> (first | rfl | simp)) | (simp [*]; done), by repeat (first | exact Drawn0.refl _ | apply Drawn0.step)⟩
                    · rw [if_neg c17] at H
                      have c17b0 : decide (x9_2 < (a0.size : Int)) = false := decide_eq_false c17
                      clear c17
                      simp only [Option.some.injEq, Prod.mk.injEq] at H
                      obtain ⟨rfl, rfl, rfl⟩ := H
                      go_wp2
                      go_ret3
                      exact ⟨by first | rfl | (simp; done) | (simp only [← hji11] <;> (first | rfl | simp)) | (simp [*]; done), by repeat (first | exact Drawn0.refl _ | apply Drawn0.step)⟩
              · replace c16 := Bool.eq_false_iff.mpr c16
                subst c16
                have H1 : (if (bt a0 (ji11)) = 114 then (some (((0 + 3) + 1) + 9, wrap64 (a1 + 2), 0)) else (if (bt a0 (ji11)) = 110 then (some ((0 + 1) + 9, wrap64 (a1 + 2), 0)) else (if (bt a0 (ji11)) = 116 then (some (0 + 9, wrap64 (a1 + 2), 0)) else (some (bt a0 (ji11), wrap64 (a1 + 2), 0))))) = some (r1, r2, r3) := by rw [if_neg (show ¬ (false = true) by decide)] at H; exact H
                clear H
                have H := H1
                clear H1
                by_cases c24 : (bt a0 (ji11)) = 114
                · rw [if_pos c24] at H
                  have c24b0 : ((bt a0 (ji11)) == 114) = true := beq_iff_eq.mpr c24
                  have c24b1 : ((bt a0 (ji11)) != 114) = false := bne_eq_false_iff_eq.mpr c24
                  clear c24
                  simp only [Option.some.injEq, Prod.mk.injEq] at H
                  obtain ⟨rfl, rfl, rfl⟩ := H
                  have p14 : 0 ≤ ((ji11) : Int) := of_decide_eq_true (by first | (with_reducible assumption) | assumption)
                  have q14 : (ji11) < (a0.size : Int) := of_decide_eq_true (by first | (with_reducible assumption) | assumption)
                  have hx14 := bt_at a0 (ji11)
                  replace p14 := eq_true p14
                  replace q14 := eq_true q14
                  go_wp2_with (first | ((with_reducible refine gate_callee (f := 124) rfl ?_); refine goesL_ (some 37) rfl rfl Try.func124 (by kernel_rfl) rfl #[.int .u8 (bt a0 (ji11))] rfl (by (try simp only [List.map_toArray, List.map_cons, List.map_nil]); first | done | (simp only [hji11]; rfl) | rfl | (simp only [List.length_drop, List.length_take]; rfl)) ?_; (with_reducible refine (quote_digit.calls (bt a0 (ji11)) false _ A15.out).mono ?_); rintro e w' ⟨rfl, ⟨nd, rfl⟩⟩; refine ⟨_, rfl, ?_⟩))
                  go_ret3
                  exact ⟨by first | rfl | (simp; done) | (simp only [← hji11] <;> (first | rfl | simp)) | (simp [*]; done), by repeat (first | exact Drawn0.refl _ | apply Drawn0.step)⟩
                · rw [if_neg c24] at H
                  have c24b0 : ((bt a0 (ji11)) == 114) = false := beq_eq_false_iff_ne.mpr c24
                  have c24b1 : ((bt a0 (ji11)) != 114) = true := bne_iff_ne.mpr c24
                  by_cases c25 : (bt a0 (ji11)) = 110
                  · rw [if_pos c25] at H
                    have c25b0 : ((bt a0 (ji11)) == 110) = true := beq_iff_eq.mpr c25
                    have c25b1 : ((bt a0 (ji11)) != 110) = false := bne_eq_false_iff_eq.mpr c25
                    clear c25
                    simp only [Option.some.injEq, Prod.mk.injEq] at H
                    obtain ⟨rfl, rfl, rfl⟩ := H
                    have p14 : 0 ≤ ((ji11) : Int) := of_decide_eq_true (by first | (with_reducible assumption) | assumption)
                    have q14 : (ji11) < (a0.size : Int) := of_decide_eq_true (by first | (with_reducible assumption) | assumption)
                    have hx14 := bt_at a0 (ji11)
                    replace p14 := eq_true p14
                    replace q14 := eq_true q14
                    go_wp2_with (first | ((with_reducible refine gate_callee (f := 124) rfl ?_); refine goesL_ (some 37) rfl rfl Try.func124 (by kernel_rfl) rfl #[.int .u8 (bt a0 (ji11))] rfl (by (try simp only [List.map_toArray, List.map_cons, List.map_nil]); first | done | (simp only [hji11]; rfl) | rfl | (simp only [List.length_drop, List.length_take]; rfl)) ?_; (with_reducible refine (quote_digit.calls (bt a0 (ji11)) false _ A15.out).mono ?_); rintro e w' ⟨rfl, ⟨nd, rfl⟩⟩; refine ⟨_, rfl, ?_⟩))
                    go_ret3
                    exact ⟨by first | rfl | (simp; done) | (simp only [← hji11] <;> (first | rfl | simp)) | (simp [*]; done), by repeat (first | exact Drawn0.refl _ | apply Drawn0.step)⟩
                  · rw [if_neg c25] at H
                    have c25b0 : ((bt a0 (ji11)) == 110) = false := beq_eq_false_iff_ne.mpr c25
                    have c25b1 : ((bt a0 (ji11)) != 110) = true := bne_iff_ne.mpr c25
                    by_cases c26 : (bt a0 (ji11)) = 116
                    · rw [if_pos c26] at H
                      have c26b0 : ((bt a0 (ji11)) == 116) = true := beq_iff_eq.mpr c26
                      have c26b1 : ((bt a0 (ji11)) != 116) = false := bne_eq_false_iff_eq.mpr c26
                      clear c26
                      simp only [Option.some.injEq, Prod.mk.injEq] at H
                      obtain ⟨rfl, rfl, rfl⟩ := H
                      have p14 : 0 ≤ ((ji11) : Int) := of_decide_eq_true (by first | (with_reducible assumption) | assumption)
                      have q14 : (ji11) < (a0.size : Int) := of_decide_eq_true (by first | (with_reducible assumption) | assumption)
                      have hx14 := bt_at a0 (ji11)
                      replace p14 := eq_true p14
                      replace q14 := eq_true q14
                      go_wp2_with (first | ((with_reducible refine gate_callee (f := 124) rfl ?_); refine goesL_ (some 37) rfl rfl Try.func124 (by kernel_rfl) rfl #[.int .u8 (bt a0 (ji11))] rfl (by (try simp only [List.map_toArray, List.map_cons, List.map_nil]); first | done | (simp only [hji11]; rfl) | rfl | (simp only [List.length_drop, List.length_take]; rfl)) ?_; (with_reducible refine (quote_digit.calls (bt a0 (ji11)) false _ A15.out).mono ?_); rintro e w' ⟨rfl, ⟨nd, rfl⟩⟩; refine ⟨_, rfl, ?_⟩))
                      go_ret3
                      exact ⟨by first | rfl | (simp; done) | (simp only [← hji11] <;> (first | rfl | simp)) | (simp [*]; done), by repeat (first | exact Drawn0.refl _ | apply Drawn0.step)⟩
                    · rw [if_neg c26] at H
                      have c26b0 : ((bt a0 (ji11)) == 116) = false := beq_eq_false_iff_ne.mpr c26
                      have c26b1 : ((bt a0 (ji11)) != 116) = true := bne_iff_ne.mpr c26
                      simp only [Option.some.injEq, Prod.mk.injEq] at H
                      obtain ⟨rfl, rfl, rfl⟩ := H
                      have p14 : 0 ≤ ((ji11) : Int) := of_decide_eq_true (by first | (with_reducible assumption) | assumption)
                      have q14 : (ji11) < (a0.size : Int) := of_decide_eq_true (by first | (with_reducible assumption) | assumption)
                      have hx14 := bt_at a0 (ji11)
                      replace p14 := eq_true p14
                      replace q14 := eq_true q14
                      go_wp2_with (first | ((with_reducible refine gate_callee (f := 124) rfl ?_); refine goesL_ (some 37) rfl rfl Try.func124 (by kernel_rfl) rfl #[.int .u8 (bt a0 (ji11))] rfl (by (try simp only [List.map_toArray, List.map_cons, List.map_nil]); first | done | (simp only [hji11]; rfl) | rfl | (simp only [List.length_drop, List.length_take]; rfl)) ?_; (with_reducible refine (quote_digit.calls (bt a0 (ji11)) false _ A15.out).mono ?_); rintro e w' ⟨rfl, ⟨nd, rfl⟩⟩; refine ⟨_, rfl, ?_⟩))
                      go_ret3
                      exact ⟨by first | rfl | (simp; done) | (simp only [← hji11] <;> (first | rfl | simp)) | (simp [*]; done), by repeat (first | exact Drawn0.refl _ | apply Drawn0.step)⟩
            · rw [if_neg c13] at H
              exact absurd H (by simp)
          · rw [if_neg c12] at H
            exact absurd H (by simp)

end Go.Proofs.Ytofhcjdadhpjdaa.Q
