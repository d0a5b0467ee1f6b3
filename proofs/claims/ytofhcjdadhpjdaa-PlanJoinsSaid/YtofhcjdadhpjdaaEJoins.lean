/- cuecardlaw17.PlanJoins, by hand: over what its calls come to. -/
import Derived.Test.YtofhcjdadhpjdaaEAlive17W
import Derived.Test.YtofhcjdadhpjdaaPPlan
namespace Go.Proofs.Ytofhcjdadhpjdaa.Q
set_option linter.unusedSimpArgs false
set_option linter.unusedVariables false
open Go.RowKit Go.Proofs.YtofhcjdadhpjdaaW.PrintWords Go.Proofs.YtofhcjdadhpjdaaW.PrintLast Go.Proofs.YtofhcjdadhpjdaaW.PrintMore

def cutB (s : ByteArray) (n : Nat) : ByteArray := s.extract 0 (min s.size n)
theorem cutB_size (s : ByteArray) (n : Nat) : (cutB s n).size ≤ n := by
  unfold cutB
  rw [ByteArray.size_extract]
  omega
theorem mn_cut (s : ByteArray) (n : Nat) : mn (s.size : Int) (n : Int) = ((min s.size n : Nat) : Int) := by
  unfold mn
  split <;> omega
theorem cut_le (s : ByteArray) : (s.extract 0 (min (s.size : Int) 1500).toNat).size ≤ 1500 := by
  rw [ByteArray.size_extract]
  omega
set_option maxHeartbeats 8000000 in
set_option maxRecDepth 1000000 in
theorem planJoins.walk (s t : ByteArray) (w : World) (hs : s.size ≤ 140737488351232) (ht : t.size ≤ 140737488351232) :
    Calls Try.prog 7 #[.string s, .string t] w fun e w' => e = .returned (.bool true) ∧ Below w.heap.size w w' := by
  go_enter Try.func7, Try.ntmps7
  go_wp2
  go_quiet (fail)
  have hs1 := cut_le s
  have ht1 := cut_le t
  have HB0 := Aside0.mk (pw_below_drewN (Below.refl w.heap.size w) nq)
  generalize s.extract 0 (min (s.size : Int) 1500).toNat = s1 at hs1 ⊢
  generalize t.extract 0 (min (t.size : Int) 1500).toNat = t1 at ht1 ⊢
  generalize w.drewN nq = w1 at HB0 ⊢
  obtain ⟨a, xa, ya, ha, -⟩ := plan_Parse_some 3100 s1 (by omega)
  obtain ⟨b, xb, yb, hb, -⟩ := plan_Parse_some 3100 t1 (by omega)
  have HPA := Aside0.mk ha
  have HPB := Aside0.mk hb
  have HJ : Aside0 (ya = 0 → yb = 0 → ∃ c ka kb m, Joined 3100 s1 t1 a b c ka kb m) := ⟨fun h1 h2 => by subst h1; subst h2; exact plan_joins 3100 s1 t1 hs1 ht1 (by omega) ha hb⟩
  clear ha hb hs ht
  go_upto_region 3 with (go_at_call 16; refine (plan_Parse.calls 3100 s1 a xa ya _ HPA.out).mono ?_; rintro en w2 ⟨A, ca, rfl, hl, hF, hB⟩)
  have HFA := Aside0.mk (And.intro hl hF)
  have HB2 := Aside0.mk (below_step HB0.out hB)
  clear hl hF hB HB0 HPA
  go_upto_region 4 with (go_at_call 16; refine (plan_Parse.calls 3100 t1 b xb yb _ HPB.out).mono ?_; rintro en w3 ⟨B, cb, rfl, hl, hF, hB⟩)
  have HFB := Aside0.mk (And.intro hl hF)
  have HFA2 := Aside0.mk (And.intro HFA.out.1 (Kd.F_below HFA.out.2 hB))
  have HB3 := Aside0.mk (below_step HB2.out hB)
  clear hl hF hB HB2 HPB HFA
  by_cases hya : ya = 0
  · by_cases hyb : yb = 0
    · obtain ⟨c, ka, kb, m, J⟩ := HJ.out hya hyb
      subst hya
      subst hyb
      have HPC := Aside0.mk J.pc
      have HJJ := Aside0.mk J
      clear HJ
      obtain ⟨b1, b2, b3, b4, b5, b6⟩ := J.ba
      have hlen := Lib.hid J.len
      have hlc : ((c.length : Int) != (a.length : Int) + (b.length : Int)) = false := by rw [J.len]; simp
      clear J
      go_upto_region 7 with (go_at_call 16; refine (plan_Parse.calls 3100 _ c 0 0 _ HPC.out).mono ?_; rintro en w4 ⟨C, cc, rfl, hl, hF, hB⟩)
      have HFC := Aside0.mk (And.intro hl hF)
      have HFA := Aside0.mk (And.intro HFA2.out.1 (Kd.F_below HFA2.out.2 hB))
      have HFB2 := Aside0.mk (And.intro HFB.out.1 (Kd.F_below HFB.out.2 hB))
      have HB4 := Aside0.mk (below_step HB3.out hB)
      clear hl hF hB HB3 HPC HFA2 HFB
      have HBw := Aside0.mk (Below.refl w4.heap.size w4)
      have hJc := Aside0.mk (And.intro HJJ.out.na (And.intro HJJ.out.nb HJJ.out.nc))
      go_upto_region 9 with (first | (go_at_call 22; with_reducible refine ((plan_Count.ok m).calls c C cc _ (ka + kb) _ hJc.out.2.2 HFC.out.1 (Kd.F_below HFC.out.2 HBw.out)).mono ?_; rintro en w5 ⟨rfl, hB⟩; have HBw2 := Aside0.mk (below_step HBw.out hB); clear HBw hB; have HBw := HBw2; clear HBw2) | (go_at_call 22; with_reducible refine ((plan_Count.ok m).calls a A ca _ ka _ hJc.out.1 HFA.out.1 (Kd.F_below HFA.out.2 HBw.out)).mono ?_; rintro en w5 ⟨rfl, hB⟩; have HBw2 := Aside0.mk (below_step HBw.out hB); clear HBw hB; have HBw := HBw2; clear HBw2) | (go_at_call 22; with_reducible refine ((plan_Count.ok m).calls b B cb _ kb _ hJc.out.2.1 HFB2.out.1 (Kd.F_below HFB2.out.2 HBw.out)).mono ?_; rintro en w5 ⟨rfl, hB⟩; have HBw2 := Aside0.mk (below_step HBw.out hB); clear HBw hB; have HBw := HBw2; clear HBw2))
      have HFC5 := Aside0.mk (Kd.F_below HFC.out.2 HBw.out)
      have HFB5 := Aside0.mk (Kd.F_below HFB2.out.2 HBw.out)
      have HB5 := Aside0.mk (below_step HB4.out HBw.out)
      clear HFC HFA HFB2 HB4 HBw hJc hlc
      obtain ⟨wo, rfl⟩ : ∃ wo : World, wo = w5 := ⟨_, rfl⟩
      go_wp2
      go_loopg [77] (b.length) (fun kq v77 W => ∃ i : Nat, v77 = .int .i64 (i : Int) ∧ kq = b.length - i ∧ i ≤ b.length ∧ Aside0 (Below wo.heap.size wo W))
      case atStart => exact ⟨0, rfl, rfl, Nat.zero_le _, ⟨Below.refl _ _⟩⟩
      case round =>
        obtain ⟨i, rfl, rfl, hil, HP⟩ := hrel
        by_cases hi : i < b.length
        · have hb := decide_eq_true (show (i : Int) < (b.length : Int) by omega)
          have hlt : ((i : Int) < (b.length : Int)) = True := eq_true (by omega)
          have h0 : ((0 : Int) ≤ (i : Int)) = True := eq_true (by omega)
          have hlt2 : ((a.length : Int) + (i : Int) < (c.length : Int)) = True := eq_true (by have := hlen.out; omega)
          have h02 : ((0 : Int) ≤ (a.length : Int) + (i : Int)) = True := eq_true (by omega)
          have htn : ((a.length : Int) + (i : Int)).toNat = a.length + i := by omega
          obtain ⟨adb, _, _, _, _, rfl, e0, e1, -⟩ := op_read (Kd.F_below HFB5.out HP.out) i hi
          obtain ⟨adc, _, _, _, _, rfl, f0, f1, -⟩ := op_read (Kd.F_below HFC5.out HP.out) (a.length + i) (by have := hlen.out; omega)
          have hJ := HJJ.out.at_ i hi
          have h1 : wrap64 ((b.getD i zOp).at_ + ((s1.size + 1 : Nat) : Int)) = wrap64 (wrap64 ((b.getD i zOp).at_ + (s1.size : Int)) + 1) := by unfold wrap64; omega
          rw [h1] at hJ
          rw [hJ.1] at f0
          rw [hJ.2] at f1
          obtain ⟨x, hx⟩ : ∃ x, b.getD i zOp = x := ⟨_, rfl⟩
          rw [hx] at e0 e1 f0 f1
          clear hJ h1 hx
          go_upto_region 12 with (fail)
          go_quiet (fail)
          clear e0 e1 f0 f1
          go_wp2
          go_roundg (b.length - (i + 1))
          case measure => omega
          case rel => exact ⟨i + 1, by simp, rfl, by omega, ⟨pw_below_drewN HP.out _⟩⟩
        · have hb := decide_eq_false (show ¬ (i : Int) < (b.length : Int) by omega)
          clear HFC5 HFB5
          go_wp2_with (go_at_call 17; refine (alive17.calls _).mono ?_; rintro en w5 ⟨rfl, hB⟩)
          go_ret
          exact ⟨rfl, below_step (below_step HB5.out HP.out) hB⟩
    · have h1 : (ya != 0) = false := by simp [hya]
      have h2 : (yb != 0) = true := by simp [hyb]
      clear hya hyb HJ HFA2 HFB
      go_wp2_with (go_at_call 17; refine (alive17.calls _).mono ?_; rintro en w5 ⟨rfl, hB⟩)
      go_ret
      exact ⟨rfl, below_step HB3.out hB⟩
  · have h1 : (ya != 0) = true := by simp [hya]
    clear hya HJ HFA2 HFB
    go_wp2_with (go_at_call 17; refine (alive17.calls _).mono ?_; rintro en w5 ⟨rfl, hB⟩)
    go_ret
    exact ⟨rfl, below_step HB3.out hB⟩
end Go.Proofs.Ytofhcjdadhpjdaa.Q
