-- written by a program of this session (wip/xprint) over the translation
import Derived.Test.YtofhcjdadhpjdaaQ0
namespace Go.Proofs.Ytofhcjdadhpjdaa.Q
open Go.RowKit Go.Proofs.YtofhcjdadhpjdaaW.PrintWords Go.Proofs.YtofhcjdadhpjdaaW.PrintLast Go.Proofs.YtofhcjdadhpjdaaW.PrintMore
attribute [local go_sem] max2_int min2_int max_two min_two max_three min_three max_four min_four   -- for this text's walks alone
set_option linter.unusedVariables false
set_option linter.unusedSimpArgs false

/-! ### plan_one: function 87 -/
def plan_one.f (a0_0 : Int) (a0_1 : Int) (l0_2 : List (S43)) : Option (ByteArray × Bool) := if (l0_2.length : Int) = 1 then (if 0 < (l0_2.length : Int) then (if (rd_T43 l0_2 0).f0 = true then (some ((⟨#[]⟩ : ByteArray), false)) else (if a0_1 = 2 then (some ((⟨#[]⟩ : ByteArray), false)) else (some ((rd_T43 l0_2 0).f1, true)))) else (none)) else (some ((⟨#[]⟩ : ByteArray), false))
set_option maxHeartbeats 8000000 in
set_option maxRecDepth 100000 in
theorem plan_one.calls (a0_0 : Int) (a0_1 : Int) (A0_2 : Option Addr) (c0_2 : Nat) (l0_2 : List (S43)) (r1 : ByteArray) (r2 : Bool) (w : World) (hr0_2 : Kd.C k43 w A0_2 l0_2.length l0_2) (hc0_2 : l0_2.length ≤ c0_2) (h : plan_one.f a0_0 a0_1 l0_2 = some (r1, r2)) :
    Calls Try.prog 87 #[.agg #[.int .i64 a0_0, .int .i64 a0_1, .slice A0_2 l0_2.length c0_2]] w fun e w' => e = .returned (.tuple #[.string r1, .bool r2]) ∧ Below w.heap.size w w' := by
  have hu41 := Try.underlying41
  have HR0_2 := Aside0.mk hr0_2
  have HC0_2 := Aside0.mk hc0_2
  clear hr0_2 hc0_2
  have HB := Aside0.mk (Below.refl w.heap.size w)
  have H : (if (l0_2.length : Int) = 1 then (if 0 < (l0_2.length : Int) then (if (rd_T43 l0_2 0).f0 = true then (some ((⟨#[]⟩ : ByteArray), false)) else (if a0_1 = 2 then (some ((⟨#[]⟩ : ByteArray), false)) else (some ((rd_T43 l0_2 0).f1, true)))) else (none)) else (some ((⟨#[]⟩ : ByteArray), false))) = some (r1, r2) := h
  clear h
  by_cases c2 : (l0_2.length : Int) = 1
  · rw [if_pos c2] at H
    have c2b0 : ((l0_2.length : Int) == 1) = true := beq_iff_eq.mpr c2
    have c2b1 : ((l0_2.length : Int) != 1) = false := bne_eq_false_iff_eq.mpr c2
    clear c2
    by_cases c3 : 0 < (l0_2.length : Int)
    · rw [if_pos c3] at H
      have c3b0 : decide (0 < (l0_2.length : Int)) = true := decide_eq_true c3
      have c3b1 : decide (0 < l0_2.length) = true := decide_eq_true (by omega)
      clear c3
      obtain ⟨bq4, hbq4⟩ : ∃ b_ : Bool, b_ = ((rd_T43 l0_2 0).f0) := ⟨_, rfl⟩
      replace H : (if bq4 = true then (some ((⟨#[]⟩ : ByteArray), false)) else (if a0_1 = 2 then (some ((⟨#[]⟩ : ByteArray), false)) else (some ((rd_T43 l0_2 0).f1, true)))) = some (r1, r2) := by rw [← hbq4] at H; exact H
      have Nbq4 := Aside0.mk hbq4
      clear hbq4
      by_cases c5 : bq4 = true
      · subst c5
        have H1 : (some ((⟨#[]⟩ : ByteArray), false)) = some (r1, r2) := by rw [if_pos rfl] at H; exact H
        clear H
        have H := H1
        clear H1
        simp only [Option.some.injEq, Prod.mk.injEq] at H
        obtain ⟨rfl, rfl⟩ := H
        go_enter Try.func87, Try.ntmps87
        go_wp2_with (first | ((with_reducible refine gate_dst (N := 1) rfl ?_); refine box_event ?hg (N := 1) ?hd (cs := #[.int .i64 a0_0, .int .i64 a0_1, .slice A0_2 l0_2.length c0_2]) (t := 41) ?hr ?_; (case hd => rfl); (case hg => rfl); (case hr => first | (go_simp; done) | (go_simp; rfl)); intro gb274 hg w6 hbox hb; have n0_ := Aside0.mk (below_step (by repeat (first | (with_reducible first | exact HB.out | apply below_alloc | apply pw_below_drewN | apply below_drew1) | exact HB.out)) hb); have n1_ := Aside0.mk (hbox); have n2_ := Aside0.mk ((by rw [hg]; exact (below_size (by repeat (first | (with_reducible first | exact HB.out | apply below_alloc | apply pw_below_drewN | apply below_drew1) | exact HB.out))) : w.heap.size ≤ gb274)); have n3_ := Aside0.mk ((by rw [hg]; exact (below_size (by repeat (first | (with_reducible first | exact HB.out | apply below_alloc | apply pw_below_drewN | apply below_drew1) | exact HB.out))) : w.heap.size ≤ gb274)); clear HB; have HB := n0_; have BK274 := n1_; have GW274 := n2_; have GE274 := n3_; clear n0_ n1_ n2_ n3_; clear hb hbox hg; have hcz7_0 : w6.cell? ⟨gb274, 0, none⟩ = some (.int .i64 a0_0) := (blk_cell BK274.out 0).trans rfl; have hcz7_1 : w6.cell? ⟨gb274, 1, none⟩ = some (.int .i64 a0_1) := (blk_cell BK274.out 1).trans rfl; have hcz7_2 : w6.cell? ⟨gb274, 2, none⟩ = some (.slice A0_2 l0_2.length c0_2) := (blk_cell BK274.out 2).trans rfl; have hfz7_0 := blk_frozen BK274.out 0; have hfz7_1 := blk_frozen BK274.out 1; have hfz7_2 := blk_frozen BK274.out 2; have p275 : 0 ≤ (0 : Int) := (by omega); have q275 : 0 < (l0_2.length : Int) := of_decide_eq_true (by first | (with_reducible assumption) | assumption); obtain ⟨ad275, e275, hx275_0, hx275_1⟩ := at_T43 HR0_2.out 0 p275 q275; (try rw [← Nbq4.out] at hx275_0); cases e275; have qi275 : (0 < l0_2.length) = True := eq_true (by omega); (try rw [show ((0 : Int)).toNat = 0 from rfl] at hx275_0); (try rw [show 0 * 2 = 0 from rfl] at hx275_0); (try rw [Addr.add_zero'] at hx275_0); (try rw [show ((0 : Int)).toNat = 0 from rfl] at hx275_1); (try rw [show 0 * 2 = 0 from rfl] at hx275_1); (try rw [Addr.add_zero'] at hx275_1); replace hx275_0 := (HB.out.cell (World.block_lt_of_cell? w _ hx275_0)).trans hx275_0; replace hx275_1 := (HB.out.cell (World.block_lt_of_cell? w _ hx275_1)).trans hx275_1; replace p275 := eq_true p275; replace q275 := eq_true q275))
        go_ret2
        exact ⟨by first | rfl | (simp [errW_none, errW_some] <;> rfl) | (simp [*, errW_none, errW_some] <;> rfl), by repeat (first | (with_reducible first | exact HB.out | apply below_alloc | apply pw_below_drewN | apply below_drew1 | refine below_set ?_ GE274.out) | exact HB.out)⟩
      · replace c5 := Bool.eq_false_iff.mpr c5
        subst c5
        have H1 : (if a0_1 = 2 then (some ((⟨#[]⟩ : ByteArray), false)) else (some ((rd_T43 l0_2 0).f1, true))) = some (r1, r2) := by rw [if_neg (show ¬ (false = true) by decide)] at H; exact H
        clear H
        have H := H1
        clear H1
        by_cases c8 : a0_1 = 2
        · rw [if_pos c8] at H
          have c8b0 : (a0_1 == 2) = true := beq_iff_eq.mpr c8
          have c8b1 : (a0_1 != 2) = false := bne_eq_false_iff_eq.mpr c8
          clear c8
          simp only [Option.some.injEq, Prod.mk.injEq] at H
          obtain ⟨rfl, rfl⟩ := H
          go_enter Try.func87, Try.ntmps87
          go_wp2_with (first | ((with_reducible refine gate_dst (N := 1) rfl ?_); refine box_event ?hg (N := 1) ?hd (cs := #[.int .i64 a0_0, .int .i64 a0_1, .slice A0_2 l0_2.length c0_2]) (t := 41) ?hr ?_; (case hd => rfl); (case hg => rfl); (case hr => first | (go_simp; done) | (go_simp; rfl)); intro gb274 hg w9 hbox hb; have n0_ := Aside0.mk (below_step (by repeat (first | (with_reducible first | exact HB.out | apply below_alloc | apply pw_below_drewN | apply below_drew1) | exact HB.out)) hb); have n1_ := Aside0.mk (hbox); have n2_ := Aside0.mk ((by rw [hg]; exact (below_size (by repeat (first | (with_reducible first | exact HB.out | apply below_alloc | apply pw_below_drewN | apply below_drew1) | exact HB.out))) : w.heap.size ≤ gb274)); have n3_ := Aside0.mk ((by rw [hg]; exact (below_size (by repeat (first | (with_reducible first | exact HB.out | apply below_alloc | apply pw_below_drewN | apply below_drew1) | exact HB.out))) : w.heap.size ≤ gb274)); clear HB; have HB := n0_; have BK274 := n1_; have GW274 := n2_; have GE274 := n3_; clear n0_ n1_ n2_ n3_; clear hb hbox hg; have hcz10_0 : w9.cell? ⟨gb274, 0, none⟩ = some (.int .i64 a0_0) := (blk_cell BK274.out 0).trans rfl; have hcz10_1 : w9.cell? ⟨gb274, 1, none⟩ = some (.int .i64 a0_1) := (blk_cell BK274.out 1).trans rfl; have hcz10_2 : w9.cell? ⟨gb274, 2, none⟩ = some (.slice A0_2 l0_2.length c0_2) := (blk_cell BK274.out 2).trans rfl; have hfz10_0 := blk_frozen BK274.out 0; have hfz10_1 := blk_frozen BK274.out 1; have hfz10_2 := blk_frozen BK274.out 2; have p275 : 0 ≤ (0 : Int) := (by omega); have q275 : 0 < (l0_2.length : Int) := of_decide_eq_true (by first | (with_reducible assumption) | assumption); obtain ⟨ad275, e275, hx275_0, hx275_1⟩ := at_T43 HR0_2.out 0 p275 q275; (try rw [← Nbq4.out] at hx275_0); cases e275; have qi275 : (0 < l0_2.length) = True := eq_true (by omega); (try rw [show ((0 : Int)).toNat = 0 from rfl] at hx275_0); (try rw [show 0 * 2 = 0 from rfl] at hx275_0); (try rw [Addr.add_zero'] at hx275_0); (try rw [show ((0 : Int)).toNat = 0 from rfl] at hx275_1); (try rw [show 0 * 2 = 0 from rfl] at hx275_1); (try rw [Addr.add_zero'] at hx275_1); replace hx275_0 := (HB.out.cell (World.block_lt_of_cell? w _ hx275_0)).trans hx275_0; replace hx275_1 := (HB.out.cell (World.block_lt_of_cell? w _ hx275_1)).trans hx275_1; replace p275 := eq_true p275; replace q275 := eq_true q275))
          go_ret2
          exact ⟨by first | rfl | (simp [errW_none, errW_some] <;> rfl) | (simp [*, errW_none, errW_some] <;> rfl), by repeat (first | (with_reducible first | exact HB.out | apply below_alloc | apply pw_below_drewN | apply below_drew1 | refine below_set ?_ GE274.out) | exact HB.out)⟩
        · rw [if_neg c8] at H
          have c8b0 : (a0_1 == 2) = false := beq_eq_false_iff_ne.mpr c8
          have c8b1 : (a0_1 != 2) = true := bne_iff_ne.mpr c8
          simp only [Option.some.injEq, Prod.mk.injEq] at H
          obtain ⟨rfl, rfl⟩ := H
          go_enter Try.func87, Try.ntmps87
          go_wp2_with (first | ((with_reducible refine gate_dst (N := 1) rfl ?_); refine box_event ?hg (N := 1) ?hd (cs := #[.int .i64 a0_0, .int .i64 a0_1, .slice A0_2 l0_2.length c0_2]) (t := 41) ?hr ?_; (case hd => rfl); (case hg => rfl); (case hr => first | (go_simp; done) | (go_simp; rfl)); intro gb274 hg w11 hbox hb; have n0_ := Aside0.mk (below_step (by repeat (first | (with_reducible first | exact HB.out | apply below_alloc | apply pw_below_drewN | apply below_drew1) | exact HB.out)) hb); have n1_ := Aside0.mk (hbox); have n2_ := Aside0.mk ((by rw [hg]; exact (below_size (by repeat (first | (with_reducible first | exact HB.out | apply below_alloc | apply pw_below_drewN | apply below_drew1) | exact HB.out))) : w.heap.size ≤ gb274)); have n3_ := Aside0.mk ((by rw [hg]; exact (below_size (by repeat (first | (with_reducible first | exact HB.out | apply below_alloc | apply pw_below_drewN | apply below_drew1) | exact HB.out))) : w.heap.size ≤ gb274)); clear HB; have HB := n0_; have BK274 := n1_; have GW274 := n2_; have GE274 := n3_; clear n0_ n1_ n2_ n3_; clear hb hbox hg; have hcz12_0 : w11.cell? ⟨gb274, 0, none⟩ = some (.int .i64 a0_0) := (blk_cell BK274.out 0).trans rfl; have hcz12_1 : w11.cell? ⟨gb274, 1, none⟩ = some (.int .i64 a0_1) := (blk_cell BK274.out 1).trans rfl; have hcz12_2 : w11.cell? ⟨gb274, 2, none⟩ = some (.slice A0_2 l0_2.length c0_2) := (blk_cell BK274.out 2).trans rfl; have hfz12_0 := blk_frozen BK274.out 0; have hfz12_1 := blk_frozen BK274.out 1; have hfz12_2 := blk_frozen BK274.out 2; have p275 : 0 ≤ (0 : Int) := (by omega); have q275 : 0 < (l0_2.length : Int) := of_decide_eq_true (by first | (with_reducible assumption) | assumption); obtain ⟨ad275, e275, hx275_0, hx275_1⟩ := at_T43 HR0_2.out 0 p275 q275; (try rw [← Nbq4.out] at hx275_0); cases e275; have qi275 : (0 < l0_2.length) = True := eq_true (by omega); (try rw [show ((0 : Int)).toNat = 0 from rfl] at hx275_0); (try rw [show 0 * 2 = 0 from rfl] at hx275_0); (try rw [Addr.add_zero'] at hx275_0); (try rw [show ((0 : Int)).toNat = 0 from rfl] at hx275_1); (try rw [show 0 * 2 = 0 from rfl] at hx275_1); (try rw [Addr.add_zero'] at hx275_1); replace hx275_0 := (HB.out.cell (World.block_lt_of_cell? w _ hx275_0)).trans hx275_0; replace hx275_1 := (HB.out.cell (World.block_lt_of_cell? w _ hx275_1)).trans hx275_1; replace p275 := eq_true p275; replace q275 := eq_true q275; have p276 : 0 ≤ (0 : Int) := (by omega); have q276 : 0 < (l0_2.length : Int) := of_decide_eq_true (by first | (with_reducible assumption) | assumption); obtain ⟨ad276, e276, hx276_0, hx276_1⟩ := at_T43 HR0_2.out 0 p276 q276; (try rw [← Nbq4.out] at hx276_0); obtain rfl : ad275 = ad276 := (by injection e276); have qi276 : (0 < l0_2.length) = True := eq_true (by omega); (try rw [show ((0 : Int)).toNat = 0 from rfl] at hx276_0); (try rw [show 0 * 2 = 0 from rfl] at hx276_0); (try rw [Addr.add_zero'] at hx276_0); (try rw [show ((0 : Int)).toNat = 0 from rfl] at hx276_1); (try rw [show 0 * 2 = 0 from rfl] at hx276_1); (try rw [Addr.add_zero'] at hx276_1); replace hx276_0 := (HB.out.cell (World.block_lt_of_cell? w _ hx276_0)).trans hx276_0; replace hx276_1 := (HB.out.cell (World.block_lt_of_cell? w _ hx276_1)).trans hx276_1; replace p276 := eq_true p276; replace q276 := eq_true q276))
          go_ret2
          exact ⟨by first | rfl | (simp [errW_none, errW_some] <;> rfl) | (simp [*, errW_none, errW_some] <;> rfl), by repeat (first | (with_reducible first | exact HB.out | apply below_alloc | apply pw_below_drewN | apply below_drew1 | refine below_set ?_ GE274.out) | exact HB.out)⟩
    · rw [if_neg c3] at H
      exact absurd H (by simp)
  · rw [if_neg c2] at H
    have c2b0 : ((l0_2.length : Int) == 1) = false := beq_eq_false_iff_ne.mpr c2
    have c2b1 : ((l0_2.length : Int) != 1) = true := bne_iff_ne.mpr c2
    simp only [Option.some.injEq, Prod.mk.injEq] at H
    obtain ⟨rfl, rfl⟩ := H
    go_enter Try.func87, Try.ntmps87
    go_wp2_with (first | ((with_reducible refine gate_dst (N := 1) rfl ?_); refine box_event ?hg (N := 1) ?hd (cs := #[.int .i64 a0_0, .int .i64 a0_1, .slice A0_2 l0_2.length c0_2]) (t := 41) ?hr ?_; (case hd => rfl); (case hg => rfl); (case hr => first | (go_simp; done) | (go_simp; rfl)); intro gb274 hg w13 hbox hb; have n0_ := Aside0.mk (below_step (by repeat (first | (with_reducible first | exact HB.out | apply below_alloc | apply pw_below_drewN | apply below_drew1) | exact HB.out)) hb); have n1_ := Aside0.mk (hbox); have n2_ := Aside0.mk ((by rw [hg]; exact (below_size (by repeat (first | (with_reducible first | exact HB.out | apply below_alloc | apply pw_below_drewN | apply below_drew1) | exact HB.out))) : w.heap.size ≤ gb274)); have n3_ := Aside0.mk ((by rw [hg]; exact (below_size (by repeat (first | (with_reducible first | exact HB.out | apply below_alloc | apply pw_below_drewN | apply below_drew1) | exact HB.out))) : w.heap.size ≤ gb274)); clear HB; have HB := n0_; have BK274 := n1_; have GW274 := n2_; have GE274 := n3_; clear n0_ n1_ n2_ n3_; clear hb hbox hg; have hcz14_0 : w13.cell? ⟨gb274, 0, none⟩ = some (.int .i64 a0_0) := (blk_cell BK274.out 0).trans rfl; have hcz14_1 : w13.cell? ⟨gb274, 1, none⟩ = some (.int .i64 a0_1) := (blk_cell BK274.out 1).trans rfl; have hcz14_2 : w13.cell? ⟨gb274, 2, none⟩ = some (.slice A0_2 l0_2.length c0_2) := (blk_cell BK274.out 2).trans rfl; have hfz14_0 := blk_frozen BK274.out 0; have hfz14_1 := blk_frozen BK274.out 1; have hfz14_2 := blk_frozen BK274.out 2))
    go_ret2
    exact ⟨by first | rfl | (simp [errW_none, errW_some] <;> rfl) | (simp [*, errW_none, errW_some] <;> rfl), by repeat (first | (with_reducible first | exact HB.out | apply below_alloc | apply pw_below_drewN | apply below_drew1 | refine below_set ?_ GE274.out) | exact HB.out)⟩

end Go.Proofs.Ytofhcjdadhpjdaa.Q
