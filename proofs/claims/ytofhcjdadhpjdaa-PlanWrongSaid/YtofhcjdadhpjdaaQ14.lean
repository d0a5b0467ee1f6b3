-- written by a program of this session (wip/xprint) over the translation
import Derived.Test.YtofhcjdadhpjdaaQ0
import Derived.Test.YtofhcjdadhpjdaaQ5
import Derived.Test.YtofhcjdadhpjdaaQ6
import Derived.Test.YtofhcjdadhpjdaaQ13
namespace Go.Proofs.Ytofhcjdadhpjdaa.Q
open Go.RowKit Go.Proofs.YtofhcjdadhpjdaaW.PrintWords Go.Proofs.YtofhcjdadhpjdaaW.PrintLast Go.Proofs.YtofhcjdadhpjdaaW.PrintMore
attribute [local go_sem] max2_int min2_int max_two min_two max_three min_three max_four min_four   -- for this text's walks alone
set_option linter.unusedVariables false
set_option linter.unusedSimpArgs false

/-! ### tcl_parser_command: function 57 -/
mutual
def tcl_parser_command.l0 : Nat → ByteArray → Int → Int → Int → Int → List (S41) → Option (Int × (List (S41)) × ByteArray × Int × Int × Int)
  | 0, _, _, _, _, _, _ => none
  | k + 1, x1000, x1001, x1002, x1003, x149000, x149001 => if x1001 < (x1000.size : Int) then (if 0 ≤ x1001 then ((tcl_in.f (⟨#[10, 59]⟩ : ByteArray) (bt x1000 x1001)).bind fun t149 => (tcl_parser_command.j1 k (!t149) x1000 x1001 x1002 x1003 x149000 x149001)) else (none)) else (tcl_parser_command.j1 k false x1000 x1001 x1002 x1003 x149000 x149001)
def tcl_parser_command.j1 : Nat → Bool → ByteArray → Int → Int → Int → Int → List (S41) → Option (Int × (List (S41)) × ByteArray × Int × Int × Int)
  | 0, _, _, _, _, _, _, _ => none
  | k + 1, x31, x1000, x1001, x1002, x1003, x149000, x149001 => if x31 = true then (if 0 ≤ x1001 then (if x1001 < (x1000.size : Int) then ((tcl_in.f (⟨#[32, 9]⟩ : ByteArray) (bt x1000 x1001)).bind fun t150 => (if t150 = true then (tcl_parser_command.l0 k x1000 (wrap64 (x1001 + 1)) x1002 x1003 x149000 x149001) else ((tcl_parser_word.f k x1000 x1001 x1002 x1003).bind fun bt151 => (if x149001.length < 3518437208883 then (tcl_parser_command.l0 k bt151.2.2.2.1 bt151.2.2.2.2.1 bt151.2.2.2.2.2.1 bt151.2.2.2.2.2.2 x149000 (x149001 ++ [(⟨bt151.1, bt151.2.1, bt151.2.2.1⟩ : S41)])) else (none))))) else (none)) else (none)) else (some (x149000, x149001, x1000, x1001, x1002, x1003))
end
def tcl_parser_command.f (k : Nat) (s0_0 : ByteArray) (s0_1 : Int) (s0_2 : Int) (s0_3 : Int) : Option (Int × (List (S41)) × ByteArray × Int × Int × Int) := tcl_parser_command.l0 k s0_0 s0_1 s0_2 s0_3 s0_1 ([] : List (S41))
def tcl_parser_command.T2 : Bool × List (List Nat × List Nat) := (true, [([], []), ([0], [0]), ([1], [1]), ([2], [2]), ([], []), ([4], [4]), ([5], [5]), ([6], [6]), ([7], [7]), ([3, 8], [3, 8]), ([9], [9]), ([10], [10]), ([11, 10], [10, 11]), ([12, 10], [10, 12]), ([13, 10], [10, 13]), ([10], [10]), ([15, 10], [10, 15]), ([16, 10], [10, 16]), ([17, 10], [10, 17]), ([14, 18, 10], [10, 14, 18]), ([19, 10, 10], [10, 19]), ([20, 10], [10, 20]), ([10, 21], [10, 21])])
def tcl_parser_command.B2 : List Nat := [0, 1, 3, 7, 0, 16, 48, 112, 240, 511, 1023, 2047, 4095, 8191, 16383, 2047, 34815, 100351, 231423, 524287, 1048575, 2097151, 4194303]
theorem tcl_parser_command.tab2 : rtab .any (opsOf Try.f57 2) = tcl_parser_command.T2 := by kernel_rfl
theorem tcl_parser_command.bits2 : waitsOk tcl_parser_command.T2.2 tcl_parser_command.B2 = true := by kernel_rfl
def tcl_parser_command.T3 : Bool × List (List Nat × List Nat) := (true, [([], []), ([0], [0]), ([1], [1]), ([2], [2]), ([], []), ([4], [4]), ([5], [5]), ([6], [6]), ([3, 7], [3, 7]), ([8], [8])])
def tcl_parser_command.B3 : List Nat := [0, 1, 3, 7, 0, 16, 48, 112, 255, 511]
theorem tcl_parser_command.tab3 : rtab .any (opsOf Try.f57 3) = tcl_parser_command.T3 := by kernel_rfl
theorem tcl_parser_command.bits3 : waitsOk tcl_parser_command.T3.2 tcl_parser_command.B3 = true := by kernel_rfl
def tcl_parser_command.T5 : Bool × List (List Nat × List Nat) := (true, [([], []), ([0], [0]), ([], []), ([2], [2]), ([3], [3]), ([1, 4, 3], [1, 4]), ([0, 1, 2, 3, 4, 5], []), ([6, 5, 5, 0, 1, 2, 3, 4, 5], [5, 6])])
def tcl_parser_command.B5 : List Nat := [0, 1, 0, 4, 12, 31, 63, 127]
theorem tcl_parser_command.tab5 : rtab .any (opsOf Try.f57 5) = tcl_parser_command.T5 := by kernel_rfl
theorem tcl_parser_command.bits5 : waitsOk tcl_parser_command.T5.2 tcl_parser_command.B5 = true := by kernel_rfl
set_option maxHeartbeats 8000000 in
set_option maxRecDepth 100000 in
theorem tcl_parser_command.calls (k : Nat) (g : Nat) (s0_0 : ByteArray) (s0_1 : Int) (s0_2 : Int) (s0_3 : Int) (r1 : Int) (r2 : List (S41)) (r3 : ByteArray) (r4 : Int) (r5 : Int) (r6 : Int) (w0 w : World) (hI : IsS116 w0 w g s0_0 s0_1 s0_2 s0_3) (hB : Below w0.heap.size w0 w) (h : tcl_parser_command.f k s0_0 s0_1 s0_2 s0_3 = some (r1, r2, r3, r4, r5, r6)) :
    Calls Try.prog 57 #[.pointer (some ⟨g, 0, none⟩)] w fun e w' => ∃ v1_ : Value, e = .returned (.agg #[.int .i64 r1, v1_]) ∧ Kd.S k41 41 w' w.heap.size (fun _ => True) v1_ r2 ∧ IsS116 w0 w' g r3 r4 r5 r6 ∧ Below w0.heap.size w0 w' ∧ KeepBut w w' g none := by
  have hu38 := Try.underlying38
  have HI0 := Aside0.mk hI
  have HK := Aside0.mk (KeepBut.refl w g none)
  have HL := Aside0.mk hB.size
  clear hI
  have HW0 := Aside0.mk hB.size
  have HB := Aside0.mk hB
  clear hB
  have H : (tcl_parser_command.l0 k s0_0 s0_1 s0_2 s0_3 s0_1 ([] : List (S41))) = some (r1, r2, r3, r4, r5, r6) := h
  clear h
  have H' := Aside0.mk H
  clear H
  go_enter Try.func57, Try.ntmps57
  go_wp2_with (first | ((with_reducible refine gate_dst (N := 2) rfl ?_); refine box_event ?hg (N := 2) ?hd (cs := #[.int .i64 0, .slice none 0 0]) (t := 38) ?hr ?_; (case hd => rfl); (case hg => rfl); (case hr => first | (go_simp; done) | (go_simp; rfl)); intro gb147 hg w2 hbox hb; have n0_ := Aside0.mk (IsS116.below (by repeat (first | (with_reducible first | exact HI0.out | apply IsS116.alloc | apply IsS116.drewN | apply IsS116.drew | apply IsS116.set_0 | apply IsS116.set_1 | apply IsS116.set_2 | apply IsS116.set_3) | exact HI0.out)) hb); have n1_ := Aside0.mk (KeepBut.trans (by repeat (first | (with_reducible first | exact HK.out | apply KeepBut.set_ | apply keep_drewN | apply keep_drew | apply keep_alloc) | exact HK.out)) (KeepBut.of_below hb g none) (.inl rfl)); have n2_ := Aside0.mk (below_step (by repeat (first | (with_reducible first | exact HB.out | apply below_alloc | apply pw_below_drewN | apply below_drew1 | refine below_set ?_ (IsS116.ge HI0.out)) | exact HB.out)) hb); have n3_ := Aside0.mk (hbox); have n4_ := Aside0.mk ((by rw [hg]; exact (keep_size (w := w) (g := g) (row := none) (by repeat (first | (with_reducible first | exact HK.out | apply KeepBut.set_ | apply keep_drewN | apply keep_drew | apply keep_alloc) | exact HK.out))) : w.heap.size ≤ gb147)); have n5_ := Aside0.mk ((Nat.le_trans HW0.out (by rw [hg]; exact (keep_size (w := w) (g := g) (row := none) (by repeat (first | (with_reducible first | exact HK.out | apply KeepBut.set_ | apply keep_drewN | apply keep_drew | apply keep_alloc) | exact HK.out))) : w.heap.size ≤ gb147) : w0.heap.size ≤ gb147)); have n6_ := Aside0.mk ((by rw [hg]; exact Nat.ne_of_lt (IsS116.lt (show IsS116 w0 _ g s0_0 s0_1 s0_2 s0_3 from by repeat (first | (with_reducible first | exact HI0.out | apply IsS116.alloc | apply IsS116.drewN | apply IsS116.drew | apply IsS116.set_0 | apply IsS116.set_1 | apply IsS116.set_2 | apply IsS116.set_3) | exact HI0.out))) : g ≠ gb147)); have n7_ := Aside0.mk ((by rw [hg]; exact Nat.ne_of_gt (IsS116.lt (show IsS116 w0 _ g s0_0 s0_1 s0_2 s0_3 from by repeat (first | (with_reducible first | exact HI0.out | apply IsS116.alloc | apply IsS116.drewN | apply IsS116.drew | apply IsS116.set_0 | apply IsS116.set_1 | apply IsS116.set_2 | apply IsS116.set_3) | exact HI0.out))) : gb147 ≠ g)); clear HI0; clear HK; clear HB; have HI0 := n0_; have HK := n1_; have HB := n2_; have BK147 := n3_; have GW147 := n4_; have GE147 := n5_; have NB0_147 := n6_; have NB147_0 := n7_; clear n0_ n1_ n2_ n3_ n4_ n5_ n6_ n7_; clear hb hbox hg; obtain ⟨HGz3, hgz3⟩ := HI0.out; have hcz3_0 := cellS116_0 HGz3; have hcz3_1 := cellS116_1 HGz3; have hcz3_2 := cellS116_2 HGz3; have hcz3_3 := cellS116_3 HGz3; have hfz3_0 := blk_frozen HGz3 0; have hfz3_1 := blk_frozen HGz3 1; have hfz3_2 := blk_frozen HGz3 2; have hfz3_3 := blk_frozen HGz3 3; clear HGz3 hgz3) | ((with_reducible refine gate_dst (N := 3) rfl ?_); refine box_event ?hg (N := 3) ?hd (cs := #[.int .i64 0, .slice none 0 0]) (t := 38) ?hr ?_; (case hd => rfl); (case hg => rfl); (case hr => first | (go_simp; done) | (go_simp; rfl)); intro gb148 hg w4 hbox hb; have n0_ := Aside0.mk (IsS116.below (by repeat (first | (with_reducible first | exact HI0.out | apply IsS116.alloc | apply IsS116.drewN | apply IsS116.drew | apply IsS116.set_0 | apply IsS116.set_1 | apply IsS116.set_2 | apply IsS116.set_3 | (apply IsS116.far; (case hne => exact NB0_147.out))) | exact HI0.out)) hb); have n1_ := Aside0.mk (blk_below (g := gb147) (o := .cells #[.int .i64 0, .slice none 0 0] 38 (0, 0)) (by (with_reducible repeat (first | refine blk_drewN ?_ _ | refine blk_drew ?_ | refine blk_alloc ?_ _)); exact BK147.out) hb); have n2_ := Aside0.mk (KeepBut.trans (by repeat (first | (with_reducible first | exact HK.out | apply KeepBut.set_ | apply keep_drewN | apply keep_drew | apply keep_alloc | refine keep_far ?_ GW147.out _) | exact HK.out)) (KeepBut.of_below hb g none) (.inl rfl)); have n3_ := Aside0.mk (below_step (by repeat (first | (with_reducible first | exact HB.out | apply below_alloc | apply pw_below_drewN | apply below_drew1 | refine below_set ?_ (IsS116.ge HI0.out) | refine below_set ?_ GE147.out) | exact HB.out)) hb); have n4_ := Aside0.mk (hbox); have n5_ := Aside0.mk ((by rw [hg]; exact (keep_size (w := w) (g := g) (row := none) (by repeat (first | (with_reducible first | exact HK.out | apply KeepBut.set_ | apply keep_drewN | apply keep_drew | apply keep_alloc | refine keep_far ?_ GW147.out _) | exact HK.out))) : w.heap.size ≤ gb148)); have n6_ := Aside0.mk ((Nat.le_trans HW0.out (by rw [hg]; exact (keep_size (w := w) (g := g) (row := none) (by repeat (first | (with_reducible first | exact HK.out | apply KeepBut.set_ | apply keep_drewN | apply keep_drew | apply keep_alloc | refine keep_far ?_ GW147.out _) | exact HK.out))) : w.heap.size ≤ gb148) : w0.heap.size ≤ gb148)); have n7_ := Aside0.mk ((by rw [hg]; exact Nat.ne_of_lt (blk_lt (g := gb147) (o := .cells #[.int .i64 0, .slice none 0 0] 38 (0, 0)) (by (with_reducible repeat (first | refine blk_drewN ?_ _ | refine blk_drew ?_ | refine blk_alloc ?_ _)); exact BK147.out)) : gb147 ≠ gb148)); have n8_ := Aside0.mk ((by rw [hg]; exact Nat.ne_of_gt (blk_lt (g := gb147) (o := .cells #[.int .i64 0, .slice none 0 0] 38 (0, 0)) (by (with_reducible repeat (first | refine blk_drewN ?_ _ | refine blk_drew ?_ | refine blk_alloc ?_ _)); exact BK147.out)) : gb148 ≠ gb147)); have n9_ := Aside0.mk ((by rw [hg]; exact Nat.ne_of_lt (IsS116.lt (show IsS116 w0 _ g s0_0 s0_1 s0_2 s0_3 from by repeat (first | (with_reducible first | exact HI0.out | apply IsS116.alloc | apply IsS116.drewN | apply IsS116.drew | apply IsS116.set_0 | apply IsS116.set_1 | apply IsS116.set_2 | apply IsS116.set_3 | (apply IsS116.far; (case hne => exact NB0_147.out))) | exact HI0.out))) : g ≠ gb148)); have n10_ := Aside0.mk ((by rw [hg]; exact Nat.ne_of_gt (IsS116.lt (show IsS116 w0 _ g s0_0 s0_1 s0_2 s0_3 from by repeat (first | (with_reducible first | exact HI0.out | apply IsS116.alloc | apply IsS116.drewN | apply IsS116.drew | apply IsS116.set_0 | apply IsS116.set_1 | apply IsS116.set_2 | apply IsS116.set_3 | (apply IsS116.far; (case hne => exact NB0_147.out))) | exact HI0.out))) : gb148 ≠ g)); clear HI0; clear BK147; clear HK; clear HB; have HI0 := n0_; have BK147 := n1_; have HK := n2_; have HB := n3_; have BK148 := n4_; have GW148 := n5_; have GE148 := n6_; have NB147_148 := n7_; have NB148_147 := n8_; have NB0_148 := n9_; have NB148_0 := n10_; clear n0_ n1_ n2_ n3_ n4_ n5_ n6_ n7_ n8_ n9_ n10_; clear hb hbox hg; have hnb5 := NB148_147.out; have hnc5 := NB147_148.out; have hnb6 := NB148_0.out; have hnc6 := NB0_148.out; have hcz7_0 : w4.cell? ⟨gb148, 0, none⟩ = some (.int .i64 0) := (blk_cell BK148.out 0).trans rfl; have hcz7_1 : w4.cell? ⟨gb148, 1, none⟩ = some (.slice none 0 0) := (blk_cell BK148.out 1).trans rfl; have hfz7_0 := blk_frozen BK148.out 0; have hfz7_1 := blk_frozen BK148.out 1))
  go_loopg [] k (fun kq w' => ∃ (x1000_1 : ByteArray) (x1001_1 : Int) (x1002_1 : Int) (x1003_1 : Int) (x149001_1 : List (S41)) (u149001 : Value), Aside0 (tcl_parser_command.l0 kq x1000_1 x1001_1 x1002_1 x1003_1 s0_1 x149001_1 = some (r1, r2, r3, r4, r5, r6)) ∧ Aside0 (kq ≤ k) ∧ Aside0 (Kd.S k41 41 w' w.heap.size (fun _ => True) u149001 x149001_1) ∧ Aside0 (w'.heap[gb147]? = some (.cells #[.int .i64 0, (.slice none 0 0)] 38 (0, 0))) ∧ Aside0 (w'.heap[gb148]? = some (.cells #[.int .i64 s0_1, u149001] 38 (0, 0))) ∧ Aside0 (IsS116 w0 w' g x1000_1 x1001_1 x1002_1 x1003_1) ∧ Aside0 (KeepBut w w' g none) ∧ Aside0 (Below w0.heap.size w0 w'))
  case atStart => exact ⟨(s0_0), (s0_1), (s0_2), (s0_3), (([] : List (S41))), (.slice none 0 0), H', ⟨Nat.le_refl _⟩, ⟨by first | exact Kd.S_nil _ _ _ _ _ | exact Kd.N_nil _ _ _ _ _ | exact Kd.V_nil _ _ _ _ _ | exact Kd.Q_nil _ _ _ _ _ | exact Kd.R_nil _ _ _ _ _⟩, ⟨by (with_reducible repeat (first | refine blk_drewN ?_ _ | refine blk_drew ?_ | refine blk_alloc ?_ _)); refine blk_far ?_ NB147_148.out _; (with_reducible repeat (first | refine blk_drewN ?_ _ | refine blk_drew ?_ | refine blk_alloc ?_ _)); refine blk_far ?_ NB147_148.out _; (with_reducible repeat (first | refine blk_drewN ?_ _ | refine blk_drew ?_ | refine blk_alloc ?_ _)); exact BK147.out⟩, ⟨by (with_reducible repeat (first | refine blk_drewN ?_ _ | refine blk_drew ?_ | refine blk_alloc ?_ _)); refine blk_put (cs := #[.int .i64 s0_1, .slice none 0 0]) ?_ 1 _ rfl; (with_reducible repeat (first | refine blk_drewN ?_ _ | refine blk_drew ?_ | refine blk_alloc ?_ _)); refine blk_put (cs := #[.int .i64 0, .slice none 0 0]) ?_ 0 _ rfl; (with_reducible repeat (first | refine blk_drewN ?_ _ | refine blk_drew ?_ | refine blk_alloc ?_ _)); exact BK148.out⟩, ⟨by repeat (first | (with_reducible first | exact HI0.out | apply IsS116.alloc | apply IsS116.drewN | apply IsS116.drew | apply IsS116.set_0 | apply IsS116.set_1 | apply IsS116.set_2 | apply IsS116.set_3 | (apply IsS116.far; (case hne => exact NB0_147.out)) | (apply IsS116.far; (case hne => exact NB0_148.out))) | exact HI0.out)⟩, ⟨by repeat (first | (with_reducible first | exact HK.out | apply KeepBut.set_ | apply keep_drewN | apply keep_drew | apply keep_alloc | refine keep_far ?_ GW147.out _ | refine keep_far ?_ GW148.out _) | exact HK.out)⟩, ⟨by repeat (first | (with_reducible first | exact HB.out | apply below_alloc | apply pw_below_drewN | apply below_drew1 | refine below_set ?_ (IsS116.ge HI0.out) | refine below_set ?_ GE147.out | refine below_set ?_ GE148.out) | exact HB.out)⟩⟩
  case round =>
    clear H'
    try clear p2
    try clear c5
    try clear c6
    try clear hcz3_0
    try clear hcz3_1
    try clear hcz3_2
    try clear hcz3_3
    try clear hcz7_0
    try clear hcz7_1
    try clear hfz3_0
    try clear hfz3_1
    try clear hfz3_2
    try clear hfz3_3
    try clear hfz7_0
    try clear hfz7_1
    obtain ⟨x1000_1, x1001_1, x1002_1, x1003_1, x149001_1, u149001, HA, HK1, HO_149001, BK147, BK148, HI0, HK, HB⟩ := hrel
    cases gk with
    | zero => exact absurd HA.out (by simp [tcl_parser_command.l0])
    | succ k1 =>
      have H := HA.out
      clear HA
      simp only [tcl_parser_command.l0] at H
      have HC8 := Aside0.mk H
      clear H
      go_upto_region 2 with (fail)
      go_cut [31] (fun v31 wc => ∃ (kq : Nat) (x31_7 : Bool), v31 = .bool x31_7 ∧ Aside0 (tcl_parser_command.j1 kq x31_7 x1000_1 x1001_1 x1002_1 x1003_1 s0_1 x149001_1 = some (r1, r2, r3, r4, r5, r6)) ∧ Aside0 (kq ≤ k1) ∧ Aside0 (Kd.S k41 41 wc w.heap.size (fun _ => True) u149001 x149001_1) ∧ Aside0 (wc.heap[gb147]? = some (.cells #[.int .i64 0, (.slice none 0 0)] 38 (0, 0))) ∧ Aside0 (wc.heap[gb148]? = some (.cells #[.int .i64 s0_1, u149001] 38 (0, 0))) ∧ Aside0 (IsS116 w0 wc g x1000_1 x1001_1 x1002_1 x1003_1) ∧ Aside0 (KeepBut w wc g none) ∧ Aside0 (Below w0.heap.size w0 wc))
      case first =>
        have H := HC8.out
        clear HC8
        by_cases c9 : x1001_1 < (x1000_1.size : Int)
        · rw [if_pos c9] at H
          have c9b0 : decide (x1001_1 < (x1000_1.size : Int)) = true := decide_eq_true c9
          clear c9
          (first | rw [c9b0] | (simp only [i64_w, i32_w]; rw [c9b0]) | skip)
          by_cases c10 : 0 ≤ x1001_1
          · rw [if_pos c10] at H
            have c10b0 : decide (0 ≤ x1001_1) = true := decide_eq_true c10
            clear c10
            replace H := Option.bind_eq_some_iff.mp H
            obtain ⟨t149, A120, H⟩ := H
            replace H : (tcl_parser_command.j1 k1 (!t149) x1000_1 x1001_1 x1002_1 x1003_1 s0_1 x149001_1) = some (r1, r2, r3, r4, r5, r6) := H
            have A12 := Aside0.mk A120
            clear A120
            have H' := Aside0.mk H
            clear H
            try go_wp2
            have n0_ := Aside0.mk (Kd.S_drew HO_149001.out)
            have n1_ := Aside0.mk (blk_drew BK147.out)
            have n2_ := Aside0.mk (blk_drew BK148.out)
            have n3_ := Aside0.mk (IsS116.drew HI0.out)
            have n4_ := Aside0.mk (keep_drew HK.out)
            have n5_ := Aside0.mk (below_drew1 HB.out)
            clear HO_149001
            clear BK147
            clear BK148
            clear HI0
            clear HK
            clear HB
            have HO_149001 := n0_
            have BK147 := n1_
            have BK148 := n2_
            have HI0 := n3_
            have HK := n4_
            have HB := n5_
            clear n0_ n1_ n2_ n3_ n4_ n5_
            have p11 : 0 ≤ (x1001_1 : Int) := of_decide_eq_true (by first | (with_reducible assumption) | assumption)
            have q11 : x1001_1 < (x1000_1.size : Int) := of_decide_eq_true (by first | (with_reducible assumption) | assumption)
            have hx11 := bt_at x1000_1 x1001_1
            replace p11 := eq_true p11
            replace q11 := eq_true q11
            refine start_ (n := 23) (S := fun w' => w'.cell? ⟨g, 0, none⟩ = some (.string x1000_1) ∧ w'.cell? ⟨g, 1, none⟩ = some (.int .i64 x1001_1) ∧ w'.cell? ⟨g, 2, none⟩ = some (.int .i64 x1002_1) ∧ w'.cell? ⟨g, 3, none⟩ = some (.int .i64 x1003_1)) (ds := []) #[false, false, false, false, false, false, false, false, false, false, false, false, false, false, false, false, false, false, false, false, false, false, false] (by kernel_rfl) rfl rfl ⟨(blk_cell (Aside0.mk HI0.out.1).out 0).trans rfl, (blk_cell (Aside0.mk HI0.out.1).out 1).trans rfl, (blk_cell (Aside0.mk HI0.out.1).out 2).trans rfl, (blk_cell (Aside0.mk HI0.out.1).out 3).trans rfl⟩ (fun hHeld => ?_); refine with_tabW tcl_parser_command.tab2 tcl_parser_command.bits2 (fun HT_ HW_ => ?_)
            generalize wr.drew = w13 at HO_149001 BK147 BK148 HI0 HK HB hHeld ⊢
            refine pure_ (i := 0) (N := some 9) (v := ?_) (a' := ?_) #[true, false, false, false, false, false, false, false, false, false, false, false, false, false, false, false, false, false, false, false, false, false, false] rfl rfl (any_of HT_.out (by kernel_rfl)) (fun _ _ _ h => h) (Or.inl ⟨by rfl, ?_⟩) ?_ ?_
            rotate_left
            · intro w'
              go_simp
              with_reducible rfl
            rotate_left
            · simp only [Act.put, List.setIfInBounds_toArray, List.set_cons_zero, List.set_cons_succ, i64_w, i32_w]
              rfl
            refine pure_ (i := 1) (N := some 10) (v := ?_) (a' := ?_) #[true, true, false, false, false, false, false, false, false, false, false, false, false, false, false, false, false, false, false, false, false, false, false] rfl rfl (any_of HT_.out (by kernel_rfl)) (fun _ _ _ h => h) (Or.inl ⟨by rfl, ?_⟩) ?_ ?_
            rotate_left
            · intro w'
              go_simp
              with_reducible rfl
            rotate_left
            · simp only [Act.put, List.setIfInBounds_toArray, List.set_cons_zero, List.set_cons_succ, i64_w, i32_w]
              rfl
            refine pure_ (i := 2) (N := some 11) (v := ?_) (a' := ?_) #[true, true, true, false, false, false, false, false, false, false, false, false, false, false, false, false, false, false, false, false, false, false, false] rfl rfl (any_of HT_.out (by kernel_rfl)) (fun _ _ _ h => h) (Or.inl ⟨by rfl, ?_⟩) ?_ ?_
            rotate_left
            · intro w'
              go_simp
              with_reducible rfl
            rotate_left
            · simp only [Act.put, List.setIfInBounds_toArray, List.set_cons_zero, List.set_cons_succ, i64_w, i32_w]
              rfl
            refine pure_ (i := 4) (N := some 13) (v := ?_) (a' := ?_) #[true, true, true, false, true, false, false, false, false, false, false, false, false, false, false, false, false, false, false, false, false, false, false] rfl rfl (any_of HT_.out (by kernel_rfl)) (fun _ _ _ h => h) (Or.inl ⟨by rfl, ?_⟩) ?_ ?_
            rotate_left
            · intro w'
              go_simp
              with_reducible rfl
            rotate_left
            · simp only [Act.put, List.setIfInBounds_toArray, List.set_cons_zero, List.set_cons_succ, i64_w, i32_w]
              rfl
            refine pure_ (i := 5) (N := some 14) (v := ?_) (a' := ?_) #[true, true, true, false, true, true, false, false, false, false, false, false, false, false, false, false, false, false, false, false, false, false, false] rfl rfl (any_of HT_.out (by kernel_rfl)) (fun _ _ _ h => h) (Or.inl ⟨by rfl, ?_⟩) ?_ ?_
            rotate_left
            · intro w'
              go_simp
              with_reducible rfl
            rotate_left
            · simp only [Act.put, List.setIfInBounds_toArray, List.set_cons_zero, List.set_cons_succ, i64_w, i32_w]
              rfl
            refine pure_ (i := 6) (N := some 15) (v := ?_) (a' := ?_) #[true, true, true, false, true, true, true, false, false, false, false, false, false, false, false, false, false, false, false, false, false, false, false] rfl rfl (any_of HT_.out (by kernel_rfl)) (fun _ _ _ h => h) (Or.inl ⟨by rfl, ?_⟩) ?_ ?_
            rotate_left
            · intro w'
              go_simp
              with_reducible rfl
            rotate_left
            · simp only [Act.put, List.setIfInBounds_toArray, List.set_cons_zero, List.set_cons_succ, i64_w, i32_w]
              rfl
            refine take_ (i := 3) (N := some 12) (v := ?_) (a' := ?_) #[true, true, true, true, true, true, true, false, false, false, false, false, false, false, false, false, false, false, false, false, false, false, false] rfl rfl (take_ofW HT_.out HW_.out (by kernel_rfl)) (fun _ _ _ h => h) (Or.inl ⟨by rfl, ?_⟩) hHeld ?_ ?_
            rotate_left
            · rintro w' ⟨s0, s1, s2, s3⟩
              go_simp
              with_reducible rfl
            rotate_left
            · simp only [Act.put, List.setIfInBounds_toArray, List.set_cons_zero, List.set_cons_succ, i64_w, i32_w]
              rfl
            refine take_ (i := 7) (N := some 16) (v := ?_) (a' := ?_) #[true, true, true, true, true, true, true, true, false, false, false, false, false, false, false, false, false, false, false, false, false, false, false] rfl rfl (take_ofW HT_.out HW_.out (by kernel_rfl)) (fun _ _ _ h => h) (Or.inl ⟨by rfl, ?_⟩) hHeld ?_ ?_
            rotate_left
            · rintro w' ⟨s0, s1, s2, s3⟩
              go_simp
              with_reducible rfl
            rotate_left
            · simp only [Act.put, List.setIfInBounds_toArray, List.set_cons_zero, List.set_cons_succ, i64_w, i32_w]
              rfl
            refine pure_ (i := 8) (N := some 17) (v := ?_) (a' := ?_) #[true, true, true, true, true, true, true, true, true, false, false, false, false, false, false, false, false, false, false, false, false, false, false] rfl rfl (any_of HT_.out (by kernel_rfl)) (fun _ _ _ h => h) (Or.inl ⟨by rfl, ?_⟩) ?_ ?_
            rotate_left
            · intro w'
              go_simp
              with_reducible rfl
            rotate_left
            · simp only [Act.put, List.setIfInBounds_toArray, List.set_cons_zero, List.set_cons_succ, i64_w, i32_w]
              rfl
            refine pure_ (i := 9) (N := some 18) (v := ?_) (a' := ?_) #[true, true, true, true, true, true, true, true, true, true, false, false, false, false, false, false, false, false, false, false, false, false, false] rfl rfl (any_of HT_.out (by kernel_rfl)) (fun _ _ _ h => h) (Or.inl ⟨by rfl, ?_⟩) ?_ ?_
            rotate_left
            · intro w'
              go_simp
              with_reducible rfl
            rotate_left
            · simp only [Act.put, List.setIfInBounds_toArray, List.set_cons_zero, List.set_cons_succ, i64_w, i32_w]
              rfl
            refine pure_ (i := 10) (N := some 19) (v := ?_) (a' := ?_) #[true, true, true, true, true, true, true, true, true, true, true, false, false, false, false, false, false, false, false, false, false, false, false] rfl rfl (any_of HT_.out (by kernel_rfl)) (fun _ _ _ h => h) (Or.inl ⟨by rfl, ?_⟩) ?_ ?_
            rotate_left
            · intro w'
              go_simp
              with_reducible rfl
            rotate_left
            · simp only [Act.put, List.setIfInBounds_toArray, List.set_cons_zero, List.set_cons_succ, i64_w, i32_w]
              rfl
            refine pure_ (i := 11) (N := some 20) (v := ?_) (a' := ?_) #[true, true, true, true, true, true, true, true, true, true, true, true, false, false, false, false, false, false, false, false, false, false, false] rfl rfl (any_of HT_.out (by kernel_rfl)) (fun _ _ _ h => h) (Or.inl ⟨by rfl, ?_⟩) ?_ ?_
            rotate_left
            · intro w'
              go_simp
              with_reducible rfl
            rotate_left
            · simp only [Act.put, List.setIfInBounds_toArray, List.set_cons_zero, List.set_cons_succ, i64_w, i32_w]
              rfl
            refine pure_ (i := 12) (N := some 21) (v := ?_) (a' := ?_) #[true, true, true, true, true, true, true, true, true, true, true, true, true, false, false, false, false, false, false, false, false, false, false] rfl rfl (any_of HT_.out (by kernel_rfl)) (fun _ _ _ h => h) (Or.inl ⟨by rfl, ?_⟩) ?_ ?_
            rotate_left
            · intro w'
              go_simp
              with_reducible rfl
            rotate_left
            · simp only [Act.put, List.setIfInBounds_toArray, List.set_cons_zero, List.set_cons_succ, i64_w, i32_w]
              rfl
            refine pure_ (i := 13) (N := some 22) (v := ?_) (a' := ?_) #[true, true, true, true, true, true, true, true, true, true, true, true, true, true, false, false, false, false, false, false, false, false, false] rfl rfl (any_of HT_.out (by kernel_rfl)) (fun _ _ _ h => h) (Or.inl ⟨by rfl, ?_⟩) ?_ ?_
            rotate_left
            · intro w'
              go_simp
              with_reducible rfl
            rotate_left
            · simp only [Act.put, List.setIfInBounds_toArray, List.set_cons_zero, List.set_cons_succ, i64_w, i32_w]
              rfl
            refine pure_ (i := 15) (N := some 24) (v := ?_) (a' := ?_) #[true, true, true, true, true, true, true, true, true, true, true, true, true, true, false, true, false, false, false, false, false, false, false] rfl rfl (any_of HT_.out (by kernel_rfl)) (fun _ _ _ h => h) (Or.inl ⟨by rfl, ?_⟩) ?_ ?_
            rotate_left
            · intro w'
              go_simp
              with_reducible rfl
            rotate_left
            · simp only [Act.put, List.setIfInBounds_toArray, List.set_cons_zero, List.set_cons_succ, i64_w, i32_w]
              rfl
            refine pure_ (i := 16) (N := some 25) (v := ?_) (a' := ?_) #[true, true, true, true, true, true, true, true, true, true, true, true, true, true, false, true, true, false, false, false, false, false, false] rfl rfl (any_of HT_.out (by kernel_rfl)) (fun _ _ _ h => h) (Or.inl ⟨by rfl, ?_⟩) ?_ ?_
            rotate_left
            · intro w'
              go_simp
              with_reducible rfl
            rotate_left
            · simp only [Act.put, List.setIfInBounds_toArray, List.set_cons_zero, List.set_cons_succ, i64_w, i32_w]
              rfl
            refine pure_ (i := 17) (N := some 26) (v := ?_) (a' := ?_) #[true, true, true, true, true, true, true, true, true, true, true, true, true, true, false, true, true, true, false, false, false, false, false] rfl rfl (any_of HT_.out (by kernel_rfl)) (fun _ _ _ h => h) (Or.inl ⟨by rfl, ?_⟩) ?_ ?_
            rotate_left
            · intro w'
              go_simp
              with_reducible rfl
            rotate_left
            · simp only [Act.put, List.setIfInBounds_toArray, List.set_cons_zero, List.set_cons_succ, i64_w, i32_w]
              rfl
            refine take_ (i := 14) (N := some 23) (v := ?_) (a' := ?_) #[true, true, true, true, true, true, true, true, true, true, true, true, true, true, true, true, true, true, false, false, false, false, false] rfl rfl (take_ofW HT_.out HW_.out (by kernel_rfl)) (fun _ _ _ h => h) (Or.inl ⟨by rfl, ?_⟩) hHeld ?_ ?_
            rotate_left
            · rintro w' ⟨s0, s1, s2, s3⟩
              go_simp
              with_reducible rfl
            rotate_left
            · simp only [Act.put, List.setIfInBounds_toArray, List.set_cons_zero, List.set_cons_succ, i64_w, i32_w]
              rfl
            refine take_ (i := 18) (N := some 27) (v := ?_) (a' := ?_) #[true, true, true, true, true, true, true, true, true, true, true, true, true, true, true, true, true, true, true, false, false, false, false] rfl rfl (take_ofW HT_.out HW_.out (by kernel_rfl)) (fun _ _ _ h => h) (Or.inl ⟨by rfl, ?_⟩) hHeld ?_ ?_
            rotate_left
            · rintro w' ⟨s0, s1, s2, s3⟩
              go_simp
              with_reducible rfl
            rotate_left
            · simp only [Act.put, List.setIfInBounds_toArray, List.set_cons_zero, List.set_cons_succ, i64_w, i32_w]
              rfl
            refine take_ (i := 19) (N := some 28) (v := ?_) (a' := ?_) #[true, true, true, true, true, true, true, true, true, true, true, true, true, true, true, true, true, true, true, true, false, false, false] rfl rfl (take_ofW HT_.out HW_.out (by kernel_rfl)) (fun _ _ _ h => h) (Or.inl ⟨by rfl, ?_⟩) hHeld ?_ ?_
            rotate_left
            · rintro w' ⟨s0, s1, s2, s3⟩
              go_simp
              with_reducible rfl
            rotate_left
            · simp only [Act.put, List.setIfInBounds_toArray, List.set_cons_zero, List.set_cons_succ, i64_w, i32_w]
              rfl
            refine one_ (i := 20) (N := some 29) #[true, true, true, true, true, true, true, true, true, true, true, true, true, true, true, true, true, true, true, true, true, false, false] rfl rfl (one_of HT_.out (by kernel_rfl)) (by decide) (fun K hK => ?_)
            refine goes_ Try.func55 (by kernel_rfl) rfl #[.string (⟨#[10, 59]⟩ : ByteArray), .int .u8 (bt x1000_1 x1001_1)] (by rfl) rfl rfl (by (try simp only [List.map_toArray, List.map_cons, List.map_nil]); first | done | rfl | (simp only [List.length_drop, List.length_take]; rfl)) ?_
            with_reducible refine (tcl_in.calls (⟨#[10, 59]⟩ : ByteArray) (bt x1000_1 x1001_1) t149 _ A12.out).mono ?_
            rintro e w' ⟨rfl, ⟨nd, rfl⟩⟩
            refine ⟨_, rfl, ?_⟩
            refine hK.out _ _ ⟨(blk_cell (Aside0.mk HI0.out.1).out 0).trans rfl, (blk_cell (Aside0.mk HI0.out.1).out 1).trans rfl, (blk_cell (Aside0.mk HI0.out.1).out 2).trans rfl, (blk_cell (Aside0.mk HI0.out.1).out 3).trans rfl⟩ (fun hHeld => ?_)
            clear hK K
            refine norm_ (a' := ?_) ?_ ?_
            rotate_left
            · show Act.put _ (some 29) _ = _
              simp only [Act.put, List.setIfInBounds_toArray, List.set_cons_zero, List.set_cons_succ, i64_w, i32_w]
              rfl
            refine pure_ (i := 21) (N := some 30) (v := ?_) (a' := ?_) #[true, true, true, true, true, true, true, true, true, true, true, true, true, true, true, true, true, true, true, true, true, true, false] rfl rfl (any_of HT_.out (by kernel_rfl)) (fun _ _ _ h => h) (Or.inl ⟨by rfl, ?_⟩) ?_ ?_
            rotate_left
            · intro w'
              go_simp
              with_reducible rfl
            rotate_left
            · simp only [Act.put, List.setIfInBounds_toArray, List.set_cons_zero, List.set_cons_succ, i64_w, i32_w]
              rfl
            refine pure_ (i := 22) (N := some 31) (v := ?_) (a' := ?_) #[true, true, true, true, true, true, true, true, true, true, true, true, true, true, true, true, true, true, true, true, true, true, true] rfl rfl (any_of HT_.out (by kernel_rfl)) (fun _ _ _ h => h) (Or.inl ⟨by rfl, ?_⟩) ?_ ?_
            rotate_left
            · intro w'
              go_simp
              with_reducible rfl
            rotate_left
            · simp only [Act.put, List.setIfInBounds_toArray, List.set_cons_zero, List.set_cons_succ, i64_w, i32_w]
              rfl
            refine done_ (done_of HT_.out (by kernel_rfl)) ?_
            try go_wp2
            go_meet
            case rel => exact ⟨_, (!t149), (by first | rfl | (simp; done) | (simp [*]; done)), H', ⟨by have := HK1.out; first | omega | exact Nat.le_refl _⟩, ⟨by (with_reducible repeat (first | apply Kd.S_alloc | apply Kd.S_drewN | apply Kd.S_drew)); exact HO_149001.out⟩, ⟨by (with_reducible repeat (first | refine blk_drewN ?_ _ | refine blk_drew ?_ | refine blk_alloc ?_ _)); exact BK147.out⟩, ⟨by (with_reducible repeat (first | refine blk_drewN ?_ _ | refine blk_drew ?_ | refine blk_alloc ?_ _)); exact BK148.out⟩, ⟨by repeat (first | (with_reducible first | exact HI0.out | apply IsS116.alloc | apply IsS116.drewN | apply IsS116.drew | apply IsS116.set_0 | apply IsS116.set_1 | apply IsS116.set_2 | apply IsS116.set_3 | (apply IsS116.far; (case hne => exact NB0_147.out)) | (apply IsS116.far; (case hne => exact NB0_148.out))) | exact HI0.out)⟩, ⟨by repeat (first | (with_reducible first | exact HK.out | apply KeepBut.set_ | apply keep_drewN | apply keep_drew | apply keep_alloc | refine keep_far ?_ GW147.out _ | refine keep_far ?_ GW148.out _) | exact HK.out)⟩, ⟨by repeat (first | (with_reducible first | exact HB.out | apply below_alloc | apply pw_below_drewN | apply below_drew1 | refine below_set ?_ (IsS116.ge HI0.out) | refine below_set ?_ GE147.out | refine below_set ?_ GE148.out) | exact HB.out)⟩⟩
          · rw [if_neg c10] at H
            exact absurd H (by simp)
        · rw [if_neg c9] at H
          have c9b0 : decide (x1001_1 < (x1000_1.size : Int)) = false := decide_eq_false c9
          clear c9
          (first | rw [c9b0] | (simp only [i64_w, i32_w]; rw [c9b0]) | skip)
          have H' := Aside0.mk H
          clear H
          try go_wp2
          have n0_ := Aside0.mk (Kd.S_drew HO_149001.out)
          have n1_ := Aside0.mk (blk_drew BK147.out)
          have n2_ := Aside0.mk (blk_drew BK148.out)
          have n3_ := Aside0.mk (IsS116.drew HI0.out)
          have n4_ := Aside0.mk (keep_drew HK.out)
          have n5_ := Aside0.mk (below_drew1 HB.out)
          clear HO_149001
          clear BK147
          clear BK148
          clear HI0
          clear HK
          clear HB
          have HO_149001 := n0_
          have BK147 := n1_
          have BK148 := n2_
          have HI0 := n3_
          have HK := n4_
          have HB := n5_
          clear n0_ n1_ n2_ n3_ n4_ n5_
          refine start_ (n := 23) (S := fun w' => w'.cell? ⟨g, 0, none⟩ = some (.string x1000_1) ∧ w'.cell? ⟨g, 1, none⟩ = some (.int .i64 x1001_1) ∧ w'.cell? ⟨g, 2, none⟩ = some (.int .i64 x1002_1) ∧ w'.cell? ⟨g, 3, none⟩ = some (.int .i64 x1003_1)) (ds := []) #[false, false, false, false, false, false, false, false, false, false, false, false, false, false, false, false, false, false, false, false, false, false, false] (by kernel_rfl) rfl rfl ⟨(blk_cell (Aside0.mk HI0.out.1).out 0).trans rfl, (blk_cell (Aside0.mk HI0.out.1).out 1).trans rfl, (blk_cell (Aside0.mk HI0.out.1).out 2).trans rfl, (blk_cell (Aside0.mk HI0.out.1).out 3).trans rfl⟩ (fun hHeld => ?_); refine with_tabW tcl_parser_command.tab2 tcl_parser_command.bits2 (fun HT_ HW_ => ?_)
          generalize wr.drew = w14 at HO_149001 BK147 BK148 HI0 HK HB hHeld ⊢
          refine pure_ (i := 0) (N := some 9) (v := ?_) (a' := ?_) #[true, false, false, false, false, false, false, false, false, false, false, false, false, false, false, false, false, false, false, false, false, false, false] rfl rfl (any_of HT_.out (by kernel_rfl)) (fun _ _ _ h => h) (Or.inl ⟨by rfl, ?_⟩) ?_ ?_
          rotate_left
          · intro w'
            go_simp
            with_reducible rfl
          rotate_left
          · simp only [Act.put, List.setIfInBounds_toArray, List.set_cons_zero, List.set_cons_succ, i64_w, i32_w]
            rfl
          refine pure_ (i := 1) (N := some 10) (v := ?_) (a' := ?_) #[true, true, false, false, false, false, false, false, false, false, false, false, false, false, false, false, false, false, false, false, false, false, false] rfl rfl (any_of HT_.out (by kernel_rfl)) (fun _ _ _ h => h) (Or.inl ⟨by rfl, ?_⟩) ?_ ?_
          rotate_left
          · intro w'
            go_simp
            with_reducible rfl
          rotate_left
          · simp only [Act.put, List.setIfInBounds_toArray, List.set_cons_zero, List.set_cons_succ, i64_w, i32_w]
            rfl
          refine pure_ (i := 2) (N := some 11) (v := ?_) (a' := ?_) #[true, true, true, false, false, false, false, false, false, false, false, false, false, false, false, false, false, false, false, false, false, false, false] rfl rfl (any_of HT_.out (by kernel_rfl)) (fun _ _ _ h => h) (Or.inl ⟨by rfl, ?_⟩) ?_ ?_
          rotate_left
          · intro w'
            go_simp
            with_reducible rfl
          rotate_left
          · simp only [Act.put, List.setIfInBounds_toArray, List.set_cons_zero, List.set_cons_succ, i64_w, i32_w]
            rfl
          refine pure_ (i := 4) (N := some 13) (v := ?_) (a' := ?_) #[true, true, true, false, true, false, false, false, false, false, false, false, false, false, false, false, false, false, false, false, false, false, false] rfl rfl (any_of HT_.out (by kernel_rfl)) (fun _ _ _ h => h) (Or.inl ⟨by rfl, ?_⟩) ?_ ?_
          rotate_left
          · intro w'
            go_simp
            with_reducible rfl
          rotate_left
          · simp only [Act.put, List.setIfInBounds_toArray, List.set_cons_zero, List.set_cons_succ, i64_w, i32_w]
            rfl
          refine pure_ (i := 5) (N := some 14) (v := ?_) (a' := ?_) #[true, true, true, false, true, true, false, false, false, false, false, false, false, false, false, false, false, false, false, false, false, false, false] rfl rfl (any_of HT_.out (by kernel_rfl)) (fun _ _ _ h => h) (Or.inl ⟨by rfl, ?_⟩) ?_ ?_
          rotate_left
          · intro w'
            go_simp
            with_reducible rfl
          rotate_left
          · simp only [Act.put, List.setIfInBounds_toArray, List.set_cons_zero, List.set_cons_succ, i64_w, i32_w]
            rfl
          refine pure_ (i := 6) (N := some 15) (v := ?_) (a' := ?_) #[true, true, true, false, true, true, true, false, false, false, false, false, false, false, false, false, false, false, false, false, false, false, false] rfl rfl (any_of HT_.out (by kernel_rfl)) (fun _ _ _ h => h) (Or.inl ⟨by rfl, ?_⟩) ?_ ?_
          rotate_left
          · intro w'
            go_simp
            with_reducible rfl
          rotate_left
          · simp only [Act.put, List.setIfInBounds_toArray, List.set_cons_zero, List.set_cons_succ, i64_w, i32_w]
            rfl
          refine take_ (i := 3) (N := some 12) (v := ?_) (a' := ?_) #[true, true, true, true, true, true, true, false, false, false, false, false, false, false, false, false, false, false, false, false, false, false, false] rfl rfl (take_ofW HT_.out HW_.out (by kernel_rfl)) (fun _ _ _ h => h) (Or.inl ⟨by rfl, ?_⟩) hHeld ?_ ?_
          rotate_left
          · rintro w' ⟨s0, s1, s2, s3⟩
            go_simp
            with_reducible rfl
          rotate_left
          · simp only [Act.put, List.setIfInBounds_toArray, List.set_cons_zero, List.set_cons_succ, i64_w, i32_w]
            rfl
          refine take_ (i := 7) (N := some 16) (v := ?_) (a' := ?_) #[true, true, true, true, true, true, true, true, false, false, false, false, false, false, false, false, false, false, false, false, false, false, false] rfl rfl (take_ofW HT_.out HW_.out (by kernel_rfl)) (fun _ _ _ h => h) (Or.inl ⟨by rfl, ?_⟩) hHeld ?_ ?_
          rotate_left
          · rintro w' ⟨s0, s1, s2, s3⟩
            go_simp
            with_reducible rfl
          rotate_left
          · simp only [Act.put, List.setIfInBounds_toArray, List.set_cons_zero, List.set_cons_succ, i64_w, i32_w]
            rfl
          refine pure_ (i := 8) (N := some 17) (v := ?_) (a' := ?_) #[true, true, true, true, true, true, true, true, true, false, false, false, false, false, false, false, false, false, false, false, false, false, false] rfl rfl (any_of HT_.out (by kernel_rfl)) (fun _ _ _ h => h) (Or.inl ⟨by rfl, ?_⟩) ?_ ?_
          rotate_left
          · intro w'
            go_simp
            with_reducible rfl
          rotate_left
          · simp only [Act.put, List.setIfInBounds_toArray, List.set_cons_zero, List.set_cons_succ, i64_w, i32_w]
            rfl
          refine pure_ (i := 9) (N := some 18) (v := ?_) (a' := ?_) #[true, true, true, true, true, true, true, true, true, true, false, false, false, false, false, false, false, false, false, false, false, false, false] rfl rfl (any_of HT_.out (by kernel_rfl)) (fun _ _ _ h => h) (Or.inl ⟨by rfl, ?_⟩) ?_ ?_
          rotate_left
          · intro w'
            go_simp
            with_reducible rfl
          rotate_left
          · simp only [Act.put, List.setIfInBounds_toArray, List.set_cons_zero, List.set_cons_succ, i64_w, i32_w]
            rfl
          refine pure_ (i := 10) (N := some 19) (v := ?_) (a' := ?_) #[true, true, true, true, true, true, true, true, true, true, true, false, false, false, false, false, false, false, false, false, false, false, false] rfl rfl (any_of HT_.out (by kernel_rfl)) (fun _ _ _ h => h) (Or.inl ⟨by rfl, ?_⟩) ?_ ?_
          rotate_left
          · intro w'
            go_simp
            with_reducible rfl
          rotate_left
          · simp only [Act.put, List.setIfInBounds_toArray, List.set_cons_zero, List.set_cons_succ, i64_w, i32_w]
            rfl
          refine pure_ (i := 11) (N := some 20) (v := undef) (a' := ?_) #[true, true, true, true, true, true, true, true, true, true, true, true, false, false, false, false, false, false, false, false, false, false, false] rfl rfl (any_of HT_.out (by kernel_rfl)) (fun _ _ _ h => h) (Or.inr ⟨by rfl, rfl⟩) ?_ ?_
          rotate_left
          · simp only [Act.put, List.setIfInBounds_toArray, List.set_cons_zero, List.set_cons_succ, i64_w, i32_w]
            rfl
          refine pure_ (i := 12) (N := some 21) (v := undef) (a' := ?_) #[true, true, true, true, true, true, true, true, true, true, true, true, true, false, false, false, false, false, false, false, false, false, false] rfl rfl (any_of HT_.out (by kernel_rfl)) (fun _ _ _ h => h) (Or.inr ⟨by rfl, rfl⟩) ?_ ?_
          rotate_left
          · simp only [Act.put, List.setIfInBounds_toArray, List.set_cons_zero, List.set_cons_succ, i64_w, i32_w]
            rfl
          refine pure_ (i := 13) (N := some 22) (v := undef) (a' := ?_) #[true, true, true, true, true, true, true, true, true, true, true, true, true, true, false, false, false, false, false, false, false, false, false] rfl rfl (any_of HT_.out (by kernel_rfl)) (fun _ _ _ h => h) (Or.inr ⟨by rfl, rfl⟩) ?_ ?_
          rotate_left
          · simp only [Act.put, List.setIfInBounds_toArray, List.set_cons_zero, List.set_cons_succ, i64_w, i32_w]
            rfl
          refine pure_ (i := 14) (N := some 23) (v := undef) (a' := ?_) #[true, true, true, true, true, true, true, true, true, true, true, true, true, true, true, false, false, false, false, false, false, false, false] rfl rfl (any_of HT_.out (by kernel_rfl)) (fun _ _ _ h => h) (Or.inr ⟨by rfl, rfl⟩) ?_ ?_
          rotate_left
          · simp only [Act.put, List.setIfInBounds_toArray, List.set_cons_zero, List.set_cons_succ, i64_w, i32_w]
            rfl
          refine pure_ (i := 15) (N := some 24) (v := undef) (a' := ?_) #[true, true, true, true, true, true, true, true, true, true, true, true, true, true, true, true, false, false, false, false, false, false, false] rfl rfl (any_of HT_.out (by kernel_rfl)) (fun _ _ _ h => h) (Or.inr ⟨by rfl, rfl⟩) ?_ ?_
          rotate_left
          · simp only [Act.put, List.setIfInBounds_toArray, List.set_cons_zero, List.set_cons_succ, i64_w, i32_w]
            rfl
          refine pure_ (i := 16) (N := some 25) (v := undef) (a' := ?_) #[true, true, true, true, true, true, true, true, true, true, true, true, true, true, true, true, true, false, false, false, false, false, false] rfl rfl (any_of HT_.out (by kernel_rfl)) (fun _ _ _ h => h) (Or.inr ⟨by rfl, rfl⟩) ?_ ?_
          rotate_left
          · simp only [Act.put, List.setIfInBounds_toArray, List.set_cons_zero, List.set_cons_succ, i64_w, i32_w]
            rfl
          refine pure_ (i := 17) (N := some 26) (v := undef) (a' := ?_) #[true, true, true, true, true, true, true, true, true, true, true, true, true, true, true, true, true, true, false, false, false, false, false] rfl rfl (any_of HT_.out (by kernel_rfl)) (fun _ _ _ h => h) (Or.inr ⟨by rfl, rfl⟩) ?_ ?_
          rotate_left
          · simp only [Act.put, List.setIfInBounds_toArray, List.set_cons_zero, List.set_cons_succ, i64_w, i32_w]
            rfl
          refine pure_ (i := 18) (N := some 27) (v := undef) (a' := ?_) #[true, true, true, true, true, true, true, true, true, true, true, true, true, true, true, true, true, true, true, false, false, false, false] rfl rfl (any_of HT_.out (by kernel_rfl)) (fun _ _ _ h => h) (Or.inr ⟨by rfl, rfl⟩) ?_ ?_
          rotate_left
          · simp only [Act.put, List.setIfInBounds_toArray, List.set_cons_zero, List.set_cons_succ, i64_w, i32_w]
            rfl
          refine pure_ (i := 19) (N := some 28) (v := undef) (a' := ?_) #[true, true, true, true, true, true, true, true, true, true, true, true, true, true, true, true, true, true, true, true, false, false, false] rfl rfl (any_of HT_.out (by kernel_rfl)) (fun _ _ _ h => h) (Or.inr ⟨by rfl, rfl⟩) ?_ ?_
          rotate_left
          · simp only [Act.put, List.setIfInBounds_toArray, List.set_cons_zero, List.set_cons_succ, i64_w, i32_w]
            rfl
          refine pure_ (i := 20) (N := some 29) (v := undef) (a' := ?_) #[true, true, true, true, true, true, true, true, true, true, true, true, true, true, true, true, true, true, true, true, true, false, false] rfl rfl (any_of HT_.out (by kernel_rfl)) (fun _ _ _ h => h) (Or.inr ⟨by rfl, rfl⟩) ?_ ?_
          rotate_left
          · simp only [Act.put, List.setIfInBounds_toArray, List.set_cons_zero, List.set_cons_succ, i64_w, i32_w]
            rfl
          refine pure_ (i := 21) (N := some 30) (v := undef) (a' := ?_) #[true, true, true, true, true, true, true, true, true, true, true, true, true, true, true, true, true, true, true, true, true, true, false] rfl rfl (any_of HT_.out (by kernel_rfl)) (fun _ _ _ h => h) (Or.inr ⟨by rfl, rfl⟩) ?_ ?_
          rotate_left
          · simp only [Act.put, List.setIfInBounds_toArray, List.set_cons_zero, List.set_cons_succ, i64_w, i32_w]
            rfl
          refine pure_ (i := 22) (N := some 31) (v := ?_) (a' := ?_) #[true, true, true, true, true, true, true, true, true, true, true, true, true, true, true, true, true, true, true, true, true, true, true] rfl rfl (any_of HT_.out (by kernel_rfl)) (fun _ _ _ h => h) (Or.inl ⟨by rfl, ?_⟩) ?_ ?_
          rotate_left
          · intro w'
            go_simp
            with_reducible rfl
          rotate_left
          · simp only [Act.put, List.setIfInBounds_toArray, List.set_cons_zero, List.set_cons_succ, i64_w, i32_w]
            rfl
          refine done_ (done_of HT_.out (by kernel_rfl)) ?_
          try go_wp2
          go_meet
          case rel => exact ⟨_, (false), (by first | rfl | (simp; done) | (simp [*]; done)), H', ⟨by have := HK1.out; first | omega | exact Nat.le_refl _⟩, ⟨by (with_reducible repeat (first | apply Kd.S_alloc | apply Kd.S_drewN | apply Kd.S_drew)); exact HO_149001.out⟩, ⟨by (with_reducible repeat (first | refine blk_drewN ?_ _ | refine blk_drew ?_ | refine blk_alloc ?_ _)); exact BK147.out⟩, ⟨by (with_reducible repeat (first | refine blk_drewN ?_ _ | refine blk_drew ?_ | refine blk_alloc ?_ _)); exact BK148.out⟩, ⟨by repeat (first | (with_reducible first | exact HI0.out | apply IsS116.alloc | apply IsS116.drewN | apply IsS116.drew | apply IsS116.set_0 | apply IsS116.set_1 | apply IsS116.set_2 | apply IsS116.set_3 | (apply IsS116.far; (case hne => exact NB0_147.out)) | (apply IsS116.far; (case hne => exact NB0_148.out))) | exact HI0.out)⟩, ⟨by repeat (first | (with_reducible first | exact HK.out | apply KeepBut.set_ | apply keep_drewN | apply keep_drew | apply keep_alloc | refine keep_far ?_ GW147.out _ | refine keep_far ?_ GW148.out _) | exact HK.out)⟩, ⟨by repeat (first | (with_reducible first | exact HB.out | apply below_alloc | apply pw_below_drewN | apply below_drew1 | refine below_set ?_ (IsS116.ge HI0.out) | refine below_set ?_ GE147.out | refine below_set ?_ GE148.out) | exact HB.out)⟩⟩
      case rest =>
        clear HC8
        try clear c1
        try clear p1
        try clear q1
        try clear hx1
        try clear p2
        try clear c5
        try clear c6
        try clear c9
        try clear c9b0
        try clear c10
        try clear c10b0
        try clear p11
        try clear q11
        try clear hx11
        try clear hcz3_0
        try clear hcz3_1
        try clear hcz3_2
        try clear hcz3_3
        try clear hcz7_0
        try clear hcz7_1
        try clear hfz3_0
        try clear hfz3_1
        try clear hfz3_2
        try clear hfz3_3
        try clear hfz7_0
        try clear hfz7_1
        try clear p11
        try clear p2
        try clear q11
        obtain ⟨kq, x31_7, rfl, HA, HJ7, HO_149001, BK147, BK148, HI0, HK, HB⟩ := hcut
        cases kq with
        | zero => exact absurd HA.out (by simp [tcl_parser_command.j1])
        | succ kj7 =>
          have H := HA.out
          clear HA
          simp only [tcl_parser_command.j1] at H
          by_cases c15 : x31_7 = true
          · subst c15
            have H1 : (if 0 ≤ x1001_1 then (if x1001_1 < (x1000_1.size : Int) then ((tcl_in.f (⟨#[32, 9]⟩ : ByteArray) (bt x1000_1 x1001_1)).bind fun t150 => (if t150 = true then (tcl_parser_command.l0 kj7 x1000_1 (wrap64 (x1001_1 + 1)) x1002_1 x1003_1 s0_1 x149001_1) else ((tcl_parser_word.f kj7 x1000_1 x1001_1 x1002_1 x1003_1).bind fun bt151 => (if x149001_1.length < 3518437208883 then (tcl_parser_command.l0 kj7 bt151.2.2.2.1 bt151.2.2.2.2.1 bt151.2.2.2.2.2.1 bt151.2.2.2.2.2.2 s0_1 (x149001_1 ++ [(⟨bt151.1, bt151.2.1, bt151.2.2.1⟩ : S41)])) else (none))))) else (none)) else (none)) = some (r1, r2, r3, r4, r5, r6) := by rw [if_pos rfl] at H; exact H
            clear H
            have H := H1
            clear H1
            by_cases c16 : 0 ≤ x1001_1
            · rw [if_pos c16] at H
              have c16b0 : decide (0 ≤ x1001_1) = true := decide_eq_true c16
              clear c16
              by_cases c17 : x1001_1 < (x1000_1.size : Int)
              · rw [if_pos c17] at H
                have c17b0 : decide (x1001_1 < (x1000_1.size : Int)) = true := decide_eq_true c17
                clear c17
                replace H := Option.bind_eq_some_iff.mp H
                obtain ⟨t150, A190, H⟩ := H
                replace H : (if t150 = true then (tcl_parser_command.l0 kj7 x1000_1 (wrap64 (x1001_1 + 1)) x1002_1 x1003_1 s0_1 x149001_1) else ((tcl_parser_word.f kj7 x1000_1 x1001_1 x1002_1 x1003_1).bind fun bt151 => (if x149001_1.length < 3518437208883 then (tcl_parser_command.l0 kj7 bt151.2.2.2.1 bt151.2.2.2.2.1 bt151.2.2.2.2.2.1 bt151.2.2.2.2.2.2 s0_1 (x149001_1 ++ [(⟨bt151.1, bt151.2.1, bt151.2.2.1⟩ : S41)])) else (none)))) = some (r1, r2, r3, r4, r5, r6) := H
                have A19 := Aside0.mk A190
                clear A190
                by_cases c20 : t150 = true
                · subst c20
                  have H1 : (tcl_parser_command.l0 kj7 x1000_1 (wrap64 (x1001_1 + 1)) x1002_1 x1003_1 s0_1 x149001_1) = some (r1, r2, r3, r4, r5, r6) := by rw [if_pos rfl] at H; exact H
                  clear H
                  have H := H1
                  clear H1
                  have H' := Aside0.mk H
                  clear H
                  try go_wp2
                  have n0_ := Aside0.mk (Kd.S_drew HO_149001.out)
                  have n1_ := Aside0.mk (blk_drew BK147.out)
                  have n2_ := Aside0.mk (blk_drew BK148.out)
                  have n3_ := Aside0.mk (IsS116.drew HI0.out)
                  have n4_ := Aside0.mk (keep_drew HK.out)
                  have n5_ := Aside0.mk (below_drew1 HB.out)
                  clear HO_149001
                  clear BK147
                  clear BK148
                  clear HI0
                  clear HK
                  clear HB
                  have HO_149001 := n0_
                  have BK147 := n1_
                  have BK148 := n2_
                  have HI0 := n3_
                  have HK := n4_
                  have HB := n5_
                  clear n0_ n1_ n2_ n3_ n4_ n5_
                  have p18 : 0 ≤ (x1001_1 : Int) := of_decide_eq_true (by first | (with_reducible assumption) | assumption)
                  have q18 : x1001_1 < (x1000_1.size : Int) := of_decide_eq_true (by first | (with_reducible assumption) | assumption)
                  have hx18 := bt_at x1000_1 x1001_1
                  replace p18 := eq_true p18
                  replace q18 := eq_true q18
                  refine start_ (n := 10) (S := fun w' => w'.cell? ⟨g, 0, none⟩ = some (.string x1000_1) ∧ w'.cell? ⟨g, 1, none⟩ = some (.int .i64 x1001_1) ∧ w'.cell? ⟨g, 2, none⟩ = some (.int .i64 x1002_1) ∧ w'.cell? ⟨g, 3, none⟩ = some (.int .i64 x1003_1)) (ds := []) #[false, false, false, false, false, false, false, false, false, false] (by kernel_rfl) rfl rfl ⟨(blk_cell (Aside0.mk HI0.out.1).out 0).trans rfl, (blk_cell (Aside0.mk HI0.out.1).out 1).trans rfl, (blk_cell (Aside0.mk HI0.out.1).out 2).trans rfl, (blk_cell (Aside0.mk HI0.out.1).out 3).trans rfl⟩ (fun hHeld => ?_); refine with_tabW tcl_parser_command.tab3 tcl_parser_command.bits3 (fun HT_ HW_ => ?_)
                  generalize wc.drew = w21 at HO_149001 BK147 BK148 HI0 HK HB hHeld ⊢
                  refine pure_ (i := 0) (N := some 32) (v := ?_) (a' := ?_) #[true, false, false, false, false, false, false, false, false, false] rfl rfl (any_of HT_.out (by kernel_rfl)) (fun _ _ _ h => h) (Or.inl ⟨by rfl, ?_⟩) ?_ ?_
                  rotate_left
                  · intro w'
                    go_simp
                    with_reducible rfl
                  rotate_left
                  · simp only [Act.put, List.setIfInBounds_toArray, List.set_cons_zero, List.set_cons_succ, i64_w, i32_w]
                    rfl
                  refine pure_ (i := 1) (N := some 33) (v := ?_) (a' := ?_) #[true, true, false, false, false, false, false, false, false, false] rfl rfl (any_of HT_.out (by kernel_rfl)) (fun _ _ _ h => h) (Or.inl ⟨by rfl, ?_⟩) ?_ ?_
                  rotate_left
                  · intro w'
                    go_simp
                    with_reducible rfl
                  rotate_left
                  · simp only [Act.put, List.setIfInBounds_toArray, List.set_cons_zero, List.set_cons_succ, i64_w, i32_w]
                    rfl
                  refine pure_ (i := 2) (N := some 34) (v := ?_) (a' := ?_) #[true, true, true, false, false, false, false, false, false, false] rfl rfl (any_of HT_.out (by kernel_rfl)) (fun _ _ _ h => h) (Or.inl ⟨by rfl, ?_⟩) ?_ ?_
                  rotate_left
                  · intro w'
                    go_simp
                    with_reducible rfl
                  rotate_left
                  · simp only [Act.put, List.setIfInBounds_toArray, List.set_cons_zero, List.set_cons_succ, i64_w, i32_w]
                    rfl
                  refine pure_ (i := 4) (N := some 36) (v := ?_) (a' := ?_) #[true, true, true, false, true, false, false, false, false, false] rfl rfl (any_of HT_.out (by kernel_rfl)) (fun _ _ _ h => h) (Or.inl ⟨by rfl, ?_⟩) ?_ ?_
                  rotate_left
                  · intro w'
                    go_simp
                    with_reducible rfl
                  rotate_left
                  · simp only [Act.put, List.setIfInBounds_toArray, List.set_cons_zero, List.set_cons_succ, i64_w, i32_w]
                    rfl
                  refine pure_ (i := 5) (N := some 37) (v := ?_) (a' := ?_) #[true, true, true, false, true, true, false, false, false, false] rfl rfl (any_of HT_.out (by kernel_rfl)) (fun _ _ _ h => h) (Or.inl ⟨by rfl, ?_⟩) ?_ ?_
                  rotate_left
                  · intro w'
                    go_simp
                    with_reducible rfl
                  rotate_left
                  · simp only [Act.put, List.setIfInBounds_toArray, List.set_cons_zero, List.set_cons_succ, i64_w, i32_w]
                    rfl
                  refine pure_ (i := 6) (N := some 38) (v := ?_) (a' := ?_) #[true, true, true, false, true, true, true, false, false, false] rfl rfl (any_of HT_.out (by kernel_rfl)) (fun _ _ _ h => h) (Or.inl ⟨by rfl, ?_⟩) ?_ ?_
                  rotate_left
                  · intro w'
                    go_simp
                    with_reducible rfl
                  rotate_left
                  · simp only [Act.put, List.setIfInBounds_toArray, List.set_cons_zero, List.set_cons_succ, i64_w, i32_w]
                    rfl
                  refine take_ (i := 3) (N := some 35) (v := ?_) (a' := ?_) #[true, true, true, true, true, true, true, false, false, false] rfl rfl (take_ofW HT_.out HW_.out (by kernel_rfl)) (fun _ _ _ h => h) (Or.inl ⟨by rfl, ?_⟩) hHeld ?_ ?_
                  rotate_left
                  · rintro w' ⟨s0, s1, s2, s3⟩
                    go_simp
                    with_reducible rfl
                  rotate_left
                  · simp only [Act.put, List.setIfInBounds_toArray, List.set_cons_zero, List.set_cons_succ, i64_w, i32_w]
                    rfl
                  refine take_ (i := 7) (N := some 39) (v := ?_) (a' := ?_) #[true, true, true, true, true, true, true, true, false, false] rfl rfl (take_ofW HT_.out HW_.out (by kernel_rfl)) (fun _ _ _ h => h) (Or.inl ⟨by rfl, ?_⟩) hHeld ?_ ?_
                  rotate_left
                  · rintro w' ⟨s0, s1, s2, s3⟩
                    go_simp
                    with_reducible rfl
                  rotate_left
                  · simp only [Act.put, List.setIfInBounds_toArray, List.set_cons_zero, List.set_cons_succ, i64_w, i32_w]
                    rfl
                  refine take_ (i := 8) (N := some 40) (v := ?_) (a' := ?_) #[true, true, true, true, true, true, true, true, true, false] rfl rfl (take_ofW HT_.out HW_.out (by kernel_rfl)) (fun _ _ _ h => h) (Or.inl ⟨by rfl, ?_⟩) hHeld ?_ ?_
                  rotate_left
                  · rintro w' ⟨s0, s1, s2, s3⟩
                    go_simp
                    with_reducible rfl
                  rotate_left
                  · simp only [Act.put, List.setIfInBounds_toArray, List.set_cons_zero, List.set_cons_succ, i64_w, i32_w]
                    rfl
                  refine one_ (i := 9) (N := some 41) #[true, true, true, true, true, true, true, true, true, true] rfl rfl (one_of HT_.out (by kernel_rfl)) (by decide) (fun K hK => ?_)
                  refine goes_ Try.func55 (by kernel_rfl) rfl #[.string (⟨#[32, 9]⟩ : ByteArray), .int .u8 (bt x1000_1 x1001_1)] (by rfl) rfl rfl (by (try simp only [List.map_toArray, List.map_cons, List.map_nil]); first | done | rfl | (simp only [List.length_drop, List.length_take]; rfl)) ?_
                  with_reducible refine (tcl_in.calls (⟨#[32, 9]⟩ : ByteArray) (bt x1000_1 x1001_1) true _ A19.out).mono ?_
                  rintro e w' ⟨rfl, ⟨nd, rfl⟩⟩
                  refine ⟨_, rfl, ?_⟩
                  refine hK.out _ _ ⟨(blk_cell (Aside0.mk HI0.out.1).out 0).trans rfl, (blk_cell (Aside0.mk HI0.out.1).out 1).trans rfl, (blk_cell (Aside0.mk HI0.out.1).out 2).trans rfl, (blk_cell (Aside0.mk HI0.out.1).out 3).trans rfl⟩ (fun hHeld => ?_)
                  clear hK K
                  refine norm_ (a' := ?_) ?_ ?_
                  rotate_left
                  · show Act.put _ (some 41) _ = _
                    simp only [Act.put, List.setIfInBounds_toArray, List.set_cons_zero, List.set_cons_succ, i64_w, i32_w]
                    rfl
                  refine done_ (done_of HT_.out (by kernel_rfl)) ?_
                  obtain ⟨HGz22, hgz22⟩ := HI0.out
                  have hcz22_0 := cellS116_0 HGz22
                  have hcz22_1 := cellS116_1 HGz22
                  have hcz22_2 := cellS116_2 HGz22
                  have hcz22_3 := cellS116_3 HGz22
                  have hfz22_0 := blk_frozen HGz22 0
                  have hfz22_1 := blk_frozen HGz22 1
                  have hfz22_2 := blk_frozen HGz22 2
                  have hfz22_3 := blk_frozen HGz22 3
                  clear HGz22 hgz22
                  try go_wp2
                  go_roundg kj7
                  case measure => have := HK1.out; have := HJ7.out; omega
                  case rel => exact ⟨(x1000_1), (wrap64 (x1001_1 + 1)), (x1002_1), (x1003_1), (x149001_1), (u149001), H', ⟨by have := HK1.out; have := HJ7.out; omega⟩, ⟨by (with_reducible repeat (first | apply Kd.S_alloc | apply Kd.S_drewN | apply Kd.S_drew)); exact Kd.S_mono (Kd.S_far (p := ⟨g, 1, none⟩) (IsS116.apartS HI0.out HO_149001.out (by decide)) (fun _ hk => hk.2) (.int .i64 (wrap64 (x1001_1 + 1)))) (fun _ hk => trivial)⟩, ⟨by (with_reducible repeat (first | refine blk_drewN ?_ _ | refine blk_drew ?_ | refine blk_alloc ?_ _)); refine blk_far ?_ NB147_0.out _; (with_reducible repeat (first | refine blk_drewN ?_ _ | refine blk_drew ?_ | refine blk_alloc ?_ _)); exact BK147.out⟩, ⟨by (with_reducible repeat (first | refine blk_drewN ?_ _ | refine blk_drew ?_ | refine blk_alloc ?_ _)); refine blk_far ?_ NB148_0.out _; (with_reducible repeat (first | refine blk_drewN ?_ _ | refine blk_drew ?_ | refine blk_alloc ?_ _)); exact BK148.out⟩, ⟨by repeat (first | (with_reducible first | exact HI0.out | apply IsS116.alloc | apply IsS116.drewN | apply IsS116.drew | apply IsS116.set_0 | apply IsS116.set_1 | apply IsS116.set_2 | apply IsS116.set_3 | (apply IsS116.far; (case hne => exact NB0_147.out)) | (apply IsS116.far; (case hne => exact NB0_148.out))) | exact HI0.out)⟩, ⟨by repeat (first | (with_reducible first | exact HK.out | apply KeepBut.set_ | apply keep_drewN | apply keep_drew | apply keep_alloc | refine keep_far ?_ GW147.out _ | refine keep_far ?_ GW148.out _) | exact HK.out)⟩, ⟨by repeat (first | (with_reducible first | exact HB.out | apply below_alloc | apply pw_below_drewN | apply below_drew1 | refine below_set ?_ (IsS116.ge HI0.out) | refine below_set ?_ GE147.out | refine below_set ?_ GE148.out) | exact HB.out)⟩⟩
                · replace c20 := Bool.eq_false_iff.mpr c20
                  subst c20
                  have H1 : ((tcl_parser_word.f kj7 x1000_1 x1001_1 x1002_1 x1003_1).bind fun bt151 => (if x149001_1.length < 3518437208883 then (tcl_parser_command.l0 kj7 bt151.2.2.2.1 bt151.2.2.2.2.1 bt151.2.2.2.2.2.1 bt151.2.2.2.2.2.2 s0_1 (x149001_1 ++ [(⟨bt151.1, bt151.2.1, bt151.2.2.1⟩ : S41)])) else (none))) = some (r1, r2, r3, r4, r5, r6) := by rw [if_neg (show ¬ (false = true) by decide)] at H; exact H
                  clear H
                  have H := H1
                  clear H1
                  replace H := Option.bind_eq_some_iff.mp H
                  obtain ⟨⟨t151, t152, t153, t156, t157, t158, t159⟩, A230, H⟩ := H
                  replace H : (if x149001_1.length < 3518437208883 then (tcl_parser_command.l0 kj7 t156 t157 t158 t159 s0_1 (x149001_1 ++ [(⟨t151, t152, t153⟩ : S41)])) else (none)) = some (r1, r2, r3, r4, r5, r6) := H
                  have A23 := Aside0.mk A230
                  clear A230
                  by_cases c24 : x149001_1.length < 3518437208883
                  · rw [if_pos c24] at H
                    have LMc24 := Aside0.mk c24
                    clear c24
                    obtain ⟨y160, hy160⟩ : ∃ y_ : List (S41), y_ = (x149001_1 ++ [(⟨t151, t152, t153⟩ : S41)]) := ⟨_, rfl⟩
                    replace H : (tcl_parser_command.l0 kj7 t156 t157 t158 t159 s0_1 y160) = some (r1, r2, r3, r4, r5, r6) := by first | (rw [hy160]; with_reducible exact H) | (have H2_ := (Option.bind_some _ _).symm.trans H; rw [hy160]; with_reducible exact H2_) | (have H2_ := (Option.bind_some _ _).symm.trans H; with_reducible exact H2_) | with_reducible exact H | (rw [hy160]; exact H) | exact H
                    have Ny160 := Aside0.mk hy160
                    clear hy160
                    have H' := Aside0.mk H
                    clear H
                    try go_wp2
                    have n0_ := Aside0.mk (Kd.S_drew HO_149001.out)
                    have n1_ := Aside0.mk (blk_drew BK147.out)
                    have n2_ := Aside0.mk (blk_drew BK148.out)
                    have n3_ := Aside0.mk (IsS116.drew HI0.out)
                    have n4_ := Aside0.mk (keep_drew HK.out)
                    have n5_ := Aside0.mk (below_drew1 HB.out)
                    clear HO_149001
                    clear BK147
                    clear BK148
                    clear HI0
                    clear HK
                    clear HB
                    have HO_149001 := n0_
                    have BK147 := n1_
                    have BK148 := n2_
                    have HI0 := n3_
                    have HK := n4_
                    have HB := n5_
                    clear n0_ n1_ n2_ n3_ n4_ n5_
                    have p18 : 0 ≤ (x1001_1 : Int) := of_decide_eq_true (by first | (with_reducible assumption) | assumption)
                    have q18 : x1001_1 < (x1000_1.size : Int) := of_decide_eq_true (by first | (with_reducible assumption) | assumption)
                    have hx18 := bt_at x1000_1 x1001_1
                    replace p18 := eq_true p18
                    replace q18 := eq_true q18
                    refine start_ (n := 10) (S := fun w' => w'.cell? ⟨g, 0, none⟩ = some (.string x1000_1) ∧ w'.cell? ⟨g, 1, none⟩ = some (.int .i64 x1001_1) ∧ w'.cell? ⟨g, 2, none⟩ = some (.int .i64 x1002_1) ∧ w'.cell? ⟨g, 3, none⟩ = some (.int .i64 x1003_1)) (ds := []) #[false, false, false, false, false, false, false, false, false, false] (by kernel_rfl) rfl rfl ⟨(blk_cell (Aside0.mk HI0.out.1).out 0).trans rfl, (blk_cell (Aside0.mk HI0.out.1).out 1).trans rfl, (blk_cell (Aside0.mk HI0.out.1).out 2).trans rfl, (blk_cell (Aside0.mk HI0.out.1).out 3).trans rfl⟩ (fun hHeld => ?_); refine with_tabW tcl_parser_command.tab3 tcl_parser_command.bits3 (fun HT_ HW_ => ?_)
                    generalize wc.drew = w25 at HO_149001 BK147 BK148 HI0 HK HB hHeld ⊢
                    refine pure_ (i := 0) (N := some 32) (v := ?_) (a' := ?_) #[true, false, false, false, false, false, false, false, false, false] rfl rfl (any_of HT_.out (by kernel_rfl)) (fun _ _ _ h => h) (Or.inl ⟨by rfl, ?_⟩) ?_ ?_
                    rotate_left
                    · intro w'
                      go_simp
                      with_reducible rfl
                    rotate_left
                    · simp only [Act.put, List.setIfInBounds_toArray, List.set_cons_zero, List.set_cons_succ, i64_w, i32_w]
                      rfl
                    refine pure_ (i := 1) (N := some 33) (v := ?_) (a' := ?_) #[true, true, false, false, false, false, false, false, false, false] rfl rfl (any_of HT_.out (by kernel_rfl)) (fun _ _ _ h => h) (Or.inl ⟨by rfl, ?_⟩) ?_ ?_
                    rotate_left
                    · intro w'
                      go_simp
                      with_reducible rfl
                    rotate_left
                    · simp only [Act.put, List.setIfInBounds_toArray, List.set_cons_zero, List.set_cons_succ, i64_w, i32_w]
                      rfl
                    refine pure_ (i := 2) (N := some 34) (v := ?_) (a' := ?_) #[true, true, true, false, false, false, false, false, false, false] rfl rfl (any_of HT_.out (by kernel_rfl)) (fun _ _ _ h => h) (Or.inl ⟨by rfl, ?_⟩) ?_ ?_
                    rotate_left
                    · intro w'
                      go_simp
                      with_reducible rfl
                    rotate_left
                    · simp only [Act.put, List.setIfInBounds_toArray, List.set_cons_zero, List.set_cons_succ, i64_w, i32_w]
                      rfl
                    refine pure_ (i := 4) (N := some 36) (v := ?_) (a' := ?_) #[true, true, true, false, true, false, false, false, false, false] rfl rfl (any_of HT_.out (by kernel_rfl)) (fun _ _ _ h => h) (Or.inl ⟨by rfl, ?_⟩) ?_ ?_
                    rotate_left
                    · intro w'
                      go_simp
                      with_reducible rfl
                    rotate_left
                    · simp only [Act.put, List.setIfInBounds_toArray, List.set_cons_zero, List.set_cons_succ, i64_w, i32_w]
                      rfl
                    refine pure_ (i := 5) (N := some 37) (v := ?_) (a' := ?_) #[true, true, true, false, true, true, false, false, false, false] rfl rfl (any_of HT_.out (by kernel_rfl)) (fun _ _ _ h => h) (Or.inl ⟨by rfl, ?_⟩) ?_ ?_
                    rotate_left
                    · intro w'
                      go_simp
                      with_reducible rfl
                    rotate_left
                    · simp only [Act.put, List.setIfInBounds_toArray, List.set_cons_zero, List.set_cons_succ, i64_w, i32_w]
                      rfl
                    refine pure_ (i := 6) (N := some 38) (v := ?_) (a' := ?_) #[true, true, true, false, true, true, true, false, false, false] rfl rfl (any_of HT_.out (by kernel_rfl)) (fun _ _ _ h => h) (Or.inl ⟨by rfl, ?_⟩) ?_ ?_
                    rotate_left
                    · intro w'
                      go_simp
                      with_reducible rfl
                    rotate_left
                    · simp only [Act.put, List.setIfInBounds_toArray, List.set_cons_zero, List.set_cons_succ, i64_w, i32_w]
                      rfl
                    refine take_ (i := 3) (N := some 35) (v := ?_) (a' := ?_) #[true, true, true, true, true, true, true, false, false, false] rfl rfl (take_ofW HT_.out HW_.out (by kernel_rfl)) (fun _ _ _ h => h) (Or.inl ⟨by rfl, ?_⟩) hHeld ?_ ?_
                    rotate_left
                    · rintro w' ⟨s0, s1, s2, s3⟩
                      go_simp
                      with_reducible rfl
                    rotate_left
                    · simp only [Act.put, List.setIfInBounds_toArray, List.set_cons_zero, List.set_cons_succ, i64_w, i32_w]
                      rfl
                    refine take_ (i := 7) (N := some 39) (v := ?_) (a' := ?_) #[true, true, true, true, true, true, true, true, false, false] rfl rfl (take_ofW HT_.out HW_.out (by kernel_rfl)) (fun _ _ _ h => h) (Or.inl ⟨by rfl, ?_⟩) hHeld ?_ ?_
                    rotate_left
                    · rintro w' ⟨s0, s1, s2, s3⟩
                      go_simp
                      with_reducible rfl
                    rotate_left
                    · simp only [Act.put, List.setIfInBounds_toArray, List.set_cons_zero, List.set_cons_succ, i64_w, i32_w]
                      rfl
                    refine take_ (i := 8) (N := some 40) (v := ?_) (a' := ?_) #[true, true, true, true, true, true, true, true, true, false] rfl rfl (take_ofW HT_.out HW_.out (by kernel_rfl)) (fun _ _ _ h => h) (Or.inl ⟨by rfl, ?_⟩) hHeld ?_ ?_
                    rotate_left
                    · rintro w' ⟨s0, s1, s2, s3⟩
                      go_simp
                      with_reducible rfl
                    rotate_left
                    · simp only [Act.put, List.setIfInBounds_toArray, List.set_cons_zero, List.set_cons_succ, i64_w, i32_w]
                      rfl
                    refine one_ (i := 9) (N := some 41) #[true, true, true, true, true, true, true, true, true, true] rfl rfl (one_of HT_.out (by kernel_rfl)) (by decide) (fun K hK => ?_)
                    refine goes_ Try.func55 (by kernel_rfl) rfl #[.string (⟨#[32, 9]⟩ : ByteArray), .int .u8 (bt x1000_1 x1001_1)] (by rfl) rfl rfl (by (try simp only [List.map_toArray, List.map_cons, List.map_nil]); first | done | rfl | (simp only [List.length_drop, List.length_take]; rfl)) ?_
                    with_reducible refine (tcl_in.calls (⟨#[32, 9]⟩ : ByteArray) (bt x1000_1 x1001_1) false _ A19.out).mono ?_
                    rintro e w' ⟨rfl, ⟨nd, rfl⟩⟩
                    refine ⟨_, rfl, ?_⟩
                    refine hK.out _ _ ⟨(blk_cell (Aside0.mk HI0.out.1).out 0).trans rfl, (blk_cell (Aside0.mk HI0.out.1).out 1).trans rfl, (blk_cell (Aside0.mk HI0.out.1).out 2).trans rfl, (blk_cell (Aside0.mk HI0.out.1).out 3).trans rfl⟩ (fun hHeld => ?_)
                    clear hK K
                    refine norm_ (a' := ?_) ?_ ?_
                    rotate_left
                    · show Act.put _ (some 41) _ = _
                      simp only [Act.put, List.setIfInBounds_toArray, List.set_cons_zero, List.set_cons_succ, i64_w, i32_w]
                      rfl
                    refine done_ (done_of HT_.out (by kernel_rfl)) ?_
                    try go_wp2
                    (try (rw [drewN_self w25]; generalize hq_ : World.drewN w25 _ = w25; have n0_ : Aside0 (Kd.S k41 41 w25 w.heap.size (fun _ => True) u149001 x149001_1) := ⟨by rw [← hq_]; exact (by (with_reducible repeat (first | apply Kd.S_alloc | apply Kd.S_drewN | apply Kd.S_drew)); exact HO_149001.out)⟩; have n1_ : Aside0 (w25.heap[gb147]? = some (.cells #[.int .i64 0, .slice none 0 0] 38 (0, 0))) := ⟨by rw [← hq_]; exact (by (with_reducible repeat (first | refine blk_drewN ?_ _ | refine blk_drew ?_ | refine blk_alloc ?_ _)); exact BK147.out)⟩; have n2_ : Aside0 (w25.heap[gb148]? = some (.cells #[.int .i64 s0_1, u149001] 38 (0, 0))) := ⟨by rw [← hq_]; exact (by (with_reducible repeat (first | refine blk_drewN ?_ _ | refine blk_drew ?_ | refine blk_alloc ?_ _)); exact BK148.out)⟩; have n3_ : Aside0 (IsS116 w0 w25 g x1000_1 x1001_1 x1002_1 x1003_1) := ⟨by rw [← hq_]; exact (by repeat (first | (with_reducible first | exact HI0.out | apply IsS116.alloc | apply IsS116.drewN | apply IsS116.drew | apply IsS116.set_0 | apply IsS116.set_1 | apply IsS116.set_2 | apply IsS116.set_3 | (apply IsS116.far; (case hne => exact NB0_147.out)) | (apply IsS116.far; (case hne => exact NB0_148.out))) | exact HI0.out))⟩; have n4_ : Aside0 (KeepBut w w25 g none) := ⟨by rw [← hq_]; exact (by repeat (first | (with_reducible first | exact HK.out | apply KeepBut.set_ | apply keep_drewN | apply keep_drew | apply keep_alloc | refine keep_far ?_ GW147.out _ | refine keep_far ?_ GW148.out _) | exact HK.out))⟩; have n5_ : Aside0 (Below w0.heap.size w0 w25) := ⟨by rw [← hq_]; exact (by repeat (first | (with_reducible first | exact HB.out | apply below_alloc | apply pw_below_drewN | apply below_drew1 | refine below_set ?_ (IsS116.ge HI0.out) | refine below_set ?_ GE147.out | refine below_set ?_ GE148.out) | exact HB.out))⟩; clear HO_149001 BK147 BK148 HI0 HK HB hq_; have HO_149001 := n0_; have BK147 := n1_; have BK148 := n2_; have HI0 := n3_; have HK := n4_; have HB := n5_; clear n0_ n1_ n2_ n3_ n4_ n5_))
                    have n0_ := Aside0.mk (Kd.S_drew HO_149001.out)
                    have n1_ := Aside0.mk (blk_drew BK147.out)
                    have n2_ := Aside0.mk (blk_drew BK148.out)
                    have n3_ := Aside0.mk (IsS116.drew HI0.out)
                    have n4_ := Aside0.mk (keep_drew HK.out)
                    have n5_ := Aside0.mk (below_drew1 HB.out)
                    clear HO_149001
                    clear BK147
                    clear BK148
                    clear HI0
                    clear HK
                    clear HB
                    have HO_149001 := n0_
                    have BK147 := n1_
                    have BK148 := n2_
                    have HI0 := n3_
                    have HK := n4_
                    have HB := n5_
                    clear n0_ n1_ n2_ n3_ n4_ n5_
                    refine start_ (n := 8) (S := fun w' => w'.cell? ⟨gb148, 0, none⟩ = some (.int .i64 s0_1) ∧ w'.cell? ⟨gb148, 1, none⟩ = some (u149001)) (ds := [7]) #[false, false, false, false, false, false, false, false] (by kernel_rfl) rfl rfl ⟨(blk_cell BK148.out 0).trans rfl, (blk_cell BK148.out 1).trans rfl⟩ (fun hHeld => ?_); refine with_tabW tcl_parser_command.tab5 tcl_parser_command.bits5 (fun HT_ HW_ => ?_)
                    generalize w25.drew = w26 at HO_149001 BK147 BK148 HI0 HK HB hHeld ⊢
                    refine pure_ (i := 0) (N := some 49) (v := ?_) (a' := ?_) #[true, false, false, false, false, false, false, false] rfl rfl (any_of HT_.out (by kernel_rfl)) (fun _ _ _ h => h) (Or.inl ⟨by rfl, ?_⟩) ?_ ?_
                    rotate_left
                    · intro w'
                      go_simp
                      with_reducible rfl
                    rotate_left
                    · simp only [Act.put, List.setIfInBounds_toArray, List.set_cons_zero, List.set_cons_succ, i64_w, i32_w]
                      rfl
                    refine pure_ (i := 2) (N := some 51) (v := ?_) (a' := ?_) #[true, false, true, false, false, false, false, false] rfl rfl (any_of HT_.out (by kernel_rfl)) (fun _ _ _ h => h) (Or.inl ⟨by rfl, ?_⟩) ?_ ?_
                    rotate_left
                    · intro w'
                      go_simp
                      with_reducible rfl
                    rotate_left
                    · simp only [Act.put, List.setIfInBounds_toArray, List.set_cons_zero, List.set_cons_succ, i64_w, i32_w]
                      rfl
                    refine take_ (i := 1) (N := some 50) (v := ?_) (a' := ?_) #[true, true, true, false, false, false, false, false] rfl rfl (take_ofW HT_.out HW_.out (by kernel_rfl)) (fun _ _ _ h => h) (Or.inl ⟨by rfl, ?_⟩) hHeld ?_ ?_
                    rotate_left
                    · rintro w' ⟨s0, s1⟩
                      go_simp
                      with_reducible rfl
                    rotate_left
                    · simp only [Act.put, List.setIfInBounds_toArray, List.set_cons_zero, List.set_cons_succ, i64_w, i32_w]
                      rfl
                    refine one_ (i := 3) (N := some 52) #[true, true, true, true, false, false, false, false] rfl rfl (one_of HT_.out (by kernel_rfl)) (by decide) (fun K hK => ?_)
                    refine goes_ Try.func80 (by kernel_rfl) rfl #[.pointer (some ⟨g, 0, none⟩)] (by rfl) rfl rfl (by (try simp only [List.map_toArray, List.map_cons, List.map_nil]); first | done | rfl | (simp only [List.length_drop, List.length_take]; rfl)) ?_
                    with_reducible refine (tcl_parser_word.calls kj7 g x1000_1 x1001_1 x1002_1 x1003_1 t151 t152 t153 t156 t157 t158 t159 w0 _ ?side1 ?side2 A23.out).mono ?_
                    (case side1 => repeat (first | (with_reducible first | exact HI0.out | apply IsS116.alloc | apply IsS116.drewN | apply IsS116.drew | apply IsS116.set_0 | apply IsS116.set_1 | apply IsS116.set_2 | apply IsS116.set_3 | (apply IsS116.far; (case hne => exact NB0_147.out)) | (apply IsS116.far; (case hne => exact NB0_148.out))) | exact HI0.out))
                    (case side2 => repeat (first | (with_reducible first | exact HB.out | apply below_alloc | apply pw_below_drewN | apply below_drew1 | refine below_set ?_ (IsS116.ge HI0.out) | refine below_set ?_ GE147.out | refine below_set ?_ GE148.out) | exact HB.out))
                    rintro e w27 ⟨v154, rfl, ho0, hi, hb, hk⟩
                    refine ⟨_, rfl, ?_⟩
                    have n0_ := Aside0.mk (Kd.S_mono (Kd.S_told (Kd.S_oldK (IsS116.apartS (show IsS116 w0 _ g x1000_1 x1001_1 x1002_1 x1003_1 from by repeat (first | (with_reducible first | exact HI0.out | apply IsS116.alloc | apply IsS116.drewN | apply IsS116.drew | apply IsS116.set_0 | apply IsS116.set_1 | apply IsS116.set_2 | apply IsS116.set_3 | (apply IsS116.far; (case hne => exact NB0_147.out)) | (apply IsS116.far; (case hne => exact NB0_148.out))) | exact HI0.out)) (by (with_reducible repeat (first | apply Kd.S_alloc | apply Kd.S_drewN | apply Kd.S_drew)); exact HO_149001.out) (by decide)) hk) (Kd.R_base ho0)) (fun _ h_ => h_.1))
                    have n1_ := Aside0.mk (KeepBut.blk hk (g' := gb147) (o := .cells #[.int .i64 0, .slice none 0 0] 38 (0, 0)) (by (with_reducible repeat (first | refine blk_drewN ?_ _ | refine blk_drew ?_ | refine blk_alloc ?_ _)); exact BK147.out) NB147_0.out (by simp))
                    have n2_ := Aside0.mk (KeepBut.blk hk (g' := gb148) (o := .cells #[.int .i64 s0_1, u149001] 38 (0, 0)) (by (with_reducible repeat (first | refine blk_drewN ?_ _ | refine blk_drew ?_ | refine blk_alloc ?_ _)); exact BK148.out) NB148_0.out (by simp))
                    have n3_ := Aside0.mk (Kd.R_lower ho0 (keep_size (w := w) (g := g) (row := none) (by repeat (first | (with_reducible first | exact HK.out | apply KeepBut.set_ | apply keep_drewN | apply keep_drew | apply keep_alloc | refine keep_far ?_ GW147.out _ | refine keep_far ?_ GW148.out _) | exact HK.out))))
                    have n4_ := Aside0.mk (KeepBut.trans (by repeat (first | (with_reducible first | exact HK.out | apply KeepBut.set_ | apply keep_drewN | apply keep_drew | apply keep_alloc | refine keep_far ?_ GW147.out _ | refine keep_far ?_ GW148.out _) | exact HK.out)) hk (.inl rfl))
                    have n5_ := Aside0.mk (hb)
                    have n6_ := Aside0.mk (hi)
                    clear HO_149001
                    clear BK147
                    clear BK148
                    clear HK
                    clear HB
                    clear HI0
                    have HO_149001 := n0_
                    have BK147 := n1_
                    have BK148 := n2_
                    have HO155 := n3_
                    have HK := n4_
                    have HB := n5_
                    have HI0 := n6_
                    clear n0_ n1_ n2_ n3_ n4_ n5_ n6_
                    (try clear hb)
                    (try clear hb2)
                    (try clear hk)
                    (try clear hi)
                    (try clear ho0)
                    obtain ⟨Ao29, co29, eo29⟩ := Kd.R_slice HO155.out
                    (first | subst eo29 | (injection eo29 with f1_ f2_ f3_; have f4_ := f1_.symm; have f5_ := f3_.symm; clear f1_ f2_ f3_; subst f4_; subst f5_))
                    refine hK.out _ _ ⟨(blk_cell BK148.out 0).trans rfl, (blk_cell BK148.out 1).trans rfl⟩ (fun hHeld => ?_)
                    clear hK K
                    refine norm_ (a' := ?_) ?_ ?_
                    rotate_left
                    · show Act.put _ (some 52) _ = _
                      simp only [Act.put, List.setIfInBounds_toArray, List.set_cons_zero, List.set_cons_succ, i64_w, i32_w]
                      rfl
                    refine one_ (i := 4) (N := some 53) #[true, true, true, true, true, false, false, false] rfl rfl (one_of HT_.out (by kernel_rfl)) (by decide) (fun K hK => ?_)
                    refine value_ (w1 := ?_) (v := ?_) (by rfl) rfl ?_ ?_
                    rotate_left 2
                    · go_simp
                      constructor
                      · rfl
                      · rfl
                    refine hK.out _ _ ⟨(blk_cell (blk_alloc BK148.out _) 0).trans rfl, (blk_cell (blk_alloc BK148.out _) 1).trans rfl⟩ (fun hHeld => ?_)
                    clear hK K
                    refine norm_ (a' := ?_) ?_ ?_
                    rotate_left
                    · show Act.put _ (some 53) _ = _
                      simp only [Act.put, List.setIfInBounds_toArray, List.set_cons_zero, List.set_cons_succ, i64_w, i32_w]
                      rfl
                    refine one_ (i := 5) (N := some 54) #[true, true, true, true, true, true, false, false] rfl rfl (one_of HT_.out (by kernel_rfl)) (by decide) (fun K hK => ?_)
                    refine Kd.S_append_step k41 w.heap.size (by rfl) (.tmp 50) (.tmp 53) 36 41 (.agg #[(.int .i64 0), (.int .i64 0), (.slice none 0 0)]) 40 rfl Try.underlying36 info41 rfl (by decide) (by omega) u149001 x149001_1 (⟨t151, t152, t153⟩ : S41) [.int .i64 t151, .int .i64 t152, .slice Ao29 t153.length co29] (fun _ => True) (fun k_ => some k_ = (.slice Ao29 t153.length co29 : Value).ownBlock) rfl rfl ?aP (fun k_ hk_ => ((Kd.R_mono (ok' := fun k_ => ((fun _ => True)) k_ ∧ some k_ ≠ (u149001 : Value).ownBlock) (Kd.R_apart' (HO155.out) (Kd.S_typed HO_149001.out) (by decide)) (fun k_ hk => ⟨trivial, hk.2⟩))).1 k_ hk_.symm) ?aF ?aO (Below.refl _ _) ?aS ?aL ?_
                    (case aP => exact k41_mkM _ _ _ (⟨t151, t152, t153⟩ : S41) (Kd.R_mono (Kd.R_tight rfl (Kd.R_mono (ok' := fun k_ => ((fun _ => True)) k_ ∧ some k_ ≠ (u149001 : Value).ownBlock) (Kd.R_apart' (HO155.out) (Kd.S_typed HO_149001.out) (by decide)) (fun k_ hk => ⟨trivial, hk.2⟩))) (fun _ h_ => h_)))
                    (case aF => exact (fun _ _ => trivial))
                    (case aO => exact (by (with_reducible repeat (first | apply Kd.S_alloc | apply Kd.S_drewN | apply Kd.S_drew)); exact Kd.S_mono HO_149001.out (fun k_ hk => ⟨trivial, fun e_ => hk.2 e_⟩)))
                    (case aS => exact (keep_size (w := w) (g := g) (row := none) (by repeat (first | (with_reducible first | exact HK.out | apply KeepBut.set_ | apply keep_drewN | apply keep_drew | apply keep_alloc | refine keep_far ?_ GW147.out _ | refine keep_far ?_ GW148.out _) | exact HK.out))))
                    (case aL => have := LMc24.out; omega)
                    intro v161 w28 ho hb hg hat
                    rw [← Ny160.out] at ho
                    have n0_ := Aside0.mk (blk_grown (g := gb147) (o := .cells #[.int .i64 0, .slice none 0 0] 38 (0, 0)) (by (with_reducible repeat (first | refine blk_drewN ?_ _ | refine blk_drew ?_ | refine blk_alloc ?_ _)); exact BK147.out) hg (Kd.S_ne HO_149001.out BK147.out (by decide)))
                    have n1_ := Aside0.mk (blk_grown (g := gb148) (o := .cells #[.int .i64 s0_1, u149001] 38 (0, 0)) (by (with_reducible repeat (first | refine blk_drewN ?_ _ | refine blk_drew ?_ | refine blk_alloc ?_ _)); exact BK148.out) hg (Kd.S_ne HO_149001.out BK148.out (by decide)))
                    have n2_ := Aside0.mk (IsS116.grown (by repeat (first | (with_reducible first | exact HI0.out | apply IsS116.alloc | apply IsS116.drewN | apply IsS116.drew | apply IsS116.set_0 | apply IsS116.set_1 | apply IsS116.set_2 | apply IsS116.set_3 | (apply IsS116.far; (case hne => exact NB0_147.out)) | (apply IsS116.far; (case hne => exact NB0_148.out))) | exact HI0.out)) hg (IsS116.own_neS HI0.out HO_149001.out (by decide)))
                    have n3_ := Aside0.mk (below_weaken (by repeat (first | (with_reducible first | exact HB.out | apply below_alloc | apply pw_below_drewN | apply below_drew1 | refine below_set ?_ (IsS116.ge HI0.out) | refine below_set ?_ GE147.out | refine below_set ?_ GE148.out) | exact HB.out)) HL.out hb)
                    have n4_ := Aside0.mk (KeepBut.trans (by repeat (first | (with_reducible first | exact HK.out | apply KeepBut.set_ | apply keep_drewN | apply keep_drew | apply keep_alloc | refine keep_far ?_ GW147.out _ | refine keep_far ?_ GW148.out _) | exact HK.out)) (KeepBut.of_grown hg g) (Kd.S_base2 HO_149001.out))
                    have n5_ := Aside0.mk (ho)
                    clear BK147
                    clear BK148
                    clear HI0
                    clear HB
                    clear HK
                    clear HO_149001
                    clear HO155
                    have BK147 := n0_
                    have BK148 := n1_
                    have HI0 := n2_
                    have HB := n3_
                    have HK := n4_
                    have HO162 := n5_
                    clear n0_ n1_ n2_ n3_ n4_ n5_
                    clear ho hb hg hat
                    obtain ⟨Ao30, co30, eo30⟩ := Kd.S_slice HO162.out
                    (first | subst eo30 | (injection eo30 with f1_ f2_ f3_; have f4_ := f1_.symm; have f5_ := f3_.symm; clear f1_ f2_ f3_; subst f4_; subst f5_))
                    refine hK.out _ _ ⟨(blk_cell BK148.out 0).trans rfl, (blk_cell BK148.out 1).trans rfl⟩ (fun hHeld => ?_)
                    clear hK K
                    refine norm_ (a' := ?_) ?_ ?_
                    rotate_left
                    · show Act.put _ (some 54) _ = _
                      simp only [Act.put, List.setIfInBounds_toArray, List.set_cons_zero, List.set_cons_succ, i64_w, i32_w]
                      rfl
                    refine pure_ (i := 6) (N := some 55) (v := ?_) (a' := ?_) #[true, true, true, true, true, true, true, false] rfl rfl (any_of HT_.out (by kernel_rfl)) (fun _ _ _ h => h) (Or.inl ⟨by rfl, ?_⟩) ?_ ?_
                    rotate_left
                    · intro w'
                      go_simp
                      with_reducible rfl
                    rotate_left
                    · simp only [Act.put, List.setIfInBounds_toArray, List.set_cons_zero, List.set_cons_succ, i64_w, i32_w]
                      rfl
                    refine last_ (i := 7) (N := none) #[true, true, true, true, true, true, true, true] rfl rfl (one_of HT_.out (by kernel_rfl)) (by decide) (fun K hK => ?_)
                    have hs31 : w28.cell? ⟨gb148, 1, none⟩ = some (u149001) := (blk_cell BK148.out 1).trans rfl
                    have hfs31 := blk_frozen BK148.out 1
                    have hns31_0 := NB147_148.out
                    have hms31_0 := NB148_147.out
                    refine skip_ (w1 := ?_) (by rfl) rfl ?_ ?_
                    rotate_left
                    · go_simp
                      rfl
                    refine hK.out _ _ ?_
                    clear hK K
                    refine done_ (done_of HT_.out (by kernel_rfl)) ?_
                    try go_wp2
                    go_roundg kj7
                    case measure => have := HK1.out; have := HJ7.out; omega
                    case rel => exact ⟨(t156), (t157), (t158), (t159), (y160), (.slice Ao30 y160.length co30), H', ⟨by have := HK1.out; have := HJ7.out; omega⟩, ⟨by (with_reducible repeat (first | apply Kd.S_alloc | apply Kd.S_drewN | apply Kd.S_drew)); exact Kd.S_mono (Kd.S_far (p := ⟨gb148, 1, none⟩) (Kd.S_types HO162.out BK148.out (by decide)) (fun _ hk => hk.2) (.slice Ao30 y160.length co30)) (fun _ hk => trivial)⟩, ⟨by (with_reducible repeat (first | refine blk_drewN ?_ _ | refine blk_drew ?_ | refine blk_alloc ?_ _)); refine blk_far ?_ NB147_148.out _; (with_reducible repeat (first | refine blk_drewN ?_ _ | refine blk_drew ?_ | refine blk_alloc ?_ _)); exact BK147.out⟩, ⟨by (with_reducible repeat (first | refine blk_drewN ?_ _ | refine blk_drew ?_ | refine blk_alloc ?_ _)); refine blk_put (cs := #[.int .i64 s0_1, u149001]) ?_ 1 _ rfl; (with_reducible repeat (first | refine blk_drewN ?_ _ | refine blk_drew ?_ | refine blk_alloc ?_ _)); exact BK148.out⟩, ⟨by repeat (first | (with_reducible first | exact HI0.out | apply IsS116.alloc | apply IsS116.drewN | apply IsS116.drew | apply IsS116.set_0 | apply IsS116.set_1 | apply IsS116.set_2 | apply IsS116.set_3 | (apply IsS116.far; (case hne => exact NB0_147.out)) | (apply IsS116.far; (case hne => exact NB0_148.out))) | exact HI0.out)⟩, ⟨by repeat (first | (with_reducible first | exact HK.out | apply KeepBut.set_ | apply keep_drewN | apply keep_drew | apply keep_alloc | refine keep_far ?_ GW147.out _ | refine keep_far ?_ GW148.out _) | exact HK.out)⟩, ⟨by repeat (first | (with_reducible first | exact HB.out | apply below_alloc | apply pw_below_drewN | apply below_drew1 | refine below_set ?_ (IsS116.ge HI0.out) | refine below_set ?_ GE147.out | refine below_set ?_ GE148.out) | exact HB.out)⟩⟩
                  · rw [if_neg c24] at H
                    exact absurd H (by simp)
              · rw [if_neg c17] at H
                exact absurd H (by simp)
            · rw [if_neg c16] at H
              exact absurd H (by simp)
          · replace c15 := Bool.eq_false_iff.mpr c15
            subst c15
            have H1 : (some (s0_1, x149001_1, x1000_1, x1001_1, x1002_1, x1003_1)) = some (r1, r2, r3, r4, r5, r6) := by rw [if_neg (show ¬ (false = true) by decide)] at H; exact H
            clear H
            have H := H1
            clear H1
            simp only [Option.some.injEq, Prod.mk.injEq] at H
            obtain ⟨rfl, rfl, rfl, rfl, rfl, rfl⟩ := H
            have hnb32 := NB148_147.out
            have hnc32 := NB147_148.out
            have hnb33 := NB148_0.out
            have hnc33 := NB0_148.out
            have hcz34_0 : wc.cell? ⟨gb148, 0, none⟩ = some (.int .i64 s0_1) := (blk_cell BK148.out 0).trans rfl
            have hcz34_1 : wc.cell? ⟨gb148, 1, none⟩ = some (u149001) := (blk_cell BK148.out 1).trans rfl
            have hfz34_0 := blk_frozen BK148.out 0
            have hfz34_1 := blk_frozen BK148.out 1
            have hnb35 := NB147_0.out
            have hnc35 := NB0_147.out
            have hcz36_0 : wc.cell? ⟨gb147, 0, none⟩ = some (.int .i64 0) := (blk_cell BK147.out 0).trans rfl
            have hcz36_1 : wc.cell? ⟨gb147, 1, none⟩ = some (.slice none 0 0) := (blk_cell BK147.out 1).trans rfl
            have hfz36_0 := blk_frozen BK147.out 0
            have hfz36_1 := blk_frozen BK147.out 1
            obtain ⟨Ao37, co37, eo37⟩ := Kd.S_slice HO_149001.out
            subst eo37
            go_wp2
            refine bodyPost_ret (results_cell_row rfl _ _ gb147 38 #[.int .i64 s0_1, .slice Ao37 x149001_1.length co37] (0, 0) _ rfl (by (with_reducible repeat (first | refine blk_drewN ?_ _ | refine blk_drew ?_ | refine blk_alloc ?_ _)); refine blk_put (cs := #[.int .i64 s0_1, .slice none 0 0]) ?_ 1 _ rfl; (with_reducible repeat (first | refine blk_drewN ?_ _ | refine blk_drew ?_ | refine blk_alloc ?_ _)); refine blk_put (cs := #[.int .i64 0, .slice none 0 0]) ?_ 0 _ rfl; (with_reducible repeat (first | refine blk_drewN ?_ _ | refine blk_drew ?_ | refine blk_alloc ?_ _)); exact BK147.out) Try.underlying38 rfl (by kernel_rfl)) rfl ?_
            exact ⟨_, by first | rfl | (simp [errW_none, errW_some] <;> rfl) | (simp [*, errW_none, errW_some] <;> rfl), by (with_reducible repeat (first | apply Kd.S_alloc | apply Kd.S_drewN | apply Kd.S_drew)); exact Kd.S_mono (Kd.S_far (p := ⟨gb147, 1, none⟩) (Kd.S_far (p := ⟨gb147, 0, none⟩) (Kd.S_types HO_149001.out BK147.out (by decide)) (fun _ hk => hk.2) (.int .i64 s0_1)) (fun _ hk => hk.2) (.slice Ao37 x149001_1.length co37)) (fun _ hk => trivial), by repeat (first | (with_reducible first | exact HI0.out | apply IsS116.alloc | apply IsS116.drewN | apply IsS116.drew | apply IsS116.set_0 | apply IsS116.set_1 | apply IsS116.set_2 | apply IsS116.set_3 | (apply IsS116.far; (case hne => exact NB0_147.out)) | (apply IsS116.far; (case hne => exact NB0_148.out))) | exact HI0.out), by repeat (first | (with_reducible first | exact HB.out | apply below_alloc | apply pw_below_drewN | apply below_drew1 | refine below_set ?_ (IsS116.ge HI0.out) | refine below_set ?_ GE147.out | refine below_set ?_ GE148.out) | exact HB.out), by repeat (first | (with_reducible first | exact HK.out | apply KeepBut.set_ | apply keep_drewN | apply keep_drew | apply keep_alloc | refine keep_far ?_ GW147.out _ | refine keep_far ?_ GW148.out _) | exact HK.out)⟩

end Go.Proofs.Ytofhcjdadhpjdaa.Q
