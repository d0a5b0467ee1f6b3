-- written by a program of this session (wip/xprint) over the translation
import Derived.Test.YtofhcjdadhpjdaaQ0
import Derived.Test.YtofhcjdadhpjdaaQ5
import Derived.Test.YtofhcjdadhpjdaaQ6
import Derived.Test.YtofhcjdadhpjdaaQ7
import Derived.Test.YtofhcjdadhpjdaaEParts
namespace Go.Proofs.Ytofhcjdadhpjdaa.Q
open Go.RowKit Go.Proofs.YtofhcjdadhpjdaaW.PrintWords Go.Proofs.YtofhcjdadhpjdaaW.PrintLast Go.Proofs.YtofhcjdadhpjdaaW.PrintMore
attribute [local go_sem] max2_int min2_int max_two min_two max_three min_three max_four min_four   -- for this text's walks alone
set_option linter.unusedVariables false
set_option linter.unusedSimpArgs false

/-! ### tcl_parser_word: function 80 -/
def tcl_parser_word.j0 : Nat → ByteArray → Int → Int → Int → Int → Int → List (S43) → Option (Int × Int × (List (S43)) × ByteArray × Int × Int × Int)
  | 0, _, _, _, _, _, _, _ => none
  | k + 1, x1000, x1001, x1002, x1003, x117000, x117001, x117002 => if x1001 < (x1000.size : Int) then (if 0 ≤ x1001 then ((tcl_in.f (⟨#[32, 9, 10, 59]⟩ : ByteArray) (bt x1000 x1001)).bind fun t142 => (if t142 = true then (some (x117000, x117001, x117002, x1000, x1001, x1002, x1003)) else ((tcl_parser_fail.f x1000 x1001 x1002 x1003 x1001 4).bind fun bt143 => (some (x117000, x117001, x117002, bt143.1, bt143.2.1, bt143.2.2.1, bt143.2.2.2))))) else (none)) else (some (x117000, x117001, x117002, x1000, x1001, x1002, x1003))
def tcl_parser_word.f (k : Nat) (s0_0 : ByteArray) (s0_1 : Int) (s0_2 : Int) (s0_3 : Int) : Option (Int × Int × (List (S43)) × ByteArray × Int × Int × Int) := if 0 ≤ s0_1 then (if s0_1 < (s0_0.size : Int) then (if (bt s0_0 s0_1) = 123 then ((tcl_parser_braced.f k s0_0 s0_1 s0_2 s0_3).bind fun bt117 => (tcl_parser_word.j0 k bt117.2.1 bt117.2.2.1 bt117.2.2.2.1 bt117.2.2.2.2 s0_1 2 bt117.1)) else (if (bt s0_0 s0_1) = 34 then ((tcl_parser_parts.f s0_0 (wrap64 (s0_1 + 1)) s0_2 s0_3 (⟨#[34]⟩ : ByteArray) s0_1).bind fun bt124 => (if bt124.2.2.1 = (bt124.2.1.size : Int) then ((tcl_parser_fail.f bt124.2.1 bt124.2.2.1 bt124.2.2.2.1 bt124.2.2.2.2 s0_1 5).bind fun bt131 => (tcl_parser_word.j0 k bt131.1 (mn (wrap64 (bt131.2.1 + 1)) (bt131.1.size : Int)) bt131.2.2.1 bt131.2.2.2 s0_1 1 bt124.1)) else (tcl_parser_word.j0 k bt124.2.1 (mn (wrap64 (bt124.2.2.1 + 1)) (bt124.2.1.size : Int)) bt124.2.2.2.1 bt124.2.2.2.2 s0_1 1 bt124.1))) else ((tcl_parser_parts.f s0_0 s0_1 s0_2 s0_3 (⟨#[32, 9, 10, 59]⟩ : ByteArray) (-1)).bind fun bt135 => (some (s0_1, 0, bt135.1, bt135.2.1, bt135.2.2.1, bt135.2.2.2.1, bt135.2.2.2.2))))) else (none)) else (none)
def tcl_parser_word.T2 : Bool × List (List Nat × List Nat) := (true, [([], []), ([0], [0]), ([1], [1]), ([2], [2]), ([], []), ([4], [4]), ([5], [5]), ([6], [6]), ([3, 7], [3, 7])])
def tcl_parser_word.B2 : List Nat := [0, 1, 3, 7, 0, 16, 48, 112, 255]
theorem tcl_parser_word.tab2 : rtab .any (opsOf Try.f80 2) = tcl_parser_word.T2 := by kernel_rfl
theorem tcl_parser_word.bits2 : waitsOk tcl_parser_word.T2.2 tcl_parser_word.B2 = true := by kernel_rfl
def tcl_parser_word.T12 : Bool × List (List Nat × List Nat) := (true, [([], []), ([0], [0]), ([1], [1]), ([2], [2]), ([], []), ([4], [4]), ([5], [5]), ([6], [6]), ([7], [7]), ([3, 8], [3, 8])])
def tcl_parser_word.B12 : List Nat := [0, 1, 3, 7, 0, 16, 48, 112, 240, 511]
theorem tcl_parser_word.tab12 : rtab .any (opsOf Try.f80 12) = tcl_parser_word.T12 := by kernel_rfl
theorem tcl_parser_word.bits12 : waitsOk tcl_parser_word.T12.2 tcl_parser_word.B12 = true := by kernel_rfl
def tcl_parser_word.T14 : Bool × List (List Nat × List Nat) := (true, [([], []), ([], []), ([1], [1]), ([2], [2]), ([3], [3]), ([4], [4]), ([], []), ([6], [6]), ([7], [7]), ([8], [8]), ([9], [9]), ([5, 10], [5, 10]), ([0, 0, 1, 2, 3, 4, 5, 6, 7, 8, 9, 10, 11], [0]), ([12, 0, 1, 2, 3, 4, 5, 6, 7, 8, 9, 10, 11], [12]), ([13, 11, 0, 1, 2, 3, 4, 5, 6, 7, 8, 9, 10, 11], [11, 13])])
def tcl_parser_word.B14 : List Nat := [0, 0, 2, 6, 14, 30, 0, 64, 192, 448, 960, 2046, 4095, 8191, 16383]
theorem tcl_parser_word.tab14 : rtab .any (opsOf Try.f80 14) = tcl_parser_word.T14 := by kernel_rfl
theorem tcl_parser_word.bits14 : waitsOk tcl_parser_word.T14.2 tcl_parser_word.B14 = true := by kernel_rfl
def tcl_parser_word.T15 : Bool × List (List Nat × List Nat) := (true, [([], []), ([0], [0]), ([1], [1]), ([2], [2]), ([], []), ([4], [4]), ([5], [5]), ([6], [6]), ([7], [7]), ([3, 8], [3, 8]), ([9], [9]), ([10], [10]), ([11, 10], [10, 11]), ([12, 10], [10, 12]), ([13, 10], [10, 13]), ([10], [10]), ([15, 10], [10, 15]), ([16, 10], [10, 16]), ([17, 10], [10, 17]), ([14, 18, 10], [10, 14, 18]), ([19, 10, 10], [10, 19]), ([20, 10], [10, 20]), ([10, 21], [10, 21])])
def tcl_parser_word.B15 : List Nat := [0, 1, 3, 7, 0, 16, 48, 112, 240, 511, 1023, 2047, 4095, 8191, 16383, 2047, 34815, 100351, 231423, 524287, 1048575, 2097151, 4194303]
theorem tcl_parser_word.tab15 : rtab .any (opsOf Try.f80 15) = tcl_parser_word.T15 := by kernel_rfl
theorem tcl_parser_word.bits15 : waitsOk tcl_parser_word.T15.2 tcl_parser_word.B15 = true := by kernel_rfl
set_option maxHeartbeats 8000000 in
set_option maxRecDepth 100000 in
theorem tcl_parser_word.calls (k : Nat) (g : Nat) (s0_0 : ByteArray) (s0_1 : Int) (s0_2 : Int) (s0_3 : Int) (r1 : Int) (r2 : Int) (r3 : List (S43)) (r4 : ByteArray) (r5 : Int) (r6 : Int) (r7 : Int) (w0 w : World) (hI : IsS116 w0 w g s0_0 s0_1 s0_2 s0_3) (hB : Below w0.heap.size w0 w) (h : tcl_parser_word.f k s0_0 s0_1 s0_2 s0_3 = some (r1, r2, r3, r4, r5, r6, r7)) :
    Calls Try.prog 80 #[.pointer (some ⟨g, 0, none⟩)] w fun e w' => ∃ v2_ : Value, e = .returned (.agg #[.int .i64 r1, .int .i64 r2, v2_]) ∧ Kd.R k43 43 w' w.heap.size (fun _ => True) v2_ r3 ∧ IsS116 w0 w' g r4 r5 r6 r7 ∧ Below w0.heap.size w0 w' ∧ KeepBut w w' g none := by
  have hu41 := Try.underlying41
  have HI0 := Aside0.mk hI
  have HK := Aside0.mk (KeepBut.refl w g none)
  have HL := Aside0.mk hB.size
  clear hI
  have HW0 := Aside0.mk hB.size
  have HB := Aside0.mk hB
  clear hB
  have H : (if 0 ≤ s0_1 then (if s0_1 < (s0_0.size : Int) then (if (bt s0_0 s0_1) = 123 then ((tcl_parser_braced.f k s0_0 s0_1 s0_2 s0_3).bind fun bt117 => (tcl_parser_word.j0 k bt117.2.1 bt117.2.2.1 bt117.2.2.2.1 bt117.2.2.2.2 s0_1 2 bt117.1)) else (if (bt s0_0 s0_1) = 34 then ((tcl_parser_parts.f s0_0 (wrap64 (s0_1 + 1)) s0_2 s0_3 (⟨#[34]⟩ : ByteArray) s0_1).bind fun bt124 => (if bt124.2.2.1 = (bt124.2.1.size : Int) then ((tcl_parser_fail.f bt124.2.1 bt124.2.2.1 bt124.2.2.2.1 bt124.2.2.2.2 s0_1 5).bind fun bt131 => (tcl_parser_word.j0 k bt131.1 (mn (wrap64 (bt131.2.1 + 1)) (bt131.1.size : Int)) bt131.2.2.1 bt131.2.2.2 s0_1 1 bt124.1)) else (tcl_parser_word.j0 k bt124.2.1 (mn (wrap64 (bt124.2.2.1 + 1)) (bt124.2.1.size : Int)) bt124.2.2.2.1 bt124.2.2.2.2 s0_1 1 bt124.1))) else ((tcl_parser_parts.f s0_0 s0_1 s0_2 s0_3 (⟨#[32, 9, 10, 59]⟩ : ByteArray) (-1)).bind fun bt135 => (some (s0_1, 0, bt135.1, bt135.2.1, bt135.2.2.1, bt135.2.2.2.1, bt135.2.2.2.2))))) else (none)) else (none)) = some (r1, r2, r3, r4, r5, r6, r7) := h
  clear h
  by_cases c2 : 0 ≤ s0_1
  · rw [if_pos c2] at H
    have c2b0 : decide (0 ≤ s0_1) = true := decide_eq_true c2
    clear c2
    by_cases c3 : s0_1 < (s0_0.size : Int)
    · rw [if_pos c3] at H
      have c3b0 : decide (s0_1 < (s0_0.size : Int)) = true := decide_eq_true c3
      clear c3
      have HC5 := Aside0.mk H
      clear H
      go_enter Try.func80, Try.ntmps80
      try go_wp2_with (first | ((with_reducible refine gate_dst (N := 2) rfl ?_); refine box_event ?hg (N := 2) ?hd (cs := #[.int .i64 0, .int .i64 0, .slice none 0 0]) (t := 41) ?hr ?_; (case hd => rfl); (case hg => rfl); (case hr => first | (go_simp; done) | (go_simp; rfl)); intro gb115 hg w6 hbox hb; have n0_ := Aside0.mk (IsS116.below (by repeat (first | (with_reducible first | exact HI0.out | apply IsS116.alloc | apply IsS116.drewN | apply IsS116.drew | apply IsS116.set_0 | apply IsS116.set_1 | apply IsS116.set_2 | apply IsS116.set_3) | exact HI0.out)) hb); have n1_ := Aside0.mk (KeepBut.trans (by repeat (first | (with_reducible first | exact HK.out | apply KeepBut.set_ | apply keep_drewN | apply keep_drew | apply keep_alloc) | exact HK.out)) (KeepBut.of_below hb g none) (.inl rfl)); have n2_ := Aside0.mk (below_step (by repeat (first | (with_reducible first | exact HB.out | apply below_alloc | apply pw_below_drewN | apply below_drew1 | refine below_set ?_ (IsS116.ge HI0.out)) | exact HB.out)) hb); have n3_ := Aside0.mk (hbox); have n4_ := Aside0.mk ((by rw [hg]; exact (keep_size (w := w) (g := g) (row := none) (by repeat (first | (with_reducible first | exact HK.out | apply KeepBut.set_ | apply keep_drewN | apply keep_drew | apply keep_alloc) | exact HK.out))) : w.heap.size ≤ gb115)); have n5_ := Aside0.mk ((Nat.le_trans HW0.out (by rw [hg]; exact (keep_size (w := w) (g := g) (row := none) (by repeat (first | (with_reducible first | exact HK.out | apply KeepBut.set_ | apply keep_drewN | apply keep_drew | apply keep_alloc) | exact HK.out))) : w.heap.size ≤ gb115) : w0.heap.size ≤ gb115)); have n6_ := Aside0.mk ((by rw [hg]; exact Nat.ne_of_lt (IsS116.lt (show IsS116 w0 _ g s0_0 s0_1 s0_2 s0_3 from by repeat (first | (with_reducible first | exact HI0.out | apply IsS116.alloc | apply IsS116.drewN | apply IsS116.drew | apply IsS116.set_0 | apply IsS116.set_1 | apply IsS116.set_2 | apply IsS116.set_3) | exact HI0.out))) : g ≠ gb115)); have n7_ := Aside0.mk ((by rw [hg]; exact Nat.ne_of_gt (IsS116.lt (show IsS116 w0 _ g s0_0 s0_1 s0_2 s0_3 from by repeat (first | (with_reducible first | exact HI0.out | apply IsS116.alloc | apply IsS116.drewN | apply IsS116.drew | apply IsS116.set_0 | apply IsS116.set_1 | apply IsS116.set_2 | apply IsS116.set_3) | exact HI0.out))) : gb115 ≠ g)); clear HI0; clear HK; clear HB; have HI0 := n0_; have HK := n1_; have HB := n2_; have BK115 := n3_; have GW115 := n4_; have GE115 := n5_; have NB0_115 := n6_; have NB115_0 := n7_; clear n0_ n1_ n2_ n3_ n4_ n5_ n6_ n7_; clear hb hbox hg; obtain ⟨HGz7, hgz7⟩ := HI0.out; have hcz7_0 := cellS116_0 HGz7; have hcz7_1 := cellS116_1 HGz7; have hcz7_2 := cellS116_2 HGz7; have hcz7_3 := cellS116_3 HGz7; have hfz7_0 := blk_frozen HGz7 0; have hfz7_1 := blk_frozen HGz7 1; have hfz7_2 := blk_frozen HGz7 2; have hfz7_3 := blk_frozen HGz7 3; clear HGz7 hgz7) | ((with_reducible refine gate_dst (N := 3) rfl ?_); refine box_event ?hg (N := 3) ?hd (cs := #[.int .i64 0, .int .i64 0, .slice none 0 0]) (t := 41) ?hr ?_; (case hd => rfl); (case hg => rfl); (case hr => first | (go_simp; done) | (go_simp; rfl)); intro gb116 hg w8 hbox hb; have n0_ := Aside0.mk (IsS116.below (by repeat (first | (with_reducible first | exact HI0.out | apply IsS116.alloc | apply IsS116.drewN | apply IsS116.drew | apply IsS116.set_0 | apply IsS116.set_1 | apply IsS116.set_2 | apply IsS116.set_3 | (apply IsS116.far; (case hne => exact NB0_115.out))) | exact HI0.out)) hb); have n1_ := Aside0.mk (blk_below (g := gb115) (o := .cells #[.int .i64 0, .int .i64 0, .slice none 0 0] 41 (0, 0)) (by (with_reducible repeat (first | refine blk_drewN ?_ _ | refine blk_drew ?_ | refine blk_alloc ?_ _)); exact BK115.out) hb); have n2_ := Aside0.mk (KeepBut.trans (by repeat (first | (with_reducible first | exact HK.out | apply KeepBut.set_ | apply keep_drewN | apply keep_drew | apply keep_alloc | refine keep_far ?_ GW115.out _) | exact HK.out)) (KeepBut.of_below hb g none) (.inl rfl)); have n3_ := Aside0.mk (below_step (by repeat (first | (with_reducible first | exact HB.out | apply below_alloc | apply pw_below_drewN | apply below_drew1 | refine below_set ?_ (IsS116.ge HI0.out) | refine below_set ?_ GE115.out) | exact HB.out)) hb); have n4_ := Aside0.mk (hbox); have n5_ := Aside0.mk ((by rw [hg]; exact (keep_size (w := w) (g := g) (row := none) (by repeat (first | (with_reducible first | exact HK.out | apply KeepBut.set_ | apply keep_drewN | apply keep_drew | apply keep_alloc | refine keep_far ?_ GW115.out _) | exact HK.out))) : w.heap.size ≤ gb116)); have n6_ := Aside0.mk ((Nat.le_trans HW0.out (by rw [hg]; exact (keep_size (w := w) (g := g) (row := none) (by repeat (first | (with_reducible first | exact HK.out | apply KeepBut.set_ | apply keep_drewN | apply keep_drew | apply keep_alloc | refine keep_far ?_ GW115.out _) | exact HK.out))) : w.heap.size ≤ gb116) : w0.heap.size ≤ gb116)); have n7_ := Aside0.mk ((by rw [hg]; exact Nat.ne_of_lt (blk_lt (g := gb115) (o := .cells #[.int .i64 0, .int .i64 0, .slice none 0 0] 41 (0, 0)) (by (with_reducible repeat (first | refine blk_drewN ?_ _ | refine blk_drew ?_ | refine blk_alloc ?_ _)); exact BK115.out)) : gb115 ≠ gb116)); have n8_ := Aside0.mk ((by rw [hg]; exact Nat.ne_of_gt (blk_lt (g := gb115) (o := .cells #[.int .i64 0, .int .i64 0, .slice none 0 0] 41 (0, 0)) (by (with_reducible repeat (first | refine blk_drewN ?_ _ | refine blk_drew ?_ | refine blk_alloc ?_ _)); exact BK115.out)) : gb116 ≠ gb115)); have n9_ := Aside0.mk ((by rw [hg]; exact Nat.ne_of_lt (IsS116.lt (show IsS116 w0 _ g s0_0 s0_1 s0_2 s0_3 from by repeat (first | (with_reducible first | exact HI0.out | apply IsS116.alloc | apply IsS116.drewN | apply IsS116.drew | apply IsS116.set_0 | apply IsS116.set_1 | apply IsS116.set_2 | apply IsS116.set_3 | (apply IsS116.far; (case hne => exact NB0_115.out))) | exact HI0.out))) : g ≠ gb116)); have n10_ := Aside0.mk ((by rw [hg]; exact Nat.ne_of_gt (IsS116.lt (show IsS116 w0 _ g s0_0 s0_1 s0_2 s0_3 from by repeat (first | (with_reducible first | exact HI0.out | apply IsS116.alloc | apply IsS116.drewN | apply IsS116.drew | apply IsS116.set_0 | apply IsS116.set_1 | apply IsS116.set_2 | apply IsS116.set_3 | (apply IsS116.far; (case hne => exact NB0_115.out))) | exact HI0.out))) : gb116 ≠ g)); clear HI0; clear BK115; clear HK; clear HB; have HI0 := n0_; have BK115 := n1_; have HK := n2_; have HB := n3_; have BK116 := n4_; have GW116 := n5_; have GE116 := n6_; have NB115_116 := n7_; have NB116_115 := n8_; have NB0_116 := n9_; have NB116_0 := n10_; clear n0_ n1_ n2_ n3_ n4_ n5_ n6_ n7_ n8_ n9_ n10_; clear hb hbox hg; have hnb9 := NB116_115.out; have hnc9 := NB115_116.out; have hnb10 := NB116_0.out; have hnc10 := NB0_116.out; have hcz11_0 : w8.cell? ⟨gb116, 0, none⟩ = some (.int .i64 0) := (blk_cell BK116.out 0).trans rfl; have hcz11_1 : w8.cell? ⟨gb116, 1, none⟩ = some (.int .i64 0) := (blk_cell BK116.out 1).trans rfl; have hcz11_2 : w8.cell? ⟨gb116, 2, none⟩ = some (.slice none 0 0) := (blk_cell BK116.out 2).trans rfl; have hfz11_0 := blk_frozen BK116.out 0; have hfz11_1 := blk_frozen BK116.out 1; have hfz11_2 := blk_frozen BK116.out 2))
      have n0_ : Aside0 ((((w8.setCell ⟨gb116, 0, none⟩ (.int .i64 s0_1)).setCell ⟨gb116, 1, none⟩ (.int .i64 0)).setCell ⟨gb116, 2, none⟩ (.slice none 0 0)).heap[gb115]? = some (.cells #[.int .i64 0, .int .i64 0, .slice none 0 0] 41 (0, 0))) := ⟨by (with_reducible repeat (first | refine blk_drewN ?_ _ | refine blk_drew ?_ | refine blk_alloc ?_ _)); refine blk_far ?_ NB115_116.out _; (with_reducible repeat (first | refine blk_drewN ?_ _ | refine blk_drew ?_ | refine blk_alloc ?_ _)); refine blk_far ?_ NB115_116.out _; (with_reducible repeat (first | refine blk_drewN ?_ _ | refine blk_drew ?_ | refine blk_alloc ?_ _)); refine blk_far ?_ NB115_116.out _; (with_reducible repeat (first | refine blk_drewN ?_ _ | refine blk_drew ?_ | refine blk_alloc ?_ _)); exact BK115.out⟩
      have n1_ : Aside0 ((((w8.setCell ⟨gb116, 0, none⟩ (.int .i64 s0_1)).setCell ⟨gb116, 1, none⟩ (.int .i64 0)).setCell ⟨gb116, 2, none⟩ (.slice none 0 0)).heap[gb116]? = some (.cells #[.int .i64 s0_1, .int .i64 0, .slice none 0 0] 41 (0, 0))) := ⟨by (with_reducible repeat (first | refine blk_drewN ?_ _ | refine blk_drew ?_ | refine blk_alloc ?_ _)); refine blk_put (cs := #[.int .i64 s0_1, .int .i64 0, .slice none 0 0]) ?_ 2 _ rfl; (with_reducible repeat (first | refine blk_drewN ?_ _ | refine blk_drew ?_ | refine blk_alloc ?_ _)); refine blk_put (cs := #[.int .i64 s0_1, .int .i64 0, .slice none 0 0]) ?_ 1 _ rfl; (with_reducible repeat (first | refine blk_drewN ?_ _ | refine blk_drew ?_ | refine blk_alloc ?_ _)); refine blk_put (cs := #[.int .i64 0, .int .i64 0, .slice none 0 0]) ?_ 0 _ rfl; (with_reducible repeat (first | refine blk_drewN ?_ _ | refine blk_drew ?_ | refine blk_alloc ?_ _)); exact BK116.out⟩
      have n2_ : Aside0 (IsS116 w0 (((w8.setCell ⟨gb116, 0, none⟩ (.int .i64 s0_1)).setCell ⟨gb116, 1, none⟩ (.int .i64 0)).setCell ⟨gb116, 2, none⟩ (.slice none 0 0)) g s0_0 s0_1 s0_2 s0_3) := ⟨by repeat (first | (with_reducible first | exact HI0.out | apply IsS116.alloc | apply IsS116.drewN | apply IsS116.drew | apply IsS116.set_0 | apply IsS116.set_1 | apply IsS116.set_2 | apply IsS116.set_3 | (apply IsS116.far; (case hne => exact NB0_115.out)) | (apply IsS116.far; (case hne => exact NB0_116.out))) | exact HI0.out)⟩
      have n3_ : Aside0 (KeepBut w (((w8.setCell ⟨gb116, 0, none⟩ (.int .i64 s0_1)).setCell ⟨gb116, 1, none⟩ (.int .i64 0)).setCell ⟨gb116, 2, none⟩ (.slice none 0 0)) g none) := ⟨by repeat (first | (with_reducible first | exact HK.out | apply KeepBut.set_ | apply keep_drewN | apply keep_drew | apply keep_alloc | refine keep_far ?_ GW115.out _ | refine keep_far ?_ GW116.out _) | exact HK.out)⟩
      have n4_ : Aside0 (Below w0.heap.size w0 (((w8.setCell ⟨gb116, 0, none⟩ (.int .i64 s0_1)).setCell ⟨gb116, 1, none⟩ (.int .i64 0)).setCell ⟨gb116, 2, none⟩ (.slice none 0 0))) := ⟨by repeat (first | (with_reducible first | exact HB.out | apply below_alloc | apply pw_below_drewN | apply below_drew1 | refine below_set ?_ (IsS116.ge HI0.out) | refine below_set ?_ GE115.out | refine below_set ?_ GE116.out) | exact HB.out)⟩
      (try clear BK115)
      (try clear BK116)
      (try clear HI0)
      (try clear HK)
      (try clear HB)
      generalize (((w8.setCell ⟨gb116, 0, none⟩ (.int .i64 s0_1)).setCell ⟨gb116, 1, none⟩ (.int .i64 0)).setCell ⟨gb116, 2, none⟩ (.slice none 0 0)) = w12 at n0_ n1_ n2_ n3_ n4_ ⊢
      have BK115 := n0_
      have BK116 := n1_
      have HI0 := n2_
      have HK := n3_
      have HB := n4_
      clear n0_ n1_ n2_ n3_ n4_
      have n0_ := Aside0.mk (blk_drew BK115.out)
      have n1_ := Aside0.mk (blk_drew BK116.out)
      have n2_ := Aside0.mk (IsS116.drew HI0.out)
      have n3_ := Aside0.mk (keep_drew HK.out)
      have n4_ := Aside0.mk (below_drew1 HB.out)
      clear BK115
      clear BK116
      clear HI0
      clear HK
      clear HB
      have BK115 := n0_
      have BK116 := n1_
      have HI0 := n2_
      have HK := n3_
      have HB := n4_
      clear n0_ n1_ n2_ n3_ n4_
      have p4 : 0 ≤ (s0_1 : Int) := of_decide_eq_true (by first | (with_reducible assumption) | assumption)
      have q4 : s0_1 < (s0_0.size : Int) := of_decide_eq_true (by first | (with_reducible assumption) | assumption)
      have hx4 := bt_at s0_0 s0_1
      replace p4 := eq_true p4
      replace q4 := eq_true q4
      refine start_ (n := 9) (S := fun w' => w'.cell? ⟨g, 0, none⟩ = some (.string s0_0) ∧ w'.cell? ⟨g, 1, none⟩ = some (.int .i64 s0_1) ∧ w'.cell? ⟨g, 2, none⟩ = some (.int .i64 s0_2) ∧ w'.cell? ⟨g, 3, none⟩ = some (.int .i64 s0_3)) (ds := []) #[false, false, false, false, false, false, false, false, false] (by kernel_rfl) rfl rfl ⟨(blk_cell (Aside0.mk HI0.out.1).out 0).trans rfl, (blk_cell (Aside0.mk HI0.out.1).out 1).trans rfl, (blk_cell (Aside0.mk HI0.out.1).out 2).trans rfl, (blk_cell (Aside0.mk HI0.out.1).out 3).trans rfl⟩ (fun hHeld => ?_); refine with_tabW tcl_parser_word.tab2 tcl_parser_word.bits2 (fun HT_ HW_ => ?_)
      generalize w12.drew = w13 at BK115 BK116 HI0 HK HB hHeld ⊢
      refine pure_ (i := 0) (N := some 9) (v := ?_) (a' := ?_) #[true, false, false, false, false, false, false, false, false] rfl rfl (any_of HT_.out (by kernel_rfl)) (fun _ _ _ h => h) (Or.inl ⟨by rfl, ?_⟩) ?_ ?_
      rotate_left
      · intro w'
        go_simp
        with_reducible rfl
      rotate_left
      · simp only [Act.put, List.setIfInBounds_toArray, List.set_cons_zero, List.set_cons_succ, i64_w, i32_w]
        rfl
      refine pure_ (i := 1) (N := some 10) (v := ?_) (a' := ?_) #[true, true, false, false, false, false, false, false, false] rfl rfl (any_of HT_.out (by kernel_rfl)) (fun _ _ _ h => h) (Or.inl ⟨by rfl, ?_⟩) ?_ ?_
      rotate_left
      · intro w'
        go_simp
        with_reducible rfl
      rotate_left
      · simp only [Act.put, List.setIfInBounds_toArray, List.set_cons_zero, List.set_cons_succ, i64_w, i32_w]
        rfl
      refine pure_ (i := 2) (N := some 11) (v := ?_) (a' := ?_) #[true, true, true, false, false, false, false, false, false] rfl rfl (any_of HT_.out (by kernel_rfl)) (fun _ _ _ h => h) (Or.inl ⟨by rfl, ?_⟩) ?_ ?_
      rotate_left
      · intro w'
        go_simp
        with_reducible rfl
      rotate_left
      · simp only [Act.put, List.setIfInBounds_toArray, List.set_cons_zero, List.set_cons_succ, i64_w, i32_w]
        rfl
      refine pure_ (i := 4) (N := some 13) (v := ?_) (a' := ?_) #[true, true, true, false, true, false, false, false, false] rfl rfl (any_of HT_.out (by kernel_rfl)) (fun _ _ _ h => h) (Or.inl ⟨by rfl, ?_⟩) ?_ ?_
      rotate_left
      · intro w'
        go_simp
        with_reducible rfl
      rotate_left
      · simp only [Act.put, List.setIfInBounds_toArray, List.set_cons_zero, List.set_cons_succ, i64_w, i32_w]
        rfl
      refine pure_ (i := 5) (N := some 14) (v := ?_) (a' := ?_) #[true, true, true, false, true, true, false, false, false] rfl rfl (any_of HT_.out (by kernel_rfl)) (fun _ _ _ h => h) (Or.inl ⟨by rfl, ?_⟩) ?_ ?_
      rotate_left
      · intro w'
        go_simp
        with_reducible rfl
      rotate_left
      · simp only [Act.put, List.setIfInBounds_toArray, List.set_cons_zero, List.set_cons_succ, i64_w, i32_w]
        rfl
      refine pure_ (i := 6) (N := some 15) (v := ?_) (a' := ?_) #[true, true, true, false, true, true, true, false, false] rfl rfl (any_of HT_.out (by kernel_rfl)) (fun _ _ _ h => h) (Or.inl ⟨by rfl, ?_⟩) ?_ ?_
      rotate_left
      · intro w'
        go_simp
        with_reducible rfl
      rotate_left
      · simp only [Act.put, List.setIfInBounds_toArray, List.set_cons_zero, List.set_cons_succ, i64_w, i32_w]
        rfl
      refine take_ (i := 3) (N := some 12) (v := ?_) (a' := ?_) #[true, true, true, true, true, true, true, false, false] rfl rfl (take_ofW HT_.out HW_.out (by kernel_rfl)) (fun _ _ _ h => h) (Or.inl ⟨by rfl, ?_⟩) hHeld ?_ ?_
      rotate_left
      · rintro w' ⟨s0, s1, s2, s3⟩
        go_simp
        with_reducible rfl
      rotate_left
      · simp only [Act.put, List.setIfInBounds_toArray, List.set_cons_zero, List.set_cons_succ, i64_w, i32_w]
        rfl
      refine take_ (i := 7) (N := some 16) (v := ?_) (a' := ?_) #[true, true, true, true, true, true, true, true, false] rfl rfl (take_ofW HT_.out HW_.out (by kernel_rfl)) (fun _ _ _ h => h) (Or.inl ⟨by rfl, ?_⟩) hHeld ?_ ?_
      rotate_left
      · rintro w' ⟨s0, s1, s2, s3⟩
        go_simp
        with_reducible rfl
      rotate_left
      · simp only [Act.put, List.setIfInBounds_toArray, List.set_cons_zero, List.set_cons_succ, i64_w, i32_w]
        rfl
      refine take_ (i := 8) (N := some 17) (v := ?_) (a' := ?_) #[true, true, true, true, true, true, true, true, true] rfl rfl (take_ofW HT_.out HW_.out (by kernel_rfl)) (fun _ _ _ h => h) (Or.inl ⟨by rfl, ?_⟩) hHeld ?_ ?_
      rotate_left
      · rintro w' ⟨s0, s1, s2, s3⟩
        go_simp
        with_reducible rfl
      rotate_left
      · simp only [Act.put, List.setIfInBounds_toArray, List.set_cons_zero, List.set_cons_succ, i64_w, i32_w]
        rfl
      refine done_ (done_of HT_.out (by kernel_rfl)) ?_
      go_upto_block 0 with (fail)
      go_cut [] (fun wc => ∃ (kq : Nat) (x1000_4 : ByteArray) (x1001_4 : Int) (x1002_4 : Int) (x1003_4 : Int) (x116000_4 : Int) (x116001_4 : Int) (x117001_4 : Int) (x117002_4 : List (S43)) (u117002 : Value), Aside0 (tcl_parser_word.j0 kq x1000_4 x1001_4 x1002_4 x1003_4 s0_1 x117001_4 x117002_4 = some (r1, r2, r3, r4, r5, r6, r7)) ∧ Aside0 (kq ≤ k) ∧ Aside0 (Kd.R k43 43 wc w.heap.size (fun _ => True) u117002 x117002_4) ∧ Aside0 (wc.heap[gb115]? = some (.cells #[.int .i64 x116000_4, .int .i64 x116001_4, (.slice none 0 0)] 41 (0, 0))) ∧ Aside0 (wc.heap[gb116]? = some (.cells #[.int .i64 s0_1, .int .i64 x117001_4, u117002] 41 (0, 0))) ∧ Aside0 (IsS116 w0 wc g x1000_4 x1001_4 x1002_4 x1003_4) ∧ Aside0 (KeepBut w wc g none) ∧ Aside0 (Below w0.heap.size w0 wc))
      case first =>
        have H := HC5.out
        clear HC5
        by_cases c14 : (bt s0_0 s0_1) = 123
        · rw [if_pos c14] at H
          have c14b0 : ((bt s0_0 s0_1) == 123) = true := beq_iff_eq.mpr c14
          have c14b1 : ((bt s0_0 s0_1) != 123) = false := bne_eq_false_iff_eq.mpr c14
          clear c14
          (first | rw [c14b0] | (simp only [i64_w, i32_w]; rw [c14b0]) | skip)
          replace H := Option.bind_eq_some_iff.mp H
          obtain ⟨⟨t117, t120, t121, t122, t123⟩, A150, H⟩ := H
          replace H : (tcl_parser_word.j0 k t120 t121 t122 t123 s0_1 2 t117) = some (r1, r2, r3, r4, r5, r6, r7) := H
          have A15 := Aside0.mk A150
          clear A150
          have H' := Aside0.mk H
          clear H
          have hnb16 := NB116_115.out
          have hnc16 := NB115_116.out
          have hnb17 := NB116_0.out
          have hnc17 := NB0_116.out
          have hcz18_0 : w13.cell? ⟨gb116, 0, none⟩ = some (.int .i64 s0_1) := (blk_cell BK116.out 0).trans rfl
          have hcz18_1 : w13.cell? ⟨gb116, 1, none⟩ = some (.int .i64 0) := (blk_cell BK116.out 1).trans rfl
          have hcz18_2 : w13.cell? ⟨gb116, 2, none⟩ = some (.slice none 0 0) := (blk_cell BK116.out 2).trans rfl
          have hfz18_0 := blk_frozen BK116.out 0
          have hfz18_1 := blk_frozen BK116.out 1
          have hfz18_2 := blk_frozen BK116.out 2
          go_wp2_with (first | ((with_reducible refine gate_callee (f := 83) rfl ?_); refine goesL_ (some 26) rfl rfl Try.func83 (by kernel_rfl) rfl #[.pointer (some ⟨g, 0, none⟩)] rfl (by (try simp only [List.map_toArray, List.map_cons, List.map_nil]); first | done | rfl | (simp only [List.length_drop, List.length_take]; rfl)) ?_; (with_reducible refine (tcl_parser_braced.calls k g s0_0 s0_1 s0_2 s0_3 t117 t120 t121 t122 t123 w0 _ ?side1 ?side2 A15.out).mono ?_); (case side1 => repeat (first | (with_reducible first | exact HI0.out | apply IsS116.alloc | apply IsS116.drewN | apply IsS116.drew | apply IsS116.set_0 | apply IsS116.set_1 | apply IsS116.set_2 | apply IsS116.set_3 | (apply IsS116.far; (case hne => exact NB0_115.out)) | (apply IsS116.far; (case hne => exact NB0_116.out))) | exact HI0.out)); (case side2 => repeat (first | (with_reducible first | exact HB.out | apply below_alloc | apply pw_below_drewN | apply below_drew1 | refine below_set ?_ (IsS116.ge HI0.out) | refine below_set ?_ GE115.out | refine below_set ?_ GE116.out) | exact HB.out)); rintro e w19 ⟨v118, rfl, ho0, hi, hb, hk⟩; refine ⟨_, rfl, ?_⟩; have n0_ := Aside0.mk (KeepBut.blk hk (g' := gb115) (o := .cells #[.int .i64 0, .int .i64 0, .slice none 0 0] 41 (0, 0)) (by (with_reducible repeat (first | refine blk_drewN ?_ _ | refine blk_drew ?_ | refine blk_alloc ?_ _)); refine blk_far ?_ NB115_116.out _; (with_reducible repeat (first | refine blk_drewN ?_ _ | refine blk_drew ?_ | refine blk_alloc ?_ _)); exact BK115.out) NB115_0.out (by simp)); have n1_ := Aside0.mk (KeepBut.blk hk (g' := gb116) (o := .cells #[.int .i64 s0_1, .int .i64 2, .slice none 0 0] 41 (0, 0)) (by (with_reducible repeat (first | refine blk_drewN ?_ _ | refine blk_drew ?_ | refine blk_alloc ?_ _)); refine blk_put (cs := #[.int .i64 s0_1, .int .i64 0, .slice none 0 0]) ?_ 1 _ rfl; (with_reducible repeat (first | refine blk_drewN ?_ _ | refine blk_drew ?_ | refine blk_alloc ?_ _)); exact BK116.out) NB116_0.out (by simp)); have n2_ := Aside0.mk (Kd.R_lower ho0 (keep_size (w := w) (g := g) (row := none) (by repeat (first | (with_reducible first | exact HK.out | apply KeepBut.set_ | apply keep_drewN | apply keep_drew | apply keep_alloc | refine keep_far ?_ GW115.out _ | refine keep_far ?_ GW116.out _) | exact HK.out)))); have n3_ := Aside0.mk (KeepBut.trans (by repeat (first | (with_reducible first | exact HK.out | apply KeepBut.set_ | apply keep_drewN | apply keep_drew | apply keep_alloc | refine keep_far ?_ GW115.out _ | refine keep_far ?_ GW116.out _) | exact HK.out)) hk (.inl rfl)); have n4_ := Aside0.mk (hb); have n5_ := Aside0.mk (hi); clear BK115; clear BK116; clear HK; clear HB; clear HI0; have BK115 := n0_; have BK116 := n1_; have HO119 := n2_; have HK := n3_; have HB := n4_; have HI0 := n5_; clear n0_ n1_ n2_ n3_ n4_ n5_; (try clear hb); (try clear hb2); (try clear hk); (try clear hi); (try clear ho0); obtain ⟨Ao20, co20, eo20⟩ := Kd.R_slice HO119.out; subst eo20; have hcz21_0 : w19.cell? ⟨gb116, 0, none⟩ = some (.int .i64 s0_1) := (blk_cell BK116.out 0).trans rfl; have hcz21_1 : w19.cell? ⟨gb116, 1, none⟩ = some (.int .i64 2) := (blk_cell BK116.out 1).trans rfl; have hcz21_2 : w19.cell? ⟨gb116, 2, none⟩ = some (.slice none 0 0) := (blk_cell BK116.out 2).trans rfl; have hfz21_0 := blk_frozen BK116.out 0; have hfz21_1 := blk_frozen BK116.out 1; have hfz21_2 := blk_frozen BK116.out 2))
          go_meet
          case rel => exact ⟨_, (t120), (t121), (t122), (t123), (0), (0), (2), (t117), (.slice Ao20 t117.length co20), H', ⟨by first | omega | exact Nat.le_refl _⟩, ⟨by (with_reducible repeat (first | apply Kd.R_alloc | apply Kd.R_drewN | apply Kd.R_drew)); exact Kd.R_mono (Kd.R_far (p := ⟨gb116, 2, none⟩) (Kd.R_types HO119.out BK116.out (by decide)) (fun _ hk => hk.2) (.slice Ao20 t117.length co20)) (fun _ hk => trivial)⟩, ⟨by (with_reducible repeat (first | refine blk_drewN ?_ _ | refine blk_drew ?_ | refine blk_alloc ?_ _)); refine blk_far ?_ NB115_116.out _; (with_reducible repeat (first | refine blk_drewN ?_ _ | refine blk_drew ?_ | refine blk_alloc ?_ _)); exact BK115.out⟩, ⟨by (with_reducible repeat (first | refine blk_drewN ?_ _ | refine blk_drew ?_ | refine blk_alloc ?_ _)); refine blk_put (cs := #[.int .i64 s0_1, .int .i64 2, .slice none 0 0]) ?_ 2 _ rfl; (with_reducible repeat (first | refine blk_drewN ?_ _ | refine blk_drew ?_ | refine blk_alloc ?_ _)); exact BK116.out⟩, ⟨by repeat (first | (with_reducible first | exact HI0.out | apply IsS116.alloc | apply IsS116.drewN | apply IsS116.drew | apply IsS116.set_0 | apply IsS116.set_1 | apply IsS116.set_2 | apply IsS116.set_3 | (apply IsS116.far; (case hne => exact NB0_115.out)) | (apply IsS116.far; (case hne => exact NB0_116.out))) | exact HI0.out)⟩, ⟨by repeat (first | (with_reducible first | exact HK.out | apply KeepBut.set_ | apply keep_drewN | apply keep_drew | apply keep_alloc | refine keep_far ?_ GW115.out _ | refine keep_far ?_ GW116.out _) | exact HK.out)⟩, ⟨by repeat (first | (with_reducible first | exact HB.out | apply below_alloc | apply pw_below_drewN | apply below_drew1 | refine below_set ?_ (IsS116.ge HI0.out) | refine below_set ?_ GE115.out | refine below_set ?_ GE116.out) | exact HB.out)⟩⟩
        · rw [if_neg c14] at H
          have c14b0 : ((bt s0_0 s0_1) == 123) = false := beq_eq_false_iff_ne.mpr c14
          have c14b1 : ((bt s0_0 s0_1) != 123) = true := bne_iff_ne.mpr c14
          (first | rw [c14b0] | (simp only [i64_w, i32_w]; rw [c14b0]) | skip)
          by_cases c22 : (bt s0_0 s0_1) = 34
          · rw [if_pos c22] at H
            have c22b0 : ((bt s0_0 s0_1) == 34) = true := beq_iff_eq.mpr c22
            have c22b1 : ((bt s0_0 s0_1) != 34) = false := bne_eq_false_iff_eq.mpr c22
            clear c22
            replace H := Option.bind_eq_some_iff.mp H
            obtain ⟨⟨t124, t127, t128, t129, t130⟩, A230, H⟩ := H
            replace H : (if t128 = (t127.size : Int) then ((tcl_parser_fail.f t127 t128 t129 t130 s0_1 5).bind fun bt131 => (tcl_parser_word.j0 k bt131.1 (mn (wrap64 (bt131.2.1 + 1)) (bt131.1.size : Int)) bt131.2.2.1 bt131.2.2.2 s0_1 1 t124)) else (tcl_parser_word.j0 k t127 (mn (wrap64 (t128 + 1)) (t127.size : Int)) t129 t130 s0_1 1 t124)) = some (r1, r2, r3, r4, r5, r6, r7) := H
            have A23 := Aside0.mk A230
            clear A230
            by_cases c24 : t128 = (t127.size : Int)
            · rw [if_pos c24] at H
              have c24b0 : (t128 == (t127.size : Int)) = true := beq_iff_eq.mpr c24
              have c24b1 : (t128 != (t127.size : Int)) = false := bne_eq_false_iff_eq.mpr c24
              clear c24
              replace H := Option.bind_eq_some_iff.mp H
              obtain ⟨⟨t131, t132, t133, t134⟩, A250, H⟩ := H
              replace H : (tcl_parser_word.j0 k t131 (mn (wrap64 (t132 + 1)) (t131.size : Int)) t133 t134 s0_1 1 t124) = some (r1, r2, r3, r4, r5, r6, r7) := H
              have A25 := Aside0.mk A250
              clear A250
              obtain ⟨ji26, hji26⟩ : ∃ j_ : Int, (mn (wrap64 (t132 + 1)) (t131.size : Int)) = j_ := ⟨_, rfl⟩
              replace H : (tcl_parser_word.j0 k t131 ji26 t133 t134 s0_1 1 t124) = some (r1, r2, r3, r4, r5, r6, r7) := by first | (rw [hji26] at H; exact H) | (simp only [hji26] at H ⊢; exact H)
              (try rw [hji26] at A23)
              (try rw [hji26] at A25)
              have hji26_ : (if (t131.size : Int) < (wrap64 (t132 + 1)) then (t131.size : Int) else (wrap64 (t132 + 1))) = ji26 := hji26
              have H' := Aside0.mk H
              clear H
              have hnb27 := NB116_115.out
              have hnc27 := NB115_116.out
              have hnb28 := NB116_0.out
              have hnc28 := NB0_116.out
              have hcz29_0 : w13.cell? ⟨gb116, 0, none⟩ = some (.int .i64 s0_1) := (blk_cell BK116.out 0).trans rfl
              have hcz29_1 : w13.cell? ⟨gb116, 1, none⟩ = some (.int .i64 0) := (blk_cell BK116.out 1).trans rfl
              have hcz29_2 : w13.cell? ⟨gb116, 2, none⟩ = some (.slice none 0 0) := (blk_cell BK116.out 2).trans rfl
              have hfz29_0 := blk_frozen BK116.out 0
              have hfz29_1 := blk_frozen BK116.out 1
              have hfz29_2 := blk_frozen BK116.out 2
              obtain ⟨HGz30, hgz30⟩ := HI0.out
              have hcz30_0 := cellS116_0 HGz30
              have hcz30_1 := cellS116_1 HGz30
              have hcz30_2 := cellS116_2 HGz30
              have hcz30_3 := cellS116_3 HGz30
              have hfz30_0 := blk_frozen HGz30 0
              have hfz30_1 := blk_frozen HGz30 1
              have hfz30_2 := blk_frozen HGz30 2
              have hfz30_3 := blk_frozen HGz30 3
              clear HGz30 hgz30
              try go_wp2_with (first | ((with_reducible refine gate_callee (f := 102) rfl ?_); refine goesL_ (some 41) rfl rfl Try.func102 (by kernel_rfl) rfl #[.pointer (some ⟨g, 0, none⟩), .string (⟨#[34]⟩ : ByteArray), .int .i64 s0_1] rfl (by (try simp only [List.map_toArray, List.map_cons, List.map_nil]); first | done | rfl | (simp only [List.length_drop, List.length_take]; rfl)) ?_; (with_reducible refine (tcl_parser_parts.calls g s0_0 (wrap64 (s0_1 + 1)) s0_2 s0_3 (⟨#[34]⟩ : ByteArray) s0_1 t124 t127 t128 t129 t130 w0 _ ?side1 ?side2 A23.out).mono ?_); (case side1 => repeat (first | (with_reducible first | exact HI0.out | apply IsS116.alloc | apply IsS116.drewN | apply IsS116.drew | apply IsS116.set_0 | apply IsS116.set_1 | apply IsS116.set_2 | apply IsS116.set_3 | (apply IsS116.far; (case hne => exact NB0_115.out)) | (apply IsS116.far; (case hne => exact NB0_116.out))) | exact HI0.out)); (case side2 => repeat (first | (with_reducible first | exact HB.out | apply below_alloc | apply pw_below_drewN | apply below_drew1 | refine below_set ?_ (IsS116.ge HI0.out) | refine below_set ?_ GE115.out | refine below_set ?_ GE116.out) | exact HB.out)); rintro e w31 ⟨v125, rfl, ho0, hi, hb, hk⟩; refine ⟨_, rfl, ?_⟩; have n0_ := Aside0.mk (KeepBut.blk hk (g' := gb115) (o := .cells #[.int .i64 0, .int .i64 0, .slice none 0 0] 41 (0, 0)) (by (with_reducible repeat (first | refine blk_drewN ?_ _ | refine blk_drew ?_ | refine blk_alloc ?_ _)); refine blk_far ?_ NB115_0.out _; (with_reducible repeat (first | refine blk_drewN ?_ _ | refine blk_drew ?_ | refine blk_alloc ?_ _)); refine blk_far ?_ NB115_116.out _; (with_reducible repeat (first | refine blk_drewN ?_ _ | refine blk_drew ?_ | refine blk_alloc ?_ _)); exact BK115.out) NB115_0.out (by simp)); have n1_ := Aside0.mk (KeepBut.blk hk (g' := gb116) (o := .cells #[.int .i64 s0_1, .int .i64 1, .slice none 0 0] 41 (0, 0)) (by (with_reducible repeat (first | refine blk_drewN ?_ _ | refine blk_drew ?_ | refine blk_alloc ?_ _)); refine blk_far ?_ NB116_0.out _; (with_reducible repeat (first | refine blk_drewN ?_ _ | refine blk_drew ?_ | refine blk_alloc ?_ _)); refine blk_put (cs := #[.int .i64 s0_1, .int .i64 0, .slice none 0 0]) ?_ 1 _ rfl; (with_reducible repeat (first | refine blk_drewN ?_ _ | refine blk_drew ?_ | refine blk_alloc ?_ _)); exact BK116.out) NB116_0.out (by simp)); have n2_ := Aside0.mk (Kd.R_lower ho0 (keep_size (w := w) (g := g) (row := none) (by repeat (first | (with_reducible first | exact HK.out | apply KeepBut.set_ | apply keep_drewN | apply keep_drew | apply keep_alloc | refine keep_far ?_ GW115.out _ | refine keep_far ?_ GW116.out _) | exact HK.out)))); have n3_ := Aside0.mk (KeepBut.trans (by repeat (first | (with_reducible first | exact HK.out | apply KeepBut.set_ | apply keep_drewN | apply keep_drew | apply keep_alloc | refine keep_far ?_ GW115.out _ | refine keep_far ?_ GW116.out _) | exact HK.out)) hk (.inl rfl)); have n4_ := Aside0.mk (hb); have n5_ := Aside0.mk (hi); clear BK115; clear BK116; clear HK; clear HB; clear HI0; have BK115 := n0_; have BK116 := n1_; have HO126 := n2_; have HK := n3_; have HB := n4_; have HI0 := n5_; clear n0_ n1_ n2_ n3_ n4_ n5_; (try clear hb); (try clear hb2); (try clear hk); (try clear hi); (try clear ho0); obtain ⟨Ao32, co32, eo32⟩ := Kd.R_slice HO126.out; subst eo32; have hcz33_0 : w31.cell? ⟨gb116, 0, none⟩ = some (.int .i64 s0_1) := (blk_cell BK116.out 0).trans rfl; have hcz33_1 : w31.cell? ⟨gb116, 1, none⟩ = some (.int .i64 1) := (blk_cell BK116.out 1).trans rfl; have hcz33_2 : w31.cell? ⟨gb116, 2, none⟩ = some (.slice none 0 0) := (blk_cell BK116.out 2).trans rfl; have hfz33_0 := blk_frozen BK116.out 0; have hfz33_1 := blk_frozen BK116.out 1; have hfz33_2 := blk_frozen BK116.out 2))
              have n0_ : Aside0 (Kd.R k43 43 (w31.setCell ⟨gb116, 2, none⟩ (.slice Ao32 t124.length co32)) w.heap.size (fun _ => True) (.slice Ao32 t124.length co32) t124) := ⟨by (with_reducible repeat (first | apply Kd.R_alloc | apply Kd.R_drewN | apply Kd.R_drew)); exact Kd.R_mono (Kd.R_far (p := ⟨gb116, 2, none⟩) (Kd.R_types HO126.out BK116.out (by decide)) (fun _ hk => hk.2) (.slice Ao32 t124.length co32)) (fun _ hk => trivial)⟩
              have n1_ : Aside0 ((w31.setCell ⟨gb116, 2, none⟩ (.slice Ao32 t124.length co32)).heap[gb115]? = some (.cells #[.int .i64 0, .int .i64 0, .slice none 0 0] 41 (0, 0))) := ⟨by (with_reducible repeat (first | refine blk_drewN ?_ _ | refine blk_drew ?_ | refine blk_alloc ?_ _)); refine blk_far ?_ NB115_116.out _; (with_reducible repeat (first | refine blk_drewN ?_ _ | refine blk_drew ?_ | refine blk_alloc ?_ _)); exact BK115.out⟩
              have n2_ : Aside0 ((w31.setCell ⟨gb116, 2, none⟩ (.slice Ao32 t124.length co32)).heap[gb116]? = some (.cells #[.int .i64 s0_1, .int .i64 1, .slice Ao32 t124.length co32] 41 (0, 0))) := ⟨by (with_reducible repeat (first | refine blk_drewN ?_ _ | refine blk_drew ?_ | refine blk_alloc ?_ _)); refine blk_put (cs := #[.int .i64 s0_1, .int .i64 1, .slice none 0 0]) ?_ 2 _ rfl; (with_reducible repeat (first | refine blk_drewN ?_ _ | refine blk_drew ?_ | refine blk_alloc ?_ _)); exact BK116.out⟩
              have n3_ : Aside0 (IsS116 w0 (w31.setCell ⟨gb116, 2, none⟩ (.slice Ao32 t124.length co32)) g t127 t128 t129 t130) := ⟨by repeat (first | (with_reducible first | exact HI0.out | apply IsS116.alloc | apply IsS116.drewN | apply IsS116.drew | apply IsS116.set_0 | apply IsS116.set_1 | apply IsS116.set_2 | apply IsS116.set_3 | (apply IsS116.far; (case hne => exact NB0_115.out)) | (apply IsS116.far; (case hne => exact NB0_116.out))) | exact HI0.out)⟩
              have n4_ : Aside0 (KeepBut w (w31.setCell ⟨gb116, 2, none⟩ (.slice Ao32 t124.length co32)) g none) := ⟨by repeat (first | (with_reducible first | exact HK.out | apply KeepBut.set_ | apply keep_drewN | apply keep_drew | apply keep_alloc | refine keep_far ?_ GW115.out _ | refine keep_far ?_ GW116.out _) | exact HK.out)⟩
              have n5_ : Aside0 (Below w0.heap.size w0 (w31.setCell ⟨gb116, 2, none⟩ (.slice Ao32 t124.length co32))) := ⟨by repeat (first | (with_reducible first | exact HB.out | apply below_alloc | apply pw_below_drewN | apply below_drew1 | refine below_set ?_ (IsS116.ge HI0.out) | refine below_set ?_ GE115.out | refine below_set ?_ GE116.out) | exact HB.out)⟩
              (try clear HO126)
              (try clear BK115)
              (try clear BK116)
              (try clear HI0)
              (try clear HK)
              (try clear HB)
              generalize (w31.setCell ⟨gb116, 2, none⟩ (.slice Ao32 t124.length co32)) = w34 at n0_ n1_ n2_ n3_ n4_ n5_ ⊢
              have HO126 := n0_
              have BK115 := n1_
              have BK116 := n2_
              have HI0 := n3_
              have HK := n4_
              have HB := n5_
              clear n0_ n1_ n2_ n3_ n4_ n5_
              have n0_ := Aside0.mk (Kd.R_drew HO126.out)
              have n1_ := Aside0.mk (blk_drew BK115.out)
              have n2_ := Aside0.mk (blk_drew BK116.out)
              have n3_ := Aside0.mk (IsS116.drew HI0.out)
              have n4_ := Aside0.mk (keep_drew HK.out)
              have n5_ := Aside0.mk (below_drew1 HB.out)
              clear HO126
              clear BK115
              clear BK116
              clear HI0
              clear HK
              clear HB
              have HO126 := n0_
              have BK115 := n1_
              have BK116 := n2_
              have HI0 := n3_
              have HK := n4_
              have HB := n5_
              clear n0_ n1_ n2_ n3_ n4_ n5_
              refine start_ (n := 10) (S := fun w' => w'.cell? ⟨g, 0, none⟩ = some (.string t127) ∧ w'.cell? ⟨g, 1, none⟩ = some (.int .i64 t128) ∧ w'.cell? ⟨g, 2, none⟩ = some (.int .i64 t129) ∧ w'.cell? ⟨g, 3, none⟩ = some (.int .i64 t130)) (ds := []) #[false, false, false, false, false, false, false, false, false, false] (by kernel_rfl) rfl rfl ⟨(blk_cell (Aside0.mk HI0.out.1).out 0).trans rfl, (blk_cell (Aside0.mk HI0.out.1).out 1).trans rfl, (blk_cell (Aside0.mk HI0.out.1).out 2).trans rfl, (blk_cell (Aside0.mk HI0.out.1).out 3).trans rfl⟩ (fun hHeld => ?_); refine with_tabW tcl_parser_word.tab12 tcl_parser_word.bits12 (fun HT_ HW_ => ?_)
              generalize w34.drew = w35 at HO126 BK115 BK116 HI0 HK HB hHeld ⊢
              refine pure_ (i := 0) (N := some 43) (v := ?_) (a' := ?_) #[true, false, false, false, false, false, false, false, false, false] rfl rfl (any_of HT_.out (by kernel_rfl)) (fun _ _ _ h => h) (Or.inl ⟨by rfl, ?_⟩) ?_ ?_
              rotate_left
              · intro w'
                go_simp
                with_reducible rfl
              rotate_left
              · simp only [Act.put, List.setIfInBounds_toArray, List.set_cons_zero, List.set_cons_succ, i64_w, i32_w]
                rfl
              refine pure_ (i := 1) (N := some 44) (v := ?_) (a' := ?_) #[true, true, false, false, false, false, false, false, false, false] rfl rfl (any_of HT_.out (by kernel_rfl)) (fun _ _ _ h => h) (Or.inl ⟨by rfl, ?_⟩) ?_ ?_
              rotate_left
              · intro w'
                go_simp
                with_reducible rfl
              rotate_left
              · simp only [Act.put, List.setIfInBounds_toArray, List.set_cons_zero, List.set_cons_succ, i64_w, i32_w]
                rfl
              refine pure_ (i := 2) (N := some 45) (v := ?_) (a' := ?_) #[true, true, true, false, false, false, false, false, false, false] rfl rfl (any_of HT_.out (by kernel_rfl)) (fun _ _ _ h => h) (Or.inl ⟨by rfl, ?_⟩) ?_ ?_
              rotate_left
              · intro w'
                go_simp
                with_reducible rfl
              rotate_left
              · simp only [Act.put, List.setIfInBounds_toArray, List.set_cons_zero, List.set_cons_succ, i64_w, i32_w]
                rfl
              refine pure_ (i := 4) (N := some 47) (v := ?_) (a' := ?_) #[true, true, true, false, true, false, false, false, false, false] rfl rfl (any_of HT_.out (by kernel_rfl)) (fun _ _ _ h => h) (Or.inl ⟨by rfl, ?_⟩) ?_ ?_
              rotate_left
              · intro w'
                go_simp
                with_reducible rfl
              rotate_left
              · simp only [Act.put, List.setIfInBounds_toArray, List.set_cons_zero, List.set_cons_succ, i64_w, i32_w]
                rfl
              refine pure_ (i := 5) (N := some 48) (v := ?_) (a' := ?_) #[true, true, true, false, true, true, false, false, false, false] rfl rfl (any_of HT_.out (by kernel_rfl)) (fun _ _ _ h => h) (Or.inl ⟨by rfl, ?_⟩) ?_ ?_
              rotate_left
              · intro w'
                go_simp
                with_reducible rfl
              rotate_left
              · simp only [Act.put, List.setIfInBounds_toArray, List.set_cons_zero, List.set_cons_succ, i64_w, i32_w]
                rfl
              refine pure_ (i := 6) (N := some 49) (v := ?_) (a' := ?_) #[true, true, true, false, true, true, true, false, false, false] rfl rfl (any_of HT_.out (by kernel_rfl)) (fun _ _ _ h => h) (Or.inl ⟨by rfl, ?_⟩) ?_ ?_
              rotate_left
              · intro w'
                go_simp
                with_reducible rfl
              rotate_left
              · simp only [Act.put, List.setIfInBounds_toArray, List.set_cons_zero, List.set_cons_succ, i64_w, i32_w]
                rfl
              refine take_ (i := 3) (N := some 46) (v := ?_) (a' := ?_) #[true, true, true, true, true, true, true, false, false, false] rfl rfl (take_ofW HT_.out HW_.out (by kernel_rfl)) (fun _ _ _ h => h) (Or.inl ⟨by rfl, ?_⟩) hHeld ?_ ?_
              rotate_left
              · rintro w' ⟨s0, s1, s2, s3⟩
                go_simp
                with_reducible rfl
              rotate_left
              · simp only [Act.put, List.setIfInBounds_toArray, List.set_cons_zero, List.set_cons_succ, i64_w, i32_w]
                rfl
              refine take_ (i := 7) (N := some 50) (v := ?_) (a' := ?_) #[true, true, true, true, true, true, true, true, false, false] rfl rfl (take_ofW HT_.out HW_.out (by kernel_rfl)) (fun _ _ _ h => h) (Or.inl ⟨by rfl, ?_⟩) hHeld ?_ ?_
              rotate_left
              · rintro w' ⟨s0, s1, s2, s3⟩
                go_simp
                with_reducible rfl
              rotate_left
              · simp only [Act.put, List.setIfInBounds_toArray, List.set_cons_zero, List.set_cons_succ, i64_w, i32_w]
                rfl
              refine pure_ (i := 8) (N := some 51) (v := ?_) (a' := ?_) #[true, true, true, true, true, true, true, true, true, false] rfl rfl (any_of HT_.out (by kernel_rfl)) (fun _ _ _ h => h) (Or.inl ⟨by rfl, ?_⟩) ?_ ?_
              rotate_left
              · intro w'
                go_simp
                with_reducible rfl
              rotate_left
              · simp only [Act.put, List.setIfInBounds_toArray, List.set_cons_zero, List.set_cons_succ, i64_w, i32_w]
                rfl
              refine pure_ (i := 9) (N := some 52) (v := ?_) (a' := ?_) #[true, true, true, true, true, true, true, true, true, true] rfl rfl (any_of HT_.out (by kernel_rfl)) (fun _ _ _ h => h) (Or.inl ⟨by rfl, ?_⟩) ?_ ?_
              rotate_left
              · intro w'
                go_simp
                with_reducible rfl
              rotate_left
              · simp only [Act.put, List.setIfInBounds_toArray, List.set_cons_zero, List.set_cons_succ, i64_w, i32_w]
                rfl
              refine done_ (done_of HT_.out (by kernel_rfl)) ?_
              have hcz36_0 : w35.cell? ⟨gb116, 0, none⟩ = some (.int .i64 s0_1) := (blk_cell BK116.out 0).trans rfl
              have hcz36_1 : w35.cell? ⟨gb116, 1, none⟩ = some (.int .i64 1) := (blk_cell BK116.out 1).trans rfl
              have hcz36_2 : w35.cell? ⟨gb116, 2, none⟩ = some (.slice Ao32 t124.length co32) := (blk_cell BK116.out 2).trans rfl
              have hfz36_0 := blk_frozen BK116.out 0
              have hfz36_1 := blk_frozen BK116.out 1
              have hfz36_2 := blk_frozen BK116.out 2
              try go_wp2_with (first | ((with_reducible refine gate_callee (f := 103) rfl ?_); refine goesL_ (some 56) rfl rfl Try.func103 (by kernel_rfl) rfl #[.pointer (some ⟨g, 0, none⟩), .int .i64 s0_1, .int .i64 5] rfl (by (try simp only [List.map_toArray, List.map_cons, List.map_nil]); first | done | rfl | (simp only [List.length_drop, List.length_take]; rfl)) ?_; (with_reducible refine (tcl_parser_fail.calls g t127 t128 t129 t130 s0_1 5 t131 t132 t133 t134 w0 _ ?side1 ?side2 A25.out).mono ?_); (case side1 => repeat (first | (with_reducible first | exact HI0.out | apply IsS116.alloc | apply IsS116.drewN | apply IsS116.drew | apply IsS116.set_0 | apply IsS116.set_1 | apply IsS116.set_2 | apply IsS116.set_3 | (apply IsS116.far; (case hne => exact NB0_115.out)) | (apply IsS116.far; (case hne => exact NB0_116.out))) | exact HI0.out)); (case side2 => repeat (first | (with_reducible first | exact HB.out | apply below_alloc | apply pw_below_drewN | apply below_drew1 | refine below_set ?_ (IsS116.ge HI0.out) | refine below_set ?_ GE115.out | refine below_set ?_ GE116.out) | exact HB.out)); rintro e w37 ⟨rfl, hi, hb, hk⟩; refine ⟨_, rfl, ?_⟩; have n0_ := Aside0.mk (KeepBut.blk hk (g' := gb115) (o := .cells #[.int .i64 0, .int .i64 0, .slice none 0 0] 41 (0, 0)) (by (with_reducible repeat (first | refine blk_drewN ?_ _ | refine blk_drew ?_ | refine blk_alloc ?_ _)); exact BK115.out) NB115_0.out (by simp)); have n1_ := Aside0.mk (KeepBut.blk hk (g' := gb116) (o := .cells #[.int .i64 s0_1, .int .i64 1, .slice Ao32 t124.length co32] 41 (0, 0)) (by (with_reducible repeat (first | refine blk_drewN ?_ _ | refine blk_drew ?_ | refine blk_alloc ?_ _)); exact BK116.out) NB116_0.out (by simp)); have n2_ := Aside0.mk (Kd.R_mono (Kd.R_keep (IsS116.apart (show IsS116 w0 _ g t127 t128 t129 t130 from by repeat (first | (with_reducible first | exact HI0.out | apply IsS116.alloc | apply IsS116.drewN | apply IsS116.drew | apply IsS116.set_0 | apply IsS116.set_1 | apply IsS116.set_2 | apply IsS116.set_3 | (apply IsS116.far; (case hne => exact NB0_115.out)) | (apply IsS116.far; (case hne => exact NB0_116.out))) | exact HI0.out)) (by (with_reducible repeat (first | apply Kd.R_alloc | apply Kd.R_drewN | apply Kd.R_drew)); exact HO126.out) (by decide)) hk (fun _ h => h.2)) (fun _ h => h.1)); have n3_ := Aside0.mk (KeepBut.trans (by repeat (first | (with_reducible first | exact HK.out | apply KeepBut.set_ | apply keep_drewN | apply keep_drew | apply keep_alloc | refine keep_far ?_ GW115.out _ | refine keep_far ?_ GW116.out _) | exact HK.out)) hk (.inl rfl)); have n4_ := Aside0.mk (hb); have n5_ := Aside0.mk (hi); clear BK115; clear BK116; clear HO126; clear HK; clear HB; clear HI0; have BK115 := n0_; have BK116 := n1_; have HO126 := n2_; have HK := n3_; have HB := n4_; have HI0 := n5_; clear n0_ n1_ n2_ n3_ n4_ n5_; (try clear hb); (try clear hb2); (try clear hk); (try clear hi)))
              have n0_ := Aside0.mk (Kd.R_drew HO126.out)
              have n1_ := Aside0.mk (blk_drew BK115.out)
              have n2_ := Aside0.mk (blk_drew BK116.out)
              have n3_ := Aside0.mk (IsS116.drew HI0.out)
              have n4_ := Aside0.mk (keep_drew HK.out)
              have n5_ := Aside0.mk (below_drew1 HB.out)
              clear HO126
              clear BK115
              clear BK116
              clear HI0
              clear HK
              clear HB
              have HO126 := n0_
              have BK115 := n1_
              have BK116 := n2_
              have HI0 := n3_
              have HK := n4_
              have HB := n5_
              clear n0_ n1_ n2_ n3_ n4_ n5_
              refine start_ (n := 15) (S := fun w' => w'.cell? ⟨g, 0, none⟩ = some (.string t131) ∧ w'.cell? ⟨g, 1, none⟩ = some (.int .i64 t132) ∧ w'.cell? ⟨g, 2, none⟩ = some (.int .i64 t133) ∧ w'.cell? ⟨g, 3, none⟩ = some (.int .i64 t134)) (ds := [14]) #[false, false, false, false, false, false, false, false, false, false, false, false, false, false, false] (by kernel_rfl) rfl rfl ⟨(blk_cell (Aside0.mk HI0.out.1).out 0).trans rfl, (blk_cell (Aside0.mk HI0.out.1).out 1).trans rfl, (blk_cell (Aside0.mk HI0.out.1).out 2).trans rfl, (blk_cell (Aside0.mk HI0.out.1).out 3).trans rfl⟩ (fun hHeld => ?_); refine with_tabW tcl_parser_word.tab14 tcl_parser_word.bits14 (fun HT_ HW_ => ?_)
              generalize w37.drew = w38 at HO126 BK115 BK116 HI0 HK HB hHeld ⊢
              refine pure_ (i := 0) (N := some 57) (v := ?_) (a' := ?_) #[true, false, false, false, false, false, false, false, false, false, false, false, false, false, false] rfl rfl (any_of HT_.out (by kernel_rfl)) (fun _ _ _ h => h) (Or.inl ⟨by rfl, ?_⟩) ?_ ?_
              rotate_left
              · intro w'
                go_simp
                with_reducible rfl
              rotate_left
              · simp only [Act.put, List.setIfInBounds_toArray, List.set_cons_zero, List.set_cons_succ, i64_w, i32_w]
                rfl
              refine pure_ (i := 1) (N := some 58) (v := ?_) (a' := ?_) #[true, true, false, false, false, false, false, false, false, false, false, false, false, false, false] rfl rfl (any_of HT_.out (by kernel_rfl)) (fun _ _ _ h => h) (Or.inl ⟨by rfl, ?_⟩) ?_ ?_
              rotate_left
              · intro w'
                go_simp
                with_reducible rfl
              rotate_left
              · simp only [Act.put, List.setIfInBounds_toArray, List.set_cons_zero, List.set_cons_succ, i64_w, i32_w]
                rfl
              refine pure_ (i := 2) (N := some 59) (v := ?_) (a' := ?_) #[true, true, true, false, false, false, false, false, false, false, false, false, false, false, false] rfl rfl (any_of HT_.out (by kernel_rfl)) (fun _ _ _ h => h) (Or.inl ⟨by rfl, ?_⟩) ?_ ?_
              rotate_left
              · intro w'
                go_simp
                with_reducible rfl
              rotate_left
              · simp only [Act.put, List.setIfInBounds_toArray, List.set_cons_zero, List.set_cons_succ, i64_w, i32_w]
                rfl
              refine pure_ (i := 3) (N := some 60) (v := ?_) (a' := ?_) #[true, true, true, true, false, false, false, false, false, false, false, false, false, false, false] rfl rfl (any_of HT_.out (by kernel_rfl)) (fun _ _ _ h => h) (Or.inl ⟨by rfl, ?_⟩) ?_ ?_
              rotate_left
              · intro w'
                go_simp
                with_reducible rfl
              rotate_left
              · simp only [Act.put, List.setIfInBounds_toArray, List.set_cons_zero, List.set_cons_succ, i64_w, i32_w]
                rfl
              refine pure_ (i := 6) (N := some 63) (v := ?_) (a' := ?_) #[true, true, true, true, false, false, true, false, false, false, false, false, false, false, false] rfl rfl (any_of HT_.out (by kernel_rfl)) (fun _ _ _ h => h) (Or.inl ⟨by rfl, ?_⟩) ?_ ?_
              rotate_left
              · intro w'
                go_simp
                with_reducible rfl
              rotate_left
              · simp only [Act.put, List.setIfInBounds_toArray, List.set_cons_zero, List.set_cons_succ, i64_w, i32_w]
                rfl
              refine pure_ (i := 7) (N := some 64) (v := ?_) (a' := ?_) #[true, true, true, true, false, false, true, true, false, false, false, false, false, false, false] rfl rfl (any_of HT_.out (by kernel_rfl)) (fun _ _ _ h => h) (Or.inl ⟨by rfl, ?_⟩) ?_ ?_
              rotate_left
              · intro w'
                go_simp
                with_reducible rfl
              rotate_left
              · simp only [Act.put, List.setIfInBounds_toArray, List.set_cons_zero, List.set_cons_succ, i64_w, i32_w]
                rfl
              refine pure_ (i := 8) (N := some 65) (v := ?_) (a' := ?_) #[true, true, true, true, false, false, true, true, true, false, false, false, false, false, false] rfl rfl (any_of HT_.out (by kernel_rfl)) (fun _ _ _ h => h) (Or.inl ⟨by rfl, ?_⟩) ?_ ?_
              rotate_left
              · intro w'
                go_simp
                with_reducible rfl
              rotate_left
              · simp only [Act.put, List.setIfInBounds_toArray, List.set_cons_zero, List.set_cons_succ, i64_w, i32_w]
                rfl
              refine take_ (i := 4) (N := some 61) (v := ?_) (a' := ?_) #[true, true, true, true, true, false, true, true, true, false, false, false, false, false, false] rfl rfl (take_ofW HT_.out HW_.out (by kernel_rfl)) (fun _ _ _ h => h) (Or.inl ⟨by rfl, ?_⟩) hHeld ?_ ?_
              rotate_left
              · rintro w' ⟨s0, s1, s2, s3⟩
                go_simp
                with_reducible rfl
              rotate_left
              · simp only [Act.put, List.setIfInBounds_toArray, List.set_cons_zero, List.set_cons_succ, i64_w, i32_w]
                rfl
              refine pure_ (i := 5) (N := some 62) (v := ?_) (a' := ?_) #[true, true, true, true, true, true, true, true, true, false, false, false, false, false, false] rfl rfl (any_of HT_.out (by kernel_rfl)) (fun _ _ _ h => h) (Or.inl ⟨by rfl, ?_⟩) ?_ ?_
              rotate_left
              · intro w'
                go_simp
                with_reducible rfl
              rotate_left
              · simp only [Act.put, List.setIfInBounds_toArray, List.set_cons_zero, List.set_cons_succ, i64_w, i32_w]
                rfl
              refine take_ (i := 9) (N := some 66) (v := ?_) (a' := ?_) #[true, true, true, true, true, true, true, true, true, true, false, false, false, false, false] rfl rfl (take_ofW HT_.out HW_.out (by kernel_rfl)) (fun _ _ _ h => h) (Or.inl ⟨by rfl, ?_⟩) hHeld ?_ ?_
              rotate_left
              · rintro w' ⟨s0, s1, s2, s3⟩
                go_simp
                with_reducible rfl
              rotate_left
              · simp only [Act.put, List.setIfInBounds_toArray, List.set_cons_zero, List.set_cons_succ, i64_w, i32_w]
                rfl
              refine pure_ (i := 10) (N := some 67) (v := ?_) (a' := ?_) #[true, true, true, true, true, true, true, true, true, true, true, false, false, false, false] rfl rfl (any_of HT_.out (by kernel_rfl)) (fun _ _ _ h => h) (Or.inl ⟨by rfl, ?_⟩) ?_ ?_
              rotate_left
              · intro w'
                go_simp
                with_reducible rfl
              rotate_left
              · simp only [Act.put, List.setIfInBounds_toArray, List.set_cons_zero, List.set_cons_succ, i64_w, i32_w]
                rfl
              refine pure_ (i := 11) (N := some 68) (v := ?_) (a' := ?_) #[true, true, true, true, true, true, true, true, true, true, true, true, false, false, false] rfl rfl (any_of HT_.out (by kernel_rfl)) (fun _ _ _ h => h) (Or.inl ⟨by rfl, ?_⟩) ?_ ?_
              rotate_left
              · intro w'
                go_simp
                with_reducible rfl
              rotate_left
              · simp only [Act.put, List.setIfInBounds_toArray, List.set_cons_zero, List.set_cons_succ, i64_w, i32_w]
                rfl
              refine pure_ (i := 12) (N := some 69) (v := ?_) (a' := ?_) #[true, true, true, true, true, true, true, true, true, true, true, true, true, false, false] rfl rfl (any_of HT_.out (by kernel_rfl)) (fun _ _ _ h => h) (Or.inl ⟨by rfl, ?_⟩) ?_ ?_
              rotate_left
              · intro w'
                go_simp
                with_reducible rfl
              rotate_left
              · simp only [Act.put, List.setIfInBounds_toArray, List.set_cons_zero, List.set_cons_succ, i64_w, i32_w]
                rfl
              refine pure_ (i := 13) (N := some 70) (v := ?_) (a' := ?_) #[true, true, true, true, true, true, true, true, true, true, true, true, true, true, false] rfl rfl (any_of HT_.out (by kernel_rfl)) (fun _ _ _ h => h) (Or.inl ⟨by rfl, ?_⟩) ?_ ?_
              rotate_left
              · intro w'
                go_simp
                with_reducible rfl
              rotate_left
              · simp only [Act.put, List.setIfInBounds_toArray, List.set_cons_zero, List.set_cons_succ, i64_w, i32_w]
                rfl
              refine last_ (i := 14) (N := none) #[true, true, true, true, true, true, true, true, true, true, true, true, true, true, true] rfl rfl (one_of HT_.out (by kernel_rfl)) (by decide) (fun K hK => ?_)
              have hs39 := cellS116_1 HI0.out.1
              have hfs39 := blk_frozen HI0.out.1 1
              refine skip_ (w1 := ?_) (by rfl) rfl ?_ ?_
              rotate_left
              · go_simp
                rfl
              refine hK.out _ _ ?_
              clear hK K
              refine done_ (done_of HT_.out (by kernel_rfl)) ?_
              try go_wp2
              go_meet
              case rel => exact ⟨_, (t131), (ji26), (t133), (t134), (0), (0), (1), (t124), (.slice Ao32 t124.length co32), H', ⟨by first | omega | exact Nat.le_refl _⟩, ⟨by (with_reducible repeat (first | apply Kd.R_alloc | apply Kd.R_drewN | apply Kd.R_drew)); exact Kd.R_mono (Kd.R_far (p := ⟨g, 1, none⟩) (IsS116.apart HI0.out HO126.out (by decide)) (fun _ hk => hk.2) (.int .i64 ji26)) (fun _ hk => trivial)⟩, ⟨by (with_reducible repeat (first | refine blk_drewN ?_ _ | refine blk_drew ?_ | refine blk_alloc ?_ _)); refine blk_far ?_ NB115_0.out _; (with_reducible repeat (first | refine blk_drewN ?_ _ | refine blk_drew ?_ | refine blk_alloc ?_ _)); exact BK115.out⟩, ⟨by (with_reducible repeat (first | refine blk_drewN ?_ _ | refine blk_drew ?_ | refine blk_alloc ?_ _)); refine blk_far ?_ NB116_0.out _; (with_reducible repeat (first | refine blk_drewN ?_ _ | refine blk_drew ?_ | refine blk_alloc ?_ _)); exact BK116.out⟩, ⟨by repeat (first | (with_reducible first | exact HI0.out | apply IsS116.alloc | apply IsS116.drewN | apply IsS116.drew | apply IsS116.set_0 | apply IsS116.set_1 | apply IsS116.set_2 | apply IsS116.set_3 | (apply IsS116.far; (case hne => exact NB0_115.out)) | (apply IsS116.far; (case hne => exact NB0_116.out))) | exact HI0.out)⟩, ⟨by repeat (first | (with_reducible first | exact HK.out | apply KeepBut.set_ | apply keep_drewN | apply keep_drew | apply keep_alloc | refine keep_far ?_ GW115.out _ | refine keep_far ?_ GW116.out _) | exact HK.out)⟩, ⟨by repeat (first | (with_reducible first | exact HB.out | apply below_alloc | apply pw_below_drewN | apply below_drew1 | refine below_set ?_ (IsS116.ge HI0.out) | refine below_set ?_ GE115.out | refine below_set ?_ GE116.out) | exact HB.out)⟩⟩
            · rw [if_neg c24] at H
              have c24b0 : (t128 == (t127.size : Int)) = false := beq_eq_false_iff_ne.mpr c24
              have c24b1 : (t128 != (t127.size : Int)) = true := bne_iff_ne.mpr c24
              obtain ⟨ji40, hji40⟩ : ∃ j_ : Int, (mn (wrap64 (t128 + 1)) (t127.size : Int)) = j_ := ⟨_, rfl⟩
              replace H : (tcl_parser_word.j0 k t127 ji40 t129 t130 s0_1 1 t124) = some (r1, r2, r3, r4, r5, r6, r7) := by first | (rw [hji40] at H; exact H) | (simp only [hji40] at H ⊢; exact H)
              (try rw [hji40] at A23)
              have hji40_ : (if (t127.size : Int) < (wrap64 (t128 + 1)) then (t127.size : Int) else (wrap64 (t128 + 1))) = ji40 := hji40
              have H' := Aside0.mk H
              clear H
              have hnb41 := NB116_115.out
              have hnc41 := NB115_116.out
              have hnb42 := NB116_0.out
              have hnc42 := NB0_116.out
              have hcz43_0 : w13.cell? ⟨gb116, 0, none⟩ = some (.int .i64 s0_1) := (blk_cell BK116.out 0).trans rfl
              have hcz43_1 : w13.cell? ⟨gb116, 1, none⟩ = some (.int .i64 0) := (blk_cell BK116.out 1).trans rfl
              have hcz43_2 : w13.cell? ⟨gb116, 2, none⟩ = some (.slice none 0 0) := (blk_cell BK116.out 2).trans rfl
              have hfz43_0 := blk_frozen BK116.out 0
              have hfz43_1 := blk_frozen BK116.out 1
              have hfz43_2 := blk_frozen BK116.out 2
              obtain ⟨HGz44, hgz44⟩ := HI0.out
              have hcz44_0 := cellS116_0 HGz44
              have hcz44_1 := cellS116_1 HGz44
              have hcz44_2 := cellS116_2 HGz44
              have hcz44_3 := cellS116_3 HGz44
              have hfz44_0 := blk_frozen HGz44 0
              have hfz44_1 := blk_frozen HGz44 1
              have hfz44_2 := blk_frozen HGz44 2
              have hfz44_3 := blk_frozen HGz44 3
              clear HGz44 hgz44
              try go_wp2_with (first | ((with_reducible refine gate_callee (f := 102) rfl ?_); refine goesL_ (some 41) rfl rfl Try.func102 (by kernel_rfl) rfl #[.pointer (some ⟨g, 0, none⟩), .string (⟨#[34]⟩ : ByteArray), .int .i64 s0_1] rfl (by (try simp only [List.map_toArray, List.map_cons, List.map_nil]); first | done | rfl | (simp only [List.length_drop, List.length_take]; rfl)) ?_; (with_reducible refine (tcl_parser_parts.calls g s0_0 (wrap64 (s0_1 + 1)) s0_2 s0_3 (⟨#[34]⟩ : ByteArray) s0_1 t124 t127 t128 t129 t130 w0 _ ?side1 ?side2 A23.out).mono ?_); (case side1 => repeat (first | (with_reducible first | exact HI0.out | apply IsS116.alloc | apply IsS116.drewN | apply IsS116.drew | apply IsS116.set_0 | apply IsS116.set_1 | apply IsS116.set_2 | apply IsS116.set_3 | (apply IsS116.far; (case hne => exact NB0_115.out)) | (apply IsS116.far; (case hne => exact NB0_116.out))) | exact HI0.out)); (case side2 => repeat (first | (with_reducible first | exact HB.out | apply below_alloc | apply pw_below_drewN | apply below_drew1 | refine below_set ?_ (IsS116.ge HI0.out) | refine below_set ?_ GE115.out | refine below_set ?_ GE116.out) | exact HB.out)); rintro e w45 ⟨v125, rfl, ho0, hi, hb, hk⟩; refine ⟨_, rfl, ?_⟩; have n0_ := Aside0.mk (KeepBut.blk hk (g' := gb115) (o := .cells #[.int .i64 0, .int .i64 0, .slice none 0 0] 41 (0, 0)) (by (with_reducible repeat (first | refine blk_drewN ?_ _ | refine blk_drew ?_ | refine blk_alloc ?_ _)); refine blk_far ?_ NB115_0.out _; (with_reducible repeat (first | refine blk_drewN ?_ _ | refine blk_drew ?_ | refine blk_alloc ?_ _)); refine blk_far ?_ NB115_116.out _; (with_reducible repeat (first | refine blk_drewN ?_ _ | refine blk_drew ?_ | refine blk_alloc ?_ _)); exact BK115.out) NB115_0.out (by simp)); have n1_ := Aside0.mk (KeepBut.blk hk (g' := gb116) (o := .cells #[.int .i64 s0_1, .int .i64 1, .slice none 0 0] 41 (0, 0)) (by (with_reducible repeat (first | refine blk_drewN ?_ _ | refine blk_drew ?_ | refine blk_alloc ?_ _)); refine blk_far ?_ NB116_0.out _; (with_reducible repeat (first | refine blk_drewN ?_ _ | refine blk_drew ?_ | refine blk_alloc ?_ _)); refine blk_put (cs := #[.int .i64 s0_1, .int .i64 0, .slice none 0 0]) ?_ 1 _ rfl; (with_reducible repeat (first | refine blk_drewN ?_ _ | refine blk_drew ?_ | refine blk_alloc ?_ _)); exact BK116.out) NB116_0.out (by simp)); have n2_ := Aside0.mk (Kd.R_lower ho0 (keep_size (w := w) (g := g) (row := none) (by repeat (first | (with_reducible first | exact HK.out | apply KeepBut.set_ | apply keep_drewN | apply keep_drew | apply keep_alloc | refine keep_far ?_ GW115.out _ | refine keep_far ?_ GW116.out _) | exact HK.out)))); have n3_ := Aside0.mk (KeepBut.trans (by repeat (first | (with_reducible first | exact HK.out | apply KeepBut.set_ | apply keep_drewN | apply keep_drew | apply keep_alloc | refine keep_far ?_ GW115.out _ | refine keep_far ?_ GW116.out _) | exact HK.out)) hk (.inl rfl)); have n4_ := Aside0.mk (hb); have n5_ := Aside0.mk (hi); clear BK115; clear BK116; clear HK; clear HB; clear HI0; have BK115 := n0_; have BK116 := n1_; have HO126 := n2_; have HK := n3_; have HB := n4_; have HI0 := n5_; clear n0_ n1_ n2_ n3_ n4_ n5_; (try clear hb); (try clear hb2); (try clear hk); (try clear hi); (try clear ho0); obtain ⟨Ao46, co46, eo46⟩ := Kd.R_slice HO126.out; subst eo46; have hcz47_0 : w45.cell? ⟨gb116, 0, none⟩ = some (.int .i64 s0_1) := (blk_cell BK116.out 0).trans rfl; have hcz47_1 : w45.cell? ⟨gb116, 1, none⟩ = some (.int .i64 1) := (blk_cell BK116.out 1).trans rfl; have hcz47_2 : w45.cell? ⟨gb116, 2, none⟩ = some (.slice none 0 0) := (blk_cell BK116.out 2).trans rfl; have hfz47_0 := blk_frozen BK116.out 0; have hfz47_1 := blk_frozen BK116.out 1; have hfz47_2 := blk_frozen BK116.out 2))
              have n0_ : Aside0 (Kd.R k43 43 (w45.setCell ⟨gb116, 2, none⟩ (.slice Ao46 t124.length co46)) w.heap.size (fun _ => True) (.slice Ao46 t124.length co46) t124) := ⟨by (with_reducible repeat (first | apply Kd.R_alloc | apply Kd.R_drewN | apply Kd.R_drew)); exact Kd.R_mono (Kd.R_far (p := ⟨gb116, 2, none⟩) (Kd.R_types HO126.out BK116.out (by decide)) (fun _ hk => hk.2) (.slice Ao46 t124.length co46)) (fun _ hk => trivial)⟩
              have n1_ : Aside0 ((w45.setCell ⟨gb116, 2, none⟩ (.slice Ao46 t124.length co46)).heap[gb115]? = some (.cells #[.int .i64 0, .int .i64 0, .slice none 0 0] 41 (0, 0))) := ⟨by (with_reducible repeat (first | refine blk_drewN ?_ _ | refine blk_drew ?_ | refine blk_alloc ?_ _)); refine blk_far ?_ NB115_116.out _; (with_reducible repeat (first | refine blk_drewN ?_ _ | refine blk_drew ?_ | refine blk_alloc ?_ _)); exact BK115.out⟩
              have n2_ : Aside0 ((w45.setCell ⟨gb116, 2, none⟩ (.slice Ao46 t124.length co46)).heap[gb116]? = some (.cells #[.int .i64 s0_1, .int .i64 1, .slice Ao46 t124.length co46] 41 (0, 0))) := ⟨by (with_reducible repeat (first | refine blk_drewN ?_ _ | refine blk_drew ?_ | refine blk_alloc ?_ _)); refine blk_put (cs := #[.int .i64 s0_1, .int .i64 1, .slice none 0 0]) ?_ 2 _ rfl; (with_reducible repeat (first | refine blk_drewN ?_ _ | refine blk_drew ?_ | refine blk_alloc ?_ _)); exact BK116.out⟩
              have n3_ : Aside0 (IsS116 w0 (w45.setCell ⟨gb116, 2, none⟩ (.slice Ao46 t124.length co46)) g t127 t128 t129 t130) := ⟨by repeat (first | (with_reducible first | exact HI0.out | apply IsS116.alloc | apply IsS116.drewN | apply IsS116.drew | apply IsS116.set_0 | apply IsS116.set_1 | apply IsS116.set_2 | apply IsS116.set_3 | (apply IsS116.far; (case hne => exact NB0_115.out)) | (apply IsS116.far; (case hne => exact NB0_116.out))) | exact HI0.out)⟩
              have n4_ : Aside0 (KeepBut w (w45.setCell ⟨gb116, 2, none⟩ (.slice Ao46 t124.length co46)) g none) := ⟨by repeat (first | (with_reducible first | exact HK.out | apply KeepBut.set_ | apply keep_drewN | apply keep_drew | apply keep_alloc | refine keep_far ?_ GW115.out _ | refine keep_far ?_ GW116.out _) | exact HK.out)⟩
              have n5_ : Aside0 (Below w0.heap.size w0 (w45.setCell ⟨gb116, 2, none⟩ (.slice Ao46 t124.length co46))) := ⟨by repeat (first | (with_reducible first | exact HB.out | apply below_alloc | apply pw_below_drewN | apply below_drew1 | refine below_set ?_ (IsS116.ge HI0.out) | refine below_set ?_ GE115.out | refine below_set ?_ GE116.out) | exact HB.out)⟩
              (try clear HO126)
              (try clear BK115)
              (try clear BK116)
              (try clear HI0)
              (try clear HK)
              (try clear HB)
              generalize (w45.setCell ⟨gb116, 2, none⟩ (.slice Ao46 t124.length co46)) = w48 at n0_ n1_ n2_ n3_ n4_ n5_ ⊢
              have HO126 := n0_
              have BK115 := n1_
              have BK116 := n2_
              have HI0 := n3_
              have HK := n4_
              have HB := n5_
              clear n0_ n1_ n2_ n3_ n4_ n5_
              have n0_ := Aside0.mk (Kd.R_drew HO126.out)
              have n1_ := Aside0.mk (blk_drew BK115.out)
              have n2_ := Aside0.mk (blk_drew BK116.out)
              have n3_ := Aside0.mk (IsS116.drew HI0.out)
              have n4_ := Aside0.mk (keep_drew HK.out)
              have n5_ := Aside0.mk (below_drew1 HB.out)
              clear HO126
              clear BK115
              clear BK116
              clear HI0
              clear HK
              clear HB
              have HO126 := n0_
              have BK115 := n1_
              have BK116 := n2_
              have HI0 := n3_
              have HK := n4_
              have HB := n5_
              clear n0_ n1_ n2_ n3_ n4_ n5_
              refine start_ (n := 10) (S := fun w' => w'.cell? ⟨g, 0, none⟩ = some (.string t127) ∧ w'.cell? ⟨g, 1, none⟩ = some (.int .i64 t128) ∧ w'.cell? ⟨g, 2, none⟩ = some (.int .i64 t129) ∧ w'.cell? ⟨g, 3, none⟩ = some (.int .i64 t130)) (ds := []) #[false, false, false, false, false, false, false, false, false, false] (by kernel_rfl) rfl rfl ⟨(blk_cell (Aside0.mk HI0.out.1).out 0).trans rfl, (blk_cell (Aside0.mk HI0.out.1).out 1).trans rfl, (blk_cell (Aside0.mk HI0.out.1).out 2).trans rfl, (blk_cell (Aside0.mk HI0.out.1).out 3).trans rfl⟩ (fun hHeld => ?_); refine with_tabW tcl_parser_word.tab12 tcl_parser_word.bits12 (fun HT_ HW_ => ?_)
              generalize w48.drew = w49 at HO126 BK115 BK116 HI0 HK HB hHeld ⊢
              refine pure_ (i := 0) (N := some 43) (v := ?_) (a' := ?_) #[true, false, false, false, false, false, false, false, false, false] rfl rfl (any_of HT_.out (by kernel_rfl)) (fun _ _ _ h => h) (Or.inl ⟨by rfl, ?_⟩) ?_ ?_
              rotate_left
              · intro w'
                go_simp
                with_reducible rfl
              rotate_left
              · simp only [Act.put, List.setIfInBounds_toArray, List.set_cons_zero, List.set_cons_succ, i64_w, i32_w]
                rfl
              refine pure_ (i := 1) (N := some 44) (v := ?_) (a' := ?_) #[true, true, false, false, false, false, false, false, false, false] rfl rfl (any_of HT_.out (by kernel_rfl)) (fun _ _ _ h => h) (Or.inl ⟨by rfl, ?_⟩) ?_ ?_
              rotate_left
              · intro w'
                go_simp
                with_reducible rfl
              rotate_left
              · simp only [Act.put, List.setIfInBounds_toArray, List.set_cons_zero, List.set_cons_succ, i64_w, i32_w]
                rfl
              refine pure_ (i := 2) (N := some 45) (v := ?_) (a' := ?_) #[true, true, true, false, false, false, false, false, false, false] rfl rfl (any_of HT_.out (by kernel_rfl)) (fun _ _ _ h => h) (Or.inl ⟨by rfl, ?_⟩) ?_ ?_
              rotate_left
              · intro w'
                go_simp
                with_reducible rfl
              rotate_left
              · simp only [Act.put, List.setIfInBounds_toArray, List.set_cons_zero, List.set_cons_succ, i64_w, i32_w]
                rfl
              refine pure_ (i := 4) (N := some 47) (v := ?_) (a' := ?_) #[true, true, true, false, true, false, false, false, false, false] rfl rfl (any_of HT_.out (by kernel_rfl)) (fun _ _ _ h => h) (Or.inl ⟨by rfl, ?_⟩) ?_ ?_
              rotate_left
              · intro w'
                go_simp
                with_reducible rfl
              rotate_left
              · simp only [Act.put, List.setIfInBounds_toArray, List.set_cons_zero, List.set_cons_succ, i64_w, i32_w]
                rfl
              refine pure_ (i := 5) (N := some 48) (v := ?_) (a' := ?_) #[true, true, true, false, true, true, false, false, false, false] rfl rfl (any_of HT_.out (by kernel_rfl)) (fun _ _ _ h => h) (Or.inl ⟨by rfl, ?_⟩) ?_ ?_
              rotate_left
              · intro w'
                go_simp
                with_reducible rfl
              rotate_left
              · simp only [Act.put, List.setIfInBounds_toArray, List.set_cons_zero, List.set_cons_succ, i64_w, i32_w]
                rfl
              refine pure_ (i := 6) (N := some 49) (v := ?_) (a' := ?_) #[true, true, true, false, true, true, true, false, false, false] rfl rfl (any_of HT_.out (by kernel_rfl)) (fun _ _ _ h => h) (Or.inl ⟨by rfl, ?_⟩) ?_ ?_
              rotate_left
              · intro w'
                go_simp
                with_reducible rfl
              rotate_left
              · simp only [Act.put, List.setIfInBounds_toArray, List.set_cons_zero, List.set_cons_succ, i64_w, i32_w]
                rfl
              refine take_ (i := 3) (N := some 46) (v := ?_) (a' := ?_) #[true, true, true, true, true, true, true, false, false, false] rfl rfl (take_ofW HT_.out HW_.out (by kernel_rfl)) (fun _ _ _ h => h) (Or.inl ⟨by rfl, ?_⟩) hHeld ?_ ?_
              rotate_left
              · rintro w' ⟨s0, s1, s2, s3⟩
                go_simp
                with_reducible rfl
              rotate_left
              · simp only [Act.put, List.setIfInBounds_toArray, List.set_cons_zero, List.set_cons_succ, i64_w, i32_w]
                rfl
              refine take_ (i := 7) (N := some 50) (v := ?_) (a' := ?_) #[true, true, true, true, true, true, true, true, false, false] rfl rfl (take_ofW HT_.out HW_.out (by kernel_rfl)) (fun _ _ _ h => h) (Or.inl ⟨by rfl, ?_⟩) hHeld ?_ ?_
              rotate_left
              · rintro w' ⟨s0, s1, s2, s3⟩
                go_simp
                with_reducible rfl
              rotate_left
              · simp only [Act.put, List.setIfInBounds_toArray, List.set_cons_zero, List.set_cons_succ, i64_w, i32_w]
                rfl
              refine pure_ (i := 8) (N := some 51) (v := ?_) (a' := ?_) #[true, true, true, true, true, true, true, true, true, false] rfl rfl (any_of HT_.out (by kernel_rfl)) (fun _ _ _ h => h) (Or.inl ⟨by rfl, ?_⟩) ?_ ?_
              rotate_left
              · intro w'
                go_simp
                with_reducible rfl
              rotate_left
              · simp only [Act.put, List.setIfInBounds_toArray, List.set_cons_zero, List.set_cons_succ, i64_w, i32_w]
                rfl
              refine pure_ (i := 9) (N := some 52) (v := ?_) (a' := ?_) #[true, true, true, true, true, true, true, true, true, true] rfl rfl (any_of HT_.out (by kernel_rfl)) (fun _ _ _ h => h) (Or.inl ⟨by rfl, ?_⟩) ?_ ?_
              rotate_left
              · intro w'
                go_simp
                with_reducible rfl
              rotate_left
              · simp only [Act.put, List.setIfInBounds_toArray, List.set_cons_zero, List.set_cons_succ, i64_w, i32_w]
                rfl
              refine done_ (done_of HT_.out (by kernel_rfl)) ?_
              try go_wp2
              have n0_ := Aside0.mk (Kd.R_drew HO126.out)
              have n1_ := Aside0.mk (blk_drew BK115.out)
              have n2_ := Aside0.mk (blk_drew BK116.out)
              have n3_ := Aside0.mk (IsS116.drew HI0.out)
              have n4_ := Aside0.mk (keep_drew HK.out)
              have n5_ := Aside0.mk (below_drew1 HB.out)
              clear HO126
              clear BK115
              clear BK116
              clear HI0
              clear HK
              clear HB
              have HO126 := n0_
              have BK115 := n1_
              have BK116 := n2_
              have HI0 := n3_
              have HK := n4_
              have HB := n5_
              clear n0_ n1_ n2_ n3_ n4_ n5_
              refine start_ (n := 15) (S := fun w' => w'.cell? ⟨g, 0, none⟩ = some (.string t127) ∧ w'.cell? ⟨g, 1, none⟩ = some (.int .i64 t128) ∧ w'.cell? ⟨g, 2, none⟩ = some (.int .i64 t129) ∧ w'.cell? ⟨g, 3, none⟩ = some (.int .i64 t130)) (ds := [14]) #[false, false, false, false, false, false, false, false, false, false, false, false, false, false, false] (by kernel_rfl) rfl rfl ⟨(blk_cell (Aside0.mk HI0.out.1).out 0).trans rfl, (blk_cell (Aside0.mk HI0.out.1).out 1).trans rfl, (blk_cell (Aside0.mk HI0.out.1).out 2).trans rfl, (blk_cell (Aside0.mk HI0.out.1).out 3).trans rfl⟩ (fun hHeld => ?_); refine with_tabW tcl_parser_word.tab14 tcl_parser_word.bits14 (fun HT_ HW_ => ?_)
              generalize w49.drew = w50 at HO126 BK115 BK116 HI0 HK HB hHeld ⊢
              refine pure_ (i := 0) (N := some 57) (v := ?_) (a' := ?_) #[true, false, false, false, false, false, false, false, false, false, false, false, false, false, false] rfl rfl (any_of HT_.out (by kernel_rfl)) (fun _ _ _ h => h) (Or.inl ⟨by rfl, ?_⟩) ?_ ?_
              rotate_left
              · intro w'
                go_simp
                with_reducible rfl
              rotate_left
              · simp only [Act.put, List.setIfInBounds_toArray, List.set_cons_zero, List.set_cons_succ, i64_w, i32_w]
                rfl
              refine pure_ (i := 1) (N := some 58) (v := ?_) (a' := ?_) #[true, true, false, false, false, false, false, false, false, false, false, false, false, false, false] rfl rfl (any_of HT_.out (by kernel_rfl)) (fun _ _ _ h => h) (Or.inl ⟨by rfl, ?_⟩) ?_ ?_
              rotate_left
              · intro w'
                go_simp
                with_reducible rfl
              rotate_left
              · simp only [Act.put, List.setIfInBounds_toArray, List.set_cons_zero, List.set_cons_succ, i64_w, i32_w]
                rfl
              refine pure_ (i := 2) (N := some 59) (v := ?_) (a' := ?_) #[true, true, true, false, false, false, false, false, false, false, false, false, false, false, false] rfl rfl (any_of HT_.out (by kernel_rfl)) (fun _ _ _ h => h) (Or.inl ⟨by rfl, ?_⟩) ?_ ?_
              rotate_left
              · intro w'
                go_simp
                with_reducible rfl
              rotate_left
              · simp only [Act.put, List.setIfInBounds_toArray, List.set_cons_zero, List.set_cons_succ, i64_w, i32_w]
                rfl
              refine pure_ (i := 3) (N := some 60) (v := ?_) (a' := ?_) #[true, true, true, true, false, false, false, false, false, false, false, false, false, false, false] rfl rfl (any_of HT_.out (by kernel_rfl)) (fun _ _ _ h => h) (Or.inl ⟨by rfl, ?_⟩) ?_ ?_
              rotate_left
              · intro w'
                go_simp
                with_reducible rfl
              rotate_left
              · simp only [Act.put, List.setIfInBounds_toArray, List.set_cons_zero, List.set_cons_succ, i64_w, i32_w]
                rfl
              refine pure_ (i := 6) (N := some 63) (v := ?_) (a' := ?_) #[true, true, true, true, false, false, true, false, false, false, false, false, false, false, false] rfl rfl (any_of HT_.out (by kernel_rfl)) (fun _ _ _ h => h) (Or.inl ⟨by rfl, ?_⟩) ?_ ?_
              rotate_left
              · intro w'
                go_simp
                with_reducible rfl
              rotate_left
              · simp only [Act.put, List.setIfInBounds_toArray, List.set_cons_zero, List.set_cons_succ, i64_w, i32_w]
                rfl
              refine pure_ (i := 7) (N := some 64) (v := ?_) (a' := ?_) #[true, true, true, true, false, false, true, true, false, false, false, false, false, false, false] rfl rfl (any_of HT_.out (by kernel_rfl)) (fun _ _ _ h => h) (Or.inl ⟨by rfl, ?_⟩) ?_ ?_
              rotate_left
              · intro w'
                go_simp
                with_reducible rfl
              rotate_left
              · simp only [Act.put, List.setIfInBounds_toArray, List.set_cons_zero, List.set_cons_succ, i64_w, i32_w]
                rfl
              refine pure_ (i := 8) (N := some 65) (v := ?_) (a' := ?_) #[true, true, true, true, false, false, true, true, true, false, false, false, false, false, false] rfl rfl (any_of HT_.out (by kernel_rfl)) (fun _ _ _ h => h) (Or.inl ⟨by rfl, ?_⟩) ?_ ?_
              rotate_left
              · intro w'
                go_simp
                with_reducible rfl
              rotate_left
              · simp only [Act.put, List.setIfInBounds_toArray, List.set_cons_zero, List.set_cons_succ, i64_w, i32_w]
                rfl
              refine take_ (i := 4) (N := some 61) (v := ?_) (a' := ?_) #[true, true, true, true, true, false, true, true, true, false, false, false, false, false, false] rfl rfl (take_ofW HT_.out HW_.out (by kernel_rfl)) (fun _ _ _ h => h) (Or.inl ⟨by rfl, ?_⟩) hHeld ?_ ?_
              rotate_left
              · rintro w' ⟨s0, s1, s2, s3⟩
                go_simp
                with_reducible rfl
              rotate_left
              · simp only [Act.put, List.setIfInBounds_toArray, List.set_cons_zero, List.set_cons_succ, i64_w, i32_w]
                rfl
              refine pure_ (i := 5) (N := some 62) (v := ?_) (a' := ?_) #[true, true, true, true, true, true, true, true, true, false, false, false, false, false, false] rfl rfl (any_of HT_.out (by kernel_rfl)) (fun _ _ _ h => h) (Or.inl ⟨by rfl, ?_⟩) ?_ ?_
              rotate_left
              · intro w'
                go_simp
                with_reducible rfl
              rotate_left
              · simp only [Act.put, List.setIfInBounds_toArray, List.set_cons_zero, List.set_cons_succ, i64_w, i32_w]
                rfl
              refine take_ (i := 9) (N := some 66) (v := ?_) (a' := ?_) #[true, true, true, true, true, true, true, true, true, true, false, false, false, false, false] rfl rfl (take_ofW HT_.out HW_.out (by kernel_rfl)) (fun _ _ _ h => h) (Or.inl ⟨by rfl, ?_⟩) hHeld ?_ ?_
              rotate_left
              · rintro w' ⟨s0, s1, s2, s3⟩
                go_simp
                with_reducible rfl
              rotate_left
              · simp only [Act.put, List.setIfInBounds_toArray, List.set_cons_zero, List.set_cons_succ, i64_w, i32_w]
                rfl
              refine pure_ (i := 10) (N := some 67) (v := ?_) (a' := ?_) #[true, true, true, true, true, true, true, true, true, true, true, false, false, false, false] rfl rfl (any_of HT_.out (by kernel_rfl)) (fun _ _ _ h => h) (Or.inl ⟨by rfl, ?_⟩) ?_ ?_
              rotate_left
              · intro w'
                go_simp
                with_reducible rfl
              rotate_left
              · simp only [Act.put, List.setIfInBounds_toArray, List.set_cons_zero, List.set_cons_succ, i64_w, i32_w]
                rfl
              refine pure_ (i := 11) (N := some 68) (v := ?_) (a' := ?_) #[true, true, true, true, true, true, true, true, true, true, true, true, false, false, false] rfl rfl (any_of HT_.out (by kernel_rfl)) (fun _ _ _ h => h) (Or.inl ⟨by rfl, ?_⟩) ?_ ?_
              rotate_left
              · intro w'
                go_simp
                with_reducible rfl
              rotate_left
              · simp only [Act.put, List.setIfInBounds_toArray, List.set_cons_zero, List.set_cons_succ, i64_w, i32_w]
                rfl
              refine pure_ (i := 12) (N := some 69) (v := ?_) (a' := ?_) #[true, true, true, true, true, true, true, true, true, true, true, true, true, false, false] rfl rfl (any_of HT_.out (by kernel_rfl)) (fun _ _ _ h => h) (Or.inl ⟨by rfl, ?_⟩) ?_ ?_
              rotate_left
              · intro w'
                go_simp
                with_reducible rfl
              rotate_left
              · simp only [Act.put, List.setIfInBounds_toArray, List.set_cons_zero, List.set_cons_succ, i64_w, i32_w]
                rfl
              refine pure_ (i := 13) (N := some 70) (v := ?_) (a' := ?_) #[true, true, true, true, true, true, true, true, true, true, true, true, true, true, false] rfl rfl (any_of HT_.out (by kernel_rfl)) (fun _ _ _ h => h) (Or.inl ⟨by rfl, ?_⟩) ?_ ?_
              rotate_left
              · intro w'
                go_simp
                with_reducible rfl
              rotate_left
              · simp only [Act.put, List.setIfInBounds_toArray, List.set_cons_zero, List.set_cons_succ, i64_w, i32_w]
                rfl
              refine last_ (i := 14) (N := none) #[true, true, true, true, true, true, true, true, true, true, true, true, true, true, true] rfl rfl (one_of HT_.out (by kernel_rfl)) (by decide) (fun K hK => ?_)
              have hs51 := cellS116_1 HI0.out.1
              have hfs51 := blk_frozen HI0.out.1 1
              refine skip_ (w1 := ?_) (by rfl) rfl ?_ ?_
              rotate_left
              · go_simp
                rfl
              refine hK.out _ _ ?_
              clear hK K
              refine done_ (done_of HT_.out (by kernel_rfl)) ?_
              try go_wp2
              go_meet
              case rel => exact ⟨_, (t127), (ji40), (t129), (t130), (0), (0), (1), (t124), (.slice Ao46 t124.length co46), H', ⟨by first | omega | exact Nat.le_refl _⟩, ⟨by (with_reducible repeat (first | apply Kd.R_alloc | apply Kd.R_drewN | apply Kd.R_drew)); exact Kd.R_mono (Kd.R_far (p := ⟨g, 1, none⟩) (IsS116.apart HI0.out HO126.out (by decide)) (fun _ hk => hk.2) (.int .i64 ji40)) (fun _ hk => trivial)⟩, ⟨by (with_reducible repeat (first | refine blk_drewN ?_ _ | refine blk_drew ?_ | refine blk_alloc ?_ _)); refine blk_far ?_ NB115_0.out _; (with_reducible repeat (first | refine blk_drewN ?_ _ | refine blk_drew ?_ | refine blk_alloc ?_ _)); exact BK115.out⟩, ⟨by (with_reducible repeat (first | refine blk_drewN ?_ _ | refine blk_drew ?_ | refine blk_alloc ?_ _)); refine blk_far ?_ NB116_0.out _; (with_reducible repeat (first | refine blk_drewN ?_ _ | refine blk_drew ?_ | refine blk_alloc ?_ _)); exact BK116.out⟩, ⟨by repeat (first | (with_reducible first | exact HI0.out | apply IsS116.alloc | apply IsS116.drewN | apply IsS116.drew | apply IsS116.set_0 | apply IsS116.set_1 | apply IsS116.set_2 | apply IsS116.set_3 | (apply IsS116.far; (case hne => exact NB0_115.out)) | (apply IsS116.far; (case hne => exact NB0_116.out))) | exact HI0.out)⟩, ⟨by repeat (first | (with_reducible first | exact HK.out | apply KeepBut.set_ | apply keep_drewN | apply keep_drew | apply keep_alloc | refine keep_far ?_ GW115.out _ | refine keep_far ?_ GW116.out _) | exact HK.out)⟩, ⟨by repeat (first | (with_reducible first | exact HB.out | apply below_alloc | apply pw_below_drewN | apply below_drew1 | refine below_set ?_ (IsS116.ge HI0.out) | refine below_set ?_ GE115.out | refine below_set ?_ GE116.out) | exact HB.out)⟩⟩
          · rw [if_neg c22] at H
            have c22b0 : ((bt s0_0 s0_1) == 34) = false := beq_eq_false_iff_ne.mpr c22
            have c22b1 : ((bt s0_0 s0_1) != 34) = true := bne_iff_ne.mpr c22
            replace H := Option.bind_eq_some_iff.mp H
            obtain ⟨⟨t135, t138, t139, t140, t141⟩, A520, H⟩ := H
            replace H : (some (s0_1, 0, t135, t138, t139, t140, t141)) = some (r1, r2, r3, r4, r5, r6, r7) := H
            have A52 := Aside0.mk A520
            clear A520
            simp only [Option.some.injEq, Prod.mk.injEq] at H
            obtain ⟨rfl, rfl, rfl, rfl, rfl, rfl, rfl⟩ := H
            go_wp2_with (first | ((with_reducible refine gate_callee (f := 102) rfl ?_); refine goesL_ (some 19) rfl rfl Try.func102 (by kernel_rfl) rfl #[.pointer (some ⟨g, 0, none⟩), .string (⟨#[32, 9, 10, 59]⟩ : ByteArray), .int .i64 (-1)] rfl (by (try simp only [List.map_toArray, List.map_cons, List.map_nil]); first | done | rfl | (simp only [List.length_drop, List.length_take]; rfl)) ?_; (with_reducible refine (tcl_parser_parts.calls g s0_0 s0_1 s0_2 s0_3 (⟨#[32, 9, 10, 59]⟩ : ByteArray) (-1) t135 t138 t139 t140 t141 w0 _ ?side1 ?side2 A52.out).mono ?_); (case side1 => repeat (first | (with_reducible first | exact HI0.out | apply IsS116.alloc | apply IsS116.drewN | apply IsS116.drew | apply IsS116.set_0 | apply IsS116.set_1 | apply IsS116.set_2 | apply IsS116.set_3 | (apply IsS116.far; (case hne => exact NB0_115.out)) | (apply IsS116.far; (case hne => exact NB0_116.out))) | exact HI0.out)); (case side2 => repeat (first | (with_reducible first | exact HB.out | apply below_alloc | apply pw_below_drewN | apply below_drew1 | refine below_set ?_ (IsS116.ge HI0.out) | refine below_set ?_ GE115.out | refine below_set ?_ GE116.out) | exact HB.out)); rintro e w53 ⟨v136, rfl, ho0, hi, hb, hk⟩; refine ⟨_, rfl, ?_⟩; have n0_ := Aside0.mk (KeepBut.blk hk (g' := gb115) (o := .cells #[.int .i64 0, .int .i64 0, .slice none 0 0] 41 (0, 0)) (by (with_reducible repeat (first | refine blk_drewN ?_ _ | refine blk_drew ?_ | refine blk_alloc ?_ _)); exact BK115.out) NB115_0.out (by simp)); have n1_ := Aside0.mk (KeepBut.blk hk (g' := gb116) (o := .cells #[.int .i64 s0_1, .int .i64 0, .slice none 0 0] 41 (0, 0)) (by (with_reducible repeat (first | refine blk_drewN ?_ _ | refine blk_drew ?_ | refine blk_alloc ?_ _)); exact BK116.out) NB116_0.out (by simp)); have n2_ := Aside0.mk (Kd.R_lower ho0 (keep_size (w := w) (g := g) (row := none) (by repeat (first | (with_reducible first | exact HK.out | apply KeepBut.set_ | apply keep_drewN | apply keep_drew | apply keep_alloc | refine keep_far ?_ GW115.out _ | refine keep_far ?_ GW116.out _) | exact HK.out)))); have n3_ := Aside0.mk (KeepBut.trans (by repeat (first | (with_reducible first | exact HK.out | apply KeepBut.set_ | apply keep_drewN | apply keep_drew | apply keep_alloc | refine keep_far ?_ GW115.out _ | refine keep_far ?_ GW116.out _) | exact HK.out)) hk (.inl rfl)); have n4_ := Aside0.mk (hb); have n5_ := Aside0.mk (hi); clear BK115; clear BK116; clear HK; clear HB; clear HI0; have BK115 := n0_; have BK116 := n1_; have HO137 := n2_; have HK := n3_; have HB := n4_; have HI0 := n5_; clear n0_ n1_ n2_ n3_ n4_ n5_; (try clear hb); (try clear hb2); (try clear hk); (try clear hi); (try clear ho0); obtain ⟨Ao54, co54, eo54⟩ := Kd.R_slice HO137.out; subst eo54; have hnb55 := NB116_115.out; have hnc55 := NB115_116.out; have hnb56 := NB116_0.out; have hnc56 := NB0_116.out; have hcz57_0 : w53.cell? ⟨gb116, 0, none⟩ = some (.int .i64 s0_1) := (blk_cell BK116.out 0).trans rfl; have hcz57_1 : w53.cell? ⟨gb116, 1, none⟩ = some (.int .i64 0) := (blk_cell BK116.out 1).trans rfl; have hcz57_2 : w53.cell? ⟨gb116, 2, none⟩ = some (.slice none 0 0) := (blk_cell BK116.out 2).trans rfl; have hfz57_0 := blk_frozen BK116.out 0; have hfz57_1 := blk_frozen BK116.out 1; have hfz57_2 := blk_frozen BK116.out 2; have hnb58 := NB115_0.out; have hnc58 := NB0_115.out; have hcz59_0 : w53.cell? ⟨gb115, 0, none⟩ = some (.int .i64 0) := (blk_cell BK115.out 0).trans rfl; have hcz59_1 : w53.cell? ⟨gb115, 1, none⟩ = some (.int .i64 0) := (blk_cell BK115.out 1).trans rfl; have hcz59_2 : w53.cell? ⟨gb115, 2, none⟩ = some (.slice none 0 0) := (blk_cell BK115.out 2).trans rfl; have hfz59_0 := blk_frozen BK115.out 0; have hfz59_1 := blk_frozen BK115.out 1; have hfz59_2 := blk_frozen BK115.out 2))
            refine bodyPost_ret (results_cell_row rfl _ _ gb115 41 #[.int .i64 s0_1, .int .i64 0, .slice Ao54 t135.length co54] (0, 0) _ rfl (by (with_reducible repeat (first | refine blk_drewN ?_ _ | refine blk_drew ?_ | refine blk_alloc ?_ _)); refine blk_put (cs := #[.int .i64 s0_1, .int .i64 0, .slice none 0 0]) ?_ 2 _ rfl; (with_reducible repeat (first | refine blk_drewN ?_ _ | refine blk_drew ?_ | refine blk_alloc ?_ _)); refine blk_put (cs := #[.int .i64 s0_1, .int .i64 0, .slice none 0 0]) ?_ 1 _ rfl; (with_reducible repeat (first | refine blk_drewN ?_ _ | refine blk_drew ?_ | refine blk_alloc ?_ _)); refine blk_put (cs := #[.int .i64 0, .int .i64 0, .slice none 0 0]) ?_ 0 _ rfl; (with_reducible repeat (first | refine blk_drewN ?_ _ | refine blk_drew ?_ | refine blk_alloc ?_ _)); refine blk_far ?_ NB115_116.out _; (with_reducible repeat (first | refine blk_drewN ?_ _ | refine blk_drew ?_ | refine blk_alloc ?_ _)); exact BK115.out) Try.underlying41 rfl (by kernel_rfl)) rfl ?_
            exact ⟨_, by first | rfl | (simp [errW_none, errW_some] <;> rfl) | (simp [*, errW_none, errW_some] <;> rfl), by (with_reducible repeat (first | apply Kd.R_alloc | apply Kd.R_drewN | apply Kd.R_drew)); exact Kd.R_mono (Kd.R_far (p := ⟨gb115, 2, none⟩) (Kd.R_far (p := ⟨gb115, 1, none⟩) (Kd.R_far (p := ⟨gb115, 0, none⟩) (Kd.R_far (p := ⟨gb116, 2, none⟩) (Kd.R_types (Kd.R_types HO137.out BK116.out (by decide)) BK115.out (by decide)) (fun _ hk => hk.1.2) (.slice Ao54 t135.length co54)) (fun _ hk => hk.2) (.int .i64 s0_1)) (fun _ hk => hk.2) (.int .i64 0)) (fun _ hk => hk.2) (.slice Ao54 t135.length co54)) (fun _ hk => trivial), by repeat (first | (with_reducible first | exact HI0.out | apply IsS116.alloc | apply IsS116.drewN | apply IsS116.drew | apply IsS116.set_0 | apply IsS116.set_1 | apply IsS116.set_2 | apply IsS116.set_3 | (apply IsS116.far; (case hne => exact NB0_115.out)) | (apply IsS116.far; (case hne => exact NB0_116.out))) | exact HI0.out), by repeat (first | (with_reducible first | exact HB.out | apply below_alloc | apply pw_below_drewN | apply below_drew1 | refine below_set ?_ (IsS116.ge HI0.out) | refine below_set ?_ GE115.out | refine below_set ?_ GE116.out) | exact HB.out), by repeat (first | (with_reducible first | exact HK.out | apply KeepBut.set_ | apply keep_drewN | apply keep_drew | apply keep_alloc | refine keep_far ?_ GW115.out _ | refine keep_far ?_ GW116.out _) | exact HK.out)⟩
      case rest =>
        clear HC5
        try clear c1
        try clear c2
        try clear p2
        try clear c4
        try clear c5
        try clear p6
        try clear c10
        try clear c22
        try clear c22b0
        try clear c22b1
        try clear c24
        try clear c24b0
        try clear c24b1
        try clear c41
        try clear c42
        try clear c55
        try clear c56
        try clear c58
        try clear hcz30_0
        try clear hcz30_1
        try clear hcz30_2
        try clear hcz30_3
        try clear hcz33_0
        try clear hcz33_1
        try clear hcz33_2
        try clear hcz36_0
        try clear hcz36_1
        try clear hcz36_2
        try clear hcz43_0
        try clear hcz43_1
        try clear hcz43_2
        try clear hcz44_0
        try clear hcz44_1
        try clear hcz44_2
        try clear hcz44_3
        try clear hcz47_0
        try clear hcz47_1
        try clear hcz47_2
        try clear hcz57_0
        try clear hcz57_1
        try clear hcz57_2
        try clear hcz59_0
        try clear hcz59_1
        try clear hcz59_2
        try clear hfz30_0
        try clear hfz30_1
        try clear hfz30_2
        try clear hfz30_3
        try clear hfz33_0
        try clear hfz33_1
        try clear hfz33_2
        try clear hfz36_0
        try clear hfz36_1
        try clear hfz36_2
        try clear hfz43_0
        try clear hfz43_1
        try clear hfz43_2
        try clear hfz44_0
        try clear hfz44_1
        try clear hfz44_2
        try clear hfz44_3
        try clear hfz47_0
        try clear hfz47_1
        try clear hfz47_2
        try clear hfz57_0
        try clear hfz57_1
        try clear hfz57_2
        try clear hfz59_0
        try clear hfz59_1
        try clear hfz59_2
        obtain ⟨kq, x1000_4, x1001_4, x1002_4, x1003_4, x116000_4, x116001_4, x117001_4, x117002_4, u117002, HA, HJ4, HO_117002, BK115, BK116, HI0, HK, HB⟩ := hcut
        cases kq with
        | zero => exact absurd HA.out (by simp [tcl_parser_word.j0])
        | succ kj4 =>
          have H := HA.out
          clear HA
          simp only [tcl_parser_word.j0] at H
          by_cases c60 : x1001_4 < (x1000_4.size : Int)
          · rw [if_pos c60] at H
            have c60b0 : decide (x1001_4 < (x1000_4.size : Int)) = true := decide_eq_true c60
            clear c60
            by_cases c61 : 0 ≤ x1001_4
            · rw [if_pos c61] at H
              have c61b0 : decide (0 ≤ x1001_4) = true := decide_eq_true c61
              clear c61
              replace H := Option.bind_eq_some_iff.mp H
              obtain ⟨t142, A630, H⟩ := H
              replace H : (if t142 = true then (some (s0_1, x117001_4, x117002_4, x1000_4, x1001_4, x1002_4, x1003_4)) else ((tcl_parser_fail.f x1000_4 x1001_4 x1002_4 x1003_4 x1001_4 4).bind fun bt143 => (some (s0_1, x117001_4, x117002_4, bt143.1, bt143.2.1, bt143.2.2.1, bt143.2.2.2)))) = some (r1, r2, r3, r4, r5, r6, r7) := H
              have A63 := Aside0.mk A630
              clear A630
              by_cases c64 : t142 = true
              · subst c64
                have H1 : (some (s0_1, x117001_4, x117002_4, x1000_4, x1001_4, x1002_4, x1003_4)) = some (r1, r2, r3, r4, r5, r6, r7) := by rw [if_pos rfl] at H; exact H
                clear H
                have H := H1
                clear H1
                simp only [Option.some.injEq, Prod.mk.injEq] at H
                obtain ⟨rfl, rfl, rfl, rfl, rfl, rfl, rfl⟩ := H
                try go_wp2
                have n0_ := Aside0.mk (Kd.R_drew HO_117002.out)
                have n1_ := Aside0.mk (blk_drew BK115.out)
                have n2_ := Aside0.mk (blk_drew BK116.out)
                have n3_ := Aside0.mk (IsS116.drew HI0.out)
                have n4_ := Aside0.mk (keep_drew HK.out)
                have n5_ := Aside0.mk (below_drew1 HB.out)
                clear HO_117002
                clear BK115
                clear BK116
                clear HI0
                clear HK
                clear HB
                have HO_117002 := n0_
                have BK115 := n1_
                have BK116 := n2_
                have HI0 := n3_
                have HK := n4_
                have HB := n5_
                clear n0_ n1_ n2_ n3_ n4_ n5_
                have p62 : 0 ≤ (x1001_4 : Int) := of_decide_eq_true (by first | (with_reducible assumption) | assumption)
                have q62 : x1001_4 < (x1000_4.size : Int) := of_decide_eq_true (by first | (with_reducible assumption) | assumption)
                have hx62 := bt_at x1000_4 x1001_4
                replace p62 := eq_true p62
                replace q62 := eq_true q62
                refine start_ (n := 23) (S := fun w' => w'.cell? ⟨g, 0, none⟩ = some (.string x1000_4) ∧ w'.cell? ⟨g, 1, none⟩ = some (.int .i64 x1001_4) ∧ w'.cell? ⟨g, 2, none⟩ = some (.int .i64 x1002_4) ∧ w'.cell? ⟨g, 3, none⟩ = some (.int .i64 x1003_4)) (ds := []) #[false, false, false, false, false, false, false, false, false, false, false, false, false, false, false, false, false, false, false, false, false, false, false] (by kernel_rfl) rfl rfl ⟨(blk_cell (Aside0.mk HI0.out.1).out 0).trans rfl, (blk_cell (Aside0.mk HI0.out.1).out 1).trans rfl, (blk_cell (Aside0.mk HI0.out.1).out 2).trans rfl, (blk_cell (Aside0.mk HI0.out.1).out 3).trans rfl⟩ (fun hHeld => ?_); refine with_tabW tcl_parser_word.tab15 tcl_parser_word.bits15 (fun HT_ HW_ => ?_)
                generalize wc.drew = w65 at HO_117002 BK115 BK116 HI0 HK HB hHeld ⊢
                refine pure_ (i := 0) (N := some 71) (v := ?_) (a' := ?_) #[true, false, false, false, false, false, false, false, false, false, false, false, false, false, false, false, false, false, false, false, false, false, false] rfl rfl (any_of HT_.out (by kernel_rfl)) (fun _ _ _ h => h) (Or.inl ⟨by rfl, ?_⟩) ?_ ?_
                rotate_left
                · intro w'
                  go_simp
                  with_reducible rfl
                rotate_left
                · simp only [Act.put, List.setIfInBounds_toArray, List.set_cons_zero, List.set_cons_succ, i64_w, i32_w]
                  rfl
                refine pure_ (i := 1) (N := some 72) (v := ?_) (a' := ?_) #[true, true, false, false, false, false, false, false, false, false, false, false, false, false, false, false, false, false, false, false, false, false, false] rfl rfl (any_of HT_.out (by kernel_rfl)) (fun _ _ _ h => h) (Or.inl ⟨by rfl, ?_⟩) ?_ ?_
                rotate_left
                · intro w'
                  go_simp
                  with_reducible rfl
                rotate_left
                · simp only [Act.put, List.setIfInBounds_toArray, List.set_cons_zero, List.set_cons_succ, i64_w, i32_w]
                  rfl
                refine pure_ (i := 2) (N := some 73) (v := ?_) (a' := ?_) #[true, true, true, false, false, false, false, false, false, false, false, false, false, false, false, false, false, false, false, false, false, false, false] rfl rfl (any_of HT_.out (by kernel_rfl)) (fun _ _ _ h => h) (Or.inl ⟨by rfl, ?_⟩) ?_ ?_
                rotate_left
                · intro w'
                  go_simp
                  with_reducible rfl
                rotate_left
                · simp only [Act.put, List.setIfInBounds_toArray, List.set_cons_zero, List.set_cons_succ, i64_w, i32_w]
                  rfl
                refine pure_ (i := 4) (N := some 75) (v := ?_) (a' := ?_) #[true, true, true, false, true, false, false, false, false, false, false, false, false, false, false, false, false, false, false, false, false, false, false] rfl rfl (any_of HT_.out (by kernel_rfl)) (fun _ _ _ h => h) (Or.inl ⟨by rfl, ?_⟩) ?_ ?_
                rotate_left
                · intro w'
                  go_simp
                  with_reducible rfl
                rotate_left
                · simp only [Act.put, List.setIfInBounds_toArray, List.set_cons_zero, List.set_cons_succ, i64_w, i32_w]
                  rfl
                refine pure_ (i := 5) (N := some 76) (v := ?_) (a' := ?_) #[true, true, true, false, true, true, false, false, false, false, false, false, false, false, false, false, false, false, false, false, false, false, false] rfl rfl (any_of HT_.out (by kernel_rfl)) (fun _ _ _ h => h) (Or.inl ⟨by rfl, ?_⟩) ?_ ?_
                rotate_left
                · intro w'
                  go_simp
                  with_reducible rfl
                rotate_left
                · simp only [Act.put, List.setIfInBounds_toArray, List.set_cons_zero, List.set_cons_succ, i64_w, i32_w]
                  rfl
                refine pure_ (i := 6) (N := some 77) (v := ?_) (a' := ?_) #[true, true, true, false, true, true, true, false, false, false, false, false, false, false, false, false, false, false, false, false, false, false, false] rfl rfl (any_of HT_.out (by kernel_rfl)) (fun _ _ _ h => h) (Or.inl ⟨by rfl, ?_⟩) ?_ ?_
                rotate_left
                · intro w'
                  go_simp
                  with_reducible rfl
                rotate_left
                · simp only [Act.put, List.setIfInBounds_toArray, List.set_cons_zero, List.set_cons_succ, i64_w, i32_w]
                  rfl
                refine take_ (i := 3) (N := some 74) (v := ?_) (a' := ?_) #[true, true, true, true, true, true, true, false, false, false, false, false, false, false, false, false, false, false, false, false, false, false, false] rfl rfl (take_ofW HT_.out HW_.out (by kernel_rfl)) (fun _ _ _ h => h) (Or.inl ⟨by rfl, ?_⟩) hHeld ?_ ?_
                rotate_left
                · rintro w' ⟨s0, s1, s2, s3⟩
                  go_simp
                  with_reducible rfl
                rotate_left
                · simp only [Act.put, List.setIfInBounds_toArray, List.set_cons_zero, List.set_cons_succ, i64_w, i32_w]
                  rfl
                refine take_ (i := 7) (N := some 78) (v := ?_) (a' := ?_) #[true, true, true, true, true, true, true, true, false, false, false, false, false, false, false, false, false, false, false, false, false, false, false] rfl rfl (take_ofW HT_.out HW_.out (by kernel_rfl)) (fun _ _ _ h => h) (Or.inl ⟨by rfl, ?_⟩) hHeld ?_ ?_
                rotate_left
                · rintro w' ⟨s0, s1, s2, s3⟩
                  go_simp
                  with_reducible rfl
                rotate_left
                · simp only [Act.put, List.setIfInBounds_toArray, List.set_cons_zero, List.set_cons_succ, i64_w, i32_w]
                  rfl
                refine pure_ (i := 8) (N := some 79) (v := ?_) (a' := ?_) #[true, true, true, true, true, true, true, true, true, false, false, false, false, false, false, false, false, false, false, false, false, false, false] rfl rfl (any_of HT_.out (by kernel_rfl)) (fun _ _ _ h => h) (Or.inl ⟨by rfl, ?_⟩) ?_ ?_
                rotate_left
                · intro w'
                  go_simp
                  with_reducible rfl
                rotate_left
                · simp only [Act.put, List.setIfInBounds_toArray, List.set_cons_zero, List.set_cons_succ, i64_w, i32_w]
                  rfl
                refine pure_ (i := 9) (N := some 80) (v := ?_) (a' := ?_) #[true, true, true, true, true, true, true, true, true, true, false, false, false, false, false, false, false, false, false, false, false, false, false] rfl rfl (any_of HT_.out (by kernel_rfl)) (fun _ _ _ h => h) (Or.inl ⟨by rfl, ?_⟩) ?_ ?_
                rotate_left
                · intro w'
                  go_simp
                  with_reducible rfl
                rotate_left
                · simp only [Act.put, List.setIfInBounds_toArray, List.set_cons_zero, List.set_cons_succ, i64_w, i32_w]
                  rfl
                refine pure_ (i := 10) (N := some 81) (v := ?_) (a' := ?_) #[true, true, true, true, true, true, true, true, true, true, true, false, false, false, false, false, false, false, false, false, false, false, false] rfl rfl (any_of HT_.out (by kernel_rfl)) (fun _ _ _ h => h) (Or.inl ⟨by rfl, ?_⟩) ?_ ?_
                rotate_left
                · intro w'
                  go_simp
                  with_reducible rfl
                rotate_left
                · simp only [Act.put, List.setIfInBounds_toArray, List.set_cons_zero, List.set_cons_succ, i64_w, i32_w]
                  rfl
                refine pure_ (i := 11) (N := some 82) (v := ?_) (a' := ?_) #[true, true, true, true, true, true, true, true, true, true, true, true, false, false, false, false, false, false, false, false, false, false, false] rfl rfl (any_of HT_.out (by kernel_rfl)) (fun _ _ _ h => h) (Or.inl ⟨by rfl, ?_⟩) ?_ ?_
                rotate_left
                · intro w'
                  go_simp
                  with_reducible rfl
                rotate_left
                · simp only [Act.put, List.setIfInBounds_toArray, List.set_cons_zero, List.set_cons_succ, i64_w, i32_w]
                  rfl
                refine pure_ (i := 12) (N := some 83) (v := ?_) (a' := ?_) #[true, true, true, true, true, true, true, true, true, true, true, true, true, false, false, false, false, false, false, false, false, false, false] rfl rfl (any_of HT_.out (by kernel_rfl)) (fun _ _ _ h => h) (Or.inl ⟨by rfl, ?_⟩) ?_ ?_
                rotate_left
                · intro w'
                  go_simp
                  with_reducible rfl
                rotate_left
                · simp only [Act.put, List.setIfInBounds_toArray, List.set_cons_zero, List.set_cons_succ, i64_w, i32_w]
                  rfl
                refine pure_ (i := 13) (N := some 84) (v := ?_) (a' := ?_) #[true, true, true, true, true, true, true, true, true, true, true, true, true, true, false, false, false, false, false, false, false, false, false] rfl rfl (any_of HT_.out (by kernel_rfl)) (fun _ _ _ h => h) (Or.inl ⟨by rfl, ?_⟩) ?_ ?_
                rotate_left
                · intro w'
                  go_simp
                  with_reducible rfl
                rotate_left
                · simp only [Act.put, List.setIfInBounds_toArray, List.set_cons_zero, List.set_cons_succ, i64_w, i32_w]
                  rfl
                refine pure_ (i := 15) (N := some 86) (v := ?_) (a' := ?_) #[true, true, true, true, true, true, true, true, true, true, true, true, true, true, false, true, false, false, false, false, false, false, false] rfl rfl (any_of HT_.out (by kernel_rfl)) (fun _ _ _ h => h) (Or.inl ⟨by rfl, ?_⟩) ?_ ?_
                rotate_left
                · intro w'
                  go_simp
                  with_reducible rfl
                rotate_left
                · simp only [Act.put, List.setIfInBounds_toArray, List.set_cons_zero, List.set_cons_succ, i64_w, i32_w]
                  rfl
                refine pure_ (i := 16) (N := some 87) (v := ?_) (a' := ?_) #[true, true, true, true, true, true, true, true, true, true, true, true, true, true, false, true, true, false, false, false, false, false, false] rfl rfl (any_of HT_.out (by kernel_rfl)) (fun _ _ _ h => h) (Or.inl ⟨by rfl, ?_⟩) ?_ ?_
                rotate_left
                · intro w'
                  go_simp
                  with_reducible rfl
                rotate_left
                · simp only [Act.put, List.setIfInBounds_toArray, List.set_cons_zero, List.set_cons_succ, i64_w, i32_w]
                  rfl
                refine pure_ (i := 17) (N := some 88) (v := ?_) (a' := ?_) #[true, true, true, true, true, true, true, true, true, true, true, true, true, true, false, true, true, true, false, false, false, false, false] rfl rfl (any_of HT_.out (by kernel_rfl)) (fun _ _ _ h => h) (Or.inl ⟨by rfl, ?_⟩) ?_ ?_
                rotate_left
                · intro w'
                  go_simp
                  with_reducible rfl
                rotate_left
                · simp only [Act.put, List.setIfInBounds_toArray, List.set_cons_zero, List.set_cons_succ, i64_w, i32_w]
                  rfl
                refine take_ (i := 14) (N := some 85) (v := ?_) (a' := ?_) #[true, true, true, true, true, true, true, true, true, true, true, true, true, true, true, true, true, true, false, false, false, false, false] rfl rfl (take_ofW HT_.out HW_.out (by kernel_rfl)) (fun _ _ _ h => h) (Or.inl ⟨by rfl, ?_⟩) hHeld ?_ ?_
                rotate_left
                · rintro w' ⟨s0, s1, s2, s3⟩
                  go_simp
                  with_reducible rfl
                rotate_left
                · simp only [Act.put, List.setIfInBounds_toArray, List.set_cons_zero, List.set_cons_succ, i64_w, i32_w]
                  rfl
                refine take_ (i := 18) (N := some 89) (v := ?_) (a' := ?_) #[true, true, true, true, true, true, true, true, true, true, true, true, true, true, true, true, true, true, true, false, false, false, false] rfl rfl (take_ofW HT_.out HW_.out (by kernel_rfl)) (fun _ _ _ h => h) (Or.inl ⟨by rfl, ?_⟩) hHeld ?_ ?_
                rotate_left
                · rintro w' ⟨s0, s1, s2, s3⟩
                  go_simp
                  with_reducible rfl
                rotate_left
                · simp only [Act.put, List.setIfInBounds_toArray, List.set_cons_zero, List.set_cons_succ, i64_w, i32_w]
                  rfl
                refine take_ (i := 19) (N := some 90) (v := ?_) (a' := ?_) #[true, true, true, true, true, true, true, true, true, true, true, true, true, true, true, true, true, true, true, true, false, false, false] rfl rfl (take_ofW HT_.out HW_.out (by kernel_rfl)) (fun _ _ _ h => h) (Or.inl ⟨by rfl, ?_⟩) hHeld ?_ ?_
                rotate_left
                · rintro w' ⟨s0, s1, s2, s3⟩
                  go_simp
                  with_reducible rfl
                rotate_left
                · simp only [Act.put, List.setIfInBounds_toArray, List.set_cons_zero, List.set_cons_succ, i64_w, i32_w]
                  rfl
                refine one_ (i := 20) (N := some 91) #[true, true, true, true, true, true, true, true, true, true, true, true, true, true, true, true, true, true, true, true, true, false, false] rfl rfl (one_of HT_.out (by kernel_rfl)) (by decide) (fun K hK => ?_)
                refine goes_ Try.func55 (by kernel_rfl) rfl #[.string (⟨#[32, 9, 10, 59]⟩ : ByteArray), .int .u8 (bt x1000_4 x1001_4)] (by rfl) rfl rfl (by (try simp only [List.map_toArray, List.map_cons, List.map_nil]); first | done | rfl | (simp only [List.length_drop, List.length_take]; rfl)) ?_
                with_reducible refine (tcl_in.calls (⟨#[32, 9, 10, 59]⟩ : ByteArray) (bt x1000_4 x1001_4) true _ A63.out).mono ?_
                rintro e w' ⟨rfl, ⟨nd, rfl⟩⟩
                refine ⟨_, rfl, ?_⟩
                refine hK.out _ _ ⟨(blk_cell (Aside0.mk HI0.out.1).out 0).trans rfl, (blk_cell (Aside0.mk HI0.out.1).out 1).trans rfl, (blk_cell (Aside0.mk HI0.out.1).out 2).trans rfl, (blk_cell (Aside0.mk HI0.out.1).out 3).trans rfl⟩ (fun hHeld => ?_)
                clear hK K
                refine norm_ (a' := ?_) ?_ ?_
                rotate_left
                · show Act.put _ (some 91) _ = _
                  simp only [Act.put, List.setIfInBounds_toArray, List.set_cons_zero, List.set_cons_succ, i64_w, i32_w]
                  rfl
                refine pure_ (i := 21) (N := some 92) (v := ?_) (a' := ?_) #[true, true, true, true, true, true, true, true, true, true, true, true, true, true, true, true, true, true, true, true, true, true, false] rfl rfl (any_of HT_.out (by kernel_rfl)) (fun _ _ _ h => h) (Or.inl ⟨by rfl, ?_⟩) ?_ ?_
                rotate_left
                · intro w'
                  go_simp
                  with_reducible rfl
                rotate_left
                · simp only [Act.put, List.setIfInBounds_toArray, List.set_cons_zero, List.set_cons_succ, i64_w, i32_w]
                  rfl
                refine pure_ (i := 22) (N := some 93) (v := ?_) (a' := ?_) #[true, true, true, true, true, true, true, true, true, true, true, true, true, true, true, true, true, true, true, true, true, true, true] rfl rfl (any_of HT_.out (by kernel_rfl)) (fun _ _ _ h => h) (Or.inl ⟨by rfl, ?_⟩) ?_ ?_
                rotate_left
                · intro w'
                  go_simp
                  with_reducible rfl
                rotate_left
                · simp only [Act.put, List.setIfInBounds_toArray, List.set_cons_zero, List.set_cons_succ, i64_w, i32_w]
                  rfl
                refine done_ (done_of HT_.out (by kernel_rfl)) ?_
                have hnb66 := NB116_115.out
                have hnc66 := NB115_116.out
                have hnb67 := NB116_0.out
                have hnc67 := NB0_116.out
                have hcz68_0 : w65.cell? ⟨gb116, 0, none⟩ = some (.int .i64 s0_1) := (blk_cell BK116.out 0).trans rfl
                have hcz68_1 : w65.cell? ⟨gb116, 1, none⟩ = some (.int .i64 x117001_4) := (blk_cell BK116.out 1).trans rfl
                have hcz68_2 : w65.cell? ⟨gb116, 2, none⟩ = some (u117002) := (blk_cell BK116.out 2).trans rfl
                have hfz68_0 := blk_frozen BK116.out 0
                have hfz68_1 := blk_frozen BK116.out 1
                have hfz68_2 := blk_frozen BK116.out 2
                have hnb69 := NB115_0.out
                have hnc69 := NB0_115.out
                have hcz70_0 : w65.cell? ⟨gb115, 0, none⟩ = some (.int .i64 x116000_4) := (blk_cell BK115.out 0).trans rfl
                have hcz70_1 : w65.cell? ⟨gb115, 1, none⟩ = some (.int .i64 x116001_4) := (blk_cell BK115.out 1).trans rfl
                have hcz70_2 : w65.cell? ⟨gb115, 2, none⟩ = some (.slice none 0 0) := (blk_cell BK115.out 2).trans rfl
                have hfz70_0 := blk_frozen BK115.out 0
                have hfz70_1 := blk_frozen BK115.out 1
                have hfz70_2 := blk_frozen BK115.out 2
                obtain ⟨Ao71, co71, eo71⟩ := Kd.R_slice HO_117002.out
                subst eo71
                try go_wp2
                refine bodyPost_ret (results_cell_row rfl _ _ gb115 41 #[.int .i64 s0_1, .int .i64 x117001_4, .slice Ao71 x117002_4.length co71] (0, 0) _ rfl (by (with_reducible repeat (first | refine blk_drewN ?_ _ | refine blk_drew ?_ | refine blk_alloc ?_ _)); refine blk_put (cs := #[.int .i64 s0_1, .int .i64 x117001_4, .slice none 0 0]) ?_ 2 _ rfl; (with_reducible repeat (first | refine blk_drewN ?_ _ | refine blk_drew ?_ | refine blk_alloc ?_ _)); refine blk_put (cs := #[.int .i64 s0_1, .int .i64 x116001_4, .slice none 0 0]) ?_ 1 _ rfl; (with_reducible repeat (first | refine blk_drewN ?_ _ | refine blk_drew ?_ | refine blk_alloc ?_ _)); refine blk_put (cs := #[.int .i64 x116000_4, .int .i64 x116001_4, .slice none 0 0]) ?_ 0 _ rfl; (with_reducible repeat (first | refine blk_drewN ?_ _ | refine blk_drew ?_ | refine blk_alloc ?_ _)); exact BK115.out) Try.underlying41 rfl (by kernel_rfl)) rfl ?_
                exact ⟨_, by first | rfl | (simp [errW_none, errW_some] <;> rfl) | (simp [*, errW_none, errW_some] <;> rfl), by (with_reducible repeat (first | apply Kd.R_alloc | apply Kd.R_drewN | apply Kd.R_drew)); exact Kd.R_mono (Kd.R_far (p := ⟨gb115, 2, none⟩) (Kd.R_far (p := ⟨gb115, 1, none⟩) (Kd.R_far (p := ⟨gb115, 0, none⟩) (Kd.R_types HO_117002.out BK115.out (by decide)) (fun _ hk => hk.2) (.int .i64 s0_1)) (fun _ hk => hk.2) (.int .i64 x117001_4)) (fun _ hk => hk.2) (.slice Ao71 x117002_4.length co71)) (fun _ hk => trivial), by repeat (first | (with_reducible first | exact HI0.out | apply IsS116.alloc | apply IsS116.drewN | apply IsS116.drew | apply IsS116.set_0 | apply IsS116.set_1 | apply IsS116.set_2 | apply IsS116.set_3 | (apply IsS116.far; (case hne => exact NB0_115.out)) | (apply IsS116.far; (case hne => exact NB0_116.out))) | exact HI0.out), by repeat (first | (with_reducible first | exact HB.out | apply below_alloc | apply pw_below_drewN | apply below_drew1 | refine below_set ?_ (IsS116.ge HI0.out) | refine below_set ?_ GE115.out | refine below_set ?_ GE116.out) | exact HB.out), by repeat (first | (with_reducible first | exact HK.out | apply KeepBut.set_ | apply keep_drewN | apply keep_drew | apply keep_alloc | refine keep_far ?_ GW115.out _ | refine keep_far ?_ GW116.out _) | exact HK.out)⟩
              · replace c64 := Bool.eq_false_iff.mpr c64
                subst c64
                have H1 : ((tcl_parser_fail.f x1000_4 x1001_4 x1002_4 x1003_4 x1001_4 4).bind fun bt143 => (some (s0_1, x117001_4, x117002_4, bt143.1, bt143.2.1, bt143.2.2.1, bt143.2.2.2))) = some (r1, r2, r3, r4, r5, r6, r7) := by rw [if_neg (show ¬ (false = true) by decide)] at H; exact H
                clear H
                have H := H1
                clear H1
                replace H := Option.bind_eq_some_iff.mp H
                obtain ⟨⟨t143, t144, t145, t146⟩, A720, H⟩ := H
                replace H : (some (s0_1, x117001_4, x117002_4, t143, t144, t145, t146)) = some (r1, r2, r3, r4, r5, r6, r7) := H
                have A72 := Aside0.mk A720
                clear A720
                simp only [Option.some.injEq, Prod.mk.injEq] at H
                obtain ⟨rfl, rfl, rfl, rfl, rfl, rfl, rfl⟩ := H
                try go_wp2
                have n0_ := Aside0.mk (Kd.R_drew HO_117002.out)
                have n1_ := Aside0.mk (blk_drew BK115.out)
                have n2_ := Aside0.mk (blk_drew BK116.out)
                have n3_ := Aside0.mk (IsS116.drew HI0.out)
                have n4_ := Aside0.mk (keep_drew HK.out)
                have n5_ := Aside0.mk (below_drew1 HB.out)
                clear HO_117002
                clear BK115
                clear BK116
                clear HI0
                clear HK
                clear HB
                have HO_117002 := n0_
                have BK115 := n1_
                have BK116 := n2_
                have HI0 := n3_
                have HK := n4_
                have HB := n5_
                clear n0_ n1_ n2_ n3_ n4_ n5_
                have p62 : 0 ≤ (x1001_4 : Int) := of_decide_eq_true (by first | (with_reducible assumption) | assumption)
                have q62 : x1001_4 < (x1000_4.size : Int) := of_decide_eq_true (by first | (with_reducible assumption) | assumption)
                have hx62 := bt_at x1000_4 x1001_4
                replace p62 := eq_true p62
                replace q62 := eq_true q62
                refine start_ (n := 23) (S := fun w' => w'.cell? ⟨g, 0, none⟩ = some (.string x1000_4) ∧ w'.cell? ⟨g, 1, none⟩ = some (.int .i64 x1001_4) ∧ w'.cell? ⟨g, 2, none⟩ = some (.int .i64 x1002_4) ∧ w'.cell? ⟨g, 3, none⟩ = some (.int .i64 x1003_4)) (ds := []) #[false, false, false, false, false, false, false, false, false, false, false, false, false, false, false, false, false, false, false, false, false, false, false] (by kernel_rfl) rfl rfl ⟨(blk_cell (Aside0.mk HI0.out.1).out 0).trans rfl, (blk_cell (Aside0.mk HI0.out.1).out 1).trans rfl, (blk_cell (Aside0.mk HI0.out.1).out 2).trans rfl, (blk_cell (Aside0.mk HI0.out.1).out 3).trans rfl⟩ (fun hHeld => ?_); refine with_tabW tcl_parser_word.tab15 tcl_parser_word.bits15 (fun HT_ HW_ => ?_)
                generalize wc.drew = w73 at HO_117002 BK115 BK116 HI0 HK HB hHeld ⊢
                refine pure_ (i := 0) (N := some 71) (v := ?_) (a' := ?_) #[true, false, false, false, false, false, false, false, false, false, false, false, false, false, false, false, false, false, false, false, false, false, false] rfl rfl (any_of HT_.out (by kernel_rfl)) (fun _ _ _ h => h) (Or.inl ⟨by rfl, ?_⟩) ?_ ?_
                rotate_left
                · intro w'
                  go_simp
                  with_reducible rfl
                rotate_left
                · simp only [Act.put, List.setIfInBounds_toArray, List.set_cons_zero, List.set_cons_succ, i64_w, i32_w]
                  rfl
                refine pure_ (i := 1) (N := some 72) (v := ?_) (a' := ?_) #[true, true, false, false, false, false, false, false, false, false, false, false, false, false, false, false, false, false, false, false, false, false, false] rfl rfl (any_of HT_.out (by kernel_rfl)) (fun _ _ _ h => h) (Or.inl ⟨by rfl, ?_⟩) ?_ ?_
                rotate_left
                · intro w'
                  go_simp
                  with_reducible rfl
                rotate_left
                · simp only [Act.put, List.setIfInBounds_toArray, List.set_cons_zero, List.set_cons_succ, i64_w, i32_w]
                  rfl
                refine pure_ (i := 2) (N := some 73) (v := ?_) (a' := ?_) #[true, true, true, false, false, false, false, false, false, false, false, false, false, false, false, false, false, false, false, false, false, false, false] rfl rfl (any_of HT_.out (by kernel_rfl)) (fun _ _ _ h => h) (Or.inl ⟨by rfl, ?_⟩) ?_ ?_
                rotate_left
                · intro w'
                  go_simp
                  with_reducible rfl
                rotate_left
                · simp only [Act.put, List.setIfInBounds_toArray, List.set_cons_zero, List.set_cons_succ, i64_w, i32_w]
                  rfl
                refine pure_ (i := 4) (N := some 75) (v := ?_) (a' := ?_) #[true, true, true, false, true, false, false, false, false, false, false, false, false, false, false, false, false, false, false, false, false, false, false] rfl rfl (any_of HT_.out (by kernel_rfl)) (fun _ _ _ h => h) (Or.inl ⟨by rfl, ?_⟩) ?_ ?_
                rotate_left
                · intro w'
                  go_simp
                  with_reducible rfl
                rotate_left
                · simp only [Act.put, List.setIfInBounds_toArray, List.set_cons_zero, List.set_cons_succ, i64_w, i32_w]
                  rfl
                refine pure_ (i := 5) (N := some 76) (v := ?_) (a' := ?_) #[true, true, true, false, true, true, false, false, false, false, false, false, false, false, false, false, false, false, false, false, false, false, false] rfl rfl (any_of HT_.out (by kernel_rfl)) (fun _ _ _ h => h) (Or.inl ⟨by rfl, ?_⟩) ?_ ?_
                rotate_left
                · intro w'
                  go_simp
                  with_reducible rfl
                rotate_left
                · simp only [Act.put, List.setIfInBounds_toArray, List.set_cons_zero, List.set_cons_succ, i64_w, i32_w]
                  rfl
                refine pure_ (i := 6) (N := some 77) (v := ?_) (a' := ?_) #[true, true, true, false, true, true, true, false, false, false, false, false, false, false, false, false, false, false, false, false, false, false, false] rfl rfl (any_of HT_.out (by kernel_rfl)) (fun _ _ _ h => h) (Or.inl ⟨by rfl, ?_⟩) ?_ ?_
                rotate_left
                · intro w'
                  go_simp
                  with_reducible rfl
                rotate_left
                · simp only [Act.put, List.setIfInBounds_toArray, List.set_cons_zero, List.set_cons_succ, i64_w, i32_w]
                  rfl
                refine take_ (i := 3) (N := some 74) (v := ?_) (a' := ?_) #[true, true, true, true, true, true, true, false, false, false, false, false, false, false, false, false, false, false, false, false, false, false, false] rfl rfl (take_ofW HT_.out HW_.out (by kernel_rfl)) (fun _ _ _ h => h) (Or.inl ⟨by rfl, ?_⟩) hHeld ?_ ?_
                rotate_left
                · rintro w' ⟨s0, s1, s2, s3⟩
                  go_simp
                  with_reducible rfl
                rotate_left
                · simp only [Act.put, List.setIfInBounds_toArray, List.set_cons_zero, List.set_cons_succ, i64_w, i32_w]
                  rfl
                refine take_ (i := 7) (N := some 78) (v := ?_) (a' := ?_) #[true, true, true, true, true, true, true, true, false, false, false, false, false, false, false, false, false, false, false, false, false, false, false] rfl rfl (take_ofW HT_.out HW_.out (by kernel_rfl)) (fun _ _ _ h => h) (Or.inl ⟨by rfl, ?_⟩) hHeld ?_ ?_
                rotate_left
                · rintro w' ⟨s0, s1, s2, s3⟩
                  go_simp
                  with_reducible rfl
                rotate_left
                · simp only [Act.put, List.setIfInBounds_toArray, List.set_cons_zero, List.set_cons_succ, i64_w, i32_w]
                  rfl
                refine pure_ (i := 8) (N := some 79) (v := ?_) (a' := ?_) #[true, true, true, true, true, true, true, true, true, false, false, false, false, false, false, false, false, false, false, false, false, false, false] rfl rfl (any_of HT_.out (by kernel_rfl)) (fun _ _ _ h => h) (Or.inl ⟨by rfl, ?_⟩) ?_ ?_
                rotate_left
                · intro w'
                  go_simp
                  with_reducible rfl
                rotate_left
                · simp only [Act.put, List.setIfInBounds_toArray, List.set_cons_zero, List.set_cons_succ, i64_w, i32_w]
                  rfl
                refine pure_ (i := 9) (N := some 80) (v := ?_) (a' := ?_) #[true, true, true, true, true, true, true, true, true, true, false, false, false, false, false, false, false, false, false, false, false, false, false] rfl rfl (any_of HT_.out (by kernel_rfl)) (fun _ _ _ h => h) (Or.inl ⟨by rfl, ?_⟩) ?_ ?_
                rotate_left
                · intro w'
                  go_simp
                  with_reducible rfl
                rotate_left
                · simp only [Act.put, List.setIfInBounds_toArray, List.set_cons_zero, List.set_cons_succ, i64_w, i32_w]
                  rfl
                refine pure_ (i := 10) (N := some 81) (v := ?_) (a' := ?_) #[true, true, true, true, true, true, true, true, true, true, true, false, false, false, false, false, false, false, false, false, false, false, false] rfl rfl (any_of HT_.out (by kernel_rfl)) (fun _ _ _ h => h) (Or.inl ⟨by rfl, ?_⟩) ?_ ?_
                rotate_left
                · intro w'
                  go_simp
                  with_reducible rfl
                rotate_left
                · simp only [Act.put, List.setIfInBounds_toArray, List.set_cons_zero, List.set_cons_succ, i64_w, i32_w]
                  rfl
                refine pure_ (i := 11) (N := some 82) (v := ?_) (a' := ?_) #[true, true, true, true, true, true, true, true, true, true, true, true, false, false, false, false, false, false, false, false, false, false, false] rfl rfl (any_of HT_.out (by kernel_rfl)) (fun _ _ _ h => h) (Or.inl ⟨by rfl, ?_⟩) ?_ ?_
                rotate_left
                · intro w'
                  go_simp
                  with_reducible rfl
                rotate_left
                · simp only [Act.put, List.setIfInBounds_toArray, List.set_cons_zero, List.set_cons_succ, i64_w, i32_w]
                  rfl
                refine pure_ (i := 12) (N := some 83) (v := ?_) (a' := ?_) #[true, true, true, true, true, true, true, true, true, true, true, true, true, false, false, false, false, false, false, false, false, false, false] rfl rfl (any_of HT_.out (by kernel_rfl)) (fun _ _ _ h => h) (Or.inl ⟨by rfl, ?_⟩) ?_ ?_
                rotate_left
                · intro w'
                  go_simp
                  with_reducible rfl
                rotate_left
                · simp only [Act.put, List.setIfInBounds_toArray, List.set_cons_zero, List.set_cons_succ, i64_w, i32_w]
                  rfl
                refine pure_ (i := 13) (N := some 84) (v := ?_) (a' := ?_) #[true, true, true, true, true, true, true, true, true, true, true, true, true, true, false, false, false, false, false, false, false, false, false] rfl rfl (any_of HT_.out (by kernel_rfl)) (fun _ _ _ h => h) (Or.inl ⟨by rfl, ?_⟩) ?_ ?_
                rotate_left
                · intro w'
                  go_simp
                  with_reducible rfl
                rotate_left
                · simp only [Act.put, List.setIfInBounds_toArray, List.set_cons_zero, List.set_cons_succ, i64_w, i32_w]
                  rfl
                refine pure_ (i := 15) (N := some 86) (v := ?_) (a' := ?_) #[true, true, true, true, true, true, true, true, true, true, true, true, true, true, false, true, false, false, false, false, false, false, false] rfl rfl (any_of HT_.out (by kernel_rfl)) (fun _ _ _ h => h) (Or.inl ⟨by rfl, ?_⟩) ?_ ?_
                rotate_left
                · intro w'
                  go_simp
                  with_reducible rfl
                rotate_left
                · simp only [Act.put, List.setIfInBounds_toArray, List.set_cons_zero, List.set_cons_succ, i64_w, i32_w]
                  rfl
                refine pure_ (i := 16) (N := some 87) (v := ?_) (a' := ?_) #[true, true, true, true, true, true, true, true, true, true, true, true, true, true, false, true, true, false, false, false, false, false, false] rfl rfl (any_of HT_.out (by kernel_rfl)) (fun _ _ _ h => h) (Or.inl ⟨by rfl, ?_⟩) ?_ ?_
                rotate_left
                · intro w'
                  go_simp
                  with_reducible rfl
                rotate_left
                · simp only [Act.put, List.setIfInBounds_toArray, List.set_cons_zero, List.set_cons_succ, i64_w, i32_w]
                  rfl
                refine pure_ (i := 17) (N := some 88) (v := ?_) (a' := ?_) #[true, true, true, true, true, true, true, true, true, true, true, true, true, true, false, true, true, true, false, false, false, false, false] rfl rfl (any_of HT_.out (by kernel_rfl)) (fun _ _ _ h => h) (Or.inl ⟨by rfl, ?_⟩) ?_ ?_
                rotate_left
                · intro w'
                  go_simp
                  with_reducible rfl
                rotate_left
                · simp only [Act.put, List.setIfInBounds_toArray, List.set_cons_zero, List.set_cons_succ, i64_w, i32_w]
                  rfl
                refine take_ (i := 14) (N := some 85) (v := ?_) (a' := ?_) #[true, true, true, true, true, true, true, true, true, true, true, true, true, true, true, true, true, true, false, false, false, false, false] rfl rfl (take_ofW HT_.out HW_.out (by kernel_rfl)) (fun _ _ _ h => h) (Or.inl ⟨by rfl, ?_⟩) hHeld ?_ ?_
                rotate_left
                · rintro w' ⟨s0, s1, s2, s3⟩
                  go_simp
                  with_reducible rfl
                rotate_left
                · simp only [Act.put, List.setIfInBounds_toArray, List.set_cons_zero, List.set_cons_succ, i64_w, i32_w]
                  rfl
                refine take_ (i := 18) (N := some 89) (v := ?_) (a' := ?_) #[true, true, true, true, true, true, true, true, true, true, true, true, true, true, true, true, true, true, true, false, false, false, false] rfl rfl (take_ofW HT_.out HW_.out (by kernel_rfl)) (fun _ _ _ h => h) (Or.inl ⟨by rfl, ?_⟩) hHeld ?_ ?_
                rotate_left
                · rintro w' ⟨s0, s1, s2, s3⟩
                  go_simp
                  with_reducible rfl
                rotate_left
                · simp only [Act.put, List.setIfInBounds_toArray, List.set_cons_zero, List.set_cons_succ, i64_w, i32_w]
                  rfl
                refine take_ (i := 19) (N := some 90) (v := ?_) (a' := ?_) #[true, true, true, true, true, true, true, true, true, true, true, true, true, true, true, true, true, true, true, true, false, false, false] rfl rfl (take_ofW HT_.out HW_.out (by kernel_rfl)) (fun _ _ _ h => h) (Or.inl ⟨by rfl, ?_⟩) hHeld ?_ ?_
                rotate_left
                · rintro w' ⟨s0, s1, s2, s3⟩
                  go_simp
                  with_reducible rfl
                rotate_left
                · simp only [Act.put, List.setIfInBounds_toArray, List.set_cons_zero, List.set_cons_succ, i64_w, i32_w]
                  rfl
                refine one_ (i := 20) (N := some 91) #[true, true, true, true, true, true, true, true, true, true, true, true, true, true, true, true, true, true, true, true, true, false, false] rfl rfl (one_of HT_.out (by kernel_rfl)) (by decide) (fun K hK => ?_)
                refine goes_ Try.func55 (by kernel_rfl) rfl #[.string (⟨#[32, 9, 10, 59]⟩ : ByteArray), .int .u8 (bt x1000_4 x1001_4)] (by rfl) rfl rfl (by (try simp only [List.map_toArray, List.map_cons, List.map_nil]); first | done | rfl | (simp only [List.length_drop, List.length_take]; rfl)) ?_
                with_reducible refine (tcl_in.calls (⟨#[32, 9, 10, 59]⟩ : ByteArray) (bt x1000_4 x1001_4) false _ A63.out).mono ?_
                rintro e w' ⟨rfl, ⟨nd, rfl⟩⟩
                refine ⟨_, rfl, ?_⟩
                refine hK.out _ _ ⟨(blk_cell (Aside0.mk HI0.out.1).out 0).trans rfl, (blk_cell (Aside0.mk HI0.out.1).out 1).trans rfl, (blk_cell (Aside0.mk HI0.out.1).out 2).trans rfl, (blk_cell (Aside0.mk HI0.out.1).out 3).trans rfl⟩ (fun hHeld => ?_)
                clear hK K
                refine norm_ (a' := ?_) ?_ ?_
                rotate_left
                · show Act.put _ (some 91) _ = _
                  simp only [Act.put, List.setIfInBounds_toArray, List.set_cons_zero, List.set_cons_succ, i64_w, i32_w]
                  rfl
                refine pure_ (i := 21) (N := some 92) (v := ?_) (a' := ?_) #[true, true, true, true, true, true, true, true, true, true, true, true, true, true, true, true, true, true, true, true, true, true, false] rfl rfl (any_of HT_.out (by kernel_rfl)) (fun _ _ _ h => h) (Or.inl ⟨by rfl, ?_⟩) ?_ ?_
                rotate_left
                · intro w'
                  go_simp
                  with_reducible rfl
                rotate_left
                · simp only [Act.put, List.setIfInBounds_toArray, List.set_cons_zero, List.set_cons_succ, i64_w, i32_w]
                  rfl
                refine pure_ (i := 22) (N := some 93) (v := ?_) (a' := ?_) #[true, true, true, true, true, true, true, true, true, true, true, true, true, true, true, true, true, true, true, true, true, true, true] rfl rfl (any_of HT_.out (by kernel_rfl)) (fun _ _ _ h => h) (Or.inl ⟨by rfl, ?_⟩) ?_ ?_
                rotate_left
                · intro w'
                  go_simp
                  with_reducible rfl
                rotate_left
                · simp only [Act.put, List.setIfInBounds_toArray, List.set_cons_zero, List.set_cons_succ, i64_w, i32_w]
                  rfl
                refine done_ (done_of HT_.out (by kernel_rfl)) ?_
                obtain ⟨HGz74, hgz74⟩ := HI0.out
                have hcz74_0 := cellS116_0 HGz74
                have hcz74_1 := cellS116_1 HGz74
                have hcz74_2 := cellS116_2 HGz74
                have hcz74_3 := cellS116_3 HGz74
                have hfz74_0 := blk_frozen HGz74 0
                have hfz74_1 := blk_frozen HGz74 1
                have hfz74_2 := blk_frozen HGz74 2
                have hfz74_3 := blk_frozen HGz74 3
                clear HGz74 hgz74
                try go_wp2_with (first | ((with_reducible refine gate_callee (f := 103) rfl ?_); refine goesL_ (some 99) rfl rfl Try.func103 (by kernel_rfl) rfl #[.pointer (some ⟨g, 0, none⟩), .int .i64 x1001_4, .int .i64 4] rfl (by (try simp only [List.map_toArray, List.map_cons, List.map_nil]); first | done | rfl | (simp only [List.length_drop, List.length_take]; rfl)) ?_; (with_reducible refine (tcl_parser_fail.calls g x1000_4 x1001_4 x1002_4 x1003_4 x1001_4 4 t143 t144 t145 t146 w0 _ ?side1 ?side2 A72.out).mono ?_); (case side1 => repeat (first | (with_reducible first | exact HI0.out | apply IsS116.alloc | apply IsS116.drewN | apply IsS116.drew | apply IsS116.set_0 | apply IsS116.set_1 | apply IsS116.set_2 | apply IsS116.set_3 | (apply IsS116.far; (case hne => exact NB0_115.out)) | (apply IsS116.far; (case hne => exact NB0_116.out))) | exact HI0.out)); (case side2 => repeat (first | (with_reducible first | exact HB.out | apply below_alloc | apply pw_below_drewN | apply below_drew1 | refine below_set ?_ (IsS116.ge HI0.out) | refine below_set ?_ GE115.out | refine below_set ?_ GE116.out) | exact HB.out)); rintro e w75 ⟨rfl, hi, hb, hk⟩; refine ⟨_, rfl, ?_⟩; have n0_ := Aside0.mk (Kd.R_mono (Kd.R_keep (IsS116.apart (show IsS116 w0 _ g x1000_4 x1001_4 x1002_4 x1003_4 from by repeat (first | (with_reducible first | exact HI0.out | apply IsS116.alloc | apply IsS116.drewN | apply IsS116.drew | apply IsS116.set_0 | apply IsS116.set_1 | apply IsS116.set_2 | apply IsS116.set_3 | (apply IsS116.far; (case hne => exact NB0_115.out)) | (apply IsS116.far; (case hne => exact NB0_116.out))) | exact HI0.out)) (by (with_reducible repeat (first | apply Kd.R_alloc | apply Kd.R_drewN | apply Kd.R_drew)); exact HO_117002.out) (by decide)) hk (fun _ h => h.2)) (fun _ h => h.1)); have n1_ := Aside0.mk (KeepBut.blk hk (g' := gb115) (o := .cells #[.int .i64 x116000_4, .int .i64 x116001_4, .slice none 0 0] 41 (0, 0)) (by (with_reducible repeat (first | refine blk_drewN ?_ _ | refine blk_drew ?_ | refine blk_alloc ?_ _)); exact BK115.out) NB115_0.out (by simp)); have n2_ := Aside0.mk (KeepBut.blk hk (g' := gb116) (o := .cells #[.int .i64 s0_1, .int .i64 x117001_4, u117002] 41 (0, 0)) (by (with_reducible repeat (first | refine blk_drewN ?_ _ | refine blk_drew ?_ | refine blk_alloc ?_ _)); exact BK116.out) NB116_0.out (by simp)); have n3_ := Aside0.mk (KeepBut.trans (by repeat (first | (with_reducible first | exact HK.out | apply KeepBut.set_ | apply keep_drewN | apply keep_drew | apply keep_alloc | refine keep_far ?_ GW115.out _ | refine keep_far ?_ GW116.out _) | exact HK.out)) hk (.inl rfl)); have n4_ := Aside0.mk (hb); have n5_ := Aside0.mk (hi); clear HO_117002; clear BK115; clear BK116; clear HK; clear HB; clear HI0; have HO_117002 := n0_; have BK115 := n1_; have BK116 := n2_; have HK := n3_; have HB := n4_; have HI0 := n5_; clear n0_ n1_ n2_ n3_ n4_ n5_; (try clear hb); (try clear hb2); (try clear hk); (try clear hi); have hnb76 := NB116_115.out; have hnc76 := NB115_116.out; have hnb77 := NB116_0.out; have hnc77 := NB0_116.out; have hcz78_0 : w75.cell? ⟨gb116, 0, none⟩ = some (.int .i64 s0_1) := (blk_cell BK116.out 0).trans rfl; have hcz78_1 : w75.cell? ⟨gb116, 1, none⟩ = some (.int .i64 x117001_4) := (blk_cell BK116.out 1).trans rfl; have hcz78_2 : w75.cell? ⟨gb116, 2, none⟩ = some (u117002) := (blk_cell BK116.out 2).trans rfl; have hfz78_0 := blk_frozen BK116.out 0; have hfz78_1 := blk_frozen BK116.out 1; have hfz78_2 := blk_frozen BK116.out 2; have hnb79 := NB115_0.out; have hnc79 := NB0_115.out; have hcz80_0 : w75.cell? ⟨gb115, 0, none⟩ = some (.int .i64 x116000_4) := (blk_cell BK115.out 0).trans rfl; have hcz80_1 : w75.cell? ⟨gb115, 1, none⟩ = some (.int .i64 x116001_4) := (blk_cell BK115.out 1).trans rfl; have hcz80_2 : w75.cell? ⟨gb115, 2, none⟩ = some (.slice none 0 0) := (blk_cell BK115.out 2).trans rfl; have hfz80_0 := blk_frozen BK115.out 0; have hfz80_1 := blk_frozen BK115.out 1; have hfz80_2 := blk_frozen BK115.out 2; obtain ⟨Ao81, co81, eo81⟩ := Kd.R_slice HO_117002.out; subst eo81))
                refine bodyPost_ret (results_cell_row rfl _ _ gb115 41 #[.int .i64 s0_1, .int .i64 x117001_4, .slice Ao81 x117002_4.length co81] (0, 0) _ rfl (by (with_reducible repeat (first | refine blk_drewN ?_ _ | refine blk_drew ?_ | refine blk_alloc ?_ _)); refine blk_put (cs := #[.int .i64 s0_1, .int .i64 x117001_4, .slice none 0 0]) ?_ 2 _ rfl; (with_reducible repeat (first | refine blk_drewN ?_ _ | refine blk_drew ?_ | refine blk_alloc ?_ _)); refine blk_put (cs := #[.int .i64 s0_1, .int .i64 x116001_4, .slice none 0 0]) ?_ 1 _ rfl; (with_reducible repeat (first | refine blk_drewN ?_ _ | refine blk_drew ?_ | refine blk_alloc ?_ _)); refine blk_put (cs := #[.int .i64 x116000_4, .int .i64 x116001_4, .slice none 0 0]) ?_ 0 _ rfl; (with_reducible repeat (first | refine blk_drewN ?_ _ | refine blk_drew ?_ | refine blk_alloc ?_ _)); exact BK115.out) Try.underlying41 rfl (by kernel_rfl)) rfl ?_
                exact ⟨_, by first | rfl | (simp [errW_none, errW_some] <;> rfl) | (simp [*, errW_none, errW_some] <;> rfl), by (with_reducible repeat (first | apply Kd.R_alloc | apply Kd.R_drewN | apply Kd.R_drew)); exact Kd.R_mono (Kd.R_far (p := ⟨gb115, 2, none⟩) (Kd.R_far (p := ⟨gb115, 1, none⟩) (Kd.R_far (p := ⟨gb115, 0, none⟩) (Kd.R_types HO_117002.out BK115.out (by decide)) (fun _ hk => hk.2) (.int .i64 s0_1)) (fun _ hk => hk.2) (.int .i64 x117001_4)) (fun _ hk => hk.2) (.slice Ao81 x117002_4.length co81)) (fun _ hk => trivial), by repeat (first | (with_reducible first | exact HI0.out | apply IsS116.alloc | apply IsS116.drewN | apply IsS116.drew | apply IsS116.set_0 | apply IsS116.set_1 | apply IsS116.set_2 | apply IsS116.set_3 | (apply IsS116.far; (case hne => exact NB0_115.out)) | (apply IsS116.far; (case hne => exact NB0_116.out))) | exact HI0.out), by repeat (first | (with_reducible first | exact HB.out | apply below_alloc | apply pw_below_drewN | apply below_drew1 | refine below_set ?_ (IsS116.ge HI0.out) | refine below_set ?_ GE115.out | refine below_set ?_ GE116.out) | exact HB.out), by repeat (first | (with_reducible first | exact HK.out | apply KeepBut.set_ | apply keep_drewN | apply keep_drew | apply keep_alloc | refine keep_far ?_ GW115.out _ | refine keep_far ?_ GW116.out _) | exact HK.out)⟩
            · rw [if_neg c61] at H
              exact absurd H (by simp)
          · rw [if_neg c60] at H
            have c60b0 : decide (x1001_4 < (x1000_4.size : Int)) = false := decide_eq_false c60
            clear c60
            simp only [Option.some.injEq, Prod.mk.injEq] at H
            obtain ⟨rfl, rfl, rfl, rfl, rfl, rfl, rfl⟩ := H
            try go_wp2
            have n0_ := Aside0.mk (Kd.R_drew HO_117002.out)
            have n1_ := Aside0.mk (blk_drew BK115.out)
            have n2_ := Aside0.mk (blk_drew BK116.out)
            have n3_ := Aside0.mk (IsS116.drew HI0.out)
            have n4_ := Aside0.mk (keep_drew HK.out)
            have n5_ := Aside0.mk (below_drew1 HB.out)
            clear HO_117002
            clear BK115
            clear BK116
            clear HI0
            clear HK
            clear HB
            have HO_117002 := n0_
            have BK115 := n1_
            have BK116 := n2_
            have HI0 := n3_
            have HK := n4_
            have HB := n5_
            clear n0_ n1_ n2_ n3_ n4_ n5_
            refine start_ (n := 23) (S := fun w' => w'.cell? ⟨g, 0, none⟩ = some (.string x1000_4) ∧ w'.cell? ⟨g, 1, none⟩ = some (.int .i64 x1001_4) ∧ w'.cell? ⟨g, 2, none⟩ = some (.int .i64 x1002_4) ∧ w'.cell? ⟨g, 3, none⟩ = some (.int .i64 x1003_4)) (ds := []) #[false, false, false, false, false, false, false, false, false, false, false, false, false, false, false, false, false, false, false, false, false, false, false] (by kernel_rfl) rfl rfl ⟨(blk_cell (Aside0.mk HI0.out.1).out 0).trans rfl, (blk_cell (Aside0.mk HI0.out.1).out 1).trans rfl, (blk_cell (Aside0.mk HI0.out.1).out 2).trans rfl, (blk_cell (Aside0.mk HI0.out.1).out 3).trans rfl⟩ (fun hHeld => ?_); refine with_tabW tcl_parser_word.tab15 tcl_parser_word.bits15 (fun HT_ HW_ => ?_)
            generalize wc.drew = w82 at HO_117002 BK115 BK116 HI0 HK HB hHeld ⊢
            refine pure_ (i := 0) (N := some 71) (v := ?_) (a' := ?_) #[true, false, false, false, false, false, false, false, false, false, false, false, false, false, false, false, false, false, false, false, false, false, false] rfl rfl (any_of HT_.out (by kernel_rfl)) (fun _ _ _ h => h) (Or.inl ⟨by rfl, ?_⟩) ?_ ?_
            rotate_left
            · intro w'
              go_simp
              with_reducible rfl
            rotate_left
            · simp only [Act.put, List.setIfInBounds_toArray, List.set_cons_zero, List.set_cons_succ, i64_w, i32_w]
              rfl
            refine pure_ (i := 1) (N := some 72) (v := ?_) (a' := ?_) #[true, true, false, false, false, false, false, false, false, false, false, false, false, false, false, false, false, false, false, false, false, false, false] rfl rfl (any_of HT_.out (by kernel_rfl)) (fun _ _ _ h => h) (Or.inl ⟨by rfl, ?_⟩) ?_ ?_
            rotate_left
            · intro w'
              go_simp
              with_reducible rfl
            rotate_left
            · simp only [Act.put, List.setIfInBounds_toArray, List.set_cons_zero, List.set_cons_succ, i64_w, i32_w]
              rfl
            refine pure_ (i := 2) (N := some 73) (v := ?_) (a' := ?_) #[true, true, true, false, false, false, false, false, false, false, false, false, false, false, false, false, false, false, false, false, false, false, false] rfl rfl (any_of HT_.out (by kernel_rfl)) (fun _ _ _ h => h) (Or.inl ⟨by rfl, ?_⟩) ?_ ?_
            rotate_left
            · intro w'
              go_simp
              with_reducible rfl
            rotate_left
            · simp only [Act.put, List.setIfInBounds_toArray, List.set_cons_zero, List.set_cons_succ, i64_w, i32_w]
              rfl
            refine pure_ (i := 4) (N := some 75) (v := ?_) (a' := ?_) #[true, true, true, false, true, false, false, false, false, false, false, false, false, false, false, false, false, false, false, false, false, false, false] rfl rfl (any_of HT_.out (by kernel_rfl)) (fun _ _ _ h => h) (Or.inl ⟨by rfl, ?_⟩) ?_ ?_
            rotate_left
            · intro w'
              go_simp
              with_reducible rfl
            rotate_left
            · simp only [Act.put, List.setIfInBounds_toArray, List.set_cons_zero, List.set_cons_succ, i64_w, i32_w]
              rfl
            refine pure_ (i := 5) (N := some 76) (v := ?_) (a' := ?_) #[true, true, true, false, true, true, false, false, false, false, false, false, false, false, false, false, false, false, false, false, false, false, false] rfl rfl (any_of HT_.out (by kernel_rfl)) (fun _ _ _ h => h) (Or.inl ⟨by rfl, ?_⟩) ?_ ?_
            rotate_left
            · intro w'
              go_simp
              with_reducible rfl
            rotate_left
            · simp only [Act.put, List.setIfInBounds_toArray, List.set_cons_zero, List.set_cons_succ, i64_w, i32_w]
              rfl
            refine pure_ (i := 6) (N := some 77) (v := ?_) (a' := ?_) #[true, true, true, false, true, true, true, false, false, false, false, false, false, false, false, false, false, false, false, false, false, false, false] rfl rfl (any_of HT_.out (by kernel_rfl)) (fun _ _ _ h => h) (Or.inl ⟨by rfl, ?_⟩) ?_ ?_
            rotate_left
            · intro w'
              go_simp
              with_reducible rfl
            rotate_left
            · simp only [Act.put, List.setIfInBounds_toArray, List.set_cons_zero, List.set_cons_succ, i64_w, i32_w]
              rfl
            refine take_ (i := 3) (N := some 74) (v := ?_) (a' := ?_) #[true, true, true, true, true, true, true, false, false, false, false, false, false, false, false, false, false, false, false, false, false, false, false] rfl rfl (take_ofW HT_.out HW_.out (by kernel_rfl)) (fun _ _ _ h => h) (Or.inl ⟨by rfl, ?_⟩) hHeld ?_ ?_
            rotate_left
            · rintro w' ⟨s0, s1, s2, s3⟩
              go_simp
              with_reducible rfl
            rotate_left
            · simp only [Act.put, List.setIfInBounds_toArray, List.set_cons_zero, List.set_cons_succ, i64_w, i32_w]
              rfl
            refine take_ (i := 7) (N := some 78) (v := ?_) (a' := ?_) #[true, true, true, true, true, true, true, true, false, false, false, false, false, false, false, false, false, false, false, false, false, false, false] rfl rfl (take_ofW HT_.out HW_.out (by kernel_rfl)) (fun _ _ _ h => h) (Or.inl ⟨by rfl, ?_⟩) hHeld ?_ ?_
            rotate_left
            · rintro w' ⟨s0, s1, s2, s3⟩
              go_simp
              with_reducible rfl
            rotate_left
            · simp only [Act.put, List.setIfInBounds_toArray, List.set_cons_zero, List.set_cons_succ, i64_w, i32_w]
              rfl
            refine pure_ (i := 8) (N := some 79) (v := ?_) (a' := ?_) #[true, true, true, true, true, true, true, true, true, false, false, false, false, false, false, false, false, false, false, false, false, false, false] rfl rfl (any_of HT_.out (by kernel_rfl)) (fun _ _ _ h => h) (Or.inl ⟨by rfl, ?_⟩) ?_ ?_
            rotate_left
            · intro w'
              go_simp
              with_reducible rfl
            rotate_left
            · simp only [Act.put, List.setIfInBounds_toArray, List.set_cons_zero, List.set_cons_succ, i64_w, i32_w]
              rfl
            refine pure_ (i := 9) (N := some 80) (v := ?_) (a' := ?_) #[true, true, true, true, true, true, true, true, true, true, false, false, false, false, false, false, false, false, false, false, false, false, false] rfl rfl (any_of HT_.out (by kernel_rfl)) (fun _ _ _ h => h) (Or.inl ⟨by rfl, ?_⟩) ?_ ?_
            rotate_left
            · intro w'
              go_simp
              with_reducible rfl
            rotate_left
            · simp only [Act.put, List.setIfInBounds_toArray, List.set_cons_zero, List.set_cons_succ, i64_w, i32_w]
              rfl
            refine pure_ (i := 10) (N := some 81) (v := ?_) (a' := ?_) #[true, true, true, true, true, true, true, true, true, true, true, false, false, false, false, false, false, false, false, false, false, false, false] rfl rfl (any_of HT_.out (by kernel_rfl)) (fun _ _ _ h => h) (Or.inl ⟨by rfl, ?_⟩) ?_ ?_
            rotate_left
            · intro w'
              go_simp
              with_reducible rfl
            rotate_left
            · simp only [Act.put, List.setIfInBounds_toArray, List.set_cons_zero, List.set_cons_succ, i64_w, i32_w]
              rfl
            refine pure_ (i := 11) (N := some 82) (v := undef) (a' := ?_) #[true, true, true, true, true, true, true, true, true, true, true, true, false, false, false, false, false, false, false, false, false, false, false] rfl rfl (any_of HT_.out (by kernel_rfl)) (fun _ _ _ h => h) (Or.inr ⟨by rfl, rfl⟩) ?_ ?_
            rotate_left
            · simp only [Act.put, List.setIfInBounds_toArray, List.set_cons_zero, List.set_cons_succ, i64_w, i32_w]
              rfl
            refine pure_ (i := 12) (N := some 83) (v := undef) (a' := ?_) #[true, true, true, true, true, true, true, true, true, true, true, true, true, false, false, false, false, false, false, false, false, false, false] rfl rfl (any_of HT_.out (by kernel_rfl)) (fun _ _ _ h => h) (Or.inr ⟨by rfl, rfl⟩) ?_ ?_
            rotate_left
            · simp only [Act.put, List.setIfInBounds_toArray, List.set_cons_zero, List.set_cons_succ, i64_w, i32_w]
              rfl
            refine pure_ (i := 13) (N := some 84) (v := undef) (a' := ?_) #[true, true, true, true, true, true, true, true, true, true, true, true, true, true, false, false, false, false, false, false, false, false, false] rfl rfl (any_of HT_.out (by kernel_rfl)) (fun _ _ _ h => h) (Or.inr ⟨by rfl, rfl⟩) ?_ ?_
            rotate_left
            · simp only [Act.put, List.setIfInBounds_toArray, List.set_cons_zero, List.set_cons_succ, i64_w, i32_w]
              rfl
            refine pure_ (i := 14) (N := some 85) (v := undef) (a' := ?_) #[true, true, true, true, true, true, true, true, true, true, true, true, true, true, true, false, false, false, false, false, false, false, false] rfl rfl (any_of HT_.out (by kernel_rfl)) (fun _ _ _ h => h) (Or.inr ⟨by rfl, rfl⟩) ?_ ?_
            rotate_left
            · simp only [Act.put, List.setIfInBounds_toArray, List.set_cons_zero, List.set_cons_succ, i64_w, i32_w]
              rfl
            refine pure_ (i := 15) (N := some 86) (v := undef) (a' := ?_) #[true, true, true, true, true, true, true, true, true, true, true, true, true, true, true, true, false, false, false, false, false, false, false] rfl rfl (any_of HT_.out (by kernel_rfl)) (fun _ _ _ h => h) (Or.inr ⟨by rfl, rfl⟩) ?_ ?_
            rotate_left
            · simp only [Act.put, List.setIfInBounds_toArray, List.set_cons_zero, List.set_cons_succ, i64_w, i32_w]
              rfl
            refine pure_ (i := 16) (N := some 87) (v := undef) (a' := ?_) #[true, true, true, true, true, true, true, true, true, true, true, true, true, true, true, true, true, false, false, false, false, false, false] rfl rfl (any_of HT_.out (by kernel_rfl)) (fun _ _ _ h => h) (Or.inr ⟨by rfl, rfl⟩) ?_ ?_
            rotate_left
            · simp only [Act.put, List.setIfInBounds_toArray, List.set_cons_zero, List.set_cons_succ, i64_w, i32_w]
              rfl
            refine pure_ (i := 17) (N := some 88) (v := undef) (a' := ?_) #[true, true, true, true, true, true, true, true, true, true, true, true, true, true, true, true, true, true, false, false, false, false, false] rfl rfl (any_of HT_.out (by kernel_rfl)) (fun _ _ _ h => h) (Or.inr ⟨by rfl, rfl⟩) ?_ ?_
            rotate_left
            · simp only [Act.put, List.setIfInBounds_toArray, List.set_cons_zero, List.set_cons_succ, i64_w, i32_w]
              rfl
            refine pure_ (i := 18) (N := some 89) (v := undef) (a' := ?_) #[true, true, true, true, true, true, true, true, true, true, true, true, true, true, true, true, true, true, true, false, false, false, false] rfl rfl (any_of HT_.out (by kernel_rfl)) (fun _ _ _ h => h) (Or.inr ⟨by rfl, rfl⟩) ?_ ?_
            rotate_left
            · simp only [Act.put, List.setIfInBounds_toArray, List.set_cons_zero, List.set_cons_succ, i64_w, i32_w]
              rfl
            refine pure_ (i := 19) (N := some 90) (v := undef) (a' := ?_) #[true, true, true, true, true, true, true, true, true, true, true, true, true, true, true, true, true, true, true, true, false, false, false] rfl rfl (any_of HT_.out (by kernel_rfl)) (fun _ _ _ h => h) (Or.inr ⟨by rfl, rfl⟩) ?_ ?_
            rotate_left
            · simp only [Act.put, List.setIfInBounds_toArray, List.set_cons_zero, List.set_cons_succ, i64_w, i32_w]
              rfl
            refine pure_ (i := 20) (N := some 91) (v := undef) (a' := ?_) #[true, true, true, true, true, true, true, true, true, true, true, true, true, true, true, true, true, true, true, true, true, false, false] rfl rfl (any_of HT_.out (by kernel_rfl)) (fun _ _ _ h => h) (Or.inr ⟨by rfl, rfl⟩) ?_ ?_
            rotate_left
            · simp only [Act.put, List.setIfInBounds_toArray, List.set_cons_zero, List.set_cons_succ, i64_w, i32_w]
              rfl
            refine pure_ (i := 21) (N := some 92) (v := undef) (a' := ?_) #[true, true, true, true, true, true, true, true, true, true, true, true, true, true, true, true, true, true, true, true, true, true, false] rfl rfl (any_of HT_.out (by kernel_rfl)) (fun _ _ _ h => h) (Or.inr ⟨by rfl, rfl⟩) ?_ ?_
            rotate_left
            · simp only [Act.put, List.setIfInBounds_toArray, List.set_cons_zero, List.set_cons_succ, i64_w, i32_w]
              rfl
            refine pure_ (i := 22) (N := some 93) (v := ?_) (a' := ?_) #[true, true, true, true, true, true, true, true, true, true, true, true, true, true, true, true, true, true, true, true, true, true, true] rfl rfl (any_of HT_.out (by kernel_rfl)) (fun _ _ _ h => h) (Or.inl ⟨by rfl, ?_⟩) ?_ ?_
            rotate_left
            · intro w'
              go_simp
              with_reducible rfl
            rotate_left
            · simp only [Act.put, List.setIfInBounds_toArray, List.set_cons_zero, List.set_cons_succ, i64_w, i32_w]
              rfl
            refine done_ (done_of HT_.out (by kernel_rfl)) ?_
            have hnb83 := NB116_115.out
            have hnc83 := NB115_116.out
            have hnb84 := NB116_0.out
            have hnc84 := NB0_116.out
            have hcz85_0 : w82.cell? ⟨gb116, 0, none⟩ = some (.int .i64 s0_1) := (blk_cell BK116.out 0).trans rfl
            have hcz85_1 : w82.cell? ⟨gb116, 1, none⟩ = some (.int .i64 x117001_4) := (blk_cell BK116.out 1).trans rfl
            have hcz85_2 : w82.cell? ⟨gb116, 2, none⟩ = some (u117002) := (blk_cell BK116.out 2).trans rfl
            have hfz85_0 := blk_frozen BK116.out 0
            have hfz85_1 := blk_frozen BK116.out 1
            have hfz85_2 := blk_frozen BK116.out 2
            have hnb86 := NB115_0.out
            have hnc86 := NB0_115.out
            have hcz87_0 : w82.cell? ⟨gb115, 0, none⟩ = some (.int .i64 x116000_4) := (blk_cell BK115.out 0).trans rfl
            have hcz87_1 : w82.cell? ⟨gb115, 1, none⟩ = some (.int .i64 x116001_4) := (blk_cell BK115.out 1).trans rfl
            have hcz87_2 : w82.cell? ⟨gb115, 2, none⟩ = some (.slice none 0 0) := (blk_cell BK115.out 2).trans rfl
            have hfz87_0 := blk_frozen BK115.out 0
            have hfz87_1 := blk_frozen BK115.out 1
            have hfz87_2 := blk_frozen BK115.out 2
            obtain ⟨Ao88, co88, eo88⟩ := Kd.R_slice HO_117002.out
            subst eo88
            try go_wp2
            refine bodyPost_ret (results_cell_row rfl _ _ gb115 41 #[.int .i64 s0_1, .int .i64 x117001_4, .slice Ao88 x117002_4.length co88] (0, 0) _ rfl (by (with_reducible repeat (first | refine blk_drewN ?_ _ | refine blk_drew ?_ | refine blk_alloc ?_ _)); refine blk_put (cs := #[.int .i64 s0_1, .int .i64 x117001_4, .slice none 0 0]) ?_ 2 _ rfl; (with_reducible repeat (first | refine blk_drewN ?_ _ | refine blk_drew ?_ | refine blk_alloc ?_ _)); refine blk_put (cs := #[.int .i64 s0_1, .int .i64 x116001_4, .slice none 0 0]) ?_ 1 _ rfl; (with_reducible repeat (first | refine blk_drewN ?_ _ | refine blk_drew ?_ | refine blk_alloc ?_ _)); refine blk_put (cs := #[.int .i64 x116000_4, .int .i64 x116001_4, .slice none 0 0]) ?_ 0 _ rfl; (with_reducible repeat (first | refine blk_drewN ?_ _ | refine blk_drew ?_ | refine blk_alloc ?_ _)); exact BK115.out) Try.underlying41 rfl (by kernel_rfl)) rfl ?_
            exact ⟨_, by first | rfl | (simp [errW_none, errW_some] <;> rfl) | (simp [*, errW_none, errW_some] <;> rfl), by (with_reducible repeat (first | apply Kd.R_alloc | apply Kd.R_drewN | apply Kd.R_drew)); exact Kd.R_mono (Kd.R_far (p := ⟨gb115, 2, none⟩) (Kd.R_far (p := ⟨gb115, 1, none⟩) (Kd.R_far (p := ⟨gb115, 0, none⟩) (Kd.R_types HO_117002.out BK115.out (by decide)) (fun _ hk => hk.2) (.int .i64 s0_1)) (fun _ hk => hk.2) (.int .i64 x117001_4)) (fun _ hk => hk.2) (.slice Ao88 x117002_4.length co88)) (fun _ hk => trivial), by repeat (first | (with_reducible first | exact HI0.out | apply IsS116.alloc | apply IsS116.drewN | apply IsS116.drew | apply IsS116.set_0 | apply IsS116.set_1 | apply IsS116.set_2 | apply IsS116.set_3 | (apply IsS116.far; (case hne => exact NB0_115.out)) | (apply IsS116.far; (case hne => exact NB0_116.out))) | exact HI0.out), by repeat (first | (with_reducible first | exact HB.out | apply below_alloc | apply pw_below_drewN | apply below_drew1 | refine below_set ?_ (IsS116.ge HI0.out) | refine below_set ?_ GE115.out | refine below_set ?_ GE116.out) | exact HB.out), by repeat (first | (with_reducible first | exact HK.out | apply KeepBut.set_ | apply keep_drewN | apply keep_drew | apply keep_alloc | refine keep_far ?_ GW115.out _ | refine keep_far ?_ GW116.out _) | exact HK.out)⟩
    · rw [if_neg c3] at H
      exact absurd H (by simp)
  · rw [if_neg c2] at H
    exact absurd H (by simp)

end Go.Proofs.Ytofhcjdadhpjdaa.Q
