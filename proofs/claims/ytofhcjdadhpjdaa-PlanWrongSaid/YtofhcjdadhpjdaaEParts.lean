/- (*tcl.parser).parts, by hand, in the print's form. -/
import Derived.Test.YtofhcjdadhpjdaaQ0
import Derived.Test.YtofhcjdadhpjdaaQ5
import Derived.Test.YtofhcjdadhpjdaaQ6
import Derived.Test.YtofhcjdadhpjdaaQ11
import Derived.Test.YtofhcjdadhpjdaaQ19
import Derived.Test.YtofhcjdadhpjdaaShelf
import Derived.Lib.Hide
import Derived.Deep.DeepFit
import Derived.WalkSpells
import Derived.WalkLawsBesides
namespace Go.Proofs.Ytofhcjdadhpjdaa.Q
set_option linter.unusedSimpArgs false
set_option linter.unusedVariables false
open Go.RowKit Go.Proofs.YtofhcjdadhpjdaaW.PrintWords Go.Proofs.YtofhcjdadhpjdaaW.PrintLast Go.Proofs.YtofhcjdadhpjdaaW.PrintMore

def flushP (text : List Int) (acc : List S43) : List S43 := if text = [] then acc else acc ++ [⟨false, strOfNums text⟩]
abbrev Kb : Kd Int := Kd.int .u8
/-- The two boxes: the parts so far (at bl), the text so far (at bt_). -/
structure Boxes (w : World) (base bl bt_ : Nat) (acc : List S43) (text : List Int) : Prop where
  l : ∃ v, w.heap[bl]? = some (.cells #[v] 39 (0, 0)) ∧ Kd.R k43 43 w base (fun _ => True) v acc
  t : ∃ v, w.heap[bt_]? = some (.cells #[v] 51 (0, 0)) ∧ Kb.R 5 w base (fun _ => True) v text
  lt : base ≤ bl ∧ bl < w.heap.size ∧ base ≤ bt_ ∧ bt_ < w.heap.size ∧ bl ≠ bt_

/-- A store into one of the boxes' cells (its block is that of a variable: no row's). -/
theorem box_set {w : World} {g T : Nat} {v u : Value} (h : w.heap[g]? = some (.cells #[v] T (0, 0))) : (w.setCell ⟨g, 0, none⟩ u).heap[g]? = some (.cells #[u] T (0, 0)) := by
  rw [blk_set h 0 u]; rfl
theorem Boxes.after_flush {w : World} {base bl bt_ : Nat} {acc : List S43} {vl vt v1 : Value}
    (hl : w.heap[bl]? = some (.cells #[vl] 39 (0, 0))) (ht : w.heap[bt_]? = some (.cells #[vt] 51 (0, 0)))
    (r : Kd.R k43 43 w base (fun _ => True) v1 acc) (hlt : base ≤ bl ∧ bl < w.heap.size ∧ base ≤ bt_ ∧ bt_ < w.heap.size ∧ bl ≠ bt_) :
    Boxes ((w.setCell ⟨bl, 0, none⟩ v1).setCell ⟨bt_, 0, none⟩ (.slice none 0 0)) base bl bt_ acc [] := by
  have h1 := box_set (u := v1) hl
  have ht1 : (w.setCell ⟨bl, 0, none⟩ v1).heap[bt_]? = _ := blk_far ht (p := ⟨bl, 0, none⟩) (fun e => hlt.2.2.2.2 e.symm) v1
  refine ⟨⟨v1, blk_far h1 (p := ⟨bt_, 0, none⟩) hlt.2.2.2.2 _, ?_⟩, ⟨_, box_set ht1, Kd.R_nil _ _ _ _ _⟩, by simpa [World.setCell] using hlt⟩
  exact Kd.R_set (Kd.R_set r hl (by decide) 0 v1) ht1 (by decide) 0 _

set_option maxHeartbeats 1000000 in
set_option maxRecDepth 100000 in
theorem flush_calls (base bl bt_ : Nat) (acc : List S43) (text : List Int) (w0 w : World) (hb : Boxes w base bl bt_ acc text) (hB : Below base w0 w) (hbase : base ≤ w.heap.size) (hacc : (acc.length + 1) * 24 ≤ 140737488355328) :
    Calls Try.prog 114 #[.pointer (some ⟨bt_, 0, none⟩), .pointer (some ⟨bl, 0, none⟩)] w fun e w' => e = .returned (.tuple #[]) ∧ Boxes w' base bl bt_ (flushP text acc) [] ∧ Below base w0 w' := by
  obtain ⟨⟨vl, hl, rl⟩, ⟨vt, ht, rt⟩, hlt⟩ := hb
  have cl : w.cell? ⟨bl, 0, none⟩ = some vl := blk_cell hl 0
  have ct : w.cell? ⟨bt_, 0, none⟩ = some vt := blk_cell ht 0
  have fl := blk_frozen hl 0
  have ft := blk_frozen ht 0
  obtain ⟨At, nt, rfl⟩ := Kd.R_slice rt
  obtain ⟨Al, nl, rfl⟩ := Kd.R_slice rl
  by_cases h0 : text = []
  · subst h0
    go_enter Try.func114, Try.ntmps114
    go_wp2
    go_end0
    exact ⟨rfl, ⟨⟨_, hl, rl⟩, ⟨_, ht, rt⟩, hlt⟩, hB⟩
  · have hn : decide (0 < text.length) = true := decide_eq_true (List.length_pos_iff.2 h0)
    have hn2 : 0 < text.length := List.length_pos_iff.2 h0
    have hu := Try.underlying43
    have hconv : ∀ W : World, W = w → (convert 51 9 (.slice At text.length nt)).run Try.prog w = .ok (.string (strOfNums text)) w := fun W _ => Kd.C_string Try.underlying51 Try.underlying5 Try.underlying9 (Kd.R_reads' rt).2.2
    have hconv := hconv w rfl
    go_enter Try.func114, Try.ntmps114
    go_wp2_with (at_builtin; refine Kd.R_append k43 base rfl (.tmp 5) (.tmp 9) 39 43 (.agg #[.bool false, .string ⟨#[]⟩]) 24 rfl Try.underlying39 info43 rfl (by decide) (by omega) (.slice Al acc.length nl) acc ⟨false, strOfNums text⟩ [.bool false, .string (strOfNums text)] (fun _ => True) (fun _ => False) rfl rfl ?aP ?aK ?aF ?aO (Below.refl _ _) ?aS ?aL ?_)
    case aP => exact k43_mkM w base _ ⟨false, strOfNums text⟩
    case aK => exact fun k h => h.elim
    case aF => exact fun _ _ => trivial
    case aO => exact rl
    case aS => exact hbase
    case aL => omega
    intro v1 w1 r1 hb1 hg1 _
    have hl1 := blk_grown hl hg1 (Kd.R_ne rl hl (by decide))
    have ht1 := blk_grown ht hg1 (Kd.R_ne rl ht (by decide))
    have cl1 : w1.cell? ⟨bl, 0, none⟩ = some (.slice Al acc.length nl) := blk_cell hl1 0
    have ct1 : w1.cell? ⟨bt_, 0, none⟩ = some (.slice At text.length nt) := blk_cell ht1 0
    have fl1 := blk_frozen hl1 0
    have ft1 := blk_frozen ht1 0
    have hne : bl ≠ bt_ := hlt.2.2.2.2
    obtain ⟨A1, n1, rfl⟩ := Kd.R_slice r1
    have H1 := Lib.hid hl1
    have H2 := Lib.hid ht1
    have H3 := Lib.hid r1
    have H4 := Lib.hid hb1
    have H5 := Lib.hid hB
    clear hl1 ht1 r1 hb1 hB hg1 hl ht rl rt cl ct fl ft hconv hu hn
    go_wp2
    go_end0
    have hf : flushP text acc = acc ++ [⟨false, strOfNums text⟩] := by unfold flushP; rw [if_neg h0]
    refine ⟨rfl, ?_, ?_⟩
    · rw [hf]
      have h3 := H3.out
      simp only [List.length_append, List.length_cons, List.length_nil, Nat.zero_add] at h3
      exact Boxes.after_flush H1.out H2.out h3 ⟨hlt.1, blk_lt H1.out, hlt.2.2.1, blk_lt H2.out, hne⟩
    · exact ((H5.out.trans H4.out).setCell (p := ⟨bl, 0, none⟩) hlt.1 _).setCell (p := ⟨bt_, 0, none⟩) hlt.2.2.1 _
/-- No name's rune. -/
def notName (r : Nat) : Bool := !((tcl_names.f (r : Int)).getD false)
theorem names_some (c : Int) : ∃ b, tcl_names.f c = some b := by
  unfold tcl_names.f
  repeat' split
  all_goals exact ⟨_, rfl⟩
theorem notName_at (w : World) : PredAt Try.prog 116 #[] encR notName w := by
  intro W x _
  unfold FnGives
  obtain ⟨b, hb⟩ := names_some (x : Int)
  have hp : notName x = !b := by unfold notName; rw [hb]; rfl
  rw [hp]
  go_enter Try.func116, Try.ntmps116
  go_wp2_with (go_at_call 62; refine (tcl_names.calls _ b _ hb).mono ?_; rintro e w' ⟨rfl, ⟨hd⟩⟩; obtain ⟨q, rfl⟩ := hd)
  go_ret
  exact ⟨rfl, _, rfl⟩
/-- How many bytes of a text are a name's. -/
def nameLen (s : ByteArray) : Int := if Lib.idxFunc notName true s < 0 then (s.size : Int) else Lib.idxFunc notName true s

def tcl_parser_parts.l0 (stop : ByteArray) (frm : Int) (s : ByteArray) : Nat → Int → Int → Int → List Int → List S43 → Option (List S43 × ByteArray × Int × Int × Int)
  | 0, _, _, _, _, _ => none
  | k + 1, i, a, e, text, acc =>
    if 5864062014804 ≤ acc.length + 1 ∨ 140737488355327 ≤ text.length then none else
    if i < (s.size : Int) then
      if 0 ≤ i then
        (tcl_in.f stop (bt s i)).bind fun b =>
        if b = true then some (flushP text acc, s, i, a, e)
        else if bt s i = 91 then (tcl_parser_fail.f s i a e i 4).bind fun r => some (flushP text acc, r.1, r.2.1, r.2.2.1, r.2.2.2)
        else if bt s i = 92 then (quote_Escape.f 5 s i).bind fun x =>
          if x.2.2 = 0 then tcl_parser_parts.l0 stop frm s k x.2.1 a e (text ++ [x.1]) acc
          else (tcl_parser_fail.f s i a e (if frm < 0 then i else frm) 5).bind fun r => some (flushP text acc, r.1, r.2.1, r.2.2.1, r.2.2.2)
        else if bt s i = 36 then
          if nameLen (s.extract (i.toNat + 1) s.size) > 64 then (tcl_parser_fail.f s i a e i 6).bind fun r => some (flushP text acc, r.1, r.2.1, r.2.2.1, r.2.2.2)
          else if nameLen (s.extract (i.toNat + 1) s.size) = 0 then tcl_parser_parts.l0 stop frm s k (i + (1 + nameLen (s.extract (i.toNat + 1) s.size))) a e (text ++ [bt s i]) acc
          else tcl_parser_parts.l0 stop frm s k (i + (1 + nameLen (s.extract (i.toNat + 1) s.size))) a e [] (flushP text acc ++ [⟨true, (s.extract (i.toNat + 1) s.size).extract 0 (nameLen (s.extract (i.toNat + 1) s.size)).toNat⟩])
        else tcl_parser_parts.l0 stop frm s k (i + 1) a e (text ++ [bt s i]) acc
      else none
    else some (flushP text acc, s, i, a, e)
def tcl_parser_parts.f (s : ByteArray) (i a e : Int) (stop : ByteArray) (frm : Int) : Option (List S43 × ByteArray × Int × Int × Int) :=
  if s.size ≤ 4000000000000 then tcl_parser_parts.l0 stop frm s (s.size + 1) i a e [] [] else none

def tcl_parser_parts.T25 : Bool × List (List Nat × List Nat) := (true, [([], []), ([], []), ([], []), ([1, 2], [1, 2]), ([3], [3]), ([4], [4]), ([0, 5], [0, 5]), ([6, 6, 0, 1, 2, 3, 4, 5, 6], [6])])
def tcl_parser_parts.B25 : List Nat := [0, 0, 0, 6, 14, 30, 63, 127]
theorem tcl_parser_parts.tab25 : rtab .any (opsOf Try.f102 25) = tcl_parser_parts.T25 := by kernel_rfl
theorem tcl_parser_parts.bits25 : waitsOk tcl_parser_parts.T25.2 tcl_parser_parts.B25 = true := by kernel_rfl
/-- The loop's relation. -/
structure PInv (w0 w w' : World) (g : Nat) (s : ByteArray) (i a e : Int) (text : List Int) (acc : List S43) : Prop where
  st : IsS116 w0 w' g s i a e
  kb : KeepBut w w' g none
  hB : Below w0.heap.size w0 w'
  bx : Boxes w' w.heap.size w.heap.size (w.heap.size + 1) acc text
structure PPost (w0 w : World) (g : Nat) (r : List S43 × ByteArray × Int × Int × Int) (en : Ending) (w' : World) : Prop where
  p : ∃ v0_ : Value, en = .returned v0_ ∧ Kd.R k43 43 w' w.heap.size (fun _ => True) v0_ r.1 ∧ IsS116 w0 w' g r.2.1 r.2.2.1 r.2.2.2.1 r.2.2.2.2 ∧ Below w0.heap.size w0 w' ∧ KeepBut w w' g none


theorem Boxes.step {w w1 : World} {base bl bt_ : Nat} {acc : List S43} {text : List Int} (h : Boxes w base bl bt_ acc text) (hz : w.heap.size ≤ w1.heap.size) (hm : ∀ k, base ≤ k → k < w.heap.size → w1.heap[k]? = w.heap[k]?) : Boxes w1 base bl bt_ acc text := by
  obtain ⟨⟨vl, hl, rl⟩, ⟨vt, ht, rt⟩, h1, h2, h3, h4, h5⟩ := h
  exact ⟨⟨vl, (hm _ h1 h2).trans hl, Kd.R_mono (Kd.R_move (Kd.R_bound rl) (fun k hk => hm k hk.2.1 hk.2.2.1)) (fun _ hk => hk.1)⟩,
    ⟨vt, (hm _ h3 h4).trans ht, Kd.R_mono (Kd.R_move (Kd.R_bound rt) (fun k hk => hm k hk.2.1 hk.2.2.1)) (fun _ hk => hk.1)⟩, h1, by omega, h3, by omega, h5⟩
theorem fail_s {s q1 : ByteArray} {i a e at_ er q2 q3 q4 : Int} (h : tcl_parser_fail.f s i a e at_ er = some (q1, q2, q3, q4)) : q1 = s := by
  unfold tcl_parser_fail.f at h
  split at h <;> cases h <;> rfl
section
variable {w0 w w1 w2 : World} {g : Nat} {s : ByteArray} {i a e : Int} {text : List Int} {acc : List S43}
theorem PInv.drewN (h : PInv w0 w w1 g s i a e text acc) (m : Nat) : PInv w0 w (w1.drewN m) g s i a e text acc :=
  ⟨h.st.drewN m, keep_drewN h.kb m, pw_below_drewN h.hB m, h.bx.step (Nat.le_refl _) (fun _ _ _ => rfl)⟩
/-- The state has moved on by a call on it. -/
theorem PInv.call {i' a' e' : Int} (hg : g < w.heap.size) (h : PInv w0 w w1 g s i a e text acc) (st : IsS116 w0 w2 g s i' a' e') (hB : Below w0.heap.size w0 w2) (kb : KeepBut w1 w2 g none) : PInv w0 w w2 g s i' a' e' text acc :=
  ⟨st, KeepBut.trans h.kb kb (.inl rfl), hB, h.bx.step kb.1 (fun k hk hk2 => kb.2 k hk2 (by omega) (by simp))⟩
theorem PInv.set_i (hg : g < w.heap.size) (h : PInv w0 w w1 g s i a e text acc) (v : Int) : PInv w0 w (w1.setCell ⟨g, 1, none⟩ (.int .i64 v)) g s v a e text acc :=
  h.call hg (h.st.set_1 v) (h.hB.setCell h.st.ge _) ((KeepBut.refl _ _ _).set_ 1 _)
/-- What both boxes hold is changed, above w alone. -/
theorem PInv.boxes {text' : List Int} {acc' : List S43} (hg : g < w.heap.size) (h : PInv w0 w w1 g s i a e text acc) (hb : Below w.heap.size w1 w2) (bx : Boxes w2 w.heap.size w.heap.size (w.heap.size + 1) acc' text') : PInv w0 w w2 g s i a e text' acc' := by
  refine ⟨⟨(hb.block g hg).trans h.st.1, h.st.2⟩, ⟨Nat.le_trans h.kb.1 hb.size, fun k hk h1 h2 => (hb.block k hk).trans (h.kb.2 k hk h1 h2)⟩, ?_, bx⟩
  have hz : w0.heap.size ≤ w.heap.size := Nat.le_trans h.st.ge (by omega)
  exact h.hB.trans (hb.mono hz)
theorem PInv.below (hg : g < w.heap.size) (h : PInv w0 w w1 g s i a e text acc) (hb : Below w1.heap.size w1 w2) : PInv w0 w w2 g s i a e text acc :=
  h.call hg (h.st.below hb) (below_then h.hB h.hB.size hb) (KeepBut.of_below hb g none)
/-- A byte more: the append's law, then the store. -/
theorem PInv.push {vt v1 : Value} {c : Int} (hg : g < w.heap.size) (h : PInv w0 w w1 g s i a e text acc) (ht : w1.heap[w.heap.size + 1]? = some (.cells #[vt] 51 (0, 0))) (rt : Kb.R 5 w1 w.heap.size (fun _ => True) vt text)
    (r1 : Kb.R 5 w2 w.heap.size (fun _ => True) v1 (text ++ [c])) (hb1 : Below w.heap.size w1 w2) (hg1 : w1.grownBy w2 vt.ownBlock) :
    PInv w0 w (w2.setCell ⟨w.heap.size + 1, 0, none⟩ v1) g s i a e (text ++ [c]) acc := by
  obtain ⟨⟨vl, hl, rl⟩, _, hlt⟩ := h.bx
  have hl2 := blk_grown hl hg1 (Kd.R_ne rt hl (by decide))
  have ht2 := blk_grown ht hg1 (Kd.R_ne rt ht (by decide))
  refine h.boxes hg (hb1.setCell (p := ⟨w.heap.size + 1, 0, none⟩) (by simp) _) ⟨⟨vl, blk_far hl2 (p := ⟨w.heap.size + 1, 0, none⟩) (by simp) _, ?_⟩, ⟨v1, box_set ht2, Kd.R_set r1 ht2 (by decide) 0 _⟩, ?_⟩
  · exact Kd.R_set (Kd.R_over' rl (Kd.R_typed rt) (by decide) hg1) ht2 (by decide) 0 _
  · have := blk_lt ht2; simp [World.setCell]; omega
theorem PInv.fin {acc' : List S43} {v : Value} (hg : g < w.heap.size) (h : PInv w0 w w1 g s i a e text acc) (hb : Below w.heap.size w1 w2) (R : Kd.R k43 43 w2 w.heap.size (fun _ => True) v acc') :
    PPost w0 w g (acc', s, i, a, e) (.returned v) w2 :=
  ⟨⟨v, rfl, R, ⟨(hb.block g hg).trans h.st.1, h.st.2⟩, h.hB.trans (hb.mono (Nat.le_trans h.st.ge (by omega))), ⟨Nat.le_trans h.kb.1 hb.size, fun k hk h1 h2 => (hb.block k hk).trans (h.kb.2 k hk h1 h2)⟩⟩⟩
/-- A part more. -/
theorem PInv.pushPart {vl v1 : Value} {p : S43} (hg : g < w.heap.size) (h : PInv w0 w w1 g s i a e [] acc) (hl : w1.heap[w.heap.size]? = some (.cells #[vl] 39 (0, 0))) (rl : Kd.R k43 43 w1 w.heap.size (fun _ => True) vl acc)
    (r1 : Kd.R k43 43 w2 w.heap.size (fun _ => True) v1 (acc ++ [p])) (hb1 : Below w.heap.size w1 w2) (hg1 : w1.grownBy w2 vl.ownBlock) :
    PInv w0 w (w2.setCell ⟨w.heap.size, 0, none⟩ v1) g s i a e [] (acc ++ [p]) := by
  obtain ⟨_, ⟨vt, ht, rt⟩, hlt⟩ := h.bx
  have hl2 := blk_grown hl hg1 (Kd.R_ne rl hl (by decide))
  have ht2 := blk_grown ht hg1 (Kd.R_ne rl ht (by decide))
  refine h.boxes hg (hb1.setCell (p := ⟨w.heap.size, 0, none⟩) (by simp) _) ⟨⟨v1, box_set hl2, Kd.R_set r1 hl2 (by decide) 0 _⟩, ⟨vt, blk_far ht2 (p := ⟨w.heap.size, 0, none⟩) (by simp) _, ?_⟩, ?_⟩
  · exact Kd.R_set (Kd.R_over' rt (Kd.R_typed rl) (by decide) hg1) hl2 (by decide) 0 _
  · have := blk_lt ht2; simp [World.setCell]; omega
end
theorem PInv.start {w0 w : World} {g : Nat} {s : ByteArray} {i a e : Int} (hI : IsS116 w0 w g s i a e) (hB : Below w0.heap.size w0 w) :
    PInv w0 w ((w.alloc (.cells #[.slice none 0 0] 39)).alloc (.cells #[.slice none 0 0] 51)) g s i a e [] [] := by
  refine ⟨(hI.alloc _).alloc _, keep_alloc (keep_alloc (KeepBut.refl _ _ _) _) _, below_alloc (below_alloc hB _) _, ⟨_, ?_, Kd.R_nil _ _ _ _ _⟩, ⟨_, ?_, Kd.R_nil _ _ _ _ _⟩, by simp; omega⟩
  · exact blk_alloc (heap_alloc_new _ _) _
  · have := heap_alloc_new (w.alloc (.cells #[.slice none 0 0] 39)) (.cells #[.slice none 0 0] 51)
    rw [World.size_alloc] at this
    exact this
set_option maxHeartbeats 8000000 in
set_option maxRecDepth 1000000 in
theorem tcl_parser_parts.walk (g : Nat) (s : ByteArray) (i a e : Int) (stop : ByteArray) (frm : Int) (r : List S43 × ByteArray × Int × Int × Int) (w0 w : World) (hI : IsS116 w0 w g s i a e) (hB : Below w0.heap.size w0 w)
    (hs : s.size ≤ 4000000000000) (h : tcl_parser_parts.l0 stop frm s (s.size + 1) i a e [] [] = some r) :
    Calls Try.prog 102 #[.pointer (some ⟨g, 0, none⟩), .string stop, .int .i64 frm] w (PPost w0 w g r) := by
  have H0 := Aside0.mk h
  have HI0 := Aside0.mk hI
  have HB0 := Aside0.mk hB
  clear h hI hB
  go_enter Try.func102, Try.ntmps102
  go_wp2
  go_step3
  go_wp2
  go_step3
  go_wp2
  go_loopg [2] (s.size + 1) (fun kq v2 w' => ∃ (i1 a1 e1 : Int) (text : List Int) (acc : List S43), v2 = .int .i64 frm ∧ Aside0 (tcl_parser_parts.l0 stop frm s kq i1 a1 e1 text acc = some r) ∧ Aside0 (PInv w0 w w' g s i1 a1 e1 text acc))
  case atStart => exact ⟨i, a, e, [], [], rfl, H0, ⟨PInv.start HI0.out HB0.out⟩⟩
  case round =>
    obtain ⟨i1, a1, e1, text, acc, rfl, HA, HP⟩ := hrel
    cases gk with
    | zero => exact absurd HA.out (by simp [tcl_parser_parts.l0])
    | succ k1 =>
      have H := HA.out
      clear HA H0
      rw [tcl_parser_parts.l0] at H
      have hcap : ¬ (5864062014804 ≤ acc.length + 1 ∨ 140737488355327 ≤ text.length) := by
        intro hc
        rw [if_pos hc] at H
        cases H
      rw [if_neg hcap] at H
      have hcap1 : acc.length + 1 < 5864062014804 := by omega
      have hcap2 : text.length < 140737488355327 := by omega
      clear hcap
      have hgw : g < w.heap.size := HI0.out.lt
      obtain ⟨hst, hge⟩ := HP.out.st
      have c0 := cellS116_0 hst
      have c1 := cellS116_1 hst
      have f1 := blk_frozen hst 1
      obtain ⟨⟨vl, hl, rl⟩, ⟨vt, ht, rt⟩, _⟩ := HP.out.bx
      have cl : (wr).cell? ⟨w.heap.size, 0, none⟩ = some vl := blk_cell hl 0
      have ct : (wr).cell? ⟨w.heap.size + 1, 0, none⟩ = some vt := blk_cell ht 0
      have fl := blk_frozen hl 0
      have ft := blk_frozen ht 0
      obtain ⟨At, nt, rfl⟩ := Kd.R_slice rt
      obtain ⟨Al, nl, rfl⟩ := Kd.R_slice rl
      have HS := Lib.hid hst
      have HL := Lib.hid hl
      have HT := Lib.hid ht
      have RL := Lib.hid rl
      have RT := Lib.hid rt
      clear hst hl ht rl rt hge
      by_cases hi : i1 < (s.size : Int)
      · rw [if_pos hi] at H
        by_cases h0 : 0 ≤ i1
        · rw [if_pos h0] at H
          obtain ⟨b, hb, H⟩ := Option.bind_eq_some_iff.1 H
          have HIN := Aside0.mk hb
          clear hb
          have hbi : decide (i1 < (s.size : Int)) = true := decide_eq_true hi
          have hx := bt_at s i1
          have hbt := bt_range s i1
          have P0 := Lib.hid h0
          have Q0 := Lib.hid hi
          have hub : i1 < 4000000000000 := by omega
          have hlb : -1 < i1 := by omega
          replace h0 := eq_true h0
          replace hi := eq_true hi
          cases b with
          | true =>
            rw [if_pos rfl] at H
            obtain rfl := Option.some.inj H
            clear H
            go_wp2
            go_quiet (fail)
            generalize hqq : (wr).drewN nq = wa
            replace HP : Aside0 (PInv w0 w wa g s i1 a1 e1 text acc) := ⟨hqq ▸ HP.out.drewN nq⟩
            clear hqq c0 c1 f1 cl ct fl ft HS HL HT RL RT
            obtain ⟨hst, hge⟩ := HP.out.st
            have c0 := cellS116_0 hst
            have c1 := cellS116_1 hst
            have f1 := blk_frozen hst 1
            obtain ⟨⟨vl, hl, rl⟩, ⟨vt, ht, rt⟩, _⟩ := HP.out.bx
            have cl : (wa).cell? ⟨w.heap.size, 0, none⟩ = some vl := blk_cell hl 0
            have ct : (wa).cell? ⟨w.heap.size + 1, 0, none⟩ = some vt := blk_cell ht 0
            have fl := blk_frozen hl 0
            have ft := blk_frozen ht 0
            obtain ⟨At, nt, rfl⟩ := Kd.R_slice rt
            obtain ⟨Al, nl, rfl⟩ := Kd.R_slice rl
            have HS := Lib.hid hst
            have HL := Lib.hid hl
            have HT := Lib.hid ht
            have RL := Lib.hid rl
            have RT := Lib.hid rt
            clear hst hl ht rl rt hge
            go_wp2
            go_quiet (fail)
            generalize hqq : (wa).drewN nq = wb
            replace HP : Aside0 (PInv w0 w wb g s i1 a1 e1 text acc) := ⟨hqq ▸ HP.out.drewN nq⟩
            clear hqq c0 c1 f1 cl ct fl ft HS HL HT RL RT
            obtain ⟨hst, hge⟩ := HP.out.st
            have c0 := cellS116_0 hst
            have c1 := cellS116_1 hst
            have f1 := blk_frozen hst 1
            obtain ⟨⟨vl, hl, rl⟩, ⟨vt, ht, rt⟩, _⟩ := HP.out.bx
            have cl : (wb).cell? ⟨w.heap.size, 0, none⟩ = some vl := blk_cell hl 0
            have ct : (wb).cell? ⟨w.heap.size + 1, 0, none⟩ = some vt := blk_cell ht 0
            have fl := blk_frozen hl 0
            have ft := blk_frozen ht 0
            obtain ⟨At, nt, rfl⟩ := Kd.R_slice rt
            obtain ⟨Al, nl, rfl⟩ := Kd.R_slice rl
            have HS := Lib.hid hst
            have HL := Lib.hid hl
            have HT := Lib.hid ht
            have RL := Lib.hid rl
            have RT := Lib.hid rt
            clear hst hl ht rl rt hge
            go_wp2_with fail
            refine (tcl_in.calls _ _ true _ HIN.out).mono ?_
            rintro en wc ⟨rfl, ⟨q2, hq2⟩⟩
            replace HP : Aside0 (PInv w0 w wc g s i1 a1 e1 text acc) := ⟨by rw [hq2]; exact HP.out.drewN q2⟩
            clear hq2 c0 c1 f1 cl ct fl ft HS HL HT RL RT
            obtain ⟨hst, hge⟩ := HP.out.st
            have c0 := cellS116_0 hst
            have c1 := cellS116_1 hst
            have f1 := blk_frozen hst 1
            obtain ⟨⟨vl, hl, rl⟩, ⟨vt, ht, rt⟩, _⟩ := HP.out.bx
            have cl : (wc).cell? ⟨w.heap.size, 0, none⟩ = some vl := blk_cell hl 0
            have ct : (wc).cell? ⟨w.heap.size + 1, 0, none⟩ = some vt := blk_cell ht 0
            have fl := blk_frozen hl 0
            have ft := blk_frozen ht 0
            obtain ⟨At, nt, rfl⟩ := Kd.R_slice rt
            obtain ⟨Al, nl, rfl⟩ := Kd.R_slice rl
            have HS := Lib.hid hst
            have HL := Lib.hid hl
            have HT := Lib.hid ht
            have RL := Lib.hid rl
            have RT := Lib.hid rt
            clear hst hl ht rl rt hge
            go_wp2_with (go_at_call 114; refine (flush_calls w.heap.size w.heap.size (w.heap.size + 1) acc text _ _ HP.out.bx (Below.refl _ _) HP.out.kb.1 (by omega)).mono ?_; rintro en w' ⟨rfl, bx', hb'⟩; obtain ⟨⟨vl2, hl2, rl2⟩, _, _⟩ := bx'; have cl2 : w'.cell? ⟨w.heap.size, 0, none⟩ = some vl2 := blk_cell hl2 0; have R2 := Lib.hid rl2; have HB2 := Lib.hid hb'; clear hl2 rl2 hb')
            rw [Exit.noGoto_ret]
            go_ret
            exact (HP.out).fin hgw HB2.out R2.out
          | false =>
            rw [if_neg (by decide)] at H
            by_cases h91 : bt s i1 = 91
            · rw [if_pos h91] at H
              have h91b : (bt s i1 == 91) = true := beq_iff_eq.2 h91
              clear h91
              obtain ⟨⟨q1, q2, q3, q4⟩, hfr, H2⟩ := Option.bind_eq_some_iff.1 H
              have hq1 := fail_s hfr
              rw [hq1] at hfr H2
              have HF := Aside0.mk hfr
              have H3 := Option.some.inj H2
              dsimp only at H3
              clear hfr H H2 hq1
              subst H3
              go_wp2
              go_quiet (fail)
              generalize hqq : (wr).drewN nq = wa
              replace HP : Aside0 (PInv w0 w wa g s i1 a1 e1 text acc) := ⟨hqq ▸ HP.out.drewN nq⟩
              clear hqq c0 c1 f1 cl ct fl ft HS HL HT RL RT
              obtain ⟨hst, hge⟩ := HP.out.st
              have c0 := cellS116_0 hst
              have c1 := cellS116_1 hst
              have f1 := blk_frozen hst 1
              obtain ⟨⟨vl, hl, rl⟩, ⟨vt, ht, rt⟩, _⟩ := HP.out.bx
              have cl : (wa).cell? ⟨w.heap.size, 0, none⟩ = some vl := blk_cell hl 0
              have ct : (wa).cell? ⟨w.heap.size + 1, 0, none⟩ = some vt := blk_cell ht 0
              have fl := blk_frozen hl 0
              have ft := blk_frozen ht 0
              obtain ⟨At, nt, rfl⟩ := Kd.R_slice rt
              obtain ⟨Al, nl, rfl⟩ := Kd.R_slice rl
              have HS := Lib.hid hst
              have HL := Lib.hid hl
              have HT := Lib.hid ht
              have RL := Lib.hid rl
              have RT := Lib.hid rt
              clear hst hl ht rl rt hge
              go_wp2
              go_quiet (fail)
              generalize hqq : (wa).drewN nq = wb
              replace HP : Aside0 (PInv w0 w wb g s i1 a1 e1 text acc) := ⟨hqq ▸ HP.out.drewN nq⟩
              clear hqq c0 c1 f1 cl ct fl ft HS HL HT RL RT
              obtain ⟨hst, hge⟩ := HP.out.st
              have c0 := cellS116_0 hst
              have c1 := cellS116_1 hst
              have f1 := blk_frozen hst 1
              obtain ⟨⟨vl, hl, rl⟩, ⟨vt, ht, rt⟩, _⟩ := HP.out.bx
              have cl : (wb).cell? ⟨w.heap.size, 0, none⟩ = some vl := blk_cell hl 0
              have ct : (wb).cell? ⟨w.heap.size + 1, 0, none⟩ = some vt := blk_cell ht 0
              have fl := blk_frozen hl 0
              have ft := blk_frozen ht 0
              obtain ⟨At, nt, rfl⟩ := Kd.R_slice rt
              obtain ⟨Al, nl, rfl⟩ := Kd.R_slice rl
              have HS := Lib.hid hst
              have HL := Lib.hid hl
              have HT := Lib.hid ht
              have RL := Lib.hid rl
              have RT := Lib.hid rt
              clear hst hl ht rl rt hge
              go_wp2_with fail
              refine (tcl_in.calls _ _ false _ HIN.out).mono ?_
              rintro en wc ⟨rfl, ⟨q2, hq2⟩⟩
              replace HP : Aside0 (PInv w0 w wc g s i1 a1 e1 text acc) := ⟨by rw [hq2]; exact HP.out.drewN q2⟩
              clear hq2 c0 c1 f1 cl ct fl ft HS HL HT RL RT
              obtain ⟨hst, hge⟩ := HP.out.st
              have c0 := cellS116_0 hst
              have c1 := cellS116_1 hst
              have f1 := blk_frozen hst 1
              obtain ⟨⟨vl, hl, rl⟩, ⟨vt, ht, rt⟩, _⟩ := HP.out.bx
              have cl : (wc).cell? ⟨w.heap.size, 0, none⟩ = some vl := blk_cell hl 0
              have ct : (wc).cell? ⟨w.heap.size + 1, 0, none⟩ = some vt := blk_cell ht 0
              have fl := blk_frozen hl 0
              have ft := blk_frozen ht 0
              obtain ⟨At, nt, rfl⟩ := Kd.R_slice rt
              obtain ⟨Al, nl, rfl⟩ := Kd.R_slice rl
              have HS := Lib.hid hst
              have HL := Lib.hid hl
              have HT := Lib.hid ht
              have RL := Lib.hid rl
              have RT := Lib.hid rt
              clear hst hl ht rl rt hge
              go_wp2_with (first | (go_at_call 103; refine (tcl_parser_fail.calls g _ _ _ _ _ _ _ _ _ _ w0 _ HP.out.st HP.out.hB HF.out).mono ?_; rintro en w' ⟨rfl, st', hB', kb'⟩; have HP2 := Aside0.mk (HP.out.call hgw st' hB' kb'); clear st' hB' kb') | (go_at_call 114; refine (flush_calls w.heap.size w.heap.size (w.heap.size + 1) acc text _ _ HP2.out.bx (Below.refl _ _) HP2.out.kb.1 (by omega)).mono ?_; rintro en w' ⟨rfl, bx', hb'⟩; obtain ⟨⟨vl2, hl2, rl2⟩, _, _⟩ := bx'; have cl2 : w'.cell? ⟨w.heap.size, 0, none⟩ = some vl2 := blk_cell hl2 0; have R2 := Lib.hid rl2; have HB2 := Lib.hid hb'; clear hl2 rl2 hb'))
              rw [Exit.noGoto_ret]
              go_ret
              exact (HP2.out).fin hgw HB2.out R2.out
            · rw [if_neg h91] at H
              have h91b : (bt s i1 == 91) = false := beq_eq_false_iff_ne.2 h91
              clear h91
              by_cases h92 : bt s i1 = 92
              · rw [if_pos h92] at H
                have h92b : (bt s i1 == 92) = true := beq_iff_eq.2 h92
                clear h92
                obtain ⟨⟨x1, x2, x3⟩, hE, H⟩ := Option.bind_eq_some_iff.1 H
                have HE := Aside0.mk hE
                clear hE
                by_cases hx3 : x3 = 0
                · rw [if_pos hx3] at H
                  have hx3b : (x3 != 0) = false := by simp [hx3]
                  have H' := Aside0.mk H
                  clear H hx3
                  go_wp2
                  go_quiet (fail)
                  generalize hqq : (wr).drewN nq = wa
                  replace HP : Aside0 (PInv w0 w wa g s i1 a1 e1 text acc) := ⟨hqq ▸ HP.out.drewN nq⟩
                  clear hqq c0 c1 f1 cl ct fl ft HS HL HT RL RT
                  obtain ⟨hst, hge⟩ := HP.out.st
                  have c0 := cellS116_0 hst
                  have c1 := cellS116_1 hst
                  have f1 := blk_frozen hst 1
                  obtain ⟨⟨vl, hl, rl⟩, ⟨vt, ht, rt⟩, _⟩ := HP.out.bx
                  have cl : (wa).cell? ⟨w.heap.size, 0, none⟩ = some vl := blk_cell hl 0
                  have ct : (wa).cell? ⟨w.heap.size + 1, 0, none⟩ = some vt := blk_cell ht 0
                  have fl := blk_frozen hl 0
                  have ft := blk_frozen ht 0
                  obtain ⟨At, nt, rfl⟩ := Kd.R_slice rt
                  obtain ⟨Al, nl, rfl⟩ := Kd.R_slice rl
                  have HS := Lib.hid hst
                  have HL := Lib.hid hl
                  have HT := Lib.hid ht
                  have RL := Lib.hid rl
                  have RT := Lib.hid rt
                  clear hst hl ht rl rt hge
                  go_wp2
                  go_quiet (fail)
                  generalize hqq : (wa).drewN nq = wb
                  replace HP : Aside0 (PInv w0 w wb g s i1 a1 e1 text acc) := ⟨hqq ▸ HP.out.drewN nq⟩
                  clear hqq c0 c1 f1 cl ct fl ft HS HL HT RL RT
                  obtain ⟨hst, hge⟩ := HP.out.st
                  have c0 := cellS116_0 hst
                  have c1 := cellS116_1 hst
                  have f1 := blk_frozen hst 1
                  obtain ⟨⟨vl, hl, rl⟩, ⟨vt, ht, rt⟩, _⟩ := HP.out.bx
                  have cl : (wb).cell? ⟨w.heap.size, 0, none⟩ = some vl := blk_cell hl 0
                  have ct : (wb).cell? ⟨w.heap.size + 1, 0, none⟩ = some vt := blk_cell ht 0
                  have fl := blk_frozen hl 0
                  have ft := blk_frozen ht 0
                  obtain ⟨At, nt, rfl⟩ := Kd.R_slice rt
                  obtain ⟨Al, nl, rfl⟩ := Kd.R_slice rl
                  have HS := Lib.hid hst
                  have HL := Lib.hid hl
                  have HT := Lib.hid ht
                  have RL := Lib.hid rl
                  have RT := Lib.hid rt
                  clear hst hl ht rl rt hge
                  go_wp2_with fail
                  refine (tcl_in.calls _ _ false _ HIN.out).mono ?_
                  rintro en wc ⟨rfl, ⟨q2, hq2⟩⟩
                  replace HP : Aside0 (PInv w0 w wc g s i1 a1 e1 text acc) := ⟨by rw [hq2]; exact HP.out.drewN q2⟩
                  clear hq2 c0 c1 f1 cl ct fl ft HS HL HT RL RT
                  obtain ⟨hst, hge⟩ := HP.out.st
                  have c0 := cellS116_0 hst
                  have c1 := cellS116_1 hst
                  have f1 := blk_frozen hst 1
                  obtain ⟨⟨vl, hl, rl⟩, ⟨vt, ht, rt⟩, _⟩ := HP.out.bx
                  have cl : (wc).cell? ⟨w.heap.size, 0, none⟩ = some vl := blk_cell hl 0
                  have ct : (wc).cell? ⟨w.heap.size + 1, 0, none⟩ = some vt := blk_cell ht 0
                  have fl := blk_frozen hl 0
                  have ft := blk_frozen ht 0
                  obtain ⟨At, nt, rfl⟩ := Kd.R_slice rt
                  obtain ⟨Al, nl, rfl⟩ := Kd.R_slice rl
                  have HS := Lib.hid hst
                  have HL := Lib.hid hl
                  have HT := Lib.hid ht
                  have RL := Lib.hid rl
                  have RT := Lib.hid rt
                  clear hst hl ht rl rt hge
                  go_wp2
                  go_quiet ((go_at_call 115; refine Calls.quiet_of (v := .tuple #[.int .u8 x1, .int .i64 x2, .int .i64 x3]) ((quote_Escape.calls 5 s i1 x1 x2 x3 _ HE.out).mono ?_); rintro en w' ⟨rfl, ⟨q3, rfl⟩⟩; exact ⟨rfl, q3, rfl⟩))
                  generalize hqq : (wc).drewN nq = wd
                  replace HP : Aside0 (PInv w0 w wd g s i1 a1 e1 text acc) := ⟨hqq ▸ HP.out.drewN nq⟩
                  clear hqq c0 c1 f1 cl ct fl ft HS HL HT RL RT
                  obtain ⟨hst, hge⟩ := HP.out.st
                  have c0 := cellS116_0 hst
                  have c1 := cellS116_1 hst
                  have f1 := blk_frozen hst 1
                  obtain ⟨⟨vl, hl, rl⟩, ⟨vt, ht, rt⟩, _⟩ := HP.out.bx
                  have cl : (wd).cell? ⟨w.heap.size, 0, none⟩ = some vl := blk_cell hl 0
                  have ct : (wd).cell? ⟨w.heap.size + 1, 0, none⟩ = some vt := blk_cell ht 0
                  have fl := blk_frozen hl 0
                  have ft := blk_frozen ht 0
                  obtain ⟨At, nt, rfl⟩ := Kd.R_slice rt
                  obtain ⟨Al, nl, rfl⟩ := Kd.R_slice rl
                  have HS := Lib.hid hst
                  have HL := Lib.hid hl
                  have HT := Lib.hid ht
                  have RL := Lib.hid rl
                  have RT := Lib.hid rt
                  clear hst hl ht rl rt hge
                  go_wp2_with (at_builtin; refine Kd.R_append Kb w.heap.size rfl (.tmp 87) (.tmp 89) 51 5 (.int .u8 0) 1 rfl Try.underlying51 info5 rfl (by decide) (by omega) (.slice At text.length nt) text x1 [.int .u8 x1] (fun _ => True) (fun _ => False) rfl rfl rfl (fun _ h => h.elim) (fun _ _ => trivial) RT.out (Below.refl _ _) HP.out.kb.1 (by omega) ?_; intro v1 w1 r1 hb1 hg1 _; have ht1 := blk_grown HT.out hg1 (Kd.R_ne RT.out HT.out (by decide)); have hs1 := (hb1.block g hgw).trans HS.out; have ct1 : w1.cell? ⟨w.heap.size + 1, 0, none⟩ = some (.slice At text.length nt) := blk_cell ht1 0; have ft1 := blk_frozen ht1 0; have c11 := cellS116_1 hs1; have f11 := blk_frozen hs1 1; have HP2 := Aside0.mk (HP.out.push hgw HT.out RT.out r1 hb1 hg1); obtain ⟨A1, n1, rfl⟩ := Kd.R_slice r1; simp only [List.length_append, List.length_cons, List.length_nil, Nat.zero_add] at HP2; clear ht1 hs1 hb1 hg1 r1)
                  go_roundg k1
                  case measure => omega
                  case rel => exact ⟨_, _, _, _, _, rfl, ⟨H'.out⟩, ⟨HP2.out.set_i hgw _⟩⟩
                · rw [if_neg hx3] at H
                  have hx3b : (x3 != 0) = true := by simp [hx3]
                  clear hx3
                  by_cases hfm : frm < 0
                  · rw [if_pos hfm] at H
                    have hfmb : decide (frm < 0) = true := decide_eq_true hfm
                    clear hfm
                    obtain ⟨⟨q1, q2, q3, q4⟩, hfr, H2⟩ := Option.bind_eq_some_iff.1 H
                    have hq1 := fail_s hfr
                    rw [hq1] at hfr H2
                    have HF := Aside0.mk hfr
                    have H3 := Option.some.inj H2
                    dsimp only at H3
                    clear hfr H H2 hq1
                    subst H3
                    go_wp2
                    go_quiet (fail)
                    generalize hqq : (wr).drewN nq = wa
                    replace HP : Aside0 (PInv w0 w wa g s i1 a1 e1 text acc) := ⟨hqq ▸ HP.out.drewN nq⟩
                    clear hqq c0 c1 f1 cl ct fl ft HS HL HT RL RT
                    obtain ⟨hst, hge⟩ := HP.out.st
                    have c0 := cellS116_0 hst
                    have c1 := cellS116_1 hst
                    have f1 := blk_frozen hst 1
                    obtain ⟨⟨vl, hl, rl⟩, ⟨vt, ht, rt⟩, _⟩ := HP.out.bx
                    have cl : (wa).cell? ⟨w.heap.size, 0, none⟩ = some vl := blk_cell hl 0
                    have ct : (wa).cell? ⟨w.heap.size + 1, 0, none⟩ = some vt := blk_cell ht 0
                    have fl := blk_frozen hl 0
                    have ft := blk_frozen ht 0
                    obtain ⟨At, nt, rfl⟩ := Kd.R_slice rt
                    obtain ⟨Al, nl, rfl⟩ := Kd.R_slice rl
                    have HS := Lib.hid hst
                    have HL := Lib.hid hl
                    have HT := Lib.hid ht
                    have RL := Lib.hid rl
                    have RT := Lib.hid rt
                    clear hst hl ht rl rt hge
                    go_wp2
                    go_quiet (fail)
                    generalize hqq : (wa).drewN nq = wb
                    replace HP : Aside0 (PInv w0 w wb g s i1 a1 e1 text acc) := ⟨hqq ▸ HP.out.drewN nq⟩
                    clear hqq c0 c1 f1 cl ct fl ft HS HL HT RL RT
                    obtain ⟨hst, hge⟩ := HP.out.st
                    have c0 := cellS116_0 hst
                    have c1 := cellS116_1 hst
                    have f1 := blk_frozen hst 1
                    obtain ⟨⟨vl, hl, rl⟩, ⟨vt, ht, rt⟩, _⟩ := HP.out.bx
                    have cl : (wb).cell? ⟨w.heap.size, 0, none⟩ = some vl := blk_cell hl 0
                    have ct : (wb).cell? ⟨w.heap.size + 1, 0, none⟩ = some vt := blk_cell ht 0
                    have fl := blk_frozen hl 0
                    have ft := blk_frozen ht 0
                    obtain ⟨At, nt, rfl⟩ := Kd.R_slice rt
                    obtain ⟨Al, nl, rfl⟩ := Kd.R_slice rl
                    have HS := Lib.hid hst
                    have HL := Lib.hid hl
                    have HT := Lib.hid ht
                    have RL := Lib.hid rl
                    have RT := Lib.hid rt
                    clear hst hl ht rl rt hge
                    go_wp2_with fail
                    refine (tcl_in.calls _ _ false _ HIN.out).mono ?_
                    rintro en wc ⟨rfl, ⟨q2, hq2⟩⟩
                    replace HP : Aside0 (PInv w0 w wc g s i1 a1 e1 text acc) := ⟨by rw [hq2]; exact HP.out.drewN q2⟩
                    clear hq2 c0 c1 f1 cl ct fl ft HS HL HT RL RT
                    obtain ⟨hst, hge⟩ := HP.out.st
                    have c0 := cellS116_0 hst
                    have c1 := cellS116_1 hst
                    have f1 := blk_frozen hst 1
                    obtain ⟨⟨vl, hl, rl⟩, ⟨vt, ht, rt⟩, _⟩ := HP.out.bx
                    have cl : (wc).cell? ⟨w.heap.size, 0, none⟩ = some vl := blk_cell hl 0
                    have ct : (wc).cell? ⟨w.heap.size + 1, 0, none⟩ = some vt := blk_cell ht 0
                    have fl := blk_frozen hl 0
                    have ft := blk_frozen ht 0
                    obtain ⟨At, nt, rfl⟩ := Kd.R_slice rt
                    obtain ⟨Al, nl, rfl⟩ := Kd.R_slice rl
                    have HS := Lib.hid hst
                    have HL := Lib.hid hl
                    have HT := Lib.hid ht
                    have RL := Lib.hid rl
                    have RT := Lib.hid rt
                    clear hst hl ht rl rt hge
                    go_wp2
                    go_quiet ((go_at_call 115; refine Calls.quiet_of (v := .tuple #[.int .u8 x1, .int .i64 x2, .int .i64 x3]) ((quote_Escape.calls 5 s i1 x1 x2 x3 _ HE.out).mono ?_); rintro en w' ⟨rfl, ⟨q3, rfl⟩⟩; exact ⟨rfl, q3, rfl⟩))
                    generalize hqq : (wc).drewN nq = wd
                    replace HP : Aside0 (PInv w0 w wd g s i1 a1 e1 text acc) := ⟨hqq ▸ HP.out.drewN nq⟩
                    clear hqq c0 c1 f1 cl ct fl ft HS HL HT RL RT
                    obtain ⟨hst, hge⟩ := HP.out.st
                    have c0 := cellS116_0 hst
                    have c1 := cellS116_1 hst
                    have f1 := blk_frozen hst 1
                    obtain ⟨⟨vl, hl, rl⟩, ⟨vt, ht, rt⟩, _⟩ := HP.out.bx
                    have cl : (wd).cell? ⟨w.heap.size, 0, none⟩ = some vl := blk_cell hl 0
                    have ct : (wd).cell? ⟨w.heap.size + 1, 0, none⟩ = some vt := blk_cell ht 0
                    have fl := blk_frozen hl 0
                    have ft := blk_frozen ht 0
                    obtain ⟨At, nt, rfl⟩ := Kd.R_slice rt
                    obtain ⟨Al, nl, rfl⟩ := Kd.R_slice rl
                    have HS := Lib.hid hst
                    have HL := Lib.hid hl
                    have HT := Lib.hid ht
                    have RL := Lib.hid rl
                    have RT := Lib.hid rt
                    clear hst hl ht rl rt hge
                    go_wp2_with (first | (go_at_call 103; refine (tcl_parser_fail.calls g _ _ _ _ _ _ _ _ _ _ w0 _ HP.out.st HP.out.hB HF.out).mono ?_; rintro en w' ⟨rfl, st', hB', kb'⟩; have HP2 := Aside0.mk (HP.out.call hgw st' hB' kb'); clear st' hB' kb') | (go_at_call 114; refine (flush_calls w.heap.size w.heap.size (w.heap.size + 1) acc text _ _ HP2.out.bx (Below.refl _ _) HP2.out.kb.1 (by omega)).mono ?_; rintro en w' ⟨rfl, bx', hb'⟩; obtain ⟨⟨vl2, hl2, rl2⟩, _, _⟩ := bx'; have cl2 : w'.cell? ⟨w.heap.size, 0, none⟩ = some vl2 := blk_cell hl2 0; have R2 := Lib.hid rl2; have HB2 := Lib.hid hb'; clear hl2 rl2 hb'))
                    rw [Exit.noGoto_ret]
                    go_ret
                    exact (HP2.out).fin hgw HB2.out R2.out
                  · rw [if_neg hfm] at H
                    have hfmb : decide (frm < 0) = false := decide_eq_false hfm
                    clear hfm
                    obtain ⟨⟨q1, q2, q3, q4⟩, hfr, H2⟩ := Option.bind_eq_some_iff.1 H
                    have hq1 := fail_s hfr
                    rw [hq1] at hfr H2
                    have HF := Aside0.mk hfr
                    have H3 := Option.some.inj H2
                    dsimp only at H3
                    clear hfr H H2 hq1
                    subst H3
                    go_wp2
                    go_quiet (fail)
                    generalize hqq : (wr).drewN nq = wa
                    replace HP : Aside0 (PInv w0 w wa g s i1 a1 e1 text acc) := ⟨hqq ▸ HP.out.drewN nq⟩
                    clear hqq c0 c1 f1 cl ct fl ft HS HL HT RL RT
                    obtain ⟨hst, hge⟩ := HP.out.st
                    have c0 := cellS116_0 hst
                    have c1 := cellS116_1 hst
                    have f1 := blk_frozen hst 1
                    obtain ⟨⟨vl, hl, rl⟩, ⟨vt, ht, rt⟩, _⟩ := HP.out.bx
                    have cl : (wa).cell? ⟨w.heap.size, 0, none⟩ = some vl := blk_cell hl 0
                    have ct : (wa).cell? ⟨w.heap.size + 1, 0, none⟩ = some vt := blk_cell ht 0
                    have fl := blk_frozen hl 0
                    have ft := blk_frozen ht 0
                    obtain ⟨At, nt, rfl⟩ := Kd.R_slice rt
                    obtain ⟨Al, nl, rfl⟩ := Kd.R_slice rl
                    have HS := Lib.hid hst
                    have HL := Lib.hid hl
                    have HT := Lib.hid ht
                    have RL := Lib.hid rl
                    have RT := Lib.hid rt
                    clear hst hl ht rl rt hge
                    go_wp2
                    go_quiet (fail)
                    generalize hqq : (wa).drewN nq = wb
                    replace HP : Aside0 (PInv w0 w wb g s i1 a1 e1 text acc) := ⟨hqq ▸ HP.out.drewN nq⟩
                    clear hqq c0 c1 f1 cl ct fl ft HS HL HT RL RT
                    obtain ⟨hst, hge⟩ := HP.out.st
                    have c0 := cellS116_0 hst
                    have c1 := cellS116_1 hst
                    have f1 := blk_frozen hst 1
                    obtain ⟨⟨vl, hl, rl⟩, ⟨vt, ht, rt⟩, _⟩ := HP.out.bx
                    have cl : (wb).cell? ⟨w.heap.size, 0, none⟩ = some vl := blk_cell hl 0
                    have ct : (wb).cell? ⟨w.heap.size + 1, 0, none⟩ = some vt := blk_cell ht 0
                    have fl := blk_frozen hl 0
                    have ft := blk_frozen ht 0
                    obtain ⟨At, nt, rfl⟩ := Kd.R_slice rt
                    obtain ⟨Al, nl, rfl⟩ := Kd.R_slice rl
                    have HS := Lib.hid hst
                    have HL := Lib.hid hl
                    have HT := Lib.hid ht
                    have RL := Lib.hid rl
                    have RT := Lib.hid rt
                    clear hst hl ht rl rt hge
                    go_wp2_with fail
                    refine (tcl_in.calls _ _ false _ HIN.out).mono ?_
                    rintro en wc ⟨rfl, ⟨q2, hq2⟩⟩
                    replace HP : Aside0 (PInv w0 w wc g s i1 a1 e1 text acc) := ⟨by rw [hq2]; exact HP.out.drewN q2⟩
                    clear hq2 c0 c1 f1 cl ct fl ft HS HL HT RL RT
                    obtain ⟨hst, hge⟩ := HP.out.st
                    have c0 := cellS116_0 hst
                    have c1 := cellS116_1 hst
                    have f1 := blk_frozen hst 1
                    obtain ⟨⟨vl, hl, rl⟩, ⟨vt, ht, rt⟩, _⟩ := HP.out.bx
                    have cl : (wc).cell? ⟨w.heap.size, 0, none⟩ = some vl := blk_cell hl 0
                    have ct : (wc).cell? ⟨w.heap.size + 1, 0, none⟩ = some vt := blk_cell ht 0
                    have fl := blk_frozen hl 0
                    have ft := blk_frozen ht 0
                    obtain ⟨At, nt, rfl⟩ := Kd.R_slice rt
                    obtain ⟨Al, nl, rfl⟩ := Kd.R_slice rl
                    have HS := Lib.hid hst
                    have HL := Lib.hid hl
                    have HT := Lib.hid ht
                    have RL := Lib.hid rl
                    have RT := Lib.hid rt
                    clear hst hl ht rl rt hge
                    go_wp2
                    go_quiet ((go_at_call 115; refine Calls.quiet_of (v := .tuple #[.int .u8 x1, .int .i64 x2, .int .i64 x3]) ((quote_Escape.calls 5 s i1 x1 x2 x3 _ HE.out).mono ?_); rintro en w' ⟨rfl, ⟨q3, rfl⟩⟩; exact ⟨rfl, q3, rfl⟩))
                    generalize hqq : (wc).drewN nq = wd
                    replace HP : Aside0 (PInv w0 w wd g s i1 a1 e1 text acc) := ⟨hqq ▸ HP.out.drewN nq⟩
                    clear hqq c0 c1 f1 cl ct fl ft HS HL HT RL RT
                    obtain ⟨hst, hge⟩ := HP.out.st
                    have c0 := cellS116_0 hst
                    have c1 := cellS116_1 hst
                    have f1 := blk_frozen hst 1
                    obtain ⟨⟨vl, hl, rl⟩, ⟨vt, ht, rt⟩, _⟩ := HP.out.bx
                    have cl : (wd).cell? ⟨w.heap.size, 0, none⟩ = some vl := blk_cell hl 0
                    have ct : (wd).cell? ⟨w.heap.size + 1, 0, none⟩ = some vt := blk_cell ht 0
                    have fl := blk_frozen hl 0
                    have ft := blk_frozen ht 0
                    obtain ⟨At, nt, rfl⟩ := Kd.R_slice rt
                    obtain ⟨Al, nl, rfl⟩ := Kd.R_slice rl
                    have HS := Lib.hid hst
                    have HL := Lib.hid hl
                    have HT := Lib.hid ht
                    have RL := Lib.hid rl
                    have RT := Lib.hid rt
                    clear hst hl ht rl rt hge
                    go_wp2_with (first | (go_at_call 103; refine (tcl_parser_fail.calls g _ _ _ _ _ _ _ _ _ _ w0 _ HP.out.st HP.out.hB HF.out).mono ?_; rintro en w' ⟨rfl, st', hB', kb'⟩; have HP2 := Aside0.mk (HP.out.call hgw st' hB' kb'); clear st' hB' kb') | (go_at_call 114; refine (flush_calls w.heap.size w.heap.size (w.heap.size + 1) acc text _ _ HP2.out.bx (Below.refl _ _) HP2.out.kb.1 (by omega)).mono ?_; rintro en w' ⟨rfl, bx', hb'⟩; obtain ⟨⟨vl2, hl2, rl2⟩, _, _⟩ := bx'; have cl2 : w'.cell? ⟨w.heap.size, 0, none⟩ = some vl2 := blk_cell hl2 0; have R2 := Lib.hid rl2; have HB2 := Lib.hid hb'; clear hl2 rl2 hb'))
                    rw [Exit.noGoto_ret]
                    go_ret
                    exact (HP2.out).fin hgw HB2.out R2.out
              · rw [if_neg h92] at H
                have h92b : (bt s i1 == 92) = false := beq_eq_false_iff_ne.2 h92
                clear h92
                by_cases h36 : bt s i1 = 36
                · rw [if_pos h36] at H
                  have h36b : (bt s i1 == 36) = true := beq_iff_eq.2 h36
                  clear h36
                  go_wp2
                  go_quiet (fail)
                  generalize hqq : (wr).drewN nq = wa
                  replace HP : Aside0 (PInv w0 w wa g s i1 a1 e1 text acc) := ⟨hqq ▸ HP.out.drewN nq⟩
                  clear hqq c0 c1 f1 cl ct fl ft HS HL HT RL RT
                  obtain ⟨hst, hge⟩ := HP.out.st
                  have c0 := cellS116_0 hst
                  have c1 := cellS116_1 hst
                  have f1 := blk_frozen hst 1
                  obtain ⟨⟨vl, hl, rl⟩, ⟨vt, ht, rt⟩, _⟩ := HP.out.bx
                  have cl : (wa).cell? ⟨w.heap.size, 0, none⟩ = some vl := blk_cell hl 0
                  have ct : (wa).cell? ⟨w.heap.size + 1, 0, none⟩ = some vt := blk_cell ht 0
                  have fl := blk_frozen hl 0
                  have ft := blk_frozen ht 0
                  obtain ⟨At, nt, rfl⟩ := Kd.R_slice rt
                  obtain ⟨Al, nl, rfl⟩ := Kd.R_slice rl
                  have HS := Lib.hid hst
                  have HL := Lib.hid hl
                  have HT := Lib.hid ht
                  have RL := Lib.hid rl
                  have RT := Lib.hid rt
                  clear hst hl ht rl rt hge
                  go_wp2
                  go_quiet (fail)
                  generalize hqq : (wa).drewN nq = wb
                  replace HP : Aside0 (PInv w0 w wb g s i1 a1 e1 text acc) := ⟨hqq ▸ HP.out.drewN nq⟩
                  clear hqq c0 c1 f1 cl ct fl ft HS HL HT RL RT
                  obtain ⟨hst, hge⟩ := HP.out.st
                  have c0 := cellS116_0 hst
                  have c1 := cellS116_1 hst
                  have f1 := blk_frozen hst 1
                  obtain ⟨⟨vl, hl, rl⟩, ⟨vt, ht, rt⟩, _⟩ := HP.out.bx
                  have cl : (wb).cell? ⟨w.heap.size, 0, none⟩ = some vl := blk_cell hl 0
                  have ct : (wb).cell? ⟨w.heap.size + 1, 0, none⟩ = some vt := blk_cell ht 0
                  have fl := blk_frozen hl 0
                  have ft := blk_frozen ht 0
                  obtain ⟨At, nt, rfl⟩ := Kd.R_slice rt
                  obtain ⟨Al, nl, rfl⟩ := Kd.R_slice rl
                  have HS := Lib.hid hst
                  have HL := Lib.hid hl
                  have HT := Lib.hid ht
                  have RL := Lib.hid rl
                  have RT := Lib.hid rt
                  clear hst hl ht rl rt hge
                  go_wp2_with fail
                  refine (tcl_in.calls _ _ false _ HIN.out).mono ?_
                  rintro en wc ⟨rfl, ⟨q2, hq2⟩⟩
                  replace HP : Aside0 (PInv w0 w wc g s i1 a1 e1 text acc) := ⟨by rw [hq2]; exact HP.out.drewN q2⟩
                  clear hq2 c0 c1 f1 cl ct fl ft HS HL HT RL RT
                  obtain ⟨hst, hge⟩ := HP.out.st
                  have c0 := cellS116_0 hst
                  have c1 := cellS116_1 hst
                  have f1 := blk_frozen hst 1
                  obtain ⟨⟨vl, hl, rl⟩, ⟨vt, ht, rt⟩, _⟩ := HP.out.bx
                  have cl : (wc).cell? ⟨w.heap.size, 0, none⟩ = some vl := blk_cell hl 0
                  have ct : (wc).cell? ⟨w.heap.size + 1, 0, none⟩ = some vt := blk_cell ht 0
                  have fl := blk_frozen hl 0
                  have ft := blk_frozen ht 0
                  obtain ⟨At, nt, rfl⟩ := Kd.R_slice rt
                  obtain ⟨Al, nl, rfl⟩ := Kd.R_slice rl
                  have HS := Lib.hid hst
                  have HL := Lib.hid hl
                  have HT := Lib.hid ht
                  have RL := Lib.hid rl
                  have RT := Lib.hid rt
                  clear hst hl ht rl rt hge
                  go_wp2
                  have hw1 : IntKind.i64.wrap (i1 + 1) = i1 + 1 := IntWalk.i64_in _ (by omega)
                  have hw2 : 0 ≤ i1 + 1 := by omega
                  have hw3 : (i1 + 1).toNat = i1.toNat + 1 := by have := P0.out; omega
                  have hw4 : i1 + 1 ≤ (s.size : Int) := by have := Q0.out; omega
                  go_quiet (fail)
                  generalize hqq : (wc).drewN nq = wd
                  replace HP : Aside0 (PInv w0 w wd g s i1 a1 e1 text acc) := ⟨hqq ▸ HP.out.drewN nq⟩
                  clear hqq c0 c1 f1 cl ct fl ft HS HL HT RL RT
                  obtain ⟨hst, hge⟩ := HP.out.st
                  have c0 := cellS116_0 hst
                  have c1 := cellS116_1 hst
                  have f1 := blk_frozen hst 1
                  obtain ⟨⟨vl, hl, rl⟩, ⟨vt, ht, rt⟩, _⟩ := HP.out.bx
                  have cl : (wd).cell? ⟨w.heap.size, 0, none⟩ = some vl := blk_cell hl 0
                  have ct : (wd).cell? ⟨w.heap.size + 1, 0, none⟩ = some vt := blk_cell ht 0
                  have fl := blk_frozen hl 0
                  have ft := blk_frozen ht 0
                  obtain ⟨At, nt, rfl⟩ := Kd.R_slice rt
                  obtain ⟨Al, nl, rfl⟩ := Kd.R_slice rl
                  have HS := Lib.hid hst
                  have HL := Lib.hid hl
                  have HT := Lib.hid ht
                  have RL := Lib.hid rl
                  have RT := Lib.hid rt
                  clear hst hl ht rl rt hge
                  clear hw1 hw3 hw2
                  go_wp2_with fail
                  obtain ⟨rest, hrest⟩ : ∃ rest, s.extract (i1.toNat + 1) s.size = rest := ⟨_, rfl⟩
                  have hrz : rest.size ≤ s.size := by rw [← hrest, ByteArray.size_extract]; omega
                  rw [hrest] at H ⊢
                  clear hrest hw4
                  refine (Try.strings_IndexFunc 116 #[] (enters_of Try.func116 (by kernel_rfl) rfl) notName rest _ (notName_at _)).mono ?_
                  rintro en we ⟨rfl, hbe⟩
                  replace HP : Aside0 (PInv w0 w we g s i1 a1 e1 text acc) := ⟨HP.out.below hgw hbe⟩
                  clear hbe c0 c1 f1 cl ct fl ft HS HL HT RL RT
                  obtain ⟨hst, hge⟩ := HP.out.st
                  have c0 := cellS116_0 hst
                  have c1 := cellS116_1 hst
                  have f1 := blk_frozen hst 1
                  obtain ⟨⟨vl, hl, rl⟩, ⟨vt, ht, rt⟩, _⟩ := HP.out.bx
                  have cl : (we).cell? ⟨w.heap.size, 0, none⟩ = some vl := blk_cell hl 0
                  have ct : (we).cell? ⟨w.heap.size + 1, 0, none⟩ = some vt := blk_cell ht 0
                  have fl := blk_frozen hl 0
                  have ft := blk_frozen ht 0
                  obtain ⟨At, nt, rfl⟩ := Kd.R_slice rt
                  obtain ⟨Al, nl, rfl⟩ := Kd.R_slice rl
                  have HS := Lib.hid hst
                  have HL := Lib.hid hl
                  have HT := Lib.hid ht
                  have RL := Lib.hid rl
                  have RT := Lib.hid rt
                  clear hst hl ht rl rt hge
                  by_cases hneg : Lib.idxFunc notName true rest < 0
                  · have hn : nameLen rest = (rest.size : Int) := if_pos hneg
                    rw [hn] at H
                    have hnegb : decide (Lib.idxFunc notName true rest < 0) = true := decide_eq_true hneg
                    have hn0 : (0 : Int) ≤ (rest.size : Int) := by omega
                    have hn1 : (rest.size : Int) < 4000000000001 := by omega
                    clear hneg hn
                    have hself : rest.extract 0 ((rest.size : Int)).toNat = rest := by rw [Int.toNat_natCast]; exact ByteArray.extract_zero_size
                    rw [hself] at H
                    clear hself
                    by_cases h64 : (rest.size : Int) > 64
                    · rw [if_pos h64] at H
                      have h64b : decide (64 < (rest.size : Int)) = true := decide_eq_true h64
                      clear h64
                      obtain ⟨⟨q1, q2, q3, q4⟩, hfr, H2⟩ := Option.bind_eq_some_iff.1 H
                      have hq1 := fail_s hfr
                      rw [hq1] at hfr H2
                      have HF := Aside0.mk hfr
                      have H3 := Option.some.inj H2
                      dsimp only at H3
                      clear hfr H H2 hq1
                      subst H3
                      go_wp2_with (first | (go_at_call 103; refine (tcl_parser_fail.calls g _ _ _ _ _ _ _ _ _ _ w0 _ HP.out.st HP.out.hB HF.out).mono ?_; rintro en w' ⟨rfl, st', hB', kb'⟩; have HP2 := Aside0.mk (HP.out.call hgw st' hB' kb'); clear st' hB' kb') | (go_at_call 114; refine (flush_calls w.heap.size w.heap.size (w.heap.size + 1) acc text _ _ HP2.out.bx (Below.refl _ _) HP2.out.kb.1 (by omega)).mono ?_; rintro en w' ⟨rfl, bx', hb'⟩; obtain ⟨⟨vl2, hl2, rl2⟩, _, _⟩ := bx'; have cl2 : w'.cell? ⟨w.heap.size, 0, none⟩ = some vl2 := blk_cell hl2 0; have R2 := Lib.hid rl2; have HB2 := Lib.hid hb'; clear hl2 rl2 hb'))
                      rw [Exit.noGoto_ret]
                      go_ret
                      exact (HP2.out).fin hgw HB2.out R2.out
                    · rw [if_neg h64] at H
                      have h64b : decide (64 < (rest.size : Int)) = false := decide_eq_false h64
                      clear h64
                      by_cases hz : (rest.size : Int) = 0
                      · rw [if_pos hz] at H
                        have hzb : ((rest.size : Int) == 0) = true := beq_iff_eq.2 hz
                        clear hz
                        have H' := Aside0.mk H
                        clear H
                        go_wp2_with (at_builtin; refine Kd.R_append Kb w.heap.size rfl (.tmp 135) (.tmp 137) 51 5 (.int .u8 0) 1 rfl Try.underlying51 info5 rfl (by decide) (by omega) (.slice At text.length nt) text (bt s i1) [.int .u8 (bt s i1)] (fun _ => True) (fun _ => False) rfl rfl rfl (fun _ h => h.elim) (fun _ _ => trivial) RT.out (Below.refl _ _) HP.out.kb.1 (by omega) ?_; intro v1 w1 r1 hb1 hg1 _; have ht1 := blk_grown HT.out hg1 (Kd.R_ne RT.out HT.out (by decide)); have hs1 := (hb1.block g hgw).trans HS.out; have ct1 : w1.cell? ⟨w.heap.size + 1, 0, none⟩ = some (.slice At text.length nt) := blk_cell ht1 0; have ft1 := blk_frozen ht1 0; have c11 := cellS116_1 hs1; have f11 := blk_frozen hs1 1; have HP2 := Aside0.mk (HP.out.push hgw HT.out RT.out r1 hb1 hg1); obtain ⟨A1, n1, rfl⟩ := Kd.R_slice r1; simp only [List.length_append, List.length_cons, List.length_nil, Nat.zero_add] at HP2; clear ht1 hs1 hb1 hg1 r1)
                        go_roundg k1
                        case measure => omega
                        case rel => exact ⟨_, _, _, _, _, rfl, ⟨H'.out⟩, ⟨HP2.out.set_i hgw _⟩⟩
                      · rw [if_neg hz] at H
                        have hzb : ((rest.size : Int) == 0) = false := beq_eq_false_iff_ne.2 hz
                        clear hz
                        go_wp2_with (go_at_call 114; refine (flush_calls w.heap.size w.heap.size (w.heap.size + 1) acc text _ _ HP.out.bx (Below.refl _ _) HP.out.kb.1 (by omega)).mono ?_; rintro en wf ⟨rfl, bx', hb'⟩; have HPf := Aside0.mk (HP.out.boxes hgw hb' bx'); clear bx' hb')
                        obtain ⟨acc2, hacc2⟩ : ∃ acc2, flushP text acc = acc2 := ⟨_, rfl⟩
                        have hacc3 : acc2.length ≤ acc.length + 1 := by rw [← hacc2]; unfold flushP; split <;> simp
                        rw [hacc2] at H HPf
                        clear HP c0 c1 f1 cl ct fl ft HS HL HT RL RT hacc2
                        have HP := HPf
                        clear HPf
                        have H' := Aside0.mk H
                        clear H
                        obtain ⟨hst, hge⟩ := HP.out.st
                        have c0 := cellS116_0 hst
                        have c1 := cellS116_1 hst
                        have f1 := blk_frozen hst 1
                        obtain ⟨⟨vl, hl, rl⟩, ⟨vt, ht, rt⟩, _⟩ := HP.out.bx
                        have cl : (wf).cell? ⟨w.heap.size, 0, none⟩ = some vl := blk_cell hl 0
                        have ct : (wf).cell? ⟨w.heap.size + 1, 0, none⟩ = some vt := blk_cell ht 0
                        have fl := blk_frozen hl 0
                        have ft := blk_frozen ht 0
                        obtain ⟨At, nt, rfl⟩ := Kd.R_slice rt
                        obtain ⟨Al, nl, rfl⟩ := Kd.R_slice rl
                        have HS := Lib.hid hst
                        have HL := Lib.hid hl
                        have HT := Lib.hid ht
                        have RL := Lib.hid rl
                        have RT := Lib.hid rt
                        clear hst hl ht rl rt hge
                        refine start_ (n := 8) (S := fun w' => w'.cell? ⟨w.heap.size, 0, none⟩ = some (.slice Al acc2.length nl)) (ds := [7]) #[false, false, false, false, false, false, false, false] (by kernel_rfl) rfl rfl cl (fun hHeld => ?_); refine with_tabW tcl_parser_parts.tab25 tcl_parser_parts.bits25 (fun HT_ HW_ => ?_)
                        generalize hwh : wf.drew = wh at hHeld ⊢
                        have HPh : Aside0 (PInv w0 w wh g s i1 a1 e1 [] acc2) := ⟨hwh ▸ HP.out.drewN 1⟩
                        clear hwh HP c0 c1 f1 cl ct fl ft HS HL HT RL RT
                        have HP := HPh
                        clear HPh
                        obtain ⟨⟨vl0, hl0, rl0⟩, -, -⟩ := HP.out.bx
                        have ev : vl0 = .slice Al acc2.length nl := by
                          have := (blk_cell hl0 0).symm.trans hHeld
                          simpa using this
                        subst ev
                        have HL := Lib.hid hl0
                        have RL := Lib.hid rl0
                        clear hl0 rl0
                        refine take_ (i := 0) (N := some 116) (v := ?_) (a' := ?_) #[true, false, false, false, false, false, false, false] rfl rfl (take_ofW HT_.out HW_.out (by kernel_rfl)) (fun _ _ _ h => h) (Or.inl ⟨by rfl, ?_⟩) hHeld ?_ ?_
                        rotate_left
                        · intro w' s0
                          go_simp
                          with_reducible rfl
                        rotate_left
                        · simp only [Act.put, List.setIfInBounds_toArray, List.set_cons_zero, List.set_cons_succ, i64_w, i32_w]
                          rfl
                        refine pure_ (i := 1) (N := some 117) (v := ?_) (a' := ?_) #[true, true, false, false, false, false, false, false] rfl rfl (any_of HT_.out (by kernel_rfl)) (fun _ _ _ h => h) (Or.inl ⟨by rfl, ?_⟩) ?_ ?_
                        rotate_left
                        · intro w'
                          go_simp
                          with_reducible rfl
                        rotate_left
                        · simp only [Act.put, List.setIfInBounds_toArray, List.set_cons_zero, List.set_cons_succ, i64_w, i32_w]
                          rfl
                        refine pure_ (i := 2) (N := some 118) (v := ?_) (a' := ?_) #[true, true, true, false, false, false, false, false] rfl rfl (any_of HT_.out (by kernel_rfl)) (fun _ _ _ h => h) (Or.inl ⟨by rfl, ?_⟩) ?_ ?_
                        rotate_left
                        · intro w'
                          go_simp
                          with_reducible rfl
                        rotate_left
                        · simp only [Act.put, List.setIfInBounds_toArray, List.set_cons_zero, List.set_cons_succ, i64_w, i32_w]
                          rfl
                        refine pure_ (i := 3) (N := some 119) (v := ?_) (a' := ?_) #[true, true, true, true, false, false, false, false] rfl rfl (any_of HT_.out (by kernel_rfl)) (fun _ _ _ h => h) (Or.inl ⟨by rfl, ?_⟩) ?_ ?_
                        rotate_left
                        · intro w'
                          go_simp
                          with_reducible rfl
                        rotate_left
                        · simp only [Act.put, List.setIfInBounds_toArray, List.set_cons_zero, List.set_cons_succ, i64_w, i32_w]
                          rfl
                        refine pure_ (i := 4) (N := some 120) (v := ?_) (a' := ?_) #[true, true, true, true, true, false, false, false] rfl rfl (any_of HT_.out (by kernel_rfl)) (fun _ _ _ h => h) (Or.inl ⟨by rfl, ?_⟩) ?_ ?_
                        rotate_left
                        · intro w'
                          go_simp
                          with_reducible rfl
                        rotate_left
                        · simp only [Act.put, List.setIfInBounds_toArray, List.set_cons_zero, List.set_cons_succ, i64_w, i32_w]
                          rfl
                        refine one_ (i := 5) (N := some 121) #[true, true, true, true, true, true, false, false] rfl rfl (one_of HT_.out (by kernel_rfl)) (by decide) (fun K hK => ?_)
                        refine value_ (w1 := ?_) (v := ?_) (by rfl) rfl ?_ ?_
                        rotate_left 2
                        · go_simp
                          constructor
                          · rfl
                          · rfl
                        refine hK.out _ _ (blk_cell (blk_alloc HL.out _) 0) (fun hHeld => ?_)
                        clear hK K
                        refine norm_ (a' := ?_) ?_ ?_
                        rotate_left
                        · show Act.put _ (some 121) _ = _
                          simp only [Act.put, List.setIfInBounds_toArray, List.set_cons_zero, List.set_cons_succ, i64_w, i32_w]
                          rfl
                        refine one_ (i := 6) (N := some 122) #[true, true, true, true, true, true, true, false] rfl rfl (one_of HT_.out (by kernel_rfl)) (by decide) (fun K hK => ?_)
                        refine Kd.R_append_step k43 w.heap.size (by rfl) (.tmp 116) (.tmp 121) 39 43 (.agg #[.bool false, .string ⟨#[]⟩]) 24 rfl Try.underlying39 info43 rfl (by decide) (by omega) (.slice Al acc2.length nl) acc2 ⟨true, rest⟩ [.bool true, .string (rest)] (fun _ => True) (fun _ => False) rfl rfl (k43_mkM _ _ _ ⟨true, rest⟩) (fun _ h => h.elim) (fun _ _ => trivial) RL.out (Below.refl _ _) HP.out.kb.1 (by omega) ?_
                        intro v1 w1 r1 hb1 hg1 _
                        have hl1 := blk_grown HL.out hg1 (Kd.R_ne RL.out HL.out (by decide))
                        refine hK.out _ _ (blk_cell hl1 0) (fun hHeld => ?_)
                        clear hK K
                        refine norm_ (a' := ?_) ?_ ?_
                        rotate_left
                        · show Act.put _ (some 122) _ = _
                          simp only [Act.put, List.setIfInBounds_toArray, List.set_cons_zero, List.set_cons_succ, i64_w, i32_w]
                          rfl
                        refine last_ (i := 7) (N := none) #[true, true, true, true, true, true, true, true] rfl rfl (one_of HT_.out (by kernel_rfl)) (by decide) (fun K hK => ?_)
                        have HP2 := Aside0.mk (HP.out.pushPart hgw HL.out RL.out r1 hb1 hg1)
                        obtain ⟨A1, n1, rfl⟩ := Kd.R_slice r1
                        simp only [List.length_append, List.length_cons, List.length_nil, Nat.zero_add] at HP2
                        have hst1 := (hb1.block g hgw).trans HP.out.st.1
                        have c11 := cellS116_1 hst1
                        have f11 := blk_frozen hst1 1
                        have cl1 : w1.cell? ⟨w.heap.size, 0, none⟩ = _ := blk_cell hl1 0
                        have fl1 := blk_frozen hl1 0
                        clear hst1 hl1 r1 hb1 hg1 HL RL
                        refine skip_ (w1 := ?_) (by rfl) rfl ?_ ?_
                        rotate_left
                        · go_simp
                          rfl
                        refine hK.out _ _ ?_
                        clear hK K
                        refine done_ (done_of HT_.out (by kernel_rfl)) ?_
                        go_wp2
                        go_roundg k1
                        case measure => omega
                        case rel => exact ⟨_, _, _, _, _, rfl, ⟨H'.out⟩, ⟨HP2.out.set_i hgw _⟩⟩
                  · have hn : nameLen rest = Lib.idxFunc notName true rest := if_neg hneg
                    rw [hn] at H
                    have hran := Lib.idxFunc_range notName true rest
                    obtain ⟨N, hN⟩ : ∃ N, Lib.idxFunc notName true rest = N := ⟨_, rfl⟩
                    rw [hN] at H hneg hran ⊢
                    have hnegb : decide (N < 0) = false := decide_eq_false hneg
                    have hn0 : (0 : Int) ≤ N := by omega
                    have hn1 : N < 4000000000001 := by omega
                    have hn2 : N ≤ (rest.size : Int) := by omega
                    clear hneg hn hN hran
                    by_cases h64 : N > 64
                    · rw [if_pos h64] at H
                      have h64b : decide (64 < N) = true := decide_eq_true h64
                      clear h64
                      obtain ⟨⟨q1, q2, q3, q4⟩, hfr, H2⟩ := Option.bind_eq_some_iff.1 H
                      have hq1 := fail_s hfr
                      rw [hq1] at hfr H2
                      have HF := Aside0.mk hfr
                      have H3 := Option.some.inj H2
                      dsimp only at H3
                      clear hfr H H2 hq1
                      subst H3
                      go_wp2_with (first | (go_at_call 103; refine (tcl_parser_fail.calls g _ _ _ _ _ _ _ _ _ _ w0 _ HP.out.st HP.out.hB HF.out).mono ?_; rintro en w' ⟨rfl, st', hB', kb'⟩; have HP2 := Aside0.mk (HP.out.call hgw st' hB' kb'); clear st' hB' kb') | (go_at_call 114; refine (flush_calls w.heap.size w.heap.size (w.heap.size + 1) acc text _ _ HP2.out.bx (Below.refl _ _) HP2.out.kb.1 (by omega)).mono ?_; rintro en w' ⟨rfl, bx', hb'⟩; obtain ⟨⟨vl2, hl2, rl2⟩, _, _⟩ := bx'; have cl2 : w'.cell? ⟨w.heap.size, 0, none⟩ = some vl2 := blk_cell hl2 0; have R2 := Lib.hid rl2; have HB2 := Lib.hid hb'; clear hl2 rl2 hb'))
                      rw [Exit.noGoto_ret]
                      go_ret
                      exact (HP2.out).fin hgw HB2.out R2.out
                    · rw [if_neg h64] at H
                      have h64b : decide (64 < N) = false := decide_eq_false h64
                      clear h64
                      by_cases hz : N = 0
                      · rw [if_pos hz] at H
                        have hzb : (N == 0) = true := beq_iff_eq.2 hz
                        clear hz
                        have H' := Aside0.mk H
                        clear H
                        go_wp2_with (at_builtin; refine Kd.R_append Kb w.heap.size rfl (.tmp 135) (.tmp 137) 51 5 (.int .u8 0) 1 rfl Try.underlying51 info5 rfl (by decide) (by omega) (.slice At text.length nt) text (bt s i1) [.int .u8 (bt s i1)] (fun _ => True) (fun _ => False) rfl rfl rfl (fun _ h => h.elim) (fun _ _ => trivial) RT.out (Below.refl _ _) HP.out.kb.1 (by omega) ?_; intro v1 w1 r1 hb1 hg1 _; have ht1 := blk_grown HT.out hg1 (Kd.R_ne RT.out HT.out (by decide)); have hs1 := (hb1.block g hgw).trans HS.out; have ct1 : w1.cell? ⟨w.heap.size + 1, 0, none⟩ = some (.slice At text.length nt) := blk_cell ht1 0; have ft1 := blk_frozen ht1 0; have c11 := cellS116_1 hs1; have f11 := blk_frozen hs1 1; have HP2 := Aside0.mk (HP.out.push hgw HT.out RT.out r1 hb1 hg1); obtain ⟨A1, n1, rfl⟩ := Kd.R_slice r1; simp only [List.length_append, List.length_cons, List.length_nil, Nat.zero_add] at HP2; clear ht1 hs1 hb1 hg1 r1)
                        go_roundg k1
                        case measure => omega
                        case rel => exact ⟨_, _, _, _, _, rfl, ⟨H'.out⟩, ⟨HP2.out.set_i hgw _⟩⟩
                      · rw [if_neg hz] at H
                        have hzb : (N == 0) = false := beq_eq_false_iff_ne.2 hz
                        clear hz
                        go_wp2_with (go_at_call 114; refine (flush_calls w.heap.size w.heap.size (w.heap.size + 1) acc text _ _ HP.out.bx (Below.refl _ _) HP.out.kb.1 (by omega)).mono ?_; rintro en wf ⟨rfl, bx', hb'⟩; have HPf := Aside0.mk (HP.out.boxes hgw hb' bx'); clear bx' hb')
                        obtain ⟨acc2, hacc2⟩ : ∃ acc2, flushP text acc = acc2 := ⟨_, rfl⟩
                        have hacc3 : acc2.length ≤ acc.length + 1 := by rw [← hacc2]; unfold flushP; split <;> simp
                        rw [hacc2] at H HPf
                        clear HP c0 c1 f1 cl ct fl ft HS HL HT RL RT hacc2
                        have HP := HPf
                        clear HPf
                        have H' := Aside0.mk H
                        clear H
                        obtain ⟨hst, hge⟩ := HP.out.st
                        have c0 := cellS116_0 hst
                        have c1 := cellS116_1 hst
                        have f1 := blk_frozen hst 1
                        obtain ⟨⟨vl, hl, rl⟩, ⟨vt, ht, rt⟩, _⟩ := HP.out.bx
                        have cl : (wf).cell? ⟨w.heap.size, 0, none⟩ = some vl := blk_cell hl 0
                        have ct : (wf).cell? ⟨w.heap.size + 1, 0, none⟩ = some vt := blk_cell ht 0
                        have fl := blk_frozen hl 0
                        have ft := blk_frozen ht 0
                        obtain ⟨At, nt, rfl⟩ := Kd.R_slice rt
                        obtain ⟨Al, nl, rfl⟩ := Kd.R_slice rl
                        have HS := Lib.hid hst
                        have HL := Lib.hid hl
                        have HT := Lib.hid ht
                        have RL := Lib.hid rl
                        have RT := Lib.hid rt
                        clear hst hl ht rl rt hge
                        refine start_ (n := 8) (S := fun w' => w'.cell? ⟨w.heap.size, 0, none⟩ = some (.slice Al acc2.length nl)) (ds := [7]) #[false, false, false, false, false, false, false, false] (by kernel_rfl) rfl rfl cl (fun hHeld => ?_); refine with_tabW tcl_parser_parts.tab25 tcl_parser_parts.bits25 (fun HT_ HW_ => ?_)
                        generalize hwh : wf.drew = wh at hHeld ⊢
                        have HPh : Aside0 (PInv w0 w wh g s i1 a1 e1 [] acc2) := ⟨hwh ▸ HP.out.drewN 1⟩
                        clear hwh HP c0 c1 f1 cl ct fl ft HS HL HT RL RT
                        have HP := HPh
                        clear HPh
                        obtain ⟨⟨vl0, hl0, rl0⟩, -, -⟩ := HP.out.bx
                        have ev : vl0 = .slice Al acc2.length nl := by
                          have := (blk_cell hl0 0).symm.trans hHeld
                          simpa using this
                        subst ev
                        have HL := Lib.hid hl0
                        have RL := Lib.hid rl0
                        clear hl0 rl0
                        refine take_ (i := 0) (N := some 116) (v := ?_) (a' := ?_) #[true, false, false, false, false, false, false, false] rfl rfl (take_ofW HT_.out HW_.out (by kernel_rfl)) (fun _ _ _ h => h) (Or.inl ⟨by rfl, ?_⟩) hHeld ?_ ?_
                        rotate_left
                        · intro w' s0
                          go_simp
                          with_reducible rfl
                        rotate_left
                        · simp only [Act.put, List.setIfInBounds_toArray, List.set_cons_zero, List.set_cons_succ, i64_w, i32_w]
                          rfl
                        refine pure_ (i := 1) (N := some 117) (v := ?_) (a' := ?_) #[true, true, false, false, false, false, false, false] rfl rfl (any_of HT_.out (by kernel_rfl)) (fun _ _ _ h => h) (Or.inl ⟨by rfl, ?_⟩) ?_ ?_
                        rotate_left
                        · intro w'
                          go_simp
                          with_reducible rfl
                        rotate_left
                        · simp only [Act.put, List.setIfInBounds_toArray, List.set_cons_zero, List.set_cons_succ, i64_w, i32_w]
                          rfl
                        refine pure_ (i := 2) (N := some 118) (v := ?_) (a' := ?_) #[true, true, true, false, false, false, false, false] rfl rfl (any_of HT_.out (by kernel_rfl)) (fun _ _ _ h => h) (Or.inl ⟨by rfl, ?_⟩) ?_ ?_
                        rotate_left
                        · intro w'
                          go_simp
                          with_reducible rfl
                        rotate_left
                        · simp only [Act.put, List.setIfInBounds_toArray, List.set_cons_zero, List.set_cons_succ, i64_w, i32_w]
                          rfl
                        refine pure_ (i := 3) (N := some 119) (v := ?_) (a' := ?_) #[true, true, true, true, false, false, false, false] rfl rfl (any_of HT_.out (by kernel_rfl)) (fun _ _ _ h => h) (Or.inl ⟨by rfl, ?_⟩) ?_ ?_
                        rotate_left
                        · intro w'
                          go_simp
                          with_reducible rfl
                        rotate_left
                        · simp only [Act.put, List.setIfInBounds_toArray, List.set_cons_zero, List.set_cons_succ, i64_w, i32_w]
                          rfl
                        refine pure_ (i := 4) (N := some 120) (v := ?_) (a' := ?_) #[true, true, true, true, true, false, false, false] rfl rfl (any_of HT_.out (by kernel_rfl)) (fun _ _ _ h => h) (Or.inl ⟨by rfl, ?_⟩) ?_ ?_
                        rotate_left
                        · intro w'
                          go_simp
                          with_reducible rfl
                        rotate_left
                        · simp only [Act.put, List.setIfInBounds_toArray, List.set_cons_zero, List.set_cons_succ, i64_w, i32_w]
                          rfl
                        refine one_ (i := 5) (N := some 121) #[true, true, true, true, true, true, false, false] rfl rfl (one_of HT_.out (by kernel_rfl)) (by decide) (fun K hK => ?_)
                        refine value_ (w1 := ?_) (v := ?_) (by rfl) rfl ?_ ?_
                        rotate_left 2
                        · go_simp
                          constructor
                          · rfl
                          · rfl
                        refine hK.out _ _ (blk_cell (blk_alloc HL.out _) 0) (fun hHeld => ?_)
                        clear hK K
                        refine norm_ (a' := ?_) ?_ ?_
                        rotate_left
                        · show Act.put _ (some 121) _ = _
                          simp only [Act.put, List.setIfInBounds_toArray, List.set_cons_zero, List.set_cons_succ, i64_w, i32_w]
                          rfl
                        refine one_ (i := 6) (N := some 122) #[true, true, true, true, true, true, true, false] rfl rfl (one_of HT_.out (by kernel_rfl)) (by decide) (fun K hK => ?_)
                        refine Kd.R_append_step k43 w.heap.size (by rfl) (.tmp 116) (.tmp 121) 39 43 (.agg #[.bool false, .string ⟨#[]⟩]) 24 rfl Try.underlying39 info43 rfl (by decide) (by omega) (.slice Al acc2.length nl) acc2 ⟨true, (rest.extract 0 N.toNat)⟩ [.bool true, .string ((rest.extract 0 N.toNat))] (fun _ => True) (fun _ => False) rfl rfl (k43_mkM _ _ _ ⟨true, (rest.extract 0 N.toNat)⟩) (fun _ h => h.elim) (fun _ _ => trivial) RL.out (Below.refl _ _) HP.out.kb.1 (by omega) ?_
                        intro v1 w1 r1 hb1 hg1 _
                        have hl1 := blk_grown HL.out hg1 (Kd.R_ne RL.out HL.out (by decide))
                        refine hK.out _ _ (blk_cell hl1 0) (fun hHeld => ?_)
                        clear hK K
                        refine norm_ (a' := ?_) ?_ ?_
                        rotate_left
                        · show Act.put _ (some 122) _ = _
                          simp only [Act.put, List.setIfInBounds_toArray, List.set_cons_zero, List.set_cons_succ, i64_w, i32_w]
                          rfl
                        refine last_ (i := 7) (N := none) #[true, true, true, true, true, true, true, true] rfl rfl (one_of HT_.out (by kernel_rfl)) (by decide) (fun K hK => ?_)
                        have HP2 := Aside0.mk (HP.out.pushPart hgw HL.out RL.out r1 hb1 hg1)
                        obtain ⟨A1, n1, rfl⟩ := Kd.R_slice r1
                        simp only [List.length_append, List.length_cons, List.length_nil, Nat.zero_add] at HP2
                        have hst1 := (hb1.block g hgw).trans HP.out.st.1
                        have c11 := cellS116_1 hst1
                        have f11 := blk_frozen hst1 1
                        have cl1 : w1.cell? ⟨w.heap.size, 0, none⟩ = _ := blk_cell hl1 0
                        have fl1 := blk_frozen hl1 0
                        clear hst1 hl1 r1 hb1 hg1 HL RL
                        refine skip_ (w1 := ?_) (by rfl) rfl ?_ ?_
                        rotate_left
                        · go_simp
                          rfl
                        refine hK.out _ _ ?_
                        clear hK K
                        refine done_ (done_of HT_.out (by kernel_rfl)) ?_
                        go_wp2
                        go_roundg k1
                        case measure => omega
                        case rel => exact ⟨_, _, _, _, _, rfl, ⟨H'.out⟩, ⟨HP2.out.set_i hgw _⟩⟩
                · rw [if_neg h36] at H
                  have h36b : (bt s i1 == 36) = false := beq_eq_false_iff_ne.2 h36
                  clear h36
                  have H' := Aside0.mk H
                  clear H
                  go_wp2
                  go_quiet (fail)
                  generalize hqq : (wr).drewN nq = wa
                  replace HP : Aside0 (PInv w0 w wa g s i1 a1 e1 text acc) := ⟨hqq ▸ HP.out.drewN nq⟩
                  clear hqq c0 c1 f1 cl ct fl ft HS HL HT RL RT
                  obtain ⟨hst, hge⟩ := HP.out.st
                  have c0 := cellS116_0 hst
                  have c1 := cellS116_1 hst
                  have f1 := blk_frozen hst 1
                  obtain ⟨⟨vl, hl, rl⟩, ⟨vt, ht, rt⟩, _⟩ := HP.out.bx
                  have cl : (wa).cell? ⟨w.heap.size, 0, none⟩ = some vl := blk_cell hl 0
                  have ct : (wa).cell? ⟨w.heap.size + 1, 0, none⟩ = some vt := blk_cell ht 0
                  have fl := blk_frozen hl 0
                  have ft := blk_frozen ht 0
                  obtain ⟨At, nt, rfl⟩ := Kd.R_slice rt
                  obtain ⟨Al, nl, rfl⟩ := Kd.R_slice rl
                  have HS := Lib.hid hst
                  have HL := Lib.hid hl
                  have HT := Lib.hid ht
                  have RL := Lib.hid rl
                  have RT := Lib.hid rt
                  clear hst hl ht rl rt hge
                  go_wp2
                  go_quiet (fail)
                  generalize hqq : (wa).drewN nq = wb
                  replace HP : Aside0 (PInv w0 w wb g s i1 a1 e1 text acc) := ⟨hqq ▸ HP.out.drewN nq⟩
                  clear hqq c0 c1 f1 cl ct fl ft HS HL HT RL RT
                  obtain ⟨hst, hge⟩ := HP.out.st
                  have c0 := cellS116_0 hst
                  have c1 := cellS116_1 hst
                  have f1 := blk_frozen hst 1
                  obtain ⟨⟨vl, hl, rl⟩, ⟨vt, ht, rt⟩, _⟩ := HP.out.bx
                  have cl : (wb).cell? ⟨w.heap.size, 0, none⟩ = some vl := blk_cell hl 0
                  have ct : (wb).cell? ⟨w.heap.size + 1, 0, none⟩ = some vt := blk_cell ht 0
                  have fl := blk_frozen hl 0
                  have ft := blk_frozen ht 0
                  obtain ⟨At, nt, rfl⟩ := Kd.R_slice rt
                  obtain ⟨Al, nl, rfl⟩ := Kd.R_slice rl
                  have HS := Lib.hid hst
                  have HL := Lib.hid hl
                  have HT := Lib.hid ht
                  have RL := Lib.hid rl
                  have RT := Lib.hid rt
                  clear hst hl ht rl rt hge
                  go_wp2_with fail
                  refine (tcl_in.calls _ _ false _ HIN.out).mono ?_
                  rintro en wc ⟨rfl, ⟨q2, hq2⟩⟩
                  replace HP : Aside0 (PInv w0 w wc g s i1 a1 e1 text acc) := ⟨by rw [hq2]; exact HP.out.drewN q2⟩
                  clear hq2 c0 c1 f1 cl ct fl ft HS HL HT RL RT
                  obtain ⟨hst, hge⟩ := HP.out.st
                  have c0 := cellS116_0 hst
                  have c1 := cellS116_1 hst
                  have f1 := blk_frozen hst 1
                  obtain ⟨⟨vl, hl, rl⟩, ⟨vt, ht, rt⟩, _⟩ := HP.out.bx
                  have cl : (wc).cell? ⟨w.heap.size, 0, none⟩ = some vl := blk_cell hl 0
                  have ct : (wc).cell? ⟨w.heap.size + 1, 0, none⟩ = some vt := blk_cell ht 0
                  have fl := blk_frozen hl 0
                  have ft := blk_frozen ht 0
                  obtain ⟨At, nt, rfl⟩ := Kd.R_slice rt
                  obtain ⟨Al, nl, rfl⟩ := Kd.R_slice rl
                  have HS := Lib.hid hst
                  have HL := Lib.hid hl
                  have HT := Lib.hid ht
                  have RL := Lib.hid rl
                  have RT := Lib.hid rt
                  clear hst hl ht rl rt hge
                  go_wp2_with (at_builtin; refine Kd.R_append Kb w.heap.size rfl (.tmp 36) (.tmp 38) 51 5 (.int .u8 0) 1 rfl Try.underlying51 info5 rfl (by decide) (by omega) (.slice At text.length nt) text (bt s i1) [.int .u8 (bt s i1)] (fun _ => True) (fun _ => False) rfl rfl rfl (fun _ h => h.elim) (fun _ _ => trivial) RT.out (Below.refl _ _) HP.out.kb.1 (by omega) ?_; intro v1 w1 r1 hb1 hg1 _; have ht1 := blk_grown HT.out hg1 (Kd.R_ne RT.out HT.out (by decide)); have hs1 := (hb1.block g hgw).trans HS.out; have ct1 : w1.cell? ⟨w.heap.size + 1, 0, none⟩ = some (.slice At text.length nt) := blk_cell ht1 0; have ft1 := blk_frozen ht1 0; have c11 := cellS116_1 hs1; have f11 := blk_frozen hs1 1; have HP2 := Aside0.mk (HP.out.push hgw HT.out RT.out r1 hb1 hg1); obtain ⟨A1, n1, rfl⟩ := Kd.R_slice r1; simp only [List.length_append, List.length_cons, List.length_nil, Nat.zero_add] at HP2; clear ht1 hs1 hb1 hg1 r1)
                  go_roundg k1
                  case measure => omega
                  case rel => exact ⟨_, _, _, _, _, rfl, ⟨H'.out⟩, ⟨HP2.out.set_i hgw _⟩⟩
        · rw [if_neg h0] at H
          cases H
      · rw [if_neg hi] at H
        obtain rfl := Option.some.inj H
        have hb : decide (i1 < (s.size : Int)) = false := decide_eq_false hi
        clear H hi
        go_wp2
        go_quiet (fail)
        generalize hqq : (wr).drewN nq = wa
        replace HP : Aside0 (PInv w0 w wa g s i1 a1 e1 text acc) := ⟨hqq ▸ HP.out.drewN nq⟩
        clear hqq c0 c1 f1 cl ct fl ft HS HL HT RL RT
        obtain ⟨hst, hge⟩ := HP.out.st
        have c0 := cellS116_0 hst
        have c1 := cellS116_1 hst
        have f1 := blk_frozen hst 1
        obtain ⟨⟨vl, hl, rl⟩, ⟨vt, ht, rt⟩, _⟩ := HP.out.bx
        have cl : (wa).cell? ⟨w.heap.size, 0, none⟩ = some vl := blk_cell hl 0
        have ct : (wa).cell? ⟨w.heap.size + 1, 0, none⟩ = some vt := blk_cell ht 0
        have fl := blk_frozen hl 0
        have ft := blk_frozen ht 0
        obtain ⟨At, nt, rfl⟩ := Kd.R_slice rt
        obtain ⟨Al, nl, rfl⟩ := Kd.R_slice rl
        have HS := Lib.hid hst
        have HL := Lib.hid hl
        have HT := Lib.hid ht
        have RL := Lib.hid rl
        have RT := Lib.hid rt
        clear hst hl ht rl rt hge
        go_wp2_with (go_at_call 114; refine (flush_calls w.heap.size w.heap.size (w.heap.size + 1) acc text _ _ HP.out.bx (Below.refl _ _) HP.out.kb.1 (by omega)).mono ?_; rintro en w' ⟨rfl, bx', hb'⟩; obtain ⟨⟨vl2, hl2, rl2⟩, _, _⟩ := bx'; have cl2 : w'.cell? ⟨w.heap.size, 0, none⟩ = some vl2 := blk_cell hl2 0; have R2 := Lib.hid rl2; have HB2 := Lib.hid hb'; clear hl2 rl2 hb')
        rw [Exit.noGoto_ret]
        go_ret
        exact (HP.out).fin hgw HB2.out R2.out

theorem tcl_parser_parts.calls (g : Nat) (s0_0 : ByteArray) (s0_1 s0_2 s0_3 : Int) (a1 : ByteArray) (a2 : Int) (r1 : List S43) (r2 : ByteArray) (r3 r4 r5 : Int) (w0 w : World) (hI : IsS116 w0 w g s0_0 s0_1 s0_2 s0_3) (hB : Below w0.heap.size w0 w)
    (h : tcl_parser_parts.f s0_0 s0_1 s0_2 s0_3 a1 a2 = some (r1, r2, r3, r4, r5)) :
    Calls Try.prog 102 #[.pointer (some ⟨g, 0, none⟩), .string a1, .int .i64 a2] w fun e w' => ∃ v0_ : Value, e = .returned v0_ ∧ Kd.R k43 43 w' w.heap.size (fun _ => True) v0_ r1 ∧ IsS116 w0 w' g r2 r3 r4 r5 ∧ Below w0.heap.size w0 w' ∧ KeepBut w w' g none := by
  unfold tcl_parser_parts.f at h
  split at h
  · rename_i hs
    exact (tcl_parser_parts.walk g s0_0 s0_1 s0_2 s0_3 a1 a2 _ w0 w hI hB hs h).mono fun _ _ hp => hp.p
  · cases h
end Go.Proofs.Ytofhcjdadhpjdaa.Q
