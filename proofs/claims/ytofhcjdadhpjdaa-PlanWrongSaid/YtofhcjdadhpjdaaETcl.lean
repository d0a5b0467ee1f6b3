/- tcl.Parse, by hand, in the print's form. -/
import Derived.Test.YtofhcjdadhpjdaaQ14
import Derived.Test.YtofhcjdadhpjdaaEParts
import Derived.Lib.IndexBytes
namespace Go.Proofs.Ytofhcjdadhpjdaa.Q
set_option linter.unusedSimpArgs false
set_option linter.unusedVariables false
open Go.RowKit Go.Proofs.YtofhcjdadhpjdaaW.PrintWords Go.Proofs.YtofhcjdadhpjdaaW.PrintLast Go.Proofs.YtofhcjdadhpjdaaW.PrintMore

def tcl_Parse.l0 (s : ByteArray) : Nat → Int → Int → Int → List S38 → Option (List S38 × Int × Int)
  | 0, _, _, _, _ => none
  | k + 1, i, a, e, l =>
    if 4398046511100 ≤ l.length then none else
    if i < (s.size : Int) then
      if 0 ≤ i then
        (tcl_in.f (⟨#[32, 9, 10, 59]⟩ : ByteArray) (bt s i)).bind fun b =>
        if b = true then tcl_Parse.l0 s k (i + 1) a e l
        else if bt s i = 35 then
          if Lib.indexByte (s.extract i.toNat s.size).data.toList 10 < 0 then tcl_Parse.l0 s k (i + ((s.size : Int) - i)) a e l
          else tcl_Parse.l0 s k (i + Lib.indexByte (s.extract i.toNat s.size).data.toList 10) a e l
        else (tcl_parser_command.f (2 * s.size + 20) s i a e).bind fun r =>
          if r.2.2.1 = s then tcl_Parse.l0 s k r.2.2.2.1 r.2.2.2.2.1 r.2.2.2.2.2 (l ++ [⟨r.1, r.2.1⟩]) else none
      else none
    else if e = 0 then some (l, 0, 0) else some ([], a, e)
def tcl_Parse.f (s : ByteArray) : Option (List S38 × Int × Int) :=
  if 16777216 < s.size then some ([], 0, 6) else tcl_Parse.l0 s (s.size + 1) 0 0 0 []

/-- The loop's relation: the parser at g (a box of the call's own), the commands so far. -/
structure CInv (w w' : World) (s : ByteArray) (i a e : Int) (v : Value) (l : List S38) : Prop where
  st : IsS116 w w' w.heap.size s i a e
  hB : Below w.heap.size w w'
  row : Kd.S k38 38 w' w.heap.size (fun k => k ≠ w.heap.size) v l
structure CPost (w : World) (r : List S38 × Int × Int) (en : Ending) (w' : World) : Prop where
  p : ∃ v0_ : Value, en = .returned (.tuple #[v0_, .int .i64 r.2.1, .int .i64 r.2.2]) ∧ Kd.S k38 38 w' w.heap.size (fun _ => True) v0_ r.1 ∧ Below w.heap.size w w'
section
variable {w w1 w2 : World} {s : ByteArray} {i a e : Int} {v : Value} {l : List S38}
theorem CInv.drewN (h : CInv w w1 s i a e v l) (m : Nat) : CInv w (w1.drewN m) s i a e v l := ⟨h.st.drewN m, pw_below_drewN h.hB m, Kd.S_drewN h.row m⟩
theorem CInv.set_i (h : CInv w w1 s i a e v l) (x : Int) : CInv w (w1.setCell ⟨w.heap.size, 1, none⟩ (.int .i64 x)) s x a e v l :=
  ⟨h.st.set_1 x, below_set h.hB (Nat.le_refl _), Kd.S_far (p := ⟨w.heap.size, 1, none⟩) h.row (fun _ hk => hk) _⟩
theorem CInv.start (w : World) (s : ByteArray) : CInv w (w.alloc (.cells #[.string s, .int .i64 0, .int .i64 0, .int .i64 0] 116)) s 0 0 0 (.slice none 0 0) [] :=
  ⟨IsS116.new w w s 0 0 0 (Below.refl _ _), below_alloc (Below.refl _ _) _, Kd.S_nil _ _ _ _ _⟩
theorem CInv.fin (h : CInv w w1 s i a e v l) : CPost w (l, 0, 0) (.returned (.tuple #[v, .int .i64 0, .int .i64 0])) w1 :=
  ⟨⟨v, rfl, Kd.S_mono h.row (fun _ _ => trivial), h.hB⟩⟩
theorem CInv.bad (h : CInv w w1 s i a e v l) (x y : Int) : CPost w ([], x, y) (.returned (.tuple #[.slice none 0 0, .int .i64 x, .int .i64 y])) w1 :=
  ⟨⟨_, rfl, Kd.S_nil _ _ _ _ _, h.hB⟩⟩
/-- A command more has come: it is new since w1. -/
structure Came (w w1 w2 : World) (s : ByteArray) (i a e : Int) (v vw : Value) (l : List S38) (ws : List S41) : Prop where
  st : IsS116 w w2 w.heap.size s i a e
  hB : Below w.heap.size w w2
  row : Kd.S k38 38 w2 w.heap.size (fun k => k ≠ w.heap.size ∧ ¬ w1.heap.size ≤ k) v l
  new : Kd.R k41 41 w2 w.heap.size (fun k => w1.heap.size ≤ k) vw ws
  lt : ∀ k, v.ownBlock = some k → k < w1.heap.size
  gt : w.heap.size < w1.heap.size
theorem CInv.came {i' a' e' : Int} {vw : Value} {ws : List S41} (h : CInv w w1 s i a e v l) (st : IsS116 w w2 w.heap.size s i' a' e') (hB : Below w.heap.size w w2) (hk : KeepBut w1 w2 w.heap.size none)
    (hw : Kd.S k41 41 w2 w1.heap.size (fun _ => True) vw ws) : Came w w1 w2 s i' a' e' v vw l ws :=
  ⟨st, hB, Kd.S_mono (Kd.S_oldK (Kd.S_mono h.row (fun k hk => ⟨hk, hk⟩)) hk) (fun k hk => ⟨hk.1, by omega⟩), Kd.R_lower (Kd.R_mono (Kd.R_bound (Kd.S_R hw)) (fun k hk => hk.2.1)) (by have := h.st.lt; omega), Kd.S_lt h.row, h.st.lt⟩
theorem Came.okp {vw : Value} {ws : List S41} (h : Came w w1 w2 s i a e v vw l ws) (k : Nat) (hk : w1.heap.size ≤ k) : k ≠ w.heap.size ∧ some k ≠ v.ownBlock :=
  ⟨by have := h.gt; omega, fun e => by have := h.lt k e.symm; omega⟩
theorem Came.fresh {vw : Value} {ws : List S41} (h : Came w w1 w2 s i a e v vw l ws) (k : Nat) (hk : w2.heap.size ≤ k) : k ≠ w.heap.size := by have := h.st.lt; omega
theorem Came.base {vw : Value} {ws : List S41} (h : Came w w1 w2 s i a e v vw l ws) : w.heap.size ≤ w2.heap.size := by have := h.st.lt; omega
theorem Came.more {vw : Value} {ws : List S41} (h : Came w w1 w2 s i a e v vw l ws) (x : Int) {w3 : World} {v1 : Value} (r : Kd.S k38 38 w3 w.heap.size (fun k => k ≠ w.heap.size) v1 (l ++ [⟨x, ws⟩])) (hb : Below w.heap.size w w3) (hg : w2.grownBy w3 v.ownBlock) : CInv w w3 s i a e v1 (l ++ [⟨x, ws⟩]) :=
  ⟨IsS116.grown h.st hg (IsS116.own_neS h.st h.row (by decide)), hb, r⟩
end

set_option maxHeartbeats 4000000 in
set_option maxRecDepth 1000000 in
theorem tcl_Parse.walk (s : ByteArray) (r : List S38 × Int × Int) (w : World) (hs : s.size ≤ 16777216) (h : tcl_Parse.l0 s (s.size + 1) 0 0 0 [] = some r) :
    Calls Try.prog 29 #[.string s] w (CPost w r) := by
  have H0 := Aside0.mk h
  clear h
  have hb0 : decide (16777216 < s.size) = false := decide_eq_false (by omega)
  go_enter Try.func29, Try.ntmps29
  go_wp2
  go_loopg [6] (s.size + 1) (fun kq v6 w' => ∃ (i1 a1 e1 : Int) (v : Value) (l : List S38), v6 = v ∧ Aside0 (tcl_Parse.l0 s kq i1 a1 e1 l = some r) ∧ Aside0 (CInv w w' s i1 a1 e1 v l))
  case atStart => exact ⟨0, 0, 0, _, [], rfl, H0, ⟨CInv.start w s⟩⟩
  case round =>
    obtain ⟨i1, a1, e1, v, l, rfl, HA, HP⟩ := hrel
    cases gk with
    | zero => exact absurd HA.out (by simp [tcl_Parse.l0])
    | succ k1 =>
      have H := HA.out
      clear HA H0
      rw [tcl_Parse.l0] at H
      have hcap : ¬ (4398046511100 ≤ l.length) := by
        intro hc
        rw [if_pos hc] at H
        cases H
      rw [if_neg hcap] at H
      have hcap1 : l.length < 4398046511100 := by omega
      clear hcap
      obtain ⟨hst, hge⟩ := HP.out.st
      have c0 := cellS116_0 hst
      have c1 := cellS116_1 hst
      have c2 := cellS116_2 hst
      have c3 := cellS116_3 hst
      have f1 := blk_frozen hst 1
      have HS := Lib.hid hst
      clear hst hge
      obtain ⟨Av, nv, rfl⟩ := Kd.S_slice HP.out.row
      by_cases hi : i1 < (s.size : Int)
      · rw [if_pos hi] at H
        by_cases h0 : 0 ≤ i1
        · rw [if_pos h0] at H
          obtain ⟨b, hb, H⟩ := Option.bind_eq_some_iff.1 H
          have HIN := Aside0.mk hb
          clear hb
          have hbi : decide (i1 < (s.size : Int)) = true := decide_eq_true hi
          have hx := bt_at s i1
          have hbt := bt_range s i1
          have P0 := Lib.hid h0
          have Q0 := Lib.hid hi
          have hub : i1 < 16777217 := by omega
          have hlb : -1 < i1 := by omega
          replace h0 := eq_true h0
          replace hi := eq_true hi
          cases b with
          | true =>
            rw [if_pos rfl] at H
            have H' := Aside0.mk H
            clear H
            go_wp2_with (go_at_call 55; refine (tcl_in.calls _ _ true _ HIN.out).mono ?_; rintro en wc ⟨rfl, ⟨q2, rfl⟩⟩)
            go_roundg k1
            case measure => omega
            case rel => exact ⟨_, _, _, _, _, rfl, ⟨H'.out⟩, ⟨(HP.out.drewN _).set_i _⟩⟩
          | false =>
            rw [if_neg (by decide)] at H
            by_cases h35 : bt s i1 = 35
            · rw [if_pos h35] at H
              have h35b : (bt s i1 == 35) = true := beq_iff_eq.2 h35
              clear h35
              have hle : (i1 ≤ (s.size : Int)) = True := eq_true (by have := Q0.out; omega)
              have hxx : Lib.indexByte (s.extract i1.toNat s.size).data.toList 10 < 16777216 ∧ i1 + Lib.indexByte (s.extract i1.toNat s.size).data.toList 10 < 16777217 := by
                have := P0.out
                have := Q0.out
                rcases Lib.indexByte_piece s i1.toNat s.size 10 with h | ⟨o, h, hh⟩ <;> rw [h] <;> omega
              obtain ⟨hx1, hx2⟩ := hxx
              generalize hix : Lib.indexByte (s.extract i1.toNat s.size).data.toList 10 = ix at H hx1 hx2
              by_cases hn : ix < 0
              · rw [if_pos hn] at H
                have hnb : decide (ix < 0) = true := decide_eq_true hn
                have H' := Aside0.mk H
                clear H hn
                go_wp2_with (first | (go_at_call 55; refine (tcl_in.calls _ _ false _ HIN.out).mono ?_; rintro en wc ⟨rfl, ⟨q2, rfl⟩⟩) | (go_at_call 56; refine (strings_IndexByte.calls _ _ ix _ (by rw [← hix]; rfl)).mono ?_; rintro en wd ⟨rfl, ⟨q3, rfl⟩⟩))
                go_roundg k1
                case measure => omega
                case rel => exact ⟨_, _, _, _, _, rfl, ⟨H'.out⟩, ⟨(HP.out.drewN _).set_i _⟩⟩
              · rw [if_neg hn] at H
                have hnb : decide (ix < 0) = false := decide_eq_false hn
                have hw64 : wrap64 (i1 + ix) = i1 + ix := by have := P0.out; unfold wrap64; omega
                have H' := Aside0.mk H
                clear H hn
                go_wp2_with (first | (go_at_call 55; refine (tcl_in.calls _ _ false _ HIN.out).mono ?_; rintro en wc ⟨rfl, ⟨q2, rfl⟩⟩) | (go_at_call 56; refine (strings_IndexByte.calls _ _ ix _ (by rw [← hix]; rfl)).mono ?_; rintro en wd ⟨rfl, ⟨q3, rfl⟩⟩))
                go_roundg k1
                case measure => omega
                case rel => exact ⟨_, _, _, _, _, rfl, ⟨H'.out⟩, ⟨(HP.out.drewN _).set_i _⟩⟩
            · rw [if_neg h35] at H
              have h35b : (bt s i1 == 35) = false := beq_eq_false_iff_ne.2 h35
              clear h35
              obtain ⟨⟨q1, q2, q3, q4, q5, q6⟩, hc, H⟩ := Option.bind_eq_some_iff.1 H
              dsimp only at H
              by_cases hq : q3 = s
              · rw [if_pos hq] at H
                subst hq
                have HC := Aside0.mk hc
                have H' := Aside0.mk H
                clear H hc
                go_wp2_with (first | (go_at_call 55; refine (tcl_in.calls _ _ false _ HIN.out).mono ?_; rintro en wc ⟨rfl, ⟨q9, hq9⟩⟩; replace HP : Aside0 (CInv w wc q3 i1 a1 e1 (.slice Av l.length nv) l) := ⟨by rw [hq9]; exact HP.out.drewN q9⟩; clear hq9 c0 c1 c2 c3 f1 HS; obtain ⟨hst, hge⟩ := HP.out.st; have c0 := cellS116_0 hst; have c1 := cellS116_1 hst; have c2 := cellS116_2 hst; have c3 := cellS116_3 hst; have f1 := blk_frozen hst 1; clear hst hge) | (go_at_call 57; refine (tcl_parser_command.calls (2 * q3.size + 20) w.heap.size q3 i1 a1 e1 q1 q2 q3 q4 q5 q6 w _ HP.out.st HP.out.hB HC.out).mono ?_; rintro en w2 ⟨vw, rfl, hw, st, hB, hk⟩; have HP2 := Aside0.mk (HP.out.came st hB hk hw); clear hw st hB hk HP c0 c1 c2 c3 f1) | (at_builtin; refine Kd.S_append k38 w.heap.size rfl (.tmp 28) (.tmp 31) 22 38 (.agg #[.int .i64 0, .slice none 0 0]) 32 rfl Try.underlying22 info38 rfl (by decide) (by omega) (.slice Av l.length nv) l ⟨q1, q2⟩ [.int .i64 q1, vw] (fun k => k ≠ w.heap.size) (fun k => wc.heap.size ≤ k) rfl rfl (k38_mkM _ _ _ ⟨q1, q2⟩ HP2.out.new) (fun k hk => HP2.out.okp k hk) (fun k hk => HP2.out.fresh k hk) HP2.out.row HP2.out.hB HP2.out.base (by omega) ?_; intro v1 w3 r3 hb3 hg3 _; have HP3 := Aside0.mk (HP2.out.more q1 r3 hb3 hg3); clear r3 hb3 hg3 HP2))
                go_roundg k1
                case measure => omega
                case rel => exact ⟨_, _, _, _, _, rfl, ⟨H'.out⟩, ⟨HP3.out⟩⟩
              · rw [if_neg hq] at H
                cases H
        · rw [if_neg h0] at H
          cases H
      · rw [if_neg hi] at H
        have hbi : decide (i1 < (s.size : Int)) = false := decide_eq_false hi
        clear hi
        by_cases he : e1 = 0
        · rw [if_pos he] at H
          obtain rfl := Option.some.inj H
          have heb : (e1 != 0) = false := by simp [he]
          clear H he
          go_wp2
          go_ret3
          exact HP.out.fin
        · rw [if_neg he] at H
          obtain rfl := Option.some.inj H
          have heb : (e1 != 0) = true := by simp [he]
          clear H he
          go_wp2
          go_quiet (fail)
          go_wp2
          go_ret3
          exact (HP.out.drewN _).bad _ _

set_option maxHeartbeats 4000000 in
set_option maxRecDepth 1000000 in
theorem tcl_Parse.calls (s : ByteArray) (r1 : List S38) (r2 r3 : Int) (w : World) (h : tcl_Parse.f s = some (r1, r2, r3)) :
    Calls Try.prog 29 #[.string s] w fun e w' => ∃ v0_ : Value, e = .returned (.tuple #[v0_, .int .i64 r2, .int .i64 r3]) ∧ Kd.S k38 38 w' w.heap.size (fun _ => True) v0_ r1 ∧ Below w.heap.size w w' := by
  unfold tcl_Parse.f at h
  by_cases hs : 16777216 < s.size
  · rw [if_pos hs] at h
    simp only [Option.some.injEq, Prod.mk.injEq] at h
    obtain ⟨rfl, rfl, rfl⟩ := h
    have hb0 : decide (16777216 < s.size) = true := decide_eq_true hs
    go_enter Try.func29, Try.ntmps29
    go_wp2
    go_ret3
    exact ⟨_, rfl, Kd.S_nil _ _ _ _ _, Below.refl _ _⟩
  · rw [if_neg hs] at h
    exact (tcl_Parse.walk s (r1, r2, r3) w (by omega) h).mono (fun en w' hp => hp.p)
end Go.Proofs.Ytofhcjdadhpjdaa.Q
