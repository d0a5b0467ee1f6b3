/- plan.command, by hand, over any script function: its function, its boxes. -/
import Derived.Test.YtofhcjdadhpjdaaEList
namespace Go.Proofs.Ytofhcjdadhpjdaa.Q
set_option linter.unusedSimpArgs false
set_option linter.unusedVariables false
open Go.RowKit Go.Proofs.YtofhcjdadhpjdaaW.PrintWords Go.Proofs.YtofhcjdadhpjdaaW.PrintLast Go.Proofs.YtofhcjdadhpjdaaW.PrintMore

theorem plan_list.calls (scr : ScrF) (hscr : ScrOK scr) (ws : List SWd) (A : Option Addr) (c : Nat) (ok0 : Nat → Prop) (r1 : List PArm) (r2 r3 : Int) (w : World) (hF : Kd.V kWd 41 w 0 ok0 (.slice A ws.length c) ws)
    (h : plan_list.f scr ws = some (r1, r2, r3)) :
    Calls Try.prog 90 #[.slice A ws.length c] w fun en w' => ∃ v_ : Value, en = .returned (.tuple #[v_, .agg #[.int .i64 r2, .int .i64 r3]]) ∧ Kd.V kArm 49 w' 0 (fun k => (ok0 k ∧ k < w.heap.size) ∨ w.heap.size ≤ k) v_ r1 ∧ Below w.heap.size w w' :=
  (plan_list.walk scr hscr ws A c ok0 (r1, r2, r3) w hF h).mono (fun _ _ hp => hp.p)

/-- The words of an expect's arms: the braced list's, or the command's own. -/
def argsP (args : List SWd) : Option (List SWd × Int × Int) :=
  match args with
  | [a] => if a.f1 = 2 then (openP a).bind fun t => (plan_parse.f t (wrap64 (a.f0 + 1))).bind fun r => if r.2.2 = 0 then some (r.1.flatMap (·.f1), 0, 0) else some ([], r.2.1, r.2.2) else some ([a], 0, 0)
  | l => some (l, 0, 0)
def plan_command.f (scr : ScrF) (c : SCm) (body : Bool) : Option (POp × Int × Int) :=
  match c.f1 with
  | [] => none
  | w0 :: args =>
    if (oneP w0).2 = false then some (zOp, w0.f0, 4)
    else match formI (oneP w0).1 with
      | none => some (zOp, c.f0, 8)
      | some (k, lo, hi) =>
        if (args.length : Int) < lo ∨ (args.length : Int) > hi then some (zOp, c.f0, 2)
        else if k = 8 ∧ body = false then some (zOp, c.f0, 9)
        else if k ≠ 3 then some (.mk k c.f0 args [], 0, 0)
        else (argsP args).bind fun r => if r.2.2 = 0 then (plan_list.f scr r.1).bind fun q => if q.2.2 = 0 then (if q.1.length = 0 then some (zOp, c.f0, 2) else some (.mk 3 c.f0 [] q.1, 0, 0)) else some (zOp, q.2.1, q.2.2) else some (zOp, r.2.1, r.2.2)

/-- The call's own boxes: the command, the operation, where it is wrong. -/
structure CB (w W : World) (c2 : Array Value) : Prop where
  hB : Below w.heap.size w W
  b2 : W.heap[w.heap.size]? = some (.cells c2 38 (0, 0))
  b4 : W.heap[w.heap.size + 1]? = some (.cells #[.int .i64 0, .int .i64 0, .slice none 0 0, .slice none 0 0] 47 (0, 0))
  b5 : W.heap[w.heap.size + 1 + 1]? = some (.cells #[.int .i64 0, .int .i64 0] 90 (0, 0))
section
variable {w W W1 : World} {c2 : Array Value} {x y z : Obj}
theorem CB.size3 (w : World) (x y z : Obj) : (((w.alloc x).alloc y).alloc z).heap.size = w.heap.size + 1 + 1 + 1 := by rw [World.size_alloc, World.size_alloc, World.size_alloc]
theorem CB.alloc3 (w : World) (x y z : Obj) : Below w.heap.size w (((w.alloc x).alloc y).alloc z) := below_alloc (below_alloc (below_alloc (Below.refl _ _) _) _) _
theorem CB.made (hB : Below (((w.alloc (.cells c2 38)).alloc (.cells #[.int .i64 0, .int .i64 0, .slice none 0 0, .slice none 0 0] 47)).alloc (.cells #[.int .i64 0, .int .i64 0] 90)).heap.size (((w.alloc (.cells c2 38)).alloc (.cells #[.int .i64 0, .int .i64 0, .slice none 0 0, .slice none 0 0] 47)).alloc (.cells #[.int .i64 0, .int .i64 0] 90)) W) : CB w W c2 := by
  have hs := CB.size3 w (.cells c2 38) (.cells #[.int .i64 0, .int .i64 0, .slice none 0 0, .slice none 0 0] 47) (.cells #[.int .i64 0, .int .i64 0] 90)
  have s1 : (w.alloc (.cells c2 38)).heap.size = w.heap.size + 1 := World.size_alloc _ _
  have s2 : ((w.alloc (.cells c2 38)).alloc (.cells #[.int .i64 0, .int .i64 0, .slice none 0 0, .slice none 0 0] 47)).heap.size = w.heap.size + 1 + 1 := by rw [World.size_alloc, s1]
  refine ⟨below_step (CB.alloc3 w _ _ _) hB, (hB.block _ (by omega)).trans (blk_alloc (blk_alloc (blk_new w _) _) _), (hB.block _ (by omega)).trans (blk_alloc ?_ _), (hB.block _ (by omega)).trans ?_⟩
  · rw [← s1]; exact blk_new _ _
  · rw [← s2]; exact blk_new _ _
theorem CB.below (h : CB w W c2) (hb : Below W.heap.size W W1) : CB w W1 c2 :=
  ⟨below_step h.hB hb, (hb.block _ (blk_lt h.b2)).trans h.b2, (hb.block _ (blk_lt h.b4)).trans h.b4, (hb.block _ (blk_lt h.b5)).trans h.b5⟩
end
/-- The form's box beside them. -/
structure CF (w W : World) (c2 c8 : Array Value) (g8 : Nat) : Prop where
  cb : CB w W c2
  b8 : W.heap[g8]? = some (.cells c8 161 (0, 0))
  ge : w.heap.size + 1 + 1 < g8
theorem CF.made {w W : World} {c2 : Array Value} (h : CB w W c2) (c8 : Array Value) : CF w (W.alloc (.cells c8 161)) c2 c8 W.heap.size :=
  ⟨h.below (below_alloc (Below.refl _ _) _), blk_new W _, blk_lt h.b5⟩
theorem CF.below {w W W1 : World} {c2 c8 : Array Value} {g8 : Nat} (h : CF w W c2 c8 g8) (hb : Below W.heap.size W W1) : CF w W1 c2 c8 g8 :=
  ⟨h.cb.below hb, (hb.block _ (blk_lt h.b8)).trans h.b8, h.ge⟩
structure CPost2 (w : World) (ok0 : Nat → Prop) (r : POp × Int × Int) (en : Ending) (w' : World) : Prop where
  p : ∃ cs : List Value, en = .returned (.tuple #[.agg cs.toArray, .agg #[.int .i64 r.2.1, .int .i64 r.2.2]]) ∧ Kd.FK kOp w' (fun k => (ok0 k ∧ k < w.heap.size) ∨ w.heap.size ≤ k) r.1 cs ∧ Below w.heap.size w w'
/-- The two results stored. -/
def setRes (W : World) (z : Nat) (u0 u1 u2 u3 x y : Value) : World := (((((W.setCell ⟨z + 1, 0, none⟩ u0).setCell ⟨z + 1, 1, none⟩ u1).setCell ⟨z + 1, 2, none⟩ u2).setCell ⟨z + 1, 3, none⟩ u3).setCell ⟨z + 1 + 1, 0, none⟩ x).setCell ⟨z + 1 + 1, 1, none⟩ y
section
variable {w W : World} {c2 : Array Value} {u0 u1 u2 u3 x y : Value} {ok0 : Nat → Prop}
theorem CB.drew (h : CB w W c2) : CB w W.drew c2 := ⟨below_drew h.hB, h.b2, h.b4, h.b5⟩
theorem CB.res4 (h : CB w W c2) : (setRes W w.heap.size u0 u1 u2 u3 x y).heap[w.heap.size + 1]? = some (.cells #[u0, u1, u2, u3] 47 (0, 0)) :=
  blk_far (blk_far (blk_put (cs := #[u0, u1, u2, .slice none 0 0]) (blk_put (cs := #[u0, u1, .slice none 0 0, .slice none 0 0]) (blk_put (cs := #[u0, .int .i64 0, .slice none 0 0, .slice none 0 0]) (blk_put (cs := #[.int .i64 0, .int .i64 0, .slice none 0 0, .slice none 0 0]) h.b4 0 _ rfl) 1 _ rfl) 2 _ rfl) 3 _ rfl) (show w.heap.size + 1 ≠ w.heap.size + 1 + 1 by omega) _) (show w.heap.size + 1 ≠ w.heap.size + 1 + 1 by omega) _
theorem CB.res5 (h : CB w W c2) : (setRes W w.heap.size u0 u1 u2 u3 x y).heap[w.heap.size + 1 + 1]? = some (.cells #[x, y] 90 (0, 0)) :=
  blk_put (cs := #[x, .int .i64 0]) (blk_put (cs := #[.int .i64 0, .int .i64 0]) (blk_far (blk_far (blk_far (blk_far h.b5 (show w.heap.size + 1 + 1 ≠ w.heap.size + 1 by omega) _) (show w.heap.size + 1 + 1 ≠ w.heap.size + 1 by omega) _) (show w.heap.size + 1 + 1 ≠ w.heap.size + 1 by omega) _) (show w.heap.size + 1 + 1 ≠ w.heap.size + 1 by omega) _) 0 _ rfl) 1 _ rfl
theorem CB.resB (h : CB w W c2) : Below w.heap.size w (setRes W w.heap.size u0 u1 u2 u3 x y) :=
  below_set (below_set (below_set (below_set (below_set (below_set h.hB (by show w.heap.size ≤ w.heap.size + 1; omega)) (by show w.heap.size ≤ w.heap.size + 1; omega)) (by show w.heap.size ≤ w.heap.size + 1; omega)) (by show w.heap.size ≤ w.heap.size + 1; omega)) (by show w.heap.size ≤ w.heap.size + 1 + 1; omega)) (by show w.heap.size ≤ w.heap.size + 1 + 1; omega)
theorem cell_set4 {z : Nat} {p : Addr} {u : Value} (h : p.block ≠ z + 1) (hc : W.cell? p = some u) : ((((W.setCell ⟨z + 1, 0, none⟩ u0).setCell ⟨z + 1, 1, none⟩ u1).setCell ⟨z + 1, 2, none⟩ u2).setCell ⟨z + 1, 3, none⟩ u3).cell? p = some u := by
  have hne : ∀ k, (⟨z + 1, k, none⟩ : Addr) ≠ p := fun k e => h (by rw [← e])
  rw [World.cell?_setCell_other _ _ _ _ (hne 3), World.cell?_setCell_other _ _ _ _ (hne 2), World.cell?_setCell_other _ _ _ _ (hne 1), World.cell?_setCell_other _ _ _ _ (hne 0)]
  exact hc
theorem CB.bad (h : CB w W c2) (x y : Int) : CPost2 w ok0 (zOp, x, y) (.returned (.tuple #[.agg #[.int .i64 0, .int .i64 0, .slice none 0 0, .slice none 0 0], .agg #[.int .i64 x, .int .i64 y]])) (setRes W w.heap.size (.int .i64 0) (.int .i64 0) (.slice none 0 0) (.slice none 0 0) (.int .i64 x) (.int .i64 y)) :=
  ⟨[.int .i64 0, .int .i64 0, .slice none 0 0, .slice none 0 0], rfl, kOp_mkF _ _ zOp (Nat.le_refl _) (Kd.F_nil _ _ _) (Nat.le_refl _) (Kd.F_nil _ _ _), h.resB⟩
theorem CPost2.drew {r : POp × Int × Int} {en : Ending} (h : CPost2 w ok0 r en W) : CPost2 w ok0 r en W.drew := by
  obtain ⟨cs, h1, h2, h3⟩ := h.p
  exact ⟨cs, h1, Kd.FK_below h2 (below_drew (Below.refl _ _)), below_drew h3⟩
theorem CB.plain (h : CB w W c2) (k a : Int) {l : List SWd} {A : Option Addr} {c : Nat} (hl : l.length ≤ c) (hF : Kd.F kWd w (fun k => ok0 k ∧ k < w.heap.size) A l.length l) :
    CPost2 w ok0 (.mk k a l [], 0, 0) (.returned (.tuple #[.agg #[.int .i64 k, .int .i64 a, .slice A l.length c, .slice none 0 0], .agg #[.int .i64 0, .int .i64 0]])) (setRes W w.heap.size (.int .i64 k) (.int .i64 a) (.slice A l.length c) (.slice none 0 0) (.int .i64 0) (.int .i64 0)) :=
  ⟨[.int .i64 k, .int .i64 a, .slice A l.length c, .slice none 0 0], rfl, kOp_mkF _ _ (.mk k a l []) hl (Kd.F_mono (Kd.F_below hF h.resB) (fun _ hk => .inl hk)) (Nat.le_refl _) (Kd.F_nil _ _ _), h.resB⟩
theorem F_res {α : Type} {d : Kd α} {ok : Nat → Prop} {A : Option Addr} {n : Nat} {l : List α} {z : Nat} (h : Kd.F d W ok A n l) (hok : ∀ k, ok k → k ≠ z + 1 ∧ k ≠ z + 1 + 1) : Kd.F d (setRes W z u0 u1 u2 u3 x y) ok A n l :=
  Kd.F_far (p := ⟨z + 1 + 1, 1, none⟩) (Kd.F_far (p := ⟨z + 1 + 1, 0, none⟩) (Kd.F_far (p := ⟨z + 1, 3, none⟩) (Kd.F_far (p := ⟨z + 1, 2, none⟩) (Kd.F_far (p := ⟨z + 1, 1, none⟩) (Kd.F_far (p := ⟨z + 1, 0, none⟩) h (fun k hk => (hok k hk).1) _) (fun k hk => (hok k hk).1) _) (fun k hk => (hok k hk).1) _) (fun k hk => (hok k hk).1) _) (fun k hk => (hok k hk).2) _) (fun k hk => (hok k hk).2) _
theorem CB.arms (h : CB w W c2) (a : Int) {l : List PArm} {A : Option Addr} {c : Nat} (hl : l.length ≤ c) (hF : Kd.F kArm W (fun k => (ok0 k ∧ k < w.heap.size) ∨ w.heap.size + 1 + 1 < k) A l.length l) :
    CPost2 w ok0 (.mk 3 a [] l, 0, 0) (.returned (.tuple #[.agg #[.int .i64 3, .int .i64 a, .slice none 0 0, .slice A l.length c], .agg #[.int .i64 0, .int .i64 0]])) (setRes W w.heap.size (.int .i64 3) (.int .i64 a) (.slice none 0 0) (.slice A l.length c) (.int .i64 0) (.int .i64 0)) :=
  ⟨[.int .i64 3, .int .i64 a, .slice none 0 0, .slice A l.length c], rfl, kOp_mkF _ _ (.mk 3 a [] l) (Nat.le_refl _) (Kd.F_nil _ _ _) hl (Kd.F_mono (F_res hF (fun k hk => by rcases hk with hk | hk <;> omega)) (fun _ hk => hk.imp id (fun h => by omega))), h.resB⟩
end
theorem plan_parse.callsV (s : ByteArray) (b : Int) (r1 : List SCm) (r2 r3 : Int) (w : World) (h : plan_parse.f s b = some (r1, r2, r3)) :
    Calls Try.prog 68 #[.string s, .int .i64 b] w fun en w' => ∃ v_ : Value, en = .returned (.tuple #[v_, .agg #[.int .i64 r2, .int .i64 r3]]) ∧ Kd.V kCm 38 w' 0 (fun k => w.heap.size ≤ k) v_ r1 ∧ Below w.heap.size w w' :=
  (plan_parse.calls s b r1 r2 r3 w h).mono (fun en w' ⟨v, h1, h2, h3⟩ => ⟨v, h1, Kd.S_V (Kd.S_mono (Kd.S_bound h2) (fun _ hk => hk.2.1)), h3⟩)
/-- An expect with a right number of arguments. -/
def IsExp (c : SCm) : Prop := ∃ w0 args lo hi, c.f1 = w0 :: args ∧ (oneP w0).2 = true ∧ formI (oneP w0).1 = some (3, lo, hi) ∧ lo ≤ (args.length : Int) ∧ (args.length : Int) ≤ hi
structure CmF (wc w' : World) (v : Value) (g : Nat) (l : List SCm) : Prop where
  hB : Below wc.heap.size wc w'
  bx : w'.heap[g]? = some (.cells #[.int .i64 0, .int .i64 0] 90 (0, 0))
  ge : wc.heap.size ≤ g
  cs : Kd.V kCm 38 w' 0 (fun k => wc.heap.size ≤ k ∧ k ≠ g) v l
structure CmG (wc w' : World) (v : Value) (g : Nat) (l : List SCm) (x y : Int) : Prop where
  hB : Below wc.heap.size wc w'
  bx : w'.heap[g]? = some (.cells #[.int .i64 x, .int .i64 y] 90 (0, 0))
  cs : Kd.V kCm 38 w' 0 (fun k => wc.heap.size ≤ k ∧ k ≠ g) v l
theorem CmF.put2 {wc w' : World} {v : Value} {g : Nat} {l : List SCm} {x y : Int} (h : CmF wc w' v g l) : CmG wc ((w'.setCell ⟨g, 0, none⟩ (.int .i64 x)).setCell ⟨g, 1, none⟩ (.int .i64 y)) v g l x y :=
  ⟨below_set (below_set h.hB h.ge) h.ge, wrong_set h.bx x y, Kd.V_far (p := ⟨g, 1, none⟩) (Kd.V_far (p := ⟨g, 0, none⟩) h.cs (fun _ hk => hk.2) _) (fun _ hk => hk.2) _⟩
def expR (scr : ScrF) (ca : Int) (l : List SWd) : Option (POp × Int × Int) :=
  (plan_list.f scr l).bind fun q => if q.2.2 = 0 then (if q.1.length = 0 then some (zOp, ca, 2) else some (.mk 3 ca [] q.1, 0, 0)) else some (zOp, q.2.1, q.2.2)
/-- Ahead of the arms: their words. -/
structure PreL (w W : World) (c2 : Array Value) (ok0 : Nat → Prop) (v : Value) (l : List SWd) : Prop where
  cb : CB w W c2
  ws : Kd.V kWd 41 W 0 (fun k => (ok0 k ∧ k < w.heap.size) ∨ w.heap.size + 1 + 1 < k) v l
theorem cm_read {W : World} {ok : Nat → Prop} {A : Option Addr} {l : List SCm} (h : Kd.F kCm W ok A l.length l) (i : Nat) (hi : i < l.length) :
    ∃ ad A2 c2, A = some ad ∧ W.cell? (ad.add (i * 2)) = some (.int .i64 (l.getD i zCm).f0) ∧ W.cell? ⟨(ad.add (i * 2)).block, (ad.add (i * 2)).off + 1, none⟩ = some (.slice A2 (l.getD i zCm).f1.length c2) ∧ (l.getD i zCm).f1.length ≤ c2 ∧ Kd.F kWd W ok A2 (l.getD i zCm).f1.length (l.getD i zCm).f1 := by
  obtain ⟨ad, c, rfl, _, hK, hcc, _⟩ := Kd.F_get h zCm (i : Int) (by omega) (by omega)
  rw [Int.toNat_natCast] at hK hcc
  obtain ⟨A2, c2, rfl, hl, hF⟩ := k38_openF hK
  have h0 := hcc 0 _ rfl
  have h1 := hcc 1 _ rfl
  rw [add_field _ _ 1 (by omega)] at h1
  exact ⟨ad, A2, c2, rfl, h0, h1, hl, hF⟩
theorem flat_step (l : List SCm) (i : Nat) (hi : i < l.length) : (l.take (i + 1)).flatMap (·.f1) = (l.take i).flatMap (·.f1) ++ (l.getD i zCm).f1 := by
  rw [List.take_succ_eq_append_getElem hi, List.flatMap_append]
  simp [List.getD_eq_getElem?_getD, List.getElem?_eq_getElem hi]
theorem flat_le (l : List SCm) (i : Nat) : ((l.take i).flatMap (·.f1)).length ≤ (l.flatMap (·.f1)).length := by
  have := List.take_append_drop i l
  have h : l.flatMap (·.f1) = (l.take i).flatMap (·.f1) ++ (l.drop i).flatMap (·.f1) := by rw [← List.flatMap_append, this]
  rw [h, List.length_append]
  omega
/-- Between two rounds: the words so far. -/
structure RInv (w wy W : World) (v : Value) (xs : List SWd) : Prop where
  hB : Below wy.heap.size wy W
  row : Kd.N kWd 41 W wy.heap.size (fun k => w.heap.size + 1 + 1 < k) v xs
theorem RInv.next {w wy W W1 w1 : World} {v v1 : Value} {xs ys : List SWd} (h : Below wy.heap.size wy w1) (hr : Kd.N kWd 41 w1 wy.heap.size (fun k => w.heap.size + 1 + 1 < k) v1 (xs ++ ys)) : RInv w wy w1 v1 (xs ++ ys) := ⟨h, hr⟩
end Go.Proofs.Ytofhcjdadhpjdaa.Q
