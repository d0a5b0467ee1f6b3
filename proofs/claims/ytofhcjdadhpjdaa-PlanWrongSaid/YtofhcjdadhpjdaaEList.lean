/- plan.list, by hand, over any script function. -/
import Derived.Test.YtofhcjdadhpjdaaEFlag
import Derived.Deep.CutRange
import Derived.Deep.DeepCutAuto
namespace Go.Proofs.Ytofhcjdadhpjdaa.Q
set_option linter.unusedSimpArgs false
set_option linter.unusedVariables false
open Go.RowKit Go.Proofs.YtofhcjdadhpjdaaW.PrintWords Go.Proofs.YtofhcjdadhpjdaaW.PrintLast Go.Proofs.YtofhcjdadhpjdaaW.PrintMore

abbrev ScrF := ByteArray → Int → Bool → Option (List POp × Int × Int)
def openP (x : SWd) : Option ByteArray := plan_open.f (x.f2.length + 1) x.f0 x.f1 x.f2
/-- An arm's body, if the next word is one: what is left of the words, and the body or where it is wrong. -/
def bodyP (scr : ScrF) (l : List SWd) : Option (List SWd × List POp × Int × Int) :=
  match l with
  | [] => some ([], [], 0, 0)
  | b :: l' => if b.f1 = 2 then (openP b).bind fun t => (scr t (wrap64 (b.f0 + 1)) true).bind fun r => some (l', r.1, r.2.1, r.2.2) else some (b :: l', [], 0, 0)
theorem bodyP_none (scr : ScrF) {l : List SWd} (h : ¬ ∃ b l', l = b :: l' ∧ b.f1 = 2) : bodyP scr l = some (l, [], 0, 0) := by
  match l, h with
  | [], _ => rfl
  | b :: l', h =>
    show (if b.f1 = 2 then _ else _) = _
    rw [if_neg (fun h2 => h ⟨b, l', rfl, h2⟩)]
def plan_list.j0' (nxt : List SWd → List PArm → Option (List PArm × Int × Int)) (scr : ScrF) (l : List SWd) (ky : Int) (px : SWd) (arms : List PArm) : Option (List PArm × Int × Int) :=
  (bodyP scr l).bind fun r => if r.2.2.2 = 0 then nxt r.1 (arms ++ [(ky, px, r.2.1)]) else some ([], r.2.2.1, r.2.2.2)
def plan_list.l0 (scr : ScrF) : Nat → List SWd → List PArm → Option (List PArm × Int × Int)
  | 0, _, _ => none
  | n + 1, l, arms =>
    match l with
    | [] => some (arms, 0, 0)
    | first :: l1 =>
      if arms.length = 64 then some ([], first.f0, 10) else
      if (flagP first).2 = true then
        if (flagP first).1 < 2 then
          match l1 with
          | [] => some ([], first.f0, 2)
          | p :: l2 => plan_list.j0' (plan_list.l0 scr n) scr l2 (flagP first).1 p arms
        else plan_list.j0' (plan_list.l0 scr n) scr l1 (flagP first).1 zWd arms
      else plan_list.j0' (plan_list.l0 scr n) scr l1 1 first arms
def plan_list.f (scr : ScrF) (l : List SWd) : Option (List PArm × Int × Int) := plan_list.l0 scr (l.length + 1) l []

/-- What is known of a script function. -/
def ScrOK (scr : ScrF) : Prop := ∀ (t : ByteArray) (b : Int) (body : Bool) (r1 : List POp) (r2 r3 : Int) (w : World), scr t b body = some (r1, r2, r3) →
  Calls Try.prog 41 #[.string t, .int .i64 b, .bool body] w fun en w' => ∃ v_ : Value, en = .returned (.tuple #[v_, .agg #[.int .i64 r2, .int .i64 r3]]) ∧ Kd.V kOp 47 w' 0 (fun k => w.heap.size ≤ k) v_ r1 ∧ Below w.heap.size w w'

theorem ScrOK.calls {scr : ScrF} (h : ScrOK scr) (t : ByteArray) (b : Int) (body : Bool) (r1 : List POp) (r2 r3 : Int) (w : World) (he : scr t b body = some (r1, r2, r3)) :
  Calls Try.prog 41 #[.string t, .int .i64 b, .bool body] w fun en w' => ∃ v_ : Value, en = .returned (.tuple #[v_, .agg #[.int .i64 r2, .int .i64 r3]]) ∧ Kd.V kOp 47 w' 0 (fun k => w.heap.size ≤ k) v_ r1 ∧ Below w.heap.size w w' := h t b body r1 r2 r3 w he
/-- Between two rounds: the words to come, the arms so far, the box of the result. -/
structure LInv (w W : World) (ok0 : Nat → Prop) (v0 v4 : Value) (l : List SWd) (arms : List PArm) : Prop where
  ws : Kd.V kWd 41 W 0 (fun k => ok0 k ∧ k < w.heap.size) v0 l
  as_ : Kd.N kArm 49 W (w.heap.size + 1) (fun k => (ok0 k ∧ k < w.heap.size) ∨ w.heap.size < k) v4 arms
  bx : W.heap[w.heap.size]? = some (.cells #[.int .i64 0, .int .i64 0] 90 (0, 0))
  hB : Below w.heap.size w W
structure LPost (w : World) (ok0 : Nat → Prop) (r : List PArm × Int × Int) (en : Ending) (w' : World) : Prop where
  p : ∃ v_ : Value, en = .returned (.tuple #[v_, .agg #[.int .i64 r.2.1, .int .i64 r.2.2]]) ∧ Kd.V kArm 49 w' 0 (fun k => (ok0 k ∧ k < w.heap.size) ∨ w.heap.size ≤ k) v_ r.1 ∧ Below w.heap.size w w'
section
variable {w W W1 : World} {ok0 : Nat → Prop} {v0 v4 : Value} {l : List SWd} {arms : List PArm}
theorem LInv.lt (h : LInv w W ok0 v0 v4 l arms) : w.heap.size < W.heap.size := by
  have := (Array.getElem?_eq_some_iff.1 h.bx).1
  exact this
theorem LInv.below (h : LInv w W ok0 v0 v4 l arms) (hb : Below W.heap.size W W1) : LInv w W1 ok0 v0 v4 l arms :=
  ⟨Kd.V_below h.ws hb, Kd.N_below h.as_ hb, (hb.block _ h.lt).trans h.bx, below_step h.hB hb⟩
end
section
variable {w W W1 : World} {ok0 ok : Nat → Prop} {v0 v4 : Value} {l : List SWd} {arms : List PArm}
theorem LInv.fin (h : LInv w W ok0 v0 v4 l arms) : LPost w ok0 (arms, 0, 0) (.returned (.tuple #[v4, .agg #[.int .i64 0, .int .i64 0]])) ((W.setCell ⟨w.heap.size, 0, none⟩ (.int .i64 0)).setCell ⟨w.heap.size, 1, none⟩ (.int .i64 0)) :=
  ⟨v4, rfl, Kd.N_V (Kd.N_mono (Kd.N_far (p := ⟨w.heap.size, 1, none⟩) (Kd.N_far (p := ⟨w.heap.size, 0, none⟩) h.as_ (fun k hk => by show k ≠ w.heap.size; omega) _) (fun k hk => by show k ≠ w.heap.size; omega) _) (fun k hk => hk.imp id Nat.le_of_lt)), below_set (below_set h.hB (Nat.le_refl _)) (Nat.le_refl _)⟩
theorem LPost.bad (hb : Below w.heap.size w W) (x y : Int) : LPost w ok0 ([], x, y) (.returned (.tuple #[.slice none 0 0, .agg #[.int .i64 x, .int .i64 y]])) ((W.setCell ⟨w.heap.size, 0, none⟩ (.int .i64 x)).setCell ⟨w.heap.size, 1, none⟩ (.int .i64 y)) :=
  ⟨_, rfl, Kd.V_nil _ _ _ _ _, below_set (below_set hb (Nat.le_refl _)) (Nat.le_refl _)⟩
theorem wd_first {A : Option Addr} {x : SWd} (h : Kd.F kWd W ok A (x :: l).length (x :: l)) : ∃ ad A3 c3, A = some ad ∧ W.cell? ad = some (.int .i64 x.f0) ∧ W.cell? ⟨ad.block, ad.off + 1, none⟩ = some (.int .i64 x.f1) ∧ W.cell? ⟨ad.block, ad.off + 2, none⟩ = some (.slice A3 x.f2.length c3) ∧ x.f2.length ≤ c3 ∧ Kd.F k43 W ok A3 x.f2.length x.f2 ∧ ok ad.block := by
  obtain ⟨ad, cs, rfl, _, hK, hcc, hin⟩ := Kd.F_get h x 0 (by omega) (by simp only [List.length_cons]; omega)
  obtain ⟨A3, c3, rfl, hl, hF⟩ := k41_openF hK
  have h0 := hcc 0 _ rfl
  have h1 := hcc 1 _ rfl
  have h2 := hcc 2 _ rfl
  simp only [Int.reduceToNat, Nat.zero_mul, Nat.zero_add, Addr.add_zero'] at h0
  rw [add_field _ _ 1 (by omega)] at h1
  rw [add_field _ _ 2 (by omega)] at h2
  simp only [Int.reduceToNat, Nat.zero_mul, Nat.zero_add, Addr.add_zero'] at h1 h2
  exact ⟨ad, A3, c3, rfl, h0, h1, h2, hl, hF, hin (by decide)⟩
end
theorem wd_rest {W : World} {ok : Nat → Prop} {l : List SWd} {x : SWd} {ad : Addr} {c : Nat} (h : Kd.F kWd W ok (some ad) (x :: l).length (x :: l)) (hc : (x :: l).length ≤ c) :
    Kd.V kWd 41 W 0 ok (.slice (if c = 1 then some ad else some ⟨ad.block, ad.off + 3, none⟩) l.length (c - 1)) l := by
  have h1 := Kd.F_cut (m := 1) h (by simp only [List.length_cons]; omega) hc
  have e : ad.add (1 * kWd.sz) = ⟨ad.block, ad.off + 3, none⟩ := by
    have := add_field ad 0 3 (by omega)
    rw [Addr.add_zero'] at this
    exact this
  simp only [Option.map_some, e, List.drop_one, List.tail_cons] at h1
  exact ⟨_, _, rfl, by simp only [List.length_cons] at hc; omega, h1⟩
/-- Behind the arm's first words: what is left of the words, the arm's box. -/
structure Mid (w wr W : World) (ok0 : Nat → Prop) (v0 : Value) (l : List SWd) (ky : Int) (px : SWd) (Ax : Option Addr) (cx : Nat) (Ab : Option Addr) (nb cb : Nat) : Prop where
  hB : Below wr.heap.size wr W
  b6 : W.heap[wr.heap.size + 1]? = some (.cells #[.int .i64 ky, .int .i64 px.f0, .int .i64 px.f1, .slice Ax px.f2.length cx, .slice Ab nb cb] 49 (0, 0))
  ws : Kd.V kWd 41 wr 0 (fun k => ok0 k ∧ k < w.heap.size) v0 l
  pl : px.f2.length ≤ cx
  pt : Kd.F k43 wr (fun k => ok0 k ∧ k < w.heap.size) Ax px.f2.length px.f2
theorem infoArm : (Try.prog.info? 49).map (fun i => (i.zero, i.size, i.bytes)) = some (some (.agg #[.int .i64 0, .int .i64 0, .int .i64 0, .slice none 0 0, .slice none 0 0]), 5, 72) := by kernel_rfl
section
variable {w wr W w3 : World} {ok0 : Nat → Prop} {v0 v4 v v1 : Value} {l lx : List SWd} {arms : List PArm} {ky : Int} {px : SWd} {Ax Ab : Option Addr} {cx nb cb : Nat} {bd : List POp}
theorem Mid.arm (h : Mid w wr W ok0 v0 lx ky px Ax cx Ab bd.length cb) (hb : bd.length ≤ cb) (hF : Kd.F kOp W (fun k => wr.heap.size + 1 < k) Ab bd.length bd) :
    Kd.FK kArm W (fun k => (ok0 k ∧ k < w.heap.size) ∨ wr.heap.size + 1 < k) (ky, px, bd) [.int .i64 ky, .int .i64 px.f0, .int .i64 px.f1, .slice Ax px.f2.length cx, .slice Ab bd.length cb] :=
  kArm_mkF W _ (ky, px, bd) h.pl (Kd.F_mono (Kd.F_below h.pt h.hB) (fun _ hk => .inl hk)) hb (Kd.F_mono hF (fun _ hk => .inr hk))
theorem LInv.okp (h : LInv w wr ok0 v v4 l arms) (k : Nat) (hk : (ok0 k ∧ k < w.heap.size) ∨ wr.heap.size + 1 < k) : ((ok0 k ∧ k < w.heap.size) ∨ w.heap.size < k) ∧ some k ≠ v4.ownBlock := by
  have hlt := h.lt
  refine ⟨hk.imp id (fun h2 => by omega), fun he => ?_⟩
  have h1 := Kd.N_lt h.as_ k he.symm
  have h2 := Kd.N_base h.as_ k he.symm
  omega
theorem LInv.next (h : LInv w wr ok0 v v4 l arms) (hm : Mid w wr W ok0 v0 lx ky px Ax cx Ab nb cb) (hb : Below (w.heap.size + 1) W w3) {arms2 : List PArm} (hr : Kd.N kArm 49 w3 (w.heap.size + 1) (fun k => (ok0 k ∧ k < w.heap.size) ∨ w.heap.size < k) v1 arms2) : LInv w w3 ok0 v0 v1 lx arms2 :=
  ⟨Kd.V_step (Kd.V_below hm.ws hm.hB) (fun k hk _ => hb.block k (by omega)), hr, (hb.block _ (by omega)).trans ((hm.hB.block _ h.lt).trans h.bx), below_weaken (below_step h.hB hm.hB) (Nat.le_succ _) hb⟩
end
structure BodyF (wc w' : World) (v : Value) (g : Nat) (bd : List POp) : Prop where
  hB : Below wc.heap.size wc w'
  bx : w'.heap[g]? = some (.cells #[.int .i64 0, .int .i64 0] 90 (0, 0))
  ge : wc.heap.size ≤ g
  bd : Kd.V kOp 47 w' 0 (fun k => wc.heap.size ≤ k ∧ k ≠ g) v bd
structure BodyG (wc w' : World) (v : Value) (g : Nat) (bd : List POp) (x y : Int) : Prop where
  hB : Below wc.heap.size wc w'
  bx : w'.heap[g]? = some (.cells #[.int .i64 x, .int .i64 y] 90 (0, 0))
  bd : Kd.V kOp 47 w' 0 (fun k => wc.heap.size ≤ k ∧ k ≠ g) v bd
theorem BodyF.put2 {wc w' : World} {v : Value} {g : Nat} {bd : List POp} {x y : Int} (h : BodyF wc w' v g bd) : BodyG wc ((w'.setCell ⟨g, 0, none⟩ (.int .i64 x)).setCell ⟨g, 1, none⟩ (.int .i64 y)) v g bd x y :=
  ⟨below_set (below_set h.hB h.ge) h.ge, wrong_set h.bx x y, Kd.V_far (p := ⟨g, 1, none⟩) (Kd.V_far (p := ⟨g, 0, none⟩) h.bd (fun _ hk => hk.2) _) (fun _ hk => hk.2) _⟩
theorem Mid.b6y {w wr W W1 : World} {ok0 : Nat → Prop} {v0 : Value} {lx : List SWd} {ky : Int} {px : SWd} {Ax Ab : Option Addr} {cx nb cb : Nat} (h : Mid w wr W ok0 v0 lx ky px Ax cx Ab nb cb) (hb : Below W.heap.size W W1) :
    W1.heap[wr.heap.size + 1]? = some (.cells #[.int .i64 ky, .int .i64 px.f0, .int .i64 px.f1, .slice Ax px.f2.length cx, .slice Ab nb cb] 49 (0, 0)) :=
  (hb.block _ (blk_lt h.b6)).trans h.b6
theorem Mid.body {w wr W W1 : World} {ok0 : Nat → Prop} {v0 v1 : Value} {lx lz : List SWd} {ky : Int} {px : SWd} {Ax Ab Ac : Option Addr} {cx nb cb nc cc : Nat} (h : Mid w wr W ok0 v0 lx ky px Ax cx Ab nb cb) (hv : Kd.V kWd 41 wr 0 (fun k => ok0 k ∧ k < w.heap.size) v1 lz) (hb : Below W.heap.size W W1) :
    Mid w wr (W1.setCell ⟨wr.heap.size + 1, 4, none⟩ (.slice Ac nc cc)) ok0 v1 lz ky px Ax cx Ac nc cc :=
  ⟨below_set (below_step h.hB hb) (Nat.le_succ _), blk_put (cs := #[.int .i64 ky, .int .i64 px.f0, .int .i64 px.f1, .slice Ax px.f2.length cx, .slice Ab nb cb]) (h.b6y hb) 4 _ rfl, hv, h.pl, h.pt⟩
/-- Within a round: the two boxes, new since wr. -/
structure It (wr W : World) (c5 c6 : Array Value) : Prop where
  hB : Below wr.heap.size wr W
  b5 : W.heap[wr.heap.size]? = some (.cells c5 41 (0, 0))
  b6 : W.heap[wr.heap.size + 1]? = some (.cells c6 49 (0, 0))
theorem It.setArm {wr W : World} {c5 : Array Value} {v0 v1 v2 v3 v4 : Value} (h : It wr W c5 #[v0, v1, v2, v3, v4]) (u0 u1 u2 u3 u4 : Value) :
    It wr (((((W.setCell ⟨wr.heap.size + 1, 0, none⟩ u0).setCell ⟨wr.heap.size + 1, 1, none⟩ u1).setCell ⟨wr.heap.size + 1, 2, none⟩ u2).setCell ⟨wr.heap.size + 1, 3, none⟩ u3).setCell ⟨wr.heap.size + 1, 4, none⟩ u4) c5 #[u0, u1, u2, u3, u4] :=
  ⟨below_set (below_set (below_set (below_set (below_set h.hB (Nat.le_succ _)) (Nat.le_succ _)) (Nat.le_succ _)) (Nat.le_succ _)) (Nat.le_succ _),
    blk_far (blk_far (blk_far (blk_far (blk_far h.b5 (Nat.ne_of_lt (Nat.lt_succ_self _)) _) (Nat.ne_of_lt (Nat.lt_succ_self _)) _) (Nat.ne_of_lt (Nat.lt_succ_self _)) _) (Nat.ne_of_lt (Nat.lt_succ_self _)) _) (Nat.ne_of_lt (Nat.lt_succ_self _)) _,
    blk_put (cs := #[u0, u1, u2, u3, v4]) (blk_put (cs := #[u0, u1, u2, v3, v4]) (blk_put (cs := #[u0, u1, v2, v3, v4]) (blk_put (cs := #[u0, v1, v2, v3, v4]) (blk_put (cs := #[v0, v1, v2, v3, v4]) h.b6 0 _ rfl) 1 _ rfl) 2 _ rfl) 3 _ rfl) 4 _ rfl⟩
theorem It.setArm0 {wr W : World} {c5 : Array Value} {v0 v1 v2 v3 v4 : Value} {kx : Int} (h : It wr W c5 #[v0, v1, v2, v3, v4]) :
    It wr (((((W.setCell ⟨wr.heap.size + 1, 0, none⟩ (.int .i64 kx)).setCell ⟨wr.heap.size + 1, 1, none⟩ (.int .i64 0)).setCell ⟨wr.heap.size + 1, 2, none⟩ (.int .i64 0)).setCell ⟨wr.heap.size + 1, 3, none⟩ (.slice none 0 0)).setCell ⟨wr.heap.size + 1, 4, none⟩ (.slice none 0 0)) c5 #[.int .i64 kx, .int .i64 0, .int .i64 0, .slice none 0 0, .slice none 0 0] := h.setArm _ _ _ _ _
theorem cell_below {W W' : World} (hb : Below W.heap.size W W') {a : Addr} (h : a.block < W.heap.size) : W'.cell? a = W.cell? a := by
  unfold World.cell?
  rw [hb.block _ h]
theorem It.setPat {wr W : World} {c5 : Array Value} {v0 v1 v2 v3 v4 u1 u2 u3 : Value} (h : It wr W c5 #[v0, v1, v2, v3, v4]) :
    It wr (((W.setCell ⟨wr.heap.size + 1, 1, none⟩ u1).setCell ⟨wr.heap.size + 1, 2, none⟩ u2).setCell ⟨wr.heap.size + 1, 3, none⟩ u3) c5 #[v0, u1, u2, u3, v4] :=
  ⟨below_set (below_set (below_set h.hB (Nat.le_succ _)) (Nat.le_succ _)) (Nat.le_succ _),
    blk_far (blk_far (blk_far h.b5 (Nat.ne_of_lt (Nat.lt_succ_self _)) _) (Nat.ne_of_lt (Nat.lt_succ_self _)) _) (Nat.ne_of_lt (Nat.lt_succ_self _)) _,
    blk_put (cs := #[v0, u1, u2, v3, v4]) (blk_put (cs := #[v0, u1, v2, v3, v4]) (blk_put (cs := #[v0, v1, v2, v3, v4]) h.b6 1 _ rfl) 2 _ rfl) 3 _ rfl⟩
theorem It.made {wr W : World} {c5 c6 : Array Value} (hB : Below ((wr.alloc (.cells c5 41)).alloc (.cells c6 49)).heap.size ((wr.alloc (.cells c5 41)).alloc (.cells c6 49)) W) : It wr W c5 c6 := by
  have e1 : (wr.alloc (.cells c5 41)).heap.size = wr.heap.size + 1 := World.size_alloc _ _
  have e2 : ((wr.alloc (.cells c5 41)).alloc (.cells c6 49)).heap.size = wr.heap.size + 2 := by rw [World.size_alloc, e1]
  refine ⟨below_step (below_alloc (below_alloc (Below.refl _ _) _) _) hB, (hB.block _ (by omega)).trans (blk_alloc (blk_new wr _) _), (hB.block _ (by omega)).trans ?_⟩
  rw [← e1]
  exact blk_new _ _
set_option maxHeartbeats 1000000 in
set_option maxRecDepth 1000000 in
theorem plan_list.walk (scr : ScrF) (hscr : ScrOK scr) (ws : List SWd) (A : Option Addr) (c : Nat) (ok0 : Nat → Prop) (r : List PArm × Int × Int) (w : World) (hF : Kd.V kWd 41 w 0 ok0 (.slice A ws.length c) ws)
    (h : plan_list.l0 scr (ws.length + 1) ws [] = some r) :
    Calls Try.prog 90 #[.slice A ws.length c] w (LPost w ok0 r) := by
  have H0 := Aside0.mk h
  clear h
  have HV := Aside0.mk hF
  clear hF
  go_enter Try.func90, Try.ntmps90
  go_wp2
  go_loopg [0, 4] (ws.length + 1) (fun kq v0 v4 w' => ∃ (l1 : List SWd) (arms1 : List PArm), arms1.length ≤ 64 ∧ Aside0 (plan_list.l0 scr kq l1 arms1 = some r) ∧ Aside0 (LInv w w' ok0 v0 v4 l1 arms1))
  case atStart => exact ⟨ws, [], by simp, H0, ⟨⟨Kd.V_alloc (Kd.V_mono (Kd.V_bound HV.out) (fun _ hk => hk)) _, Kd.N_nil _ _ _ _ _, blk_new w _, below_alloc (Below.refl _ _) _⟩⟩⟩
  case round =>
    obtain ⟨l1, arms1, hal, HA, HP⟩ := hrel
    clear H0 HV
    cases gk with
    | zero => exact absurd HA.out (by simp [plan_list.l0])
    | succ k1 =>
      have H := HA.out
      clear HA
      rw [plan_list.l0.eq_def] at H
      dsimp only at H
      obtain ⟨A1, c1, rfl, hc1, hF1⟩ := HP.out.ws
      cases l1 with
      | nil =>
        dsimp only at H
        obtain rfl := Option.some.inj H
        clear H
        have d0 := blk_cell HP.out.bx 0
        have d1 := blk_cell HP.out.bx 1
        have f0 := blk_frozen HP.out.bx 0
        have f1 := blk_frozen HP.out.bx 1
        go_wp2
        refine bodyPost_ret (results_tc rfl _ _ w.heap.size 90 #[.int .i64 0, .int .i64 0] (0, 0) _ rfl (wrong_set HP.out.bx _ _) Try.underlying90 rfl (by kernel_rfl)) rfl ?_
        exact HP.out.fin
      | cons first l1 =>
        dsimp only at H
        obtain ⟨ad, A3, c3, rfl, e0, e1, e2, hl3, hF3, -⟩ := wd_first hF1
        have hnn : decide ((0 : Int) < (((first :: l1).length : Nat) : Int)) = true := decide_eq_true (by simp only [List.length_cons]; omega)
        have hN1 := Kd.N_slice HP.out.as_
        obtain ⟨A4, c4, rfl⟩ := hN1
        have hpos : ((0 : Int) < (((first :: l1).length : Nat) : Int)) = True := eq_true (of_decide_eq_true hnn)
        by_cases h64 : arms1.length = 64
        · rw [if_pos h64] at H
          obtain rfl := Option.some.inj H
          have h64b : ((arms1.length : Int) == 64) = true := by rw [h64]; rfl
          clear H
          go_wp2
          have HPx := Aside0.mk (HP.out.below (below_alloc (Below.refl _ _) (.cells #[.int .i64 first.f0, .int .i64 first.f1, .slice A3 first.f2.length c3] 41)))
          have B5 := blk_new wr (.cells #[.int .i64 first.f0, .int .i64 first.f1, .slice A3 first.f2.length c3] 41)
          have hb5 : Below wr.heap.size wr (wr.alloc (.cells #[.int .i64 first.f0, .int .i64 first.f1, .slice A3 first.f2.length c3] 41)) := below_alloc (Below.refl _ _) _
          obtain ⟨g5, hg5⟩ : ∃ g5, wr.heap.size = g5 := ⟨_, rfl⟩
          generalize wr.alloc (.cells #[.int .i64 first.f0, .int .i64 first.f1, .slice A3 first.f2.length c3] 41) = wx at HPx B5 hb5 ⊢
          rw [hg5] at B5 ⊢
          have q50 : wx.cell? ⟨g5, 0, none⟩ = some (.int .i64 first.f0) := blk_cell B5 0
          have q51 : wx.cell? ⟨g5, 1, none⟩ = some (.int .i64 first.f1) := blk_cell B5 1
          have q52 : wx.cell? ⟨g5, 2, none⟩ = some (.slice A3 first.f2.length c3) := blk_cell B5 2
          have d0 := (blk_cell HPx.out.bx 0).trans rfl
          have d1 := (blk_cell HPx.out.bx 1).trans rfl
          have f0 := blk_frozen HPx.out.bx 0
          have f1 := blk_frozen HPx.out.bx 1
          refine start_ (n := 5) (S := fun w' => w'.cell? ⟨g5, 0, none⟩ = some (.int .i64 first.f0)) (ds := [4]) #[false, false, false, false, false] (by kernel_rfl) rfl rfl (q50) (fun hHeld => ?_)
          refine pure_ (i := 0) (N := some 20) (v := ?_) (a' := ?_) #[true, false, false, false, false] rfl rfl (by kernel_rfl) (fun _ _ _ h => h) (Or.inl ⟨by rfl, ?_⟩) ?_ ?_
          rotate_left
          · intro w'
            go_simp
            with_reducible rfl
          rotate_left
          · simp only [Act.put, List.setIfInBounds_toArray, List.set_cons_zero, List.set_cons_succ, i64_w, i32_w]
            rfl
          refine pure_ (i := 3) (N := some 2) (v := ?_) (a' := ?_) #[true, false, false, true, false] rfl rfl (by kernel_rfl) (fun _ _ _ h => h) (Or.inl ⟨by rfl, ?_⟩) ?_ ?_
          rotate_left
          · intro w'
            go_simp
            with_reducible rfl
          rotate_left
          · simp only [Act.put, List.setIfInBounds_toArray, List.set_cons_zero, List.set_cons_succ, i64_w, i32_w]
            rfl
          refine take_ (i := 1) (N := some 21) (v := ?_) (a' := ?_) #[true, true, false, true, false] rfl rfl (by kernel_rfl) (fun _ _ _ h => h) (Or.inl ⟨by rfl, ?_⟩) hHeld ?_ ?_
          rotate_left
          · intro w' s0
            go_simp
            with_reducible rfl
          rotate_left
          · simp only [Act.put, List.setIfInBounds_toArray, List.set_cons_zero, List.set_cons_succ, i64_w, i32_w]
            rfl
          refine pure_ (i := 2) (N := some 22) (v := ?_) (a' := ?_) #[true, true, true, true, false] rfl rfl (by kernel_rfl) (fun _ _ _ h => h) (Or.inl ⟨by rfl, ?_⟩) ?_ ?_
          rotate_left
          · intro w'
            go_simp
            with_reducible rfl
          rotate_left
          · simp only [Act.put, List.setIfInBounds_toArray, List.set_cons_zero, List.set_cons_succ, i64_w, i32_w]
            rfl
          refine last_ (i := 4) (N := none) #[true, true, true, true, true] rfl rfl (by kernel_rfl) (by decide) (fun K hK => ?_)
          refine skip_ (w1 := ?_) (by rfl) rfl ?_ ?_
          rotate_left
          · go_simp
            rfl
          refine hK.out _ _ ?_
          clear hK K
          refine done_ (by kernel_rfl) ?_
          go_wp2
          refine bodyPost_ret (results_tc rfl _ _ w.heap.size 90 #[.int .i64 first.f0, .int .i64 10] (0, 0) _ rfl (wrong_set (blk_drew HPx.out.bx) _ _) Try.underlying90 rfl (by kernel_rfl)) rfl ?_
          exact LPost.bad (below_drew HPx.out.hB) _ _
        · rw [if_neg h64] at H
          have h64b : ((arms1.length : Int) == 64) = false := beq_eq_false_iff_ne.2 (by omega)
          obtain ⟨kx, okx, hfl⟩ : ∃ kx okx, flagP first = (kx, okx) := ⟨_, _, rfl⟩
          rw [hfl] at H
          dsimp only at H
          have HFL := Aside0.mk hfl
          clear hfl
          have H' := Aside0.mk H
          clear H
          go_upto_if 32 with ((go_at_call 104; refine (plan_flagged.calls first A3 c3 _ (Kd.C_alloc (Kd.C_alloc (Kd.F_now hF3) _) _) hl3).mono ?_; rintro en w1 ⟨rfl, hB⟩; rw [HFL.out]; have HI := Aside0.mk (It.made hB); clear hB))
          have hV1 := wd_rest hF1 hc1
          generalize (if c1 = 1 then some ad else some ⟨ad.block, ad.off + 3, none⟩) = A5 at hV1 ⊢
          clear e0 e1 e2 hnn hpos h64b HFL
          go_cut [0] (fun v0 wc => ∃ (lx : List SWd) (ky : Int) (px : SWd) (Ax : Option Addr) (cx : Nat), Aside0 (plan_list.j0' (plan_list.l0 scr k1) scr lx ky px arms1 = some r) ∧ Aside0 (Mid w wr wc ok0 v0 lx ky px Ax cx none 0 0))
          case first =>
            have H := H'.out
            clear H'
            cases okx with
            | false =>
              rw [if_neg (by decide)] at H
              have H' := Aside0.mk H
              clear H
              go_wp2
              go_meet
              case rel => exact ⟨l1, 1, first, A3, c3, H', ⟨⟨HI.out.hB, HI.out.b6, hV1, hl3, hF3⟩⟩⟩
            | true =>
              rw [if_pos rfl] at H
              by_cases hk2 : kx < 2
              · rw [if_pos hk2] at H
                have hk2b : decide (kx < 2) = true := decide_eq_true hk2
                clear hk2
                cases l1 with
                | nil =>
                  dsimp only at H
                  obtain rfl := Option.some.inj H
                  clear H
                  have p0 := (blk_cell HI.out.b6 0).trans rfl
                  have p1 := (blk_cell HI.out.b6 1).trans rfl
                  have p2 := (blk_cell HI.out.b6 2).trans rfl
                  have p3 := (blk_cell HI.out.b6 3).trans rfl
                  have p4 := (blk_cell HI.out.b6 4).trans rfl
                  have z0 := blk_frozen HI.out.b6 0
                  have z1 := blk_frozen HI.out.b6 1
                  have z2 := blk_frozen HI.out.b6 2
                  have z3 := blk_frozen HI.out.b6 3
                  have z4 := blk_frozen HI.out.b6 4
                  go_wp2
                  have HI2 := Aside0.mk (HI.out.setArm0 (kx := kx))
                  clear p0 p1 p2 p3 p4 z0 z1 z2 z3 z4
                  generalize (((((w1.setCell ⟨wr.heap.size + 1, 0, none⟩ (.int .i64 kx)).setCell ⟨wr.heap.size + 1, 1, none⟩ (.int .i64 0)).setCell ⟨wr.heap.size + 1, 2, none⟩ (.int .i64 0)).setCell ⟨wr.heap.size + 1, 3, none⟩ (.slice none 0 0)).setCell ⟨wr.heap.size + 1, 4, none⟩ (.slice none 0 0)) = wx at HI2 ⊢
                  have HPx := Aside0.mk (HP.out.below HI2.out.hB)
                  have q50 : wx.cell? ⟨wr.heap.size, 0, none⟩ = some (.int .i64 first.f0) := blk_cell HI2.out.b5 0
                  have d0 := (blk_cell HPx.out.bx 0).trans rfl
                  have d1 := (blk_cell HPx.out.bx 1).trans rfl
                  have f0 := blk_frozen HPx.out.bx 0
                  have f1 := blk_frozen HPx.out.bx 1
                  refine start_ (n := 5) (S := fun w' => w'.cell? ⟨wr.heap.size, 0, none⟩ = some (.int .i64 first.f0)) (ds := [4]) #[false, false, false, false, false] (by kernel_rfl) rfl rfl (q50) (fun hHeld => ?_)
                  refine pure_ (i := 0) (N := some 43) (v := ?_) (a' := ?_) #[true, false, false, false, false] rfl rfl (by kernel_rfl) (fun _ _ _ h => h) (Or.inl ⟨by rfl, ?_⟩) ?_ ?_
                  rotate_left
                  · intro w'
                    go_simp
                    with_reducible rfl
                  rotate_left
                  · simp only [Act.put, List.setIfInBounds_toArray, List.set_cons_zero, List.set_cons_succ, i64_w, i32_w]
                    rfl
                  refine pure_ (i := 3) (N := some 2) (v := ?_) (a' := ?_) #[true, false, false, true, false] rfl rfl (by kernel_rfl) (fun _ _ _ h => h) (Or.inl ⟨by rfl, ?_⟩) ?_ ?_
                  rotate_left
                  · intro w'
                    go_simp
                    with_reducible rfl
                  rotate_left
                  · simp only [Act.put, List.setIfInBounds_toArray, List.set_cons_zero, List.set_cons_succ, i64_w, i32_w]
                    rfl
                  refine take_ (i := 1) (N := some 44) (v := ?_) (a' := ?_) #[true, true, false, true, false] rfl rfl (by kernel_rfl) (fun _ _ _ h => h) (Or.inl ⟨by rfl, ?_⟩) hHeld ?_ ?_
                  rotate_left
                  · intro w' s0
                    go_simp
                    with_reducible rfl
                  rotate_left
                  · simp only [Act.put, List.setIfInBounds_toArray, List.set_cons_zero, List.set_cons_succ, i64_w, i32_w]
                    rfl
                  refine pure_ (i := 2) (N := some 45) (v := ?_) (a' := ?_) #[true, true, true, true, false] rfl rfl (by kernel_rfl) (fun _ _ _ h => h) (Or.inl ⟨by rfl, ?_⟩) ?_ ?_
                  rotate_left
                  · intro w'
                    go_simp
                    with_reducible rfl
                  rotate_left
                  · simp only [Act.put, List.setIfInBounds_toArray, List.set_cons_zero, List.set_cons_succ, i64_w, i32_w]
                    rfl
                  refine last_ (i := 4) (N := none) #[true, true, true, true, true] rfl rfl (by kernel_rfl) (by decide) (fun K hK => ?_)
                  refine skip_ (w1 := ?_) (by rfl) rfl ?_ ?_
                  rotate_left
                  · go_simp
                    rfl
                  refine hK.out _ _ ?_
                  clear hK K
                  refine done_ (by kernel_rfl) ?_
                  go_wp2
                  refine bodyPost_ret (results_tc rfl _ _ w.heap.size 90 #[.int .i64 first.f0, .int .i64 2] (0, 0) _ rfl (wrong_set (blk_drew HPx.out.bx) _ _) Try.underlying90 rfl (by kernel_rfl)) rfl ?_
                  exact LPost.bad (below_drew HPx.out.hB) _ _
                | cons p l2 =>
                  dsimp only at H
                  have H' := Aside0.mk H
                  clear H
                  obtain ⟨_, _, hv2, hl2, hF2⟩ := hV1
                  injection hv2 with hv2 _ hc2
                  subst hv2
                  subst hc2
                  obtain ⟨ad2, A6, c6, rfl, m0, m1, m2, hl6, hF6, hlt6⟩ := wd_first hF2
                  have hV2 := wd_rest hF2 hl2
                  have p0 := (blk_cell HI.out.b6 0).trans rfl
                  have p1 := (blk_cell HI.out.b6 1).trans rfl
                  have p2 := (blk_cell HI.out.b6 2).trans rfl
                  have p3 := (blk_cell HI.out.b6 3).trans rfl
                  have p4 := (blk_cell HI.out.b6 4).trans rfl
                  have z0 := blk_frozen HI.out.b6 0
                  have z1 := blk_frozen HI.out.b6 1
                  have z2 := blk_frozen HI.out.b6 2
                  have z3 := blk_frozen HI.out.b6 3
                  have z4 := blk_frozen HI.out.b6 4
                  go_upto_if 35 with (fail)
                  have HI2 := Aside0.mk (HI.out.setArm0 (kx := kx))
                  clear p0 p1 p2 p3 p4 z0 z1 z2 z3 z4
                  generalize (((((w1.setCell ⟨wr.heap.size + 1, 0, none⟩ (.int .i64 kx)).setCell ⟨wr.heap.size + 1, 1, none⟩ (.int .i64 0)).setCell ⟨wr.heap.size + 1, 2, none⟩ (.int .i64 0)).setCell ⟨wr.heap.size + 1, 3, none⟩ (.slice none 0 0)).setCell ⟨wr.heap.size + 1, 4, none⟩ (.slice none 0 0)) = wx at HI2 ⊢
                  have hlw := HP.out.lt
                  have n0 := (cell_below HI2.out.hB (a := ad2) (by omega)).trans m0
                  have n1 := (cell_below HI2.out.hB (a := ⟨ad2.block, ad2.off + 1, none⟩) (show ad2.block < wr.heap.size by omega)).trans m1
                  have n2 := (cell_below HI2.out.hB (a := ⟨ad2.block, ad2.off + 2, none⟩) (show ad2.block < wr.heap.size by omega)).trans m2
                  clear m0 m1 m2
                  have hne6 : ad2.block ≠ wr.heap.size + 1 := by omega
                  have p1 := (blk_cell HI2.out.b6 1).trans rfl
                  have p2 := (blk_cell HI2.out.b6 2).trans rfl
                  have p3 := (blk_cell HI2.out.b6 3).trans rfl
                  have z1 := blk_frozen HI2.out.b6 1
                  have z2 := blk_frozen HI2.out.b6 2
                  have z3 := blk_frozen HI2.out.b6 3
                  have hpos2 : ((0 : Int) < ((l2.length : Int) + 1)) = True := eq_true (by omega)
                  clear HP HI
                  go_wp2
                  all_goals have HI3 := Aside0.mk (HI2.out.setPat (u1 := .int .i64 p.f0) (u2 := .int .i64 p.f1) (u3 := .slice A6 p.f2.length c6))
                  all_goals go_meet
                  all_goals clear HI2
                  all_goals by_cases he : c1 - 1 = 1
                  all_goals try omega
                  all_goals first | rw [if_pos he] at hV2 | rw [if_neg he] at hV2
                  all_goals first | exact ⟨l2, kx, p, A6, c6, H', ⟨⟨HI3.out.hB, HI3.out.b6, hV2, hl6, hF6⟩⟩⟩ | (rw [he] at hV2; exact ⟨l2, kx, p, A6, c6, H', ⟨⟨HI3.out.hB, HI3.out.b6, hV2, hl6, hF6⟩⟩⟩)
              · rw [if_neg hk2] at H
                have hk2b : decide (kx < 2) = false := decide_eq_false hk2
                clear hk2
                have H' := Aside0.mk H
                clear H
                have p0 := (blk_cell HI.out.b6 0).trans rfl
                have p1 := (blk_cell HI.out.b6 1).trans rfl
                have p2 := (blk_cell HI.out.b6 2).trans rfl
                have p3 := (blk_cell HI.out.b6 3).trans rfl
                have p4 := (blk_cell HI.out.b6 4).trans rfl
                have z0 := blk_frozen HI.out.b6 0
                have z1 := blk_frozen HI.out.b6 1
                have z2 := blk_frozen HI.out.b6 2
                have z3 := blk_frozen HI.out.b6 3
                have z4 := blk_frozen HI.out.b6 4
                go_wp2
                have HI2 := Aside0.mk (HI.out.setArm0 (kx := kx))
                go_meet
                case rel => exact ⟨l1, kx, zWd, none, 0, H', ⟨⟨HI2.out.hB, HI2.out.b6, hV1, Nat.le_refl _, Kd.F_nil _ _ _⟩⟩⟩
          case rest =>
            clear H' HI hV1 hl3 hF3
            obtain ⟨lx, ky, px, Ax, cx, H', HM⟩ := hcut
            obtain ⟨Ab, cb, rfl, hlb, hFb⟩ := HM.out.ws
            by_cases hbo : ∃ b l', lx = b :: l' ∧ b.f1 = 2
            · obtain ⟨b, lx', rfl, hb2⟩ := hbo
              have H := H'.out
              clear H'
              unfold plan_list.j0' at H
              obtain ⟨⟨lz, bd, r2, r3⟩, hbd, H⟩ := Option.bind_eq_some_iff.1 H
              have hbd' : ((openP b).bind fun t => (scr t (wrap64 (b.f0 + 1)) true).bind fun r => some (lx', r.1, r.2.1, r.2.2)) = some (lz, bd, r2, r3) := by
                have := hbd
                unfold bodyP at this
                dsimp only at this
                rw [if_pos hb2] at this
                exact this
              clear hbd
              obtain ⟨t17, hop, hbd'⟩ := Option.bind_eq_some_iff.1 hbd'
              obtain ⟨⟨bd', r2', r3'⟩, hsc, hbd'⟩ := Option.bind_eq_some_iff.1 hbd'
              simp only [Option.some.injEq, Prod.mk.injEq] at hbd'
              obtain ⟨rfl, rfl, rfl, rfl⟩ := hbd'
              dsimp only at H
              have HOP : Aside0 (plan_open.f (b.f2.length + 1) b.f0 b.f1 b.f2 = some t17) := ⟨hop⟩
              have HSC := Aside0.mk hsc
              have H' := Aside0.mk H
              clear H hop hsc
              have hb2b : (b.f1 == 2) = true := beq_iff_eq.2 hb2
              obtain ⟨ad2, A6, c6, rfl, m0, m1, m2, hl6, hF6, hlt6⟩ := wd_first hFb
              have hlw := HP.out.lt
              have hsz := HM.out.hB.size
              have hlt2 : ad2.block < wc.heap.size := by omega
              have n0 := (cell_below HM.out.hB (a := ad2) (by omega)).trans m0
              have n1 := (cell_below HM.out.hB (a := ⟨ad2.block, ad2.off + 1, none⟩) (show ad2.block < wr.heap.size by omega)).trans m1
              have n2 := (cell_below HM.out.hB (a := ⟨ad2.block, ad2.off + 2, none⟩) (show ad2.block < wr.heap.size by omega)).trans m2
              have hpos2 : ((0 : Int) < ((lx'.length : Int) + 1)) = True := eq_true (by omega)
              have hpos3 : decide ((0 : Int) < ((lx'.length : Int) + 1)) = true := decide_eq_true (by omega)
              clear m0 m1 m2
              go_upto_region 17 with (fail)
              have hBwx : Below wc.heap.size wc wc.drew := below_drew (Below.refl _ _)
              clear hb2
              refine start_ (n := 16) (S := fun w' => w'.cell? ad2 = some (.int .i64 b.f0) ∧ w'.cell? ⟨ad2.block, ad2.off + 1, none⟩ = some (.int .i64 b.f1) ∧ w'.cell? ⟨ad2.block, ad2.off + 2, none⟩ = some (.slice A6 b.f2.length c6)) (ds := [15]) #[false, false, false, false, false, false, false, false, false, false, false, false, false, false, false, false] (by kernel_rfl) rfl rfl ⟨(cell_below hBwx (a := ad2) hlt2).trans n0, (cell_below hBwx (a := ⟨ad2.block, ad2.off + 1, none⟩) hlt2).trans n1, (cell_below hBwx (a := ⟨ad2.block, ad2.off + 2, none⟩) hlt2).trans n2⟩ (fun hHeld => ?_)
              refine pure_ (i := 0) (N := some 66) (v := ?_) (a' := ?_) #[true, false, false, false, false, false, false, false, false, false, false, false, false, false, false, false] rfl rfl (by kernel_rfl) (fun _ _ _ h => h) (Or.inl ⟨by rfl, ?_⟩) ?_ ?_
              rotate_left
              · intro w'
                go_simp
                with_reducible rfl
              rotate_left
              · simp only [Act.put, List.setIfInBounds_toArray, List.set_cons_zero, List.set_cons_succ, i64_w, i32_w]
                rfl
              refine pure_ (i := 1) (N := some 67) (v := ?_) (a' := ?_) #[true, true, false, false, false, false, false, false, false, false, false, false, false, false, false, false] rfl rfl (by kernel_rfl) (fun _ _ _ h => h) (Or.inl ⟨by rfl, ?_⟩) ?_ ?_
              rotate_left
              · intro w'
                go_simp
                with_reducible rfl
              rotate_left
              · simp only [Act.put, List.setIfInBounds_toArray, List.set_cons_zero, List.set_cons_succ, i64_w, i32_w]
                rfl
              refine pure_ (i := 4) (N := some 70) (v := ?_) (a' := ?_) #[true, true, false, false, true, false, false, false, false, false, false, false, false, false, false, false] rfl rfl (by kernel_rfl) (fun _ _ _ h => h) (Or.inl ⟨by rfl, ?_⟩) ?_ ?_
              rotate_left
              · intro w'
                go_simp
                with_reducible rfl
              rotate_left
              · simp only [Act.put, List.setIfInBounds_toArray, List.set_cons_zero, List.set_cons_succ, i64_w, i32_w]
                rfl
              refine pure_ (i := 5) (N := some 71) (v := ?_) (a' := ?_) #[true, true, false, false, true, true, false, false, false, false, false, false, false, false, false, false] rfl rfl (by kernel_rfl) (fun _ _ _ h => h) (Or.inl ⟨by rfl, ?_⟩) ?_ ?_
              rotate_left
              · intro w'
                go_simp
                with_reducible rfl
              rotate_left
              · simp only [Act.put, List.setIfInBounds_toArray, List.set_cons_zero, List.set_cons_succ, i64_w, i32_w]
                rfl
              refine pure_ (i := 6) (N := some 72) (v := ?_) (a' := ?_) #[true, true, false, false, true, true, true, false, false, false, false, false, false, false, false, false] rfl rfl (by kernel_rfl) (fun _ _ _ h => h) (Or.inl ⟨by rfl, ?_⟩) ?_ ?_
              rotate_left
              · intro w'
                go_simp
                with_reducible rfl
              rotate_left
              · simp only [Act.put, List.setIfInBounds_toArray, List.set_cons_zero, List.set_cons_succ, i64_w, i32_w]
                rfl
              refine take_ (i := 2) (N := some 68) (v := ?_) (a' := ?_) #[true, true, true, false, true, true, true, false, false, false, false, false, false, false, false, false] rfl rfl (by kernel_rfl) (fun _ _ _ h => h) (Or.inl ⟨by rfl, ?_⟩) hHeld ?_ ?_
              rotate_left
              · rintro w' ⟨s0, s1, s2⟩
                go_simp
                with_reducible rfl
              rotate_left
              · simp only [Act.put, List.setIfInBounds_toArray, List.set_cons_zero, List.set_cons_succ, i64_w, i32_w]
                rfl
              refine take_ (i := 7) (N := some 73) (v := ?_) (a' := ?_) #[true, true, true, false, true, true, true, true, false, false, false, false, false, false, false, false] rfl rfl (by kernel_rfl) (fun _ _ _ h => h) (Or.inl ⟨by rfl, ?_⟩) hHeld ?_ ?_
              rotate_left
              · rintro w' ⟨s0, s1, s2⟩
                go_simp
                with_reducible rfl
              rotate_left
              · simp only [Act.put, List.setIfInBounds_toArray, List.set_cons_zero, List.set_cons_succ, i64_w, i32_w]
                rfl
              refine pure_ (i := 8) (N := some 74) (v := ?_) (a' := ?_) #[true, true, true, false, true, true, true, true, true, false, false, false, false, false, false, false] rfl rfl (by kernel_rfl) (fun _ _ _ h => h) (Or.inl ⟨by rfl, ?_⟩) ?_ ?_
              rotate_left
              · intro w'
                go_simp
                with_reducible rfl
              rotate_left
              · simp only [Act.put, List.setIfInBounds_toArray, List.set_cons_zero, List.set_cons_succ, i64_w, i32_w]
                rfl
              refine join_ (σ := Value × Nat) 2 #[true, true, true, true, true, true, true, true, true, true, true, true, true, true, false, false] (fun s => [(69, .string t17), (75, .tuple #[s.1, .agg #[.int .i64 r2', .int .i64 r3']]), (10, .pointer (some ⟨s.2, 0, none⟩)), (65, .tuple #[s.1, .agg #[.int .i64 r2', .int .i64 r3']]), (76, s.1), (77, .agg #[.int .i64 r2', .int .i64 r3'])]) (fun s w' => BodyF wc w' s.1 s.2 bd') ?_ ?_
              rotate_left
              · intro hCont
                refine two_ (i := 3) (j := 13) (Ni := some 69) (Nj := some 10) #[true, true, true, true, true, true, true, true, true, false, false, false, false, false, false, false] #[true, true, true, false, true, true, true, true, true, false, false, false, false, true, false, false] rfl rfl rfl rfl (by kernel_rfl) (by decide) (by decide) (fun K hK => ?_) (fun K hK => ?_)
                · skip
                  refine goes_ Try.func89 (by kernel_rfl) rfl #[.agg #[.int .i64 b.f0, .int .i64 b.f1, .slice A6 b.f2.length c6]] (by rfl) rfl rfl (by simp only [List.map_toArray, List.map_cons, List.map_nil]; rfl) ?_
                  with_reducible refine (plan_open.calls (b.f2.length + 1) b.f0 b.f1 A6 c6 b.f2 t17 wc.drew (Kd.F_now (Kd.F_below hF6 (below_step HM.out.hB hBwx))) hl6 HOP.out).mono ?_
                  rintro en wa_ ⟨rfl, hbwa_⟩
                  refine ⟨_, rfl, ?_⟩
                  have hBwa_ := below_step hBwx hbwa_
                  refine hK.out _ _ ⟨(cell_below hBwa_ (a := ad2) hlt2).trans n0, (cell_below hBwa_ (a := ⟨ad2.block, ad2.off + 1, none⟩) hlt2).trans n1, (cell_below hBwa_ (a := ⟨ad2.block, ad2.off + 2, none⟩) hlt2).trans n2⟩ (fun hHeld => ?_)
                  clear hK K
                  refine norm_ (a' := ?_) ?_ ?_
                  rotate_left
                  · show Act.put _ (some 69) _ = _
                    simp only [Act.put, List.setIfInBounds_toArray, List.set_cons_zero, List.set_cons_succ, i64_w, i32_w]
                    rfl
                  refine two_ (i := 9) (j := 13) (Ni := some 75) (Nj := some 10) #[true, true, true, true, true, true, true, true, true, true, false, false, false, false, false, false] #[true, true, true, true, true, true, true, true, true, false, false, false, false, true, false, false] rfl rfl rfl rfl (by kernel_rfl) (by decide) (by decide) (fun K hK => ?_) (fun K hK => ?_)
                  · skip
                    refine goes_ Try.func41 (by kernel_rfl) rfl #[.string t17, .int .i64 (wrap64 (b.f0 + 1)), .bool true] (by rfl) rfl rfl (by simp only [List.map_toArray, List.map_cons, List.map_nil]; rfl) ?_
                    with_reducible refine (hscr.calls t17 (wrap64 (b.f0 + 1)) true bd' r2' r3' wa_ HSC.out).mono ?_
                    rintro en wab_ ⟨vb, rfl, hVwab_, hbwab_⟩
                    refine ⟨_, rfl, ?_⟩
                    have hVwab_ := Kd.V_mono hVwab_ (ok' := fun k => wc.heap.size ≤ k) (fun k hk => by have := hBwa_.size; omega)
                    have hBwab_ := below_step hBwa_ hbwab_
                    refine hK.out _ _ ⟨(cell_below hBwab_ (a := ad2) hlt2).trans n0, (cell_below hBwab_ (a := ⟨ad2.block, ad2.off + 1, none⟩) hlt2).trans n1, (cell_below hBwab_ (a := ⟨ad2.block, ad2.off + 2, none⟩) hlt2).trans n2⟩ (fun hHeld => ?_)
                    clear hK K
                    refine norm_ (a' := ?_) ?_ ?_
                    rotate_left
                    · show Act.put _ (some 75) _ = _
                      simp only [Act.put, List.setIfInBounds_toArray, List.set_cons_zero, List.set_cons_succ, i64_w, i32_w]
                      rfl
                    refine pure_ (i := 10) (N := some 65) (v := ?_) (a' := ?_) #[true, true, true, true, true, true, true, true, true, true, true, false, false, false, false, false] rfl rfl (by kernel_rfl) (fun _ _ _ h => h) (Or.inl ⟨by rfl, ?_⟩) ?_ ?_
                    rotate_left
                    · intro w'
                      go_simp
                      with_reducible rfl
                    rotate_left
                    · simp only [Act.put, List.setIfInBounds_toArray, List.set_cons_zero, List.set_cons_succ, i64_w, i32_w]
                      rfl
                    refine pure_ (i := 11) (N := some 76) (v := ?_) (a' := ?_) #[true, true, true, true, true, true, true, true, true, true, true, true, false, false, false, false] rfl rfl (by kernel_rfl) (fun _ _ _ h => h) (Or.inl ⟨by rfl, ?_⟩) ?_ ?_
                    rotate_left
                    · intro w'
                      go_simp
                      with_reducible rfl
                    rotate_left
                    · simp only [Act.put, List.setIfInBounds_toArray, List.set_cons_zero, List.set_cons_succ, i64_w, i32_w]
                      rfl
                    refine pure_ (i := 12) (N := some 77) (v := ?_) (a' := ?_) #[true, true, true, true, true, true, true, true, true, true, true, true, true, false, false, false] rfl rfl (by kernel_rfl) (fun _ _ _ h => h) (Or.inl ⟨by rfl, ?_⟩) ?_ ?_
                    rotate_left
                    · intro w'
                      go_simp
                      with_reducible rfl
                    rotate_left
                    · simp only [Act.put, List.setIfInBounds_toArray, List.set_cons_zero, List.set_cons_succ, i64_w, i32_w]
                      rfl
                    refine one_ (i := 13) (N := some 10) #[true, true, true, true, true, true, true, true, true, true, true, true, true, true, false, false] rfl rfl (by kernel_rfl) (by decide) (fun K hK => ?_)
                    refine value_ (w1 := ?_) (v := ?_) (by rfl) rfl ?_ ?_
                    rotate_left 2
                    · go_simp
                      constructor
                      · rfl
                      · rfl
                    have hBwabc_ := below_alloc hBwab_ (.cells #[.int .i64 0, .int .i64 0] 90)
                    have hGwabc_ := blk_new wab_ (.cells #[.int .i64 0, .int .i64 0] 90)
                    have hLwabc_ := blk_lt hGwabc_
                    obtain ⟨g10, hg10⟩ : ∃ g, wab_.heap.size = g := ⟨_, rfl⟩
                    have hge10 : wc.heap.size ≤ g10 := by have := hBwab_.size; omega
                    have hVwabc_ := Kd.V_alloc hVwab_ (.cells #[.int .i64 0, .int .i64 0] 90)
                    have hVwabc_ := Kd.V_mono (Kd.V_bound hVwab_) (ok' := fun k => wc.heap.size ≤ k ∧ k ≠ g10) (fun k hk => ⟨hk.1, by have := hk.2; omega⟩)
                    have hVwabc_ := Kd.V_alloc hVwabc_ (.cells #[.int .i64 0, .int .i64 0] 90)
                    rw [hg10] at hGwabc_ hLwabc_ ⊢
                    generalize wab_.alloc (.cells #[.int .i64 0, .int .i64 0] 90) = wabc_ at *
                    refine hK.out _ _ ⟨(cell_below hBwabc_ (a := ad2) hlt2).trans n0, (cell_below hBwabc_ (a := ⟨ad2.block, ad2.off + 1, none⟩) hlt2).trans n1, (cell_below hBwabc_ (a := ⟨ad2.block, ad2.off + 2, none⟩) hlt2).trans n2⟩ (fun hHeld => ?_)
                    clear hK K
                    refine norm_ (a' := ?_) ?_ ?_
                    rotate_left
                    · show Act.put _ (some 10) _ = _
                      simp only [Act.put, List.setIfInBounds_toArray, List.set_cons_zero, List.set_cons_succ, i64_w, i32_w]
                      rfl
                    exact norm_ (by simp only [putAll, Act.put, List.setIfInBounds_toArray, List.set_cons_zero, List.set_cons_succ]) (hCont (vb, g10) _ (BodyF.mk hBwabc_ hGwabc_ hge10 hVwabc_))
                  · skip
                    refine value_ (w1 := ?_) (v := ?_) (by rfl) rfl ?_ ?_
                    rotate_left 2
                    · go_simp
                      constructor
                      · rfl
                      · rfl
                    have hBwac_ := below_alloc hBwa_ (.cells #[.int .i64 0, .int .i64 0] 90)
                    have hGwac_ := blk_new wa_ (.cells #[.int .i64 0, .int .i64 0] 90)
                    have hLwac_ := blk_lt hGwac_
                    obtain ⟨g10, hg10⟩ : ∃ g, wa_.heap.size = g := ⟨_, rfl⟩
                    have hge10 : wc.heap.size ≤ g10 := by have := hBwa_.size; omega
                    rw [hg10] at hGwac_ hLwac_ ⊢
                    generalize wa_.alloc (.cells #[.int .i64 0, .int .i64 0] 90) = wac_ at *
                    refine hK.out _ _ ⟨(cell_below hBwac_ (a := ad2) hlt2).trans n0, (cell_below hBwac_ (a := ⟨ad2.block, ad2.off + 1, none⟩) hlt2).trans n1, (cell_below hBwac_ (a := ⟨ad2.block, ad2.off + 2, none⟩) hlt2).trans n2⟩ (fun hHeld => ?_)
                    clear hK K
                    refine norm_ (a' := ?_) ?_ ?_
                    rotate_left
                    · show Act.put _ (some 10) _ = _
                      simp only [Act.put, List.setIfInBounds_toArray, List.set_cons_zero, List.set_cons_succ, i64_w, i32_w]
                      rfl
                    refine one_ (i := 9) (N := some 75) #[true, true, true, true, true, true, true, true, true, true, false, false, false, true, false, false] rfl rfl (by kernel_rfl) (by decide) (fun K hK => ?_)
                    refine goes_ Try.func41 (by kernel_rfl) rfl #[.string t17, .int .i64 (wrap64 (b.f0 + 1)), .bool true] (by rfl) rfl rfl (by simp only [List.map_toArray, List.map_cons, List.map_nil]; rfl) ?_
                    with_reducible refine (hscr.calls t17 (wrap64 (b.f0 + 1)) true bd' r2' r3' wac_ HSC.out).mono ?_
                    rintro en wacb_ ⟨vb, rfl, hVwacb_, hbwacb_⟩
                    refine ⟨_, rfl, ?_⟩
                    have hVwacb_ := Kd.V_mono hVwacb_ (ok' := fun k => wc.heap.size ≤ k ∧ k ≠ g10) (fun k hk => by have := hBwac_.size; have := hLwac_; omega)
                    have hBwacb_ := below_step hBwac_ hbwacb_
                    have hGwacb_ := (hbwacb_.block _ hLwac_).trans hGwac_
                    refine hK.out _ _ ⟨(cell_below hBwacb_ (a := ad2) hlt2).trans n0, (cell_below hBwacb_ (a := ⟨ad2.block, ad2.off + 1, none⟩) hlt2).trans n1, (cell_below hBwacb_ (a := ⟨ad2.block, ad2.off + 2, none⟩) hlt2).trans n2⟩ (fun hHeld => ?_)
                    clear hK K
                    refine norm_ (a' := ?_) ?_ ?_
                    rotate_left
                    · show Act.put _ (some 75) _ = _
                      simp only [Act.put, List.setIfInBounds_toArray, List.set_cons_zero, List.set_cons_succ, i64_w, i32_w]
                      rfl
                    refine pure_ (i := 10) (N := some 65) (v := ?_) (a' := ?_) #[true, true, true, true, true, true, true, true, true, true, true, false, false, true, false, false] rfl rfl (by kernel_rfl) (fun _ _ _ h => h) (Or.inl ⟨by rfl, ?_⟩) ?_ ?_
                    rotate_left
                    · intro w'
                      go_simp
                      with_reducible rfl
                    rotate_left
                    · simp only [Act.put, List.setIfInBounds_toArray, List.set_cons_zero, List.set_cons_succ, i64_w, i32_w]
                      rfl
                    refine pure_ (i := 11) (N := some 76) (v := ?_) (a' := ?_) #[true, true, true, true, true, true, true, true, true, true, true, true, false, true, false, false] rfl rfl (by kernel_rfl) (fun _ _ _ h => h) (Or.inl ⟨by rfl, ?_⟩) ?_ ?_
                    rotate_left
                    · intro w'
                      go_simp
                      with_reducible rfl
                    rotate_left
                    · simp only [Act.put, List.setIfInBounds_toArray, List.set_cons_zero, List.set_cons_succ, i64_w, i32_w]
                      rfl
                    refine pure_ (i := 12) (N := some 77) (v := ?_) (a' := ?_) #[true, true, true, true, true, true, true, true, true, true, true, true, true, true, false, false] rfl rfl (by kernel_rfl) (fun _ _ _ h => h) (Or.inl ⟨by rfl, ?_⟩) ?_ ?_
                    rotate_left
                    · intro w'
                      go_simp
                      with_reducible rfl
                    rotate_left
                    · simp only [Act.put, List.setIfInBounds_toArray, List.set_cons_zero, List.set_cons_succ, i64_w, i32_w]
                      rfl
                    exact norm_ (by simp only [putAll, Act.put, List.setIfInBounds_toArray, List.set_cons_zero, List.set_cons_succ]) (hCont (vb, g10) _ (BodyF.mk hBwacb_ hGwacb_ hge10 hVwacb_))
                · skip
                  refine value_ (w1 := ?_) (v := ?_) (by rfl) rfl ?_ ?_
                  rotate_left 2
                  · go_simp
                    constructor
                    · rfl
                    · rfl
                  have hBwc_ := below_drew (below_alloc (Below.refl wc.heap.size wc) (.cells #[.int .i64 0, .int .i64 0] 90))
                  have hGwc_ := blk_drew (blk_new wc (.cells #[.int .i64 0, .int .i64 0] 90))
                  have hLwc_ := blk_lt hGwc_
                  obtain ⟨g10, hg10⟩ : ∃ g, wc.heap.size = g := ⟨_, rfl⟩
                  have hge10 : wc.heap.size ≤ g10 := by have := hBwx.size; omega
                  rw [hg10] at hGwc_ hLwc_ ⊢
                  generalize (wc.alloc (.cells #[.int .i64 0, .int .i64 0] 90)).drew = wc_ at *
                  refine hK.out _ _ ⟨(cell_below hBwc_ (a := ad2) hlt2).trans n0, (cell_below hBwc_ (a := ⟨ad2.block, ad2.off + 1, none⟩) hlt2).trans n1, (cell_below hBwc_ (a := ⟨ad2.block, ad2.off + 2, none⟩) hlt2).trans n2⟩ (fun hHeld => ?_)
                  clear hK K
                  refine norm_ (a' := ?_) ?_ ?_
                  rotate_left
                  · show Act.put _ (some 10) _ = _
                    simp only [Act.put, List.setIfInBounds_toArray, List.set_cons_zero, List.set_cons_succ, i64_w, i32_w]
                    rfl
                  refine one_ (i := 3) (N := some 69) #[true, true, true, true, true, true, true, true, true, false, false, false, false, true, false, false] rfl rfl (by kernel_rfl) (by decide) (fun K hK => ?_)
                  refine goes_ Try.func89 (by kernel_rfl) rfl #[.agg #[.int .i64 b.f0, .int .i64 b.f1, .slice A6 b.f2.length c6]] (by rfl) rfl rfl (by simp only [List.map_toArray, List.map_cons, List.map_nil]; rfl) ?_
                  with_reducible refine (plan_open.calls (b.f2.length + 1) b.f0 b.f1 A6 c6 b.f2 t17 wc_ (Kd.F_now (Kd.F_below hF6 (below_step HM.out.hB hBwc_))) hl6 HOP.out).mono ?_
                  rintro en wca_ ⟨rfl, hbwca_⟩
                  refine ⟨_, rfl, ?_⟩
                  have hBwca_ := below_step hBwc_ hbwca_
                  have hGwca_ := (hbwca_.block _ hLwc_).trans hGwc_
                  have hLwca_ := Nat.lt_of_lt_of_le hLwc_ hbwca_.size
                  refine hK.out _ _ ⟨(cell_below hBwca_ (a := ad2) hlt2).trans n0, (cell_below hBwca_ (a := ⟨ad2.block, ad2.off + 1, none⟩) hlt2).trans n1, (cell_below hBwca_ (a := ⟨ad2.block, ad2.off + 2, none⟩) hlt2).trans n2⟩ (fun hHeld => ?_)
                  clear hK K
                  refine norm_ (a' := ?_) ?_ ?_
                  rotate_left
                  · show Act.put _ (some 69) _ = _
                    simp only [Act.put, List.setIfInBounds_toArray, List.set_cons_zero, List.set_cons_succ, i64_w, i32_w]
                    rfl
                  refine one_ (i := 9) (N := some 75) #[true, true, true, true, true, true, true, true, true, true, false, false, false, true, false, false] rfl rfl (by kernel_rfl) (by decide) (fun K hK => ?_)
                  refine goes_ Try.func41 (by kernel_rfl) rfl #[.string t17, .int .i64 (wrap64 (b.f0 + 1)), .bool true] (by rfl) rfl rfl (by simp only [List.map_toArray, List.map_cons, List.map_nil]; rfl) ?_
                  with_reducible refine (hscr.calls t17 (wrap64 (b.f0 + 1)) true bd' r2' r3' wca_ HSC.out).mono ?_
                  rintro en wcab_ ⟨vb, rfl, hVwcab_, hbwcab_⟩
                  refine ⟨_, rfl, ?_⟩
                  have hVwcab_ := Kd.V_mono hVwcab_ (ok' := fun k => wc.heap.size ≤ k ∧ k ≠ g10) (fun k hk => by have := hBwca_.size; have := hLwca_; omega)
                  have hBwcab_ := below_step hBwca_ hbwcab_
                  have hGwcab_ := (hbwcab_.block _ hLwca_).trans hGwca_
                  refine hK.out _ _ ⟨(cell_below hBwcab_ (a := ad2) hlt2).trans n0, (cell_below hBwcab_ (a := ⟨ad2.block, ad2.off + 1, none⟩) hlt2).trans n1, (cell_below hBwcab_ (a := ⟨ad2.block, ad2.off + 2, none⟩) hlt2).trans n2⟩ (fun hHeld => ?_)
                  clear hK K
                  refine norm_ (a' := ?_) ?_ ?_
                  rotate_left
                  · show Act.put _ (some 75) _ = _
                    simp only [Act.put, List.setIfInBounds_toArray, List.set_cons_zero, List.set_cons_succ, i64_w, i32_w]
                    rfl
                  refine pure_ (i := 10) (N := some 65) (v := ?_) (a' := ?_) #[true, true, true, true, true, true, true, true, true, true, true, false, false, true, false, false] rfl rfl (by kernel_rfl) (fun _ _ _ h => h) (Or.inl ⟨by rfl, ?_⟩) ?_ ?_
                  rotate_left
                  · intro w'
                    go_simp
                    with_reducible rfl
                  rotate_left
                  · simp only [Act.put, List.setIfInBounds_toArray, List.set_cons_zero, List.set_cons_succ, i64_w, i32_w]
                    rfl
                  refine pure_ (i := 11) (N := some 76) (v := ?_) (a' := ?_) #[true, true, true, true, true, true, true, true, true, true, true, true, false, true, false, false] rfl rfl (by kernel_rfl) (fun _ _ _ h => h) (Or.inl ⟨by rfl, ?_⟩) ?_ ?_
                  rotate_left
                  · intro w'
                    go_simp
                    with_reducible rfl
                  rotate_left
                  · simp only [Act.put, List.setIfInBounds_toArray, List.set_cons_zero, List.set_cons_succ, i64_w, i32_w]
                    rfl
                  refine pure_ (i := 12) (N := some 77) (v := ?_) (a' := ?_) #[true, true, true, true, true, true, true, true, true, true, true, true, true, true, false, false] rfl rfl (by kernel_rfl) (fun _ _ _ h => h) (Or.inl ⟨by rfl, ?_⟩) ?_ ?_
                  rotate_left
                  · intro w'
                    go_simp
                    with_reducible rfl
                  rotate_left
                  · simp only [Act.put, List.setIfInBounds_toArray, List.set_cons_zero, List.set_cons_succ, i64_w, i32_w]
                    rfl
                  exact norm_ (by simp only [putAll, Act.put, List.setIfInBounds_toArray, List.set_cons_zero, List.set_cons_succ]) (hCont (vb, g10) _ (BodyF.mk hBwcab_ hGwcab_ hge10 hVwcab_))
              rintro ⟨vb, g10⟩ wz HZ
              have q0 := (blk_cell HZ.bx 0).trans rfl
              have q1 := (blk_cell HZ.bx 1).trans rfl
              have qf0 := blk_frozen HZ.bx 0
              have qf1 := blk_frozen HZ.bx 1
              refine norm_ (a' := ?_) ?_ ?_
              rotate_left
              · simp only [putAll, Act.put, List.setIfInBounds_toArray, List.set_cons_zero, List.set_cons_succ]
                rfl
              refine pure_ (i := 14) (N := some 9) (v := ?_) (a' := ?_) #[true, true, true, true, true, true, true, true, true, true, true, true, true, true, true, false] rfl rfl (by kernel_rfl) (fun _ _ _ h => h) (Or.inl ⟨by rfl, ?_⟩) ?_ ?_
              rotate_left
              · intro w'
                go_simp
                with_reducible rfl
              rotate_left
              · simp only [Act.put, List.setIfInBounds_toArray, List.set_cons_zero, List.set_cons_succ, i64_w, i32_w]
                rfl
              refine last_ (i := 15) (N := none) #[true, true, true, true, true, true, true, true, true, true, true, true, true, true, true, true] rfl rfl (by kernel_rfl) (by decide) (fun K hK => ?_)
              refine skip_ (w1 := ?_) (by rfl) rfl ?_ ?_
              rotate_left
              · go_simp
                rfl
              refine hK.out _ _ ?_
              clear hK K
              refine done_ (by kernel_rfl) ?_
              have HY : Aside0 (BodyG wc ((wz.setCell ⟨g10, 0, none⟩ (.int .i64 r2')).setCell ⟨g10, 1, none⟩ (.int .i64 r3')) vb g10 bd' r2' r3') := ⟨HZ.put2⟩
              clear HZ q0 q1 qf0 qf1
              generalize ((wz.setCell ⟨g10, 0, none⟩ (.int .i64 r2')).setCell ⟨g10, 1, none⟩ (.int .i64 r3')) = wy at HY ⊢
              have y0 := (blk_cell HY.out.bx 0).trans rfl
              have y1 := (blk_cell HY.out.bx 1).trans rfl
              by_cases he : r3' = 0
              · have H := H'.out
                clear H'
                rw [if_pos he] at H
                have H' := Aside0.mk H
                clear H
                have heb : (r3' != 0) = false := by simp [he]
                obtain ⟨Ab, cb2, rfl, hlb2, hFb2⟩ := HY.out.bd
                have HM2 := Aside0.mk (HM.out.body (wd_rest hFb hlb) HY.out.hB (Ac := Ab) (nc := bd'.length) (cc := cb2))
                have HQ := Aside0.mk (Kd.F_far (p := ⟨wr.heap.size + 1, 4, none⟩) (Kd.F_mono hFb2 (ok' := fun k => wr.heap.size + 1 < k) (fun k hk => by have := blk_lt HM.out.b6; omega)) (fun k hk => by show k ≠ wr.heap.size + 1; omega) (.slice Ab bd'.length cb2))
                have z4 := blk_frozen (HM.out.b6y HY.out.hB) 4
                have p4 := (blk_cell (HM.out.b6y HY.out.hB) 4).trans rfl
                go_upto_region 22 with (fail)
                generalize (wy.setCell ⟨wr.heap.size + 1, 4, none⟩ (.slice Ab bd'.length cb2)) = wv at HM2 HQ ⊢
                clear HM p4 z4
                have HM := HM2
                clear HM2
                have p0 := (blk_cell HM.out.b6 0).trans rfl
                have p1 := (blk_cell HM.out.b6 1).trans rfl
                have p2 := (blk_cell HM.out.b6 2).trans rfl
                have p3 := (blk_cell HM.out.b6 3).trans rfl
                have p4 := (blk_cell HM.out.b6 4).trans rfl
                clear hFb2 HY
                go_wp2_with (at_builtin; refine Kd.N_append kArm (w.heap.size + 1) rfl (.tmp 86) (.tmp 88) 45 49 (.agg #[.int .i64 0, .int .i64 0, .int .i64 0, .slice none 0 0, .slice none 0 0]) 72 rfl Try.underlying45 infoArm rfl (by decide) (by omega) (.slice A4 arms1.length c4) arms1 (ky, px, bd') [.int .i64 ky, .int .i64 px.f0, .int .i64 px.f1, .slice Ax px.f2.length cx, .slice Ab bd'.length cb2] (fun k => (ok0 k ∧ k < w.heap.size) ∨ w.heap.size < k) (fun k => (ok0 k ∧ k < w.heap.size) ∨ wr.heap.size + 1 < k) rfl rfl (HM.out.arm (by first | exact hlb2 | exact Nat.le_refl _) HQ.out) (fun k hk => HP.out.okp k hk) (fun k hk => .inr (by have := HM.out.hB.size; have := HP.out.lt; omega)) (Kd.N_below HP.out.as_ HM.out.hB) (Below.refl _ _) (by have := HM.out.hB.size; have := HP.out.lt; omega) (by omega) ?_; intro v1 w3 r3 hb3 hg3 _; have HL := Aside0.mk (HP.out.next HM.out hb3 r3); have hal2 : (arms1 ++ [(ky, px, bd')]).length ≤ 64 := (by rw [List.length_append, List.length_singleton]; omega); clear r3 hb3 hg3)
                all_goals go_roundg k1
                all_goals first | (case measure => omega) | skip
                all_goals by_cases hc1e : cb = 1
                all_goals try (exfalso; omega)
                all_goals first | exact ⟨lx', _, hal2, H', HL⟩ | (simp only [hc1e, ↓reduceIte, Nat.sub_self] at HL ⊢; exact ⟨lx', _, hal2, H', HL⟩)
              · have H := H'.out
                clear H'
                rw [if_neg he] at H
                have heb : (r3' != 0) = true := by simp [he]
                have HPy := Aside0.mk (HP.out.below (below_step HM.out.hB HY.out.hB))
                obtain rfl := Option.some.inj H
                clear H
                have d0 := (blk_cell HPy.out.bx 0).trans rfl
                have d1 := (blk_cell HPy.out.bx 1).trans rfl
                have f0 := blk_frozen HPy.out.bx 0
                have f1 := blk_frozen HPy.out.bx 1
                go_wp2
                refine start_ (n := 3) (S := fun w' => w'.cell? ⟨g10, 0, none⟩ = some (.int .i64 r2') ∧ w'.cell? ⟨g10, 1, none⟩ = some (.int .i64 r3')) (ds := [2]) #[false, false, false] (by kernel_rfl) rfl rfl ⟨y0, y1⟩ (fun hHeld => ?_)
                refine pure_ (i := 1) (N := some 2) (v := ?_) (a' := ?_) #[false, true, false] rfl rfl (by kernel_rfl) (fun _ _ _ h => h) (Or.inl ⟨by rfl, ?_⟩) ?_ ?_
                rotate_left
                · intro w'
                  go_simp
                  with_reducible rfl
                rotate_left
                · simp only [Act.put, List.setIfInBounds_toArray, List.set_cons_zero, List.set_cons_succ, i64_w, i32_w]
                  rfl
                refine take_ (i := 0) (N := some 81) (v := ?_) (a' := ?_) #[true, true, false] rfl rfl (by kernel_rfl) (fun _ _ _ h => h) (Or.inl ⟨by rfl, ?_⟩) hHeld ?_ ?_
                rotate_left
                · rintro w' ⟨s0, s1⟩
                  go_simp
                  with_reducible rfl
                rotate_left
                · simp only [Act.put, List.setIfInBounds_toArray, List.set_cons_zero, List.set_cons_succ, i64_w, i32_w]
                  rfl
                refine last_ (i := 2) (N := none) #[true, true, true] rfl rfl (by kernel_rfl) (by decide) (fun K hK => ?_)
                refine skip_ (w1 := ?_) (by rfl) rfl ?_ ?_
                rotate_left
                · go_simp
                  rfl
                refine hK.out _ _ ?_
                clear hK K
                refine done_ (by kernel_rfl) ?_
                go_wp2
                refine bodyPost_ret (results_tc rfl _ _ w.heap.size 90 #[.int .i64 r2', .int .i64 r3'] (0, 0) _ rfl (wrong_set (blk_drew HPy.out.bx) _ _) Try.underlying90 rfl (by kernel_rfl)) rfl ?_
                exact LPost.bad (below_drew HPy.out.hB) _ _
            · have hno := bodyP_none scr hbo
              have H := H'.out
              clear H'
              unfold plan_list.j0' at H
              rw [hno] at H
              simp only [Option.bind_some, ↓reduceIte] at H
              have H' := Aside0.mk H
              clear H hno
              have HQ := Aside0.mk (Kd.F_nil kOp wc (fun k => wr.heap.size + 1 < k))
              have p0 := (blk_cell HM.out.b6 0).trans rfl
              have p1 := (blk_cell HM.out.b6 1).trans rfl
              have p2 := (blk_cell HM.out.b6 2).trans rfl
              have p3 := (blk_cell HM.out.b6 3).trans rfl
              have p4 := (blk_cell HM.out.b6 4).trans rfl
              cases lx with
              | nil =>
                clear hbo hFb hlb
                go_wp2_with (at_builtin; refine Kd.N_append kArm (w.heap.size + 1) rfl (.tmp 86) (.tmp 88) 45 49 (.agg #[.int .i64 0, .int .i64 0, .int .i64 0, .slice none 0 0, .slice none 0 0]) 72 rfl Try.underlying45 infoArm rfl (by decide) (by omega) (.slice A4 arms1.length c4) arms1 (ky, px, []) [.int .i64 ky, .int .i64 px.f0, .int .i64 px.f1, .slice Ax px.f2.length cx, .slice none 0 0] (fun k => (ok0 k ∧ k < w.heap.size) ∨ w.heap.size < k) (fun k => (ok0 k ∧ k < w.heap.size) ∨ wr.heap.size + 1 < k) rfl rfl (HM.out.arm (by first | exact hlb2 | exact Nat.le_refl _) HQ.out) (fun k hk => HP.out.okp k hk) (fun k hk => .inr (by have := HM.out.hB.size; have := HP.out.lt; omega)) (Kd.N_below HP.out.as_ HM.out.hB) (Below.refl _ _) (by have := HM.out.hB.size; have := HP.out.lt; omega) (by omega) ?_; intro v1 w3 r3 hb3 hg3 _; have HL := Aside0.mk (HP.out.next HM.out hb3 r3); have hal2 : (arms1 ++ [(ky, px, [])]).length ≤ 64 := (by rw [List.length_append, List.length_singleton]; omega); clear r3 hb3 hg3)
                go_roundg k1
                case measure => omega
                case rel => exact ⟨[], _, hal2, H', HL⟩
              | cons b lx =>
                have hb2 : (b.f1 == 2) = false := beq_eq_false_iff_ne.2 (fun h => hbo ⟨b, lx, rfl, h⟩)
                obtain ⟨ad2, A6, c6, rfl, m0, m1, m2, hl6, hF6, hlt6⟩ := wd_first hFb
                have hlw := HP.out.lt
                have n1 := (cell_below HM.out.hB (a := ⟨ad2.block, ad2.off + 1, none⟩) (show ad2.block < wr.heap.size by omega)).trans m1
                have hpos2 : ((0 : Int) < ((lx.length : Int) + 1)) = True := eq_true (by omega)
                have hpos3 : decide ((0 : Int) < ((lx.length : Int) + 1)) = true := decide_eq_true (by omega)
                clear hbo hFb hlb m0 m1 m2 hl6 hF6
                go_wp2_with (at_builtin; refine Kd.N_append kArm (w.heap.size + 1) rfl (.tmp 86) (.tmp 88) 45 49 (.agg #[.int .i64 0, .int .i64 0, .int .i64 0, .slice none 0 0, .slice none 0 0]) 72 rfl Try.underlying45 infoArm rfl (by decide) (by omega) (.slice A4 arms1.length c4) arms1 (ky, px, []) [.int .i64 ky, .int .i64 px.f0, .int .i64 px.f1, .slice Ax px.f2.length cx, .slice none 0 0] (fun k => (ok0 k ∧ k < w.heap.size) ∨ w.heap.size < k) (fun k => (ok0 k ∧ k < w.heap.size) ∨ wr.heap.size + 1 < k) rfl rfl (HM.out.arm (by first | exact hlb2 | exact Nat.le_refl _) HQ.out) (fun k hk => HP.out.okp k hk) (fun k hk => .inr (by have := HM.out.hB.size; have := HP.out.lt; omega)) (Kd.N_below HP.out.as_ HM.out.hB) (Below.refl _ _) (by have := HM.out.hB.size; have := HP.out.lt; omega) (by omega) ?_; intro v1 w3 r3 hb3 hg3 _; have HL := Aside0.mk (HP.out.next HM.out hb3 r3); have hal2 : (arms1 ++ [(ky, px, [])]).length ≤ 64 := (by rw [List.length_append, List.length_singleton]; omega); clear r3 hb3 hg3)
                go_roundg k1
                case measure => omega
                case rel => exact ⟨b :: lx, _, hal2, H', HL⟩
end Go.Proofs.Ytofhcjdadhpjdaa.Q
