/- plan.command, by hand, over any script function: whole. plan.script, by hand: by the depth of bodies. plan.Count, by hand: by the depth of bodies. -/
import Derived.Test.YtofhcjdadhpjdaaECommand
import Derived.Test.YtofhcjdadhpjdaaECommandB
import Derived.Test.YtofhcjdadhpjdaaECommandR
namespace Go.Proofs.Ytofhcjdadhpjdaa.Q
set_option linter.unusedSimpArgs false
set_option linter.unusedVariables false
open Go.RowKit Go.Proofs.YtofhcjdadhpjdaaW.PrintWords Go.Proofs.YtofhcjdadhpjdaaW.PrintLast Go.Proofs.YtofhcjdadhpjdaaW.PrintMore

theorem plan_command.calls (scr : ScrF) (hscr : ScrOK scr) (c : SCm) (body : Bool) (A : Option Addr) (cc : Nat) (ok0 : Nat → Prop) (r : POp × Int × Int) (w : World) (hlc : c.f1.length ≤ cc) (hF : Kd.F kWd w ok0 A c.f1.length c.f1)
    (h : plan_command.f scr c body = some r) :
    Calls Try.prog 69 #[.agg #[.int .i64 c.f0, .slice A c.f1.length cc], .bool body] w (CPost2 w ok0 r) := by
  by_cases hx : IsExp c
  · obtain ⟨ca, cws⟩ := c
    obtain ⟨w0, args, lo, hi, he, h2, h3, h4, h5⟩ := hx
    dsimp only at he hlc hF ⊢
    subst he
    have h' : ((argsP args).bind fun r => if r.2.2 = 0 then expR scr ca r.1 else some (zOp, r.2.1, r.2.2)) = some r := by
      unfold plan_command.f at h
      dsimp only at h
      rw [if_neg (by rw [h2]; decide), h3] at h
      dsimp only at h
      rw [if_neg (by omega), if_neg (by omega), if_neg (by omega)] at h
      exact h
    by_cases hbr : ∃ b, args = [b] ∧ b.f1 = 2
    · obtain ⟨b, hab, hb2⟩ := hbr
      exact plan_command.walkR scr hscr ca w0 args lo hi body A cc ok0 r w hlc hF h2 h3 h4 h5 b hab hb2 h'
    · exact plan_command.walkN scr hscr ca w0 args lo hi body A cc ok0 r w hlc hF h2 h3 h4 h5 hbr h'
  · exact plan_command.walkA scr hscr c body A cc ok0 r w hlc hF h hx
end Go.Proofs.Ytofhcjdadhpjdaa.Q
namespace Go.Proofs.Ytofhcjdadhpjdaa.Q
set_option linter.unusedSimpArgs false
set_option linter.unusedVariables false
open Go.RowKit Go.Proofs.YtofhcjdadhpjdaaW.PrintWords Go.Proofs.YtofhcjdadhpjdaaW.PrintLast Go.Proofs.YtofhcjdadhpjdaaW.PrintMore

def plan_script.l0 (scr : ScrF) (body : Bool) : List SCm → List POp → Option (List POp × Int × Int)
  | [], out => some (out, 0, 0)
  | c :: cs, out => (plan_command.f scr c body).bind fun r => if r.2.2 = 0 then plan_script.l0 scr body cs (out ++ [r.1]) else some ([], r.2.1, r.2.2)
/-- plan.script, for bodies less than n deep. -/
def plan_script.f : Nat → ScrF
  | 0 => fun _ _ _ => none
  | n + 1 => fun s b body => (plan_parse.f s b).bind fun r => if r.2.2 = 0 then plan_script.l0 (plan_script.f n) body r.1 [] else some ([], r.2.1, r.2.2)

/-- Between two rounds: the result's box, the wrong's box g9, the commands, the operations so far. -/
structure SInv (w W : World) (g9 : Nat) (v8 v10 : Value) (lr : List SCm) (out : List POp) (x y : Int) : Prop where
  hB : Below w.heap.size w W
  b7 : W.heap[w.heap.size]? = some (.cells #[.int .i64 0, .int .i64 0] 90 (0, 0))
  b9 : W.heap[g9]? = some (.cells #[.int .i64 x, .int .i64 y] 90 (0, 0))
  ge : w.heap.size < g9
  cs : Kd.V kCm 38 W 0 (fun k => w.heap.size < k ∧ k < g9) v8 lr
  row : Kd.N kOp 47 W (g9 + 1) (fun k => w.heap.size < k ∧ k ≠ g9) v10 out
structure SPost (w : World) (r : List POp × Int × Int) (en : Ending) (w' : World) : Prop where
  p : ∃ v_ : Value, en = .returned (.tuple #[v_, .agg #[.int .i64 r.2.1, .int .i64 r.2.2]]) ∧ Kd.V kOp 47 w' 0 (fun k => w.heap.size ≤ k) v_ r.1 ∧ Below w.heap.size w w'
section
variable {w W W1 : World} {g9 g13 : Nat} {v8 v10 : Value} {lr : List SCm} {out : List POp} {x y : Int}
theorem SInv.came {w1 : World} (hV : Kd.V kCm 38 w1 0 (fun k => (w.alloc (.cells #[.int .i64 0, .int .i64 0] 90)).heap.size ≤ k) v8 lr) (hB : Below (w.alloc (.cells #[.int .i64 0, .int .i64 0] 90)).heap.size (w.alloc (.cells #[.int .i64 0, .int .i64 0] 90)) w1) :
    SInv w (w1.alloc (.cells #[.int .i64 x, .int .i64 y] 90)) w1.heap.size v8 (.slice none 0 0) lr [] x y := by
  have hs : (w.alloc (.cells #[.int .i64 0, .int .i64 0] 90)).heap.size = w.heap.size + 1 := World.size_alloc _ _
  have hz := hB.size
  have hb0 : Below w.heap.size w w1 := below_weaken (below_alloc (Below.refl _ _) _) (by omega) hB
  exact ⟨below_alloc hb0 _, blk_alloc ((hB.block _ (by omega)).trans (blk_new w _)) _, blk_new _ _, by omega, Kd.V_alloc (Kd.V_mono (Kd.V_bound hV) (fun k hk => ⟨by have := hk.1; omega, hk.2⟩)) _, Kd.N_nil _ _ _ _ _⟩
theorem SInv.lt9 (h : SInv w W g9 v8 v10 lr out x y) : g9 < W.heap.size := blk_lt h.b9
theorem SInv.below (h : SInv w W g9 v8 v10 lr out x y) (hb : Below W.heap.size W W1) : SInv w W1 g9 v8 v10 lr out x y :=
  ⟨below_step h.hB hb, (hb.block _ (blk_lt h.b7)).trans h.b7, (hb.block _ h.lt9).trans h.b9, h.ge, Kd.V_below h.cs hb, Kd.N_below h.row hb⟩
/-- The operation and what is wrong are stored. -/
def setS (W : World) (g13 g9 : Nat) (u0 u1 u2 u3 x y : Value) : World := (((((W.setCell ⟨g13, 0, none⟩ u0).setCell ⟨g13, 1, none⟩ u1).setCell ⟨g13, 2, none⟩ u2).setCell ⟨g13, 3, none⟩ u3).setCell ⟨g9, 0, none⟩ x).setCell ⟨g9, 1, none⟩ y
variable {u0 u1 u2 u3 v1 : Value} {A : Option Addr} {n c : Nat}
theorem setS_heap (W : World) {g13 g9 : Nat} (u0 u1 u2 u3 x y : Value) {k : Nat} (h13 : k ≠ g13) (h9 : k ≠ g9) : (setS W g13 g9 u0 u1 u2 u3 x y).heap[k]? = W.heap[k]? := by
  unfold setS
  rw [Below.heap_setCell _ _ _ k h9, Below.heap_setCell _ _ _ k h9, Below.heap_setCell _ _ _ k h13, Below.heap_setCell _ _ _ k h13, Below.heap_setCell _ _ _ k h13, Below.heap_setCell _ _ _ k h13]
theorem SInv.stored {x0 y0 : Int} (h : SInv w W g9 v8 v10 lr out x0 y0) (hb : Below W.heap.size W W1) (hg : W.heap.size ≤ g13) (x y : Int) : SInv w (setS W1 g13 g9 u0 u1 u2 u3 (.int .i64 x) (.int .i64 y)) g9 v8 v10 lr out x y := by
  have h9 := h.lt9
  have hg9 := h.ge
  have hz := h.hB.size
  have h1 := h.below hb
  refine ⟨?_, (setS_heap W1 _ _ _ _ _ _ (by omega) (by omega)).trans h1.b7, ?_, hg9, Kd.V_step h1.cs (fun k hk _ => setS_heap W1 _ _ _ _ _ _ (by omega) (by omega)), ?_⟩
  · exact below_set (below_set (below_set (below_set (below_set (below_set h1.hB (by show w.heap.size ≤ g13; omega)) (by show w.heap.size ≤ g13; omega)) (by show w.heap.size ≤ g13; omega)) (by show w.heap.size ≤ g13; omega)) (by show w.heap.size ≤ g9; omega)) (by show w.heap.size ≤ g9; omega)
  · have hne : g9 ≠ g13 := by omega
    exact wrong_set (blk_far (blk_far (blk_far (blk_far h1.b9 hne _) hne _) hne _) hne _) x y
  · exact Kd.N_mono (Kd.N_step (Kd.N_below (Kd.N_bound h.row) hb) (fun k hk _ => setS_heap W1 _ _ _ _ _ _ (by have := hk.2; omega) hk.1.2)) (fun k hk => hk.1)
theorem SInv.next {out2 : List POp} (h : SInv w W g9 v8 v10 lr out x y) (hb : Below (g9 + 1) W W1) (hr : Kd.N kOp 47 W1 (g9 + 1) (fun k => w.heap.size < k ∧ k ≠ g9) v1 out2) : SInv w W1 g9 v8 v1 lr out2 x y :=
  ⟨below_weaken h.hB (by have := h.ge; omega) hb, (hb.block _ (by have := h.ge; omega)).trans h.b7, (hb.block _ (by omega)).trans h.b9, h.ge, Kd.V_step h.cs (fun k hk _ => hb.block k (by omega)), hr⟩
theorem SInv.fin (h : SInv w W g9 v8 v10 lr out x y) : SPost w (out, 0, 0) (.returned (.tuple #[v10, .agg #[.int .i64 0, .int .i64 0]])) ((W.setCell ⟨w.heap.size, 0, none⟩ (.int .i64 0)).setCell ⟨w.heap.size, 1, none⟩ (.int .i64 0)) :=
  ⟨v10, rfl, Kd.N_V (Kd.N_mono (Kd.N_far (p := ⟨w.heap.size, 1, none⟩) (Kd.N_far (p := ⟨w.heap.size, 0, none⟩) h.row (fun k hk => by show k ≠ w.heap.size; omega) _) (fun k hk => by show k ≠ w.heap.size; omega) _) (fun k hk => Nat.le_of_lt hk.1)), below_set (below_set h.hB (Nat.le_refl _)) (Nat.le_refl _)⟩
theorem SPost.bad (hb : Below w.heap.size w W) (x y : Int) : SPost w ([], x, y) (.returned (.tuple #[.slice none 0 0, .agg #[.int .i64 x, .int .i64 y]])) ((W.setCell ⟨w.heap.size, 0, none⟩ (.int .i64 x)).setCell ⟨w.heap.size, 1, none⟩ (.int .i64 y)) :=
  ⟨_, rfl, Kd.V_nil _ _ _ _ _, below_set (below_set hb (Nat.le_refl _)) (Nat.le_refl _)⟩
theorem setS_op {g13 g9 : Nat} (hne : g13 ≠ g9) (h : W.heap[g13]? = some (.cells #[.int .i64 0, .int .i64 0, .slice none 0 0, .slice none 0 0] 47 (0, 0))) (u0 u1 u2 u3 x y : Value) : (setS W g13 g9 u0 u1 u2 u3 x y).heap[g13]? = some (.cells #[u0, u1, u2, u3] 47 (0, 0)) :=
  blk_far (blk_far (blk_put (cs := #[u0, u1, u2, .slice none 0 0]) (blk_put (cs := #[u0, u1, .slice none 0 0, .slice none 0 0]) (blk_put (cs := #[u0, .int .i64 0, .slice none 0 0, .slice none 0 0]) (blk_put (cs := #[.int .i64 0, .int .i64 0, .slice none 0 0, .slice none 0 0]) h 0 _ rfl) 1 _ rfl) 2 _ rfl) 3 _ rfl) hne _) hne _
end
/-- Behind the call of a round: the operation's box, the operation. -/
structure Called (w wr w3 : World) (g9 : Nat) (op : POp) (cs : List Value) : Prop where
  hB : Below wr.heap.size wr w3
  b13 : w3.heap[wr.heap.size + 1]? = some (.cells #[.int .i64 0, .int .i64 0, .slice none 0 0, .slice none 0 0] 47 (0, 0))
  fk : Kd.FK kOp w3 (fun k => (w.heap.size < k ∧ k < g9) ∨ wr.heap.size + 1 < k) op cs
theorem Called.of {w wr w3 : World} {g9 : Nat} {op : POp} {cs : List Value} {o : Obj} (hFK : Kd.FK kOp w3 (fun k => ((w.heap.size < k ∧ k < g9) ∧ k < ((wr.alloc o).alloc (.cells #[.int .i64 0, .int .i64 0, .slice none 0 0, .slice none 0 0] 47)).heap.size) ∨ ((wr.alloc o).alloc (.cells #[.int .i64 0, .int .i64 0, .slice none 0 0, .slice none 0 0] 47)).heap.size ≤ k) op cs)
    (hB : Below ((wr.alloc o).alloc (.cells #[.int .i64 0, .int .i64 0, .slice none 0 0, .slice none 0 0] 47)).heap.size ((wr.alloc o).alloc (.cells #[.int .i64 0, .int .i64 0, .slice none 0 0, .slice none 0 0] 47)) w3) : Called w wr w3 g9 op cs := by
  have e1 : (wr.alloc o).heap.size = wr.heap.size + 1 := World.size_alloc _ _
  have e2 : ((wr.alloc o).alloc (.cells #[.int .i64 0, .int .i64 0, .slice none 0 0, .slice none 0 0] 47)).heap.size = wr.heap.size + 2 := by rw [World.size_alloc, e1]
  refine ⟨below_step (below_alloc (below_alloc (Below.refl _ _) _) _) hB, (hB.block _ (by omega)).trans ?_, Kd.FK_mono hFK (fun k hk => hk.imp (fun h => h.1) (fun h => by omega))⟩
  rw [← e1]
  exact blk_new _ _
theorem FK_setS {W : World} {g13 g9 : Nat} {u0 u1 u2 u3 x y : Value} {ok : Nat → Prop} {op : POp} {cs : List Value} (h : Kd.FK kOp W ok op cs) (hok : ∀ k, ok k → k ≠ g13 ∧ k ≠ g9) : Kd.FK kOp (setS W g13 g9 u0 u1 u2 u3 x y) ok op cs :=
  Kd.FK_step h (fun k hk _ => setS_heap W _ _ _ _ _ _ (hok k hk).1 (hok k hk).2)
theorem plan_command.calls4 (scr : ScrF) (hscr : ScrOK scr) (c : SCm) (body : Bool) (A : Option Addr) (cc : Nat) (ok0 : Nat → Prop) (op : POp) (x y : Int) (w : World) (hlc : c.f1.length ≤ cc) (hF : Kd.F kWd w ok0 A c.f1.length c.f1)
    (h : plan_command.f scr c body = some (op, x, y)) :
    Calls Try.prog 69 #[.agg #[.int .i64 c.f0, .slice A c.f1.length cc], .bool body] w fun en w' => ∃ A2 c2 A3 c3, en = .returned (.tuple #[.agg #[.int .i64 op.k, .int .i64 op.at_, .slice A2 op.ws.length c2, .slice A3 op.arms.length c3], .agg #[.int .i64 x, .int .i64 y]]) ∧ Kd.FK kOp w' (fun k => (ok0 k ∧ k < w.heap.size) ∨ w.heap.size ≤ k) op [.int .i64 op.k, .int .i64 op.at_, .slice A2 op.ws.length c2, .slice A3 op.arms.length c3] ∧ Below w.heap.size w w' := by
  refine (plan_command.calls scr hscr c body A cc ok0 (op, x, y) w hlc hF h).mono (fun en w' hp => ?_)
  obtain ⟨cs, rfl, hFK, hB⟩ := hp.p
  obtain ⟨A2, c2, A3, c3, rfl, -⟩ := kOp_openF hFK
  exact ⟨A2, c2, A3, c3, rfl, hFK, hB⟩
theorem infoOp : (Try.prog.info? 47).map (fun i => (i.zero, i.size, i.bytes)) = some (some (.agg #[.int .i64 0, .int .i64 0, .slice none 0 0, .slice none 0 0]), 4, 64) := by kernel_rfl
set_option maxHeartbeats 8000000 in
set_option maxRecDepth 1000000 in
theorem plan_script.walk (scr : ScrF) (hscr : ScrOK scr) (s : ByteArray) (b : Int) (body : Bool) (lr : List SCm) (x9 y9 : Int) (r : List POp × Int × Int) (w : World) (hp : plan_parse.f s b = some (lr, x9, y9))
    (h : (if y9 = 0 then plan_script.l0 scr body lr [] else some ([], x9, y9)) = some r) :
    Calls Try.prog 41 #[.string s, .int .i64 b, .bool body] w (SPost w r) := by
  have HPA := Aside0.mk hp
  have hbd := (tcl_wordsP hp).2
  have H0 : Aside0 ((y9 = 0 ∧ plan_script.l0 scr body (lr.drop 0) [] = some r) ∨ (y9 ≠ 0 ∧ r = ([], x9, y9))) := by
    refine ⟨?_⟩
    by_cases hy : y9 = 0
    · rw [if_pos hy] at h
      exact .inl ⟨hy, h⟩
    · rw [if_neg hy] at h
      exact .inr ⟨hy, (Option.some.inj h).symm⟩
  clear hp h
  go_enter Try.func41, Try.ntmps41
  go_upto_region 2 with ((go_at_call 68; refine (plan_parse.callsV s b lr x9 y9 _ HPA.out).mono ?_; rintro en w1 ⟨v8, rfl, hV, hB⟩; have HI := Aside0.mk (SInv.came (x := x9) (y := y9) hV hB); clear hV hB; obtain ⟨A8, c8, rfl⟩ := Kd.V_slice HI.out.cs))
  generalize w1.alloc (.cells #[.int .i64 x9, .int .i64 y9] 90) = w2 at HI ⊢
  generalize w1.heap.size = g9 at HI ⊢
  go_wp2
  go_loopg [10, 22] (lr.length) (fun kq v10 v22 W => ∃ (i : Nat) (out : List POp) (x y : Int), v22 = .int .i64 (i : Int) ∧ kq = lr.length - i ∧ i ≤ lr.length ∧ out.length ≤ i ∧ Aside0 ((y = 0 ∧ plan_script.l0 scr body (lr.drop i) out = some r) ∨ (y ≠ 0 ∧ r = ([], x, y))) ∧ Aside0 (SInv w W g9 (.slice A8 lr.length c8) v10 lr out x y))
  case atStart => exact ⟨0, [], x9, y9, rfl, rfl, Nat.zero_le _, Nat.le_refl _, H0, HI⟩
  case round =>
    clear HI H0 HPA
    obtain ⟨i, out, x, y, rfl, rfl, hil, hol, HA, HI⟩ := hrel
    obtain ⟨A10, c10, rfl⟩ := Kd.N_slice HI.out.row
    have p0 := (blk_cell HI.out.b9 0).trans rfl
    have p1 := (blk_cell HI.out.b9 1).trans rfl
    have h9 := HI.out.lt9
    have h7 := blk_lt HI.out.b7
    by_cases hi : i < lr.length
    · have hb := decide_eq_true (show (i : Int) < (lr.length : Int) by omega)
      have hlt : ((i : Int) < (lr.length : Int)) = True := eq_true (by omega)
      have h0 : ((0 : Int) ≤ (i : Int)) = True := eq_true (by omega)
      obtain ⟨ad3, A9, c9, rfl, r0, r1, hl9, hF9⟩ := cm_read (Kd.V_F HI.out.cs) i hi
      obtain ⟨cx, hx⟩ : ∃ cx, lr.getD i zCm = cx := ⟨_, rfl⟩
      rw [hx] at r0 r1 hl9 hF9
      by_cases hy : y = 0
      · obtain ⟨rfl, hL⟩ := HA.out.resolve_right (fun h => h.1 hy)
        have hdr : lr.drop i = cx :: lr.drop (i + 1) := by
          rw [List.drop_eq_getElem_cons hi, ← hx]
          simp [List.getD_eq_getElem?_getD, List.getElem?_eq_getElem hi]
        rw [hdr, plan_script.l0] at hL
        obtain ⟨⟨op, x', y'⟩, hc, hL⟩ := Option.bind_eq_some_iff.1 hL
        dsimp only at hL
        have HCC := Aside0.mk hc
        have HL := Aside0.mk hL
        have HF := Aside0.mk (And.intro hl9 hF9)
        clear HA hL hc hx hdr hF9 hl9 hy
        go_upto_region 9 with ((go_at_call 69; refine (plan_command.calls4 scr hscr cx body A9 c9 (fun k => w.heap.size < k ∧ k < g9) op x' y' _ HF.out.1 (Kd.F_alloc (Kd.F_alloc HF.out.2 _) _) HCC.out).mono ?_; rintro en w3 ⟨A2, c2, A3, c3, rfl, hFK, hB⟩; have HC := Aside0.mk (Called.of hFK hB); clear hFK hB; have b130 := (blk_cell HC.out.b13 0).trans rfl; have b131 := (blk_cell HC.out.b13 1).trans rfl; have b132 := (blk_cell HC.out.b13 2).trans rfl; have b133 := (blk_cell HC.out.b13 3).trans rfl; have z130 := blk_frozen HC.out.b13 0; have z131 := blk_frozen HC.out.b13 1; have z132 := blk_frozen HC.out.b13 2; have z133 := blk_frozen HC.out.b13 3; have b90 := (blk_cell (HI.out.below HC.out.hB).b9 0).trans rfl; have b91 := (blk_cell (HI.out.below HC.out.hB).b9 1).trans rfl; have z90 := blk_frozen (HI.out.below HC.out.hB).b9 0; have z91 := blk_frozen (HI.out.below HC.out.hB).b9 1))
        have HS : Aside0 (SInv w ((((((w3.setCell ⟨wr.heap.size + 1, 0, none⟩ (.int .i64 op.k)).setCell ⟨wr.heap.size + 1, 1, none⟩ (.int .i64 op.at_)).setCell ⟨wr.heap.size + 1, 2, none⟩ (.slice A2 op.ws.length c2)).setCell ⟨wr.heap.size + 1, 3, none⟩ (.slice A3 op.arms.length c3)).setCell ⟨g9, 0, none⟩ (.int .i64 x')).setCell ⟨g9, 1, none⟩ (.int .i64 y')) g9 (.slice (some ad3) lr.length c8) (.slice A10 out.length c10) lr out x' y') := ⟨HI.out.stored HC.out.hB (Nat.le_succ _) x' y'⟩
        have HO : Aside0 (((((((w3.setCell ⟨wr.heap.size + 1, 0, none⟩ (.int .i64 op.k)).setCell ⟨wr.heap.size + 1, 1, none⟩ (.int .i64 op.at_)).setCell ⟨wr.heap.size + 1, 2, none⟩ (.slice A2 op.ws.length c2)).setCell ⟨wr.heap.size + 1, 3, none⟩ (.slice A3 op.arms.length c3)).setCell ⟨g9, 0, none⟩ (.int .i64 x')).setCell ⟨g9, 1, none⟩ (.int .i64 y')).heap[wr.heap.size + 1]? = some (.cells #[.int .i64 op.k, .int .i64 op.at_, .slice A2 op.ws.length c2, .slice A3 op.arms.length c3] 47 (0, 0)) ∧ Kd.FK kOp ((((((w3.setCell ⟨wr.heap.size + 1, 0, none⟩ (.int .i64 op.k)).setCell ⟨wr.heap.size + 1, 1, none⟩ (.int .i64 op.at_)).setCell ⟨wr.heap.size + 1, 2, none⟩ (.slice A2 op.ws.length c2)).setCell ⟨wr.heap.size + 1, 3, none⟩ (.slice A3 op.arms.length c3)).setCell ⟨g9, 0, none⟩ (.int .i64 x')).setCell ⟨g9, 1, none⟩ (.int .i64 y')) (fun k => (w.heap.size < k ∧ k < g9) ∨ wr.heap.size + 1 < k) op [.int .i64 op.k, .int .i64 op.at_, .slice A2 op.ws.length c2, .slice A3 op.arms.length c3]) := ⟨setS_op (by omega) HC.out.b13 _ _ _ _ _ _, FK_setS HC.out.fk (fun k hk => by rcases hk with hk | hk <;> omega)⟩
        have HOK : Aside0 (∀ k, ((w.heap.size < k ∧ k < g9) ∨ wr.heap.size + 1 < k) → (w.heap.size < k ∧ k ≠ g9) ∧ some k ≠ (Value.slice A10 out.length c10).ownBlock) := ⟨fun k hk => by
          have hl10 := Kd.N_lt HI.out.row
          have hb10 := Kd.N_base HI.out.row
          refine ⟨by rcases hk with hk | hk <;> omega, fun he => ?_⟩
          have h1 := hl10 k he.symm
          have h2 := hb10 k he.symm
          rcases hk with hk | hk <;> omega⟩
        generalize ((((((w3.setCell ⟨wr.heap.size + 1, 0, none⟩ (.int .i64 op.k)).setCell ⟨wr.heap.size + 1, 1, none⟩ (.int .i64 op.at_)).setCell ⟨wr.heap.size + 1, 2, none⟩ (.slice A2 op.ws.length c2)).setCell ⟨wr.heap.size + 1, 3, none⟩ (.slice A3 op.arms.length c3)).setCell ⟨g9, 0, none⟩ (.int .i64 x')).setCell ⟨g9, 1, none⟩ (.int .i64 y')) = wS at HS HO ⊢
        clear HC HI p0 p1 b130 b131 b132 b133 z130 z131 z132 z133 b90 b91 z90 z91 r0 r1
        have p0 := (blk_cell HS.out.b9 0).trans rfl
        have p1 := (blk_cell HS.out.b9 1).trans rfl
        have HL' := HL.out
        clear HL
        by_cases hy' : y' = 0
        · rw [if_pos hy'] at HL'
          have HL := Aside0.mk HL'
          clear HL'
          obtain rfl := hy'
          have q0 := (blk_cell HO.out.1 0).trans rfl
          have q1 := (blk_cell HO.out.1 1).trans rfl
          have q2 := (blk_cell HO.out.1 2).trans rfl
          have q3 := (blk_cell HO.out.1 3).trans rfl
          have h9' := HS.out.lt9
          have hge := HS.out.ge
          go_wp2_with (at_builtin; refine Kd.N_append kOp (g9 + 1) rfl (.tmp 38) (.tmp 40) 31 47 (.agg #[.int .i64 0, .int .i64 0, .slice none 0 0, .slice none 0 0]) 64 rfl Try.underlying31 infoOp rfl (by decide) (by omega) (.slice A10 out.length c10) out op [.int .i64 op.k, .int .i64 op.at_, .slice A2 op.ws.length c2, .slice A3 op.arms.length c3] (fun k => w.heap.size < k ∧ k ≠ g9) (fun k => (w.heap.size < k ∧ k < g9) ∨ wr.heap.size + 1 < k) rfl rfl HO.out.2 (fun k hk => HOK.out k hk) (fun k hk => ⟨by omega, by omega⟩) HS.out.row (Below.refl _ _) (by omega) (by omega) ?_; intro v1 w5 r5 hb5 hg5 _; have HN := Aside0.mk (HS.out.next hb5 r5); clear r5 hb5 hg5)
          go_roundg (lr.length - (i + 1))
          case measure => omega
          case rel => exact ⟨i + 1, out ++ [op], x', 0, by simp, rfl, by omega, by rw [List.length_append, List.length_singleton]; omega, ⟨.inl ⟨rfl, HL.out⟩⟩, HN⟩
        · rw [if_neg hy'] at HL'
          obtain rfl := Option.some.inj HL'
          have hyb : (y' == 0) = false := beq_eq_false_iff_ne.2 hy'
          have HY := Aside0.mk hy'
          clear HL' hy'
          go_wp2
          go_roundg (lr.length - (i + 1))
          case measure => omega
          case rel => exact ⟨i + 1, out, x', y', by simp, rfl, by omega, by omega, ⟨.inr ⟨HY.out, rfl⟩⟩, HS⟩
      · obtain rfl := (HA.out.resolve_left (fun h => hy h.1)).2
        have hyb : (y != 0) = true := by simp [hy]
        clear HA hy hx hF9 hl9
        go_upto_region 13 with (fail)
        have HX := Aside0.mk (HI.out.below (below_alloc (Below.refl _ _) (.cells #[.int .i64 cx.f0, .slice A9 cx.f1.length c9] 38)))
        generalize wr.alloc (.cells #[.int .i64 cx.f0, .slice A9 cx.f1.length c9] 38) = wx at HX ⊢
        clear HI p0 p1 r0 r1
        have p0 := (blk_cell HX.out.b9 0).trans rfl
        have p1 := (blk_cell HX.out.b9 1).trans rfl
        have d0 := (blk_cell HX.out.b7 0).trans rfl
        have d1 := (blk_cell HX.out.b7 1).trans rfl
        have f0 := blk_frozen HX.out.b7 0
        have f1 := blk_frozen HX.out.b7 1
        refine start_ (n := 3) (S := fun w' => w'.cell? ⟨g9, 0, none⟩ = some (.int .i64 x) ∧ w'.cell? ⟨g9, 1, none⟩ = some (.int .i64 y)) (ds := [2]) #[false, false, false] (by kernel_rfl) rfl rfl ⟨p0, p1⟩ (fun hHeld => ?_)
        refine pure_ (i := 1) (N := some 6) (v := ?_) (a' := ?_) #[false, true, false] rfl rfl (by kernel_rfl) (fun _ _ _ h => h) (Or.inl ⟨by rfl, ?_⟩) ?_ ?_
        rotate_left
        · intro w'
          go_simp
          with_reducible rfl
        rotate_left
        · simp only [Act.put, List.setIfInBounds_toArray, List.set_cons_zero, List.set_cons_succ, i64_w, i32_w]
          rfl
        refine take_ (i := 0) (N := some 46) (v := ?_) (a' := ?_) #[true, true, false] rfl rfl (by kernel_rfl) (fun _ _ _ h => h) (Or.inl ⟨by rfl, ?_⟩) hHeld ?_ ?_
        rotate_left
        · rintro w' ⟨s0, s1⟩
          go_simp
          with_reducible rfl
        rotate_left
        · simp only [Act.put, List.setIfInBounds_toArray, List.set_cons_zero, List.set_cons_succ, i64_w, i32_w]
          rfl
        refine last_ (i := 2) (N := none) #[true, true, true] rfl rfl (by kernel_rfl) (by decide) (fun K hK => ?_)
        refine skip_ (w1 := ?_) (by rfl) rfl ?_ ?_
        rotate_left
        · go_simp
          rfl
        refine hK.out _ _ ?_
        clear hK K
        refine done_ (by kernel_rfl) ?_
        go_wp2
        refine bodyPost_ret (results_tc rfl _ _ w.heap.size 90 #[.int .i64 x, .int .i64 y] (0, 0) _ rfl (wrong_set (blk_drew HX.out.b7) _ _) Try.underlying90 rfl (by kernel_rfl)) rfl ?_
        exact SPost.bad (below_drew HX.out.hB) _ _
    · have hb := decide_eq_false (show ¬ (i : Int) < (lr.length : Int) by omega)
      obtain rfl : i = lr.length := by omega
      by_cases hy : y = 0
      · obtain ⟨rfl, hL⟩ := HA.out.resolve_right (fun h => h.1 hy)
        rw [List.drop_length] at hL
        obtain rfl := Option.some.inj hL
        clear hL HA hy
        have d0 := (blk_cell HI.out.b7 0).trans rfl
        have d1 := (blk_cell HI.out.b7 1).trans rfl
        have f0 := blk_frozen HI.out.b7 0
        have f1 := blk_frozen HI.out.b7 1
        go_wp2
        refine bodyPost_ret (results_tc rfl _ _ w.heap.size 90 #[.int .i64 0, .int .i64 0] (0, 0) _ rfl (wrong_set HI.out.b7 _ _) Try.underlying90 rfl (by kernel_rfl)) rfl ?_
        exact HI.out.fin
      · obtain rfl := (HA.out.resolve_left (fun h => hy h.1)).2
        have hyb : (y != 0) = true := by simp [hy]
        clear HA hy
        go_upto_region 13 with (fail)
        have HX := HI
        generalize wr = wx at HX ⊢
        clear HI p0 p1
        have p0 := (blk_cell HX.out.b9 0).trans rfl
        have p1 := (blk_cell HX.out.b9 1).trans rfl
        have d0 := (blk_cell HX.out.b7 0).trans rfl
        have d1 := (blk_cell HX.out.b7 1).trans rfl
        have f0 := blk_frozen HX.out.b7 0
        have f1 := blk_frozen HX.out.b7 1
        refine start_ (n := 3) (S := fun w' => w'.cell? ⟨g9, 0, none⟩ = some (.int .i64 x) ∧ w'.cell? ⟨g9, 1, none⟩ = some (.int .i64 y)) (ds := [2]) #[false, false, false] (by kernel_rfl) rfl rfl ⟨p0, p1⟩ (fun hHeld => ?_)
        refine pure_ (i := 1) (N := some 6) (v := ?_) (a' := ?_) #[false, true, false] rfl rfl (by kernel_rfl) (fun _ _ _ h => h) (Or.inl ⟨by rfl, ?_⟩) ?_ ?_
        rotate_left
        · intro w'
          go_simp
          with_reducible rfl
        rotate_left
        · simp only [Act.put, List.setIfInBounds_toArray, List.set_cons_zero, List.set_cons_succ, i64_w, i32_w]
          rfl
        refine take_ (i := 0) (N := some 46) (v := ?_) (a' := ?_) #[true, true, false] rfl rfl (by kernel_rfl) (fun _ _ _ h => h) (Or.inl ⟨by rfl, ?_⟩) hHeld ?_ ?_
        rotate_left
        · rintro w' ⟨s0, s1⟩
          go_simp
          with_reducible rfl
        rotate_left
        · simp only [Act.put, List.setIfInBounds_toArray, List.set_cons_zero, List.set_cons_succ, i64_w, i32_w]
          rfl
        refine last_ (i := 2) (N := none) #[true, true, true] rfl rfl (by kernel_rfl) (by decide) (fun K hK => ?_)
        refine skip_ (w1 := ?_) (by rfl) rfl ?_ ?_
        rotate_left
        · go_simp
          rfl
        refine hK.out _ _ ?_
        clear hK K
        refine done_ (by kernel_rfl) ?_
        go_wp2
        refine bodyPost_ret (results_tc rfl _ _ w.heap.size 90 #[.int .i64 x, .int .i64 y] (0, 0) _ rfl (wrong_set (blk_drew HX.out.b7) _ _) Try.underlying90 rfl (by kernel_rfl)) rfl ?_
        exact SPost.bad (below_drew HX.out.hB) _ _
theorem plan_script.ok : ∀ n, ScrOK (plan_script.f n)
  | 0 => fun t b body r1 r2 r3 w h => by cases h
  | n + 1 => fun t b body r1 r2 r3 w h => by
    have h' : ((plan_parse.f t b).bind fun r => if r.2.2 = 0 then plan_script.l0 (plan_script.f n) body r.1 [] else some ([], r.2.1, r.2.2)) = some (r1, r2, r3) := h
    obtain ⟨⟨lr, x9, y9⟩, hp, h2⟩ := Option.bind_eq_some_iff.1 h'
    exact (plan_script.walk (plan_script.f n) (plan_script.ok n) t b body lr x9 y9 (r1, r2, r3) w hp h2).mono (fun en w' hq => hq.p)

/-- plan.Parse. -/
def plan_Parse.f (n : Nat) (s : ByteArray) : Option (List POp × Int × Int) := plan_script.f n s 0 false
set_option maxHeartbeats 4000000 in
set_option maxRecDepth 1000000 in
theorem plan_Parse.calls (n : Nat) (s : ByteArray) (l : List POp) (x y : Int) (w : World) (h : plan_Parse.f n s = some (l, x, y)) :
    Calls Try.prog 16 #[.string s] w fun en w' => ∃ A c, en = .returned (.tuple #[.slice A l.length c, .int .i64 x, .int .i64 y]) ∧ l.length ≤ c ∧ Kd.F kOp w' (fun k => w.heap.size ≤ k) A l.length l ∧ Below w.heap.size w w' := by
  have H := Aside0.mk h
  clear h
  go_enter Try.func16, Try.ntmps16
  go_upto_region 2 with (go_at_call 41; refine (plan_script.ok n s 0 false l x y _ H.out).mono ?_; rintro en w1 ⟨v1, rfl, hV, hB⟩)
  obtain ⟨A, c, rfl, hl, hF⟩ := hV
  have HV := Aside0.mk (And.intro hl (Kd.F_alloc hF (.cells #[.int .i64 x, .int .i64 y] 90)))
  have HB := Aside0.mk (below_alloc hB (.cells #[.int .i64 x, .int .i64 y] 90))
  have g0 := (blk_cell (blk_new w1 (.cells #[.int .i64 x, .int .i64 y] 90)) 0).trans rfl
  have g1 := (blk_cell (blk_new w1 (.cells #[.int .i64 x, .int .i64 y] 90)) 1).trans rfl
  clear hl hF hB
  generalize w1.alloc (.cells #[.int .i64 x, .int .i64 y] 90) = w2 at HV HB g0 g1 ⊢
  generalize w1.heap.size = g6 at g0 g1 ⊢
  go_quiet (fail)
  go_wp2
  go_ret3
  exact ⟨A, c, rfl, HV.out.1, Kd.F_drewN HV.out.2 _, pw_below_drewN HB.out _⟩
end Go.Proofs.Ytofhcjdadhpjdaa.Q
namespace Go.Proofs.Ytofhcjdadhpjdaa.Q
set_option linter.unusedSimpArgs false
set_option linter.unusedVariables false
open Go.RowKit Go.Proofs.YtofhcjdadhpjdaaW.PrintWords Go.Proofs.YtofhcjdadhpjdaaW.PrintLast Go.Proofs.YtofhcjdadhpjdaaW.PrintMore

def cntArms (g : List POp → Option Int) : List PArm → Int → Option Int
  | [], acc => some acc
  | a :: l, acc => (g a.2.2).bind fun c => cntArms g l (wrap64 (acc + c))
def cntOps (g : List POp → Option Int) : List POp → Int → Option Int
  | [], acc => some acc
  | o :: l, acc => (cntArms g o.arms acc).bind fun acc => cntOps g l acc
def plan_Count.f : Nat → List POp → Option Int
  | 0 => fun _ => none
  | n + 1 => fun l => cntOps (plan_Count.f n) l (l.length : Int)
def CntOK (g : List POp → Option Int) : Prop := ∀ (l : List POp) (A : Option Addr) (c : Nat) (ok : Nat → Prop) (r : Int) (w : World), g l = some r → l.length ≤ c → Kd.F kOp w ok A l.length l →
  Calls Try.prog 22 #[.slice A l.length c] w fun en w' => en = .returned (.int .i64 r) ∧ Below w.heap.size w w'
theorem op_read {W : World} {ok : Nat → Prop} {A : Option Addr} {l : List POp} (h : Kd.F kOp W ok A l.length l) (i : Nat) (hi : i < l.length) :
    ∃ ad A2 c2 A3 c3, A = some ad ∧ W.cell? (ad.add (i * 4)) = some (.int .i64 (l.getD i zOp).k) ∧ W.cell? ⟨(ad.add (i * 4)).block, (ad.add (i * 4)).off + 1, none⟩ = some (.int .i64 (l.getD i zOp).at_) ∧
      W.cell? ⟨(ad.add (i * 4)).block, (ad.add (i * 4)).off + 2, none⟩ = some (.slice A2 (l.getD i zOp).ws.length c2) ∧ W.cell? ⟨(ad.add (i * 4)).block, (ad.add (i * 4)).off + 3, none⟩ = some (.slice A3 (l.getD i zOp).arms.length c3) ∧
      ((l.getD i zOp).ws.length ≤ c2 ∧ Kd.F kWd W ok A2 (l.getD i zOp).ws.length (l.getD i zOp).ws) ∧ (l.getD i zOp).arms.length ≤ c3 ∧ Kd.F kArm W ok A3 (l.getD i zOp).arms.length (l.getD i zOp).arms := by
  obtain ⟨ad, c, rfl, _, hK, hcc, _⟩ := Kd.F_get h zOp (i : Int) (by omega) (by omega)
  rw [Int.toNat_natCast] at hK hcc
  obtain ⟨A2, c2, A3, c3, rfl, l2, g2, l3, g3⟩ := kOp_openF hK
  have h0 := hcc 0 _ rfl
  have h1 := hcc 1 _ rfl
  have h2 := hcc 2 _ rfl
  have h3 := hcc 3 _ rfl
  rw [add_field _ _ 1 (by omega)] at h1
  rw [add_field _ _ 2 (by omega)] at h2
  rw [add_field _ _ 3 (by omega)] at h3
  exact ⟨ad, A2, c2, A3, c3, rfl, h0, h1, h2, h3, ⟨l2, g2⟩, l3, g3⟩
theorem arm_read {W : World} {ok : Nat → Prop} {A : Option Addr} {l : List PArm} (h : Kd.F kArm W ok A l.length l) (i : Nat) (hi : i < l.length) :
    ∃ ad A3 c3 A4 c4, A = some ad ∧ W.cell? (ad.add (i * 5)) = some (.int .i64 (l.getD i zArm).1) ∧ W.cell? ⟨(ad.add (i * 5)).block, (ad.add (i * 5)).off + 1, none⟩ = some (.int .i64 (l.getD i zArm).2.1.f0) ∧
      W.cell? ⟨(ad.add (i * 5)).block, (ad.add (i * 5)).off + 2, none⟩ = some (.int .i64 (l.getD i zArm).2.1.f1) ∧ W.cell? ⟨(ad.add (i * 5)).block, (ad.add (i * 5)).off + 3, none⟩ = some (.slice A3 (l.getD i zArm).2.1.f2.length c3) ∧
      W.cell? ⟨(ad.add (i * 5)).block, (ad.add (i * 5)).off + 4, none⟩ = some (.slice A4 (l.getD i zArm).2.2.length c4) ∧
      ((l.getD i zArm).2.1.f2.length ≤ c3 ∧ Kd.F k43 W ok A3 (l.getD i zArm).2.1.f2.length (l.getD i zArm).2.1.f2) ∧ (l.getD i zArm).2.2.length ≤ c4 ∧ Kd.F kOp W ok A4 (l.getD i zArm).2.2.length (l.getD i zArm).2.2 := by
  obtain ⟨ad, c, rfl, _, hK, hcc, _⟩ := Kd.F_get h zArm (i : Int) (by omega) (by omega)
  rw [Int.toNat_natCast] at hK hcc
  obtain ⟨A3, c3, A4, c4, rfl, l3, g3, l4, g4⟩ := kArm_openF hK
  have h0 := hcc 0 _ rfl
  have h1 := hcc 1 _ rfl
  have h2 := hcc 2 _ rfl
  have h3 := hcc 3 _ rfl
  have h4 := hcc 4 _ rfl
  rw [add_field _ _ 1 (by omega)] at h1
  rw [add_field _ _ 2 (by omega)] at h2
  rw [add_field _ _ 3 (by omega)] at h3
  rw [add_field _ _ 4 (by omega)] at h4
  exact ⟨ad, A3, c3, A4, c4, rfl, h0, h1, h2, h3, h4, ⟨l3, g3⟩, l4, g4⟩
theorem drop_getD {α : Type} (l : List α) (z : α) (i : Nat) (hi : i < l.length) : l.drop i = l.getD i z :: l.drop (i + 1) := by
  rw [List.drop_eq_getElem_cons hi]
  simp [List.getD_eq_getElem?_getD, List.getElem?_eq_getElem hi]
set_option maxHeartbeats 8000000 in
set_option maxRecDepth 1000000 in
theorem plan_Count.walk (g : List POp → Option Int) (hg : CntOK g) (l : List POp) (A : Option Addr) (c : Nat) (ok : Nat → Prop) (r : Int) (w : World) (h : cntOps g l (l.length : Int) = some r) (hc : l.length ≤ c) (hF : Kd.F kOp w ok A l.length l) :
    Calls Try.prog 22 #[.slice A l.length c] w fun en w' => en = .returned (.int .i64 r) ∧ Below w.heap.size w w' := by
  have H0 : Aside0 (cntOps g (l.drop 0) (l.length : Int) = some r) := ⟨h⟩
  have HF := Aside0.mk hF
  have hmx := Kd.F_max hF
  clear h hF
  go_enter Try.func22, Try.ntmps22
  go_wp2
  go_loopg [3, 12] (l.length) (fun kq v3 v12 W => ∃ (i : Nat) (acc : Int), v3 = .int .i64 acc ∧ v12 = .int .i64 (i : Int) ∧ kq = l.length - i ∧ i ≤ l.length ∧ Aside0 (cntOps g (l.drop i) acc = some r) ∧ Aside0 (Below w.heap.size w W))
  case atStart => exact ⟨0, _, rfl, rfl, rfl, Nat.zero_le _, H0, ⟨Below.refl _ _⟩⟩
  case round =>
    clear H0
    obtain ⟨i, acc, rfl, rfl, rfl, hil, HA, HB⟩ := hrel
    by_cases hi : i < l.length
    · have hb := decide_eq_true (show (i : Int) < (l.length : Int) by omega)
      have hlt : ((i : Int) < (l.length : Int)) = True := eq_true (by omega)
      have h0 : ((0 : Int) ≤ (i : Int)) = True := eq_true (by omega)
      have hib : (i : Int) < 9223372036854775807 := by omega
      obtain ⟨ad, A2, c2, A3, c3, rfl, e0, e1, e2, e3, -, hl3, hF3⟩ := op_read (Kd.F_below HF.out HB.out) i hi
      have hA := HA.out
      rw [drop_getD l zOp i hi, cntOps] at hA
      obtain ⟨o, ho⟩ : ∃ o, l.getD i zOp = o := ⟨_, rfl⟩
      rw [ho] at e0 e1 e2 e3 hl3 hF3 hA
      have HI : Aside0 ((cntArms g (o.arms.drop 0) acc).bind (fun a => cntOps g (l.drop (i + 1)) a) = some r) := ⟨hA⟩
      have HF3 := Aside0.mk hF3
      have hmx3 := Kd.F_max hF3
      clear HA hA ho hF3
      obtain ⟨wo, rfl⟩ : ∃ wo : World, wo = wr := ⟨_, rfl⟩
      go_wp2
      have HB2 := Aside0.mk (below_alloc HB.out (.cells #[.int .i64 o.k, .int .i64 o.at_, .slice A2 o.ws.length c2, .slice A3 o.arms.length c3] 47))
      have HBs : Aside0 (Below wo.heap.size wo (wo.alloc (.cells #[.int .i64 o.k, .int .i64 o.at_, .slice A2 o.ws.length c2, .slice A3 o.arms.length c3] 47))) := ⟨below_alloc (Below.refl _ _) _⟩
      clear HB2 e0 e1 e2 e3
      generalize wo.alloc (.cells #[.int .i64 o.k, .int .i64 o.at_, .slice A2 o.ws.length c2, .slice A3 o.arms.length c3] 47) = wi at HBs ⊢
      go_loopg [3, 19] (o.arms.length) (fun kq v3 v19 W => ∃ (j : Nat) (acc : Int), v3 = .int .i64 acc ∧ v19 = .int .i64 (j : Int) ∧ kq = o.arms.length - j ∧ j ≤ o.arms.length ∧ Aside0 ((cntArms g (o.arms.drop j) acc).bind (fun a => cntOps g (l.drop (i + 1)) a) = some r) ∧ Aside0 (Below wo.heap.size wo W))
      case atStart => exact ⟨0, _, rfl, rfl, rfl, Nat.zero_le _, HI, HBs⟩
      case round =>
        clear HI HBs
        obtain ⟨j, acc2, rfl, rfl, rfl, hjl, HA, HBi⟩ := hrel
        by_cases hj : j < o.arms.length
        · have hbj := decide_eq_true (show (j : Int) < (o.arms.length : Int) by omega)
          have hltj : ((j : Int) < (o.arms.length : Int)) = True := eq_true (by omega)
          have h0j : ((0 : Int) ≤ (j : Int)) = True := eq_true (by omega)
          have hjb : (j : Int) < 9223372036854775807 := by omega
          obtain ⟨ad2, A5, c5, A4, c4, rfl, f0, f1, f2, f3, f4, -, hl4, hF4⟩ := arm_read (Kd.F_below HF3.out HBi.out) j hj
          have hA := HA.out
          rw [drop_getD o.arms zArm j hj, cntArms] at hA
          obtain ⟨a, ha⟩ : ∃ a, o.arms.getD j zArm = a := ⟨_, rfl⟩
          rw [ha] at f0 f1 f2 f3 f4 hl4 hF4 hA
          rw [Option.bind_assoc] at hA
          obtain ⟨cv, hcv, hA⟩ := Option.bind_eq_some_iff.1 hA
          have HA2 := Aside0.mk hA
          have HC4 := Aside0.mk (And.intro hcv (And.intro hl4 hF4))
          clear HA hA ha hcv hl4 hF4
          go_wp2_with (go_at_call 22; refine (hg a.2.2 A4 c4 ok cv _ HC4.out.1 HC4.out.2.1 (Kd.F_alloc HC4.out.2.2 _)).mono ?_; rintro en w3 ⟨rfl, hB3⟩; have HN := Aside0.mk (below_step (below_alloc HBi.out _) hB3); clear hB3)
          go_roundg (o.arms.length - (j + 1))
          case measure => omega
          case rel => exact ⟨j + 1, _, rfl, by simp, rfl, by omega, HA2, HN⟩
        · have hbj := decide_eq_false (show ¬ (j : Int) < (o.arms.length : Int) by omega)
          obtain rfl : j = o.arms.length := by omega
          have hA := HA.out
          rw [List.drop_length, cntArms, Option.bind_some] at hA
          have HA2 := Aside0.mk hA
          clear HA hA
          go_wp2
          go_roundg (l.length - (i + 1))
          case measure => omega
          case rel => exact ⟨i + 1, _, rfl, by simp, rfl, by omega, HA2, ⟨below_step HB.out HBi.out⟩⟩
    · have hb := decide_eq_false (show ¬ (i : Int) < (l.length : Int) by omega)
      obtain rfl : i = l.length := by omega
      have hA := HA.out
      rw [List.drop_length] at hA
      obtain rfl := Option.some.inj hA
      clear hA HA
      go_wp2
      go_ret
      exact ⟨rfl, HB.out⟩
theorem plan_Count.ok : ∀ n, CntOK (plan_Count.f n)
  | 0 => fun l A c ok r w h => by cases h
  | n + 1 => fun l A c ok r w h hc hF => plan_Count.walk (plan_Count.f n) (plan_Count.ok n) l A c ok r w h hc hF
theorem CntOK.calls {g : List POp → Option Int} (h : CntOK g) (l : List POp) (A : Option Addr) (c : Nat) (ok : Nat → Prop) (r : Int) (w : World) (he : g l = some r) (hc : l.length ≤ c) (hF : Kd.F kOp w ok A l.length l) :
  Calls Try.prog 22 #[.slice A l.length c] w fun en w' => en = .returned (.int .i64 r) ∧ Below w.heap.size w w' := h l A c ok r w he hc hF
end Go.Proofs.Ytofhcjdadhpjdaa.Q
