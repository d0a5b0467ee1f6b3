/- plan.parse, by hand. -/
import Derived.Test.YtofhcjdadhpjdaaEMut
namespace Go.Proofs.Ytofhcjdadhpjdaa.Q
set_option linter.unusedSimpArgs false
set_option linter.unusedVariables false
open Go.RowKit Go.Proofs.YtofhcjdadhpjdaaW.PrintWords Go.Proofs.YtofhcjdadhpjdaaW.PrintLast Go.Proofs.YtofhcjdadhpjdaaW.PrintMore

def plan_parse.f (s : ByteArray) (b : Int) : Option (List SCm × Int × Int) :=
  (tcl_Parse.f s).bind fun r => if r.2.2 = 0 then some (r.1.map (mvC b), 0, 0) else some ([], wrap64 (b + r.2.1), r.2.2)

theorem wrong_set {W : World} {g : Nat} {a0 b0 : Int} (h : W.heap[g]? = some (.cells #[.int .i64 a0, .int .i64 b0] 90 (0, 0))) (x y : Int) :
    ((W.setCell ⟨g, 0, none⟩ (.int .i64 x)).setCell ⟨g, 1, none⟩ (.int .i64 y)).heap[g]? = some (.cells #[.int .i64 x, .int .i64 y] 90 (0, 0)) :=
  blk_put (cs := #[.int .i64 x, .int .i64 b0]) (blk_put (cs := #[.int .i64 a0, .int .i64 b0]) h 0 _ rfl) 1 _ rfl
structure OInv (w w' : World) (v : Value) (xs : List SCm) : Prop where
  st : Kd.S kCm 38 w' (w.heap.size + 1) (fun _ => True) v xs
  hB : Below w.heap.size w w'
  bx : w'.heap[w.heap.size]? = some (.cells #[.int .i64 0, .int .i64 0] 90 (0, 0))
section
variable {w w1 : World} {v : Value} {g n cap : Nat} {xs : List SCm}
theorem OInv.drewN (h : OInv w w1 v xs) (m : Nat) : OInv w (w1.drewN m) v xs := ⟨Kd.S_drewN h.st m, pw_below_drewN h.hB m, blk_drewN h.bx m⟩
theorem OInv.came (hS : Kd.S kCm 38 w1 (w.alloc (.cells #[.int .i64 0, .int .i64 0] 90)).heap.size (fun _ => True) v xs)
    (hB : Below (w.alloc (.cells #[.int .i64 0, .int .i64 0] 90)).heap.size (w.alloc (.cells #[.int .i64 0, .int .i64 0] 90)) w1) : OInv w w1 v xs := by
  have hs : (w.alloc (.cells #[.int .i64 0, .int .i64 0] 90)).heap.size = w.heap.size + 1 := World.size_alloc _ _
  refine ⟨by rw [← hs]; exact hS, below_weaken (below_alloc (Below.refl _ _) _) (by omega) hB, ?_⟩
  rw [hB.block _ (by omega)]
  exact blk_new w _
theorem OInv.head {A : Option Addr} (h : OInv w w1 (.slice A n cap) xs) (hn : 0 < xs.length) : ∃ g, A = some ⟨g, 0, none⟩ := by
  obtain ⟨ad, hA, _⟩ := (Kd.R_reads' (Kd.S_R h.st)).2.2.2.2 hn
  subst hA
  obtain ⟨g, rfl⟩ := Kd.R_head (Kd.S_R h.st)
  exact ⟨g, rfl⟩
theorem OInv.max (h : OInv w w1 v xs) : xs.length ≤ 9223372036854775807 := by
  obtain ⟨A, c, rfl⟩ := Kd.S_slice h.st
  exact (Kd.R_reads' (Kd.S_R h.st)).2.2.2.1
theorem OInv.at_ (h : OInv w w1 (.slice (some ⟨g, 0, none⟩) n cap) xs) : w.heap.size + 1 ≤ g := (Kd.S_R h.st).elim (fun _ ho => own_base ho.choose_spec.1 g rfl)
theorem OInv.put (h : OInv w w1 (.slice (some ⟨g, 0, none⟩) n cap) xs) (i : Nat) (hi : i < n) (u : Int) : OInv w (w1.setCell ⟨g, i * 2, none⟩ (.int .i64 u)) (.slice (some ⟨g, 0, none⟩) n cap) (xs.set i ⟨u, (xs.getD i zCm).f1⟩) :=
  ⟨(cm_put h.st i hi u).1, below_set h.hB (by have := h.at_; show w.heap.size ≤ g; omega), blk_far h.bx (by have := h.at_; show w.heap.size ≠ g; omega) _⟩
end
section
variable {w w1 : World} {g n cap i k : Nat} {l : List SCm} {x : SCm} {b : Int}
theorem getD_set {α : Type} (l : List α) (i : Nat) (x z : α) (h : i < l.length) : (l.set i x).getD i z = x := by
  rw [List.getD_eq_getElem?_getD, List.getElem?_set_self h]; rfl
theorem OInv.first (h : OInv w w1 (.slice (some ⟨g, 0, none⟩) l.length cap) (upf (mvC b) l i)) (hx : l.getD i zCm = x) (hi : i < l.length) :
    OInv w (w1.setCell ⟨g, i * 2, none⟩ (.int .i64 (wrap64 (x.f0 + b)))) (.slice (some ⟨g, 0, none⟩) l.length cap) ((upf (mvC b) l i).set i ⟨wrap64 (x.f0 + b), x.f1⟩) := by
  have := h.put i hi (wrap64 (x.f0 + b))
  rw [upf_get _ _ _ _ hi, hx] at this
  exact this
theorem OInv.word (h : OInv w w1 (.slice (some ⟨g, 0, none⟩) l.length cap) ((upf (mvC b) l i).set i ⟨wrap64 (x.f0 + b), upf (mvW b) x.f1 k⟩)) (hi : i < l.length) (hk : k < x.f1.length) :
    ∃ g1 c, x.f1.length ≤ 9223372036854775807 ∧ w1.cell? ⟨g, i * 2 + 1, none⟩ = some (.slice (some ⟨g1, 0, none⟩) x.f1.length c) ∧ w1.cell? ⟨g1, k * 3, none⟩ = some (.int .i64 (x.f1.getD k zWd).f0) ∧ w1.frozen? ⟨g1, k * 3, none⟩ = false ∧
      OInv w (w1.setCell ⟨g1, k * 3, none⟩ (.int .i64 (wrap64 ((x.f1.getD k zWd).f0 + b)))) (.slice (some ⟨g, 0, none⟩) l.length cap) ((upf (mvC b) l i).set i ⟨wrap64 (x.f0 + b), upf (mvW b) x.f1 (k + 1)⟩) := by
  obtain ⟨A, c, _, hv, _⟩ := cm_at h.st i hi
  rw [getD_set _ _ _ _ (by rw [upf_length]; exact hi)] at hv
  dsimp only at hv
  rw [upf_length] at hv
  obtain ⟨g1, rfl, hmx, hne, hb, _, hc, hf, hn⟩ := cw_at h.st i hi hv k hk
  rw [getD_set _ _ _ _ (by rw [upf_length]; exact hi)] at hc hn
  dsimp only at hc hn
  rw [upf_get _ _ _ _ hk] at hc hn
  refine ⟨g1, c, hmx, hv, hc, hf 0, ?_, below_set h.hB (show w.heap.size ≤ g1 by omega), blk_far h.bx (show w.heap.size ≠ g1 by omega) _⟩
  have := hn (wrap64 ((x.f1.getD k zWd).f0 + b))
  rw [List.set_set] at this
  rw [← upf_set (mvW b) x.f1 k zWd hk]
  exact this
theorem OInv.last (h : OInv w w1 (.slice (some ⟨g, 0, none⟩) l.length cap) ((upf (mvC b) l i).set i ⟨wrap64 (x.f0 + b), x.f1.map (mvW b)⟩)) (hx : l.getD i zCm = x) (hi : i < l.length) :
    OInv w w1 (.slice (some ⟨g, 0, none⟩) l.length cap) (upf (mvC b) l (i + 1)) := by
  rw [← upf_set (mvC b) l i zCm hi, hx]
  exact h
end
set_option maxHeartbeats 4000000 in
set_option maxRecDepth 1000000 in
theorem plan_parse.walk (s : ByteArray) (b : Int) (l : List SCm) (a e : Int) (w : World) (h : tcl_Parse.f s = some (l, a, e)) :
    Calls Try.prog 68 #[.string s, .int .i64 b] w fun en w' => ∃ v_ : Value, en = .returned (.tuple #[v_, .agg #[.int .i64 (if e = 0 then 0 else wrap64 (b + a)), .int .i64 e]]) ∧ Kd.S kCm 38 w' w.heap.size (fun _ => True) v_ (if e = 0 then l.map (mvC b) else []) ∧ Below w.heap.size w w' := by
  have HC := Aside0.mk h
  clear h
  by_cases he : e = 0
  · have heb : (e != 0) = false := by simp [he]
    go_enter Try.func68, Try.ntmps68
    go_wp2_with ((go_at_call 29; refine (tcl_Parse.calls s l a e _ HC.out).mono ?_; rintro en w1 ⟨v, rfl, hS, hB⟩; have HP := Aside0.mk (OInv.came hS hB); clear hS hB; have c0 : w1.cell? ⟨w.heap.size, 0, none⟩ = some (.int .i64 0) := blk_cell HP.out.bx 0; have c1 : w1.cell? ⟨w.heap.size, 1, none⟩ = some (.int .i64 0) := blk_cell HP.out.bx 1; have f0 := blk_frozen HP.out.bx 0; have f1 := blk_frozen HP.out.bx 1; obtain ⟨A, cap, rfl⟩ := Kd.S_slice HP.out.st))
    go_loopg [26] (l.length) (fun kq v26 w' => ∃ i : Nat, v26 = .int .i64 (i : Int) ∧ kq = l.length - i ∧ i ≤ l.length ∧ Aside0 (OInv w w' (.slice A l.length cap) (upf (mvC b) l i)))
    case atStart => exact ⟨0, rfl, rfl, Nat.zero_le _, ⟨by rw [upf_zero]; exact HP.out⟩⟩
    case round =>
      clear HP c0 c1 f0 f1
      obtain ⟨i, rfl, rfl, hil, HP⟩ := hrel
      by_cases hi : i < l.length
      · have hb : decide ((i : Int) < (l.length : Int)) = true := decide_eq_true (by omega)
        have hlt : ((i : Int) < (l.length : Int)) = True := eq_true (by omega)
        have h0 : ((0 : Int) ≤ (i : Int)) = True := eq_true (by omega)
        obtain ⟨g, rfl⟩ := HP.out.head (by rw [upf_length]; omega)
        obtain ⟨A1, cc, c0, c1, fr⟩ := cm_at HP.out.st i hi
        rw [upf_get _ _ _ _ hi] at c0 c1
        have f0 : wr.frozen? ⟨g, i * 2, none⟩ = false := fr 0
        clear fr
        obtain ⟨x, hx⟩ : ∃ x, l.getD i zCm = x := ⟨_, rfl⟩
        rw [hx] at c0 c1
        go_wp2
        have HP1 := Aside0.mk (HP.out.first hx hi)
        clear HP c0 c1 f0
        go_loopg [44] (x.f1.length) (fun kq v44 w' => ∃ k : Nat, v44 = .int .i64 (k : Int) ∧ kq = x.f1.length - k ∧ k ≤ x.f1.length ∧ Aside0 (OInv w w' (.slice (some ⟨g, 0, none⟩) l.length cap) ((upf (mvC b) l i).set i ⟨wrap64 (x.f0 + b), upf (mvW b) x.f1 k⟩)))
        case atStart => exact ⟨0, rfl, rfl, Nat.zero_le _, ⟨by rw [upf_zero]; exact HP1.out⟩⟩
        case round =>
          clear HP1
          obtain ⟨k, rfl, rfl, hkl, HP⟩ := hrel
          by_cases hk : k < x.f1.length
          · have hkb : decide ((k : Int) < (x.f1.length : Int)) = true := decide_eq_true (by omega)
            have hkt : ((k : Int) < (x.f1.length : Int)) = True := eq_true (by omega)
            have k0 : ((0 : Int) ≤ (k : Int)) = True := eq_true (by omega)
            obtain ⟨g1, cc2, hmx, d1, d2, fd, HN⟩ := HP.out.word hi hk
            have HN' := Aside0.mk HN
            clear HN
            obtain ⟨y, hy⟩ : ∃ y, (x.f1.getD k zWd).f0 = y := ⟨_, rfl⟩
            rw [hy] at d2 HN'
            go_wp2
            go_roundg (x.f1.length - (k + 1))
            case measure => omega
            case rel => exact ⟨k + 1, by simp, rfl, by omega, HN'⟩
          · have hkb : decide ((k : Int) < (x.f1.length : Int)) = false := decide_eq_false (by omega)
            obtain rfl : k = x.f1.length := by omega
            rw [upf_all] at HP
            have HN' := Aside0.mk (HP.out.last hx hi)
            clear HP
            have hml := HN'.out.max
            rw [upf_length] at hml
            go_wp2
            go_roundg (l.length - (i + 1))
            case measure => omega
            case rel => exact ⟨i + 1, by simp, rfl, by omega, HN'⟩
      · have hb : decide ((i : Int) < (l.length : Int)) = false := decide_eq_false (by omega)
        obtain rfl : i = l.length := by omega
        rw [upf_all] at HP
        have c0 := blk_cell HP.out.bx 0
        have c1 := blk_cell HP.out.bx 1
        have f0 := blk_frozen HP.out.bx 0
        have f1 := blk_frozen HP.out.bx 1
        go_wp2
        refine bodyPost_ret (results_tc rfl _ _ w.heap.size 90 #[.int .i64 0, .int .i64 0] (0, 0) _ rfl (wrong_set HP.out.bx _ _) Try.underlying90 rfl (by kernel_rfl)) rfl ?_
        exact ⟨_, rfl, Kd.S_far (p := ⟨w.heap.size, 1, none⟩) (Kd.S_far (p := ⟨w.heap.size, 0, none⟩) (Kd.S_mono (Kd.S_lower (Kd.S_bound HP.out.st) (by omega)) (fun k hk => (by have := hk.2.1; omega : k ≠ w.heap.size))) (fun _ hk => hk) _) (fun _ hk => hk) _ |> fun h => Kd.S_mono h (fun _ _ => trivial), below_set (below_set HP.out.hB (Nat.le_refl _)) (Nat.le_refl _)⟩
  · have heb : (e != 0) = true := by simp [he]
    go_enter Try.func68, Try.ntmps68
    go_wp2_with ((go_at_call 29; refine (tcl_Parse.calls s l a e _ HC.out).mono ?_; rintro en w1 ⟨v, rfl, hS, hB⟩; have HP := Aside0.mk (OInv.came hS hB); clear hS hB; have c0 : w1.cell? ⟨w.heap.size, 0, none⟩ = some (.int .i64 0) := blk_cell HP.out.bx 0; have c1 : w1.cell? ⟨w.heap.size, 1, none⟩ = some (.int .i64 0) := blk_cell HP.out.bx 1; have f0 := blk_frozen HP.out.bx 0; have f1 := blk_frozen HP.out.bx 1; obtain ⟨A, cap, rfl⟩ := Kd.S_slice HP.out.st))
    refine bodyPost_ret (results_tc rfl _ _ w.heap.size 90 #[.int .i64 (wrap64 (b + a)), .int .i64 e] (0, 0) _ rfl (wrong_set HP.out.bx _ _) Try.underlying90 rfl (by kernel_rfl)) rfl ?_
    exact ⟨_, by first | rfl | simp [he], by first | exact Kd.S_nil _ _ _ _ _ | (rw [if_neg he]; exact Kd.S_nil _ _ _ _ _), below_set (below_set HP.out.hB (Nat.le_refl _)) (Nat.le_refl _)⟩
theorem plan_parse.calls (s : ByteArray) (b : Int) (r1 : List SCm) (r2 r3 : Int) (w : World) (h : plan_parse.f s b = some (r1, r2, r3)) :
    Calls Try.prog 68 #[.string s, .int .i64 b] w fun en w' => ∃ v_ : Value, en = .returned (.tuple #[v_, .agg #[.int .i64 r2, .int .i64 r3]]) ∧ Kd.S kCm 38 w' w.heap.size (fun _ => True) v_ r1 ∧ Below w.heap.size w w' := by
  unfold plan_parse.f at h
  obtain ⟨⟨l, a, e⟩, hc, h⟩ := Option.bind_eq_some_iff.1 h
  dsimp only at h
  have := plan_parse.walk s b l a e w hc
  by_cases he : e = 0
  · rw [if_pos he] at h
    simp only [Option.some.injEq, Prod.mk.injEq] at h
    obtain ⟨rfl, rfl, rfl⟩ := h
    rw [if_pos he, if_pos he, he] at this
    exact this
  · rw [if_neg he] at h
    simp only [Option.some.injEq, Prod.mk.injEq] at h
    obtain ⟨rfl, rfl, rfl⟩ := h
    rw [if_neg he, if_neg he] at this
    exact this
end Go.Proofs.Ytofhcjdadhpjdaa.Q
