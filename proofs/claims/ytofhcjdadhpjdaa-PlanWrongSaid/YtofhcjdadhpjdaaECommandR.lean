/- plan.command, by hand, over any script function: an expect with a braced list. -/
import Derived.Test.YtofhcjdadhpjdaaECmd0
import Derived.Test.YtofhcjdadhpjdaaPEq
namespace Go.Proofs.Ytofhcjdadhpjdaa.Q
set_option linter.unusedSimpArgs false
set_option linter.unusedVariables false
open Go.RowKit Go.Proofs.YtofhcjdadhpjdaaW.PrintWords Go.Proofs.YtofhcjdadhpjdaaW.PrintLast Go.Proofs.YtofhcjdadhpjdaaW.PrintMore

theorem tcl_wordsP {s : ByteArray} {b : Int} {l : List SCm} {a e : Int} (h : plan_parse.f s b = some (l, a, e)) : (l.flatMap (·.f1)).length ≤ 16777216 ∧ l.length ≤ 16777216 := by
  unfold plan_parse.f at h
  obtain ⟨⟨l1, a1, e1⟩, hc, h⟩ := Option.bind_eq_some_iff.1 h
  dsimp only at h
  have hw := tcl_words hc
  split at h
  · simp only [Option.some.injEq, Prod.mk.injEq] at h
    obtain ⟨rfl, -, -⟩ := h
    have he : (l1.map (mvC b)).flatMap (·.f1) = (l1.flatMap (·.f1)).map (mvW b) := by
      clear hw hc h
      induction l1 with
      | nil => rfl
      | cons c l1 ih => rw [List.map_cons, List.flatMap_cons, ih, List.flatMap_cons, List.map_append]; rfl
    rw [he, List.length_map, List.length_map]
    exact hw
  · simp only [Option.some.injEq, Prod.mk.injEq] at h
    obtain ⟨rfl, -, -⟩ := h
    exact ⟨by simp, by simp⟩
set_option maxHeartbeats 8000000 in
set_option maxRecDepth 1000000 in
theorem plan_command.walkR (scr : ScrF) (hscr : ScrOK scr) (ca : Int) (w0 : SWd) (args : List SWd) (lo hi : Int) (body : Bool) (A : Option Addr) (cc : Nat) (ok0 : Nat → Prop) (r : POp × Int × Int) (w : World) (hlc : (w0 :: args).length ≤ cc) (hF : Kd.F kWd w ok0 A (w0 :: args).length (w0 :: args))
    (h2 : (oneP w0).2 = true) (h3 : formI (oneP w0).1 = some (3, lo, hi)) (h4 : lo ≤ (args.length : Int)) (h5 : (args.length : Int) ≤ hi) (b : SWd) (hab : args = [b]) (hb2 : b.f1 = 2)
    (h : ((argsP args).bind fun r => if r.2.2 = 0 then expR scr ca r.1 else some (zOp, r.2.1, r.2.2)) = some r) :
    Calls Try.prog 69 #[.agg #[.int .i64 ca, .slice A (w0 :: args).length cc], .bool body] w (CPost2 w ok0 r) := by
  have HAB := Aside0.mk (And.intro hab hb2)
  clear hab hb2
  obtain ⟨ad, A1, c1, rfl, e0, e1, e2, hl1, hF1, hin⟩ := wd_first hF
  have hin2 := Kd.F_bound hF
  have HF := Aside0.mk hF
  obtain ⟨nm, ok, hone⟩ : ∃ nm ok, oneP w0 = (nm, ok) := ⟨_, _, rfl⟩
  have HO : Aside0 (plan_one.f w0.f0 w0.f1 w0.f2 = some (nm, ok)) := ⟨by rw [one_is, hone]⟩
  obtain ⟨hnm, hokk⟩ : nm = (oneP w0).1 ∧ ok = (oneP w0).2 := by rw [hone]; exact ⟨rfl, rfl⟩
  obtain rfl : true = ok := by rw [hokk]; exact h2.symm
  have hfm : formI nm = some (3, lo, hi) := by rw [hnm]; exact h3
  have H' := Aside0.mk h
  clear hone h hnm hokk h2 h3
  clear hF
  obtain ⟨o, hf, hv, hs⟩ := form_look nm
  have hz : ∀ W : World, (zeroValue 161).run Try.prog W = .ok (.agg #[.int .i64 0, .int .i64 0, .int .i64 0]) W := fun W => by kernel_rfl
  have hlk : ∀ (W : World) (r : Nat), W.heap[r]? = some (.map formEs 9) → (Instr.lookup 163 (.map (some r)) (.string nm) true).run Try.prog W = .ok (.tuple #[.agg #[.int .i64 ((formI nm).getD (0, 0, 0)).1, .int .i64 ((formI nm).getD (0, 0, 0)).2.1, .int .i64 ((formI nm).getD (0, 0, 0)).2.2], .bool (formI nm).isSome]) W := by
    intro W r hb
    have := run_look (mty := 163) Try.underlying163 Try.underlying9 hb nm (hz W) hf
    rw [hv, hs] at this
    exact this
  clear hf hv hs hz o
  rw [hfm] at hlk
  dsimp only [Option.getD_some, Option.isSome_some] at hlk
  clear hfm
  have hpos : ((0 : Int) < ((args.length : Int) + 1)) = True := eq_true (by omega)
  go_enter Try.func69, Try.ntmps69
  have hadl := World.block_lt_of_cell? _ _ e0
  go_upto_region 1 with (fail)
  have HC := Aside0.mk (CB.made (Below.refl (((w.alloc (.cells #[.int .i64 ca, .slice (some ad) (args.length + 1) cc] 38)).alloc (.cells #[.int .i64 0, .int .i64 0, .slice none 0 0, .slice none 0 0] 47)).alloc (.cells #[.int .i64 0, .int .i64 0] 90)).heap.size _))
  generalize (((w.alloc (.cells #[.int .i64 ca, .slice (some ad) (args.length + 1) cc] 38)).alloc (.cells #[.int .i64 0, .int .i64 0, .slice none 0 0, .slice none 0 0] 47)).alloc (.cells #[.int .i64 0, .int .i64 0] 90)) = wx at HC ⊢
  have n0 := (cell_below HC.out.hB (a := ad) hadl).trans e0
  have n1 := (cell_below HC.out.hB (a := ⟨ad.block, ad.off + 1, none⟩) hadl).trans e1
  have n2 := (cell_below HC.out.hB (a := ⟨ad.block, ad.off + 2, none⟩) hadl).trans e2
  have b20 := (blk_cell HC.out.b2 0).trans rfl
  have b21 := (blk_cell HC.out.b2 1).trans rfl
  go_upto_if 34 with (first | (go_at_call 87; refine (plan_one.calls w0.f0 w0.f1 A1 c1 w0.f2 nm _ _ (Kd.F_now (Kd.F_below hF1 HC.out.hB)) hl1 HO.out).mono ?_; rintro en w1 ⟨rfl, hB⟩; have HC1 := Aside0.mk (HC.out.below hB); clear hB HC b20 b21 n0 n1 n2; have b20 := (blk_cell HC1.out.b2 0).trans rfl; have b21 := (blk_cell HC1.out.b2 1).trans rfl) | (go_at_call 88; refine (plan_forms.calls _).mono ?_; rintro en w2 ⟨rfl, rfl⟩; have hl := hlk _ _ (blk_new w1 _); have HC2 := Aside0.mk (HC1.out.below (below_alloc (Below.refl _ _) (.map formEs 9))); generalize hmm : w1.heap.size = mm at hl ⊢; generalize w1.alloc (.map formEs 9) = w2 at hl HC2 ⊢; clear b20 b21 hmm; have b20 := (blk_cell HC2.out.b2 0).trans rfl; have b21 := (blk_cell HC2.out.b2 1).trans rfl; have hz2 := blk_lt HC2.out.b2))
  have HC := Aside0.mk (CF.made HC2.out #[.int .i64 3, .int .i64 lo, .int .i64 hi])
  have hVA := wd_rest (Kd.F_bound HF.out) hlc
  generalize (if cc = 1 then some ad else some ⟨ad.block, ad.off + 3, none⟩) = A5 at hVA ⊢
  clear HC2 b20 b21 hl HO hlk hz2 hl1 hF1 hin2 e1 e2 HC1
  generalize w2.alloc (.cells #[.int .i64 3, .int .i64 lo, .int .i64 hi] 161) = w3 at HC ⊢
  generalize w2.heap.size = g8 at HC ⊢
  have n0 := (cell_below HC.out.cb.hB (a := ad) hadl).trans e0
  clear e0
  have b20 := (blk_cell HC.out.cb.b2 0).trans rfl
  have b21 := (blk_cell HC.out.cb.b2 1).trans rfl
  have b40 := (blk_cell HC.out.cb.b4 0).trans rfl
  have b41 := (blk_cell HC.out.cb.b4 1).trans rfl
  have b42 := (blk_cell HC.out.cb.b4 2).trans rfl
  have b43 := (blk_cell HC.out.cb.b4 3).trans rfl
  have z40 := blk_frozen HC.out.cb.b4 0
  have z41 := blk_frozen HC.out.cb.b4 1
  have z42 := blk_frozen HC.out.cb.b4 2
  have z43 := blk_frozen HC.out.cb.b4 3
  have b50 := (blk_cell HC.out.cb.b5 0).trans rfl
  have b51 := (blk_cell HC.out.cb.b5 1).trans rfl
  have z50 := blk_frozen HC.out.cb.b5 0
  have z51 := blk_frozen HC.out.cb.b5 1
  have b80 := (blk_cell HC.out.b8 0).trans rfl
  have b81 := (blk_cell HC.out.b8 1).trans rfl
  have b82 := (blk_cell HC.out.b8 2).trans rfl
  have h1b : decide ((args.length : Int) < lo) = false := decide_eq_false (Int.not_lt.2 h4)
  have h2b : decide (hi < (args.length : Int)) = false := decide_eq_false (Int.not_lt.2 h5)
  clear h4 h5
  obtain ⟨-, hlA, hFA⟩ := Kd.V_at hVA
  obtain ⟨hab, hb2⟩ := HAB.out
  clear HAB
  have H := H'.out
  clear H'
  rw [hab] at H
  unfold argsP at H
  dsimp only at H
  rw [if_pos hb2, Option.bind_assoc] at H
  obtain ⟨t15, hop, H⟩ := Option.bind_eq_some_iff.1 H
  rw [Option.bind_assoc] at H
  obtain ⟨⟨lr, r2', r3'⟩, hsc, H⟩ := Option.bind_eq_some_iff.1 H
  dsimp only at H
  have HOP : Aside0 (plan_open.f (b.f2.length + 1) b.f0 b.f1 b.f2 = some t15) := ⟨hop⟩
  have HSC := Aside0.mk hsc
  have hlen : args.length = 1 := by rw [hab]; rfl
  have hlb : ((args.length : Int) == 1) = true := by simp [hlen]
  have hb2b : (b.f1 == 2) = true := beq_iff_eq.2 hb2
  obtain ⟨ad2, A6, c6, rfl, m0, m1, m2, hl6, hF6, hlt6⟩ := wd_first (x := b) (l := []) (by rw [← hab]; exact hFA)
  have hpa : ((0 : Int) < (args.length : Int)) = True := eq_true (by omega)
  have hpn : 0 < args.length := by omega
  have hsz := HC.out.cb.hB.size
  have hlt2 : ad2.block < w3.heap.size := by omega
  clear n0
  have n0 := (cell_below HC.out.cb.hB (a := ad2) (by omega)).trans m0
  have n1 := (cell_below HC.out.cb.hB (a := ⟨ad2.block, ad2.off + 1, none⟩) (show ad2.block < w.heap.size by omega)).trans m1
  have n2 := (cell_below HC.out.cb.hB (a := ⟨ad2.block, ad2.off + 2, none⟩) (show ad2.block < w.heap.size by omega)).trans m2
  have H' := Aside0.mk H
  clear H hab hop hsc hb2 hlen m0 m1 m2 hlA hFA hVA
  obtain ⟨wc, rfl⟩ : ∃ wc, wc = w3 := ⟨_, rfl⟩
  go_upto_region 15 with (fail)
  have hBwx : Below wc.heap.size wc wc.drew := below_drew (Below.refl _ _)
  refine start_ (n := 16) (S := fun w' => w'.cell? ad2 = some (.int .i64 b.f0) ∧ w'.cell? ⟨ad2.block, ad2.off + 1, none⟩ = some (.int .i64 b.f1) ∧ w'.cell? ⟨ad2.block, ad2.off + 2, none⟩ = some (.slice A6 b.f2.length c6)) (ds := [15]) #[false, false, false, false, false, false, false, false, false, false, false, false, false, false, false, false] (by kernel_rfl) rfl rfl ⟨(cell_below hBwx (a := ad2) hlt2).trans n0, (cell_below hBwx (a := ⟨ad2.block, ad2.off + 1, none⟩) hlt2).trans n1, (cell_below hBwx (a := ⟨ad2.block, ad2.off + 2, none⟩) hlt2).trans n2⟩ (fun hHeld => ?_)
  refine pure_ (i := 0) (N := some 102) (v := ?_) (a' := ?_) #[true, false, false, false, false, false, false, false, false, false, false, false, false, false, false, false] rfl rfl (by kernel_rfl) (fun _ _ _ h => h) (Or.inl ⟨by rfl, ?_⟩) ?_ ?_
  rotate_left
  · intro w'
    go_simp
    with_reducible rfl
  rotate_left
  · simp only [Act.put, List.setIfInBounds_toArray, List.set_cons_zero, List.set_cons_succ, i64_w, i32_w]
    rfl
  refine pure_ (i := 1) (N := some 103) (v := ?_) (a' := ?_) #[true, true, false, false, false, false, false, false, false, false, false, false, false, false, false, false] rfl rfl (by kernel_rfl) (fun _ _ _ h => h) (Or.inl ⟨by rfl, ?_⟩) ?_ ?_
  rotate_left
  · intro w'
    go_simp
    with_reducible rfl
  rotate_left
  · simp only [Act.put, List.setIfInBounds_toArray, List.set_cons_zero, List.set_cons_succ, i64_w, i32_w]
    rfl
  refine pure_ (i := 4) (N := some 106) (v := ?_) (a' := ?_) #[true, true, false, false, true, false, false, false, false, false, false, false, false, false, false, false] rfl rfl (by kernel_rfl) (fun _ _ _ h => h) (Or.inl ⟨by rfl, ?_⟩) ?_ ?_
  rotate_left
  · intro w'
    go_simp
    with_reducible rfl
  rotate_left
  · simp only [Act.put, List.setIfInBounds_toArray, List.set_cons_zero, List.set_cons_succ, i64_w, i32_w]
    rfl
  refine pure_ (i := 5) (N := some 107) (v := ?_) (a' := ?_) #[true, true, false, false, true, true, false, false, false, false, false, false, false, false, false, false] rfl rfl (by kernel_rfl) (fun _ _ _ h => h) (Or.inl ⟨by rfl, ?_⟩) ?_ ?_
  rotate_left
  · intro w'
    go_simp
    with_reducible rfl
  rotate_left
  · simp only [Act.put, List.setIfInBounds_toArray, List.set_cons_zero, List.set_cons_succ, i64_w, i32_w]
    rfl
  refine pure_ (i := 6) (N := some 108) (v := ?_) (a' := ?_) #[true, true, false, false, true, true, true, false, false, false, false, false, false, false, false, false] rfl rfl (by kernel_rfl) (fun _ _ _ h => h) (Or.inl ⟨by rfl, ?_⟩) ?_ ?_
  rotate_left
  · intro w'
    go_simp
    with_reducible rfl
  rotate_left
  · simp only [Act.put, List.setIfInBounds_toArray, List.set_cons_zero, List.set_cons_succ, i64_w, i32_w]
    rfl
  refine take_ (i := 2) (N := some 104) (v := ?_) (a' := ?_) #[true, true, true, false, true, true, true, false, false, false, false, false, false, false, false, false] rfl rfl (by kernel_rfl) (fun _ _ _ h => h) (Or.inl ⟨by rfl, ?_⟩) hHeld ?_ ?_
  rotate_left
  · rintro w' ⟨s0, s1, s2⟩
    go_simp
    with_reducible rfl
  rotate_left
  · simp only [Act.put, List.setIfInBounds_toArray, List.set_cons_zero, List.set_cons_succ, i64_w, i32_w]
    rfl
  refine take_ (i := 7) (N := some 109) (v := ?_) (a' := ?_) #[true, true, true, false, true, true, true, true, false, false, false, false, false, false, false, false] rfl rfl (by kernel_rfl) (fun _ _ _ h => h) (Or.inl ⟨by rfl, ?_⟩) hHeld ?_ ?_
  rotate_left
  · rintro w' ⟨s0, s1, s2⟩
    go_simp
    with_reducible rfl
  rotate_left
  · simp only [Act.put, List.setIfInBounds_toArray, List.set_cons_zero, List.set_cons_succ, i64_w, i32_w]
    rfl
  refine pure_ (i := 8) (N := some 110) (v := ?_) (a' := ?_) #[true, true, true, false, true, true, true, true, true, false, false, false, false, false, false, false] rfl rfl (by kernel_rfl) (fun _ _ _ h => h) (Or.inl ⟨by rfl, ?_⟩) ?_ ?_
  rotate_left
  · intro w'
    go_simp
    with_reducible rfl
  rotate_left
  · simp only [Act.put, List.setIfInBounds_toArray, List.set_cons_zero, List.set_cons_succ, i64_w, i32_w]
    rfl
  refine join_ (σ := Value × Nat) 2 #[true, true, true, true, true, true, true, true, true, true, true, true, true, true, false, false] (fun s => [(105, .string t15), (111, .tuple #[s.1, .agg #[.int .i64 r2', .int .i64 r3']]), (12, .pointer (some ⟨s.2, 0, none⟩)), (101, .tuple #[s.1, .agg #[.int .i64 r2', .int .i64 r3']]), (112, s.1), (113, .agg #[.int .i64 r2', .int .i64 r3'])]) (fun s w' => CmF wc w' s.1 s.2 lr) ?_ ?_
  rotate_left
  · intro hCont
    refine two_ (i := 3) (j := 13) (Ni := some 105) (Nj := some 12) #[true, true, true, true, true, true, true, true, true, false, false, false, false, false, false, false] #[true, true, true, false, true, true, true, true, true, false, false, false, false, true, false, false] rfl rfl rfl rfl (by kernel_rfl) (by decide) (by decide) (fun K hK => ?_) (fun K hK => ?_)
    · skip
      refine goes_ Try.func89 (by kernel_rfl) rfl #[.agg #[.int .i64 b.f0, .int .i64 b.f1, .slice A6 b.f2.length c6]] (by rfl) rfl rfl (by simp only [List.map_toArray, List.map_cons, List.map_nil]; rfl) ?_
      with_reducible refine (plan_open.calls (b.f2.length + 1) b.f0 b.f1 A6 c6 b.f2 t15 wc.drew (Kd.F_now (Kd.F_below hF6 (below_step HC.out.cb.hB hBwx))) hl6 HOP.out).mono ?_
      rintro en wa_ ⟨rfl, hbwa_⟩
      refine ⟨_, rfl, ?_⟩
      have hBwa_ := below_step hBwx hbwa_
      refine hK.out _ _ ⟨(cell_below hBwa_ (a := ad2) hlt2).trans n0, (cell_below hBwa_ (a := ⟨ad2.block, ad2.off + 1, none⟩) hlt2).trans n1, (cell_below hBwa_ (a := ⟨ad2.block, ad2.off + 2, none⟩) hlt2).trans n2⟩ (fun hHeld => ?_)
      clear hK K
      refine norm_ (a' := ?_) ?_ ?_
      rotate_left
      · show Act.put _ (some 105) _ = _
        simp only [Act.put, List.setIfInBounds_toArray, List.set_cons_zero, List.set_cons_succ, i64_w, i32_w]
        rfl
      refine two_ (i := 9) (j := 13) (Ni := some 111) (Nj := some 12) #[true, true, true, true, true, true, true, true, true, true, false, false, false, false, false, false] #[true, true, true, true, true, true, true, true, true, false, false, false, false, true, false, false] rfl rfl rfl rfl (by kernel_rfl) (by decide) (by decide) (fun K hK => ?_) (fun K hK => ?_)
      · skip
        refine goes_ Try.func68 (by kernel_rfl) rfl #[.string t15, .int .i64 (wrap64 (b.f0 + 1))] (by rfl) rfl rfl (by simp only [List.map_toArray, List.map_cons, List.map_nil]; rfl) ?_
        with_reducible refine (plan_parse.callsV t15 (wrap64 (b.f0 + 1)) lr r2' r3' wa_ HSC.out).mono ?_
        rintro en wab_ ⟨vb, rfl, hVwab_, hbwab_⟩
        refine ⟨_, rfl, ?_⟩
        have hVwab_ := Kd.V_mono hVwab_ (ok' := fun k => wc.heap.size ≤ k) (fun k hk => by have := hBwa_.size; omega)
        have hBwab_ := below_step hBwa_ hbwab_
        refine hK.out _ _ ⟨(cell_below hBwab_ (a := ad2) hlt2).trans n0, (cell_below hBwab_ (a := ⟨ad2.block, ad2.off + 1, none⟩) hlt2).trans n1, (cell_below hBwab_ (a := ⟨ad2.block, ad2.off + 2, none⟩) hlt2).trans n2⟩ (fun hHeld => ?_)
        clear hK K
        refine norm_ (a' := ?_) ?_ ?_
        rotate_left
        · show Act.put _ (some 111) _ = _
          simp only [Act.put, List.setIfInBounds_toArray, List.set_cons_zero, List.set_cons_succ, i64_w, i32_w]
          rfl
        refine pure_ (i := 10) (N := some 101) (v := ?_) (a' := ?_) #[true, true, true, true, true, true, true, true, true, true, true, false, false, false, false, false] rfl rfl (by kernel_rfl) (fun _ _ _ h => h) (Or.inl ⟨by rfl, ?_⟩) ?_ ?_
        rotate_left
        · intro w'
          go_simp
          with_reducible rfl
        rotate_left
        · simp only [Act.put, List.setIfInBounds_toArray, List.set_cons_zero, List.set_cons_succ, i64_w, i32_w]
          rfl
        refine pure_ (i := 11) (N := some 112) (v := ?_) (a' := ?_) #[true, true, true, true, true, true, true, true, true, true, true, true, false, false, false, false] rfl rfl (by kernel_rfl) (fun _ _ _ h => h) (Or.inl ⟨by rfl, ?_⟩) ?_ ?_
        rotate_left
        · intro w'
          go_simp
          with_reducible rfl
        rotate_left
        · simp only [Act.put, List.setIfInBounds_toArray, List.set_cons_zero, List.set_cons_succ, i64_w, i32_w]
          rfl
        refine pure_ (i := 12) (N := some 113) (v := ?_) (a' := ?_) #[true, true, true, true, true, true, true, true, true, true, true, true, true, false, false, false] rfl rfl (by kernel_rfl) (fun _ _ _ h => h) (Or.inl ⟨by rfl, ?_⟩) ?_ ?_
        rotate_left
        · intro w'
          go_simp
          with_reducible rfl
        rotate_left
        · simp only [Act.put, List.setIfInBounds_toArray, List.set_cons_zero, List.set_cons_succ, i64_w, i32_w]
          rfl
        refine one_ (i := 13) (N := some 12) #[true, true, true, true, true, true, true, true, true, true, true, true, true, true, false, false] rfl rfl (by kernel_rfl) (by decide) (fun K hK => ?_)
        refine value_ (w1 := ?_) (v := ?_) (by rfl) rfl ?_ ?_
        rotate_left 2
        · go_simp
          constructor
          · rfl
          · rfl
        have hBwabc_ := below_alloc hBwab_ (.cells #[.int .i64 0, .int .i64 0] 90)
        have hGwabc_ := blk_new wab_ (.cells #[.int .i64 0, .int .i64 0] 90)
        have hLwabc_ := blk_lt hGwabc_
        obtain ⟨g12, hg10⟩ : ∃ g, wab_.heap.size = g := ⟨_, rfl⟩
        have hge10 : wc.heap.size ≤ g12 := by have := hBwab_.size; omega
        have hVwabc_ := Kd.V_alloc hVwab_ (.cells #[.int .i64 0, .int .i64 0] 90)
        have hVwabc_ := Kd.V_mono (Kd.V_bound hVwab_) (ok' := fun k => wc.heap.size ≤ k ∧ k ≠ g12) (fun k hk => ⟨hk.1, by have := hk.2; omega⟩)
        have hVwabc_ := Kd.V_alloc hVwabc_ (.cells #[.int .i64 0, .int .i64 0] 90)
        rw [hg10] at hGwabc_ hLwabc_ ⊢
        generalize wab_.alloc (.cells #[.int .i64 0, .int .i64 0] 90) = wabc_ at *
        refine hK.out _ _ ⟨(cell_below hBwabc_ (a := ad2) hlt2).trans n0, (cell_below hBwabc_ (a := ⟨ad2.block, ad2.off + 1, none⟩) hlt2).trans n1, (cell_below hBwabc_ (a := ⟨ad2.block, ad2.off + 2, none⟩) hlt2).trans n2⟩ (fun hHeld => ?_)
        clear hK K
        refine norm_ (a' := ?_) ?_ ?_
        rotate_left
        · show Act.put _ (some 12) _ = _
          simp only [Act.put, List.setIfInBounds_toArray, List.set_cons_zero, List.set_cons_succ, i64_w, i32_w]
          rfl
        exact norm_ (by simp only [putAll, Act.put, List.setIfInBounds_toArray, List.set_cons_zero, List.set_cons_succ]) (hCont (vb, g12) _ (CmF.mk hBwabc_ hGwabc_ hge10 hVwabc_))
      · skip
        refine value_ (w1 := ?_) (v := ?_) (by rfl) rfl ?_ ?_
        rotate_left 2
        · go_simp
          constructor
          · rfl
          · rfl
        have hBwac_ := below_alloc hBwa_ (.cells #[.int .i64 0, .int .i64 0] 90)
        have hGwac_ := blk_new wa_ (.cells #[.int .i64 0, .int .i64 0] 90)
        have hLwac_ := blk_lt hGwac_
        obtain ⟨g12, hg10⟩ : ∃ g, wa_.heap.size = g := ⟨_, rfl⟩
        have hge10 : wc.heap.size ≤ g12 := by have := hBwa_.size; omega
        rw [hg10] at hGwac_ hLwac_ ⊢
        generalize wa_.alloc (.cells #[.int .i64 0, .int .i64 0] 90) = wac_ at *
        refine hK.out _ _ ⟨(cell_below hBwac_ (a := ad2) hlt2).trans n0, (cell_below hBwac_ (a := ⟨ad2.block, ad2.off + 1, none⟩) hlt2).trans n1, (cell_below hBwac_ (a := ⟨ad2.block, ad2.off + 2, none⟩) hlt2).trans n2⟩ (fun hHeld => ?_)
        clear hK K
        refine norm_ (a' := ?_) ?_ ?_
        rotate_left
        · show Act.put _ (some 12) _ = _
          simp only [Act.put, List.setIfInBounds_toArray, List.set_cons_zero, List.set_cons_succ, i64_w, i32_w]
          rfl
        refine one_ (i := 9) (N := some 111) #[true, true, true, true, true, true, true, true, true, true, false, false, false, true, false, false] rfl rfl (by kernel_rfl) (by decide) (fun K hK => ?_)
        refine goes_ Try.func68 (by kernel_rfl) rfl #[.string t15, .int .i64 (wrap64 (b.f0 + 1))] (by rfl) rfl rfl (by simp only [List.map_toArray, List.map_cons, List.map_nil]; rfl) ?_
        with_reducible refine (plan_parse.callsV t15 (wrap64 (b.f0 + 1)) lr r2' r3' wac_ HSC.out).mono ?_
        rintro en wacb_ ⟨vb, rfl, hVwacb_, hbwacb_⟩
        refine ⟨_, rfl, ?_⟩
        have hVwacb_ := Kd.V_mono hVwacb_ (ok' := fun k => wc.heap.size ≤ k ∧ k ≠ g12) (fun k hk => by have := hBwac_.size; have := hLwac_; omega)
        have hBwacb_ := below_step hBwac_ hbwacb_
        have hGwacb_ := (hbwacb_.block _ hLwac_).trans hGwac_
        refine hK.out _ _ ⟨(cell_below hBwacb_ (a := ad2) hlt2).trans n0, (cell_below hBwacb_ (a := ⟨ad2.block, ad2.off + 1, none⟩) hlt2).trans n1, (cell_below hBwacb_ (a := ⟨ad2.block, ad2.off + 2, none⟩) hlt2).trans n2⟩ (fun hHeld => ?_)
        clear hK K
        refine norm_ (a' := ?_) ?_ ?_
        rotate_left
        · show Act.put _ (some 111) _ = _
          simp only [Act.put, List.setIfInBounds_toArray, List.set_cons_zero, List.set_cons_succ, i64_w, i32_w]
          rfl
        refine pure_ (i := 10) (N := some 101) (v := ?_) (a' := ?_) #[true, true, true, true, true, true, true, true, true, true, true, false, false, true, false, false] rfl rfl (by kernel_rfl) (fun _ _ _ h => h) (Or.inl ⟨by rfl, ?_⟩) ?_ ?_
        rotate_left
        · intro w'
          go_simp
          with_reducible rfl
        rotate_left
        · simp only [Act.put, List.setIfInBounds_toArray, List.set_cons_zero, List.set_cons_succ, i64_w, i32_w]
          rfl
        refine pure_ (i := 11) (N := some 112) (v := ?_) (a' := ?_) #[true, true, true, true, true, true, true, true, true, true, true, true, false, true, false, false] rfl rfl (by kernel_rfl) (fun _ _ _ h => h) (Or.inl ⟨by rfl, ?_⟩) ?_ ?_
        rotate_left
        · intro w'
          go_simp
          with_reducible rfl
        rotate_left
        · simp only [Act.put, List.setIfInBounds_toArray, List.set_cons_zero, List.set_cons_succ, i64_w, i32_w]
          rfl
        refine pure_ (i := 12) (N := some 113) (v := ?_) (a' := ?_) #[true, true, true, true, true, true, true, true, true, true, true, true, true, true, false, false] rfl rfl (by kernel_rfl) (fun _ _ _ h => h) (Or.inl ⟨by rfl, ?_⟩) ?_ ?_
        rotate_left
        · intro w'
          go_simp
          with_reducible rfl
        rotate_left
        · simp only [Act.put, List.setIfInBounds_toArray, List.set_cons_zero, List.set_cons_succ, i64_w, i32_w]
          rfl
        exact norm_ (by simp only [putAll, Act.put, List.setIfInBounds_toArray, List.set_cons_zero, List.set_cons_succ]) (hCont (vb, g12) _ (CmF.mk hBwacb_ hGwacb_ hge10 hVwacb_))
    · skip
      refine value_ (w1 := ?_) (v := ?_) (by rfl) rfl ?_ ?_
      rotate_left 2
      · go_simp
        constructor
        · rfl
        · rfl
      have hBwc_ := below_drew (below_alloc (Below.refl wc.heap.size wc) (.cells #[.int .i64 0, .int .i64 0] 90))
      have hGwc_ := blk_drew (blk_new wc (.cells #[.int .i64 0, .int .i64 0] 90))
      have hLwc_ := blk_lt hGwc_
      obtain ⟨g12, hg10⟩ : ∃ g, wc.heap.size = g := ⟨_, rfl⟩
      have hge10 : wc.heap.size ≤ g12 := by have := hBwx.size; omega
      rw [hg10] at hGwc_ hLwc_ ⊢
      generalize (wc.alloc (.cells #[.int .i64 0, .int .i64 0] 90)).drew = wc_ at *
      refine hK.out _ _ ⟨(cell_below hBwc_ (a := ad2) hlt2).trans n0, (cell_below hBwc_ (a := ⟨ad2.block, ad2.off + 1, none⟩) hlt2).trans n1, (cell_below hBwc_ (a := ⟨ad2.block, ad2.off + 2, none⟩) hlt2).trans n2⟩ (fun hHeld => ?_)
      clear hK K
      refine norm_ (a' := ?_) ?_ ?_
      rotate_left
      · show Act.put _ (some 12) _ = _
        simp only [Act.put, List.setIfInBounds_toArray, List.set_cons_zero, List.set_cons_succ, i64_w, i32_w]
        rfl
      refine one_ (i := 3) (N := some 105) #[true, true, true, true, true, true, true, true, true, false, false, false, false, true, false, false] rfl rfl (by kernel_rfl) (by decide) (fun K hK => ?_)
      refine goes_ Try.func89 (by kernel_rfl) rfl #[.agg #[.int .i64 b.f0, .int .i64 b.f1, .slice A6 b.f2.length c6]] (by rfl) rfl rfl (by simp only [List.map_toArray, List.map_cons, List.map_nil]; rfl) ?_
      with_reducible refine (plan_open.calls (b.f2.length + 1) b.f0 b.f1 A6 c6 b.f2 t15 wc_ (Kd.F_now (Kd.F_below hF6 (below_step HC.out.cb.hB hBwc_))) hl6 HOP.out).mono ?_
      rintro en wca_ ⟨rfl, hbwca_⟩
      refine ⟨_, rfl, ?_⟩
      have hBwca_ := below_step hBwc_ hbwca_
      have hGwca_ := (hbwca_.block _ hLwc_).trans hGwc_
      have hLwca_ := Nat.lt_of_lt_of_le hLwc_ hbwca_.size
      refine hK.out _ _ ⟨(cell_below hBwca_ (a := ad2) hlt2).trans n0, (cell_below hBwca_ (a := ⟨ad2.block, ad2.off + 1, none⟩) hlt2).trans n1, (cell_below hBwca_ (a := ⟨ad2.block, ad2.off + 2, none⟩) hlt2).trans n2⟩ (fun hHeld => ?_)
      clear hK K
      refine norm_ (a' := ?_) ?_ ?_
      rotate_left
      · show Act.put _ (some 105) _ = _
        simp only [Act.put, List.setIfInBounds_toArray, List.set_cons_zero, List.set_cons_succ, i64_w, i32_w]
        rfl
      refine one_ (i := 9) (N := some 111) #[true, true, true, true, true, true, true, true, true, true, false, false, false, true, false, false] rfl rfl (by kernel_rfl) (by decide) (fun K hK => ?_)
      refine goes_ Try.func68 (by kernel_rfl) rfl #[.string t15, .int .i64 (wrap64 (b.f0 + 1))] (by rfl) rfl rfl (by simp only [List.map_toArray, List.map_cons, List.map_nil]; rfl) ?_
      with_reducible refine (plan_parse.callsV t15 (wrap64 (b.f0 + 1)) lr r2' r3' wca_ HSC.out).mono ?_
      rintro en wcab_ ⟨vb, rfl, hVwcab_, hbwcab_⟩
      refine ⟨_, rfl, ?_⟩
      have hVwcab_ := Kd.V_mono hVwcab_ (ok' := fun k => wc.heap.size ≤ k ∧ k ≠ g12) (fun k hk => by have := hBwca_.size; have := hLwca_; omega)
      have hBwcab_ := below_step hBwca_ hbwcab_
      have hGwcab_ := (hbwcab_.block _ hLwca_).trans hGwca_
      refine hK.out _ _ ⟨(cell_below hBwcab_ (a := ad2) hlt2).trans n0, (cell_below hBwcab_ (a := ⟨ad2.block, ad2.off + 1, none⟩) hlt2).trans n1, (cell_below hBwcab_ (a := ⟨ad2.block, ad2.off + 2, none⟩) hlt2).trans n2⟩ (fun hHeld => ?_)
      clear hK K
      refine norm_ (a' := ?_) ?_ ?_
      rotate_left
      · show Act.put _ (some 111) _ = _
        simp only [Act.put, List.setIfInBounds_toArray, List.set_cons_zero, List.set_cons_succ, i64_w, i32_w]
        rfl
      refine pure_ (i := 10) (N := some 101) (v := ?_) (a' := ?_) #[true, true, true, true, true, true, true, true, true, true, true, false, false, true, false, false] rfl rfl (by kernel_rfl) (fun _ _ _ h => h) (Or.inl ⟨by rfl, ?_⟩) ?_ ?_
      rotate_left
      · intro w'
        go_simp
        with_reducible rfl
      rotate_left
      · simp only [Act.put, List.setIfInBounds_toArray, List.set_cons_zero, List.set_cons_succ, i64_w, i32_w]
        rfl
      refine pure_ (i := 11) (N := some 112) (v := ?_) (a' := ?_) #[true, true, true, true, true, true, true, true, true, true, true, true, false, true, false, false] rfl rfl (by kernel_rfl) (fun _ _ _ h => h) (Or.inl ⟨by rfl, ?_⟩) ?_ ?_
      rotate_left
      · intro w'
        go_simp
        with_reducible rfl
      rotate_left
      · simp only [Act.put, List.setIfInBounds_toArray, List.set_cons_zero, List.set_cons_succ, i64_w, i32_w]
        rfl
      refine pure_ (i := 12) (N := some 113) (v := ?_) (a' := ?_) #[true, true, true, true, true, true, true, true, true, true, true, true, true, true, false, false] rfl rfl (by kernel_rfl) (fun _ _ _ h => h) (Or.inl ⟨by rfl, ?_⟩) ?_ ?_
      rotate_left
      · intro w'
        go_simp
        with_reducible rfl
      rotate_left
      · simp only [Act.put, List.setIfInBounds_toArray, List.set_cons_zero, List.set_cons_succ, i64_w, i32_w]
        rfl
      exact norm_ (by simp only [putAll, Act.put, List.setIfInBounds_toArray, List.set_cons_zero, List.set_cons_succ]) (hCont (vb, g12) _ (CmF.mk hBwcab_ hGwcab_ hge10 hVwcab_))
  rintro ⟨vb, g12⟩ wz HZ
  have q0 := (blk_cell HZ.bx 0).trans rfl
  have q1 := (blk_cell HZ.bx 1).trans rfl
  have qf0 := blk_frozen HZ.bx 0
  have qf1 := blk_frozen HZ.bx 1
  refine norm_ (a' := ?_) ?_ ?_
  rotate_left
  · simp only [putAll, Act.put, List.setIfInBounds_toArray, List.set_cons_zero, List.set_cons_succ]
    rfl
  refine pure_ (i := 14) (N := some 11) (v := ?_) (a' := ?_) #[true, true, true, true, true, true, true, true, true, true, true, true, true, true, true, false] rfl rfl (by kernel_rfl) (fun _ _ _ h => h) (Or.inl ⟨by rfl, ?_⟩) ?_ ?_
  rotate_left
  · intro w'
    go_simp
    with_reducible rfl
  rotate_left
  · simp only [Act.put, List.setIfInBounds_toArray, List.set_cons_zero, List.set_cons_succ, i64_w, i32_w]
    rfl
  refine last_ (i := 15) (N := none) #[true, true, true, true, true, true, true, true, true, true, true, true, true, true, true, true] rfl rfl (by kernel_rfl) (by decide) (fun K hK => ?_)
  refine skip_ (w1 := ?_) (by rfl) rfl ?_ ?_
  rotate_left
  · go_simp
    rfl
  refine hK.out _ _ ?_
  clear hK K
  refine done_ (by kernel_rfl) ?_
  have hg12 : wc.heap.size ≤ g12 := HZ.ge
  have HY : Aside0 (CmG wc ((wz.setCell ⟨g12, 0, none⟩ (.int .i64 r2')).setCell ⟨g12, 1, none⟩ (.int .i64 r3')) vb g12 lr r2' r3') := ⟨HZ.put2⟩
  clear HZ q0 q1 qf0 qf1
  generalize ((wz.setCell ⟨g12, 0, none⟩ (.int .i64 r2')).setCell ⟨g12, 1, none⟩ (.int .i64 r3')) = wy at HY ⊢
  have y0 := (blk_cell HY.out.bx 0).trans rfl
  have y1 := (blk_cell HY.out.bx 1).trans rfl
  have HCY := Aside0.mk (HC.out.cb.below HY.out.hB)
  have hw3 := blk_lt HC.out.cb.b5
  have hw4 : w.heap.size + 1 + 1 < wy.heap.size := blk_lt HCY.out.b5
  clear HC b20 b21 b40 b41 b42 b43 z40 z41 z42 z43 b50 b51 z50 z51 b80 b81 b82 n0 n1 n2 HOP
  have HSCk := HSC
  clear HSC
  have H := H'.out
  clear H'
  by_cases he : r3' = 0
  · have heb : (r3' != 0) = false := by simp [he]
    rw [if_pos he, Option.bind_some] at H
    dsimp only at H
    rw [if_pos rfl] at H
    have H' := Aside0.mk H
    clear H he
    obtain ⟨A8, c8, rfl⟩ := Kd.V_slice HY.out.cs
    have hbd := (tcl_wordsP HSCk.out).1
    have hbd2 := (tcl_wordsP HSCk.out).2
    go_wp2
    go_loopg [10, 121] (lr.length) (fun kq v10 v121 W => ∃ i : Nat, v121 = .int .i64 (i : Int) ∧ kq = lr.length - i ∧ i ≤ lr.length ∧ Aside0 (RInv w wy W v10 ((lr.take i).flatMap (·.f1))))
    case atStart => exact ⟨0, rfl, rfl, Nat.zero_le _, ⟨⟨Below.refl _ _, Kd.N_nil _ _ _ _ _⟩⟩⟩
    case round =>
      obtain ⟨i, rfl, rfl, hil, HP⟩ := hrel
      obtain ⟨xs, hxs⟩ : ∃ xs, (lr.take i).flatMap (·.f1) = xs := ⟨_, rfl⟩
      rw [hxs] at HP
      have HXS := Aside0.mk hxs
      clear hxs
      obtain ⟨A10, c10, rfl⟩ := Kd.N_slice HP.out.row
      by_cases hi : i < lr.length
      · have hb := decide_eq_true (show (i : Int) < (lr.length : Int) by omega)
        have hlt : ((i : Int) < (lr.length : Int)) = True := eq_true (by omega)
        have h0 : ((0 : Int) ≤ (i : Int)) = True := eq_true (by omega)
        obtain ⟨ad3, A9, c9, rfl, r0, r1, hl9, hF9⟩ := cm_read (Kd.F_below (Kd.F_bound (Kd.V_F HY.out.cs)) HP.out.hB) i hi
        have hst := flat_step lr i hi
        have hle := flat_le lr (i + 1)
        rw [HXS.out] at hst
        rw [hst, List.length_append] at hle
        obtain ⟨x, hx⟩ : ∃ x, lr.getD i zCm = x := ⟨_, rfl⟩
        rw [hx] at r0 r1 hl9 hF9 hst hle
        have HST := Aside0.mk hst
        have hsz2 := HP.out.hB.size
        clear hst hx
        go_wp2_with (at_builtin; refine Kd.N_append_rows kWd wy.heap.size rfl (.tmp 125) (.tmp 127) 36 41 (.agg #[.int .i64 0, .int .i64 0, .slice none 0 0]) 40 rfl Try.underlying36 info41 rfl (by decide) (by omega) (.slice A10 xs.length c10) xs x.f1 A9 x.f1.length c9 (fun k => w.heap.size + 1 + 1 < k) _ rfl rfl (Kd.N_alloc HP.out.row _) (Kd.F_alloc hF9 _) (fun k hk => ⟨by have := hk.1.1; omega, fun he => by have := Kd.N_base HP.out.row k he.symm; have := hk.2; omega⟩) (fun k hk => by rw [World.size_alloc] at hk; omega) (below_alloc HP.out.hB _) (by rw [World.size_alloc]; omega) (by omega) ?_; intro v1 w5 r5 hb5 hg5 _; have HN : Aside0 (RInv w wy w5 v1 (xs ++ x.f1)) := ⟨⟨hb5, r5⟩⟩; clear r5 hb5 hg5)
        go_roundg (lr.length - (i + 1))
        case measure => omega
        case rel => exact ⟨i + 1, by simp, rfl, by omega, by rw [HST.out]; exact HN⟩
      · have hb := decide_eq_false (show ¬ (i : Int) < (lr.length : Int) by omega)
        obtain rfl : i = lr.length := by omega
        have HPL : Aside0 (PreL w wr #[.int .i64 ca, .slice (some ad) (args.length + 1) cc] ok0 (.slice A10 xs.length c10) xs) := ⟨⟨HCY.out.below HP.out.hB, Kd.V_mono (Kd.N_V HP.out.row) (fun k hk => .inr hk)⟩⟩
        have hxs := HXS.out
        rw [List.take_length] at hxs
        rw [hxs] at H'
        clear HP HY HCY y0 y1 hxs HXS hbd hbd2
        obtain ⟨⟨q1, q2, q3⟩, hL, H⟩ := Option.bind_eq_some_iff.1 (show (plan_list.f scr xs).bind _ = some r from H'.out)
        clear H'
        dsimp only at H
        have HL := Aside0.mk hL
        clear hL
        go_upto_region 25 with ((go_at_call 90; refine (plan_list.calls scr hscr xs A10 c10 (fun k => (ok0 k ∧ k < w.heap.size) ∨ w.heap.size + 1 + 1 < k) q1 q2 q3 _ HPL.out.ws HL.out).mono ?_; rintro en w5 ⟨v5, rfl, hV5, hB5⟩; have HCL := Aside0.mk (HPL.out.cb.below hB5); have HV5 := Aside0.mk (Kd.V_mono hV5 (ok' := fun k => (ok0 k ∧ k < w.heap.size) ∨ w.heap.size + 1 + 1 < k) (fun k hk => hk.elim (fun h => h.1) (fun h => .inr (Nat.lt_of_lt_of_le (blk_lt HPL.out.cb.b5) h)))); clear hV5 hB5; obtain ⟨A7, c7, rfl⟩ := Kd.V_slice HV5.out))
        have HC := Aside0.mk (HCL.out.below (below_alloc (Below.refl _ _) (.cells #[.int .i64 q2, .int .i64 q3] 90)))
        have HV := Aside0.mk (Kd.V_alloc HV5.out (.cells #[.int .i64 q2, .int .i64 q3] 90))
        have g0 := blk_cell (blk_new w5 (.cells #[.int .i64 q2, .int .i64 q3] 90)) 0
        have g1 := blk_cell (blk_new w5 (.cells #[.int .i64 q2, .int .i64 q3] 90)) 1
        have g2 := blk_lt HCL.out.b5
        generalize w5.alloc (.cells #[.int .i64 q2, .int .i64 q3] 90) = w6 at HC HV g0 g1 ⊢
        generalize w5.heap.size = g16 at g0 g1 g2 ⊢
        clear HCL HV5 HL HPL
        have b20 := (blk_cell HC.out.b2 0).trans rfl
        have b21 := (blk_cell HC.out.b2 1).trans rfl
        have b40 := (blk_cell HC.out.b4 0).trans rfl
        have b41 := (blk_cell HC.out.b4 1).trans rfl
        have b42 := (blk_cell HC.out.b4 2).trans rfl
        have b43 := (blk_cell HC.out.b4 3).trans rfl
        have z40 := blk_frozen HC.out.b4 0
        have z41 := blk_frozen HC.out.b4 1
        have z42 := blk_frozen HC.out.b4 2
        have z43 := blk_frozen HC.out.b4 3
        have b50 := (blk_cell HC.out.b5 0).trans rfl
        have b51 := (blk_cell HC.out.b5 1).trans rfl
        have z50 := blk_frozen HC.out.b5 0
        have z51 := blk_frozen HC.out.b5 1
        replace g0 := g0.trans rfl
        replace g1 := g1.trans rfl
        by_cases he : q3 = 0
        · rw [if_pos he] at H
          have heb : (q3 != 0) = false := by simp [he]
          clear he
          by_cases hz : q1.length = 0
          · rw [if_pos hz] at H
            have hzb : ((q1.length : Int) == 0) = true := by simp [hz]
            obtain rfl := Option.some.inj H
            clear H hz
            go_wp2
            refine start_ (n := 6) (S := fun w' => w'.cell? ⟨w.heap.size, 0, none⟩ = some (.int .i64 ca)) (ds := [5]) #[false, false, false, false, false, false] (by kernel_rfl) rfl rfl (b20) (fun hHeld => ?_)
            refine pure_ (i := 0) (N := some 145) (v := ?_) (a' := ?_) #[true, false, false, false, false, false] rfl rfl (by kernel_rfl) (fun _ _ _ h => h) (Or.inl ⟨by rfl, ?_⟩) ?_ ?_
            rotate_left
            · intro w'
              go_simp
              with_reducible rfl
            rotate_left
            · simp only [Act.put, List.setIfInBounds_toArray, List.set_cons_zero, List.set_cons_succ, i64_w, i32_w]
              rfl
            refine pure_ (i := 1) (N := some 146) (v := ?_) (a' := ?_) #[true, true, false, false, false, false] rfl rfl (by kernel_rfl) (fun _ _ _ h => h) (Or.inl ⟨by rfl, ?_⟩) ?_ ?_
            rotate_left
            · intro w'
              go_simp
              with_reducible rfl
            rotate_left
            · simp only [Act.put, List.setIfInBounds_toArray, List.set_cons_zero, List.set_cons_succ, i64_w, i32_w]
              rfl
            refine take_ (i := 2) (N := some 147) (v := ?_) (a' := ?_) #[true, true, true, false, false, false] rfl rfl (by kernel_rfl) (fun _ _ _ h => h) (Or.inl ⟨by rfl, ?_⟩) hHeld ?_ ?_
            rotate_left
            · intro w' s0
              go_simp
              with_reducible rfl
            rotate_left
            · simp only [Act.put, List.setIfInBounds_toArray, List.set_cons_zero, List.set_cons_succ, i64_w, i32_w]
              rfl
            refine pure_ (i := 3) (N := some 148) (v := ?_) (a' := ?_) #[true, true, true, true, false, false] rfl rfl (by kernel_rfl) (fun _ _ _ h => h) (Or.inl ⟨by rfl, ?_⟩) ?_ ?_
            rotate_left
            · intro w'
              go_simp
              with_reducible rfl
            rotate_left
            · simp only [Act.put, List.setIfInBounds_toArray, List.set_cons_zero, List.set_cons_succ, i64_w, i32_w]
              rfl
            refine one_ (i := 4) (N := none) #[true, true, true, true, true, false] rfl rfl (by kernel_rfl) (by decide) (fun K hK => ?_)
            refine skip_ (w1 := ?_) (by rfl) rfl ?_ ?_
            rotate_left
            · go_simp
              rfl
            refine hK.out _ _ (cell_set4 (show w.heap.size ≠ w.heap.size + 1 by omega) b20) (fun hHeld => ?_)
            clear hK K
            refine last_ (i := 5) (N := none) #[true, true, true, true, true, true] rfl rfl (by kernel_rfl) (by decide) (fun K hK => ?_)
            refine skip_ (w1 := ?_) (by rfl) rfl ?_ ?_
            rotate_left
            · go_simp
              rfl
            refine hK.out _ _ ?_
            clear hK K
            refine done_ (by kernel_rfl) ?_
            go_wp2
            refine bodyPost_ret (results_cc rfl _ _ (w.heap.size + 1) (w.heap.size + 1 + 1) 47 90 #[.int .i64 0, .int .i64 0, .slice none 0 0, .slice none 0 0] #[.int .i64 ca, .int .i64 2] (0, 0) (0, 0) _ _ rfl (blk_drew HC.out.res4) Try.underlying47 rfl (by kernel_rfl) rfl (blk_drew HC.out.res5) Try.underlying90 rfl (by kernel_rfl)) rfl ?_
            exact (CB.bad HC.out _ _).drew
          · rw [if_neg hz] at H
            have hzb : ((q1.length : Int) == 0) = false := beq_eq_false_iff_ne.2 (by omega)
            obtain rfl := Option.some.inj H
            clear H hz
            obtain ⟨-, hl7, hF7⟩ := Kd.V_at HV.out
            go_wp2
            refine bodyPost_ret (results_cc rfl _ _ (w.heap.size + 1) (w.heap.size + 1 + 1) 47 90 #[.int .i64 3, .int .i64 ca, .slice none 0 0, .slice A7 q1.length c7] #[.int .i64 0, .int .i64 0] (0, 0) (0, 0) _ _ rfl (HC.out.res4) Try.underlying47 rfl (by kernel_rfl) rfl (HC.out.res5) Try.underlying90 rfl (by kernel_rfl)) rfl ?_
            exact CB.arms HC.out ca hl7 hF7
        · rw [if_neg he] at H
          have heb : (q3 != 0) = true := by simp [he]
          obtain rfl := Option.some.inj H
          clear H he
          go_wp2
          refine start_ (n := 4) (S := fun w' => w'.cell? ⟨g16, 0, none⟩ = some (.int .i64 q2) ∧ w'.cell? ⟨g16, 1, none⟩ = some (.int .i64 q3)) (ds := [3]) #[false, false, false, false] (by kernel_rfl) rfl rfl ⟨g0, g1⟩ (fun hHeld => ?_)
          refine pure_ (i := 0) (N := some 139) (v := ?_) (a' := ?_) #[true, false, false, false] rfl rfl (by kernel_rfl) (fun _ _ _ h => h) (Or.inl ⟨by rfl, ?_⟩) ?_ ?_
          rotate_left
          · intro w'
            go_simp
            with_reducible rfl
          rotate_left
          · simp only [Act.put, List.setIfInBounds_toArray, List.set_cons_zero, List.set_cons_succ, i64_w, i32_w]
            rfl
          refine take_ (i := 1) (N := some 140) (v := ?_) (a' := ?_) #[true, true, false, false] rfl rfl (by kernel_rfl) (fun _ _ _ h => h) (Or.inl ⟨by rfl, ?_⟩) hHeld ?_ ?_
          rotate_left
          · rintro w' ⟨s0, s1⟩
            go_simp
            with_reducible rfl
          rotate_left
          · simp only [Act.put, List.setIfInBounds_toArray, List.set_cons_zero, List.set_cons_succ, i64_w, i32_w]
            rfl
          refine one_ (i := 2) (N := none) #[true, true, true, false] rfl rfl (by kernel_rfl) (by decide) (fun K hK => ?_)
          refine skip_ (w1 := ?_) (by rfl) rfl ?_ ?_
          rotate_left
          · go_simp
            rfl
          refine hK.out _ _ ⟨cell_set4 (show g16 ≠ w.heap.size + 1 by omega) g0, cell_set4 (show g16 ≠ w.heap.size + 1 by omega) g1⟩ (fun hHeld => ?_)
          clear hK K
          refine last_ (i := 3) (N := none) #[true, true, true, true] rfl rfl (by kernel_rfl) (by decide) (fun K hK => ?_)
          refine skip_ (w1 := ?_) (by rfl) rfl ?_ ?_
          rotate_left
          · go_simp
            rfl
          refine hK.out _ _ ?_
          clear hK K
          refine done_ (by kernel_rfl) ?_
          go_wp2
          refine bodyPost_ret (results_cc rfl _ _ (w.heap.size + 1) (w.heap.size + 1 + 1) 47 90 #[.int .i64 0, .int .i64 0, .slice none 0 0, .slice none 0 0] #[.int .i64 q2, .int .i64 q3] (0, 0) (0, 0) _ _ rfl (blk_drew HC.out.res4) Try.underlying47 rfl (by kernel_rfl) rfl (blk_drew HC.out.res5) Try.underlying90 rfl (by kernel_rfl)) rfl ?_
          exact (CB.bad HC.out _ _).drew
  · have heb : (r3' != 0) = true := by simp [he]
    rw [if_neg he, Option.bind_some] at H
    dsimp only at H
    rw [if_neg he] at H
    obtain rfl := Option.some.inj H
    clear H he
    have HC := HCY
    clear HCY
    have b20 := (blk_cell HC.out.b2 0).trans rfl
    have b21 := (blk_cell HC.out.b2 1).trans rfl
    have b40 := (blk_cell HC.out.b4 0).trans rfl
    have b41 := (blk_cell HC.out.b4 1).trans rfl
    have b42 := (blk_cell HC.out.b4 2).trans rfl
    have b43 := (blk_cell HC.out.b4 3).trans rfl
    have z40 := blk_frozen HC.out.b4 0
    have z41 := blk_frozen HC.out.b4 1
    have z42 := blk_frozen HC.out.b4 2
    have z43 := blk_frozen HC.out.b4 3
    have b50 := (blk_cell HC.out.b5 0).trans rfl
    have b51 := (blk_cell HC.out.b5 1).trans rfl
    have z50 := blk_frozen HC.out.b5 0
    have z51 := blk_frozen HC.out.b5 1
    go_wp2
    refine start_ (n := 4) (S := fun w' => w'.cell? ⟨g12, 0, none⟩ = some (.int .i64 r2') ∧ w'.cell? ⟨g12, 1, none⟩ = some (.int .i64 r3')) (ds := [3]) #[false, false, false, false] (by kernel_rfl) rfl rfl ⟨y0, y1⟩ (fun hHeld => ?_)
    refine pure_ (i := 0) (N := some 117) (v := ?_) (a' := ?_) #[true, false, false, false] rfl rfl (by kernel_rfl) (fun _ _ _ h => h) (Or.inl ⟨by rfl, ?_⟩) ?_ ?_
    rotate_left
    · intro w'
      go_simp
      with_reducible rfl
    rotate_left
    · simp only [Act.put, List.setIfInBounds_toArray, List.set_cons_zero, List.set_cons_succ, i64_w, i32_w]
      rfl
    refine take_ (i := 1) (N := some 118) (v := ?_) (a' := ?_) #[true, true, false, false] rfl rfl (by kernel_rfl) (fun _ _ _ h => h) (Or.inl ⟨by rfl, ?_⟩) hHeld ?_ ?_
    rotate_left
    · rintro w' ⟨s0, s1⟩
      go_simp
      with_reducible rfl
    rotate_left
    · simp only [Act.put, List.setIfInBounds_toArray, List.set_cons_zero, List.set_cons_succ, i64_w, i32_w]
      rfl
    refine one_ (i := 2) (N := none) #[true, true, true, false] rfl rfl (by kernel_rfl) (by decide) (fun K hK => ?_)
    refine skip_ (w1 := ?_) (by rfl) rfl ?_ ?_
    rotate_left
    · go_simp
      rfl
    refine hK.out _ _ ⟨cell_set4 (show g12 ≠ w.heap.size + 1 by omega) y0, cell_set4 (show g12 ≠ w.heap.size + 1 by omega) y1⟩ (fun hHeld => ?_)
    clear hK K
    refine last_ (i := 3) (N := none) #[true, true, true, true] rfl rfl (by kernel_rfl) (by decide) (fun K hK => ?_)
    refine skip_ (w1 := ?_) (by rfl) rfl ?_ ?_
    rotate_left
    · go_simp
      rfl
    refine hK.out _ _ ?_
    clear hK K
    refine done_ (by kernel_rfl) ?_
    go_wp2
    refine bodyPost_ret (results_cc rfl _ _ (w.heap.size + 1) (w.heap.size + 1 + 1) 47 90 #[.int .i64 0, .int .i64 0, .slice none 0 0, .slice none 0 0] #[.int .i64 r2', .int .i64 r3'] (0, 0) (0, 0) _ _ rfl (blk_drew HC.out.res4) Try.underlying47 rfl (by kernel_rfl) rfl (blk_drew HC.out.res5) Try.underlying90 rfl (by kernel_rfl)) rfl ?_
    exact (CB.bad HC.out _ _).drew
end Go.Proofs.Ytofhcjdadhpjdaa.Q
