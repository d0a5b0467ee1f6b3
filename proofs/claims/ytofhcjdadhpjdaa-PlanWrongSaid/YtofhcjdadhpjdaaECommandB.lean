/- plan.command, by hand, over any script function: an expect. -/
import Derived.Test.YtofhcjdadhpjdaaECmd0
namespace Go.Proofs.Ytofhcjdadhpjdaa.Q
set_option linter.unusedSimpArgs false
set_option linter.unusedVariables false
open Go.RowKit Go.Proofs.YtofhcjdadhpjdaaW.PrintWords Go.Proofs.YtofhcjdadhpjdaaW.PrintLast Go.Proofs.YtofhcjdadhpjdaaW.PrintMore

set_option maxHeartbeats 8000000 in
set_option maxRecDepth 1000000 in
theorem plan_command.walkN (scr : ScrF) (hscr : ScrOK scr) (ca : Int) (w0 : SWd) (args : List SWd) (lo hi : Int) (body : Bool) (A : Option Addr) (cc : Nat) (ok0 : Nat → Prop) (r : POp × Int × Int) (w : World) (hlc : (w0 :: args).length ≤ cc) (hF : Kd.F kWd w ok0 A (w0 :: args).length (w0 :: args))
    (h2 : (oneP w0).2 = true) (h3 : formI (oneP w0).1 = some (3, lo, hi)) (h4 : lo ≤ (args.length : Int)) (h5 : (args.length : Int) ≤ hi) (hbr : ¬ ∃ b, args = [b] ∧ b.f1 = 2)
    (h : ((argsP args).bind fun r => if r.2.2 = 0 then expR scr ca r.1 else some (zOp, r.2.1, r.2.2)) = some r) :
    Calls Try.prog 69 #[.agg #[.int .i64 ca, .slice A (w0 :: args).length cc], .bool body] w (CPost2 w ok0 r) := by
  obtain ⟨ad, A1, c1, rfl, e0, e1, e2, hl1, hF1, hin⟩ := wd_first hF
  have hin2 := Kd.F_bound hF
  have HF := Aside0.mk hF
  obtain ⟨nm, ok, hone⟩ : ∃ nm ok, oneP w0 = (nm, ok) := ⟨_, _, rfl⟩
  have HO : Aside0 (plan_one.f w0.f0 w0.f1 w0.f2 = some (nm, ok)) := ⟨by rw [one_is, hone]⟩
  obtain ⟨hnm, hokk⟩ : nm = (oneP w0).1 ∧ ok = (oneP w0).2 := by rw [hone]; exact ⟨rfl, rfl⟩
  obtain rfl : true = ok := by rw [hokk]; exact h2.symm
  have hfm : formI nm = some (3, lo, hi) := by rw [hnm]; exact h3
  have H' := Aside0.mk h
  clear hone h hnm hokk h2 h3
  clear hF
  obtain ⟨o, hf, hv, hs⟩ := form_look nm
  have hz : ∀ W : World, (zeroValue 161).run Try.prog W = .ok (.agg #[.int .i64 0, .int .i64 0, .int .i64 0]) W := fun W => by kernel_rfl
  have hlk : ∀ (W : World) (r : Nat), W.heap[r]? = some (.map formEs 9) → (Instr.lookup 163 (.map (some r)) (.string nm) true).run Try.prog W = .ok (.tuple #[.agg #[.int .i64 ((formI nm).getD (0, 0, 0)).1, .int .i64 ((formI nm).getD (0, 0, 0)).2.1, .int .i64 ((formI nm).getD (0, 0, 0)).2.2], .bool (formI nm).isSome]) W := by
    intro W r hb
    have := run_look (mty := 163) Try.underlying163 Try.underlying9 hb nm (hz W) hf
    rw [hv, hs] at this
    exact this
  clear hf hv hs hz o
  rw [hfm] at hlk
  dsimp only [Option.getD_some, Option.isSome_some] at hlk
  clear hfm
  have hpos : ((0 : Int) < ((args.length : Int) + 1)) = True := eq_true (by omega)
  go_enter Try.func69, Try.ntmps69
  have hadl := World.block_lt_of_cell? _ _ e0
  go_upto_region 1 with (fail)
  have HC := Aside0.mk (CB.made (Below.refl (((w.alloc (.cells #[.int .i64 ca, .slice (some ad) (args.length + 1) cc] 38)).alloc (.cells #[.int .i64 0, .int .i64 0, .slice none 0 0, .slice none 0 0] 47)).alloc (.cells #[.int .i64 0, .int .i64 0] 90)).heap.size _))
  generalize (((w.alloc (.cells #[.int .i64 ca, .slice (some ad) (args.length + 1) cc] 38)).alloc (.cells #[.int .i64 0, .int .i64 0, .slice none 0 0, .slice none 0 0] 47)).alloc (.cells #[.int .i64 0, .int .i64 0] 90)) = wx at HC ⊢
  have n0 := (cell_below HC.out.hB (a := ad) hadl).trans e0
  have n1 := (cell_below HC.out.hB (a := ⟨ad.block, ad.off + 1, none⟩) hadl).trans e1
  have n2 := (cell_below HC.out.hB (a := ⟨ad.block, ad.off + 2, none⟩) hadl).trans e2
  have b20 := (blk_cell HC.out.b2 0).trans rfl
  have b21 := (blk_cell HC.out.b2 1).trans rfl
  go_upto_if 34 with (first | (go_at_call 87; refine (plan_one.calls w0.f0 w0.f1 A1 c1 w0.f2 nm _ _ (Kd.F_now (Kd.F_below hF1 HC.out.hB)) hl1 HO.out).mono ?_; rintro en w1 ⟨rfl, hB⟩; have HC1 := Aside0.mk (HC.out.below hB); clear hB HC b20 b21 n0 n1 n2; have b20 := (blk_cell HC1.out.b2 0).trans rfl; have b21 := (blk_cell HC1.out.b2 1).trans rfl) | (go_at_call 88; refine (plan_forms.calls _).mono ?_; rintro en w2 ⟨rfl, rfl⟩; have hl := hlk _ _ (blk_new w1 _); have HC2 := Aside0.mk (HC1.out.below (below_alloc (Below.refl _ _) (.map formEs 9))); generalize hmm : w1.heap.size = mm at hl ⊢; generalize w1.alloc (.map formEs 9) = w2 at hl HC2 ⊢; clear b20 b21 hmm; have b20 := (blk_cell HC2.out.b2 0).trans rfl; have b21 := (blk_cell HC2.out.b2 1).trans rfl; have hz2 := blk_lt HC2.out.b2))
  have HC := Aside0.mk (CF.made HC2.out #[.int .i64 3, .int .i64 lo, .int .i64 hi])
  have hVA := wd_rest (Kd.F_bound HF.out) hlc
  generalize (if cc = 1 then some ad else some ⟨ad.block, ad.off + 3, none⟩) = A5 at hVA ⊢
  clear HC2 b20 b21 hl HO hlk hz2 hl1 hF1 hin2 e1 e2 HC1
  generalize w2.alloc (.cells #[.int .i64 3, .int .i64 lo, .int .i64 hi] 161) = w3 at HC ⊢
  generalize w2.heap.size = g8 at HC ⊢
  have n0 := (cell_below HC.out.cb.hB (a := ad) hadl).trans e0
  clear e0
  have b20 := (blk_cell HC.out.cb.b2 0).trans rfl
  have b21 := (blk_cell HC.out.cb.b2 1).trans rfl
  have b40 := (blk_cell HC.out.cb.b4 0).trans rfl
  have b41 := (blk_cell HC.out.cb.b4 1).trans rfl
  have b42 := (blk_cell HC.out.cb.b4 2).trans rfl
  have b43 := (blk_cell HC.out.cb.b4 3).trans rfl
  have z40 := blk_frozen HC.out.cb.b4 0
  have z41 := blk_frozen HC.out.cb.b4 1
  have z42 := blk_frozen HC.out.cb.b4 2
  have z43 := blk_frozen HC.out.cb.b4 3
  have b50 := (blk_cell HC.out.cb.b5 0).trans rfl
  have b51 := (blk_cell HC.out.cb.b5 1).trans rfl
  have z50 := blk_frozen HC.out.cb.b5 0
  have z51 := blk_frozen HC.out.cb.b5 1
  have b80 := (blk_cell HC.out.b8 0).trans rfl
  have b81 := (blk_cell HC.out.b8 1).trans rfl
  have b82 := (blk_cell HC.out.b8 2).trans rfl
  have h1b : decide ((args.length : Int) < lo) = false := decide_eq_false (Int.not_lt.2 h4)
  have h2b : decide (hi < (args.length : Int)) = false := decide_eq_false (Int.not_lt.2 h5)
  clear h4 h5
  obtain ⟨-, hlA, hFA⟩ := Kd.V_at hVA
  have hargs : argsP args = some (args, 0, 0) := by
    unfold argsP
    split
    · rename_i b
      rw [if_neg (fun h => hbr ⟨b, rfl, h⟩)]
    · rfl
  have H := H'.out
  clear H'
  rw [hargs, Option.bind_some] at H
  have H' := Aside0.mk (show expR scr ca args = some r from H)
  clear H
  have HPL : Aside0 (PreL w w3 #[.int .i64 ca, .slice (some ad) (args.length + 1) cc] ok0 (.slice A5 args.length (cc - 1)) args) := ⟨⟨HC.out.cb, ⟨A5, cc - 1, rfl, hlA, Kd.F_mono (Kd.F_below hFA HC.out.cb.hB) (fun k hk => .inl hk)⟩⟩⟩
  by_cases hlen : args.length = 1
  · have hlb : ((args.length : Int) == 1) = true := by simp [hlen]
    obtain ⟨b, hab⟩ : ∃ b, args = [b] := by
      match args, hlen with
      | [b], _ => exact ⟨b, rfl⟩
    have hb2 : (b.f1 == 2) = false := beq_eq_false_iff_ne.2 (fun h => hbr ⟨b, hab, h⟩)
    obtain ⟨ad2, A6, c6, rfl, m0, m1, m2, hl6, hF6, hlt6⟩ := wd_first (x := b) (l := []) (by rw [← hab]; exact hFA)
    have hpa : ((0 : Int) < (args.length : Int)) = True := eq_true (by omega)
    have hpn : 0 < args.length := by omega
    have n1 := (cell_below HC.out.cb.hB (a := ⟨ad2.block, ad2.off + 1, none⟩) (show ad2.block < w.heap.size by omega)).trans m1
    clear hab hbr hargs hlen m0 m1 m2 hl6 hF6 hlA hFA hVA HC
    obtain ⟨⟨q1, q2, q3⟩, hL, H⟩ := Option.bind_eq_some_iff.1 (show (plan_list.f scr args).bind _ = some r from H'.out)
    clear H'
    dsimp only at H
    have HL := Aside0.mk hL
    clear hL
    go_upto_region 25 with ((go_at_call 90; refine (plan_list.calls scr hscr args (some ad2) (cc - 1) (fun k => (ok0 k ∧ k < w.heap.size) ∨ w.heap.size + 1 + 1 < k) q1 q2 q3 _ HPL.out.ws HL.out).mono ?_; rintro en w5 ⟨v5, rfl, hV5, hB5⟩; have HCL := Aside0.mk (HPL.out.cb.below hB5); have HV5 := Aside0.mk (Kd.V_mono hV5 (ok' := fun k => (ok0 k ∧ k < w.heap.size) ∨ w.heap.size + 1 + 1 < k) (fun k hk => hk.elim (fun h => h.1) (fun h => .inr (Nat.lt_of_lt_of_le (blk_lt HPL.out.cb.b5) h)))); clear hV5 hB5; obtain ⟨A7, c7, rfl⟩ := Kd.V_slice HV5.out))
    have HC := Aside0.mk (HCL.out.below (below_alloc (Below.refl _ _) (.cells #[.int .i64 q2, .int .i64 q3] 90)))
    have HV := Aside0.mk (Kd.V_alloc HV5.out (.cells #[.int .i64 q2, .int .i64 q3] 90))
    have g0 := blk_cell (blk_new w5 (.cells #[.int .i64 q2, .int .i64 q3] 90)) 0
    have g1 := blk_cell (blk_new w5 (.cells #[.int .i64 q2, .int .i64 q3] 90)) 1
    have g2 := blk_lt HCL.out.b5
    generalize w5.alloc (.cells #[.int .i64 q2, .int .i64 q3] 90) = w6 at HC HV g0 g1 ⊢
    generalize w5.heap.size = g16 at g0 g1 g2 ⊢
    clear HCL HV5 HL HPL
    have b20 := (blk_cell HC.out.b2 0).trans rfl
    have b21 := (blk_cell HC.out.b2 1).trans rfl
    have b40 := (blk_cell HC.out.b4 0).trans rfl
    have b41 := (blk_cell HC.out.b4 1).trans rfl
    have b42 := (blk_cell HC.out.b4 2).trans rfl
    have b43 := (blk_cell HC.out.b4 3).trans rfl
    have z40 := blk_frozen HC.out.b4 0
    have z41 := blk_frozen HC.out.b4 1
    have z42 := blk_frozen HC.out.b4 2
    have z43 := blk_frozen HC.out.b4 3
    have b50 := (blk_cell HC.out.b5 0).trans rfl
    have b51 := (blk_cell HC.out.b5 1).trans rfl
    have z50 := blk_frozen HC.out.b5 0
    have z51 := blk_frozen HC.out.b5 1
    replace g0 := g0.trans rfl
    replace g1 := g1.trans rfl
    by_cases he : q3 = 0
    · rw [if_pos he] at H
      have heb : (q3 != 0) = false := by simp [he]
      clear he
      by_cases hz : q1.length = 0
      · rw [if_pos hz] at H
        have hzb : ((q1.length : Int) == 0) = true := by simp [hz]
        obtain rfl := Option.some.inj H
        clear H hz
        go_wp2
        refine start_ (n := 6) (S := fun w' => w'.cell? ⟨w.heap.size, 0, none⟩ = some (.int .i64 ca)) (ds := [5]) #[false, false, false, false, false, false] (by kernel_rfl) rfl rfl (b20) (fun hHeld => ?_)
        refine pure_ (i := 0) (N := some 145) (v := ?_) (a' := ?_) #[true, false, false, false, false, false] rfl rfl (by kernel_rfl) (fun _ _ _ h => h) (Or.inl ⟨by rfl, ?_⟩) ?_ ?_
        rotate_left
        · intro w'
          go_simp
          with_reducible rfl
        rotate_left
        · simp only [Act.put, List.setIfInBounds_toArray, List.set_cons_zero, List.set_cons_succ, i64_w, i32_w]
          rfl
        refine pure_ (i := 1) (N := some 146) (v := ?_) (a' := ?_) #[true, true, false, false, false, false] rfl rfl (by kernel_rfl) (fun _ _ _ h => h) (Or.inl ⟨by rfl, ?_⟩) ?_ ?_
        rotate_left
        · intro w'
          go_simp
          with_reducible rfl
        rotate_left
        · simp only [Act.put, List.setIfInBounds_toArray, List.set_cons_zero, List.set_cons_succ, i64_w, i32_w]
          rfl
        refine take_ (i := 2) (N := some 147) (v := ?_) (a' := ?_) #[true, true, true, false, false, false] rfl rfl (by kernel_rfl) (fun _ _ _ h => h) (Or.inl ⟨by rfl, ?_⟩) hHeld ?_ ?_
        rotate_left
        · intro w' s0
          go_simp
          with_reducible rfl
        rotate_left
        · simp only [Act.put, List.setIfInBounds_toArray, List.set_cons_zero, List.set_cons_succ, i64_w, i32_w]
          rfl
        refine pure_ (i := 3) (N := some 148) (v := ?_) (a' := ?_) #[true, true, true, true, false, false] rfl rfl (by kernel_rfl) (fun _ _ _ h => h) (Or.inl ⟨by rfl, ?_⟩) ?_ ?_
        rotate_left
        · intro w'
          go_simp
          with_reducible rfl
        rotate_left
        · simp only [Act.put, List.setIfInBounds_toArray, List.set_cons_zero, List.set_cons_succ, i64_w, i32_w]
          rfl
        refine one_ (i := 4) (N := none) #[true, true, true, true, true, false] rfl rfl (by kernel_rfl) (by decide) (fun K hK => ?_)
        refine skip_ (w1 := ?_) (by rfl) rfl ?_ ?_
        rotate_left
        · go_simp
          rfl
        refine hK.out _ _ (cell_set4 (show w.heap.size ≠ w.heap.size + 1 by omega) b20) (fun hHeld => ?_)
        clear hK K
        refine last_ (i := 5) (N := none) #[true, true, true, true, true, true] rfl rfl (by kernel_rfl) (by decide) (fun K hK => ?_)
        refine skip_ (w1 := ?_) (by rfl) rfl ?_ ?_
        rotate_left
        · go_simp
          rfl
        refine hK.out _ _ ?_
        clear hK K
        refine done_ (by kernel_rfl) ?_
        go_wp2
        refine bodyPost_ret (results_cc rfl _ _ (w.heap.size + 1) (w.heap.size + 1 + 1) 47 90 #[.int .i64 0, .int .i64 0, .slice none 0 0, .slice none 0 0] #[.int .i64 ca, .int .i64 2] (0, 0) (0, 0) _ _ rfl (blk_drew HC.out.res4) Try.underlying47 rfl (by kernel_rfl) rfl (blk_drew HC.out.res5) Try.underlying90 rfl (by kernel_rfl)) rfl ?_
        exact (CB.bad HC.out _ _).drew
      · rw [if_neg hz] at H
        have hzb : ((q1.length : Int) == 0) = false := beq_eq_false_iff_ne.2 (by omega)
        obtain rfl := Option.some.inj H
        clear H hz
        obtain ⟨-, hl7, hF7⟩ := Kd.V_at HV.out
        go_wp2
        refine bodyPost_ret (results_cc rfl _ _ (w.heap.size + 1) (w.heap.size + 1 + 1) 47 90 #[.int .i64 3, .int .i64 ca, .slice none 0 0, .slice A7 q1.length c7] #[.int .i64 0, .int .i64 0] (0, 0) (0, 0) _ _ rfl (HC.out.res4) Try.underlying47 rfl (by kernel_rfl) rfl (HC.out.res5) Try.underlying90 rfl (by kernel_rfl)) rfl ?_
        exact CB.arms HC.out ca hl7 hF7
    · rw [if_neg he] at H
      have heb : (q3 != 0) = true := by simp [he]
      obtain rfl := Option.some.inj H
      clear H he
      go_wp2
      refine start_ (n := 4) (S := fun w' => w'.cell? ⟨g16, 0, none⟩ = some (.int .i64 q2) ∧ w'.cell? ⟨g16, 1, none⟩ = some (.int .i64 q3)) (ds := [3]) #[false, false, false, false] (by kernel_rfl) rfl rfl ⟨g0, g1⟩ (fun hHeld => ?_)
      refine pure_ (i := 0) (N := some 139) (v := ?_) (a' := ?_) #[true, false, false, false] rfl rfl (by kernel_rfl) (fun _ _ _ h => h) (Or.inl ⟨by rfl, ?_⟩) ?_ ?_
      rotate_left
      · intro w'
        go_simp
        with_reducible rfl
      rotate_left
      · simp only [Act.put, List.setIfInBounds_toArray, List.set_cons_zero, List.set_cons_succ, i64_w, i32_w]
        rfl
      refine take_ (i := 1) (N := some 140) (v := ?_) (a' := ?_) #[true, true, false, false] rfl rfl (by kernel_rfl) (fun _ _ _ h => h) (Or.inl ⟨by rfl, ?_⟩) hHeld ?_ ?_
      rotate_left
      · rintro w' ⟨s0, s1⟩
        go_simp
        with_reducible rfl
      rotate_left
      · simp only [Act.put, List.setIfInBounds_toArray, List.set_cons_zero, List.set_cons_succ, i64_w, i32_w]
        rfl
      refine one_ (i := 2) (N := none) #[true, true, true, false] rfl rfl (by kernel_rfl) (by decide) (fun K hK => ?_)
      refine skip_ (w1 := ?_) (by rfl) rfl ?_ ?_
      rotate_left
      · go_simp
        rfl
      refine hK.out _ _ ⟨cell_set4 (show g16 ≠ w.heap.size + 1 by omega) g0, cell_set4 (show g16 ≠ w.heap.size + 1 by omega) g1⟩ (fun hHeld => ?_)
      clear hK K
      refine last_ (i := 3) (N := none) #[true, true, true, true] rfl rfl (by kernel_rfl) (by decide) (fun K hK => ?_)
      refine skip_ (w1 := ?_) (by rfl) rfl ?_ ?_
      rotate_left
      · go_simp
        rfl
      refine hK.out _ _ ?_
      clear hK K
      refine done_ (by kernel_rfl) ?_
      go_wp2
      refine bodyPost_ret (results_cc rfl _ _ (w.heap.size + 1) (w.heap.size + 1 + 1) 47 90 #[.int .i64 0, .int .i64 0, .slice none 0 0, .slice none 0 0] #[.int .i64 q2, .int .i64 q3] (0, 0) (0, 0) _ _ rfl (blk_drew HC.out.res4) Try.underlying47 rfl (by kernel_rfl) rfl (blk_drew HC.out.res5) Try.underlying90 rfl (by kernel_rfl)) rfl ?_
      exact (CB.bad HC.out _ _).drew
  · have hlb : ((args.length : Int) == 1) = false := beq_eq_false_iff_ne.2 (by omega)
    clear hbr hargs hlen hlA hFA hVA HC
    obtain ⟨⟨q1, q2, q3⟩, hL, H⟩ := Option.bind_eq_some_iff.1 (show (plan_list.f scr args).bind _ = some r from H'.out)
    clear H'
    dsimp only at H
    have HL := Aside0.mk hL
    clear hL
    go_upto_region 25 with ((go_at_call 90; refine (plan_list.calls scr hscr args A5 (cc - 1) (fun k => (ok0 k ∧ k < w.heap.size) ∨ w.heap.size + 1 + 1 < k) q1 q2 q3 _ HPL.out.ws HL.out).mono ?_; rintro en w5 ⟨v5, rfl, hV5, hB5⟩; have HCL := Aside0.mk (HPL.out.cb.below hB5); have HV5 := Aside0.mk (Kd.V_mono hV5 (ok' := fun k => (ok0 k ∧ k < w.heap.size) ∨ w.heap.size + 1 + 1 < k) (fun k hk => hk.elim (fun h => h.1) (fun h => .inr (Nat.lt_of_lt_of_le (blk_lt HPL.out.cb.b5) h)))); clear hV5 hB5; obtain ⟨A7, c7, rfl⟩ := Kd.V_slice HV5.out))
    have HC := Aside0.mk (HCL.out.below (below_alloc (Below.refl _ _) (.cells #[.int .i64 q2, .int .i64 q3] 90)))
    have HV := Aside0.mk (Kd.V_alloc HV5.out (.cells #[.int .i64 q2, .int .i64 q3] 90))
    have g0 := blk_cell (blk_new w5 (.cells #[.int .i64 q2, .int .i64 q3] 90)) 0
    have g1 := blk_cell (blk_new w5 (.cells #[.int .i64 q2, .int .i64 q3] 90)) 1
    have g2 := blk_lt HCL.out.b5
    generalize w5.alloc (.cells #[.int .i64 q2, .int .i64 q3] 90) = w6 at HC HV g0 g1 ⊢
    generalize w5.heap.size = g16 at g0 g1 g2 ⊢
    clear HCL HV5 HL HPL
    have b20 := (blk_cell HC.out.b2 0).trans rfl
    have b21 := (blk_cell HC.out.b2 1).trans rfl
    have b40 := (blk_cell HC.out.b4 0).trans rfl
    have b41 := (blk_cell HC.out.b4 1).trans rfl
    have b42 := (blk_cell HC.out.b4 2).trans rfl
    have b43 := (blk_cell HC.out.b4 3).trans rfl
    have z40 := blk_frozen HC.out.b4 0
    have z41 := blk_frozen HC.out.b4 1
    have z42 := blk_frozen HC.out.b4 2
    have z43 := blk_frozen HC.out.b4 3
    have b50 := (blk_cell HC.out.b5 0).trans rfl
    have b51 := (blk_cell HC.out.b5 1).trans rfl
    have z50 := blk_frozen HC.out.b5 0
    have z51 := blk_frozen HC.out.b5 1
    replace g0 := g0.trans rfl
    replace g1 := g1.trans rfl
    by_cases he : q3 = 0
    · rw [if_pos he] at H
      have heb : (q3 != 0) = false := by simp [he]
      clear he
      by_cases hz : q1.length = 0
      · rw [if_pos hz] at H
        have hzb : ((q1.length : Int) == 0) = true := by simp [hz]
        obtain rfl := Option.some.inj H
        clear H hz
        go_wp2
        refine start_ (n := 6) (S := fun w' => w'.cell? ⟨w.heap.size, 0, none⟩ = some (.int .i64 ca)) (ds := [5]) #[false, false, false, false, false, false] (by kernel_rfl) rfl rfl (b20) (fun hHeld => ?_)
        refine pure_ (i := 0) (N := some 145) (v := ?_) (a' := ?_) #[true, false, false, false, false, false] rfl rfl (by kernel_rfl) (fun _ _ _ h => h) (Or.inl ⟨by rfl, ?_⟩) ?_ ?_
        rotate_left
        · intro w'
          go_simp
          with_reducible rfl
        rotate_left
        · simp only [Act.put, List.setIfInBounds_toArray, List.set_cons_zero, List.set_cons_succ, i64_w, i32_w]
          rfl
        refine pure_ (i := 1) (N := some 146) (v := ?_) (a' := ?_) #[true, true, false, false, false, false] rfl rfl (by kernel_rfl) (fun _ _ _ h => h) (Or.inl ⟨by rfl, ?_⟩) ?_ ?_
        rotate_left
        · intro w'
          go_simp
          with_reducible rfl
        rotate_left
        · simp only [Act.put, List.setIfInBounds_toArray, List.set_cons_zero, List.set_cons_succ, i64_w, i32_w]
          rfl
        refine take_ (i := 2) (N := some 147) (v := ?_) (a' := ?_) #[true, true, true, false, false, false] rfl rfl (by kernel_rfl) (fun _ _ _ h => h) (Or.inl ⟨by rfl, ?_⟩) hHeld ?_ ?_
        rotate_left
        · intro w' s0
          go_simp
          with_reducible rfl
        rotate_left
        · simp only [Act.put, List.setIfInBounds_toArray, List.set_cons_zero, List.set_cons_succ, i64_w, i32_w]
          rfl
        refine pure_ (i := 3) (N := some 148) (v := ?_) (a' := ?_) #[true, true, true, true, false, false] rfl rfl (by kernel_rfl) (fun _ _ _ h => h) (Or.inl ⟨by rfl, ?_⟩) ?_ ?_
        rotate_left
        · intro w'
          go_simp
          with_reducible rfl
        rotate_left
        · simp only [Act.put, List.setIfInBounds_toArray, List.set_cons_zero, List.set_cons_succ, i64_w, i32_w]
          rfl
        refine one_ (i := 4) (N := none) #[true, true, true, true, true, false] rfl rfl (by kernel_rfl) (by decide) (fun K hK => ?_)
        refine skip_ (w1 := ?_) (by rfl) rfl ?_ ?_
        rotate_left
        · go_simp
          rfl
        refine hK.out _ _ (cell_set4 (show w.heap.size ≠ w.heap.size + 1 by omega) b20) (fun hHeld => ?_)
        clear hK K
        refine last_ (i := 5) (N := none) #[true, true, true, true, true, true] rfl rfl (by kernel_rfl) (by decide) (fun K hK => ?_)
        refine skip_ (w1 := ?_) (by rfl) rfl ?_ ?_
        rotate_left
        · go_simp
          rfl
        refine hK.out _ _ ?_
        clear hK K
        refine done_ (by kernel_rfl) ?_
        go_wp2
        refine bodyPost_ret (results_cc rfl _ _ (w.heap.size + 1) (w.heap.size + 1 + 1) 47 90 #[.int .i64 0, .int .i64 0, .slice none 0 0, .slice none 0 0] #[.int .i64 ca, .int .i64 2] (0, 0) (0, 0) _ _ rfl (blk_drew HC.out.res4) Try.underlying47 rfl (by kernel_rfl) rfl (blk_drew HC.out.res5) Try.underlying90 rfl (by kernel_rfl)) rfl ?_
        exact (CB.bad HC.out _ _).drew
      · rw [if_neg hz] at H
        have hzb : ((q1.length : Int) == 0) = false := beq_eq_false_iff_ne.2 (by omega)
        obtain rfl := Option.some.inj H
        clear H hz
        obtain ⟨-, hl7, hF7⟩ := Kd.V_at HV.out
        go_wp2
        refine bodyPost_ret (results_cc rfl _ _ (w.heap.size + 1) (w.heap.size + 1 + 1) 47 90 #[.int .i64 3, .int .i64 ca, .slice none 0 0, .slice A7 q1.length c7] #[.int .i64 0, .int .i64 0] (0, 0) (0, 0) _ _ rfl (HC.out.res4) Try.underlying47 rfl (by kernel_rfl) rfl (HC.out.res5) Try.underlying90 rfl (by kernel_rfl)) rfl ?_
        exact CB.arms HC.out ca hl7 hF7
    · rw [if_neg he] at H
      have heb : (q3 != 0) = true := by simp [he]
      obtain rfl := Option.some.inj H
      clear H he
      go_wp2
      refine start_ (n := 4) (S := fun w' => w'.cell? ⟨g16, 0, none⟩ = some (.int .i64 q2) ∧ w'.cell? ⟨g16, 1, none⟩ = some (.int .i64 q3)) (ds := [3]) #[false, false, false, false] (by kernel_rfl) rfl rfl ⟨g0, g1⟩ (fun hHeld => ?_)
      refine pure_ (i := 0) (N := some 139) (v := ?_) (a' := ?_) #[true, false, false, false] rfl rfl (by kernel_rfl) (fun _ _ _ h => h) (Or.inl ⟨by rfl, ?_⟩) ?_ ?_
      rotate_left
      · intro w'
        go_simp
        with_reducible rfl
      rotate_left
      · simp only [Act.put, List.setIfInBounds_toArray, List.set_cons_zero, List.set_cons_succ, i64_w, i32_w]
        rfl
      refine take_ (i := 1) (N := some 140) (v := ?_) (a' := ?_) #[true, true, false, false] rfl rfl (by kernel_rfl) (fun _ _ _ h => h) (Or.inl ⟨by rfl, ?_⟩) hHeld ?_ ?_
      rotate_left
      · rintro w' ⟨s0, s1⟩
        go_simp
        with_reducible rfl
      rotate_left
      · simp only [Act.put, List.setIfInBounds_toArray, List.set_cons_zero, List.set_cons_succ, i64_w, i32_w]
        rfl
      refine one_ (i := 2) (N := none) #[true, true, true, false] rfl rfl (by kernel_rfl) (by decide) (fun K hK => ?_)
      refine skip_ (w1 := ?_) (by rfl) rfl ?_ ?_
      rotate_left
      · go_simp
        rfl
      refine hK.out _ _ ⟨cell_set4 (show g16 ≠ w.heap.size + 1 by omega) g0, cell_set4 (show g16 ≠ w.heap.size + 1 by omega) g1⟩ (fun hHeld => ?_)
      clear hK K
      refine last_ (i := 3) (N := none) #[true, true, true, true] rfl rfl (by kernel_rfl) (by decide) (fun K hK => ?_)
      refine skip_ (w1 := ?_) (by rfl) rfl ?_ ?_
      rotate_left
      · go_simp
        rfl
      refine hK.out _ _ ?_
      clear hK K
      refine done_ (by kernel_rfl) ?_
      go_wp2
      refine bodyPost_ret (results_cc rfl _ _ (w.heap.size + 1) (w.heap.size + 1 + 1) 47 90 #[.int .i64 0, .int .i64 0, .slice none 0 0, .slice none 0 0] #[.int .i64 q2, .int .i64 q3] (0, 0) (0, 0) _ _ rfl (blk_drew HC.out.res4) Try.underlying47 rfl (by kernel_rfl) rfl (blk_drew HC.out.res5) Try.underlying90 rfl (by kernel_rfl)) rfl ?_
      exact (CB.bad HC.out _ _).drew
end Go.Proofs.Ytofhcjdadhpjdaa.Q
