/- plan.command, by hand, over any script function: but for an expect. -/
import Derived.Test.YtofhcjdadhpjdaaECmd0
namespace Go.Proofs.Ytofhcjdadhpjdaa.Q
set_option linter.unusedSimpArgs false
set_option linter.unusedVariables false
open Go.RowKit Go.Proofs.YtofhcjdadhpjdaaW.PrintWords Go.Proofs.YtofhcjdadhpjdaaW.PrintLast Go.Proofs.YtofhcjdadhpjdaaW.PrintMore

set_option maxHeartbeats 8000000 in
set_option maxRecDepth 1000000 in
theorem plan_command.walkA (scr : ScrF) (hscr : ScrOK scr) (c : SCm) (body : Bool) (A : Option Addr) (cc : Nat) (ok0 : Nat → Prop) (r : POp × Int × Int) (w : World) (hlc : c.f1.length ≤ cc) (hF : Kd.F kWd w ok0 A c.f1.length c.f1)
    (h : plan_command.f scr c body = some r) (hx : ¬ IsExp c) :
    Calls Try.prog 69 #[.agg #[.int .i64 c.f0, .slice A c.f1.length cc], .bool body] w (CPost2 w ok0 r) := by
  have HX := Aside0.mk hx
  clear hx
  obtain ⟨ca, cws⟩ := c
  dsimp only at hlc hF ⊢
  unfold plan_command.f at h
  dsimp only at h
  cases cws with
  | nil => cases h
  | cons w0 args =>
    dsimp only at h
    obtain ⟨ad, A1, c1, rfl, e0, e1, e2, hl1, hF1, hin⟩ := wd_first hF
    have hin2 := Kd.F_bound hF
    have HF := Aside0.mk hF
    obtain ⟨nm, ok, hone⟩ : ∃ nm ok, oneP w0 = (nm, ok) := ⟨_, _, rfl⟩
    have HO : Aside0 (plan_one.f w0.f0 w0.f1 w0.f2 = some (nm, ok)) := ⟨by rw [one_is, hone]⟩
    rw [hone] at h
    dsimp only at h
    have HONE := Aside0.mk hone
    have H' := Aside0.mk h
    clear hone h
    clear hF
    obtain ⟨o, hf, hv, hs⟩ := form_look nm
    have hz : ∀ W : World, (zeroValue 161).run Try.prog W = .ok (.agg #[.int .i64 0, .int .i64 0, .int .i64 0]) W := fun W => by kernel_rfl
    have hlk : ∀ (W : World) (r : Nat), W.heap[r]? = some (.map formEs 9) → (Instr.lookup 163 (.map (some r)) (.string nm) true).run Try.prog W = .ok (.tuple #[.agg #[.int .i64 ((formI nm).getD (0, 0, 0)).1, .int .i64 ((formI nm).getD (0, 0, 0)).2.1, .int .i64 ((formI nm).getD (0, 0, 0)).2.2], .bool (formI nm).isSome]) W := by
      intro W r hb
      have := run_look (mty := 163) Try.underlying163 Try.underlying9 hb nm (hz W) hf
      rw [hv, hs] at this
      exact this
    clear hf hv hs hz o
    obtain ⟨⟨k, lo, hi⟩, hk⟩ : ∃ q, (formI nm).getD (0, 0, 0) = q := ⟨_, rfl⟩
    rw [hk] at hlk
    dsimp only at hlk
    generalize hss : (formI nm).isSome = iss at hlk
    have HK := Aside0.mk (And.intro hk hss)
    clear hk hss
    have hpos : ((0 : Int) < ((args.length : Int) + 1)) = True := eq_true (by omega)
    go_enter Try.func69, Try.ntmps69
    have hadl := World.block_lt_of_cell? _ _ e0
    go_upto_region 1 with (fail)
    have HC := Aside0.mk (CB.made (Below.refl (((w.alloc (.cells #[.int .i64 ca, .slice (some ad) (args.length + 1) cc] 38)).alloc (.cells #[.int .i64 0, .int .i64 0, .slice none 0 0, .slice none 0 0] 47)).alloc (.cells #[.int .i64 0, .int .i64 0] 90)).heap.size _))
    generalize (((w.alloc (.cells #[.int .i64 ca, .slice (some ad) (args.length + 1) cc] 38)).alloc (.cells #[.int .i64 0, .int .i64 0, .slice none 0 0, .slice none 0 0] 47)).alloc (.cells #[.int .i64 0, .int .i64 0] 90)) = wx at HC ⊢
    have n0 := (cell_below HC.out.hB (a := ad) hadl).trans e0
    have n1 := (cell_below HC.out.hB (a := ⟨ad.block, ad.off + 1, none⟩) hadl).trans e1
    have n2 := (cell_below HC.out.hB (a := ⟨ad.block, ad.off + 2, none⟩) hadl).trans e2
    have b20 := (blk_cell HC.out.b2 0).trans rfl
    have b21 := (blk_cell HC.out.b2 1).trans rfl
    go_upto_if 34 with (first | (go_at_call 87; refine (plan_one.calls w0.f0 w0.f1 A1 c1 w0.f2 nm ok _ (Kd.F_now (Kd.F_below hF1 HC.out.hB)) hl1 HO.out).mono ?_; rintro en w1 ⟨rfl, hB⟩; have HC1 := Aside0.mk (HC.out.below hB); clear hB HC b20 b21 n0 n1 n2; have b20 := (blk_cell HC1.out.b2 0).trans rfl; have b21 := (blk_cell HC1.out.b2 1).trans rfl) | (go_at_call 88; refine (plan_forms.calls _).mono ?_; rintro en w2 ⟨rfl, rfl⟩; have hl := hlk _ _ (blk_new w1 _); have HC2 := Aside0.mk (HC1.out.below (below_alloc (Below.refl _ _) (.map formEs 9))); generalize hmm : w1.heap.size = mm at hl ⊢; generalize w1.alloc (.map formEs 9) = w2 at hl HC2 ⊢; clear b20 b21 hmm; have b20 := (blk_cell HC2.out.b2 0).trans rfl; have b21 := (blk_cell HC2.out.b2 1).trans rfl; have hz2 := blk_lt HC2.out.b2))
    have HC := Aside0.mk (CF.made HC2.out #[.int .i64 k, .int .i64 lo, .int .i64 hi])
    have hVA := wd_rest (Kd.F_bound HF.out) hlc
    generalize (if cc = 1 then some ad else some ⟨ad.block, ad.off + 3, none⟩) = A5 at hVA ⊢
    clear HC2 b20 b21 hl HO hlk hz2 hl1 hF1 hin2 e1 e2 HC1
    generalize w2.alloc (.cells #[.int .i64 k, .int .i64 lo, .int .i64 hi] 161) = w3 at HC ⊢
    generalize w2.heap.size = g8 at HC ⊢
    have n0 := (cell_below HC.out.cb.hB (a := ad) hadl).trans e0
    clear e0
    have b20 := (blk_cell HC.out.cb.b2 0).trans rfl
    have b21 := (blk_cell HC.out.cb.b2 1).trans rfl
    have b40 := (blk_cell HC.out.cb.b4 0).trans rfl
    have b41 := (blk_cell HC.out.cb.b4 1).trans rfl
    have b42 := (blk_cell HC.out.cb.b4 2).trans rfl
    have b43 := (blk_cell HC.out.cb.b4 3).trans rfl
    have z40 := blk_frozen HC.out.cb.b4 0
    have z41 := blk_frozen HC.out.cb.b4 1
    have z42 := blk_frozen HC.out.cb.b4 2
    have z43 := blk_frozen HC.out.cb.b4 3
    have b50 := (blk_cell HC.out.cb.b5 0).trans rfl
    have b51 := (blk_cell HC.out.cb.b5 1).trans rfl
    have z50 := blk_frozen HC.out.cb.b5 0
    have z51 := blk_frozen HC.out.cb.b5 1
    have b80 := (blk_cell HC.out.b8 0).trans rfl
    have b81 := (blk_cell HC.out.b8 1).trans rfl
    have b82 := (blk_cell HC.out.b8 2).trans rfl
    have H := H'.out
    clear H'
    cases ok with
    | false =>
      rw [if_pos rfl] at H
      obtain rfl := Option.some.inj H
      clear H
      go_wp2
      refine start_ (n := 9) (S := fun w' => w'.cell? ⟨w.heap.size, 1, none⟩ = some (.slice (some ad) (args.length + 1) cc) ∧ w'.cell? ad = some (.int .i64 w0.f0)) (ds := [8]) #[false, false, false, false, false, false, false, false, false] (by kernel_rfl) rfl rfl ⟨b21, n0⟩ (fun hHeld => ?_)
      refine pure_ (i := 0) (N := some 37) (v := ?_) (a' := ?_) #[true, false, false, false, false, false, false, false, false] rfl rfl (by kernel_rfl) (fun _ _ _ h => h) (Or.inl ⟨by rfl, ?_⟩) ?_ ?_
      rotate_left
      · intro w'
        go_simp
        with_reducible rfl
      rotate_left
      · simp only [Act.put, List.setIfInBounds_toArray, List.set_cons_zero, List.set_cons_succ, i64_w, i32_w]
        rfl
      refine pure_ (i := 1) (N := some 38) (v := ?_) (a' := ?_) #[true, true, false, false, false, false, false, false, false] rfl rfl (by kernel_rfl) (fun _ _ _ h => h) (Or.inl ⟨by rfl, ?_⟩) ?_ ?_
      rotate_left
      · intro w'
        go_simp
        with_reducible rfl
      rotate_left
      · simp only [Act.put, List.setIfInBounds_toArray, List.set_cons_zero, List.set_cons_succ, i64_w, i32_w]
        rfl
      refine take_ (i := 2) (N := some 39) (v := ?_) (a' := ?_) #[true, true, true, false, false, false, false, false, false] rfl rfl (by kernel_rfl) (fun _ _ _ h => h) (Or.inl ⟨by rfl, ?_⟩) hHeld ?_ ?_
      rotate_left
      · rintro w' ⟨s0, s1⟩
        go_simp
        with_reducible rfl
      rotate_left
      · simp only [Act.put, List.setIfInBounds_toArray, List.set_cons_zero, List.set_cons_succ, i64_w, i32_w]
        rfl
      refine pure_ (i := 3) (N := some 40) (v := ?_) (a' := ?_) #[true, true, true, true, false, false, false, false, false] rfl rfl (by kernel_rfl) (fun _ _ _ h => h) (Or.inl ⟨by rfl, ?_⟩) ?_ ?_
      rotate_left
      · intro w'
        go_simp
        with_reducible rfl
      rotate_left
      · simp only [Act.put, List.setIfInBounds_toArray, List.set_cons_zero, List.set_cons_succ, i64_w, i32_w]
        rfl
      refine pure_ (i := 4) (N := some 41) (v := ?_) (a' := ?_) #[true, true, true, true, true, false, false, false, false] rfl rfl (by kernel_rfl) (fun _ _ _ h => h) (Or.inl ⟨by rfl, ?_⟩) ?_ ?_
      rotate_left
      · intro w'
        go_simp
        with_reducible rfl
      rotate_left
      · simp only [Act.put, List.setIfInBounds_toArray, List.set_cons_zero, List.set_cons_succ, i64_w, i32_w]
        rfl
      refine take_ (i := 5) (N := some 42) (v := ?_) (a' := ?_) #[true, true, true, true, true, true, false, false, false] rfl rfl (by kernel_rfl) (fun _ _ _ h => h) (Or.inl ⟨by rfl, ?_⟩) hHeld ?_ ?_
      rotate_left
      · rintro w' ⟨s0, s1⟩
        go_simp
        with_reducible rfl
      rotate_left
      · simp only [Act.put, List.setIfInBounds_toArray, List.set_cons_zero, List.set_cons_succ, i64_w, i32_w]
        rfl
      refine pure_ (i := 6) (N := some 43) (v := ?_) (a' := ?_) #[true, true, true, true, true, true, true, false, false] rfl rfl (by kernel_rfl) (fun _ _ _ h => h) (Or.inl ⟨by rfl, ?_⟩) ?_ ?_
      rotate_left
      · intro w'
        go_simp
        with_reducible rfl
      rotate_left
      · simp only [Act.put, List.setIfInBounds_toArray, List.set_cons_zero, List.set_cons_succ, i64_w, i32_w]
        rfl
      refine one_ (i := 7) (N := none) #[true, true, true, true, true, true, true, true, false] rfl rfl (by kernel_rfl) (by decide) (fun K hK => ?_)
      refine skip_ (w1 := ?_) (by rfl) rfl ?_ ?_
      rotate_left
      · go_simp
        rfl
      refine hK.out _ _ ⟨cell_set4 (show w.heap.size ≠ w.heap.size + 1 by omega) b21, cell_set4 (show ad.block ≠ w.heap.size + 1 by omega) n0⟩ (fun hHeld => ?_)
      clear hK K
      refine last_ (i := 8) (N := none) #[true, true, true, true, true, true, true, true, true] rfl rfl (by kernel_rfl) (by decide) (fun K hK => ?_)
      refine skip_ (w1 := ?_) (by rfl) rfl ?_ ?_
      rotate_left
      · go_simp
        rfl
      refine hK.out _ _ ?_
      clear hK K
      refine done_ (by kernel_rfl) ?_
      go_wp2
      refine bodyPost_ret (results_cc rfl _ _ (w.heap.size + 1) (w.heap.size + 1 + 1) 47 90 #[.int .i64 0, .int .i64 0, .slice none 0 0, .slice none 0 0] #[.int .i64 w0.f0, .int .i64 4] (0, 0) (0, 0) _ _ rfl (blk_drew HC.out.cb.res4) Try.underlying47 rfl (by kernel_rfl) rfl (blk_drew HC.out.cb.res5) Try.underlying90 rfl (by kernel_rfl)) rfl ?_
      exact (CB.bad HC.out.cb _ _).drew
    | true =>
      rw [if_neg (by decide)] at H
      obtain ⟨hk, hss⟩ := HK.out
      clear HK
      cases hfm : formI nm with
      | none =>
        rw [hfm] at H hk hss
        obtain rfl := Option.some.inj H
        obtain rfl : false = iss := hss
        clear H hk hfm
        go_wp2
        refine start_ (n := 6) (S := fun w' => w'.cell? ⟨w.heap.size, 0, none⟩ = some (.int .i64 ca)) (ds := [5]) #[false, false, false, false, false, false] (by kernel_rfl) rfl rfl (b20) (fun hHeld => ?_)
        refine pure_ (i := 0) (N := some 47) (v := ?_) (a' := ?_) #[true, false, false, false, false, false] rfl rfl (by kernel_rfl) (fun _ _ _ h => h) (Or.inl ⟨by rfl, ?_⟩) ?_ ?_
        rotate_left
        · intro w'
          go_simp
          with_reducible rfl
        rotate_left
        · simp only [Act.put, List.setIfInBounds_toArray, List.set_cons_zero, List.set_cons_succ, i64_w, i32_w]
          rfl
        refine pure_ (i := 1) (N := some 48) (v := ?_) (a' := ?_) #[true, true, false, false, false, false] rfl rfl (by kernel_rfl) (fun _ _ _ h => h) (Or.inl ⟨by rfl, ?_⟩) ?_ ?_
        rotate_left
        · intro w'
          go_simp
          with_reducible rfl
        rotate_left
        · simp only [Act.put, List.setIfInBounds_toArray, List.set_cons_zero, List.set_cons_succ, i64_w, i32_w]
          rfl
        refine take_ (i := 2) (N := some 49) (v := ?_) (a' := ?_) #[true, true, true, false, false, false] rfl rfl (by kernel_rfl) (fun _ _ _ h => h) (Or.inl ⟨by rfl, ?_⟩) hHeld ?_ ?_
        rotate_left
        · intro w' s0
          go_simp
          with_reducible rfl
        rotate_left
        · simp only [Act.put, List.setIfInBounds_toArray, List.set_cons_zero, List.set_cons_succ, i64_w, i32_w]
          rfl
        refine pure_ (i := 3) (N := some 50) (v := ?_) (a' := ?_) #[true, true, true, true, false, false] rfl rfl (by kernel_rfl) (fun _ _ _ h => h) (Or.inl ⟨by rfl, ?_⟩) ?_ ?_
        rotate_left
        · intro w'
          go_simp
          with_reducible rfl
        rotate_left
        · simp only [Act.put, List.setIfInBounds_toArray, List.set_cons_zero, List.set_cons_succ, i64_w, i32_w]
          rfl
        refine one_ (i := 4) (N := none) #[true, true, true, true, true, false] rfl rfl (by kernel_rfl) (by decide) (fun K hK => ?_)
        refine skip_ (w1 := ?_) (by rfl) rfl ?_ ?_
        rotate_left
        · go_simp
          rfl
        refine hK.out _ _ (cell_set4 (show w.heap.size ≠ w.heap.size + 1 by omega) b20) (fun hHeld => ?_)
        clear hK K
        refine last_ (i := 5) (N := none) #[true, true, true, true, true, true] rfl rfl (by kernel_rfl) (by decide) (fun K hK => ?_)
        refine skip_ (w1 := ?_) (by rfl) rfl ?_ ?_
        rotate_left
        · go_simp
          rfl
        refine hK.out _ _ ?_
        clear hK K
        refine done_ (by kernel_rfl) ?_
        go_wp2
        refine bodyPost_ret (results_cc rfl _ _ (w.heap.size + 1) (w.heap.size + 1 + 1) 47 90 #[.int .i64 0, .int .i64 0, .slice none 0 0, .slice none 0 0] #[.int .i64 ca, .int .i64 8] (0, 0) (0, 0) _ _ rfl (blk_drew HC.out.cb.res4) Try.underlying47 rfl (by kernel_rfl) rfl (blk_drew HC.out.cb.res5) Try.underlying90 rfl (by kernel_rfl)) rfl ?_
        exact (CB.bad HC.out.cb _ _).drew
      | some q =>
        rw [hfm] at H hk hss
        obtain rfl : q = (k, lo, hi) := hk
        obtain rfl : true = iss := hss
        dsimp only at H
        have HFM := Aside0.mk hfm
        clear hfm
        by_cases h1 : (args.length : Int) < lo
        · have h1b : decide ((args.length : Int) < lo) = true := decide_eq_true h1
          rw [if_pos (.inl h1)] at H
          obtain rfl := Option.some.inj H
          clear H h1
          go_wp2
          refine start_ (n := 6) (S := fun w' => w'.cell? ⟨w.heap.size, 0, none⟩ = some (.int .i64 ca)) (ds := [5]) #[false, false, false, false, false, false] (by kernel_rfl) rfl rfl (b20) (fun hHeld => ?_)
          refine pure_ (i := 0) (N := some 64) (v := ?_) (a' := ?_) #[true, false, false, false, false, false] rfl rfl (by kernel_rfl) (fun _ _ _ h => h) (Or.inl ⟨by rfl, ?_⟩) ?_ ?_
          rotate_left
          · intro w'
            go_simp
            with_reducible rfl
          rotate_left
          · simp only [Act.put, List.setIfInBounds_toArray, List.set_cons_zero, List.set_cons_succ, i64_w, i32_w]
            rfl
          refine pure_ (i := 1) (N := some 65) (v := ?_) (a' := ?_) #[true, true, false, false, false, false] rfl rfl (by kernel_rfl) (fun _ _ _ h => h) (Or.inl ⟨by rfl, ?_⟩) ?_ ?_
          rotate_left
          · intro w'
            go_simp
            with_reducible rfl
          rotate_left
          · simp only [Act.put, List.setIfInBounds_toArray, List.set_cons_zero, List.set_cons_succ, i64_w, i32_w]
            rfl
          refine take_ (i := 2) (N := some 66) (v := ?_) (a' := ?_) #[true, true, true, false, false, false] rfl rfl (by kernel_rfl) (fun _ _ _ h => h) (Or.inl ⟨by rfl, ?_⟩) hHeld ?_ ?_
          rotate_left
          · intro w' s0
            go_simp
            with_reducible rfl
          rotate_left
          · simp only [Act.put, List.setIfInBounds_toArray, List.set_cons_zero, List.set_cons_succ, i64_w, i32_w]
            rfl
          refine pure_ (i := 3) (N := some 67) (v := ?_) (a' := ?_) #[true, true, true, true, false, false] rfl rfl (by kernel_rfl) (fun _ _ _ h => h) (Or.inl ⟨by rfl, ?_⟩) ?_ ?_
          rotate_left
          · intro w'
            go_simp
            with_reducible rfl
          rotate_left
          · simp only [Act.put, List.setIfInBounds_toArray, List.set_cons_zero, List.set_cons_succ, i64_w, i32_w]
            rfl
          refine one_ (i := 4) (N := none) #[true, true, true, true, true, false] rfl rfl (by kernel_rfl) (by decide) (fun K hK => ?_)
          refine skip_ (w1 := ?_) (by rfl) rfl ?_ ?_
          rotate_left
          · go_simp
            rfl
          refine hK.out _ _ (cell_set4 (show w.heap.size ≠ w.heap.size + 1 by omega) b20) (fun hHeld => ?_)
          clear hK K
          refine last_ (i := 5) (N := none) #[true, true, true, true, true, true] rfl rfl (by kernel_rfl) (by decide) (fun K hK => ?_)
          refine skip_ (w1 := ?_) (by rfl) rfl ?_ ?_
          rotate_left
          · go_simp
            rfl
          refine hK.out _ _ ?_
          clear hK K
          refine done_ (by kernel_rfl) ?_
          go_wp2
          refine bodyPost_ret (results_cc rfl _ _ (w.heap.size + 1) (w.heap.size + 1 + 1) 47 90 #[.int .i64 0, .int .i64 0, .slice none 0 0, .slice none 0 0] #[.int .i64 ca, .int .i64 2] (0, 0) (0, 0) _ _ rfl (blk_drew HC.out.cb.res4) Try.underlying47 rfl (by kernel_rfl) rfl (blk_drew HC.out.cb.res5) Try.underlying90 rfl (by kernel_rfl)) rfl ?_
          exact (CB.bad HC.out.cb _ _).drew
        have h1b : decide ((args.length : Int) < lo) = false := decide_eq_false h1
        by_cases h2 : hi < (args.length : Int)
        · have h2b : decide (hi < (args.length : Int)) = true := decide_eq_true h2
          rw [if_pos (.inr h2)] at H
          obtain rfl := Option.some.inj H
          clear H h1 h2
          go_wp2
          refine start_ (n := 6) (S := fun w' => w'.cell? ⟨w.heap.size, 0, none⟩ = some (.int .i64 ca)) (ds := [5]) #[false, false, false, false, false, false] (by kernel_rfl) rfl rfl (b20) (fun hHeld => ?_)
          refine pure_ (i := 0) (N := some 64) (v := ?_) (a' := ?_) #[true, false, false, false, false, false] rfl rfl (by kernel_rfl) (fun _ _ _ h => h) (Or.inl ⟨by rfl, ?_⟩) ?_ ?_
          rotate_left
          · intro w'
            go_simp
            with_reducible rfl
          rotate_left
          · simp only [Act.put, List.setIfInBounds_toArray, List.set_cons_zero, List.set_cons_succ, i64_w, i32_w]
            rfl
          refine pure_ (i := 1) (N := some 65) (v := ?_) (a' := ?_) #[true, true, false, false, false, false] rfl rfl (by kernel_rfl) (fun _ _ _ h => h) (Or.inl ⟨by rfl, ?_⟩) ?_ ?_
          rotate_left
          · intro w'
            go_simp
            with_reducible rfl
          rotate_left
          · simp only [Act.put, List.setIfInBounds_toArray, List.set_cons_zero, List.set_cons_succ, i64_w, i32_w]
            rfl
          refine take_ (i := 2) (N := some 66) (v := ?_) (a' := ?_) #[true, true, true, false, false, false] rfl rfl (by kernel_rfl) (fun _ _ _ h => h) (Or.inl ⟨by rfl, ?_⟩) hHeld ?_ ?_
          rotate_left
          · intro w' s0
            go_simp
            with_reducible rfl
          rotate_left
          · simp only [Act.put, List.setIfInBounds_toArray, List.set_cons_zero, List.set_cons_succ, i64_w, i32_w]
            rfl
          refine pure_ (i := 3) (N := some 67) (v := ?_) (a' := ?_) #[true, true, true, true, false, false] rfl rfl (by kernel_rfl) (fun _ _ _ h => h) (Or.inl ⟨by rfl, ?_⟩) ?_ ?_
          rotate_left
          · intro w'
            go_simp
            with_reducible rfl
          rotate_left
          · simp only [Act.put, List.setIfInBounds_toArray, List.set_cons_zero, List.set_cons_succ, i64_w, i32_w]
            rfl
          refine one_ (i := 4) (N := none) #[true, true, true, true, true, false] rfl rfl (by kernel_rfl) (by decide) (fun K hK => ?_)
          refine skip_ (w1 := ?_) (by rfl) rfl ?_ ?_
          rotate_left
          · go_simp
            rfl
          refine hK.out _ _ (cell_set4 (show w.heap.size ≠ w.heap.size + 1 by omega) b20) (fun hHeld => ?_)
          clear hK K
          refine last_ (i := 5) (N := none) #[true, true, true, true, true, true] rfl rfl (by kernel_rfl) (by decide) (fun K hK => ?_)
          refine skip_ (w1 := ?_) (by rfl) rfl ?_ ?_
          rotate_left
          · go_simp
            rfl
          refine hK.out _ _ ?_
          clear hK K
          refine done_ (by kernel_rfl) ?_
          go_wp2
          refine bodyPost_ret (results_cc rfl _ _ (w.heap.size + 1) (w.heap.size + 1 + 1) 47 90 #[.int .i64 0, .int .i64 0, .slice none 0 0, .slice none 0 0] #[.int .i64 ca, .int .i64 2] (0, 0) (0, 0) _ _ rfl (blk_drew HC.out.cb.res4) Try.underlying47 rfl (by kernel_rfl) rfl (blk_drew HC.out.cb.res5) Try.underlying90 rfl (by kernel_rfl)) rfl ?_
          exact (CB.bad HC.out.cb _ _).drew
        have h2b : decide (hi < (args.length : Int)) = false := decide_eq_false h2
        rw [if_neg (by omega)] at H
        have HLH := Aside0.mk (And.intro (Int.not_lt.1 h1) (Int.not_lt.1 h2))
        clear h1 h2
        by_cases h3 : k = 8 ∧ body = false
        · obtain ⟨rfl, rfl⟩ := h3
          rw [if_pos ⟨rfl, rfl⟩] at H
          obtain rfl := Option.some.inj H
          clear H
          go_wp2
          refine start_ (n := 6) (S := fun w' => w'.cell? ⟨w.heap.size, 0, none⟩ = some (.int .i64 ca)) (ds := [5]) #[false, false, false, false, false, false] (by kernel_rfl) rfl rfl (b20) (fun hHeld => ?_)
          refine pure_ (i := 0) (N := some 76) (v := ?_) (a' := ?_) #[true, false, false, false, false, false] rfl rfl (by kernel_rfl) (fun _ _ _ h => h) (Or.inl ⟨by rfl, ?_⟩) ?_ ?_
          rotate_left
          · intro w'
            go_simp
            with_reducible rfl
          rotate_left
          · simp only [Act.put, List.setIfInBounds_toArray, List.set_cons_zero, List.set_cons_succ, i64_w, i32_w]
            rfl
          refine pure_ (i := 1) (N := some 77) (v := ?_) (a' := ?_) #[true, true, false, false, false, false] rfl rfl (by kernel_rfl) (fun _ _ _ h => h) (Or.inl ⟨by rfl, ?_⟩) ?_ ?_
          rotate_left
          · intro w'
            go_simp
            with_reducible rfl
          rotate_left
          · simp only [Act.put, List.setIfInBounds_toArray, List.set_cons_zero, List.set_cons_succ, i64_w, i32_w]
            rfl
          refine take_ (i := 2) (N := some 78) (v := ?_) (a' := ?_) #[true, true, true, false, false, false] rfl rfl (by kernel_rfl) (fun _ _ _ h => h) (Or.inl ⟨by rfl, ?_⟩) hHeld ?_ ?_
          rotate_left
          · intro w' s0
            go_simp
            with_reducible rfl
          rotate_left
          · simp only [Act.put, List.setIfInBounds_toArray, List.set_cons_zero, List.set_cons_succ, i64_w, i32_w]
            rfl
          refine pure_ (i := 3) (N := some 79) (v := ?_) (a' := ?_) #[true, true, true, true, false, false] rfl rfl (by kernel_rfl) (fun _ _ _ h => h) (Or.inl ⟨by rfl, ?_⟩) ?_ ?_
          rotate_left
          · intro w'
            go_simp
            with_reducible rfl
          rotate_left
          · simp only [Act.put, List.setIfInBounds_toArray, List.set_cons_zero, List.set_cons_succ, i64_w, i32_w]
            rfl
          refine one_ (i := 4) (N := none) #[true, true, true, true, true, false] rfl rfl (by kernel_rfl) (by decide) (fun K hK => ?_)
          refine skip_ (w1 := ?_) (by rfl) rfl ?_ ?_
          rotate_left
          · go_simp
            rfl
          refine hK.out _ _ (cell_set4 (show w.heap.size ≠ w.heap.size + 1 by omega) b20) (fun hHeld => ?_)
          clear hK K
          refine last_ (i := 5) (N := none) #[true, true, true, true, true, true] rfl rfl (by kernel_rfl) (by decide) (fun K hK => ?_)
          refine skip_ (w1 := ?_) (by rfl) rfl ?_ ?_
          rotate_left
          · go_simp
            rfl
          refine hK.out _ _ ?_
          clear hK K
          refine done_ (by kernel_rfl) ?_
          go_wp2
          refine bodyPost_ret (results_cc rfl _ _ (w.heap.size + 1) (w.heap.size + 1 + 1) 47 90 #[.int .i64 0, .int .i64 0, .slice none 0 0, .slice none 0 0] #[.int .i64 ca, .int .i64 9] (0, 0) (0, 0) _ _ rfl (blk_drew HC.out.cb.res4) Try.underlying47 rfl (by kernel_rfl) rfl (blk_drew HC.out.cb.res5) Try.underlying90 rfl (by kernel_rfl)) rfl ?_
          exact (CB.bad HC.out.cb _ _).drew
        rw [if_neg h3] at H
        by_cases h4 : k = 3
        · obtain rfl := h4
          exact absurd ⟨w0, args, lo, hi, rfl, by rw [HONE.out], by rw [HONE.out]; exact HFM.out, HLH.out.1, HLH.out.2⟩ HX.out
        · rw [if_pos h4] at H
          obtain rfl := Option.some.inj H
          have h4b : (k != 3) = true := by simp [h4]
          obtain ⟨-, hlA, hFA⟩ := Kd.V_at hVA
          clear H h4
          by_cases h8 : k = 8
          · obtain rfl := h8
            obtain rfl : true = body := by
              cases body with
              | false => exact absurd ⟨rfl, rfl⟩ h3
              | true => rfl
            clear h3
            go_wp2
            refine bodyPost_ret (results_cc rfl _ _ (w.heap.size + 1) (w.heap.size + 1 + 1) 47 90 #[.int .i64 8, .int .i64 ca, .slice A5 args.length (cc - 1), .slice none 0 0] #[.int .i64 0, .int .i64 0] (0, 0) (0, 0) _ _ rfl (HC.out.cb.res4) Try.underlying47 rfl (by kernel_rfl) rfl (HC.out.cb.res5) Try.underlying90 rfl (by kernel_rfl)) rfl ?_
            exact CB.plain HC.out.cb 8 ca hlA hFA
          · have h8b : (k == 8) = false := beq_eq_false_iff_ne.2 h8
            clear h3 h8
            go_wp2
            refine bodyPost_ret (results_cc rfl _ _ (w.heap.size + 1) (w.heap.size + 1 + 1) 47 90 #[.int .i64 k, .int .i64 ca, .slice A5 args.length (cc - 1), .slice none 0 0] #[.int .i64 0, .int .i64 0] (0, 0) (0, 0) _ _ rfl (HC.out.cb.res4) Try.underlying47 rfl (by kernel_rfl) rfl (HC.out.cb.res5) Try.underlying90 rfl (by kernel_rfl)) rfl ?_
            exact CB.plain HC.out.cb k ca hlA hFA
end Go.Proofs.Ytofhcjdadhpjdaa.Q
