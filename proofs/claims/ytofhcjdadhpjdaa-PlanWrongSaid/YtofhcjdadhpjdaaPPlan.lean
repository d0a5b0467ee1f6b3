/- plan's printed functions over texts: they always tell, and the same at another place. How many operations a text can make; plan.Count tells it. PlanJoins' plain law: what two scripts with a line's end between come to. -/
import Derived.Test.YtofhcjdadhpjdaaEScript
namespace Go.Proofs.Ytofhcjdadhpjdaa.Q
set_option linter.unusedSimpArgs false
set_option linter.unusedVariables false
open Go.RowKit Go.Proofs.YtofhcjdadhpjdaaW.PrintWords Go.Proofs.YtofhcjdadhpjdaaW.PrintLast Go.Proofs.YtofhcjdadhpjdaaW.PrintMore

/-- The text of a braced word is told, and shorter than m. -/
def SOpen (m : Nat) (x : SWd) : Prop := x.f1 = 2 → ∃ t, openP x = some t ∧ t.size < m
theorem SOpen.mono {m m' : Nat} {x : SWd} (h : SOpen m x) (hm : m ≤ m') : SOpen m' x := fun hk => by obtain ⟨t, h1, h2⟩ := h hk; exact ⟨t, h1, by omega⟩
theorem open_nil (a b : Int) : openP ⟨a, b, []⟩ = some ⟨#[]⟩ := rfl
theorem open_one (a b : Int) (t : ByteArray) (ht : t.size ≤ 16777216) : openP ⟨a, b, [⟨false, t⟩]⟩ = some t := by
  unfold openP plan_open.f
  show plan_open.l0 2 (⟨#[]⟩ : ByteArray) [⟨false, t⟩] 1 0 = _
  have h0 : rd_T43 [(⟨false, t⟩ : S43)] 0 = ⟨false, t⟩ := rfl
  have hs : (ByteArray.mk #[]).size = 0 := rfl
  rw [plan_open.l0, if_pos (show (0 : Int) < 1 by decide), if_pos (by decide), if_pos (by simp), h0]
  dsimp only
  rw [if_pos (by omega), show wrap64 ((0 : Int) + 1) = 1 from (wr_id (by decide) (by decide)).trans rfl, plan_open.l0, if_neg (by decide)]
  exact congrArg some (ba_ext (by simp [lst]))
theorem toW_open {N : Nat} {w : M.Word} (h : M.WOpen N w) (hN : 0 < N) (hN2 : N ≤ 16777216) : SOpen N (toW w) := by
  intro hk
  have hk2 : w.kind = 2 := by
    have : (w.kind : Int) = 2 := hk
    omega
  rcases h hk2 with h | ⟨t, h, ht⟩
  · refine ⟨⟨#[]⟩, ?_, hN⟩
    unfold toW
    rw [h]
    exact open_nil _ _
  · have hsz : (bsS t).size = t.length := rfl
    refine ⟨bsS t, ?_, by rw [hsz]; exact ht⟩
    unfold toW
    rw [h]
    exact open_one _ _ _ (by rw [hsz]; omega)
/-- A command that may be taken: it has words, braced ones shorter than m. -/
def CGood (m : Nat) (c : SCm) : Prop := c.f1 ≠ [] ∧ ∀ x ∈ c.f1, SOpen m x
theorem CGood.mono {m m' : Nat} {c : SCm} (h : CGood m c) (hm : m ≤ m') : CGood m' c := ⟨h.1, fun x hx => (h.2 x hx).mono hm⟩
theorem mvW_open {m : Nat} {b : Int} {x : SWd} (h : SOpen m x) : SOpen m (mvW b x) := h
/-- plan.parse always tells; its commands are good ones. -/
theorem plan_parse_some (s : ByteArray) (b : Int) : ∃ l x y, plan_parse.f s b = some (l, x, y) ∧ ∀ c ∈ l, CGood s.size c := by
  unfold plan_parse.f
  by_cases hs : s.size ≤ 16777216
  · have hp := tcl_parse_is s hs
    cases hm : M.parseM [] (lst s) 0 with
    | error x =>
      obtain ⟨x, y⟩ := x
      rw [hm] at hp
      rw [hp.1, Option.bind_some]
      dsimp only
      rw [if_neg hp.2]
      exact ⟨_, _, _, rfl, by simp⟩
    | ok cs =>
      rw [hm] at hp
      dsimp only at hp
      rw [hp, Option.bind_some]
      dsimp only
      rw [if_pos rfl]
      refine ⟨_, _, _, rfl, fun c hc => ?_⟩
      have ho := M.parseM_open hm (Nat.le_of_eq (lst_len s)) (by simp)
      obtain ⟨c1, hc1, rfl⟩ := List.mem_map.1 hc
      obtain ⟨c2, hc2, rfl⟩ := List.mem_map.1 hc1
      obtain ⟨⟨w, l, hw, -⟩, ho2⟩ := ho c2 hc2
      have hpos : 0 < s.size := by
        rcases Nat.eq_zero_or_pos s.size with h0 | h0
        · have hl : lst s = [] := List.eq_nil_of_length_eq_zero (by rw [lst_len]; exact h0)
          rw [hl, M.parseM] at hm
          cases hm
          cases hc2
        · exact h0
      refine ⟨?_, fun x hx => ?_⟩
      · show ((c2.words.map toW).map (mvW b)) ≠ []
        rw [hw]
        simp
      · obtain ⟨x1, hx1, rfl⟩ := List.mem_map.1 (show x ∈ (c2.words.map toW).map (mvW b) from hx)
        obtain ⟨x2, hx2, rfl⟩ := List.mem_map.1 hx1
        exact mvW_open (toW_open (ho2 x2 hx2) hpos hs)
  · have hf : tcl_Parse.f s = some ([], 0, 6) := by unfold tcl_Parse.f; rw [if_pos (by omega)]
    rw [hf, Option.bind_some]
    dsimp only
    rw [if_neg (by decide)]
    exact ⟨_, _, _, rfl, by simp⟩

/-- The same, so much further on. -/
def ShW (d : Int) (x y : SWd) : Prop := y.f0 = wrap64 (x.f0 + d) ∧ y.f1 = x.f1 ∧ y.f2 = x.f2
inductive All2 {α β : Type} (R : α → β → Prop) : List α → List β → Prop
  | nil : All2 R [] []
  | cons {a b l m} : R a b → All2 R l m → All2 R (a :: l) (b :: m)
def ShC (d : Int) (x y : SCm) : Prop := y.f0 = wrap64 (x.f0 + d) ∧ All2 (ShW d) x.f1 y.f1
section
variable {α β : Type} {R : α → β → Prop}
theorem All2.length {l : List α} {m : List β} (h : All2 R l m) : l.length = m.length := by
  induction h with
  | nil => rfl
  | cons _ _ ih => rw [List.length_cons, List.length_cons, ih]
theorem All2.append {l l' : List α} {m m' : List β} (h : All2 R l m) (h' : All2 R l' m') : All2 R (l ++ l') (m ++ m') := by
  induction h with
  | nil => exact h'
  | cons h1 _ ih => exact .cons h1 ih
theorem All2.of_map {γ : Type} (l : List γ) (f : γ → α) (g : γ → β) (h : ∀ x, R (f x) (g x)) : All2 R (l.map f) (l.map g) := by
  induction l with
  | nil => exact .nil
  | cons x l ih => exact .cons (h x) ih
theorem All2.flat {γ δ : Type} {R' : γ → δ → Prop} {f : γ → List α} {g : δ → List β} {l : List γ} {m : List δ} (h : All2 R' l m) (hf : ∀ x y, R' x y → All2 R (f x) (g y)) : All2 R (l.flatMap f) (m.flatMap g) := by
  induction h with
  | nil => exact .nil
  | cons h1 _ ih => rw [List.flatMap_cons, List.flatMap_cons]; exact (hf _ _ h1).append ih
end
theorem ShW.open_ {d : Int} {x y : SWd} (h : ShW d x y) : openP y = openP x := by
  obtain ⟨a, b, l⟩ := x
  obtain ⟨a', b', l'⟩ := y
  obtain ⟨-, rfl, rfl⟩ := h
  rfl
theorem ShW.one_ {d : Int} {x y : SWd} (h : ShW d x y) : oneP y = oneP x := by
  obtain ⟨a, b, l⟩ := x
  obtain ⟨a', b', l'⟩ := y
  obtain ⟨-, rfl, rfl⟩ := h
  rfl
theorem ShW.flag_ {d : Int} {x y : SWd} (h : ShW d x y) : flagP y = flagP x := by
  unfold flagP
  rw [h.one_, h.2.1]
theorem mvW_sh (b d : Int) (x : SWd) : ShW d (mvW b x) (mvW (wrap64 (b + d)) x) := by
  refine ⟨?_, rfl, rfl⟩
  show wrap64 (x.f0 + wrap64 (b + d)) = wrap64 (wrap64 (x.f0 + b) + d)
  unfold wrap64
  omega
theorem mvC_sh (b d : Int) (c : SCm) : ShC d (mvC b c) (mvC (wrap64 (b + d)) c) := by
  refine ⟨?_, All2.of_map _ _ _ (mvW_sh b d)⟩
  show wrap64 (c.f0 + wrap64 (b + d)) = wrap64 (wrap64 (c.f0 + b) + d)
  unfold wrap64
  omega
/-- plan.parse at another place. -/
theorem plan_parse_sh (s : ByteArray) (b d : Int) : ∃ l x y l' x', plan_parse.f s b = some (l, x, y) ∧ plan_parse.f s (wrap64 (b + d)) = some (l', x', y) ∧ (∀ c ∈ l, CGood s.size c) ∧ (y = 0 → x = 0 ∧ x' = 0 ∧ All2 (ShC d) l l') ∧ (y ≠ 0 → l = [] ∧ l' = [] ∧ x' = wrap64 (x + d)) := by
  obtain ⟨l, x, y, h, hg⟩ := plan_parse_some s b
  refine ⟨l, x, y, ?_⟩
  unfold plan_parse.f at h ⊢
  obtain ⟨⟨l1, a1, e1⟩, hc, h⟩ := Option.bind_eq_some_iff.1 h
  rw [hc, Option.bind_some, Option.bind_some]
  dsimp only at h ⊢
  by_cases he : e1 = 0
  · rw [if_pos he] at h
    simp only [Option.some.injEq, Prod.mk.injEq] at h
    obtain ⟨rfl, rfl, rfl⟩ := h
    rw [if_pos he, if_pos he]
    exact ⟨_, _, rfl, rfl, hg, fun _ => ⟨rfl, rfl, All2.of_map _ _ _ (mvC_sh b d)⟩, fun h => absurd rfl h⟩
  · rw [if_neg he] at h
    simp only [Option.some.injEq, Prod.mk.injEq] at h
    obtain ⟨rfl, rfl, rfl⟩ := h
    rw [if_neg he, if_neg he]
    refine ⟨_, _, rfl, rfl, hg, fun h => absurd h he, fun _ => ⟨rfl, rfl, ?_⟩⟩
    unfold wrap64
    omega
/-! How many operations there are, with those of bodies. -/
mutual
def cOp : POp → Nat
  | .mk _ _ _ l => 1 + cArms l
def cArms : List (Int × SWd × List POp) → Nat
  | [] => 0
  | a :: l => cArm a + cArms l
def cArm : Int × SWd × List POp → Nat
  | (_, p) => cArm2 p
def cArm2 : SWd × List POp → Nat
  | (_, b) => cOps b
def cOps : List POp → Nat
  | [] => 0
  | o :: l => cOp o + cOps l
end
theorem cArm_is (a : PArm) : cArm a = cOps a.2.2 := by obtain ⟨k, w, b⟩ := a; simp only [cArm, cArm2]
theorem cArms_append (l m : List PArm) : cArms (l ++ m) = cArms l + cArms m := by
  induction l with
  | nil => simp [cArms]
  | cons a l ih => rw [List.cons_append, cArms, cArms, ih]; omega
theorem cOps_append (l m : List POp) : cOps (l ++ m) = cOps l + cOps m := by
  induction l with
  | nil => simp [cOps]
  | cons a l ih => rw [List.cons_append, cOps, cOps, ih]; omega
/-- An operation, an arm, so much further on. -/
def ShO (d : Int) (x y : POp) : Prop := y.k = x.k ∧ y.at_ = wrap64 (x.at_ + d) ∧ y.ws.length = x.ws.length ∧ y.arms.length = x.arms.length ∧ cOp y = cOp x
def ShA (x y : PArm) : Prop := cOps y.2.2 = cOps x.2.2
theorem ShA.all {l m : List PArm} (h : All2 ShA l m) : cArms m = cArms l := by
  induction h with
  | nil => rfl
  | cons h1 _ ih => rw [cArms, cArms, cArm_is, cArm_is, ih, h1]
theorem ShO.all {d : Int} {l m : List POp} (h : All2 (ShO d) l m) : cOps m = cOps l := by
  induction h with
  | nil => rfl
  | cons h1 _ ih => rw [cOps, cOps, ih, h1.2.2.2.2]
/-- Two answers at two places. -/
def ShR {α : Type} (d : Int) (R : α → α → Prop) (z : α) (r r' : α × Int × Int) : Prop := r'.2.2 = r.2.2 ∧ (r.2.2 = 0 → r.2.1 = 0 ∧ r'.2.1 = 0 ∧ R r.1 r'.1) ∧ (r.2.2 ≠ 0 → r.1 = z ∧ r'.1 = z ∧ r'.2.1 = wrap64 (r.2.1 + d))
theorem ShR.ok {α : Type} {d : Int} {R : α → α → Prop} {z x y : α} (h : R x y) : ShR d R z (x, 0, 0) (y, 0, 0) := ⟨rfl, fun _ => ⟨rfl, rfl, h⟩, fun h => absurd rfl h⟩
theorem ShR.bad {α : Type} {d : Int} {R : α → α → Prop} {z : α} {x e : Int} (he : e ≠ 0) : ShR d R z (z, x, e) (z, wrap64 (x + d), e) := ⟨rfl, fun h => absurd h he, fun _ => ⟨rfl, rfl, rfl⟩⟩
/-- A script function that tells of texts shorter than m, and the same at another place. -/
def ScrSh (m : Nat) (scr : ScrF) : Prop := ∀ (t : ByteArray) (b d : Int) (body : Bool), t.size < m → ∃ r r', scr t b body = some r ∧ scr t (wrap64 (b + d)) body = some r' ∧ ShR d (All2 (ShO d)) [] r r'

theorem body_sh {m : Nat} {scr : ScrF} (hs : ScrSh m scr) {d : Int} {l l' : List SWd} (h : All2 (ShW d) l l') (hg : ∀ x ∈ l, SOpen m x) :
    ∃ l2 b x y l2' b' x', bodyP scr l = some (l2, b, x, y) ∧ bodyP scr l' = some (l2', b', x', y) ∧ All2 (ShW d) l2 l2' ∧ l2.length ≤ l.length ∧ (∀ x ∈ l2, x ∈ l) ∧ (y = 0 → cOps b' = cOps b) ∧ (y ≠ 0 → x' = wrap64 (x + d)) := by
  cases h with
  | nil => exact ⟨[], [], 0, 0, [], [], 0, rfl, rfl, .nil, Nat.le_refl _, by simp, fun _ => rfl, fun h => absurd rfl h⟩
  | @cons a a' l l' h1 h2 =>
    by_cases hk : a.f1 = 2
    · obtain ⟨t, ht, hlt⟩ := hg a (by simp) hk
      obtain ⟨⟨o, x, y⟩, ⟨o', x', y'⟩, e1, e2, hy, h3, h4⟩ := hs t (wrap64 (a.f0 + 1)) d true hlt
      dsimp only at hy h3 h4
      subst hy
      have hb : wrap64 (a'.f0 + 1) = wrap64 (wrap64 (a.f0 + 1) + d) := by rw [h1.1]; unfold wrap64; omega
      refine ⟨l, o, x, y', l', o', x', ?_, ?_, h2, by simp, fun x hx => by simp [hx], fun h => ShO.all (h3 h).2.2, fun h => (h4 h).2.2⟩
      · show (if a.f1 = 2 then (openP a).bind fun t => (scr t (wrap64 (a.f0 + 1)) true).bind fun r => some (l, r.1, r.2.1, r.2.2) else _) = _
        rw [if_pos hk, ht, Option.bind_some, e1]
        rfl
      · show (if a'.f1 = 2 then (openP a').bind fun t => (scr t (wrap64 (a'.f0 + 1)) true).bind fun r => some (l', r.1, r.2.1, r.2.2) else _) = _
        rw [if_pos (by rw [h1.2.1]; exact hk), h1.open_, ht, Option.bind_some, hb, e2]
        rfl
    · refine ⟨a :: l, [], 0, 0, a' :: l', [], 0, ?_, ?_, .cons h1 h2, Nat.le_refl _, fun _ hx => hx, fun _ => rfl, fun h => absurd rfl h⟩
      · show (if a.f1 = 2 then _ else some (a :: l, [], 0, 0)) = _
        rw [if_neg hk]
      · show (if a'.f1 = 2 then _ else some (a' :: l', [], 0, 0)) = _
        rw [if_neg (by rw [h1.2.1]; exact hk)]
theorem list_cons (scr : ScrF) (n : Nat) (first : SWd) (l1 : List SWd) (arms : List PArm) : plan_list.l0 scr (n + 1) (first :: l1) arms =
    if arms.length = 64 then some ([], first.f0, 10) else
      if (flagP first).2 = true then
        if (flagP first).1 < 2 then
          match l1 with
          | [] => some ([], first.f0, 2)
          | p :: l2 => plan_list.j0' (plan_list.l0 scr n) scr l2 (flagP first).1 p arms
        else plan_list.j0' (plan_list.l0 scr n) scr l1 (flagP first).1 zWd arms
      else plan_list.j0' (plan_list.l0 scr n) scr l1 1 first arms := by
  rw [plan_list.l0.eq_def]
  rfl
theorem list_sh {m : Nat} {scr : ScrF} (hs : ScrSh m scr) (d : Int) : ∀ (n : Nat) (l l' : List SWd) (arms arms' : List PArm), l.length < n → All2 (ShW d) l l' → (∀ x ∈ l, SOpen m x) → All2 ShA arms arms' →
    ∃ r r', plan_list.l0 scr n l arms = some r ∧ plan_list.l0 scr n l' arms' = some r' ∧ ShR d (All2 ShA) [] r r' := by
  intro n
  induction n with
  | zero => intro l l' arms arms' h; omega
  | succ n ih =>
    intro l l' arms arms' hn h hg ha
    have hal := ha.length
    -- behind an arm's first words
    have hj : ∀ (l l' : List SWd) (ky : Int) (px px' : SWd), l.length < n → All2 (ShW d) l l' → (∀ x ∈ l, SOpen m x) → ∃ r r', plan_list.j0' (plan_list.l0 scr n) scr l ky px arms = some r ∧ plan_list.j0' (plan_list.l0 scr n) scr l' ky px' arms' = some r' ∧ ShR d (All2 ShA) [] r r' := by
      intro l l' ky px px' hl h hg
      obtain ⟨l2, b, x, y, l2', b', x', e1, e2, h2, hle, hsub, hc, hx⟩ := body_sh hs h hg
      unfold plan_list.j0'
      rw [e1, e2, Option.bind_some, Option.bind_some]
      dsimp only
      by_cases hy : y = 0
      · rw [if_pos hy, if_pos hy]
        exact ih l2 l2' _ _ (by omega) h2 (fun x hx => hg x (hsub x hx)) (ha.append (.cons (hc hy) .nil))
      · rw [if_neg hy, if_neg hy, hx hy]
        exact ⟨_, _, rfl, rfl, ShR.bad hy⟩
    cases h with
    | nil => exact ⟨_, _, rfl, rfl, ShR.ok ha⟩
    | @cons a a' l l' h1 h2 =>
      rw [List.length_cons] at hn
      have hg' : ∀ x ∈ l, SOpen m x := fun x hx => hg x (by simp [hx])
      rw [list_cons, list_cons, ← hal, h1.flag_]
      by_cases h64 : arms.length = 64
      · rw [if_pos h64, if_pos h64, h1.1]
        exact ⟨_, _, rfl, rfl, ShR.bad (by decide)⟩
      · rw [if_neg h64, if_neg h64]
        by_cases hf : (flagP a).2 = true
        · rw [if_pos hf, if_pos hf]
          by_cases hf2 : (flagP a).1 < 2
          · rw [if_pos hf2, if_pos hf2]
            cases h2 with
            | nil => dsimp only; rw [h1.1]; exact ⟨_, _, rfl, rfl, ShR.bad (by decide)⟩
            | @cons p p' l l' h3 h4 => dsimp only; exact hj l l' _ p p' (by rw [List.length_cons] at hn; omega) h4 (fun x hx => hg' x (by simp [hx]))
          · rw [if_neg hf2, if_neg hf2]
            exact hj l l' _ zWd zWd (by omega) h2 hg'
        · rw [if_neg hf, if_neg hf]
          exact hj l l' 1 a a' (by omega) h2 hg'
theorem args_sh {m : Nat} {d : Int} {l l' : List SWd} (h : All2 (ShW d) l l') (hg : ∀ x ∈ l, SOpen m x) :
    ∃ l2 x y l2' x', argsP l = some (l2, x, y) ∧ argsP l' = some (l2', x', y) ∧ (y = 0 → All2 (ShW d) l2 l2' ∧ ∀ x ∈ l2, SOpen m x) ∧ (y ≠ 0 → x' = wrap64 (x + d)) := by
  cases h with
  | nil => exact ⟨[], 0, 0, [], 0, rfl, rfl, fun _ => ⟨.nil, by simp⟩, fun h => absurd rfl h⟩
  | @cons a a' l l' h1 h2 =>
    cases h2 with
    | @cons b b' l l' h3 h4 => exact ⟨_, _, _, _, _, rfl, rfl, fun _ => ⟨.cons h1 (.cons h3 h4), hg⟩, fun h => absurd rfl h⟩
    | nil =>
      by_cases hk : a.f1 = 2
      · obtain ⟨t, ht, hlt⟩ := hg a (by simp) hk
        obtain ⟨lr, x, y, lr', x', e1, e2, hgd, h0, h5⟩ := plan_parse_sh t (wrap64 (a.f0 + 1)) d
        have hb : wrap64 (a'.f0 + 1) = wrap64 (wrap64 (a.f0 + 1) + d) := by rw [h1.1]; unfold wrap64; omega
        have ha1 : argsP [a] = (openP a).bind fun t => (plan_parse.f t (wrap64 (a.f0 + 1))).bind fun r => if r.2.2 = 0 then some (r.1.flatMap (·.f1), 0, 0) else some ([], r.2.1, r.2.2) := by
          show (if a.f1 = 2 then _ else _) = _
          rw [if_pos hk]
        have ha2 : argsP [a'] = (openP a').bind fun t => (plan_parse.f t (wrap64 (a'.f0 + 1))).bind fun r => if r.2.2 = 0 then some (r.1.flatMap (·.f1), 0, 0) else some ([], r.2.1, r.2.2) := by
          show (if a'.f1 = 2 then _ else _) = _
          rw [if_pos (by rw [h1.2.1]; exact hk)]
        rw [ha1, ha2, h1.open_, ht, Option.bind_some, Option.bind_some, hb, e1, e2, Option.bind_some, Option.bind_some]
        dsimp only
        by_cases hy : y = 0
        · rw [if_pos hy, if_pos hy]
          refine ⟨_, _, _, _, _, rfl, rfl, fun _ => ⟨All2.flat (h0 hy).2.2 (fun x y h => h.2), fun x hx => ?_⟩, fun h => absurd rfl h⟩
          obtain ⟨c, hc, hx⟩ := List.mem_flatMap.1 hx
          exact ((hgd c hc).2 x hx).mono (by omega)
        · rw [if_neg hy, if_neg hy]
          exact ⟨_, _, _, _, _, rfl, rfl, fun h => absurd h hy, fun _ => (h5 hy).2.2⟩
      · refine ⟨[a], 0, 0, [a'], 0, ?_, ?_, fun _ => ⟨.cons h1 .nil, hg⟩, fun h => absurd rfl h⟩
        · show (if a.f1 = 2 then _ else some ([a], 0, 0)) = _
          rw [if_neg hk]
        · show (if a'.f1 = 2 then _ else some ([a'], 0, 0)) = _
          rw [if_neg (by rw [h1.2.1]; exact hk)]
theorem command_sh {m : Nat} {scr : ScrF} (hs : ScrSh m scr) {d : Int} {c c' : SCm} (h : ShC d c c') (hg : CGood m c) (body : Bool) :
    ∃ r r', plan_command.f scr c body = some r ∧ plan_command.f scr c' body = some r' ∧ ShR d (ShO d) zOp r r' := by
  obtain ⟨ca, ws⟩ := c
  obtain ⟨ca', ws'⟩ := c'
  obtain ⟨h0, hw⟩ := h
  dsimp only at h0 hw
  obtain ⟨hne, hgo⟩ := hg
  dsimp only at hne hgo
  cases hw with
  | nil => exact absurd rfl hne
  | @cons w w' args args' h1 h2 =>
    have hlen := h2.length
    have hga : ∀ x ∈ args, SOpen m x := fun x hx => hgo x (by simp [hx])
    unfold plan_command.f
    dsimp only
    rw [h1.one_, ← hlen]
    by_cases ho : (oneP w).2 = false
    · rw [if_pos ho, if_pos ho, h1.1]
      exact ⟨_, _, rfl, rfl, ShR.bad (by decide)⟩
    rw [if_neg ho, if_neg ho]
    cases hf : formI (oneP w).1 with
    | none => dsimp only; rw [h0]; exact ⟨_, _, rfl, rfl, ShR.bad (by decide)⟩
    | some q =>
      obtain ⟨k, lo, hi⟩ := q
      dsimp only
      by_cases hn : (args.length : Int) < lo ∨ (args.length : Int) > hi
      · rw [if_pos hn, if_pos hn, h0]; exact ⟨_, _, rfl, rfl, ShR.bad (by decide)⟩
      rw [if_neg hn, if_neg hn]
      by_cases h8 : k = 8 ∧ body = false
      · rw [if_pos h8, if_pos h8, h0]; exact ⟨_, _, rfl, rfl, ShR.bad (by decide)⟩
      rw [if_neg h8, if_neg h8]
      by_cases h3 : k ≠ 3
      · rw [if_pos h3, if_pos h3, h0]
        exact ⟨_, _, rfl, rfl, ShR.ok ⟨rfl, rfl, h2.length.symm, rfl, rfl⟩⟩
      rw [if_neg h3, if_neg h3]
      obtain ⟨l2, x, y, l2', x', e1, e2, h4, h5⟩ := args_sh h2 hga
      rw [e1, e2, Option.bind_some, Option.bind_some]
      dsimp only
      by_cases hy : y = 0
      · rw [if_pos hy, if_pos hy]
        obtain ⟨h6, h7⟩ := h4 hy
        obtain ⟨⟨ar, xa, ya⟩, ⟨ar', xa', ya'⟩, e3, e4, hya, h9, h10⟩ := list_sh hs d (l2.length + 1) l2 l2' [] [] (by omega) h6 h7 .nil
        unfold plan_list.f
        rw [← h6.length, e3, e4, Option.bind_some, Option.bind_some]
        dsimp only at hya h9 h10 ⊢
        subst hya
        by_cases hz : ya' = 0
        · rw [if_pos hz, if_pos hz]
          have ha := (h9 hz).2.2
          rw [← ha.length]
          by_cases hl : ar.length = 0
          · rw [if_pos hl, if_pos hl, h0]; exact ⟨_, _, rfl, rfl, ShR.bad (by decide)⟩
          · rw [if_neg hl, if_neg hl, h0]
            exact ⟨_, _, rfl, rfl, ShR.ok ⟨rfl, rfl, rfl, ha.length.symm, by rw [cOp, cOp, ShA.all ha]⟩⟩
        · rw [if_neg hz, if_neg hz, (h10 hz).2.2]
          exact ⟨_, _, rfl, rfl, ShR.bad hz⟩
      · rw [if_neg hy, if_neg hy, h5 hy]
        exact ⟨_, _, rfl, rfl, ShR.bad hy⟩
theorem script_l0_sh {m : Nat} {scr : ScrF} (hs : ScrSh m scr) (d : Int) (body : Bool) : ∀ (cs cs' : List SCm) (out out' : List POp), All2 (ShC d) cs cs' → (∀ c ∈ cs, CGood m c) → All2 (ShO d) out out' →
    ∃ r r', plan_script.l0 scr body cs out = some r ∧ plan_script.l0 scr body cs' out' = some r' ∧ ShR d (All2 (ShO d)) [] r r' := by
  intro cs cs' out out' h
  induction h generalizing out out' with
  | nil => intro _ ho; exact ⟨_, _, rfl, rfl, ShR.ok ho⟩
  | @cons c c' cs cs' h1 h2 ih =>
    intro hg ho
    obtain ⟨⟨o, x, y⟩, ⟨o', x', y'⟩, e1, e2, hy, h3, h4⟩ := command_sh hs h1 (hg c (by simp)) body
    rw [plan_script.l0, plan_script.l0, e1, e2, Option.bind_some, Option.bind_some]
    dsimp only at hy h3 h4 ⊢
    subst hy
    by_cases hy : y' = 0
    · rw [if_pos hy, if_pos hy]
      exact ih _ _ (fun c hc => hg c (by simp [hc])) (ho.append (.cons (h3 hy).2.2 .nil))
    · rw [if_neg hy, if_neg hy, (h4 hy).2.2]
      exact ⟨_, _, rfl, rfl, ShR.bad hy⟩
theorem script_sh : ∀ n, ScrSh n (plan_script.f n) := by
  intro n
  induction n with
  | zero => intro t b d body h; omega
  | succ n ih =>
    intro t b d body h
    obtain ⟨l, x, y, l', x', e1, e2, hg, h0, h1⟩ := plan_parse_sh t b d
    show ∃ r r', ((plan_parse.f t b).bind fun r => if r.2.2 = 0 then plan_script.l0 (plan_script.f n) body r.1 [] else some ([], r.2.1, r.2.2)) = some r ∧ ((plan_parse.f t (wrap64 (b + d))).bind fun r => if r.2.2 = 0 then plan_script.l0 (plan_script.f n) body r.1 [] else some ([], r.2.1, r.2.2)) = some r' ∧ _
    rw [e1, e2, Option.bind_some, Option.bind_some]
    dsimp only
    by_cases hy : y = 0
    · rw [if_pos hy, if_pos hy]
      exact script_l0_sh ih d body l l' [] [] (h0 hy).2.2 (fun c hc => (hg c hc).mono (by omega)) .nil
    · rw [if_neg hy, if_neg hy, (h1 hy).2.2]
      exact ⟨_, _, rfl, rfl, ShR.bad hy⟩
end Go.Proofs.Ytofhcjdadhpjdaa.Q
namespace Go.Proofs.Ytofhcjdadhpjdaa.Q
set_option linter.unusedSimpArgs false
set_option linter.unusedVariables false
open Go.RowKit Go.Proofs.YtofhcjdadhpjdaaW.PrintWords Go.Proofs.YtofhcjdadhpjdaaW.PrintLast Go.Proofs.YtofhcjdadhpjdaaW.PrintMore

def sl (x : SWd) : Nat := if x.f1 = 2 then (match openP x with | some t => t.size | none => 0) else 0
def sls : List SWd → Nat
  | [] => 0
  | x :: l => sl x + 1 + sls l
def slc : List SCm → Nat
  | [] => 0
  | c :: l => sls c.f1 + slc l
theorem sls_append (l m : List SWd) : sls (l ++ m) = sls l + sls m := by
  induction l with
  | nil => simp [sls]
  | cons a l ih => rw [List.cons_append, sls, sls, ih]; omega
theorem sls_flat (l : List SCm) : sls (l.flatMap (·.f1)) = slc l := by
  induction l with
  | nil => rfl
  | cons c l ih => rw [List.flatMap_cons, sls_append, slc, ih]
theorem sl_toW {N : Nat} (w : M.Word) (h : M.WOpen N w) (hN2 : N ≤ 16777216) : sl (toW w) = M.wl w := by
  unfold sl M.wl
  by_cases hk : w.kind = 2
  · have hk2 : (toW w).f1 = 2 := by show (w.kind : Int) = 2; omega
    rw [if_pos hk2, if_pos hk]
    rcases h hk with h | ⟨t, h, ht⟩
    · have : openP (toW w) = some ⟨#[]⟩ := by unfold toW; rw [h]; exact open_nil _ _
      rw [this, h]
      rfl
    · have : openP (toW w) = some (bsS t) := by
        unfold toW
        rw [h]
        exact open_one _ _ _ (by show t.length ≤ _; omega)
      rw [this, h]
      rfl
  · have hk2 : ¬ (toW w).f1 = 2 := by show ¬ (w.kind : Int) = 2; omega
    rw [if_neg hk2, if_neg hk]
theorem sls_map {N : Nat} (b : Int) (l : List M.Word) (h : ∀ w ∈ l, M.WOpen N w) (hN2 : N ≤ 16777216) : sls ((l.map toW).map (mvW b)) = M.wls l := by
  induction l with
  | nil => rfl
  | cons w l ih =>
    rw [List.map_cons, List.map_cons, sls, M.wls, ih (fun v hv => h v (by simp [hv]))]
    have : sl (mvW b (toW w)) = sl (toW w) := rfl
    rw [this, sl_toW w (h w (by simp)) hN2]
theorem plan_parse_len (s : ByteArray) (b : Int) {l : List SCm} {x y : Int} (h : plan_parse.f s b = some (l, x, y)) : slc l ≤ s.size := by
  unfold plan_parse.f at h
  by_cases hs : s.size ≤ 16777216
  · have hp := tcl_parse_is s hs
    cases hm : M.parseM [] (lst s) 0 with
    | error z =>
      obtain ⟨z, e⟩ := z
      rw [hm] at hp
      rw [hp.1, Option.bind_some] at h
      dsimp only at h
      rw [if_neg hp.2] at h
      simp only [Option.some.injEq, Prod.mk.injEq] at h
      obtain ⟨rfl, -, -⟩ := h
      simp [slc]
    | ok cs =>
      rw [hm] at hp
      dsimp only at hp
      rw [hp, Option.bind_some] at h
      dsimp only at h
      rw [if_pos rfl] at h
      simp only [Option.some.injEq, Prod.mk.injEq] at h
      obtain ⟨rfl, -, -⟩ := h
      have ho := M.parseM_open hm (Nat.le_of_eq (lst_len s)) (by simp)
      have hl := M.parseM_len hm
      rw [lst_len] at hl
      simp only [M.cls] at hl
      have he : ∀ cs : List M.Cmd, (∀ c ∈ cs, M.COpen s.size c) → slc ((cs.map toC).map (mvC b)) = M.cls cs := by
        intro cs h
        induction cs with
        | nil => rfl
        | cons c cs ih =>
          rw [List.map_cons, List.map_cons, slc, M.cls, ih (fun v hv => h v (by simp [hv]))]
          have : sls (mvC b (toC c)).f1 = M.wls c.words := sls_map b c.words (h c (by simp)).2 hs
          rw [this]
      rw [he cs ho]
      omega
  · have hf : tcl_Parse.f s = some ([], 0, 6) := by unfold tcl_Parse.f; rw [if_pos (by omega)]
    rw [hf, Option.bind_some] at h
    dsimp only at h
    rw [if_neg (by decide)] at h
    simp only [Option.some.injEq, Prod.mk.injEq] at h
    obtain ⟨rfl, -, -⟩ := h
    simp [slc]
/-- A script function that makes no more operations than the text has bytes. -/
def ScrLen (scr : ScrF) : Prop := ∀ (t : ByteArray) (b : Int) (body : Bool) (l : List POp) (x y : Int), scr t b body = some (l, x, y) → cOps l ≤ t.size
theorem body_len {scr : ScrF} (hs : ScrLen scr) {l l2 : List SWd} {b : List POp} {x y : Int} (h : bodyP scr l = some (l2, b, x, y)) : cOps b + sls l2 ≤ sls l := by
  match l, h with
  | [], h =>
    have h' : some (([] : List SWd), ([] : List POp), (0 : Int), (0 : Int)) = some (l2, b, x, y) := h
    simp only [Option.some.injEq, Prod.mk.injEq] at h'
    obtain ⟨rfl, rfl, -, -⟩ := h'
    simp [cOps, sls]
  | a :: l', h =>
    have h' : (if a.f1 = 2 then (openP a).bind fun t => (scr t (wrap64 (a.f0 + 1)) true).bind fun r => some (l', r.1, r.2.1, r.2.2) else some (a :: l', [], 0, 0)) = some (l2, b, x, y) := h
    by_cases hk : a.f1 = 2
    · rw [if_pos hk] at h'
      obtain ⟨t, ht, h'⟩ := Option.bind_eq_some_iff.1 h'
      obtain ⟨⟨o, x', y'⟩, hsc, h'⟩ := Option.bind_eq_some_iff.1 h'
      simp only [Option.some.injEq, Prod.mk.injEq] at h'
      obtain ⟨rfl, rfl, -, -⟩ := h'
      have := hs _ _ _ _ _ _ hsc
      have ha : sl a = t.size := by unfold sl; rw [if_pos hk, ht]
      rw [sls, ha]
      omega
    · rw [if_neg hk] at h'
      simp only [Option.some.injEq, Prod.mk.injEq] at h'
      obtain ⟨rfl, rfl, -, -⟩ := h'
      simp [cOps]
theorem list_len {scr : ScrF} (hs : ScrLen scr) : ∀ (n : Nat) (l : List SWd) (arms ar : List PArm) (x y : Int), plan_list.l0 scr n l arms = some (ar, x, y) → y = 0 → cArms ar ≤ cArms arms + sls l := by
  intro n
  induction n with
  | zero => intro l arms ar x y h; cases h
  | succ n ih =>
    intro l arms ar x y h hy
    have hj : ∀ (l : List SWd) (ky : Int) (px : SWd), plan_list.j0' (plan_list.l0 scr n) scr l ky px arms = some (ar, x, y) → cArms ar ≤ cArms arms + sls l := by
      intro l ky px h
      unfold plan_list.j0' at h
      obtain ⟨⟨l2, b, x', y'⟩, hb, h⟩ := Option.bind_eq_some_iff.1 h
      dsimp only at h
      have hbl := body_len hs hb
      by_cases hy' : y' = 0
      · rw [if_pos hy'] at h
        have := ih _ _ _ _ _ h hy
        rw [cArms_append, cArms, cArms, cArm_is] at this
        dsimp only at this
        omega
      · rw [if_neg hy'] at h
        simp only [Option.some.injEq, Prod.mk.injEq] at h
        obtain ⟨rfl, -, -⟩ := h
        simp [cArms]
    cases l with
    | nil =>
      have h' : some (arms, (0 : Int), (0 : Int)) = some (ar, x, y) := h
      simp only [Option.some.injEq, Prod.mk.injEq] at h'
      obtain ⟨rfl, -, -⟩ := h'
      omega
    | cons a l =>
      rw [list_cons] at h
      rw [sls]
      split at h
      · simp only [Option.some.injEq, Prod.mk.injEq] at h; obtain ⟨rfl, -, -⟩ := h; simp [cArms]
      · split at h
        · split at h
          · split at h
            · simp only [Option.some.injEq, Prod.mk.injEq] at h; obtain ⟨rfl, -, -⟩ := h; simp [cArms]
            · have := hj _ _ _ h; rw [sls]; omega
          · have := hj _ _ _ h; omega
        · have := hj _ _ _ h; omega
theorem args_len {args l : List SWd} {x y : Int} (h : argsP args = some (l, x, y)) : sls l ≤ sls args := by
  unfold argsP at h
  split at h
  · rename_i a
    by_cases hk : a.f1 = 2
    · rw [if_pos hk] at h
      obtain ⟨t, ht, h⟩ := Option.bind_eq_some_iff.1 h
      obtain ⟨⟨lr, x', y'⟩, hp, h⟩ := Option.bind_eq_some_iff.1 h
      dsimp only at h
      have ha : sl a = t.size := by unfold sl; rw [if_pos hk, ht]
      have hl := plan_parse_len _ _ hp
      split at h
      · simp only [Option.some.injEq, Prod.mk.injEq] at h
        obtain ⟨rfl, -, -⟩ := h
        rw [sls_flat, sls, ha]
        omega
      · simp only [Option.some.injEq, Prod.mk.injEq] at h
        obtain ⟨rfl, -, -⟩ := h
        simp [sls]
    · rw [if_neg hk] at h
      simp only [Option.some.injEq, Prod.mk.injEq] at h
      obtain ⟨rfl, -, -⟩ := h
      exact Nat.le_refl _
  · simp only [Option.some.injEq, Prod.mk.injEq] at h
    obtain ⟨rfl, -, -⟩ := h
    exact Nat.le_refl _
theorem command_len {scr : ScrF} (hs : ScrLen scr) {c : SCm} {body : Bool} {o : POp} {x y : Int} (h : plan_command.f scr c body = some (o, x, y)) (hy : y = 0) : cOp o ≤ sls c.f1 := by
  obtain ⟨ca, ws⟩ := c
  unfold plan_command.f at h
  dsimp only at h ⊢
  cases ws with
  | nil => cases h
  | cons w args =>
    dsimp only at h
    rw [sls]
    split at h
    · simp only [Option.some.injEq, Prod.mk.injEq] at h; obtain ⟨rfl, -, -⟩ := h; simp only [zOp, cOp, cArms]; omega
    · split at h
      · simp only [Option.some.injEq, Prod.mk.injEq] at h; obtain ⟨rfl, -, -⟩ := h; simp only [zOp, cOp, cArms]; omega
      · split at h
        · simp only [Option.some.injEq, Prod.mk.injEq] at h; obtain ⟨rfl, -, -⟩ := h; simp only [zOp, cOp, cArms]; omega
        · split at h
          · simp only [Option.some.injEq, Prod.mk.injEq] at h; obtain ⟨rfl, -, -⟩ := h; simp only [zOp, cOp, cArms]; omega
          · split at h
            · simp only [Option.some.injEq, Prod.mk.injEq] at h; obtain ⟨rfl, -, -⟩ := h; simp only [cOp, cArms]; omega
            · obtain ⟨⟨l2, x2, y2⟩, ha, h⟩ := Option.bind_eq_some_iff.1 h
              dsimp only at h
              have hal := args_len ha
              split at h
              · obtain ⟨⟨ar, x3, y3⟩, hl, h⟩ := Option.bind_eq_some_iff.1 h
                dsimp only at h
                split at h
                · rename_i hy3
                  have hll := list_len hs _ _ _ _ _ _ hl hy3
                  simp only [cArms] at hll
                  split at h
                  · simp only [Option.some.injEq, Prod.mk.injEq] at h; obtain ⟨rfl, -, -⟩ := h; simp only [zOp, cOp, cArms]; omega
                  · simp only [Option.some.injEq, Prod.mk.injEq] at h; obtain ⟨rfl, -, -⟩ := h; simp only [cOp]; omega
                · simp only [Option.some.injEq, Prod.mk.injEq] at h; obtain ⟨rfl, -, -⟩ := h; simp only [zOp, cOp, cArms]; omega
              · simp only [Option.some.injEq, Prod.mk.injEq] at h; obtain ⟨rfl, -, -⟩ := h; simp only [zOp, cOp, cArms]; omega
theorem script_l0_len {scr : ScrF} (hs : ScrLen scr) (body : Bool) : ∀ (cs : List SCm) (out l : List POp) (x y : Int), plan_script.l0 scr body cs out = some (l, x, y) → cOps l ≤ cOps out + slc cs := by
  intro cs
  induction cs with
  | nil =>
    intro out l x y h
    simp only [plan_script.l0, Option.some.injEq, Prod.mk.injEq] at h
    obtain ⟨rfl, -, -⟩ := h
    omega
  | cons c cs ih =>
    intro out l x y h
    rw [plan_script.l0] at h
    obtain ⟨⟨o, x', y'⟩, hc, h⟩ := Option.bind_eq_some_iff.1 h
    dsimp only at h
    rw [slc]
    by_cases hy : y' = 0
    · rw [if_pos hy] at h
      have := ih _ _ _ _ h
      have hcl := command_len hs hc hy
      rw [cOps_append, cOps, cOps] at this
      omega
    · rw [if_neg hy] at h
      simp only [Option.some.injEq, Prod.mk.injEq] at h
      obtain ⟨rfl, -, -⟩ := h
      simp [cOps]
theorem script_len : ∀ n, ScrLen (plan_script.f n) := by
  intro n
  induction n with
  | zero => intro t b body l x y h; cases h
  | succ n ih =>
    intro t b body l x y h
    have h' : ((plan_parse.f t b).bind fun r => if r.2.2 = 0 then plan_script.l0 (plan_script.f n) body r.1 [] else some ([], r.2.1, r.2.2)) = some (l, x, y) := h
    obtain ⟨⟨lr, x', y'⟩, hp, h'⟩ := Option.bind_eq_some_iff.1 h'
    dsimp only at h'
    have hl := plan_parse_len _ _ hp
    split at h'
    · have := script_l0_len ih body _ _ _ _ _ h'
      simp only [cOps] at this
      omega
    · simp only [Option.some.injEq, Prod.mk.injEq] at h'
      obtain ⟨rfl, -, -⟩ := h'
      simp [cOps]
theorem len_le (l : List POp) : l.length ≤ cOps l := by
  induction l with
  | nil => exact Nat.le_refl _
  | cons o l ih =>
    obtain ⟨k, a, w, ar⟩ := o
    rw [List.length_cons, cOps, cOp]
    omega
/-! plan.Count tells how many, with rounds enough. -/
mutual
theorem exOp : ∀ o : POp, ∃ N, ∀ n, N ≤ n → ∀ acc : Int, 0 ≤ acc → acc + cArms o.arms ≤ 4611686018427387904 → cntArms (plan_Count.f n) o.arms acc = some (acc + cArms o.arms)
  | .mk _ _ _ l => exArms l
theorem exArms : ∀ l : List (Int × SWd × List POp), ∃ N, ∀ n, N ≤ n → ∀ acc : Int, 0 ≤ acc → acc + cArms l ≤ 4611686018427387904 → cntArms (plan_Count.f n) l acc = some (acc + cArms l)
  | [] => ⟨0, fun n _ acc _ _ => by simp [cntArms, cArms]⟩
  | a :: l => by
    obtain ⟨N1, h1⟩ := exArm a
    obtain ⟨N2, h2⟩ := exArms l
    refine ⟨max N1 N2, fun n hn acc h0 hb => ?_⟩
    have e : ((cArms (a :: l) : Nat) : Int) = (cOps a.2.2 : Int) + (cArms l : Int) := by rw [cArms, cArm_is]; omega
    rw [e] at hb ⊢
    rw [cntArms, h1 n (by omega) (by omega), Option.bind_some, wr_id (by omega) (by omega), h2 n (by omega) _ (by omega) (by omega)]
    congr 1
    omega
theorem exArm : ∀ a : Int × SWd × List POp, ∃ N, ∀ n, N ≤ n → (cOps a.2.2 : Int) ≤ 4611686018427387904 → plan_Count.f n a.2.2 = some (cOps a.2.2 : Int)
  | (_, p) => exArm2 p
theorem exArm2 : ∀ p : SWd × List POp, ∃ N, ∀ n, N ≤ n → (cOps p.2 : Int) ≤ 4611686018427387904 → plan_Count.f n p.2 = some (cOps p.2 : Int)
  | (_, b) => by
    obtain ⟨N, h⟩ := exOps b
    refine ⟨N + 1, fun n hn hb => ?_⟩
    obtain ⟨n, rfl⟩ : ∃ m, n = m + 1 := ⟨n - 1, by omega⟩
    have hle := len_le b
    show cntOps (plan_Count.f n) b (b.length : Int) = _
    rw [h n (by omega) (b.length : Int) (by omega) (by dsimp only at hb; omega)]
    congr 1
    dsimp only
    omega
theorem exOps : ∀ l : List POp, ∃ N, ∀ n, N ≤ n → ∀ acc : Int, 0 ≤ acc → acc + ((cOps l : Int) - l.length) ≤ 4611686018427387904 → cntOps (plan_Count.f n) l acc = some (acc + ((cOps l : Int) - l.length))
  | [] => ⟨0, fun n _ acc _ _ => by simp [cntOps, cOps]⟩
  | o :: l => by
    obtain ⟨N1, h1⟩ := exOp o
    obtain ⟨N2, h2⟩ := exOps l
    refine ⟨max N1 N2, fun n hn acc h0 hb => ?_⟩
    have hle := len_le l
    have e : ((cOps (o :: l) : Nat) : Int) = 1 + (cArms o.arms : Int) + (cOps l : Int) := by
      obtain ⟨k, a, w, ar⟩ := o
      rw [cOps, cOp]
      show ((1 + cArms ar + cOps l : Nat) : Int) = 1 + (cArms ar : Int) + _
      omega
    rw [e, List.length_cons] at hb
    rw [e, List.length_cons, cntOps, h1 n (by omega) acc h0 (by omega), Option.bind_some, h2 n (by omega) _ (by omega) (by omega)]
    congr 1
    omega
end
/-- plan.Count of operations that are not too many. -/
theorem count_is (l : List POp) (h : (cOps l : Int) ≤ 4611686018427387904) : ∃ N, ∀ n, N ≤ n → plan_Count.f n l = some (cOps l : Int) := by
  obtain ⟨N, hN⟩ := exArm2 (zWd, l)
  exact ⟨N, fun n hn => hN n hn h⟩
end Go.Proofs.Ytofhcjdadhpjdaa.Q
namespace Go.Proofs.Ytofhcjdadhpjdaa.Q
set_option linter.unusedSimpArgs false
set_option linter.unusedVariables false
open Go.RowKit Go.Proofs.YtofhcjdadhpjdaaW.PrintWords Go.Proofs.YtofhcjdadhpjdaaW.PrintLast Go.Proofs.YtofhcjdadhpjdaaW.PrintMore

abbrev nlB : ByteArray := ⟨#[10]⟩
theorem lst_append (s t : ByteArray) : lst (s ++ t) = lst s ++ lst t := by simp [lst]
theorem plan_Parse_some (n : Nat) (s : ByteArray) (h : s.size < n) : ∃ l x y, plan_Parse.f n s = some (l, x, y) ∧ (y ≠ 0 → l = []) := by
  obtain ⟨⟨l, x, y⟩, r', h1, -, -, h2, h3⟩ := script_sh n s 0 0 false h
  exact ⟨l, x, y, h1, fun hy => (h3 hy).1⟩
structure Joined (n : Nat) (s t : ByteArray) (a b c : List POp) (ka kb : Int) (m : Nat) : Prop where
  pc : plan_Parse.f n (s ++ nlB ++ t) = some (c, 0, 0)
  len : c.length = a.length + b.length
  na : plan_Count.f m a = some ka
  nb : plan_Count.f m b = some kb
  nc : plan_Count.f m c = some (ka + kb)
  ba : 0 ≤ ka ∧ ka ≤ 1500 ∧ 0 ≤ kb ∧ kb ≤ 1500 ∧ a.length ≤ 1500 ∧ b.length ≤ 1500
  at_ : ∀ i, i < b.length → (c.getD (a.length + i) zOp).k = (b.getD i zOp).k ∧ (c.getD (a.length + i) zOp).at_ = wrap64 ((b.getD i zOp).at_ + ((s.size + 1 : Nat) : Int))
end Go.Proofs.Ytofhcjdadhpjdaa.Q
