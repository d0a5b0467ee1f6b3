/- Where the model's words and commands stand in their text. PlanWrong's plain law: where a script is wrong. -/
import Derived.Test.YtofhcjdadhpjdaaPTcl
import Derived.Test.YtofhcjdadhpjdaaPPlan
namespace Go.Proofs.Ytofhcjdadhpjdaa.M
theorem drop_step {p q : Nat} (c : UInt8) (l : Bs) (h : p + 1 < q) : (c :: l).drop (q - p - 1) = l.drop (q - (p + 1) - 1) := by
  rw [show q - p - 1 = (q - (p + 1) - 1) + 1 by omega, List.drop_succ_cons]
theorem brM_close {f : Nat} {r : Bs} {p d q : Nat} (h : brM f r p d = .ok q) : ∃ u, r.drop (q - p - 1) = 125 :: u := by
  fun_induction brM f r p d
  all_goals try (cases h; done)
  case case6 =>
    subst_vars
    cases h
    exact ⟨[], by rw [Nat.add_sub_cancel_left]; rfl⟩
  case case8 f b r p d ih =>
    have hat := brM_at h
    obtain ⟨u, hu⟩ := ih h
    exact ⟨u, by rw [show q - p - 1 = (q - (p + 2) - 1) + 1 + 1 by omega, List.drop_succ_cons, List.drop_succ_cons]; exact hu⟩
  case case10 ih =>
    have hat := brM_at h
    obtain ⟨u, hu⟩ := ih h
    exact ⟨u, (drop_step _ _ hat.1).trans hu⟩
  case case11 ih =>
    have hat := brM_at h
    obtain ⟨u, hu⟩ := ih h
    exact ⟨u, (drop_step _ _ hat.1).trans hu⟩
  case case12 =>
    subst_vars
    cases h
    exact ⟨_, by rw [Nat.add_sub_cancel_left]; rfl⟩
  case case13 ih =>
    have hat := brM_at h
    obtain ⟨u, hu⟩ := ih h
    exact ⟨u, (drop_step _ _ hat.1).trans hu⟩
theorem ptM_drop {stop : UInt8 → Bool} {fr : Option Nat} {l : List Part} {t : Bs} {r : Bs} {p : Nat} {l' : List Part} {r2 : Bs} {q : Nat} (h : ptM stop fr l t r p = .ok (l', r2, q)) : p ≤ q ∧ r2 = r.drop (q - p) := by
  fun_induction ptM stop fr l t r p
  case case1 =>
    simp only [Except.ok.injEq, Prod.mk.injEq] at h
    obtain ⟨-, rfl, rfl⟩ := h
    exact ⟨Nat.le_refl _, by simp⟩
  case case2 =>
    simp only [Except.ok.injEq, Prod.mk.injEq] at h
    obtain ⟨-, rfl, rfl⟩ := h
    exact ⟨Nat.le_refl _, by simp⟩
  all_goals try (cases h; done)
  case case5 l t p r1 x k hx h1 h2 ih =>
    obtain ⟨i1, i2⟩ := ih h
    exact ⟨by omega, by rw [i2, List.drop_drop, show q - p = (k + (q - (p + 1 + k))) + 1 by omega, List.drop_succ_cons]⟩
  case case7 l t p r1 hn hn0 h1 h2 h3 ih =>
    obtain ⟨i1, i2⟩ := ih h
    exact ⟨by omega, by rw [i2, show q - p = (q - (p + 1)) + 1 by omega, List.drop_succ_cons]⟩
  case case8 l t p r1 hn hn0 h1 h2 h3 ih =>
    obtain ⟨i1, i2⟩ := ih h
    exact ⟨by omega, by rw [i2, List.drop_drop, show q - p = (nmM r1 + (q - (p + 1 + nmM r1))) + 1 by omega, List.drop_succ_cons]⟩
  case case9 l t p c r1 h1 h2 h3 h4 ih =>
    obtain ⟨i1, i2⟩ := ih h
    exact ⟨by omega, by rw [i2, show q - p = (q - (p + 1)) + 1 by omega, List.drop_succ_cons]⟩
/-- A word stands in L where it says; a braced one's text behind its brace. -/
def WAt (L : Bs) (w : Word) : Prop := w.at_ ≤ L.length ∧ (w.kind = 2 → ∃ t u, L.drop (w.at_ + 1) = t ++ 125 :: u ∧ ((w.parts = [] ∧ t = []) ∨ w.parts = [⟨false, t⟩]))
theorem drop_lt {L : Bs} {p : Nat} {c : UInt8} {r : Bs} (h : L.drop p = c :: r) : p < L.length ∧ L.drop (p + 1) = r := by
  have hl : p < L.length := by
    rcases Nat.lt_or_ge p L.length with h1 | h1
    · exact h1
    · rw [List.drop_eq_nil_of_le h1] at h; cases h
  rw [List.drop_eq_getElem_cons hl] at h
  injection h with _ h
  exact ⟨hl, h⟩
theorem wordM_stand {L : Bs} {c : UInt8} {r : Bs} {p : Nat} {w : Word} {r2 : Bs} {q : Nat} (hL : L.drop p = c :: r) (h : wordM (c :: r) p = .ok (w, r2, q)) : WAt L w ∧ L.drop q = r2 := by
  obtain ⟨hp, hr⟩ := drop_lt hL
  simp only [wordM] at h
  split at h
  · split at h
    · cases h
    · rename_i q1 hq
      have hb := brM_at hq
      obtain ⟨u, hu⟩ := brM_close hq
      obtain ⟨rfl, rfl, rfl⟩ := behindM_at h
      refine ⟨⟨by dsimp only; omega, fun _ => ?_⟩, by rw [← hr, List.drop_drop]; congr 1; omega⟩
      dsimp only
      rw [hr]
      refine ⟨r.take (q - p - 2), u, ?_, ?_⟩
      · rw [show q - (p + 1) - 1 = q - p - 2 by omega] at hu
        rw [← hu, List.take_append_drop]
      · by_cases h2 : q = p + 2
        · rw [if_pos h2]
          exact .inl ⟨rfl, by rw [h2, show p + 2 - p - 2 = 0 by omega]; rfl⟩
        · rw [if_neg h2]
          exact .inr rfl
  · split at h
    · split at h
      · cases h
      · cases h
      · rename_i hq
        obtain ⟨h1, h2⟩ := ptM_drop hq
        obtain ⟨rfl, rfl, rfl⟩ := behindM_at h
        refine ⟨⟨by dsimp only; omega, fun hk => by cases hk⟩, ?_⟩
        rw [← hr, List.drop_drop] at h2
        exact (drop_lt (L := L) h2.symm).2 |> fun h => by rw [← h]; congr 1; omega
    · split at h
      · cases h
      · rename_i hq
        obtain ⟨h1, h2⟩ := ptM_drop hq
        simp only [Except.ok.injEq, Prod.mk.injEq] at h
        obtain ⟨rfl, rfl, rfl⟩ := h
        refine ⟨⟨by dsimp only; omega, fun hk => by cases hk⟩, ?_⟩
        rw [h2, ← hL, List.drop_drop]
        congr 1
        omega
theorem wordM_badAt {c : UInt8} {r : Bs} {p a : Nat} {e : Int} (h : wordM (c :: r) p = .error (a, e)) : a ≤ p + (c :: r).length ∧ e ≠ 8 := by
  have hbr : ∀ {f : Nat} {r : Bs} {p d a : Nat} {e : Int}, f ≤ p → brM f r p d = .error (a, e) → a ≤ p + r.length ∧ e ≠ 8 := by
    intro f r p d a e hf h
    fun_induction brM f r p d <;> simp_all <;> omega
  have hpt : ∀ {stop : UInt8 → Bool} {fr : Option Nat} {l : List Part} {t : Bs} {r : Bs} {p a : Nat} {e : Int}, (∀ x, fr = some x → x ≤ p) → ptM stop fr l t r p = .error (a, e) → a ≤ p + r.length ∧ e ≠ 8 := by
    intro stop fr l t r p a e hf h
    fun_induction ptM stop fr l t r p
    case case4 =>
      cases h
      cases fr with
      | none => exact ⟨by dsimp only [Option.getD]; omega, by decide⟩
      | some x => exact ⟨by have := hf x rfl; dsimp only [Option.getD]; omega, by decide⟩
    case case5 l t p r1 x k hx h1 h2 ih =>
      have := ih (fun x hx => by have := hf x hx; omega) h
      have hk := (escM_le hx).2
      rw [List.length_drop] at this
      rw [List.length_cons]
      exact ⟨by omega, this.2⟩
    case case7 ih => have := ih (fun x hx => by have := hf x hx; omega) h; rw [List.length_cons]; exact ⟨by omega, this.2⟩
    case case8 l t p r1 hn hn0 h1 h2 h3 ih =>
      have := ih (fun x hx => by have := hf x hx; omega) h
      have hk := nmM_le r1
      rw [List.length_drop] at this
      rw [List.length_cons]
      exact ⟨by omega, this.2⟩
    case case9 ih => have := ih (fun x hx => by have := hf x hx; omega) h; rw [List.length_cons]; exact ⟨by omega, this.2⟩
    all_goals first | (cases h; done) | (cases h; exact ⟨by omega, by decide⟩)
  have hbh : ∀ {w : Word} {r : Bs} {p a : Nat} {e : Int}, behindM w r p = .error (a, e) → a = p ∧ e ≠ 8 := by
    intro w r p a e h
    unfold behindM at h
    split at h
    · cases h
    · split at h
      · cases h
      · cases h; exact ⟨rfl, by decide⟩
  simp only [wordM] at h
  rw [List.length_cons]
  split at h
  · split at h
    · rename_i x hq
      cases h
      have := hbr (by omega) hq
      exact ⟨by omega, this.2⟩
    · rename_i q1 hq
      have hb := brM_at hq
      obtain ⟨rfl, he⟩ := hbh h
      exact ⟨by omega, he⟩
  · split at h
    · split at h
      · rename_i x hq
        cases h
        have := hpt (fun x hx => by cases hx; omega) hq
        exact ⟨by omega, this.2⟩
      · cases h; exact ⟨by omega, by decide⟩
      · rename_i hq
        have hat := ptM_at hq
        rw [List.length_cons] at hat
        obtain ⟨rfl, he⟩ := hbh h
        exact ⟨by omega, he⟩
    · split at h
      · rename_i x hq
        cases h
        have := hpt (fun x hx => by cases hx) hq
        rw [List.length_cons] at this
        exact this
      · cases h
theorem cmdM_stand {L : Bs} {ws : List Word} {r : Bs} {p : Nat} {ws' : List Word} {r2 : Bs} {q : Nat} (hL : L.drop p = r) (h : cmdM ws r p = .ok (ws', r2, q)) (hw : ∀ w ∈ ws, WAt L w) : (∀ w ∈ ws', WAt L w) ∧ L.drop q = r2 := by
  fun_induction cmdM ws r p
  case case1 ws p =>
    simp only [Except.ok.injEq, Prod.mk.injEq] at h
    obtain ⟨rfl, rfl, rfl⟩ := h
    exact ⟨hw, hL⟩
  case case2 ws p c r1 h1 =>
    simp only [Except.ok.injEq, Prod.mk.injEq] at h
    obtain ⟨rfl, rfl, rfl⟩ := h
    exact ⟨hw, hL⟩
  case case3 ws p c r1 h1 h2 ih => exact ih (drop_lt hL).2 h hw
  case case4 => cases h
  case case5 ws p c r1 h1 h2 w r3 q1 hx hl ih =>
    obtain ⟨h3, h4⟩ := wordM_stand hL hx
    refine ih h4 h (fun v hv => ?_)
    rcases List.mem_append.1 hv with hv | hv
    · exact hw v hv
    · rw [List.mem_singleton] at hv
      subst hv
      exact h3
  case case6 => cases h
theorem cmdM_badAt {ws : List Word} {r : Bs} {p a : Nat} {e : Int} (h : cmdM ws r p = .error (a, e)) : a ≤ p + r.length ∧ e ≠ 8 := by
  fun_induction cmdM ws r p
  case case1 => cases h
  case case2 => cases h
  case case3 ih => have := ih h; rw [List.length_cons]; exact ⟨by omega, this.2⟩
  case case4 hx => cases h; exact wordM_badAt hx
  case case5 ws p c r1 h1 h2 w r3 q1 hx hl ih =>
    have := ih h
    have hat := (wordM_at (stop_of h1 h2) hx).1
    exact ⟨by omega, this.2⟩
  case case6 => cases h; exact ⟨by omega, by decide⟩
/-- A name's bytes: of a bare word, and no more. -/
def plainB (c : UInt8) : Bool := !stopB c && c != 91 && c != 92 && c != 36 && c != 34 && c != 123 && c != 35
theorem ptM_plain {l : List Part} (n : Bs) (hn : ∀ c ∈ n, plainB c = true) (t u : Bs) (p : Nat) (hu : u = [] ∨ ∃ u', u = 32 :: u') : ptM stopB none l t (n ++ u) p = .ok (flushM l (t ++ n), u, p + n.length) := by
  induction n generalizing t p with
  | nil =>
    rcases hu with rfl | ⟨u', rfl⟩
    · rw [List.append_nil, ptM]; simp
    · rw [List.nil_append, ptM, if_pos (by decide)]; simp
  | cons c n ih =>
    have hc := hn c (by simp)
    simp only [plainB, Bool.and_eq_true, Bool.not_eq_true', bne_iff_ne, ne_eq] at hc
    obtain ⟨⟨⟨⟨⟨⟨h1, h2⟩, h3⟩, h4⟩, h5⟩, h6⟩, h7⟩ := hc
    rw [List.cons_append, ptM, if_neg (by rw [h1]; decide), if_neg h2, if_neg h3, if_neg h4, ih (fun c hc => hn c (by simp [hc]))]
    simp only [List.append_assoc, List.singleton_append, List.length_cons]
    congr 3
    omega
theorem wordM_name {c : UInt8} {n u : Bs} (hn : ∀ x ∈ c :: n, plainB x = true) (p : Nat) (hu : u = [] ∨ ∃ u', u = 32 :: u') : wordM (c :: n ++ u) p = .ok (⟨p, 0, [⟨false, c :: n⟩]⟩, u, p + (c :: n).length) := by
  have hc := hn c (by simp)
  simp only [plainB, Bool.and_eq_true, Bool.not_eq_true', bne_iff_ne, ne_eq] at hc
  have h := ptM_plain (l := []) (c :: n) hn [] u p hu
  rw [List.cons_append] at h ⊢
  rw [wordM, if_neg hc.1.2, if_neg hc.1.1.2, h]
  rfl
/-- A command stands where it says; its first word is a name, where one stands there. -/
def CAt (L : Bs) (c : Cmd) : Prop := c.at_ ≤ L.length ∧ (∀ w ∈ c.words, WAt L w) ∧ ∀ (x : UInt8) (n u : Bs), (∀ y ∈ x :: n, plainB y = true) → (u = [] ∨ ∃ u', u = 32 :: u') → L.drop c.at_ = x :: n ++ u → ∃ l, c.words = ⟨c.at_, 0, [⟨false, x :: n⟩]⟩ :: l
theorem parseM_stand {L : Bs} {cs : List Cmd} {r : Bs} {p : Nat} {cs' : List Cmd} (hL : L.drop p = r) (h : parseM cs r p = .ok cs') (hc : ∀ c ∈ cs, CAt L c) : ∀ c ∈ cs', CAt L c := by
  fun_induction parseM cs r p
  case case1 => cases h; exact hc
  case case2 ih => exact ih (drop_lt hL).2 h hc
  case case3 cs p r1 h1 ih => exact ih (by rw [← (drop_lt hL).2, List.drop_drop]) h hc
  case case4 => cases h
  case case5 cs p c r1 h1 h2 ws r2 q hx hl ih =>
    obtain ⟨h3, h4⟩ := cmdM_stand hL hx (by simp)
    refine ih h4 h (fun v hv => ?_)
    rcases List.mem_append.1 hv with hv | hv
    · exact hc v hv
    · rw [List.mem_singleton] at hv
      subst hv
      refine ⟨Nat.le_of_lt (drop_lt hL).1, h3, fun x n u hn hu hd => ?_⟩
      dsimp only at hd ⊢
      rw [hL] at hd
      rw [hd] at hx
      have hst : stopB x = false := by
        have := hn x (by simp)
        simp only [plainB, Bool.and_eq_true, Bool.not_eq_true', bne_iff_ne, ne_eq] at this
        exact this.1.1.1.1.1.1
      have hst2 := hst
      unfold stopB at hst2
      rw [List.cons_append, cmdM, if_neg (by intro hh; rw [hh] at hst2; simp at hst2), if_neg (by intro hh; rw [hh] at hst2; simp at hst2), ← List.cons_append, wordM_name hn p hu] at hx
      dsimp only at hx
      split at hx
      · obtain ⟨-, -, l, hl2⟩ := cmdM_at hx
        exact ⟨l, hl2⟩
      · cases hx
  case case6 => cases h
theorem parseM_badAt {cs : List Cmd} {r : Bs} {p a : Nat} {e : Int} (h : parseM cs r p = .error (a, e)) : a ≤ p + r.length ∧ e ≠ 8 := by
  fun_induction parseM cs r p
  case case1 => cases h
  case case2 ih => have := ih h; rw [List.length_cons]; exact ⟨by omega, this.2⟩
  case case3 cs p r1 h1 ih =>
    have := ih h
    have hk : (r1.takeWhile (· != 10)).length ≤ r1.length := takeWhile_le r1
    rw [List.length_drop] at this
    rw [List.length_cons]
    exact ⟨by omega, this.2⟩
  case case4 hx => cases h; exact cmdM_badAt hx
  case case5 cs p c r1 h1 h2 ws r2 q hx hl ih =>
    have := ih h
    have hat := (cmdM_at hx).1
    exact ⟨by omega, this.2⟩
  case case6 => cases h; exact ⟨by omega, by decide⟩
end Go.Proofs.Ytofhcjdadhpjdaa.M
namespace Go.Proofs.Ytofhcjdadhpjdaa.Q
set_option linter.unusedSimpArgs false
set_option linter.unusedVariables false
open Go.RowKit Go.Proofs.YtofhcjdadhpjdaaW.PrintWords Go.Proofs.YtofhcjdadhpjdaaW.PrintLast Go.Proofs.YtofhcjdadhpjdaaW.PrintMore

def known : List (List UInt8) := [[115, 101, 116], [115, 112, 97, 119, 110], [115, 101, 110, 100], [101, 120, 112, 101, 99, 116], [109, 97, 116, 99, 104, 95, 109, 97, 120], [115, 108, 101, 101, 112], [99, 108, 111, 115, 101], [101, 120, 105, 116], [101, 120, 112, 95, 99, 111, 110, 116, 105, 110, 117, 101]]
theorem known_ok : ∀ n ∈ known, (∀ c ∈ n, M.plainB c = true ∧ c ≠ 125) ∧ n ≠ [] := by decide
theorem known_form : ∀ n ∈ known, formI (bsS n) ≠ none := by
  intro n hn
  simp only [known, List.mem_cons, List.not_mem_nil, or_false] at hn
  rcases hn with rfl | rfl | rfl | rfl | rfl | rfl | rfl | rfl | rfl
  all_goals (unfold formI bsS; simp)
/-- There stands a name, alone or with a space behind it. -/
def Bad (L : List UInt8) (x : Nat) : Prop := ∃ n ∈ known, (∃ u, L.drop x = n ++ 32 :: u) ∨ L.drop x = n
theorem bad_lift {S T rest : List UInt8} {b i : Nat} (hS : S.drop b = T ++ rest) (hr : rest = [] ∨ ∃ r, rest = 125 :: r) (hi : i ≤ T.length) (h : Bad S (b + i)) : Bad T i := by
  obtain ⟨n, hn, h⟩ := h
  obtain ⟨hk, -⟩ := known_ok n hn
  have hd : S.drop (b + i) = T.drop i ++ rest := by rw [← List.drop_drop, hS, List.drop_append_of_le_length hi]
  rw [hd] at h
  rcases h with ⟨u, h⟩ | h
  · rcases List.append_eq_append_iff.1 h with ⟨a, h1, h2⟩ | ⟨c, h1, h2⟩
    · exfalso
      cases a with
      | nil =>
        rw [List.nil_append] at h2
        rcases hr with hr | ⟨r, hr⟩ <;> rw [hr] at h2 <;> cases h2
      | cons y a =>
        rcases hr with hr | ⟨r, hr⟩
        · rw [hr] at h2; cases h2
        · rw [hr, List.cons_append] at h2
          injection h2 with h3 _
          subst h3
          exact (hk 125 (by rw [h1]; simp)).2 rfl
    · cases c with
      | nil =>
        exfalso
        rw [List.nil_append] at h2
        rcases hr with hr | ⟨r, hr⟩ <;> rw [hr] at h2 <;> cases h2
      | cons y c =>
        rw [List.cons_append] at h2
        injection h2 with h3 _
        subst h3
        exact ⟨n, hn, .inl ⟨c, h1⟩⟩
  · rcases hr with hr | ⟨r, hr⟩
    · rw [hr, List.append_nil] at h
      exact ⟨n, hn, .inr h⟩
    · exact absurd rfl (hk 125 (by rw [← h, hr]; simp)).2
def PW (S : List UInt8) (m : Nat) (x : SWd) : Prop := ∃ p : Nat, x.f0 = (p : Int) ∧ p ≤ S.length ∧ (x.f1 = 2 → ∃ t u, openP x = some t ∧ t.size < m ∧ S.drop (p + 1) = lst t ++ 125 :: u)
def PC (S : List UInt8) (m : Nat) (c : SCm) : Prop := ∃ p : Nat, c.f0 = (p : Int) ∧ p ≤ S.length ∧ (∀ x ∈ c.f1, PW S m x) ∧ ∃ w l, c.f1 = w :: l ∧ ((oneP w).2 = true → formI (oneP w).1 = none → ¬ Bad S p)
theorem PW.mono {S : List UInt8} {m m' : Nat} {x : SWd} (h : PW S m x) (hm : m ≤ m') : PW S m' x := by
  obtain ⟨p, h1, h2, h3⟩ := h
  exact ⟨p, h1, h2, fun hk => by obtain ⟨t, u, h4, h5, h6⟩ := h3 hk; exact ⟨t, u, h4, by omega, h6⟩⟩
theorem PC.mono {S : List UInt8} {m m' : Nat} {c : SCm} (h : PC S m c) (hm : m ≤ m') : PC S m' c := by
  obtain ⟨p, h1, h2, h3, h4⟩ := h
  exact ⟨p, h1, h2, fun x hx => (h3 x hx).mono hm, h4⟩
/-- Where it is wrong: a place in the text. -/
def ErrOK (S : List UInt8) (x y : Int) : Prop := ∃ p : Nat, x = (p : Int) ∧ p ≤ S.length ∧ (y = 8 → ¬ Bad S p)
theorem ErrOK.of {S : List UInt8} {p : Nat} {x y : Int} (hx : x = (p : Int)) (hp : p ≤ S.length) (hy : y ≠ 8) : ErrOK S x y := ⟨p, hx, hp, fun h => absurd h hy⟩
theorem one_of (a b : Int) (t : ByteArray) (hb : b ≠ 2) : oneP ⟨a, b, [⟨false, t⟩]⟩ = (t, true) := by unfold oneP; simp [hb]
theorem openP_mv (b : Int) (x : SWd) : openP (mvW b x) = openP x := rfl
theorem toW_text {w : M.Word} {t : List UInt8} (h : (w.parts = [] ∧ t = []) ∨ w.parts = [⟨false, t⟩]) (ht : t.length ≤ 16777216) : openP (toW w) = some (bsS t) := by
  unfold toW
  rcases h with ⟨h, rfl⟩ | h
  · rw [h]; exact open_nil _ _
  · rw [h]; exact open_one _ _ _ ht
theorem parse_at {S : List UInt8} (hS : S.length ≤ 16777216) {t : ByteArray} {b : Nat} {rest : List UInt8} (hb : b ≤ S.length) (hd : S.drop b = lst t ++ rest) (hr : rest = [] ∨ ∃ r, rest = 125 :: r) {l : List SCm} {x y : Int} (h : plan_parse.f t (b : Int) = some (l, x, y)) :
    (y = 0 → ∀ c ∈ l, PC S t.size c) ∧ (y ≠ 0 → ErrOK S x y) := by
  have hlen := congrArg List.length hd
  rw [List.length_drop, List.length_append, lst_len] at hlen
  have hts : t.size ≤ 16777216 := by omega
  have hp := tcl_parse_is t hts
  unfold plan_parse.f at h
  cases hm : M.parseM [] (lst t) 0 with
  | error z =>
    obtain ⟨z, e⟩ := z
    rw [hm] at hp
    obtain ⟨ha, he⟩ := M.parseM_badAt hm
    rw [lst_len] at ha
    rw [hp.1, Option.bind_some] at h
    dsimp only at h
    rw [if_neg hp.2] at h
    simp only [Option.some.injEq, Prod.mk.injEq] at h
    obtain ⟨rfl, rfl, rfl⟩ := h
    refine ⟨fun h => absurd h hp.2, fun _ => ErrOK.of (p := b + z) ?_ (by omega) he⟩
    rw [wr_id (by omega) (by omega)]
    omega
  | ok cs =>
    rw [hm] at hp
    dsimp only at hp
    rw [hp, Option.bind_some] at h
    dsimp only at h
    rw [if_pos rfl] at h
    simp only [Option.some.injEq, Prod.mk.injEq] at h
    obtain ⟨rfl, rfl, rfl⟩ := h
    refine ⟨fun _ c hc => ?_, fun h => absurd rfl h⟩
    have ho := M.parseM_open hm (Nat.le_of_eq (lst_len t)) (by simp)
    have hst := M.parseM_stand (L := lst t) (List.drop_zero) hm (by simp)
    obtain ⟨c1, hc1, rfl⟩ := List.mem_map.1 hc
    obtain ⟨c2, hc2, rfl⟩ := List.mem_map.1 hc1
    obtain ⟨⟨w, wl, hw, hwa⟩, ho2⟩ := ho c2 hc2
    obtain ⟨hat, hwat, hname⟩ := hst c2 hc2
    rw [lst_len] at hat
    refine ⟨b + c2.at_, ?_, by omega, fun x hx => ?_, mvW b (toW w), (wl.map toW).map (mvW b), ?_, fun h1 h2 hbad => ?_⟩
    · show wrap64 ((c2.at_ : Int) + (b : Int)) = _
      rw [wr_id (by omega) (by omega)]
      omega
    · obtain ⟨x1, hx1, rfl⟩ := List.mem_map.1 (show x ∈ (c2.words.map toW).map (mvW b) from hx)
      obtain ⟨x2, hx2, rfl⟩ := List.mem_map.1 hx1
      obtain ⟨h3, h4⟩ := hwat x2 hx2
      rw [lst_len] at h3
      refine ⟨b + x2.at_, ?_, by omega, fun hk => ?_⟩
      · show wrap64 ((x2.at_ : Int) + (b : Int)) = _
        rw [wr_id (by omega) (by omega)]
        omega
      · have hk2 : x2.kind = 2 := by
          have : (x2.kind : Int) = 2 := hk
          omega
        obtain ⟨tt, u, h5, h6⟩ := h4 hk2
        have hl5 := congrArg List.length h5
        rw [List.length_drop, List.length_append, List.length_cons, lst_len] at hl5
        refine ⟨bsS tt, u ++ rest, ?_, by show tt.length < t.size; omega, ?_⟩
        · rw [openP_mv]
          exact toW_text h6 (by omega)
        · rw [Nat.add_assoc, ← List.drop_drop, hd, List.drop_append_of_le_length (by rw [lst_len]; omega), h5, lst_bsS, List.append_assoc, List.cons_append]
    · show (c2.words.map toW).map (mvW b) = _
      rw [hw]
      rfl
    · have hbt := bad_lift hd hr (by rw [lst_len]; exact hat) hbad
      obtain ⟨n, hn, hnn⟩ := hbt
      obtain ⟨hk, hne⟩ := known_ok n hn
      obtain ⟨x, n', rfl⟩ : ∃ x n', n = x :: n' := by
        cases n with
        | nil => exact absurd rfl hne
        | cons x n' => exact ⟨x, n', rfl⟩
      obtain ⟨u, hu, hdr⟩ : ∃ u, (u = [] ∨ ∃ u', u = 32 :: u') ∧ (lst t).drop c2.at_ = x :: n' ++ u := by
        rcases hnn with ⟨u, h3⟩ | h3
        · exact ⟨32 :: u, .inr ⟨u, rfl⟩, h3⟩
        · exact ⟨[], .inl rfl, by rw [List.append_nil]; exact h3⟩
      obtain ⟨l, hl⟩ := hname x n' u (fun y hy => (hk y hy).1) hu hdr
      rw [hw] at hl
      injection hl with hw2 _
      subst hw2
      have h3 : oneP (mvW b (toW ⟨c2.at_, 0, [⟨false, x :: n'⟩]⟩)) = (bsS (x :: n'), true) := one_of _ ((0 : Nat) : Int) _ (by decide)
      rw [h3] at h2
      exact known_form _ hn h2
def ScrAt (S : List UInt8) (m : Nat) (scr : ScrF) : Prop := ∀ (t : ByteArray) (b : Nat) (body : Bool) (l : List POp) (x y : Int) (rest : List UInt8), t.size < m → b ≤ S.length → S.drop b = lst t ++ rest → (rest = [] ∨ ∃ r, rest = 125 :: r) → scr t (b : Int) body = some (l, x, y) → y ≠ 0 → ErrOK S x y
section
variable {S : List UInt8} {m : Nat} {scr : ScrF}
theorem PW.text {x : SWd} (h : PW S m x) (hk : x.f1 = 2) (hS : S.length ≤ 16777216) : ∃ (p : Nat) (t : ByteArray) (u : List UInt8), wrap64 (x.f0 + 1) = ((p : Nat) : Int) ∧ p ≤ S.length ∧ openP x = some t ∧ t.size < m ∧ S.drop p = lst t ++ 125 :: u := by
  obtain ⟨p, h1, h2, h3⟩ := h
  obtain ⟨t, u, h4, h5, h6⟩ := h3 hk
  have := congrArg List.length h6
  rw [List.length_drop, List.length_append, List.length_cons] at this
  exact ⟨p + 1, t, u, by rw [h1, wr1 (by omega)], by omega, h4, h5, h6⟩
theorem body_at (hS : S.length ≤ 16777216) (hs : ScrAt S m scr) {l l2 : List SWd} {b : List POp} {x y : Int} (hg : ∀ x ∈ l, PW S m x) (h : bodyP scr l = some (l2, b, x, y)) : (y ≠ 0 → ErrOK S x y) ∧ ∀ x ∈ l2, x ∈ l := by
  match l, hg, h with
  | [], hg, h =>
    have h' : some (([] : List SWd), ([] : List POp), (0 : Int), (0 : Int)) = some (l2, b, x, y) := h
    simp only [Option.some.injEq, Prod.mk.injEq] at h'
    obtain ⟨rfl, -, -, rfl⟩ := h'
    exact ⟨fun h => absurd rfl h, fun _ h => h⟩
  | a :: l', hg, h =>
    have h' : (if a.f1 = 2 then (openP a).bind fun t => (scr t (wrap64 (a.f0 + 1)) true).bind fun r => some (l', r.1, r.2.1, r.2.2) else some (a :: l', [], 0, 0)) = some (l2, b, x, y) := h
    by_cases hk : a.f1 = 2
    · rw [if_pos hk] at h'
      obtain ⟨p, t, u, h1, h2, h3, h4, h5⟩ := (hg a (by simp)).text hk hS
      rw [h3, Option.bind_some, h1] at h'
      obtain ⟨⟨o, x', y'⟩, hsc, h'⟩ := Option.bind_eq_some_iff.1 h'
      simp only [Option.some.injEq, Prod.mk.injEq] at h'
      obtain ⟨rfl, rfl, rfl, rfl⟩ := h'
      exact ⟨fun hy => hs t p true _ _ _ _ h4 h2 h5 (.inr ⟨u, rfl⟩) hsc hy, fun _ h => by simp [h]⟩
    · rw [if_neg hk] at h'
      simp only [Option.some.injEq, Prod.mk.injEq] at h'
      obtain ⟨rfl, -, -, rfl⟩ := h'
      exact ⟨fun h => absurd rfl h, fun _ h => h⟩
theorem list_at (hS : S.length ≤ 16777216) (hs : ScrAt S m scr) : ∀ (n : Nat) (l : List SWd) (arms ar : List PArm) (x y : Int), (∀ x ∈ l, PW S m x) → plan_list.l0 scr n l arms = some (ar, x, y) → y ≠ 0 → ErrOK S x y := by
  intro n
  induction n with
  | zero => intro l arms ar x y _ h; cases h
  | succ n ih =>
    intro l arms ar x y hg h hy
    have hj : ∀ (l : List SWd) (ky : Int) (px : SWd), (∀ x ∈ l, PW S m x) → plan_list.j0' (plan_list.l0 scr n) scr l ky px arms = some (ar, x, y) → ErrOK S x y := by
      intro l ky px hg h
      unfold plan_list.j0' at h
      obtain ⟨⟨l2, b, x', y'⟩, hb, h⟩ := Option.bind_eq_some_iff.1 h
      dsimp only at h
      obtain ⟨he, hsub⟩ := body_at hS hs hg hb
      by_cases hy' : y' = 0
      · rw [if_pos hy'] at h
        exact ih _ _ _ _ _ (fun x hx => hg x (hsub x hx)) h hy
      · rw [if_neg hy'] at h
        simp only [Option.some.injEq, Prod.mk.injEq] at h
        obtain ⟨-, rfl, rfl⟩ := h
        exact he hy'
    cases l with
    | nil =>
      have h' : some (arms, (0 : Int), (0 : Int)) = some (ar, x, y) := h
      simp only [Option.some.injEq, Prod.mk.injEq] at h'
      exact absurd h'.2.2.symm hy
    | cons a l =>
      obtain ⟨p, hp1, hp2, -⟩ := hg a (by simp)
      have hg' : ∀ x ∈ l, PW S m x := fun x hx => hg x (by simp [hx])
      rw [list_cons] at h
      split at h
      · simp only [Option.some.injEq, Prod.mk.injEq] at h; obtain ⟨-, rfl, rfl⟩ := h; exact ErrOK.of hp1 hp2 (by decide)
      · split at h
        · split at h
          · split at h
            · simp only [Option.some.injEq, Prod.mk.injEq] at h; obtain ⟨-, rfl, rfl⟩ := h; exact ErrOK.of hp1 hp2 (by decide)
            · exact hj _ _ _ (fun x hx => hg' x (by simp [hx])) h
          · exact hj _ _ _ hg' h
        · exact hj _ _ _ hg' h
theorem args_at (hS : S.length ≤ 16777216) {args l : List SWd} {x y : Int} (hg : ∀ x ∈ args, PW S m x) (h : argsP args = some (l, x, y)) : (y = 0 → ∀ x ∈ l, PW S m x) ∧ (y ≠ 0 → ErrOK S x y) := by
  unfold argsP at h
  split at h
  · rename_i a
    by_cases hk : a.f1 = 2
    · rw [if_pos hk] at h
      obtain ⟨p, t, u, h1, h2, h3, h4, h5⟩ := (hg a (by simp)).text hk hS
      rw [h3, Option.bind_some, h1] at h
      obtain ⟨⟨lr, x', y'⟩, hp, h⟩ := Option.bind_eq_some_iff.1 h
      dsimp only at h
      obtain ⟨q1, q2⟩ := parse_at hS h2 h5 (.inr ⟨u, rfl⟩) hp
      split at h
      · rename_i hy'
        simp only [Option.some.injEq, Prod.mk.injEq] at h
        obtain ⟨rfl, -, rfl⟩ := h
        refine ⟨fun _ x hx => ?_, fun h => absurd rfl h⟩
        obtain ⟨c, hc, hx⟩ := List.mem_flatMap.1 hx
        obtain ⟨_, _, _, h6, _⟩ := q1 hy' c hc
        exact (h6 x hx).mono (by omega)
      · rename_i hy'
        simp only [Option.some.injEq, Prod.mk.injEq] at h
        obtain ⟨-, rfl, rfl⟩ := h
        exact ⟨fun h => absurd h hy', fun _ => q2 hy'⟩
    · rw [if_neg hk] at h
      simp only [Option.some.injEq, Prod.mk.injEq] at h
      obtain ⟨rfl, -, rfl⟩ := h
      exact ⟨fun _ => hg, fun h => absurd rfl h⟩
  · simp only [Option.some.injEq, Prod.mk.injEq] at h
    obtain ⟨rfl, -, rfl⟩ := h
    exact ⟨fun _ => hg, fun h => absurd rfl h⟩
theorem command_at (hS : S.length ≤ 16777216) (hs : ScrAt S m scr) {c : SCm} {body : Bool} {o : POp} {x y : Int} (hg : PC S m c) (h : plan_command.f scr c body = some (o, x, y)) (hy : y ≠ 0) : ErrOK S x y := by
  obtain ⟨ca, ws⟩ := c
  obtain ⟨p, hp1, hp2, hw, w, args, he, hbad⟩ := hg
  dsimp only at hp1 hw he
  subst he
  obtain ⟨pw, hpw1, hpw2, -⟩ := hw w (by simp)
  unfold plan_command.f at h
  dsimp only at h
  split at h
  · simp only [Option.some.injEq, Prod.mk.injEq] at h; obtain ⟨-, rfl, rfl⟩ := h; exact ErrOK.of hpw1 hpw2 (by decide)
  · rename_i ho
    split at h
    · rename_i hf
      simp only [Option.some.injEq, Prod.mk.injEq] at h
      obtain ⟨-, rfl, rfl⟩ := h
      exact ⟨p, hp1, hp2, fun _ => hbad (by simpa using ho) hf⟩
    · split at h
      · simp only [Option.some.injEq, Prod.mk.injEq] at h; obtain ⟨-, rfl, rfl⟩ := h; exact ErrOK.of hp1 hp2 (by decide)
      · split at h
        · simp only [Option.some.injEq, Prod.mk.injEq] at h; obtain ⟨-, rfl, rfl⟩ := h; exact ErrOK.of hp1 hp2 (by decide)
        · split at h
          · simp only [Option.some.injEq, Prod.mk.injEq] at h; exact absurd h.2.2.symm hy
          · obtain ⟨⟨l2, x2, y2⟩, ha, h⟩ := Option.bind_eq_some_iff.1 h
            dsimp only at h
            obtain ⟨q1, q2⟩ := args_at hS (fun x hx => hw x (by simp [hx])) ha
            split at h
            · rename_i hy2
              obtain ⟨⟨ar, x3, y3⟩, hl, h⟩ := Option.bind_eq_some_iff.1 h
              dsimp only at h
              split at h
              · split at h
                · simp only [Option.some.injEq, Prod.mk.injEq] at h; obtain ⟨-, rfl, rfl⟩ := h; exact ErrOK.of hp1 hp2 (by decide)
                · simp only [Option.some.injEq, Prod.mk.injEq] at h; exact absurd h.2.2.symm hy
              · rename_i hy3
                simp only [Option.some.injEq, Prod.mk.injEq] at h
                obtain ⟨-, rfl, rfl⟩ := h
                exact list_at hS hs _ _ _ _ _ _ (q1 hy2) hl hy3
            · rename_i hy2
              simp only [Option.some.injEq, Prod.mk.injEq] at h
              obtain ⟨-, rfl, rfl⟩ := h
              exact q2 hy2
theorem script_l0_at (hS : S.length ≤ 16777216) (hs : ScrAt S m scr) (body : Bool) : ∀ (cs : List SCm) (out l : List POp) (x y : Int), (∀ c ∈ cs, PC S m c) → plan_script.l0 scr body cs out = some (l, x, y) → y ≠ 0 → ErrOK S x y := by
  intro cs
  induction cs with
  | nil =>
    intro out l x y _ h hy
    simp only [plan_script.l0, Option.some.injEq, Prod.mk.injEq] at h
    exact absurd h.2.2.symm hy
  | cons c cs ih =>
    intro out l x y hg h hy
    rw [plan_script.l0] at h
    obtain ⟨⟨o, x', y'⟩, hc, h⟩ := Option.bind_eq_some_iff.1 h
    dsimp only at h
    by_cases hy' : y' = 0
    · rw [if_pos hy'] at h
      exact ih _ _ _ _ (fun c hc => hg c (by simp [hc])) h hy
    · rw [if_neg hy'] at h
      simp only [Option.some.injEq, Prod.mk.injEq] at h
      obtain ⟨-, rfl, rfl⟩ := h
      exact command_at hS hs (hg c (by simp)) hc hy'
end
theorem script_at {S : List UInt8} (hS : S.length ≤ 16777216) : ∀ n, ScrAt S n (plan_script.f n) := by
  intro n
  induction n with
  | zero => intro t b body l x y rest h; omega
  | succ n ih =>
    intro t b body l x y rest ht hb hd hr h hy
    have h' : ((plan_parse.f t (b : Int)).bind fun r => if r.2.2 = 0 then plan_script.l0 (plan_script.f n) body r.1 [] else some ([], r.2.1, r.2.2)) = some (l, x, y) := h
    obtain ⟨⟨lr, x', y'⟩, hp, h'⟩ := Option.bind_eq_some_iff.1 h'
    dsimp only at h'
    obtain ⟨q1, q2⟩ := parse_at hS hb hd hr hp
    split at h'
    · rename_i hy'
      exact script_l0_at hS ih body _ _ _ _ _ (fun c hc => (q1 hy' c hc).mono (by omega)) h' hy
    · rename_i hy'
      simp only [Option.some.injEq, Prod.mk.injEq] at h'
      obtain ⟨-, rfl, rfl⟩ := h'
      exact q2 hy'
/-- A line's end behind changes nothing, but where the text ends too early. -/
theorem parse_nl {s : ByteArray} (hs : s.size + 1 ≤ 16777216) {l : List SCm} {x y : Int} (h : plan_parse.f s 0 = some (l, x, y)) (hy : y ≠ 5) : plan_parse.f (s ++ nlB) 0 = some (l, x, y) := by
  have hsz : (s ++ nlB).size = s.size + 1 := by rw [← lst_len, lst_append, List.length_append, lst_len]; rfl
  have hl : lst (s ++ nlB) = lst s ++ 10 :: [] := lst_append s nlB
  have pa := tcl_parse_is s (by omega)
  have pc := tcl_parse_is (s ++ nlB) (by omega)
  unfold plan_parse.f at h ⊢
  cases hm : M.parseM [] (lst s) 0 with
  | error z =>
    obtain ⟨z, e⟩ := z
    rw [hm] at pa
    rw [pa.1, Option.bind_some] at h
    dsimp only at h
    rw [if_neg pa.2] at h
    simp only [Option.some.injEq, Prod.mk.injEq] at h
    obtain ⟨rfl, rfl, rfl⟩ := h
    rw [hl, M.parseM_bad [] hm hy] at pc
    rw [pc.1, Option.bind_some]
    dsimp only
    rw [if_neg pc.2]
  | ok cs =>
    rw [hm] at pa
    dsimp only at pa
    rw [pa, Option.bind_some] at h
    dsimp only at h
    have h2 : M.parseM [] (lst s ++ 10 :: []) 0 = .ok cs := by
      rw [M.parseM_more [] hm, M.parseM, if_pos (by decide), M.parseM]
    rw [hl, h2] at pc
    dsimp only at pc
    rw [pc, Option.bind_some]
    exact h
/-- What PlanWrong asks for. -/
structure Told (n : Nat) (s : ByteArray) (l : List POp) (x y : Int) : Prop where
  zero : y = 0 → x = 0 ∧ ∃ m k, plan_Count.f m l = some k ∧ (l.length : Int) ≤ k
  none_ : y ≠ 0 → l = []
  at_ : y ≠ 0 → ∃ p : Nat, x = (p : Int) ∧ p ≤ s.size ∧ (y = 8 → ¬ Bad (lst s) p)
  again : ∃ l2 x2 y2, plan_Parse.f n (s ++ nlB) = some (l2, x2, y2) ∧ (y ≠ 0 → y ≠ 5 → l2 = [] ∧ x2 = x ∧ y2 = y)
theorem plan_wrong (n : Nat) (s : ByteArray) (hs : s.size ≤ 3000) (hn : 3001 < n) {l : List POp} {x y : Int} (h : plan_Parse.f n s = some (l, x, y)) : Told n s l x y := by
  have hlen := script_len n _ _ _ _ _ _ h
  have hsz : (s ++ nlB).size = s.size + 1 := by rw [← lst_len, lst_append, List.length_append, lst_len]; rfl
  obtain ⟨⟨l1, x1, y1⟩, r', h1, -, -, h2, h3⟩ := script_sh n s 0 0 false (by omega)
  rw [show plan_script.f n s 0 false = some (l, x, y) from h] at h1
  simp only [Option.some.injEq, Prod.mk.injEq] at h1
  obtain ⟨rfl, rfl, rfl⟩ := h1
  dsimp only at h2 h3
  refine ⟨fun hy => ⟨(h2 hy).1, ?_⟩, fun hy => (h3 hy).1, fun hy => ?_, ?_⟩
  · obtain ⟨N, hN⟩ := count_is l (by omega)
    exact ⟨N, _, hN N (Nat.le_refl _), by have := len_le l; omega⟩
  · obtain ⟨p, hp1, hp2, hp3⟩ := script_at (S := lst s) (by rw [lst_len]; omega) n s 0 false l x y [] (by omega) (Nat.zero_le _) (by rw [List.drop_zero, List.append_nil]) (.inl rfl) h hy
    exact ⟨p, hp1, by rw [lst_len] at hp2; exact hp2, hp3⟩
  · obtain ⟨l2, x2, y2, h4, h5⟩ := plan_Parse_some n (s ++ nlB) (by omega)
    refine ⟨l2, x2, y2, h4, fun hy hy5 => ?_⟩
    obtain ⟨k, rfl⟩ : ∃ k, n = k + 1 := ⟨n - 1, by omega⟩
    have h' : ((plan_parse.f s 0).bind fun r => if r.2.2 = 0 then plan_script.l0 (plan_script.f k) false r.1 [] else some ([], r.2.1, r.2.2)) = some (l, x, y) := h
    have h4' : ((plan_parse.f (s ++ nlB) 0).bind fun r => if r.2.2 = 0 then plan_script.l0 (plan_script.f k) false r.1 [] else some ([], r.2.1, r.2.2)) = some (l2, x2, y2) := h4
    obtain ⟨⟨lr, x', y'⟩, hp, h'⟩ := Option.bind_eq_some_iff.1 h'
    have hy'5 : y' ≠ 5 := by
      intro h6
      subst h6
      dsimp only at h'
      rw [if_neg (by decide)] at h'
      simp only [Option.some.injEq, Prod.mk.injEq] at h'
      exact hy5 h'.2.2.symm
    rw [parse_nl (by omega) hp hy'5, Option.bind_some] at h4'
    dsimp only at h' h4'
    rw [h'] at h4'
    simp only [Option.some.injEq, Prod.mk.injEq] at h4'
    obtain ⟨rfl, rfl, rfl⟩ := h4'
    exact ⟨(h3 hy).1, rfl, rfl⟩
end Go.Proofs.Ytofhcjdadhpjdaa.Q
