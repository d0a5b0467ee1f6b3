/- A clean model of tcl.Parse over lists of bytes, with what another text behind changes. -/
namespace Go.Proofs.Ytofhcjdadhpjdaa.M
abbrev Bs := List UInt8
structure Part where
  v : Bool
  s : Bs
deriving DecidableEq
structure Word where
  at_ : Nat
  kind : Nat
  parts : List Part
structure Cmd where
  at_ : Nat
  words : List Word
def blankB (c : UInt8) : Bool := c == 32 || c == 9
def endB (c : UInt8) : Bool := c == 10 || c == 59
def stopB (c : UInt8) : Bool := blankB c || endB c
def quoB (c : UInt8) : Bool := c == 34
def octB (c : UInt8) : Bool := 48 ≤ c && c ≤ 55
def nameB (c : UInt8) : Bool := (97 ≤ c && c ≤ 122) || (65 ≤ c && c ≤ 90) || (48 ≤ c && c ≤ 57) || c == 95
abbrev Wrong := Nat × Int
/-- What a backslash tells, of what stands behind it: the byte, and how many bytes that are. -/
def escM : Bs → Option (UInt8 × Nat)
  | [] => none
  | c :: r =>
    if octB c then
      match r with
      | [] => some (c - 48, 1)
      | d :: r2 =>
        if octB d then
          match r2 with
          | [] => some ((c - 48) * 8 + (d - 48), 2)
          | e :: _ => if octB e then some (((c - 48) * 8 + (d - 48)) * 8 + (e - 48), 3) else some ((c - 48) * 8 + (d - 48), 2)
        else some (c - 48, 1)
    else some (if c = 110 then 10 else if c = 116 then 9 else if c = 114 then 13 else c, 1)
theorem escM_le {r : Bs} {x : UInt8} {k : Nat} (h : escM r = some (x, k)) : 1 ≤ k ∧ k ≤ r.length := by
  unfold escM at h
  repeat' split at h
  all_goals first | (cases h; done) | (simp only [Option.some.injEq, Prod.mk.injEq] at h; obtain ⟨-, rfl⟩ := h; simp only [List.length_cons]; omega)
theorem escM_more {r u : Bs} {x : UInt8} {k : Nat} (h : escM r = some (x, k)) : escM (r ++ 10 :: u) = some (x, k) := by
  match r, h with
  | [c], h =>
    show escM (c :: 10 :: u) = _
    rw [← h]
    unfold escM
    by_cases h1 : octB c = true <;> simp [h1, show octB 10 = false from rfl]
  | [c, d], h =>
    show escM (c :: d :: 10 :: u) = _
    rw [← h]
    unfold escM
    by_cases h1 : octB c = true <;> by_cases h2 : octB d = true <;> simp [h1, h2, show octB 10 = false from rfl]
  | c :: d :: e :: r, h =>
    rw [← h]
    rfl

/-- A braced word, behind its first brace: how many bytes to behind its last one. -/
def brM : Nat → Bs → Nat → Nat → Except Wrong Nat
  | f, [], _, _ => .error (f, 5)
  | f, [c], p, d => if c = 92 then .error (f, 5) else if c = 123 then if 64 < d + 1 then .error (p, 7) else .error (f, 5) else if c = 125 then if 1 < d then .error (f, 5) else .ok (p + 1) else .error (f, 5)
  | f, c :: b :: r, p, d =>
    if c = 92 then brM f r (p + 2) d
    else if c = 123 then if 64 < d + 1 then .error (p, 7) else brM f (b :: r) (p + 1) (d + 1)
    else if c = 125 then if 1 < d then brM f (b :: r) (p + 1) (d - 1) else .ok (p + 1)
    else brM f (b :: r) (p + 1) d
def flushM (l : List Part) (t : Bs) : List Part := if t = [] then l else l ++ [⟨false, t⟩]
/-- How long a name stands there. -/
def nmM (r : Bs) : Nat := (r.takeWhile nameB).length
/-- The parts of a word, from a place on: what is left, its place. -/
def ptM (stop : UInt8 → Bool) (fr : Option Nat) (l : List Part) (t : Bs) (r : Bs) (p : Nat) : Except Wrong (List Part × Bs × Nat) :=
  match r with
  | [] => .ok (flushM l t, [], p)
  | c :: r1 =>
    if stop c then .ok (flushM l t, c :: r1, p)
    else if c = 91 then .error (p, 4)
    else if c = 92 then
      match escM r1 with
      | none => .error (fr.getD p, 5)
      | some (x, k) => ptM stop fr l (t ++ [x]) (r1.drop k) (p + 1 + k)
    else if c = 36 then
      if 64 < nmM r1 then .error (p, 6)
      else if nmM r1 = 0 then ptM stop fr l (t ++ [c]) r1 (p + 1)
      else ptM stop fr (flushM l t ++ [⟨true, r1.take (nmM r1)⟩]) [] (r1.drop (nmM r1)) (p + 1 + nmM r1)
    else ptM stop fr l (t ++ [c]) r1 (p + 1)
termination_by r.length
decreasing_by all_goals simp only [List.length_drop, List.length_cons]; omega
/-- What stands right behind a word that has an end of its own. -/
def behindM (w : Word) (r : Bs) (p : Nat) : Except Wrong (Word × Bs × Nat) :=
  match r with
  | [] => .ok (w, [], p)
  | c :: r1 => if stopB c then .ok (w, c :: r1, p) else .error (p, 4)
def wordM (r : Bs) (p : Nat) : Except Wrong (Word × Bs × Nat) :=
  match r with
  | [] => .ok (⟨p, 0, []⟩, [], p)
  | c :: r1 =>
    if c = 123 then
      match brM p r1 (p + 1) 1 with
      | .error x => .error x
      | .ok q => behindM ⟨p, 2, if q = p + 2 then [] else [⟨false, r1.take (q - p - 2)⟩]⟩ (r1.drop (q - p - 1)) q
    else if c = 34 then
      match ptM quoB (some p) [] [] r1 (p + 1) with
      | .error x => .error x
      | .ok (_, [], _) => .error (p, 5)
      | .ok (l, _ :: r2, q) => behindM ⟨p, 1, l⟩ r2 (q + 1)
    else
      match ptM stopB none [] [] (c :: r1) p with
      | .error x => .error x
      | .ok (l, r2, q) => .ok (⟨p, 0, l⟩, r2, q)
def cmdM (ws : List Word) (r : Bs) (p : Nat) : Except Wrong (List Word × Bs × Nat) :=
  match r with
  | [] => .ok (ws, [], p)
  | c :: r1 =>
    if endB c then .ok (ws, c :: r1, p)
    else if blankB c then cmdM ws r1 (p + 1)
    else match wordM (c :: r1) p with
      | .error x => .error x
      | .ok (w, r2, q) => if r2.length < (c :: r1).length then cmdM (ws ++ [w]) r2 q else .error (p, 99)
termination_by r.length
decreasing_by all_goals simp only [List.length_cons] at *; omega
def parseM (cs : List Cmd) (r : Bs) (p : Nat) : Except Wrong (List Cmd) :=
  match r with
  | [] => .ok cs
  | c :: r1 =>
    if stopB c then parseM cs r1 (p + 1)
    else if c = 35 then parseM cs (r1.drop (r1.takeWhile (· != 10)).length) (p + 1 + (r1.takeWhile (· != 10)).length)
    else match cmdM [] (c :: r1) p with
      | .error x => .error x
      | .ok (ws, r2, q) => if r2.length < (c :: r1).length then parseM (cs ++ [⟨p, ws⟩]) r2 q else .error (p, 99)
termination_by r.length
decreasing_by all_goals simp only [List.length_cons, List.length_drop] at *; omega

section
variable {α : Type}
def shE (d : Nat) (f : α → α) : Except Wrong α → Except Wrong α
  | .error (a, e) => .error (a + d, e)
  | .ok x => .ok (f x)
end
theorem takeWhile_more {p : UInt8 → Bool} (r : Bs) {x : UInt8} (u : Bs) (hx : p x = false) : (r ++ x :: u).takeWhile p = r.takeWhile p := by
  induction r with
  | nil => simp [List.takeWhile, hx]
  | cons c r ih => simp only [List.cons_append, List.takeWhile_cons]; split <;> simp [ih]
theorem takeWhile_le {p : UInt8 → Bool} (r : Bs) : (r.takeWhile p).length ≤ r.length := (List.takeWhile_sublist p).length_le

theorem brM_shift (f : Nat) (r : Bs) (p d k : Nat) : brM (f + k) r (p + k) d = shE k (· + k) (brM f r p d) := by
  fun_induction brM f r p d <;> simp_all [brM, shE, Nat.add_right_comm]
  all_goals intros; omega
theorem brM_more {f : Nat} {r : Bs} {p d q : Nat} (u : Bs) (h : brM f r p d = .ok q) : brM f (r ++ u) p d = .ok q := by
  cases u with
  | nil => simpa using h
  | cons x u => fun_induction brM f r p d <;> simp_all [brM] <;> intros <;> omega
theorem brM_bad {f : Nat} {r : Bs} {p d a : Nat} {e : Int} (u : Bs) (h : brM f r p d = .error (a, e)) (he : e ≠ 5) : brM f (r ++ u) p d = .error (a, e) := by
  cases u with
  | nil => simpa using h
  | cons x u =>
    fun_induction brM f r p d <;> simp_all [brM]
    all_goals intros; omega
theorem brM_at {f : Nat} {r : Bs} {p d q : Nat} (h : brM f r p d = .ok q) : p < q ∧ q ≤ p + r.length := by
  fun_induction brM f r p d <;> simp_all <;> omega
section
variable {α : Type}
end
theorem nmM_le (r : Bs) : nmM r ≤ r.length := takeWhile_le r
theorem nmM_more (r u : Bs) : nmM (r ++ 10 :: u) = nmM r := by unfold nmM; rw [takeWhile_more _ _ (by decide)]
theorem drop_more {r : Bs} {k : Nat} (x : UInt8) (u : Bs) (hk : k ≤ r.length) : (r ++ x :: u).drop k = r.drop k ++ x :: u := List.drop_append_of_le_length hk
theorem take_more {r : Bs} {k : Nat} (x : UInt8) (u : Bs) (hk : k ≤ r.length) : (r ++ x :: u).take k = r.take k := List.take_append_of_le_length hk
/-- Another line behind: a quoted word, or a bare one, is the same. -/
theorem ptM_more {stop : UInt8 → Bool} {fr : Option Nat} {l : List Part} {t : Bs} {r : Bs} {p : Nat} {l' : List Part} {r2 : Bs} {q : Nat} (u : Bs) (h : ptM stop fr l t r p = .ok (l', r2, q)) (hs : r2 ≠ [] ∨ stop 10 = true) :
    ptM stop fr l t (r ++ 10 :: u) p = .ok (l', r2 ++ 10 :: u, q) := by
  fun_induction ptM stop fr l t r p
  case case1 l t p =>
    simp only [Except.ok.injEq, Prod.mk.injEq] at h
    obtain ⟨rfl, rfl, rfl⟩ := h
    rw [List.nil_append, ptM, if_pos (hs.resolve_left (fun h => h rfl))]
  all_goals rw [List.cons_append, ptM]
  case case5 l t p r1 x k hx h1 h2 ih =>
    rw [escM_more hx, if_neg h1, if_neg h2, if_pos rfl]
    dsimp only
    rw [drop_more _ _ (escM_le hx).2]
    exact ih h
  case case8 l t p r1 hn hn0 h1 h2 h3 ih =>
    rw [nmM_more, drop_more _ _ (nmM_le r1), take_more _ _ (nmM_le r1), if_neg h1, if_neg (by decide), if_neg (by decide), if_pos rfl, if_neg hn, if_neg hn0]
    exact ih h
  all_goals simp_all [nmM_more]
  all_goals (obtain ⟨rfl, rfl, rfl⟩ := h; simp)
theorem ptM_bad {stop : UInt8 → Bool} {fr : Option Nat} {l : List Part} {t : Bs} {r : Bs} {p : Nat} {a : Nat} {e : Int} (u : Bs) (h : ptM stop fr l t r p = .error (a, e)) (he : e ≠ 5) :
    ptM stop fr l t (r ++ 10 :: u) p = .error (a, e) := by
  fun_induction ptM stop fr l t r p
  case case1 l t p => cases h
  all_goals rw [List.cons_append, ptM]
  case case5 l t p r1 x k hx h1 h2 ih =>
    rw [escM_more hx, if_neg h1, if_neg h2, if_pos rfl]
    dsimp only
    rw [drop_more _ _ (escM_le hx).2]
    exact ih h
  case case8 l t p r1 hn hn0 h1 h2 h3 ih =>
    rw [nmM_more, drop_more _ _ (nmM_le r1), take_more _ _ (nmM_le r1), if_neg h1, if_neg (by decide), if_neg (by decide), if_pos rfl, if_neg hn, if_neg hn0]
    exact ih h
  all_goals simp_all [nmM_more]
theorem ptM_at {stop : UInt8 → Bool} {fr : Option Nat} {l : List Part} {t : Bs} {r : Bs} {p : Nat} {l' : List Part} {r2 : Bs} {q : Nat} (h : ptM stop fr l t r p = .ok (l', r2, q)) : q + r2.length = p + r.length := by
  fun_induction ptM stop fr l t r p
  case case5 l t p r1 x k hx h1 h2 ih => have := ih h; have := (escM_le hx).2; simp only [List.length_drop, List.length_cons] at *; omega
  case case8 l t p r1 hn hn0 h1 h2 h3 ih => have := ih h; have := nmM_le r1; simp only [List.length_drop, List.length_cons] at *; omega
  all_goals simp_all
  all_goals omega
theorem ptM_sub {stop : UInt8 → Bool} {fr : Option Nat} {l : List Part} {t : Bs} {r : Bs} {p : Nat} {l' : List Part} {r2 : Bs} {q : Nat} (h : ptM stop fr l t r p = .ok (l', r2, q)) : r2.length ≤ r.length := by
  fun_induction ptM stop fr l t r p
  case case5 l t p r1 x k hx h1 h2 ih => have := ih h; have := (escM_le hx).2; simp only [List.length_drop, List.length_cons] at *; omega
  case case8 l t p r1 hn hn0 h1 h2 h3 ih => have := ih h; have := nmM_le r1; simp only [List.length_drop, List.length_cons] at *; omega
  all_goals simp_all
  all_goals omega
/-- Something that is no stop is taken. -/
theorem ptM_lt {stop : UInt8 → Bool} {fr : Option Nat} {l : List Part} {t : Bs} {c : UInt8} {r : Bs} {p : Nat} {l' : List Part} {r2 : Bs} {q : Nat} (hc : stop c = false) (h : ptM stop fr l t (c :: r) p = .ok (l', r2, q)) : p < q := by
  rw [ptM] at h
  simp only [hc, Bool.false_eq_true, if_false] at h
  have hh : ∀ l t r p1, p < p1 → ptM stop fr l t r p1 = .ok (l', r2, q) → r2.length ≤ r.length → p < q := fun l t r p1 h1 h2 h3 => by have := ptM_at h2; omega
  split at h
  · cases h
  · split at h
    · split at h
      · cases h
      · exact hh _ _ _ _ (by omega) h (ptM_sub h)
    · split at h
      · split at h
        · cases h
        · split at h
          · exact hh _ _ _ _ (by omega) h (ptM_sub h)
          · exact hh _ _ _ _ (by omega) h (ptM_sub h)
      · exact hh _ _ _ _ (by omega) h (ptM_sub h)

theorem behindM_more {w : Word} {r : Bs} {p : Nat} {w' : Word} {r2 : Bs} {q : Nat} (u : Bs) (h : behindM w r p = .ok (w', r2, q)) : behindM w (r ++ 10 :: u) p = .ok (w', r2 ++ 10 :: u, q) := by
  cases r with
  | nil =>
    simp only [behindM, Except.ok.injEq, Prod.mk.injEq] at h
    obtain ⟨rfl, rfl, rfl⟩ := h
    rfl
  | cons c r =>
    simp only [behindM, List.cons_append] at h ⊢
    split at h
    · rename_i hc
      simp only [Except.ok.injEq, Prod.mk.injEq] at h
      obtain ⟨rfl, rfl, rfl⟩ := h
      rw [if_pos hc]
      rfl
    · cases h
theorem behindM_bad {w : Word} {r : Bs} {p a : Nat} {e : Int} (u : Bs) (h : behindM w r p = .error (a, e)) : behindM w (r ++ 10 :: u) p = .error (a, e) := by
  cases r with
  | nil => cases h
  | cons c r =>
    simp only [behindM, List.cons_append] at h ⊢
    split at h
    · cases h
    · rename_i hc
      rw [if_neg hc]
      exact h
theorem behindM_at {w : Word} {r : Bs} {p : Nat} {w' : Word} {r2 : Bs} {q : Nat} (h : behindM w r p = .ok (w', r2, q)) : w' = w ∧ r2 = r ∧ q = p := by
  unfold behindM at h
  split at h
  · simp only [Except.ok.injEq, Prod.mk.injEq] at h
    exact ⟨h.1.symm, h.2.1.symm, h.2.2.symm⟩
  · split at h
    · simp only [Except.ok.injEq, Prod.mk.injEq] at h
      exact ⟨h.1.symm, h.2.1.symm, h.2.2.symm⟩
    · cases h
theorem wordM_more {r : Bs} {p : Nat} {w : Word} {r2 : Bs} {q : Nat} (u : Bs) (hr : r ≠ []) (h : wordM r p = .ok (w, r2, q)) : wordM (r ++ 10 :: u) p = .ok (w, r2 ++ 10 :: u, q) := by
  cases r with
  | nil => exact absurd rfl hr
  | cons c r1 =>
    simp only [wordM, List.cons_append] at h ⊢
    split at h
    · rename_i h1
      rw [if_pos h1]
      split at h
      · cases h
      · rename_i q1 hq
        have hat := brM_at hq
        rw [brM_more _ hq]
        dsimp only
        rw [take_more _ _ (by omega), drop_more _ _ (by omega)]
        exact behindM_more _ h
    · rename_i h1
      rw [if_neg h1]
      split at h
      · rename_i h2
        rw [if_pos h2]
        split at h
        · cases h
        · cases h
        · rename_i hq
          rw [ptM_more u hq (.inl (by simp))]
          exact behindM_more _ h
      · rename_i h2
        rw [if_neg h2]
        split at h
        · cases h
        · rename_i hq
          simp only [Except.ok.injEq, Prod.mk.injEq] at h
          obtain ⟨rfl, rfl, rfl⟩ := h
          have := ptM_more u hq (.inr (by decide))
          rw [List.cons_append] at this
          rw [this]
theorem wordM_bad {r : Bs} {p a : Nat} {e : Int} (u : Bs) (h : wordM r p = .error (a, e)) (he : e ≠ 5) : wordM (r ++ 10 :: u) p = .error (a, e) := by
  cases r with
  | nil => cases h
  | cons c r1 =>
    simp only [wordM, List.cons_append] at h ⊢
    split at h
    · rename_i h1
      rw [if_pos h1]
      split at h
      · rename_i x hq
        obtain ⟨a1, e1⟩ := x
        cases h
        rw [brM_bad _ hq he]
      · rename_i q1 hq
        have hat := brM_at hq
        rw [brM_more _ hq]
        dsimp only
        rw [take_more _ _ (by omega), drop_more _ _ (by omega)]
        exact behindM_bad _ h
    · rename_i h1
      rw [if_neg h1]
      split at h
      · rename_i h2
        rw [if_pos h2]
        split at h
        · rename_i x hq
          cases h
          rw [ptM_bad u hq he]
        · cases h; exact absurd rfl he
        · rename_i hq
          rw [ptM_more u hq (.inl (by simp))]
          exact behindM_bad _ h
      · rename_i h2
        rw [if_neg h2]
        split at h
        · rename_i x hq
          cases h
          have := ptM_bad u hq he
          rw [List.cons_append] at this
          rw [this]
        · cases h
theorem wordM_at {c : UInt8} {r : Bs} {p : Nat} {w : Word} {r2 : Bs} {q : Nat} (hc : stopB c = false) (h : wordM (c :: r) p = .ok (w, r2, q)) : q + r2.length = p + (c :: r).length ∧ r2.length < (c :: r).length ∧ w.at_ = p := by
  simp only [wordM] at h
  split at h
  · split at h
    · cases h
    · rename_i q1 hq
      have hat := brM_at hq
      obtain ⟨rfl, rfl, rfl⟩ := behindM_at h
      rw [List.length_drop, List.length_cons]
      exact ⟨by omega, by omega, rfl⟩
  · split at h
    · split at h
      · cases h
      · cases h
      · rename_i hq
        have hat := ptM_at hq
        obtain ⟨rfl, rfl, rfl⟩ := behindM_at h
        have hle := ptM_sub hq
        rw [List.length_cons] at hat hle
        rw [List.length_cons]
        exact ⟨by omega, by omega, rfl⟩
    · split at h
      · cases h
      · rename_i hq
        simp only [Except.ok.injEq, Prod.mk.injEq] at h
        obtain ⟨rfl, rfl, rfl⟩ := h
        have hat := ptM_at hq
        have := ptM_lt hc hq
        exact ⟨hat, by omega, rfl⟩
theorem stop_of {c : UInt8} (h : ¬endB c = true) (h1 : ¬blankB c = true) : stopB c = false := by
  unfold stopB
  simp_all
theorem cmdM_more {ws : List Word} {r : Bs} {p : Nat} {ws' : List Word} {r2 : Bs} {q : Nat} (u : Bs) (h : cmdM ws r p = .ok (ws', r2, q)) : cmdM ws (r ++ 10 :: u) p = .ok (ws', r2 ++ 10 :: u, q) := by
  fun_induction cmdM ws r p
  case case1 ws p =>
    simp only [Except.ok.injEq, Prod.mk.injEq] at h
    obtain ⟨rfl, rfl, rfl⟩ := h
    rw [List.nil_append, cmdM, if_pos (by decide)]
  all_goals rw [List.cons_append, cmdM]
  case case2 ws p c r1 h1 =>
    simp only [Except.ok.injEq, Prod.mk.injEq] at h
    obtain ⟨rfl, rfl, rfl⟩ := h
    rw [if_pos h1]
    rfl
  case case3 ws p c r1 h1 h2 ih => rw [if_neg h1, if_pos h2]; exact ih h
  case case4 => cases h
  case case5 ws p c r1 h1 h2 w r3 q1 hx hl ih =>
    have := wordM_more u (by simp) hx
    rw [List.cons_append] at this
    rw [if_neg h1, if_neg h2, this]
    dsimp only
    rw [if_pos (by simp only [List.length_cons, List.length_append] at hl ⊢; omega)]
    exact ih h
  case case6 => cases h
theorem cmdM_bad {ws : List Word} {r : Bs} {p a : Nat} {e : Int} (u : Bs) (h : cmdM ws r p = .error (a, e)) (he : e ≠ 5) : cmdM ws (r ++ 10 :: u) p = .error (a, e) := by
  fun_induction cmdM ws r p
  case case1 => cases h
  all_goals rw [List.cons_append, cmdM]
  case case2 => cases h
  case case3 ws p c r1 h1 h2 ih => rw [if_neg h1, if_pos h2]; exact ih h
  case case4 ws p c r1 h1 h2 x hx =>
    cases h
    have := wordM_bad u hx he
    rw [List.cons_append] at this
    rw [if_neg h1, if_neg h2, this]
  case case5 ws p c r1 h1 h2 w r3 q1 hx hl ih =>
    have := wordM_more u (by simp) hx
    rw [List.cons_append] at this
    rw [if_neg h1, if_neg h2, this]
    dsimp only
    rw [if_pos (by simp only [List.length_cons, List.length_append] at hl ⊢; omega)]
    exact ih h
  case case6 ws p c r1 h1 h2 w r3 q1 hx hl => exact absurd (wordM_at (stop_of h1 h2) hx).2.1 hl
theorem cmdM_at {ws : List Word} {r : Bs} {p : Nat} {ws' : List Word} {r2 : Bs} {q : Nat} (h : cmdM ws r p = .ok (ws', r2, q)) : q + r2.length = p + r.length ∧ r2.length ≤ r.length ∧ ∃ l, ws' = ws ++ l := by
  fun_induction cmdM ws r p
  case case1 ws p =>
    simp only [Except.ok.injEq, Prod.mk.injEq] at h
    obtain ⟨rfl, rfl, rfl⟩ := h
    exact ⟨rfl, Nat.le_refl _, [], by simp⟩
  case case2 ws p c r1 h1 =>
    simp only [Except.ok.injEq, Prod.mk.injEq] at h
    obtain ⟨rfl, rfl, rfl⟩ := h
    exact ⟨rfl, Nat.le_refl _, [], by simp⟩
  case case3 ws p c r1 h1 h2 ih =>
    obtain ⟨i1, i2, i3⟩ := ih h
    simp only [List.length_cons]
    exact ⟨by omega, by omega, i3⟩
  case case4 => cases h
  case case5 ws p c r1 h1 h2 w r3 q1 hx hl ih =>
    obtain ⟨i1, i2, l, i3⟩ := ih h
    obtain ⟨j1, j2, _⟩ := wordM_at (stop_of h1 h2) hx
    exact ⟨by omega, by omega, w :: l, by rw [i3, List.append_assoc]; rfl⟩
  case case6 => cases h
/-- A command that begins with a byte of a word has one at least, and takes one at least. -/
theorem cmdM_lt {c : UInt8} {r : Bs} {p : Nat} {ws' : List Word} {r2 : Bs} {q : Nat} (hc : stopB c = false) (h : cmdM [] (c :: r) p = .ok (ws', r2, q)) : r2.length < (c :: r).length ∧ ∃ w l, ws' = w :: l ∧ w.at_ = p := by
  unfold stopB at hc
  rw [cmdM, if_neg (by intro h; simp [h] at hc), if_neg (by intro h; simp [h] at hc)] at h
  split at h
  · cases h
  · rename_i w r3 q1 hx
    split at h
    · rename_i hl
      obtain ⟨i1, i2, l, i3⟩ := cmdM_at h
      exact ⟨by omega, w, l, i3, (wordM_at (by unfold stopB; exact hc) hx).2.2⟩
    · cases h
/-- Another line behind a text that can be parsed. -/
theorem parseM_more {cs : List Cmd} {r : Bs} {p : Nat} {cs' : List Cmd} (u : Bs) (h : parseM cs r p = .ok cs') : parseM cs (r ++ 10 :: u) p = parseM cs' (10 :: u) (p + r.length) := by
  fun_induction parseM cs r p
  case case1 cs p =>
    cases h
    rfl
  all_goals rw [List.cons_append, parseM]
  case case2 cs p c r1 h1 ih => rw [if_pos h1, ih h, List.length_cons]; congr 1; omega
  case case3 cs p r1 h1 ih =>
    have hk : (r1.takeWhile (· != 10)).length ≤ r1.length := takeWhile_le r1
    rw [if_neg h1, if_pos rfl, takeWhile_more r1 u (by decide), drop_more _ _ hk, ih h, List.length_cons, List.length_drop]
    congr 1
    omega
  case case4 => cases h
  case case5 cs p c r1 h1 h2 ws r2 q hx hl ih =>
    have := cmdM_more u hx
    rw [List.cons_append] at this
    rw [if_neg h1, if_neg h2, this]
    dsimp only
    rw [if_pos (by simp only [List.length_cons, List.length_append] at hl ⊢; omega), ih h]
    congr 1
    have := (cmdM_at hx).1
    omega
  case case6 => cases h
theorem parseM_bad {cs : List Cmd} {r : Bs} {p a : Nat} {e : Int} (u : Bs) (h : parseM cs r p = .error (a, e)) (he : e ≠ 5) : parseM cs (r ++ 10 :: u) p = .error (a, e) := by
  fun_induction parseM cs r p
  case case1 cs p => cases h
  all_goals rw [List.cons_append, parseM]
  case case2 cs p c r1 h1 ih => rw [if_pos h1]; exact ih h
  case case3 cs p r1 h1 ih =>
    have hk : (r1.takeWhile (· != 10)).length ≤ r1.length := takeWhile_le r1
    rw [if_neg h1, if_pos rfl, takeWhile_more r1 u (by decide), drop_more _ _ hk]
    exact ih h
  case case4 cs p c r1 h1 h2 x hx =>
    cases h
    have := cmdM_bad u hx he
    rw [List.cons_append] at this
    rw [if_neg h1, if_neg h2, this]
  case case5 cs p c r1 h1 h2 ws r2 q hx hl ih =>
    have := cmdM_more u hx
    rw [List.cons_append] at this
    rw [if_neg h1, if_neg h2, this]
    dsimp only
    rw [if_pos (by simp only [List.length_cons, List.length_append] at hl ⊢; omega)]
    exact ih h
  case case6 cs p c r1 h1 h2 ws r2 q hx hl => exact absurd (cmdM_lt (by simpa using h1) hx).1 hl
theorem cmdM_words {ws : List Word} {r : Bs} {p : Nat} {ws' : List Word} {r2 : Bs} {q : Nat} (h : cmdM ws r p = .ok (ws', r2, q)) : ws'.length + r2.length ≤ ws.length + r.length := by
  fun_induction cmdM ws r p
  case case1 ws p =>
    simp only [Except.ok.injEq, Prod.mk.injEq] at h
    obtain ⟨rfl, rfl, rfl⟩ := h
    exact Nat.le_refl _
  case case2 ws p c r1 h1 =>
    simp only [Except.ok.injEq, Prod.mk.injEq] at h
    obtain ⟨rfl, rfl, rfl⟩ := h
    exact Nat.le_refl _
  case case3 ws p c r1 h1 h2 ih =>
    have := ih h
    rw [List.length_cons]
    omega
  case case4 => cases h
  case case5 ws p c r1 h1 h2 w r3 q1 hx hl ih =>
    have := ih h
    simp only [List.length_append, List.length_cons, List.length_nil] at this hl ⊢
    omega
  case case6 => cases h
/-- The words are no more than the text's bytes; so are the commands. -/
theorem parseM_words {cs : List Cmd} {r : Bs} {p : Nat} {cs' : List Cmd} (h : parseM cs r p = .ok cs') : (cs'.flatMap (·.words)).length ≤ (cs.flatMap (·.words)).length + r.length ∧ cs'.length ≤ cs.length + r.length := by
  fun_induction parseM cs r p
  case case1 => cases h; exact ⟨by omega, by omega⟩
  case case2 ih => have := ih h; rw [List.length_cons]; exact ⟨by omega, by omega⟩
  case case3 ih => have := ih h; rw [List.length_drop] at this; rw [List.length_cons]; exact ⟨by omega, by omega⟩
  case case4 => cases h
  case case5 cs p c r1 h1 h2 ws r2 q hx hl ih =>
    have := ih h
    have hw := cmdM_words hx
    simp only [List.flatMap_append, List.flatMap_cons, List.flatMap_nil, List.append_nil, List.length_append, List.length_cons, List.length_nil] at this hw hl ⊢
    exact ⟨by omega, by omega⟩
  case case6 => cases h
/-- A braced word's text is shorter than N. -/
def WOpen (N : Nat) (w : Word) : Prop := w.kind = 2 → w.parts = [] ∨ ∃ t, w.parts = [⟨false, t⟩] ∧ t.length < N
theorem WOpen.mono {N N' : Nat} {w : Word} (h : WOpen N w) (hN : N ≤ N') : WOpen N' w := fun hk => (h hk).imp id (fun ⟨t, h1, h2⟩ => ⟨t, h1, by omega⟩)
theorem wordM_open {c : UInt8} {r : Bs} {p : Nat} {w : Word} {r2 : Bs} {q : Nat} (h : wordM (c :: r) p = .ok (w, r2, q)) : WOpen (c :: r).length w := by
  simp only [wordM] at h
  split at h
  · split at h
    · cases h
    · rename_i q1 hq
      obtain ⟨rfl, -, -⟩ := behindM_at h
      intro _
      dsimp only
      by_cases h2 : q1 = p + 2
      · rw [if_pos h2]; exact .inl rfl
      · rw [if_neg h2]
        refine .inr ⟨_, rfl, ?_⟩
        rw [List.length_take, List.length_cons]
        omega
  · split at h
    · split at h
      · cases h
      · cases h
      · obtain ⟨rfl, -, -⟩ := behindM_at h
        intro hk
        cases hk
    · split at h
      · cases h
      · simp only [Except.ok.injEq, Prod.mk.injEq] at h
        obtain ⟨rfl, -, -⟩ := h
        intro hk
        cases hk
theorem cmdM_open {ws : List Word} {r : Bs} {p : Nat} {ws' : List Word} {r2 : Bs} {q : Nat} {N : Nat} (h : cmdM ws r p = .ok (ws', r2, q)) (hN : r.length ≤ N) (hw : ∀ w ∈ ws, WOpen N w) : ∀ w ∈ ws', WOpen N w := by
  fun_induction cmdM ws r p
  case case1 ws p =>
    simp only [Except.ok.injEq, Prod.mk.injEq] at h
    obtain ⟨rfl, rfl, rfl⟩ := h
    exact hw
  case case2 ws p c r1 h1 =>
    simp only [Except.ok.injEq, Prod.mk.injEq] at h
    obtain ⟨rfl, rfl, rfl⟩ := h
    exact hw
  case case3 ws p c r1 h1 h2 ih => exact ih h (by rw [List.length_cons] at hN; omega) hw
  case case4 => cases h
  case case5 ws p c r1 h1 h2 w r3 q1 hx hl ih =>
    refine ih h (by omega) (fun v hv => ?_)
    rcases List.mem_append.1 hv with hv | hv
    · exact hw v hv
    · rw [List.mem_singleton] at hv
      subst hv
      exact (wordM_open hx).mono hN
  case case6 => cases h
/-- Each command has a word at its place; braced words are shorter than the text. -/
def COpen (N : Nat) (c : Cmd) : Prop := (∃ w l, c.words = w :: l ∧ w.at_ = c.at_) ∧ ∀ w ∈ c.words, WOpen N w
theorem parseM_open {cs : List Cmd} {r : Bs} {p : Nat} {cs' : List Cmd} {N : Nat} (h : parseM cs r p = .ok cs') (hN : r.length ≤ N) (hc : ∀ c ∈ cs, COpen N c) : ∀ c ∈ cs', COpen N c := by
  fun_induction parseM cs r p
  case case1 => cases h; exact hc
  case case2 ih => exact ih h (by rw [List.length_cons] at hN; omega) hc
  case case3 ih => exact ih h (by rw [List.length_cons] at hN; rw [List.length_drop]; omega) hc
  case case4 => cases h
  case case5 cs p c r1 h1 h2 ws r2 q hx hl ih =>
    refine ih h (by omega) (fun v hv => ?_)
    rcases List.mem_append.1 hv with hv | hv
    · exact hc v hv
    · rw [List.mem_singleton] at hv
      subst hv
      exact ⟨(cmdM_lt (by simpa using h1) hx).2, cmdM_open hx hN (by simp)⟩
  case case6 => cases h
/-- The bytes of a braced word's text. -/
def wl (w : Word) : Nat := if w.kind = 2 then (match w.parts with | [p] => p.s.length | _ => 0) else 0
def wls : List Word → Nat
  | [] => 0
  | w :: l => wl w + 1 + wls l
def cls : List Cmd → Nat
  | [] => 0
  | c :: l => wls c.words + cls l
theorem wls_append (l m : List Word) : wls (l ++ m) = wls l + wls m := by
  induction l with
  | nil => simp [wls]
  | cons a l ih => rw [List.cons_append, wls, wls, ih]; omega
theorem cls_append (l m : List Cmd) : cls (l ++ m) = cls l + cls m := by
  induction l with
  | nil => simp [cls]
  | cons a l ih => rw [List.cons_append, cls, cls, ih]; omega
theorem wordM_len {c : UInt8} {r : Bs} {p : Nat} {w : Word} {r2 : Bs} {q : Nat} (hc : stopB c = false) (h : wordM (c :: r) p = .ok (w, r2, q)) : wl w + 1 + r2.length ≤ (c :: r).length := by
  have hat := (wordM_at hc h).2.1
  simp only [wordM] at h
  split at h
  · split at h
    · cases h
    · rename_i q1 hq
      have hb := brM_at hq
      obtain ⟨rfl, rfl, rfl⟩ := behindM_at h
      unfold wl
      rw [if_pos rfl, List.length_drop, List.length_cons]
      dsimp only
      by_cases h2 : q = p + 2
      · rw [if_pos h2]; dsimp only; omega
      · rw [if_neg h2]; dsimp only; rw [List.length_take]; omega
  · split at h
    · split at h
      · cases h
      · cases h
      · obtain ⟨rfl, -, -⟩ := behindM_at h
        unfold wl
        rw [if_neg (by intro h; cases h)]
        omega
    · split at h
      · cases h
      · simp only [Except.ok.injEq, Prod.mk.injEq] at h
        obtain ⟨rfl, -, -⟩ := h
        unfold wl
        rw [if_neg (by intro h; cases h)]
        omega
theorem cmdM_len {ws : List Word} {r : Bs} {p : Nat} {ws' : List Word} {r2 : Bs} {q : Nat} (h : cmdM ws r p = .ok (ws', r2, q)) : wls ws' + r2.length ≤ wls ws + r.length := by
  fun_induction cmdM ws r p
  case case1 ws p =>
    simp only [Except.ok.injEq, Prod.mk.injEq] at h
    obtain ⟨rfl, rfl, rfl⟩ := h
    exact Nat.le_refl _
  case case2 ws p c r1 h1 =>
    simp only [Except.ok.injEq, Prod.mk.injEq] at h
    obtain ⟨rfl, rfl, rfl⟩ := h
    exact Nat.le_refl _
  case case3 ws p c r1 h1 h2 ih => have := ih h; rw [List.length_cons]; omega
  case case4 => cases h
  case case5 ws p c r1 h1 h2 w r3 q1 hx hl ih =>
    have := ih h
    have hw := wordM_len (stop_of h1 h2) hx
    rw [wls_append, wls, wls] at this
    omega
  case case6 => cases h
theorem parseM_len {cs : List Cmd} {r : Bs} {p : Nat} {cs' : List Cmd} (h : parseM cs r p = .ok cs') : cls cs' ≤ cls cs + r.length := by
  fun_induction parseM cs r p
  case case1 => cases h; omega
  case case2 ih => have := ih h; rw [List.length_cons]; omega
  case case3 ih => have := ih h; rw [List.length_drop] at this; rw [List.length_cons]; omega
  case case4 => cases h
  case case5 cs p c r1 h1 h2 ws r2 q hx hl ih =>
    have := ih h
    have hw := cmdM_len hx
    rw [cls_append, cls, cls] at this
    dsimp only at this
    simp only [wls] at hw
    omega
  case case6 => cases h
end Go.Proofs.Ytofhcjdadhpjdaa.M
