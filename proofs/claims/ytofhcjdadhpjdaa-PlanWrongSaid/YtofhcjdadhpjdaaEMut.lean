/- Commands in memory, their places moved: one store at a time. -/
import Derived.Test.YtofhcjdadhpjdaaETcl
namespace Go.Proofs.Ytofhcjdadhpjdaa.Q
set_option linter.unusedSimpArgs false
set_option linter.unusedVariables false
open Go.RowKit Go.Proofs.YtofhcjdadhpjdaaW.PrintWords Go.Proofs.YtofhcjdadhpjdaaW.PrintLast Go.Proofs.YtofhcjdadhpjdaaW.PrintMore

abbrev SCm := S38
abbrev SWd := S41
abbrev kCm := k38
abbrev kWd := k41
abbrev zCm : SCm := z38
abbrev zWd : SWd := z41

section
variable {W : World} {base g n cap : Nat} {ok : Nat → Prop} {xs : List SCm}
/-- Element i of a row of commands: its cells. -/
theorem cm_at (h : Kd.S kCm 38 W base ok (.slice (some ⟨g, 0, none⟩) n cap) xs) (i : Nat) (hi : i < n) :
    ∃ A c, W.cell? ⟨g, i * 2, none⟩ = some (.int .i64 (xs.getD i zCm).f0) ∧ W.cell? ⟨g, i * 2 + 1, none⟩ = some (.slice A (xs.getD i zCm).f1.length c) ∧ (∀ j, W.frozen? ⟨g, i * 2 + j, none⟩ = false) := by
  obtain ⟨oki, c, _, hM, hcc, hfr, _, _⟩ := Kd.S_elem h zCm (i : Int) (by omega) (by omega)
  rw [Int.toNat_natCast] at hM hcc hfr
  obtain ⟨v1, rfl, hR⟩ := k38_openM hM
  obtain ⟨A, c1, rfl⟩ := Kd.R_slice hR
  exact ⟨A, c1, hcc 0 _ rfl, hcc 1 _ rfl, hfr⟩
/-- Its place is stored into. -/
theorem cm_put (h : Kd.S kCm 38 W base ok (.slice (some ⟨g, 0, none⟩) n cap) xs) (i : Nat) (hi : i < n) (u : Int) :
    Kd.S kCm 38 (W.setCell ⟨g, i * 2, none⟩ (.int .i64 u)) base ok (.slice (some ⟨g, 0, none⟩) n cap) (xs.set i ⟨u, (xs.getD i zCm).f1⟩) ∧ W.grownBy (W.setCell ⟨g, i * 2, none⟩ (.int .i64 u)) (some g) := by
  have h' : Kd.S kCm 38 W base (fun k => ok k ∧ ¬ False) (.slice (some ⟨g, 0, none⟩) n cap) xs := Kd.S_mono h (fun k hk => ⟨hk, fun hf => hf⟩)
  obtain ⟨oki, c, _, hM, hcc, hfr, hoki, hH⟩ := Kd.S_elem h' zCm (i : Int) (by omega) (by omega)
  rw [Int.toNat_natCast] at hM
  obtain ⟨v1, rfl, hR⟩ := k38_openM hM
  have := Kd.S_seg (okg := fun _ => False) (okp := oki) hH (by omega) (by omega) (seg := [.int .i64 u]) (j := 0) (show 0 + 1 ≤ 2 by omega) (x' := ⟨u, (xs.getD i zCm).f1⟩)
    (k38_mkM _ _ _ ⟨u, (xs.getD i zCm).f1⟩ hR) (fun k hk => .inl hk) (fun k hk => hk.elim)
  rw [Int.toNat_natCast] at this
  exact this
/-- The words of element i. -/
theorem cw_at (h : Kd.S kCm 38 W base ok (.slice (some ⟨g, 0, none⟩) n cap) xs) (i : Nat) (hi : i < n) {A : Option Addr} {m c : Nat} (hv : W.cell? ⟨g, i * 2 + 1, none⟩ = some (.slice A m c)) (k : Nat) (hk : k < m) :
    ∃ g1, A = some ⟨g1, 0, none⟩ ∧ m ≤ 9223372036854775807 ∧ g1 ≠ g ∧ base ≤ g1 ∧ ok g1 ∧ W.cell? ⟨g1, k * 3, none⟩ = some (.int .i64 ((xs.getD i zCm).f1.getD k zWd).f0) ∧ (∀ j, W.frozen? ⟨g1, k * 3 + j, none⟩ = false) ∧
      ∀ u : Int, Kd.S kCm 38 (W.setCell ⟨g1, k * 3, none⟩ (.int .i64 u)) base ok (.slice (some ⟨g, 0, none⟩) n cap) (xs.set i ⟨(xs.getD i zCm).f0, (xs.getD i zCm).f1.set k ⟨u, ((xs.getD i zCm).f1.getD k zWd).f1, ((xs.getD i zCm).f1.getD k zWd).f2⟩⟩) := by
  obtain ⟨oki, cs, _, hM, hcc, hoki, hback⟩ := Kd.S_borrow h zCm (i : Int) (by omega) (by omega)
  rw [Int.toNat_natCast] at hM hcc hback
  obtain ⟨v1, rfl, hR⟩ := k38_openM hM
  have h1 := hcc 1 _ rfl
  rw [add_at, Nat.zero_add] at h1
  rw [show i * kCm.sz + 1 = i * 2 + 1 from rfl, hv] at h1
  obtain rfl := Option.some.inj h1
  have hm := (Kd.R_reads' hR).1
  obtain ⟨ad, hA, _⟩ := (Kd.R_reads' hR).2.2.2.2 (by omega)
  subst hA
  obtain ⟨g1, rfl⟩ := Kd.R_head hR
  obtain ⟨c2, hl2, hM2, hcc2, hfr2⟩ := Kd.R_elem hR zWd (k : Int) (by omega) (by omega)
  rw [Int.toNat_natCast] at hM2 hcc2 hfr2
  have hgk := hR.1 g1 rfl
  obtain ⟨v2, rfl, hR2⟩ := k41_openM hM2
  refine ⟨g1, rfl, by have := (Kd.R_reads' hR).2.2.2.1; omega, fun he => (hoki g1 hgk).2 (by rw [he]; rfl), Kd.R_base hR g1 rfl, (hoki g1 hgk).1, hcc2 0 _ rfl, hfr2, fun u => ?_⟩
  have hs := Kd.R_seg (okp := fun k => oki k ∧ k ≠ g1) hR (k : Int) (by omega) (by omega) (c := [.int .i64 ((xs.getD i zCm).f1.getD k zWd).f0, .int .i64 ((xs.getD i zCm).f1.getD k zWd).f1, v2]) (seg := [.int .i64 u]) (j := 0) rfl (by rw [Int.toNat_natCast]; exact hcc2) (show 0 + 1 ≤ 3 by omega) (x' := ⟨u, ((xs.getD i zCm).f1.getD k zWd).f1, ((xs.getD i zCm).f1.getD k zWd).f2⟩)
    (k41_mkM _ _ _ ⟨u, ((xs.getD i zCm).f1.getD k zWd).f1, ((xs.getD i zCm).f1.getD k zWd).f2⟩ hR2) (fun _ hk => hk)
  rw [Int.toNat_natCast] at hs
  exact hback hs.2 (fun k hk => by injection hk with hk; subst hk; exact hgk) (k38_mkM _ _ _ ⟨(xs.getD i zCm).f0, (xs.getD i zCm).f1.set k ⟨u, ((xs.getD i zCm).f1.getD k zWd).f1, ((xs.getD i zCm).f1.getD k zWd).f2⟩⟩ hs.1)
end

/-- The first i of them changed. -/
def upf {α : Type} (f : α → α) (l : List α) (i : Nat) : List α := (l.take i).map f ++ l.drop i
section
variable {α : Type} (f : α → α) (l : List α)
theorem upf_zero : upf f l 0 = l := by simp [upf]
theorem upf_all : upf f l l.length = l.map f := by simp [upf]
theorem upf_length (i : Nat) : (upf f l i).length = l.length := by simp only [upf, List.length_append, List.length_map, List.length_take, List.length_drop]; omega
theorem upf_get (i : Nat) (z : α) (hi : i < l.length) : (upf f l i).getD i z = l.getD i z := by
  simp only [upf, List.getD_eq_getElem?_getD]
  rw [List.getElem?_append_right (by simp; omega), List.getElem?_drop]
  congr 2
  simp only [List.length_map, List.length_take]
  omega
theorem upf_set (i : Nat) (z : α) (hi : i < l.length) : (upf f l i).set i (f (l.getD i z)) = upf f l (i + 1) := by
  apply List.ext_getElem?
  intro j
  by_cases hj : j = i
  · subst hj
    rw [List.getElem?_set_self (by rw [upf_length]; exact hi)]
    simp only [upf]
    rw [List.getElem?_append_left (by simp; omega)]
    simp [hi]
  · rw [List.getElem?_set_ne (Ne.symm hj)]
    simp only [upf]
    by_cases hlt : j < i
    · rw [List.getElem?_append_left (by simp; omega), List.getElem?_append_left (by simp; omega)]
      simp [List.getElem?_take, hlt, show j < i + 1 by omega]
    · rw [List.getElem?_append_right (by simp; omega), List.getElem?_append_right (by simp; omega), List.getElem?_drop, List.getElem?_drop]
      simp only [List.length_map, List.length_take]
      congr 1
      omega
end
/-- A word's, a command's place moved. -/
def mvW (b : Int) (x : SWd) : SWd := ⟨wrap64 (x.f0 + b), x.f1, x.f2⟩
def mvC (b : Int) (x : SCm) : SCm := ⟨wrap64 (x.f0 + b), x.f1.map (mvW b)⟩
end Go.Proofs.Ytofhcjdadhpjdaa.Q
