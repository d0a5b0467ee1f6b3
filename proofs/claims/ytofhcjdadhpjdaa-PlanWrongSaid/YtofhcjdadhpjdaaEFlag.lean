/- plan.flagged, by hand. -/
import Derived.Test.YtofhcjdadhpjdaaEMap
import Derived.Test.YtofhcjdadhpjdaaQ42
import Derived.Test.YtofhcjdadhpjdaaQ44
namespace Go.Proofs.Ytofhcjdadhpjdaa.Q
set_option linter.unusedSimpArgs false
set_option linter.unusedVariables false
open Go.RowKit Go.Proofs.YtofhcjdadhpjdaaW.PrintWords Go.Proofs.YtofhcjdadhpjdaaW.PrintLast Go.Proofs.YtofhcjdadhpjdaaW.PrintMore

/-- A word's text, if it is one text alone. -/
def oneP (x : SWd) : ByteArray × Bool :=
  match x.f2 with
  | [p] => if p.f0 = true then (⟨#[]⟩, false) else if x.f1 = 2 then (⟨#[]⟩, false) else (p.f1, true)
  | _ => (⟨#[]⟩, false)
theorem one_is (x : SWd) : plan_one.f x.f0 x.f1 x.f2 = some (oneP x) := by
  unfold plan_one.f oneP
  match h : x.f2 with
  | [] => rfl
  | [p] =>
    have h0 : rd_T43 [p] 0 = p := rfl
    simp only [List.length_cons, List.length_nil, h0]
    by_cases h1 : p.f0 = true
    · simp [h1]
    · by_cases h2 : x.f1 = 2
      · simp [h1, h2]
      · simp [h1, h2]
  | p :: q :: l =>
    simp only [List.length_cons]
    rw [if_neg (by omega)]
def flagI (s : ByteArray) : Option Int := if s = ⟨#[45, 101, 120, 97, 99, 116]⟩ then some 0 else if s = ⟨#[45, 103, 108, 111, 98]⟩ then some 1 else if s = ⟨#[116, 105, 109, 101, 111, 117, 116]⟩ then some 2 else if s = ⟨#[101, 111, 102]⟩ then some 3 else none
def formI (s : ByteArray) : Option (Int × Int × Int) := if s = ⟨#[115, 101, 116]⟩ then some (0, 2, 2) else if s = ⟨#[115, 112, 97, 119, 110]⟩ then some (1, 1, 1073741824) else if s = ⟨#[115, 101, 110, 100]⟩ then some (2, 1, 1) else if s = ⟨#[101, 120, 112, 101, 99, 116]⟩ then some (3, 1, 1073741824) else if s = ⟨#[109, 97, 116, 99, 104, 95, 109, 97, 120]⟩ then some (4, 1, 1) else if s = ⟨#[115, 108, 101, 101, 112]⟩ then some (5, 1, 1) else if s = ⟨#[99, 108, 111, 115, 101]⟩ then some (6, 0, 0) else if s = ⟨#[101, 120, 105, 116]⟩ then some (7, 0, 1) else if s = ⟨#[101, 120, 112, 95, 99, 111, 110, 116, 105, 110, 117, 101]⟩ then some (8, 0, 0) else none
theorem flag_look (s : ByteArray) : ∃ o, Instr.findNow .string (.string s) flagEs.toList 0 = some o ∧ (o.map Prod.snd).getD (Value.int .i64 0) = .int .i64 ((flagI s).getD 0) ∧ o.isSome = (flagI s).isSome := by
  refine ⟨_, flag_find s, ?_, ?_⟩ <;> unfold flagI <;> repeat' (first | rfl | split)
theorem form_look (s : ByteArray) : ∃ o, Instr.findNow .string (.string s) formEs.toList 0 = some o ∧ (o.map Prod.snd).getD (Value.agg #[.int .i64 0, .int .i64 0, .int .i64 0]) = .agg #[.int .i64 ((formI s).getD (0, 0, 0)).1, .int .i64 ((formI s).getD (0, 0, 0)).2.1, .int .i64 ((formI s).getD (0, 0, 0)).2.2] ∧ o.isSome = (formI s).isSome := by
  refine ⟨_, form_find s, ?_, ?_⟩ <;> unfold formI <;> repeat' (first | rfl | split)
/-- An arm's kind that a word begins. -/
def flagP (x : SWd) : Int × Bool := ((flagI (oneP x).1).getD 0, (oneP x).2 && (flagI (oneP x).1).isSome && (x.f1 == 0))

set_option maxHeartbeats 4000000 in
set_option maxRecDepth 1000000 in
theorem plan_flagged.calls (x : SWd) (A : Option Addr) (c : Nat) (w : World) (hC : Kd.C k43 w A x.f2.length x.f2) (hc : x.f2.length ≤ c) :
    Calls Try.prog 104 #[.agg #[.int .i64 x.f0, .int .i64 x.f1, .slice A x.f2.length c]] w fun en w' => en = .returned (.tuple #[.int .i64 (flagP x).1, .bool (flagP x).2]) ∧ Below w.heap.size w w' := by
  have HC := Aside0.mk hC
  clear hC
  have hu := Try.underlying41
  obtain ⟨s, ok, h1⟩ : ∃ s ok, oneP x = (s, ok) := ⟨_, _, rfl⟩
  obtain ⟨o, hf, hv, hs⟩ := flag_look s
  have hz : ∀ W : World, (zeroValue 3).run Try.prog W = .ok (.int .i64 0) W := fun W => by kernel_rfl
  have hlk : ∀ (W : World) (r : Nat), W.heap[r]? = some (.map flagEs 4) → (Instr.lookup 204 (.map (some r)) (.string s) true).run Try.prog W = .ok (.tuple #[.int .i64 ((flagI s).getD 0), .bool (flagI s).isSome]) W := by
    intro W r hb
    have := run_look (mty := 204) Try.underlying204 Try.underlying9 hb s (hz W) hf
    rw [hv, hs] at this
    exact this
  unfold flagP
  rw [h1]
  dsimp only
  have HO : Aside0 (plan_one.f x.f0 x.f1 x.f2 = some (s, ok)) := ⟨by rw [one_is, h1]⟩
  clear h1 hf hv hs hz o
  generalize hkk : (flagI s).getD 0 = kk at hlk ⊢
  generalize hss : (flagI s).isSome = iss at hlk ⊢
  clear hkk hss
  go_enter Try.func104, Try.ntmps104
  go_wp2_with (first | (go_at_call 87; refine (plan_one.calls x.f0 x.f1 A c x.f2 s ok _ (Kd.C_alloc HC.out _) hc HO.out).mono ?_; rintro en w1 ⟨rfl, hB⟩; have HB1 := Aside0.mk (below_weaken (below_alloc (Below.refl w.heap.size w) _) (by rw [World.size_alloc]; omega) hB); have BX : w1.heap[w.heap.size]? = some (.cells #[.int .i64 x.f0, .int .i64 x.f1, .slice A x.f2.length c] 41 (0, 0)) := (hB.block _ (by rw [World.size_alloc]; omega)).trans (blk_new w _); clear hB; have BH := Lib.hid BX; clear BX) | (go_at_call 117; refine (plan_flags.calls _).mono ?_; rintro en w2 ⟨rfl, rfl⟩; have hl := hlk _ _ (blk_new w1 _); have HB2 := Aside0.mk (below_alloc HB1.out (.map flagEs 4)); have B2 := blk_alloc BH.out (.map flagEs 4); generalize w1.heap.size = mm at hl ⊢; generalize w1.alloc (.map flagEs 4) = w2 at hl HB2 B2 ⊢; have d0 : w2.cell? ⟨w.heap.size, 0, none⟩ = some (.int .i64 x.f0) := blk_cell B2 0; have d1 : w2.cell? ⟨w.heap.size, 1, none⟩ = some (.int .i64 x.f1) := blk_cell B2 1; clear B2))
  clear HO hlk BH hl
  cases ok with
  | false =>
    go_quiet (fail)
    go_wp2
    go_ret2
    exact ⟨rfl, pw_below_drewN HB2.out _⟩
  | true =>
    cases iss with
    | false =>
      go_quiet (fail)
      go_wp2
      go_ret2
      exact ⟨rfl, pw_below_drewN HB2.out _⟩
    | true =>
      go_quiet (fail)
      go_wp2
      go_ret2
      exact ⟨rfl, pw_below_drewN HB2.out _⟩
end Go.Proofs.Ytofhcjdadhpjdaa.Q
