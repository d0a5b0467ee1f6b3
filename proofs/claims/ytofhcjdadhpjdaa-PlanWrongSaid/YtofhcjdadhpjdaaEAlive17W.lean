/- The document's examples of layer 17: what plan.Parse comes to. cuecardlaw17.alive, by hand. -/
import Derived.Test.YtofhcjdadhpjdaaEScript
namespace Go.Proofs.Ytofhcjdadhpjdaa.Q
open Go.RowKit Go.Proofs.YtofhcjdadhpjdaaW.PrintWords Go.Proofs.YtofhcjdadhpjdaaW.PrintLast Go.Proofs.YtofhcjdadhpjdaaW.PrintMore
def ex1 : ByteArray := ⟨#[101, 120, 112, 101, 99, 116, 32, 123, 45, 101, 120, 97, 99, 116, 32, 34, 97, 34, 32, 123, 115, 101, 110, 100, 32, 98, 125, 32, 101, 111, 102, 125]⟩
def ex2 : ByteArray := ⟨#[101, 120, 112, 95, 99, 111, 110, 116, 105, 110, 117, 101]⟩
def ex1R : List POp := [.mk 3 0 [] [(0, ⟨15, 1, [⟨false, ⟨#[97]⟩⟩]⟩, [.mk 2 20 [⟨25, 0, [⟨false, ⟨#[98]⟩⟩]⟩] []]), (3, zWd, [])]]
set_option maxRecDepth 1000000 in
theorem ex2_is : plan_Parse.f 3 ex2 = some ([], 0, 9) := by kernel_rfl
set_option maxRecDepth 1000000 in
theorem ex1_is : plan_Parse.f 3 ex1 = some (ex1R, 0, 0) := by kernel_rfl
end Go.Proofs.Ytofhcjdadhpjdaa.Q
namespace Go.Proofs.Ytofhcjdadhpjdaa.Q
set_option linter.unusedSimpArgs false
set_option linter.unusedVariables false
open Go.RowKit Go.Proofs.YtofhcjdadhpjdaaW.PrintWords Go.Proofs.YtofhcjdadhpjdaaW.PrintLast Go.Proofs.YtofhcjdadhpjdaaW.PrintMore

theorem op_first {W : World} {ok : Nat → Prop} {A : Option Addr} {o : POp} {l : List POp} (h : Kd.F kOp W ok A (o :: l).length (o :: l)) :
    ∃ ad A2 c2 A3 c3, A = some ad ∧ W.cell? ad = some (.int .i64 o.k) ∧ W.cell? ⟨ad.block, ad.off + 1, none⟩ = some (.int .i64 o.at_) ∧
      W.cell? ⟨ad.block, ad.off + 2, none⟩ = some (.slice A2 o.ws.length c2) ∧ W.cell? ⟨ad.block, ad.off + 3, none⟩ = some (.slice A3 o.arms.length c3) ∧
      (o.ws.length ≤ c2 ∧ Kd.F kWd W ok A2 o.ws.length o.ws) ∧ o.arms.length ≤ c3 ∧ Kd.F kArm W ok A3 o.arms.length o.arms := by
  obtain ⟨ad, A2, c2, A3, c3, rfl, h0, h1, h2, h3, h4⟩ := op_read h 0 (by simp)
  simp only [Nat.zero_mul, Addr.add_zero'] at h0 h1 h2 h3
  exact ⟨ad, A2, c2, A3, c3, rfl, h0, h1, h2, h3, h4⟩
theorem arm_first {W : World} {ok : Nat → Prop} {A : Option Addr} {o : PArm} {l : List PArm} (h : Kd.F kArm W ok A (o :: l).length (o :: l)) :
    ∃ ad A4 c4, A = some ad ∧ W.cell? ad = some (.int .i64 o.1) ∧ W.cell? ⟨ad.block, ad.off + 4, none⟩ = some (.slice A4 o.2.2.length c4) ∧ o.2.2.length ≤ c4 ∧ Kd.F kOp W ok A4 o.2.2.length o.2.2 := by
  obtain ⟨ad, A3, c3, A4, c4, rfl, h0, h1, h2, h3, h4, -, h5⟩ := arm_read h 0 (by simp)
  simp only [Nat.zero_mul, Addr.add_zero'] at h0 h1 h2 h3 h4
  exact ⟨ad, A4, c4, rfl, h0, h4, h5⟩
theorem arm_second {W : World} {ok : Nat → Prop} {ad : Addr} {o p : PArm} {l : List PArm} (h : Kd.F kArm W ok (some ad) (o :: p :: l).length (o :: p :: l)) :
    W.cell? ⟨ad.block, ad.off + 5, none⟩ = some (.int .i64 p.1) := by
  obtain ⟨ad', A3, c3, A4, c4, he, h0, -⟩ := arm_read h 1 (by simp)
  injection he with he
  subst he
  rw [Nat.one_mul] at h0
  have e := add_field ad 0 5 (by omega)
  rw [Addr.add_zero', Nat.zero_add] at e
  rw [e] at h0
  exact h0
set_option maxHeartbeats 8000000 in
set_option maxRecDepth 1000000 in
theorem alive17.calls (w : World) : Calls Try.prog 17 #[] w fun en w' => en = .returned (.bool true) ∧ Below w.heap.size w w' := by
  have H1 := Aside0.mk ex1_is
  have H2 := Aside0.mk ex2_is
  go_enter Try.func17, Try.ntmps17
  go_upto_region 2 with (go_at_call 16; refine (plan_Parse.calls 3 ex1 ex1R 0 0 _ H1.out).mono ?_; rintro en w1 ⟨A, c, rfl, hl, hF, hB⟩)
  have HA := Aside0.mk (And.intro hF hB)
  clear hl hF hB
  go_upto_region 3 with (go_at_call 16; refine (plan_Parse.calls 3 ex2 [] 0 9 _ H2.out).mono ?_; rintro en w2 ⟨A', c', rfl, hl, hF, hB⟩)
  obtain ⟨ad, A2, c2, A3, c3, rfl, e0, e1, e2, e3, -, hl3, hF3⟩ := op_first (Kd.F_below HA.out.1 hB)
  obtain ⟨ad3, A4, c4, rfl, f0, f4, -, hF4⟩ := arm_first hF3
  have f5 := arm_second hF3
  obtain ⟨ad4, A5, c5, A6, c6, rfl, g0, g1, -⟩ := op_first hF4
  have HB := Aside0.mk (below_step HA.out.2 hB)
  clear hF hB hl HA hF3 hF4 hl3
  go_wp2
  go_ret
  exact ⟨rfl, HB.out⟩
end Go.Proofs.Ytofhcjdadhpjdaa.Q
