/- Operations and arms: plain data, and their kind. -/
import Derived.Test.YtofhcjdadhpjdaaEPlanParse
namespace Go.Proofs.Ytofhcjdadhpjdaa.Q
set_option linter.unusedSimpArgs false
set_option linter.unusedVariables false
open Go.RowKit Go.Proofs.YtofhcjdadhpjdaaW.PrintWords Go.Proofs.YtofhcjdadhpjdaaW.PrintLast Go.Proofs.YtofhcjdadhpjdaaW.PrintMore

inductive POp where
  | mk (k at_ : Int) (ws : List SWd) (arms : List (Int × SWd × List POp))
abbrev PArm := Int × SWd × List POp
def POp.k : POp → Int | .mk k _ _ _ => k
def POp.at_ : POp → Int | .mk _ a _ _ => a
def POp.ws : POp → List SWd | .mk _ _ w _ => w
def POp.arms : POp → List PArm | .mk _ _ _ l => l
def POp.un (x : POp) : Int × Int × List SWd × List PArm := (x.k, x.at_, x.ws, x.arms)
def zOp : POp := .mk 0 0 [] []
def zArm : PArm := (0, zWd, [])
def armF (d : Kd POp) : Kd PArm := Kd.pair (Kd.int .i64) (Kd.pair kWd (Kd.slice 47 d))
def opF (d : Kd POp) : Kd POp := Kd.iso (Kd.pair (Kd.int .i64) (Kd.pair (Kd.int .i64) (Kd.pair (Kd.slice 41 kWd) (Kd.slice 49 (armF d))))) POp.un
abbrev opE : List Nat := [43, 41, 47, 49]
theorem opMono : Kd.Mono opF := Kd.mono_iso _ (Kd.mono_pair (Kd.mono_const _) (Kd.mono_pair (Kd.mono_const _) (Kd.mono_pair (Kd.mono_const _) (Kd.mono_slice _ (Kd.mono_pair (Kd.mono_const _) (Kd.mono_pair (Kd.mono_const _) (Kd.mono_slice _ Kd.mono_id)))))))
theorem opSub : Kd.Sub opF opE := Kd.sub_iso _ (Kd.sub_pair (Kd.sub_const _ (by decide)) (Kd.sub_pair (Kd.sub_const _ (by decide)) (Kd.sub_pair (Kd.sub_const _ (by decide)) (Kd.sub_slice _ (by decide) (Kd.sub_pair (Kd.sub_const _ (by decide)) (Kd.sub_pair (Kd.sub_const _ (by decide)) (Kd.sub_slice _ (by decide) Kd.sub_id)))))))
theorem opSz : ∀ n, (Kd.upto opF 4 opE n).sz = 4 := Kd.upto_sz (fun _ => rfl)
def kOp : Kd POp := Kd.fix opF 4 opE opSz (Kd.upto_E opSub)
def kArm : Kd PArm := armF kOp

/-- A row of what is nested n deep, for some n alike for all of it. -/
theorem C_limit {α : Type} {P : Nat → Kd α} {d : Kd α} (hs : ∀ n, (P n).sz = d.sz) (hm : ∀ n m w x cs, n ≤ m → (P n).K w x cs → (P m).K w x cs) (hd : ∀ w x cs, d.K w x cs → ∃ n, (P n).K w x cs)
    {w : World} {A : Option Addr} {m : Nat} {xs : List α} (h : d.C w A m xs) : ∃ n, (P n).C w A m xs := by
  rcases Nat.eq_zero_or_pos m with hz | hp
  · subst hz
    exact ⟨0, h.1, h.2.1, fun hp => absurd hp (Nat.lt_irrefl 0)⟩
  · obtain ⟨ad, e, hc⟩ := h.2.2 hp
    obtain ⟨N, hN⟩ := Kd.bounded (P := fun n j => ∀ p, xs[j]? = some p → ∃ c, c.length = d.sz ∧ (P n).K w p c ∧ ∀ i u, c[i]? = some u → w.cell? (ad.add (j * d.sz + i)) = some u)
      (fun n n' j hnn hq p hj => by
        obtain ⟨c, h1, h2, h3⟩ := hq p hj
        exact ⟨c, h1, hm _ _ _ _ _ hnn h2, h3⟩) xs.length (fun j hj => by
        obtain ⟨c, h1, h2, h3⟩ := hc j _ (List.getElem?_eq_getElem hj)
        obtain ⟨n, h4⟩ := hd _ _ _ h2
        refine ⟨n, fun p hp => ?_⟩
        rw [List.getElem?_eq_getElem hj] at hp
        obtain rfl := Option.some.inj hp
        exact ⟨c, h1, h4, h3⟩)
    refine ⟨N, h.1, h.2.1, fun _ => ⟨ad, e, fun j p hj => ?_⟩⟩
    obtain ⟨c, h1, h2, h3⟩ := hN j (List.getElem?_eq_some_iff.1 hj).1 p hj
    exact ⟨c, by rw [hs N]; exact h1, h2, by rw [hs N]; exact h3⟩

theorem arm_lim (w : World) (x : PArm) (cs : List Value) (h : kArm.K w x cs) : ∃ n, (armF (Kd.upto opF 4 opE n)).K w x cs := by
  obtain ⟨c0, c1, rfl, h0, c2, c3, rfl, h1, A, c, rfl, hl, hC⟩ := h
  obtain ⟨n, hn⟩ := Kd.fix_C_back opMono hC
  exact ⟨n, c0, _, rfl, h0, c2, _, rfl, h1, A, c, rfl, hl, hn⟩
theorem arm_le (n m : Nat) (w : World) (x : PArm) (cs : List Value) (hnm : n ≤ m) (h : (armF (Kd.upto opF 4 opE n)).K w x cs) : (armF (Kd.upto opF 4 opE m)).K w x cs := by
  obtain ⟨c0, c1, rfl, h0, c2, c3, rfl, h1, A, c, rfl, hl, hC⟩ := h
  exact ⟨c0, _, rfl, h0, c2, _, rfl, h1, A, c, rfl, hl, Kd.upto_C_le opMono opSz hnm hC⟩
theorem arm_up (n : Nat) (w : World) (x : PArm) (cs : List Value) (h : (armF (Kd.upto opF 4 opE n)).K w x cs) : kArm.K w x cs := by
  obtain ⟨c0, c1, rfl, h0, c2, c3, rfl, h1, A, c, rfl, hl, hC⟩ := h
  exact ⟨c0, _, rfl, h0, c2, _, rfl, h1, A, c, rfl, hl, Kd.fix_C hC⟩

theorem kOp_open {w : World} {x : POp} {cs : List Value} (h : kOp.K w x cs) : ∃ A2 c2 A3 c3, cs = [.int .i64 x.k, .int .i64 x.at_, .slice A2 x.ws.length c2, .slice A3 x.arms.length c3] ∧ x.ws.length ≤ c2 ∧ kWd.C w A2 x.ws.length x.ws ∧ x.arms.length ≤ c3 ∧ kArm.C w A3 x.arms.length x.arms := by
  obtain ⟨n, h⟩ := h
  cases n with
  | zero => exact h.elim
  | succ n =>
    obtain ⟨_, _, rfl, rfl, _, _, rfl, rfl, _, _, rfl, ⟨A2, c2, rfl, l2, g2⟩, ⟨A3, c3, rfl, l3, g3⟩⟩ := h
    exact ⟨A2, c2, A3, c3, rfl, l2, g2, l3, Kd.C_imp (d := armF (Kd.upto opF 4 opE n)) (d' := kArm) rfl (fun w x cs hp => arm_up n w x cs hp) g3⟩
theorem kOp_mk (w : World) (x : POp) {A2 A3 : Option Addr} {c2 c3 : Nat} (l2 : x.ws.length ≤ c2) (g2 : kWd.C w A2 x.ws.length x.ws) (l3 : x.arms.length ≤ c3) (g3 : kArm.C w A3 x.arms.length x.arms) :
    kOp.K w x [.int .i64 x.k, .int .i64 x.at_, .slice A2 x.ws.length c2, .slice A3 x.arms.length c3] := by
  obtain ⟨n, hn⟩ := C_limit (P := fun n => armF (Kd.upto opF 4 opE n)) (d := kArm) (fun n => rfl) arm_le arm_lim g3
  exact ⟨n + 1, [_], _, rfl, rfl, [_], _, rfl, rfl, [_], _, rfl, ⟨A2, c2, rfl, l2, g2⟩, ⟨A3, c3, rfl, l3, hn⟩⟩
theorem kArm_open {w : World} {x : PArm} {cs : List Value} (h : kArm.K w x cs) : ∃ A3 c3 A4 c4, cs = [.int .i64 x.1, .int .i64 x.2.1.f0, .int .i64 x.2.1.f1, .slice A3 x.2.1.f2.length c3, .slice A4 x.2.2.length c4] ∧ x.2.1.f2.length ≤ c3 ∧ k43.C w A3 x.2.1.f2.length x.2.1.f2 ∧ x.2.2.length ≤ c4 ∧ kOp.C w A4 x.2.2.length x.2.2 := by
  obtain ⟨_, _, rfl, rfl, _, _, rfl, h1, ⟨A4, c4, rfl, l4, g4⟩⟩ := h
  obtain ⟨A3, c3, rfl, l3, g3⟩ := k41_open h1
  exact ⟨A3, c3, A4, c4, rfl, l3, g3, l4, g4⟩
theorem kArm_mk (w : World) (x : PArm) {A3 A4 : Option Addr} {c3 c4 : Nat} (l3 : x.2.1.f2.length ≤ c3) (g3 : k43.C w A3 x.2.1.f2.length x.2.1.f2) (l4 : x.2.2.length ≤ c4) (g4 : kOp.C w A4 x.2.2.length x.2.2) :
    kArm.K w x [.int .i64 x.1, .int .i64 x.2.1.f0, .int .i64 x.2.1.f1, .slice A3 x.2.1.f2.length c3, .slice A4 x.2.2.length c4] :=
  ⟨[_], _, rfl, rfl, [_, _, _], _, rfl, k41_mk w x.2.1 l3 g3, ⟨A4, c4, rfl, l4, g4⟩⟩
theorem kOp_mkF (W : World) (ok : Nat → Prop) (x : POp) {A2 A3 : Option Addr} {c2 c3 : Nat} (l2 : x.ws.length ≤ c2) (g2 : Kd.F kWd W ok A2 x.ws.length x.ws) (l3 : x.arms.length ≤ c3) (g3 : Kd.F kArm W ok A3 x.arms.length x.arms) :
    Kd.FK kOp W ok x [.int .i64 x.k, .int .i64 x.at_, .slice A2 x.ws.length c2, .slice A3 x.arms.length c3] := fun W2 hW => kOp_mk W2 x l2 (g2 W2 hW) l3 (g3 W2 hW)
theorem kArm_mkF (W : World) (ok : Nat → Prop) (x : PArm) {A3 A4 : Option Addr} {c3 c4 : Nat} (l3 : x.2.1.f2.length ≤ c3) (g3 : Kd.F k43 W ok A3 x.2.1.f2.length x.2.1.f2) (l4 : x.2.2.length ≤ c4) (g4 : Kd.F kOp W ok A4 x.2.2.length x.2.2) :
    Kd.FK kArm W ok x [.int .i64 x.1, .int .i64 x.2.1.f0, .int .i64 x.2.1.f1, .slice A3 x.2.1.f2.length c3, .slice A4 x.2.2.length c4] := fun W2 hW => kArm_mk W2 x l3 (g3 W2 hW) l4 (g4 W2 hW)
theorem kOp_openF {W : World} {ok : Nat → Prop} {x : POp} {cs : List Value} (h : Kd.FK kOp W ok x cs) : ∃ A2 c2 A3 c3, cs = [.int .i64 x.k, .int .i64 x.at_, .slice A2 x.ws.length c2, .slice A3 x.arms.length c3] ∧ x.ws.length ≤ c2 ∧ Kd.F kWd W ok A2 x.ws.length x.ws ∧ x.arms.length ≤ c3 ∧ Kd.F kArm W ok A3 x.arms.length x.arms := by
  obtain ⟨A2, c2, A3, c3, rfl, l2, _, l3, _⟩ := kOp_open (Kd.FK_now h)
  refine ⟨A2, c2, A3, c3, rfl, l2, fun W' hW => ?_, l3, fun W' hW => ?_⟩
  · obtain ⟨A2', c2', A3', c3', he, _, g2, _, _⟩ := kOp_open (h W' hW)
    simp only [List.cons.injEq, Value.slice.injEq, true_and, and_true] at he
    rw [he.1.1]; exact g2
  · obtain ⟨A2', c2', A3', c3', he, _, _, _, g3⟩ := kOp_open (h W' hW)
    simp only [List.cons.injEq, Value.slice.injEq, true_and, and_true] at he
    rw [he.2.1]; exact g3
theorem kArm_openF {W : World} {ok : Nat → Prop} {x : PArm} {cs : List Value} (h : Kd.FK kArm W ok x cs) : ∃ A3 c3 A4 c4, cs = [.int .i64 x.1, .int .i64 x.2.1.f0, .int .i64 x.2.1.f1, .slice A3 x.2.1.f2.length c3, .slice A4 x.2.2.length c4] ∧ x.2.1.f2.length ≤ c3 ∧ Kd.F k43 W ok A3 x.2.1.f2.length x.2.1.f2 ∧ x.2.2.length ≤ c4 ∧ Kd.F kOp W ok A4 x.2.2.length x.2.2 := by
  obtain ⟨A3, c3, A4, c4, rfl, l3, _, l4, _⟩ := kArm_open (Kd.FK_now h)
  refine ⟨A3, c3, A4, c4, rfl, l3, fun W' hW => ?_, l4, fun W' hW => ?_⟩
  · obtain ⟨A2', c2', A3', c3', he, _, g2, _, _⟩ := kArm_open (h W' hW)
    simp only [List.cons.injEq, Value.slice.injEq, true_and, and_true] at he
    rw [he.1.1]; exact g2
  · obtain ⟨A2', c2', A3', c3', he, _, _, _, g3⟩ := kArm_open (h W' hW)
    simp only [List.cons.injEq, Value.slice.injEq, true_and, and_true] at he
    rw [he.2.1]; exact g3
end Go.Proofs.Ytofhcjdadhpjdaa.Q
