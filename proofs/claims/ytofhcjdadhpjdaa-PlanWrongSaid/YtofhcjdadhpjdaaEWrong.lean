/- cuecardlaw17.PlanWrong, by hand: over what its calls come to. -/
import Derived.Test.YtofhcjdadhpjdaaEAlive17W
import Derived.Test.YtofhcjdadhpjdaaPWrong
import Derived.Test.YtofhcjdadhpjdaaQ79
namespace Go.Proofs.Ytofhcjdadhpjdaa.Q
set_option linter.unusedSimpArgs false
set_option linter.unusedVariables false
open Go.RowKit Go.Proofs.YtofhcjdadhpjdaaW.PrintWords Go.Proofs.YtofhcjdadhpjdaaW.PrintLast Go.Proofs.YtofhcjdadhpjdaaW.PrintMore

theorem hp_false {a b : ByteArray} (h : ¬ ∃ u, lst a = lst b ++ u) : strings_HasPrefix.f a b = some false := by
  unfold strings_HasPrefix.f stringslite_HasPrefix.f
  by_cases h1 : (a.size : Int) ≥ (b.size : Int)
  · rw [if_pos h1, if_pos (by omega), if_pos (by omega), Option.bind_some]
    congr 1
    apply beq_eq_false_iff_ne.2
    intro he
    rw [ByteArray.toList_eq, ByteArray.toList_eq, Int.toNat_natCast] at he
    refine h ⟨(lst a).drop b.size, ?_⟩
    have h2 : lst (a.extract 0 b.size) = lst b := he
    rw [lst_extract, List.drop_zero] at h2
    rw [← h2, List.take_append_drop]
  · rw [if_neg h1]
    rfl
theorem known_tests {s x : ByteArray} {p : Nat} (hx : lst x ∈ known) (h : ¬ Bad (lst s) p) : strings_HasPrefix.f (s.extract p s.size) (x ++ ⟨#[32]⟩) = some false ∧ ((s.extract p s.size).toList == x.toList) = false := by
  refine ⟨hp_false ?_, beq_eq_false_iff_ne.2 ?_⟩
  · rintro ⟨u, hu⟩
    rw [lst_rest, lst_append, List.append_assoc] at hu
    exact h ⟨_, hx, .inl ⟨u, hu⟩⟩
  · intro he
    rw [ByteArray.toList_eq, ByteArray.toList_eq] at he
    have h2 : lst (s.extract p s.size) = lst x := he
    rw [lst_rest] at h2
    exact h ⟨_, hx, .inr h2⟩
def knownV : Array Value := #[.string ⟨#[115, 101, 116]⟩, .string ⟨#[115, 112, 97, 119, 110]⟩, .string ⟨#[115, 101, 110, 100]⟩, .string ⟨#[101, 120, 112, 101, 99, 116]⟩, .string ⟨#[109, 97, 116, 99, 104, 95, 109, 97, 120]⟩, .string ⟨#[115, 108, 101, 101, 112]⟩, .string ⟨#[99, 108, 111, 115, 101]⟩, .string ⟨#[101, 120, 105, 116]⟩, .string ⟨#[101, 120, 112, 95, 99, 111, 110, 116, 105, 110, 117, 101]⟩]
theorem knownV_at (i : Nat) (hi : i < 9) : ∃ x : ByteArray, knownV[i]? = some (.string x) ∧ lst x ∈ known := by
  rcases i with _ | _ | _ | _ | _ | _ | _ | _ | _ | i
  all_goals first | omega | exact ⟨_, rfl, by decide⟩
theorem known_size {x : ByteArray} (h : lst x ∈ known) : x.size ≤ 12 := by
  have h2 : ∀ n ∈ known, n.length ≤ 12 := by decide
  rw [← lst_len]
  exact h2 _ h
theorem cut3_le (s : ByteArray) : (s.extract 0 (min (s.size : Int) 3000).toNat).size ≤ 3000 := by
  rw [ByteArray.size_extract]
  omega
set_option maxHeartbeats 8000000 in
set_option maxRecDepth 1000000 in
theorem planWrong.walk (s : ByteArray) (w : World) (hs : s.size ≤ 140737488351232) :
    Calls Try.prog 8 #[.string s] w fun e w' => e = .returned (.bool true) ∧ Below w.heap.size w w' := by
  go_enter Try.func8, Try.ntmps8
  go_upto_region 2 with (fail)
  have hs1 := cut3_le s
  have HB0 := Aside0.mk (Below.refl w.heap.size w)
  generalize s.extract 0 (min (s.size : Int) 3000).toNat = s1 at hs1 ⊢
  obtain ⟨l, x, y, hl, -⟩ := plan_Parse_some 3100 s1 (by omega)
  have HT := Aside0.mk (plan_wrong 3100 s1 hs1 (by omega) hl)
  have HPA := Aside0.mk hl
  clear hl hs
  go_upto_region 3 with (go_at_call 16; refine (plan_Parse.calls 3100 s1 l x y _ HPA.out).mono ?_; rintro en w2 ⟨A, ca, rfl, hl, hF, hB⟩)
  have HFA := Aside0.mk (And.intro hl hF)
  have HB2 := Aside0.mk (below_step HB0.out hB)
  clear hl hF hB HB0 HPA
  by_cases hy : y = 0
  · obtain ⟨rfl, m, k, hk, hle⟩ := HT.out.zero hy
    have hyb : (y == 0) = true := by simp [hy]
    have hkb : decide ((l.length : Int) ≤ k) = true := decide_eq_true hle
    have hJ := Aside0.mk hk
    have HBw := Aside0.mk (Below.refl w2.heap.size w2)
    clear HT hk hle hy
    go_wp2_with (first | (go_at_call 17; refine (alive17.calls _).mono ?_; rintro en w5 ⟨rfl, hB⟩; have HBw2 := Aside0.mk (below_step HBw.out hB); clear HBw hB; have HBw := HBw2; clear HBw2) | (go_at_call 22; with_reducible refine ((plan_Count.ok m).calls l A ca _ k _ hJ.out HFA.out.1 (Kd.F_below HFA.out.2 HBw.out)).mono ?_; rintro en w5 ⟨rfl, hB⟩; have HBw2 := Aside0.mk (below_step HBw.out hB); clear HBw hB; have HBw := HBw2; clear HBw2))
    go_ret
    exact ⟨rfl, below_step HB2.out HBw.out⟩
  · have hyb : (y == 0) = false := beq_eq_false_iff_ne.2 hy
    obtain ⟨p, rfl, hp, hbad⟩ := HT.out.at_ hy
    obtain rfl := HT.out.none_ hy
    obtain ⟨l2, x2, y2, hq, hag⟩ := HT.out.again
    have HPQ := Aside0.mk hq
    have HAG := Aside0.mk (hag hy)
    have HBD := Aside0.mk hbad
    have hb1 : decide ((p : Int) < 0) = false := decide_eq_false (by omega)
    have hb2 : decide ((s1.size : Int) < (p : Int)) = false := decide_eq_false (by omega)
    have hb3 : decide (s1.size < p) = false := decide_eq_false (by omega)
    clear HT hq hag hbad hy HFA
    go_upto_region 8 with (go_at_call 16; refine (plan_Parse.calls 3100 _ l2 x2 y2 _ HPQ.out).mono ?_; rintro en w3 ⟨B, cb, rfl, hl, hF, hB⟩)
    have HB3 := Aside0.mk (below_step HB2.out hB)
    clear hl hF hB HB2 HPQ
    have ht : (y = 5 ∧ True) ∨ (y ≠ 5 ∧ l2 = [] ∧ x2 = (p : Int) ∧ y2 = y) := by
      by_cases h5 : y = 5
      · exact .inl ⟨h5, trivial⟩
      · exact .inr ⟨h5, HAG.out h5⟩
    clear HAG
    rcases ht with ⟨h5, -⟩ | ⟨h5, rfl, rfl, rfl⟩
    · have h5b : (y != 5) = false := by simp [h5]
      clear h5
      obtain ⟨wl, hwl⟩ : ∃ wl, w3.alloc (.cells knownV 9) = wl := ⟨_, rfl⟩
      have hbk : wl.heap[w3.heap.size]? = some (.cells knownV 9 (0, 0)) := by rw [← hwl]; exact blk_new w3 _
      have HBL := Aside0.mk (below_step HB3.out (show Below w3.heap.size w3 wl by rw [← hwl]; exact below_alloc (Below.refl _ _) _))
      have HBK := Aside0.mk hbk
      clear hbk
      unfold knownV at hwl
      go_wp2
      try rw [hwl]
      clear hwl
      generalize w3.heap.size = g3 at HBK ⊢
      go_loopg [75] 9 (fun kq v75 W => ∃ i : Nat, v75 = .int .i64 (i : Int) ∧ kq = 9 - i ∧ i ≤ 9 ∧ Aside0 (Below wl.heap.size wl W))
      case atStart => exact ⟨0, rfl, rfl, by omega, ⟨Below.refl _ _⟩⟩
      case round =>
        obtain ⟨i, rfl, rfl, hil, HP⟩ := hrel
        by_cases hi : i < 9
        · have hb := decide_eq_true (show (i : Int) < 9 by omega)
          have hlt : ((i : Int) < 9) = True := eq_true (by omega)
          have h0 : ((0 : Int) ≤ (i : Int)) = True := eq_true (by omega)
          have hltn : (i < 9) = True := eq_true hi
          obtain ⟨nm, hx, hk⟩ := knownV_at i hi
          have hnm := known_size hk
          have r0 := ((blk_cell ((HP.out.block _ (blk_lt HBK.out)).trans HBK.out) i).trans hx)
          clear hx
          by_cases h8 : y = 8
          · have h8b : (y == 8) = true := by simp [h8]
            obtain ⟨k1, k2⟩ := known_tests hk (HBD.out h8)
            have K1 := Aside0.mk k1
            have hp0 : ((0 : Int) ≤ (p : Int)) = True := eq_true (by omega)
            have hp1 : ((p : Int) ≤ (s1.size : Int)) = True := eq_true (by omega)
            clear h8 k1 hk
            go_wp2_with (go_at_call 24; refine (strings_HasPrefix.calls _ _ false _ K1.out).mono ?_; rintro en w5 ⟨rfl, ⟨q5, rfl⟩⟩)
            go_roundg (9 - (i + 1))
            case measure => omega
            case rel => exact ⟨i + 1, by simp, rfl, by omega, ⟨pw_below_drewN HP.out _⟩⟩
          · have h8b : (y == 8) = false := beq_eq_false_iff_ne.2 h8
            clear h8 hk
            go_wp2
            go_roundg (9 - (i + 1))
            case measure => omega
            case rel => exact ⟨i + 1, by simp, rfl, by omega, HP⟩
        · have hb := decide_eq_false (show ¬ (i : Int) < 9 by omega)
          clear HBD HBK
          have HBw := Aside0.mk (below_step HBL.out HP.out)
          go_wp2_with (first | (go_at_call 17; refine (alive17.calls _).mono ?_; rintro en w5 ⟨rfl, hB⟩; have HBw2 := Aside0.mk (below_step HBw.out hB); clear HBw hB; have HBw := HBw2; clear HBw2))
          go_ret
          exact ⟨rfl, HBw.out⟩
    · have h5b : (y2 != 5) = true := by simp [h5]
      clear h5
      obtain ⟨wl, hwl⟩ : ∃ wl, w3.alloc (.cells knownV 9) = wl := ⟨_, rfl⟩
      have hbk : wl.heap[w3.heap.size]? = some (.cells knownV 9 (0, 0)) := by rw [← hwl]; exact blk_new w3 _
      have HBL := Aside0.mk (below_step HB3.out (show Below w3.heap.size w3 wl by rw [← hwl]; exact below_alloc (Below.refl _ _) _))
      have HBK := Aside0.mk hbk
      clear hbk
      unfold knownV at hwl
      go_wp2
      try rw [hwl]
      clear hwl
      generalize w3.heap.size = g3 at HBK ⊢
      go_loopg [75] 9 (fun kq v75 W => ∃ i : Nat, v75 = .int .i64 (i : Int) ∧ kq = 9 - i ∧ i ≤ 9 ∧ Aside0 (Below wl.heap.size wl W))
      case atStart => exact ⟨0, rfl, rfl, by omega, ⟨Below.refl _ _⟩⟩
      case round =>
        obtain ⟨i, rfl, rfl, hil, HP⟩ := hrel
        by_cases hi : i < 9
        · have hb := decide_eq_true (show (i : Int) < 9 by omega)
          have hlt : ((i : Int) < 9) = True := eq_true (by omega)
          have h0 : ((0 : Int) ≤ (i : Int)) = True := eq_true (by omega)
          have hltn : (i < 9) = True := eq_true hi
          obtain ⟨nm, hx, hk⟩ := knownV_at i hi
          have hnm := known_size hk
          have r0 := ((blk_cell ((HP.out.block _ (blk_lt HBK.out)).trans HBK.out) i).trans hx)
          clear hx
          by_cases h8 : y2 = 8
          · have h8b : (y2 == 8) = true := by simp [h8]
            obtain ⟨k1, k2⟩ := known_tests hk (HBD.out h8)
            have K1 := Aside0.mk k1
            have hp0 : ((0 : Int) ≤ (p : Int)) = True := eq_true (by omega)
            have hp1 : ((p : Int) ≤ (s1.size : Int)) = True := eq_true (by omega)
            clear h8 k1 hk
            go_wp2_with (go_at_call 24; refine (strings_HasPrefix.calls _ _ false _ K1.out).mono ?_; rintro en w5 ⟨rfl, ⟨q5, rfl⟩⟩)
            go_roundg (9 - (i + 1))
            case measure => omega
            case rel => exact ⟨i + 1, by simp, rfl, by omega, ⟨pw_below_drewN HP.out _⟩⟩
          · have h8b : (y2 == 8) = false := beq_eq_false_iff_ne.2 h8
            clear h8 hk
            go_wp2
            go_roundg (9 - (i + 1))
            case measure => omega
            case rel => exact ⟨i + 1, by simp, rfl, by omega, HP⟩
        · have hb := decide_eq_false (show ¬ (i : Int) < 9 by omega)
          clear HBD HBK
          have HBw := Aside0.mk (below_step HBL.out HP.out)
          go_wp2_with (first | (go_at_call 17; refine (alive17.calls _).mono ?_; rintro en w5 ⟨rfl, hB⟩; have HBw2 := Aside0.mk (below_step HBw.out hB); clear HBw hB; have HBw := HBw2; clear HBw2))
          go_ret
          exact ⟨rfl, HBw.out⟩
end Go.Proofs.Ytofhcjdadhpjdaa.Q
