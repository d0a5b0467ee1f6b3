/- The printed functions of tcl come to the clean model. -/
import Derived.Test.YtofhcjdadhpjdaaETcl
import Derived.Test.YtofhcjdadhpjdaaPTcl
import Derived.Laws.RangeString
import Derived.Laws.RangeAny
import Derived.Lib.LazyBuf
namespace Go.Proofs.Ytofhcjdadhpjdaa.Q
set_option linter.unusedSimpArgs false
set_option linter.unusedVariables false
open Go.RowKit Go.Proofs.YtofhcjdadhpjdaaW.PrintWords Go.Proofs.YtofhcjdadhpjdaaW.PrintLast Go.Proofs.YtofhcjdadhpjdaaW.PrintMore

def bsS (l : List UInt8) : ByteArray := ⟨l.toArray⟩
def toP (p : M.Part) : S43 := ⟨p.v, bsS p.s⟩
def toW (w : M.Word) : S41 := ⟨w.at_, w.kind, w.parts.map toP⟩
def toC (c : M.Cmd) : S38 := ⟨c.at_, c.words.map toW⟩
abbrev lst (s : ByteArray) : List UInt8 := s.data.toList
theorem lst_len (s : ByteArray) : (lst s).length = s.size := Array.length_toList
theorem lst_bsS (l : List UInt8) : lst (bsS l) = l := rfl
theorem ba_ext {a b : ByteArray} (h : lst a = lst b) : a = b := by
  obtain ⟨a⟩ := a; obtain ⟨b⟩ := b
  congr
  exact Array.toList_inj.1 h
theorem lst_extract (s : ByteArray) (a b : Nat) : lst (s.extract a b) = ((lst s).take b).drop a := by
  simp only [lst, ByteArray.data_extract, Array.toList_extract, List.extract_eq_take_drop]
  rw [List.drop_take]
theorem wr_id {x : Int} (h0 : -9223372036854775808 ≤ x) (h1 : x ≤ 9223372036854775807) : wrap64 x = x := by unfold wrap64; omega
theorem wr1 {i : Nat} (h : i ≤ 9000000000000) : wrap64 ((i : Int) + 1) = ((i + 1 : Nat) : Int) := by rw [wr_id (by omega) (by omega)]; omega
theorem wr2 {i : Nat} (h : i ≤ 9000000000000) : wrap64 ((i : Int) + 2) = ((i + 2 : Nat) : Int) := by rw [wr_id (by omega) (by omega)]; omega
theorem wrm {i : Nat} (h : i ≤ 9000000000000) (h1 : 1 ≤ i) : wrap64 ((i : Int) - 1) = ((i - 1 : Nat) : Int) := by rw [wr_id (by omega) (by omega)]; omega
theorem at_cons {s : ByteArray} {i : Nat} {c : UInt8} {r : List UInt8} (h : (lst s).drop i = c :: r) : i < s.size ∧ bt s (i : Int) = (c.toNat : Int) ∧ (lst s).drop (i + 1) = r ∧ i + 1 + r.length = s.size := by
  have hi : i < (lst s).length := by
    rcases Nat.lt_or_ge i (lst s).length with h1 | h1
    · exact h1
    · rw [List.drop_eq_nil_of_le h1] at h; cases h
  rw [List.drop_eq_getElem_cons hi] at h
  injection h with h1 h2
  have hs := lst_len s
  refine ⟨by omega, ?_, h2, ?_⟩
  · rw [bt, dif_pos (by simp only [Int.toNat_natCast]; omega), ← h1]; rfl
  · rw [← h2, List.length_drop]; omega
theorem at_nil {s : ByteArray} {i : Nat} (h : (lst s).drop i = []) : s.size ≤ i := by
  have := congrArg List.length h
  rw [List.length_drop, lst_len] at this
  simp only [List.length_nil] at this
  omega
theorem u8_back (c : UInt8) : ((c.toNat : Int)).toNat.toUInt8 = c := by simp
theorem in_stops (c : UInt8) : tcl_in.f (⟨#[32, 9, 10, 59]⟩ : ByteArray) (c.toNat : Int) = some (M.stopB c) := by
  unfold tcl_in.f strings_IndexByte.f
  rw [u8_back]
  simp only [Option.bind_some, Lib.indexByte, M.stopB, M.blankB, M.endB]
  by_cases h1 : c = 32
  · subst h1; rfl
  by_cases h2 : c = 9
  · subst h2; rfl
  by_cases h3 : c = 10
  · subst h3; rfl
  by_cases h4 : c = 59
  · subst h4; rfl
  simp [h1, h2, h3, h4, Ne.symm h1, Ne.symm h2, Ne.symm h3, Ne.symm h4]
theorem in_ends (c : UInt8) : tcl_in.f (⟨#[10, 59]⟩ : ByteArray) (c.toNat : Int) = some (M.endB c) := by
  unfold tcl_in.f strings_IndexByte.f
  rw [u8_back]
  simp only [Option.bind_some, Lib.indexByte, M.stopB, M.blankB, M.endB]
  by_cases h3 : c = 10
  · subst h3; rfl
  by_cases h4 : c = 59
  · subst h4; rfl
  simp [h3, h4, Ne.symm h3, Ne.symm h4]
theorem in_blanks (c : UInt8) : tcl_in.f (⟨#[32, 9]⟩ : ByteArray) (c.toNat : Int) = some (M.blankB c) := by
  unfold tcl_in.f strings_IndexByte.f
  rw [u8_back]
  simp only [Option.bind_some, Lib.indexByte, M.stopB, M.blankB, M.endB]
  by_cases h3 : c = 32
  · subst h3; rfl
  by_cases h4 : c = 9
  · subst h4; rfl
  simp [h3, h4, Ne.symm h3, Ne.symm h4]
theorem in_quote (c : UInt8) : tcl_in.f (⟨#[34]⟩ : ByteArray) (c.toNat : Int) = some (M.quoB c) := by
  unfold tcl_in.f strings_IndexByte.f
  rw [u8_back]
  simp only [Option.bind_some, Lib.indexByte, M.quoB]
  by_cases h3 : c = 34
  · subst h3; rfl
  simp [h3, Ne.symm h3]

theorem u8n (c : UInt8) (n : Nat) (hn : n < 256) : (((c.toNat : Int)) = (n : Int)) = (c = UInt8.ofNat n) := by
  refine propext ⟨fun h => ?_, fun h => ?_⟩
  · apply UInt8.toNat_inj.1
    rw [UInt8.toNat_ofNat']
    omega
  · subst h
    rw [UInt8.toNat_ofNat']
    omega
theorem u92 (c : UInt8) : (((c.toNat : Int)) = 92) = (c = 92) := u8n c 92 (by decide)
theorem u123 (c : UInt8) : (((c.toNat : Int)) = 123) = (c = 123) := u8n c 123 (by decide)
theorem u125 (c : UInt8) : (((c.toNat : Int)) = 125) = (c = 125) := u8n c 125 (by decide)
theorem u34 (c : UInt8) : (((c.toNat : Int)) = 34) = (c = 34) := u8n c 34 (by decide)
theorem u91 (c : UInt8) : (((c.toNat : Int)) = 91) = (c = 91) := u8n c 91 (by decide)
theorem u36 (c : UInt8) : (((c.toNat : Int)) = 36) = (c = 36) := u8n c 36 (by decide)
theorem u35 (c : UInt8) : (((c.toNat : Int)) = 35) = (c = 35) := u8n c 35 (by decide)
theorem fail_is (s : ByteArray) (i : Int) (x er : Int) : tcl_parser_fail.f s i 0 0 x er = some (s, (s.size : Int), x, er) := rfl
theorem braced_step (s : ByteArray) (hs : s.size ≤ 4000000000000) (p i d k : Nat) (c : UInt8) (r : List UInt8) (hr : (lst s).drop i = c :: r) (hpi : p < i) (hd1 : 1 ≤ d) (hd2 : d ≤ 64) :
    tcl_parser_braced.l0 (k + 1) p d s i 0 0 = if c = 92 then tcl_parser_braced.l0 k p d s ((i + 2 : Nat) : Int) 0 0
      else if c = 123 then (if 64 < d + 1 then some ([], s, (s.size : Int), (i : Int), 7) else tcl_parser_braced.l0 k p ((d + 1 : Nat) : Int) s ((i + 1 : Nat) : Int) 0 0)
      else if c = 125 then (if 1 < d then tcl_parser_braced.l0 k p ((d - 1 : Nat) : Int) s ((i + 1 : Nat) : Int) 0 0 else some ((if i = p + 1 then [] else [⟨false, s.extract (p + 1) i⟩]), s, ((i + 1 : Nat) : Int), 0, 0))
      else tcl_parser_braced.l0 k p d s ((i + 1 : Nat) : Int) 0 0 := by
  obtain ⟨hi, hb, -, -⟩ := at_cons hr
  rw [tcl_parser_braced.l0, if_pos (by omega), if_pos (by omega), hb]
  have hi2 : i + 1 ≤ 9000000000000 := by omega
  have hd3 : d ≤ 9000000000000 := by omega
  have hp3 : p ≤ 9000000000000 := by omega
  rw [wr1 (Nat.le_of_succ_le hi2), wr1 hi2, wr1 hd3, wrm hd3 hd1, wr2 hp3, wr1 hp3, wrm hi2 (Nat.le_add_left 1 i), fail_is, Nat.add_sub_cancel]
  dsimp only [Option.bind_some]
  by_cases h1 : c = 92
  · rw [if_pos h1, if_pos ((u92 c).mpr h1)]
  rw [if_neg h1, if_neg (fun h => h1 ((u92 c).mp h))]
  by_cases h2 : c = 123
  · rw [if_pos h2, if_pos ((u123 c).mpr h2)]
    by_cases h3 : 64 < d + 1
    · rw [if_pos h3, if_pos (by omega)]
    · rw [if_neg h3, if_neg (by omega)]
  rw [if_neg h2, if_neg (fun h => h2 ((u123 c).mp h))]
  by_cases h4 : c = 125
  · rw [if_pos h4, if_pos ((u125 c).mpr h4)]
    by_cases h3 : 1 < d
    · rw [if_pos h3, if_pos (by omega)]
    · rw [if_neg h3, if_neg (by omega)]
      by_cases h5 : i = p + 1
      · rw [if_pos h5, if_pos (by omega)]
      · rw [if_neg h5, if_neg (by omega), if_pos (by omega), if_pos (by omega), if_pos (by omega)]
        simp only [Int.toNat_natCast]
  rw [if_neg h4, if_neg (fun h => h4 ((u125 c).mp h))]
theorem braced_stop (s : ByteArray) (p i d k : Nat) (hi : s.size ≤ i) : tcl_parser_braced.l0 (k + 1) p d s i 0 0 = some ([], s, (s.size : Int), (p : Int), 5) := by
  rw [tcl_parser_braced.l0, if_neg (by omega), fail_is]
  rfl
theorem braced_is (s : ByteArray) (hs : s.size ≤ 4000000000000) (p : Nat) (r : List UInt8) (i d k : Nat) (hr : (lst s).drop i = r) (hpi : p < i) (hd1 : 1 ≤ d) (hd2 : d ≤ 64) (hk : r.length < k) :
    tcl_parser_braced.l0 k p d s i 0 0 = match M.brM p r i d with
      | .ok q => some ((if q = p + 2 then [] else [⟨false, s.extract (p + 1) (q - 1)⟩]), s, (q : Int), 0, 0)
      | .error (x, er) => some ([], s, (s.size : Int), (x : Int), er) := by
  fun_induction M.brM p r i d generalizing k
  all_goals (obtain ⟨k, rfl⟩ : ∃ m, k = m + 1 := ⟨k - 1, by omega⟩)
  case case1 => exact braced_stop _ _ _ _ _ (at_nil hr)
  all_goals rw [braced_step s hs _ _ _ _ _ _ hr hpi hd1 hd2]
  all_goals have hnx := (at_cons hr).2.2.1
  all_goals have hle := (at_cons hr).2.2.2
  all_goals simp only [List.length_cons, List.length_nil] at hk hle
  all_goals (obtain ⟨k, rfl⟩ : ∃ m, k = m + 1 := ⟨k - 1, by omega⟩)
  case case2 => rw [if_pos rfl]; exact braced_stop _ _ _ _ _ (by omega)
  case case3 => subst_vars; rw [if_neg (by decide), if_pos rfl, if_pos (by assumption)]
  case case4 => subst_vars; rw [if_neg (by decide), if_pos rfl, if_neg (by assumption)]; exact braced_stop _ _ _ _ _ (by omega)
  case case5 => subst_vars; rw [if_neg (by decide), if_neg (by decide), if_pos rfl, if_pos (by assumption)]; exact braced_stop _ _ _ _ _ (by omega)
  case case6 =>
    subst_vars
    rw [if_neg (by decide), if_neg (by decide), if_pos rfl, if_neg (by assumption)]
    dsimp only
    rw [Nat.add_sub_cancel]
    congr 2
    exact ite_congr (propext (by omega)) (fun _ => rfl) (fun _ => rfl)
  case case7 => rw [if_neg (by assumption), if_neg (by assumption), if_neg (by assumption)]; exact braced_stop _ _ _ _ _ (by omega)
  case case8 ih =>
    subst_vars
    rw [if_pos rfl]
    exact ih (k + 1) (by rw [← (at_cons hnx).2.2.1]) (by omega) hd1 hd2 (by omega)
  case case9 => subst_vars; rw [if_neg (by decide), if_pos rfl, if_pos (by assumption)]
  case case10 ih => subst_vars; rw [if_neg (by decide), if_pos rfl, if_neg (by assumption)]; exact ih (k + 1) hnx (by omega) (by omega) (by omega) (by simp only [List.length_cons]; omega)
  case case11 ih => subst_vars; rw [if_neg (by decide), if_neg (by decide), if_pos rfl, if_pos (by assumption)]; exact ih (k + 1) hnx (by omega) (by omega) (by omega) (by simp only [List.length_cons]; omega)
  case case12 =>
    subst_vars
    rw [if_neg (by decide), if_neg (by decide), if_pos rfl, if_neg (by assumption)]
    dsimp only
    rw [Nat.add_sub_cancel]
    congr 2
    exact ite_congr (propext (by omega)) (fun _ => rfl) (fun _ => rfl)
  case case13 ih => rw [if_neg (by assumption), if_neg (by assumption), if_neg (by assumption)]; exact ih (k + 1) hnx (by omega) hd1 hd2 (by simp only [List.length_cons]; omega)
theorem digit_is (c : UInt8) : quote_digit.f (c.toNat : Int) = some (M.octB c) := by
  unfold quote_digit.f M.octB
  have h1 : decide (48 ≤ c) = decide (48 ≤ c.toNat) := by simp [UInt8.le_iff_toNat_le]
  have h2 : decide (c ≤ 55) = decide (c.toNat ≤ 55) := by simp [UInt8.le_iff_toNat_le]
  rw [h1, h2]
  by_cases h : 48 ≤ c.toNat
  · rw [if_pos (by omega), decide_eq_true h, Bool.true_and]
    congr 1
    rw [decide_eq_decide]
    omega
  · rw [if_neg (by omega), decide_eq_false h]
    rfl
theorem octB_le {c : UInt8} (h : M.octB c = true) : 48 ≤ c.toNat ∧ c.toNat ≤ 55 := by
  unfold M.octB at h
  simpa [UInt8.le_iff_toNat_le] using h
theorem ofInt_i64 (a : Nat) (ha : a < 9223372036854775808) : (BitVec.ofInt 64 (a : Int)).toNat = a := by
  rw [BitVec.ofInt_natCast, BitVec.toNat_ofNat]; exact Nat.mod_eq_of_lt (by omega)
theorem i64_or_nat (a b : Nat) (ha : a < 9223372036854775808) (hb : b < 9223372036854775808) : bits .or .i64 (a : Int) (b : Int) = ((a ||| b : Nat) : Int) := by
  have hx : a ||| b < 2 ^ 63 := Nat.or_lt_two_pow (by omega) (by omega)
  show IntKind.i64.wrap ((BitVec.ofInt 64 (a : Int) ||| BitVec.ofInt 64 (b : Int)).toNat : Int) = _
  rw [BitVec.toNat_or, ofInt_i64 a ha, ofInt_i64 b hb, IntKind.wrap_i64]
  omega
theorem or_digit (v d : Nat) (hv : v < 4096) (hd : d < 8) : bits .or .i64 (wrap64 ((v : Int) * 8)) ((((d + 48 : Nat) : Int) - 48) % 256) = ((v * 8 + d : Nat) : Int) := by
  rw [wr_id (by omega) (by omega), show (v : Int) * 8 = ((2 ^ 3 * v : Nat) : Int) by omega, show ((((d + 48 : Nat) : Int) - 48) % 256) = ((d : Nat) : Int) by omega, i64_or_nat _ _ (by omega) (by omega), ← Nat.two_pow_add_eq_or_of_lt (by omega)]
  congr 1
  omega
theorem esc_stop (s : ByteArray) (hs : s.size ≤ 4000000000000) (i j v k : Nat) (hi : i < s.size) (h : s.size ≤ j ∨ i + 4 ≤ j) : quote_Escape.l0 (k + 1) s i v j = some (((v : Int)) % 256, (j : Int), 0) := by
  rw [quote_Escape.l0, show wrap64 ((i : Int) + 4) = (i : Int) + 4 from wr_id (by omega) (by omega)]
  rcases h with h | h
  · rw [if_neg (by omega)]
  · by_cases h1 : (j : Int) < (s.size : Int)
    · rw [if_pos h1, if_neg (by omega)]
    · rw [if_neg h1]
theorem esc_step (s : ByteArray) (hs : s.size ≤ 4000000000000) (i j v k : Nat) (c : UInt8) (r : List UInt8) (hr : (lst s).drop j = c :: r) (hi : i < s.size) (hj : j < i + 4) (hv : v < 4096) :
    quote_Escape.l0 (k + 1) s i v j = if M.octB c = true then quote_Escape.l0 k s i ((v * 8 + (c.toNat - 48) : Nat) : Int) ((j + 1 : Nat) : Int) else some (((v : Int)) % 256, (j : Int), 0) := by
  obtain ⟨hlt, hb, -, -⟩ := at_cons hr
  rw [quote_Escape.l0, show wrap64 ((i : Int) + 4) = (i : Int) + 4 from wr_id (by omega) (by omega), show wrap64 ((j : Int) + 1) = ((j + 1 : Nat) : Int) from wr_id (by omega) (by omega), if_pos (by omega), if_pos (by omega), if_pos (by omega), hb, digit_is, Option.bind_some]
  by_cases h : M.octB c = true
  · rw [if_pos h, if_pos h]
    have h8 := octB_le h
    have := or_digit v (c.toNat - 48) hv (by omega)
    rw [show c.toNat - 48 + 48 = c.toNat by omega] at this
    rw [this]
  · rw [if_neg h, if_neg h]
theorem oct1 {c : UInt8} (h : M.octB c = true) : (((0 * 8 + (c.toNat - 48) : Nat) : Int)) % 256 = (((c - 48 : UInt8)).toNat : Int) := by
  have h1 := octB_le h
  rw [UInt8.toNat_sub_of_le _ _ (by rw [UInt8.le_iff_toNat_le]; exact h1.1)]
  show _ = ((c.toNat - 48 : Nat) : Int)
  omega
theorem oct2 {c d : UInt8} (h : M.octB c = true) (h' : M.octB d = true) : ((((0 * 8 + (c.toNat - 48)) * 8 + (d.toNat - 48) : Nat) : Int)) % 256 = ((((c - 48) * 8 + (d - 48) : UInt8)).toNat : Int) := by
  have h1 := octB_le h
  have h2 := octB_le h'
  rw [UInt8.toNat_add, UInt8.toNat_mul, UInt8.toNat_sub_of_le _ _ (by rw [UInt8.le_iff_toNat_le]; exact h1.1), UInt8.toNat_sub_of_le _ _ (by rw [UInt8.le_iff_toNat_le]; exact h2.1)]
  show _ = ((((c.toNat - 48) * 8 % 256 + (d.toNat - 48)) % 256 : Nat) : Int)
  omega
theorem oct3 {c d e : UInt8} (h : M.octB c = true) (h' : M.octB d = true) (h'' : M.octB e = true) : (((((0 * 8 + (c.toNat - 48)) * 8 + (d.toNat - 48)) * 8 + (e.toNat - 48) : Nat) : Int)) % 256 = (((((c - 48) * 8 + (d - 48)) * 8 + (e - 48) : UInt8)).toNat : Int) := by
  have h1 := octB_le h
  have h2 := octB_le h'
  have h3 := octB_le h''
  rw [UInt8.toNat_add, UInt8.toNat_mul, UInt8.toNat_add, UInt8.toNat_mul, UInt8.toNat_sub_of_le _ _ (by rw [UInt8.le_iff_toNat_le]; exact h1.1), UInt8.toNat_sub_of_le _ _ (by rw [UInt8.le_iff_toNat_le]; exact h2.1), UInt8.toNat_sub_of_le _ _ (by rw [UInt8.le_iff_toNat_le]; exact h3.1)]
  show _ = (((((c.toNat - 48) * 8 % 256 + (d.toNat - 48)) % 256 * 8 % 256 + (e.toNat - 48)) % 256 : Nat) : Int)
  omega
theorem u114 (c : UInt8) : (((c.toNat : Int)) = 114) = (c = 114) := u8n c 114 (by decide)
theorem u110 (c : UInt8) : (((c.toNat : Int)) = 110) = (c = 110) := u8n c 110 (by decide)
theorem u116 (c : UInt8) : (((c.toNat : Int)) = 116) = (c = 116) := u8n c 116 (by decide)
theorem esc_is (s : ByteArray) (hs : s.size ≤ 4000000000000) (i : Nat) (r1 : List UInt8) (hr : (lst s).drop i = 92 :: r1) :
    quote_Escape.f 5 s i = some (match M.escM r1 with | some (x, n) => ((x.toNat : Int), ((i + 1 + n : Nat) : Int), 0) | none => (0, 0, 5)) := by
  obtain ⟨hi, hb, hr1, hl1⟩ := at_cons hr
  unfold quote_Escape.f
  rw [if_neg (by omega), if_neg (by omega), if_pos (by omega), if_pos (by omega), hb]
  show quote_Escape.j0 (4 + 1) s i false = _
  rw [quote_Escape.j0, if_neg (by decide), show wrap64 ((i : Int) + 1) = ((i + 1 : Nat) : Int) from wr_id (by omega) (by omega), show wrap64 ((i : Int) + 2) = ((i + 2 : Nat) : Int) from wr_id (by omega) (by omega)]
  cases r1 with
  | nil =>
    rw [List.length_nil] at hl1
    rw [if_pos (by omega)]
    rfl
  | cons c r2 =>
    rw [List.length_cons] at hl1
    obtain ⟨hj, hc, hr2, -⟩ := at_cons hr1
    rw [if_neg (by omega), if_pos (by omega), if_pos (by omega), hc, digit_is, Option.bind_some]
    by_cases hoc : M.octB c = true
    · rw [if_pos hoc]
      show quote_Escape.l0 (3 + 1) s i ((0 : Nat) : Int) _ = _
      rw [esc_step s hs i (i + 1) 0 3 c r2 hr1 hi (by omega) (by omega), if_pos hoc]
      have b1 := octB_le hoc
      cases r2 with
      | nil =>
        rw [List.length_nil] at hl1
        rw [esc_stop s hs _ _ _ 2 hi (.inl (by omega))]
        simp only [M.escM, if_pos hoc, oct1 hoc]
      | cons d r3 =>
        obtain ⟨hj3, hc3, hr3, hl3⟩ := at_cons hr2
        rw [esc_step s hs i (i + 1 + 1) _ 2 d r3 hr2 hi (by omega) (by omega)]
        by_cases hod : M.octB d = true
        · rw [if_pos hod]
          have b2 := octB_le hod
          cases r3 with
          | nil =>
            rw [List.length_nil] at hl3
            rw [esc_stop s hs _ _ _ 1 hi (.inl (by omega))]
            simp only [M.escM, if_pos hoc, if_pos hod, oct2 hoc hod]
          | cons e r4 =>
            obtain ⟨hj4, hc4, hr4, hl4⟩ := at_cons hr3
            rw [esc_step s hs i (i + 1 + 1 + 1) _ 1 e r4 hr3 hi (by omega) (by omega)]
            by_cases hoe : M.octB e = true
            · rw [if_pos hoe, esc_stop s hs _ _ _ 0 hi (.inr (by omega))]
              simp only [M.escM, if_pos hoc, if_pos hod, if_pos hoe, oct3 hoc hod hoe]
            · rw [if_neg hoe]
              simp only [M.escM, if_pos hoc, if_pos hod, if_neg hoe, oct2 hoc hod]
        · rw [if_neg hod]
          simp only [M.escM, if_pos hoc, if_neg hod, oct1 hoc]
    · rw [if_neg hoc]
      simp only [M.escM, if_neg hoc]
      by_cases h1 : c = 114
      · subst h1; rfl
      rw [if_neg (fun h => h1 ((u114 c).mp h))]
      by_cases h2 : c = 110
      · subst h2; rfl
      rw [if_neg (fun h => h2 ((u110 c).mp h))]
      by_cases h3 : c = 116
      · subst h3; rfl
      rw [if_neg (fun h => h3 ((u116 c).mp h)), if_neg h2, if_neg h3, if_neg h1]

theorem names_is (n : Nat) : tcl_names.f (n : Int) = some (decide ((97 ≤ n ∧ n ≤ 122) ∨ (65 ≤ n ∧ n ≤ 90) ∨ (48 ≤ n ∧ n ≤ 57) ∨ n = 95)) := by
  have he : ((n : Int) == 95) = decide (n = 95) := by by_cases h : n = 95 <;> simp [h] <;> omega
  unfold tcl_names.f
  rw [he]
  repeat' split
  all_goals congr 1
  all_goals first | (rw [decide_eq_decide]; omega) | (symm; rw [decide_eq_true_eq]; omega)
theorem nameB_is (c : UInt8) : M.nameB c = decide ((97 ≤ c.toNat ∧ c.toNat ≤ 122) ∨ (65 ≤ c.toNat ∧ c.toNat ≤ 90) ∨ (48 ≤ c.toNat ∧ c.toNat ≤ 57) ∨ c.toNat = 95) := by
  have he : (c == 95) = decide (c.toNat = 95) := by
    by_cases h : c = 95
    · subst h; rfl
    · rw [beq_eq_false_iff_ne.2 h, decide_eq_false]
      intro h1
      exact h (UInt8.toNat_inj.1 h1)
  unfold M.nameB
  rw [he]
  simp only [UInt8.le_iff_toNat_le, show (97 : UInt8).toNat = 97 from rfl, show (122 : UInt8).toNat = 122 from rfl, show (65 : UInt8).toNat = 65 from rfl, show (90 : UInt8).toNat = 90 from rfl, show (48 : UInt8).toNat = 48 from rfl, show (57 : UInt8).toNat = 57 from rfl, Bool.decide_or, Bool.decide_and, Bool.or_assoc]
theorem notName_is (n : Nat) : notName n = !decide ((97 ≤ n ∧ n ≤ 122) ∨ (65 ≤ n ∧ n ≤ 90) ∨ (48 ≤ n ∧ n ≤ 57) ∨ n = 95) := by
  unfold notName
  rw [names_is]
  rfl
theorem idx_is (s : ByteArray) : ∀ (r : List UInt8) (f pos : Nat), (lst s).drop pos = r → r.length ≤ f → Lib.idxFuncFrom notName true s f pos = if M.nmM r = r.length then -1 else ((pos + M.nmM r : Nat) : Int) := by
  intro r
  induction r with
  | nil =>
    intro f pos hr _
    rw [Lib.idxFuncFrom_end _ _ _ _ _ (by have := at_nil hr; omega)]
    rfl
  | cons c r ih =>
    intro f pos hr hf
    obtain ⟨f, rfl⟩ : ∃ m, f = m + 1 := ⟨f - 1, by simp only [List.length_cons] at hf; omega⟩
    obtain ⟨hi, hb, hnx, -⟩ := at_cons hr
    rw [bt, dif_pos (by simp only [Int.toNat_natCast]; exact hi)] at hb
    have hb' : (s[pos]'hi).toNat = c.toNat := by exact_mod_cast hb
    rw [Lib.idxFuncFrom, if_pos hi]
    by_cases hc : M.nameB c = true
    · have h1 := hc
      rw [nameB_is, decide_eq_true_eq] at h1
      have hlt : (s[pos]'hi).toNat < 128 := by omega
      rw [decode_ascii s pos hi hlt, notName_is, hb', if_neg (by simp only [decide_eq_true h1]; decide)]
      dsimp only
      rw [ih f (pos + 1) hnx (by simp only [List.length_cons] at hf; omega)]
      have : M.nmM (c :: r) = M.nmM r + 1 := by simp [M.nmM, List.takeWhile_cons, hc]
      rw [this, List.length_cons]
      by_cases h2 : M.nmM r = r.length
      · rw [if_pos h2, if_pos (by omega)]
      · rw [if_neg h2, if_neg (by omega)]; omega
    · have h0 : M.nmM (c :: r) = 0 := by simp [M.nmM, List.takeWhile_cons, hc]
      have hg : notName (Utf8.decode s pos).1 = true := by
        rw [notName_is]
        by_cases hlt : (s[pos]'hi).toNat < 128
        · rw [decode_ascii s pos hi hlt, hb']
          rw [nameB_is, Bool.not_eq_true] at hc
          rw [hc]
          rfl
        · have := (decode_high s pos hi (by omega)).1
          rw [decide_eq_false (by omega)]
          rfl
      rw [if_pos hg, h0, List.length_cons, if_neg (by omega)]
      omega
theorem nameLen_is (s : ByteArray) : nameLen s = (M.nmM (lst s) : Int) := by
  have h := idx_is s (lst s) s.size 0 rfl (Nat.le_of_eq (lst_len s))
  have hx : Lib.idxFunc notName true s = Lib.idxFuncFrom notName true s s.size 0 := rfl
  unfold nameLen
  rw [hx, h]
  by_cases h1 : M.nmM (lst s) = (lst s).length
  · rw [if_pos h1, if_pos (by omega), h1, lst_len]
  · rw [if_neg h1, if_neg (by omega)]; omega

theorem flush_is (l : List M.Part) (t : List UInt8) : flushP (t.map (fun b => (b.toNat : Int))) (l.map toP) = (M.flushM l t).map toP := by
  unfold flushP M.flushM
  cases t with
  | nil => rfl
  | cons b t =>
    rw [if_neg (by simp), if_neg (by simp), Lib.Lz.strOfNums_map]
    simp only [List.map_append, List.map_cons, List.map_nil]
    rfl
theorem ptM_err {stop : UInt8 → Bool} {fr : Option Nat} {l : List M.Part} {t : M.Bs} {r : M.Bs} {p a : Nat} {e : Int} (h : M.ptM stop fr l t r p = .error (a, e)) : e ≠ 0 := by
  fun_induction M.ptM stop fr l t r p <;> simp_all
  all_goals omega
theorem lst_rest (s : ByteArray) (i : Nat) : lst (s.extract i s.size) = (lst s).drop i := by
  rw [lst_extract, List.take_of_length_le (Nat.le_of_eq (lst_len s))]
theorem parts_is (s : ByteArray) (hs : s.size ≤ 4000000000000) (st : ByteArray) (stop : UInt8 → Bool) (hst : ∀ c : UInt8, tcl_in.f st (c.toNat : Int) = some (stop c)) (fr : Option Nat) (frm : Int) (hfr : (frm < 0 ∧ fr = none) ∨ ∃ p : Nat, frm = p ∧ fr = some p)
    (l : List M.Part) (t : List UInt8) (r : List UInt8) (p k : Nat) (hr : (lst s).drop p = r) (hpl : p + r.length = s.size) (hk : r.length < k) (hb : l.length + t.length + r.length ≤ 4000000000000) :
    match M.ptM stop fr l t r p with
    | .ok (l', r2, q) => tcl_parser_parts.l0 st frm s k p 0 0 (t.map (fun b => (b.toNat : Int))) (l.map toP) = some (l'.map toP, s, (q : Int), 0, 0) ∧ (lst s).drop q = r2
    | .error (x, er) => ∃ pr, tcl_parser_parts.l0 st frm s k p 0 0 (t.map (fun b => (b.toNat : Int))) (l.map toP) = some (pr, s, (s.size : Int), (x : Int), er) := by
  fun_induction M.ptM stop fr l t r p generalizing k
  all_goals (obtain ⟨k, rfl⟩ : ∃ m, k = m + 1 := ⟨k - 1, by omega⟩)
  all_goals rw [tcl_parser_parts.l0, if_neg (by simp only [List.length_map]; omega)]
  case case1 =>
    rw [List.length_nil] at hpl
    dsimp only
    rw [if_neg (by omega), flush_is]
    exact ⟨rfl, hr⟩
  all_goals obtain ⟨hi, hbt, hnx, hle⟩ := at_cons hr
  all_goals rw [if_pos (by omega), if_pos (by omega), hbt, hst, Option.bind_some]
  all_goals simp only [List.length_cons] at hk hb hpl
  case case2 h => rw [if_pos h, flush_is]; exact ⟨rfl, hr⟩
  case case3 h => rw [if_neg h, if_pos ((u91 91).mpr rfl)]; exact ⟨_, rfl⟩
  case case4 l t p r1 hx h h1 =>
    rw [if_neg h, if_neg (by decide), if_pos ((u92 92).mpr rfl), esc_is s hs p r1 hr, hx]
    dsimp only [Option.bind_some]
    rw [if_neg (by decide), fail_is]
    rcases hfr with ⟨hf, rfl⟩ | ⟨q, rfl, rfl⟩
    · rw [if_pos hf]; exact ⟨_, rfl⟩
    · rw [if_neg (by omega)]; exact ⟨_, rfl⟩
  case case5 l t p r1 x n hx h h1 ih =>
    have hn := M.escM_le hx
    rw [if_neg h, if_neg (by decide), if_pos ((u92 92).mpr rfl), esc_is s hs p r1 hr, hx]
    dsimp only [Option.bind_some]
    rw [if_pos rfl]
    have := ih k (by rw [← hnx, List.drop_drop]) (by rw [List.length_drop]; omega) (by rw [List.length_drop]; omega) (by simp only [List.length_drop, List.length_append, List.length_singleton]; omega)
    rw [List.map_append] at this
    exact this
  case case6 l t p r1 hn h h1 h2 =>
    rw [if_neg h, if_neg (by decide), if_neg (by decide), if_pos ((u36 36).mpr rfl)]
    simp only [Int.toNat_natCast, nameLen_is, lst_rest, hnx]
    rw [if_pos (by omega)]
    exact ⟨_, rfl⟩
  case case7 l t p r1 hn hn0 h h1 h2 ih =>
    rw [if_neg h, if_neg (by decide), if_neg (by decide), if_pos ((u36 36).mpr rfl)]
    simp only [Int.toNat_natCast, nameLen_is, lst_rest, hnx]
    rw [if_neg (by omega), if_pos (by omega), hn0]
    have := ih k hnx (by omega) (by omega) (by simp only [List.length_append, List.length_singleton]; omega)
    rw [List.map_append] at this
    exact this
  case case8 l t p r1 hn hn0 h h1 h2 ih =>
    have hnl := M.nmM_le r1
    rw [if_neg h, if_neg (by decide), if_neg (by decide), if_pos ((u36 36).mpr rfl)]
    simp only [Int.toNat_natCast, nameLen_is, lst_rest, hnx]
    rw [if_neg (by omega), if_neg (by omega)]
    have hfl : (M.flushM l t).length ≤ l.length + t.length := by
      unfold M.flushM
      cases t with
      | nil => simp
      | cons b t => rw [if_neg (by simp)]; simp only [List.length_append, List.length_cons, List.length_nil]; omega
    have := ih k (by rw [← hnx, List.drop_drop]) (by rw [List.length_drop]; omega) (by rw [List.length_drop]; omega) (by simp only [List.length_drop, List.length_append, List.length_singleton, List.length_nil]; omega)
    rw [List.map_append, ← flush_is] at this
    have he : (s.extract (p + 1) s.size).extract 0 (M.nmM r1) = bsS (r1.take (M.nmM r1)) := by
      apply ba_ext
      rw [lst_extract, lst_rest, hnx, lst_bsS]
      rfl
    rw [he, show ((p : Int) + (1 + (M.nmM r1 : Int))) = ((p + 1 + M.nmM r1 : Nat) : Int) by omega]
    exact this
  case case9 l t p c r1 h h1 h2 h3 ih =>
    rw [if_neg h, if_neg (fun he => h1 ((u91 _).mp he)), if_neg (fun he => h2 ((u92 _).mp he)), if_neg (fun he => h3 ((u36 _).mp he))]
    have := ih k hnx (by omega) (by omega) (by simp only [List.length_append, List.length_singleton]; omega)
    rw [List.map_append] at this
    exact this
theorem j0_end (s : ByteArray) (k : Nat) (a e x y : Int) (l : List S43) : tcl_parser_word.j0 (k + 1) s (s.size : Int) a e x y l = some (x, y, l, s, (s.size : Int), a, e) := by
  rw [tcl_parser_word.j0, if_neg (by omega)]
theorem j0_is (s : ByteArray) (k q : Nat) (x y : Int) (l : List S43) (w : M.Word) (r : List UInt8) (hr : (lst s).drop q = r) (hq : q + r.length = s.size) :
    match M.behindM w r q with
    | .ok (_, r2, q2) => tcl_parser_word.j0 (k + 1) s q 0 0 x y l = some (x, y, l, s, (q2 : Int), 0, 0) ∧ (lst s).drop q2 = r2 ∧ q2 = q
    | .error (a, e) => tcl_parser_word.j0 (k + 1) s q 0 0 x y l = some (x, y, l, s, (s.size : Int), (a : Int), e) ∧ e ≠ 0 := by
  cases r with
  | nil =>
    rw [List.length_nil] at hq
    obtain rfl : q = s.size := hq
    exact ⟨j0_end s k 0 0 x y l, hr, rfl⟩
  | cons c r =>
    obtain ⟨hi, hbt, hnx, hle⟩ := at_cons hr
    rw [tcl_parser_word.j0, if_pos (by omega), if_pos (by omega), hbt, in_stops, Option.bind_some, fail_is, M.behindM]
    by_cases h : M.stopB c = true
    · rw [if_pos h, if_pos h]; exact ⟨rfl, hr, rfl⟩
    · rw [if_neg h, if_neg h]; exact ⟨rfl, by decide⟩
theorem brM_err {f : Nat} {r : M.Bs} {p d a : Nat} {e : Int} (h : M.brM f r p d = .error (a, e)) : e ≠ 0 := by
  fun_induction M.brM f r p d <;> simp_all
  all_goals omega
theorem word_br (s : ByteArray) (hs : s.size ≤ 2000000000000) (k p : Nat) (c : UInt8) (r : List UInt8) (hr : (lst s).drop p = c :: r) (h1 : c = 123)
    (hk : r.length + 5 < k) :
    match M.wordM (c :: r) p with
    | .ok (w, r2, q) => tcl_parser_word.f k s p 0 0 = some ((w.at_ : Int), (w.kind : Int), w.parts.map toP, s, (q : Int), 0, 0) ∧ (lst s).drop q = r2
    | .error (x, er) => (∃ a b l, tcl_parser_word.f k s p 0 0 = some (a, b, l, s, (s.size : Int), (x : Int), er)) ∧ er ≠ 0 := by
  obtain ⟨hi, hbt, hnx, hle⟩ := at_cons hr
  obtain ⟨k, rfl⟩ : ∃ m, k = m + 1 := ⟨k - 1, by omega⟩
  unfold tcl_parser_word.f
  rw [if_pos (by omega), if_pos (by omega), hbt, M.wordM]
  rw [if_pos h1, if_pos ((u123 c).mpr h1)]
  have hb : tcl_parser_braced.f (k + 1) s p 0 0 = tcl_parser_braced.l0 k p ((1 : Nat) : Int) s ((p + 1 : Nat) : Int) 0 0 := by
    unfold tcl_parser_braced.f
    rw [tcl_parser_braced.l0, if_pos (by omega), if_pos (by omega), hbt, if_neg (by rw [h1]; decide), if_pos ((u123 c).mpr h1), show wrap64 ((0 : Int) + 1) = 1 from (wr_id (by decide) (by decide)).trans rfl, if_neg (by decide), wr1 (by omega)]
    rfl
  rw [hb, braced_is s (by omega) p r (p + 1) 1 k hnx (by omega) (by omega) (by omega) (by omega)]
  cases hq : M.brM p r (p + 1) 1 with
  | error x =>
    obtain ⟨a, e⟩ := x
    dsimp only [Option.bind_some]
    rw [j0_end]
    exact ⟨⟨_, _, _, rfl⟩, brM_err hq⟩
  | ok q =>
    have hat := M.brM_at hq
    dsimp only [Option.bind_some]
    have hd : (lst s).drop q = r.drop (q - p - 1) := by rw [← hnx, List.drop_drop]; congr 1; omega
    have hj := j0_is s k q (p : Int) 2 (if q = p + 2 then [] else [⟨false, s.extract (p + 1) (q - 1)⟩]) ⟨p, 2, if q = p + 2 then [] else [⟨false, r.take (q - p - 2)⟩]⟩ _ hd (by rw [List.length_drop]; omega)
    generalize hbm : M.behindM _ _ _ = o at hj ⊢
    cases o with
    | error x =>
      obtain ⟨a, e⟩ := x
      exact ⟨⟨_, _, _, hj.1⟩, hj.2⟩
    | ok x =>
      obtain ⟨w, r2, q2⟩ := x
      obtain ⟨rfl, rfl, rfl⟩ := M.behindM_at hbm
      refine ⟨hj.1.trans ?_, hj.2.1⟩
      dsimp only
      congr 4
      by_cases h2 : q2 = p + 2
      · rw [if_pos h2, if_pos h2]; rfl
      · rw [if_neg h2, if_neg h2]
        show _ = [(⟨false, bsS (r.take (q2 - p - 2))⟩ : S43)]
        congr 2
        apply ba_ext
        rw [lst_extract, lst_bsS, ← hnx, List.drop_take]
        congr 1
        omega
theorem mn_end (s : ByteArray) (hs : s.size ≤ 2000000000000) : mn (wrap64 ((s.size : Int) + 1)) (s.size : Int) = (s.size : Int) := by
  rw [wr1 (by omega)]
  unfold mn
  rw [if_pos (by omega)]
theorem mn_in (s : ByteArray) (q : Nat) (hs : s.size ≤ 2000000000000) (hq : q < s.size) : mn (wrap64 ((q : Int) + 1)) (s.size : Int) = ((q + 1 : Nat) : Int) := by
  rw [wr1 (by omega)]
  unfold mn
  rw [if_neg (by omega)]
theorem quoted_eq (s : ByteArray) (hs : s.size ≤ 2000000000000) (k p : Nat) (hp : p < s.size) (hbt : bt s p = 34) (l : List S43) (i a e : Int) (h : tcl_parser_parts.f s ((p + 1 : Nat) : Int) 0 0 ⟨#[34]⟩ p = some (l, s, i, a, e)) :
    tcl_parser_word.f k s p 0 0 = if i = (s.size : Int) then (if e = 0 then tcl_parser_word.j0 k s (s.size : Int) p 5 p 1 l else tcl_parser_word.j0 k s (s.size : Int) a e p 1 l) else tcl_parser_word.j0 k s (mn (wrap64 (i + 1)) (s.size : Int)) a e p 1 l := by
  unfold tcl_parser_word.f
  rw [if_pos (by omega), if_pos (by omega), hbt, if_neg (by decide), if_pos rfl, wr1 (by omega), h, Option.bind_some]
  by_cases hi : i = (s.size : Int)
  · rw [if_pos hi, if_pos (show (l, s, i, a, e).2.2.1 = ((l, s, i, a, e).2.1.size : Int) from hi)]
    by_cases he : e = 0
    · rw [if_pos he]
      have hf : tcl_parser_fail.f (l, s, i, a, e).2.1 (l, s, i, a, e).2.2.1 (l, s, i, a, e).2.2.2.1 (l, s, i, a, e).2.2.2.2 p 5 = some (s, (s.size : Int), (p : Int), 5) := by
        unfold tcl_parser_fail.f
        rw [if_pos he]
      rw [hf, Option.bind_some]
      show tcl_parser_word.j0 k s (mn (wrap64 ((s.size : Int) + 1)) (s.size : Int)) p 5 p 1 l = _
      rw [mn_end s hs]
    · rw [if_neg he]
      have hf : tcl_parser_fail.f (l, s, i, a, e).2.1 (l, s, i, a, e).2.2.1 (l, s, i, a, e).2.2.2.1 (l, s, i, a, e).2.2.2.2 p 5 = some (s, (s.size : Int), a, e) := by
        unfold tcl_parser_fail.f
        rw [if_neg he]
      rw [hf, Option.bind_some]
      show tcl_parser_word.j0 k s (mn (wrap64 ((s.size : Int) + 1)) (s.size : Int)) a e p 1 l = _
      rw [mn_end s hs]
  · rw [if_neg hi, if_neg (show ¬ (l, s, i, a, e).2.2.1 = ((l, s, i, a, e).2.1.size : Int) from hi)]
theorem word_qu (s : ByteArray) (hs : s.size ≤ 2000000000000) (k p : Nat) (c : UInt8) (r : List UInt8) (hr : (lst s).drop p = c :: r) (h1 : ¬c = 123) (h2 : c = 34)
    (hk : r.length + 5 < k) :
    match M.wordM (c :: r) p with
    | .ok (w, r2, q) => tcl_parser_word.f k s p 0 0 = some ((w.at_ : Int), (w.kind : Int), w.parts.map toP, s, (q : Int), 0, 0) ∧ (lst s).drop q = r2
    | .error (x, er) => (∃ a b l, tcl_parser_word.f k s p 0 0 = some (a, b, l, s, (s.size : Int), (x : Int), er)) ∧ er ≠ 0 := by
  obtain ⟨hi, hbt, hnx, hle⟩ := at_cons hr
  obtain ⟨k, rfl⟩ : ∃ m, k = m + 1 := ⟨k - 1, by omega⟩
  rw [M.wordM, if_neg h1, if_pos h2]
  have hpt := parts_is s (by omega) ⟨#[34]⟩ M.quoB in_quote (some p) p (.inr ⟨p, rfl, rfl⟩) [] [] r (p + 1) (s.size + 1) hnx (by omega) (by omega) (by simp only [List.length_nil]; omega)
  have hf : tcl_parser_parts.f s ((p + 1 : Nat) : Int) 0 0 ⟨#[34]⟩ p = tcl_parser_parts.l0 ⟨#[34]⟩ p s (s.size + 1) ((p + 1 : Nat) : Int) 0 0 (List.map (fun b : UInt8 => (b.toNat : Int)) []) (List.map toP []) := by
    unfold tcl_parser_parts.f
    rw [if_pos (by omega)]
    rfl
  rw [← hf] at hpt
  have hq34 : bt s p = 34 := by rw [hbt, h2]; rfl
  clear hf
  cases hq : M.ptM M.quoB (some p) [] [] r (p + 1) with
  | error x =>
    obtain ⟨a, e⟩ := x
    rw [hq] at hpt
    obtain ⟨pr, hpt⟩ := hpt
    have he := ptM_err hq
    have hw := quoted_eq s hs (k + 1) p hi hq34 _ _ _ _ hpt
    rw [if_pos rfl, if_neg he, j0_end] at hw
    exact ⟨⟨_, _, _, hw⟩, he⟩
  | ok x =>
    obtain ⟨l, r2, q⟩ := x
    rw [hq] at hpt
    obtain ⟨hpt, hdq⟩ := hpt
    have hat := M.ptM_at hq
    have hw := quoted_eq s hs (k + 1) p hi hq34 _ _ _ _ hpt
    cases r2 with
    | nil =>
      rw [List.length_nil] at hat
      rw [if_pos (by omega), if_pos rfl, j0_end] at hw
      exact ⟨⟨_, _, _, hw⟩, by decide⟩
    | cons d r2 =>
      obtain ⟨hi2, hbt2, hnx2, hle2⟩ := at_cons hdq
      rw [if_neg (by omega), mn_in s q hs hi2] at hw
      have hj := j0_is s k (q + 1) (p : Int) 1 (l.map toP) ⟨p, 1, l⟩ r2 hnx2 (by omega)
      rw [← hw] at hj
      clear hw hpt
      dsimp only
      cases hbm : M.behindM ⟨p, 1, l⟩ r2 (q + 1) with
      | error x =>
        obtain ⟨a, e⟩ := x
        rw [hbm] at hj
        exact ⟨⟨_, _, _, hj.1⟩, hj.2⟩
      | ok x =>
        obtain ⟨w, r3, q2⟩ := x
        rw [hbm] at hj
        obtain ⟨rfl, rfl, rfl⟩ := M.behindM_at hbm
        exact ⟨hj.1, hj.2.1⟩
theorem word_ba (s : ByteArray) (hs : s.size ≤ 2000000000000) (k p : Nat) (c : UInt8) (r : List UInt8) (hr : (lst s).drop p = c :: r) (h1 : ¬c = 123) (h2 : ¬c = 34)
    (hk : r.length + 5 < k) :
    match M.wordM (c :: r) p with
    | .ok (w, r2, q) => tcl_parser_word.f k s p 0 0 = some ((w.at_ : Int), (w.kind : Int), w.parts.map toP, s, (q : Int), 0, 0) ∧ (lst s).drop q = r2
    | .error (x, er) => (∃ a b l, tcl_parser_word.f k s p 0 0 = some (a, b, l, s, (s.size : Int), (x : Int), er)) ∧ er ≠ 0 := by
  obtain ⟨hi, hbt, hnx, hle⟩ := at_cons hr
  obtain ⟨k, rfl⟩ : ∃ m, k = m + 1 := ⟨k - 1, by omega⟩
  unfold tcl_parser_word.f
  rw [if_pos (by omega), if_pos (by omega), hbt, M.wordM]
  rw [if_neg h1, if_neg (fun h => h1 ((u123 c).mp h)), if_neg h2, if_neg (fun h => h2 ((u34 c).mp h))]
  have hpt := parts_is s (by omega) ⟨#[32, 9, 10, 59]⟩ M.stopB in_stops none (-1) (.inl ⟨by decide, rfl⟩) [] [] (c :: r) p (s.size + 1) hr (by simp only [List.length_cons]; omega) (by simp only [List.length_cons]; omega) (by simp only [List.length_nil, List.length_cons]; omega)
  have hf : tcl_parser_parts.f s (p : Int) 0 0 ⟨#[32, 9, 10, 59]⟩ (-1) = tcl_parser_parts.l0 ⟨#[32, 9, 10, 59]⟩ (-1) s (s.size + 1) (p : Int) 0 0 (List.map (fun b : UInt8 => (b.toNat : Int)) []) (List.map toP []) := by
    unfold tcl_parser_parts.f
    rw [if_pos (by omega)]
    rfl
  rw [hf]
  cases hq : M.ptM M.stopB none [] [] (c :: r) p with
  | error x =>
    obtain ⟨a, e⟩ := x
    rw [hq] at hpt
    obtain ⟨pr, hpt⟩ := hpt
    rw [hpt]
    exact ⟨⟨_, _, _, rfl⟩, ptM_err hq⟩
  | ok x =>
    obtain ⟨l, r2, q⟩ := x
    rw [hq] at hpt
    obtain ⟨hpt, hdq⟩ := hpt
    rw [hpt]
    exact ⟨rfl, hdq⟩
theorem word_is (s : ByteArray) (hs : s.size ≤ 2000000000000) (k p : Nat) (c : UInt8) (r : List UInt8) (hr : (lst s).drop p = c :: r)
    (hk : r.length + 5 < k) :
    match M.wordM (c :: r) p with
    | .ok (w, r2, q) => tcl_parser_word.f k s p 0 0 = some ((w.at_ : Int), (w.kind : Int), w.parts.map toP, s, (q : Int), 0, 0) ∧ (lst s).drop q = r2
    | .error (x, er) => (∃ a b l, tcl_parser_word.f k s p 0 0 = some (a, b, l, s, (s.size : Int), (x : Int), er)) ∧ er ≠ 0 := by
  by_cases h1 : c = 123
  · exact word_br s hs k p c r hr h1 hk
  by_cases h2 : c = 34
  · exact word_qu s hs k p c r hr h1 h2 hk
  · exact word_ba s hs k p c r hr h1 h2 hk
theorem cmd_end (s : ByteArray) (k : Nat) (a e x : Int) (l : List S41) : tcl_parser_command.l0 (k + 2) s (s.size : Int) a e x l = some (x, l, s, (s.size : Int), a, e) := by
  rw [tcl_parser_command.l0, if_neg (by omega), tcl_parser_command.j1, if_neg (by decide)]
theorem cmd_step (s : ByteArray) (hs : s.size ≤ 2000000000000) (k p : Nat) (x : Int) (c : UInt8) (r : List UInt8) (hr : (lst s).drop p = c :: r) (l : List S41) (hl : l.length < 3518437208883) :
    tcl_parser_command.l0 (k + 2) s p 0 0 x l = if M.endB c = true then some (x, l, s, (p : Int), 0, 0) else if M.blankB c = true then tcl_parser_command.l0 k s ((p + 1 : Nat) : Int) 0 0 x l
      else (tcl_parser_word.f k s p 0 0).bind fun b => tcl_parser_command.l0 k b.2.2.2.1 b.2.2.2.2.1 b.2.2.2.2.2.1 b.2.2.2.2.2.2 x (l ++ [⟨b.1, b.2.1, b.2.2.1⟩]) := by
  obtain ⟨hi, hbt, hnx, hle⟩ := at_cons hr
  rw [tcl_parser_command.l0, if_pos (by omega), if_pos (by omega), hbt, in_ends, Option.bind_some, tcl_parser_command.j1]
  by_cases h : M.endB c = true
  · rw [if_pos h, h, if_neg (by decide)]
  · rw [if_neg h, Bool.not_eq_true] at *
    rw [h, if_pos (by decide), if_pos (by omega), if_pos (by omega), hbt, in_blanks, Option.bind_some]
    by_cases h1 : M.blankB c = true
    · rw [if_pos h1, if_pos h1, wr1 (by omega)]
    · rw [if_neg h1, if_neg h1]
      congr 1
      funext b
      rw [if_pos hl]
theorem cmd_is (s : ByteArray) (hs : s.size ≤ 2000000000000) (x : Int) (ws : List M.Word) (r : List UInt8) (p k : Nat) (hr : (lst s).drop p = r) (hpl : p + r.length = s.size) (hk : 2 * r.length + 8 ≤ k) (hw : ws.length + r.length ≤ 3000000000000) :
    match M.cmdM ws r p with
    | .ok (ws', r2, q) => tcl_parser_command.l0 k s p 0 0 x (ws.map toW) = some (x, ws'.map toW, s, (q : Int), 0, 0) ∧ (lst s).drop q = r2
    | .error (a, er) => (∃ l, tcl_parser_command.l0 k s p 0 0 x (ws.map toW) = some (x, l, s, (s.size : Int), (a : Int), er)) ∧ er ≠ 0 := by
  fun_induction M.cmdM ws r p generalizing k
  all_goals (obtain ⟨k, rfl⟩ : ∃ m, k = m + 2 := ⟨k - 2, by omega⟩)
  case case1 =>
    rw [List.length_nil] at hpl
    obtain rfl := hpl
    exact ⟨cmd_end _ _ _ _ _ _, hr⟩
  all_goals simp only [List.length_cons] at hk hw hpl
  all_goals rw [cmd_step s hs _ _ _ _ _ hr _ (by rw [List.length_map]; omega)]
  all_goals obtain ⟨hi, hbt, hnx, hle⟩ := at_cons hr
  case case2 h => rw [if_pos h]; exact ⟨rfl, hr⟩
  case case3 h h1 ih => rw [if_neg h, if_pos h1]; exact ih k hnx (by omega) (by omega) (by omega)
  case case4 ws p c r1 h h1 y hx =>
    have hwd := word_is s hs k p c r1 hr (by omega)
    rw [hx] at hwd
    obtain ⟨⟨a, b, l, hwd⟩, he⟩ := hwd
    obtain ⟨k, rfl⟩ : ∃ m, k = m + 2 := ⟨k - 2, by omega⟩
    rw [if_neg h, if_neg h1, hwd, Option.bind_some]
    exact ⟨⟨_, cmd_end _ _ _ _ _ _⟩, he⟩
  case case5 ws p c r1 h h1 w r2 q hx hl ih =>
    have hwd := word_is s hs k p c r1 hr (by omega)
    have hat := M.wordM_at (M.stop_of h h1) hx
    rw [hx] at hwd
    obtain ⟨hwd, hd⟩ := hwd
    rw [if_neg h, if_neg h1, hwd, Option.bind_some]
    simp only [List.length_cons] at hat
    have := ih k hd (by omega) (by omega) (by rw [List.length_append, List.length_singleton]; omega)
    rw [List.map_append] at this
    exact this
  case case6 ws p c r1 h h1 w r2 q hx hl => exact absurd (M.wordM_at (M.stop_of h h1) hx).2.1 hl
theorem index10 (r : List UInt8) : Lib.indexByte r 10 = if (r.takeWhile (· != 10)).length = r.length then -1 else (((r.takeWhile (· != 10)).length : Nat) : Int) := by
  induction r with
  | nil => rfl
  | cons c r ih =>
    rw [Lib.indexByte, ih]
    by_cases h : c = 10
    · subst h; rfl
    · have hle : (r.takeWhile (· != 10)).length ≤ r.length := M.takeWhile_le r
      rw [if_neg (show ¬ (c == 10) = true by simpa using h), List.takeWhile_cons, if_pos (show (c != 10) = true by simpa using h), List.length_cons, List.length_cons]
      by_cases h2 : (r.takeWhile (· != 10)).length = r.length
      · rw [if_pos h2, if_pos (by decide), if_pos (by omega)]
      · rw [if_neg h2, if_neg (by simp only [beq_iff_eq]; omega), if_neg (by omega)]; omega
theorem parse_is (s : ByteArray) (hs : s.size ≤ 16777216) (cs : List M.Cmd) (r : List UInt8) (p k : Nat) (hr : (lst s).drop p = r) (hpl : p + r.length = s.size) (hk : r.length < k) (hw : cs.length + r.length ≤ 3000000000000) :
    match M.parseM cs r p with
    | .ok cs' => tcl_Parse.l0 s k p 0 0 (cs.map toC) = some (cs'.map toC, 0, 0)
    | .error (a, er) => tcl_Parse.l0 s k p 0 0 (cs.map toC) = some ([], (a : Int), er) ∧ er ≠ 0 := by
  fun_induction M.parseM cs r p generalizing k
  all_goals (obtain ⟨k, rfl⟩ : ∃ m, k = m + 1 := ⟨k - 1, by omega⟩)
  all_goals rw [tcl_Parse.l0, if_neg (by rw [List.length_map]; omega)]
  case case1 =>
    rw [List.length_nil] at hpl
    rw [if_neg (by omega), if_pos rfl]
  all_goals obtain ⟨hi, hbt, hnx, hle⟩ := at_cons hr
  all_goals simp only [List.length_cons] at hk hw hpl
  all_goals rw [if_pos (by omega), if_pos (by omega), hbt, in_stops, Option.bind_some]
  case case2 h ih => rw [if_pos h]; exact ih k hnx (by omega) (by omega) (by omega)
  case case3 cs p r1 h ih =>
    have hkl : (r1.takeWhile (· != 10)).length ≤ r1.length := M.takeWhile_le r1
    have hx : (s.extract p s.size).data.toList = 35 :: r1 := (lst_rest s p).trans hr
    rw [if_neg h, if_pos ((u35 35).mpr rfl), Int.toNat_natCast, hx, index10, List.takeWhile_cons, if_pos (show ((35 : UInt8) != 10) = true by decide), List.length_cons, List.length_cons]
    have := ih k (by rw [← hnx, List.drop_drop]) (by rw [List.length_drop]; omega) (by rw [List.length_drop]; omega) (by rw [List.length_drop]; omega)
    by_cases h2 : (r1.takeWhile (· != 10)).length = r1.length
    · rw [if_pos (by omega)]
      rw [show (p : Int) + ((s.size : Int) - (p : Int)) = ((p + 1 + (r1.takeWhile (· != 10)).length : Nat) : Int) by omega]
      exact this
    · rw [if_neg (by omega), if_neg (by omega)]
      rw [show (p : Int) + (((r1.takeWhile (· != 10)).length + 1 : Nat) : Int) = ((p + 1 + (r1.takeWhile (· != 10)).length : Nat) : Int) by omega]
      exact this
  case case4 cs p c r1 h h1 y hx =>
    have hc := cmd_is s (by omega) p [] (c :: r1) p (2 * s.size + 20) hr (by simp only [List.length_cons]; omega) (by simp only [List.length_cons]; omega) (by simp only [List.length_cons, List.length_nil]; omega)
    rw [hx] at hc
    obtain ⟨⟨l, hc⟩, he⟩ := hc
    obtain ⟨k, rfl⟩ : ∃ m, k = m + 1 := ⟨k - 1, by omega⟩
    have hf : tcl_parser_command.f (2 * s.size + 20) s p 0 0 = some ((p : Int), l, s, (s.size : Int), (y.1 : Int), y.2) := hc
    rw [if_neg h, if_neg (fun hh => h1 ((u35 _).mp hh)), hf, Option.bind_some, if_pos rfl]
    show tcl_Parse.l0 s (k + 1) (s.size : Int) (y.1 : Int) y.2 _ = _ ∧ _
    rw [tcl_Parse.l0, if_neg (by rw [List.length_append, List.length_map, List.length_singleton]; omega), if_neg (by omega), if_neg he]
    exact ⟨rfl, he⟩
  case case5 cs p c r1 h h1 ws r2 q hx hl ih =>
    have hc := cmd_is s (by omega) p [] (c :: r1) p (2 * s.size + 20) hr (by simp only [List.length_cons]; omega) (by simp only [List.length_cons]; omega) (by simp only [List.length_cons, List.length_nil]; omega)
    have hat := (M.cmdM_at hx).1
    rw [hx] at hc
    obtain ⟨hc, hd⟩ := hc
    have hf : tcl_parser_command.f (2 * s.size + 20) s p 0 0 = some ((p : Int), ws.map toW, s, (q : Int), 0, 0) := hc
    rw [if_neg h, if_neg (fun hh => h1 ((u35 _).mp hh)), hf, Option.bind_some, if_pos rfl]
    simp only [List.length_cons] at hat hl
    have := ih k hd (by omega) (by omega) (by rw [List.length_append, List.length_singleton]; omega)
    rw [List.map_append] at this
    exact this
  case case6 cs p c r1 h h1 ws r2 q hx hl => exact absurd (M.cmdM_lt (by simpa using h) hx).1 hl
/-- tcl.Parse comes to the model. -/
theorem tcl_parse_is (s : ByteArray) (hs : s.size ≤ 16777216) :
    match M.parseM [] (lst s) 0 with
    | .ok cs => tcl_Parse.f s = some (cs.map toC, 0, 0)
    | .error (a, er) => tcl_Parse.f s = some ([], (a : Int), er) ∧ er ≠ 0 := by
  unfold tcl_Parse.f
  rw [if_neg (by omega)]
  exact parse_is s hs [] (lst s) 0 (s.size + 1) rfl (by rw [lst_len]; omega) (by rw [lst_len]; omega) (by rw [lst_len, List.length_nil]; omega)
theorem flat_toC (cs : List M.Cmd) : (cs.map toC).flatMap (·.f1) = (cs.flatMap (·.words)).map toW := by
  induction cs with
  | nil => rfl
  | cons c cs ih => rw [List.map_cons, List.flatMap_cons, ih, List.flatMap_cons, List.map_append]; rfl
/-- The words of what was parsed are no more than 2^24. -/
theorem tcl_words {s : ByteArray} {l : List S38} {a e : Int} (h : tcl_Parse.f s = some (l, a, e)) : (l.flatMap (·.f1)).length ≤ 16777216 ∧ l.length ≤ 16777216 := by
  by_cases hs : s.size ≤ 16777216
  · have hp := tcl_parse_is s hs
    have hl := lst_len s
    cases hm : M.parseM [] (lst s) 0 with
    | error x =>
      obtain ⟨x, y⟩ := x
      rw [hm] at hp
      rw [hp.1] at h
      simp only [Option.some.injEq, Prod.mk.injEq] at h
      obtain ⟨rfl, -, -⟩ := h
      exact ⟨by simp, by simp⟩
    | ok cs =>
      rw [hm] at hp
      dsimp only at hp
      rw [hp] at h
      simp only [Option.some.injEq, Prod.mk.injEq] at h
      obtain ⟨rfl, -, -⟩ := h
      have := M.parseM_words hm
      simp only [List.flatMap_nil, List.length_nil, Nat.zero_add] at this
      rw [flat_toC, List.length_map, List.length_map]
      exact ⟨by omega, by omega⟩
  · unfold tcl_Parse.f at h
    rw [if_pos (by omega)] at h
    simp only [Option.some.injEq, Prod.mk.injEq] at h
    obtain ⟨rfl, -, -⟩ := h
    exact ⟨by simp, by simp⟩
end Go.Proofs.Ytofhcjdadhpjdaa.Q
