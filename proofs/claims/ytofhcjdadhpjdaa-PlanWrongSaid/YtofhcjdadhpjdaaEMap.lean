/- The map literals of plan. -/
import Derived.Test.YtofhcjdadhpjdaaEOp
import Derived.MapKept
namespace Go.Proofs.Ytofhcjdadhpjdaa.Q
set_option linter.unusedSimpArgs false
set_option linter.unusedVariables false
open Go.RowKit Go.Proofs.YtofhcjdadhpjdaaW.PrintWords Go.Proofs.YtofhcjdadhpjdaaW.PrintLast Go.Proofs.YtofhcjdadhpjdaaW.PrintMore

theorem run_put {P : Program} {mty kt et : TypeId} (hm : P.underlying mty = some (.map kt et)) (hk : P.underlying kt = some .string) (w : World) (es : Array MapEntry) (c : Nat) (s : ByteArray) (val : Value)
    (hf : Instr.findNow .string (.string s) es.toList 0 = some none) :
    (Instr.mapUpdate mty (.map (some w.heap.size)) (.string s) val).run P (w.alloc (.map es c)) = .ok () (w.alloc (.map (es.push { key := .string s, val := val, born := c }) (c + 1))) := by
  have hb : (w.alloc (.map es c)).heap[w.heap.size]? = some (.map es c) := heap_alloc_new w _
  have hc : (Instr.checkKey false 10000 kt (.string s)).run P (w.alloc (.map es c)) = .ok () (w.alloc (.map es c)) := MapKept.run_checkKey (k := .string s) hk (by simp [MapKept.IsKey]) _ 9999
  have he : ({ w.alloc (.map es c) with heap := (w.alloc (.map es c)).heap.setIfInBounds w.heap.size (.map (es.push { key := .string s, val := val, born := c }) (c + 1)) } : World) = w.alloc (.map (es.push { key := .string s, val := val, born := c }) (c + 1)) := by
    simp only [World.alloc, World.mk.injEq, and_self, and_true, true_and]
    apply Array.ext_getElem?
    intro j
    rw [Array.getElem?_setIfInBounds, Array.getElem?_push, Array.getElem?_push, Array.size_push]
    by_cases hj : j = w.heap.size
    · subst hj; simp
    · rw [if_neg (fun h => hj h.symm), if_neg hj, if_neg hj]
  simp [Instr.mapUpdate, run_underlying hm, MapKept.run_getObj_map hb, hc, MapKept.run_findKey hk hf, MapKept.run_setObj_map _ hb, Result.andThen]
  exact he
theorem run_look {P : Program} {mty kt et : TypeId} (hm : P.underlying mty = some (.map kt et)) (hk : P.underlying kt = some .string) {w : World} {r : Nat} {es : Array MapEntry} {c : Nat} (hb : w.heap[r]? = some (.map es c)) (s : ByteArray) {z : Value} (hz : (zeroValue et).run P w = .ok z w) {o : Option (Nat × Value)}
    (hf : Instr.findNow .string (.string s) es.toList 0 = some o) :
    (Instr.lookup mty (.map (some r)) (.string s) true).run P w = .ok (.tuple #[(o.map Prod.snd).getD z, .bool o.isSome]) w := by
  have hc : (Instr.checkKey es.isEmpty 10000 kt (.string s)).run P w = .ok () w := MapKept.run_checkKey (k := .string s) hk (by simp [MapKept.IsKey]) _ 9999
  cases o with
  | none => simp [Instr.lookup, run_underlying hm, MapKept.run_getObj_map hb, hc, MapKept.run_findKey hk hf, hz, Result.andThen]
  | some p => simp [Instr.lookup, run_underlying hm, MapKept.run_getObj_map hb, hc, MapKept.run_findKey hk hf, Result.andThen]

theorem find_cons (s k : ByteArray) (v : Value) (b i : Nat) (es : List MapEntry) : Instr.findNow .string (.string s) ({ key := .string k, val := v, born := b } :: es) i = if s = k then some (some (i, v)) else Instr.findNow .string (.string s) es (i + 1) := by
  by_cases h : s = k
  · have hb : (s == k) = true := (MapKept.bytes_beq s k).2 h
    rw [if_pos h]
    simp only [Instr.findNow, Instr.sameNow, hb]
  · have hb : (s == k) = false := Bool.eq_false_iff.2 (fun hx => h ((MapKept.bytes_beq s k).1 hx))
    rw [if_neg h]
    simp only [Instr.findNow, Instr.sameNow, hb]
theorem find_nil (s : ByteArray) (i : Nat) : Instr.findNow .string (.string s) [] i = some none := rfl
def flagEs : Array MapEntry := #[{ key := .string ⟨#[45, 101, 120, 97, 99, 116]⟩, val := .int .i64 0, born := 0 }, { key := .string ⟨#[45, 103, 108, 111, 98]⟩, val := .int .i64 1, born := 1 }, { key := .string ⟨#[116, 105, 109, 101, 111, 117, 116]⟩, val := .int .i64 2, born := 2 }, { key := .string ⟨#[101, 111, 102]⟩, val := .int .i64 3, born := 3 }]
def formEs : Array MapEntry := #[{ key := .string ⟨#[115, 101, 116]⟩, val := .agg #[.int .i64 0, .int .i64 2, .int .i64 2], born := 0 }, { key := .string ⟨#[115, 112, 97, 119, 110]⟩, val := .agg #[.int .i64 1, .int .i64 1, .int .i64 1073741824], born := 1 }, { key := .string ⟨#[115, 101, 110, 100]⟩, val := .agg #[.int .i64 2, .int .i64 1, .int .i64 1], born := 2 }, { key := .string ⟨#[101, 120, 112, 101, 99, 116]⟩, val := .agg #[.int .i64 3, .int .i64 1, .int .i64 1073741824], born := 3 }, { key := .string ⟨#[109, 97, 116, 99, 104, 95, 109, 97, 120]⟩, val := .agg #[.int .i64 4, .int .i64 1, .int .i64 1], born := 4 }, { key := .string ⟨#[115, 108, 101, 101, 112]⟩, val := .agg #[.int .i64 5, .int .i64 1, .int .i64 1], born := 5 }, { key := .string ⟨#[99, 108, 111, 115, 101]⟩, val := .agg #[.int .i64 6, .int .i64 0, .int .i64 0], born := 6 }, { key := .string ⟨#[101, 120, 105, 116]⟩, val := .agg #[.int .i64 7, .int .i64 0, .int .i64 1], born := 7 }, { key := .string ⟨#[101, 120, 112, 95, 99, 111, 110, 116, 105, 110, 117, 101]⟩, val := .agg #[.int .i64 8, .int .i64 0, .int .i64 0], born := 8 }]
theorem flag_find (s : ByteArray) : Instr.findNow .string (.string s) flagEs.toList 0 = some (if s = ⟨#[45, 101, 120, 97, 99, 116]⟩ then some (0, .int .i64 0) else if s = ⟨#[45, 103, 108, 111, 98]⟩ then some (1, .int .i64 1) else if s = ⟨#[116, 105, 109, 101, 111, 117, 116]⟩ then some (2, .int .i64 2) else if s = ⟨#[101, 111, 102]⟩ then some (3, .int .i64 3) else none) := by
  simp only [flagEs, find_cons, find_nil, apply_ite some]
theorem form_find (s : ByteArray) : Instr.findNow .string (.string s) formEs.toList 0 = some (if s = ⟨#[115, 101, 116]⟩ then some (0, .agg #[.int .i64 0, .int .i64 2, .int .i64 2]) else if s = ⟨#[115, 112, 97, 119, 110]⟩ then some (1, .agg #[.int .i64 1, .int .i64 1, .int .i64 1073741824]) else if s = ⟨#[115, 101, 110, 100]⟩ then some (2, .agg #[.int .i64 2, .int .i64 1, .int .i64 1]) else if s = ⟨#[101, 120, 112, 101, 99, 116]⟩ then some (3, .agg #[.int .i64 3, .int .i64 1, .int .i64 1073741824]) else if s = ⟨#[109, 97, 116, 99, 104, 95, 109, 97, 120]⟩ then some (4, .agg #[.int .i64 4, .int .i64 1, .int .i64 1]) else if s = ⟨#[115, 108, 101, 101, 112]⟩ then some (5, .agg #[.int .i64 5, .int .i64 1, .int .i64 1]) else if s = ⟨#[99, 108, 111, 115, 101]⟩ then some (6, .agg #[.int .i64 6, .int .i64 0, .int .i64 0]) else if s = ⟨#[101, 120, 105, 116]⟩ then some (7, .agg #[.int .i64 7, .int .i64 0, .int .i64 1]) else if s = ⟨#[101, 120, 112, 95, 99, 111, 110, 116, 105, 110, 117, 101]⟩ then some (8, .agg #[.int .i64 8, .int .i64 0, .int .i64 0]) else none) := by
  simp only [formEs, find_cons, find_nil, apply_ite some]

set_option maxHeartbeats 4000000 in
set_option maxRecDepth 1000000 in
theorem plan_flags.calls (w : World) :
    Calls Try.prog 117 #[] w fun en w' => en = .returned (.map (some w.heap.size)) ∧ w' = w.alloc (.map flagEs 4) := by
  have hmm := @run_makeMap Try.prog
  have h0 := run_put (P := Try.prog) (mty := 204) Try.underlying204 Try.underlying9 w #[] 0 ⟨#[45, 101, 120, 97, 99, 116]⟩ (.int .i64 0) (by kernel_rfl)
  have h1 := run_put (P := Try.prog) (mty := 204) Try.underlying204 Try.underlying9 w #[{ key := .string ⟨#[45, 101, 120, 97, 99, 116]⟩, val := .int .i64 0, born := 0 }] 1 ⟨#[45, 103, 108, 111, 98]⟩ (.int .i64 1) (by kernel_rfl)
  have h2 := run_put (P := Try.prog) (mty := 204) Try.underlying204 Try.underlying9 w #[{ key := .string ⟨#[45, 101, 120, 97, 99, 116]⟩, val := .int .i64 0, born := 0 }, { key := .string ⟨#[45, 103, 108, 111, 98]⟩, val := .int .i64 1, born := 1 }] 2 ⟨#[116, 105, 109, 101, 111, 117, 116]⟩ (.int .i64 2) (by kernel_rfl)
  have h3 := run_put (P := Try.prog) (mty := 204) Try.underlying204 Try.underlying9 w #[{ key := .string ⟨#[45, 101, 120, 97, 99, 116]⟩, val := .int .i64 0, born := 0 }, { key := .string ⟨#[45, 103, 108, 111, 98]⟩, val := .int .i64 1, born := 1 }, { key := .string ⟨#[116, 105, 109, 101, 111, 117, 116]⟩, val := .int .i64 2, born := 2 }] 3 ⟨#[101, 111, 102]⟩ (.int .i64 3) (by kernel_rfl)
  go_enter Try.func117, Try.ntmps117
  go_wp2
  go_ret
  exact ⟨rfl, rfl⟩
set_option maxHeartbeats 4000000 in
set_option maxRecDepth 1000000 in
theorem plan_forms.calls (w : World) :
    Calls Try.prog 88 #[] w fun en w' => en = .returned (.map (some w.heap.size)) ∧ w' = w.alloc (.map formEs 9) := by
  have hmm := @run_makeMap Try.prog
  have h0 := run_put (P := Try.prog) (mty := 163) Try.underlying163 Try.underlying9 w #[] 0 ⟨#[115, 101, 116]⟩ (.agg #[.int .i64 0, .int .i64 2, .int .i64 2]) (by kernel_rfl)
  have h1 := run_put (P := Try.prog) (mty := 163) Try.underlying163 Try.underlying9 w #[{ key := .string ⟨#[115, 101, 116]⟩, val := .agg #[.int .i64 0, .int .i64 2, .int .i64 2], born := 0 }] 1 ⟨#[115, 112, 97, 119, 110]⟩ (.agg #[.int .i64 1, .int .i64 1, .int .i64 1073741824]) (by kernel_rfl)
  have h2 := run_put (P := Try.prog) (mty := 163) Try.underlying163 Try.underlying9 w #[{ key := .string ⟨#[115, 101, 116]⟩, val := .agg #[.int .i64 0, .int .i64 2, .int .i64 2], born := 0 }, { key := .string ⟨#[115, 112, 97, 119, 110]⟩, val := .agg #[.int .i64 1, .int .i64 1, .int .i64 1073741824], born := 1 }] 2 ⟨#[115, 101, 110, 100]⟩ (.agg #[.int .i64 2, .int .i64 1, .int .i64 1]) (by kernel_rfl)
  have h3 := run_put (P := Try.prog) (mty := 163) Try.underlying163 Try.underlying9 w #[{ key := .string ⟨#[115, 101, 116]⟩, val := .agg #[.int .i64 0, .int .i64 2, .int .i64 2], born := 0 }, { key := .string ⟨#[115, 112, 97, 119, 110]⟩, val := .agg #[.int .i64 1, .int .i64 1, .int .i64 1073741824], born := 1 }, { key := .string ⟨#[115, 101, 110, 100]⟩, val := .agg #[.int .i64 2, .int .i64 1, .int .i64 1], born := 2 }] 3 ⟨#[101, 120, 112, 101, 99, 116]⟩ (.agg #[.int .i64 3, .int .i64 1, .int .i64 1073741824]) (by kernel_rfl)
  have h4 := run_put (P := Try.prog) (mty := 163) Try.underlying163 Try.underlying9 w #[{ key := .string ⟨#[115, 101, 116]⟩, val := .agg #[.int .i64 0, .int .i64 2, .int .i64 2], born := 0 }, { key := .string ⟨#[115, 112, 97, 119, 110]⟩, val := .agg #[.int .i64 1, .int .i64 1, .int .i64 1073741824], born := 1 }, { key := .string ⟨#[115, 101, 110, 100]⟩, val := .agg #[.int .i64 2, .int .i64 1, .int .i64 1], born := 2 }, { key := .string ⟨#[101, 120, 112, 101, 99, 116]⟩, val := .agg #[.int .i64 3, .int .i64 1, .int .i64 1073741824], born := 3 }] 4 ⟨#[109, 97, 116, 99, 104, 95, 109, 97, 120]⟩ (.agg #[.int .i64 4, .int .i64 1, .int .i64 1]) (by kernel_rfl)
  have h5 := run_put (P := Try.prog) (mty := 163) Try.underlying163 Try.underlying9 w #[{ key := .string ⟨#[115, 101, 116]⟩, val := .agg #[.int .i64 0, .int .i64 2, .int .i64 2], born := 0 }, { key := .string ⟨#[115, 112, 97, 119, 110]⟩, val := .agg #[.int .i64 1, .int .i64 1, .int .i64 1073741824], born := 1 }, { key := .string ⟨#[115, 101, 110, 100]⟩, val := .agg #[.int .i64 2, .int .i64 1, .int .i64 1], born := 2 }, { key := .string ⟨#[101, 120, 112, 101, 99, 116]⟩, val := .agg #[.int .i64 3, .int .i64 1, .int .i64 1073741824], born := 3 }, { key := .string ⟨#[109, 97, 116, 99, 104, 95, 109, 97, 120]⟩, val := .agg #[.int .i64 4, .int .i64 1, .int .i64 1], born := 4 }] 5 ⟨#[115, 108, 101, 101, 112]⟩ (.agg #[.int .i64 5, .int .i64 1, .int .i64 1]) (by kernel_rfl)
  have h6 := run_put (P := Try.prog) (mty := 163) Try.underlying163 Try.underlying9 w #[{ key := .string ⟨#[115, 101, 116]⟩, val := .agg #[.int .i64 0, .int .i64 2, .int .i64 2], born := 0 }, { key := .string ⟨#[115, 112, 97, 119, 110]⟩, val := .agg #[.int .i64 1, .int .i64 1, .int .i64 1073741824], born := 1 }, { key := .string ⟨#[115, 101, 110, 100]⟩, val := .agg #[.int .i64 2, .int .i64 1, .int .i64 1], born := 2 }, { key := .string ⟨#[101, 120, 112, 101, 99, 116]⟩, val := .agg #[.int .i64 3, .int .i64 1, .int .i64 1073741824], born := 3 }, { key := .string ⟨#[109, 97, 116, 99, 104, 95, 109, 97, 120]⟩, val := .agg #[.int .i64 4, .int .i64 1, .int .i64 1], born := 4 }, { key := .string ⟨#[115, 108, 101, 101, 112]⟩, val := .agg #[.int .i64 5, .int .i64 1, .int .i64 1], born := 5 }] 6 ⟨#[99, 108, 111, 115, 101]⟩ (.agg #[.int .i64 6, .int .i64 0, .int .i64 0]) (by kernel_rfl)
  have h7 := run_put (P := Try.prog) (mty := 163) Try.underlying163 Try.underlying9 w #[{ key := .string ⟨#[115, 101, 116]⟩, val := .agg #[.int .i64 0, .int .i64 2, .int .i64 2], born := 0 }, { key := .string ⟨#[115, 112, 97, 119, 110]⟩, val := .agg #[.int .i64 1, .int .i64 1, .int .i64 1073741824], born := 1 }, { key := .string ⟨#[115, 101, 110, 100]⟩, val := .agg #[.int .i64 2, .int .i64 1, .int .i64 1], born := 2 }, { key := .string ⟨#[101, 120, 112, 101, 99, 116]⟩, val := .agg #[.int .i64 3, .int .i64 1, .int .i64 1073741824], born := 3 }, { key := .string ⟨#[109, 97, 116, 99, 104, 95, 109, 97, 120]⟩, val := .agg #[.int .i64 4, .int .i64 1, .int .i64 1], born := 4 }, { key := .string ⟨#[115, 108, 101, 101, 112]⟩, val := .agg #[.int .i64 5, .int .i64 1, .int .i64 1], born := 5 }, { key := .string ⟨#[99, 108, 111, 115, 101]⟩, val := .agg #[.int .i64 6, .int .i64 0, .int .i64 0], born := 6 }] 7 ⟨#[101, 120, 105, 116]⟩ (.agg #[.int .i64 7, .int .i64 0, .int .i64 1]) (by kernel_rfl)
  have h8 := run_put (P := Try.prog) (mty := 163) Try.underlying163 Try.underlying9 w #[{ key := .string ⟨#[115, 101, 116]⟩, val := .agg #[.int .i64 0, .int .i64 2, .int .i64 2], born := 0 }, { key := .string ⟨#[115, 112, 97, 119, 110]⟩, val := .agg #[.int .i64 1, .int .i64 1, .int .i64 1073741824], born := 1 }, { key := .string ⟨#[115, 101, 110, 100]⟩, val := .agg #[.int .i64 2, .int .i64 1, .int .i64 1], born := 2 }, { key := .string ⟨#[101, 120, 112, 101, 99, 116]⟩, val := .agg #[.int .i64 3, .int .i64 1, .int .i64 1073741824], born := 3 }, { key := .string ⟨#[109, 97, 116, 99, 104, 95, 109, 97, 120]⟩, val := .agg #[.int .i64 4, .int .i64 1, .int .i64 1], born := 4 }, { key := .string ⟨#[115, 108, 101, 101, 112]⟩, val := .agg #[.int .i64 5, .int .i64 1, .int .i64 1], born := 5 }, { key := .string ⟨#[99, 108, 111, 115, 101]⟩, val := .agg #[.int .i64 6, .int .i64 0, .int .i64 0], born := 6 }, { key := .string ⟨#[101, 120, 105, 116]⟩, val := .agg #[.int .i64 7, .int .i64 0, .int .i64 1], born := 7 }] 8 ⟨#[101, 120, 112, 95, 99, 111, 110, 116, 105, 110, 117, 101]⟩ (.agg #[.int .i64 8, .int .i64 0, .int .i64 0]) (by kernel_rfl)
  go_enter Try.func88, Try.ntmps88
  go_wp2
  go_ret
  exact ⟨rfl, rfl⟩
end Go.Proofs.Ytofhcjdadhpjdaa.Q
