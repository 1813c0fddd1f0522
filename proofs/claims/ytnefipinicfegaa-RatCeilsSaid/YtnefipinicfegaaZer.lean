/-
  append(out, make([]T, n)...): noughts behind what is there. Plain: no program is named here.
-/
import Derived.Test.YtnefipinicfegaaBase
namespace Go.Proofs.Ytnefipinicfegaa
open Go.RowKit
set_option linter.unusedVariables false
set_option linter.unusedSimpArgs false

theorem zeroCells_one (z : Value) (n : Nat) : Builtin.zeroCells #[z] n = Array.replicate n z := by
  apply Array.ext'
  simp [Builtin.zeroCells]
  apply List.ext_getElem
  · simp
  · intro i h1 h2; simp [Nat.mod_one]

section
variable {P : Program} (w : World) (t ti ty e : TypeId) (i : TypeInfo) (z : Value) (ki : IntKind) (ht : P.underlying t = some (.slice e)) (hti : P.underlying ti = some (.int ki)) (hi : P.info? e = some i) (hz : i.zero = some z) (hzc : z.cells = #[z]) (hs : i.size = 1)
  (g sLen sCap : Nat) (cur : Array Value) (hg : w.heap[g]? = some (.cells cur e (0, 0))) (hcs : cur.size = sCap) (hle : sLen ≤ sCap)
  (n : Nat) (hn : n ≤ 9223372036854775807) (hb : n * i.bytes ≤ 281474976710656)
include ht hti hi hz hzc hs hg hcs hle hn hb

theorem run_append_zeros_room (hone : z.oneCell' = true) (hroom : sLen + n ≤ sCap) :
    (Builtin.append_ #[t, ti] ty #[.slice (some ⟨g, 0, none⟩) sLen sCap, .int .i64 (n : Int)]).run P w =
      .ok (.slice (some ⟨g, 0, none⟩) (sLen + n) sCap) (w.setRow g (cur.toList.take sLen ++ List.replicate n z ++ cur.toList.drop (sLen + n)).toArray) := by
  have wl : IntKind.i64.wrap (n : Int) = (n : Int) := by rw [IntKind.wrap_i64]; omega
  have n1 : ¬ ((n : Int) < 0) := by omega
  have n2 : ¬ (281474976710656 < (n : Int) * (i.bytes : Int)) := by rw [← Int.natCast_mul]; omega
  have hst := run_storeCells_at P g sLen e (List.replicate n z) 0 cur w hg (by simp; omega) (by intro v hv; rw [(List.mem_replicate.1 hv).2]; exact hone)
  simp only [Nat.add_zero, List.length_replicate] at hst
  by_cases h0 : n = 0
  · subst h0
    have e1 : (cur.toList.take sLen ++ List.replicate 0 z ++ cur.toList.drop (sLen + 0)).toArray = cur := by simp
    rw [e1]
    have := setRow_self w g cur e (0, 0) hg
    simp only [List.replicate_zero] at hst
    have w0 : IntKind.i64.wrap 0 = 0 := by decide
    simp [w0, Builtin.append_, run_underlying ht, run_underlying hti, sizeOf, typeInfo, hi, asInt, asIntOf, hs, hle, Addr.add_lit, this, storeCells]
  · simp [Builtin.append_, run_underlying ht, run_underlying hti, sizeOf, typeInfo, zeroValue, hi, hz, asInt, asIntOf, hs, wl, n1, n2, hroom, h0, Addr.add_lit, hzc, zeroCells_one, hst]

theorem run_append_zeros_grow (hroom : ¬ sLen + n ≤ sCap) (h63 : sLen + n ≤ 9223372036854775807) (hfit : Builtin.nextslicecap (sLen + n) sCap * i.bytes ≤ 281474976710656) :
    (Builtin.append_ #[t, ti] ty #[.slice (some ⟨g, 0, none⟩) sLen sCap, .int .i64 (n : Int)]).run P w =
      .ok (.slice (some ⟨w.heap.size, 0, none⟩) (sLen + n) (grownCap w (sLen + n) sCap e))
        (w.drew.alloc (.cells ((cur.toList.take sLen).toArray ++ Array.replicate n z ++ Array.replicate (grownCap w (sLen + n) sCap e - (sLen + n)) z) e)) := by
  have wl : IntKind.i64.wrap (n : Int) = (n : Int) := by rw [IntKind.wrap_i64]; omega
  have n1 : ¬ ((n : Int) < 0) := by omega
  have n2 : ¬ (281474976710656 < (n : Int) * (i.bytes : Int)) := by rw [← Int.natCast_mul]; omega
  have h0 : n ≠ 0 := by omega
  have h63' : ¬ (9223372036854775807 < ((sLen : Int) + (n : Int))) := by omega
  have h48' : ¬ (281474976710656 < Builtin.nextslicecap (sLen + n) sCap * i.bytes) := by omega
  have hcells : ∀ j v, (cur.toList.take sLen)[j]? = some v → w.drew.cell? ((⟨g, 0, none⟩ : Addr).add j) = some v := by
    intro j v hj
    have hadd : (⟨g, 0, none⟩ : Addr).add j = ⟨g, j, none⟩ := by unfold Addr.add; split <;> simp_all
    rw [hadd, World.cell?_drew, cell_of_row w g j cur e (0, 0) hg]
    rw [List.getElem?_take] at hj
    split at hj
    · simpa using hj
    · cases hj
  have hfo := run_firstCells_some (P := P) w.drew i.size sLen ⟨g, 0, none⟩ sLen sCap (cur.toList.take sLen) (by rw [hs, List.length_take]; simp; omega) hcells
  rw [hs] at hfo
  simp [Builtin.append_, run_underlying ht, run_underlying hti, sizeOf, typeInfo, zeroValue, hi, hz, asInt, asIntOf, hs, wl, n1, n2, hroom, h0, h63', h48', Question.forced, hfo, newRow, grownCap, hzc, zeroCells_one]
end

theorem wpList_append_zeros {P : Program} (w : World) {ops : Array Oper} {rest : List Oper} {o : Oper} {a : Act} {Q : Exit → Act → World → Prop}
    (hgd : o.guard = none) (s x : Operand) (t ti : TypeId) (ho : o.op = .call { callee := .builtin .append, args := #[s, x], argTypes := #[t, ti] })
    (e : TypeId) (k ki : IntKind) (bytes : Nat) (h1 : P.underlying t = some (.slice e)) (hti : P.underlying ti = some (.int ki)) (h2 : (P.info? e).map (fun i => (i.zero, i.size, i.bytes)) = some (some (.int k 0), 1, bytes))
    (B0 : Nat) (v : Value) (xs : List Nat) (n : Nat) (hs : a.eval s = v) (hx : a.eval x = .int .i64 (n : Int)) (hpos : 0 < xs.length)
    (hfr : FrL e k B0 w v xs) (hb : (xs.length + n) * bytes ≤ 140737488355328) (hl : xs.length + n ≤ 9223372036854775807) (hB : B0 ≤ w.heap.size)
    (hK : ∀ v' w', FrL e k B0 w' v' (xs ++ List.replicate n 0) → w.grownBy w' v.ownBlock → wpList P ops Q rest (a.put o.dst v') w') :
    wpList P ops Q (o :: rest) a w := by
  obtain ⟨i, hi, hz0, hz1, hz2⟩ := info_parts h2
  obtain ⟨ad, cap, rfl, hlc, hcap, hown⟩ := hfr
  rcases hown with ⟨hn, _⟩ | ⟨g, cur, rfl, hg, hh, hsz, htk⟩
  · rw [vals_nil.1 hn] at hpos; simp at hpos
  have hbn : n * i.bytes ≤ 281474976710656 := by
    rw [hz2]
    have := Nat.add_mul xs.length n bytes
    omega
  rw [vals_length] at htk
  refine wpList_plain hgd fun K hK' => ?_
  by_cases hroom : xs.length + n ≤ cap
  · have hrun := run_append_zeros_room w t ti o.type e i (.int k 0) ki h1 hti hi hz0 rfl hz1 g xs.length cap cur hh hsz hlc n (by omega) hbn rfl hroom
    unfold Oper.wp
    simp only [execOp, ho, resolve, invoke, builtin, Sem.run_bind, Sem.run_pure, Result.andThen_ok, List.map_toArray, List.map_cons, List.map_nil, hs, hx, hrun]
    refine hK' _ _ (hK _ _ ⟨_, cap, by rw [List.length_append, List.length_replicate], by rw [List.length_append, List.length_replicate]; exact hroom, hcap, .inr ⟨g, _, rfl, hg, setRow_heap w g cur _ e _ hh, ?_, ?_⟩⟩ ⟨rfl, rfl, rfl, by simp, fun k' _ hk => setRow_other w g k' _ (fun e => hk (by simp [Value.ownBlock, e]))⟩)
    · simp only [List.size_toArray, List.length_append, List.length_take, List.length_replicate, List.length_drop, Array.length_toList]
      omega
    · rw [htk, vals_length, vals_append]
      have e1 : vals k (List.replicate n 0) = List.replicate n (.int k 0) := by simp [vals]
      rw [e1]
      have : (xs ++ List.replicate n 0).length = (vals k xs ++ List.replicate n (Value.int k 0)).length := by simp [vals_length]
      rw [this]
      exact List.take_left
  · have hrun := run_append_zeros_grow w t ti o.type e i (.int k 0) ki h1 hti hi hz0 rfl hz1 g xs.length cap cur hh hsz hlc n (by omega) hbn hroom hl (growslice_fits (by omega) (by rw [hz2]; exact hb))
    have hge := grownCap_ge w (xs.length + n) cap e
    have hcm := grownCap_le_maxLen w (xs.length + n) cap e (by unfold maxLen; omega)
    unfold Oper.wp
    simp only [execOp, ho, resolve, invoke, builtin, Sem.run_bind, Sem.run_pure, Result.andThen_ok, List.map_toArray, List.map_cons, List.map_nil, hs, hx, hrun]
    refine hK' _ _ (hK _ _ ⟨_, _, by rw [List.length_append, List.length_replicate], by rw [List.length_append, List.length_replicate]; exact hge, by simpa [maxLen] using hcm, .inr ⟨w.heap.size, _, rfl, hB, heap_alloc_new w.drew _, ?_, ?_⟩⟩ ⟨rfl, rfl, rfl, by simp, fun k' hk _ => Below.heap_alloc w.drew _ k' hk⟩)
    · simp only [Array.size_append, List.size_toArray, Array.size_replicate, List.length_take, Array.length_toList]
      omega
    · rw [htk, vals_length, vals_append]
      have e1 : vals k (List.replicate n 0) = List.replicate n (.int k 0) := by simp [vals]
      rw [e1]
      have : (xs ++ List.replicate n 0).length = (vals k xs ++ List.replicate n (Value.int k 0)).length := by simp [vals_length]
      rw [this]
      simp only [Array.toList_append, Array.toList_replicate]
      exact List.take_left
end Go.Proofs.Ytnefipinicfegaa
