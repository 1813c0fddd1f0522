/-
  Lists of fractions: a literal, what it reads as, and that two lists are one.
-/
import Derived.Test.YtnefipinicfegaaSpoil
import Derived.Great.BuildSlice
namespace Go.Proofs.Ytnefipinicfegaa
open Go.RowKit
set_option linter.unusedVariables false
set_option linter.unusedSimpArgs false

section
variable {P : Program} {o : Oper} {a : Act} {f : Nat → Value} {w : World} {post : Value → World → Prop}
set_option maxRecDepth 100000 in
set_option maxHeartbeats 1000000 in
theorem addr_add (g off j : Nat) : (⟨g, off, none⟩ : Addr).add j = ⟨g, off + j, none⟩ := by unfold Addr.add; split <;> simp_all
set_option maxRecDepth 100000 in
set_option maxHeartbeats 1000000 in
/-- A struct read out of a list. -/
theorem run_loadVar_at (w : World) (g off : Nat) (ty : TypeId) (cs : Array Value) (d : TypeDesc) (hg : ∀ j v, cs[j]? = some v → w.cell? ⟨g, off + j, none⟩ = some v)
    (hu : P.underlying ty = some d) (hd : (match d with | .struct _ | .array _ _ => true | _ => false) = true) (hi : (P.info? ty).map (·.size) = some cs.size) :
    (loadVar ty ⟨g, off, none⟩).run P w = .ok (.agg cs) w := by
  have hl : (loadCells ⟨g, off, none⟩ cs.toList.length).run P w = .ok cs.toList.toArray w :=
    run_loadCells_list (P := P) w ⟨g, off, none⟩ cs.toList (fun j v hv => by
      rw [addr_add]
      exact hg j v (by simpa using hv))
  cases hq : P.info? ty with
  | none => simp [hq] at hi
  | some i =>
    have hs : i.size = cs.size := by simpa [hq] using hi
    have hagg : (isAgg ty).run P w = .ok true w := by
      unfold isAgg
      rw [Sem.run_bind, run_underlying hu w]
      cases d <;> simp_all
    simp only [Array.length_toList, Array.toArray_toList] at hl
    simp [loadVar, Sem.run_bind, hagg, sizeOf, typeInfo, hq, hs, hl]
set_option maxRecDepth 100000 in
set_option maxHeartbeats 1000000 in
theorem og_loadAt (ty : TypeId) (x : Operand) (g off : Nat) (cs : Array Value) (d : TypeDesc) (hgd : o.guard = none) (ho : o.op = .load ty x) (hx : a.eval x = .pointer (some ⟨g, off, none⟩)) (hg : ∀ j v, cs[j]? = some v → w.cell? ⟨g, off + j, none⟩ = some v)
    (hu : P.underlying ty = some d) (hd : (match d with | .struct _ | .array _ _ => true | _ => false) = true) (hi : (P.info? ty).map (·.size) = some cs.size) (hp : post (.agg cs) w) : OpGoal P o a f w Ext post := by
  unfold OpGoal
  rw [hgd]
  unfold Oper.wp execOp
  simp only [ho, hx, Instr.loadAt, Instr.sureAddr, Sem.run_bind, Sem.run_pure, Result.andThen_ok, run_loadVar_at w g off ty cs d hg hu hd hi]
  exact ⟨_, rfl, Ext.refl w, hp⟩
set_option maxRecDepth 100000 in
set_option maxHeartbeats 1000000 in
theorem wpList_loadAt {ops : Array Oper} {rest : List Oper} {Q : Exit → Act → World → Prop} (hgd : o.guard = none) (ty : TypeId) (x : Operand) (ho : o.op = .load ty x) (g off : Nat) (hx : a.eval x = .pointer (some ⟨g, off, none⟩)) (cs : Array Value) (d : TypeDesc) (hg : ∀ j v, cs[j]? = some v → w.cell? ⟨g, off + j, none⟩ = some v)
    (hu : P.underlying ty = some d) (hd : (match d with | .struct _ | .array _ _ => true | _ => false) = true) (hi : (P.info? ty).map (·.size) = some cs.size) (h : wpList P ops Q rest (a.put o.dst (.agg cs)) w) : wpList P ops Q (o :: rest) a w := by
  refine wpList_plain hgd fun K hK => ?_
  unfold Oper.wp execOp
  simp only [ho, hx, Instr.loadAt, Instr.sureAddr, Sem.run_bind, Sem.run_pure, Result.andThen_ok, run_loadVar_at w g off ty cs d hg hu hd hi]
  exact hK _ _ h
set_option maxRecDepth 100000 in
set_option maxHeartbeats 1000000 in
/-- A literal of structs. -/
theorem og_buildSlice (t e : TypeId) (n s : Nat) (parts : Array (Nat × Operand)) (vs : List Value) (hgd : o.guard = none) (ho : o.op = .buildSlice t n parts) (hu : P.underlying t = some (.slice e)) (hi : (P.info? e).map (·.size) = some s) (hz : ((P.info? e).bind (·.zero)).isSome = true)
    (hp : (parts.toList.map fun x => (x.1, a.eval x.2)) = (vs.zipIdx 0).map fun x => (x.2, x.1)) (hn : n = vs.length) (h0 : 0 < n) (hs0 : 0 < s) (hsm : n * s ≤ 2 ^ 24) (hv : ∀ v ∈ vs, v.cells.size = s)
    (hq : ∀ w', Ext w w' → Bx e w' w.heap.size (vs.flatMap fun v => v.cells.toList).toArray → post (.slice (some ⟨w.heap.size, 0, none⟩) n n) w') : OpGoal P o a f w Ext post := by
  unfold OpGoal
  rw [hgd]
  cases hie : P.info? e with
  | none => simp [hie] at hi
  | some ie =>
    simp only [hie, Option.map_some, Option.some.injEq, Option.bind_some] at hi hz
    obtain ⟨z, hzz⟩ := Option.isSome_iff_exists.1 hz
    have hpos : 0 < n * s := Nat.mul_pos h0 hs0
    have hb : Bx e (w.alloc (.cells (vs.flatMap fun (v : Value) => v.cells.toList).toArray e)) w.heap.size (vs.flatMap fun (v : Value) => v.cells.toList).toArray := heap_alloc_new w _
    have hq' := hq _ ((Ext.refl w).alloc _) hb
    refine wp_buildSlice t e n parts ho (vs.flatMap fun v => v.cells.toList).toArray ie z hu hie hzz (by rw [hi]; omega) (by rw [hi]; omega) ?_ ⟨_, rfl, (Ext.refl w).alloc _, hq'⟩
    rw [Array.toList_map, hi]
    refine (congrArg _ hp).trans ?_
    exact Great.fill_whole hs0 vs _ hv (by simp [hn])
end
/-- A list of fractions, in memory of the call's own. -/
def LitQ (B0 : Nat) (w : World) (u : Value) (qs : List Rat) : Prop := ∃ g cs, B0 ≤ g ∧ u = .slice (some ⟨g, 0, none⟩) qs.length qs.length ∧ Bx 28 w g cs ∧ ∀ (i : Nat) (q : Rat), qs[i]? = some q → ∃ b s t, cs[i * 3]? = some (.bool b) ∧ cs[i * 3 + 1]? = some s ∧ cs[i * 3 + 2]? = some t ∧ FrQ B0 w (.agg #[.bool b, s, t]) q
set_option maxRecDepth 100000 in
set_option maxHeartbeats 1000000 in
theorem LitQ.ext {B0 : Nat} {w w' : World} {u : Value} {qs : List Rat} (h : LitQ B0 w u qs) (he : Ext w w') : LitQ B0 w' u qs := by
  obtain ⟨g, cs, h1, h2, h3, h4⟩ := h
  refine ⟨g, cs, h1, h2, h3.ext he, fun i q hi => ?_⟩
  obtain ⟨b, s, t, k1, k2, k3, k4⟩ := h4 i q hi
  exact ⟨b, s, t, k1, k2, k3, k4.ext he⟩
set_option maxRecDepth 100000 in
set_option maxHeartbeats 1000000 in
theorem LitQ.chg {B0 k : Nat} {w w' : World} {u : Value} {qs : List Rat} (h : LitQ B0 w u qs) (he : Chg k w w') (hk : k < B0) : LitQ B0 w' u qs := by
  obtain ⟨g, cs, h1, h2, h3, h4⟩ := h
  refine ⟨g, cs, h1, h2, he.blk h3 (by omega), fun i q hi => ?_⟩
  obtain ⟨b, s, t, k1, k2, k3, k4⟩ := h4 i q hi
  exact ⟨b, s, t, k1, k2, k3, k4.chg he hk⟩
def PP.litQ {S : Nat} (qs : List Rat) : PP S := ⟨false, fun u w => LitQ S w u qs, fun _ _ _ h hp => hp.ext h, fun _ _ hg _ _ _ h hp => hp.chg h hg⟩
set_option maxRecDepth 100000 in
set_option maxHeartbeats 1000000 in
theorem FrQ.cells3 {B0 : Nat} {w : World} {v : Value} {q : Rat} (h : FrQ B0 w v q) : ∃ b s t, v = .agg #[.bool b, s, t] := by
  obtain ⟨s, t, h1, _⟩ := h
  exact ⟨_, s, t, h1⟩
set_option maxRecDepth 100000 in
set_option maxHeartbeats 1000000 in
theorem litQ_of {B0 g : Nat} {w : World} {vs : List Value} {qs : List Rat} (hg : B0 ≤ g) (hb : Bx 28 w g (vs.flatMap fun v => v.cells.toList).toArray) (hl : vs.length = qs.length) (hF : ∀ (i : Nat) (v : Value) (q : Rat), vs[i]? = some v → qs[i]? = some q → FrQ B0 w v q) :
    LitQ B0 w (.slice (some ⟨g, 0, none⟩) qs.length qs.length) qs := by
  refine ⟨g, _, hg, rfl, hb, fun i q hi => ?_⟩
  have hiq : i < qs.length := (List.getElem?_eq_some_iff.1 hi).1
  have hiv : vs[i]? = some vs[i] := List.getElem?_eq_getElem (by omega)
  have h := hF i _ q hiv hi
  obtain ⟨b, s, t, hv⟩ := h.cells3
  have hsz : ∀ v ∈ vs, v.cells.size = 3 := by
    intro v hv
    obtain ⟨j, hj, rfl⟩ := List.getElem_of_mem hv
    have hF' := hF j _ qs[j] (List.getElem?_eq_getElem hj) (List.getElem?_eq_getElem (by omega))
    obtain ⟨b, s, t, hv⟩ := hF'.cells3
    rw [hv]
    rfl
  have key : ∀ j, j < 3 → (vs.flatMap fun v => v.cells.toList).toArray[i * 3 + j]? = (#[.bool b, s, t] : Array Value)[j]? := by
    intro j hj
    rw [List.getElem?_toArray, Great.flat_get (by omega) vs hsz, show (i * 3 + j) / 3 = i by omega, show (i * 3 + j) % 3 = j by omega, hiv, hv]
    rfl
  have k0 := key 0 (by omega)
  have k1 := key 1 (by omega)
  have k2 := key 2 (by omega)
  rw [hv] at h
  exact ⟨b, s, t, k0, k1, k2, h⟩
set_option maxRecDepth 100000 in
set_option maxHeartbeats 1000000 in
/-- What one fraction of the list is. -/
theorem LitQ.at {B0 : Nat} {w : World} {u : Value} {qs : List Rat} (h : LitQ B0 w u qs) : ∃ g, B0 ≤ g ∧ u = .slice (some ⟨g, 0, none⟩) qs.length qs.length ∧ ∀ wz, Ext w wz → ∀ (i : Nat) (q : Rat), qs[i]? = some q → ∃ b s t, (∀ j v, (#[.bool b, s, t] : Array Value)[j]? = some v → wz.cell? ⟨g, i * 3 + j, none⟩ = some v) ∧ FrQ B0 wz (.agg #[.bool b, s, t]) q := by
  obtain ⟨g, cs, h1, h2, h3, h4⟩ := h
  refine ⟨g, h1, h2, fun wz hz i q hi => ?_⟩
  obtain ⟨b, s, t, k0, k1, k2, k4⟩ := h4 i q hi
  refine ⟨b, s, t, fun j v hj => ?_, k4.ext hz⟩
  rw [cell_of_row wz g _ cs _ _ (h3.ext hz)]
  rcases j with _ | _ | _ | j
  · rw [← hj]; exact k0
  · rw [← hj]; exact k1
  · rw [← hj]; exact k2
  · simp at hj
set_option maxRecDepth 100000 in
set_option maxHeartbeats 1000000 in
theorem FrQ.size3 {B0 : Nat} {w : World} {v : Value} {q : Rat} (h : FrQ B0 w v q) : v.cells.size = 3 := by
  obtain ⟨b, s, t, rfl⟩ := h.cells3
  rfl
set_option maxRecDepth 100000 in
set_option maxHeartbeats 1000000 in
theorem frqs5 {B0 : Nat} {w : World} {v0 v1 v2 v3 v4 : Value} {q0 q1 q2 q3 q4 : Rat} (h0 : FrQ B0 w v0 q0) (h1 : FrQ B0 w v1 q1) (h2 : FrQ B0 w v2 q2) (h3 : FrQ B0 w v3 q3) (h4 : FrQ B0 w v4 q4) :
    (∀ v ∈ [v0, v1, v2, v3, v4], v.cells.size = 3) ∧ ∀ w', Ext w w' → ∀ (i : Nat) (v : Value) (q : Rat), [v0, v1, v2, v3, v4][i]? = some v → [q0, q1, q2, q3, q4][i]? = some q → FrQ B0 w' v q := by
  refine ⟨fun v hv => ?_, fun w' he i v q hv hq => ?_⟩
  · simp only [List.mem_cons, List.not_mem_nil, or_false] at hv
    rcases hv with rfl | rfl | rfl | rfl | rfl
    · exact h0.size3
    · exact h1.size3
    · exact h2.size3
    · exact h3.size3
    · exact h4.size3
  · rcases i with _ | _ | _ | _ | _ | i <;> simp at hv hq
    · subst hv hq; exact h0.ext he
    · subst hv hq; exact h1.ext he
    · subst hv hq; exact h2.ext he
    · subst hv hq; exact h3.ext he
    · subst hv hq; exact h4.ext he
set_option maxRecDepth 100000 in
set_option maxHeartbeats 1000000 in
theorem LitQ.opn {B0 : Nat} {w : World} {u : Value} {qs : List Rat} (n : Nat) (hn : qs.length = n) (h : LitQ B0 w u qs) : ∃ g, u = .slice (some ⟨g, 0, none⟩) n n ∧ LitQ B0 w (.slice (some ⟨g, 0, none⟩) n n) qs := by
  subst hn
  have h' := h
  obtain ⟨g, cs, h1, rfl, -⟩ := h
  exact ⟨g, rfl, h'⟩
set_option maxRecDepth 100000 in
set_option maxHeartbeats 1000000 in
theorem ShpQ.opn {B0 : Nat} {w : World} {b : Bool} {s t : Value} (h : ShpQ B0 w (.agg #[.bool b, s, t])) : ∃ ad l cap ad2 l2 cap2, s = .slice ad l cap ∧ t = .slice ad2 l2 cap2 := by
  obtain ⟨b', s', t', hv, ⟨ad, l, cap, h1, -⟩, ⟨ad2, l2, cap2, h2, -⟩⟩ := h
  cases hv
  exact ⟨_, _, _, _, _, _, h1, h2⟩
set_option maxRecDepth 100000 in
set_option maxHeartbeats 1000000 in
/-- The list stays while its numbers' words are written over. -/
theorem LitQ.hurt {B0 g n : Nat} {w : World} {qs : List Rat} (h : LitQ B0 w (.slice (some ⟨g, 0, none⟩) n n) qs) : n = qs.length ∧ ∀ wz, Hurt B0 w wz → ∀ i, i < n → ∃ b s t, (∀ (j : Nat) (v : Value), (#[.bool b, s, t] : Array Value)[j]? = some v → wz.cell? ⟨g, i * 3 + j, none⟩ = some v) ∧ ShpQ B0 wz (.agg #[.bool b, s, t]) := by
  obtain ⟨g', cs, h1, h2, h3, h4⟩ := h
  simp only [Value.slice.injEq, Option.some.injEq, Addr.mk.injEq, and_true] at h2
  obtain ⟨rfl, rfl, -⟩ := h2
  refine ⟨rfl, fun wz hz i hi => ?_⟩
  obtain ⟨b, s, t, k0, k1, k2, k4⟩ := h4 i _ (List.getElem?_eq_getElem hi)
  refine ⟨b, s, t, fun j v hj => ?_, k4.shp.hurt hz⟩
  rw [cell_of_row wz g _ cs _ _ (h3.hurt hz (by decide))]
  rcases j with _ | _ | _ | j
  · rw [← hj]; exact k0
  · rw [← hj]; exact k1
  · rw [← hj]; exact k2
  · simp at hj

set_option maxRecDepth 100000 in
set_option maxHeartbeats 4000000 in
theorem sameAll_calls (u v : Value) (qs : List Rat) (B0 B1 : Nat) (w : World) (hu : LitQ B0 w u qs) (hv : LitQ B1 w v qs) (hl : qs.length ≤ 1000) :
    Calls Try.prog 51 #[u, v] w fun e w' => e = .returned (.bool true) ∧ Ext w w' := by
  obtain ⟨g, -, rfl, hg⟩ := hu.at
  obtain ⟨k, -, rfl, hk⟩ := hv.at
  obtain ⟨n, hn⟩ : ∃ n, n = qs.length := ⟨_, rfl⟩
  rw [← hn] at hl ⊢
  have Hn := Lib.hid hn
  clear hn hu hv
  go_enter Try.func51, Try.ntmps51
  go_wp2_with fail
  go_loopw [5] (fun i wr => ∃ j : Nat, j ≤ n ∧ i = .int .i64 (j : Int) ∧ Ext w wr) (fun i _ => ((n : Int) - intOf i).toNat)
  case atStart => exact ⟨0, Nat.zero_le _, rfl, Ext.refl w⟩
  case round =>
    obtain ⟨j, hj, rfl, hE0⟩ := hrel
    rcases Nat.eq_or_lt_of_le hj with hjl | hjl
    · subst hjl
      go_wp2
      go_ret
      exact ⟨rfl, hE0⟩
    · have hq : qs[j]? = some (qs[j]'(by rw [← Hn.out]; exact hjl)) := List.getElem?_eq_getElem _
      obtain ⟨q, hq'⟩ : ∃ q, q = qs[j]'(by rw [← Hn.out]; exact hjl) := ⟨_, rfl⟩
      rw [← hq'] at hq
      clear hq'
      obtain ⟨b, s, t, cx, fx⟩ := hg _ hE0 j q hq
      obtain ⟨c, s2, t2, cy, fy⟩ := hk _ hE0 j q hq
      clear hq
      go_wp2_with fail
      refine wp_region_puts [] [PP.val (.slice (some ⟨g, 0, none⟩) n n), PP.val (.int .i64 (j : Int)), PP.val (.pointer (some ⟨g, j * 3, none⟩)), PP.val (.agg #[.bool b, s, t]), PP.val (.slice (some ⟨k, 0, none⟩) n n), PP.val (.int .i64 (j : Int)), PP.val (.pointer (some ⟨k, j * 3, none⟩)), PP.val (.agg #[.bool c, s2, t2]), PP.val (.bool true), PP.val (.bool false)] [] [0, 1, 2, 3, 4, 5, 6, 7, 8, 9]
        (by kernel_rfl) (by kernel_rfl) (fun f => (by simp only [fillR, fillL, List.setIfInBounds_toArray, List.set_cons_succ, List.set_cons_zero, Nat.reduceAdd]; rfl)) ?_ ?_ ?_ ?_ ?_
      · intro x hx; cases hx
      · intro x hx; cases hx
      · intro x hx; cases hx
      · refine ⟨?o0, ?o1, ?o2, ?o3, ?o4, ?o5, ?o6, ?o7, ?o8, ?o9, trivial⟩
        case o0 =>
          intro f w2 hG hp hl
          have hE : Ext wr w2 := hG
          have hS := hE.size
          simp only [OpGoal]
          go_simp
          exact ⟨_, rfl, Ext.refl _, rfl⟩
        case o1 =>
          intro f w2 hG hp hl
          have hE : Ext wr w2 := hG
          have hS := hE.size
          simp only [OpGoal]
          go_simp
          exact ⟨_, rfl, Ext.refl _, rfl⟩
        case o2 =>
          intro f w2 hG hp hl
          have hE : Ext wr w2 := hG
          have hS := hE.size
          have q17 : f 0 = .slice (some ⟨g, 0, none⟩) n n := tellV hp 0 0 rfl rfl (fun h => by cases h)
          have q18 : f 1 = .int .i64 (j : Int) := tellV hp 1 1 rfl rfl (fun h => by cases h)
          simp only [OpGoal]
          go_simp
          exact ⟨_, rfl, Ext.refl _, rfl⟩
        case o3 =>
          intro f w2 hG hp hl
          have hE : Ext wr w2 := hG
          have hS := hE.size
          have q19 : f 2 = .pointer (some ⟨g, j * 3, none⟩) := tellV hp 0 2 rfl rfl (fun h => by cases h)
          change OpGoal _ _ _ f w2 Ext _
          exact og_loadAt (P := Try.prog) _ _ g (j * 3) _ _ rfl rfl q19 (fun i v h => hE.cell (cx i v h)) Try.underlying28 rfl (by kernel_rfl) rfl
        case o4 =>
          intro f w2 hG hp hl
          have hE : Ext wr w2 := hG
          have hS := hE.size
          simp only [OpGoal]
          go_simp
          exact ⟨_, rfl, Ext.refl _, rfl⟩
        case o5 =>
          intro f w2 hG hp hl
          have hE : Ext wr w2 := hG
          have hS := hE.size
          simp only [OpGoal]
          go_simp
          exact ⟨_, rfl, Ext.refl _, rfl⟩
        case o6 =>
          intro f w2 hG hp hl
          have hE : Ext wr w2 := hG
          have hS := hE.size
          have q21 : f 4 = .slice (some ⟨k, 0, none⟩) n n := tellV hp 0 4 rfl rfl (fun h => by cases h)
          have q22 : f 5 = .int .i64 (j : Int) := tellV hp 1 5 rfl rfl (fun h => by cases h)
          simp only [OpGoal]
          go_simp
          exact ⟨_, rfl, Ext.refl _, rfl⟩
        case o7 =>
          intro f w2 hG hp hl
          have hE : Ext wr w2 := hG
          have hS := hE.size
          have q23 : f 6 = .pointer (some ⟨k, j * 3, none⟩) := tellV hp 0 6 rfl rfl (fun h => by cases h)
          change OpGoal _ _ _ f w2 Ext _
          exact og_loadAt (P := Try.prog) _ _ k (j * 3) _ _ rfl rfl q23 (fun i v h => hE.cell (cy i v h)) Try.underlying28 rfl (by kernel_rfl) rfl
        case o8 =>
          intro f w2 hG hp hl
          have hE : Ext wr w2 := hG
          have hS := hE.size
          have q20 : f 3 = .agg #[.bool b, s, t] := tellV hp 0 3 rfl rfl (fun h => by cases h)
          have q24 : f 7 = .agg #[.bool c, s2, t2] := tellV hp 1 7 rfl rfl (fun h => by cases h)
          change OpGoal _ _ _ f w2 Ext _
          refine og_call (P := Try.prog) _ _ _ #[f 3, f 7] Try.func16 (by kernel_rfl) (by kernel_rfl) rfl rfl (by kernel_rfl) ?_
          rw [q20, q24]
          refine (same_true _ _ _ _ _ _ (fx.ext hE) (fy.ext hE)).mono ?_
          rintro e w' ⟨rfl, h2⟩
          exact ⟨_, rfl, h2, rfl⟩
        case o9 =>
          intro f w2 hG hp hl
          have hE : Ext wr w2 := hG
          have hS := hE.size
          have q25 : f 8 = .bool true := tellV hp 0 8 rfl rfl (fun h => by cases h)
          simp only [OpGoal]
          go_simp
          exact ⟨_, rfl, Ext.refl _, rfl⟩
      · intro f w2 hG hp
        have hE : Ext wr w2 := ChgS.nil hG
        have q26 : f 9 = .bool false := endV hp 9 (by decide) rfl (fun h => by cases h)
        try simp only [q26]
        clear hp
        go_wp2
        go_roundw
        case rel => exact ⟨j + 1, by omega, by simp, hE0.trans hE⟩
        case measure => simp [intOf]; omega
end Go.Proofs.Ytnefipinicfegaa
