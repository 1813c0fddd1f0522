/-
  A queue as its caller knows it: what waits, and what a call of it leaves alone.
-/
import Derived.Test.YtkcnnlhaiahpbaaQueT
import Derived.Maps.Own
import Derived.Maps.OwnOps
import Derived.Maps.RangeWalk
import Derived.Maps.Views
import Derived.Test.YtkcnnlhaiahpbaaComT
import Derived.Deep.Strs
namespace Go.Proofs.Ytkcnnlhaiahpbaa
open Go.RowKit
set_option linter.unusedVariables false
set_option linter.unusedSimpArgs false

set_option maxRecDepth 100000 in
set_option maxHeartbeats 1000000 in
theorem QHeap.blks {B k : Nat} {w : World} {hv : Value} {d : Array Nd} (h : QHeap B k w hv d) : ∀ g ∈ blks hv, B ≤ g ∧ g < w.heap.size ∧ ∃ cs, Bx 74 w g cs := by
  obtain ⟨vs, h1, h2, h3, h4⟩ := h
  intro g hg
  unfold Go.Proofs.Ytkcnnlhaiahpbaa.blks at hg
  rcases h3.2 with ⟨rfl, _⟩ | ⟨g', cap, cur, rfl, hb, hgg, _⟩
  · simp [Value.ownBlock] at hg
  · simp [Value.ownBlock] at hg
    subst hg
    exact ⟨hb, blk_lt hgg, cur, hgg⟩
set_option maxRecDepth 100000 in
set_option maxHeartbeats 1000000 in
theorem FrL.chgX {e : TypeId} {k : IntKind} {B0 : Nat} {w w' : World} {v : Value} {xs : List Nat} {bs : List Nat} (h : FrL e k B0 w v xs) (hc : ChgS bs w w') (hb : ∀ g ∈ bs, ∀ cs, ¬ Bx e w g cs) : FrL e k B0 w' v xs := by
  obtain ⟨ad, cap, h1, h2, h3, h4⟩ := h
  refine ⟨ad, cap, h1, h2, h3, ?_⟩
  rcases h4 with h4 | ⟨g, cur, h4, h5, h6, h7⟩
  · exact .inl h4
  · exact .inr ⟨g, cur, h4, h5, hc.blk h6 fun hm => hb g hm _ h6, h7⟩
set_option maxRecDepth 100000 in
set_option maxHeartbeats 1000000 in
theorem NdV.chgX {B k : Nat} {w w' : World} {v : Value} {x : Nd} {bs : List Nat} (h : NdV B k w v x) (hc : ChgS bs w w') (hb : ∀ g ∈ bs, ∀ cs, ¬ Bx 105 w g cs) : NdV B k w' v x := by
  obtain ⟨b, a1, n1, c1, a2, n2, c2, h1, ⟨s, t, hst, hs, ht⟩, h3⟩ := h
  exact ⟨b, a1, n1, c1, a2, n2, c2, h1, ⟨s, t, hst, FrL.chgX hs hc hb, FrL.chgX ht hc hb⟩, h3⟩
set_option maxRecDepth 100000 in
set_option maxHeartbeats 1000000 in
theorem NdV.chgMap {B k b : Nat} {w w' : World} {v : Value} {x : Nd} {es : Array MapEntry} {clock : Nat} (h : NdV B k w v x) (hc : Chg b w w') (hb : w.heap[b]? = some (.map es clock)) : NdV B k w' v x := by
  refine h.chgX (bs := [b]) (((Ext.refl w).chgS [b]).stepC hc (.inl (by simp))) fun g hg cs hbx => ?_
  simp only [List.mem_singleton] at hg
  subst hg
  unfold Bx at hbx
  rw [hb] at hbx
  simp at hbx
/-- What a call of the queue in block p leaves alone: all blocks of S. -/
def QFr (S : List Nat) (p : Nat) (w w' : World) : Prop := ∃ bs, ChgS bs w w' ∧ ∀ g ∈ bs, (g = p ∧ ∃ cs, Bx 123 w g cs) ∨ (g ∉ S ∧ ∃ cs, Bx 74 w g cs)
set_option maxRecDepth 100000 in
set_option maxHeartbeats 1000000 in
theorem QFr.of_ext {S : List Nat} {p : Nat} {w w' : World} (h : Ext w w') : QFr S p w w' := ⟨[], h.chgS _, by simp⟩
set_option maxRecDepth 100000 in
set_option maxHeartbeats 1000000 in
theorem QFr.size {S : List Nat} {p : Nat} {w w' : World} (h : QFr S p w w') : w.heap.size ≤ w'.heap.size := by
  obtain ⟨bs, h1, -⟩ := h
  exact h1.2.2.2.1
set_option maxRecDepth 100000 in
set_option maxHeartbeats 1000000 in
theorem QFr.ndv {S : List Nat} {p B k : Nat} {w w' : World} {v : Value} {x : Nd} (h : QFr S p w w') (hv : NdV B k w v x) : NdV B k w' v x := by
  obtain ⟨bs, h1, h2⟩ := h
  refine hv.chgB h1 fun g hg => ?_
  rcases h2 g hg with ⟨rfl, cs, hb⟩ | ⟨_, cs, hb⟩
  · exact ⟨_, cs, hb, by decide⟩
  · exact ⟨_, cs, hb, by decide⟩
set_option maxRecDepth 100000 in
set_option maxHeartbeats 1000000 in
theorem QFr.bx {S : List Nat} {p g : Nat} {cs : Array Value} {w w' : World} (h : QFr S p w w') (hb : Bx 74 w g cs) (hg : g ∈ S) : Bx 74 w' g cs := by
  obtain ⟨bs, h1, h2⟩ := h
  refine h1.blk hb fun hm => ?_
  rcases h2 g hm with ⟨rfl, ds, hd⟩ | ⟨hn, _⟩
  · unfold Bx at hb hd
    rw [hb] at hd
    simp at hd
  · exact hn hg
set_option maxRecDepth 100000 in
set_option maxHeartbeats 1000000 in
theorem QFr.map {H : Type} {S : List Nat} {p b n : Nat} {kt : TypeId} {R : Value → Option (DataW H × List MemPlace)} {D : DataW H} {w w' : World} (h : QFr S p w w') (hm : w.ownsMap Try.prog kt R b n D) : w'.ownsMap Try.prog kt R b n D := by
  obtain ⟨bs, h1, h2⟩ := h
  obtain ⟨es, clock, hb, F, hs, hD⟩ := hm
  refine ⟨es, clock, h1.blk hb fun hmm => ?_, F, hs, hD⟩
  rcases h2 b hmm with ⟨rfl, ds, hd⟩ | ⟨hn, ds, hd⟩
  · unfold Bx at hd
    rw [hb] at hd
    simp at hd
  · unfold Bx at hd
    rw [hb] at hd
    simp at hd

/-- The queue in block p: l waits (in whatever order); its list does not lie in S. -/
def Qu (w0 : World) (k : Nat) (best : Bool) (p : Nat) (l : List Nd) (S : List Nat) (w : World) : Prop :=
  ∃ hv d, Bx 123 w p #[.int .i64 (ordV best), hv] ∧ QHeap w0.heap.size k w hv d ∧ HpFrom best d 0 ∧ d.toList.Perm l ∧ Ext w0 w ∧ w0.heap.size ≤ p ∧ ∀ g, hv.ownBlock = some g → g ∉ S
set_option maxRecDepth 100000 in
set_option maxHeartbeats 1000000 in
theorem Qu.base {w0 w : World} {k p : Nat} {best : Bool} {l : List Nd} {S : List Nat} (h : Qu w0 k best p l S w) : Ext w0 w := by
  obtain ⟨hv, d, _, _, _, _, h, _⟩ := h
  exact h
set_option maxRecDepth 100000 in
set_option maxHeartbeats 1000000 in
theorem Qu.ext {w0 w w' : World} {k p : Nat} {best : Bool} {l : List Nd} {S : List Nat} (h : Qu w0 k best p l S w) (he : Ext w w') : Qu w0 k best p l S w' := by
  obtain ⟨hv, d, h1, h2, h3, h4, h5, h6, h7⟩ := h
  exact ⟨hv, d, h1.ext he, h2.ext he, h3, h4, h5.trans he, h6, h7⟩
set_option maxRecDepth 100000 in
set_option maxHeartbeats 1000000 in
/-- A new block is none of the queue's. -/
theorem Qu.more {w0 w w' : World} {k p : Nat} {best : Bool} {l : List Nd} {S : List Nat} (h : Qu w0 k best p l S w) (he : Ext w w') {g : Nat} (hg : w.heap.size ≤ g) : Qu w0 k best p l (g :: S) w' := by
  obtain ⟨hv, d, h1, h2, h3, h4, h5, h6, h7⟩ := h
  refine ⟨hv, d, h1.ext he, h2.ext he, h3, h4, h5.trans he, h6, fun i hi hm => ?_⟩
  have := (h2.blks i (blks_mem hi)).2.1
  rcases List.mem_cons.1 hm with rfl | hm
  · omega
  · exact h7 i hi hm
set_option maxRecDepth 100000 in
set_option maxHeartbeats 1000000 in
/-- A block that the caller writes. -/
theorem Qu.chg {w0 w w' : World} {k p g : Nat} {best : Bool} {l : List Nd} {S : List Nat} {t : TypeId} {cs cs' : Array Value} (h : Qu w0 k best p l S w) (hc : Chg g w w') (hb : Bx t w g cs) (hb' : Bx t w' g cs') (ht : t ≠ 105) (ht2 : t ≠ 3) (ht3 : t ≠ 123) (hg : g ∈ S) (hg0 : w0.heap.size ≤ g) : Qu w0 k best p l S w' := by
  obtain ⟨hv, d, h1, h2, h3, h4, h5, h6, h7⟩ := h
  refine ⟨hv, d, h1.chg hc ?_, h2.chgO hc hb hb' ht ht2 fun h => h7 g h hg, h3, h4, h5.step hc hg0, h6, h7⟩
  rintro rfl
  unfold Bx at h1 hb
  rw [h1] at hb
  simp only [Option.some.injEq, Obj.cells.injEq] at hb
  exact ht3 hb.2.1.symm
set_option maxRecDepth 100000 in
set_option maxHeartbeats 1000000 in
theorem Qu.mono {w0 w : World} {k p : Nat} {best : Bool} {l : List Nd} {S T : List Nat} (h : Qu w0 k best p l S w) (hs : ∀ g ∈ T, g ∈ S) : Qu w0 k best p l T w := by
  obtain ⟨hv, d, h1, h2, h3, h4, h5, h6, h7⟩ := h
  exact ⟨hv, d, h1, h2, h3, h4, h5, h6, fun g hg hm => h7 g hg (hs g hm)⟩
set_option maxRecDepth 100000 in
set_option maxHeartbeats 1000000 in
theorem Qu.chgMap {H : Type} {w0 w w' : World} {k p b n n' : Nat} {best : Bool} {l : List Nd} {S : List Nat} {kt : TypeId} {R : Value → Option (DataW H × List MemPlace)} {D D' : DataW H} (h : Qu w0 k best p l S w) (hc : w.grownBy w' (some b)) (hb : w.ownsMap Try.prog kt R b n D) (hb0 : w0.heap.size ≤ b) : Qu w0 k best p l S w' := by
  obtain ⟨hv, d, h1, ⟨vs, q1, q2, q3, q4⟩, h3, h4, h5, h6, h7⟩ := h
  obtain ⟨es, clock, hbm, -⟩ := hb
  have hnot : ∀ g t cs, Bx t w g cs → g ≠ b := by
    rintro g t cs hbx rfl
    unfold Bx at hbx
    rw [hbm] at hbx
    simp at hbx
  refine ⟨hv, d, h1.chg hc (hnot _ _ _ h1), ⟨vs, q1, q2, q3.kept hc ?_, fun i v hi => ?_⟩, h3, h4, h5.step hc hb0, h6, h7⟩
  · rcases q3.2 with ⟨rfl, _⟩ | ⟨g', cap, cur, rfl, hb, hgg, _⟩
    · exact .inl rfl
    · refine .inr fun he => ?_
      simp [Value.ownBlock] at he
      exact hnot _ _ _ hgg he
  · exact (q4 i v hi).chgMap hc hbm

set_option maxRecDepth 100000 in
set_option maxHeartbeats 1000000 in
theorem qu_new (w0 w : World) (k : Nat) (best : Bool) (S : List Nat) (he : Ext w0 w) :
    Calls Try.prog 56 #[.int .i64 (ordV best)] w fun e w' => e = .returned (.tuple #[.pointer (some ⟨w.heap.size, 0, none⟩), .int .i64 0]) ∧ Qu w0 k best w.heap.size [] S w' ∧ Ext w w' := by
  refine (qnew_calls best w).mono ?_
  rintro e w' ⟨rfl, h1, h2⟩
  refine ⟨rfl, ⟨_, #[], h1, ⟨[], rfl, (by intro v hv; cases hv), World.ownsRow_nil _ _ _ _, by simp⟩, ?_, List.Perm.refl _, he.trans h2, he.size, by simp [Value.ownBlock]⟩, h2⟩
  intro j h0 hj
  simp at hj
set_option maxRecDepth 100000 in
set_option maxHeartbeats 1000000 in
theorem qu_len (w0 w : World) (k p : Nat) (best : Bool) (l : List Nd) (S : List Nat) (h : Qu w0 k best p l S w) :
    Calls Try.prog 61 #[.pointer (some ⟨p, 0, none⟩)] w fun e w' => e = .returned (.int .i64 (l.length : Int)) ∧ Ext w w' := by
  obtain ⟨hv, d, h1, ⟨vs, q1, q2, q3, q4⟩, h3, h4, h5, h6, h7⟩ := h
  obtain ⟨ad, cap, rfl⟩ := ownsRow_len q3
  have := h4.length_eq
  rw [Array.length_toList] at this
  rw [← this]
  exact qlen_calls p _ ad d.size cap w h1
set_option maxRecDepth 100000 in
set_option maxHeartbeats 1000000 in
theorem qu_push (w0 w : World) (k p : Nat) (best : Bool) (l : List Nd) (S : List Nat) (va : Value) (x : Nd) (h : Qu w0 k best p l S w) (hx : NdR k w va x) (hk : k ≤ 1000) (hn : (l.length + 1) * 72 ≤ 140737488355328) (hS : ∀ g ∈ S, g < w.heap.size) :
    Calls Try.prog 58 #[.pointer (some ⟨p, 0, none⟩), va] w fun e w' => e = .returned (.tuple #[]) ∧ Qu w0 k best p (x :: l) S w' ∧ QFr S p w w' := by
  obtain ⟨hv, d, h1, h2, h3, h4, h5, h6, h7⟩ := h
  have hl := h4.length_eq
  rw [Array.length_toList] at hl
  have lim : 1000 ≤ LIM := by rw [LIM_eq]; omega
  refine (push_calls w0.heap.size k p best hv va d x w h1 h2 h3 hx (by omega) (by omega) (by omega) h5.size).mono ?_
  rintro e w' ⟨rfl, hc, hv', d', k1, k2, k3, k4, k5, k6⟩
  refine ⟨rfl, ⟨hv', d', k1, k2, k3, ?_, h5.stepS hc fun g hg => ?_, h6, fun g hg hm => ?_⟩, _, hc, fun g hg => ?_⟩
  · refine k4.trans ?_
    rw [Array.toList_push]
    exact (List.perm_append_singleton _ _).trans (List.Perm.cons _ h4)
  · rcases List.mem_cons.1 hg with rfl | hg
    · exact h6
    · exact (h2.blks g hg).1
  · rcases k6 g hg with hh | hh
    · exact h7 g hh hm
    · have := hS g hm
      omega
  · rcases List.mem_cons.1 hg with rfl | hg
    · exact .inl ⟨rfl, _, h1⟩
    · refine .inr ⟨fun hm => ?_, (h2.blks g hg).2.2⟩
      unfold blks at hg
      cases hob : hv.ownBlock with
      | none => rw [hob] at hg; simp at hg
      | some g' =>
        rw [hob] at hg
        simp at hg
        subst hg
        exact h7 g hob hm
set_option maxRecDepth 100000 in
set_option maxHeartbeats 1000000 in
theorem qu_pop0 (w0 w : World) (k p : Nat) (best : Bool) (S : List Nat) (h : Qu w0 k best p [] S w) :
    Calls Try.prog 59 #[.pointer (some ⟨p, 0, none⟩)] w fun e w' => e = .returned (.tuple #[.agg #[.int .i64 0, .int .i64 0, .bool false, .slice none 0 0, .slice none 0 0], .bool false]) ∧ Ext w w' := by
  obtain ⟨hv, d, h1, ⟨vs, q1, q2, q3, q4⟩, h3, h4, h5, h6, h7⟩ := h
  obtain ⟨ad, cap, rfl⟩ := ownsRow_len q3
  have := h4.length_eq
  rw [Array.length_toList] at this
  rw [this] at h1
  exact pop_none p _ ad cap w h1
set_option maxRecDepth 100000 in
set_option maxHeartbeats 1000000 in
theorem qu_pop (w0 w : World) (k p : Nat) (best : Bool) (l : List Nd) (S : List Nat) (h : Qu w0 k best p l S w) (hl : l ≠ []) (hk : k ≤ 1000) (hn : l.length ≤ 35184372088832) :
    Calls Try.prog 59 #[.pointer (some ⟨p, 0, none⟩)] w fun e w' => ∃ x va l', e = .returned (.tuple #[va, .bool true]) ∧ (x :: l').Perm l ∧ (∀ y ∈ l', Le best x y) ∧ NdV w0.heap.size k w' va x ∧ Qu w0 k best p l' S w' ∧ QFr S p w w' := by
  obtain ⟨hv, d, h1, h2, h3, h4, h5, h6, h7⟩ := h
  have hll := h4.length_eq
  rw [Array.length_toList] at hll
  have lim : 1000 ≤ LIM := by rw [LIM_eq]; omega
  have h0 : 0 < d.size := by
    rw [hll]
    exact List.length_pos_iff.2 hl
  refine (pop_some w0.heap.size k p best hv d w h1 h2 h3 (by omega) (by omega) (by omega) h0).mono ?_
  rintro e w' ⟨va, rfl, hnd, hc, hv', d', k1, k2, k3, k4, k5, k6⟩
  refine ⟨d[0]!, va, d'.toList, rfl, k4.trans h4, fun y hy => ?_, hnd, ⟨hv', d', k1, k2, k3, List.Perm.refl _, h5.stepS hc fun g hg => ?_, h6, fun g hg hm => ?_⟩, _, hc, fun g hg => ?_⟩
  · have hy2 : y ∈ d.toList := k4.mem_iff.1 (List.mem_cons_of_mem _ hy)
    obtain ⟨j, hj, rfl⟩ := List.getElem_of_mem hy2
    have hj' : j < d.size := by simpa using hj
    have := h3.root j hj'
    rw [getElem!_pos d j hj'] at this
    simpa using this
  · rcases List.mem_cons.1 hg with rfl | hg
    · exact h6
    · exact (h2.blks g hg).1
  · rw [k6] at hg
    exact h7 g hg hm
  · rcases List.mem_cons.1 hg with rfl | hg
    · exact .inl ⟨rfl, _, h1⟩
    · refine .inr ⟨fun hm => ?_, (h2.blks g hg).2.2⟩
      unfold blks at hg
      cases hob : hv.ownBlock with
      | none => rw [hob] at hg; simp at hg
      | some g' =>
        rw [hob] at hg
        simp at hg
        subst hg
        exact h7 g hob hm
end Go.Proofs.Ytkcnnlhaiahpbaa

/-
  The document's example of a queue.
-/
namespace Go.Proofs.Ytkcnnlhaiahpbaa
open Go.RowKit
set_option linter.unusedVariables false
set_option linter.unusedSimpArgs false

set_option maxRecDepth 100000 in
set_option maxHeartbeats 1000000 in
theorem first_of {best : Bool} {x z : Nd} {l l' : List Nd} (h : (x :: l').Perm l) (hle : ∀ y ∈ l', Le best x y) (hz : z ∈ l) (hlt : ∀ y ∈ l, y = z ∨ Lt best z y) : x = z ∧ (z :: l').Perm l := by
  have hx : x ∈ l := h.mem_iff.1 (List.mem_cons_self ..)
  rcases hlt x hx with rfl | h1
  · exact ⟨rfl, h⟩
  · rcases List.mem_cons.1 (h.mem_iff.2 hz) with rfl | h2
    · exact ⟨rfl, h⟩
    · exact absurd h1 (hle z h2)

def ndA : Nd := ⟨1, 1, ((3 : Int) : Rat)⟩
def ndB : Nd := ⟨2, 2, ((3 : Int) : Rat)⟩
def ndC : Nd := ⟨3, 0, ((2 : Int) : Rat)⟩
set_option maxRecDepth 100000 in
set_option maxHeartbeats 1000000 in
theorem ltCB : Lt true ndC ndB := .inl (by decide +kernel)
set_option maxRecDepth 100000 in
set_option maxHeartbeats 1000000 in
theorem ltCA : Lt true ndC ndA := .inl (by decide +kernel)
set_option maxRecDepth 100000 in
set_option maxHeartbeats 1000000 in
theorem ltBA : Lt true ndB ndA := .inr ⟨rfl, .inl (by decide)⟩

set_option maxRecDepth 100000 in
set_option maxHeartbeats 4000000 in
theorem speaks20_calls (w : World) : Calls Try.prog 55 #[] w fun e w' => e = .returned (.bool true) ∧ Ext w w' := by
  have lim : (1000 : Nat) ≤ LIM := by rw [LIM_eq]; omega
  have z3 : szQ ((3 : Int) : Rat) ≤ 6 := by decide +kernel
  have z2 : szQ ((2 : Int) : Rat) ≤ 6 := by decide +kernel
  go_enter Try.func55, Try.ntmps55
  go_wp2_with fail
  refine (qu_new w w 6 true [] (Ext.refl _)).mono ?_
  rintro e w1 ⟨rfl, hq1, e1⟩
  go_wp2_with fail
  refine (whole20_calls 3 _ (by omega) (by omega)).mono ?_
  rintro e w2 ⟨v2, rfl, q2, e2⟩
  obtain ⟨c2, a2, l2, k2, a2', l2', k2', rfl, q2⟩ := q2.opn
  go_wp2_with fail
  refine (qu_push w w2 6 w.heap.size true [] [] _ ndA (hq1.ext e2) ⟨_, _, _, _, _, _, _, rfl, q2.isR z3 (by omega)⟩ (by omega) (by simp) (by simp)).mono ?_
  rintro e w3 ⟨rfl, hq3, -⟩
  clear q2 hq1 e1 e2
  go_wp2_with fail
  refine (whole20_calls 3 _ (by omega) (by omega)).mono ?_
  rintro e w4 ⟨v4, rfl, q4, e4⟩
  obtain ⟨c4, a4, l4, k4, a4', l4', k4', rfl, q4⟩ := q4.opn
  go_wp2_with fail
  refine (qu_push w w4 6 w.heap.size true _ [] _ ndB (hq3.ext e4) ⟨_, _, _, _, _, _, _, rfl, q4.isR z3 (by omega)⟩ (by omega) (by simp) (by simp)).mono ?_
  rintro e w5 ⟨rfl, hq5, -⟩
  clear q4 hq3 e4
  go_wp2_with fail
  refine (whole20_calls 2 _ (by omega) (by omega)).mono ?_
  rintro e w6 ⟨v6, rfl, q6, e6⟩
  obtain ⟨c6, a6, l6, k6, a6', l6', k6', rfl, q6⟩ := q6.opn
  go_wp2_with fail
  refine (qu_push w w6 6 w.heap.size true _ [] _ ndC (hq5.ext e6) ⟨_, _, _, _, _, _, _, rfl, q6.isR z2 (by omega)⟩ (by omega) (by simp) (by simp)).mono ?_
  rintro e w7 ⟨rfl, hq7, -⟩
  clear q6 hq5 e6
  go_wp2_with fail
  refine (qu_pop w w7 6 w.heap.size true _ [] hq7 (by simp) (by omega) (by simp)).mono ?_
  rintro e w8 ⟨x, va, l1, rfl, hp1, hle1, hnd1, hq8, -⟩
  obtain ⟨rfl, hp1⟩ := first_of hp1 hle1 (z := ndC) (by simp) (by
    intro y hy
    simp only [List.mem_cons, List.not_mem_nil, or_false] at hy
    rcases hy with rfl | rfl | rfl
    · exact .inl rfl
    · exact .inr ltCB
    · exact .inr ltCA)
  have hp1 := hp1.cons_inv
  have hlen1 := hp1.length_eq
  obtain ⟨c8, a8, l8, k8, a8', l8', k8', rfl, -⟩ := hnd1
  obtain ⟨w9, hw9, e9, b9, s9⟩ := alloc1 w8 #[.int .i64 3, .int .i64 0, .bool c8, .slice a8 l8 k8, .slice a8' l8' k8'] 74
  have hq9 := hq8.more e9 (Nat.le_refl _)
  simp only [ndC]
  go_wp2_with fail
  rw [← hw9]
  refine (qu_pop w w9 6 w.heap.size true _ _ hq9 (by intro h; rw [h] at hlen1; simp at hlen1) (by omega) (by rw [hlen1]; simp)).mono ?_
  rintro e w10 ⟨x, va, l2, rfl, hp2, hle2, hnd2, hq10, hf10⟩
  obtain ⟨rfl, hp3⟩ := first_of (hp2.trans hp1) hle2 (z := ndB) (by simp) (by
    intro y hy
    simp only [List.mem_cons, List.not_mem_nil, or_false] at hy
    rcases hy with rfl | rfl
    · exact .inl rfl
    · exact .inr ltBA)
  have hlen2 := hp3.length_eq
  have hl2 : l2.length = 1 := by simpa using hlen2
  obtain ⟨c10, a10, l10, k10, a10', l10', k10', rfl, -⟩ := hnd2
  obtain ⟨w11, hw11, e11, b11, s11⟩ := alloc1 w10 #[.int .i64 2, .int .i64 2, .bool c10, .slice a10 l10 k10, .slice a10' l10' k10'] 74
  have hq11 := hq10.ext e11
  have b9' := (hf10.bx b9 (by simp)).ext e11
  have hca := b9'.cell 0
  have hcb := b11.cell 0
  rw [hw11] at hca hcb
  simp only [ndB]
  go_wp2_with fail
  rw [← hw11]
  refine (qu_len w w11 6 w.heap.size true _ _ hq11).mono ?_
  rw [hl2]
  rintro e w12 ⟨rfl, e12⟩
  go_wp2
  go_ret
  exact ⟨rfl, hq11.base.trans e12⟩
end Go.Proofs.Ytkcnnlhaiahpbaa

/-
  Nodes that are handed in; how often each number has come.
-/
namespace Go.Proofs.Ytkcnnlhaiahpbaa
open Go.RowKit Go.Maps
set_option linter.unusedVariables false
set_option linter.unusedSimpArgs false

/-- A node as it is handed in: its number, its depth, its fraction in any form. -/
def RawNd (w : World) (v : Value) (e : Int × Int × Bool × List Nat × List Nat) : Prop := ∃ b a1 n1 c1 a2 n2 c2, v = .agg #[.int .i64 e.1, .int .i64 e.2.1, .bool b, .slice a1 n1 c1, .slice a2 n2 c2] ∧ RawE w (.agg #[.bool b, .slice a1 n1 c1, .slice a2 n2 c2]) e.2.2 ∧ (Lit.int .i64 e.1).wf = true
def ndE (e : Int × Int × Bool × List Nat × List Nat) : Nd := ⟨e.1, e.2.1, ratE e.2.2⟩
set_option maxRecDepth 100000 in
set_option maxHeartbeats 1000000 in
theorem RawNd.ext {w w' : World} {v : Value} {e : Int × Int × Bool × List Nat × List Nat} (h : RawNd w v e) (he : Ext w w') : RawNd w' v e := by
  obtain ⟨b, a1, n1, c1, a2, n2, c2, h1, h2, h3⟩ := h
  exact ⟨b, a1, n1, c1, a2, n2, c2, h1, h2.ext he, h3⟩
/-- A list of nodes as it is handed in. -/
def SLN (w : World) (u : Value) (l : List (Int × Int × Bool × List Nat × List Nat)) : Prop := SL 5 RawNd w u l
set_option maxRecDepth 100000 in
set_option maxHeartbeats 1000000 in
theorem SLN.at {w : World} {u : Value} {l : List (Int × Int × Bool × List Nat × List Nat)} (h : SLN w u l) : ∃ ad m cap, m = l.length ∧ u = .slice ad m cap ∧ m ≤ 9223372036854775807 ∧ ∀ (i : Nat) (e : Int × Int × Bool × List Nat × List Nat), l[i]? = some e → ∃ g off, ad = some ⟨g, off, none⟩ ∧ ∃ b a1 n1 c1 a2 n2 c2, n1 = e.2.2.2.1.length ∧ n2 = e.2.2.2.2.length ∧ (Lit.int .i64 e.1).wf = true ∧
    ∀ wz, Ext w wz → wz.cell? ⟨g, off + i * 5, none⟩ = some (.int .i64 e.1) ∧ wz.cell? ⟨g, off + i * 5 + 1, none⟩ = some (.int .i64 e.2.1) ∧ wz.cell? ⟨g, off + i * 5 + 2, none⟩ = some (.bool b) ∧ wz.cell? ⟨g, off + i * 5 + 3, none⟩ = some (.slice a1 n1 c1) ∧ wz.cell? ⟨g, off + i * 5 + 4, none⟩ = some (.slice a2 n2 c2) ∧ RawE wz (.agg #[.bool b, .slice a1 n1 c1, .slice a2 n2 c2]) e.2.2 := by
  obtain ⟨ad, m, cap, h1, h2, h3, h4⟩ := h.opn
  refine ⟨ad, m, cap, h1, h2, h3, fun i e hi => ?_⟩
  obtain ⟨g, off, k1, cs, k2, k3, b, a1, n1, c1, a2, n2, c2, k5, k4, k6⟩ := h4 i e hi
  cases k5
  obtain ⟨a1', n1', c1', a2', n2', c2', j1, j2, j3⟩ := RawQ.opn2 k4.1
  cases j3
  exact ⟨g, off, k1, _, a1, n1, c1, a2, n2, c2, j1, j2, k6, fun wz hz => ⟨k3 wz hz 0 _ rfl, k3 wz hz 1 _ rfl, k3 wz hz 2 _ rfl, k3 wz hz 3 _ rfl, k3 wz hz 4 _ rfl, k4.ext hz⟩⟩

set_option maxRecDepth 100000 in
set_option maxHeartbeats 1000000 in
theorem lawI : Keyed Try.prog 3 := int_keyed Try.underlying3
set_option maxRecDepth 100000 in
set_option maxHeartbeats 1000000 in
theorem zeroI (w : World) : (zeroValue 3).run Try.prog w = .ok (.int .i64 0) w := by kernel_rfl
/-- Block b is a map of at most n entries: c tells what it has of each number. -/
def Tly (w : World) (b n : Nat) (c : Int → Int) : Prop := ∃ D : DataW Unit, w.ownsMap Try.prog 3 (plainElem Try.prog 3) b n D ∧ IsMap D ∧ ∀ x, D.atKey (.int .i64 x) (.lit (.int .i64 0)) = .lit (.int .i64 (c x))
set_option maxRecDepth 100000 in
set_option maxHeartbeats 1000000 in
theorem Tly.made (w : World) : Tly (w.alloc (.map #[] 0)) w.heap.size 0 (fun _ => 0) := ⟨.map [], World.ownsMap_made _ _ _ _, isMap_empty, fun x => rfl⟩
set_option maxRecDepth 100000 in
set_option maxHeartbeats 1000000 in
theorem Tly.ext {w w' : World} {b n : Nat} {c : Int → Int} (h : Tly w b n c) (he : Ext w w') : Tly w' b n c := by
  obtain ⟨D, h1, h2, h3⟩ := h
  exact ⟨D, h1.kept he (by simp), h2, h3⟩
set_option maxRecDepth 100000 in
set_option maxHeartbeats 1000000 in
theorem Tly.chg {w w' : World} {b n g : Nat} {c : Int → Int} (h : Tly w b n c) (he : Chg g w w') (hg : b ≠ g) : Tly w' b n c := by
  obtain ⟨D, h1, h2, h3⟩ := h
  exact ⟨D, h1.kept he (by simpa using hg), h2, h3⟩
set_option maxRecDepth 100000 in
set_option maxHeartbeats 1000000 in
theorem Tly.fr {w w' : World} {b n p : Nat} {S : List Nat} {c : Int → Int} (h : Tly w b n c) (he : QFr S p w w') : Tly w' b n c := by
  obtain ⟨D, h1, h2, h3⟩ := h
  exact ⟨D, he.map h1, h2, h3⟩
set_option maxRecDepth 100000 in
set_option maxHeartbeats 1000000 in
theorem Tly.same {w : World} {b n : Nat} {c c' : Int → Int} (h : Tly w b n c) (he : ∀ x, c x = c' x) : Tly w b n c' := by
  obtain ⟨D, h1, h2, h3⟩ := h
  exact ⟨D, h1, h2, fun x => by rw [h3, he]⟩
set_option maxRecDepth 100000 in
set_option maxHeartbeats 1000000 in
theorem Tly.mono {w : World} {b n m : Nat} {c : Int → Int} (h : Tly w b n c) (he : n ≤ m) : Tly w b m c := by
  obtain ⟨D, h1, h2, h3⟩ := h
  exact ⟨D, h1.mono he, h2, h3⟩
set_option maxRecDepth 100000 in
set_option maxHeartbeats 1000000 in
theorem Tly.lt {w : World} {b n : Nat} {c : Int → Int} (h : Tly w b n c) : b < w.heap.size := by
  obtain ⟨D, h1, h2, h3⟩ := h
  exact h1.lt
set_option maxRecDepth 100000 in
set_option maxHeartbeats 1000000 in
theorem Qu.tly {w0 w w' : World} {k p b n : Nat} {best : Bool} {l : List Nd} {S : List Nat} {c : Int → Int} (h : Qu w0 k best p l S w) (hc : Chg b w w') (hb : Tly w b n c) (hb0 : w0.heap.size ≤ b) : Qu w0 k best p l S w' := by
  obtain ⟨D, h1, h2, h3⟩ := hb
  exact h.chgMap (n' := 0) (D' := D) hc h1 hb0

section
variable (w : World) {ops : Array Oper} {rest : List Oper} {o : Oper} {a : Act} {Q : Exit → Act → World → Prop}
set_option maxRecDepth 100000 in
set_option maxHeartbeats 1000000 in
/-- 'm[k]' read. -/
theorem wpList_look_tly (hg : o.guard = none) (m x : Operand) (hop : o.op = Op.lookup 72 m x false) (b n : Nat) (c : Int → Int) (hm : a.eval m = .map (some b)) (hown : Tly w b n c) (k : Int) (hx : a.eval x = .int .i64 k) (hwf : (Lit.int .i64 k).wf = true) (y : Int) (hy : c k = y)
    (hK : wpList Try.prog ops Q rest (a.put o.dst (.int .i64 y)) w) : wpList Try.prog ops Q (o :: rest) a w := by
  obtain ⟨D, h1, h2, h3⟩ := hown
  refine wpList_lookup_own_int w hg m x _ hop 3 3 .i64 lawI Try.underlying72 Try.underlying3 (zeroI w) b n D hm h1 _ _ hx (keyOf_int_mk Try.underlying3 hwf) ?_
  intro c' hat hwc
  rw [h3] at hat
  cases hat
  subst hy
  exact hK
set_option maxRecDepth 100000 in
set_option maxHeartbeats 1000000 in
/-- 'm[k]' written. -/
theorem wpList_put_tly (hg : o.guard = none) (m x v : Operand) (hop : o.op = Op.mapUpdate 72 m x v) (b n : Nat) (c : Int → Int) (hm : a.eval m = .map (some b)) (hown : Tly w b n c) (hn : n < maxLen) (k y : Int) (hx : a.eval x = .int .i64 k) (hv : a.eval v = .int .i64 y) (hwf : (Lit.int .i64 k).wf = true) (hwy : (Lit.int .i64 y).wf = true)
    (hK : ∀ w', Tly w' b (n + 1) (fun z => if z = k then y else c z) → Chg b w w' → wpList Try.prog ops Q rest (a.put o.dst undef) w') : wpList Try.prog ops Q (o :: rest) a w := by
  obtain ⟨D, h1, h2, h3⟩ := hown
  refine wpList_mapUpdate_own w hg m x v _ hop 3 3 lawI Try.underlying72 _ b n D hm h1 hn _ _ _ hx hv (keyOf_int_mk Try.underlying3 hwf) _ [] (plainElem_int Try.underlying3 hwy) ?_
  intro w' g1 g2
  refine hK w' ⟨_, g1, h2.put _ _, fun z => ?_⟩ g2
  show (D.put _ _).atKey _ _ = .lit (.int .i64 (if z = k then y else c z))
  by_cases hz : z = k
  · subst hz
    rw [if_pos rfl]
    exact atKey_put_same (k := .int .i64 z) h2 trivial _ _
  · rw [if_neg hz, atKey_put_other (by intro h; cases h; exact hz rfl)]
    exact h3 z
end
/-- How often a number comes. -/
def cnt (l : List Nd) (x : Int) : Int := (l.countP (fun y => y.id = x) : Nat)
set_option maxRecDepth 100000 in
set_option maxHeartbeats 1000000 in
theorem cnt_cons (y : Nd) (l : List Nd) (x : Int) : cnt (y :: l) x = if x = y.id then cnt l x + 1 else cnt l x := by
  unfold cnt
  rw [List.countP_cons]
  by_cases h : x = y.id
  · subst h; simp
  · rw [if_neg h, if_neg (by simpa using fun h2 => h h2.symm)]
    simp
set_option maxRecDepth 100000 in
set_option maxHeartbeats 1000000 in
theorem cnt_perm {l l' : List Nd} (h : l.Perm l') (x : Int) : cnt l x = cnt l' x := by
  unfold cnt
  rw [h.countP_eq]
set_option maxRecDepth 100000 in
set_option maxHeartbeats 1000000 in
theorem cnt_nonneg (l : List Nd) (x : Int) : 0 ≤ cnt l x := by unfold cnt; omega
set_option maxRecDepth 100000 in
set_option maxHeartbeats 1000000 in
theorem cnt_le (l : List Nd) (x : Int) : cnt l x ≤ (l.length : Int) := by
  unfold cnt
  have := List.countP_le_length (p := fun y : Nd => decide (y.id = x)) (l := l)
  omega
set_option maxRecDepth 100000 in
set_option maxHeartbeats 1000000 in
theorem qu_popA (w0 w : World) (k p : Nat) (best : Bool) (l : List Nd) (S : List Nat) (h : Qu w0 k best p l S w) (hk : k ≤ 1000) (hn : l.length ≤ 35184372088832) :
    Calls Try.prog 59 #[.pointer (some ⟨p, 0, none⟩)] w fun e w' => ∃ (any : Bool) (x : Nd) (b : Bool) (a1 : Option Addr) (n1 c1 : Nat) (a2 : Option Addr) (n2 c2 : Nat) (l' : List Nd), e = .returned (.tuple #[.agg #[.int .i64 x.id, .int .i64 x.depth, .bool b, .slice a1 n1 c1, .slice a2 n2 c2], .bool any]) ∧
      Qu w0 k best p l' S w' ∧ QFr S p w w' ∧ (any = true → (x :: l').Perm l ∧ (∀ y ∈ l', Le best x y) ∧ NdV w0.heap.size k w' (.agg #[.int .i64 x.id, .int .i64 x.depth, .bool b, .slice a1 n1 c1, .slice a2 n2 c2]) x) ∧ (any = false → l = [] ∧ l' = []) := by
  by_cases hl : l = []
  · subst hl
    refine (qu_pop0 w0 w k p best S h).mono ?_
    rintro e w' ⟨rfl, he⟩
    exact ⟨false, ⟨0, 0, 0⟩, false, none, 0, 0, none, 0, 0, [], rfl, h.ext he, .of_ext he, by simp, by simp⟩
  · refine (qu_pop w0 w k p best l S h hl hk hn).mono ?_
    rintro e w' ⟨x, va, l', rfl, h1, h2, h3, h4, h5⟩
    obtain ⟨b, a1, n1, c1, a2, n2, c2, rfl, -⟩ := id h3
    exact ⟨true, x, b, a1, n1, c1, a2, n2, c2, l', rfl, h4, h5, fun _ => ⟨h1, h2, h3⟩, by simp⟩
/-- How many wait, read off the world. -/
def waits (w : World) (p : Nat) : Nat := match w.cell? ⟨p, 1, none⟩ with | some (.slice _ n _) => n | _ => 0
set_option maxRecDepth 100000 in
set_option maxHeartbeats 1000000 in
theorem Qu.waits {w0 w : World} {k p : Nat} {best : Bool} {l : List Nd} {S : List Nat} (h : Qu w0 k best p l S w) : waits w p = l.length := by
  obtain ⟨hv, d, h1, ⟨vs, q1, q2, q3, q4⟩, h3, h4, h5, h6, h7⟩ := h
  obtain ⟨ad, cap, rfl⟩ := ownsRow_len q3
  unfold Go.Proofs.Ytkcnnlhaiahpbaa.waits
  have := h1.cell 1
  rw [this, ← h4.length_eq, Array.length_toList]
  rfl
/-- Nodes are being taken out: x lies in block g; any: is it one? M: those that have not been counted down. -/
def PopJ (w : World) (best : Bool) (p b g N : Nat) (any : Bool) (x : Nd) (bb : Bool) (a1 : Option Addr) (n1 c1 : Nat) (a2 : Option Addr) (n2 c2 : Nat) (M : List Nd) (wr : World) : Prop :=
  ∃ L, Bx 74 wr g #[.int .i64 x.id, .int .i64 x.depth, .bool bb, .slice a1 n1 c1, .slice a2 n2 c2] ∧ Qu w 6 best p L [g] wr ∧ Tly wr b N (cnt M) ∧ M = (if any then x :: L else []) ∧
    (any = true → NdV w.heap.size 6 wr (.agg #[.int .i64 x.id, .int .i64 x.depth, .bool bb, .slice a1 n1 c1, .slice a2 n2 c2]) x ∧ (∀ y ∈ L, Le best x y)) ∧ (any = false → L = []) ∧ ∀ y ∈ M, (Lit.int .i64 y.id).wf = true
def bit (v : Value) : Nat := match v with | .bool true => 1 | _ => 0
end Go.Proofs.Ytkcnnlhaiahpbaa

/-
  Lists handed in to a law: of fractions, of bools.
-/
namespace Go.Proofs.Ytkcnnlhaiahpbaa
open Go.RowKit
open Go.ChangeShapes Go.WideShapes Go.ChangeAt
set_option linter.unusedVariables false
set_option linter.unusedSimpArgs false

set_option maxRecDepth 100000 in
set_option maxHeartbeats 1000000 in
theorem cellsQs : Try.prog.cellsOf 28 = 3 := by kernel_rfl
section
variable {H : Type} {enc : TypeId × Value → H} {w : World} {base : Nat} {spare : Nat → Bool} {held : Bool}
set_option maxRecDepth 100000 in
set_option maxHeartbeats 1000000 in
theorem open_ratsS {v : Value} {d : DataW H} {p : List MemPlace} {W0 : World} {b0 : Nat} (hv : Value.okWide Try.prog W0 .any b0 61 v) (h : DataW.Trod enc Try.prog w base spare held 61 v d p) (B : Nat) (hb : B ≤ 4611686018427387903) (hB : ∀ n ∈ d.weights Try.prog 61, n ≤ B) :
    ∃ l, SLQ w v l ∧ l.length * Try.prog.bytesOf 28 ≤ B := by
  obtain ⟨a, n, c, rfl⟩ := okWide_slice Try.underlying61 hv
  obtain ⟨fuel, hf⟩ := h
  obtain ⟨v', ys, h1, h2, h3, -⟩ := open_structs (R := RawE) (F := fun _ _ => True) B Try.underlying61 cellsQs (by omega) (fun fuel cs x hl hw hx => by
    obtain ⟨b, s, t, xs, ys, rfl, hL, hd, hL2, hd2, hB2, -⟩ := open_ratC hx
    have hh := hB2 B hw
    exact ⟨(b, xs, ys), ⟨⟨s, t, rfl, hL, hL2⟩, hd, hd2, by show xs.length + ys.length ≤ _; omega⟩, trivial⟩) hB hf
  have hcs : (Value.slice a n c).cells.toList = [Value.slice a n c] := rfl
  rw [hcs] at h1
  cases h1
  exact ⟨ys, h2, h3⟩
set_option maxRecDepth 100000 in
set_option maxHeartbeats 1000000 in
theorem open_boolsS {v : Value} {d : DataW H} {p : List MemPlace} {W0 : World} {b0 : Nat} (hv : Value.okWide Try.prog W0 .any b0 81 v) (h : DataW.Trod enc Try.prog w base spare held 81 v d p) (B : Nat) (hB : ∀ n ∈ d.weights Try.prog 81, n ≤ B) :
    ∃ l, SV (fun _ v b => v = .bool b) w v l := by
  obtain ⟨a, n, c, rfl⟩ := okWide_slice Try.underlying81 hv
  obtain ⟨fuel, hf⟩ := h
  obtain ⟨v', ys, h1, h2, h3, -⟩ := open_ones (R := fun _ v b => v = .bool b) (F := fun _ _ => True) B Try.underlying81 cellsB (fun fuel v x hw hx => by
    obtain ⟨b, hb⟩ := open_bool1 hx
    cases hb
    exact ⟨b, rfl, trivial⟩) hB hf
  have hcs : (Value.slice a n c).cells.toList = [Value.slice a n c] := rfl
  rw [hcs] at h1
  cases h1
  exact ⟨ys, h2⟩
end
end Go.Proofs.Ytkcnnlhaiahpbaa

/-
  Lists of nodes handed in to a law.
-/
namespace Go.Proofs.Ytkcnnlhaiahpbaa
open Go.RowKit
open Go.ChangeShapes Go.WideShapes Go.ChangeAt
set_option linter.unusedVariables false
set_option linter.unusedSimpArgs false

set_option maxRecDepth 100000 in
set_option maxHeartbeats 1000000 in
theorem cellsN : Try.prog.cellsOf 74 = 5 := by kernel_rfl
set_option maxRecDepth 100000 in
set_option maxHeartbeats 1000000 in
theorem cellsInt : Try.prog.cellsOf 3 = 1 := by kernel_rfl
section
variable {H : Type} {enc : TypeId × Value → H} {w : World} {base : Nat} {spare : Nat → Bool} {held : Bool}
set_option maxRecDepth 100000 in
set_option maxHeartbeats 1000000 in
theorem open_int1 {fuel : Nat} {cs : List Value} {x : DataW H × List MemPlace} (h : DataW.trod enc Try.prog w base spare held fuel 3 cs = some x) : ∃ k, cs = [.int .i64 k] ∧ (Lit.int .i64 k).wf = true ∧ x.1 = .lit (.int .i64 k) := by
  cases fuel with
  | zero => simp [DataW.trod] at h
  | succ n =>
    unfold DataW.trod at h
    rw [Try.underlying3] at h
    rcases cs with _ | ⟨c, _ | ⟨c2, cs⟩⟩ <;> (try cases c) <;> simp at h
    obtain ⟨⟨rfl, hw⟩, h2⟩ := h
    exact ⟨_, rfl, hw, by rw [← h2]⟩
set_option maxRecDepth 100000 in
set_option maxHeartbeats 1000000 in
theorem open_nodeC {fuel : Nat} {cs : List Value} {x : DataW H × List MemPlace} (h : DataW.trod enc Try.prog w base spare held fuel 74 cs = some x) : ∃ id dep b s t xs ys, cs = [.int .i64 id, .int .i64 dep, .bool b, s, t] ∧ (Lit.int .i64 id).wf = true ∧ IsL .u64 w s xs ∧ Dig W xs ∧ IsL .u64 w t ys ∧ Dig W ys ∧ (∀ B, (∀ n ∈ x.1.weights Try.prog 74, n ≤ B) → xs.length ≤ B ∧ ys.length ≤ B) := by
  obtain ⟨y0, y1, y2, n, hx, hl, h0, h1, h2⟩ := Go.Deep.trod_struct3 Try.underlying74 h
  rw [cellsN] at hl
  obtain ⟨c0, c1, c2, c3, c4, rfl⟩ : ∃ c0 c1 c2 c3 c4, cs = [c0, c1, c2, c3, c4] := by
    rcases cs with _ | ⟨c0, _ | ⟨c1, _ | ⟨c2, _ | ⟨c3, _ | ⟨c4, _ | ⟨c5, cs⟩⟩⟩⟩⟩⟩ <;> simp at hl
    exact ⟨_, _, _, _, _, rfl⟩
  obtain ⟨id, hid, wid, -⟩ := open_int1 h0
  obtain ⟨dep, hdep, -⟩ := open_int1 h1
  obtain ⟨b, s, t, xs, ys, hb, hL, hd, hL2, hd2, hB, hw⟩ := open_ratC h2
  have e0 : List.take (Try.prog.cellsOf 3) (List.drop 0 [c0, c1, c2, c3, c4]) = [c0] := by rw [cellsInt]; rfl
  have e1 : List.take (Try.prog.cellsOf 3) (List.drop 1 [c0, c1, c2, c3, c4]) = [c1] := by rw [cellsInt]; rfl
  have e2 : List.take (Try.prog.cellsOf 28) (List.drop 2 [c0, c1, c2, c3, c4]) = [c2, c3, c4] := by rw [cellsQ]; rfl
  have h0' : [c0] = [.int .i64 id] := e0 ▸ hid
  have h1' : [c1] = [.int .i64 dep] := e1 ▸ hdep
  have h2' : [c2, c3, c4] = [.bool b, s, t] := e2 ▸ hb
  simp only [List.cons.injEq, and_true] at h0' h1' h2'
  obtain ⟨rfl, rfl, rfl⟩ := h2'
  subst h0' h1'
  refine ⟨id, dep, b, _, _, xs, ys, rfl, wid, hL, hd, hL2, hd2, fun B h => hB B fun n hn => h n ?_⟩
  rw [hx]
  simp only [DataW.weights, Try.underlying74]
  first
    | exact List.mem_append_right _ (List.mem_append_right _ (List.mem_append_left _ hn))
    | (simp only [List.mem_append]; exact .inr (.inr (.inl hn)))
set_option maxRecDepth 100000 in
set_option maxHeartbeats 1000000 in
theorem open_nodesS {v : Value} {d : DataW H} {p : List MemPlace} {W0 : World} {b0 : Nat} (hv : Value.okWide Try.prog W0 .any b0 68 v) (h : DataW.Trod enc Try.prog w base spare held 68 v d p) (B : Nat) (hb : B ≤ 4611686018427387903) (hB : ∀ n ∈ d.weights Try.prog 68, n ≤ B) :
    ∃ l, SLN w v l ∧ l.length * Try.prog.bytesOf 74 ≤ B := by
  obtain ⟨a, n, c, rfl⟩ := okWide_slice Try.underlying68 hv
  obtain ⟨fuel, hf⟩ := h
  obtain ⟨v', ys, h1, h2, h3, -⟩ := open_structs (R := RawNd) (F := fun _ _ => True) B Try.underlying68 cellsN (by omega) (fun fuel cs x hl hw hx => by
    obtain ⟨id, dep, b, s, t, xs, ys, rfl, wid, hL, hd, hL2, hd2, hB2⟩ := open_nodeC hx
    have hh := hB2 B hw
    have hE : RawE w (.agg #[.bool b, s, t]) (b, xs, ys) := ⟨⟨s, t, rfl, hL, hL2⟩, hd, hd2, by show xs.length + ys.length ≤ _; omega⟩
    have hL' := hL
    have hL2' := hL2
    obtain ⟨a1, c1, rfl, -⟩ := hL'
    obtain ⟨a2, c2, rfl, -⟩ := hL2'
    exact ⟨(id, dep, b, xs, ys), ⟨b, a1, _, c1, a2, _, c2, rfl, hE, wid⟩, trivial⟩) hB hf
  have hcs : (Value.slice a n c).cells.toList = [Value.slice a n c] := rfl
  rw [hcs] at h1
  cases h1
  exact ⟨ys, h2, h3⟩
end
set_option maxRecDepth 100000 in
set_option maxHeartbeats 1000000 in
theorem bytesN : Try.prog.bytesOf 74 = 72 := by kernel_rfl
end Go.Proofs.Ytkcnnlhaiahpbaa
