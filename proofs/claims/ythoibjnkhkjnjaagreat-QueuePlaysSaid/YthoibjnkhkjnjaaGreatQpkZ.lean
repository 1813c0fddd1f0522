/-
  Two queues side by side: what a call of one leaves of the other; a copy spoiled.
-/
import Derived.Test.YthoibjnkhkjnjaaGreatQpeZ
import Derived.Test.YthoibjnkhkjnjaaGreatQpgZ
import Derived.Test.YthoibjnkhkjnjaaGreatQqoZ
import Derived.Test.YthoibjnkhkjnjaaGreatComZ
namespace Go.Proofs.YthoibjnkhkjnjaaGreat
open Go.RowKit
set_option linter.unusedVariables false
set_option linter.unusedSimpArgs false

/-! What a spoiled copy leaves. -/
set_option maxRecDepth 100000 in
set_option maxHeartbeats 1000000 in
theorem Own.two {e : TypeId} {B B' : Nat} {Q : Nat → Prop} {wX w w' : World} {ad : Option Addr} {cap cap' : Nat} {xs ys : List Value} (h : Own e B wX ad cap xs) (h' : Own e B' w ad cap' ys) (he : HurtP Q w w') (hQ : ∀ g, B ≤ g → g < wX.heap.size → ¬ Q g) : Own e B' w' ad cap' ys := by
  rcases h' with h' | ⟨g, cur, h1, h2, h3, h4⟩
  · exact .inl h'
  · rcases h with ⟨-, -, h⟩ | ⟨g', cur', k1, k2, k3, -⟩
    · rw [h1] at h
      cases h
    · rw [h1] at k1
      cases k1
      refine .inr ⟨g, cur, h1, h2, ?_, h4⟩
      rcases he.2.2.2.2 g (blk_lt h3) with e1 | ⟨hb, -⟩
      · exact e1.trans h3
      · exact absurd hb (hQ g k2 (blk_lt k3))
set_option maxRecDepth 100000 in
set_option maxHeartbeats 1000000 in
theorem FrL.two {e : TypeId} {k k' : IntKind} {B B' : Nat} {Q : Nat → Prop} {wX w w' : World} {v : Value} {xs ys : List Nat} (h : FrL e k B wX v xs) (h' : FrL e k' B' w v ys) (he : HurtP Q w w') (hQ : ∀ g, B ≤ g → g < wX.heap.size → ¬ Q g) : FrL e k' B' w' v ys := by
  obtain ⟨ad, cap, rfl, -, -, h4⟩ := h
  obtain ⟨ad', cap', h1, h2, h3, h4'⟩ := h'
  simp only [Value.slice.injEq] at h1
  obtain ⟨rfl, hl, rfl⟩ := h1
  exact ⟨ad, cap, by rw [hl], h2, h3, h4.two h4' he hQ⟩
set_option maxRecDepth 100000 in
set_option maxHeartbeats 1000000 in
theorem NdV.two {B B' k k' : Nat} {Q : Nat → Prop} {wX w w' : World} {v : Value} {x y : Nd} (h : NdV B k wX v x) (h' : NdV B' k' w v y) (he : HurtP Q w w') (hQ : ∀ g, B ≤ g → g < wX.heap.size → ¬ Q g) : NdV B' k' w' v y := by
  obtain ⟨b, a1, n1, c1, a2, n2, c2, rfl, ⟨s, t, hst, hs, ht⟩, -⟩ := h
  obtain ⟨b', a1', n1', c1', a2', n2', c2', h1, ⟨s', t', hst', hs', ht'⟩, h3⟩ := h'
  simp only [Value.agg.injEq, Array.mk.injEq, List.cons.injEq, Value.slice.injEq, Value.bool.injEq, Value.int.injEq, true_and, and_true] at h1
  obtain ⟨h10, h11, rfl, ⟨rfl, rfl, rfl⟩, rfl, rfl, rfl⟩ := h1
  simp only [Value.agg.injEq, Array.mk.injEq, List.cons.injEq, and_true] at hst hst'
  obtain ⟨-, rfl, rfl⟩ := hst
  obtain ⟨hb', hs2, ht2⟩ := hst'
  subst hs2 ht2
  exact ⟨b, a1, n1, c1, a2, n2, c2, by rw [h10, h11], ⟨_, _, by rw [hb'], hs.two hs' he hQ, ht.two ht' he hQ⟩, h3⟩
/-- What spoiling blocks h0 .. h1 leaves. -/
def SafeV (h0 h1 : Nat) (v : Value) : Prop := ∀ (B k : Nat) (w w' : World) (x : Nd), NdV B k w v x → HurtP (fun g => h0 ≤ g ∧ g < h1) w w' → NdV B k w' v x
set_option maxRecDepth 100000 in
set_option maxHeartbeats 1000000 in
theorem safe_old {B k h0 h1 : Nat} {wX : World} {v : Value} {x : Nd} (h : NdV B k wX v x) (hh : wX.heap.size ≤ h0) : SafeV h0 h1 v := fun B' k' w w' y h' he => h.two h' he fun g _ hg hq => by omega
set_option maxRecDepth 100000 in
set_option maxHeartbeats 1000000 in
theorem safe_new {B k h0 h1 : Nat} {wX : World} {v : Value} {x : Nd} (h : NdV B k wX v x) (hh : h1 ≤ B) : SafeV h0 h1 v := fun B' k' w w' y h' he => h.two h' he fun g hg _ hq => by omega
set_option maxRecDepth 100000 in
set_option maxHeartbeats 1000000 in
theorem ChgS.hurtP {bs : List Nat} {Q : Nat → Prop} {w w1 w2 : World} (h : ChgS bs w w1) (k : HurtP Q w1 w2) (hQ : ∀ g, Q g → w.heap.size ≤ g) : ChgS bs w w2 := by
  obtain ⟨h1, h2, h3, h4, h5⟩ := h
  obtain ⟨k1, k2, k3, k4, k5⟩ := k
  refine ⟨k1.trans h1, k2.trans h2, k3.trans h3, Nat.le_trans h4 k4, fun g hg hn => ?_⟩
  rcases k5 g (by omega) with e1 | ⟨hb, -⟩
  · exact e1.trans (h5 g hg hn)
  · have := hQ g hb
    omega
/-- The program's queue; each of its values is such. -/
def QuP (Pv : Value → Prop) (w0 : World) (k : Nat) (best : Bool) (p : Nat) (l : List Nd) (S : List Nat) (w : World) : Prop :=
  ∃ hv d, Bx 58 w p #[.int .i64 (ordV best), hv] ∧ QHeapP Pv w0.heap.size k w hv d ∧ HpFrom best d 0 ∧ d.toList.Perm l ∧ Ext w0 w ∧ w0.heap.size ≤ p ∧ ∀ g, hv.ownBlock = some g → g ∉ S
set_option maxRecDepth 100000 in
set_option maxHeartbeats 1000000 in
theorem QHeapP.qheap {Pv : Value → Prop} {B k : Nat} {w : World} {hv : Value} {d : Array Nd} (h : QHeapP Pv B k w hv d) : QHeap B k w hv d := by
  obtain ⟨vs, h1, h2, h3, h4, h5⟩ := h
  exact ⟨vs, h1, h2, h3, h4⟩
set_option maxRecDepth 100000 in
set_option maxHeartbeats 1000000 in
theorem qu_pushP (h0 : Nat) (w0 wX w : World) (k p : Nat) (best : Bool) (l : List Nd) (S : List Nat) (va : Value) (x : Nd) (h : Qu w0 k best p l S wX) (he : Ext wX w) (hh0 : wX.heap.size ≤ h0) (hx : NdR k w va x) (hk : k ≤ 1000) (hn : (l.length + 1) * 72 ≤ 140737488355328) (hS : ∀ g ∈ S, g < w.heap.size) :
    Calls Tryz.prog 8 #[.pointer (some ⟨p, 0, none⟩), va] w fun e w' => e = .returned (.tuple #[]) ∧ QuP (SafeV h0 w.heap.size) w0 k best p (x :: l) S w' ∧ QFr S p w w' := by
  obtain ⟨hv, d, h1, ⟨vs, q1, q2, q3, q4⟩, h3, h4, h5, h6, h7⟩ := h
  have hl := h4.length_eq
  rw [Array.length_toList] at hl
  have lim : 1000 ≤ LIM := by rw [LIM_eq]; omega
  have hsz := he.size
  have hq : QHeapP (SafeV h0 w.heap.size) w0.heap.size k w hv d := ⟨vs, q1, q2, ownsRow_ext q3 he, fun i v hi => (q4 i v hi).ext he, fun v hv => by
    obtain ⟨i, hi⟩ := List.mem_iff_getElem?.1 hv
    exact safe_old (q4 i v hi) hh0⟩
  have hqq := hq.qheap
  refine (pushP_calls (SafeV h0 w.heap.size) w0.heap.size k p best hv va d x w (h1.ext he) hq (fun v wz hz => safe_new hz (Nat.le_refl _)) h3 hx (by omega) (by omega) (by omega) (Nat.le_trans h5.size hsz)).mono ?_
  rintro e w' ⟨rfl, hc, hv', d', k1, k2, k3, k4, k5, k6⟩
  refine ⟨rfl, ⟨hv', d', k1, k2, k3, ?_, (h5.trans he).stepS hc fun g hg => ?_, h6, fun g hg hm => ?_⟩, _, hc, fun g hg => ?_⟩
  · refine k4.trans ?_
    rw [Array.toList_push]
    exact (List.perm_append_singleton _ _).trans (List.Perm.cons _ h4)
  · rcases List.mem_cons.1 hg with rfl | hg
    · exact h6
    · exact (hqq.blks g hg).1
  · rcases k6 g hg with hh | hh
    · exact h7 g hh hm
    · have := hS g hm
      omega
  · rcases List.mem_cons.1 hg with rfl | hg
    · exact .inl ⟨rfl, _, h1.ext he⟩
    · refine .inr ⟨fun hm => ?_, (hqq.blks g hg).2.2⟩
      have hg' : hv.ownBlock = some g := by
        unfold blks at hg
        cases hh : hv.ownBlock with
        | none => rw [hh] at hg; simp at hg
        | some g' => rw [hh] at hg; simp at hg; rw [hg]
      exact h7 g hg' hm
set_option maxRecDepth 100000 in
set_option maxHeartbeats 1000000 in
theorem ownsRow_hurt {Q : Nat → Prop} {B e size n : Nat} {w w' : World} {v : Value} {xs : List Value} (h : w.ownsRow B e size v n xs) (he : HurtP Q w w') (ht : e ≠ 61) : w'.ownsRow B e size v n xs := by
  refine ⟨h.1, ?_⟩
  rcases h.2 with h2 | ⟨g, cap, cur, h1, h2, h3, h4⟩
  · exact .inl h2
  · exact .inr ⟨g, cap, cur, h1, h2, Bx.hurtP (t := e) h3 he ht, h4⟩
set_option maxRecDepth 100000 in
set_option maxHeartbeats 1000000 in
theorem QuP.hurt {w0 w w' : World} {k p h0 h1 : Nat} {best : Bool} {l : List Nd} {S : List Nat} (h : QuP (SafeV h0 h1) w0 k best p l S w) (he : HurtP (fun g => h0 ≤ g ∧ g < h1) w w') (hw : w0.heap.size ≤ h0) : Qu w0 k best p l S w' := by
  obtain ⟨hv, d, k1, ⟨vs, q1, q2, q3, q4, q5⟩, h3, h4, h5, h6, h7⟩ := h
  exact ⟨hv, d, k1.hurtP he (by decide), ⟨vs, q1, q2, ownsRow_hurt q3 he (by decide), fun i v hi => q5 v (List.mem_of_getElem? hi) _ _ _ _ _ (q4 i v hi) he⟩, h3, h4, h5.hurtP he (fun g hg => by omega), h6, h7⟩
set_option maxRecDepth 100000 in
set_option maxHeartbeats 1000000 in
/-- The document's list while the program's queue is called. -/
theorem DL.fr {B k p : Nat} {S : List Nat} {Q : Nat → Prop} {wX w1 w2 w3 : World} {v : Value} {L : List Nd} (h : DL B k wX v L) (e : Ext wX w1) (hf : QFr S p w1 w2) (hh : HurtP Q w2 w3) (hQ : ∀ g, Q g → wX.heap.size ≤ g) (hS : ∀ g, v.ownBlock = some g → g ∈ S) : DL B k w3 v L := by
  obtain ⟨bs, hc, hb⟩ := hf
  have hown := h.own
  have c1 : ChgS bs wX w3 := ((e.chgS bs).more hc (fun g hg => .inl hg)).hurtP hh hQ
  refine h.chgX c1 (fun g hg cs hu => ?_) (fun g hg hm => ?_)
  · rcases hb g hg with ⟨-, ds, hd⟩ | ⟨-, ds, hd⟩
    · exact bx_ne (hu.ext e) (by decide) hd
    · exact bx_ne (hu.ext e) (by decide) hd
  · obtain ⟨-, -, cs, hcs⟩ := hown g hg
    rcases hb g hm with ⟨-, ds, hd⟩ | ⟨hn, -⟩
    · exact bx_ne (hcs.ext e) (by decide) hd
    · exact hn (hS g hg)
set_option maxRecDepth 100000 in
set_option maxHeartbeats 1000000 in
/-- The program's queue while the document's is called. -/
theorem Qu.doc {w0 w w' : World} {k p : Nat} {best : Bool} {l : List Nd} {S T bs : List Nat} (h : Qu w0 k best p l S w) (hc : ChgS bs w w') (hb : ∀ g ∈ bs, w0.heap.size ≤ g ∧ ((∃ cs, Bx 31 w g cs) ∨ (g ∈ S ∧ ∃ cs, Bx 38 w g cs))) (hT : ∀ g ∈ T, g ∈ S ∨ w.heap.size ≤ g) : Qu w0 k best p l T w' := by
  obtain ⟨hv, d, h1, h2, h3, h4, h5, h6, h7⟩ := h
  have hbl := h2.blks
  have hno : ∀ g, hv.ownBlock = some g → g ∉ bs := fun g hg hm => by
    obtain ⟨-, -, cs, hcs⟩ := hbl g (blks_mem hg)
    rcases (hb g hm).2 with ⟨ds, hd⟩ | ⟨hs, -⟩
    · exact bx_ne hcs (by decide) hd
    · exact h7 g hg hs
  have hu : ∀ g ∈ bs, ∀ cs, ¬ Bx 61 w g cs := fun g hm cs hcs => by
    rcases (hb g hm).2 with ⟨ds, hd⟩ | ⟨-, ds, hd⟩
    · exact bx_ne hcs (by decide) hd
    · exact bx_ne hcs (by decide) hd
  obtain ⟨vs, q1, q2, q3, q4⟩ := h2
  refine ⟨hv, d, hc.blk h1 (fun hm => ?_), ⟨vs, q1, q2, ⟨q3.1, ?_⟩, fun i v hi => (q4 i v hi).chgX hc hu⟩, h3, h4, h5.stepS hc fun g hg => (hb g hg).1, h6, fun g hg hm => ?_⟩
  · rcases (hb p hm).2 with ⟨ds, hd⟩ | ⟨-, ds, hd⟩
    · exact bx_ne h1 (by decide) hd
    · exact bx_ne h1 (by decide) hd
  · rcases q3.2 with hn | ⟨g, cap, cur, rfl, k1, k2, rest⟩
    · exact .inl hn
    · exact .inr ⟨g, cap, cur, rfl, k1, hc.blk k2 (hno g rfl), rest⟩
  · rcases hT g hm with hs | hs
    · exact h7 g hg hs
    · have := (hbl g (blks_mem hg)).2.1
      omega
set_option maxRecDepth 100000 in
set_option maxHeartbeats 1000000 in
theorem qu_least0 (w0 w : World) (k p : Nat) (best : Bool) (S : List Nat) (h : Qu w0 k best p [] S w) :
    Calls Tryz.prog 17 #[.pointer (some ⟨p, 0, none⟩)] w fun e w' => e = .returned (.tuple #[.agg #[.bool false, .slice none 0 0, .slice none 0 0], .bool false]) ∧ Ext w w' := by
  obtain ⟨hv, d, h1, h2, h3, h4, h5, h6, h7⟩ := h
  have hl := h4.length_eq
  rw [Array.length_toList] at hl
  obtain ⟨vs, q1, q2, q3, q4⟩ := h2
  obtain ⟨ad, cap, rfl⟩ := ownsRow_len q3
  rw [hl] at h1
  exact qleast0_calls p _ ad cap w h1
set_option maxRecDepth 100000 in
set_option maxHeartbeats 1000000 in
theorem qu_least (w0 w : World) (k p : Nat) (best : Bool) (l : List Nd) (S : List Nat) (h : Qu w0 k best p l S w) (hl : 0 < l.length) (hk : k ≤ 1000) :
    Calls Tryz.prog 17 #[.pointer (some ⟨p, 0, none⟩)] w fun e w' => ∃ va q, e = .returned (.tuple #[va, .bool true]) ∧ FrQ w.heap.size w' va q ∧ IsLeast q l ∧ szQ q ≤ k ∧ Ext w w' := by
  obtain ⟨hv, d, h1, h2, h3, h4, h5, h6, h7⟩ := h
  refine (qleast_calls w0.heap.size k p _ hv d.toList w h1 h2.dl (by rw [h4.length_eq]; exact hl) hk).mono ?_
  rintro e w' ⟨va, q, rfl, a1, ⟨⟨x, hx, hxq⟩, a2⟩, a3, a4⟩
  exact ⟨va, q, rfl, a1, ⟨⟨x, h4.mem_iff.1 hx, hxq⟩, fun y hy => a2 y (h4.mem_iff.2 hy)⟩, a3, a4⟩
end Go.Proofs.YthoibjnkhkjnjaaGreat

/-
  What the law QueuePlays asks of both queues: one answer each.
-/
namespace Go.Proofs.YthoibjnkhkjnjaaGreat
open Go.RowKit
set_option linter.unusedVariables false
set_option linter.unusedSimpArgs false

set_option maxRecDepth 100000 in
set_option maxHeartbeats 1000000 in
theorem rowI_at {B : Nat} {v : Value} {l : List Int} {w : World} (h : w.ownsRow B 3 1 v l.length (l.map (Value.int .i64))) : ∃ ad cap, v = .slice ad l.length cap ∧ l.length ≤ 9223372036854775807 ∧ ∀ i z, l[i]? = some z → ∃ g, ad = some ⟨g, 0, none⟩ ∧ ∀ wz, Ext w wz → wz.cell? ⟨g, i, none⟩ = some (.int .i64 z) := by
  rcases h.2 with ⟨rfl, h0⟩ | ⟨g, cap, cur, rfl, h2, h3, h4, h5, h6, h7⟩
  · rw [h0]
    exact ⟨none, 0, rfl, by omega, fun i z hz => by have := (List.getElem?_eq_some_iff.1 hz).1; omega⟩
  · have hio := (IO.of h).1
    unfold maxLen at h5
    exact ⟨_, _, rfl, by omega, fun i z hz => ⟨g, rfl, fun wz hw => ((hio.ext hw).cell hz).1⟩⟩
set_option maxRecDepth 100000 in
set_option maxHeartbeats 4000000 in
set_option maxRecDepth 100000 in
set_option maxHeartbeats 1000000 in
/-- Two lists of the same numbers. -/
theorem sameInts_calls (B B' : Nat) (va vb : Value) (l : List Int) (w : World) (ha : w.ownsRow B 3 1 va l.length (l.map (Value.int .i64))) (hb : w.ownsRow B' 3 1 vb l.length (l.map (Value.int .i64))) :
    Calls Tryz.prog 14 #[va, vb] w fun e w' => e = .returned (.bool true) ∧ Ext w w' := by
  obtain ⟨ad, cap, rfl, hmax, hA⟩ := rowI_at ha
  obtain ⟨ad2, cap2, rfl, -, hB⟩ := rowI_at hb
  obtain ⟨n, hn⟩ : ∃ n, n = l.length := ⟨_, rfl⟩
  rw [← hn] at hmax ⊢
  have HA := Lib.hid hA
  have HB := Lib.hid hB
  have HN := Lib.hid hn
  clear ha hb hA hB hn
  go_enter Tryz.func14, Tryz.ntmps14
  go_wp2_with fail
  go_loopw [5] (fun i wr => ∃ j : Nat, i = .int .i64 (j : Int) ∧ j ≤ n ∧ Ext w wr) (fun i _ => ((n : Int) - intOf i).toNat)
  case atStart => exact ⟨0, rfl, Nat.zero_le _, Ext.refl _⟩
  case round =>
    obtain ⟨j, rfl, hj, hE0⟩ := hrel
    rcases Nat.eq_or_lt_of_le hj with hjn | hjn
    · subst hjn
      go_wp2
      go_ret
      exact ⟨rfl, hE0⟩
    · obtain ⟨z, hz⟩ : ∃ z, l[j]? = some z := ⟨_, List.getElem?_eq_getElem (by rw [← HN.out]; exact hjn)⟩
      obtain ⟨g, rfl, hc⟩ := HA.out j z hz
      obtain ⟨g2, rfl, hc2⟩ := HB.out j z hz
      have HC := Lib.hid (And.intro hc hc2)
      have hjm : (j : Int) < (n : Int) := by omega
      clear hz hc hc2
      go_wp2_with fail
      refine wp_region_puts [] [PP.val (.slice (some ⟨g, 0, none⟩) n cap), PP.val (.int .i64 (j : Int)), PP.val (.pointer (some ⟨g, j, none⟩)), PP.val (.int .i64 z), PP.val (.slice (some ⟨g2, 0, none⟩) n cap2), PP.val (.int .i64 (j : Int)), PP.val (.pointer (some ⟨g2, j, none⟩)), PP.val (.int .i64 z), PP.val (.bool false)] [] [0, 1, 2, 3, 4, 5, 6, 7, 8]
        (by kernel_rfl) (by kernel_rfl) (fun f => (by simp only [fillR, fillL, List.setIfInBounds_toArray, List.set_cons_succ, List.set_cons_zero, Nat.reduceAdd]; rfl)) ?_ ?_ ?_ ?_ ?_
      · intro x hx; cases hx
      · intro x hx; cases hx
      · intro x hx; cases hx
      · refine ⟨?o0, ?o1, ?o2, ?o3, ?o4, ?o5, ?o6, ?o7, ?o8, trivial⟩
        case o0 =>
          intro f w2 hG hp hl
          have hE : Ext wr w2 := hG
          have hS := hE.size
          simp only [OpGoal]
          go_simp
          exact ⟨_, rfl, Ext.refl _, rfl⟩
        case o1 =>
          intro f w2 hG hp hl
          have hE : Ext wr w2 := hG
          have hS := hE.size
          simp only [OpGoal]
          go_simp
          exact ⟨_, rfl, Ext.refl _, rfl⟩
        case o2 =>
          intro f w2 hG hp hl
          have hE : Ext wr w2 := hG
          have hS := hE.size
          have q17 : f 0 = .slice (some ⟨g, 0, none⟩) n cap := tellV hp 0 0 rfl rfl (fun h => by cases h)
          have q18 : f 1 = .int .i64 (j : Int) := tellV hp 1 1 rfl rfl (fun h => by cases h)
          simp only [OpGoal]
          go_simp
          exact ⟨_, rfl, Ext.refl _, rfl⟩
        case o3 =>
          intro f w2 hG hp hl
          have hE : Ext wr w2 := hG
          have hS := hE.size
          have q19 : f 2 = .pointer (some ⟨g, j, none⟩) := tellV hp 0 2 rfl rfl (fun h => by cases h)
          have hcell := HC.out.1 _ (hE0.trans hE)
          simp only [OpGoal]
          go_simp
          exact ⟨_, rfl, Ext.refl _, rfl⟩
        case o4 =>
          intro f w2 hG hp hl
          have hE : Ext wr w2 := hG
          have hS := hE.size
          simp only [OpGoal]
          go_simp
          exact ⟨_, rfl, Ext.refl _, rfl⟩
        case o5 =>
          intro f w2 hG hp hl
          have hE : Ext wr w2 := hG
          have hS := hE.size
          simp only [OpGoal]
          go_simp
          exact ⟨_, rfl, Ext.refl _, rfl⟩
        case o6 =>
          intro f w2 hG hp hl
          have hE : Ext wr w2 := hG
          have hS := hE.size
          have q21 : f 4 = .slice (some ⟨g2, 0, none⟩) n cap2 := tellV hp 0 4 rfl rfl (fun h => by cases h)
          have q22 : f 5 = .int .i64 (j : Int) := tellV hp 1 5 rfl rfl (fun h => by cases h)
          simp only [OpGoal]
          go_simp
          exact ⟨_, rfl, Ext.refl _, rfl⟩
        case o7 =>
          intro f w2 hG hp hl
          have hE : Ext wr w2 := hG
          have hS := hE.size
          have q23 : f 6 = .pointer (some ⟨g2, j, none⟩) := tellV hp 0 6 rfl rfl (fun h => by cases h)
          have hcell := HC.out.2 _ (hE0.trans hE)
          simp only [OpGoal]
          go_simp
          exact ⟨_, rfl, Ext.refl _, rfl⟩
        case o8 =>
          intro f w2 hG hp hl
          have hE : Ext wr w2 := hG
          have hS := hE.size
          have q20 : f 3 = .int .i64 z := tellV hp 0 3 rfl rfl (fun h => by cases h)
          have q24 : f 7 = .int .i64 z := tellV hp 1 7 rfl rfl (fun h => by cases h)
          simp only [OpGoal]
          go_simp
          exact ⟨_, rfl, Ext.refl _, congrArg Value.bool (by simp)⟩
      · intro f w2 hG hp
        have hE : Ext wr w2 := ChgS.nil hG
        have q25 : f 8 = .bool false := endV hp 8 (by decide) rfl (fun h => by cases h)
        try simp only [q25]
        clear hp
        have hE2 := hE0.trans hE
        clear hE hG
        go_wp2_with fail
        go_roundw
        case rel => exact ⟨j + 1, by simp, by omega, hE2⟩
        case measure => simp [intOf]; omega
/-! The first that waits. -/
def popT (L : List Nd) : Bool := !L.isEmpty
def popI (L : List Nd) : Int := match L with | [] => 0 | x :: _ => x.id
def popD (L : List Nd) : Int := match L with | [] => 0 | x :: _ => x.depth
def popB (L : List Nd) : Bool := match L with | [] => false | x :: _ => decide (x.q.num < 0)
def popX (L : List Nd) : List Nat := match L with | [] => [] | x :: _ => dg W x.q.num.natAbs
def popY (L : List Nd) : List Nat := match L with | [] => [] | x :: _ => dg W x.q.den
/-- A node, as its digits stand. -/
def RwN (w : World) (v : Value) (i d : Int) (b : Bool) (xs ys : List Nat) : Prop := ∃ a1 n1 c1 a2 n2 c2, v = .agg #[.int .i64 i, .int .i64 d, .bool b, .slice a1 n1 c1, .slice a2 n2 c2] ∧ RawQ w (.agg #[.bool b, .slice a1 n1 c1, .slice a2 n2 c2]) b xs ys
set_option maxRecDepth 100000 in
set_option maxHeartbeats 1000000 in
theorem RwN.ext {w w' : World} {v : Value} {i d : Int} {b : Bool} {xs ys : List Nat} (h : RwN w v i d b xs ys) (he : Ext w w') : RwN w' v i d b xs ys := by
  obtain ⟨a1, n1, c1, a2, n2, c2, h1, h2⟩ := h
  exact ⟨a1, n1, c1, a2, n2, c2, h1, h2.ext he⟩
set_option maxRecDepth 100000 in
set_option maxHeartbeats 1000000 in
theorem NdV.rw {B k : Nat} {w : World} {v : Value} {x : Nd} (h : NdV B k w v x) : RwN w v x.id x.depth (decide (x.q.num < 0)) (dg W x.q.num.natAbs) (dg W x.q.den) := by
  obtain ⟨b, a1, n1, c1, a2, n2, c2, rfl, hq, -⟩ := h
  have hr := hq.raw
  obtain ⟨s, t, h1, hs, ht⟩ := id hr
  simp only [Value.agg.injEq, Array.mk.injEq, List.cons.injEq, Value.bool.injEq, and_true] at h1
  obtain ⟨rfl, -, -⟩ := h1
  exact ⟨a1, n1, c1, a2, n2, c2, rfl, hr⟩
set_option maxRecDepth 100000 in
set_option maxHeartbeats 1000000 in
theorem zero_rw (w : World) : RwN w (.agg #[.int .i64 0, .int .i64 0, .bool false, .slice none 0 0, .slice none 0 0]) 0 0 false [] [] := ⟨_, _, _, _, _, _, rfl, zeroQ.raw w⟩
set_option maxRecDepth 100000 in
set_option maxHeartbeats 4000000 in
set_option maxRecDepth 100000 in
set_option maxHeartbeats 1000000 in
/-- Two nodes are one. -/
theorem rsame_rw (va vb : Value) (i d : Int) (b : Bool) (xs ys : List Nat) (w : World) (ha : RwN w va i d b xs ys) (hb : RwN w vb i d b xs ys) :
    Calls Tryz.prog 13 #[va, vb] w fun e w' => e = .returned (.bool true) ∧ Ext w w' := by
  obtain ⟨a1, n1, c1, a2, n2, c2, rfl, hq⟩ := ha
  obtain ⟨a1', n1', c1', a2', n2', c2', rfl, hq'⟩ := hb
  have HQ := Lib.hid hq
  have HQ' := Lib.hid hq'
  obtain ⟨w1, hw1, e1, b1, b2, s1⟩ := alloc2 w #[.int .i64 i, .int .i64 d, .bool b, .slice a1 n1 c1, .slice a2 n2 c2] #[.int .i64 i, .int .i64 d, .bool b, .slice a1' n1' c1', .slice a2' n2' c2'] 38 38
  clear hq hq'
  go_enter Tryz.func13, Tryz.ntmps13
  go_wp2_with fail
  rw [← hw1]
  refine (rqsame3_calls _ _ _ _ _ _ _ _ w1 (HQ.out.ext e1) (HQ'.out.ext e1)).mono ?_
  rintro e w2 ⟨rfl, e2⟩
  go_wp2
  go_ret
  exact ⟨by simp, e1.trans e2⟩
set_option maxRecDepth 100000 in
set_option maxHeartbeats 1000000 in
theorem tw_qpop (w0 w : World) (best : Bool) (p : Nat) (l L : List Nd) (S : List Nat) (h : Qu w0 6 best p l S w) (hp : l.Perm L) (hs : Srt best L) (hn : L.length ≤ 35184372088832) :
    Calls Tryz.prog 11 #[.pointer (some ⟨p, 0, none⟩)] w fun e w' => ∃ va l', e = .returned (.tuple #[va, .bool (popT L)]) ∧ RwN w' va (popI L) (popD L) (popB L) (popX L) (popY L) ∧ (∀ wz m, Chg m w' wz → (∃ cs, Bx 31 w' m cs) → RwN wz va (popI L) (popD L) (popB L) (popX L) (popY L)) ∧ Qu w0 6 best p l' S w' ∧ l'.Perm L.tail ∧ QFr S p w w' := by
  cases L with
  | nil =>
    have hl := hp.eq_nil
    subst hl
    refine (qu_pop0 w0 w 6 p best S h).mono ?_
    rintro e w' ⟨rfl, he⟩
    exact ⟨_, [], rfl, zero_rw _, fun wz m _ _ => zero_rw _, h.ext he, List.Perm.refl _, .of_ext he⟩
  | cons y T =>
    have hl : l ≠ [] := fun e => by rw [e] at hp; exact absurd hp.length_eq (by simp)
    refine (qu_pop w0 w 6 p best l S h hl (by omega) (by rw [hp.length_eq]; exact hn)).mono ?_
    rintro e w' ⟨x, va, l', rfl, h1, h2, h3, h4, h5⟩
    obtain ⟨hxy, hT⟩ := srt_first (L := []) hs hp h1 h2
    subst hxy
    exact ⟨va, l', rfl, h3.rw, fun wz m hc hm => (h3.chgX (hc.chgS (bs := [m]) (by simp)) (fun g hg cs hcs => by
      rw [List.mem_singleton.1 hg] at hcs
      obtain ⟨ds, hd⟩ := hm
      exact bx_ne hcs (by decide) hd)).rw, h4, hT, h5⟩
set_option maxRecDepth 100000 in
set_option maxHeartbeats 1000000 in
theorem tw_rpop (B m : Nat) (best : Bool) (v : Value) (L : List Nd) (w : World) (hp : Bx 31 w m #[.int .i64 (ordV best), v]) (h : DL B 6 w v L) (hn : L.length ≤ 35184372088832) :
    Calls Tryz.prog 12 #[.pointer (some ⟨m, 0, none⟩)] w fun e w' => ∃ va v', e = .returned (.tuple #[va, .bool (popT L)]) ∧ RwN w' va (popI L) (popD L) (popB L) (popX L) (popY L) ∧ Chg m w w' ∧ Bx 31 w' m #[.int .i64 (ordV best), v'] ∧ DL B 6 w' v' L.tail ∧ blks v' = blks v := by
  cases L with
  | nil =>
    obtain ⟨ad, cap, rfl⟩ := h.val
    refine (rpop0_calls m _ ad cap w hp).mono ?_
    rintro e w' ⟨rfl, he⟩
    exact ⟨_, _, rfl, zero_rw _, he.chg m, hp.ext he, h.ext he, rfl⟩
  | cons x T =>
    refine (rpop_calls B 6 m _ v x T w hp h ⟨_, rfl⟩ (by simpa using hn)).mono ?_
    rintro e w' ⟨va, v', rfl, h1, h2, h3, h4, h5⟩
    refine ⟨va, v', rfl, h1.rw, h2, h3, h4, ?_⟩
    unfold blks
    rw [h5]
/-! The least cost. -/
def AnsL (L : List Nd) (t b : Bool) (xs ys : List Nat) : Prop := (L = [] ∧ t = false ∧ b = false ∧ xs = [] ∧ ys = []) ∨ ∃ q, IsLeast q L ∧ t = true ∧ b = decide (q.num < 0) ∧ xs = dg W q.num.natAbs ∧ ys = dg W q.den
set_option maxRecDepth 100000 in
set_option maxHeartbeats 1000000 in
theorem IsLeast.ne {q : Rat} {L : List Nd} (h : IsLeast q L) : L ≠ [] := by
  rintro rfl
  obtain ⟨⟨x, hx, -⟩, -⟩ := h
  cases hx
set_option maxRecDepth 100000 in
set_option maxHeartbeats 1000000 in
theorem AnsL.uniq {l L : List Nd} {t b t' b' : Bool} {xs ys xs' ys' : List Nat} (h : AnsL L t b xs ys) (h' : AnsL l t' b' xs' ys') (hp : l.Perm L) : t' = t ∧ b' = b ∧ xs' = xs ∧ ys' = ys := by
  rcases h with ⟨h1, rfl, rfl, rfl, rfl⟩ | ⟨q, hq, rfl, rfl, rfl, rfl⟩ <;> rcases h' with ⟨h1', rfl, rfl, rfl, rfl⟩ | ⟨q', hq', rfl, rfl, rfl, rfl⟩
  · exact ⟨rfl, rfl, rfl, rfl⟩
  · subst h1
    exact absurd hp.eq_nil hq'.ne
  · subst h1'
    exact absurd hp.symm.eq_nil hq.ne
  · have e := hq.uniq hq' hp
    subst e
    exact ⟨rfl, rfl, rfl, rfl⟩
/-- A fraction, as its digits stand; spoiling it harms only what is new since B. -/
def RwQ (B : Nat) (w : World) (v : Value) (b : Bool) (xs ys : List Nat) : Prop := ∃ a1 n1 c1 a2 n2 c2, v = .agg #[.bool b, .slice a1 n1 c1, .slice a2 n2 c2] ∧ RawQ w v b xs ys ∧ ShpR (fun g => B ≤ g) w v
set_option maxRecDepth 100000 in
set_option maxHeartbeats 1000000 in
theorem FrQ.rwq {B : Nat} {w : World} {v : Value} {q : Rat} (h : FrQ B w v q) : RwQ B w v (decide (q.num < 0)) (dg W q.num.natAbs) (dg W q.den) := by
  obtain ⟨b, ad, l, cap, bd, m, dap, rfl, q5⟩ := h.opn
  have hr := h.raw
  have hs := h.shpP (Nat.le_refl _)
  obtain ⟨s, t, h1, -, -⟩ := id hr
  simp only [Value.agg.injEq, Array.mk.injEq, List.cons.injEq, Value.bool.injEq, and_true] at h1
  obtain ⟨rfl, -, -⟩ := h1
  refine ⟨_, _, _, _, _, _, rfl, hr, ?_⟩
  obtain ⟨b', s', t', h3, ⟨ad, l, cap, h4, h5, h6⟩, ⟨ad', l', cap', h4', h5', h6'⟩⟩ := hs
  exact ⟨b', s', t', h3, ⟨ad, l, cap, h4, h5, h6.imp_right fun ⟨g, cur, k1, k2, k3⟩ => ⟨g, cur, k1, k2.1, k3⟩⟩, ⟨ad', l', cap', h4', h5', h6'.imp_right fun ⟨g, cur, k1, k2, k3⟩ => ⟨g, cur, k1, k2.1, k3⟩⟩⟩
set_option maxRecDepth 100000 in
set_option maxHeartbeats 1000000 in
theorem zero_rwq (B : Nat) (w : World) : RwQ B w (.agg #[.bool false, .slice none 0 0, .slice none 0 0]) false [] [] := ⟨_, _, _, _, _, _, rfl, zeroQ.raw w, _, _, _, rfl, ⟨_, _, _, rfl, by omega, .inl rfl⟩, ⟨_, _, _, rfl, by omega, .inl rfl⟩⟩
set_option maxRecDepth 100000 in
set_option maxHeartbeats 1000000 in
theorem tw_qleast (w0 w : World) (best : Bool) (p : Nat) (l : List Nd) (S : List Nat) (h : Qu w0 6 best p l S w) :
    Calls Tryz.prog 17 #[.pointer (some ⟨p, 0, none⟩)] w fun e w' => ∃ va t b xs ys, e = .returned (.tuple #[va, .bool t]) ∧ AnsL l t b xs ys ∧ RwQ w.heap.size w' va b xs ys ∧ Ext w w' := by
  by_cases hl : l = []
  · subst hl
    refine (qu_least0 w0 w 6 p best S h).mono ?_
    rintro e w' ⟨rfl, he⟩
    exact ⟨_, _, _, _, _, rfl, .inl ⟨rfl, rfl, rfl, rfl, rfl⟩, zero_rwq _ _, he⟩
  · refine (qu_least w0 w 6 p best l S h (List.length_pos_iff.2 hl) (by omega)).mono ?_
    rintro e w' ⟨va, q, rfl, h1, h2, -, he⟩
    exact ⟨_, _, _, _, _, rfl, .inr ⟨q, h2, rfl, rfl, rfl, rfl⟩, h1.rwq, he⟩
set_option maxRecDepth 100000 in
set_option maxHeartbeats 1000000 in
theorem tw_rleast (B m : Nat) (best : Bool) (v : Value) (L : List Nd) (w : World) (hp : Bx 31 w m #[.int .i64 (ordV best), v]) (h : DL B 6 w v L) :
    Calls Tryz.prog 18 #[.pointer (some ⟨m, 0, none⟩)] w fun e w' => ∃ va t b xs ys, e = .returned (.tuple #[va, .bool t]) ∧ AnsL L t b xs ys ∧ RwQ B w' va b xs ys ∧ Ext w w' := by
  by_cases hl : L = []
  · subst hl
    obtain ⟨ad, cap, rfl⟩ := h.val
    refine (rleast0_calls m _ ad cap w hp).mono ?_
    rintro e w' ⟨rfl, he⟩
    exact ⟨_, _, _, _, _, rfl, .inl ⟨rfl, rfl, rfl, rfl, rfl⟩, zero_rwq _ _, he⟩
  · refine (rleast_calls B 6 m _ v L w hp h (List.length_pos_iff.2 hl) (by omega)).mono ?_
    rintro e w' ⟨va, q, rfl, h1, h2, -, he⟩
    exact ⟨_, _, _, _, _, rfl, .inr ⟨q, h2, rfl, rfl, rfl, rfl⟩, h1.rwq, he⟩
end Go.Proofs.YthoibjnkhkjnjaaGreat

/-
  A region that draws its order and holds calls that change one old block each; what is told of such a call speaks of its value, too.
-/
namespace Go.Proofs.YthoibjnkhkjnjaaGreat
open Go.RowKit
set_option linter.unusedVariables false
set_option linter.unusedSimpArgs false

/-- A store: which operation, which block, of which type, and what is told of what it stores. -/
structure Sv (S : Nat) (gs : List Nat) (J : World → Prop) where
  s : Nat
  g : Nat
  F : Value → World → Prop
  m : ∀ v w1 w2, Ext w1 w2 → F v w1 → F v w2
  m2 : ∀ g', g' ≠ g → g' ∈ gs → ∀ v w1 w2, J w1 → J w2 → Chg g' w1 w2 → F v w1 → F v w2
def svAt {S : Nat} {gs : List Nat} {J : World → Prop} : List (Sv S gs J) → Nat → Option (Sv S gs J)
  | [], _ => none
  | x :: l, k => if k = x.s then some x else svAt l k
set_option maxRecDepth 100000 in
set_option maxHeartbeats 1000000 in
theorem svAt_mem {S : Nat} {gs : List Nat} {J : World → Prop} {l : List (Sv S gs J)} {k : Nat} {x : Sv S gs J} (h : svAt l k = some x) : x ∈ l ∧ x.s = k := by
  induction l with
  | nil => cases h
  | cons y l ih =>
    simp only [svAt] at h
    split at h
    · cases h; exact ⟨List.mem_cons_self .., by omega⟩
    · exact ⟨List.mem_cons_of_mem _ (ih h).1, (ih h).2⟩

/-- What is told of operation k at world v, the region begun at w. -/
def postW {S : Nat} {gs : List Nat} {J : World → Prop} (w : World) (sts : List (Sv S gs J)) (L : List (PP S)) (k : Nat) (v : Value) (w1 : World) : Prop :=
  match svAt sts k with
  | some x => x.F v w1
  | none => ((L.getD k PP.any).c = true → Ext w w1) → (L.getD k PP.any).p v w1

set_option maxRecDepth 100000 in
set_option maxHeartbeats 1000000 in
/-- What is told of an operation that lies ahead. -/
theorem tellW {S : Nat} {gs : List Nat} {J : World → Prop} {w w1 : World} {sts : List (Sv S gs J)} {L : List (PP S)} {f : Nat → Value} {l : List Edge} (hp : PostsOf (postW w sts L) f w1 l) (n j : Nat)
    (h : (match l[n]? with | some e => Region.binds .any e && e.on == j | none => false) = true) (hs : svAt sts j = none) (hc : (L.getD j PP.any).c = true → Ext w w1) : (L.getD j PP.any).p (f j) w1 := by
  have := postsOf_nth l n j h hp
  unfold postW at this
  rw [hs] at this
  exact this hc
set_option maxRecDepth 100000 in
set_option maxHeartbeats 1000000 in
/-- What is told at the end. -/
theorem endWS {S : Nat} {gs : List Nat} {J : World → Prop} {w w1 : World} {sts : List (Sv S gs J)} {L : List (PP S)} {f : Nat → Value} {n : Nat} (hp : AllPosts (postW w sts L) f w1 n 0) (k : Nat) (hk : k < n) : postW w sts L k (f k) w1 :=
  allPosts_nth n 0 k (Nat.zero_le _) (by omega) hp
set_option maxRecDepth 100000 in
set_option maxHeartbeats 1000000 in
theorem endW {S : Nat} {gs : List Nat} {J : World → Prop} {w w1 : World} {sts : List (Sv S gs J)} {L : List (PP S)} {f : Nat → Value} {n : Nat} (hp : AllPosts (postW w sts L) f w1 n 0) (j : Nat) (hk : j < n) (hs : svAt sts j = none) (hc : (L.getD j PP.any).c = true → Ext w w1) : (L.getD j PP.any).p (f j) w1 := by
  have := endWS hp j hk
  unfold postW at this
  rw [hs] at this
  exact this hc

/-- What operation k owes: where all stores are known to lie behind it (pre), nothing is changed yet. -/
def OweW {S : Nat} {gs : List Nat} {J : World → Prop} (P : Program) (fr : (Nat → Value) → Array Value) (df : List Deferred) (w : World) (sts : List (Sv S gs J)) (L : List (PP S)) (T : World → Prop) (lates : List (Nat × Nat × Nat)) (tmps : Array Value) (pre : List Nat) (k : Nat) (o : Oper) : Prop :=
  ∀ f w1, J w1 → (if pre.contains k then Ext w w1 else ChgS (sts.map (·.g)) w w1) → PostsOf (postW w sts L) f w1 o.after.toList → LateFacts tmps f k lates →
    ∀ both : Bool, (both = true → ∀ y ∈ sts, y.s ≠ k → y.F (f y.s) w1) →
    match svAt sts k with
    | some x => w1.heap[x.g]? = w.heap[x.g]? → OpGoal P o ⟨fr f, df⟩ f w1 (fun a b => Chg x.g a b ∧ J b) (fun v w2 => x.F v w2 ∧ (both = true → T w2))
    | none => OpGoal P o ⟨fr f, df⟩ f w1 Ext (L.getD k PP.any).p
def OwesW {S : Nat} {gs : List Nat} {J : World → Prop} (P : Program) (fr : (Nat → Value) → Array Value) (df : List Deferred) (w : World) (sts : List (Sv S gs J)) (L : List (PP S)) (T : World → Prop) (lates : List (Nat × Nat × Nat)) (tmps : Array Value) (pre : List Nat) : List Oper → Nat → Prop
  | [], _ => True
  | o :: l, k => OweW P fr df w sts L T lates tmps pre k o ∧ OwesW P fr df w sts L T lates tmps pre l (k + 1)
set_option maxRecDepth 100000 in
set_option maxHeartbeats 1000000 in
theorem owesW_at {S : Nat} {gs : List Nat} {J : World → Prop} {P : Program} {fr : (Nat → Value) → Array Value} {df : List Deferred} {w : World} {sts : List (Sv S gs J)} {L : List (PP S)} {T : World → Prop} {lates : List (Nat × Nat × Nat)} {tmps : Array Value} {pre : List Nat} :
    ∀ (l : List Oper) (k : Nat), OwesW P fr df w sts L T lates tmps pre l k → ∀ i o, l[i]? = some o → OweW P fr df w sts L T lates tmps pre (k + i) o
  | [], _, _, i, o, h => by simp at h
  | x :: l, k, hs, i, o, h => by
    cases i with
    | zero =>
      simp only [List.getElem?_cons_zero, Option.some.injEq] at h
      subst h
      exact hs.1
    | succ i =>
      have := owesW_at l (k + 1) hs.2 i o (by simpa using h)
      rwa [show k + 1 + i = k + (i + 1) by omega] at this

set_option maxRecDepth 100000 in
set_option maxHeartbeats 1000000 in
/-- A REGION THAT DRAWS ITS ORDER, CALLS, AND STORES INTO BLOCKS THAT WERE THERE WHEN IT BEGAN. -/
theorem wp_region_putv {P : Program} {id : Nat} {l : List Oper} {Q : Exit → Act → World → Prop} {tmps : Array Value} {df : List Deferred} {w : World} {fr : (Nat → Value) → Array Value}
    (gs : List Nat) (J : World → Prop) (sts : List (Sv w.heap.size gs J)) (L : List (PP w.heap.size)) (T : World → Prop) (lates : List (Nat × Nat × Nat)) (pre : List Nat)
    (hm : P.follows .mixedOrders = true) (hok : (regOk l.toArray tmps.size && lateOk l.toArray lates && (sts.map (·.s)).all fun s => ancOk l.toArray [s] (pre.filter (· != s))) = true)
    (hfr : ∀ f, fillR l.toArray tmps f = fr f)
    (hlt : ∀ x ∈ sts, x.g < w.heap.size) (hs : ∀ x ∈ sts, svAt sts x.s = some x) (hne : ∀ x ∈ sts, ∀ y ∈ sts, x.s ≠ y.s → x.g ≠ y.g)
    (hgs : ∀ x ∈ sts, x.g ∈ gs) (hn0 : sts ≠ []) (hsl : ∀ y ∈ sts, y.s < l.toArray.size) (hTm : ∀ w1 w2, Ext w1 w2 → T w1 → T w2) (hJ0 : J w) (hJm : ∀ w1 w2, Ext w1 w2 → J w1 → J w2)
    (hstep : OwesW P fr df w sts L T lates tmps pre l 0)
    (hend : ∀ f w1, J w1 → T w1 → ChgS (sts.map (·.g)) w w1 → AllPosts (postW w sts L) f w1 l.length 0 → Q .normal ⟨fr f, df⟩ w1) :
    (Code.region id l.toArray true).wp P Q ⟨tmps, df⟩ w := by
  simp only [Bool.and_eq_true] at hok
  obtain ⟨⟨hok1, hok2⟩, hok3⟩ := hok
  have key : ∀ {w1 w2 : World} {g : Nat}, ChgS (sts.map (·.g)) w w1 → w1.heap[g]? = w.heap[g]? → Chg g w1 w2 → Ext w w2 → g < w.heap.size → Ext w w1 ∧ Ext w1 w2 := by
    intro w1 w2 g hG hg hR hE hgl
    have e1 : Ext w w1 := ⟨hG.1, hG.2.1, hG.2.2.1, hG.2.2.2.1, fun i hi _ => by
      by_cases hig : i = g
      · rw [hig]; exact hg
      · rw [← hR.heap (Nat.lt_of_lt_of_le hi hG.2.2.2.1) hig]; exact hE.heap hi⟩
    refine ⟨e1, World.grownBy.os hR, World.grownBy.tape hR, World.grownBy.output hR, hR.size, fun i hi _ => ?_⟩
    by_cases hig : i = g
    · rw [hig, hE.heap hgl, hg]
    · exact hR.heap hi hig
  refine wp_region_posts (D := fun listed f b => (∀ y ∈ sts, listed y.s = true → y.F (f y.s) b) ∧ ((∀ y ∈ sts, listed y.s = true) → T b)) (G := fun a b => ChgS (sts.map (·.g)) a b ∧ J b) (G0 := fun s w w1 => w.heap.size ≤ w1.heap.size ∧ ∀ x, svAt sts s = some x → w1.heap[x.g]? = w.heap[x.g]?)
    (R := fun i w1 w2 => match svAt sts i with | some x => Chg x.g w1 w2 ∧ w1.heap[x.g]? = w.heap[x.g]? ∧ J w2 | none => Ext w1 w2) (post := postW w sts L) hm hok1 (fun _ => ⟨fun y _ h => (by cases h), fun h => (by obtain ⟨y, hy⟩ := List.exists_mem_of_ne_nil _ hn0; cases h y hy)⟩) ⟨(Ext.refl w).drew.chgS _, hJm _ _ (Ext.refl w).drew hJ0⟩ (fun s => ⟨(Ext.refl w).drew.size, fun _ _ => rfl⟩) ?_ ?_ ?_ ?_ ?_
  · rintro i w1 w2 ⟨hG, hJ1⟩ hR
    cases hx : svAt sts i with
    | none => rw [hx] at hR; exact ⟨hG.trans (hR.chgS _), hJm _ _ hR hJ1⟩
    | some x => rw [hx] at hR; refine ⟨hG.trans ?_, hR.2.2⟩; exact (hR.1.chgS (List.mem_map.2 ⟨x, (svAt_mem hx).1, rfl⟩))
  · intro s i w1 w2 his h hR
    have hsz : w1.heap.size ≤ w2.heap.size := by
      cases hx : svAt sts i with
      | none => rw [hx] at hR; exact hR.size
      | some x => rw [hx] at hR; exact hR.1.size
    refine ⟨Nat.le_trans h.1 hsz, fun y hy => ?_⟩
    have hyl := hlt y (svAt_mem hy).1
    cases hx : svAt sts i with
    | none => rw [hx] at hR; exact (hR.heap (by have := h.1; omega)).trans (h.2 y hy)
    | some x =>
      rw [hx] at hR
      have := hne y (svAt_mem hy).1 x (svAt_mem hx).1 (by rw [(svAt_mem hy).2, (svAt_mem hx).2]; omega)
      exact (hR.1.heap (by have := h.1; omega) this).trans (h.2 y hy)
  · rintro i j v w1 w2 hij ⟨hG, hJ1⟩ hR hp
    unfold postW at hp ⊢
    cases hxj : svAt sts j with
    | none =>
      rw [hxj] at hR
      cases hxi : svAt sts i with
      | some x =>
        rw [hxi] at hp
        exact x.m _ _ _ hR hp
      | none =>
        rw [hxi] at hp
        intro hE
        refine (L.getD i PP.any).m _ _ _ hR (hp fun hc => ?_)
        have hE := hE hc
        exact ⟨hG.1, hG.2.1, hG.2.2.1, hG.2.2.2.1, fun k hk _ => by rw [← hR.heap (Nat.lt_of_lt_of_le hk hG.2.2.2.1)]; exact hE.heap hk⟩
    | some x =>
      rw [hxj] at hR
      have hxl := hlt x (svAt_mem hxj).1
      cases hxi : svAt sts i with
      | some y =>
        rw [hxi] at hp
        have := hne y (svAt_mem hxi).1 x (svAt_mem hxj).1 (by rw [(svAt_mem hxi).2, (svAt_mem hxj).2]; omega)
        exact y.m2 _ (fun h => this h.symm) (hgs x (svAt_mem hxj).1) _ _ _ hJ1 hR.2.2 hR.1 hp
      | none =>
        rw [hxi] at hp
        intro hE
        cases hc : (L.getD i PP.any).c with
        | true =>
          obtain ⟨e1, e2⟩ := key hG hR.2.1 hR.1 (hE hc) hxl
          exact (L.getD i PP.any).m _ _ _ e2 (hp fun _ => e1)
        | false => exact (L.getD i PP.any).m2 hc _ hxl _ _ _ hR.1 (hp fun h => by rw [hc] at h; cases h)
  · rintro i o ho listed f w1 hli _ ⟨hDF, hDT⟩ ⟨hG, hJ1⟩ hpre hp hl
    have hO := owesW_at l 0 hstep i o (by simpa using ho)
    rw [Nat.zero_add] at hO
    rw [hfr]
    have hE : (if pre.contains i then Ext w w1 else ChgS (sts.map (·.g)) w w1) := by
      split
      · rename_i hpi
        refine ⟨hG.1, hG.2.1, hG.2.2.1, hG.2.2.2.1, fun k hk _ => ?_⟩
        by_cases hk2 : k ∈ sts.map (·.g)
        · obtain ⟨x, hx, rfl⟩ := List.mem_map.1 hk2
          have hxs := List.all_eq_true.1 hok3 x.s (List.mem_map.2 ⟨x, hx, rfl⟩)
          have hanc : Anc l.toArray i x.s := by
            by_cases his : i = x.s
            · rw [his]; exact .self
            · refine anc_of _ [x.s] (fun j hj => ?_) hxs i (List.mem_filter.2 ⟨by simpa using hpi, by simpa using his⟩)
              have : j = x.s := by simpa using hj
              rw [this]; exact .self
          have h2 := (hpre x.s hanc).2
          exact h2 x (hs x hx)
        · exact hG.2.2.2.2 k hk hk2
      · exact hG
    have hboth : (sts.all fun y => y.s == i || listed y.s) = true → ∀ y ∈ sts, y.s ≠ i → y.F (f y.s) w1 := fun h y hy hn => by
      have h2 := List.all_eq_true.1 h y hy
      simp only [Bool.or_eq_true, beq_iff_eq] at h2
      exact hDF y hy (h2.resolve_left hn)
    have hg := hO f w1 hJ1 hE (postsOf_of _ fun e he hb => hp e (Array.mem_toList_iff.1 he) hb) (lateFacts_of hl lates hok2) _ hboth
    unfold postW
    cases hx : svAt sts i with
    | none =>
      simp only [hx] at hg
      have hni : ∀ y ∈ sts, y.s ≠ i := fun y hy e => by
        have := hs y hy
        rw [e, hx] at this
        cases this
      refine OpGoal.mono (fun _ h => by simp only [hx]; exact h) (fun v w' hR h => ⟨by simp only [hx]; exact fun _ => h, fun y hy hly => ?_, fun hall => ?_⟩) (fun h => ⟨by simp only [hx]; exact fun _ => h, fun y hy hly => ?_, fun hall => ?_⟩) hg
      · simp only [hni y hy, if_false] at hly ⊢
        exact y.m _ _ _ hR (hDF y hy hly)
      · refine hTm _ _ hR (hDT fun y hy => ?_)
        have := hall y hy
        simpa only [hni y hy, if_false] using this
      · simp only [hni y hy, if_false] at hly ⊢
        exact hDF y hy hly
      · refine hDT fun y hy => ?_
        have := hall y hy
        simpa only [hni y hy, if_false] using this
    | some x =>
      simp only [hx] at hg
      have hxm := svAt_mem hx
      have h0 := (hpre i .self).2 x hx
      have hyx : ∀ y ∈ sts, y.s = i → y = x := fun y hy e => by
        have := hs y hy
        rw [e, hx] at this
        cases this
        rfl
      have hyg : ∀ y ∈ sts, y.s ≠ i → y.g ≠ x.g := fun y hy hn => hne y hy x hxm.1 (by rw [hxm.2]; exact hn)
      refine OpGoal.mono (fun w' h => by simp only [hx]; exact ⟨h.1, h0, h.2⟩) (fun v w' hR h => ⟨by simp only [hx]; exact h.1, fun y hy hly => ?_, fun hall => ?_⟩) (fun h => ⟨by simp only [hx]; exact h.1, fun y hy hly => ?_, fun hall => ?_⟩) (hg h0)
      · by_cases hyi : y.s = i
        · have e := hyx y hy hyi
          subst e
          simp only [hyi, if_true]
          exact h.1
        · simp only [hyi, if_false] at hly ⊢
          exact y.m2 _ (fun h => hyg y hy hyi h.symm) (hgs x hxm.1) _ _ _ hJ1 hR.2 hR.1 (hDF y hy hly)
      · refine h.2 (List.all_eq_true.2 fun y hy => ?_)
        have h3 := hall y hy
        by_cases hyi : y.s = i
        · simp [hyi]
        · simp only [hyi, if_false] at h3
          simp [h3]
      · by_cases hyi : y.s = i
        · have e := hyx y hy hyi
          subst e
          simp only [hyi, if_true]
          exact h.1
        · simp only [hyi, if_false] at hly ⊢
          exact hDF y hy hly
      · refine h.2 (List.all_eq_true.2 fun y hy => ?_)
        have h3 := hall y hy
        by_cases hyi : y.s = i
        · simp [hyi]
        · simp only [hyi, if_false] at h3
          simp [h3]
  · rintro f w1 ⟨hG, hJ1⟩ hp ⟨listed, hall, -, hT⟩
    rw [hfr]
    exact hend f w1 hJ1 (hT fun y hy => hall _ (hsl y hy)) hG (allPosts_of _ _ fun i _ hi => hp i (by simpa using hi))
set_option maxRecDepth 100000 in
set_option maxHeartbeats 1000000 in
/-- A call by its contract, which may change something. -/
theorem og_callR {P : Program} {o : Oper} {a : Act} {f : Nat → Value} {w : World} {R : World → World → Prop} {post : Value → World → Prop} {fn : Func} (F : FuncId) (xs : Array Operand) (ts : Array TypeId) (args : Array Value) (hf : P.funcs[F]? = some fn) (hn : (fn.name == "runtime.NumGoroutine") = false) (hb : fn.body.isNone = false) (hgd : o.guard = none) (ho : o.op = .call { callee := .value (.func F), args := xs, argTypes := ts })
    (ha : xs.map a.eval = args) (hc : Calls P F args w fun e w' => ∃ v, e = .returned v ∧ R w w' ∧ post v w') : OpGoal P o a f w R post := by
  unfold OpGoal
  rw [hgd]
  unfold Oper.wp
  have hrun : (execOp a.eval o).run P w = .ok (.enter F args) w := by
    subst ha
    have h1 : fn.name ≠ "runtime.NumGoroutine" := by simpa using hn
    have h2 : ¬ fn.body = none := by intro h; simp [h] at hb
    simp [execOp, ho, resolve, Deferred.ofValue, Act.eval, invoke, callFunc, hf, h1, h2]
  rw [hrun, Oper.upon_enter]
  refine hc.mono ?_
  rintro e w' ⟨v, rfl, h1, h2⟩
  exact ⟨v, rfl, h1, h2⟩
set_option maxRecDepth 100000 in
set_option maxHeartbeats 1000000 in
/-- What is told of a call that changes a block. -/
theorem tellWS {S : Nat} {gs : List Nat} {J : World → Prop} {w w1 : World} {sts : List (Sv S gs J)} {L : List (PP S)} {f : Nat → Value} {l : List Edge} (hp : PostsOf (postW w sts L) f w1 l) (n j : Nat) (x : Sv S gs J)
    (h : (match l[n]? with | some e => Region.binds .any e && e.on == j | none => false) = true) (hs : svAt sts j = some x) : x.F (f j) w1 := by
  have := postsOf_nth l n j h hp
  unfold postW at this
  rw [hs] at this
  exact this
end Go.Proofs.YthoibjnkhkjnjaaGreat
