/-
  A node put into the queue: as before, with what is said of the nodes' values.
-/
import Derived.Test.YthoibjnkhkjnjaaGreatQqlZ
import Derived.Test.YthoibjnkhkjnjaaGreatQqfZ
namespace Go.Proofs.YthoibjnkhkjnjaaGreat
open Go.RowKit
set_option linter.unusedVariables false
set_option linter.unusedSimpArgs false

/-- The heap in memory; each of its values is such. -/
def QHeapP (Pv : Value → Prop) (B k : Nat) (w : World) (hv : Value) (d : Array Nd) : Prop := ∃ vs : List Value, vs.length = d.size ∧ Five vs ∧ w.ownsRow B 38 5 hv d.size (flat vs) ∧ (∀ (i : Nat) (v : Value), vs[i]? = some v → NdV B k w v d[i]!) ∧ ∀ v ∈ vs, Pv v
set_option maxRecDepth 100000 in
set_option maxHeartbeats 1000000 in
theorem hold_qheapP {Pv : Value → Prop} {B k g cap n : Nat} {rest : List Value} {w : World} {vs : List Value} {d : Array Nd} (h : Nds B k g rest w vs d) (hB : B ≤ g) (hn : d.size = n) (hc : n ≤ cap) (hm : cap ≤ 9223372036854775807) (hl : vs.length * 5 + rest.length = cap * 5) (hP : ∀ v ∈ vs, Pv v) : QHeapP Pv B k w (.slice (some ⟨g, 0, none⟩) n cap) d := by
  refine ⟨vs, h.1, h.2.1.1, ⟨?_, .inr ⟨g, cap, _, by rw [hn], hB, h.2.1.2, by omega, by unfold maxLen; omega, ?_, ?_⟩⟩, h.2.2, hP⟩
  · rw [flat_len h.2.1.1.size, h.1]
  · simp only [List.size_toArray, List.length_append]
    rw [flat_len h.2.1.1.size]
    exact hl
  · show (flat vs ++ rest).take (d.size * 5) = flat vs
    rw [List.take_append_of_le_length (by rw [flat_len h.2.1.1.size, h.1]; exact Nat.le_refl _), List.take_of_length_le (by rw [flat_len h.2.1.1.size, h.1]; exact Nat.le_refl _)]

/-- What holds at the label. -/
def PushHP (Pv : Value → Prop) (B k p n i g cap' : Nat) (best : Bool) (hv : Value) (d : Array Nd) (x : Nd) (w w' : World) (rest us : List Value) (d' : Array Nd) : Prop :=
  i < n + 1 ∧ Hid (Nds B k g rest w' us d' ∧ UpInv best d' i ∧ d'.toList.Perm (d.push x).toList ∧ d'.size = n + 1 ∧ ChgS (p :: blks hv) w w' ∧ Bx 58 w' p #[.int .i64 (ordV best), .slice (some ⟨g, 0, none⟩) (n + 1) cap'] ∧ n + 1 ≤ cap' ∧ cap' ≤ 9223372036854775807 ∧ us.length * 5 + rest.length = cap' * 5 ∧ B ≤ g ∧ (hv.ownBlock = some g ∨ w.heap.size ≤ g) ∧ ∀ u ∈ us, Pv u)
def PushJP (Pv : Value → Prop) (B k p n : Nat) (best : Bool) (hv : Value) (d : Array Nd) (x : Nd) (w : World) (a' : Act) (w' : World) : Prop :=
  ∃ (i g cap' : Nat) (rest us : List Value) (d' : Array Nd), (∃ (u1 u2 u3 u5 u6 u7 u8 u9 u10 u11 u12 u13 u14 u15 u16 u17 u18 u19 u20 u21 u22 u23 u24 u25 u26 u27 u28 u29 u30 u31 u32 u33 u34 u35 u36 u37 u38 u39 u40 u41 u42 u43 u44 u45 u46 u47 u48 u49 u50 u51 u52 u53 u54 u55 u56 u57 u58 u59 u60 u61 u62 u63 u64 u65 u66 u67 u68 u69 u70 u71 u72 u73 u74 u75 : Value), a' = { tmps := #[.pointer (some ⟨p, 0, none⟩), u1, u2, u3, .int .i64 (i : Int), u5, u6, u7, u8, u9, u10, u11, u12, u13, u14, u15, u16, u17, u18, u19, u20, u21, u22, u23, u24, u25, u26, u27, u28, u29, u30, u31, u32, u33, u34, u35, u36, u37, u38, u39, u40, u41, u42, u43, u44, u45, u46, u47, u48, u49, u50, u51, u52, u53, u54, u55, u56, u57, u58, u59, u60, u61, u62, u63, u64, u65, u66, u67, u68, u69, u70, u71, u72, u73, u74, u75], defers := [] }) ∧ PushHP Pv B k p n i g cap' best hv d x w w' rest us d'
set_option maxRecDepth 100000 in
set_option maxHeartbeats 1000000 in
theorem PushJP.mk {Pv : Value → Prop} {B k p n i g cap' : Nat} {best : Bool} {hv : Value} {d : Array Nd} {x : Nd} {w w' : World} {rest us : List Value} {d' : Array Nd} (u1 u2 u3 u5 u6 u7 u8 u9 u10 u11 u12 u13 u14 u15 u16 u17 u18 u19 u20 u21 u22 u23 u24 u25 u26 u27 u28 u29 u30 u31 u32 u33 u34 u35 u36 u37 u38 u39 u40 u41 u42 u43 u44 u45 u46 u47 u48 u49 u50 u51 u52 u53 u54 u55 u56 u57 u58 u59 u60 u61 u62 u63 u64 u65 u66 u67 u68 u69 u70 u71 u72 u73 u74 u75 : Value) (h : PushHP Pv B k p n i g cap' best hv d x w w' rest us d') :
    PushJP Pv B k p n best hv d x w { tmps := #[.pointer (some ⟨p, 0, none⟩), u1, u2, u3, .int .i64 (i : Int), u5, u6, u7, u8, u9, u10, u11, u12, u13, u14, u15, u16, u17, u18, u19, u20, u21, u22, u23, u24, u25, u26, u27, u28, u29, u30, u31, u32, u33, u34, u35, u36, u37, u38, u39, u40, u41, u42, u43, u44, u45, u46, u47, u48, u49, u50, u51, u52, u53, u54, u55, u56, u57, u58, u59, u60, u61, u62, u63, u64, u65, u66, u67, u68, u69, u70, u71, u72, u73, u74, u75], defers := [] } w' := ⟨i, g, cap', rest, us, d', ⟨u1, u2, u3, u5, u6, u7, u8, u9, u10, u11, u12, u13, u14, u15, u16, u17, u18, u19, u20, u21, u22, u23, u24, u25, u26, u27, u28, u29, u30, u31, u32, u33, u34, u35, u36, u37, u38, u39, u40, u41, u42, u43, u44, u45, u46, u47, u48, u49, u50, u51, u52, u53, u54, u55, u56, u57, u58, u59, u60, u61, u62, u63, u64, u65, u66, u67, u68, u69, u70, u71, u72, u73, u74, u75, rfl⟩, h⟩

set_option maxRecDepth 100000 in
set_option maxHeartbeats 8000000 in
theorem pushP_calls (Pv : Value → Prop) (B k p : Nat) (best : Bool) (hv va : Value) (d : Array Nd) (x : Nd) (w : World) (hp : Bx 58 w p #[.int .i64 (ordV best), hv]) (hq : QHeapP Pv B k w hv d) (hPx : ∀ (v : Value) (wz : World), NdV w.heap.size k wz v x → Pv v) (hh : HpFrom best d 0) (hx : NdR k w va x)
    (hk : k ≤ LIM) (hk2 : k ≤ 34359738368) (hn : (d.size + 1) * 72 ≤ 140737488355328) (hB : B ≤ w.heap.size) :
    Calls Tryz.prog 8 #[.pointer (some ⟨p, 0, none⟩), va] w fun e w' => e = .returned (.tuple #[]) ∧ ChgS (p :: blks hv) w w' ∧ ∃ hv' d', Bx 58 w' p #[.int .i64 (ordV best), hv'] ∧ QHeapP Pv B k w' hv' d' ∧ HpFrom best d' 0 ∧ d'.toList.Perm (d.push x).toList ∧ d'.size = d.size + 1 ∧ (∀ g, hv'.ownBlock = some g → hv.ownBlock = some g ∨ w.heap.size ≤ g) := by
  obtain ⟨vs, hvl, h5, hown, hnd, hpv⟩ := hq
  have HPV := Lib.hid hpv
  have HPX := Lib.hid hPx
  clear hpv hPx
  obtain ⟨b, a1, n1, c1, a2, n2, c2, rfl, rx⟩ := hx
  obtain ⟨ad, cap, rfl⟩ := ownsRow_len hown
  obtain ⟨n, hn0⟩ : ∃ n, n = d.size := ⟨_, rfl⟩
  rw [← hn0] at hp hown hn ⊢
  have HN := Lib.hid hn0
  have HX := Lib.hid rx
  have HP := Lib.hid hp
  have HOwn := Lib.hid hown
  have HNd := Lib.hid hnd
  have HHh := Lib.hid hh
  have H5 := Lib.hid h5
  have HVl := Lib.hid hvl
  have hpl := blk_lt hp
  clear hn0 rx hp hown hnd hh h5 hvl
  go_enter Tryz.func8, Tryz.ntmps8
  go_wp2
  refine wp_scope_label 0 (PushJP Pv B k p n best (.slice ad n cap) d x w)
    (fun a' _ => (intOf (a'.tmps.getD 4 undef)).toNat) rfl ?_ ?_
  · rintro a' wr ⟨i, g, cap', rest, us, d', ⟨u1, u2, u3, u5, u6, u7, u8, u9, u10, u11, u12, u13, u14, u15, u16, u17, u18, u19, u20, u21, u22, u23, u24, u25, u26, u27, u28, u29, u30, u31, u32, u33, u34, u35, u36, u37, u38, u39, u40, u41, u42, u43, u44, u45, u46, u47, u48, u49, u50, u51, u52, u53, u54, u55, u56, u57, u58, u59, u60, u61, u62, u63, u64, u65, u66, u67, u68, u69, u70, u71, u72, u73, u74, u75, rfl⟩, hi, hH⟩
    have hup := up_half i
    obtain ⟨m, hm⟩ : ∃ m, m = (i - 1) / 2 := ⟨_, rfl⟩
    rw [← hm] at hup
    have P2 := hH.out.2.2.2.2.2.1
    by_cases h0 : i = 0
    · have hm0 : m = 0 := by omega
      have HU := Lib.hid hH.out.2.1
      have HI := Lib.hid h0
      clear hm hup h0
      subst hm0
      go_wp2_with fail
      refine wp_region_puts [] [PP.val (.int .i64 (i : Int)), PP.val (.bool false), PP.val (.bool false), PP.any, PP.any, PP.any, PP.any, PP.any, PP.any, PP.any, PP.any, PP.any, PP.any, PP.any, PP.any, PP.any, PP.any, PP.any, PP.any, PP.val (.bool false)] [] [0, 1, 2, 3, 4, 5, 6, 7, 8, 9, 10, 11, 12, 13, 14, 15, 16, 17, 18, 19]
        (by kernel_rfl) (by kernel_rfl) (fun f => (by simp only [fillR, fillL, List.setIfInBounds_toArray, List.set_cons_succ, List.set_cons_zero, Nat.reduceAdd]; rfl)) ?_ ?_ ?_ ?_ ?_
      · intro x hx; cases hx
      · intro x hx; cases hx
      · intro x hx; cases hx
      · refine ⟨?o0, ?o1, ?o2, ?o3, ?o4, ?o5, ?o6, ?o7, ?o8, ?o9, ?o10, ?o11, ?o12, ?o13, ?o14, ?o15, ?o16, ?o17, ?o18, ?o19, trivial⟩
        case o0 =>
          intro f w2 hG hp hl
          have hE : Ext wr w2 := hG
          have hS := hE.size
          simp only [OpGoal]
          go_simp
          exact ⟨_, rfl, Ext.refl _, rfl⟩
        case o1 =>
          intro f w2 hG hp hl
          have hE : Ext wr w2 := hG
          have hS := hE.size
          have q29 : f 0 = .int .i64 (i : Int) := tellV hp 0 0 rfl rfl (fun h => by cases h)
          simp only [OpGoal]
          go_simp
          exact ⟨_, rfl, Ext.refl _, congrArg Value.bool (decide_eq_false (by have := HI.out; omega))⟩
        case o2 =>
          intro f w2 hG hp hl
          have hE : Ext wr w2 := hG
          have hS := hE.size
          have q30 : f 1 = .bool false := tellV hp 0 1 rfl rfl (fun h => by cases h)
          simp only [OpGoal]
          go_simp
          exact ⟨_, rfl, Ext.refl _, rfl⟩
        case o3 =>
          intro f w2 hG hp hl
          have hE : Ext wr w2 := hG
          have hS := hE.size
          have qg : f 2 = .bool false := tellV hp 0 2 rfl rfl (fun h => by cases h)
          exact og_skip rfl qg (by decide) trivial
        case o4 =>
          intro f w2 hG hp hl
          have hE : Ext wr w2 := hG
          have hS := hE.size
          have qg : f 2 = .bool false := tellV hp 0 2 rfl rfl (fun h => by cases h)
          exact og_skip rfl qg (by decide) trivial
        case o5 =>
          intro f w2 hG hp hl
          have hE : Ext wr w2 := hG
          have hS := hE.size
          have qg : f 2 = .bool false := tellV hp 1 2 rfl rfl (fun h => by cases h)
          exact og_skip rfl qg (by decide) trivial
        case o6 =>
          intro f w2 hG hp hl
          have hE : Ext wr w2 := hG
          have hS := hE.size
          have qg : f 2 = .bool false := tellV hp 1 2 rfl rfl (fun h => by cases h)
          exact og_skip rfl qg (by decide) trivial
        case o7 =>
          intro f w2 hG hp hl
          have hE : Ext wr w2 := hG
          have hS := hE.size
          have qg : f 2 = .bool false := tellV hp 1 2 rfl rfl (fun h => by cases h)
          exact og_skip rfl qg (by decide) trivial
        case o8 =>
          intro f w2 hG hp hl
          have hE : Ext wr w2 := hG
          have hS := hE.size
          have qg : f 2 = .bool false := tellV hp 0 2 rfl rfl (fun h => by cases h)
          exact og_skip rfl qg (by decide) trivial
        case o9 =>
          intro f w2 hG hp hl
          have hE : Ext wr w2 := hG
          have hS := hE.size
          have qg : f 2 = .bool false := tellV hp 2 2 rfl rfl (fun h => by cases h)
          exact og_skip rfl qg (by decide) trivial
        case o10 =>
          intro f w2 hG hp hl
          have hE : Ext wr w2 := hG
          have hS := hE.size
          have qg : f 2 = .bool false := tellV hp 1 2 rfl rfl (fun h => by cases h)
          exact og_skip rfl qg (by decide) trivial
        case o11 =>
          intro f w2 hG hp hl
          have hE : Ext wr w2 := hG
          have hS := hE.size
          have qg : f 2 = .bool false := tellV hp 0 2 rfl rfl (fun h => by cases h)
          exact og_skip rfl qg (by decide) trivial
        case o12 =>
          intro f w2 hG hp hl
          have hE : Ext wr w2 := hG
          have hS := hE.size
          have qg : f 2 = .bool false := tellV hp 1 2 rfl rfl (fun h => by cases h)
          exact og_skip rfl qg (by decide) trivial
        case o13 =>
          intro f w2 hG hp hl
          have hE : Ext wr w2 := hG
          have hS := hE.size
          have qg : f 2 = .bool false := tellV hp 1 2 rfl rfl (fun h => by cases h)
          exact og_skip rfl qg (by decide) trivial
        case o14 =>
          intro f w2 hG hp hl
          have hE : Ext wr w2 := hG
          have hS := hE.size
          have qg : f 2 = .bool false := tellV hp 1 2 rfl rfl (fun h => by cases h)
          exact og_skip rfl qg (by decide) trivial
        case o15 =>
          intro f w2 hG hp hl
          have hE : Ext wr w2 := hG
          have hS := hE.size
          have qg : f 2 = .bool false := tellV hp 0 2 rfl rfl (fun h => by cases h)
          exact og_skip rfl qg (by decide) trivial
        case o16 =>
          intro f w2 hG hp hl
          have hE : Ext wr w2 := hG
          have hS := hE.size
          have qg : f 2 = .bool false := tellV hp 2 2 rfl rfl (fun h => by cases h)
          exact og_skip rfl qg (by decide) trivial
        case o17 =>
          intro f w2 hG hp hl
          have hE : Ext wr w2 := hG
          have hS := hE.size
          have qg : f 2 = .bool false := tellV hp 1 2 rfl rfl (fun h => by cases h)
          exact og_skip rfl qg (by decide) trivial
        case o18 =>
          intro f w2 hG hp hl
          have hE : Ext wr w2 := hG
          have hS := hE.size
          have qg : f 2 = .bool false := tellV hp 3 2 rfl rfl (fun h => by cases h)
          exact og_skip rfl qg (by decide) trivial
        case o19 =>
          intro f w2 hG hp hl
          have hE : Ext wr w2 := hG
          have hS := hE.size
          have q31 : f 2 = .bool false := tellV hp 0 2 rfl rfl (fun h => by cases h)
          simp only [OpGoal]
          go_simp
          exact ⟨_, rfl, Ext.refl _, rfl⟩
      · intro f w2 hG hp
        have hE : Ext wr w2 := ChgS.nil hG
        have q48 : f 19 = .bool false := endV hp 19 (by decide) rfl (fun h => by cases h)
        try simp only [q48]
        clear hp
        go_wp2
        simp only [Exit.jump]
        go_end0
        have HF := Lib.hid (UpInv.stop hH.out.2.1 (.inl HI.out))
        obtain ⟨q1, q2, q3, q4, q5, q6, q7, q8, q9, q10, q11, q12⟩ := hH.out
        refine ⟨rfl, q5.trans (hE.chgS _), _, d', q6.ext hE, hold_qheapP (q1.ext hE) q10 q4 q7 q8 q9 q12, HF.out, q3, q4, fun g2 hg2 => ?_⟩
        simp only [Value.ownBlock, Option.some.injEq] at hg2
        subst hg2
        exact q11
    · have hi0' : 0 < i := by omega
      have hi0 : (0 : Int) < (i : Int) := by omega
      have hmi : m < i := by omega
      have hmn : m < n + 1 := by omega
      have hin' : (i : Int) < (n : Int) + 1 := by omega
      have hmn' : (m : Int) < (n : Int) + 1 := by omega
      have hmM := Lib.hid hm
      have N2 := hH.out.1
      have hdn := hH.out.2.2.2.1
      obtain ⟨b1, a3, n3, c3, e1, m1, f1, hv1, hcell1, hnd1⟩ := N2.at (i := i) (by omega)
      obtain ⟨b2, a4, n4, c4, e2, m2, f2, hv2, hcell2, hnd2⟩ := N2.at (i := m) (by omega)
      have HC1 := Lib.hid hcell1
      have HC2 := Lib.hid hcell2
      have HN1 := Lib.hid hnd1
      have HN2 := Lib.hid hnd2
      have HV1 := Lib.hid hv1
      have HV2 := Lib.hid hv2
      have HDN := Lib.hid hdn
      obtain ⟨r, hr⟩ : ∃ r, r = decide (Lt best d'[i]! d'[m]!) := ⟨_, rfl⟩
      have Hr := Lib.hid hr.symm
      obtain ⟨x1, hx1⟩ : ∃ x, x = d'[i]! := ⟨_, rfl⟩
      obtain ⟨x2, hx2⟩ : ∃ x, x = d'[m]! := ⟨_, rfl⟩
      rw [← hx1] at HC1 HN1 Hr HV1
      rw [← hx2] at HC2 HN2 Hr HV2
      have HX1 := Lib.hid hx1
      have HX2 := Lib.hid hx2
      clear hr hx1 hx2 hcell1 hcell2 hnd1 hnd2 hv1 hv2 N2 hdn hm h0
      go_wp2_with fail
      refine wp_region_puts [] [PP.val (.int .i64 (i : Int)), PP.val (.bool true), PP.val (.bool true), PP.val (.pointer (some ⟨p, 0, none⟩)), PP.val (.pointer (some ⟨p, 0, none⟩)), PP.val (.pointer (some ⟨p, 0, none⟩)), PP.val (.pointer (some ⟨p, 1, none⟩)), PP.val (.slice (some ⟨g, 0, none⟩) (n + 1) cap'), PP.val (.int .i64 (i : Int)), PP.val (.pointer (some ⟨g, i * 5, none⟩)), PP.val (.agg #[.int .i64 x1.id, .int .i64 x1.depth, .bool b1, .slice a3 n3 c3, .slice e1 m1 f1]), PP.val (.pointer (some ⟨p, 0, none⟩)), PP.val (.pointer (some ⟨p, 0, none⟩)), PP.val (.pointer (some ⟨p, 1, none⟩)), PP.val (.slice (some ⟨g, 0, none⟩) (n + 1) cap'), PP.val (.int .i64 (m : Int)), PP.val (.pointer (some ⟨g, m * 5, none⟩)), PP.val (.agg #[.int .i64 x2.id, .int .i64 x2.depth, .bool b2, .slice a4 n4 c4, .slice e2 m2 f2]), PP.val (.bool r), PP.val (.bool r)] [] [0, 1, 2, 3, 4, 5, 6, 7, 8, 9, 10, 11, 12, 13, 14, 15, 16, 17, 18, 19]
        (by kernel_rfl) (by kernel_rfl) (fun f => (by simp only [fillR, fillL, List.setIfInBounds_toArray, List.set_cons_succ, List.set_cons_zero, Nat.reduceAdd]; rfl)) ?_ ?_ ?_ ?_ ?_
      · intro x hx; cases hx
      · intro x hx; cases hx
      · intro x hx; cases hx
      · refine ⟨?o0, ?o1, ?o2, ?o3, ?o4, ?o5, ?o6, ?o7, ?o8, ?o9, ?o10, ?o11, ?o12, ?o13, ?o14, ?o15, ?o16, ?o17, ?o18, ?o19, trivial⟩
        case o0 =>
          intro f w2 hG hp hl
          have hE : Ext wr w2 := hG
          have hS := hE.size
          simp only [OpGoal]
          go_simp
          exact ⟨_, rfl, Ext.refl _, rfl⟩
        case o1 =>
          intro f w2 hG hp hl
          have hE : Ext wr w2 := hG
          have hS := hE.size
          have q29 : f 0 = .int .i64 (i : Int) := tellV hp 0 0 rfl rfl (fun h => by cases h)
          simp only [OpGoal]
          go_simp
          exact ⟨_, rfl, Ext.refl _, rfl⟩
        case o2 =>
          intro f w2 hG hp hl
          have hE : Ext wr w2 := hG
          have hS := hE.size
          have q30 : f 1 = .bool true := tellV hp 0 1 rfl rfl (fun h => by cases h)
          simp only [OpGoal]
          go_simp
          exact ⟨_, rfl, Ext.refl _, rfl⟩
        case o3 =>
          intro f w2 hG hp hl
          have hE : Ext wr w2 := hG
          have hS := hE.size
          have qg : f 2 = .bool true := tellV hp 0 2 rfl rfl (fun h => by cases h)
          change OpGoal _ _ _ f w2 Ext _
          refine og_guard (j := 2) (want := true) rfl qg ?_
          simp only [OpGoal]
          go_simp
          exact ⟨_, rfl, Ext.refl _, rfl⟩
        case o4 =>
          intro f w2 hG hp hl
          have hE : Ext wr w2 := hG
          have hS := hE.size
          have qg : f 2 = .bool true := tellV hp 0 2 rfl rfl (fun h => by cases h)
          change OpGoal _ _ _ f w2 Ext _
          refine og_guard (j := 2) (want := true) rfl qg ?_
          simp only [OpGoal]
          go_simp
          exact ⟨_, rfl, Ext.refl _, rfl⟩
        case o5 =>
          intro f w2 hG hp hl
          have hE : Ext wr w2 := hG
          have hS := hE.size
          have q33 : f 4 = .pointer (some ⟨p, 0, none⟩) := tellV hp 0 4 rfl rfl (fun h => by cases h)
          have qg : f 2 = .bool true := tellV hp 1 2 rfl rfl (fun h => by cases h)
          change OpGoal _ _ _ f w2 Ext _
          refine og_guard (j := 2) (want := true) rfl qg ?_
          simp only [OpGoal]
          go_simp
          exact ⟨_, rfl, Ext.refl _, rfl⟩
        case o6 =>
          intro f w2 hG hp hl
          have hE : Ext wr w2 := hG
          have hS := hE.size
          have q34 : f 5 = .pointer (some ⟨p, 0, none⟩) := tellV hp 0 5 rfl rfl (fun h => by cases h)
          have qg : f 2 = .bool true := tellV hp 1 2 rfl rfl (fun h => by cases h)
          change OpGoal _ _ _ f w2 Ext _
          refine og_guard (j := 2) (want := true) rfl qg ?_
          simp only [OpGoal]
          go_simp
          exact ⟨_, rfl, Ext.refl _, rfl⟩
        case o7 =>
          intro f w2 hG hp hl
          have hE : Ext wr w2 := hG
          have hS := hE.size
          have q35 : f 6 = .pointer (some ⟨p, 1, none⟩) := tellV hp 0 6 rfl rfl (fun h => by cases h)
          have qg : f 2 = .bool true := tellV hp 1 2 rfl rfl (fun h => by cases h)
          change OpGoal _ _ _ f w2 Ext _
          refine og_guard (j := 2) (want := true) rfl qg ?_
          have hcell := (P2.ext hE).cell 1
          simp only [OpGoal]
          go_simp
          exact ⟨_, rfl, Ext.refl _, rfl⟩
        case o8 =>
          intro f w2 hG hp hl
          have hE : Ext wr w2 := hG
          have hS := hE.size
          have qg : f 2 = .bool true := tellV hp 0 2 rfl rfl (fun h => by cases h)
          change OpGoal _ _ _ f w2 Ext _
          refine og_guard (j := 2) (want := true) rfl qg ?_
          simp only [OpGoal]
          go_simp
          exact ⟨_, rfl, Ext.refl _, rfl⟩
        case o9 =>
          intro f w2 hG hp hl
          have hE : Ext wr w2 := hG
          have hS := hE.size
          have q36 : f 7 = .slice (some ⟨g, 0, none⟩) (n + 1) cap' := tellV hp 0 7 rfl rfl (fun h => by cases h)
          have q37 : f 8 = .int .i64 (i : Int) := tellV hp 1 8 rfl rfl (fun h => by cases h)
          have qg : f 2 = .bool true := tellV hp 2 2 rfl rfl (fun h => by cases h)
          change OpGoal _ _ _ f w2 Ext _
          refine og_guard (j := 2) (want := true) rfl qg ?_
          simp only [OpGoal]
          go_simp
          exact ⟨_, rfl, Ext.refl _, rfl⟩
        case o10 =>
          intro f w2 hG hp hl
          have hE : Ext wr w2 := hG
          have hS := hE.size
          have q38 : f 9 = .pointer (some ⟨g, i * 5, none⟩) := tellV hp 0 9 rfl rfl (fun h => by cases h)
          have qg : f 2 = .bool true := tellV hp 1 2 rfl rfl (fun h => by cases h)
          change OpGoal _ _ _ f w2 Ext _
          refine og_guard (j := 2) (want := true) rfl qg ?_
          change OpGoal _ _ _ f w2 Ext _
          exact og_loadAt (P := Tryz.prog) _ _ g (i * 5) _ _ rfl rfl q38 (fun j v h => HC1.out _ hE j v h) Tryz.underlying38 rfl (by kernel_rfl) rfl
        case o11 =>
          intro f w2 hG hp hl
          have hE : Ext wr w2 := hG
          have hS := hE.size
          have qg : f 2 = .bool true := tellV hp 0 2 rfl rfl (fun h => by cases h)
          change OpGoal _ _ _ f w2 Ext _
          refine og_guard (j := 2) (want := true) rfl qg ?_
          simp only [OpGoal]
          go_simp
          exact ⟨_, rfl, Ext.refl _, rfl⟩
        case o12 =>
          intro f w2 hG hp hl
          have hE : Ext wr w2 := hG
          have hS := hE.size
          have q40 : f 11 = .pointer (some ⟨p, 0, none⟩) := tellV hp 0 11 rfl rfl (fun h => by cases h)
          have qg : f 2 = .bool true := tellV hp 1 2 rfl rfl (fun h => by cases h)
          change OpGoal _ _ _ f w2 Ext _
          refine og_guard (j := 2) (want := true) rfl qg ?_
          simp only [OpGoal]
          go_simp
          exact ⟨_, rfl, Ext.refl _, rfl⟩
        case o13 =>
          intro f w2 hG hp hl
          have hE : Ext wr w2 := hG
          have hS := hE.size
          have q41 : f 12 = .pointer (some ⟨p, 0, none⟩) := tellV hp 0 12 rfl rfl (fun h => by cases h)
          have qg : f 2 = .bool true := tellV hp 1 2 rfl rfl (fun h => by cases h)
          change OpGoal _ _ _ f w2 Ext _
          refine og_guard (j := 2) (want := true) rfl qg ?_
          simp only [OpGoal]
          go_simp
          exact ⟨_, rfl, Ext.refl _, rfl⟩
        case o14 =>
          intro f w2 hG hp hl
          have hE : Ext wr w2 := hG
          have hS := hE.size
          have q42 : f 13 = .pointer (some ⟨p, 1, none⟩) := tellV hp 0 13 rfl rfl (fun h => by cases h)
          have qg : f 2 = .bool true := tellV hp 1 2 rfl rfl (fun h => by cases h)
          change OpGoal _ _ _ f w2 Ext _
          refine og_guard (j := 2) (want := true) rfl qg ?_
          have hcell := (P2.ext hE).cell 1
          simp only [OpGoal]
          go_simp
          exact ⟨_, rfl, Ext.refl _, rfl⟩
        case o15 =>
          intro f w2 hG hp hl
          have hE : Ext wr w2 := hG
          have hS := hE.size
          have qg : f 2 = .bool true := tellV hp 0 2 rfl rfl (fun h => by cases h)
          change OpGoal _ _ _ f w2 Ext _
          refine og_guard (j := 2) (want := true) rfl qg ?_
          simp only [OpGoal]
          go_simp
          exact ⟨_, rfl, Ext.refl _, rfl⟩
        case o16 =>
          intro f w2 hG hp hl
          have hE : Ext wr w2 := hG
          have hS := hE.size
          have q43 : f 14 = .slice (some ⟨g, 0, none⟩) (n + 1) cap' := tellV hp 0 14 rfl rfl (fun h => by cases h)
          have q44 : f 15 = .int .i64 (m : Int) := tellV hp 1 15 rfl rfl (fun h => by cases h)
          have qg : f 2 = .bool true := tellV hp 2 2 rfl rfl (fun h => by cases h)
          change OpGoal _ _ _ f w2 Ext _
          refine og_guard (j := 2) (want := true) rfl qg ?_
          simp only [OpGoal]
          go_simp
          exact ⟨_, rfl, Ext.refl _, rfl⟩
        case o17 =>
          intro f w2 hG hp hl
          have hE : Ext wr w2 := hG
          have hS := hE.size
          have q45 : f 16 = .pointer (some ⟨g, m * 5, none⟩) := tellV hp 0 16 rfl rfl (fun h => by cases h)
          have qg : f 2 = .bool true := tellV hp 1 2 rfl rfl (fun h => by cases h)
          change OpGoal _ _ _ f w2 Ext _
          refine og_guard (j := 2) (want := true) rfl qg ?_
          change OpGoal _ _ _ f w2 Ext _
          exact og_loadAt (P := Tryz.prog) _ _ g (m * 5) _ _ rfl rfl q45 (fun j v h => HC2.out _ hE j v h) Tryz.underlying38 rfl (by kernel_rfl) rfl
        case o18 =>
          intro f w2 hG hp hl
          have hE : Ext wr w2 := hG
          have hS := hE.size
          have q32 : f 3 = .pointer (some ⟨p, 0, none⟩) := tellV hp 0 3 rfl rfl (fun h => by cases h)
          have q39 : f 10 = .agg #[.int .i64 x1.id, .int .i64 x1.depth, .bool b1, .slice a3 n3 c3, .slice e1 m1 f1] := tellV hp 1 10 rfl rfl (fun h => by cases h)
          have q46 : f 17 = .agg #[.int .i64 x2.id, .int .i64 x2.depth, .bool b2, .slice a4 n4 c4, .slice e2 m2 f2] := tellV hp 2 17 rfl rfl (fun h => by cases h)
          have qg : f 2 = .bool true := tellV hp 3 2 rfl rfl (fun h => by cases h)
          change OpGoal _ _ _ f w2 Ext _
          refine og_guard (j := 2) (want := true) rfl qg ?_
          change OpGoal _ _ _ f w2 Ext _
          refine og_call (P := Tryz.prog) _ _ _ #[f 3, f 10, f 17] Tryz.func25 (by kernel_rfl) (by kernel_rfl) rfl rfl (by kernel_rfl) ?_
          rw [q32, q39, q46]
          refine (ahead_calls p best _ _ _ x1 x2 k _ (P2.ext hE) ((HN1.out.r hk).ext hE) ((HN2.out.r hk).ext hE) hk2).mono ?_
          rw [Hr.out]
          rintro e w' ⟨rfl, h2⟩
          exact ⟨_, rfl, h2, rfl⟩
        case o19 =>
          intro f w2 hG hp hl
          have hE : Ext wr w2 := hG
          have hS := hE.size
          have q31 : f 2 = .bool true := tellV hp 0 2 rfl rfl (fun h => by cases h)
          have q47 : f 18 = .bool r := tellV hp 1 18 rfl rfl (fun h => by cases h)
          simp only [OpGoal]
          go_simp
          exact ⟨_, rfl, Ext.refl _, rfl⟩
      · intro f w2 hG hp
        have hE : Ext wr w2 := ChgS.nil hG
        have q48 : f 19 = .bool r := endV hp 19 (by decide) rfl (fun h => by cases h)
        try simp only [q48]
        clear hp
        cases r with
        | false =>
          have HLt := Lib.hid (show ¬ Lt best d'[i]! d'[m]! by rw [← HX1.out, ← HX2.out]; exact of_decide_eq_false Hr.out)
          go_wp2
          simp only [Exit.jump]
          go_end0
          have HF := Lib.hid (UpInv.stop hH.out.2.1 (.inr (by rw [← hmM.out]; exact HLt.out)))
          obtain ⟨q1, q2, q3, q4, q5, q6, q7, q8, q9, q10, q11, q12⟩ := hH.out
          refine ⟨rfl, q5.trans (hE.chgS _), _, d', q6.ext hE, hold_qheapP (q1.ext hE) q10 q4 q7 q8 q9 q12, HF.out, q3, q4, fun g2 hg2 => ?_⟩
          simp only [Value.ownBlock, Option.some.injEq] at hg2
          subst hg2
          exact q11
        | true =>
          have HLt := Lib.hid (show Lt best d'[i]! d'[m]! by rw [← HX1.out, ← HX2.out]; exact of_decide_eq_true Hr.out)
          have P3 := P2.ext hE
          have HNds := Lib.hid (hH.out.1.ext hE)
          have HC3 := Lib.hid (show ∀ wz, Ext w2 wz → _ from fun wz hz => HC1.out wz (hE.trans hz))
          have HC4 := Lib.hid (show ∀ wz, Ext w2 wz → _ from fun wz hz => HC2.out wz (hE.trans hz))
          have him : i ≠ m := by omega
          have hE0 := hE
          clear hE
          go_wp2_with fail
          refine wp_region_swp g (n + 1) i m 25 27 rest us (.agg #[.int .i64 x1.id, .int .i64 x1.depth, .bool b1, .slice a3 n3 c3, .slice e1 m1 f1]) (.agg #[.int .i64 x2.id, .int .i64 x2.depth, .bool b2, .slice a4 n4 c4, .slice e2 m2 f2]) [PP.val (.pointer (some ⟨p, 0, none⟩)), PP.val (.pointer (some ⟨p, 0, none⟩)), PP.val (.pointer (some ⟨p, 1, none⟩)), PP.val (.slice (some ⟨g, 0, none⟩) (n + 1) cap'), PP.val (.int .i64 (i : Int)), PP.val (.pointer (some ⟨p, 0, none⟩)), PP.val (.pointer (some ⟨p, 0, none⟩)), PP.val (.pointer (some ⟨p, 1, none⟩)), PP.val (.slice (some ⟨g, 0, none⟩) (n + 1) cap'), PP.val (.int .i64 (m : Int)), PP.val (.pointer (some ⟨p, 0, none⟩)), PP.val (.pointer (some ⟨p, 0, none⟩)), PP.val (.pointer (some ⟨p, 1, none⟩)), PP.val (.slice (some ⟨g, 0, none⟩) (n + 1) cap'), PP.val (.int .i64 (m : Int)), PP.val (.pointer (some ⟨g, m * 5, none⟩)), PP.val (.agg #[.int .i64 x2.id, .int .i64 x2.depth, .bool b2, .slice a4 n4 c4, .slice e2 m2 f2]), PP.val (.pointer (some ⟨p, 0, none⟩)), PP.val (.pointer (some ⟨p, 0, none⟩)), PP.val (.pointer (some ⟨p, 1, none⟩)), PP.val (.slice (some ⟨g, 0, none⟩) (n + 1) cap'), PP.val (.int .i64 (i : Int)), PP.val (.pointer (some ⟨g, i * 5, none⟩)), PP.val (.agg #[.int .i64 x1.id, .int .i64 x1.depth, .bool b1, .slice a3 n3 c3, .slice e1 m1 f1]), PP.val (.pointer (some ⟨g, i * 5, none⟩)), PP.any, PP.val (.pointer (some ⟨g, m * 5, none⟩)), PP.any] [] [25, 24, 23, 22, 21, 20, 19, 18, 17, 16, 15, 14, 13, 12, 11, 10, 8, 7, 6, 5, 4, 3, 2, 1, 0] (by kernel_rfl) (by kernel_rfl) (fun f => (by simp only [fillR, fillL, List.setIfInBounds_toArray, List.set_cons_succ, List.set_cons_zero, Nat.reduceAdd]; rfl)) him (by decide) (HNds.out.1.trans HDN.out) HNds.out.2.1 hi hmn (by intro p hp; simp only [List.mem_cons, List.not_mem_nil, or_false] at hp; rcases hp with rfl | rfl | rfl | rfl | rfl | rfl | rfl | rfl | rfl | rfl | rfl | rfl | rfl | rfl | rfl | rfl | rfl | rfl | rfl | rfl | rfl | rfl | rfl | rfl | rfl | rfl | rfl | rfl <;> rfl) ?_ ?_ (by decide) (by decide)
          · refine ⟨?o0, ?o1, ?o2, ?o3, ?o4, ?o5, ?o6, ?o7, ?o8, ?o9, ?o10, ?o11, ?o12, ?o13, ?o14, ?o15, ?o16, ?o17, ?o18, ?o19, ?o20, ?o21, ?o22, ?o23, ?o24, ?o25, ?o26, ?o27, trivial⟩
            case o0 =>
              intro f w4 hG hp hl
              have hE : Ext w2 w4 := hG
              have hS := hE.size
              simp only [OpGoal]
              go_simp
              exact ⟨_, rfl, Ext.refl _, rfl⟩
            case o1 =>
              intro f w4 hG hp hl
              have hE : Ext w2 w4 := hG
              have hS := hE.size
              have q49 : f 0 = .pointer (some ⟨p, 0, none⟩) := tellM hp 0 0 rfl rfl
              simp only [OpGoal]
              go_simp
              exact ⟨_, rfl, Ext.refl _, rfl⟩
            case o2 =>
              intro f w4 hG hp hl
              have hE : Ext w2 w4 := hG
              have hS := hE.size
              have q50 : f 1 = .pointer (some ⟨p, 0, none⟩) := tellM hp 0 1 rfl rfl
              simp only [OpGoal]
              go_simp
              exact ⟨_, rfl, Ext.refl _, rfl⟩
            case o3 =>
              intro f w4 hG hp hl
              have hE : Ext w2 w4 := hG
              have hS := hE.size
              have q51 : f 2 = .pointer (some ⟨p, 1, none⟩) := tellM hp 0 2 rfl rfl
              have hcell := (P3.ext hE).cell 1
              simp only [OpGoal]
              go_simp
              exact ⟨_, rfl, Ext.refl _, rfl⟩
            case o4 =>
              intro f w4 hG hp hl
              have hE : Ext w2 w4 := hG
              have hS := hE.size
              simp only [OpGoal]
              go_simp
              exact ⟨_, rfl, Ext.refl _, rfl⟩
            case o5 =>
              intro f w4 hG hp hl
              have hE : Ext w2 w4 := hG
              have hS := hE.size
              simp only [OpGoal]
              go_simp
              exact ⟨_, rfl, Ext.refl _, rfl⟩
            case o6 =>
              intro f w4 hG hp hl
              have hE : Ext w2 w4 := hG
              have hS := hE.size
              have q54 : f 5 = .pointer (some ⟨p, 0, none⟩) := tellM hp 0 5 rfl rfl
              simp only [OpGoal]
              go_simp
              exact ⟨_, rfl, Ext.refl _, rfl⟩
            case o7 =>
              intro f w4 hG hp hl
              have hE : Ext w2 w4 := hG
              have hS := hE.size
              have q55 : f 6 = .pointer (some ⟨p, 0, none⟩) := tellM hp 0 6 rfl rfl
              simp only [OpGoal]
              go_simp
              exact ⟨_, rfl, Ext.refl _, rfl⟩
            case o8 =>
              intro f w4 hG hp hl
              have hE : Ext w2 w4 := hG
              have hS := hE.size
              have q56 : f 7 = .pointer (some ⟨p, 1, none⟩) := tellM hp 0 7 rfl rfl
              have hcell := (P3.ext hE).cell 1
              simp only [OpGoal]
              go_simp
              exact ⟨_, rfl, Ext.refl _, rfl⟩
            case o9 =>
              intro f w4 hG hp hl
              have hS : w2.heap.size ≤ w4.heap.size := hG.2.2.2.1
              simp only [OpGoal]
              go_simp
              exact ⟨_, rfl, Ext.refl _, rfl⟩
            case o10 =>
              intro f w4 hG hp hl
              have hE : Ext w2 w4 := hG
              have hS := hE.size
              simp only [OpGoal]
              go_simp
              exact ⟨_, rfl, Ext.refl _, rfl⟩
            case o11 =>
              intro f w4 hG hp hl
              have hE : Ext w2 w4 := hG
              have hS := hE.size
              have q59 : f 10 = .pointer (some ⟨p, 0, none⟩) := tellM hp 0 10 rfl rfl
              simp only [OpGoal]
              go_simp
              exact ⟨_, rfl, Ext.refl _, rfl⟩
            case o12 =>
              intro f w4 hG hp hl
              have hE : Ext w2 w4 := hG
              have hS := hE.size
              have q60 : f 11 = .pointer (some ⟨p, 0, none⟩) := tellM hp 0 11 rfl rfl
              simp only [OpGoal]
              go_simp
              exact ⟨_, rfl, Ext.refl _, rfl⟩
            case o13 =>
              intro f w4 hG hp hl
              have hE : Ext w2 w4 := hG
              have hS := hE.size
              have q61 : f 12 = .pointer (some ⟨p, 1, none⟩) := tellM hp 0 12 rfl rfl
              have hcell := (P3.ext hE).cell 1
              simp only [OpGoal]
              go_simp
              exact ⟨_, rfl, Ext.refl _, rfl⟩
            case o14 =>
              intro f w4 hG hp hl
              have hE : Ext w2 w4 := hG
              have hS := hE.size
              simp only [OpGoal]
              go_simp
              exact ⟨_, rfl, Ext.refl _, rfl⟩
            case o15 =>
              intro f w4 hG hp hl
              have hE : Ext w2 w4 := hG
              have hS := hE.size
              have q62 : f 13 = .slice (some ⟨g, 0, none⟩) (n + 1) cap' := tellM hp 0 13 rfl rfl
              have q63 : f 14 = .int .i64 (m : Int) := tellM hp 1 14 rfl rfl
              simp only [OpGoal]
              go_simp
              exact ⟨_, rfl, Ext.refl _, rfl⟩
            case o16 =>
              intro f w4 hG hp hl
              have hE : Ext w2 w4 := hG
              have hS := hE.size
              have q64 : f 15 = .pointer (some ⟨g, m * 5, none⟩) := tellM hp 0 15 rfl rfl
              change OpGoal _ _ _ f w4 Ext _
              exact og_loadAt (P := Tryz.prog) _ _ g (m * 5) _ _ rfl rfl q64 (fun j v h => HC4.out _ hE j v h) Tryz.underlying38 rfl (by kernel_rfl) rfl
            case o17 =>
              intro f w4 hG hp hl
              have hE : Ext w2 w4 := hG
              have hS := hE.size
              simp only [OpGoal]
              go_simp
              exact ⟨_, rfl, Ext.refl _, rfl⟩
            case o18 =>
              intro f w4 hG hp hl
              have hE : Ext w2 w4 := hG
              have hS := hE.size
              have q66 : f 17 = .pointer (some ⟨p, 0, none⟩) := tellM hp 0 17 rfl rfl
              simp only [OpGoal]
              go_simp
              exact ⟨_, rfl, Ext.refl _, rfl⟩
            case o19 =>
              intro f w4 hG hp hl
              have hE : Ext w2 w4 := hG
              have hS := hE.size
              have q67 : f 18 = .pointer (some ⟨p, 0, none⟩) := tellM hp 0 18 rfl rfl
              simp only [OpGoal]
              go_simp
              exact ⟨_, rfl, Ext.refl _, rfl⟩
            case o20 =>
              intro f w4 hG hp hl
              have hE : Ext w2 w4 := hG
              have hS := hE.size
              have q68 : f 19 = .pointer (some ⟨p, 1, none⟩) := tellM hp 0 19 rfl rfl
              have hcell := (P3.ext hE).cell 1
              simp only [OpGoal]
              go_simp
              exact ⟨_, rfl, Ext.refl _, rfl⟩
            case o21 =>
              intro f w4 hG hp hl
              have hE : Ext w2 w4 := hG
              have hS := hE.size
              simp only [OpGoal]
              go_simp
              exact ⟨_, rfl, Ext.refl _, rfl⟩
            case o22 =>
              intro f w4 hG hp hl
              have hE : Ext w2 w4 := hG
              have hS := hE.size
              have q69 : f 20 = .slice (some ⟨g, 0, none⟩) (n + 1) cap' := tellM hp 0 20 rfl rfl
              have q70 : f 21 = .int .i64 (i : Int) := tellM hp 1 21 rfl rfl
              simp only [OpGoal]
              go_simp
              exact ⟨_, rfl, Ext.refl _, rfl⟩
            case o23 =>
              intro f w4 hG hp hl
              have hE : Ext w2 w4 := hG
              have hS := hE.size
              have q71 : f 22 = .pointer (some ⟨g, i * 5, none⟩) := tellM hp 0 22 rfl rfl
              change OpGoal _ _ _ f w4 Ext _
              exact og_loadAt (P := Tryz.prog) _ _ g (i * 5) _ _ rfl rfl q71 (fun j v h => HC3.out _ hE j v h) Tryz.underlying38 rfl (by kernel_rfl) rfl
            case o24 =>
              intro f w4 hG hp hl
              have hE : Ext w2 w4 := hG
              have hS := hE.size
              have q52 : f 3 = .slice (some ⟨g, 0, none⟩) (n + 1) cap' := tellM hp 0 3 rfl rfl
              have q53 : f 4 = .int .i64 (i : Int) := tellM hp 1 4 rfl rfl
              simp only [OpGoal]
              go_simp
              exact ⟨_, rfl, Ext.refl _, rfl⟩
            case o25 =>
              intro f w4 hG hp hl
              have hE : Ext w2 w4 := hG
              have hS := hE.size
              have q73 : f 24 = .pointer (some ⟨g, i * 5, none⟩) := tellM hp 0 24 rfl rfl
              have q65 : f 16 = .agg #[.int .i64 x2.id, .int .i64 x2.depth, .bool b2, .slice a4 n4 c4, .slice e2 m2 f2] := tellM hp 1 16 rfl rfl
              intro hI hU
              exact og_stN (P := Tryz.prog) g (n + 1) _ _ 25 i _ _ _ _ _ _ rfl rfl q73 q65 hi (by kernel_rfl) (HN2.out.five) hI
            case o26 =>
              intro f w4 hG hp hl
              have hS : w2.heap.size ≤ w4.heap.size := hG.2.2.2.1
              have q57 : f 8 = .slice (some ⟨g, 0, none⟩) (n + 1) cap' := tellM hp 0 8 rfl rfl
              have q58 : f 9 = .int .i64 (m : Int) := tellM hp 1 9 rfl rfl
              simp only [OpGoal]
              go_simp
              exact ⟨_, rfl, Ext.refl _, rfl⟩
            case o27 =>
              intro f w4 hG hp hl
              have hS : w2.heap.size ≤ w4.heap.size := hG.2.2.2.1
              have q74 : f 26 = .pointer (some ⟨g, m * 5, none⟩) := tellM hp 0 26 rfl rfl
              have q72 : f 23 = .agg #[.int .i64 x1.id, .int .i64 x1.depth, .bool b1, .slice a3 n3 c3, .slice e1 m1 f1] := tellM hp 1 23 rfl rfl
              intro hI hU
              exact og_stN (P := Tryz.prog) g (n + 1) _ _ 27 m _ _ _ _ _ _ rfl rfl q74 q72 hmn (by kernel_rfl) (HN1.out.five) hI
          · intro f w4 hC hW hp
            clear hp
            have HSw := Lib.hid (HNds.out.swap hC (by rw [HDN.out]; exact hi) (by rw [HDN.out]; exact hmn) HV1.out HV2.out hW)
            clear hW
            have HUp := Lib.hid (UpInv.step' hH.out.2.1 hmM.out (by rw [HDN.out]; exact hi) (by rw [HDN.out]; exact hmn) hi0' HLt.out)
            have hpg : p ≠ g := by
              rintro rfl
              have h1 := HNds.out.2.1.2
              have h2 := P3
              unfold Bx at h1 h2
              rw [h1] at h2
              simp at h2
            have HP4 := Lib.hid (P3.chg hC hpg)
            clear P2 P3
            go_wp2
            go_step3
            obtain ⟨-, -, q3, q4, q5, q6, q7, q8, q9, q10, q11, q12⟩ := hH.out
            refine ⟨rfl, PushJP.mk _ _ _ _ _ _ _ _ _ _ _ _ _ _ _ _ _ _ _ _ _ _ _ _ _ _ _ _ _ _ _ _ _ _ _ _ _ _ _ _ _ _ _ _ _ _ _ _ _ _ _ _ _ _ _ _ _ _ _ _ _ _ _ _ _ _ _ _ _ _ _ _ _ _ ⟨hmn, Lib.hid ⟨HSw.out, HUp.out, (Array.perm_iff_toList_perm.1 (Array.swap_perm _ _)).trans q3, by rw [Array.size_swap]; exact q4, ChgS.stepC (q5.trans (hE0.chgS _)) hC (q11.imp_left fun h => List.mem_cons_of_mem _ (blks_mem h)), HP4.out, q7, q8, by rw [List.length_set, List.length_set]; exact q9, q10, q11, fun u hu => by
              rcases List.mem_or_eq_of_mem_set hu with hu | rfl
              · rcases List.mem_or_eq_of_mem_set hu with hu | rfl
                · exact q12 u hu
                · exact q12 _ (List.mem_of_getElem? HV2.out)
              · exact q12 _ (List.mem_of_getElem? HV1.out)⟩⟩, ?_⟩
            simp [intOf]
            omega
  · intro hpass
    have Hpass := Lib.hid hpass
    clear hpass
    obtain ⟨w1, hw1, e1, b1, s1⟩ := alloc1 w #[.int .i64 x.id, .int .i64 x.depth, .bool b, .slice a1 n1 c1, .slice a2 n2 c2] 38
    have hc2 := b1.cell 2
    have hc3 := b1.cell 3
    have hc4 := b1.cell 4
    rw [hw1] at hc2 hc3 hc4
    go_wp2_with fail
    rw [← hw1]
    clear hc2 hc3 hc4
    refine (form_calls _ x.q k _ (HX.out.ext e1) (by omega)).mono ?_
    rintro e w2 ⟨v2, rfl, q2, e2⟩
    obtain ⟨b3, ad3, l3, cap3, bd3, m3, dap3, rfl, q3⟩ := q2.opn
    have B2 := b1.ext e2
    have hf2 := B2.free 2
    have hf3 := B2.free 3
    have hf4 := B2.free 4
    have hc2 := B2.cell 2
    have hc3 := B2.cell 3
    have hc4 := B2.cell 4
    have B3 := ((B2.set 2 (.bool b3)).set 3 (.slice ad3 l3 cap3)).set 4 (.slice bd3 m3 dap3)
    have CH := Chg.trans (Chg.trans (Chg.setCell w2 w.heap.size 2 (.bool b3)) (Chg.setCell _ w.heap.size 3 (.slice ad3 l3 cap3))) (Chg.setCell _ w.heap.size 4 (.slice bd3 m3 dap3))
    go_wp2_with fail
    obtain ⟨w3, hw3⟩ : ∃ w3, w3 = ((w2.setCell ⟨w.heap.size, 2, none⟩ (.bool b3)).setCell ⟨w.heap.size, 3, none⟩ (.slice ad3 l3 cap3)).setCell ⟨w.heap.size, 4, none⟩ (.slice bd3 m3 dap3) := ⟨_, rfl⟩
    rw [← hw3] at B3 CH
    rw [← hw3]
    clear hw3 hf2 hf3 hf4 hc2 hc3 hc4
    have B3' : Bx 38 w3 w.heap.size #[.int .i64 x.id, .int .i64 x.depth, .bool b3, .slice ad3 l3 cap3, .slice bd3 m3 dap3] := B3
    clear B3
    have E3 := (e1.trans e2).step CH (Nat.le_refl _)
    have hs1 := e1.size
    have hs2 := e2.size
    have hs3 := E3.size
    have HVF := Lib.hid (show NdV w.heap.size k w3 (.agg #[.int .i64 x.id, .int .i64 x.depth, .bool b3, .slice ad3 l3 cap3, .slice bd3 m3 dap3]) x from ⟨_, _, _, _, _, _, _, rfl, (q3.chg CH (by omega)).mono (by omega), HX.out.sz⟩)
    have HV := Lib.hid (show NdV B k w3 (.agg #[.int .i64 x.id, .int .i64 x.depth, .bool b3, .slice ad3 l3 cap3, .slice bd3 m3 dap3]) x from ⟨_, _, _, _, _, _, _, rfl, (q3.chg CH (by omega)).mono (by omega), HX.out.sz⟩)
    have P3 := HP.out.ext E3
    have HO3 := Lib.hid (ownsRow_ext HOwn.out E3)
    obtain ⟨gA, hgA, hgr, hgb⟩ := gA_spec HOwn.out E3 B3' (Nat.le_refl _)
    have hgAp : gA ≠ p := by
      rintro rfl
      obtain ⟨cs, h1⟩ := hgA
      have h2 := P3
      unfold Bx at h1 h2
      rw [h1] at h2
      simp at h2
    have HGA := Lib.hid hgA
    have HGR := Lib.hid hgr
    have hgAl : gA < w3.heap.size := by obtain ⟨cs, h1⟩ := hgA; exact blk_lt h1
    clear hgA hgr
    have E3' := E3
    clear e1 e2 CH b1 B2 E3
    refine wp_region_app w.heap.size gA p B n 7 10 (.int .i64 (ordV best)) (.slice ad n cap) (flat vs ++ [.int .i64 x.id, .int .i64 x.depth, .bool b3, .slice ad3 l3 cap3, .slice bd3 m3 dap3]) [PP.val (.pointer (some ⟨p, 0, none⟩)), PP.val (.pointer (some ⟨p, 0, none⟩)), PP.val (.pointer (some ⟨p, 0, none⟩)), PP.val (.pointer (some ⟨p, 1, none⟩)), PP.val (.slice ad n cap), PP.val (.agg #[.int .i64 x.id, .int .i64 x.depth, .bool b3, .slice ad3 l3 cap3, .slice bd3 m3 dap3]), PP.one #[.int .i64 x.id, .int .i64 x.depth, .bool b3, .slice ad3 l3 cap3, .slice bd3 m3 dap3], PP.any, PP.val (.pointer (some ⟨p, 0, none⟩)), PP.val (.pointer (some ⟨p, 1, none⟩)), PP.any] [] [7, 6, 5, 4, 3, 2, 1] (by kernel_rfl) (by kernel_rfl) (fun f => (by simp only [fillR, fillL, List.setIfInBounds_toArray, List.set_cons_succ, List.set_cons_zero, Nat.reduceAdd]; rfl)) (by decide) hgAp hgAl P3 ⟨_, _, rfl⟩ (by intro p hp; simp only [List.mem_cons, List.not_mem_nil, or_false] at hp; rcases hp with rfl | rfl | rfl | rfl | rfl | rfl | rfl | rfl | rfl | rfl | rfl <;> rfl) ?_ ?_ (by decide)
    · refine ⟨?o0, ?o1, ?o2, ?o3, ?o4, ?o5, ?o6, ?o7, ?o8, ?o9, ?o10, trivial⟩
      case o0 =>
        intro f w4 hG hp hl
        have hS : w3.heap.size ≤ w4.heap.size := hG.2.2.2.1
        simp only [OpGoal]
        go_simp
        exact ⟨_, rfl, Ext.refl _, rfl⟩
      case o1 =>
        intro f w4 hG hp hl
        have hE : Ext w3 w4 := hG
        have hS := hE.size
        simp only [OpGoal]
        go_simp
        exact ⟨_, rfl, Ext.refl _, rfl⟩
      case o2 =>
        intro f w4 hG hp hl
        have hE : Ext w3 w4 := hG
        have hS := hE.size
        have q11 : f 1 = .pointer (some ⟨p, 0, none⟩) := tellM hp 0 1 rfl rfl
        simp only [OpGoal]
        go_simp
        exact ⟨_, rfl, Ext.refl _, rfl⟩
      case o3 =>
        intro f w4 hG hp hl
        have hE : Ext w3 w4 := hG
        have hS := hE.size
        have q12 : f 2 = .pointer (some ⟨p, 0, none⟩) := tellM hp 0 2 rfl rfl
        simp only [OpGoal]
        go_simp
        exact ⟨_, rfl, Ext.refl _, rfl⟩
      case o4 =>
        intro f w4 hG hp hl
        have hE : Ext w3 w4 := hG
        have hS := hE.size
        have q13 : f 3 = .pointer (some ⟨p, 1, none⟩) := tellM hp 0 3 rfl rfl
        have hcell := (P3.ext hE).cell 1
        simp only [OpGoal]
        go_simp
        exact ⟨_, rfl, Ext.refl _, rfl⟩
      case o5 =>
        intro f w4 hG hp hl
        have hE : Ext w3 w4 := hG
        have hS := hE.size
        change OpGoal _ _ _ f w4 Ext _
        exact og_load (P := Tryz.prog) _ _ w.heap.size _ _ _ rfl rfl rfl (B3'.ext hE) Tryz.underlying38 rfl (by kernel_rfl) rfl
      case o6 =>
        intro f w4 hG hp hl
        have hE : Ext w3 w4 := hG
        have hS := hE.size
        have q15 : f 5 = .agg #[.int .i64 x.id, .int .i64 x.depth, .bool b3, .slice ad3 l3 cap3, .slice bd3 m3 dap3] := tellM hp 0 5 rfl rfl
        change OpGoal _ _ _ f w4 Ext _
        exact og_buildSlice (P := Tryz.prog) 29 38 1 5 _ [.agg #[.int .i64 x.id, .int .i64 x.depth, .bool b3, .slice ad3 l3 cap3, .slice bd3 m3 dap3]] rfl rfl Tryz.underlying29 (by kernel_rfl) (by kernel_rfl) (by simp only [Act.eval]; exact congrArg (fun z => [(0, z)]) q15) rfl (by omega) (by omega) (by omega) HV.out.five.size (fun w' he hb => ⟨_, hS, rfl, hb⟩)
      case o7 =>
        intro f w4 hG hp hl
        have hE : Ext w3 w4 := hG
        have hS := hE.size
        have q14 : f 4 = .slice ad n cap := tellM hp 0 4 rfl rfl
        have q16 := tellM hp 1 6 rfl rfl
        intro hI hU
        have q14 : f 4 = .slice ad n cap := tellM hp 0 4 rfl rfl
        obtain ⟨gx, hgx, hvx, hbx⟩ := tellM hp 1 6 rfl rfl
        exact og_append (P := Tryz.prog) _ _ 29 rfl rfl B 38 5 72 Tryz.underlying29 (by kernel_rfl) (by kernel_rfl) (by omega) (.slice ad n cap) n (flat vs) q14 (ownsRow_ext HO3.out hE) ⟨gx, 0, none⟩ 1 1 [.int .i64 x.id, .int .i64 x.depth, .bool b3, .slice ad3 l3 cap3, .slice bd3 m3 dap3] hvx rfl (fun j u hj => by rw [addr_add, Nat.zero_add, hbx.cell]; simpa using hj) (by intro u hu; simp at hu; rcases hu with rfl | rfl | rfl | rfl | rfl <;> rfl) (by omega) (by unfold maxLen; omega) (by omega) (by have := hE.size; omega) (fun v' w' h1 h2 h3 => ⟨⟨P3.ext hE, HGR.out _ _ h2⟩, h1, fun g hg => (h3 g hg).imp_right fun h => by have := hE.size; omega⟩)
      case o8 =>
        intro f w4 hG hp hl
        have hS : w3.heap.size ≤ w4.heap.size := hG.2.2.2.1
        have q10 : f 0 = .pointer (some ⟨p, 0, none⟩) := tellM hp 0 0 rfl rfl
        simp only [OpGoal]
        go_simp
        exact ⟨_, rfl, Ext.refl _, rfl⟩
      case o9 =>
        intro f w4 hG hp hl
        have hS : w3.heap.size ≤ w4.heap.size := hG.2.2.2.1
        have q18 : f 8 = .pointer (some ⟨p, 0, none⟩) := tellM hp 0 8 rfl rfl
        simp only [OpGoal]
        go_simp
        exact ⟨_, rfl, Ext.refl _, rfl⟩
      case o10 =>
        intro f w4 hG hp hl
        have hS : w3.heap.size ≤ w4.heap.size := hG.2.2.2.1
        have q19 : f 9 = .pointer (some ⟨p, 1, none⟩) := tellM hp 0 9 rfl rfl
        intro hI hU
        have q19 : f 9 = .pointer (some ⟨p, 1, none⟩) := tellM hp 0 9 rfl rfl
        have q17 := tellMS hp 1 7 rfl (show smAt _ 7 = some (stA w.heap.size gA p (.int .i64 (ordV best)) (.slice ad n cap) B n _ 7) from rfl)
        obtain ⟨ad', cap', hv'⟩ := ownsRow_len q17.1
        have hPw : Bx 58 w4 p #[.int .i64 (ordV best), .slice ad n cap] := (show w4.heap[p]? = w3.heap[p]? from hU).trans P3
        have hcl := hPw.cell 1
        have hfr := hPw.free 1
        change OpGoal _ _ _ f w4 _ _
        have HQ := Lib.hid q17
        clear q17
        simp only [OpGoal]
        go_simp
        exact ⟨undef, rfl, ⟨⟨_, hPw⟩, Chg.setCell _ _ _ _⟩, _, hPw.set 1 _, ownsRow_chg (hv' ▸ HQ.out.1) (Chg.setCell _ _ _ _) hPw (by decide), hv' ▸ HQ.out.2⟩
    · intro f w4 hC hF hp
      clear hp
      obtain ⟨v5, hP4, hO4, hW4⟩ := hF
      have hO4' : w4.ownsRow B 38 5 v5 (n + 1) (flat (vs ++ [.agg #[.int .i64 x.id, .int .i64 x.depth, .bool b3, .slice ad3 l3 cap3, .slice bd3 m3 dap3]])) := by
        rw [flat_append]
        exact hO4
      have hfv : Five (vs ++ [Value.agg #[.int .i64 x.id, .int .i64 x.depth, .bool b3, .slice ad3 l3 cap3, .slice bd3 m3 dap3]]) := by
        intro u hu
        rcases List.mem_append.1 hu with hu | hu
        · exact H5.out u hu
        · exact HV.out.five u hu
      have hlv : (vs ++ [Value.agg #[.int .i64 x.id, .int .i64 x.depth, .bool b3, .slice ad3 l3 cap3, .slice bd3 m3 dap3]]).length = n + 1 := by
        rw [List.length_append, HVl.out, HN.out]
        rfl
      obtain ⟨g5, cap5, rest5, rfl, hB5, hc5, hm5, hl5, hold⟩ := ownsRow_hold hO4' hfv hlv
      have hbt : ∀ g ∈ [gA, p], ∃ t cs, Bx t w3 g cs ∧ t ≠ 61 := by
        intro g hg
        simp only [List.mem_cons, List.not_mem_nil, or_false] at hg
        rcases hg with rfl | rfl
        · obtain ⟨cs, h⟩ := HGA.out
          exact ⟨_, cs, h, by decide⟩
        · exact ⟨_, _, P3, by decide⟩
      have HNds := Lib.hid (show Nds B k g5 rest5 w4 (vs ++ [.agg #[.int .i64 x.id, .int .i64 x.depth, .bool b3, .slice ad3 l3 cap3, .slice bd3 m3 dap3]]) (d.push x) from by
        refine ⟨by rw [hlv, Array.size_push, HN.out], hold, fun i v hi => ?_⟩
        have hvd := HVl.out
        by_cases hin : i < vs.length
        · rw [List.getElem?_append_left hin] at hi
          have hnd := HNd.out i v hi
          have hget : (d.push x)[i]! = d[i]! := by
            rw [getElem!_pos _ i (by rw [Array.size_push]; omega), getElem!_pos d i (by omega), Array.getElem_push_lt (by omega)]
          rw [hget]
          exact (hnd.ext E3').chgB hC hbt
        · have hil := (List.getElem?_eq_some_iff.1 hi).1
          rw [hlv] at hil
          have hie : i = vs.length := by have := HN.out; omega
          subst hie
          rw [List.getElem?_concat_length] at hi
          cases hi
          have hget : (d.push x)[vs.length]! = x := by
            rw [getElem!_pos _ vs.length (by rw [Array.size_push]; omega)]
            simp only [hvd, Array.getElem_push_eq]
          rw [hget]
          exact HV.out.chgB hC hbt)
      have HUp := Lib.hid (show UpInv best (d.push x) n by rw [HN.out]; exact UpInv.start HHh.out)
      have HC := Lib.hid (show ChgS (p :: blks (.slice ad n cap)) w w4 from (E3'.chgS _).more hC (fun g hg => by
        simp only [List.mem_cons, List.not_mem_nil, or_false] at hg
        rcases hg with rfl | rfl
        · exact hgb.imp_left (List.mem_cons_of_mem _)
        · exact .inl (List.mem_cons_self ..)))
      have HP4 := Lib.hid hP4
      have HW4 := Lib.hid (hW4 g5 rfl)
      have hcl := hP4.cell 1
      clear hO4 hO4' hfv hold hbt hC P3 hP4 hW4
      go_wp2
      go_step3
      simp only [Exit.then]
      rename_i hK
      refine hK _ _ ?_
      exact Hpass.out _ _ (PushJP.mk _ _ _ _ _ _ _ _ _ _ _ _ _ _ _ _ _ _ _ _ _ _ _ _ _ _ _ _ _ _ _ _ _ _ _ _ _ _ _ _ _ _ _ _ _ _ _ _ _ _ _ _ _ _ _ _ _ _ _ _ _ _ _ _ _ _ _ _ _ _ _ _ _ _ ⟨by omega, Lib.hid ⟨HNds.out, HUp.out, List.Perm.refl _, by rw [Array.size_push, HN.out], HC.out, HP4.out, hc5, hm5, hl5, hB5, HW4.out, fun u hu => by
        rcases List.mem_append.1 hu with hu | hu
        · exact HPV.out u hu
        · rw [List.mem_singleton] at hu
          subst hu
          exact HPX.out _ _ HVF.out⟩⟩)
end Go.Proofs.YthoibjnkhkjnjaaGreat

/-
  A region that draws its order: one operation changes one block (an append), a later one stores its value into another block; plain (for seats that have the queue's texts).
-/
namespace Go.Proofs.YthoibjnkhkjnjaaGreat
open Go.RowKit
set_option linter.unusedVariables false
set_option linter.unusedSimpArgs false

/-! ONE operation of the region changes one block (an append, a store); another one may move its value. -/
def postO {S : Nat} (s1 : Nat) (F : Value → World → Prop) (L : List (PP S)) (k : Nat) (v : Value) (w1 : World) : Prop :=
  if k = s1 then F v w1 else (L.getD k PP.any).p v w1
set_option maxRecDepth 100000 in
set_option maxHeartbeats 1000000 in
theorem tellO {S : Nat} {w1 : World} {s1 : Nat} {F : Value → World → Prop} {L : List (PP S)} {f : Nat → Value} {l : List Edge} (hp : PostsOf (postO s1 F L) f w1 l) (n j : Nat)
    (h : (match l[n]? with | some e => Region.binds .any e && e.on == j | none => false) = true) (hs : (j == s1) = false) : (L.getD j PP.any).p (f j) w1 := by
  have := postsOf_nth l n j h hp
  unfold postO at this
  rw [if_neg (by simpa using hs)] at this
  exact this
def opt2 (k s1 s2 : Nat) : Option Bool := if k = s1 then some true else if k = s2 then some false else none

set_option maxRecDepth 100000 in
set_option maxHeartbeats 1000000 in
theorem grown_trans {row : Option Nat} {a b c : World} (h : a.grownBy b row) (k : b.grownBy c row) : a.grownBy c row := by
  cases row with
  | none => exact Ext.trans h k
  | some g => exact Chg.trans h k
set_option maxRecDepth 100000 in
set_option maxHeartbeats 1000000 in
theorem ext_grown {a b : World} (row : Option Nat) (h : Ext a b) : a.grownBy b row := by
  cases row with
  | none => exact h
  | some g => exact h.chg g
set_option maxRecDepth 100000 in
set_option maxHeartbeats 1000000 in
theorem grown_chgS {row : Option Nat} {a b : World} (g : Nat) (h : a.grownBy b row) : ChgS (row.toList ++ [g]) a b := by
  cases row with
  | none => exact Ext.chgS _ h
  | some g' => exact Chg.chgS (g := g') h (by simp)
set_option maxRecDepth 100000 in
set_option maxHeartbeats 1000000 in
theorem grown_ext {row : Option Nat} {g : Nat} {a b : World} (h : a.grownBy b row) (k : Chg g a b) (hne : ∀ r, row = some r → r ≠ g) : Ext a b := by
  cases row with
  | none => exact h
  | some r =>
    refine ⟨World.grownBy.os h, World.grownBy.tape h, World.grownBy.output h, Chg.size h, fun j hj _ => ?_⟩
    by_cases e : j = r
    · exact Chg.heap k hj (by have := hne r rfl; omega)
    · exact Chg.heap h hj e
def OweH {S : Nat} (P : Program) (fr : (Nat → Value) → Array Value) (df : List Deferred) (w : World) (row : Option Nat) (gG s1 s2 : Nat) (F G2 : Value → World → Prop) (L : List (PP S)) (lates : List (Nat × Nat × Nat)) (tmps : Array Value) (pre : List Nat) (k : Nat) (o : Oper) : Prop :=
  ∀ f w1, (if pre.contains k then Ext w w1 else if k = s2 then ChgS row.toList w w1 else ChgS (row.toList ++ [gG]) w w1) → PostsOf (postO s1 F L) f w1 o.after.toList → LateFacts tmps f k lates →
    match opt2 k s1 s2 with
    | some true => OpGoal P o ⟨fr f, df⟩ f w1 (fun a b => a.grownBy b row) F
    | some false => OpGoal P o ⟨fr f, df⟩ f w1 (Chg gG) (fun _ w2 => G2 (f s1) w2)
    | none => OpGoal P o ⟨fr f, df⟩ f w1 Ext (L.getD k PP.any).p
def OwesH {S : Nat} (P : Program) (fr : (Nat → Value) → Array Value) (df : List Deferred) (w : World) (row : Option Nat) (gG s1 s2 : Nat) (F G2 : Value → World → Prop) (L : List (PP S)) (lates : List (Nat × Nat × Nat)) (tmps : Array Value) (pre : List Nat) : List Oper → Nat → Prop
  | [], _ => True
  | o :: l, k => OweH P fr df w row gG s1 s2 F G2 L lates tmps pre k o ∧ OwesH P fr df w row gG s1 s2 F G2 L lates tmps pre l (k + 1)
set_option maxRecDepth 100000 in
set_option maxHeartbeats 1000000 in
theorem owesH_at {S : Nat} {P : Program} {fr : (Nat → Value) → Array Value} {df : List Deferred} {w : World} {row : Option Nat} {gG s1 s2 : Nat} {F G2 : Value → World → Prop} {L : List (PP S)} {lates : List (Nat × Nat × Nat)} {tmps : Array Value} {pre : List Nat} :
    ∀ (l : List Oper) (k : Nat), OwesH P fr df w row gG s1 s2 F G2 L lates tmps pre l k → ∀ i o, l[i]? = some o → OweH P fr df w row gG s1 s2 F G2 L lates tmps pre (k + i) o
  | [], _, _, i, o, h => by simp at h
  | x :: l, k, hs, i, o, h => by
    cases i with
    | zero =>
      simp only [List.getElem?_cons_zero, Option.some.injEq] at h
      subst h
      exact hs.1
    | succ i =>
      have := owesH_at l (k + 1) hs.2 i o (by simpa using h)
      rwa [show k + 1 + i = k + (i + 1) by omega] at this
set_option maxRecDepth 100000 in
set_option maxHeartbeats 1000000 in
theorem pp_grown {S : Nat} (p : PP S) (hc : p.c = false) {row : Option Nat} (hA : ∀ g, row = some g → g < S) {v : Value} {w1 w2 : World} (h : w1.grownBy w2 row) (hp : p.p v w1) : p.p v w2 := by
  cases row with
  | none => exact p.m _ _ _ h hp
  | some g => exact p.m2 hc g (hA g rfl) _ _ _ h hp
set_option maxRecDepth 100000 in
set_option maxHeartbeats 1000000 in
/-- THE LAW. -/
theorem wp_region_hand {P : Program} {id : Nat} {l : List Oper} {Q : Exit → Act → World → Prop} {tmps : Array Value} {df : List Deferred} {w : World} {fr : (Nat → Value) → Array Value}
    (row : Option Nat) (gG s1 s2 : Nat) (F G2 : Value → World → Prop) (L : List (PP w.heap.size)) (lates : List (Nat × Nat × Nat)) (pre : List Nat)
    (hm : P.follows .mixedOrders = true) (hok : (regOk l.toArray tmps.size && lateOk l.toArray lates && ancOk l.toArray [s1] (pre.filter (· != s1)) && ancOk l.toArray [s2] (s1 :: pre.filter (· != s1))) = true)
    (hfr : ∀ f, fillR l.toArray tmps f = fr f)
    (hss : s1 ≠ s2) (hA : ∀ g, row = some g → g < w.heap.size ∧ g ≠ gG) (hGl : gG < w.heap.size)
    (hF : ∀ u w1 w2, Ext w1 w2 → F u w1 → F u w2) (hFG : ∀ u w1 w2, Chg gG w1 w2 → F u w1 → F u w2) (hG2 : ∀ u w1 w2, Ext w1 w2 → G2 u w1 → G2 u w2)
    (hL : ∀ p ∈ L, p.c = false) (hL2 : ∀ v w, (L.getD s2 PP.any).p v w)
    (hstep : OwesH P fr df w row gG s1 s2 F G2 L lates tmps pre l 0)
    (hend : ∀ f w1, ChgS (row.toList ++ [gG]) w w1 → F (f s1) w1 → G2 (f s1) w1 → AllPosts (postO s1 F L) f w1 l.length 0 → Q .normal ⟨fr f, df⟩ w1)
    (hs1 : s1 < l.length) (hs2 : s2 < l.length) :
    (Code.region id l.toArray true).wp P Q ⟨tmps, df⟩ w := by
  simp only [Bool.and_eq_true] at hok
  obtain ⟨⟨⟨hok1, hok2⟩, hok3⟩, hok4⟩ := hok
  have hLk : ∀ k, (L.getD k PP.any).c = false := fun k => by
    by_cases hk : k < L.length
    · rw [List.getD, List.getElem?_eq_getElem hk]
      exact hL _ (List.getElem_mem hk)
    · rw [List.getD, List.getElem?_eq_none (by omega)]
      rfl
  have hself : ∀ s, ∀ j ∈ [s], Anc l.toArray j s := fun s j hj => by
    have : j = s := by simpa using hj
    rw [this]; exact .self
  have hanc2 : Anc l.toArray s1 s2 := anc_of _ [s2] (hself s2) hok4 s1 (List.mem_cons_self ..)
  have hrow : ∀ g, row = some g → g < w.heap.size := fun g h => (hA g h).1
  have hsz : ∀ {a b : World}, a.grownBy b row → a.heap.size ≤ b.heap.size := fun h => World.grownBy.size h
  refine wp_region_posts (D := fun listed f b => listed s2 = true → listed s1 = true ∧ G2 (f s1) b) (G := fun a b => ChgS (row.toList ++ [gG]) a b) (G0 := fun s a b => (s = s1 → Chg gG a b) ∧ (s = s2 → a.grownBy b row))
    (R := fun i w1 w2 => if i = s1 then w1.grownBy w2 row else if i = s2 then Chg gG w1 w2 else Ext w1 w2) (post := postO s1 F L) hm hok1 (fun _ h => by cases h) ((Ext.refl w).drew.chgS _) (fun s => ⟨fun _ => ((Ext.refl w).drew).chg gG, fun _ => ext_grown row (Ext.refl w).drew⟩) ?_ ?_ ?_ ?_ ?_
  · intro i w1 w2 hG hR
    by_cases hi : i = s1
    · simp only [hi, if_true] at hR; exact hG.trans (grown_chgS gG hR)
    · by_cases h2 : i = s2
      · subst h2
        simp only [hi, if_false, if_true] at hR
        exact hG.trans (hR.chgS (by simp))
      · simp only [hi, h2, if_false] at hR; exact hG.trans (hR.chgS _)
  · rintro s i w1 w2 his ⟨h1, h2⟩ hR
    by_cases hi : i = s1
    · subst hi
      simp only [if_true] at hR
      exact ⟨fun e => absurd e.symm his, fun e => grown_trans (h2 e) hR⟩
    · by_cases hi2 : i = s2
      · subst hi2
        simp only [hi, if_false, if_true] at hR
        exact ⟨fun e => (h1 e).trans hR, fun e => absurd e.symm his⟩
      · simp only [hi, hi2, if_false] at hR
        exact ⟨fun e => (h1 e).trans (hR.chg gG), fun e => grown_trans (h2 e) (ext_grown row hR)⟩
  · intro i j v w1 w2 hij hG hR hp
    unfold postO at hp ⊢
    by_cases hj : j = s1
    · simp only [hj, if_true] at hR
      have hi : i ≠ s1 := fun h => hij (by rw [h, hj])
      simp only [hi, if_false] at hp ⊢
      exact pp_grown _ (hLk i) hrow hR hp
    · by_cases hj2 : j = s2
      · simp only [hj, if_false] at hR
        simp only [hj2, if_true] at hR
        by_cases hi : i = s1
        · simp only [hi, if_true] at hp ⊢
          exact hFG _ _ _ hR hp
        · simp only [hi, if_false] at hp ⊢
          exact (L.getD i PP.any).m2 (hLk i) _ hGl _ _ _ hR hp
      · simp only [hj, hj2, if_false] at hR
        by_cases hi : i = s1
        · simp only [hi, if_true] at hp ⊢
          exact hF _ _ _ hR hp
        · simp only [hi, if_false] at hp ⊢
          exact (L.getD i PP.any).m _ _ _ hR hp
  · intro i o ho listed f w1 hli hbefore hD hG hpre hp hl
    have hO := owesH_at l 0 hstep i o (by simpa using ho)
    rw [Nat.zero_add] at hO
    rw [hfr]
    have hEE : (if pre.contains i then Ext w w1 else if i = s2 then ChgS row.toList w w1 else ChgS (row.toList ++ [gG]) w w1) := by
      split
      · rename_i hpi
        have h1 : Anc l.toArray i s1 := by
          by_cases his : i = s1
          · rw [his]; exact .self
          · exact anc_of _ [s1] (hself s1) hok3 i (List.mem_filter.2 ⟨by simpa using hpi, by simpa using his⟩)
        have h2 : Anc l.toArray i s2 := by
          by_cases his : i = s1
          · rw [his]; exact hanc2
          · exact anc_of _ [s2] (hself s2) hok4 i (List.mem_cons_of_mem _ (List.mem_filter.2 ⟨by simpa using hpi, by simpa using his⟩))
        exact grown_ext ((hpre s2 h2).2 rfl) ((hpre s1 h1).1 rfl) fun r hr => (hA r hr).2
      · split
        · rename_i h2
          subst h2
          have := (hpre i .self).2 rfl
          cases row with
          | none => exact Ext.chgS _ this
          | some g => exact Chg.chgS (g := g) this (by simp)
        · exact hG
    have hg := hO f w1 hEE (postsOf_of _ fun e he hb => hp e (Array.mem_toList_iff.1 he) hb) (lateFacts_of hl lates hok2)
    unfold postO
    by_cases h1 : i = s1
    · subst h1
      simp only [opt2, if_true] at hg
      refine OpGoal.mono (fun w' h => by simp only [if_true]; exact h) (fun v w' _ h => ⟨by simp only [if_true]; exact h, fun h2 => ?_⟩) (fun h => ⟨by simp only [if_true]; exact h, fun h2 => ?_⟩) hg
      · simp only [Ne.symm hss, if_false] at h2
        have := (hD h2).1
        rw [hli] at this
        cases this
      · simp only [Ne.symm hss, if_false] at h2
        have := (hD h2).1
        rw [hli] at this
        cases this
    · by_cases h2 : i = s2
      · subst h2
        simp only [opt2, h1, if_false, if_true] at hg
        have hb := hbefore s1 hanc2 hss
        refine OpGoal.mono (fun w' h => by simp only [h1, if_false, if_true]; exact h) (fun v w' _ h => ⟨by simp only [h1, if_false]; exact hL2 v w', fun _ => ?_⟩) (fun h => ⟨by simp only [h1, if_false]; exact hL2 undef w1, fun _ => ?_⟩) hg
        · simp only [hss, if_false]
          exact ⟨hb, h⟩
        · simp only [hss, if_false]
          exact ⟨hb, h⟩
      · simp only [opt2, h1, h2, if_false] at hg
        refine OpGoal.mono (fun w' h => by simp only [h1, h2, if_false]; exact h) (fun v w' hR' h => ⟨by simp only [h1, if_false]; exact h, fun h3 => ?_⟩) (fun h => ⟨by simp only [h1, if_false]; exact h, fun h3 => ?_⟩) hg
        · simp only [Ne.symm h2, if_false] at h3
          simp only [Ne.symm h1, if_false]
          obtain ⟨k1, k2⟩ := hD h3
          exact ⟨k1, hG2 _ _ _ hR' k2⟩
        · simp only [Ne.symm h2, if_false] at h3
          simp only [Ne.symm h1, if_false]
          exact hD h3
  · intro f w1 hG hp hd
    obtain ⟨listed, hall, hd⟩ := hd
    rw [hfr]
    have hF1 := hp s1 (by simpa using hs1)
    unfold postO at hF1
    rw [if_pos rfl] at hF1
    exact hend f w1 hG hF1 (hd (hall s2 (by simpa using hs2))).2 (allPosts_of _ _ fun i _ hi => hp i (by simpa using hi))
set_option maxRecDepth 100000 in
set_option maxHeartbeats 1000000 in
theorem tellOS {S : Nat} {w1 : World} {s1 : Nat} {F : Value → World → Prop} {L : List (PP S)} {f : Nat → Value} {l : List Edge} (hp : PostsOf (postO s1 F L) f w1 l) (n : Nat)
    (h : (match l[n]? with | some e => Region.binds .any e && e.on == s1 | none => false) = true) : F (f s1) w1 := by
  have := postsOf_nth l n s1 h hp
  unfold postO at this
  rw [if_pos rfl] at this
  exact this
end Go.Proofs.YthoibjnkhkjnjaaGreat
