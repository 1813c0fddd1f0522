/-
  The document's queue: Push.
-/
import Derived.Test.YthoibjnkhkjnjaaGreatQpaZ
import Derived.Test.YthoibjnkhkjnjaaGreatQpgZ
namespace Go.Proofs.YthoibjnkhkjnjaaGreat
open Go.RowKit
set_option linter.unusedVariables false
set_option linter.unusedSimpArgs false

set_option maxRecDepth 100000 in
set_option maxHeartbeats 1000000 in
theorem ChgS.one {g : Nat} {w w' : World} (h : ChgS [g] w w') : Chg g w w' := ⟨h.1, h.2.1, h.2.2.1, h.2.2.2.1, fun k hk n => h.2.2.2.2 k hk (fun hm => by rw [List.mem_singleton] at hm; subst hm; exact n rfl)⟩
set_option maxRecDepth 100000 in
set_option maxHeartbeats 1000000 in
theorem put3n {t : TypeId} {g : Nat} {w : World} {a b c d e : Value} (h : Bx t w g #[a, b, c, d, e]) (c' d' e' : Value) : ∃ w1, w1 = (((w.setCell ⟨g, 2, none⟩ c').setCell ⟨g, 3, none⟩ d').setCell ⟨g, 4, none⟩ e') ∧ Chg g w w1 ∧ Bx t w1 g #[a, b, c', d', e'] :=
  ⟨_, rfl, ((Chg.setCell w g 2 _).trans (Chg.setCell _ g 3 _)).trans (Chg.setCell _ g 4 _), ((h.set 2 c').set 3 d').set 4 e'⟩
set_option maxRecDepth 100000 in
set_option maxHeartbeats 1000000 in
/-- A struct stored into a place of a block. -/
theorem og_putN {P : Program} {o : Oper} {a : Act} {f : Nat → Value} {w : World} {post : Value → World → Prop} (g off : Nat) (t ty : TypeId) (cur cs : Array Value) (x y : Operand) (hgd : o.guard = none) (ho : o.op = .store ty x y) (hx : a.eval x = .pointer (some ⟨g, off, none⟩)) (hy : a.eval y = .agg cs)
    (hty : (P.info? ty).map (·.size) = some cs.size) (hb : Bx t w g cur) (hfit : off + cs.size ≤ cur.size) (h1 : cs.all (·.oneCell') = true) (h : ∀ w', Bx t w' g (splice cur off cs.toList) → ∀ u, post u w') : OpGoal P o a f w (Chg g) post := by
  have hrun := run_storeVar_part (P := P) w g off t ty cur cs hb hty hfit h1
  unfold OpGoal
  rw [hgd]
  unfold Oper.wp execOp
  simp only [ho, hx, hy, Instr.storeAt, Instr.sureAddr, Sem.run_bind, Sem.run_pure, Result.andThen_ok, hrun]
  exact ⟨_, rfl, Chg.setRow w g _, h _ (setRow_heap w g cur _ t _ hb) _⟩
/-- The list behind an append. -/
def ApO (B p S n : Nat) (v : Value) (xs : List Value) (u : Value) (w : World) : Prop :=
  rowO w B 38 5 u n xs ∧ ∀ g, u.ownBlock = some g → g ≠ p ∧ (v.ownBlock = some g ∨ S ≤ g)
set_option maxRecDepth 100000 in
set_option maxHeartbeats 1000000 in
theorem ApO.ext {B p S n : Nat} {v u : Value} {xs : List Value} {w w' : World} (h : ApO B p S n v xs u w) (he : Ext w w') : ApO B p S n v xs u w' :=
  ⟨h.1.kept (row := Option.none) he (by cases u.ownBlock <;> simp), h.2⟩
set_option maxRecDepth 100000 in
set_option maxHeartbeats 1000000 in
theorem ApO.chg {B p S n : Nat} {v u : Value} {xs : List Value} {w w' : World} (h : ApO B p S n v xs u w) (he : Chg p w w') : ApO B p S n v xs u w' :=
  ⟨h.1.kept (row := some p) he (by
    cases hu : u.ownBlock with
    | none => exact .inl rfl
    | some g => exact .inr fun e => (h.2 g hu).1 (by simpa using e)), h.2⟩
/-- x stands at place i; ahead of all behind it. -/
def PuI (B k p n g off cap : Nat) (best : Bool) (Bs : List Nat) (L : List Nd) (x : Nd) (w : World) (i : Nat) (wr : World) : Prop :=
  DL B k wr (.slice (some ⟨g, off, none⟩) n cap) (insN L i x) ∧ Bx 31 wr p #[.int .i64 (ordV best), .slice (some ⟨g, off, none⟩) n cap] ∧ (∀ j y, i ≤ j → L[j]? = some y → Lt best x y) ∧ ChgS Bs w wr
set_option maxRecDepth 100000 in
set_option maxHeartbeats 16000000 in
theorem rpush_calls (B k p : Nat) (best : Bool) (v va : Value) (L : List Nd) (x : Nd) (w : World) (hp : Bx 31 w p #[.int .i64 (ordV best), v]) (hd : DL B k w v L) (hs : Srt best L) (hx : NdR k w va x) (hk : k ≤ 1000) (hn : (L.length + 1) * 72 ≤ 140737488355328) (hB : B ≤ w.heap.size) :
    Calls Tryz.prog 10 #[.pointer (some ⟨p, 0, none⟩), va] w fun e w' => e = .returned (.tuple #[]) ∧ ChgS (p :: blks v) w w' ∧ ∃ v' L', Bx 31 w' p #[.int .i64 (ordV best), v'] ∧ DL B k w' v' L' ∧ Srt best L' ∧ L'.Perm (x :: L) ∧ (∀ g, v'.ownBlock = some g → v.ownBlock = some g ∨ w.heap.size ≤ g) := by
  have lim0 : (1000 : Nat) ≤ LIM := by rw [LIM_eq]; omega
  obtain ⟨b, a1, n1, c1, a2, n2, c2, rfl, rx⟩ := hx
  obtain ⟨xi, xd, xq⟩ := x
  simp only at rx
  obtain ⟨ad, cap0, rfl⟩ := hd.val
  have hown := hd.own
  obtain ⟨vs, h5, hvl, hrow, hnd⟩ := hd
  obtain ⟨m0, hm0⟩ : ∃ m0, m0 = L.length := ⟨_, rfl⟩
  rw [← hm0] at hp hown hrow hn ⊢
  have HX := Lib.hid rx
  have HD := Lib.hid (And.intro h5 (And.intro hvl (And.intro hrow hnd)))
  have HP := Lib.hid hp
  have HS := Lib.hid hs
  have HM := Lib.hid hm0
  have HW := Lib.hid hown
  have hpl := hp.lt
  obtain ⟨w1, hw1, e1, ba, s1⟩ := alloc1 w #[.int .i64 xi, .int .i64 xd, .bool b, .slice a1 n1 c1, .slice a2 n2 c2] 38
  obtain ⟨w2, hw2, e2, bb, s2⟩ := alloc1 w1 #[.int .i64 xi, .int .i64 xd, .bool b, .slice a1 n1 c1, .slice a2 n2 c2] 38
  have ba2 := ba.ext e2
  have hw3 : w2 = (w.alloc (.cells #[.int .i64 xi, .int .i64 xd, .bool b, .slice a1 n1 c1, .slice a2 n2 c2] 38)).alloc (.cells #[.int .i64 xi, .int .i64 xd, .bool b, .slice a1 n1 c1, .slice a2 n2 c2] 38) := by rw [hw2, hw1]
  have hc2 := ba2.cell 2
  have hc3 := ba2.cell 3
  have hc4 := ba2.cell 4
  have E2 := e1.trans e2
  rw [s1] at bb
  rw [hw3] at hc2 hc3 hc4
  clear hw1 hw2 ba e1 e2 hs hm0 h5 hvl hrow hnd rx hp hown
  go_enter Tryz.func10, Tryz.ntmps10
  go_wp2_with fail
  rw [← hw3]
  clear hw3 hc2 hc3 hc4
  refine (rqofR_calls _ xq k _ (HX.out.ext E2) hk).mono ?_
  rintro e w3 ⟨v2, rfl, q2, e3⟩
  go_wp2_with fail
  refine (rqto3_calls _ xq _ q2.cq (by have := IsR.szD HX.out; omega)).mono ?_
  rintro e w4 ⟨v3, rfl, q3, e4⟩
  obtain ⟨b3, a3, n3, c3, a4, n4, c4, rfl, q4⟩ := q3.opn
  have B4 := bb.ext (e3.trans e4)
  have hc2 := B4.cell 2
  have hc3 := B4.cell 3
  have hc4 := B4.cell 4
  have hf2 := B4.free 2
  have hf3 := B4.free 3
  have hf4 := B4.free 4
  obtain ⟨w5, hw5, c5, B5⟩ := put3n B4 (.bool b3) (.slice a3 n3 c3) (.slice a4 n4 c4)
  have hs3 := e3.size
  have hs4 := e4.size
  have hs2 := E2.size
  have Q5 := q4.chg c5 (by omega)
  have E5 := ((E2.trans e3).trans e4).step c5 (by omega)
  have hs5 := E5.size
  clear q2 q3 q4 bb B4 c5 e3 e4
  go_wp2_with fail
  rw [← hw5]
  clear hw5 hc2 hc3 hc4 hf2 hf3 hf4
  have HV := Lib.hid (show NdV B k w5 (.agg #[.int .i64 xi, .int .i64 xd, .bool b3, .slice a3 n3 c3, .slice a4 n4 c4]) ⟨xi, xd, xq⟩ from ⟨_, _, _, _, _, _, _, rfl, Q5.mono (by omega), HX.out.sz⟩)
  have P5 := HP.out.ext E5
  have hnG : ∀ g, (Value.slice ad m0 cap0).ownBlock = some g → g < w5.heap.size ∧ g ≠ p := fun g hg => by
    obtain ⟨-, h2, cs', h3⟩ := HW.out g hg
    refine ⟨by omega, fun e => ?_⟩
    subst e
    exact bx_ne HP.out (by decide) h3
  have HNG := Lib.hid hnG
  have hpg : p < w5.heap.size := by omega
  have HR := Lib.hid (show rowO w5 B 38 5 (.slice ad m0 cap0) m0 (flat vs) from by
    have := HD.out.2.2.1
    exact this.kept (row := Option.none) E5 (by cases (Value.slice ad m0 cap0).ownBlock <;> simp))
  clear Q5 hnG E2 s1 s2
  refine wp_region_hand ((Value.slice ad m0 cap0).ownBlock) p 7 10 (fun u b => ApO B p w5.heap.size (m0 + 1) (.slice ad m0 cap0) (flat vs ++ [.int .i64 xi, .int .i64 xd, .bool b3, .slice a3 n3 c3, .slice a4 n4 c4]) u b) (fun u b => Bx 31 b p #[.int .i64 (ordV best), u]) [PP.val (.pointer (some ⟨p, 0, none⟩)), PP.val (.pointer (some ⟨p, 0, none⟩)), PP.val (.pointer (some ⟨p, 0, none⟩)), PP.val (.pointer (some ⟨p, 1, none⟩)), PP.val (.slice ad m0 cap0), PP.val (.agg #[.int .i64 xi, .int .i64 xd, .bool b3, .slice a3 n3 c3, .slice a4 n4 c4]), PP.one #[.int .i64 xi, .int .i64 xd, .bool b3, .slice a3 n3 c3, .slice a4 n4 c4], PP.any, PP.val (.pointer (some ⟨p, 0, none⟩)), PP.val (.pointer (some ⟨p, 1, none⟩)), PP.any] [] [7, 6, 5, 4, 3, 2, 1] (by kernel_rfl) (by kernel_rfl) (fun f => (by simp only [fillR, fillL, List.setIfInBounds_toArray, List.set_cons_succ, List.set_cons_zero, Nat.reduceAdd]; rfl)) (by decide) (fun g hg => HNG.out g hg) (hpg) (fun u w1 w2 h hp => hp.ext h) (fun u w1 w2 h hp => hp.chg h) (fun u w1 w2 h hp => hp.ext h) (by intro p hp; simp only [List.mem_cons, List.not_mem_nil, or_false] at hp; rcases hp with rfl | rfl | rfl | rfl | rfl | rfl | rfl | rfl | rfl | rfl | rfl <;> rfl) (fun _ _ => trivial) ?_ ?_ (by decide) (by decide)
  · refine ⟨?o0, ?o1, ?o2, ?o3, ?o4, ?o5, ?o6, ?o7, ?o8, ?o9, ?o10, trivial⟩
    case o0 =>
      intro f w6 hG hp hl
      have hS : w5.heap.size ≤ w6.heap.size := hG.2.2.2.1
      simp only [OpGoal]
      go_simp
      exact ⟨_, rfl, Ext.refl _, rfl⟩
    case o1 =>
      intro f w6 hG hp hl
      have hE : Ext w5 w6 := hG
      have hS := hE.size
      simp only [OpGoal]
      go_simp
      exact ⟨_, rfl, Ext.refl _, rfl⟩
    case o2 =>
      intro f w6 hG hp hl
      have hE : Ext w5 w6 := hG
      have hS := hE.size
      have q14 : f 1 = .pointer (some ⟨p, 0, none⟩) := tellO hp 0 1 rfl rfl
      simp only [OpGoal]
      go_simp
      exact ⟨_, rfl, Ext.refl _, rfl⟩
    case o3 =>
      intro f w6 hG hp hl
      have hE : Ext w5 w6 := hG
      have hS := hE.size
      have q15 : f 2 = .pointer (some ⟨p, 0, none⟩) := tellO hp 0 2 rfl rfl
      simp only [OpGoal]
      go_simp
      exact ⟨_, rfl, Ext.refl _, rfl⟩
    case o4 =>
      intro f w6 hG hp hl
      have hE : Ext w5 w6 := hG
      have hS := hE.size
      have q16 : f 3 = .pointer (some ⟨p, 1, none⟩) := tellO hp 0 3 rfl rfl
      have hcell := (P5.ext hE).cell 1
      simp only [OpGoal]
      go_simp
      exact ⟨_, rfl, Ext.refl _, rfl⟩
    case o5 =>
      intro f w6 hG hp hl
      have hE : Ext w5 w6 := hG
      have hS := hE.size
      change OpGoal _ _ _ f w6 Ext _
      exact og_load (P := Tryz.prog) _ _ (w.heap.size + 1) _ _ _ rfl rfl rfl (B5.ext hE) Tryz.underlying38 rfl (by kernel_rfl) rfl
    case o6 =>
      intro f w6 hG hp hl
      have hE : Ext w5 w6 := hG
      have hS := hE.size
      have q18 : f 5 = .agg #[.int .i64 xi, .int .i64 xd, .bool b3, .slice a3 n3 c3, .slice a4 n4 c4] := tellO hp 0 5 rfl rfl
      change OpGoal _ _ _ f w6 Ext _
      exact og_buildSlice (P := Tryz.prog) 29 38 1 5 _ [.agg #[.int .i64 xi, .int .i64 xd, .bool b3, .slice a3 n3 c3, .slice a4 n4 c4]] rfl rfl Tryz.underlying29 (by kernel_rfl) (by kernel_rfl) (by simp only [Act.eval]; exact congrArg (fun z => [(0, z)]) q18) rfl (by omega) (by omega) (by omega) HV.out.five.size (fun w' he hb => ⟨_, hS, rfl, hb⟩)
    case o7 =>
      intro f w6 hG hp hl
      have hE : Ext w5 w6 := hG
      have hS := hE.size
      have q17 : f 4 = .slice ad m0 cap0 := tellO hp 0 4 rfl rfl
      have q19 := tellO hp 1 6 rfl rfl
      have q17 : f 4 = .slice ad m0 cap0 := tellO hp 0 4 rfl rfl
      obtain ⟨gx, hgx, hvx, hbx⟩ := tellO hp 1 6 rfl rfl
      change OpGoal _ _ _ f w6 (fun a b => a.grownBy b _) _
      exact og_appendO (P := Tryz.prog) _ _ 29 rfl rfl B 38 5 72 Tryz.underlying29 (by kernel_rfl) (by kernel_rfl) (by omega) (.slice ad m0 cap0) m0 (flat vs) q17 (HR.out.kept (row := Option.none) hE (by cases (Value.slice ad m0 cap0).ownBlock <;> simp)) ⟨gx, 0, none⟩ 1 1 [.int .i64 xi, .int .i64 xd, .bool b3, .slice a3 n3 c3, .slice a4 n4 c4] hvx rfl (fun j u hj => by rw [addr_add, Nat.zero_add, hbx.cell]; simpa using hj) (by intro u hu; simp at hu; rcases hu with rfl | rfl | rfl | rfl | rfl <;> rfl) (by omega) (by unfold maxLen; omega) (by omega) (by have := hE.size; omega) (fun v' w' h1 h2 h3 => ⟨h2, h1, fun g hg => ⟨by rcases h3 g hg with h | h; exact (HNG.out g h).2; have := hE.size; omega, (h3 g hg).imp_right fun h => by have := hE.size; omega⟩⟩)
    case o8 =>
      intro f w6 hG hp hl
      have hS : w5.heap.size ≤ w6.heap.size := hG.2.2.2.1
      have q13 : f 0 = .pointer (some ⟨p, 0, none⟩) := tellO hp 0 0 rfl rfl
      simp only [OpGoal]
      go_simp
      exact ⟨_, rfl, Ext.refl _, rfl⟩
    case o9 =>
      intro f w6 hG hp hl
      have hS : w5.heap.size ≤ w6.heap.size := hG.2.2.2.1
      have q21 : f 8 = .pointer (some ⟨p, 0, none⟩) := tellO hp 0 8 rfl rfl
      simp only [OpGoal]
      go_simp
      exact ⟨_, rfl, Ext.refl _, rfl⟩
    case o10 =>
      intro f w6 hG hp hl
      have hS : w5.heap.size ≤ w6.heap.size := hG.2.2.2.1
      have q22 : f 9 = .pointer (some ⟨p, 1, none⟩) := tellO hp 0 9 rfl rfl
      have q22 : f 9 = .pointer (some ⟨p, 1, none⟩) := tellO hp 0 9 rfl rfl
      have hf7 := tellOS hp 1 rfl
      have hPw : Bx 31 w6 p #[.int .i64 (ordV best), .slice ad m0 cap0] := P5.chgS hG (fun hm => (HNG.out p (by simpa using hm)).2 rfl)
      have hcl := hPw.cell 1
      have hfr := hPw.free 1
      have hlen : ∃ ad' cap', f 7 = .slice ad' (m0 + 1) cap' := by
        rcases hf7.1.2 with ⟨h1, h2⟩ | ⟨g', off', cap', cur', h1, -⟩
        · omega
        · exact ⟨_, _, h1⟩
      obtain ⟨ad', cap', hv'⟩ := hlen
      change OpGoal _ _ _ f w6 (Chg p) (fun (_ : Value) w2 => Bx 31 w2 p #[.int .i64 (ordV best), f 7])
      rw [hv']
      clear hf7
      simp only [OpGoal]
      go_simp
      exact ⟨undef, rfl, Chg.setCell _ _ _ _, hPw.set 1 _⟩
  · intro f w6 hC hF1 hH1 hp
    clear hp
    obtain ⟨hF1a, hF1b⟩ := hF1
    obtain ⟨v6, hv6⟩ : ∃ v6, v6 = f 7 := ⟨_, rfl⟩
    rw [← hv6] at hF1a hF1b hH1
    clear hv6
    have hbt : ∀ g ∈ (Value.slice ad m0 cap0).ownBlock.toList ++ [p], ∀ cs, ¬ Bx 61 w5 g cs := by
      intro g hg cs
      rcases List.mem_append.1 hg with h | h
      · obtain ⟨-, -, cs', h3⟩ := HW.out g (by simpa using h)
        exact bx_ne (h3.ext E5) (by decide)
      · rw [List.mem_singleton.1 h]
        exact bx_ne P5 (by decide)
    have hd6 : DL B k w6 v6 (L ++ [⟨xi, xd, xq⟩]) := DL.fin (v := v6) (w := w6) (cs := #[.int .i64 xi, .int .i64 xd, .bool b3, .slice a3 n3 c3, .slice a4 n4 c4]) HD.out.1 HD.out.2.1 (fun i u y hu hy => ((HD.out.2.2.2 i u y hu hy).ext E5).chgX hC hbt) rfl (all5 rfl rfl rfl rfl rfl) (HV.out.chgX hC hbt) (by rw [← HM.out]; exact hF1a)
    rw [← insN_end] at hd6
    have hC6 : ChgS (p :: blks (.slice ad m0 cap0)) w w6 := (E5.chgS _).more hC (fun g hg => by
      rcases List.mem_append.1 hg with h | h
      · exact .inl (List.mem_cons_of_mem _ (blks_mem (by simpa using h)))
      · rw [List.mem_singleton.1 h]
        exact .inl (List.mem_cons_self ..))
    obtain ⟨g, off, cap, -, -, -, -, -, -, -, he, -⟩ := hd6.at (insN_at (Nat.le_refl _))
    subst he
    rw [insN_len _ _ _ (Nat.le_refl _)] at hd6 hF1b hH1 hF1a
    rw [← HM.out] at hd6 hF1b hH1
    have hl6 := hd6.le.1
    rw [insN_len _ _ _ (by rw [HM.out]; exact Nat.le_refl _), ← HM.out] at hl6
    have hw6 := (show w5.heap.size ≤ w6.heap.size from hC.2.2.2.1)
    have HG := Lib.hid (show ∀ g', (Value.slice (some ⟨g, off, none⟩) (m0 + 1) cap).ownBlock = some g' → (Value.slice ad m0 cap0).ownBlock = some g' ∨ w.heap.size ≤ g' from fun g' hg' => ((hF1b g' hg').2).imp_right fun h => by omega)
    have hgp : g ≠ p := (hF1b g rfl).1
    have HI : Hid (PuI B k p (m0 + 1) g off cap best (p :: blks (.slice ad m0 cap0)) L ⟨xi, xd, xq⟩ w m0 w6) := Lib.hid ⟨hd6, hH1, fun j y hj hy => by
      have := (List.getElem?_eq_some_iff.1 hy).1
      have := HM.out
      omega, hC6⟩
    have P6 := hH1.cell 1
    clear hF1a hF1b hH1 hbt hd6 hC6 hC P5 HR HV HNG
    go_wp2_with fail
    go_loopw [5] (fun i wr => ∃ j : Nat, i = .int .i64 (j : Int) ∧ j ≤ m0 ∧ Hid (PuI B k p (m0 + 1) g off cap best (p :: blks (.slice ad m0 cap0)) L ⟨xi, xd, xq⟩ w j wr)) (fun i _ => (intOf i).toNat)
    case atStart => exact ⟨m0, by simp, Nat.le_refl _, HI⟩
    case round =>
      clear HI P6
      obtain ⟨i, rfl, hi, hH⟩ := hrel
      obtain ⟨hD, P1, hA, hC⟩ := hH.out
      have HD1 := Lib.hid hD
      have HA := Lib.hid hA
      have HC := Lib.hid hC
      have HSt := Lib.hid (fun (hb : ∀ y, 0 < i → L[i - 1]? = some y → ¬ Lt best ⟨xi, xd, xq⟩ y) => insN_srt HS.out (by rw [← HM.out]; exact hi) hA hb)
      clear hA hC hH
      by_cases h0 : i = 0
      · have HI0 := Lib.hid h0
        clear h0 hD
        go_wp2_with fail
        refine wp_region_puts [] [PP.val (.int .i64 (i : Int)), PP.val (.bool false), PP.val (.bool false), PP.any, PP.any, PP.any, PP.any, PP.any, PP.any, PP.any, PP.any, PP.any, PP.any, PP.any, PP.any, PP.any, PP.any, PP.any, PP.any, PP.any, PP.any, PP.any, PP.any, PP.val (.bool false)] [] [0, 1, 2, 3, 4, 5, 6, 7, 8, 9, 10, 11, 12, 13, 14, 15, 16, 17, 18, 19, 20, 21, 22, 23]
          (by kernel_rfl) (by kernel_rfl) (fun f => (by simp only [fillR, fillL, List.setIfInBounds_toArray, List.set_cons_succ, List.set_cons_zero, Nat.reduceAdd]; rfl)) ?_ ?_ ?_ ?_ ?_
        · intro x hx; cases hx
        · intro x hx; cases hx
        · intro x hx; cases hx
        · refine ⟨?o0, ?o1, ?o2, ?o3, ?o4, ?o5, ?o6, ?o7, ?o8, ?o9, ?o10, ?o11, ?o12, ?o13, ?o14, ?o15, ?o16, ?o17, ?o18, ?o19, ?o20, ?o21, ?o22, ?o23, trivial⟩
          case o0 =>
            intro f w2 hG hp hl
            have hE : Ext wr w2 := hG
            have hS := hE.size
            simp only [OpGoal]
            go_simp
            exact ⟨_, rfl, Ext.refl _, rfl⟩
          case o1 =>
            intro f w2 hG hp hl
            have hE : Ext wr w2 := hG
            have hS := hE.size
            have q29 : f 0 = .int .i64 (i : Int) := tellV hp 0 0 rfl rfl (fun h => by cases h)
            simp only [OpGoal]
            go_simp
            exact ⟨_, rfl, Ext.refl _, congrArg Value.bool (decide_eq_false (by have := HI0.out; omega))⟩
          case o2 =>
            intro f w2 hG hp hl
            have hE : Ext wr w2 := hG
            have hS := hE.size
            have q30 : f 1 = .bool false := tellV hp 0 1 rfl rfl (fun h => by cases h)
            simp only [OpGoal]
            go_simp
            exact ⟨_, rfl, Ext.refl _, rfl⟩
          case o3 =>
            intro f w2 hG hp hl
            have hE : Ext wr w2 := hG
            have hS := hE.size
            have qg : f 2 = .bool false := tellV hp 0 2 rfl rfl (fun h => by cases h)
            exact og_skip rfl qg (by decide) trivial
          case o4 =>
            intro f w2 hG hp hl
            have hE : Ext wr w2 := hG
            have hS := hE.size
            have qg : f 2 = .bool false := tellV hp 1 2 rfl rfl (fun h => by cases h)
            exact og_skip rfl qg (by decide) trivial
          case o5 =>
            intro f w2 hG hp hl
            have hE : Ext wr w2 := hG
            have hS := hE.size
            have qg : f 2 = .bool false := tellV hp 1 2 rfl rfl (fun h => by cases h)
            exact og_skip rfl qg (by decide) trivial
          case o6 =>
            intro f w2 hG hp hl
            have hE : Ext wr w2 := hG
            have hS := hE.size
            have qg : f 2 = .bool false := tellV hp 1 2 rfl rfl (fun h => by cases h)
            exact og_skip rfl qg (by decide) trivial
          case o7 =>
            intro f w2 hG hp hl
            have hE : Ext wr w2 := hG
            have hS := hE.size
            have qg : f 2 = .bool false := tellV hp 0 2 rfl rfl (fun h => by cases h)
            exact og_skip rfl qg (by decide) trivial
          case o8 =>
            intro f w2 hG hp hl
            have hE : Ext wr w2 := hG
            have hS := hE.size
            have qg : f 2 = .bool false := tellV hp 1 2 rfl rfl (fun h => by cases h)
            exact og_skip rfl qg (by decide) trivial
          case o9 =>
            intro f w2 hG hp hl
            have hE : Ext wr w2 := hG
            have hS := hE.size
            have qg : f 2 = .bool false := tellV hp 1 2 rfl rfl (fun h => by cases h)
            exact og_skip rfl qg (by decide) trivial
          case o10 =>
            intro f w2 hG hp hl
            have hE : Ext wr w2 := hG
            have hS := hE.size
            have qg : f 2 = .bool false := tellV hp 1 2 rfl rfl (fun h => by cases h)
            exact og_skip rfl qg (by decide) trivial
          case o11 =>
            intro f w2 hG hp hl
            have hE : Ext wr w2 := hG
            have hS := hE.size
            have qg : f 2 = .bool false := tellV hp 0 2 rfl rfl (fun h => by cases h)
            exact og_skip rfl qg (by decide) trivial
          case o12 =>
            intro f w2 hG hp hl
            have hE : Ext wr w2 := hG
            have hS := hE.size
            have qg : f 2 = .bool false := tellV hp 2 2 rfl rfl (fun h => by cases h)
            exact og_skip rfl qg (by decide) trivial
          case o13 =>
            intro f w2 hG hp hl
            have hE : Ext wr w2 := hG
            have hS := hE.size
            have qg : f 2 = .bool false := tellV hp 1 2 rfl rfl (fun h => by cases h)
            exact og_skip rfl qg (by decide) trivial
          case o14 =>
            intro f w2 hG hp hl
            have hE : Ext wr w2 := hG
            have hS := hE.size
            have qg : f 2 = .bool false := tellV hp 0 2 rfl rfl (fun h => by cases h)
            exact og_skip rfl qg (by decide) trivial
          case o15 =>
            intro f w2 hG hp hl
            have hE : Ext wr w2 := hG
            have hS := hE.size
            have qg : f 2 = .bool false := tellV hp 1 2 rfl rfl (fun h => by cases h)
            exact og_skip rfl qg (by decide) trivial
          case o16 =>
            intro f w2 hG hp hl
            have hE : Ext wr w2 := hG
            have hS := hE.size
            have qg : f 2 = .bool false := tellV hp 1 2 rfl rfl (fun h => by cases h)
            exact og_skip rfl qg (by decide) trivial
          case o17 =>
            intro f w2 hG hp hl
            have hE : Ext wr w2 := hG
            have hS := hE.size
            have qg : f 2 = .bool false := tellV hp 1 2 rfl rfl (fun h => by cases h)
            exact og_skip rfl qg (by decide) trivial
          case o18 =>
            intro f w2 hG hp hl
            have hE : Ext wr w2 := hG
            have hS := hE.size
            have qg : f 2 = .bool false := tellV hp 0 2 rfl rfl (fun h => by cases h)
            exact og_skip rfl qg (by decide) trivial
          case o19 =>
            intro f w2 hG hp hl
            have hE : Ext wr w2 := hG
            have hS := hE.size
            have qg : f 2 = .bool false := tellV hp 1 2 rfl rfl (fun h => by cases h)
            exact og_skip rfl qg (by decide) trivial
          case o20 =>
            intro f w2 hG hp hl
            have hE : Ext wr w2 := hG
            have hS := hE.size
            have qg : f 2 = .bool false := tellV hp 2 2 rfl rfl (fun h => by cases h)
            exact og_skip rfl qg (by decide) trivial
          case o21 =>
            intro f w2 hG hp hl
            have hE : Ext wr w2 := hG
            have hS := hE.size
            have qg : f 2 = .bool false := tellV hp 1 2 rfl rfl (fun h => by cases h)
            exact og_skip rfl qg (by decide) trivial
          case o22 =>
            intro f w2 hG hp hl
            have hE : Ext wr w2 := hG
            have hS := hE.size
            have qg : f 2 = .bool false := tellV hp 3 2 rfl rfl (fun h => by cases h)
            exact og_skip rfl qg (by decide) trivial
          case o23 =>
            intro f w2 hG hp hl
            have hE : Ext wr w2 := hG
            have hS := hE.size
            have q31 : f 2 = .bool false := tellV hp 0 2 rfl rfl (fun h => by cases h)
            simp only [OpGoal]
            go_simp
            exact ⟨_, rfl, Ext.refl _, rfl⟩
        · intro f w2 hG hp
          have hE : Ext wr w2 := ChgS.nil hG
          have q52 : f 23 = .bool false := endV hp 23 (by decide) rfl (fun h => by cases h)
          try simp only [q52]
          clear hp
          go_wp2
          go_end0
          exact ⟨rfl, HC.out.trans (hE.chgS _), _, insN L i ⟨xi, xd, xq⟩, P1.ext hE, HD1.out.ext hE, HSt.out (fun y hy => by have := HI0.out; omega), insN_perm _ _ _, HG.out⟩
      · obtain ⟨m, rfl⟩ : ∃ m, i = m + 1 := ⟨i - 1, by omega⟩
        have hml : m < L.length := by rw [← HM.out]; omega
        have hm1l : m + 1 ≤ L.length := by omega
        obtain ⟨y, hy⟩ : ∃ y, L[m]? = some y := ⟨_, List.getElem?_eq_getElem hml⟩
        obtain ⟨g', off', cap', b5, a5, n5, c5, a6, n6, c6, hse, hcx, hNx⟩ := hD.at (insN_at hm1l)
        simp only [Value.slice.injEq, Option.some.injEq, Addr.mk.injEq] at hse
        obtain ⟨⟨rfl, rfl, -⟩, -, rfl⟩ := hse
        obtain ⟨g', off', cap', b7, a7, n7, c7, a8, n8, c8, hse, hcy, hNy⟩ := hD.at (insN_pre (x := ⟨xi, xd, xq⟩) hy)
        simp only [Value.slice.injEq, Option.some.injEq, Addr.mk.injEq] at hse
        obtain ⟨⟨rfl, rfl, -⟩, -, rfl⟩ := hse
        obtain ⟨yi, yd, yq⟩ := y
        simp only at hcx hcy hNx hNy
        obtain ⟨-, hgl, cur, hcur⟩ := hD.own g rfl
        have hfx := hD.fits rfl (i := m + 1) (by rw [insN_len _ _ _ hm1l]; omega) hcur
        have hfy := hD.fits rfl (i := m) (by rw [insN_len _ _ _ hm1l]; omega) hcur
        have HCX := Lib.hid (show ∀ wz, Ext wr wz → _ from fun wz hz => hcx wz hz.bxs)
        have HCY := Lib.hid (show ∀ wz, Ext wr wz → _ from fun wz hz => hcy wz hz.bxs)
        have HNX := Lib.hid hNx
        have HNY := Lib.hid hNy
        have HY := Lib.hid hy
        have HCU := Lib.hid hcur
        obtain ⟨r, hr⟩ : ∃ r, r = decide (Lt best ⟨xi, xd, xq⟩ ⟨yi, yd, yq⟩) := ⟨_, rfl⟩
        have Hr := Lib.hid hr.symm
        have hcast : ((m + 1 : Nat) : Int) = (m : Int) + 1 := by omega
        rw [hcast]
        have hm0 : (0 : Int) < (m : Int) + 1 := by omega
        have hmn : (m : Int) + 1 < (m0 : Int) + 1 := by omega
        have hmn2 : (m : Int) < (m0 : Int) + 1 := by omega
        have hmm : m < m0 := by omega
        have hwm : IntKind.i64.wrap (m : Int) = (m : Int) := by simp (disch := omega) only [IntWalk.i64_in]
        clear hcx hcy hNx hNy hy hcur hr hD h0 hcast
        go_wp2_with fail
        refine wp_region_puts [] [PP.val (.int .i64 ((m : Int) + 1)), PP.val (.bool true), PP.val (.bool true), PP.val (.pointer (some ⟨p, 0, none⟩)), PP.val (.pointer (some ⟨p, 0, none⟩)), PP.val (.pointer (some ⟨p, 0, none⟩)), PP.val (.int .i64 (ordV best)), PP.val (.pointer (some ⟨p, 0, none⟩)), PP.val (.pointer (some ⟨p, 0, none⟩)), PP.val (.pointer (some ⟨p, 1, none⟩)), PP.val (.slice (some ⟨g, off, none⟩) (m0 + 1) cap), PP.val (.int .i64 ((m : Int) + 1)), PP.val (.pointer (some ⟨g, off + (m + 1) * 5, none⟩)), PP.val (.agg #[.int .i64 xi, .int .i64 xd, .bool b5, .slice a5 n5 c5, .slice a6 n6 c6]), PP.val (.pointer (some ⟨p, 0, none⟩)), PP.val (.pointer (some ⟨p, 0, none⟩)), PP.val (.pointer (some ⟨p, 1, none⟩)), PP.val (.slice (some ⟨g, off, none⟩) (m0 + 1) cap), PP.val (.int .i64 ((m : Int) + 1)), PP.val (.int .i64 (m : Int)), PP.val (.pointer (some ⟨g, off + m * 5, none⟩)), PP.val (.agg #[.int .i64 yi, .int .i64 yd, .bool b7, .slice a7 n7 c7, .slice a8 n8 c8]), PP.val (.bool r), PP.val (.bool r)] [] [0, 1, 2, 3, 4, 5, 6, 7, 8, 9, 10, 11, 12, 13, 14, 15, 16, 17, 18, 19, 20, 21, 22, 23]
          (by kernel_rfl) (by kernel_rfl) (fun f => (by simp only [fillR, fillL, List.setIfInBounds_toArray, List.set_cons_succ, List.set_cons_zero, Nat.reduceAdd]; rfl)) ?_ ?_ ?_ ?_ ?_
        · intro x hx; cases hx
        · intro x hx; cases hx
        · intro x hx; cases hx
        · refine ⟨?o0, ?o1, ?o2, ?o3, ?o4, ?o5, ?o6, ?o7, ?o8, ?o9, ?o10, ?o11, ?o12, ?o13, ?o14, ?o15, ?o16, ?o17, ?o18, ?o19, ?o20, ?o21, ?o22, ?o23, trivial⟩
          case o0 =>
            intro f w2 hG hp hl
            have hE : Ext wr w2 := hG
            have hS := hE.size
            simp only [OpGoal]
            go_simp
            exact ⟨_, rfl, Ext.refl _, rfl⟩
          case o1 =>
            intro f w2 hG hp hl
            have hE : Ext wr w2 := hG
            have hS := hE.size
            have q29 : f 0 = .int .i64 ((m : Int) + 1) := tellV hp 0 0 rfl rfl (fun h => by cases h)
            simp only [OpGoal]
            go_simp
            exact ⟨_, rfl, Ext.refl _, rfl⟩
          case o2 =>
            intro f w2 hG hp hl
            have hE : Ext wr w2 := hG
            have hS := hE.size
            have q30 : f 1 = .bool true := tellV hp 0 1 rfl rfl (fun h => by cases h)
            simp only [OpGoal]
            go_simp
            exact ⟨_, rfl, Ext.refl _, rfl⟩
          case o3 =>
            intro f w2 hG hp hl
            have hE : Ext wr w2 := hG
            have hS := hE.size
            have qg : f 2 = .bool true := tellV hp 0 2 rfl rfl (fun h => by cases h)
            change OpGoal _ _ _ f w2 Ext _
            refine og_guard (j := 2) (want := true) rfl qg ?_
            simp only [OpGoal]
            go_simp
            exact ⟨_, rfl, Ext.refl _, rfl⟩
          case o4 =>
            intro f w2 hG hp hl
            have hE : Ext wr w2 := hG
            have hS := hE.size
            have q32 : f 3 = .pointer (some ⟨p, 0, none⟩) := tellV hp 0 3 rfl rfl (fun h => by cases h)
            have qg : f 2 = .bool true := tellV hp 1 2 rfl rfl (fun h => by cases h)
            change OpGoal _ _ _ f w2 Ext _
            refine og_guard (j := 2) (want := true) rfl qg ?_
            simp only [OpGoal]
            go_simp
            exact ⟨_, rfl, Ext.refl _, rfl⟩
          case o5 =>
            intro f w2 hG hp hl
            have hE : Ext wr w2 := hG
            have hS := hE.size
            have q33 : f 4 = .pointer (some ⟨p, 0, none⟩) := tellV hp 0 4 rfl rfl (fun h => by cases h)
            have qg : f 2 = .bool true := tellV hp 1 2 rfl rfl (fun h => by cases h)
            change OpGoal _ _ _ f w2 Ext _
            refine og_guard (j := 2) (want := true) rfl qg ?_
            simp only [OpGoal]
            go_simp
            exact ⟨_, rfl, Ext.refl _, rfl⟩
          case o6 =>
            intro f w2 hG hp hl
            have hE : Ext wr w2 := hG
            have hS := hE.size
            have q34 : f 5 = .pointer (some ⟨p, 0, none⟩) := tellV hp 0 5 rfl rfl (fun h => by cases h)
            have qg : f 2 = .bool true := tellV hp 1 2 rfl rfl (fun h => by cases h)
            change OpGoal _ _ _ f w2 Ext _
            refine og_guard (j := 2) (want := true) rfl qg ?_
            have hcell := (P1.ext hE).cell 0
            simp only [OpGoal]
            go_simp
            exact ⟨_, rfl, Ext.refl _, rfl⟩
          case o7 =>
            intro f w2 hG hp hl
            have hE : Ext wr w2 := hG
            have hS := hE.size
            have qg : f 2 = .bool true := tellV hp 0 2 rfl rfl (fun h => by cases h)
            change OpGoal _ _ _ f w2 Ext _
            refine og_guard (j := 2) (want := true) rfl qg ?_
            simp only [OpGoal]
            go_simp
            exact ⟨_, rfl, Ext.refl _, rfl⟩
          case o8 =>
            intro f w2 hG hp hl
            have hE : Ext wr w2 := hG
            have hS := hE.size
            have q36 : f 7 = .pointer (some ⟨p, 0, none⟩) := tellV hp 0 7 rfl rfl (fun h => by cases h)
            have qg : f 2 = .bool true := tellV hp 1 2 rfl rfl (fun h => by cases h)
            change OpGoal _ _ _ f w2 Ext _
            refine og_guard (j := 2) (want := true) rfl qg ?_
            simp only [OpGoal]
            go_simp
            exact ⟨_, rfl, Ext.refl _, rfl⟩
          case o9 =>
            intro f w2 hG hp hl
            have hE : Ext wr w2 := hG
            have hS := hE.size
            have q37 : f 8 = .pointer (some ⟨p, 0, none⟩) := tellV hp 0 8 rfl rfl (fun h => by cases h)
            have qg : f 2 = .bool true := tellV hp 1 2 rfl rfl (fun h => by cases h)
            change OpGoal _ _ _ f w2 Ext _
            refine og_guard (j := 2) (want := true) rfl qg ?_
            simp only [OpGoal]
            go_simp
            exact ⟨_, rfl, Ext.refl _, rfl⟩
          case o10 =>
            intro f w2 hG hp hl
            have hE : Ext wr w2 := hG
            have hS := hE.size
            have q38 : f 9 = .pointer (some ⟨p, 1, none⟩) := tellV hp 0 9 rfl rfl (fun h => by cases h)
            have qg : f 2 = .bool true := tellV hp 1 2 rfl rfl (fun h => by cases h)
            change OpGoal _ _ _ f w2 Ext _
            refine og_guard (j := 2) (want := true) rfl qg ?_
            have hcell := (P1.ext hE).cell 1
            simp only [OpGoal]
            go_simp
            exact ⟨_, rfl, Ext.refl _, rfl⟩
          case o11 =>
            intro f w2 hG hp hl
            have hE : Ext wr w2 := hG
            have hS := hE.size
            have qg : f 2 = .bool true := tellV hp 0 2 rfl rfl (fun h => by cases h)
            change OpGoal _ _ _ f w2 Ext _
            refine og_guard (j := 2) (want := true) rfl qg ?_
            simp only [OpGoal]
            go_simp
            exact ⟨_, rfl, Ext.refl _, rfl⟩
          case o12 =>
            intro f w2 hG hp hl
            have hE : Ext wr w2 := hG
            have hS := hE.size
            have q39 : f 10 = .slice (some ⟨g, off, none⟩) (m0 + 1) cap := tellV hp 0 10 rfl rfl (fun h => by cases h)
            have q40 : f 11 = .int .i64 ((m : Int) + 1) := tellV hp 1 11 rfl rfl (fun h => by cases h)
            have qg : f 2 = .bool true := tellV hp 2 2 rfl rfl (fun h => by cases h)
            change OpGoal _ _ _ f w2 Ext _
            refine og_guard (j := 2) (want := true) rfl qg ?_
            simp only [OpGoal]
            go_simp
            exact ⟨_, rfl, Ext.refl _, rfl⟩
          case o13 =>
            intro f w2 hG hp hl
            have hE : Ext wr w2 := hG
            have hS := hE.size
            have q41 : f 12 = .pointer (some ⟨g, off + (m + 1) * 5, none⟩) := tellV hp 0 12 rfl rfl (fun h => by cases h)
            have qg : f 2 = .bool true := tellV hp 1 2 rfl rfl (fun h => by cases h)
            change OpGoal _ _ _ f w2 Ext _
            refine og_guard (j := 2) (want := true) rfl qg ?_
            change OpGoal _ _ _ f w2 Ext _
            exact og_loadAt (P := Tryz.prog) _ _ g (off + (m + 1) * 5) _ _ rfl rfl q41 (fun j v h => HCX.out _ hE j v h) Tryz.underlying38 rfl (by kernel_rfl) rfl
          case o14 =>
            intro f w2 hG hp hl
            have hE : Ext wr w2 := hG
            have hS := hE.size
            have qg : f 2 = .bool true := tellV hp 0 2 rfl rfl (fun h => by cases h)
            change OpGoal _ _ _ f w2 Ext _
            refine og_guard (j := 2) (want := true) rfl qg ?_
            simp only [OpGoal]
            go_simp
            exact ⟨_, rfl, Ext.refl _, rfl⟩
          case o15 =>
            intro f w2 hG hp hl
            have hE : Ext wr w2 := hG
            have hS := hE.size
            have q43 : f 14 = .pointer (some ⟨p, 0, none⟩) := tellV hp 0 14 rfl rfl (fun h => by cases h)
            have qg : f 2 = .bool true := tellV hp 1 2 rfl rfl (fun h => by cases h)
            change OpGoal _ _ _ f w2 Ext _
            refine og_guard (j := 2) (want := true) rfl qg ?_
            simp only [OpGoal]
            go_simp
            exact ⟨_, rfl, Ext.refl _, rfl⟩
          case o16 =>
            intro f w2 hG hp hl
            have hE : Ext wr w2 := hG
            have hS := hE.size
            have q44 : f 15 = .pointer (some ⟨p, 0, none⟩) := tellV hp 0 15 rfl rfl (fun h => by cases h)
            have qg : f 2 = .bool true := tellV hp 1 2 rfl rfl (fun h => by cases h)
            change OpGoal _ _ _ f w2 Ext _
            refine og_guard (j := 2) (want := true) rfl qg ?_
            simp only [OpGoal]
            go_simp
            exact ⟨_, rfl, Ext.refl _, rfl⟩
          case o17 =>
            intro f w2 hG hp hl
            have hE : Ext wr w2 := hG
            have hS := hE.size
            have q45 : f 16 = .pointer (some ⟨p, 1, none⟩) := tellV hp 0 16 rfl rfl (fun h => by cases h)
            have qg : f 2 = .bool true := tellV hp 1 2 rfl rfl (fun h => by cases h)
            change OpGoal _ _ _ f w2 Ext _
            refine og_guard (j := 2) (want := true) rfl qg ?_
            have hcell := (P1.ext hE).cell 1
            simp only [OpGoal]
            go_simp
            exact ⟨_, rfl, Ext.refl _, rfl⟩
          case o18 =>
            intro f w2 hG hp hl
            have hE : Ext wr w2 := hG
            have hS := hE.size
            have qg : f 2 = .bool true := tellV hp 0 2 rfl rfl (fun h => by cases h)
            change OpGoal _ _ _ f w2 Ext _
            refine og_guard (j := 2) (want := true) rfl qg ?_
            simp only [OpGoal]
            go_simp
            exact ⟨_, rfl, Ext.refl _, rfl⟩
          case o19 =>
            intro f w2 hG hp hl
            have hE : Ext wr w2 := hG
            have hS := hE.size
            have q47 : f 18 = .int .i64 ((m : Int) + 1) := tellV hp 0 18 rfl rfl (fun h => by cases h)
            have qg : f 2 = .bool true := tellV hp 1 2 rfl rfl (fun h => by cases h)
            change OpGoal _ _ _ f w2 Ext _
            refine og_guard (j := 2) (want := true) rfl qg ?_
            simp only [OpGoal]
            go_simp
            exact ⟨_, rfl, Ext.refl _, rfl⟩
          case o20 =>
            intro f w2 hG hp hl
            have hE : Ext wr w2 := hG
            have hS := hE.size
            have q46 : f 17 = .slice (some ⟨g, off, none⟩) (m0 + 1) cap := tellV hp 0 17 rfl rfl (fun h => by cases h)
            have q48 : f 19 = .int .i64 (m : Int) := tellV hp 1 19 rfl rfl (fun h => by cases h)
            have qg : f 2 = .bool true := tellV hp 2 2 rfl rfl (fun h => by cases h)
            change OpGoal _ _ _ f w2 Ext _
            refine og_guard (j := 2) (want := true) rfl qg ?_
            simp only [OpGoal]
            go_simp
            exact ⟨_, rfl, Ext.refl _, rfl⟩
          case o21 =>
            intro f w2 hG hp hl
            have hE : Ext wr w2 := hG
            have hS := hE.size
            have q49 : f 20 = .pointer (some ⟨g, off + m * 5, none⟩) := tellV hp 0 20 rfl rfl (fun h => by cases h)
            have qg : f 2 = .bool true := tellV hp 1 2 rfl rfl (fun h => by cases h)
            change OpGoal _ _ _ f w2 Ext _
            refine og_guard (j := 2) (want := true) rfl qg ?_
            change OpGoal _ _ _ f w2 Ext _
            exact og_loadAt (P := Tryz.prog) _ _ g (off + m * 5) _ _ rfl rfl q49 (fun j v h => HCY.out _ hE j v h) Tryz.underlying38 rfl (by kernel_rfl) rfl
          case o22 =>
            intro f w2 hG hp hl
            have hE : Ext wr w2 := hG
            have hS := hE.size
            have q35 : f 6 = .int .i64 (ordV best) := tellV hp 0 6 rfl rfl (fun h => by cases h)
            have q42 : f 13 = .agg #[.int .i64 xi, .int .i64 xd, .bool b5, .slice a5 n5 c5, .slice a6 n6 c6] := tellV hp 1 13 rfl rfl (fun h => by cases h)
            have q50 : f 21 = .agg #[.int .i64 yi, .int .i64 yd, .bool b7, .slice a7 n7 c7, .slice a8 n8 c8] := tellV hp 2 21 rfl rfl (fun h => by cases h)
            have qg : f 2 = .bool true := tellV hp 3 2 rfl rfl (fun h => by cases h)
            change OpGoal _ _ _ f w2 Ext _
            refine og_guard (j := 2) (want := true) rfl qg ?_
            change OpGoal _ _ _ f w2 Ext _
            refine og_call (P := Tryz.prog) _ _ _ #[f 6, f 13, f 21] Tryz.func28 (by kernel_rfl) (by kernel_rfl) rfl rfl (by kernel_rfl) ?_
            rw [q35, q42, q50]
            refine (rahead_calls best _ _ ⟨xi, xd, xq⟩ ⟨yi, yd, yq⟩ k _ ((HNX.out.r (by omega)).ext hE) ((HNY.out.r (by omega)).ext hE) hk).mono ?_
            rw [Hr.out]
            rintro e w' ⟨rfl, h2⟩
            exact ⟨_, rfl, h2, rfl⟩
          case o23 =>
            intro f w2 hG hp hl
            have hE : Ext wr w2 := hG
            have hS := hE.size
            have q31 : f 2 = .bool true := tellV hp 0 2 rfl rfl (fun h => by cases h)
            have q51 : f 22 = .bool r := tellV hp 1 22 rfl rfl (fun h => by cases h)
            simp only [OpGoal]
            go_simp
            exact ⟨_, rfl, Ext.refl _, rfl⟩
        · intro f w2 hG hp
          have hE : Ext wr w2 := ChgS.nil hG
          have q52 : f 23 = .bool r := endV hp 23 (by decide) rfl (fun h => by cases h)
          try simp only [q52]
          clear hp
          cases r with
          | false =>
            have HLt := Lib.hid (show ¬ Lt best ⟨xi, xd, xq⟩ ⟨yi, yd, yq⟩ from of_decide_eq_false Hr.out)
            go_wp2
            go_end0
            refine ⟨rfl, HC.out.trans (hE.chgS _), _, insN L (m + 1) ⟨xi, xd, xq⟩, P1.ext hE, HD1.out.ext hE, HSt.out (fun y hp hy => ?_), insN_perm _ _ _, HG.out⟩
            have hy' : L[m]? = some y := hy
            rw [HY.out] at hy'
            cases hy'
            exact HLt.out
          | true =>
            have HLt := Lib.hid (show Lt best ⟨xi, xd, xq⟩ ⟨yi, yd, yq⟩ from of_decide_eq_true Hr.out)
            have P2 := P1.ext hE
            have hpc := P2.cell 1
            have hx0 := HCX.out _ hE 0 _ rfl
            have hx1 := HCX.out _ hE 1 _ rfl
            have hx2 := HCX.out _ hE 2 _ rfl
            have hx3 := HCX.out _ hE 3 _ rfl
            have hx4 := HCX.out _ hE 4 _ rfl
            simp only [Nat.add_zero] at hx0
            obtain ⟨w3, hw3, e3, b3', s3⟩ := alloc1 w2 #[.int .i64 xi, .int .i64 xd, .bool b5, .slice a5 n5 c5, .slice a6 n6 c6] 38
            have HE3 := Lib.hid (hE.trans e3)
            have hs2 := hE.size
            have P3 := P2.ext e3
            have hgl3 : g < w3.heap.size := by have := e3.size; omega
            have HB3 := Lib.hid b3'
            clear b3' P1 hE e3
            go_wp2_with fail
            rw [← hw3]
            clear hw3 hpc hx0 hx1 hx2 hx3 hx4 P2
            refine wp_region_putg [⟨14, g, (fun b => Bx 38 b g (splice cur (off + (m + 1) * 5) (#[.int .i64 yi, .int .i64 yd, .bool b7, .slice a7 n7 c7, .slice a8 n8 c8] : Array Value).toList)), fun _ _ he h => h.ext he, fun _ hne hg _ _ he h => h.chg he (Ne.symm hne)⟩] [PP.val (.pointer (some ⟨p, 0, none⟩)), PP.val (.pointer (some ⟨p, 0, none⟩)), PP.val (.pointer (some ⟨p, 1, none⟩)), PP.val (.slice (some ⟨g, off, none⟩) (m0 + 1) cap), PP.val (.int .i64 ((m : Int) + 1)), PP.val (.pointer (some ⟨p, 0, none⟩)), PP.val (.pointer (some ⟨p, 0, none⟩)), PP.val (.pointer (some ⟨p, 1, none⟩)), PP.val (.slice (some ⟨g, off, none⟩) (m0 + 1) cap), PP.val (.int .i64 ((m : Int) + 1)), PP.val (.int .i64 (m : Int)), PP.val (.pointer (some ⟨g, off + m * 5, none⟩)), PP.val (.agg #[.int .i64 yi, .int .i64 yd, .bool b7, .slice a7 n7 c7, .slice a8 n8 c8]), PP.val (.pointer (some ⟨g, off + (m + 1) * 5, none⟩)), PP.any] [] [14, 13, 12, 11, 10, 9, 8, 7, 6, 5, 4, 3, 2, 1, 0]
              (by kernel_rfl) (by kernel_rfl) (fun f => (by simp only [fillR, fillL, List.setIfInBounds_toArray, List.set_cons_succ, List.set_cons_zero, Nat.reduceAdd]; rfl)) ?_ ?_ ?_ ?_ ?_
            · intro x hx; simp only [List.mem_singleton] at hx; subst hx; show g < w3.heap.size; omega
            · intro x hx; simp only [List.mem_singleton] at hx; subst hx; rfl
            · intro x hx y hy h; simp only [List.mem_singleton] at hx hy; subst hx hy; exact absurd rfl h
            · refine ⟨?o0, ?o1, ?o2, ?o3, ?o4, ?o5, ?o6, ?o7, ?o8, ?o9, ?o10, ?o11, ?o12, ?o13, ?o14, trivial⟩
              case o0 =>
                intro f w4 hG hp hl
                have hE : Ext w3 w4 := hG
                have hS := hE.size
                simp only [OpGoal]
                go_simp
                exact ⟨_, rfl, Ext.refl _, rfl⟩
              case o1 =>
                intro f w4 hG hp hl
                have hE : Ext w3 w4 := hG
                have hS := hE.size
                have q62 : f 0 = .pointer (some ⟨p, 0, none⟩) := tellG hp 0 0 rfl rfl (fun h => by cases h)
                simp only [OpGoal]
                go_simp
                exact ⟨_, rfl, Ext.refl _, rfl⟩
              case o2 =>
                intro f w4 hG hp hl
                have hE : Ext w3 w4 := hG
                have hS := hE.size
                have q63 : f 1 = .pointer (some ⟨p, 0, none⟩) := tellG hp 0 1 rfl rfl (fun h => by cases h)
                simp only [OpGoal]
                go_simp
                exact ⟨_, rfl, Ext.refl _, rfl⟩
              case o3 =>
                intro f w4 hG hp hl
                have hE : Ext w3 w4 := hG
                have hS := hE.size
                have q64 : f 2 = .pointer (some ⟨p, 1, none⟩) := tellG hp 0 2 rfl rfl (fun h => by cases h)
                have hcell := (P3.ext hE).cell 1
                simp only [OpGoal]
                go_simp
                exact ⟨_, rfl, Ext.refl _, rfl⟩
              case o4 =>
                intro f w4 hG hp hl
                have hE : Ext w3 w4 := hG
                have hS := hE.size
                simp only [OpGoal]
                go_simp
                exact ⟨_, rfl, Ext.refl _, rfl⟩
              case o5 =>
                intro f w4 hG hp hl
                have hE : Ext w3 w4 := hG
                have hS := hE.size
                simp only [OpGoal]
                go_simp
                exact ⟨_, rfl, Ext.refl _, rfl⟩
              case o6 =>
                intro f w4 hG hp hl
                have hE : Ext w3 w4 := hG
                have hS := hE.size
                have q67 : f 5 = .pointer (some ⟨p, 0, none⟩) := tellG hp 0 5 rfl rfl (fun h => by cases h)
                simp only [OpGoal]
                go_simp
                exact ⟨_, rfl, Ext.refl _, rfl⟩
              case o7 =>
                intro f w4 hG hp hl
                have hE : Ext w3 w4 := hG
                have hS := hE.size
                have q68 : f 6 = .pointer (some ⟨p, 0, none⟩) := tellG hp 0 6 rfl rfl (fun h => by cases h)
                simp only [OpGoal]
                go_simp
                exact ⟨_, rfl, Ext.refl _, rfl⟩
              case o8 =>
                intro f w4 hG hp hl
                have hE : Ext w3 w4 := hG
                have hS := hE.size
                have q69 : f 7 = .pointer (some ⟨p, 1, none⟩) := tellG hp 0 7 rfl rfl (fun h => by cases h)
                have hcell := (P3.ext hE).cell 1
                simp only [OpGoal]
                go_simp
                exact ⟨_, rfl, Ext.refl _, rfl⟩
              case o9 =>
                intro f w4 hG hp hl
                have hE : Ext w3 w4 := hG
                have hS := hE.size
                simp only [OpGoal]
                go_simp
                exact ⟨_, rfl, Ext.refl _, rfl⟩
              case o10 =>
                intro f w4 hG hp hl
                have hE : Ext w3 w4 := hG
                have hS := hE.size
                have q71 : f 9 = .int .i64 ((m : Int) + 1) := tellG hp 0 9 rfl rfl (fun h => by cases h)
                simp only [OpGoal]
                go_simp
                exact ⟨_, rfl, Ext.refl _, rfl⟩
              case o11 =>
                intro f w4 hG hp hl
                have hE : Ext w3 w4 := hG
                have hS := hE.size
                have q70 : f 8 = .slice (some ⟨g, off, none⟩) (m0 + 1) cap := tellG hp 0 8 rfl rfl (fun h => by cases h)
                have q72 : f 10 = .int .i64 (m : Int) := tellG hp 1 10 rfl rfl (fun h => by cases h)
                simp only [OpGoal]
                go_simp
                exact ⟨_, rfl, Ext.refl _, rfl⟩
              case o12 =>
                intro f w4 hG hp hl
                have hE : Ext w3 w4 := hG
                have hS := hE.size
                have q73 : f 11 = .pointer (some ⟨g, off + m * 5, none⟩) := tellG hp 0 11 rfl rfl (fun h => by cases h)
                change OpGoal _ _ _ f w4 Ext _
                exact og_loadAt (P := Tryz.prog) _ _ g (off + m * 5) _ _ rfl rfl q73 (fun j v h => HCY.out _ (HE3.out.trans hE) j v h) Tryz.underlying38 rfl (by kernel_rfl) rfl
              case o13 =>
                intro f w4 hG hp hl
                have hE : Ext w3 w4 := hG
                have hS := hE.size
                have q65 : f 3 = .slice (some ⟨g, off, none⟩) (m0 + 1) cap := tellG hp 0 3 rfl rfl (fun h => by cases h)
                have q66 : f 4 = .int .i64 ((m : Int) + 1) := tellG hp 1 4 rfl rfl (fun h => by cases h)
                simp only [OpGoal]
                go_simp
                exact ⟨_, rfl, Ext.refl _, rfl⟩
              case o14 =>
                intro f w4 hG hp hl
                have hE : Ext w3 w4 := hG
                have hS := hE.size
                have q75 : f 13 = .pointer (some ⟨g, off + (m + 1) * 5, none⟩) := tellG hp 0 13 rfl rfl (fun h => by cases h)
                have q74 : f 12 = .agg #[.int .i64 yi, .int .i64 yd, .bool b7, .slice a7 n7 c7, .slice a8 n8 c8] := tellG hp 1 12 rfl rfl (fun h => by cases h)
                intro hg0
                change OpGoal _ _ _ f w4 (Chg _) _
                exact og_putN (P := Tryz.prog) g (off + (m + 1) * 5) 38 _ cur #[.int .i64 yi, .int .i64 yd, .bool b7, .slice a7 n7 c7, .slice a8 n8 c8] _ _ rfl rfl q75 q74 (by kernel_rfl) ((show w4.heap[g]? = w3.heap[g]? from hg0).trans (HCU.out.ext HE3.out)) hfx (all5 rfl rfl rfl rfl rfl) (fun w' h _ => h)
            · intro f w4 hG hp
              have hz0 := endGS hp 14 (by decide)
              clear hp
              have c4 : Chg g w3 w4 := ChgS.one hG
              have P4 := P3.chg c4 (Ne.symm hgp)
              have hsw2 : w2.heap.size < w3.heap.size := HB3.out.lt
              have hb4 : Hid (Bx 38 w4 w2.heap.size #[.int .i64 xi, .int .i64 xd, .bool b5, .slice a5 n5 c5, .slice a6 n6 c6]) := Lib.hid (HB3.out.chg c4 (by omega))
              have HC4 := Lib.hid c4
              have HZ4 := Lib.hid hz0
              have B4 := hb4.out
              have hs4 := c4.size
              have hgl4 : g < w4.heap.size := by omega
              obtain ⟨cur2, hcur2⟩ : ∃ cur2, cur2 = splice cur (off + (m + 1) * 5) (#[.int .i64 yi, .int .i64 yd, .bool b7, .slice a7 n7 c7, .slice a8 n8 c8] : Array Value).toList := ⟨_, rfl⟩
              have hD4 := Lib.hid ((HD1.out.ext HE3.out).put rfl (i := m + 1) (by rw [insN_len _ _ _ hm1l]; omega) (HCU.out.ext HE3.out) rfl (HNY.out.ext HE3.out) (all5 rfl rfl rfl rfl rfl) c4 hz0)
              have hZ2 : Bx 38 w4 g cur2 := by rw [hcur2]; exact hz0
              have HZ2 := Lib.hid hZ2
              have hfz := hD4.out.fits rfl (i := m) (by rw [List.length_set, insN_len _ _ _ hm1l]; omega) hZ2
              have HNX4 := Lib.hid ((HNX.out.ext HE3.out).chgX (c4.chgS (bs := [g]) (by simp)) (fun g' hg' ds => by
                rw [List.mem_singleton.1 hg']
                exact bx_ne (HCU.out.ext HE3.out) (by decide)))
              clear hcur2 hz0 hZ2 hG c4 P3
              go_wp2_with fail
              refine wp_region_putg [⟨8, g, (fun b => Bx 38 b g (splice cur2 (off + m * 5) (#[.int .i64 xi, .int .i64 xd, .bool b5, .slice a5 n5 c5, .slice a6 n6 c6] : Array Value).toList)), fun _ _ he h => h.ext he, fun _ hne hg _ _ he h => h.chg he (Ne.symm hne)⟩] [PP.val (.pointer (some ⟨p, 0, none⟩)), PP.val (.pointer (some ⟨p, 0, none⟩)), PP.val (.pointer (some ⟨p, 1, none⟩)), PP.val (.slice (some ⟨g, off, none⟩) (m0 + 1) cap), PP.val (.int .i64 ((m : Int) + 1)), PP.val (.int .i64 (m : Int)), PP.val (.agg #[.int .i64 xi, .int .i64 xd, .bool b5, .slice a5 n5 c5, .slice a6 n6 c6]), PP.val (.pointer (some ⟨g, off + m * 5, none⟩)), PP.any] [] [8, 7, 6, 5, 4, 3, 2, 1, 0]
                (by kernel_rfl) (by kernel_rfl) (fun f => (by simp only [fillR, fillL, List.setIfInBounds_toArray, List.set_cons_succ, List.set_cons_zero, Nat.reduceAdd]; rfl)) ?_ ?_ ?_ ?_ ?_
              · intro x hx; simp only [List.mem_singleton] at hx; subst hx; show g < w4.heap.size; omega
              · intro x hx; simp only [List.mem_singleton] at hx; subst hx; rfl
              · intro x hx y hy h; simp only [List.mem_singleton] at hx hy; subst hx hy; exact absurd rfl h
              · refine ⟨?o0, ?o1, ?o2, ?o3, ?o4, ?o5, ?o6, ?o7, ?o8, trivial⟩
                case o0 =>
                  intro f w7 hG hp hl
                  have hE : Ext w4 w7 := hG
                  have hS := hE.size
                  simp only [OpGoal]
                  go_simp
                  exact ⟨_, rfl, Ext.refl _, rfl⟩
                case o1 =>
                  intro f w7 hG hp hl
                  have hE : Ext w4 w7 := hG
                  have hS := hE.size
                  have q76 : f 0 = .pointer (some ⟨p, 0, none⟩) := tellG hp 0 0 rfl rfl (fun h => by cases h)
                  simp only [OpGoal]
                  go_simp
                  exact ⟨_, rfl, Ext.refl _, rfl⟩
                case o2 =>
                  intro f w7 hG hp hl
                  have hE : Ext w4 w7 := hG
                  have hS := hE.size
                  have q77 : f 1 = .pointer (some ⟨p, 0, none⟩) := tellG hp 0 1 rfl rfl (fun h => by cases h)
                  simp only [OpGoal]
                  go_simp
                  exact ⟨_, rfl, Ext.refl _, rfl⟩
                case o3 =>
                  intro f w7 hG hp hl
                  have hE : Ext w4 w7 := hG
                  have hS := hE.size
                  have q78 : f 2 = .pointer (some ⟨p, 1, none⟩) := tellG hp 0 2 rfl rfl (fun h => by cases h)
                  have hcell := (P4.ext hE).cell 1
                  simp only [OpGoal]
                  go_simp
                  exact ⟨_, rfl, Ext.refl _, rfl⟩
                case o4 =>
                  intro f w7 hG hp hl
                  have hE : Ext w4 w7 := hG
                  have hS := hE.size
                  simp only [OpGoal]
                  go_simp
                  exact ⟨_, rfl, Ext.refl _, rfl⟩
                case o5 =>
                  intro f w7 hG hp hl
                  have hE : Ext w4 w7 := hG
                  have hS := hE.size
                  have q80 : f 4 = .int .i64 ((m : Int) + 1) := tellG hp 0 4 rfl rfl (fun h => by cases h)
                  simp only [OpGoal]
                  go_simp
                  exact ⟨_, rfl, Ext.refl _, rfl⟩
                case o6 =>
                  intro f w7 hG hp hl
                  have hE : Ext w4 w7 := hG
                  have hS := hE.size
                  change OpGoal _ _ _ f w7 Ext _
                  exact og_load (P := Tryz.prog) _ _ w2.heap.size _ _ _ rfl rfl rfl (B4.ext hE) Tryz.underlying38 rfl (by kernel_rfl) rfl
                case o7 =>
                  intro f w7 hG hp hl
                  have hE : Ext w4 w7 := hG
                  have hS := hE.size
                  have q79 : f 3 = .slice (some ⟨g, off, none⟩) (m0 + 1) cap := tellG hp 0 3 rfl rfl (fun h => by cases h)
                  have q81 : f 5 = .int .i64 (m : Int) := tellG hp 1 5 rfl rfl (fun h => by cases h)
                  simp only [OpGoal]
                  go_simp
                  exact ⟨_, rfl, Ext.refl _, rfl⟩
                case o8 =>
                  intro f w7 hG hp hl
                  have hE : Ext w4 w7 := hG
                  have hS := hE.size
                  have q83 : f 7 = .pointer (some ⟨g, off + m * 5, none⟩) := tellG hp 0 7 rfl rfl (fun h => by cases h)
                  have q82 : f 6 = .agg #[.int .i64 xi, .int .i64 xd, .bool b5, .slice a5 n5 c5, .slice a6 n6 c6] := tellG hp 1 6 rfl rfl (fun h => by cases h)
                  intro hg0
                  change OpGoal _ _ _ f w7 (Chg _) _
                  exact og_putN (P := Tryz.prog) g (off + m * 5) 38 _ cur2 #[.int .i64 xi, .int .i64 xd, .bool b5, .slice a5 n5 c5, .slice a6 n6 c6] _ _ rfl rfl q83 q82 (by kernel_rfl) ((show w7.heap[g]? = w4.heap[g]? from hg0).trans HZ2.out) hfz (all5 rfl rfl rfl rfl rfl) (fun w' h _ => h)
              · intro f w7 hG hp
                have hz0 := endGS hp 8 (by decide)
                clear hp
                have c7 : Chg g w4 w7 := ChgS.one hG
                have P7 := Lib.hid (P4.chg c7 (Ne.symm hgp))
                have hD7 := Lib.hid (hD4.out.put rfl (i := m) (by rw [List.length_set, insN_len _ _ _ hm1l]; omega) HZ2.out rfl HNX4.out (all5 rfl rfl rfl rfl rfl) c7 hz0)
                have HC7 := Lib.hid c7
                clear hz0 hG c7 P4 B4
                go_wp2
                go_roundw
                case rel =>
                  refine ⟨m, (by first | rfl | simp), by omega, Lib.hid ⟨by rw [← insN_swap HY.out]; exact hD7.out, P7.out, fun j y hj hy => ?_, ((HC.out.trans (HE3.out.chgS _)).stepC HC4.out ?_).stepC HC7.out ?_⟩⟩
                  · rcases Nat.eq_or_lt_of_le hj with e | e
                    · subst e
                      rw [HY.out] at hy
                      cases hy
                      exact HLt.out
                    · exact HA.out j y e hy
                  all_goals exact (HG.out g rfl).imp_left fun h => List.mem_cons_of_mem _ (blks_mem h)
                case measure => simp [intOf]
end Go.Proofs.YthoibjnkhkjnjaaGreat

/-
  The document's queue: Prune.
-/
namespace Go.Proofs.YthoibjnkhkjnjaaGreat
open Go.RowKit
set_option linter.unusedVariables false
set_option linter.unusedSimpArgs false

/-- A list of whole numbers while it is changed: block g. -/
def IO (B g cap : Nat) (l : List Int) (w : World) : Prop := ∃ cur, Bx 3 w g cur ∧ B ≤ g ∧ l.length ≤ cap ∧ cap ≤ maxLen ∧ cur.size = cap ∧ ∀ (j : Nat) (z : Int), l[j]? = some z → cur[j]? = some (Value.int .i64 z)
set_option maxRecDepth 100000 in
set_option maxHeartbeats 1000000 in
theorem IO.of {B g cap : Nat} {l : List Int} {w : World} {n : Nat} (h : w.ownsRow B 3 1 (.slice (some ⟨g, 0, none⟩) n cap) n (l.map (Value.int .i64))) : IO B g cap l w ∧ n = l.length := by
  have hl := h.1
  rw [List.length_map, Nat.mul_one] at hl
  rcases h.2 with ⟨h1, -⟩ | ⟨g', cap', cur, h1, h2, h3, h4, h5, h6, h7⟩
  · cases h1
  · cases h1
    refine ⟨⟨cur, h3, h2, by omega, h5, by omega, fun j z hj => ?_⟩, hl.symm⟩
    have hjl := (List.getElem?_eq_some_iff.1 hj).1
    have : (cur.toList.take (n * 1))[j]? = some (.int .i64 z) := by rw [h7, List.getElem?_map, hj]; rfl
    rw [List.getElem?_take, if_pos (by omega), Array.getElem?_toList] at this
    exact this
set_option maxRecDepth 100000 in
set_option maxHeartbeats 1000000 in
theorem IO.row {B g cap : Nat} {l : List Int} {w : World} (h : IO B g cap l w) : w.ownsRow B 3 1 (.slice (some ⟨g, 0, none⟩) l.length cap) l.length (l.map (Value.int .i64)) := by
  obtain ⟨cur, h1, h2, h3, h4, h5, h6⟩ := h
  refine ⟨by rw [List.length_map, Nat.mul_one], .inr ⟨g, cap, cur, rfl, h2, h1, h3, h4, by omega, ?_⟩⟩
  rw [Nat.mul_one]
  apply List.ext_getElem?
  intro j
  by_cases hj : j < l.length
  · rw [List.getElem?_take, if_pos hj, Array.getElem?_toList, List.getElem?_map, List.getElem?_eq_getElem hj]
    exact h6 j _ (List.getElem?_eq_getElem hj)
  · rw [List.getElem?_eq_none (by rw [List.length_take]; omega), List.getElem?_eq_none (by rw [List.length_map]; omega)]
set_option maxRecDepth 100000 in
set_option maxHeartbeats 1000000 in
theorem IO.cell {B g cap : Nat} {l : List Int} {w : World} (h : IO B g cap l w) {j : Nat} {z : Int} (hj : l[j]? = some z) : w.cell? ⟨g, j, none⟩ = some (.int .i64 z) ∧ w.frozen? ⟨g, j, none⟩ = false := by
  obtain ⟨cur, h1, h2, h3, h4, h5, h6⟩ := h
  exact ⟨by rw [h1.cell]; exact h6 j z hj, h1.free j⟩
set_option maxRecDepth 100000 in
set_option maxHeartbeats 1000000 in
theorem IO.ext {B g cap : Nat} {l : List Int} {w w' : World} (h : IO B g cap l w) (he : Ext w w') : IO B g cap l w' := by
  obtain ⟨cur, h1, h2⟩ := h
  exact ⟨cur, h1.ext he, h2⟩
set_option maxRecDepth 100000 in
set_option maxHeartbeats 1000000 in
theorem IO.put {B g cap : Nat} {l : List Int} {w : World} (h : IO B g cap l w) (j : Nat) (z : Int) (hj : j < l.length) : IO B g cap (l.set j z) (w.setCell ⟨g, j, none⟩ (.int .i64 z)) := by
  obtain ⟨cur, h1, h2, h3, h4, h5, h6⟩ := h
  refine ⟨_, h1.set j _, h2, by rw [List.length_set]; exact h3, h4, by simp [h5], fun i y hi => ?_⟩
  by_cases e : i = j
  · subst e
    rw [List.getElem?_set_self hj] at hi
    cases hi
    simp [Array.getElem?_setIfInBounds]
    omega
  · rw [List.getElem?_set_ne (Ne.symm e)] at hi
    have := h6 i y hi
    simp [Array.getElem?_setIfInBounds, Ne.symm e, this]
/-- The values of some nodes. -/
def NdL (B k : Nat) (w : World) (vl : List Value) (l : List Nd) : Prop := vl.length = l.length ∧ ∀ (j : Nat) (v : Value) (x : Nd), vl[j]? = some v → l[j]? = some x → NdV B k w v x
set_option maxRecDepth 100000 in
set_option maxHeartbeats 1000000 in
theorem NdL.nil (B k : Nat) (w : World) : NdL B k w [] [] := ⟨rfl, fun j v x h => by simp at h⟩
set_option maxRecDepth 100000 in
set_option maxHeartbeats 1000000 in
theorem NdL.kept {B k : Nat} {w w' : World} {vl : List Value} {l : List Nd} {row : Option Nat} (h : NdL B k w vl l) (hg : w.grownBy w' row) (hb : ∀ g, row = some g → ∀ cs, ¬ Bx 61 w g cs) : NdL B k w' vl l := ⟨h.1, fun j v x a b => (h.2 j v x a b).kept hg hb⟩
set_option maxRecDepth 100000 in
set_option maxHeartbeats 1000000 in
theorem NdL.snoc {B k : Nat} {w : World} {vl : List Value} {l : List Nd} {v : Value} {x : Nd} (h : NdL B k w vl l) (hx : NdV B k w v x) : NdL B k w (vl ++ [v]) (l ++ [x]) := by
  refine ⟨by rw [List.length_append, List.length_append, h.1]; rfl, fun j u y hu hy => ?_⟩
  by_cases hin : j < vl.length
  · rw [List.getElem?_append_left hin] at hu
    rw [List.getElem?_append_left (by rw [← h.1]; exact hin)] at hy
    exact h.2 j u y hu hy
  · have hil := (List.getElem?_eq_some_iff.1 hu).1
    rw [List.length_append] at hil
    have hie : j = vl.length := by simp only [List.length_cons, List.length_nil] at hil; omega
    subst hie
    rw [List.getElem?_concat_length] at hu
    rw [h.1, List.getElem?_concat_length] at hy
    cases hu
    cases hy
    exact hx
/-- What has been done with the first i nodes: lv, those that stay; ov, the numbers of the others, rising. -/
def PqI (w : World) (B k : Nat) (lim : Rat) (L : List Nd) (i : Nat) (ov lv : Value) (wr : World) : Prop :=
  ∃ (vl : List Value) (out : List Int), Ext w wr ∧ LS 38 5 w.heap.size wr lv vl ∧ NdL B k wr vl (keepN lim (L.take i)) ∧ wr.ownsRow w.heap.size 3 1 ov out.length (out.map (Value.int .i64)) ∧ out.Perm (goneN lim (L.take i)) ∧ SrtI out
set_option maxRecDepth 100000 in
set_option maxHeartbeats 1000000 in
theorem rows_apart {B n m n' m' : Nat} {e e' : TypeId} {w : World} {u v : Value} {xs ys : List Value} (h : w.ownsRow B e n u m xs) (h' : w.ownsRow B e' n' v m' ys) (hne : e ≠ e') : u.ownBlock = Option.none ∨ u.ownBlock ≠ v.ownBlock := by
  cases hu : u.ownBlock with
  | none => exact .inl rfl
  | some g =>
    refine .inr fun he => ?_
    obtain ⟨-, cs1, hb1⟩ := own_bx h g hu
    obtain ⟨-, cs2, hb2⟩ := own_bx h' g he.symm
    exact bx_ne hb1 hne hb2
set_option maxRecDepth 100000 in
set_option maxHeartbeats 1000000 in
theorem PqI.stay {w wr w' : World} {B k i : Nat} {lim : Rat} {L : List Nd} {ov lv lv' : Value} {cs : Array Value} {vl : List Value} {out : List Int} {x : Nd} (he : Ext w wr) (hl : LS 38 5 w.heap.size wr lv vl)
    (hn : NdL B k wr vl (keepN lim (L.take i))) (ho : wr.ownsRow w.heap.size 3 1 ov out.length (out.map (Value.int .i64))) (hp : out.Perm (goneN lim (L.take i))) (hs : SrtI out)
    (hx : L[i]? = some x) (hlt : x.q < lim) (hnx : NdV B k wr (.agg cs) x) (h1 : LS 38 5 w.heap.size w' lv' (vl ++ [.agg cs])) (hg : wr.grownBy w' lv.ownBlock) : PqI w B k lim L (i + 1) ov lv' w' := by
  have htk : L.take (i + 1) = L.take i ++ [x] := by rw [List.take_add_one, hx]; rfl
  have hno : ∀ g, lv.ownBlock = some g → ∀ ds, ¬ Bx 61 wr g ds := fun g hg ds => by
    obtain ⟨-, cs', hb⟩ := own_bx hl.2 g hg
    exact bx_ne hb (by decide)
  refine ⟨vl ++ [.agg cs], out, he.stepG hg fun g hg => (own_bx hl.2 g hg).1, h1, ?_, ho.kept hg (rows_apart ho hl.2 (by decide)), ?_, hs⟩
  · rw [htk, keepN_snoc, if_pos hlt]
    exact (hn.kept hg hno).snoc (hnx.kept hg hno)
  · rw [htk, goneN_snoc, if_pos hlt]
    exact hp
set_option maxRecDepth 100000 in
set_option maxHeartbeats 1000000 in
/-- Behind the append of a number: it is being put in its place. -/
theorem PqI.go {w wr w' w3 : World} {B k i g cap j : Nat} {lim : Rat} {L : List Nd} {ov lv : Value} {vl : List Value} {out : List Int} {x : Nd} (he : Ext w wr) (hl : LS 38 5 w.heap.size wr lv vl)
    (hn : NdL B k wr vl (keepN lim (L.take i))) (ho : wr.ownsRow w.heap.size 3 1 ov out.length (out.map (Value.int .i64))) (hp : out.Perm (goneN lim (L.take i))) (hs : SrtI out)
    (hx : L[i]? = some x) (hlt : ¬ x.q < lim) (h1 : IO w.heap.size g cap (insI out out.length x.id) w') (hg : wr.grownBy w' ov.ownBlock)
    (hj : j ≤ out.length) (h3 : IO w.heap.size g cap (insI out j x.id) w3) (hc : Chg g w' w3) (ha : ∀ i y, j ≤ i → out[i]? = some y → x.id < y) (hb : ∀ y, 0 < j → out[j - 1]? = some y → ¬ x.id < y) : PqI w B k lim L (i + 1) (.slice (some ⟨g, 0, none⟩) (out.length + 1) cap) lv w3 := by
  have htk : L.take (i + 1) = L.take i ++ [x] := by rw [List.take_add_one, hx]; rfl
  have hno : ∀ g, ov.ownBlock = some g → ∀ ds, ¬ Bx 61 wr g ds := fun g hg ds => by
    obtain ⟨-, cs', hb⟩ := own_bx ho g hg
    exact bx_ne hb (by decide)
  have hr1 := h1.row
  have hob := own_bx hr1 g rfl
  have hl' := hl.kept hg (rows_apart hl.2 ho (by decide))
  have hno2 : ∀ g', some g = some g' → ∀ ds, ¬ Bx 61 w' g' ds := fun g' hg' ds => by
    cases hg'
    obtain ⟨-, cs', hb⟩ := hob
    exact bx_ne hb (by decide)
  have hr3 := h3.row
  rw [insI_len _ _ _ hj] at hr3
  refine ⟨vl, insI out j x.id, (he.stepG hg fun g hg => (own_bx ho g hg).1).step hc hob.1, hl'.kept (row := some g) hc (rows_apart hl'.2 hr1 (by decide)), ?_, by rw [insI_len _ _ _ hj]; exact hr3, ?_, insI_srt hs hj ha hb⟩
  · rw [htk, keepN_snoc, if_neg hlt]
    exact (hn.kept hg hno).kept (row := some g) hc hno2
  · rw [htk, goneN_snoc, if_neg hlt]
    exact (insI_perm _ _ _).trans ((List.Perm.cons _ hp).trans (List.perm_append_singleton _ _).symm)
set_option maxRecDepth 100000 in
set_option maxHeartbeats 1000000 in
/-- A list of one's own is one that begins at 0. -/
theorem rowO_of {B n : Nat} {e : TypeId} {size : Nat} {w : World} {v : Value} {xs : List Value} (h : w.ownsRow B e size v n xs) : rowO w B e size v n xs := by
  refine ⟨h.1, ?_⟩
  rcases h.2 with h2 | ⟨g, cap, cur, h1, h2, h3, h4, h5, h6, h7⟩
  · exact .inl h2
  · refine .inr ⟨g, 0, cap, cur, h1, h2, h3, h4, h5, by omega, fun j u hj => ?_⟩
    have hjl := (List.getElem?_eq_some_iff.1 hj).1
    rw [← h7, List.length_take] at hjl
    rw [← h7, List.getElem?_take, if_pos (by omega), Array.getElem?_toList] at hj
    rw [Nat.zero_add]
    exact hj
set_option maxRecDepth 100000 in
set_option maxHeartbeats 1000000 in
theorem LS.dl {B B' k : Nat} {w : World} {v : Value} {vl : List Value} {l : List Nd} (h : LS 38 5 B w v vl) (hB : B' ≤ B) (hn : NdL B' k w vl l) : DL B' k w v l := by
  have h' := h.mono hB
  have h2 := rowO_of h'.2
  rw [hn.1] at h2
  exact ⟨vl, h'.1, hn.1, h2, hn.2⟩
/-- The number is on its way to its place. -/
def PkI (B g cap : Nat) (out : List Int) (z : Int) (w : World) (i : Nat) (w3 : World) : Prop :=
  IO B g cap (insI out i z) w3 ∧ Chg g w w3 ∧ ∀ j y, i ≤ j → out[j]? = some y → z < y
set_option maxRecDepth 100000 in
set_option maxHeartbeats 1000000 in
theorem PkI.ext {B g cap i : Nat} {out : List Int} {z : Int} {w w3 w4 : World} (h : PkI B g cap out z w i w3) (he : Ext w3 w4) : PkI B g cap out z w i w4 := ⟨h.1.ext he, h.2.1.trans (he.chg g), h.2.2⟩
set_option maxRecDepth 100000 in
set_option maxHeartbeats 1000000 in
theorem PkI.down {B g cap m : Nat} {out : List Int} {z y : Int} {w w3 : World} (h : PkI B g cap out z w (m + 1) w3) (hy : out[m]? = some y) (hlt : z < y) : PkI B g cap out z w m ((w3.setCell ⟨g, m + 1, none⟩ (.int .i64 y)).setCell ⟨g, m, none⟩ (.int .i64 z)) := by
  have hl := (List.getElem?_eq_some_iff.1 hy).1
  have h1 := (h.1.put (m + 1) y (by rw [insI_len _ _ _ (by omega)]; omega)).put m z (by rw [List.length_set, insI_len _ _ _ (by omega)]; omega)
  rw [insI_swap hy] at h1
  refine ⟨h1, (h.2.1.trans (Chg.setCell _ g (m + 1) _)).trans (Chg.setCell _ g m _), fun j y' hj hy' => ?_⟩
  rcases Nat.eq_or_lt_of_le hj with e | e
  · subst e
    rw [hy] at hy'
    cases hy'
    exact hlt
  · exact h.2.2 j y' e hy'
set_option maxRecDepth 100000 in
set_option maxHeartbeats 16000000 in
theorem rprune_calls (B k p : Nat) (oz : Int) (v lv : Value) (L : List Nd) (lim : Rat) (m : Nat) (w : World) (hp : Bx 31 w p #[.int .i64 oz, v]) (hd : DL B k w v L) (hx : IsR w lv lim m) (hk : k ≤ 1000) (hm : m ≤ 1000) (hn : (L.length + 1) * 72 ≤ 140737488355328) (hB : B ≤ w.heap.size) :
    Calls Tryz.prog 16 #[.pointer (some ⟨p, 0, none⟩), lv] w fun e w' => ∃ ov v' out, e = .returned ov ∧ w'.ownsRow w.heap.size 3 1 ov out.length (out.map (Value.int .i64)) ∧ SrtI out ∧ out.Perm (goneN lim L) ∧ Bx 31 w' p #[.int .i64 oz, v'] ∧ DL B k w' v' (keepN lim L) ∧ Chg p w w' ∧ (∀ g, v'.ownBlock = some g → w.heap.size ≤ g) := by
  have lim0 : (1000 : Nat) ≤ LIM := by rw [LIM_eq]; omega
  have Hx := Lib.hid hx
  obtain ⟨b, ad1, n1, cap1, ad2, n2, cap2, rfl⟩ := hx.parts
  obtain ⟨ad, cap, rfl⟩ := hd.val
  have HD := Lib.hid hd
  obtain ⟨n, hn0⟩ : ∃ n, n = L.length := ⟨_, rfl⟩
  rw [← hn0] at hp hn
  have HP := Lib.hid hp
  have HN := Lib.hid hn0
  have hpl := hp.lt
  clear hx hd hp hn0
  go_enter Tryz.func16, Tryz.ntmps16
  obtain ⟨w1, hw1, e1, b1, s1⟩ := alloc1 w #[.bool b, .slice ad1 n1 cap1, .slice ad2 n2 cap2] 36
  go_wp2_with fail
  rw [← hw1]
  clear hw1
  have hww : w.heap.size ≤ w1.heap.size := e1.size
  obtain ⟨wa, hwa⟩ : ∃ wa, wa = w1.alloc (.cells #[] 38) := ⟨_, rfl⟩
  obtain ⟨wb, hwb⟩ : ∃ wb, wb = wa.alloc (.cells #[] 3) := ⟨_, rfl⟩
  have ea : Ext w1 wa := hwa ▸ (Ext.refl w1).alloc _
  have eb : Ext wa wb := hwb ▸ (Ext.refl wa).alloc _
  have sa : wa.heap.size = w.heap.size + 1 + 1 := by rw [hwa, alloc_size, s1]
  have J0 : Hid (PqI w1 B k lim L 0 (.slice (some ⟨w.heap.size + 1 + 1, 0, none⟩) 0 0) (.slice (some ⟨w.heap.size + 1, 0, none⟩) 0 0) wb) := Lib.hid (by
    have hl : LS 38 5 w1.heap.size wa (.slice (some ⟨w1.heap.size, 0, none⟩) 0 0) [] := by
      rw [hwa]
      exact LS.of_hold (vs := []) (rest := []) (.nil 5) (Nat.le_refl _) (Nat.le_refl _) (by decide) (by simp) (Bx.new w1 38 #[])
    have hi : IO w1.heap.size wa.heap.size 0 [] wb := by
      rw [hwb]
      exact ⟨#[], Bx.new wa 3 #[], ea.size, Nat.le_refl _, Nat.zero_le _, rfl, fun j z h => by simp at h⟩
    have hr := hi.row
    rw [s1] at hl
    rw [sa] at hr
    rw [s1] at hr
    exact ⟨[], [], ea.trans eb, by rw [s1]; exact hl.ext eb, NdL.nil _ _ _, by rw [s1]; exact hr, List.Perm.refl _, List.Pairwise.nil⟩)
  rw [← hwa, ← hwb]
  clear hwa hwb ea eb sa
  have B1 := Lib.hid b1
  have HE1 := Lib.hid e1
  clear b1 e1
  go_loopw [5, 6, 7] (fun lv' ov i wr => ∃ j : Nat, i = .int .i64 (j : Int) ∧ j ≤ n ∧ Hid (PqI w1 B k lim L j ov lv' wr)) (fun _ _ i _ => ((n : Int) - intOf i).toNat)
  case atStart => exact ⟨0, rfl, Nat.zero_le _, J0⟩
  case round =>
    clear J0
    obtain ⟨j, rfl, hj, hH⟩ := hrel
    obtain ⟨vl, out, hE1, hl, hnl, ho, hpm, hso⟩ := hH.out
    have P1 := HP.out.ext (HE1.out.trans hE1)
    have hcp1 := P1.cell 1
    rcases Nat.eq_or_lt_of_le hj with hjn | hjn
    · subst hjn
      have hfp1 := P1.free 1
      have htk : L.take j = L := List.take_of_length_le (by rw [← HN.out]; exact Nat.le_refl _)
      rw [htk] at hnl hpm
      obtain ⟨ad', cap', hve', hcl', hcm', hwh'⟩ := hl.opn
      subst hve'
      have HLD := Lib.hid (hl.dl (Nat.le_trans hB hww) hnl)
      have HO := Lib.hid ho
      have HPM := Lib.hid hpm
      have HSO := Lib.hid hso
      have HP1 := Lib.hid P1
      have HEE := Lib.hid (HE1.out.trans hE1)
      have HWH := Lib.hid hwh'
      clear hl hnl ho hpm hso hE1 P1 hwh' hH htk
      go_wp2_with fail
      go_ret
      obtain ⟨w2, hw2⟩ : ∃ w2, w2 = wr.setCell ⟨p, 1, none⟩ (.slice ad' vl.length cap') := ⟨_, rfl⟩
      have c2 : Chg p wr w2 := hw2 ▸ Chg.setCell wr p 1 _
      have P2 : Bx 31 w2 p #[.int .i64 oz, .slice ad' vl.length cap'] := hw2 ▸ HP1.out.set 1 _
      rw [← hw2]
      have hne : ∀ g' ∈ [p], ∀ ds, ¬ Bx 61 wr g' ds := fun g' hg' ds => by
        rw [List.mem_singleton.1 hg']
        exact bx_ne HP1.out (by decide)
      refine ⟨_, _, out, rfl, ownsRow_mono (ownsRow_chg HO.out c2 HP1.out (by decide)) hww, HSO.out, HPM.out, P2, HLD.out.chgX (c2.chgS (bs := [p]) (by simp)) hne (fun g' hg' hm' => ?_), (HEE.out.chg p).trans c2, fun g' hg' => Nat.le_trans hww (HWH.out g' hg').2.1⟩
      rw [List.mem_singleton] at hm'
      have := (HWH.out g' hg').2.1
      omega
    · obtain ⟨x, hx⟩ : ∃ x, L[j]? = some x := ⟨_, List.getElem?_eq_getElem (by rw [← HN.out]; exact hjn)⟩
      obtain ⟨g, off, cap', b5, a5, n5, c5, a6, n6, c6, hse, hcell, hNx⟩ := HD.out.at hx
      simp only [Value.slice.injEq] at hse
      obtain ⟨rfl, -, rfl⟩ := hse
      obtain ⟨xi, xd, xq⟩ := x
      simp only at hcell hNx
      have hex := HE1.out.trans hE1
      have HC := Lib.hid (show ∀ wz, Ext w wz → _ from fun wz hz => hcell wz hz.bxs)
      have HX := Lib.hid hx
      have HNX := Lib.hid (hNx.ext hex)
      have HE := Lib.hid hex
      have HIq : Hid (IsR wr (.agg #[.bool b5, .slice a5 n5 c5, .slice a6 n6 c6]) xq k) := Lib.hid (by
        obtain ⟨_, _, _, _, _, _, _, he, hN, hsz⟩ := HNX.out
        cases he
        exact hN.isR hsz (by omega))
      have HIl := Lib.hid (Hx.out.ext hex)
      have sa := Lib.hid (IsR.szD HIq.out)
      have sb := Lib.hid (IsR.szD HIl.out)
      have BL := B1.out.ext hE1
      obtain ⟨t, ht⟩ : ∃ t, t = decide (cmpQ xq lim < 0) := ⟨_, rfl⟩
      have HT := Lib.hid ht
      have HL := Lib.hid hl
      have HNL := Lib.hid hnl
      have HO := Lib.hid ho
      have HPM := Lib.hid hpm
      have HSO := Lib.hid hso
      have HE1r := Lib.hid hE1
      have hjm : (j : Int) < (n : Int) := by omega
      have hol : out.length ≤ j := by
        have := keep_gone_len lim (L.take j)
        rw [List.length_take, ← hpm.length_eq] at this
        omega
      have hvl : vl.length ≤ j := by
        have := keep_gone_len lim (L.take j)
        rw [List.length_take, ← hnl.1] at this
        omega
      have hswr := hE1.size
      clear hx hNx hex hcell ht hl hnl ho hpm hso hE1 hH
      go_wp2_with fail
      refine wp_region_puts [] [PP.val (.pointer (some ⟨p, 0, none⟩)), PP.val (.pointer (some ⟨p, 0, none⟩)), PP.val (.pointer (some ⟨p, 1, none⟩)), PP.val (.slice (some ⟨g, off, none⟩) n cap), PP.val (.int .i64 (j : Int)), PP.val (.pointer (some ⟨g, off + j * 5, none⟩)), PP.val (.pointer (some ⟨g, off + j * 5 + 2, none⟩)), PP.val (.agg #[.bool b5, .slice a5 n5 c5, .slice a6 n6 c6]), PP.frQd xq, PP.val (.agg #[.bool b, .slice ad1 n1 cap1, .slice ad2 n2 cap2]), PP.frQd lim, PP.val (.int .i64 (cmpQ xq lim)), PP.val (.bool t)] [] [0, 1, 2, 3, 4, 5, 6, 7, 8, 9, 10, 11, 12]
        (by kernel_rfl) (by kernel_rfl) (fun f => (by simp only [fillR, fillL, List.setIfInBounds_toArray, List.set_cons_succ, List.set_cons_zero, Nat.reduceAdd]; rfl)) ?_ ?_ ?_ ?_ ?_
      · intro x hx; cases hx
      · intro x hx; cases hx
      · intro x hx; cases hx
      · refine ⟨?o0, ?o1, ?o2, ?o3, ?o4, ?o5, ?o6, ?o7, ?o8, ?o9, ?o10, ?o11, ?o12, trivial⟩
        case o0 =>
          intro f w2 hG hp hl
          have hE : Ext wr w2 := hG
          have hS := hE.size
          simp only [OpGoal]
          go_simp
          exact ⟨_, rfl, Ext.refl _, rfl⟩
        case o1 =>
          intro f w2 hG hp hl
          have hE : Ext wr w2 := hG
          have hS := hE.size
          have q21 : f 0 = .pointer (some ⟨p, 0, none⟩) := tellV hp 0 0 rfl rfl (fun h => by cases h)
          simp only [OpGoal]
          go_simp
          exact ⟨_, rfl, Ext.refl _, rfl⟩
        case o2 =>
          intro f w2 hG hp hl
          have hE : Ext wr w2 := hG
          have hS := hE.size
          have q22 : f 1 = .pointer (some ⟨p, 0, none⟩) := tellV hp 0 1 rfl rfl (fun h => by cases h)
          simp only [OpGoal]
          go_simp
          exact ⟨_, rfl, Ext.refl _, rfl⟩
        case o3 =>
          intro f w2 hG hp hl
          have hE : Ext wr w2 := hG
          have hS := hE.size
          have q23 : f 2 = .pointer (some ⟨p, 1, none⟩) := tellV hp 0 2 rfl rfl (fun h => by cases h)
          have hcell := (P1.ext hE).cell 1
          simp only [OpGoal]
          go_simp
          exact ⟨_, rfl, Ext.refl _, rfl⟩
        case o4 =>
          intro f w2 hG hp hl
          have hE : Ext wr w2 := hG
          have hS := hE.size
          simp only [OpGoal]
          go_simp
          exact ⟨_, rfl, Ext.refl _, rfl⟩
        case o5 =>
          intro f w2 hG hp hl
          have hE : Ext wr w2 := hG
          have hS := hE.size
          have q24 : f 3 = .slice (some ⟨g, off, none⟩) n cap := tellV hp 0 3 rfl rfl (fun h => by cases h)
          have q25 : f 4 = .int .i64 (j : Int) := tellV hp 1 4 rfl rfl (fun h => by cases h)
          simp only [OpGoal]
          go_simp
          exact ⟨_, rfl, Ext.refl _, rfl⟩
        case o6 =>
          intro f w2 hG hp hl
          have hE : Ext wr w2 := hG
          have hS := hE.size
          have q26 : f 5 = .pointer (some ⟨g, off + j * 5, none⟩) := tellV hp 0 5 rfl rfl (fun h => by cases h)
          simp only [OpGoal]
          go_simp
          exact ⟨_, rfl, Ext.refl _, rfl⟩
        case o7 =>
          intro f w2 hG hp hl
          have hE : Ext wr w2 := hG
          have hS := hE.size
          have q27 : f 6 = .pointer (some ⟨g, off + j * 5 + 2, none⟩) := tellV hp 0 6 rfl rfl (fun h => by cases h)
          change OpGoal _ _ _ f w2 Ext _
          exact og_loadAt (P := Tryz.prog) _ _ g (off + j * 5 + 2) _ _ rfl rfl q27 (fun i v h => by
  have h3 := HC.out _ (HE.out.trans hE) (i + 2) v (by rcases i with _ | _ | _ | i <;> first | exact h | simp at h)
  rwa [show off + j * 5 + (i + 2) = off + j * 5 + 2 + i by omega] at h3) Tryz.underlying36 rfl (by kernel_rfl) rfl
        case o8 =>
          intro f w2 hG hp hl
          have hE : Ext wr w2 := hG
          have hS := hE.size
          have q28 : f 7 = .agg #[.bool b5, .slice a5 n5 c5, .slice a6 n6 c6] := tellV hp 0 7 rfl rfl (fun h => by cases h)
          change OpGoal _ _ _ f w2 Ext _
          refine og_call (P := Tryz.prog) _ _ _ #[f 7] Tryz.func27 (by kernel_rfl) (by kernel_rfl) rfl rfl (by kernel_rfl) ?_
          rw [q28]
          refine (rqofR_calls _ _ _ _ (HIq.out.ext hE) hk).mono ?_
          rintro e w' ⟨v', rfl, h1, h2⟩
          exact ⟨v', rfl, h2, h1.mono hS⟩
        case o9 =>
          intro f w2 hG hp hl
          have hE : Ext wr w2 := hG
          have hS := hE.size
          change OpGoal _ _ _ f w2 Ext _
          exact og_load (P := Tryz.prog) _ _ w.heap.size _ _ _ rfl rfl rfl (BL.ext hE) Tryz.underlying36 rfl (by kernel_rfl) rfl
        case o10 =>
          intro f w2 hG hp hl
          have hE : Ext wr w2 := hG
          have hS := hE.size
          have q30 : f 9 = .agg #[.bool b, .slice ad1 n1 cap1, .slice ad2 n2 cap2] := tellV hp 0 9 rfl rfl (fun h => by cases h)
          change OpGoal _ _ _ f w2 Ext _
          refine og_call (P := Tryz.prog) _ _ _ #[f 9] Tryz.func27 (by kernel_rfl) (by kernel_rfl) rfl rfl (by kernel_rfl) ?_
          rw [q30]
          refine (rqofR_calls _ _ _ _ (HIl.out.ext hE) hm).mono ?_
          rintro e w' ⟨v', rfl, h1, h2⟩
          exact ⟨v', rfl, h2, h1.mono hS⟩
        case o11 =>
          intro f w2 hG hp hl
          have hE : Ext wr w2 := hG
          have hS := hE.size
          have q29 := tellV hp 0 8 rfl rfl (fun _ => hE)
          have q31 := tellV hp 1 10 rfl rfl (fun _ => hE)
          change OpGoal _ _ _ f w2 Ext _
          refine og_call (P := Tryz.prog) _ _ _ #[f 8, f 10] Tryz.func32 (by kernel_rfl) (by kernel_rfl) rfl rfl (by kernel_rfl) ?_
          refine (rqcmp3_calls _ _ xq lim (5 * k) (5 * m) _ q29.cq q31.cq sa.out sb.out (by omega)).mono ?_
          rintro e w' ⟨rfl, h2⟩
          exact ⟨_, rfl, h2, rfl⟩
        case o12 =>
          intro f w2 hG hp hl
          have hE : Ext wr w2 := hG
          have hS := hE.size
          have q32 : f 11 = .int .i64 (cmpQ xq lim) := tellV hp 0 11 rfl rfl (fun h => by cases h)
          simp only [OpGoal]
          go_simp
          exact ⟨_, rfl, Ext.refl _, congrArg Value.bool (by rw [HT.out])⟩
      · intro f w2 hG hp
        have hE : Ext wr w2 := ChgS.nil hG
        have q33 : f 12 = .bool t := endV hp 12 (by decide) rfl (fun h => by cases h)
        try simp only [q33]
        clear hp
        have P2 := P1.ext hE
        have hpc2 := P2.cell 1
        have hx0 := HC.out _ (HE.out.trans hE) 0 _ rfl
        have hx1 := HC.out _ (HE.out.trans hE) 1 _ rfl
        have hx2 := HC.out _ (HE.out.trans hE) 2 _ rfl
        have hx3 := HC.out _ (HE.out.trans hE) 3 _ rfl
        have hx4 := HC.out _ (HE.out.trans hE) 4 _ rfl
        simp only [Nat.add_zero] at hx0
        have HE2 := Lib.hid hE
        have hs2 := hE.size
        clear hE hcp1 P1 BL
        cases t with
        | true =>
          have hlt : xq < lim := cmpR_lt.1 (of_decide_eq_true HT.out.symm)
          have HLT := Lib.hid hlt
          clear hlt
          go_wp2_with (first
            | (at_builtin; go_loud (refine wpList_append_LS rfl _ _ 29 rfl 38 5 72 w1.heap.size Tryz.underlying29 (by kernel_rfl) (by kernel_rfl) (by omega) _ vl rfl (HL.out.ext (HE2.out.trans ((Ext.refl _).alloc _))) ⟨w2.heap.size, 0, none⟩ #[.int .i64 xi, .int .i64 xd, .bool b5, .slice a5 n5 c5, .slice a6 n6 c6] rfl rfl (news_new _ _ _) (by kernel_rfl) (by omega) (by omega) (by show w1.heap.size ≤ (w2.alloc _).heap.size; rw [alloc_size]; omega) ?_); intro g' cap2' w7 hls7 hg7 hwh7 hlt7)
            | fail)
          go_roundw
          case rel =>
            have hA := (Ext.refl w2).alloc (.cells #[.int .i64 xi, .int .i64 xd, .bool b5, .slice a5 n5 c5, .slice a6 n6 c6] 38)
            have hE0 := HE2.out.trans hA
            exact ⟨j + 1, by simp, by omega, Lib.hid (PqI.stay (HE1r.out.trans hE0) (HL.out.ext hE0) ⟨HNL.out.1, fun i v x a b => (HNL.out.2 i v x a b).ext hE0⟩ (ownsRow_ext HO.out hE0) HPM.out HSO.out HX.out HLT.out (HNX.out.ext hE0) hls7 hg7)⟩
          case measure => simp [intOf]; omega
        | false =>
          have hlt : ¬ xq < lim := fun h => of_decide_eq_false HT.out.symm (cmpR_lt.2 h)
          have HLT := Lib.hid hlt
          clear hlt
          go_wp2_with (first
            | (at_builtin; go_loud (refine wpList_append_V rfl _ _ 49 rfl 3 8 w1.heap.size Tryz.underlying49 (by kernel_rfl) (by kernel_rfl) _ out.length (out.map (Value.int .i64)) rfl (ownsRow_ext HO.out (HE2.out.trans ((Ext.refl _).alloc _))) ⟨w2.heap.size, 0, none⟩ (.int .i64 xi) rfl (cell_one_new _ _ _) rfl (by omega) (by omega) (by show w1.heap.size ≤ (w2.alloc _).heap.size; rw [alloc_size]; omega) ?_); intro go cap2' w7 hls7 hg7 hwh7 hlt7)
            | fail)
          have hA := (Ext.refl w2).alloc (.cells #[.int .i64 xi] 3)
          have HE0 := Lib.hid (HE2.out.trans hA)
          have HG7 := Lib.hid hg7
          have hI0 : IO w1.heap.size go cap2' (insI out out.length xi) w7 := by
            have h := hls7
            rw [show out.map (Value.int .i64) ++ [Value.int .i64 xi] = (insI out out.length xi).map (Value.int .i64) by rw [insI_end, List.map_append]; rfl] at h
            exact (IO.of h).1
          have HI0 := Lib.hid hI0
          have J1 : Hid (PkI w1.heap.size go cap2' out xi w7 out.length w7) := Lib.hid ⟨hI0, Chg.refl _ _, fun i y hi hy => by have := (List.getElem?_eq_some_iff.1 hy).1; omega⟩
          clear hA hg7 hls7 hI0 hwh7 hpc2 hx0 hx1 hx2 hx3 hx4 P2
          go_loopw [8] (fun kk w3 => ∃ i : Nat, kk = .int .i64 (i : Int) ∧ i ≤ out.length ∧ Hid (PkI w1.heap.size go cap2' out xi w7 i w3)) (fun kk _ => (intOf kk).toNat)
          case atStart => exact ⟨out.length, by simp, Nat.le_refl _, J1⟩
          case round =>
            clear J1
            obtain ⟨i, rfl, hi, hK⟩ := hrel
            by_cases h0 : i = 0
            · have HI1 := Lib.hid h0
              clear h0
              go_wp2_with fail
              refine wp_region_puts [] [PP.val (.int .i64 (i : Int)), PP.val (.bool false), PP.val (.bool false), PP.any, PP.any, PP.any, PP.any, PP.any, PP.any, PP.any, PP.any, PP.any, PP.any, PP.val (.bool false)] [] [0, 1, 2, 3, 4, 5, 6, 7, 8, 9, 10, 11, 12, 13]
                (by kernel_rfl) (by kernel_rfl) (fun f => (by simp only [fillR, fillL, List.setIfInBounds_toArray, List.set_cons_succ, List.set_cons_zero, Nat.reduceAdd]; rfl)) ?_ ?_ ?_ ?_ ?_
              · intro x hx; cases hx
              · intro x hx; cases hx
              · intro x hx; cases hx
              · refine ⟨?o0, ?o1, ?o2, ?o3, ?o4, ?o5, ?o6, ?o7, ?o8, ?o9, ?o10, ?o11, ?o12, ?o13, trivial⟩
                case o0 =>
                  intro f w4 hG hp hl
                  have hE : Ext wr w4 := hG
                  have hS := hE.size
                  simp only [OpGoal]
                  go_simp
                  exact ⟨_, rfl, Ext.refl _, rfl⟩
                case o1 =>
                  intro f w4 hG hp hl
                  have hE : Ext wr w4 := hG
                  have hS := hE.size
                  have q58 : f 0 = .int .i64 (i : Int) := tellV hp 0 0 rfl rfl (fun h => by cases h)
                  simp only [OpGoal]
                  go_simp
                  exact ⟨_, rfl, Ext.refl _, congrArg Value.bool (decide_eq_false (by have := HI1.out; omega))⟩
                case o2 =>
                  intro f w4 hG hp hl
                  have hE : Ext wr w4 := hG
                  have hS := hE.size
                  have q59 : f 1 = .bool false := tellV hp 0 1 rfl rfl (fun h => by cases h)
                  simp only [OpGoal]
                  go_simp
                  exact ⟨_, rfl, Ext.refl _, rfl⟩
                case o3 =>
                  intro f w4 hG hp hl
                  have hE : Ext wr w4 := hG
                  have hS := hE.size
                  have qg : f 2 = .bool false := tellV hp 0 2 rfl rfl (fun h => by cases h)
                  exact og_skip rfl qg (by decide) trivial
                case o4 =>
                  intro f w4 hG hp hl
                  have hE : Ext wr w4 := hG
                  have hS := hE.size
                  have qg : f 2 = .bool false := tellV hp 0 2 rfl rfl (fun h => by cases h)
                  exact og_skip rfl qg (by decide) trivial
                case o5 =>
                  intro f w4 hG hp hl
                  have hE : Ext wr w4 := hG
                  have hS := hE.size
                  have qg : f 2 = .bool false := tellV hp 2 2 rfl rfl (fun h => by cases h)
                  exact og_skip rfl qg (by decide) trivial
                case o6 =>
                  intro f w4 hG hp hl
                  have hE : Ext wr w4 := hG
                  have hS := hE.size
                  have qg : f 2 = .bool false := tellV hp 1 2 rfl rfl (fun h => by cases h)
                  exact og_skip rfl qg (by decide) trivial
                case o7 =>
                  intro f w4 hG hp hl
                  have hE : Ext wr w4 := hG
                  have hS := hE.size
                  have qg : f 2 = .bool false := tellV hp 0 2 rfl rfl (fun h => by cases h)
                  exact og_skip rfl qg (by decide) trivial
                case o8 =>
                  intro f w4 hG hp hl
                  have hE : Ext wr w4 := hG
                  have hS := hE.size
                  have qg : f 2 = .bool false := tellV hp 0 2 rfl rfl (fun h => by cases h)
                  exact og_skip rfl qg (by decide) trivial
                case o9 =>
                  intro f w4 hG hp hl
                  have hE : Ext wr w4 := hG
                  have hS := hE.size
                  have qg : f 2 = .bool false := tellV hp 1 2 rfl rfl (fun h => by cases h)
                  exact og_skip rfl qg (by decide) trivial
                case o10 =>
                  intro f w4 hG hp hl
                  have hE : Ext wr w4 := hG
                  have hS := hE.size
                  have qg : f 2 = .bool false := tellV hp 2 2 rfl rfl (fun h => by cases h)
                  exact og_skip rfl qg (by decide) trivial
                case o11 =>
                  intro f w4 hG hp hl
                  have hE : Ext wr w4 := hG
                  have hS := hE.size
                  have qg : f 2 = .bool false := tellV hp 1 2 rfl rfl (fun h => by cases h)
                  exact og_skip rfl qg (by decide) trivial
                case o12 =>
                  intro f w4 hG hp hl
                  have hE : Ext wr w4 := hG
                  have hS := hE.size
                  have qg : f 2 = .bool false := tellV hp 2 2 rfl rfl (fun h => by cases h)
                  exact og_skip rfl qg (by decide) trivial
                case o13 =>
                  intro f w4 hG hp hl
                  have hE : Ext wr w4 := hG
                  have hS := hE.size
                  have q60 : f 2 = .bool false := tellV hp 0 2 rfl rfl (fun h => by cases h)
                  simp only [OpGoal]
                  go_simp
                  exact ⟨_, rfl, Ext.refl _, rfl⟩
              · intro f w4 hG hp
                have hE : Ext wr w4 := ChgS.nil hG
                have q71 : f 13 = .bool false := endV hp 13 (by decide) rfl (fun h => by cases h)
                try simp only [q71]
                clear hp
                have HE4 := Lib.hid hE
                clear hE
                go_wp2_with fail
                go_roundw
                case rel =>
                  have hK' := hK.out.ext HE4.out
                  exact ⟨j + 1, by simp, by omega, Lib.hid (PqI.go (HE1r.out.trans HE0.out) (HL.out.ext HE0.out) ⟨HNL.out.1, fun i v x a b => (HNL.out.2 i v x a b).ext HE0.out⟩ (ownsRow_ext HO.out HE0.out) HPM.out HSO.out HX.out HLT.out HI0.out HG7.out hi hK'.1 hK'.2.1 hK'.2.2 (fun y hy => by have := HI1.out; omega))⟩
                case measure => simp [intOf]; omega
            · obtain ⟨m', rfl⟩ : ∃ m', i = m' + 1 := ⟨i - 1, by omega⟩
              obtain ⟨y, hy⟩ : ∃ y, out[m']? = some y := ⟨_, List.getElem?_eq_getElem (by omega)⟩
              have HCa := Lib.hid (show ∀ wz, Ext wr wz → _ from fun wz hz => (hK.out.ext hz).1.cell (insI_at hi))
              have HCb := Lib.hid (show ∀ wz, Ext wr wz → _ from fun wz hz => (hK.out.ext hz).1.cell (insI_pre (x := xi) hy))
              have HY := Lib.hid hy
              obtain ⟨r, hr⟩ : ∃ r, r = decide (xi < y) := ⟨_, rfl⟩
              have HR := Lib.hid hr
              have hcast : ((m' + 1 : Nat) : Int) = (m' : Int) + 1 := by omega
              rw [hcast]
              have hm0 : (0 : Int) < (m' : Int) + 1 := by omega
              have hmn : (m' : Int) + 1 < (out.length : Int) + 1 := by omega
              have hmn2 : (m' : Int) < (out.length : Int) + 1 := by omega
              have hwm : IntKind.i64.wrap (m' : Int) = (m' : Int) := by simp (disch := omega) only [IntWalk.i64_in]
              clear hy hr h0 hcast
              go_wp2_with fail
              refine wp_region_puts [] [PP.val (.int .i64 ((m' : Int) + 1)), PP.val (.bool true), PP.val (.bool true), PP.val (.slice (some ⟨go, 0, none⟩) (out.length + 1) cap2'), PP.val (.int .i64 ((m' : Int) + 1)), PP.val (.pointer (some ⟨go, m' + 1, none⟩)), PP.val (.int .i64 xi), PP.val (.slice (some ⟨go, 0, none⟩) (out.length + 1) cap2'), PP.val (.int .i64 ((m' : Int) + 1)), PP.val (.int .i64 (m' : Int)), PP.val (.pointer (some ⟨go, m', none⟩)), PP.val (.int .i64 y), PP.val (.bool r), PP.val (.bool r)] [] [0, 1, 2, 3, 4, 5, 6, 7, 8, 9, 10, 11, 12, 13]
                (by kernel_rfl) (by kernel_rfl) (fun f => (by simp only [fillR, fillL, List.setIfInBounds_toArray, List.set_cons_succ, List.set_cons_zero, Nat.reduceAdd]; rfl)) ?_ ?_ ?_ ?_ ?_
              · intro x hx; cases hx
              · intro x hx; cases hx
              · intro x hx; cases hx
              · refine ⟨?o0, ?o1, ?o2, ?o3, ?o4, ?o5, ?o6, ?o7, ?o8, ?o9, ?o10, ?o11, ?o12, ?o13, trivial⟩
                case o0 =>
                  intro f w4 hG hp hl
                  have hE : Ext wr w4 := hG
                  have hS := hE.size
                  simp only [OpGoal]
                  go_simp
                  exact ⟨_, rfl, Ext.refl _, rfl⟩
                case o1 =>
                  intro f w4 hG hp hl
                  have hE : Ext wr w4 := hG
                  have hS := hE.size
                  have q58 : f 0 = .int .i64 ((m' : Int) + 1) := tellV hp 0 0 rfl rfl (fun h => by cases h)
                  simp only [OpGoal]
                  go_simp
                  exact ⟨_, rfl, Ext.refl _, rfl⟩
                case o2 =>
                  intro f w4 hG hp hl
                  have hE : Ext wr w4 := hG
                  have hS := hE.size
                  have q59 : f 1 = .bool true := tellV hp 0 1 rfl rfl (fun h => by cases h)
                  simp only [OpGoal]
                  go_simp
                  exact ⟨_, rfl, Ext.refl _, rfl⟩
                case o3 =>
                  intro f w4 hG hp hl
                  have hE : Ext wr w4 := hG
                  have hS := hE.size
                  have qg : f 2 = .bool true := tellV hp 0 2 rfl rfl (fun h => by cases h)
                  change OpGoal _ _ _ f w4 Ext _
                  refine og_guard (j := 2) (want := true) rfl qg ?_
                  simp only [OpGoal]
                  go_simp
                  exact ⟨_, rfl, Ext.refl _, rfl⟩
                case o4 =>
                  intro f w4 hG hp hl
                  have hE : Ext wr w4 := hG
                  have hS := hE.size
                  have qg : f 2 = .bool true := tellV hp 0 2 rfl rfl (fun h => by cases h)
                  change OpGoal _ _ _ f w4 Ext _
                  refine og_guard (j := 2) (want := true) rfl qg ?_
                  simp only [OpGoal]
                  go_simp
                  exact ⟨_, rfl, Ext.refl _, rfl⟩
                case o5 =>
                  intro f w4 hG hp hl
                  have hE : Ext wr w4 := hG
                  have hS := hE.size
                  have q61 : f 3 = .slice (some ⟨go, 0, none⟩) (out.length + 1) cap2' := tellV hp 0 3 rfl rfl (fun h => by cases h)
                  have q62 : f 4 = .int .i64 ((m' : Int) + 1) := tellV hp 1 4 rfl rfl (fun h => by cases h)
                  have qg : f 2 = .bool true := tellV hp 2 2 rfl rfl (fun h => by cases h)
                  change OpGoal _ _ _ f w4 Ext _
                  refine og_guard (j := 2) (want := true) rfl qg ?_
                  simp only [OpGoal]
                  go_simp
                  exact ⟨_, rfl, Ext.refl _, rfl⟩
                case o6 =>
                  intro f w4 hG hp hl
                  have hE : Ext wr w4 := hG
                  have hS := hE.size
                  have q63 : f 5 = .pointer (some ⟨go, m' + 1, none⟩) := tellV hp 0 5 rfl rfl (fun h => by cases h)
                  have qg : f 2 = .bool true := tellV hp 1 2 rfl rfl (fun h => by cases h)
                  change OpGoal _ _ _ f w4 Ext _
                  refine og_guard (j := 2) (want := true) rfl qg ?_
                  have hcell := (HCa.out _ hE).1
                  simp only [OpGoal]
                  go_simp
                  exact ⟨_, rfl, Ext.refl _, rfl⟩
                case o7 =>
                  intro f w4 hG hp hl
                  have hE : Ext wr w4 := hG
                  have hS := hE.size
                  have qg : f 2 = .bool true := tellV hp 0 2 rfl rfl (fun h => by cases h)
                  change OpGoal _ _ _ f w4 Ext _
                  refine og_guard (j := 2) (want := true) rfl qg ?_
                  simp only [OpGoal]
                  go_simp
                  exact ⟨_, rfl, Ext.refl _, rfl⟩
                case o8 =>
                  intro f w4 hG hp hl
                  have hE : Ext wr w4 := hG
                  have hS := hE.size
                  have qg : f 2 = .bool true := tellV hp 0 2 rfl rfl (fun h => by cases h)
                  change OpGoal _ _ _ f w4 Ext _
                  refine og_guard (j := 2) (want := true) rfl qg ?_
                  simp only [OpGoal]
                  go_simp
                  exact ⟨_, rfl, Ext.refl _, rfl⟩
                case o9 =>
                  intro f w4 hG hp hl
                  have hE : Ext wr w4 := hG
                  have hS := hE.size
                  have q66 : f 8 = .int .i64 ((m' : Int) + 1) := tellV hp 0 8 rfl rfl (fun h => by cases h)
                  have qg : f 2 = .bool true := tellV hp 1 2 rfl rfl (fun h => by cases h)
                  change OpGoal _ _ _ f w4 Ext _
                  refine og_guard (j := 2) (want := true) rfl qg ?_
                  simp only [OpGoal]
                  go_simp
                  exact ⟨_, rfl, Ext.refl _, rfl⟩
                case o10 =>
                  intro f w4 hG hp hl
                  have hE : Ext wr w4 := hG
                  have hS := hE.size
                  have q65 : f 7 = .slice (some ⟨go, 0, none⟩) (out.length + 1) cap2' := tellV hp 0 7 rfl rfl (fun h => by cases h)
                  have q67 : f 9 = .int .i64 (m' : Int) := tellV hp 1 9 rfl rfl (fun h => by cases h)
                  have qg : f 2 = .bool true := tellV hp 2 2 rfl rfl (fun h => by cases h)
                  change OpGoal _ _ _ f w4 Ext _
                  refine og_guard (j := 2) (want := true) rfl qg ?_
                  simp only [OpGoal]
                  go_simp
                  exact ⟨_, rfl, Ext.refl _, rfl⟩
                case o11 =>
                  intro f w4 hG hp hl
                  have hE : Ext wr w4 := hG
                  have hS := hE.size
                  have q68 : f 10 = .pointer (some ⟨go, m', none⟩) := tellV hp 0 10 rfl rfl (fun h => by cases h)
                  have qg : f 2 = .bool true := tellV hp 1 2 rfl rfl (fun h => by cases h)
                  change OpGoal _ _ _ f w4 Ext _
                  refine og_guard (j := 2) (want := true) rfl qg ?_
                  have hcell := (HCb.out _ hE).1
                  simp only [OpGoal]
                  go_simp
                  exact ⟨_, rfl, Ext.refl _, rfl⟩
                case o12 =>
                  intro f w4 hG hp hl
                  have hE : Ext wr w4 := hG
                  have hS := hE.size
                  have q64 : f 6 = .int .i64 xi := tellV hp 0 6 rfl rfl (fun h => by cases h)
                  have q69 : f 11 = .int .i64 y := tellV hp 1 11 rfl rfl (fun h => by cases h)
                  have qg : f 2 = .bool true := tellV hp 2 2 rfl rfl (fun h => by cases h)
                  change OpGoal _ _ _ f w4 Ext _
                  refine og_guard (j := 2) (want := true) rfl qg ?_
                  simp only [OpGoal]
                  go_simp
                  exact ⟨_, rfl, Ext.refl _, congrArg Value.bool (by rw [HR.out])⟩
                case o13 =>
                  intro f w4 hG hp hl
                  have hE : Ext wr w4 := hG
                  have hS := hE.size
                  have q60 : f 2 = .bool true := tellV hp 0 2 rfl rfl (fun h => by cases h)
                  have q70 : f 12 = .bool r := tellV hp 1 12 rfl rfl (fun h => by cases h)
                  simp only [OpGoal]
                  go_simp
                  exact ⟨_, rfl, Ext.refl _, rfl⟩
              · intro f w4 hG hp
                have hE : Ext wr w4 := ChgS.nil hG
                have q71 : f 13 = .bool r := endV hp 13 (by decide) rfl (fun h => by cases h)
                try simp only [q71]
                clear hp
                have HE4 := Lib.hid hE
                have hca := (HCa.out _ hE).1
                have hfa := (HCa.out _ hE).2
                have hcb := (HCb.out _ hE).1
                have hfb := (HCb.out _ hE).2
                clear hE
                cases r with
                | false =>
                  go_wp2_with fail
                  go_roundw
                  case rel =>
                    have hK' := hK.out.ext HE4.out
                    have hnl : ¬ xi < y := of_decide_eq_false HR.out.symm
                    exact ⟨j + 1, by simp, by omega, Lib.hid (PqI.go (HE1r.out.trans HE0.out) (HL.out.ext HE0.out) ⟨HNL.out.1, fun i v x a b => (HNL.out.2 i v x a b).ext HE0.out⟩ (ownsRow_ext HO.out HE0.out) HPM.out HSO.out HX.out HLT.out HI0.out HG7.out hi hK'.1 hK'.2.1 hK'.2.2 (fun y' _ hy' => by
                      have hy2 : out[m']? = some y' := hy'
                      rw [HY.out] at hy2
                      cases hy2
                      exact hnl))⟩
                  case measure => simp [intOf]; omega
                | true =>
                  go_wp2_with fail
                  go_roundw
                  case rel =>
                    have hK' := hK.out.ext HE4.out
                    exact ⟨m', (by first | rfl | simp), by omega, Lib.hid (hK'.down HY.out (of_decide_eq_true HR.out.symm))⟩
                  case measure => simp [intOf]
end Go.Proofs.YthoibjnkhkjnjaaGreat

/-
  The least cost in the queue: the program's.
-/
namespace Go.Proofs.YthoibjnkhkjnjaaGreat
open Go.RowKit
set_option linter.unusedVariables false
set_option linter.unusedSimpArgs false

set_option maxRecDepth 100000 in
set_option maxHeartbeats 1000000 in
theorem og_callv {P : Program} {o : Oper} {a : Act} {f : Nat → Value} {w : World} {post : Value → World → Prop} {fn : Func} (F : FuncId) (x : Operand) (xs : Array Operand) (ts : Array TypeId) (args : Array Value) (hf : P.funcs[F]? = some fn) (hn : (fn.name == "runtime.NumGoroutine") = false) (hb : fn.body.isNone = false) (hgd : o.guard = none) (ho : o.op = .call { callee := .value x, args := xs, argTypes := ts })
    (hx : a.eval x = .func (.func F) #[] #[]) (ha : xs.map a.eval = args) (hc : Calls P F args w fun e w' => ∃ v, e = .returned v ∧ Ext w w' ∧ post v w') : OpGoal P o a f w Ext post := by
  unfold OpGoal
  rw [hgd]
  unfold Oper.wp
  have hrun : (execOp a.eval o).run P w = .ok (.enter F args) w := by
    subst ha
    have h1 : fn.name ≠ "runtime.NumGoroutine" := by simpa using hn
    have h2 : ¬ fn.body = none := by intro h; simp [h] at hb
    simp [execOp, ho, resolve, hx, Deferred.ofValue, invoke, callFunc, hf, h1, h2]
  rw [hrun, Oper.upon_enter]
  refine hc.mono ?_
  rintro e w' ⟨v, rfl, h1, h2⟩
  exact ⟨v, rfl, h1, h2⟩
set_option maxRecDepth 100000 in
set_option maxHeartbeats 1000000 in
theorem put5 {t : TypeId} {g : Nat} {w : World} {a b c d e : Value} (h : Bx t w g #[a, b, c, d, e]) (a' b' c' d' e' : Value) : ∃ w1, w1 = (((((w.setCell ⟨g, 0, none⟩ a').setCell ⟨g, 1, none⟩ b').setCell ⟨g, 2, none⟩ c').setCell ⟨g, 3, none⟩ d').setCell ⟨g, 4, none⟩ e') ∧ Chg g w w1 ∧ Bx t w1 g #[a', b', c', d', e'] :=
  ⟨_, rfl, ((((Chg.setCell w g 0 _).trans (Chg.setCell _ g 1 _)).trans (Chg.setCell _ g 2 _)).trans (Chg.setCell _ g 3 _)).trans (Chg.setCell _ g 4 _), ((((h.set 0 a').set 1 b').set 2 c').set 3 d').set 4 e'⟩
set_option maxRecDepth 100000 in
set_option maxHeartbeats 1000000 in
theorem QHeap.dl {B k : Nat} {w : World} {hv : Value} {d : Array Nd} (h : QHeap B k w hv d) : DL B k w hv d.toList := by
  obtain ⟨vs, h1, h2, h3, h4⟩ := h
  refine ⟨vs, h2, by rw [h1, Array.length_toList], by rw [Array.length_toList]; exact rowO_of h3, fun i u x hu hx => ?_⟩
  have := h4 i u hu
  have hdx : d[i]! = x := by
    rw [Array.getElem!_eq_getD, Array.getD_eq_getD_getElem?, ← Array.getElem?_toList, hx]
    rfl
  rw [hdx] at this
  exact this
set_option maxRecDepth 100000 in
set_option maxHeartbeats 1000000 in
/-- Which of two costs less. -/
theorem lclo_calls (va vb : Value) (a b : Nd) (k : Nat) (w : World) (ha : NdR k w va a) (hb : NdR k w vb b) (hk : k ≤ 1000) :
    Calls Tryz.prog 34 #[va, vb] w fun e w' => e = .returned (.int .i64 (cmpQ a.q b.q)) ∧ Ext w w' := by
  obtain ⟨b1, a1, n1, c1, a2, n2, c2, rfl, ra⟩ := ha
  obtain ⟨b2, a3, n3, c3, a4, n4, c4, rfl, rb⟩ := hb
  have RA := Lib.hid ra
  have RB := Lib.hid rb
  obtain ⟨xi, xd, xq⟩ := a
  obtain ⟨yi, yd, yq⟩ := b
  simp only at RA RB ⊢
  clear ra rb
  obtain ⟨w1, hw1, e1, x1, x2, s1⟩ := alloc2 w #[.int .i64 xi, .int .i64 xd, .bool b1, .slice a1 n1 c1, .slice a2 n2 c2] #[.int .i64 yi, .int .i64 yd, .bool b2, .slice a3 n3 c3, .slice a4 n4 c4] 38 38
  go_enter Tryz.func34, Tryz.ntmps34
  go_wp2_with fail
  rw [← hw1]
  refine (rcmp_calls _ _ xq yq k k w1 (RA.out.ext e1) (RB.out.ext e1) (by omega)).mono ?_
  rintro e w2 ⟨rfl, e2⟩
  go_wp2
  go_ret
  exact ⟨rfl, e1.trans e2⟩
/-- The least of the first j lies in block b. -/
def MinI (B k b : Nat) (w : World) (L : List Nd) (j : Nat) (wr : World) : Prop :=
  ∃ yi yd yq bb z1 m1 d1 z2 m2 d2, (⟨yi, yd, yq⟩ : Nd) ∈ L ∧ (∀ z ∈ L.take j, yq ≤ z.q) ∧ Bx 38 wr b #[.int .i64 yi, .int .i64 yd, .bool bb, .slice z1 m1 d1, .slice z2 m2 d2] ∧ NdV B k wr (.agg #[.int .i64 yi, .int .i64 yd, .bool bb, .slice z1 m1 d1, .slice z2 m2 d2]) ⟨yi, yd, yq⟩ ∧ Chg b w wr
set_option maxRecDepth 100000 in
set_option maxHeartbeats 8000000 in
theorem minf_calls (B k : Nat) (v : Value) (L : List Nd) (w : World) (h : DL B k w v L) (hne : 0 < L.length) (hk : k ≤ 1000) :
    Calls Tryz.prog 33 #[v, .func (.func 34) #[] #[]] w fun e w' => ∃ va x, e = .returned va ∧ x ∈ L ∧ (∀ z ∈ L, x.q ≤ z.q) ∧ NdV B k w' va x ∧ Ext w w' := by
  have lim0 : (1000 : Nat) ≤ LIM := by rw [LIM_eq]; omega
  obtain ⟨hmax, -⟩ := h.le
  obtain ⟨x0, hx0⟩ : ∃ x, L[0]? = some x := ⟨_, List.getElem?_eq_getElem hne⟩
  obtain ⟨g, off, cap, b, a1, n1, c1, a2, n2, c2, rfl, hcell, hN⟩ := h.at hx0
  obtain ⟨x0i, x0d, x0q⟩ := x0
  simp only at hcell hN
  obtain ⟨n, hn⟩ : ∃ n, n = L.length := ⟨_, rfl⟩
  rw [← hn] at hmax hne h ⊢
  obtain ⟨w0, hw0, e0, bz, s0⟩ := alloc1 w #[.int .i64 0, .int .i64 0, .bool false, .slice none 0 0, .slice none 0 0] 38
  obtain ⟨w1, hw1, e1, bb, s1⟩ := alloc1 w0 #[.int .i64 x0i, .int .i64 x0d, .bool b, .slice a1 n1 c1, .slice a2 n2 c2] 38
  have hq0 := hcell w0 e0.bxs 0 _ rfl
  have hq1 := hcell w0 e0.bxs 1 _ rfl
  have hq2 := hcell w0 e0.bxs 2 _ rfl
  have hq3 := hcell w0 e0.bxs 3 _ rfl
  have hq4 := hcell w0 e0.bxs 4 _ rfl
  simp only [Nat.zero_mul, Nat.add_zero] at hq0 hq1 hq2 hq3 hq4
  rw [hw0] at hq0 hq1 hq2 hq3 hq4
  have hw2 : w1 = (w.alloc (.cells #[.int .i64 0, .int .i64 0, .bool false, .slice none 0 0, .slice none 0 0] 38)).alloc (.cells #[.int .i64 x0i, .int .i64 x0d, .bool b, .slice a1 n1 c1, .slice a2 n2 c2] 38) := by rw [hw1, hw0]
  rw [s0] at bb
  have E1 := Lib.hid (e0.trans e1)
  have BZ := Lib.hid (bz.ext e1)
  have HI : Hid (MinI B k (w.heap.size + 1) w1 L 1 w1) := Lib.hid ⟨x0i, x0d, x0q, b, a1, n1, c1, a2, n2, c2, List.mem_of_getElem? hx0, (fun z hz => by
    rw [List.take_add_one, hx0] at hz
    have : z = ⟨x0i, x0d, x0q⟩ := by simpa using hz
    rw [this]
    exact Rat.le_refl), bb, hN.ext (e0.trans e1), Chg.refl _ _⟩
  have HD := Lib.hid h
  have HL := Lib.hid hn
  have hn1 : (1 : Int) ≤ (n : Int) := by omega
  have hn2 : ¬ ((n : Int) < 1) := by omega
  have hn3 : (0 : Int) < (n : Int) := by omega
  clear hw0 hw1 e0 e1 bz bb s0 hx0 hcell hN h hn
  go_enter Tryz.func33, Tryz.ntmps33
  go_wp2_with fail
  rw [← hw2]
  clear hw2 hq0 hq1 hq2 hq3 hq4
  go_loopw [6] (fun i wr => ∃ j : Nat, i = .int .i64 (j : Int) ∧ 1 ≤ j ∧ j ≤ n ∧ Hid (MinI B k (w.heap.size + 1) w1 L j wr)) (fun i _ => ((n : Int) - intOf i).toNat)
  case atStart => exact ⟨1, rfl, Nat.le_refl _, by omega, HI⟩
  case round =>
    clear HI
    obtain ⟨j, rfl, hj1, hj, hH⟩ := hrel
    obtain ⟨yi, yd, yq, bb, z1, m1, d1, z2, m2, d2, hy, hmin, hbx, hfr, hch⟩ := hH.out
    have hext : Ext w wr := E1.out.step hch (by omega)
    have hb0 := hbx.cell 0
    have hb1 := hbx.cell 1
    have hb2 := hbx.cell 2
    have hb3 := hbx.cell 3
    have hb4 := hbx.cell 4
    rcases Nat.eq_or_lt_of_le hj with hjn | hjn
    · subst hjn
      have BW := BZ.out.chg hch (by omega)
      have hg0 := BW.cell 0
      have hg1 := BW.cell 1
      have hg2 := BW.cell 2
      have hg3 := BW.cell 3
      have hg4 := BW.cell 4
      have hf0 := BW.free 0
      have hf1 := BW.free 1
      have hf2 := BW.free 2
      have hf3 := BW.free 3
      have hf4 := BW.free 4
      obtain ⟨w3, hw3, c3, b3⟩ := put5 BW (.int .i64 yi) (.int .i64 yd) (.bool bb) (.slice z1 m1 d1) (.slice z2 m2 d2)
      have HF := Lib.hid hfr
      have HS := Lib.hid (And.intro hy hmin)
      have HE := Lib.hid hext
      clear hfr hmin hy hext hbx hch hH
      go_wp2_with fail
      rw [← hw3]
      clear hw3
      refine ret_box 4 38 w.heap.size 38 _ _ (by kernel_rfl) rfl b3 Tryz.underlying38 rfl (by kernel_rfl) rfl ?_
      refine ⟨_, ⟨yi, yd, yq⟩, rfl, HS.out.1, fun z hz => HS.out.2 z ?_, HF.out.chgX (c3.chgS (bs := [w.heap.size]) (by simp)) (fun g' hg' ds => by
        rw [List.mem_singleton.1 hg']
        exact bx_ne BW (by decide)), HE.out.step c3 (Nat.le_refl _)⟩
      rw [List.take_of_length_le (by rw [← HL.out]; exact Nat.le_refl _)]
      exact hz
    · obtain ⟨x, hx⟩ : ∃ x, L[j]? = some x := ⟨_, List.getElem?_eq_getElem (by rw [← HL.out]; exact hjn)⟩
      obtain ⟨g', off', cap', b5, a5, n5, c5, a6, n6, c6, hse, hcell, hN⟩ := HD.out.at hx
      simp only [Value.slice.injEq, Option.some.injEq, Addr.mk.injEq] at hse
      obtain ⟨⟨rfl, rfl, -⟩, -, rfl⟩ := hse
      obtain ⟨xi, xd, xq⟩ := x
      simp only at hcell hN
      have HC := Lib.hid (show ∀ wz, Ext w wz → _ from fun wz hz => hcell wz hz.bxs)
      have HF := Lib.hid hfr
      have HY := Lib.hid (And.intro hy hmin)
      have HX := Lib.hid hx
      have HN := Lib.hid (hN.ext hext)
      have HE := Lib.hid hext
      have HCH := Lib.hid hch
      have hjm : (j : Int) < (n : Int) := by omega
      obtain ⟨t, ht⟩ : ∃ t, t = decide (cmpQ xq yq < 0) := ⟨_, rfl⟩
      have HT := Lib.hid ht
      clear hfr hy hmin hx hN hext hch hH hcell ht
      go_wp2_with fail
      refine wp_region_puts [] [PP.val (.func (.func 34) #[] #[]), PP.val (.slice (some ⟨g, off, none⟩) n cap), PP.val (.int .i64 (j : Int)), PP.val (.pointer (some ⟨g, off + j * 5, none⟩)), PP.val (.agg #[.int .i64 xi, .int .i64 xd, .bool b5, .slice a5 n5 c5, .slice a6 n6 c6]), PP.val (.agg #[.int .i64 yi, .int .i64 yd, .bool bb, .slice z1 m1 d1, .slice z2 m2 d2]), PP.val (.int .i64 (cmpQ xq yq)), PP.val (.bool t)] [] [0, 1, 2, 3, 4, 5, 6, 7]
        (by kernel_rfl) (by kernel_rfl) (fun f => (by simp only [fillR, fillL, List.setIfInBounds_toArray, List.set_cons_succ, List.set_cons_zero, Nat.reduceAdd]; rfl)) ?_ ?_ ?_ ?_ ?_
      · intro x hx; cases hx
      · intro x hx; cases hx
      · intro x hx; cases hx
      · refine ⟨?o0, ?o1, ?o2, ?o3, ?o4, ?o5, ?o6, ?o7, trivial⟩
        case o0 =>
          intro f w2 hG hp hl
          have hE : Ext wr w2 := hG
          have hS := hE.size
          simp only [OpGoal]
          go_simp
          exact ⟨_, rfl, Ext.refl _, rfl⟩
        case o1 =>
          intro f w2 hG hp hl
          have hE : Ext wr w2 := hG
          have hS := hE.size
          simp only [OpGoal]
          go_simp
          exact ⟨_, rfl, Ext.refl _, rfl⟩
        case o2 =>
          intro f w2 hG hp hl
          have hE : Ext wr w2 := hG
          have hS := hE.size
          simp only [OpGoal]
          go_simp
          exact ⟨_, rfl, Ext.refl _, rfl⟩
        case o3 =>
          intro f w2 hG hp hl
          have hE : Ext wr w2 := hG
          have hS := hE.size
          have q21 : f 1 = .slice (some ⟨g, off, none⟩) n cap := tellV hp 0 1 rfl rfl (fun h => by cases h)
          have q22 : f 2 = .int .i64 (j : Int) := tellV hp 1 2 rfl rfl (fun h => by cases h)
          simp only [OpGoal]
          go_simp
          exact ⟨_, rfl, Ext.refl _, rfl⟩
        case o4 =>
          intro f w2 hG hp hl
          have hE : Ext wr w2 := hG
          have hS := hE.size
          have q23 : f 3 = .pointer (some ⟨g, off + j * 5, none⟩) := tellV hp 0 3 rfl rfl (fun h => by cases h)
          change OpGoal _ _ _ f w2 Ext _
          exact og_loadAt (P := Tryz.prog) _ _ g (off + j * 5) _ _ rfl rfl q23 (fun i v h => HC.out _ (HE.out.trans hE) i v h) Tryz.underlying38 rfl (by kernel_rfl) rfl
        case o5 =>
          intro f w2 hG hp hl
          have hE : Ext wr w2 := hG
          have hS := hE.size
          change OpGoal _ _ _ f w2 Ext _
          exact og_load (P := Tryz.prog) _ _ (w.heap.size + 1) _ _ _ rfl rfl rfl (hbx.ext hE) Tryz.underlying38 rfl (by kernel_rfl) rfl
        case o6 =>
          intro f w2 hG hp hl
          have hE : Ext wr w2 := hG
          have hS := hE.size
          have q20 : f 0 = .func (.func 34) #[] #[] := tellV hp 0 0 rfl rfl (fun h => by cases h)
          have q24 : f 4 = .agg #[.int .i64 xi, .int .i64 xd, .bool b5, .slice a5 n5 c5, .slice a6 n6 c6] := tellV hp 1 4 rfl rfl (fun h => by cases h)
          have q25 : f 5 = .agg #[.int .i64 yi, .int .i64 yd, .bool bb, .slice z1 m1 d1, .slice z2 m2 d2] := tellV hp 2 5 rfl rfl (fun h => by cases h)
          change OpGoal _ _ _ f w2 Ext _
          refine og_callv (P := Tryz.prog) _ _ _ _ #[f 4, f 5] Tryz.func34 (by kernel_rfl) (by kernel_rfl) rfl rfl q20 (by kernel_rfl) ?_
          rw [q24, q25]
          refine (lclo_calls _ _ ⟨xi, xd, xq⟩ ⟨yi, yd, yq⟩ k _ ((HN.out.r (by omega)).ext hE) ((HF.out.r (by omega)).ext hE) hk).mono ?_
          rintro e w' ⟨rfl, h2⟩
          exact ⟨_, rfl, h2, rfl⟩
        case o7 =>
          intro f w2 hG hp hl
          have hE : Ext wr w2 := hG
          have hS := hE.size
          have q26 : f 6 = .int .i64 (cmpQ xq yq) := tellV hp 0 6 rfl rfl (fun h => by cases h)
          simp only [OpGoal]
          go_simp
          exact ⟨_, rfl, Ext.refl _, congrArg Value.bool (by rw [HT.out])⟩
      · intro f w2 hG hp
        have hE : Ext wr w2 := ChgS.nil hG
        have q27 : f 7 = .bool t := endV hp 7 (by decide) rfl (fun h => by cases h)
        try simp only [q27]
        clear hp
        have BB := hbx.ext hE
        have hfb0 := BB.free 0
        have hfb1 := BB.free 1
        have hfb2 := BB.free 2
        have hfb3 := BB.free 3
        have hfb4 := BB.free 4
        have hk0 := BB.cell 0
        have hk1 := BB.cell 1
        have hk2 := BB.cell 2
        have hk3 := BB.cell 3
        have hk4 := BB.cell 4
        have hd0 := HC.out _ (HE.out.trans hE) 0 _ rfl
        have hd1 := HC.out _ (HE.out.trans hE) 1 _ rfl
        have hd2 := HC.out _ (HE.out.trans hE) 2 _ rfl
        have hd3 := HC.out _ (HE.out.trans hE) 3 _ rfl
        have hd4 := HC.out _ (HE.out.trans hE) 4 _ rfl
        simp only [Nat.add_zero] at hd0
        obtain ⟨w3, hw3, c3, b3⟩ := put5 BB (.int .i64 xi) (.int .i64 xd) (.bool b5) (.slice a5 n5 c5) (.slice a6 n6 c6)
        have HB3 := Lib.hid b3
        have HC3 := Lib.hid c3
        have HE2 := Lib.hid hE
        have HBB := Lib.hid BB
        clear b3 c3 hE BB hb0 hb1 hb2 hb3 hb4 hbx
        cases t with
        | true =>
          go_wp2_with fail
          rw [← hw3]
          go_roundw
          case rel =>
            have hlt : xq < yq := cmpR_lt.1 (of_decide_eq_true HT.out.symm)
            refine ⟨j + 1, by simp, by omega, by omega, Lib.hid ⟨xi, xd, xq, _, _, _, _, _, _, _, List.mem_of_getElem? HX.out, fun z hz => ?_, HB3.out, (HN.out.ext HE2.out).chgX (HC3.out.chgS (bs := [w.heap.size + 1]) (by simp)) (fun g' hg' ds => by
              rw [List.mem_singleton.1 hg']
              exact bx_ne HBB.out (by decide)), (HCH.out.trans (HE2.out.chg _)).trans HC3.out⟩⟩
            rw [List.take_add_one, HX.out] at hz
            rcases List.mem_append.1 hz with hz | hz
            · exact Rat.le_trans (Rat.le_of_lt hlt) (HY.out.2 z hz)
            · have : z = ⟨xi, xd, xq⟩ := by simpa using hz
              rw [this]
              exact Rat.le_refl
          case measure => simp [intOf]; omega
        | false =>
          go_wp2_with fail
          go_roundw
          case rel =>
            have hlt : ¬ xq < yq := fun h => of_decide_eq_false HT.out.symm (cmpR_lt.2 h)
            refine ⟨j + 1, by simp, by omega, by omega, Lib.hid ⟨yi, yd, yq, _, _, _, _, _, _, _, HY.out.1, fun z hz => ?_, HBB.out, HF.out.ext HE2.out, HCH.out.trans (HE2.out.chg _)⟩⟩
            rw [List.take_add_one, HX.out] at hz
            rcases List.mem_append.1 hz with hz | hz
            · exact HY.out.2 z hz
            · have : z = ⟨xi, xd, xq⟩ := by simpa using hz
              rw [this]
              exact Rat.not_lt.1 hlt
          case measure => simp [intOf]; omega
set_option maxRecDepth 100000 in
set_option maxHeartbeats 2000000 in
theorem qleast0_calls (p : Nat) (o : Value) (ad : Option Addr) (cap : Nat) (w : World) (hp : Bx 58 w p #[o, .slice ad 0 cap]) :
    Calls Tryz.prog 17 #[.pointer (some ⟨p, 0, none⟩)] w fun e w' => e = .returned (.tuple #[.agg #[.bool false, .slice none 0 0, .slice none 0 0], .bool false]) ∧ Ext w w' := by
  obtain ⟨w1, hw1, e1, b1, s1⟩ := alloc1 w #[.bool false, .slice none 0 0, .slice none 0 0] 36
  have hlt := hp.lt
  have hc : (w.alloc (.cells #[.bool false, .slice none 0 0, .slice none 0 0] 36)).cell? ⟨p, 1, none⟩ = some (.slice ad 0 cap) := by
    rw [← hw1]
    exact (hp.ext e1).cell 1
  go_enter Tryz.func17, Tryz.ntmps17
  go_wp2
  rw [← hw1]
  refine ret_box2 2 3 36 w.heap.size 36 _ _ _ (by kernel_rfl) rfl rfl b1 Tryz.underlying36 rfl (by kernel_rfl) rfl ?_
  exact ⟨rfl, e1⟩
set_option maxRecDepth 100000 in
set_option maxHeartbeats 4000000 in
theorem qleast_calls (B k p : Nat) (o v : Value) (L : List Nd) (w : World) (hp : Bx 58 w p #[o, v]) (h : DL B k w v L) (hne : 0 < L.length) (hk : k ≤ 1000) :
    Calls Tryz.prog 17 #[.pointer (some ⟨p, 0, none⟩)] w fun e w' => ∃ va q, e = .returned (.tuple #[va, .bool true]) ∧ FrQ w.heap.size w' va q ∧ IsLeast q L ∧ szQ q ≤ k ∧ Ext w w' := by
  have lim0 : (1000 : Nat) ≤ LIM := by rw [LIM_eq]; omega
  obtain ⟨ad, cap, rfl⟩ := h.val
  obtain ⟨w1, hw1, e1, b1, s1⟩ := alloc1 w #[.bool false, .slice none 0 0, .slice none 0 0] 36
  have hlt := hp.lt
  have hc : (w.alloc (.cells #[.bool false, .slice none 0 0, .slice none 0 0] 36)).cell? ⟨p, 1, none⟩ = some (.slice ad L.length cap) := by
    rw [← hw1]
    exact (hp.ext e1).cell 1
  have hn0 : ¬ ((L.length : Int) = 0) := by omega
  have hn1 : ¬ (L.length = 0) := by omega
  have HD := Lib.hid h
  go_enter Tryz.func17, Tryz.ntmps17
  go_wp2_with fail
  rw [← hw1]
  refine (minf_calls B k _ L w1 (HD.out.ext e1) hne hk).mono ?_
  rintro e w2 ⟨va, x, rfl, hx, hmin, hN, e2⟩
  obtain ⟨b, a1, n1, c1, a2, n2, c2, rfl, hQ, hz⟩ := hN
  obtain ⟨xi, xd, xq⟩ := x
  simp only at hQ hz hmin
  obtain ⟨w3, hw3, e3, b3, s3⟩ := alloc1 w2 #[.int .i64 xi, .int .i64 xd, .bool b, .slice a1 n1 c1, .slice a2 n2 c2] 38
  have HQ := Lib.hid (hQ.ext e3)
  have HM := Lib.hid (And.intro hx (And.intro hmin hz))
  have B1 := b1.ext (e2.trans e3)
  have hc2 := b3.cell 2
  have hc3 := b3.cell 3
  have hc4 := b3.cell 4
  rw [hw3] at hc2 hc3 hc4
  have E3 := Lib.hid ((e1.trans e2).trans e3)
  clear hQ hx hmin hc hw1 b1 e1 b3
  go_wp2_with fail
  rw [← hw3]
  clear hw3 hc2 hc3 hc4 e3 s3 e2
  refine (form_calls _ xq k w3 (HQ.out.isR HM.out.2.2 (by omega)) (by omega)).mono ?_
  rintro e w4 ⟨v4, rfl, q4, e4⟩
  obtain ⟨b4, ad4, l4, cap4, bd4, m4, dap4, rfl, q5⟩ := q4.opn
  have B4 := B1.ext e4
  have hc0 := B4.cell 0
  have hf0 := B4.free 0
  have hc1 := B4.cell 1
  have hf1 := B4.free 1
  have hc2 := B4.cell 2
  have hf2 := B4.free 2
  obtain ⟨w5, hw5, c5, b5⟩ := put3r B4 (.bool b4) (.slice ad4 l4 cap4) (.slice bd4 m4 dap4)
  have s34 := E3.out.size
  have HQ5 := Lib.hid (q5.chgY c5 B4 (by decide))
  have HE5 := Lib.hid ((E3.out.trans e4).step c5 (Nat.le_refl _))
  clear q4 q5 e4 B4 B1 c5
  go_wp2_with fail
  rw [← hw5]
  refine ret_box2 2 3 36 w.heap.size 36 _ _ _ (by kernel_rfl) rfl rfl b5 Tryz.underlying36 rfl (by kernel_rfl) rfl ?_
  exact ⟨_, xq, rfl, HQ5.out.mono (by omega), ⟨⟨_, HM.out.1, rfl⟩, HM.out.2.1⟩, HM.out.2.2, HE5.out⟩
end Go.Proofs.YthoibjnkhkjnjaaGreat
