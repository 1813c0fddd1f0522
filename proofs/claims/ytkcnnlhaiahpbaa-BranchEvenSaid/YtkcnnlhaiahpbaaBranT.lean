/-
  Fractions that are looked at: how much they weigh; a Brancher made.
-/
import Derived.Test.YtkcnnlhaiahpbaaComT
import Derived.Carry
import Derived.WideKeyRuns
import Derived.MapKept
namespace Go.Proofs.Ytkcnnlhaiahpbaa
open Go.RowKit
set_option linter.unusedVariables false
set_option linter.unusedSimpArgs false

def isLight : List Nat → Bool
  | [] => true
  | [x] => decide (x < 65536)
  | _ => false
set_option maxRecDepth 100000 in
set_option maxHeartbeats 1000000 in
theorem light_calls (s : Value) (xs : List Nat) (w : World) (h : IsL .u64 w s xs) (dx : Dig W xs) :
    Calls Try.prog 130 #[s] w fun e w' => e = .returned (.bool (isLight xs)) ∧ Ext w w' := by
  obtain ⟨ad, cap, rfl, hlc, hcap, hr⟩ := h
  go_enter Try.func130, Try.ntmps130
  obtain ⟨n, hn⟩ : ∃ n, n = xs.length := ⟨_, rfl⟩
  obtain ⟨r, hrr⟩ : ∃ r, r = isLight xs := ⟨_, rfl⟩
  have Hr := Lib.hid hrr
  rw [← hn] at hlc ⊢
  rw [← hrr]
  clear hrr
  rcases (show n = 0 ∨ n = 1 ∨ 2 ≤ n by omega) with h0 | h0 | h0
  · subst h0
    have hfin := Lib.hid (show r = true by rw [Hr.out, List.eq_nil_of_length_eq_zero hn.symm]; rfl)
    clear hn hr dx hlc hcap
    go_wp2
    go_ret
    exact ⟨by rw [hfin.out]; first | rfl | (simp; omega), Ext.refl w⟩
  · subst h0
    obtain ⟨x, rfl⟩ : ∃ x, xs = [x] := by
      match xs, hn with
      | [x], _ => exact ⟨x, rfl⟩
    obtain ⟨b, off, rfl, hc⟩ := hr.at (by simp [vals])
    have hc0 : w.cell? ⟨b, off, none⟩ = some (.int .u64 (x : Int)) := hc 0 _ rfl
    clear hc hn hr dx hlc hcap
    by_cases hx : x < 65536
    · have hx' : (x : Int) < 65536 := by omega
      have hfin := Lib.hid (show r = true by rw [Hr.out]; simp [isLight, hx])
      go_wp2
      go_ret
      exact ⟨by rw [hfin.out]; first | rfl | (simp; omega), Ext.refl w⟩
    · have hx' : ¬ (x : Int) < 65536 := by omega
      have hfin := Lib.hid (show r = false by rw [Hr.out]; simp [isLight, hx])
      go_wp2
      go_ret
      exact ⟨by rw [hfin.out]; first | rfl | (simp; omega), Ext.refl w⟩
  · have h1 : ¬ (n : Int) = 0 := by omega
    have h2 : ¬ (n : Int) = 1 := by omega
    have hfin := Lib.hid (show r = false by
      rw [Hr.out]
      match xs, hn with
      | _ :: _ :: _, _ => rfl
      | [], h => simp at h; omega
      | [_], h => simp at h; omega)
    clear hn hr dx hlc hcap
    go_wp2
    go_ret
    exact ⟨by rw [hfin.out]; first | rfl | (simp; omega), Ext.refl w⟩

set_option maxRecDepth 100000 in
set_option maxHeartbeats 1000000 in
theorem weight_calls (u : Value) (l : List (Bool × List Nat × List Nat)) (w : World) (hu : SLQ w u l) (hl : l.length ≤ 30) (hs : ∀ e ∈ l, e.2.1.length + e.2.2.length ≤ 6) :
    Calls Try.prog 103 #[u] w fun e w' => ∃ n : Int, e = .returned (.int .i64 n) ∧ Ext w w' ∧ -9223372036854775808 ≤ n ∧ n ≤ 9223372036854775807 := by
  obtain ⟨ad, m, cap, hm, rfl, hm1, hat⟩ := hu.at
  have Hm := Lib.hid hm
  have hm2 : m ≤ 30 := by omega
  clear hm hl hu
  go_enter Try.func103, Try.ntmps103
  go_wp2_with fail
  go_loopw [3, 4] (fun s i wr => ∃ k n : Nat, k ≤ m ∧ i = .int .i64 (k : Int) ∧ s = .int .i64 (n : Int) ∧ n ≤ 6 * k ∧ Ext w wr) (fun _ i _ => ((m : Int) - intOf i).toNat)
  case atStart => exact ⟨0, 0, Nat.zero_le _, rfl, rfl, Nat.le_refl _, Ext.refl w⟩
  case round =>
    obtain ⟨k, n, hk, rfl, rfl, hn, hE0⟩ := hrel
    rcases Nat.eq_or_lt_of_le hk with hkl | hkl
    · subst hkl
      go_wp2
      go_ret
      exact ⟨_, rfl, hE0, by omega, by omega⟩
    · obtain ⟨e, he⟩ : ∃ e, l[k]? = some e := ⟨_, List.getElem?_eq_getElem (by rw [← Hm.out]; exact hkl)⟩
      have hes := hs e (List.mem_of_getElem? he)
      obtain ⟨g, off, rfl, b, a1, n1, c1, a2, n2, c2, e1, e2, hcell⟩ := hat k e he
      have f0 := hcell wr hE0
      have hc0 := f0.1
      have hc1 := f0.2.1
      have hc2 := f0.2.2.1
      have R0 := Lib.hid f0.2.2.2
      have hcell' := Lib.hid hcell
      have E1 := Lib.hid e1
      have E2 := Lib.hid e2
      clear f0 hcell e1 e2 hat he
      have Q1 := Lib.hid R0.out.2.1
      obtain ⟨s1, s2, hss, L1, L2⟩ := R0.out.1
      cases hss
      have LL1 := Lib.hid L1
      have LL2 := Lib.hid L2
      clear L1 L2
      go_wp2_with fail
      refine (light_calls _ _ _ LL1.out Q1.out).mono ?_
      obtain ⟨b1, hb1⟩ : ∃ b1, b1 = isLight e.2.1 := ⟨_, rfl⟩
      rw [← hb1]
      rintro e' w2 ⟨rfl, e2⟩
      clear hb1
      clear hc0 hc1 hc2
      have f1 := hcell'.out w2 (hE0.trans e2)
      have hc0 := f1.1
      have hc1 := f1.2.1
      have hc2 := f1.2.2.1
      clear f1
      have fin : ∀ w4, Ext w w4 → wr.heap.size ≤ w4.heap.size → True := fun _ _ _ => trivial
      cases b1
      · go_wp2_with fail
        refine (rqwords3_calls _ e.1 _ _ _ (R0.out.1.ext e2) (by have := R0.out.2.2.2; omega)).mono ?_
        rintro e' w3 ⟨rfl, e3⟩
        clear hc0 hc1 hc2
        rw [← E1.out, ← E2.out]
        have hle : n + (n1 + n2) ≤ 6 * (k + 1) := by have := E1.out; have := E2.out; omega
        have hb : (n : Int) + ((n1 + n2 : Nat) : Int) ≤ 9223372036854775807 := by omega
        go_wp2
        go_roundw
        case rel => exact ⟨k + 1, n + (n1 + n2), by omega, by simp, by simp, hle, (hE0.trans e2).trans e3⟩
        case measure => simp [intOf]; omega
      · go_wp2_with fail
        refine (light_calls _ _ _ (LL2.out.ext e2) R0.out.2.2.1).mono ?_
        obtain ⟨b2, hb2⟩ : ∃ b2, b2 = isLight e.2.2 := ⟨_, rfl⟩
        rw [← hb2]
        rintro e' w3 ⟨rfl, e3⟩
        clear hb2
        clear hc0 hc1 hc2
        have f1 := hcell'.out w3 ((hE0.trans e2).trans e3)
        have hc0 := f1.1
        have hc1 := f1.2.1
        have hc2 := f1.2.2.1
        clear f1
        cases b2
        · go_wp2_with fail
          refine (rqwords3_calls _ e.1 _ _ _ (R0.out.1.ext (e2.trans e3)) (by have := R0.out.2.2.2; omega)).mono ?_
          rintro e' w4 ⟨rfl, e4⟩
          clear hc0 hc1 hc2
          rw [← E1.out, ← E2.out]
          have hle : n + (n1 + n2) ≤ 6 * (k + 1) := by have := E1.out; have := E2.out; omega
          have hb : (n : Int) + ((n1 + n2 : Nat) : Int) ≤ 9223372036854775807 := by omega
          go_wp2
          go_roundw
          case rel => exact ⟨k + 1, n + (n1 + n2), by omega, by simp, by simp, hle, ((hE0.trans e2).trans e3).trans e4⟩
          case measure => simp [intOf]; omega
        · go_wp2
          go_roundw
          case rel => exact ⟨k + 1, n, by omega, by simp, rfl, by omega, (hE0.trans e2).trans e3⟩
          case measure => simp [intOf]; omega
end Go.Proofs.Ytkcnnlhaiahpbaa

/-
  What a Brancher has learned: the mean of nothing, and of one fact.
-/
namespace Go.Proofs.Ytkcnnlhaiahpbaa
open Go.RowKit
set_option linter.unusedVariables false
set_option linter.unusedSimpArgs false

set_option maxRecDepth 100000 in
set_option maxHeartbeats 1000000 in
theorem og_lookup {P : Program} {o : Oper} {a : Act} {f : Nat → Value} {w : World} {post : Value → World → Prop} (t : TypeId) (x y : Operand) (mv kv v : Value) (hgd : o.guard = none) (ho : o.op = .lookup t x y false) (hx : a.eval x = mv) (hy : a.eval y = kv) (hr : (Instr.lookup t mv kv false).run P w = .ok v w) (hp : post v w) : OpGoal P o a f w Ext post := by
  unfold OpGoal
  rw [hgd]
  unfold Oper.wp execOp
  simp only [ho, hx, hy, Sem.run_bind, Sem.run_pure, Result.andThen_ok, hr]
  exact ⟨_, rfl, Ext.refl w, hp⟩
set_option maxRecDepth 100000 in
set_option maxHeartbeats 1000000 in
theorem chk_side (b : Bool) (c : Int) (u : Bool) (w : World) : (Instr.checkKey b 10000 151 (.agg #[.int .i64 c, .bool u])).run Try.prog w = .ok () w := by
  kernel_rfl
set_option maxRecDepth 100000 in
set_option maxHeartbeats 1000000 in
theorem look_empty (m : Nat) (c : Int) (u : Bool) (w : World) (hm : w.heap[m]? = some (.map #[] 0)) :
    (Instr.lookup 129 (.map (some m)) (.agg #[.int .i64 c, .bool u]) false).run Try.prog w = .ok (.agg #[.bool false, .slice none 0 0, .slice none 0 0, .int .i64 0]) w := by
  have hz : (zeroValue 153).run Try.prog w = .ok (.agg #[.bool false, .slice none 0 0, .slice none 0 0, .int .i64 0]) w := by kernel_rfl
  have hk : (Instr.findKey 151 (.agg #[.int .i64 c, .bool u]) []).run Try.prog w = .ok none w := by kernel_rfl
  have hg : (getObj m).run Try.prog w = .ok (.map #[] 0) w := by simp [getObj, Sem.run, hm]
  unfold Instr.lookup
  simp [Sem.run_bind, run_underlying Try.underlying129, hg, chk_side, hk, hz]

set_option maxRecDepth 100000 in
set_option maxHeartbeats 1000000 in
theorem mean_zero (p m : Nat) (sc : Value) (c : Int) (u : Bool) (w : World) (hb : Bx 132 w p #[sc, .map (some m)])
    (hm : ∀ wz, Ext w wz → (Instr.lookup 129 (.map (some m)) (.agg #[.int .i64 c, .bool u]) false).run Try.prog wz = .ok (.agg #[.bool false, .slice none 0 0, .slice none 0 0, .int .i64 0]) wz) :
    Calls Try.prog 131 #[.pointer (some ⟨p, 0, none⟩), .agg #[.int .i64 c, .bool u]] w fun e w' => ∃ v', e = .returned v' ∧ FrQ w.heap.size w' v' ((1 : Int) : Rat) ∧ Ext w w' := by
  have Hm := Lib.hid hm
  clear hm
  go_enter Try.func131, Try.ntmps131
  obtain ⟨w1, hw1, e1, b1, b2, s1⟩ := alloc2 w #[.int .i64 c, .bool u] #[.bool false, .slice none 0 0, .slice none 0 0] 151 28
  go_wp2_with fail
  rw [← hw1]
  have B := hb.ext e1
  refine wp_region_alt [⟨6, 153, 4, #[.bool false, .slice none 0 0, .slice none 0 0, .int .i64 0]⟩] [⟨7, ⟨6, 153, 4, #[.bool false, .slice none 0 0, .slice none 0 0, .int .i64 0]⟩, PT.val (.agg #[.bool false, .slice none 0 0, .slice none 0 0, .int .i64 0])⟩] [PT.val (.pointer (some ⟨p, 0, none⟩)), PT.val (.pointer (some ⟨p, 0, none⟩)), PT.val (.pointer (some ⟨p, 1, none⟩)), PT.val (.map (some m)), PT.val (.agg #[.int .i64 c, .bool u]), PT.val (.agg #[.bool false, .slice none 0 0, .slice none 0 0, .int .i64 0]), PT.any, PT.any]
    (by kernel_rfl) (by kernel_rfl) (fun f => (by simp only [fillR, fillL, List.setIfInBounds_toArray, List.set_cons_succ, List.set_cons_zero, Nat.reduceAdd]; rfl)) ?_ ?_ ?_ ?_ ?_
  · intro x hx; simp only [List.mem_cons, List.not_mem_nil, or_false] at hx; rcases hx with rfl
    · exact ⟨rfl, rfl, by decide, by decide, rfl, rfl⟩
  · intro x hx; simp only [List.mem_cons, List.not_mem_nil, or_false] at hx; rcases hx with rfl <;> exact ⟨rfl, rfl, by simp⟩
  · intro x hx y hy h; simp only [List.mem_cons, List.not_mem_nil, or_false] at hx hy; rcases hx with rfl <;> rcases hy with rfl
    · exact absurd rfl h
  · refine ⟨?o0, ?o1, ?o2, ?o3, ?o4, ?o5, ?o6, ?o7, trivial⟩
    case o0 =>
      intro f w2 hE hp
      have hS := hE.size
      change OpGoal _ _ _ f w2 Ext _
      simp only [OpGoal]
      go_simp
      exact ⟨_, rfl, Ext.refl _, rfl⟩
    case o1 =>
      intro f w2 hE hp
      have hS := hE.size
      have q8 : f 0 = .pointer (some ⟨p, 0, none⟩) := tellT hp 0 0 rfl rfl rfl
      change OpGoal _ _ _ f w2 Ext _
      simp only [OpGoal]
      go_simp
      exact ⟨_, rfl, Ext.refl _, rfl⟩
    case o2 =>
      intro f w2 hE hp
      have hS := hE.size
      have q9 : f 1 = .pointer (some ⟨p, 0, none⟩) := tellT hp 0 1 rfl rfl rfl
      change OpGoal _ _ _ f w2 Ext _
      simp only [OpGoal]
      go_simp
      exact ⟨_, rfl, Ext.refl _, rfl⟩
    case o3 =>
      intro f w2 hE hp
      have hS := hE.size
      have q10 : f 2 = .pointer (some ⟨p, 1, none⟩) := tellT hp 0 2 rfl rfl rfl
      have hcell := (B.ext hE).cell 1
      change OpGoal _ _ _ f w2 Ext _
      simp only [OpGoal]
      go_simp
      exact ⟨_, rfl, Ext.refl _, rfl⟩
    case o4 =>
      intro f w2 hE hp
      have hS := hE.size
      change OpGoal _ _ _ f w2 Ext _
      exact og_load (P := Try.prog) _ _ w.heap.size _ _ _ rfl rfl rfl (b1.ext hE) Try.underlying151 rfl (by kernel_rfl) rfl
    case o5 =>
      intro f w2 hE hp
      have hS := hE.size
      have q11 : f 3 = .map (some m) := tellT hp 0 3 rfl rfl rfl
      have q12 : f 4 = .agg #[.int .i64 c, .bool u] := tellT hp 1 4 rfl rfl rfl
      change OpGoal _ _ _ f w2 Ext _
      exact og_lookup (P := Try.prog) _ _ _ (.map (some m)) (.agg #[.int .i64 c, .bool u]) _ rfl rfl q11 q12 (Hm.out _ (e1.trans hE)) rfl
    case o6 =>
      intro f w2 hE hp
      have hS := hE.size
      change OpGoal _ _ _ f w2 (fun a b => b = a.alloc _) _
      exact og_alloc (P := Try.prog) _ _ (.agg #[.bool false, .slice none 0 0, .slice none 0 0, .int .i64 0]) rfl rfl (by kernel_rfl) rfl
    case o7 =>
      intro f w2 hE hp
      have hS := hE.size
      have q13 : f 5 = .agg #[.bool false, .slice none 0 0, .slice none 0 0, .int .i64 0] := tellT hp 1 5 rfl rfl rfl
      intro g old hfa hSg hbx hsz hno
      change OpGoal _ _ _ f w2 (Chg g) _
      exact og_storeT (P := Try.prog) (PT.val (.agg #[.bool false, .slice none 0 0, .slice none 0 0, .int .i64 0])) 4 _ _ _ g _ old _ rfl rfl hfa q13 hbx (by kernel_rfl) hsz rfl (all4 rfl rfl rfl rfl) hSg (show 153 ≠ 105 by decide) (show 153 ≠ 3 by decide) hno (rfl) rfl
  · intro f w2 hE hp hal
    obtain ⟨ga5, ca5, fa5, la5, ba5, na5, pa5⟩ := hal ⟨6, 153, 4, #[.bool false, .slice none 0 0, .slice none 0 0, .int .i64 0]⟩ (by simp) (by decide)
    dsimp only at fa5 la5 ba5 na5
    have za5 := pa5 ⟨7, ⟨6, 153, 4, #[.bool false, .slice none 0 0, .slice none 0 0, .int .i64 0]⟩, PT.val (.agg #[.bool false, .slice none 0 0, .slice none 0 0, .int .i64 0])⟩ (by simp) (by show 7 < 8; decide) rfl rfl
    clear pa5
    clear hp hal
    cases za5
    have hc3 := ba5.cell 3
    have B2 := b2.ext hE
    go_wp2_with fail
    refine (rwhole_calls 1 _ (by omega) (by omega)).mono ?_
    rintro e w3 ⟨v3, rfl, q3, e3⟩
    obtain ⟨b, ad, l, cap, bd, m2, dap, rfl, q3⟩ := q3.opn
    have hsz := e1.size
    have hsz2 := hE.size
    clear hc3
    have hb := B2.ext e3
    have hc0 := hb.cell 0
    have hc1 := hb.cell 1
    have hc2 := hb.cell 2
    have hf0 := hb.free 0
    have hf1 := hb.free 1
    have hf2 := hb.free 2
    obtain ⟨s', t', hvv, hn, hm⟩ := q3
    cases hvv
    have Hn := Lib.hid hn
    have Hm3 := Lib.hid hm
    clear hn hm
    go_wp2
    refine ret_box 4 28 (w.heap.size + 1) 28 _ _ (by kernel_rfl) rfl (((hb.set 0 _).set 1 _).set 2 _) Try.underlying28 rfl (by kernel_rfl) rfl ?_
    exact ⟨_, rfl, ⟨_, _, rfl, (Hn.out.chg (Chg.trans (Chg.trans (Chg.setCell _ (w.heap.size + 1) 0 _) (Chg.setCell _ (w.heap.size + 1) 1 _)) (Chg.setCell _ (w.heap.size + 1) 2 _)) (by omega)).mono (by omega), (Hm3.out.chg (Chg.trans (Chg.trans (Chg.setCell _ (w.heap.size + 1) 0 _) (Chg.setCell _ (w.heap.size + 1) 1 _)) (Chg.setCell _ (w.heap.size + 1) 2 _)) (by omega)).mono (by omega)⟩, ((e1.trans hE).trans e3).step (Chg.trans (Chg.trans (Chg.setCell _ (w.heap.size + 1) 0 _) (Chg.setCell _ (w.heap.size + 1) 1 _)) (Chg.setCell _ (w.heap.size + 1) 2 _)) (by omega)⟩
set_option maxRecDepth 100000 in
set_option maxHeartbeats 1000000 in
theorem mean_empty (p m : Nat) (sc : Value) (c : Int) (u : Bool) (w : World) (hb : Bx 132 w p #[sc, .map (some m)]) (hm : w.heap[m]? = some (.map #[] 0)) :
    Calls Try.prog 131 #[.pointer (some ⟨p, 0, none⟩), .agg #[.int .i64 c, .bool u]] w fun e w' => ∃ v', e = .returned v' ∧ FrQ w.heap.size w' v' ((1 : Int) : Rat) ∧ Ext w w' :=
  mean_zero p m sc c u w hb fun wz hz => look_empty m c u wz (hz.blk hm)
end Go.Proofs.Ytkcnnlhaiahpbaa

/-
  A Brancher learns a fact: what it then has, and what it tells of it.
-/
namespace Go.Proofs.Ytkcnnlhaiahpbaa
open Go.RowKit
set_option linter.unusedVariables false
set_option linter.unusedSimpArgs false

/-- The one fact: branched up on variable 0. -/
def oneFact (b : Bool) (s t : Value) : Array MapEntry := #[{ key := .agg #[.int .i64 0, .bool true], val := .agg #[.bool b, s, t, .int .i64 1], born := 0 }]
set_option maxRecDepth 100000 in
set_option maxHeartbeats 1000000 in
theorem look_hit (m : Nat) (b : Bool) (s t : Value) (w : World) (hm : w.heap[m]? = some (.map (oneFact b s t) 1)) :
    (Instr.lookup 129 (.map (some m)) (.agg #[.int .i64 0, .bool true]) false).run Try.prog w = .ok (.agg #[.bool b, s, t, .int .i64 1]) w := by
  have hk : (Instr.findKey 151 (.agg #[.int .i64 0, .bool true]) (oneFact b s t).toList).run Try.prog w = .ok (some (0, .agg #[.bool b, s, t, .int .i64 1])) w := by kernel_rfl
  have hg : (getObj m).run Try.prog w = .ok (.map (oneFact b s t) 1) w := MapKept.run_getObj_map hm
  unfold Instr.lookup
  simp [Sem.run_bind, run_underlying Try.underlying129, hg, chk_side, hk]
set_option maxRecDepth 100000 in
set_option maxHeartbeats 1000000 in
theorem look_miss (m : Nat) (b : Bool) (s t : Value) (w : World) (hm : w.heap[m]? = some (.map (oneFact b s t) 1)) :
    (Instr.lookup 129 (.map (some m)) (.agg #[.int .i64 0, .bool false]) false).run Try.prog w = .ok (.agg #[.bool false, .slice none 0 0, .slice none 0 0, .int .i64 0]) w := by
  have hz : (zeroValue 153).run Try.prog w = .ok (.agg #[.bool false, .slice none 0 0, .slice none 0 0, .int .i64 0]) w := by kernel_rfl
  have hk : (Instr.findKey 151 (.agg #[.int .i64 0, .bool false]) (oneFact b s t).toList).run Try.prog w = .ok none w := by kernel_rfl
  have hg : (getObj m).run Try.prog w = .ok (.map (oneFact b s t) 1) w := MapKept.run_getObj_map hm
  unfold Instr.lookup
  simp [Sem.run_bind, run_underlying Try.underlying129, hg, chk_side, hk, hz]
set_option maxRecDepth 100000 in
set_option maxHeartbeats 1000000 in
theorem upd_first (m : Nat) (b : Bool) (s t : Value) (w : World) (hm : w.heap[m]? = some (.map #[] 0)) :
    (Instr.mapUpdate 129 (.map (some m)) (.agg #[.int .i64 0, .bool true]) (.agg #[.bool b, s, t, .int .i64 1])).run Try.prog w = .ok () { w with heap := w.heap.setIfInBounds m (.map (oneFact b s t) 1) } := by
  have hk : (Instr.findKey 151 (.agg #[.int .i64 0, .bool true]) []).run Try.prog w = .ok none w := by kernel_rfl
  simp [Instr.mapUpdate, run_underlying Try.underlying129, MapKept.run_getObj_map hm, chk_side, hk, MapKept.run_setObj_map _ hm, Result.andThen, oneFact]
set_option maxRecDepth 100000 in
set_option maxHeartbeats 1000000 in
theorem chg_map (m : Nat) (o : Obj) (w : World) : Chg m w { w with heap := w.heap.setIfInBounds m o } :=
  ⟨rfl, rfl, rfl, by simp, fun k hk hne => by
    have : m ≠ k := fun h => hne (by rw [h])
    simp [Array.getElem?_setIfInBounds, this]⟩
set_option maxRecDepth 100000 in
set_option maxHeartbeats 1000000 in
theorem og_mapUpdate {P : Program} {o : Oper} {a : Act} {f : Nat → Value} {w w' : World} {R : World → World → Prop} {post : Value → World → Prop} (t : TypeId) (x y z : Operand) (mv kv v : Value) (hgd : o.guard = none) (ho : o.op = .mapUpdate t x y z) (hx : a.eval x = mv) (hy : a.eval y = kv) (hz : a.eval z = v) (hr : (Instr.mapUpdate t mv kv v).run P w = .ok () w') (hR : R w w') (hp : post undef w') : OpGoal P o a f w R post := by
  unfold OpGoal
  rw [hgd]
  unfold Oper.wp execOp
  simp only [ho, hx, hy, hz, Sem.run_bind, Sem.run_pure, Result.andThen_ok, hr]
  exact ⟨_, rfl, hR, hp⟩

set_option maxRecDepth 100000 in
set_option maxHeartbeats 1000000 in
theorem mean_miss (p m : Nat) (sc : Value) (b : Bool) (s t : Value) (w : World) (hb : Bx 132 w p #[sc, .map (some m)]) (hm : w.heap[m]? = some (.map (oneFact b s t) 1)) :
    Calls Try.prog 131 #[.pointer (some ⟨p, 0, none⟩), .agg #[.int .i64 0, .bool false]] w fun e w' => ∃ v', e = .returned v' ∧ FrQ w.heap.size w' v' ((1 : Int) : Rat) ∧ Ext w w' :=
  mean_zero p m sc 0 false w hb fun wz hz => look_miss m b s t wz (hz.blk hm)
set_option maxRecDepth 100000 in
set_option maxHeartbeats 1000000 in
/-- What is known of the mean in one place: it is one fact's. -/
theorem mean_hit (p m : Nat) (sc : Value) (b0 : Bool) (s0 t0 : Value) (q : Rat) (k : Nat) (w : World) (hb : Bx 132 w p #[sc, .map (some m)]) (hm : w.heap[m]? = some (.map (oneFact b0 s0 t0) 1))
    (hs : ∃ ad l cap, s0 = .slice ad l cap) (ht : ∃ ad l cap, t0 = .slice ad l cap) (hq : IsR w (.agg #[.bool b0, s0, t0]) q k) (hk : k ≤ 1000) :
    Calls Try.prog 131 #[.pointer (some ⟨p, 0, none⟩), .agg #[.int .i64 0, .bool true]] w fun e w' => ∃ v', e = .returned v' ∧ FrQ w.heap.size w' v' (q / ((1 : Int) : Rat)) ∧ Ext w w' := by
  have Hm := Lib.hid hm
  have Hq := Lib.hid hq
  obtain ⟨ad0, l0, cap0, rfl⟩ := hs
  obtain ⟨ad1, l1, cap1, rfl⟩ := ht
  clear hm hq
  have lim : (1024 : Nat) ≤ LIM := by rw [LIM_eq]; omega
  have h10 : ((1 : Int) : Rat) ≠ 0 := by decide
  have h1z : szQ ((1 : Int) : Rat) ≤ 1 := by decide
  go_enter Try.func131, Try.ntmps131
  obtain ⟨w1, hw1, e1, b1, b2, s1⟩ := alloc2 w #[.int .i64 0, .bool true] #[.bool false, .slice none 0 0, .slice none 0 0] 151 28
  go_wp2_with fail
  rw [← hw1]
  have B := hb.ext e1
  refine wp_region_alt [⟨6, 153, 4, #[.bool false, .slice none 0 0, .slice none 0 0, .int .i64 0]⟩] [⟨7, ⟨6, 153, 4, #[.bool false, .slice none 0 0, .slice none 0 0, .int .i64 0]⟩, PT.val (.agg #[.bool b0, .slice ad0 l0 cap0, .slice ad1 l1 cap1, .int .i64 1])⟩] [PT.val (.pointer (some ⟨p, 0, none⟩)), PT.val (.pointer (some ⟨p, 0, none⟩)), PT.val (.pointer (some ⟨p, 1, none⟩)), PT.val (.map (some m)), PT.val (.agg #[.int .i64 0, .bool true]), PT.val (.agg #[.bool b0, .slice ad0 l0 cap0, .slice ad1 l1 cap1, .int .i64 1]), PT.any, PT.any]
    (by kernel_rfl) (by kernel_rfl) (fun f => (by simp only [fillR, fillL, List.setIfInBounds_toArray, List.set_cons_succ, List.set_cons_zero, Nat.reduceAdd]; rfl)) ?_ ?_ ?_ ?_ ?_
  · intro x hx; simp only [List.mem_cons, List.not_mem_nil, or_false] at hx; rcases hx with rfl
    · exact ⟨rfl, rfl, by decide, by decide, rfl, rfl⟩
  · intro x hx; simp only [List.mem_cons, List.not_mem_nil, or_false] at hx; rcases hx with rfl <;> exact ⟨rfl, rfl, by simp⟩
  · intro x hx y hy h; simp only [List.mem_cons, List.not_mem_nil, or_false] at hx hy; rcases hx with rfl <;> rcases hy with rfl
    · exact absurd rfl h
  · refine ⟨?o0, ?o1, ?o2, ?o3, ?o4, ?o5, ?o6, ?o7, trivial⟩
    case o0 =>
      intro f w2 hE hp
      have hS := hE.size
      change OpGoal _ _ _ f w2 Ext _
      simp only [OpGoal]
      go_simp
      exact ⟨_, rfl, Ext.refl _, rfl⟩
    case o1 =>
      intro f w2 hE hp
      have hS := hE.size
      have q8 : f 0 = .pointer (some ⟨p, 0, none⟩) := tellT hp 0 0 rfl rfl rfl
      change OpGoal _ _ _ f w2 Ext _
      simp only [OpGoal]
      go_simp
      exact ⟨_, rfl, Ext.refl _, rfl⟩
    case o2 =>
      intro f w2 hE hp
      have hS := hE.size
      have q9 : f 1 = .pointer (some ⟨p, 0, none⟩) := tellT hp 0 1 rfl rfl rfl
      change OpGoal _ _ _ f w2 Ext _
      simp only [OpGoal]
      go_simp
      exact ⟨_, rfl, Ext.refl _, rfl⟩
    case o3 =>
      intro f w2 hE hp
      have hS := hE.size
      have q10 : f 2 = .pointer (some ⟨p, 1, none⟩) := tellT hp 0 2 rfl rfl rfl
      have hcell := (B.ext hE).cell 1
      change OpGoal _ _ _ f w2 Ext _
      simp only [OpGoal]
      go_simp
      exact ⟨_, rfl, Ext.refl _, rfl⟩
    case o4 =>
      intro f w2 hE hp
      have hS := hE.size
      change OpGoal _ _ _ f w2 Ext _
      exact og_load (P := Try.prog) _ _ w.heap.size _ _ _ rfl rfl rfl (b1.ext hE) Try.underlying151 rfl (by kernel_rfl) rfl
    case o5 =>
      intro f w2 hE hp
      have hS := hE.size
      have q11 : f 3 = .map (some m) := tellT hp 0 3 rfl rfl rfl
      have q12 : f 4 = .agg #[.int .i64 0, .bool true] := tellT hp 1 4 rfl rfl rfl
      change OpGoal _ _ _ f w2 Ext _
      exact og_lookup (P := Try.prog) _ _ _ (.map (some m)) (.agg #[.int .i64 0, .bool true]) _ rfl rfl q11 q12 (look_hit m b0 _ _ _ ((e1.trans hE).blk Hm.out)) rfl
    case o6 =>
      intro f w2 hE hp
      have hS := hE.size
      change OpGoal _ _ _ f w2 (fun a b => b = a.alloc _) _
      exact og_alloc (P := Try.prog) _ _ (.agg #[.bool false, .slice none 0 0, .slice none 0 0, .int .i64 0]) rfl rfl (by kernel_rfl) rfl
    case o7 =>
      intro f w2 hE hp
      have hS := hE.size
      have q13 : f 5 = .agg #[.bool b0, .slice ad0 l0 cap0, .slice ad1 l1 cap1, .int .i64 1] := tellT hp 1 5 rfl rfl rfl
      intro g old hfa hSg hbx hsz hno
      change OpGoal _ _ _ f w2 (Chg g) _
      exact og_storeT (P := Try.prog) (PT.val (.agg #[.bool b0, .slice ad0 l0 cap0, .slice ad1 l1 cap1, .int .i64 1])) 4 _ _ _ g _ old _ rfl rfl hfa q13 hbx (by kernel_rfl) hsz rfl (all4 rfl rfl rfl rfl) hSg (show 153 ≠ 105 by decide) (show 153 ≠ 3 by decide) hno (rfl) rfl
  · intro f w2 hE hp hal
    obtain ⟨ga5, ca5, fa5, la5, ba5, na5, pa5⟩ := hal ⟨6, 153, 4, #[.bool false, .slice none 0 0, .slice none 0 0, .int .i64 0]⟩ (by simp) (by decide)
    dsimp only at fa5 la5 ba5 na5
    have za5 := pa5 ⟨7, ⟨6, 153, 4, #[.bool false, .slice none 0 0, .slice none 0 0, .int .i64 0]⟩, PT.val (.agg #[.bool b0, .slice ad0 l0 cap0, .slice ad1 l1 cap1, .int .i64 1])⟩ (by simp) (by show 7 < 8; decide) rfl rfl
    clear pa5
    clear hp hal
    cases za5
    have hc3 := ba5.cell 3
    have E2 := e1.trans hE
    have B2 := b2.ext hE
    go_wp2_with fail
    have hsz3 := hE.size
    clear hc3 hE
    have D5 := ba5
    refine wp_region_alt [⟨9, 28, 3, #[.bool false, .slice none 0 0, .slice none 0 0]⟩] [⟨10, ⟨9, 28, 3, #[.bool false, .slice none 0 0, .slice none 0 0]⟩, PT.frQ (q / ((1 : Int) : Rat))⟩] [PT.val (.pointer (some ⟨ga5, 0, none⟩)), PT.val (.agg #[.bool b0, .slice ad0 l0 cap0, .slice ad1 l1 cap1]), PT.val (.pointer (some ⟨ga5, 3, none⟩)), PT.val (.int .i64 1), PT.frQ ((1 : Int) : Rat), PT.tupQ (q / ((1 : Int) : Rat)), PT.tupQ (q / ((1 : Int) : Rat)), PT.frQ (q / ((1 : Int) : Rat)), PT.val (.int .i64 0), PT.any, PT.any, PT.val (.int .i64 0)]
      (by kernel_rfl) (by kernel_rfl) (fun f => (by simp only [fillR, fillL, List.setIfInBounds_toArray, List.set_cons_succ, List.set_cons_zero, Nat.reduceAdd]; rfl)) ?_ ?_ ?_ ?_ ?_
    · intro x hx; simp only [List.mem_cons, List.not_mem_nil, or_false] at hx; rcases hx with rfl
      · exact ⟨rfl, rfl, by decide, by decide, rfl, rfl⟩
    · intro x hx; simp only [List.mem_cons, List.not_mem_nil, or_false] at hx; rcases hx with rfl <;> exact ⟨rfl, rfl, by simp⟩
    · intro x hx y hy h; simp only [List.mem_cons, List.not_mem_nil, or_false] at hx hy; rcases hx with rfl <;> rcases hy with rfl
      · exact absurd rfl h
    · refine ⟨?o0, ?o1, ?o2, ?o3, ?o4, ?o5, ?o6, ?o7, ?o8, ?o9, ?o10, ?o11, trivial⟩
      case o0 =>
        intro f w3 hE hp
        have hS := hE.size
        change OpGoal _ _ _ f w3 Ext _
        simp only [OpGoal]
        go_simp
        exact ⟨_, rfl, Ext.refl _, rfl⟩
      case o1 =>
        intro f w3 hE hp
        have hS := hE.size
        have q19 : f 0 = .pointer (some ⟨ga5, 0, none⟩) := tellT hp 0 0 rfl rfl rfl
        have hbx := D5.ext hE
        have hcell0 := hbx.cell 0
        have hcell1 := hbx.cell 1
        have hcell2 := hbx.cell 2
        have hcell3 := hbx.cell 3
        change OpGoal _ _ _ f w3 Ext _
        simp only [OpGoal]
        go_simp
        exact ⟨_, rfl, Ext.refl _, rfl⟩
      case o2 =>
        intro f w3 hE hp
        have hS := hE.size
        change OpGoal _ _ _ f w3 Ext _
        simp only [OpGoal]
        go_simp
        exact ⟨_, rfl, Ext.refl _, rfl⟩
      case o3 =>
        intro f w3 hE hp
        have hS := hE.size
        have q21 : f 2 = .pointer (some ⟨ga5, 3, none⟩) := tellT hp 0 2 rfl rfl rfl
        have hcell := (D5.ext hE).cell 3
        change OpGoal _ _ _ f w3 Ext _
        simp only [OpGoal]
        go_simp
        exact ⟨_, rfl, Ext.refl _, rfl⟩
      case o4 =>
        intro f w3 hE hp
        have hS := hE.size
        have q22 : f 3 = .int .i64 1 := tellT hp 0 3 rfl rfl rfl
        change OpGoal _ _ _ f w3 Ext _
        refine og_call (P := Try.prog) _ _ _ #[f 3] Try.func26 (by kernel_rfl) (by kernel_rfl) rfl rfl (by kernel_rfl) ?_
        rw [q22]
        refine (rwhole_calls 1 _ (by omega) (by omega)).mono ?_
        rintro e w' ⟨v', rfl, h1, h2⟩
        exact ⟨v', rfl, h2, h1.mono hS⟩
      case o5 =>
        intro f w3 hE hp
        have hS := hE.size
        have q20 : f 1 = .agg #[.bool b0, .slice ad0 l0 cap0, .slice ad1 l1 cap1] := tellT hp 0 1 rfl rfl rfl
        have q23 := tellT hp 1 4 rfl rfl rfl
        change OpGoal _ _ _ f w3 Ext _
        refine og_call (P := Try.prog) _ _ _ #[f 1, f 4] Try.func40 (by kernel_rfl) (by kernel_rfl) rfl rfl (by kernel_rfl) ?_
        rw [q20]
        refine (rdiv_calls _ _ q ((1 : Int) : Rat) k 1 _ (Hq.out.ext (E2.trans hE)) (q23.isR h1z (by omega)) h10 (by omega)).mono ?_
        rintro e w' ⟨v', rfl, h1, _, h2⟩
        exact ⟨_, rfl, h2, v', rfl, h1.mono hS⟩
      case o6 =>
        intro f w3 hE hp
        have hS := hE.size
        have q24 := tellT hp 0 5 rfl rfl rfl
        change OpGoal _ _ _ f w3 Ext _
        exact ⟨_, rfl, Ext.refl _, q24⟩
      case o7 =>
        intro f w3 hE hp
        have hS := hE.size
        have q18 := tellT hp 0 6 rfl rfl rfl
        change OpGoal _ _ _ f w3 Ext _
        obtain ⟨v', hv, hq⟩ := q18
        simp only [OpGoal]
        go_simp
        exact ⟨_, rfl, Ext.refl _, hq⟩
      case o8 =>
        intro f w3 hE hp
        have hS := hE.size
        have q18 := tellT hp 0 6 rfl rfl rfl
        obtain ⟨v', hv, hq⟩ := q18
        change OpGoal _ _ _ f w3 Ext _
        simp only [OpGoal]
        go_simp
        exact ⟨_, rfl, Ext.refl _, rfl⟩
      case o9 =>
        intro f w3 hE hp
        have hS := hE.size
        change OpGoal _ _ _ f w3 (fun a b => b = a.alloc _) _
        exact og_alloc (P := Try.prog) _ _ (.agg #[.bool false, .slice none 0 0, .slice none 0 0]) rfl rfl (by kernel_rfl) rfl
      case o10 =>
        intro f w3 hE hp
        have hS := hE.size
        have q25 := tellT hp 1 7 rfl rfl rfl
        intro g old hfa hSg hbx hsz hno
        change OpGoal _ _ _ f w3 (Chg g) _
        obtain ⟨cells, hv, hcs, hc1, hcn⟩ := FrQ.parts q25
        exact og_storeT (P := Try.prog) (PT.frQ (q / ((1 : Int) : Rat))) 3 _ _ _ g _ old cells rfl rfl hfa hv hbx (by rw [hcs]; kernel_rfl) hsz hcs hc1 hSg (show 28 ≠ 105 by decide) (show 28 ≠ 3 by decide) hno rfl (hv ▸ q25)
      case o11 =>
        intro f w3 hE hp
        have hS := hE.size
        have q26 : f 8 = .int .i64 0 := tellT hp 0 8 rfl rfl rfl
        change OpGoal _ _ _ f w3 Ext _
        simp only [OpGoal]
        go_simp
        exact ⟨_, rfl, Ext.refl _, rfl⟩
    · intro f w3 hE hp hal
      obtain ⟨ga6, ca6, fa6, la6, ba6, na6, pa6⟩ := hal ⟨9, 28, 3, #[.bool false, .slice none 0 0, .slice none 0 0]⟩ (by simp) (by decide)
      dsimp only at fa6 la6 ba6 na6
      have za6 := pa6 ⟨10, ⟨9, 28, 3, #[.bool false, .slice none 0 0, .slice none 0 0]⟩, PT.frQ (q / ((1 : Int) : Rat))⟩ (by simp) (by show 10 < 12; decide) rfl rfl
      clear pa6
      clear hp hal
      obtain ⟨b9, ad9, l9, cap9, bd9, m9, dap9, hv9, q9⟩ := FrQ.opn za6
      cases hv9
      have B3 := B2.ext hE
      have E3 := E2.trans hE
      have hcc0 := ba6.cell 0
      have hcc1 := ba6.cell 1
      have hcc2 := ba6.cell 2
      have hf0 := B3.free 0
      have hf1 := B3.free 1
      have hf2 := B3.free 2
      have hd0 := B3.cell 0
      have hd1 := B3.cell 1
      have hd2 := B3.cell 2
      obtain ⟨s', t', hvv, hn, hm⟩ := q9
      cases hvv
      have Hn := Lib.hid hn
      have Hm3 := Lib.hid hm
      clear hn hm
      have hsz := e1.size
      have hsz2 := hE.size
      go_wp2
      refine ret_box 4 28 (w.heap.size + 1) 28 _ _ (by kernel_rfl) rfl (((B3.set 0 _).set 1 _).set 2 _) Try.underlying28 rfl (by kernel_rfl) rfl ?_
      exact ⟨_, rfl, ⟨_, _, rfl, (Hn.out.chg (Chg.trans (Chg.trans (Chg.setCell _ (w.heap.size + 1) 0 _) (Chg.setCell _ (w.heap.size + 1) 1 _)) (Chg.setCell _ (w.heap.size + 1) 2 _)) (by omega)).mono (by omega), (Hm3.out.chg (Chg.trans (Chg.trans (Chg.setCell _ (w.heap.size + 1) 0 _) (Chg.setCell _ (w.heap.size + 1) 1 _)) (Chg.setCell _ (w.heap.size + 1) 2 _)) (by omega)).mono (by omega)⟩, E3.step (Chg.trans (Chg.trans (Chg.setCell _ (w.heap.size + 1) 0 _) (Chg.setCell _ (w.heap.size + 1) 1 _)) (Chg.setCell _ (w.heap.size + 1) 2 _)) (by omega)⟩
end Go.Proofs.Ytkcnnlhaiahpbaa

/-
  A Brancher learns; what it scores.
-/
namespace Go.Proofs.Ytkcnnlhaiahpbaa
open Go.RowKit
set_option linter.unusedVariables false
set_option linter.unusedSimpArgs false

/-- What was learned once, of a number. -/
def PP.hist {S : Nat} (q : Rat) : PP S := ⟨false, fun u w => ∃ b ad l cap ad2 l2 cap2, u = .agg #[.bool b, .slice ad l cap, .slice ad2 l2 cap2, .int .i64 1] ∧ FrQ S w (.agg #[.bool b, .slice ad l cap, .slice ad2 l2 cap2]) q,
  fun _ _ _ h hp => (let ⟨b, ad, l, cap, ad2, l2, cap2, h1, h2⟩ := hp; ⟨b, ad, l, cap, ad2, l2, cap2, h1, h2.ext h⟩), fun _ _ hg _ _ _ h hp => (let ⟨b, ad, l, cap, ad2, l2, cap2, h1, h2⟩ := hp; ⟨b, ad, l, cap, ad2, l2, cap2, h1, h2.chg h hg⟩)⟩
/-- The map holds that one fact. -/
def FactAt (S m : Nat) (q : Rat) (w : World) : Prop := ∃ b ad l cap ad2 l2 cap2, w.heap[m]? = some (.map (oneFact b (.slice ad l cap) (.slice ad2 l2 cap2)) 1) ∧ FrQ S w (.agg #[.bool b, .slice ad l cap, .slice ad2 l2 cap2]) q
set_option maxRecDepth 100000 in
set_option maxHeartbeats 1000000 in
theorem FactAt.ext {S m : Nat} {q : Rat} {w w' : World} (h : FactAt S m q w) (he : Ext w w') : FactAt S m q w' := by
  obtain ⟨b, ad, l, cap, ad2, l2, cap2, h1, h2⟩ := h
  exact ⟨b, ad, l, cap, ad2, l2, cap2, he.blk h1, h2.ext he⟩
set_option maxRecDepth 100000 in
set_option maxHeartbeats 1000000 in
theorem FactAt.chg {S m : Nat} {q : Rat} {w w' : World} {g : Nat} (h : FactAt S m q w) (hne : g ≠ m) (hg : g < S) (he : Chg g w w') : FactAt S m q w' := by
  obtain ⟨b, ad, l, cap, ad2, l2, cap2, h1, h2⟩ := h
  exact ⟨b, ad, l, cap, ad2, l2, cap2, he.blk h1 (fun h => hne h.symm), h2.chg he hg⟩

set_option maxRecDepth 100000 in
set_option maxHeartbeats 1000000 in
theorem heap_set_same (w : World) (m : Nat) (o : Obj) (h : m < w.heap.size) : ({ w with heap := w.heap.setIfInBounds m o } : World).heap[m]? = some o := by
  simp [Array.getElem?_setIfInBounds, h]
set_option maxRecDepth 100000 in
set_option maxHeartbeats 1000000 in
theorem ChgS.one {g : Nat} {w w' : World} (h : ChgS [g] w w') : Chg g w w' := ⟨h.1, h.2.1, h.2.2.1, h.2.2.2.1, fun k hk n => h.2.2.2.2 k hk (fun hm => by rw [List.mem_singleton] at hm; subst hm; exact n rfl)⟩

set_option maxRecDepth 100000 in
set_option maxHeartbeats 1000000 in
theorem learn_calls (p m : Nat) (sc : Value) (c1 : Bool) (a1 : Option Addr) (n1 k1 : Nat) (a2 : Option Addr) (n2 k2 : Nat) (c2 : Bool) (a3 : Option Addr) (n3 k3 : Nat) (a4 : Option Addr) (n4 k4 : Nat) (x y : Rat) (k l : Nat) (w : World) (hb : Bx 132 w p #[sc, .map (some m)]) (hm : w.heap[m]? = some (.map #[] 0))
    (hx : IsR w (.agg #[.bool c1, .slice a1 n1 k1, .slice a2 n2 k2]) x k) (hy : IsR w (.agg #[.bool c2, .slice a3 n3 k3, .slice a4 n4 k4]) y l) (sx : x.num.sign = 1) (sy : y.num.sign = 1) (hk : k ≤ 100) (hl : l ≤ 100) :
    Calls Try.prog 102 #[.pointer (some ⟨p, 0, none⟩), .int .i64 0, .bool true, .agg #[.bool c1, .slice a1 n1 k1, .slice a2 n2 k2], .agg #[.bool c2, .slice a3 n3 k3, .slice a4 n4 k4]] w fun e w' => e = .returned (.bool true) ∧ Chg m w w' ∧ FactAt w.heap.size m (0 + y / x) w' := by
  have lim : (1024 : Nat) ≤ LIM := by rw [LIM_eq]; omega
  have hx0 : x ≠ 0 := fun h => by rw [h] at sx; cases sx
  have Hm := Lib.hid hm
  have Hx := Lib.hid hx
  have Hy := Lib.hid hy
  have Sx := Lib.hid sx
  have Sy := Lib.hid sy
  have hml := blk_lt hm
  clear hm hx hy sx sy
  go_enter Try.func102, Try.ntmps102
  obtain ⟨w1, hw1, e1, b1, b2, s1⟩ := alloc2 w #[.bool c1, .slice a1 n1 k1, .slice a2 n2 k2] #[.bool c2, .slice a3 n3 k3, .slice a4 n4 k4] 28 28
  have hc0 := b1.cell 0
  have hc1 := b1.cell 1
  have hc2 := b1.cell 2
  rw [hw1] at hc0 hc1 hc2
  go_wp2_with fail
  rw [← hw1]
  clear hc0 hc1 hc2
  refine (rsign_calls _ x k _ (Hx.out.ext e1)).mono ?_
  rw [Sx.out]
  rintro e w2 ⟨rfl, e2⟩
  have hc0 := (b2.ext e2).cell 0
  have hc1 := (b2.ext e2).cell 1
  have hc2 := (b2.ext e2).cell 2
  go_wp2_with fail
  refine (rsign_calls _ y l _ (Hy.out.ext (e1.trans e2))).mono ?_
  rw [Sy.out]
  rintro e w3 ⟨rfl, e3⟩
  clear hc0 hc1 hc2
  have e23 := e2.trans e3
  have hc0 := (b1.ext e23).cell 0
  have hc1 := (b1.ext e23).cell 1
  have hc2 := (b1.ext e23).cell 2
  have hd0 := (b2.ext e23).cell 0
  have hd1 := (b2.ext e23).cell 1
  have hd2 := (b2.ext e23).cell 2
  have E3 := e1.trans e23
  go_wp2_with fail
  refine (rdiv_calls _ _ y x l k _ (Hy.out.ext E3) (Hx.out.ext E3) hx0 (by omega)).mono ?_
  rintro e w4 ⟨v4, rfl, q4, z4, e4⟩
  clear hc0 hc1 hc2 hd0 hd1 hd2
  obtain ⟨b, ad, l4, cap, bd, m4, dap, rfl, q4⟩ := q4.opn
  obtain ⟨w5, hw5, e5, b5, s5⟩ := alloc1 w4 #[.bool b, .slice ad l4 cap, .slice bd m4 dap] 28
  obtain ⟨w6, hw6, e6, b6, s6⟩ := alloc1 w5 #[.int .i64 0, .bool true] 151
  go_wp2_with fail
  rw [← hw5, ← hw6]
  have E6 := (E3.trans e4).trans (e5.trans e6)
  rw [s5] at b6
  have B6 := hb.ext E6
  have D5 := b5.ext e6
  have q6 := q4.ext (e5.trans e6)
  have H6 := Lib.hid (E6.blk Hm.out)
  refine wp_region_alt [⟨6, 153, 4, #[.bool false, .slice none 0 0, .slice none 0 0, .int .i64 0]⟩] [⟨7, ⟨6, 153, 4, #[.bool false, .slice none 0 0, .slice none 0 0, .int .i64 0]⟩, PT.val (.agg #[.bool false, .slice none 0 0, .slice none 0 0, .int .i64 0])⟩] [PT.val (.pointer (some ⟨p, 0, none⟩)), PT.val (.pointer (some ⟨p, 0, none⟩)), PT.val (.pointer (some ⟨p, 1, none⟩)), PT.val (.map (some m)), PT.val (.agg #[.int .i64 0, .bool true]), PT.val (.agg #[.bool false, .slice none 0 0, .slice none 0 0, .int .i64 0]), PT.any, PT.any]
    (by kernel_rfl) (by kernel_rfl) (fun f => (by simp only [fillR, fillL, List.setIfInBounds_toArray, List.set_cons_succ, List.set_cons_zero, Nat.reduceAdd]; rfl)) ?_ ?_ ?_ ?_ ?_
  · intro x hx; simp only [List.mem_cons, List.not_mem_nil, or_false] at hx; rcases hx with rfl
    · exact ⟨rfl, rfl, by decide, by decide, rfl, rfl⟩
  · intro x hx; simp only [List.mem_cons, List.not_mem_nil, or_false] at hx; rcases hx with rfl <;> exact ⟨rfl, rfl, by simp⟩
  · intro x hx y hy h; simp only [List.mem_cons, List.not_mem_nil, or_false] at hx hy; rcases hx with rfl <;> rcases hy with rfl
    · exact absurd rfl h
  · refine ⟨?o0, ?o1, ?o2, ?o3, ?o4, ?o5, ?o6, ?o7, trivial⟩
    case o0 =>
      intro f w7 hE hp
      have hS := hE.size
      change OpGoal _ _ _ f w7 Ext _
      simp only [OpGoal]
      go_simp
      exact ⟨_, rfl, Ext.refl _, rfl⟩
    case o1 =>
      intro f w7 hE hp
      have hS := hE.size
      have q36 : f 0 = .pointer (some ⟨p, 0, none⟩) := tellT hp 0 0 rfl rfl rfl
      change OpGoal _ _ _ f w7 Ext _
      simp only [OpGoal]
      go_simp
      exact ⟨_, rfl, Ext.refl _, rfl⟩
    case o2 =>
      intro f w7 hE hp
      have hS := hE.size
      have q37 : f 1 = .pointer (some ⟨p, 0, none⟩) := tellT hp 0 1 rfl rfl rfl
      change OpGoal _ _ _ f w7 Ext _
      simp only [OpGoal]
      go_simp
      exact ⟨_, rfl, Ext.refl _, rfl⟩
    case o3 =>
      intro f w7 hE hp
      have hS := hE.size
      have q38 : f 2 = .pointer (some ⟨p, 1, none⟩) := tellT hp 0 2 rfl rfl rfl
      have hcell := (B6.ext hE).cell 1
      change OpGoal _ _ _ f w7 Ext _
      simp only [OpGoal]
      go_simp
      exact ⟨_, rfl, Ext.refl _, rfl⟩
    case o4 =>
      intro f w7 hE hp
      have hS := hE.size
      change OpGoal _ _ _ f w7 Ext _
      exact og_load (P := Try.prog) _ _ (w4.heap.size + 1) _ _ _ rfl rfl rfl (b6.ext hE) Try.underlying151 rfl (by kernel_rfl) rfl
    case o5 =>
      intro f w7 hE hp
      have hS := hE.size
      have q39 : f 3 = .map (some m) := tellT hp 0 3 rfl rfl rfl
      have q40 : f 4 = .agg #[.int .i64 0, .bool true] := tellT hp 1 4 rfl rfl rfl
      change OpGoal _ _ _ f w7 Ext _
      exact og_lookup (P := Try.prog) _ _ _ (.map (some m)) (.agg #[.int .i64 0, .bool true]) _ rfl rfl q39 q40 (look_empty m 0 true _ (hE.blk H6.out)) rfl
    case o6 =>
      intro f w7 hE hp
      have hS := hE.size
      change OpGoal _ _ _ f w7 (fun a b => b = a.alloc _) _
      exact og_alloc (P := Try.prog) _ _ (.agg #[.bool false, .slice none 0 0, .slice none 0 0, .int .i64 0]) rfl rfl (by kernel_rfl) rfl
    case o7 =>
      intro f w7 hE hp
      have hS := hE.size
      have q41 : f 5 = .agg #[.bool false, .slice none 0 0, .slice none 0 0, .int .i64 0] := tellT hp 1 5 rfl rfl rfl
      intro g old hfa hSg hbx hsz hno
      change OpGoal _ _ _ f w7 (Chg g) _
      exact og_storeT (P := Try.prog) (PT.val (.agg #[.bool false, .slice none 0 0, .slice none 0 0, .int .i64 0])) 4 _ _ _ g _ old _ rfl rfl hfa q41 hbx (by kernel_rfl) hsz rfl (all4 rfl rfl rfl rfl) hSg (show 153 ≠ 105 by decide) (show 153 ≠ 3 by decide) hno (rfl) rfl
  · intro f w7 hE hp hal
    obtain ⟨ga14, ca14, fa14, la14, ba14, na14, pa14⟩ := hal ⟨6, 153, 4, #[.bool false, .slice none 0 0, .slice none 0 0, .int .i64 0]⟩ (by simp) (by decide)
    dsimp only at fa14 la14 ba14 na14
    have za14 := pa14 ⟨7, ⟨6, 153, 4, #[.bool false, .slice none 0 0, .slice none 0 0, .int .i64 0]⟩, PT.val (.agg #[.bool false, .slice none 0 0, .slice none 0 0, .int .i64 0])⟩ (by simp) (by show 7 < 8; decide) rfl rfl
    clear pa14
    clear hp hal
    cases za14
    have E7 := E6.trans hE
    have B7 := B6.ext hE
    have C5 := D5.ext hE
    have C6 := b6.ext hE
    have Q7 := q6.ext hE
    have H7 := Lib.hid (E7.blk Hm.out)
    have hs := E3.size
    have hs4 := e4.size
    have hs7 := hE.size
    have hs1 := E7.size
    clear hE
    go_wp2_with fail
    refine wp_region_putg [⟨13, m, FactAt w7.heap.size m (0 + y / x), fun _ _ he h => h.ext he, fun _ hne hg _ _ he h => h.chg hne hg he⟩] [PP.val (.pointer (some ⟨p, 0, none⟩)), PP.val (.pointer (some ⟨p, 0, none⟩)), PP.val (.pointer (some ⟨p, 1, none⟩)), PP.val (.map (some m)), PP.val (.agg #[.int .i64 0, .bool true]), PP.val (.pointer (some ⟨ga14, 0, none⟩)), PP.val (.agg #[.bool false, .slice none 0 0, .slice none 0 0]), PP.val (.agg #[.bool b, .slice ad l4 cap, .slice bd m4 dap]), PP.frQ (0 + y / x), PP.val (.pointer (some ⟨ga14, 3, none⟩)), PP.val (.int .i64 0), PP.val (.int .i64 1), PP.hist (0 + y / x), PP.any] [] [13, 12, 11, 10, 9, 8, 7, 6, 5, 4, 3, 2, 1, 0]
      (by kernel_rfl) (by kernel_rfl) (fun f => (by simp only [fillR, fillL, List.setIfInBounds_toArray, List.set_cons_succ, List.set_cons_zero, Nat.reduceAdd]; rfl)) ?_ ?_ ?_ ?_ ?_
    · intro x hx; simp only [List.mem_singleton] at hx; subst hx; show m < w7.heap.size; omega
    · intro x hx; simp only [List.mem_singleton] at hx; subst hx; rfl
    · intro x hx y hy h; simp only [List.mem_singleton] at hx hy; subst hx hy; exact absurd rfl h
    · refine ⟨?o0, ?o1, ?o2, ?o3, ?o4, ?o5, ?o6, ?o7, ?o8, ?o9, ?o10, ?o11, ?o12, ?o13, trivial⟩
      case o0 =>
        intro f w8 hG hp hl
        have hE : Ext w7 w8 := hG
        have hS := hE.size
        simp only [OpGoal]
        go_simp
        exact ⟨_, rfl, Ext.refl _, rfl⟩
      case o1 =>
        intro f w8 hG hp hl
        have hE : Ext w7 w8 := hG
        have hS := hE.size
        have q42 : f 0 = .pointer (some ⟨p, 0, none⟩) := tellG hp 0 0 rfl rfl (fun h => by cases h)
        simp only [OpGoal]
        go_simp
        exact ⟨_, rfl, Ext.refl _, rfl⟩
      case o2 =>
        intro f w8 hG hp hl
        have hE : Ext w7 w8 := hG
        have hS := hE.size
        have q43 : f 1 = .pointer (some ⟨p, 0, none⟩) := tellG hp 0 1 rfl rfl (fun h => by cases h)
        simp only [OpGoal]
        go_simp
        exact ⟨_, rfl, Ext.refl _, rfl⟩
      case o3 =>
        intro f w8 hG hp hl
        have hE : Ext w7 w8 := hG
        have hS := hE.size
        have q44 : f 2 = .pointer (some ⟨p, 1, none⟩) := tellG hp 0 2 rfl rfl (fun h => by cases h)
        have hcell := (B7.ext hE).cell 1
        simp only [OpGoal]
        go_simp
        exact ⟨_, rfl, Ext.refl _, rfl⟩
      case o4 =>
        intro f w8 hG hp hl
        have hE : Ext w7 w8 := hG
        have hS := hE.size
        change OpGoal _ _ _ f w8 Ext _
        exact og_load (P := Try.prog) _ _ (w4.heap.size + 1) _ _ _ rfl rfl rfl (C6.ext hE) Try.underlying151 rfl (by kernel_rfl) rfl
      case o5 =>
        intro f w8 hG hp hl
        have hE : Ext w7 w8 := hG
        have hS := hE.size
        simp only [OpGoal]
        go_simp
        exact ⟨_, rfl, Ext.refl _, rfl⟩
      case o6 =>
        intro f w8 hG hp hl
        have hE : Ext w7 w8 := hG
        have hS := hE.size
        have q47 : f 5 = .pointer (some ⟨ga14, 0, none⟩) := tellG hp 0 5 rfl rfl (fun h => by cases h)
        have hbx := ba14.ext hE
        have hcell0 := hbx.cell 0
        have hcell1 := hbx.cell 1
        have hcell2 := hbx.cell 2
        have hcell3 := hbx.cell 3
        simp only [OpGoal]
        go_simp
        exact ⟨_, rfl, Ext.refl _, rfl⟩
      case o7 =>
        intro f w8 hG hp hl
        have hE : Ext w7 w8 := hG
        have hS := hE.size
        change OpGoal _ _ _ f w8 Ext _
        exact og_load (P := Try.prog) _ _ w4.heap.size _ _ _ rfl rfl rfl (C5.ext hE) Try.underlying28 rfl (by kernel_rfl) rfl
      case o8 =>
        intro f w8 hG hp hl
        have hE : Ext w7 w8 := hG
        have hS := hE.size
        have q48 : f 6 = .agg #[.bool false, .slice none 0 0, .slice none 0 0] := tellG hp 0 6 rfl rfl (fun h => by cases h)
        have q49 : f 7 = .agg #[.bool b, .slice ad l4 cap, .slice bd m4 dap] := tellG hp 1 7 rfl rfl (fun h => by cases h)
        change OpGoal _ _ _ f w8 Ext _
        refine og_call (P := Try.prog) _ _ _ #[f 6, f 7] Try.func43 (by kernel_rfl) (by kernel_rfl) rfl rfl (by kernel_rfl) ?_
        rw [q48, q49]
        refine (radd_calls _ _ 0 (y / x) 1 (l + k) _ (zeroQ.isR _) ((Q7.ext hE).isR (by omega) (by omega)) (by omega)).mono ?_
        rintro e w' ⟨v', rfl, h1, _, h2⟩
        exact ⟨v', rfl, h2, h1.mono hS⟩
      case o9 =>
        intro f w8 hG hp hl
        have hE : Ext w7 w8 := hG
        have hS := hE.size
        simp only [OpGoal]
        go_simp
        exact ⟨_, rfl, Ext.refl _, rfl⟩
      case o10 =>
        intro f w8 hG hp hl
        have hE : Ext w7 w8 := hG
        have hS := hE.size
        have q51 : f 9 = .pointer (some ⟨ga14, 3, none⟩) := tellG hp 0 9 rfl rfl (fun h => by cases h)
        have hcell := (ba14.ext hE).cell 3
        simp only [OpGoal]
        go_simp
        exact ⟨_, rfl, Ext.refl _, rfl⟩
      case o11 =>
        intro f w8 hG hp hl
        have hE : Ext w7 w8 := hG
        have hS := hE.size
        have q52 : f 10 = .int .i64 0 := tellG hp 0 10 rfl rfl (fun h => by cases h)
        simp only [OpGoal]
        go_simp
        exact ⟨_, rfl, Ext.refl _, rfl⟩
      case o12 =>
        intro f w8 hG hp hl
        have hE : Ext w7 w8 := hG
        have hS := hE.size
        have q50 := tellG hp 0 8 rfl rfl (fun _ => hE)
        have q53 : f 11 = .int .i64 1 := tellG hp 1 11 rfl rfl (fun h => by cases h)
        change OpGoal _ _ _ f w8 Ext _
        obtain ⟨b9, ad9, l9, cap9, bd9, m9, dap9, hv9, q9⟩ := FrQ.opn q50
        simp only [OpGoal]
        go_simp
        exact ⟨_, rfl, Ext.refl _, b9, ad9, l9, cap9, bd9, m9, dap9, rfl, q9⟩
      case o13 =>
        intro f w8 hG hp hl
        have hE : Ext w7 w8 := hG
        have hS := hE.size
        have q45 : f 3 = .map (some m) := tellG hp 0 3 rfl rfl (fun h => by cases h)
        have q46 : f 4 = .agg #[.int .i64 0, .bool true] := tellG hp 1 4 rfl rfl (fun h => by cases h)
        have q54 := tellG hp 2 12 rfl rfl (fun _ => hE)
        intro hg0
        change OpGoal _ _ _ f w8 (Chg _) _
        obtain ⟨b9, ad9, l9, cap9, bd9, m9, dap9, hv9, q9⟩ := q54
        have hm8 := hE.blk H7.out
        exact og_mapUpdate (P := Try.prog) _ _ _ _ (.map (some m)) (.agg #[.int .i64 0, .bool true]) _ rfl rfl q45 q46 hv9 (upd_first m b9 _ _ _ hm8) (chg_map m _ _) ⟨b9, ad9, l9, cap9, bd9, m9, dap9, heap_set_same _ _ _ (blk_lt hm8), q9.chg (chg_map m _ _) (by omega)⟩
    · intro f w8 hG hp
      have hz0 := endGS hp 13 (by decide)
      clear hp
      go_wp2
      go_ret
      obtain ⟨b9, ad9, l9, cap9, bd9, m9, dap9, h9, q9⟩ := hz0
      exact ⟨rfl, (E7.chg m).trans (ChgS.one hG), b9, ad9, l9, cap9, bd9, m9, dap9, h9, q9.mono (by omega)⟩
end Go.Proofs.Ytkcnnlhaiahpbaa

/-
  What a Brancher scores, by either rule.
-/
namespace Go.Proofs.Ytkcnnlhaiahpbaa
open Go.RowKit
set_option linter.unusedVariables false
set_option linter.unusedSimpArgs false

set_option maxRecDepth 100000 in
set_option maxHeartbeats 1000000 in
/-- A call through a value by its contract. -/
theorem og_callv {P : Program} {o : Oper} {a : Act} {f : Nat → Value} {w : World} {post : Value → World → Prop} {fn : Func} (F : FuncId) (x : Operand) (xs : Array Operand) (ts : Array TypeId) (args : Array Value) (hf : P.funcs[F]? = some fn) (hn : (fn.name == "runtime.NumGoroutine") = false) (hb : fn.body.isNone = false) (hgd : o.guard = none) (ho : o.op = .call { callee := .value x, args := xs, argTypes := ts })
    (hx : a.eval x = .func (.func F) #[] #[]) (ha : xs.map a.eval = args) (hc : Calls P F args w fun e w' => ∃ v, e = .returned v ∧ Ext w w' ∧ post v w') : OpGoal P o a f w Ext post := by
  unfold OpGoal
  rw [hgd]
  unfold Oper.wp
  have hrun : (execOp a.eval o).run P w = .ok (.enter F args) w := by
    subst ha
    have h1 : fn.name ≠ "runtime.NumGoroutine" := by simpa using hn
    have h2 : ¬ fn.body = none := by intro h; simp [h] at hb
    simp [execOp, ho, resolve, hx, Deferred.ofValue, invoke, callFunc, hf, h1, h2]
  rw [hrun, Oper.upon_enter]
  refine hc.mono ?_
  rintro e w' ⟨v, rfl, h1, h2⟩
  exact ⟨v, rfl, h1, h2⟩
set_option maxRecDepth 100000 in
set_option maxHeartbeats 1000000 in
theorem IsR.opn {w : World} {v : Value} {x : Rat} {k : Nat} (h : IsR w v x k) : ∃ b ad n cap ad2 n2 cap2, v = .agg #[.bool b, .slice ad n cap, .slice ad2 n2 cap2] := by
  obtain ⟨n, d, ⟨b, s, t, m, d0, rfl, ⟨xs, ⟨ad, cap, rfl, -⟩, -⟩, -, ⟨ys, ⟨ad2, cap2, rfl, -⟩, -⟩, -⟩, -⟩ := h
  exact ⟨_, _, _, _, _, _, _, rfl⟩
/-- What the mean of a variable is in one direction. -/
def MeanAt (p : Nat) (w : World) (c : Int) (u : Bool) (μ : Rat) : Prop := ∀ wz, Ext w wz → Calls Try.prog 131 #[.pointer (some ⟨p, 0, none⟩), .agg #[.int .i64 c, .bool u]] wz fun e w' => ∃ v', e = .returned v' ∧ FrQ wz.heap.size w' v' μ ∧ Ext wz w'
set_option maxRecDepth 100000 in
set_option maxHeartbeats 1000000 in
theorem MeanAt.ext {p : Nat} {w w' : World} {c : Int} {u : Bool} {μ : Rat} (h : MeanAt p w c u μ) (he : Ext w w') : MeanAt p w' c u μ := fun wz hz => h wz (he.trans hz)
def brokenQ (x : Rat) : Rat := if ((1 : Int) : Rat) - x < x then ((1 : Int) : Rat) - x else x
def scoreQ (r : Int) (m0 m1 x : Rat) : Rat := if r = 0 then brokenQ x else m0 * x * (m1 * (((1 : Int) : Rat) - x))

set_option maxRecDepth 100000 in
set_option maxHeartbeats 1000000 in
theorem broken_calls (p : Value) (c : Int) (v : Value) (x : Rat) (k : Nat) (w : World) (hx : IsR w v x k) (hk : k ≤ 1000) :
    Calls Try.prog 104 #[p, .int .i64 c, v] w fun e w' => ∃ v', e = .returned v' ∧ FrQ w.heap.size w' v' (brokenQ x) ∧ Ext w w' := by
  have Hx := Lib.hid hx
  obtain ⟨b, ad, n, cap, ad2, n2, cap2, rfl⟩ := hx.opn
  clear hx
  have lim : (4096 : Nat) ≤ LIM := by rw [LIM_eq]; omega
  have h1z : szQ ((1 : Int) : Rat) ≤ 1 := by decide
  go_enter Try.func104, Try.ntmps104
  obtain ⟨w1, hw1, e1, b1, b2, s1⟩ := alloc2 w #[.bool b, .slice ad n cap, .slice ad2 n2 cap2] #[.bool false, .slice none 0 0, .slice none 0 0] 28 28
  go_wp2_with fail
  rw [← hw1]
  refine wp_region_als [⟨3, 28, 3, #[.bool false, .slice none 0 0, .slice none 0 0]⟩] [⟨4, ⟨3, 28, 3, #[.bool false, .slice none 0 0, .slice none 0 0]⟩, PA.frQ (((1 : Int) : Rat) - x)⟩] [PA.frQ ((1 : Int) : Rat), PA.val (.agg #[.bool b, .slice ad n cap, .slice ad2 n2 cap2]), PA.frQ (((1 : Int) : Rat) - x), PA.any, PA.any]
    (by kernel_rfl) (by kernel_rfl) (fun f => (by simp only [fillR, fillL, List.setIfInBounds_toArray, List.set_cons_succ, List.set_cons_zero, Nat.reduceAdd]; rfl)) ?_ ?_ ?_ ?_ ?_
  · intro x hx; simp only [List.mem_cons, List.not_mem_nil, or_false] at hx; rcases hx with rfl
    · exact ⟨rfl, rfl, by decide, by decide, rfl, noInt3 _ _ _ _ _ _ _⟩
  · intro x hx; simp only [List.mem_cons, List.not_mem_nil, or_false] at hx; rcases hx with rfl <;> exact ⟨rfl, rfl, by simp⟩
  · intro x hx y hy h; simp only [List.mem_cons, List.not_mem_nil, or_false] at hx hy; rcases hx with rfl <;> rcases hy with rfl
    · exact absurd rfl h
  · refine ⟨?o0, ?o1, ?o2, ?o3, ?o4, trivial⟩
    case o0 =>
      intro f w2 hE hp
      have hS := hE.size
      change OpGoal _ _ _ f w2 Ext _
      refine og_call (P := Try.prog) _ _ _ #[.int .i64 1] Try.func26 (by kernel_rfl) (by kernel_rfl) rfl rfl (by kernel_rfl) ?_
      refine (rwhole_calls 1 _ (by omega) (by omega)).mono ?_
      rintro e w' ⟨v', rfl, h1, h2⟩
      exact ⟨v', rfl, h2, h1.mono hS⟩
    case o1 =>
      intro f w2 hE hp
      have hS := hE.size
      change OpGoal _ _ _ f w2 Ext _
      exact og_load (P := Try.prog) _ _ w.heap.size _ _ _ rfl rfl rfl (b1.ext hE) Try.underlying28 rfl (by kernel_rfl) rfl
    case o2 =>
      intro f w2 hE hp
      have hS := hE.size
      have q8 := tellA hp 0 0 rfl rfl rfl
      have q9 : f 1 = .agg #[.bool b, .slice ad n cap, .slice ad2 n2 cap2] := tellA hp 1 1 rfl rfl rfl
      change OpGoal _ _ _ f w2 Ext _
      refine og_call (P := Try.prog) _ _ _ #[f 0, f 1] Try.func44 (by kernel_rfl) (by kernel_rfl) rfl rfl (by kernel_rfl) ?_
      rw [q9]
      refine (rsub_calls _ _ ((1 : Int) : Rat) x 1 k _ (q8.isR h1z (by omega)) (Hx.out.ext (e1.trans hE)) (by omega)).mono ?_
      rintro e w' ⟨v', rfl, h1, _, h2⟩
      exact ⟨v', rfl, h2, h1.mono hS⟩
    case o3 =>
      intro f w2 hE hp
      have hS := hE.size
      change OpGoal _ _ _ f w2 (fun a b => b = a.alloc _) _
      exact og_alloc (P := Try.prog) _ _ (.agg #[.bool false, .slice none 0 0, .slice none 0 0]) rfl rfl (by kernel_rfl) rfl
    case o4 =>
      intro f w2 hE hp
      have hS := hE.size
      have q10 := tellA hp 1 2 rfl rfl rfl
      intro g old hfa hSg hbx hsz hno
      change OpGoal _ _ _ f w2 (Chg g) _
      obtain ⟨cells, hv, hcs, hc1, hcn⟩ := FrQ.parts q10
      exact og_storeA (P := Try.prog) (PA.frQ (((1 : Int) : Rat) - x)) 3 _ _ _ g _ old cells rfl rfl hfa hv hbx (by rw [hcs]; kernel_rfl) hsz hcs hc1 hSg (show 28 ≠ 105 by decide) (show 28 ≠ 3 by decide) hno hcn (hv ▸ q10)
  · intro f w2 hE hp hal
    obtain ⟨ga7, ca7, fa7, la7, ba7, na7, pa7⟩ := hal ⟨3, 28, 3, #[.bool false, .slice none 0 0, .slice none 0 0]⟩ (by simp) (by decide)
    dsimp only at fa7 la7 ba7 na7
    have za7 := pa7 ⟨4, ⟨3, 28, 3, #[.bool false, .slice none 0 0, .slice none 0 0]⟩, PA.frQ (((1 : Int) : Rat) - x)⟩ (by simp) (by show 4 < 5; decide) rfl rfl
    clear pa7
    clear hp hal
    obtain ⟨b7, ad7, l7, cap7, bd7, m7, dap7, hv7, q7⟩ := FrQ.opn za7
    cases hv7
    have hsz : szQ (((1 : Int) : Rat) - x) ≤ 1 + k + 1 := by
      rw [Rat.sub_eq_add_neg]
      refine szQ_add h1z ?_
      have h := Hx.out.sz
      unfold szQ szZ at *
      rwa [Rat.neg_num, Rat.neg_den, Int.natAbs_neg]
    have E2 := e1.trans hE
    have B1 := b1.ext hE
    have B2 := b2.ext hE
    have hs2 := hE.size
    clear hE b1 b2
    have hc0 := ba7.cell 0
    have hc1 := ba7.cell 1
    have hc2 := ba7.cell 2
    have hd0 := B1.cell 0
    have hd1 := B1.cell 1
    have hd2 := B1.cell 2
    go_wp2_with fail
    refine (rcmp_calls _ _ (((1 : Int) : Rat) - x) x (1 + k + 1) k _ (q7.isR hsz (by omega)) (Hx.out.ext E2) (by omega)).mono ?_
    rintro e w3 ⟨rfl, e3⟩
    clear hc0 hc1 hc2 hd0 hd1 hd2
    have E3 := E2.trans e3
    by_cases hlt : ((1 : Int) : Rat) - x < x
    · have hcl := cmpR_lt.2 hlt
      have hfin : brokenQ x = ((1 : Int) : Rat) - x := if_pos hlt
      have Hfin := Lib.hid hfin
      clear hfin hlt
      obtain ⟨r, hr⟩ : ∃ r, r = cmpR (((1 : Int) : Rat) - x) x := ⟨_, rfl⟩
      rw [← hr] at hcl ⊢
      clear hr
      have D7 := ba7.ext e3
      have hc0 := D7.cell 0
      have hc1 := D7.cell 1
      have hc2 := D7.cell 2
      have C2 := B2.ext e3
      have hf0 := C2.free 0
      have hf1 := C2.free 1
      have hf2 := C2.free 2
      have hd0 := C2.cell 0
      have hd1 := C2.cell 1
      have hd2 := C2.cell 2
      obtain ⟨s', t', hvv, hn, hm⟩ := q7.ext e3
      cases hvv
      have Hn := Lib.hid hn
      have Hm := Lib.hid hm
      clear hn hm
      have hs := e1.size
      go_wp2
      refine ret_box 6 28 (w.heap.size + 1) 28 _ _ (by kernel_rfl) rfl (((C2.set 0 _).set 1 _).set 2 _) Try.underlying28 rfl (by kernel_rfl) rfl ?_
      rw [Hfin.out]
      exact ⟨_, rfl, ⟨_, _, rfl, (Hn.out.chg (Chg.trans (Chg.trans (Chg.setCell _ (w.heap.size + 1) 0 _) (Chg.setCell _ (w.heap.size + 1) 1 _)) (Chg.setCell _ (w.heap.size + 1) 2 _)) (by omega)).mono (by omega), (Hm.out.chg (Chg.trans (Chg.trans (Chg.setCell _ (w.heap.size + 1) 0 _) (Chg.setCell _ (w.heap.size + 1) 1 _)) (Chg.setCell _ (w.heap.size + 1) 2 _)) (by omega)).mono (by omega)⟩, E3.step (Chg.trans (Chg.trans (Chg.setCell _ (w.heap.size + 1) 0 _) (Chg.setCell _ (w.heap.size + 1) 1 _)) (Chg.setCell _ (w.heap.size + 1) 2 _)) (by omega)⟩
    · have hcl : ¬ cmpR (((1 : Int) : Rat) - x) x < 0 := fun h => hlt (cmpR_lt.1 h)
      have hfin : brokenQ x = x := if_neg hlt
      have Hfin := Lib.hid hfin
      clear hfin hlt
      obtain ⟨r, hr⟩ : ∃ r, r = cmpR (((1 : Int) : Rat) - x) x := ⟨_, rfl⟩
      rw [← hr] at hcl ⊢
      clear hr
      have D1 := B1.ext e3
      have hc0 := D1.cell 0
      have hc1 := D1.cell 1
      have hc2 := D1.cell 2
      go_wp2_with fail
      refine (form_calls _ x k _ (Hx.out.ext E3) (by omega)).mono ?_
      rintro e w4 ⟨v4, rfl, q4, e4⟩
      clear hc0 hc1 hc2
      have C2 := B2.ext (e3.trans e4)
      have hf0 := C2.free 0
      have hf1 := C2.free 1
      have hf2 := C2.free 2
      have hd0 := C2.cell 0
      have hd1 := C2.cell 1
      have hd2 := C2.cell 2
      obtain ⟨s', t', rfl, hn, hm⟩ := q4
      obtain ⟨ad9, cap9, rfl⟩ := hn.slice
      obtain ⟨ad8, cap8, rfl⟩ := hm.slice
      have Hn := Lib.hid hn
      have Hm := Lib.hid hm
      clear hn hm
      have hs := e1.size
      have hs3 := e3.size
      go_wp2
      refine ret_box 6 28 (w.heap.size + 1) 28 _ _ (by kernel_rfl) rfl (((C2.set 0 _).set 1 _).set 2 _) Try.underlying28 rfl (by kernel_rfl) rfl ?_
      rw [Hfin.out]
      exact ⟨_, rfl, ⟨_, _, rfl, (Hn.out.chg (Chg.trans (Chg.trans (Chg.setCell _ (w.heap.size + 1) 0 _) (Chg.setCell _ (w.heap.size + 1) 1 _)) (Chg.setCell _ (w.heap.size + 1) 2 _)) (by omega)).mono (by omega), (Hm.out.chg (Chg.trans (Chg.trans (Chg.setCell _ (w.heap.size + 1) 0 _) (Chg.setCell _ (w.heap.size + 1) 1 _)) (Chg.setCell _ (w.heap.size + 1) 2 _)) (by omega)).mono (by omega)⟩, (E3.trans e4).step (Chg.trans (Chg.trans (Chg.setCell _ (w.heap.size + 1) 0 _) (Chg.setCell _ (w.heap.size + 1) 1 _)) (Chg.setCell _ (w.heap.size + 1) 2 _)) (by omega)⟩
end Go.Proofs.Ytkcnnlhaiahpbaa

/-
  What a Brancher scores by what was learned; and its Score.
-/
namespace Go.Proofs.Ytkcnnlhaiahpbaa
open Go.RowKit
set_option linter.unusedVariables false
set_option linter.unusedSimpArgs false

set_option maxRecDepth 100000 in
set_option maxHeartbeats 1000000 in
theorem product_calls (p : Nat) (c : Int) (v : Value) (m0 m1 x : Rat) (k : Nat) (w : World) (hx : IsR w v x k) (hk : k ≤ 1000) (h0 : MeanAt p w c false m0) (h1 : MeanAt p w c true m1) (hm0 : szQ m0 ≤ 100) (hm1 : szQ m1 ≤ 100) :
    Calls Try.prog 105 #[.pointer (some ⟨p, 0, none⟩), .int .i64 c, v] w fun e w' => ∃ v', e = .returned v' ∧ FrQ w.heap.size w' v' (m0 * x * (m1 * (((1 : Int) : Rat) - x))) ∧ Ext w w' := by
  have Hx := Lib.hid hx
  have H0 := Lib.hid h0
  have H1 := Lib.hid h1
  obtain ⟨b, ad, n, cap, ad2, n2, cap2, rfl⟩ := hx.opn
  clear hx h0 h1
  have lim : (4096 : Nat) ≤ LIM := by rw [LIM_eq]; omega
  have h1z : szQ ((1 : Int) : Rat) ≤ 1 := by decide
  have sx := Hx.out.sz
  have hsz : szQ (((1 : Int) : Rat) - x) ≤ 1 + k + 1 := by
    rw [Rat.sub_eq_add_neg]
    refine szQ_add h1z ?_
    unfold szQ szZ at *
    rwa [Rat.neg_num, Rat.neg_den, Int.natAbs_neg]
  have hd := szQ_mul hm0 sx
  have he := szQ_mul hm1 hsz
  go_enter Try.func105, Try.ntmps105
  obtain ⟨w1, hw1, e1, b1, b2, s1⟩ := alloc2 w #[.bool b, .slice ad n cap, .slice ad2 n2 cap2] #[.bool false, .slice none 0 0, .slice none 0 0] 28 28
  go_wp2_with fail
  rw [← hw1]
  refine wp_region_als [⟨6, 28, 3, #[.bool false, .slice none 0 0, .slice none 0 0]⟩] [⟨7, ⟨6, 28, 3, #[.bool false, .slice none 0 0, .slice none 0 0]⟩, PA.frQ (m0 * x)⟩] [PA.val (.pointer (some ⟨p, 0, none⟩)), PA.val (.int .i64 c), PA.val (.agg #[.int .i64 c, .bool false]), PA.frQ m0, PA.val (.agg #[.bool b, .slice ad n cap, .slice ad2 n2 cap2]), PA.frQ (m0 * x), PA.any, PA.any]
    (by kernel_rfl) (by kernel_rfl) (fun f => (by simp only [fillR, fillL, List.setIfInBounds_toArray, List.set_cons_succ, List.set_cons_zero, Nat.reduceAdd]; rfl)) ?_ ?_ ?_ ?_ ?_
  · intro x hx; simp only [List.mem_cons, List.not_mem_nil, or_false] at hx; rcases hx with rfl
    · exact ⟨rfl, rfl, by decide, by decide, rfl, noInt3 _ _ _ _ _ _ _⟩
  · intro x hx; simp only [List.mem_cons, List.not_mem_nil, or_false] at hx; rcases hx with rfl <;> exact ⟨rfl, rfl, by simp⟩
  · intro x hx y hy h; simp only [List.mem_cons, List.not_mem_nil, or_false] at hx hy; rcases hx with rfl <;> rcases hy with rfl
    · exact absurd rfl h
  · refine ⟨?o0, ?o1, ?o2, ?o3, ?o4, ?o5, ?o6, ?o7, trivial⟩
    case o0 =>
      intro f w2 hE hp
      have hS := hE.size
      change OpGoal _ _ _ f w2 Ext _
      simp only [OpGoal]
      go_simp
      exact ⟨_, rfl, Ext.refl _, rfl⟩
    case o1 =>
      intro f w2 hE hp
      have hS := hE.size
      change OpGoal _ _ _ f w2 Ext _
      simp only [OpGoal]
      go_simp
      exact ⟨_, rfl, Ext.refl _, rfl⟩
    case o2 =>
      intro f w2 hE hp
      have hS := hE.size
      have q9 : f 1 = .int .i64 c := tellA hp 0 1 rfl rfl rfl
      change OpGoal _ _ _ f w2 Ext _
      simp only [OpGoal]
      go_simp
      exact ⟨_, rfl, Ext.refl _, rfl⟩
    case o3 =>
      intro f w2 hE hp
      have hS := hE.size
      have q8 : f 0 = .pointer (some ⟨p, 0, none⟩) := tellA hp 0 0 rfl rfl rfl
      have q10 : f 2 = .agg #[.int .i64 c, .bool false] := tellA hp 1 2 rfl rfl rfl
      change OpGoal _ _ _ f w2 Ext _
      refine og_call (P := Try.prog) _ _ _ #[f 0, f 2] Try.func131 (by kernel_rfl) (by kernel_rfl) rfl rfl (by kernel_rfl) ?_
      rw [q8, q10]
      refine (H0.out _ (e1.trans hE)).mono ?_
      rintro e w' ⟨v', rfl, h1, h2⟩
      exact ⟨v', rfl, h2, h1.mono hS⟩
    case o4 =>
      intro f w2 hE hp
      have hS := hE.size
      change OpGoal _ _ _ f w2 Ext _
      exact og_load (P := Try.prog) _ _ w.heap.size _ _ _ rfl rfl rfl (b1.ext hE) Try.underlying28 rfl (by kernel_rfl) rfl
    case o5 =>
      intro f w2 hE hp
      have hS := hE.size
      have q11 := tellA hp 0 3 rfl rfl rfl
      have q12 : f 4 = .agg #[.bool b, .slice ad n cap, .slice ad2 n2 cap2] := tellA hp 1 4 rfl rfl rfl
      change OpGoal _ _ _ f w2 Ext _
      refine og_call (P := Try.prog) _ _ _ #[f 3, f 4] Try.func45 (by kernel_rfl) (by kernel_rfl) rfl rfl (by kernel_rfl) ?_
      rw [q12]
      refine (rmul_calls _ _ m0 x 100 k _ (q11.isR hm0 (by omega)) (Hx.out.ext (e1.trans hE)) (by omega)).mono ?_
      rintro e w' ⟨v', rfl, h1, _, h2⟩
      exact ⟨v', rfl, h2, h1.mono hS⟩
    case o6 =>
      intro f w2 hE hp
      have hS := hE.size
      change OpGoal _ _ _ f w2 (fun a b => b = a.alloc _) _
      exact og_alloc (P := Try.prog) _ _ (.agg #[.bool false, .slice none 0 0, .slice none 0 0]) rfl rfl (by kernel_rfl) rfl
    case o7 =>
      intro f w2 hE hp
      have hS := hE.size
      have q13 := tellA hp 1 5 rfl rfl rfl
      intro g old hfa hSg hbx hsz hno
      change OpGoal _ _ _ f w2 (Chg g) _
      obtain ⟨cells, hv, hcs, hc1, hcn⟩ := FrQ.parts q13
      exact og_storeA (P := Try.prog) (PA.frQ (m0 * x)) 3 _ _ _ g _ old cells rfl rfl hfa hv hbx (by rw [hcs]; kernel_rfl) hsz hcs hc1 hSg (show 28 ≠ 105 by decide) (show 28 ≠ 3 by decide) hno hcn (hv ▸ q13)
  · intro f w2 hE hp hal
    obtain ⟨ga7, ca7, fa7, la7, ba7, na7, pa7⟩ := hal ⟨6, 28, 3, #[.bool false, .slice none 0 0, .slice none 0 0]⟩ (by simp) (by decide)
    dsimp only at fa7 la7 ba7 na7
    have za7 := pa7 ⟨7, ⟨6, 28, 3, #[.bool false, .slice none 0 0, .slice none 0 0]⟩, PA.frQ (m0 * x)⟩ (by simp) (by show 7 < 8; decide) rfl rfl
    clear pa7
    clear hp hal
    obtain ⟨b7, ad7, l7, cap7, bd7, m7, dap7, hv7, q7⟩ := FrQ.opn za7
    cases hv7
    have E2 := e1.trans hE
    have B1 := b1.ext hE
    have B2 := b2.ext hE
    have hs2 := hE.size
    have Q7 := q7.isR hd (by omega)
    have hs1 := e1.size
    clear hE b1 b2
    go_wp2_with fail
    refine wp_region_puts [⟨10, (w.heap.size + 1), 28, PP.frQ (m0 * x * (m1 * (((1 : Int) : Rat) - x)))⟩] [PP.val (.agg #[.bool b7, .slice ad7 l7 cap7, .slice bd7 m7 dap7]), PP.val (.pointer (some ⟨p, 0, none⟩)), PP.val (.int .i64 c), PP.val (.agg #[.int .i64 c, .bool true]), PP.frQ m1, PP.frQ ((1 : Int) : Rat), PP.val (.agg #[.bool b, .slice ad n cap, .slice ad2 n2 cap2]), PP.frQ (((1 : Int) : Rat) - x), PP.frQ (m1 * (((1 : Int) : Rat) - x)), PP.frQ (m0 * x * (m1 * (((1 : Int) : Rat) - x))), PP.any] [] [10, 9, 8, 7, 6, 5, 4, 3, 2, 1, 0]
      (by kernel_rfl) (by kernel_rfl) (fun f => (by simp only [fillR, fillL, List.setIfInBounds_toArray, List.set_cons_succ, List.set_cons_zero, Nat.reduceAdd]; rfl)) ?_ ?_ ?_ ?_ ?_
    · intro x hx; simp only [List.mem_singleton] at hx; subst hx; exact ⟨by show (w.heap.size + 1) < w2.heap.size; omega, rfl⟩
    · intro x hx; simp only [List.mem_singleton] at hx; subst hx; rfl
    · intro x hx y hy h; simp only [List.mem_singleton] at hx hy; subst hx hy; exact absurd rfl h
    · refine ⟨?o0, ?o1, ?o2, ?o3, ?o4, ?o5, ?o6, ?o7, ?o8, ?o9, ?o10, trivial⟩
      case o0 =>
        intro f w3 hG hp hl
        have hE : Ext w2 w3 := hG
        have hS := hE.size
        change OpGoal _ _ _ f w3 Ext _
        exact og_load (P := Try.prog) _ _ ga7 _ _ _ rfl rfl rfl (ba7.ext hE) Try.underlying28 rfl (by kernel_rfl) rfl
      case o1 =>
        intro f w3 hG hp hl
        have hE : Ext w2 w3 := hG
        have hS := hE.size
        simp only [OpGoal]
        go_simp
        exact ⟨_, rfl, Ext.refl _, rfl⟩
      case o2 =>
        intro f w3 hG hp hl
        have hE : Ext w2 w3 := hG
        have hS := hE.size
        simp only [OpGoal]
        go_simp
        exact ⟨_, rfl, Ext.refl _, rfl⟩
      case o3 =>
        intro f w3 hG hp hl
        have hE : Ext w2 w3 := hG
        have hS := hE.size
        have q16 : f 2 = .int .i64 c := tellV hp 0 2 rfl rfl (fun h => by cases h)
        simp only [OpGoal]
        go_simp
        exact ⟨_, rfl, Ext.refl _, rfl⟩
      case o4 =>
        intro f w3 hG hp hl
        have hE : Ext w2 w3 := hG
        have hS := hE.size
        have q15 : f 1 = .pointer (some ⟨p, 0, none⟩) := tellV hp 0 1 rfl rfl (fun h => by cases h)
        have q17 : f 3 = .agg #[.int .i64 c, .bool true] := tellV hp 1 3 rfl rfl (fun h => by cases h)
        change OpGoal _ _ _ f w3 Ext _
        refine og_call (P := Try.prog) _ _ _ #[f 1, f 3] Try.func131 (by kernel_rfl) (by kernel_rfl) rfl rfl (by kernel_rfl) ?_
        rw [q15, q17]
        refine (H1.out _ (E2.trans hE)).mono ?_
        rintro e w' ⟨v', rfl, h1, h2⟩
        exact ⟨v', rfl, h2, h1.mono hS⟩
      case o5 =>
        intro f w3 hG hp hl
        have hE : Ext w2 w3 := hG
        have hS := hE.size
        change OpGoal _ _ _ f w3 Ext _
        refine og_call (P := Try.prog) _ _ _ #[.int .i64 1] Try.func26 (by kernel_rfl) (by kernel_rfl) rfl rfl (by kernel_rfl) ?_
        refine (rwhole_calls 1 _ (by omega) (by omega)).mono ?_
        rintro e w' ⟨v', rfl, h1, h2⟩
        exact ⟨v', rfl, h2, h1.mono hS⟩
      case o6 =>
        intro f w3 hG hp hl
        have hE : Ext w2 w3 := hG
        have hS := hE.size
        change OpGoal _ _ _ f w3 Ext _
        exact og_load (P := Try.prog) _ _ w.heap.size _ _ _ rfl rfl rfl (B1.ext hE) Try.underlying28 rfl (by kernel_rfl) rfl
      case o7 =>
        intro f w3 hG hp hl
        have hE : Ext w2 w3 := hG
        have hS := hE.size
        have q19 := tellV hp 0 5 rfl rfl (fun _ => hE)
        have q20 : f 6 = .agg #[.bool b, .slice ad n cap, .slice ad2 n2 cap2] := tellV hp 1 6 rfl rfl (fun h => by cases h)
        change OpGoal _ _ _ f w3 Ext _
        refine og_call (P := Try.prog) _ _ _ #[f 5, f 6] Try.func44 (by kernel_rfl) (by kernel_rfl) rfl rfl (by kernel_rfl) ?_
        rw [q20]
        refine (rsub_calls _ _ ((1 : Int) : Rat) x 1 k _ (q19.isR h1z (by omega)) (Hx.out.ext (E2.trans hE)) (by omega)).mono ?_
        rintro e w' ⟨v', rfl, h1, _, h2⟩
        exact ⟨v', rfl, h2, h1.mono hS⟩
      case o8 =>
        intro f w3 hG hp hl
        have hE : Ext w2 w3 := hG
        have hS := hE.size
        have q18 := tellV hp 0 4 rfl rfl (fun _ => hE)
        have q21 := tellV hp 1 7 rfl rfl (fun _ => hE)
        change OpGoal _ _ _ f w3 Ext _
        refine og_call (P := Try.prog) _ _ _ #[f 4, f 7] Try.func45 (by kernel_rfl) (by kernel_rfl) rfl rfl (by kernel_rfl) ?_
        refine (rmul_calls _ _ m1 (((1 : Int) : Rat) - x) 100 (1 + k + 1) _ (q18.isR hm1 (by omega)) (q21.isR hsz (by omega)) (by omega)).mono ?_
        rintro e w' ⟨v', rfl, h1, _, h2⟩
        exact ⟨v', rfl, h2, h1.mono hS⟩
      case o9 =>
        intro f w3 hG hp hl
        have hE : Ext w2 w3 := hG
        have hS := hE.size
        have q14 : f 0 = .agg #[.bool b7, .slice ad7 l7 cap7, .slice bd7 m7 dap7] := tellV hp 0 0 rfl rfl (fun h => by cases h)
        have q22 := tellV hp 1 8 rfl rfl (fun _ => hE)
        change OpGoal _ _ _ f w3 Ext _
        refine og_call (P := Try.prog) _ _ _ #[f 0, f 8] Try.func45 (by kernel_rfl) (by kernel_rfl) rfl rfl (by kernel_rfl) ?_
        rw [q14]
        refine (rmul_calls _ _ (m0 * x) (m1 * (((1 : Int) : Rat) - x)) (100 + k) (100 + (1 + k + 1)) _ (Q7.ext hE) (q22.isR he (by omega)) (by omega)).mono ?_
        rintro e w' ⟨v', rfl, h1, _, h2⟩
        exact ⟨v', rfl, h2, h1.mono hS⟩
      case o10 =>
        intro f w3 hG hp hl
        have hE : Ext w2 w3 := hG
        have hS := hE.size
        have q23 := tellV hp 0 9 rfl rfl (fun _ => hE)
        intro hg0
        change OpGoal _ _ _ f w3 (Chg _) _
        obtain ⟨s', t', hv, hn, hm⟩ := q23
        exact og_store (P := Try.prog) _ _ _ (w.heap.size + 1) _ _ _ (PP.frQ _ : PP _).p rfl rfl rfl hv (show Bx 28 w3 _ _ from hg0.trans B2) (by kernel_rfl) rfl (all3 rfl hn.oneCell hm.oneCell) (fun w' h => ⟨s', t', rfl, hn.chg h (by omega), hm.chg h (by omega)⟩)
    · intro f w3 hG hp
      obtain ⟨cs0, hbx0, hz0⟩ : ∃ cs, Bx 28 w3 (w.heap.size + 1) cs ∧ (PP.frQ (m0 * x * (m1 * (((1 : Int) : Rat) - x))) : PP w2.heap.size).p (.agg cs) w3 := endS hp 10 (by decide)
      clear hp
      have hz1 := hz0.mono (show w.heap.size ≤ _ by omega)
      obtain ⟨s', t', hvv, hnn, hmm⟩ := hz0
      cases hvv
      go_wp2
      refine ret_box 6 28 (w.heap.size + 1) 28 _ _ (by kernel_rfl) rfl hbx0 Try.underlying28 rfl (by kernel_rfl) rfl ?_
      exact ⟨_, rfl, hz1, E2.stepS hG (by simp)⟩
set_option maxRecDepth 100000 in
set_option maxHeartbeats 1000000 in
/-- The Brancher scores by rule r, with these means. -/
theorem score_calls (p m : Nat) (r : Int) (c : Int) (v : Value) (m0 m1 x : Rat) (k : Nat) (w : World) (hb : Bx 132 w p #[.func (.func (if r = 0 then 104 else 105)) #[] #[], .map (some m)])
    (hx : IsR w v x k) (hk : k ≤ 1000) (h0 : MeanAt p w c false m0) (h1 : MeanAt p w c true m1) (hm0 : szQ m0 ≤ 100) (hm1 : szQ m1 ≤ 100) :
    Calls Try.prog 67 #[.pointer (some ⟨p, 0, none⟩), .int .i64 c, v] w fun e w' => ∃ v', e = .returned v' ∧ FrQ w.heap.size w' v' (scoreQ r m0 m1 x) ∧ Ext w w' := by
  have Hx := Lib.hid hx
  have H0 := Lib.hid h0
  have H1 := Lib.hid h1
  obtain ⟨b, ad, n, cap, ad2, n2, cap2, rfl⟩ := hx.opn
  clear hx h0 h1
  go_enter Try.func67, Try.ntmps67
  obtain ⟨w1, hw1, e1, b1, b2, s1⟩ := alloc2 w #[.bool b, .slice ad n cap, .slice ad2 n2 cap2] #[.bool false, .slice none 0 0, .slice none 0 0] 28 28
  by_cases hr : r = 0
  · rw [if_pos hr] at hb
    have Hr := Lib.hid (show scoreQ r m0 m1 x = brokenQ x from if_pos hr)
    have B := hb.ext e1
    have hs1 := e1.size
    have hpl := blk_lt hb
    clear hr hb
    go_wp2_with fail
    rw [← hw1]
    refine wp_region_puts [⟨8, (w.heap.size + 1), 28, PP.frQ (scoreQ r m0 m1 x)⟩] [PP.val (.pointer (some ⟨p, 0, none⟩)), PP.val (.pointer (some ⟨p, 0, none⟩)), PP.val (.pointer (some ⟨p, 0, none⟩)), PP.val (.func (.func 104) #[] #[]), PP.val (.pointer (some ⟨p, 0, none⟩)), PP.val (.int .i64 c), PP.val (.agg #[.bool b, .slice ad n cap, .slice ad2 n2 cap2]), PP.frQ (scoreQ r m0 m1 x), PP.any] [] [8, 7, 6, 5, 4, 3, 2, 1, 0]
      (by kernel_rfl) (by kernel_rfl) (fun f => (by simp only [fillR, fillL, List.setIfInBounds_toArray, List.set_cons_succ, List.set_cons_zero, Nat.reduceAdd]; rfl)) ?_ ?_ ?_ ?_ ?_
    · intro x hx; simp only [List.mem_singleton] at hx; subst hx; exact ⟨by show (w.heap.size + 1) < w1.heap.size; omega, rfl⟩
    · intro x hx; simp only [List.mem_singleton] at hx; subst hx; rfl
    · intro x hx y hy h; simp only [List.mem_singleton] at hx hy; subst hx hy; exact absurd rfl h
    · refine ⟨?o0, ?o1, ?o2, ?o3, ?o4, ?o5, ?o6, ?o7, ?o8, trivial⟩
      case o0 =>
        intro f w2 hG hp hl
        have hE : Ext w1 w2 := hG
        have hS := hE.size
        simp only [OpGoal]
        go_simp
        exact ⟨_, rfl, Ext.refl _, rfl⟩
      case o1 =>
        intro f w2 hG hp hl
        have hE : Ext w1 w2 := hG
        have hS := hE.size
        have q7 : f 0 = .pointer (some ⟨p, 0, none⟩) := tellV hp 0 0 rfl rfl (fun h => by cases h)
        simp only [OpGoal]
        go_simp
        exact ⟨_, rfl, Ext.refl _, rfl⟩
      case o2 =>
        intro f w2 hG hp hl
        have hE : Ext w1 w2 := hG
        have hS := hE.size
        have q8 : f 1 = .pointer (some ⟨p, 0, none⟩) := tellV hp 0 1 rfl rfl (fun h => by cases h)
        simp only [OpGoal]
        go_simp
        exact ⟨_, rfl, Ext.refl _, rfl⟩
      case o3 =>
        intro f w2 hG hp hl
        have hE : Ext w1 w2 := hG
        have hS := hE.size
        have q9 : f 2 = .pointer (some ⟨p, 0, none⟩) := tellV hp 0 2 rfl rfl (fun h => by cases h)
        have hcell := (B.ext hE).cell 0
        simp only [OpGoal]
        go_simp
        exact ⟨_, rfl, Ext.refl _, rfl⟩
      case o4 =>
        intro f w2 hG hp hl
        have hE : Ext w1 w2 := hG
        have hS := hE.size
        simp only [OpGoal]
        go_simp
        exact ⟨_, rfl, Ext.refl _, rfl⟩
      case o5 =>
        intro f w2 hG hp hl
        have hE : Ext w1 w2 := hG
        have hS := hE.size
        simp only [OpGoal]
        go_simp
        exact ⟨_, rfl, Ext.refl _, rfl⟩
      case o6 =>
        intro f w2 hG hp hl
        have hE : Ext w1 w2 := hG
        have hS := hE.size
        change OpGoal _ _ _ f w2 Ext _
        exact og_load (P := Try.prog) _ _ w.heap.size _ _ _ rfl rfl rfl (b1.ext hE) Try.underlying28 rfl (by kernel_rfl) rfl
      case o7 =>
        intro f w2 hG hp hl
        have hE : Ext w1 w2 := hG
        have hS := hE.size
        have q10 : f 3 = .func (.func 104) #[] #[] := tellV hp 0 3 rfl rfl (fun h => by cases h)
        have q11 : f 4 = .pointer (some ⟨p, 0, none⟩) := tellV hp 1 4 rfl rfl (fun h => by cases h)
        have q12 : f 5 = .int .i64 c := tellV hp 2 5 rfl rfl (fun h => by cases h)
        have q13 : f 6 = .agg #[.bool b, .slice ad n cap, .slice ad2 n2 cap2] := tellV hp 3 6 rfl rfl (fun h => by cases h)
        change OpGoal _ _ _ f w2 Ext _
        refine og_callv (P := Try.prog) _ _ _ _ #[f 4, f 5, f 6] Try.func104 (by kernel_rfl) (by kernel_rfl) rfl rfl q10 (by kernel_rfl) ?_
        rw [q11, q12, q13]
        refine (broken_calls _ c _ x k _ (Hx.out.ext (e1.trans hE)) hk).mono ?_
        rw [Hr.out]
        rintro e w' ⟨v', rfl, h1, h2⟩
        exact ⟨v', rfl, h2, h1.mono hS⟩
      case o8 =>
        intro f w2 hG hp hl
        have hE : Ext w1 w2 := hG
        have hS := hE.size
        have q14 := tellV hp 0 7 rfl rfl (fun _ => hE)
        intro hg0
        change OpGoal _ _ _ f w2 (Chg _) _
        obtain ⟨s', t', hv, hn, hm⟩ := q14
        exact og_store (P := Try.prog) _ _ _ (w.heap.size + 1) _ _ _ (PP.frQ _ : PP _).p rfl rfl rfl hv (show Bx 28 w2 _ _ from hg0.trans b2) (by kernel_rfl) rfl (all3 rfl hn.oneCell hm.oneCell) (fun w' h => ⟨s', t', rfl, hn.chg h (by omega), hm.chg h (by omega)⟩)
    · intro f w2 hG hp
      obtain ⟨cs0, hbx0, hz0⟩ : ∃ cs, Bx 28 w2 (w.heap.size + 1) cs ∧ (PP.frQ (scoreQ r m0 m1 x) : PP w1.heap.size).p (.agg cs) w2 := endS hp 8 (by decide)
      clear hp
      have hz1 := hz0.mono (show w.heap.size ≤ _ by omega)
      obtain ⟨s', t', hvv, hnn, hmm⟩ := hz0
      cases hvv
      go_wp2
      refine ret_box 6 28 (w.heap.size + 1) 28 _ _ (by kernel_rfl) rfl hbx0 Try.underlying28 rfl (by kernel_rfl) rfl ?_
      exact ⟨_, rfl, hz1, e1.stepS hG (by simp)⟩
  · rw [if_neg hr] at hb
    have Hr := Lib.hid (show scoreQ r m0 m1 x = m0 * x * (m1 * (((1 : Int) : Rat) - x)) from if_neg hr)
    have B := hb.ext e1
    have hs1 := e1.size
    have hpl := blk_lt hb
    clear hr hb
    go_wp2_with fail
    rw [← hw1]
    refine wp_region_puts [⟨8, (w.heap.size + 1), 28, PP.frQ (scoreQ r m0 m1 x)⟩] [PP.val (.pointer (some ⟨p, 0, none⟩)), PP.val (.pointer (some ⟨p, 0, none⟩)), PP.val (.pointer (some ⟨p, 0, none⟩)), PP.val (.func (.func 105) #[] #[]), PP.val (.pointer (some ⟨p, 0, none⟩)), PP.val (.int .i64 c), PP.val (.agg #[.bool b, .slice ad n cap, .slice ad2 n2 cap2]), PP.frQ (scoreQ r m0 m1 x), PP.any] [] [8, 7, 6, 5, 4, 3, 2, 1, 0]
      (by kernel_rfl) (by kernel_rfl) (fun f => (by simp only [fillR, fillL, List.setIfInBounds_toArray, List.set_cons_succ, List.set_cons_zero, Nat.reduceAdd]; rfl)) ?_ ?_ ?_ ?_ ?_
    · intro x hx; simp only [List.mem_singleton] at hx; subst hx; exact ⟨by show (w.heap.size + 1) < w1.heap.size; omega, rfl⟩
    · intro x hx; simp only [List.mem_singleton] at hx; subst hx; rfl
    · intro x hx y hy h; simp only [List.mem_singleton] at hx hy; subst hx hy; exact absurd rfl h
    · refine ⟨?o0, ?o1, ?o2, ?o3, ?o4, ?o5, ?o6, ?o7, ?o8, trivial⟩
      case o0 =>
        intro f w2 hG hp hl
        have hE : Ext w1 w2 := hG
        have hS := hE.size
        simp only [OpGoal]
        go_simp
        exact ⟨_, rfl, Ext.refl _, rfl⟩
      case o1 =>
        intro f w2 hG hp hl
        have hE : Ext w1 w2 := hG
        have hS := hE.size
        have q7 : f 0 = .pointer (some ⟨p, 0, none⟩) := tellV hp 0 0 rfl rfl (fun h => by cases h)
        simp only [OpGoal]
        go_simp
        exact ⟨_, rfl, Ext.refl _, rfl⟩
      case o2 =>
        intro f w2 hG hp hl
        have hE : Ext w1 w2 := hG
        have hS := hE.size
        have q8 : f 1 = .pointer (some ⟨p, 0, none⟩) := tellV hp 0 1 rfl rfl (fun h => by cases h)
        simp only [OpGoal]
        go_simp
        exact ⟨_, rfl, Ext.refl _, rfl⟩
      case o3 =>
        intro f w2 hG hp hl
        have hE : Ext w1 w2 := hG
        have hS := hE.size
        have q9 : f 2 = .pointer (some ⟨p, 0, none⟩) := tellV hp 0 2 rfl rfl (fun h => by cases h)
        have hcell := (B.ext hE).cell 0
        simp only [OpGoal]
        go_simp
        exact ⟨_, rfl, Ext.refl _, rfl⟩
      case o4 =>
        intro f w2 hG hp hl
        have hE : Ext w1 w2 := hG
        have hS := hE.size
        simp only [OpGoal]
        go_simp
        exact ⟨_, rfl, Ext.refl _, rfl⟩
      case o5 =>
        intro f w2 hG hp hl
        have hE : Ext w1 w2 := hG
        have hS := hE.size
        simp only [OpGoal]
        go_simp
        exact ⟨_, rfl, Ext.refl _, rfl⟩
      case o6 =>
        intro f w2 hG hp hl
        have hE : Ext w1 w2 := hG
        have hS := hE.size
        change OpGoal _ _ _ f w2 Ext _
        exact og_load (P := Try.prog) _ _ w.heap.size _ _ _ rfl rfl rfl (b1.ext hE) Try.underlying28 rfl (by kernel_rfl) rfl
      case o7 =>
        intro f w2 hG hp hl
        have hE : Ext w1 w2 := hG
        have hS := hE.size
        have q10 : f 3 = .func (.func 105) #[] #[] := tellV hp 0 3 rfl rfl (fun h => by cases h)
        have q11 : f 4 = .pointer (some ⟨p, 0, none⟩) := tellV hp 1 4 rfl rfl (fun h => by cases h)
        have q12 : f 5 = .int .i64 c := tellV hp 2 5 rfl rfl (fun h => by cases h)
        have q13 : f 6 = .agg #[.bool b, .slice ad n cap, .slice ad2 n2 cap2] := tellV hp 3 6 rfl rfl (fun h => by cases h)
        change OpGoal _ _ _ f w2 Ext _
        refine og_callv (P := Try.prog) _ _ _ _ #[f 4, f 5, f 6] Try.func105 (by kernel_rfl) (by kernel_rfl) rfl rfl q10 (by kernel_rfl) ?_
        rw [q11, q12, q13]
        refine (product_calls p c _ m0 m1 x k _ (Hx.out.ext (e1.trans hE)) hk (H0.out.ext (e1.trans hE)) (H1.out.ext (e1.trans hE)) hm0 hm1).mono ?_
        rw [Hr.out]
        rintro e w' ⟨v', rfl, h1, h2⟩
        exact ⟨v', rfl, h2, h1.mono hS⟩
      case o8 =>
        intro f w2 hG hp hl
        have hE : Ext w1 w2 := hG
        have hS := hE.size
        have q14 := tellV hp 0 7 rfl rfl (fun _ => hE)
        intro hg0
        change OpGoal _ _ _ f w2 (Chg _) _
        obtain ⟨s', t', hv, hn, hm⟩ := q14
        exact og_store (P := Try.prog) _ _ _ (w.heap.size + 1) _ _ _ (PP.frQ _ : PP _).p rfl rfl rfl hv (show Bx 28 w2 _ _ from hg0.trans b2) (by kernel_rfl) rfl (all3 rfl hn.oneCell hm.oneCell) (fun w' h => ⟨s', t', rfl, hn.chg h (by omega), hm.chg h (by omega)⟩)
    · intro f w2 hG hp
      obtain ⟨cs0, hbx0, hz0⟩ : ∃ cs, Bx 28 w2 (w.heap.size + 1) cs ∧ (PP.frQ (scoreQ r m0 m1 x) : PP w1.heap.size).p (.agg cs) w2 := endS hp 8 (by decide)
      clear hp
      have hz1 := hz0.mono (show w.heap.size ≤ _ by omega)
      obtain ⟨s', t', hvv, hnn, hmm⟩ := hz0
      cases hvv
      go_wp2
      refine ret_box 6 28 (w.heap.size + 1) 28 _ _ (by kernel_rfl) rfl hbx0 Try.underlying28 rfl (by kernel_rfl) rfl ?_
      exact ⟨_, rfl, hz1, e1.stepS hG (by simp)⟩
end Go.Proofs.Ytkcnnlhaiahpbaa

/-
  Which variable a Brancher that has learned nothing chooses.
-/
namespace Go.Proofs.Ytkcnnlhaiahpbaa
open Go.RowKit
set_option linter.unusedVariables false
set_option linter.unusedSimpArgs false

/-- A list of fractions in any form, of at most k words in each part. -/
def SLR (k : Nat) (w : World) (u : Value) (qs : List Rat) : Prop := SL 3 (fun w v q => IsR w v q k) w u qs
set_option maxRecDepth 100000 in
set_option maxHeartbeats 1000000 in
theorem IsR.ext' {w w' : World} {v : Value} {x : Rat} {k : Nat} (h : IsR w v x k) (he : Ext w w') : IsR w' v x k := h.ext he
set_option maxRecDepth 100000 in
set_option maxHeartbeats 1000000 in
theorem SLR.ext {k : Nat} {w w' : World} {u : Value} {qs : List Rat} (h : SLR k w u qs) (he : Ext w w') : SLR k w' u qs := SL.ext (fun _ _ h => h.ext he) h he
set_option maxRecDepth 100000 in
set_option maxHeartbeats 1000000 in
theorem SLR.at {k : Nat} {w : World} {u : Value} {qs : List Rat} (h : SLR k w u qs) : ∃ ad m cap, m = qs.length ∧ u = .slice ad m cap ∧ m ≤ 9223372036854775807 ∧ ∀ (i : Nat) (q : Rat), qs[i]? = some q → ∃ g off, ad = some ⟨g, off, none⟩ ∧ ∃ b a1 n1 c1 a2 n2 c2,
    ∀ wz, Ext w wz → wz.cell? ⟨g, off + i * 3, none⟩ = some (.bool b) ∧ wz.cell? ⟨g, off + i * 3 + 1, none⟩ = some (.slice a1 n1 c1) ∧ wz.cell? ⟨g, off + i * 3 + 2, none⟩ = some (.slice a2 n2 c2) ∧ IsR wz (.agg #[.bool b, .slice a1 n1 c1, .slice a2 n2 c2]) q k := by
  obtain ⟨ad, m, cap, h1, h2, h3, h4⟩ := SL.opn h
  refine ⟨ad, m, cap, h1, h2, h3, fun i e hi => ?_⟩
  obtain ⟨g, off, k1, cs, k2, k3, k4⟩ := h4 i e hi
  obtain ⟨b, a1, n1, c1, a2, n2, c2, j3⟩ := k4.opn
  cases j3
  exact ⟨g, off, k1, _, a1, n1, c1, a2, n2, c2, fun wz hz => ⟨k3 wz hz 0 _ rfl, k3 wz hz 1 _ rfl, k3 wz hz 2 _ rfl, k4.ext hz⟩⟩

set_option maxRecDepth 100000 in
set_option maxHeartbeats 1000000 in
theorem szQ_one : szQ ((1 : Int) : Rat) ≤ 1 := by decide
set_option maxRecDepth 100000 in
set_option maxHeartbeats 1000000 in
theorem szQ_left {x : Rat} {k : Nat} (h : szQ x ≤ k) : szQ (((1 : Int) : Rat) - x) ≤ 1 + k + 1 := by
  rw [Rat.sub_eq_add_neg]
  refine szQ_add szQ_one ?_
  unfold szQ szZ at *
  rwa [Rat.neg_num, Rat.neg_den, Int.natAbs_neg]
set_option maxRecDepth 100000 in
set_option maxHeartbeats 1000000 in
theorem szQ_score {r : Int} {x : Rat} {k : Nat} (h : szQ x ≤ k) : szQ (scoreQ r ((1 : Int) : Rat) ((1 : Int) : Rat) x) ≤ 2 * k + 4 := by
  have h1 := szQ_left h
  unfold scoreQ
  split
  · unfold brokenQ
    split <;> omega
  · exact Nat.le_trans (szQ_mul (szQ_mul szQ_one h) (szQ_mul szQ_one h1)) (by omega)

set_option maxRecDepth 100000 in
set_option maxHeartbeats 1000000 in
theorem szQ_frac {x : Rat} {k : Nat} (h : szQ x ≤ k) : szQ (x - (x.floor : Rat)) ≤ 2 * k + 2 := by
  have h1 := szZ_floor x
  have h2 := szQ_int x.floor
  rw [Rat.sub_eq_add_neg]
  refine Nat.le_trans (szQ_add h (l := k + 1) ?_) (by omega)
  have h3 : szQ (-(x.floor : Rat)) = szQ (x.floor : Rat) := by
    unfold szQ szZ
    rw [Rat.neg_num, Rat.neg_den, Int.natAbs_neg]
  omega
/-- What stands at place i. -/
def plc (bs : List Bool) (qs : List Rat) (i : Nat) : Bool × Rat := (bs.getD i false, qs.getD i 0)
def scr (r : Int) (x : Rat) : Rat := scoreQ r ((1 : Int) : Rat) ((1 : Int) : Rat) (x - (x.floor : Rat))
/-- The choice among the first i. -/
def cst (r : Int) (f : Nat → Bool × Rat) : Nat → Option (Nat × Rat)
  | 0 => none
  | i + 1 => if (f i).1 = false ∨ (f i).2 = ((f i).2.floor : Rat) then cst r f i else
    match cst r f i with
    | none => some (i, scr r (f i).2)
    | some (c, b) => if 0 < cmpR (scr r (f i).2) b then some (i, scr r (f i).2) else some (c, b)
def resC : Option (Nat × Rat) → Value
  | none => .tuple #[.int .i64 0, .bool false]
  | some (c, _) => .tuple #[.int .i64 (c : Int), .bool true]
set_option maxRecDepth 100000 in
set_option maxHeartbeats 1000000 in
theorem cst_skip {r : Int} {f : Nat → Bool × Rat} {i : Nat} (h : (f i).1 = false ∨ (f i).2 = ((f i).2.floor : Rat)) : cst r f (i + 1) = cst r f i := by
  rw [cst, if_pos h]
set_option maxRecDepth 100000 in
set_option maxHeartbeats 1000000 in
theorem cst_first {r : Int} {f : Nat → Bool × Rat} {i : Nat} (h1 : (f i).1 = true) (h2 : ¬ (f i).2 = ((f i).2.floor : Rat)) (h : cst r f i = none) : cst r f (i + 1) = some (i, scr r (f i).2) := by
  rw [cst, if_neg (by simp [h1, h2]), h]
set_option maxRecDepth 100000 in
set_option maxHeartbeats 1000000 in
theorem cst_more {r : Int} {f : Nat → Bool × Rat} {i c : Nat} {b : Rat} (h1 : (f i).1 = true) (h2 : ¬ (f i).2 = ((f i).2.floor : Rat)) (h : cst r f i = some (c, b)) (h3 : 0 < cmpR (scr r (f i).2) b) : cst r f (i + 1) = some (i, scr r (f i).2) := by
  rw [cst, if_neg (by simp [h1, h2]), h]
  simp [h3]
set_option maxRecDepth 100000 in
set_option maxHeartbeats 1000000 in
theorem cst_less {r : Int} {f : Nat → Bool × Rat} {i c : Nat} {b : Rat} (h1 : (f i).1 = true) (h2 : ¬ (f i).2 = ((f i).2.floor : Rat)) (h : cst r f i = some (c, b)) (h3 : ¬ 0 < cmpR (scr r (f i).2) b) : cst r f (i + 1) = some (c, b) := by
  rw [cst, if_neg (by simp [h1, h2]), h]
  simp [h3]
set_option maxRecDepth 100000 in
set_option maxHeartbeats 1000000 in
theorem cst_none {r : Int} {f : Nat → Bool × Rat} : ∀ {n : Nat}, cst r f n = none → ∀ i, i < n → (f i).1 = false ∨ (f i).2 = ((f i).2.floor : Rat)
  | 0, _, i, hi => by omega
  | n + 1, h, i, hi => by
    by_cases hc : (f n).1 = false ∨ (f n).2 = ((f n).2.floor : Rat)
    · rw [cst_skip hc] at h
      rcases Nat.eq_or_lt_of_le (Nat.lt_succ_iff.1 hi) with rfl | hlt
      · exact hc
      · exact cst_none h i hlt
    · rw [cst, if_neg hc] at h
      split at h
      · cases h
      · split at h <;> cases h
set_option maxRecDepth 100000 in
set_option maxHeartbeats 1000000 in
theorem cst_some {r : Int} {f : Nat → Bool × Rat} {c : Nat} {b : Rat} : ∀ {n : Nat}, cst r f n = some (c, b) → c < n ∧ (f c).1 = true ∧ ¬ (f c).2 = ((f c).2.floor : Rat) ∧ b = scr r (f c).2
  | 0, h => by cases h
  | n + 1, h => by
    by_cases hc : (f n).1 = false ∨ (f n).2 = ((f n).2.floor : Rat)
    · rw [cst_skip hc] at h
      have := cst_some h
      exact ⟨by omega, this.2⟩
    · have h1 : (f n).1 = true := by
        cases h' : (f n).1
        · exact absurd (.inl h') hc
        · rfl
      have h2 : ¬ (f n).2 = ((f n).2.floor : Rat) := fun h' => hc (.inr h')
      rw [cst, if_neg hc] at h
      split at h
      · cases h
        exact ⟨by omega, h1, h2, rfl⟩
      · rename_i c' b' heq
        split at h
        · cases h
          exact ⟨by omega, h1, h2, rfl⟩
        · cases h
          have := cst_some heq
          exact ⟨by omega, this.2⟩

/-- What the loop carries: what is chosen so far, and its score. -/
def CRel (g B0 : Nat) (a : Option (Nat × Rat)) (col found : Value) (wr : World) : Prop :=
  match a with
  | none => col = .int .i64 0 ∧ found = .bool false ∧ Bx 28 wr g #[.bool false, .slice none 0 0, .slice none 0 0]
  | some (c, b) => col = .int .i64 (c : Int) ∧ found = .bool true ∧ ∃ b0 a1 n1 c1 a2 n2 c2, Bx 28 wr g #[.bool b0, .slice a1 n1 c1, .slice a2 n2 c2] ∧ FrQ B0 wr (.agg #[.bool b0, .slice a1 n1 c1, .slice a2 n2 c2]) b
set_option maxRecDepth 100000 in
set_option maxHeartbeats 1000000 in
theorem CRel.ext {g B0 : Nat} {a : Option (Nat × Rat)} {col found : Value} {w w' : World} (h : CRel g B0 a col found w) (he : Ext w w') : CRel g B0 a col found w' := by
  match a, h with
  | none, ⟨h1, h2, h3⟩ => exact ⟨h1, h2, h3.ext he⟩
  | some (c, b), ⟨h1, h2, b0, a1, n1, c1, a2, n2, c2, h3, h4⟩ => exact ⟨h1, h2, b0, a1, n1, c1, a2, n2, c2, h3.ext he, h4.ext he⟩
end Go.Proofs.Ytkcnnlhaiahpbaa

/-
  Choose, walked.
-/
namespace Go.Proofs.Ytkcnnlhaiahpbaa
open Go.RowKit
set_option linter.unusedVariables false
set_option linter.unusedSimpArgs false

set_option maxRecDepth 100000 in
set_option maxHeartbeats 4000000 in
theorem choose_calls (p m : Nat) (r : Int) (wv xv : Value) (bs : List Bool) (qs : List Rat) (w : World) (hb : Bx 132 w p #[.func (.func (if r = 0 then 104 else 105)) #[] #[], .map (some m)]) (hm : w.heap[m]? = some (.map #[] 0))
    (hw : SV (fun _ v b => v = .bool b) w wv bs) (hx : SLR 6 w xv qs) (hl : qs.length ≤ 30) :
    Calls Try.prog 65 #[.pointer (some ⟨p, 0, none⟩), wv, xv] w fun e w' => e = .returned (resC (cst r (plc bs qs) (min bs.length qs.length))) ∧ Ext w w' := by
  have HB := Lib.hid hb
  have HM := Lib.hid (show ∀ c u, MeanAt p w c u ((1 : Int) : Rat) from fun c u wz hz => mean_empty p m _ c u wz (hb.ext hz) (hz.blk hm))
  obtain ⟨ad1, n1, cap1, hn1, rfl, hn1m, hat1⟩ := hw.opn
  obtain ⟨ad2, n2, cap2, hn2, rfl, hn2m, hat2⟩ := SLR.at hx
  obtain ⟨n, hn⟩ : ∃ n, n = min n1 n2 := ⟨_, rfl⟩
  rw [← hn1, ← hn2, ← hn]
  have Hn1 := Lib.hid hn1
  have Hn2 := Lib.hid hn2
  have hn2l : n2 ≤ 30 := by omega
  have hnb1 : n ≤ n1 := by omega
  have hnb2 : n ≤ n2 := by omega
  obtain ⟨F, hF⟩ : ∃ F, F = plc bs qs := ⟨_, rfl⟩
  have HF := Lib.hid hF
  rw [← hF]
  have Hat1 := Lib.hid hat1
  have Hat2 := Lib.hid hat2
  have Hn := Lib.hid hn
  have lim : (4096 : Nat) ≤ LIM := by rw [LIM_eq]; omega
  clear hb hm hw hx hl hn1 hn2 hF hat1 hat2 hn
  go_enter Try.func65, Try.ntmps65
  obtain ⟨w1, hw1, e1, b1, s1⟩ := alloc1 w #[.bool false, .slice none 0 0, .slice none 0 0] 28
  have hmin : min (n1 : Int) (n2 : Int) = (n : Int) := by rw [Hn.out]; omega
  go_wp2_with fail
  rw [← hw1]
  have hs1 := e1.size
  clear hmin
  go_loopw [6, 7, 16] (fun col found i wr => ∃ k : Nat, k ≤ n ∧ i = .int .i64 (k : Int) ∧ CRel w.heap.size w1.heap.size (cst r F k) col found wr ∧ Ext w wr ∧ w1.heap.size ≤ wr.heap.size) (fun _ _ i _ => ((n : Int) - intOf i).toNat)
  case atStart => exact ⟨0, Nat.zero_le _, rfl, ⟨rfl, rfl, b1⟩, e1, Nat.le_refl _⟩
  case round =>
    obtain ⟨k, hk, rfl, hC, hE0, hsz⟩ := hrel
    rcases Nat.eq_or_lt_of_le hk with hkl | hkl
    · subst hkl
      obtain ⟨a, ha⟩ : ∃ a, a = cst r F k := ⟨_, rfl⟩
      rw [← ha] at hC
      have Ha := Lib.hid ha
      clear ha
      cases a with
      | none =>
        obtain ⟨rfl, rfl, -⟩ := hC
        go_wp2
        go_ret2
        exact ⟨by rw [← Ha.out]; rfl, hE0⟩
      | some cb =>
        obtain ⟨c, b⟩ := cb
        obtain ⟨rfl, rfl, -⟩ := hC
        go_wp2
        go_ret2
        exact ⟨by rw [← Ha.out]; rfl, hE0⟩
    · obtain ⟨bb, hbb⟩ : ∃ bb, bs[k]? = some bb := ⟨_, List.getElem?_eq_getElem (by rw [← Hn1.out]; omega)⟩
      obtain ⟨q, hq⟩ : ∃ q, qs[k]? = some q := ⟨_, List.getElem?_eq_getElem (by rw [← Hn2.out]; omega)⟩
      have HFk := Lib.hid (show F k = (bb, q) by rw [HF.out]; unfold plc; rw [List.getD, List.getD, hbb, hq]; rfl)
      obtain ⟨g1, off1, rfl, v1, hv1, rfl⟩ := Hat1.out k bb hbb
      obtain ⟨g2, off2, rfl, b0, a1, l1, c1, a2, l2, c2, hat⟩ := Hat2.out k q hq
      have HV1 := Lib.hid hv1
      have HA := Lib.hid hat
      clear hv1 hat hbb hq
      have hcb := HV1.out wr hE0
      cases bb with
      | false =>
        have HS := Lib.hid (cst_skip (r := r) (f := F) (i := k) (.inl (by rw [HFk.out])))
        have HC := Lib.hid hC
        clear hC
        go_wp2
        go_roundw
        case rel => exact ⟨k + 1, by omega, by simp, by rw [HS.out]; exact HC.out, hE0, hsz⟩
        case measure => simp [intOf]; omega
      | true =>
        have f0 := HA.out wr hE0
        have hc0 := f0.1
        have hc1 := f0.2.1
        have hc2 := f0.2.2.1
        have hR := Lib.hid f0.2.2.2
        have HC := Lib.hid hC
        clear f0 hC
        go_wp2_with fail
        refine (riswhole_calls _ q 6 _ hR.out (by omega)).mono ?_
        rintro e w2 ⟨rfl, e2⟩
        clear hc0 hc1 hc2 hcb
        by_cases hqw : q = (q.floor : Rat)
        · rw [show decide (q = (q.floor : Rat)) = true from decide_eq_true hqw]
          have HS := Lib.hid (cst_skip (r := r) (f := F) (i := k) (.inr (by rw [HFk.out]; exact hqw)))
          clear hqw
          have hs2 := e2.size
          go_wp2
          go_roundw
          case rel => exact ⟨k + 1, by omega, by simp, by rw [HS.out]; exact HC.out.ext e2, hE0.trans e2, by omega⟩
          case measure => simp [intOf]; omega
        · rw [show decide (q = (q.floor : Rat)) = false from decide_eq_false hqw]
          have HQ := Lib.hid hqw
          clear hqw
          have f0 := HA.out w2 (hE0.trans e2)
          have hc0 := f0.1
          have hc1 := f0.2.1
          have hc2 := f0.2.2.1
          clear f0
          go_wp2_with fail
          refine (rfrac_calls _ q 6 _ (hR.out.ext e2) (by omega)).mono ?_
          rintro e w3 ⟨v3, rfl, q3, z3, e3⟩
          clear hc0 hc1 hc2
          obtain ⟨b3, ad3, l3, cap3, bd3, m3, dap3, rfl, q3⟩ := q3.opn
          have E3 := (hE0.trans e2).trans e3
          go_wp2_with fail
          refine (score_calls p m r k _ ((1 : Int) : Rat) ((1 : Int) : Rat) (q - (q.floor : Rat)) 14 _ (HB.out.ext E3) (q3.isR (by omega) (by omega)) (by omega) ((HM.out _ _).ext E3) ((HM.out _ _).ext E3) (by have := szQ_one; omega) (by have := szQ_one; omega)).mono ?_
          rintro e w4 ⟨v4, rfl, q4, e4⟩
          obtain ⟨b4, ad4, l4, cap4, bd4, m4, dap4, rfl, q4⟩ := q4.opn
          have z4 := szQ_score (r := r) (x := q - (q.floor : Rat)) (k := 14) (by omega)
          obtain ⟨y, hy⟩ : ∃ y, y = scr r q := ⟨_, rfl⟩
          have hy2 : scoreQ r ((1 : Int) : Rat) ((1 : Int) : Rat) (q - (q.floor : Rat)) = y := hy.symm
          rw [hy2] at q4 z4
          have Hy := Lib.hid hy
          clear hy hy2
          obtain ⟨w5, hw5, e5, b5, s5⟩ := alloc1 w4 #[.bool b4, .slice ad4 l4 cap4, .slice bd4 m4 dap4] 28
          have e25 := (e2.trans e3).trans (e4.trans e5)
          have E5 := hE0.trans e25
          have C5 := HC.out.ext e25
          have q5 := q4.ext e5
          have hs4 := e25.size
          have hs34 := ((e2.trans e3).trans e4).size
          have hs30 := (e2.trans e3).size
          obtain ⟨a, ha⟩ : ∃ a, a = cst r F k := ⟨_, rfl⟩
          rw [← ha] at C5
          have Ha := Lib.hid ha.symm
          clear ha
          cases a with
          | none =>
            obtain ⟨rfl, rfl, C5⟩ := C5
            have HN := Lib.hid (cst_first (r := r) (f := F) (i := k) (by rw [HFk.out]) (by rw [HFk.out]; exact HQ.out) Ha.out)
            go_wp2_with fail
            rw [← hw5]
            refine wp_region_puts [⟨4, w.heap.size, 28, PP.val (.agg #[.bool b4, .slice ad4 l4 cap4, .slice bd4 m4 dap4])⟩] [PP.val (.int .i64 (k : Int)), PP.val (.agg #[.bool b4, .slice ad4 l4 cap4, .slice bd4 m4 dap4]), PP.val (.int .i64 (k : Int)), PP.val (.bool true), PP.any] [] [4, 3, 2, 1, 0]
              (by kernel_rfl) (by kernel_rfl) (fun f => (by simp only [fillR, fillL, List.setIfInBounds_toArray, List.set_cons_succ, List.set_cons_zero, Nat.reduceAdd]; rfl)) ?_ ?_ ?_ ?_ ?_
            · intro x hx; simp only [List.mem_singleton] at hx; subst hx; exact ⟨by show w.heap.size < w5.heap.size; omega, rfl⟩
            · intro x hx; simp only [List.mem_singleton] at hx; subst hx; rfl
            · intro x hx y hy h; simp only [List.mem_singleton] at hx hy; subst hx hy; exact absurd rfl h
            · refine ⟨?o0, ?o1, ?o2, ?o3, ?o4, trivial⟩
              case o0 =>
                intro f w6 hG hp hl
                have hE : Ext w5 w6 := hG
                have hS := hE.size
                simp only [OpGoal]
                go_simp
                exact ⟨_, rfl, Ext.refl _, rfl⟩
              case o1 =>
                intro f w6 hG hp hl
                have hE : Ext w5 w6 := hG
                have hS := hE.size
                change OpGoal _ _ _ f w6 Ext _
                exact og_load (P := Try.prog) _ _ w4.heap.size _ _ _ rfl rfl rfl (b5.ext hE) Try.underlying28 rfl (by kernel_rfl) rfl
              case o2 =>
                intro f w6 hG hp hl
                have hE : Ext w5 w6 := hG
                have hS := hE.size
                have q47 : f 0 = .int .i64 (k : Int) := tellV hp 0 0 rfl rfl (fun h => by cases h)
                simp only [OpGoal]
                go_simp
                exact ⟨_, rfl, Ext.refl _, rfl⟩
              case o3 =>
                intro f w6 hG hp hl
                have hE : Ext w5 w6 := hG
                have hS := hE.size
                simp only [OpGoal]
                go_simp
                exact ⟨_, rfl, Ext.refl _, rfl⟩
              case o4 =>
                intro f w6 hG hp hl
                have hE : Ext w5 w6 := hG
                have hS := hE.size
                have q48 : f 1 = .agg #[.bool b4, .slice ad4 l4 cap4, .slice bd4 m4 dap4] := tellV hp 0 1 rfl rfl (fun h => by cases h)
                intro hg0
                change OpGoal _ _ _ f w6 (Chg _) _
                exact og_store (P := Try.prog) _ _ _ w.heap.size _ _ _ (PP.val _ : PP _).p rfl rfl rfl q48 (show Bx 28 w6 _ _ from hg0.trans C5) (by kernel_rfl) rfl (all3 rfl rfl rfl) (fun w' h => rfl)
            · intro f w6 hG hp
              obtain ⟨cs0, hbx0, hz0⟩ : ∃ cs, Bx 28 w6 w.heap.size cs ∧ (PP.val (.agg #[.bool b4, .slice ad4 l4 cap4, .slice bd4 m4 dap4]) : PP w5.heap.size).p (.agg cs) w6 := endS hp 4 (by decide)
              have q6 : f 2 = .int .i64 (k : Int) := endV hp 2 (by decide) rfl (fun h => by cases h)
              try simp only [q6]
              have q7 : f 3 = .bool true := endV hp 3 (by decide) rfl (fun h => by cases h)
              try simp only [q7]
              clear hp
              cases hz0
              have hs6 : Chg w.heap.size w5 w6 := ChgS.one hG
              have hs6s := hs6.size
              go_wp2
              go_roundw
              case rel => exact ⟨k + 1, by omega, by simp, by rw [HN.out, HFk.out, ← Hy.out]; exact ⟨rfl, rfl, _, _, _, _, _, _, _, hbx0, (q5.chg hs6 (by omega)).mono (by omega)⟩, E5.step hs6 (Nat.le_refl _), by omega⟩
              case measure => simp [intOf]; omega
          | some cb =>
            obtain ⟨c, b⟩ := cb
            obtain ⟨rfl, rfl, b9, a9, n9, c9, a8, n8, c8, C5, q9⟩ := C5
            obtain ⟨hcn, hc1', hc2', hbq⟩ := cst_some Ha.out
            have zb : szQ b ≤ 2 * 14 + 4 := by
              have hcq : (qs.getD c 0) ∈ qs := by
                rw [List.getD, List.getElem?_eq_getElem (show c < qs.length by rw [← Hn2.out]; omega)]
                exact List.getElem_mem _
              obtain ⟨jj, hjj, hje⟩ := List.getElem_of_mem hcq
              obtain ⟨gg, oo, -, xb, x1, x2, x3, x4, x5, x6, hxx⟩ := Hat2.out jj _ (List.getElem?_eq_getElem hjj)
              have hz := (hxx w (Ext.refl w)).2.2.2.sz
              rw [hje] at hz
              have hFc : (F c).2 = qs.getD c 0 := by rw [HF.out]; rfl
              rw [hbq, hFc]
              exact szQ_score (szQ_frac hz)
            clear hbq hc1' hc2'
            have hc0 := b5.cell 0
            have hc1 := b5.cell 1
            have hc2 := b5.cell 2
            have hd0 := C5.cell 0
            have hd1 := C5.cell 1
            have hd2 := C5.cell 2
            rw [hw5] at hc0 hc1 hc2 hd0 hd1 hd2
            go_wp2_with fail
            rw [← hw5]
            clear hc0 hc1 hc2 hd0 hd1 hd2
            refine (rcmp_calls _ _ y b 32 32 _ (q5.isR z4 (by omega)) (q9.isR zb (by omega)) (by omega)).mono ?_
            rintro e w6 ⟨rfl, e6⟩
            have D5 := b5.ext e6
            have D9 := C5.ext e6
            have Qv := q5.ext e6
            have r9 := q9.ext e6
            have E6 := E5.trans e6
            have hs6 := e6.size
            obtain ⟨z, hz⟩ : ∃ z, z = cmpR y b := ⟨_, rfl⟩
            rw [← hz]
            have Hz := Lib.hid hz
            clear hz
            by_cases hzp : 0 < z
            · have HN := Lib.hid (cst_more (r := r) (f := F) (i := k) (by rw [HFk.out]) (by rw [HFk.out]; exact HQ.out) Ha.out (by rw [HFk.out]; show 0 < cmpR (scr r q) b; rw [← Hy.out, ← Hz.out]; exact hzp))
              go_wp2_with fail
              refine wp_region_puts [⟨4, w.heap.size, 28, PP.val (.agg #[.bool b4, .slice ad4 l4 cap4, .slice bd4 m4 dap4])⟩] [PP.val (.int .i64 (k : Int)), PP.val (.agg #[.bool b4, .slice ad4 l4 cap4, .slice bd4 m4 dap4]), PP.val (.int .i64 (k : Int)), PP.val (.bool true), PP.any] [] [4, 3, 2, 1, 0]
                (by kernel_rfl) (by kernel_rfl) (fun f => (by simp only [fillR, fillL, List.setIfInBounds_toArray, List.set_cons_succ, List.set_cons_zero, Nat.reduceAdd]; rfl)) ?_ ?_ ?_ ?_ ?_
              · intro x hx; simp only [List.mem_singleton] at hx; subst hx; exact ⟨by show w.heap.size < w6.heap.size; omega, rfl⟩
              · intro x hx; simp only [List.mem_singleton] at hx; subst hx; rfl
              · intro x hx y hy h; simp only [List.mem_singleton] at hx hy; subst hx hy; exact absurd rfl h
              · refine ⟨?o0, ?o1, ?o2, ?o3, ?o4, trivial⟩
                case o0 =>
                  intro f w7 hG hp hl
                  have hE : Ext w6 w7 := hG
                  have hS := hE.size
                  simp only [OpGoal]
                  go_simp
                  exact ⟨_, rfl, Ext.refl _, rfl⟩
                case o1 =>
                  intro f w7 hG hp hl
                  have hE : Ext w6 w7 := hG
                  have hS := hE.size
                  change OpGoal _ _ _ f w7 Ext _
                  exact og_load (P := Try.prog) _ _ w4.heap.size _ _ _ rfl rfl rfl (D5.ext hE) Try.underlying28 rfl (by kernel_rfl) rfl
                case o2 =>
                  intro f w7 hG hp hl
                  have hE : Ext w6 w7 := hG
                  have hS := hE.size
                  have q47 : f 0 = .int .i64 (k : Int) := tellV hp 0 0 rfl rfl (fun h => by cases h)
                  simp only [OpGoal]
                  go_simp
                  exact ⟨_, rfl, Ext.refl _, rfl⟩
                case o3 =>
                  intro f w7 hG hp hl
                  have hE : Ext w6 w7 := hG
                  have hS := hE.size
                  simp only [OpGoal]
                  go_simp
                  exact ⟨_, rfl, Ext.refl _, rfl⟩
                case o4 =>
                  intro f w7 hG hp hl
                  have hE : Ext w6 w7 := hG
                  have hS := hE.size
                  have q48 : f 1 = .agg #[.bool b4, .slice ad4 l4 cap4, .slice bd4 m4 dap4] := tellV hp 0 1 rfl rfl (fun h => by cases h)
                  intro hg0
                  change OpGoal _ _ _ f w7 (Chg _) _
                  exact og_store (P := Try.prog) _ _ _ w.heap.size _ _ _ (PP.val _ : PP _).p rfl rfl rfl q48 (show Bx 28 w7 _ _ from hg0.trans D9) (by kernel_rfl) rfl (all3 rfl rfl rfl) (fun w' h => rfl)
              · intro f w7 hG hp
                obtain ⟨cs0, hbx0, hz0⟩ : ∃ cs, Bx 28 w7 w.heap.size cs ∧ (PP.val (.agg #[.bool b4, .slice ad4 l4 cap4, .slice bd4 m4 dap4]) : PP w6.heap.size).p (.agg cs) w7 := endS hp 4 (by decide)
                have q6 : f 2 = .int .i64 (k : Int) := endV hp 2 (by decide) rfl (fun h => by cases h)
                try simp only [q6]
                have q7 : f 3 = .bool true := endV hp 3 (by decide) rfl (fun h => by cases h)
                try simp only [q7]
                clear hp
                cases hz0
                have hs7 : Chg w.heap.size w6 w7 := ChgS.one hG
                have hs7s := hs7.size
                go_wp2
                go_roundw
                case rel => exact ⟨k + 1, by omega, by simp, by rw [HN.out, HFk.out, ← Hy.out]; exact ⟨rfl, rfl, _, _, _, _, _, _, _, hbx0, (Qv.chg hs7 (by omega)).mono (by omega)⟩, E6.step hs7 (Nat.le_refl _), by omega⟩
                case measure => simp [intOf]; omega
            · have HN := Lib.hid (cst_less (r := r) (f := F) (i := k) (by rw [HFk.out]) (by rw [HFk.out]; exact HQ.out) Ha.out (by rw [HFk.out]; show ¬ 0 < cmpR (scr r q) b; rw [← Hy.out, ← Hz.out]; exact hzp))
              go_wp2
              go_roundw
              case rel => exact ⟨k + 1, by omega, by simp, by rw [HN.out]; exact ⟨rfl, rfl, _, _, _, _, _, _, _, D9, r9⟩, E6, by omega⟩
              case measure => simp [intOf]; omega
end Go.Proofs.Ytkcnnlhaiahpbaa

/-
  Lists that are looked at; the document's examples of branching.
-/
namespace Go.Proofs.Ytkcnnlhaiahpbaa
open Go.RowKit
set_option linter.unusedVariables false
set_option linter.unusedSimpArgs false

set_option maxRecDepth 100000 in
set_option maxHeartbeats 1000000 in
theorem greatAll_calls (u : Value) (l : List (Bool × List Nat × List Nat)) (w : World) (hu : SLQ w u l) :
    Calls Try.prog 63 #[u] w fun e w' => Ext w w' ∧ (e = .returned (.bool true) ∨ (e = .returned (.bool false) ∧ l.length ≤ 30 ∧ ∀ e ∈ l, e.2.1.length + e.2.2.length ≤ 6)) := by
  have HU := Lib.hid hu
  obtain ⟨ad, m, cap, hm, rfl, hm1, hat⟩ := hu.at
  have Hm := Lib.hid hm
  have Hat := Lib.hid hat
  clear hm hu hat
  go_enter Try.func63, Try.ntmps63
  go_wp2_with fail
  go_loopw [3] (fun i wr => ∃ k : Nat, k ≤ m ∧ i = .int .i64 (k : Int) ∧ Hid (∀ i e, i < k → l[i]? = some e → e.2.1.length + e.2.2.length ≤ 6) ∧ Ext w wr) (fun i _ => ((m : Int) - intOf i).toNat)
  case atStart => exact ⟨0, Nat.zero_le _, rfl, Lib.hid (fun i e h => by omega), Ext.refl w⟩
  case round =>
    obtain ⟨k, hk, rfl, hall, hE0⟩ := hrel
    rcases Nat.eq_or_lt_of_le hk with hkl | hkl
    · subst hkl
      have HS := Lib.hid (show ∀ e ∈ l, e.2.1.length + e.2.2.length ≤ 6 from fun e he => by
        obtain ⟨i, hi, rfl⟩ := List.getElem_of_mem he
        exact hall.out i _ (by rw [Hm.out]; exact hi) (List.getElem?_eq_getElem hi))
      by_cases hbig : 30 < k
      · have hbig' : (30 : Int) < (k : Int) := by omega
        go_wp2
        go_ret
        exact ⟨hE0, .inl rfl⟩
      · have hbig' : ¬ (30 : Int) < (k : Int) := by omega
        go_wp2_with fail
        refine (weight_calls _ l _ (HU.out.ext hE0) (by rw [← Hm.out]; omega) HS.out).mono ?_
        rintro e w2 ⟨n, rfl, e2, hn0, hn1⟩
        by_cases hh : 18 < n
        · go_wp2
          go_ret
          exact ⟨hE0.trans e2, .inl rfl⟩
        · go_wp2
          go_ret
          exact ⟨hE0.trans e2, .inr ⟨by first | rfl | simp [hh], by rw [← Hm.out]; omega, HS.out⟩⟩
    · obtain ⟨e, he⟩ : ∃ e, l[k]? = some e := ⟨_, List.getElem?_eq_getElem (by rw [← Hm.out]; exact hkl)⟩
      obtain ⟨g, off, rfl, b, a1, n1, c1, a2, n2, c2, e1, e2, hcell⟩ := Hat.out k e he
      have f0 := hcell wr hE0
      have hc0 := f0.1
      have hc1 := f0.2.1
      have hc2 := f0.2.2.1
      have R0 := Lib.hid f0.2.2.2
      have E1 := Lib.hid e1
      have E2 := Lib.hid e2
      have He := Lib.hid he
      clear f0 hcell e1 e2 he
      go_wp2_with fail
      refine (rqwords3_calls _ e.1 _ _ _ R0.out.1 R0.out.2.2.2).mono ?_
      rw [← E1.out, ← E2.out]
      rintro e' w3 ⟨rfl, e3⟩
      clear hc0 hc1 hc2
      by_cases hbig : 6 < n1 + n2
      · have hbig' : (6 : Int) < ((n1 + n2 : Nat) : Int) := by omega
        go_wp2
        go_ret
        exact ⟨hE0.trans e3, .inl rfl⟩
      · have hbig' : ¬ (6 : Int) < ((n1 + n2 : Nat) : Int) := by omega
        have Hall := Lib.hid (show ∀ i e, i < k + 1 → l[i]? = some e → e.2.1.length + e.2.2.length ≤ 6 from fun i e hi he => by
          rcases Nat.eq_or_lt_of_le (Nat.lt_succ_iff.1 hi) with rfl | hlt
          · have := He.out
            rw [he] at this
            cases this
            rw [← E1.out, ← E2.out]
            omega
          · exact hall.out i e hlt he)
        go_wp2
        go_roundw
        case rel => exact ⟨k + 1, by omega, by simp, Hall, hE0.trans e3⟩
        case measure => simp [intOf]; omega

set_option maxRecDepth 100000 in
set_option maxHeartbeats 1000000 in
theorem small21_calls (n d : Int) (w : World) (h0 : -9223372036854775808 ≤ n) (h1 : n ≤ 9223372036854775807) (h2 : -9223372036854775808 ≤ d) (h3 : d ≤ 9223372036854775807) (hd : (d : Rat) ≠ 0) :
    Calls Try.prog 101 #[.int .i64 n, .int .i64 d] w fun e w' => ∃ v', e = .returned v' ∧ FrQ w.heap.size w' v' ((n : Rat) / (d : Rat)) ∧ Ext w w' := by
  have sn := szD_int n
  have sd := szD_int d
  have tn := szT_small (z := n) (by omega)
  have td := szT_small (z := d) (by omega)
  go_enter Try.func101, Try.ntmps101
  obtain ⟨w1, hw1, e1, b1, s1⟩ := alloc1 w #[.bool false, .slice none 0 0, .slice none 0 0] 28
  go_wp2_with fail
  rw [← hw1]
  refine (rqsmall3_calls n _ h0 h1).mono ?_
  rintro e w2 ⟨v2, rfl, q2, e2⟩
  go_wp2_with fail
  refine (rqsmall3_calls d _ h2 h3).mono ?_
  rintro e w3 ⟨v3, rfl, q3, e3⟩
  go_wp2_with fail
  refine (rqdiv3_calls _ _ (n : Rat) (d : Rat) 5 5 _ (q2.cq.ext e3) q3.cq hd (by omega) (by omega) (by omega)).mono ?_
  rintro e w4 ⟨v4, rfl, q4, e4⟩
  go_wp2_with fail
  have sq := szD_div (show szD (n : Rat) ≤ 5 by omega) (show szD (d : Rat) ≤ 5 by omega) hd
  refine (rqto3_calls _ ((n : Rat) / (d : Rat)) _ q4.cq (by omega)).mono ?_
  rintro e w5 ⟨v5, rfl, q5, e5⟩
  obtain ⟨s', t', rfl, hn, hm⟩ := q5
  obtain ⟨ad5, cap5, rfl⟩ := hn.slice
  obtain ⟨ad6, cap6, rfl⟩ := hm.slice
  have Hn5 := Lib.hid hn
  have Hm5 := Lib.hid hm
  have E25 := (e2.trans e3).trans (e4.trans e5)
  have hsz := ((e2.trans e3).trans e4).size
  clear hn hm
  have hb := b1.ext E25
  have hc0 := hb.cell 0
  have hc1 := hb.cell 1
  have hc2 := hb.cell 2
  have hf0 := hb.free 0
  have hf1 := hb.free 1
  have hf2 := hb.free 2
  go_wp2
  refine ret_box 4 28 w.heap.size 28 _ _ (by kernel_rfl) rfl (((hb.set 0 _).set 1 _).set 2 _) Try.underlying28 rfl (by kernel_rfl) rfl ?_
  exact ⟨_, rfl, ⟨_, _, rfl, (Hn5.out.chg (Chg.trans (Chg.trans (Chg.setCell _ w.heap.size 0 _) (Chg.setCell _ w.heap.size 1 _)) (Chg.setCell _ w.heap.size 2 _)) (by omega)).mono (by omega), (Hm5.out.chg (Chg.trans (Chg.trans (Chg.setCell _ w.heap.size 0 _) (Chg.setCell _ w.heap.size 1 _)) (Chg.setCell _ w.heap.size 2 _)) (by omega)).mono (by omega)⟩, (e1.trans E25).step (Chg.trans (Chg.trans (Chg.setCell _ w.heap.size 0 _) (Chg.setCell _ w.heap.size 1 _)) (Chg.setCell _ w.heap.size 2 _)) (by omega)⟩
end Go.Proofs.Ytkcnnlhaiahpbaa

/-
  A Brancher made; the document's examples of branching.
-/
namespace Go.Proofs.Ytkcnnlhaiahpbaa
open Go.RowKit
set_option linter.unusedVariables false
set_option linter.unusedSimpArgs false

set_option maxRecDepth 100000 in
set_option maxHeartbeats 1000000 in
theorem bnew_0 (w : World) :
    Calls Try.prog 64 #[.int .i64 0] w fun e w' => e = .returned (.tuple #[.pointer (some ⟨w.heap.size + 1, 0, none⟩), .int .i64 0]) ∧
         Bx 132 w' (w.heap.size + 1) #[.func (.func (if (0 : Int) = 0 then 104 else 105)) #[] #[], .map (some w.heap.size)] ∧ w'.heap[w.heap.size]? = some (.map #[] 0) ∧ Ext w w' := by
  have hmm := @run_makeMap Try.prog
  go_enter Try.func64, Try.ntmps64
  obtain ⟨w1, hw1⟩ : ∃ w1, w1 = w.alloc (.map #[] 0) := ⟨_, rfl⟩
  have e1 : Ext w w1 := hw1 ▸ (Ext.refl w).alloc _
  have m1 : w1.heap[w.heap.size]? = some (.map #[] 0) := hw1 ▸ heap_alloc_new w _
  have s1 : w1.heap.size = w.heap.size + 1 := by rw [hw1]; simp
  obtain ⟨w2, hw2, e2, b2, s2⟩ := alloc1 w1 #[.nilFunc, .map (some w.heap.size)] 132
  have Hw := Lib.hid (show w2 = (w.alloc (.map #[] 0)).alloc (.cells #[.nilFunc, .map (some w.heap.size)] 132) by rw [hw2, hw1])
  have hc0 := b2.cell 0
  have hf0 := b2.free 0
  have hc1 := b2.cell 1
  rw [s1, Hw.out] at hc0 hf0 hc1
  obtain ⟨w3, hw3⟩ : ∃ w3, w3 = (w.alloc (.map #[] 0)).alloc (.cells #[.nilFunc, .map (some w.heap.size)] 132) := ⟨_, rfl⟩
  have hst : (store ⟨w.heap.size + 1, 0, none⟩ (.func (.func 104) #[] #[])).run Try.prog ((w.alloc (.map #[] 0)).alloc (.cells #[.nilFunc, .map (some w.heap.size)] 132)) = .ok () (w2.setCell ⟨w.heap.size + 1, 0, none⟩ (.func (.func 104) #[] #[])) := by
    rw [run_store _ _ _ _ _ rfl, hc0, hf0, Hw.out]
    rfl
  clear hw1 hw2 hc1 hc0 hf0 hw3
  go_wp2
  go_ret2
  refine ⟨rfl, ?_, ?_, ?_⟩
  · have := b2.set 0 (.func (.func 104) #[] #[])
    rw [s1] at this
    exact this
  · exact (Chg.setCell w2 (w.heap.size + 1) 0 _).blk (e2.blk m1) (by omega)
  · exact (e1.trans e2).step (Chg.setCell w2 (w.heap.size + 1) 0 _) (by omega)
set_option maxRecDepth 100000 in
set_option maxHeartbeats 1000000 in
theorem bnew_1 (w : World) :
    Calls Try.prog 64 #[.int .i64 1] w fun e w' => e = .returned (.tuple #[.pointer (some ⟨w.heap.size + 1, 0, none⟩), .int .i64 0]) ∧
         Bx 132 w' (w.heap.size + 1) #[.func (.func (if (1 : Int) = 0 then 104 else 105)) #[] #[], .map (some w.heap.size)] ∧ w'.heap[w.heap.size]? = some (.map #[] 0) ∧ Ext w w' := by
  have hmm := @run_makeMap Try.prog
  go_enter Try.func64, Try.ntmps64
  obtain ⟨w1, hw1⟩ : ∃ w1, w1 = w.alloc (.map #[] 0) := ⟨_, rfl⟩
  have e1 : Ext w w1 := hw1 ▸ (Ext.refl w).alloc _
  have m1 : w1.heap[w.heap.size]? = some (.map #[] 0) := hw1 ▸ heap_alloc_new w _
  have s1 : w1.heap.size = w.heap.size + 1 := by rw [hw1]; simp
  obtain ⟨w2, hw2, e2, b2, s2⟩ := alloc1 w1 #[.nilFunc, .map (some w.heap.size)] 132
  have Hw := Lib.hid (show w2 = (w.alloc (.map #[] 0)).alloc (.cells #[.nilFunc, .map (some w.heap.size)] 132) by rw [hw2, hw1])
  have hc0 := b2.cell 0
  have hf0 := b2.free 0
  have hc1 := b2.cell 1
  rw [s1, Hw.out] at hc0 hf0 hc1
  obtain ⟨w3, hw3⟩ : ∃ w3, w3 = (w.alloc (.map #[] 0)).alloc (.cells #[.nilFunc, .map (some w.heap.size)] 132) := ⟨_, rfl⟩
  have hst : (store ⟨w.heap.size + 1, 0, none⟩ (.func (.func 105) #[] #[])).run Try.prog ((w.alloc (.map #[] 0)).alloc (.cells #[.nilFunc, .map (some w.heap.size)] 132)) = .ok () (w2.setCell ⟨w.heap.size + 1, 0, none⟩ (.func (.func 105) #[] #[])) := by
    rw [run_store _ _ _ _ _ rfl, hc0, hf0, Hw.out]
    rfl
  clear hw1 hw2 hc1 hc0 hf0 hw3
  go_wp2
  go_ret2
  refine ⟨rfl, ?_, ?_, ?_⟩
  · have := b2.set 0 (.func (.func 105) #[] #[])
    rw [s1] at this
    exact this
  · exact (Chg.setCell w2 (w.heap.size + 1) 0 _).blk (e2.blk m1) (by omega)
  · exact (e1.trans e2).step (Chg.setCell w2 (w.heap.size + 1) 0 _) (by omega)
set_option maxRecDepth 100000 in
set_option maxHeartbeats 1000000 in
theorem bnew_bad (r : Int) (w : World) (h0 : r ≠ 0) (h1 : r ≠ 1) :
    Calls Try.prog 64 #[.int .i64 r] w fun e w' => e = .returned (.tuple #[.pointer none, .int .i64 2]) ∧ Ext w w' := by
  have hmm := @run_makeMap Try.prog
  go_enter Try.func64, Try.ntmps64
  go_wp2
  go_ret2
  exact ⟨rfl, ((Ext.refl w).alloc _).alloc _⟩
end Go.Proofs.Ytkcnnlhaiahpbaa

/-
  The document's examples of branching.
-/
namespace Go.Proofs.Ytkcnnlhaiahpbaa
open Go.RowKit
set_option linter.unusedVariables false
set_option linter.unusedSimpArgs false

set_option maxRecDepth 100000 in
set_option maxHeartbeats 1000000 in
theorem slr4 {w : World} {g : Nat} {b1 b2 b3 b4 : Bool} {s1 t1 s2 t2 s3 t3 s4 t4 : Value} {q1 q2 q3 q4 : Rat} {k : Nat} (hb : Bx 28 w g #[.bool b1, s1, t1, .bool b2, s2, t2, .bool b3, s3, t3, .bool b4, s4, t4])
    (h1 : IsR w (.agg #[.bool b1, s1, t1]) q1 k) (h2 : IsR w (.agg #[.bool b2, s2, t2]) q2 k) (h3 : IsR w (.agg #[.bool b3, s3, t3]) q3 k) (h4 : IsR w (.agg #[.bool b4, s4, t4]) q4 k) : SLR k w (.slice (some ⟨g, 0, none⟩) 4 4) [q1, q2, q3, q4] := by
  refine ⟨_, 4, rfl, Nat.le_refl _, by omega, .inr ⟨g, 0, rfl, fun i x hi => ?_⟩⟩
  have hc : ∀ j, w.cell? ⟨g, j, none⟩ = _ := fun j => hb.cell j
  rcases i with _ | _ | _ | _ | i <;> simp at hi
  · subst hi
    refine ⟨_, rfl, fun j v hj => ?_, h1⟩
    rcases j with _ | _ | _ | j <;> simp at hj <;> subst hj <;> (rw [hc]; rfl)
  · subst hi
    refine ⟨_, rfl, fun j v hj => ?_, h2⟩
    rcases j with _ | _ | _ | j <;> simp at hj <;> subst hj <;> (rw [hc]; rfl)
  · subst hi
    refine ⟨_, rfl, fun j v hj => ?_, h3⟩
    rcases j with _ | _ | _ | j <;> simp at hj <;> subst hj <;> (rw [hc]; rfl)
  · subst hi
    refine ⟨_, rfl, fun j v hj => ?_, h4⟩
    rcases j with _ | _ | _ | j <;> simp at hj <;> subst hj <;> (rw [hc]; rfl)
set_option maxRecDepth 100000 in
set_option maxHeartbeats 1000000 in
theorem svb4 {w : World} {g : Nat} {b1 b2 b3 b4 : Bool} (hb : Bx 4 w g #[.bool b1, .bool b2, .bool b3, .bool b4]) : SV (fun _ v b => v = .bool b) w (.slice (some ⟨g, 0, none⟩) 4 4) [b1, b2, b3, b4] := by
  refine ⟨_, 4, rfl, Nat.le_refl _, by omega, .inr ⟨g, 0, rfl, fun i x hi => ?_⟩⟩
  have hc : ∀ j, w.cell? ⟨g, j, none⟩ = _ := fun j => hb.cell j
  rcases i with _ | _ | _ | _ | i <;> simp at hi <;> subst hi <;> exact ⟨_, by rw [hc]; rfl, rfl⟩
set_option maxRecDepth 100000 in
set_option maxHeartbeats 1000000 in
theorem chosen : cst 0 (plc [true, true, true, true] [((1 : Int) : Rat) / ((3 : Int) : Rat), ((1 : Int) : Rat) / ((2 : Int) : Rat), ((5 : Int) : Rat) / ((1 : Int) : Rat), ((1 : Int) : Rat) / ((2 : Int) : Rat)]) (min [true, true, true, true].length [((1 : Int) : Rat) / ((3 : Int) : Rat), ((1 : Int) : Rat) / ((2 : Int) : Rat), ((5 : Int) : Rat) / ((1 : Int) : Rat), ((1 : Int) : Rat) / ((2 : Int) : Rat)].length) = some (1, scr 0 (((1 : Int) : Rat) / ((2 : Int) : Rat))) := by
  decide +kernel
set_option maxRecDepth 100000 in
set_option maxHeartbeats 1000000 in
theorem scored : scoreQ 1 ((1 : Int) : Rat) ((0 + ((2 : Int) : Rat) / ((1 : Int) : Rat) / (((1 : Int) : Rat) / ((3 : Int) : Rat))) / ((1 : Int) : Rat)) (((1 : Int) : Rat) / ((3 : Int) : Rat)) = ((4 : Int) : Rat) / ((3 : Int) : Rat) := by
  decide +kernel

set_option maxRecDepth 100000 in
set_option maxHeartbeats 4000000 in
theorem speaks21_calls (w : World) : Calls Try.prog 62 #[] w fun e w' => e = .returned (.bool true) ∧ Ext w w' := by
  have lim : (4096 : Nat) ≤ LIM := by rw [LIM_eq]; omega
  go_enter Try.func62, Try.ntmps62
  go_wp2_with fail
  refine (bnew_0 _).mono ?_
  rintro e w1 ⟨rfl, ba, ma, e1⟩
  have Ba := Lib.hid ba
  clear ba
  go_wp2_with fail
  refine (bnew_1 _).mono ?_
  rintro e w2 ⟨rfl, bb, mb, e2⟩
  have Bb := Lib.hid bb
  clear bb
  have Ma2 := Lib.hid (e2.blk ma)
  have Mb := Lib.hid mb
  clear ma mb
  obtain ⟨w3, hw3, e3, b3, s3⟩ := alloc1 w2 #[.bool true, .bool true, .bool true, .bool true] 4
  go_wp2_with fail
  rw [← hw3]
  refine (small21_calls 1 3 _ (by omega) (by omega) (by omega) (by omega) (by decide +kernel)).mono ?_
  rintro e w4 ⟨v4, rfl, q4, e4⟩
  obtain ⟨c4, a4, l4, k4, a4', l4', k4', rfl, q4⟩ := q4.opn
  go_wp2_with fail
  refine (small21_calls 1 2 _ (by omega) (by omega) (by omega) (by omega) (by decide +kernel)).mono ?_
  rintro e w5 ⟨v5, rfl, q5, e5⟩
  obtain ⟨c5, a5, l5, k5, a5', l5', k5', rfl, q5⟩ := q5.opn
  go_wp2_with fail
  refine (small21_calls 5 1 _ (by omega) (by omega) (by omega) (by omega) (by decide +kernel)).mono ?_
  rintro e w6 ⟨v6, rfl, q6, e6⟩
  obtain ⟨c6, a6, l6, k6, a6', l6', k6', rfl, q6⟩ := q6.opn
  go_wp2_with fail
  refine (small21_calls 1 2 _ (by omega) (by omega) (by omega) (by omega) (by decide +kernel)).mono ?_
  rintro e w7 ⟨v7, rfl, q7, e7⟩
  obtain ⟨c7, a7, l7, k7, a7', l7', k7', rfl, q7⟩ := q7.opn
  obtain ⟨w8, hw8, e8, b8, s8⟩ := alloc1 w7 #[.bool c4, .slice a4 l4 k4, .slice a4' l4' k4', .bool c5, .slice a5 l5 k5, .slice a5' l5' k5', .bool c6, .slice a6 l6 k6, .slice a6' l6' k6', .bool c7, .slice a7 l7 k7, .slice a7' l7' k7'] 28
  go_wp2_with fail
  rw [← hw8]
  have e28 := ((e3.trans e4).trans (e5.trans e6)).trans (e7.trans e8)
  have e48 := (e5.trans e6).trans (e7.trans e8)
  have e58 := e6.trans (e7.trans e8)
  have i4 := ((q4.ext e48).isR (k := 6) (by decide +kernel) (by omega))
  have i5 := ((q5.ext e58).isR (k := 6) (by decide +kernel) (by omega))
  have i6 := ((q6.ext (e7.trans e8)).isR (k := 6) (by decide +kernel) (by omega))
  have i7 := ((q7.ext e8).isR (k := 6) (by decide +kernel) (by omega))
  refine (choose_calls (w.heap.size + 1) w.heap.size 0 _ _ [true, true, true, true] _ _ (Ba.out.ext (e2.trans e28)) (e28.blk Ma2.out) (svb4 (b3.ext (e4.trans e48))) (slr4 b8 i4 i5 i6 i7) (by simp)).mono ?_
  rw [chosen]
  unfold resC
  rintro e w9 ⟨rfl, e9⟩
  clear i4 i5 i6 i7 q4 q5 q6 q7
  go_wp2_with fail
  refine (small21_calls 1 3 _ (by omega) (by omega) (by omega) (by omega) (by decide +kernel)).mono ?_
  rintro e w10 ⟨v10, rfl, q10, e10⟩
  obtain ⟨c10, a10, l10, k10, a10', l10', k10', rfl, q10⟩ := q10.opn
  go_wp2_with fail
  refine (small21_calls 2 1 _ (by omega) (by omega) (by omega) (by omega) (by decide +kernel)).mono ?_
  rintro e w11 ⟨v11, rfl, q11, e11⟩
  obtain ⟨c11, a11, l11, k11, a11', l11', k11', rfl, q11⟩ := q11.opn
  have E11 := (e28.trans e9).trans (e10.trans e11)
  have i10 := ((q10.ext e11).isR (k := 6) (by decide +kernel) (by omega))
  have i11 := (q11.isR (k := 6) (by decide +kernel) (by omega))
  go_wp2_with fail
  refine (learn_calls (w1.heap.size + 1) w1.heap.size _ _ _ _ _ _ _ _ _ _ _ _ _ _ _ _ _ 6 6 _ (Bb.out.ext E11) (E11.blk Mb.out) i10 i11 (by decide +kernel) (by decide +kernel) (by omega) (by omega)).mono ?_
  rintro e w12 ⟨rfl, ch, fa⟩
  have s12 := E11.size
  have B12 := Lib.hid ((Bb.out.ext E11).chg ch (by omega))
  have E12 : Ext w w12 := ((e1.trans e2).trans E11).step ch e1.size
  clear i10 i11 q10 q11
  go_wp2_with fail
  refine (small21_calls 1 3 _ (by omega) (by omega) (by omega) (by omega) (by decide +kernel)).mono ?_
  rintro e w13 ⟨v13, rfl, q13, e13⟩
  obtain ⟨c13, a13, l13, k13, a13', l13', k13', rfl, q13⟩ := q13.opn
  go_wp2_with fail
  obtain ⟨b14, ad14, l14, cap14, ad14', l14', cap14', m14, q14⟩ := fa.ext e13
  have i13 := (q13.isR (k := 6) (by decide +kernel) (by omega))
  refine (score_calls (w1.heap.size + 1) w1.heap.size 1 0 _ ((1 : Int) : Rat) ((0 + ((2 : Int) : Rat) / ((1 : Int) : Rat) / (((1 : Int) : Rat) / ((3 : Int) : Rat))) / ((1 : Int) : Rat)) _ 6 _ (B12.out.ext e13) i13 (by omega)
    (fun wz hz => mean_miss _ _ _ _ _ _ wz (B12.out.ext (e13.trans hz)) (hz.blk m14))
    (fun wz hz => mean_hit _ _ _ _ _ _ _ 6 wz (B12.out.ext (e13.trans hz)) (hz.blk m14) ⟨_, _, _, rfl⟩ ⟨_, _, _, rfl⟩ (((q14.ext hz).isR (k := 6) (by decide +kernel) (by omega))) (by omega)) (by decide +kernel) (by decide +kernel)).mono ?_
  rw [scored]
  rintro e w15 ⟨v15, rfl, q15, e15⟩
  obtain ⟨c15, a15, l15, k15, a15', l15', k15', rfl, q15⟩ := q15.opn
  go_wp2_with fail
  refine (small21_calls 4 3 _ (by omega) (by omega) (by omega) (by omega) (by decide +kernel)).mono ?_
  rintro e w16 ⟨v16, rfl, q16, e16⟩
  go_wp2_with fail
  refine (same_true _ _ _ _ _ _ (q15.ext e16) q16).mono ?_
  rintro e w17 ⟨rfl, e17⟩
  go_wp2
  go_ret
  exact ⟨rfl, (E12.trans e13).trans (e15.trans (e16.trans e17))⟩
end Go.Proofs.Ytkcnnlhaiahpbaa
