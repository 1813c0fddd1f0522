/-
  The law QueueSorts.
-/
import Derived.Test.YtkcnnlhaiahpbaaQulT
namespace Go.Proofs.Ytkcnnlhaiahpbaa
open Go.RowKit Go.Maps
set_option linter.unusedVariables false
set_option linter.unusedSimpArgs false

set_option maxRecDepth 100000 in
set_option maxHeartbeats 1000000 in
theorem wf64 {z : Int} (h0 : -9223372036854775808 ≤ z) (h1 : z ≤ 9223372036854775807) : (Lit.int .i64 z).wf = true := WalkArith.wf_i64 (by omega)

set_option maxRecDepth 100000 in
set_option maxHeartbeats 8000000 in
theorem queueSorts_calls (o : Int) (lv : Value) (l : List (Int × Int × Bool × List Nat × List Nat)) (w : World) (hl : SLN w lv l) (hlen : (l.length + 1) * 72 ≤ 140737488355328) :
    Calls Try.prog 9 #[.int .i64 o, lv] w fun e w' => e = .returned (.bool true) ∧ Ext w w' := by
  have lim : (1000 : Nat) ≤ LIM := by rw [LIM_eq]; omega
  have hmm := @run_makeMap Try.prog
  obtain ⟨ad, n, cap, hn, rfl, hn1, hat⟩ := hl.at
  rw [← hn] at hlen
  have Hn := Lib.hid hn
  have Hat := Lib.hid hat
  clear hl hn hat
  go_enter Try.func9, Try.ntmps9
  go_wp2_with fail
  refine (speaks20_calls w).mono ?_
  rintro e w1 ⟨rfl, e1⟩
  by_cases ho : o = 0 ∨ o = 1
  case neg =>
    have ho0 : ¬ o = 0 := fun h => ho (.inl h)
    have ho1 : ¬ o = 1 := fun h => ho (.inr h)
    have hb0 : (o != 0) = true := by simp [ho0]
    have hb1 : (o != 1) = true := by simp [ho1]
    clear ho
    go_wp2_with fail
    refine (qnew_bad o _ ho0 ho1).mono ?_
    rintro e w2 ⟨rfl, e2⟩
    go_wp2
    go_ret
    exact ⟨by first | rfl | simp [hb0, hb1], e1.trans e2⟩
  case pos =>
    obtain ⟨best, hbo⟩ : ∃ best, o = ordV best := by
      rcases ho with rfl | rfl
      · exact ⟨true, rfl⟩
      · exact ⟨false, rfl⟩
    clear ho
    subst hbo
    go_wp2_with fail
    refine (qu_new w w1 6 best [] e1).mono ?_
    rintro e w2 ⟨rfl, hq2, e2⟩
    obtain ⟨w3, hw3⟩ : ∃ w3, w3 = w2.alloc (.map #[] 0) := ⟨_, rfl⟩
    have t3 : Tly w3 w2.heap.size 0 (fun _ => 0) := hw3 ▸ Tly.made w2
    have e3 : Ext w2 w3 := hw3 ▸ (Ext.refl w2).alloc _
    have hb0 : w.heap.size ≤ w2.heap.size := hq2.base.size
    obtain ⟨p, hp⟩ : ∃ p, p = w1.heap.size := ⟨_, rfl⟩
    obtain ⟨b, hb⟩ : ∃ b, b = w2.heap.size := ⟨_, rfl⟩
    rw [← hp] at hq2 ⊢
    rw [← hb] at t3 hb0
    have hq3 := hq2.ext e3
    clear hq2 hp
    go_wp2_with fail
    rw [← hw3, ← hb]
    clear hw3 hb e3 e2
    go_loopw [34] (fun i wr => ∃ (k : Nat) (L : List Nd), k ≤ n ∧ i = .int .i64 (k : Int) ∧ Hid (L.length = k ∧ Qu w 6 best p L [] wr ∧ Tly wr b k (cnt L) ∧ ∀ y ∈ L, (Lit.int .i64 y.id).wf = true)) (fun i _ => ((n : Int) - intOf i).toNat)
    case atStart => exact ⟨0, [], Nat.zero_le _, rfl, Lib.hid ⟨rfl, hq3, t3.same fun x => rfl, by simp⟩⟩
    case round =>
      obtain ⟨k, L, hk, rfl, hH⟩ := hrel
      clear hq3 t3
      rcases Nat.eq_or_lt_of_le hk with hkl | hkl
      · subst hkl
        have hwf0 := Lib.hid hH.out.2.2.2
        have hL := Lib.hid hH.out.1
        have t0 := Lib.hid hH.out.2.2.1
        have q0 := Lib.hid hH.out.2.1
        clear hH Hat
        have hkk : ¬ ((k : Int) < (k : Int)) := by omega
        go_wp2_with fail
        refine (qu_popA w wr 6 p best L [] q0.out (by omega) (by rw [hL.out]; omega)).mono ?_
        rintro e w2 ⟨any, x, bb, a1, n1, c1, a2, n2, c2, L1, rfl, hq2, hf2, hA, hB⟩
        have t2 := t0.out.fr hf2
        obtain ⟨w3, hw3, e3, b3, s3⟩ := alloc1 w2 #[.int .i64 x.id, .int .i64 x.depth, .bool bb, .slice a1 n1 c1, .slice a2 n2 c2] 74
        have hq3 := hq2.more e3 (Nat.le_refl _)
        have t3 := t2.ext e3
        have hg0 : w.heap.size ≤ w2.heap.size := hq2.base.size
        have hbg := Nat.ne_of_lt t2.lt
        obtain ⟨g, hg⟩ : ∃ g, g = w2.heap.size := ⟨_, rfl⟩
        have J3 : Hid (PopJ w best p b g k any x bb a1 n1 c1 a2 n2 c2 (if any then x :: L1 else []) w3) := by
          rw [hg]
          refine ⟨L1, b3, hq3, t3.same fun z => ?_, rfl, fun ha => ⟨(hA ha).2.2.ext e3, (hA ha).2.1⟩, fun ha => (hB ha).2, fun y hy => ?_⟩
          · cases any with
            | true => exact cnt_perm (hA rfl).1.symm z
            | false => rw [(hB rfl).1]; rfl
          · cases any with
            | true => exact hwf0.out y ((hA rfl).1.mem_iff.1 hy)
            | false => simp at hy
        have M3 : (if any then x :: L1 else []).length ≤ k := by
          rw [← hL.out]
          cases any with
          | true => exact Nat.le_of_eq (hA rfl).1.length_eq
          | false => exact Nat.zero_le _
        obtain ⟨id, dep, q⟩ := x
        clear hA hB t2 hq2 hf2 hq3 t3 hwf0 hL t0 q0 b3 s3
        go_wp2_with fail
        rw [← hw3, ← hg]
        clear hw3 e3
        rw [← hg] at hg0 hbg
        clear hg
        go_loopw [11] (fun an wr => ∃ (N : Nat) (any : Bool) (x : Nd) (bb : Bool) (a1 : Option Addr) (n1 c1 : Nat) (a2 : Option Addr) (n2 c2 : Nat) (M : List Nd), an = .bool any ∧ Hid (PopJ w best p b g N any x bb a1 n1 c1 a2 n2 c2 M wr) ∧ N + M.length ≤ 2 * k) (fun an wr => waits wr p + bit an)
        case atStart => exact ⟨k, any, _, bb, a1, n1, c1, a2, n2, c2, _, rfl, J3, by omega⟩
        case round =>
          obtain ⟨N, any, x, bb, a1, n1, c1, a2, n2, c2, M, rfl, hJ, hNM⟩ := hrel
          clear J3 M3
          obtain ⟨id, dep, q⟩ := x
          obtain ⟨L, hb, hq, ht, hM, hA, hB, hwf⟩ := hJ.out
          have hwq := hq.waits
          cases any with
          | false =>
            have hL0 := hB rfl
            subst hL0
            simp only [Bool.false_eq_true, if_false] at hM
            subst hM
            have hbase := hq.base
            obtain ⟨hv, d, h1, ⟨vs, q1, q2, q3, q4⟩, h3, h4, h5, h6, h7⟩ := hq
            obtain ⟨ad', cap', rfl⟩ := ownsRow_len q3
            have hd0 : d.size = 0 := by rw [← Array.length_toList, h4.length_eq]; rfl
            rw [hd0] at h1
            have HP := Lib.hid h1
            obtain ⟨D, d1, d2, d3⟩ := ht
            have D3 := Lib.hid d3
            have bs := d1.lt
            have pl := h1.lt
            clear hJ hb hA hB hwf hwq q1 q2 q3 q4 h1 h3 h4 h5 h7 d2 d3
            go_wp2_with (first
              | (at_range; refine wpList_range_own _ rfl _ 72 rfl 3 3 lawI Try.underlying72 _ b N D rfl d1 ?_; intro w4 hrg4 hg4 hs4)
              | fail)
            go_frame
            have e4 := hbase.trans hg4
            have P4 := HP.out.ext hg4
            have hr0 := hbase.size
            obtain ⟨r, hr⟩ : ∃ r, r = wr.heap.size := ⟨_, rfl⟩
            rw [← hr] at hrg4 hr0 pl bs ⊢
            clear hr hs4 d1 hg4 hbase HP
            go_loopw [15] (fun _ wr => ∃ (left : Lit → Bool) (cnt : Nat), wr.ranges Try.prog 3 (plainElem Try.prog 3) b r N D left cnt ∧ Hid (Ext w wr ∧ Bx 123 wr p #[.int .i64 (ordV best), .slice ad' 0 cap'])) (fun _ wr => wr.rangeLeft b r)
            case atStart => exact ⟨_, _, hrg4, Lib.hid ⟨e4, P4⟩⟩
            case round =>
              obtain ⟨left, cnt, hrg, hH⟩ := hrel
              clear e4 P4 hrg4
              go_wp2_with (first
                | (at_next; refine wpList_next_ranges_ii _ rfl _ rfl 3 3 .i64 .i64 lawI Try.underlying3 Try.underlying3 b r N _ _ _ rfl hrg ?_ ?_)
                | fail)
              · intro _ hl0
                go_wp2_with fail
                refine (qlen_calls p _ ad' 0 cap' _ hH.out.2).mono ?_
                rintro e w5 ⟨rfl, e5⟩
                go_wp2
                go_ret
                exact ⟨rfl, hH.out.1.trans e5⟩
              · intro z c w5 cnt5 hwz hwc hlz hatz hrg5 hlt5 hg5 hs5 hen
                have hc0 : c = 0 := by
                  have h := hatz (.lit (.int .i64 0))
                  rw [D3.out z] at h
                  cases h
                  rfl
                subst hc0
                go_wp2_with fail
                go_roundw
                case rel => exact ⟨_, cnt5, hrg5, Lib.hid ⟨hH.out.1.step hg5 hr0, hH.out.2.chg hg5 (by omega)⟩⟩
                case measure => rw [hrg5.left_eq, hrg.left_eq]; exact hlt5
          | true =>
            simp only [if_true] at hM
            subst hM
            have hml : (⟨id, dep, q⟩ :: L : List Nd).length = L.length + 1 := rfl
            have hcn := cnt_nonneg L id
            have hcl := cnt_le L id
            have hcc : cnt (⟨id, dep, q⟩ :: L) id = cnt L id + 1 := by rw [cnt_cons, if_pos rfl]
            obtain ⟨cx, hcx⟩ : ∃ cx, cx = cnt L id := ⟨_, rfl⟩
            rw [← hcx] at hcn hcl hcc
            have Hcc := Lib.hid hcc
            have Hwf := Lib.hid (hwf ⟨id, dep, q⟩ (by simp))
            have HwfL := Lib.hid (fun y (hy : y ∈ L) => hwf y (List.mem_cons_of_mem _ hy))
            have HA := Lib.hid (hA rfl)
            have Hq := Lib.hid hq
            have Ht := Lib.hid ht
            have Hwq := Lib.hid hwq
            have Hcx := Lib.hid hcx
            have hf0 := hb.cell 0
            have B0 := Lib.hid hb
            have hN1 : N < maxLen := by unfold maxLen; omega
            clear hJ hA hB hwf hwq hq ht hcc hcx hb
            go_wp2_with (first
              | (at_lookup; refine wpList_look_tly _ rfl _ _ rfl b N (cnt (⟨id, dep, q⟩ :: L)) rfl Ht.out id rfl Hwf.out (cx + 1) Hcc.out ?_)
              | (at_mapUpdate; refine wpList_put_tly _ rfl _ _ _ rfl b N (cnt (⟨id, dep, q⟩ :: L)) rfl Ht.out hN1 id cx rfl rfl Hwf.out (wf64 (by omega) (by omega)) ?_; intro w7 t7 c7)
              | fail)
            have B7 := Lib.hid (B0.out.chg c7 (Ne.symm hbg))
            have q7 := Lib.hid (Hq.out.tly c7 Ht.out hb0)
            have t7' := Lib.hid (t7.same (c' := cnt L) fun z => by
              rw [cnt_cons]
              by_cases hz : z = id
              · subst hz; rw [if_pos rfl, ← Hcx.out]
              · rw [if_neg hz, if_neg hz])
            have A7 := Lib.hid (show NdV w.heap.size 6 w7 _ _ from by
              obtain ⟨D, ⟨es, clock, hbm, -⟩, -, -⟩ := Ht.out
              exact HA.out.1.chgMap c7 hbm)
            clear hf0 B0 t7 c7
            go_wp2_with fail
            refine (qu_popA w w7 6 p best L [g] q7.out (by omega) (by omega)).mono ?_
            rintro e w8 ⟨any', x', bb', a1', n1', c1', a2', n2', c2', L', rfl, hq8, hf8, hA8, hB8⟩
            have t8 := t7'.out.fr hf8
            have B8 := hf8.bx B7.out (by simp)
            have A8 := hf8.ndv A7.out
            obtain ⟨w9, hw9, e9, b9, s9⟩ := alloc1 w8 #[.int .i64 x'.id, .int .i64 x'.depth, .bool bb', .slice a1' n1' c1', .slice a2' n2' c2'] 74
            have B9 := B8.ext e9
            have q9 := Lib.hid (hq8.ext e9)
            have t9 := Lib.hid (t8.ext e9)
            have A9 := Lib.hid (A8.ext e9)
            have hgl := B8.lt
            have hL8 : (if any' then x' :: L' else []).length = L.length := by
              cases any' with
              | true => exact (hA8 rfl).1.length_eq
              | false => rw [(hB8 rfl).1]; rfl
            have J9 := Lib.hid (show (∀ z, cnt L z = cnt (if any' then x' :: L' else []) z) ∧ (any' = true → NdV w.heap.size 6 w9 (.agg #[.int .i64 x'.id, .int .i64 x'.depth, .bool bb', .slice a1' n1' c1', .slice a2' n2' c2']) x' ∧ (∀ y ∈ L', Le best x' y) ∧ Le best ⟨id, dep, q⟩ x') ∧ (any' = false → L' = []) ∧ ∀ y ∈ (if any' then x' :: L' else []), (Lit.int .i64 y.id).wf = true from by
              cases any' with
              | true =>
                obtain ⟨z1, z2, z3⟩ := hA8 rfl
                exact ⟨fun z => cnt_perm z1.symm z, fun _ => ⟨z3.ext e9, z2, HA.out.2 x' (z1.mem_iff.1 (by simp))⟩, (fun h => by cases h), fun y hy => HwfL.out y (z1.mem_iff.1 hy)⟩
              | false =>
                obtain ⟨z1, z2⟩ := hB8 rfl
                exact ⟨fun z => by rw [z1]; rfl, (fun h => by cases h), fun _ => z2, by simp⟩)
            obtain ⟨id', dep', q'⟩ := x'
            have HB8 := Lib.hid hB8
            have B8h := Lib.hid B8
            have q8 := Lib.hid hq8
            have t8h := Lib.hid t8
            clear hA8 hB8 t8 hq8 hf8 B8 A8 q7 t7' B7 A7 HwfL HA Ht Hq
            have hd0 := b9.cell 0
            have hd1 := b9.cell 1
            have hd2 := b9.cell 2
            have hd3 := b9.cell 3
            have hd4 := b9.cell 4
            have hg0' := B9.cell 0
            have hg1' := B9.cell 1
            have hg2' := B9.cell 2
            have hg3' := B9.cell 3
            have hg4' := B9.cell 4
            have B9h := Lib.hid B9
            have b9h := Lib.hid b9
            clear B9 b9
            have hlim6 : (6 : Nat) ≤ LIM := by omega
            cases any' with
            | false =>
              obtain ⟨hz1, hz2⟩ := HB8.out rfl
              clear hd0 hd1 hd2 hd3 hd4 hg0' hg1' hg2' hg3' hg4'
              have hg0' := B8h.out.cell 0
              have hg1' := B8h.out.cell 1
              have hg2' := B8h.out.cell 2
              have hg3' := B8h.out.cell 3
              have hg4' := B8h.out.cell 4
              have hf0' := B8h.out.free 0
              have hf1' := B8h.out.free 1
              have hf2' := B8h.out.free 2
              have hf3' := B8h.out.free 3
              have hf4' := B8h.out.free 4
              clear hw9
              go_wp2_with fail
              obtain ⟨wE, hwE⟩ : ∃ wE, wE = (((((w8.setCell ⟨g, 0, none⟩ (.int .i64 id')).setCell ⟨g, 1, none⟩ (.int .i64 dep')).setCell ⟨g, 2, none⟩ (.bool bb')).setCell ⟨g, 3, none⟩ (.slice a1' n1' c1')).setCell ⟨g, 4, none⟩ (.slice a2' n2' c2')) := ⟨_, rfl⟩
              have cE : Chg g w8 wE := hwE ▸ ((((Chg.setCell w8 g 0 _).trans (Chg.setCell _ g 1 _)).trans (Chg.setCell _ g 2 _)).trans (Chg.setCell _ g 3 _)).trans (Chg.setCell _ g 4 _)
              have BE := ((((B8h.out.set 0 (.int .i64 id')).set 1 (.int .i64 dep')).set 2 (.bool bb')).set 3 (.slice a1' n1' c1')).set 4 (.slice a2' n2' c2')
              rw [← hwE] at BE ⊢
              obtain ⟨wF, hwF, eF, -, -⟩ := alloc1 wE #[.int .i64 id', .int .i64 dep', .bool bb', .slice a1' n1' c1', .slice a2' n2' c2'] 74
              rw [← hwF]
              have hqF := (q8.out.chg cE B8h.out BE (by decide) (by decide) (by decide) (by simp) hg0).ext eF
              have hwqF := hqF.waits
              go_roundw
              case rel =>
                exact ⟨N + 1, false, ⟨id', dep', q'⟩, bb', a1', n1', c1', a2', n2', c2', [], rfl, Lib.hid ⟨L', BE.ext eF, hqF, ((t8h.out.chg cE hbg).ext eF).same (fun z => by rw [hz1]), rfl, (fun h => by cases h), fun _ => hz2, by simp⟩, by simp; omega⟩
              case measure =>
                have hw' := Hwq.out
                rw [hz2] at hwqF
                simp only [bit, List.length_nil] at hwqF ⊢
                omega
            | true =>
              have A1 := Lib.hid (J9.out.2.1 rfl)
              have JC := Lib.hid J9.out.1
              have JW := Lib.hid J9.out.2.2.2
              clear J9
              have hnl : decide (Lt best ⟨id', dep', q'⟩ ⟨id, dep, q⟩) = false := decide_eq_false A1.out.2.2
              rw [hw9] at hg0' hg1' hg2' hg3' hg4'
              go_wp2_with fail
              rw [← hw9]
              refine (rahead_calls best _ _ ⟨id', dep', q'⟩ ⟨id, dep, q⟩ 6 _ (A1.out.1.r hlim6) (A9.out.r hlim6) (by omega)).mono ?_
              rw [hnl]
              rintro e w10 ⟨rfl, e10⟩
              have B10 := B9h.out.ext e10
              have b10 := b9h.out.ext e10
              clear hd0 hd1 hd2 hd3 hd4 hg0' hg1' hg2' hg3' hg4'
              have hd0 := b10.cell 0
              have hd1 := b10.cell 1
              have hd2 := b10.cell 2
              have hd3 := b10.cell 3
              have hd4 := b10.cell 4
              have hg0' := B10.cell 0
              have hg1' := B10.cell 1
              have hg2' := B10.cell 2
              have hg3' := B10.cell 3
              have hg4' := B10.cell 4
              have hf0' := B10.free 0
              have hf1' := B10.free 1
              have hf2' := B10.free 2
              have hf3' := B10.free 3
              have hf4' := B10.free 4
              go_wp2_with fail
              obtain ⟨wE, hwE⟩ : ∃ wE, wE = (((((w10.setCell ⟨g, 0, none⟩ (.int .i64 id')).setCell ⟨g, 1, none⟩ (.int .i64 dep')).setCell ⟨g, 2, none⟩ (.bool bb')).setCell ⟨g, 3, none⟩ (.slice a1' n1' c1')).setCell ⟨g, 4, none⟩ (.slice a2' n2' c2')) := ⟨_, rfl⟩
              have cE : Chg g w10 wE := hwE ▸ ((((Chg.setCell w10 g 0 _).trans (Chg.setCell _ g 1 _)).trans (Chg.setCell _ g 2 _)).trans (Chg.setCell _ g 3 _)).trans (Chg.setCell _ g 4 _)
              have BE := ((((B10.set 0 (.int .i64 id')).set 1 (.int .i64 dep')).set 2 (.bool bb')).set 3 (.slice a1' n1' c1')).set 4 (.slice a2' n2' c2')
              rw [← hwE] at BE ⊢
              have hqE := (q9.out.ext e10).chg cE B10 BE (by decide) (by decide) (by decide) (by simp) hg0
              have hwqE := hqE.waits
              have hlen' : L'.length + 1 = L.length := hL8
              go_roundw
              case rel =>
                exact ⟨N + 1, true, ⟨id', dep', q'⟩, bb', a1', n1', c1', a2', n2', c2', ⟨id', dep', q'⟩ :: L', rfl, Lib.hid ⟨L', BE, hqE, ((t9.out.ext e10).chg cE hbg).same JC.out, rfl, fun _ => ⟨(A1.out.1.ext e10).chgN cE B10 BE (by decide) (by decide), A1.out.2.1⟩, (fun h => by cases h), JW.out⟩, by simp only [List.length_cons] at hNM ⊢; omega⟩
              case measure =>
                have hw' := Hwq.out
                simp only [bit]
                omega
      · obtain ⟨e, he⟩ : ∃ e, l[k]? = some e := ⟨_, List.getElem?_eq_getElem (by rw [← Hn.out]; exact hkl)⟩
        obtain ⟨g, off, rfl, bb, a1, n1, c1, a2, n2, c2, z1, z2, hwf, hcell⟩ := Hat.out k e he
        have f0 := hcell wr hH.out.2.1.base
        have hc0 := f0.1
        have hc1 := f0.2.1
        have hc2 := f0.2.2.1
        have hc3 := f0.2.2.2.1
        have hc4 := f0.2.2.2.2.1
        have R0 := Lib.hid f0.2.2.2.2.2
        have Z1 := Lib.hid z1
        have Z2 := Lib.hid z2
        have Hwf := Lib.hid hwf
        clear f0 hcell z1 z2 he hwf
        obtain ⟨id, dep, eq⟩ := e
        simp only at hc0 hc1
        obtain ⟨w4, hw4, e4, b4, s4⟩ := alloc1 wr #[.int .i64 id, .int .i64 dep, .bool bb, .slice a1 n1 c1, .slice a2 n2 c2] 74
        have hq4 := Lib.hid (hH.out.2.1.more e4 (Nat.le_refl _))
        have t4 := Lib.hid (hH.out.2.2.1.ext e4)
        have R4 := Lib.hid (R0.out.ext e4)
        have hL := Lib.hid hH.out.1
        go_wp2_with fail
        rw [← hw4]
        clear hw4
        refine (rqwords3_calls _ eq.1 _ _ _ R4.out.1 R4.out.2.2.2).mono ?_
        rw [← Z1.out, ← Z2.out]
        rintro e' w5 ⟨rfl, e5⟩
        clear hc0 hc1 hc2 hc3 hc4
        by_cases hbig : 6 < n1 + n2
        · have hbig' : (6 : Int) < ((n1 + n2 : Nat) : Int) := by omega
          go_wp2
          go_ret
          exact ⟨rfl, hq4.out.base.trans e5⟩
        · have hbig' : ¬ (6 : Int) < ((n1 + n2 : Nat) : Int) := by omega
          have hq5 := Lib.hid (hq4.out.ext e5)
          have t5 := Lib.hid (t4.out.ext e5)
          have B5 := Lib.hid (b4.ext e5)
          have hnd : NdR 6 w5 (.agg #[.int .i64 id, .int .i64 dep, .bool bb, .slice a1 n1 c1, .slice a2 n2 c2]) (ndE (id, dep, eq)) := by
            have hr := R4.out.ext e5
            refine ⟨_, _, _, _, _, _, _, rfl, ?_⟩
            have hq1 : n1 = eq.2.1.length := Z1.out
            have hq2 : n2 = eq.2.2.length := Z2.out
            exact hr.1.isR hr.2.1 hr.2.2.1 6 (by omega) (by omega) (by omega) (by omega)
          have hd0 := B5.out.cell 0
          have hd1 := B5.out.cell 1
          have hd2 := B5.out.cell 2
          have hd3 := B5.out.cell 3
          have hd4 := B5.out.cell 4
          have s5 := e5.size
          have b4s := b4.lt
          clear b4
          go_wp2_with fail
          refine (qu_push w w5 6 p best L _ _ (ndE (id, dep, eq)) hq5.out hnd (by omega) (by rw [hL.out]; omega) (by intro g hg; simp only [List.mem_singleton] at hg; subst hg; omega)).mono ?_
          rintro e' w6 ⟨rfl, hq6, hf6⟩
          have t6 := Lib.hid (t5.out.fr hf6)
          have B6 := hf6.bx B5.out (by simp)
          have hcn := cnt_nonneg L id
          have hcl := cnt_le L id
          rw [hL.out] at hcl
          obtain ⟨cx, hcx⟩ : ∃ cx, cx = cnt L id := ⟨_, rfl⟩
          rw [← hcx] at hcn hcl
          have Hcx := Lib.hid hcx.symm
          have Hq6 := Lib.hid hq6
          have hf0 := B6.cell 0
          have hk1 : k < maxLen := by unfold maxLen; omega
          clear hd0 hd1 hd2 hd3 hd4 hnd hcx hq6 hf6
          go_wp2_with (first
            | (at_lookup; refine wpList_look_tly _ rfl _ _ rfl b k (cnt L) rfl t6.out id rfl Hwf.out cx Hcx.out ?_)
            | (at_mapUpdate; refine wpList_put_tly _ rfl _ _ _ rfl b k (cnt L) rfl t6.out hk1 id (cx + 1) rfl rfl Hwf.out (wf64 (by omega) (by omega)) ?_; intro w7 t7 c7)
            | fail)
          have hq7 := (Hq6.out.tly c7 t6.out hb0).mono (T := []) (by simp)
          go_roundw
          case rel =>
            refine ⟨k + 1, ndE (id, dep, eq) :: L, hkl, by simp, Lib.hid ⟨by rw [List.length_cons, hL.out], hq7, t7.same fun x => ?_, fun y hy => ?_⟩⟩
            · rw [cnt_cons]
              show _ = if x = id then cnt L x + 1 else cnt L x
              by_cases hx : x = id
              · subst hx
                rw [if_pos rfl, if_pos rfl, Hcx.out]
              · rw [if_neg hx, if_neg hx]
            · rcases List.mem_cons.1 hy with rfl | hy
              · exact Hwf.out
              · exact hH.out.2.2.2 y hy
          case measure => simp [intOf]; omega
end Go.Proofs.Ytkcnnlhaiahpbaa
