/-
  The law QueuePrunes.
-/
import Derived.Test.YtkcnnlhaiahpbaaQupT
namespace Go.Proofs.Ytkcnnlhaiahpbaa
open Go.RowKit
set_option linter.unusedVariables false
set_option linter.unusedSimpArgs false

set_option maxRecDepth 100000 in
set_option maxHeartbeats 1000000 in
theorem QFr.bxT {S : List Nat} {p g : Nat} {t : TypeId} {cs : Array Value} {w w' : World} (h : QFr S p w w') (hb : Bx t w g cs) (h1 : t ≠ 74) (h2 : t ≠ 123) : Bx t w' g cs := by
  obtain ⟨bs, h3, h4⟩ := h
  exact h3.blk hb fun hm => by
    rcases h4 g hm with ⟨-, cs', hb'⟩ | ⟨-, cs', hb'⟩
    · exact bx_ne hb h2 hb'
    · exact bx_ne hb h1 hb'
set_option maxRecDepth 100000 in
set_option maxHeartbeats 1000000 in
theorem id_ {p : Prop} (h : p) : p := h
set_option maxRecDepth 100000 in
set_option maxHeartbeats 1000000 in
theorem keep_keep (lim : Rat) (l : List Nd) : keepN lim (keepN lim l) = keepN lim l := by
  unfold keepN
  rw [List.filter_filter]
  simp
set_option maxRecDepth 100000 in
set_option maxHeartbeats 1000000 in
theorem gone_keep (lim : Rat) (l : List Nd) : goneN lim (keepN lim l) = [] := by
  unfold goneN keepN
  rw [List.filter_filter, List.map_eq_nil_iff, List.filter_eq_nil_iff]
  simp
set_option maxRecDepth 100000 in
set_option maxHeartbeats 1000000 in
theorem keep_lt {lim : Rat} {l : List Nd} : ∀ x ∈ keepN lim l, x.q < lim := fun x hx => by
  unfold keepN at hx
  simpa using (List.mem_filter.1 hx).2

set_option maxRecDepth 100000 in
set_option maxHeartbeats 8000000 in
theorem queuePrunes_calls (o : Int) (lv qv : Value) (l : List (Int × Int × Bool × List Nat × List Nat)) (el : Bool × List Nat × List Nat) (w : World) (hl : SLN w lv l) (hq : RawE w qv el) (hlen : (l.length + 1) * 72 ≤ 140737488355328) :
    Calls Try.prog 12 #[.int .i64 o, lv, qv] w fun e w' => e = .returned (.bool true) ∧ Ext w w' := by
  have lim0 : (1000 : Nat) ≤ LIM := by rw [LIM_eq]; omega
  obtain ⟨ad, n, cap, hn, rfl, hn1, hat⟩ := hl.at
  rw [← hn] at hlen
  have Hn := Lib.hid hn
  have Hat := Lib.hid hat
  obtain ⟨a1, n1, c1, a2, n2, c2, hn1', hn2', hqv⟩ := RawQ.opn2 hq.1
  subst hqv
  have Hq := Lib.hid hq
  have Hn1 := Lib.hid hn1'
  have Hn2 := Lib.hid hn2'
  obtain ⟨bl, xs, ys⟩ := el
  simp only at hn1' hn2'
  clear hl hn hat hq hn1' hn2'
  go_enter Try.func12, Try.ntmps12
  obtain ⟨w1, hw1, e1, b1, s1⟩ := alloc1 w #[.bool bl, .slice a1 n1 c1, .slice a2 n2 c2] 28
  go_wp2_with fail
  rw [← hw1]
  clear hw1
  refine (speaks20_calls w1).mono ?_
  rintro e w2 ⟨rfl, e2⟩
  have E2 := e1.trans e2
  have B2 := b1.ext e2
  clear e2 b1
  by_cases ho : o = 0 ∨ o = 1
  case neg =>
    have ho0 : ¬ o = 0 := fun h => ho (.inl h)
    have ho1 : ¬ o = 1 := fun h => ho (.inr h)
    have hb0 : (o != 0) = true := by simp [ho0]
    have hb1 : (o != 1) = true := by simp [ho1]
    clear ho
    go_wp2_with fail
    refine (qnew_bad o _ ho0 ho1).mono ?_
    rintro e w3 ⟨rfl, e3⟩
    go_wp2
    go_ret
    exact ⟨by first | rfl | simp [hb0, hb1], E2.trans e3⟩
  case pos =>
    obtain ⟨best, hbo⟩ : ∃ best, o = ordV best := by
      rcases ho with rfl | rfl
      · exact ⟨true, rfl⟩
      · exact ⟨false, rfl⟩
    clear ho
    subst hbo
    go_wp2_with fail
    refine (qu_new w w2 6 best [] E2).mono ?_
    rintro e w3 ⟨rfl, hq3, e3⟩
    obtain ⟨p, hp⟩ : ∃ p, p = w2.heap.size := ⟨_, rfl⟩
    rw [← hp] at hq3 ⊢
    clear hp
    have B3 := B2.ext e3
    have hc0 := B3.cell 0
    have hc1 := B3.cell 1
    have hc2 := B3.cell 2
    have hE3 := hq3.base
    go_wp2_with fail
    refine (rqwords3_calls _ bl xs ys _ (Hq.out.ext hE3).1 (Hq.out.2.2.2)).mono ?_
    have hx1 : n1 = xs.length := Hn1.out
    have hx2 : n2 = ys.length := Hn2.out
    rw [← hx1, ← hx2]
    rintro e' w4 ⟨rfl, e4⟩
    clear hc0 hc1 hc2
    by_cases hbig : 6 < n1 + n2
    · have hbig' : (6 : Int) < ((n1 + n2 : Nat) : Int) := by omega
      go_wp2
      go_ret
      exact ⟨rfl, hE3.trans e4⟩
    have hbig' : ¬ (6 : Int) < ((n1 + n2 : Nat) : Int) := by omega
    obtain ⟨lim, hlim⟩ : ∃ lim, lim = ratE (bl, xs, ys) := ⟨_, rfl⟩
    have hRl : IsR w (.agg #[.bool bl, .slice a1 n1 c1, .slice a2 n2 c2]) lim 6 := by
      rw [hlim]
      have hr := Hq.out
      exact hr.1.isR hr.2.1 hr.2.2.1 6 (by show xs.length ≤ 6; omega) (by show ys.length ≤ 6; omega) (by omega) (by omega)
    have HR := Lib.hid hRl
    have hq4 := hq3.ext e4
    have B4 := B3.ext e4
    have slim := hRl.szD
    clear hlim hRl hq3 B3 hx1 hx2 hbig hE3 e4 e3 B2 E2 Hq Hn1 Hn2
    go_wp2_with fail
    go_loopw [9, 36] (fun s i wr => ∃ (k : Nat) (L : List Nd), k ≤ n ∧ i = .int .i64 (k : Int) ∧ s = .int .i64 (((keepN lim L).length : Nat) : Int) ∧ Hid (L.length = k ∧ Qu w 6 best p L [] wr ∧ Bx 28 wr w.heap.size #[.bool bl, .slice a1 n1 c1, .slice a2 n2 c2])) (fun _ i _ => ((n : Int) - intOf i).toNat)
    case atStart => exact ⟨0, [], Nat.zero_le _, rfl, rfl, Lib.hid ⟨rfl, hq4, B4⟩⟩
    case round =>
      obtain ⟨k, L, hk, rfl, rfl, hH⟩ := hrel
      clear hq4 B4
      rcases Nat.eq_or_lt_of_le hk with hkl | hkl
      · subst hkl
        have hL := Lib.hid hH.out.1
        have hq0 := Lib.hid hH.out.2.1
        have BL0 := hH.out.2.2
        have e0 := hq0.out.base
        have hd0 := BL0.cell 0
        have hd1 := BL0.cell 1
        have hd2 := BL0.cell 2
        have hkg := keep_gone_len lim L
        rw [hL.out] at hkg
        have HBL0 := Lib.hid BL0
        clear BL0 hH Hat
        obtain ⟨kn, hkn⟩ : ∃ kn, kn = (keepN lim L).length := ⟨_, rfl⟩
        obtain ⟨gn, hgn⟩ : ∃ gn, gn = (goneN lim L).length := ⟨_, rfl⟩
        rw [← hkn, ← hgn] at hkg
        rw [← hkn]
        have HKN := Lib.hid hkn
        have HGN := Lib.hid hgn
        clear hkn hgn
        have hkk : ¬ ((k : Int) < (k : Int)) := by omega
        go_wp2_with fail
        refine (prune_calls w wr 6 p best L [] _ lim 6 hq0.out (HR.out.ext e0) (by omega) (by omega) (by rw [hL.out]; omega) (by simp)).mono ?_
        rw [← HGN.out]
        rintro e w2 ⟨ov, rfl, ho, hq2, hf2⟩
        obtain ⟨ado, co, rfl⟩ := ownsRow_len ho
        have BL2 := hf2.bxT HBL0.out (by decide) (by decide)
        have Hq2 := Lib.hid hq2
        have HB2 := Lib.hid BL2
        have e2 := hq2.base
        have hgi : (gn : Int) = (k : Int) - (kn : Int) := by omega
        clear hd0 hd1 hd2 ho hq2 hf2 BL2 HBL0
        go_wp2_with fail
        refine (qu_len w w2 6 p best (keepN lim L) [] Hq2.out).mono ?_
        rw [← HKN.out]
        rintro e w3 ⟨rfl, e3⟩
        have B3 := HB2.out.ext e3
        have hd0 := B3.cell 0
        have hd1 := B3.cell 1
        have hd2 := B3.cell 2
        have HB3 := Lib.hid B3
        clear B3
        go_wp2_with fail
        refine (prune_calls w w3 6 p best (keepN lim L) [] _ lim 6 (Hq2.out.ext e3) (HR.out.ext (e2.trans e3)) (by omega) (by omega) (by rw [← HKN.out]; omega) (by simp)).mono ?_
        rw [gone_keep, keep_keep]
        rintro e w4 ⟨ov, rfl, ho, hq4, hf4⟩
        obtain ⟨ado4, co4, rfl⟩ := ownsRow_len ho
        have BL4 := hf4.bxT HB3.out (by decide) (by decide)
        have Hq4 := Lib.hid hq4
        have HB4 := Lib.hid BL4
        clear hd0 hd1 hd2 ho hq4 hf4 BL4 HB3
        go_wp2_with fail
        go_loopw [13] (fun i wr => ∃ (j : Nat) (L' : List Nd), i = .int .i64 (j : Int) ∧ L'.length + j = kn ∧ Hid (Qu w 6 best p L' [] wr ∧ (∀ x ∈ L', x.q < lim) ∧ Bx 28 wr w.heap.size #[.bool bl, .slice a1 n1 c1, .slice a2 n2 c2])) (fun i _ => ((kn : Int) - intOf i).toNat)
        case atStart => exact ⟨0, keepN lim L, rfl, by rw [← HKN.out]; rfl, Lib.hid ⟨Hq4.out, keep_lt, HB4.out⟩⟩
        case round =>
          obtain ⟨j, L', rfl, hjl, hJ⟩ := hrel
          clear Hq4 HB4
          by_cases hjk : j < kn
          · have hjk' : (j : Int) < (kn : Int) := by omega
            go_wp2_with fail
            refine (qu_pop w wr 6 p best L' [] hJ.out.1 (by rintro rfl; simp at hjl; omega) (by omega) (by omega)).mono ?_
            rintro e w5 ⟨x, va, l', rfl, h1, h2, h3, h4, h5⟩
            obtain ⟨id, dep, q⟩ := x
            obtain ⟨bb, a3, n3, c3, a4, n4, c4, rfl, hfr, hsz⟩ := id_ h3
            simp only at hfr hsz
            have hqlt : q < lim := hJ.out.2.1 ⟨id, dep, q⟩ (h1.mem_iff.1 (by simp))
            have hlt' : ∀ x ∈ l', x.q < lim := fun x hx => hJ.out.2.1 x (h1.mem_iff.1 (List.mem_cons_of_mem _ hx))
            have hll : l'.length + (j + 1) = kn := by
              have := h1.length_eq
              rw [List.length_cons] at this
              omega
            obtain ⟨w6, hw6, e6, b6, s6⟩ := alloc1 w5 #[.int .i64 id, .int .i64 dep, .bool bb, .slice a3 n3 c3, .slice a4 n4 c4] 74
            have hx6 := (hfr.isR hsz (by omega)).ext e6
            have sq := hx6.szD
            have HX6 := Lib.hid hx6
            have q6 := h4.ext e6
            have BL6 := (h5.bxT hJ.out.2.2 (by decide) (by decide)).ext e6
            have e06 := q6.base
            have Hq6 := Lib.hid q6
            have HLT := Lib.hid hlt'
            obtain ⟨c, hc⟩ : ∃ c, c = cmpR q lim := ⟨_, rfl⟩
            have hcl : c < 0 := by rw [hc]; exact cmpR_lt.2 hqlt
            have hcl' : ¬ 0 ≤ c := by omega
            have Hc := Lib.hid hc.symm
            have hblt := BL6.lt
            clear hc h1 h2 h3 h4 h5 hfr hsz hqlt hlt' q6 hx6 hcl
            go_wp2_with fail
            rw [← hw6]
            clear hw6
            refine wp_region_puts [] [PP.val (.bool true), PP.val (.bool false), PP.val (.bool false), PP.val (.pointer (some ⟨w5.heap.size, 2, none⟩)), PP.val (.agg #[.bool bb, .slice a3 n3 c3, .slice a4 n4 c4]), PP.frQd q, PP.val (.agg #[.bool bl, .slice a1 n1 c1, .slice a2 n2 c2]), PP.frQd lim, PP.val (.int .i64 c), PP.val (.bool false), PP.val (.bool false)] [] [0, 1, 2, 3, 4, 5, 6, 7, 8, 9, 10]
              (by kernel_rfl) (by kernel_rfl) (fun f => (by simp only [fillR, fillL, List.setIfInBounds_toArray, List.set_cons_succ, List.set_cons_zero, Nat.reduceAdd]; rfl)) ?_ ?_ ?_ ?_ ?_
            · intro x hx; cases hx
            · intro x hx; cases hx
            · intro x hx; cases hx
            · refine ⟨?o0, ?o1, ?o2, ?o3, ?o4, ?o5, ?o6, ?o7, ?o8, ?o9, ?o10, trivial⟩
              case o0 =>
                intro f w7 hG hp hl
                have hE : Ext w6 w7 := hG
                have hS := hE.size
                simp only [OpGoal]
                go_simp
                exact ⟨_, rfl, Ext.refl _, rfl⟩
              case o1 =>
                intro f w7 hG hp hl
                have hE : Ext w6 w7 := hG
                have hS := hE.size
                have q90 : f 0 = .bool true := tellV hp 0 0 rfl rfl (fun h => by cases h)
                simp only [OpGoal]
                go_simp
                exact ⟨_, rfl, Ext.refl _, rfl⟩
              case o2 =>
                intro f w7 hG hp hl
                have hE : Ext w6 w7 := hG
                have hS := hE.size
                have q91 : f 1 = .bool false := tellV hp 0 1 rfl rfl (fun h => by cases h)
                simp only [OpGoal]
                go_simp
                exact ⟨_, rfl, Ext.refl _, rfl⟩
              case o3 =>
                intro f w7 hG hp hl
                have hE : Ext w6 w7 := hG
                have hS := hE.size
                have qg : f 2 = .bool false := tellV hp 0 2 rfl rfl (fun h => by cases h)
                change OpGoal _ _ _ f w7 Ext _
                refine og_guard (j := 2) (want := false) rfl qg ?_
                simp only [OpGoal]
                go_simp
                exact ⟨_, rfl, Ext.refl _, rfl⟩
              case o4 =>
                intro f w7 hG hp hl
                have hE : Ext w6 w7 := hG
                have hS := hE.size
                have q93 : f 3 = .pointer (some ⟨w5.heap.size, 2, none⟩) := tellV hp 0 3 rfl rfl (fun h => by cases h)
                have qg : f 2 = .bool false := tellV hp 1 2 rfl rfl (fun h => by cases h)
                change OpGoal _ _ _ f w7 Ext _
                refine og_guard (j := 2) (want := false) rfl qg ?_
                have hbx := b6.ext hE
                have hcell0 := hbx.cell 0
                have hcell1 := hbx.cell 1
                have hcell2 := hbx.cell 2
                have hcell3 := hbx.cell 3
                have hcell4 := hbx.cell 4
                simp only [OpGoal]
                go_simp
                exact ⟨_, rfl, Ext.refl _, rfl⟩
              case o5 =>
                intro f w7 hG hp hl
                have hE : Ext w6 w7 := hG
                have hS := hE.size
                have q94 : f 4 = .agg #[.bool bb, .slice a3 n3 c3, .slice a4 n4 c4] := tellV hp 0 4 rfl rfl (fun h => by cases h)
                have qg : f 2 = .bool false := tellV hp 1 2 rfl rfl (fun h => by cases h)
                change OpGoal _ _ _ f w7 Ext _
                refine og_guard (j := 2) (want := false) rfl qg ?_
                change OpGoal _ _ _ f w7 Ext _
                refine og_call (P := Try.prog) _ _ _ #[f 4] Try.func30 (by kernel_rfl) (by kernel_rfl) rfl rfl (by kernel_rfl) ?_
                rw [q94]
                refine (rqofR_calls _ _ _ _ (HX6.out.ext hE) (by omega)).mono ?_
                rintro e w' ⟨v', rfl, h1, h2⟩
                exact ⟨v', rfl, h2, h1.mono hS⟩
              case o6 =>
                intro f w7 hG hp hl
                have hE : Ext w6 w7 := hG
                have hS := hE.size
                have qg : f 2 = .bool false := tellV hp 0 2 rfl rfl (fun h => by cases h)
                change OpGoal _ _ _ f w7 Ext _
                refine og_guard (j := 2) (want := false) rfl qg ?_
                change OpGoal _ _ _ f w7 Ext _
                exact og_load (P := Try.prog) _ _ w.heap.size _ _ _ rfl rfl rfl (BL6.ext hE) Try.underlying28 rfl (by kernel_rfl) rfl
              case o7 =>
                intro f w7 hG hp hl
                have hE : Ext w6 w7 := hG
                have hS := hE.size
                have q96 : f 6 = .agg #[.bool bl, .slice a1 n1 c1, .slice a2 n2 c2] := tellV hp 0 6 rfl rfl (fun h => by cases h)
                have qg : f 2 = .bool false := tellV hp 2 2 rfl rfl (fun h => by cases h)
                change OpGoal _ _ _ f w7 Ext _
                refine og_guard (j := 2) (want := false) rfl qg ?_
                change OpGoal _ _ _ f w7 Ext _
                refine og_call (P := Try.prog) _ _ _ #[f 6] Try.func30 (by kernel_rfl) (by kernel_rfl) rfl rfl (by kernel_rfl) ?_
                rw [q96]
                refine (rqofR_calls _ _ _ _ (HR.out.ext (e06.trans hE)) (by omega)).mono ?_
                rintro e w' ⟨v', rfl, h1, h2⟩
                exact ⟨v', rfl, h2, h1.mono hS⟩
              case o8 =>
                intro f w7 hG hp hl
                have hE : Ext w6 w7 := hG
                have hS := hE.size
                have q95 := tellV hp 0 5 rfl rfl (fun _ => hE)
                have q97 := tellV hp 1 7 rfl rfl (fun _ => hE)
                have qg : f 2 = .bool false := tellV hp 3 2 rfl rfl (fun h => by cases h)
                change OpGoal _ _ _ f w7 Ext _
                refine og_guard (j := 2) (want := false) rfl qg ?_
                change OpGoal _ _ _ f w7 Ext _
                refine og_call (P := Try.prog) _ _ _ #[f 5, f 7] Try.func54 (by kernel_rfl) (by kernel_rfl) rfl rfl (by kernel_rfl) ?_
                refine (rqcmp3_calls _ _ q lim (5 * 6) (5 * 6) _ q95.cq q97.cq sq slim (by omega)).mono ?_
                rw [Hc.out]
                rintro e w' ⟨rfl, h2⟩
                exact ⟨_, rfl, h2, rfl⟩
              case o9 =>
                intro f w7 hG hp hl
                have hE : Ext w6 w7 := hG
                have hS := hE.size
                have q98 : f 8 = .int .i64 c := tellV hp 0 8 rfl rfl (fun h => by cases h)
                have qg : f 2 = .bool false := tellV hp 1 2 rfl rfl (fun h => by cases h)
                change OpGoal _ _ _ f w7 Ext _
                refine og_guard (j := 2) (want := false) rfl qg ?_
                simp only [OpGoal]
                go_simp
                exact ⟨_, rfl, Ext.refl _, congrArg Value.bool (decide_eq_false (by omega))⟩
              case o10 =>
                intro f w7 hG hp hl
                have hE : Ext w6 w7 := hG
                have hS := hE.size
                have q92 : f 2 = .bool false := tellV hp 0 2 rfl rfl (fun h => by cases h)
                have q99 : f 9 = .bool false := tellV hp 1 9 rfl rfl (fun h => by cases h)
                simp only [OpGoal]
                go_simp
                exact ⟨_, rfl, Ext.refl _, rfl⟩
            · intro f w7 hG hp
              have hE : Ext w6 w7 := ChgS.nil hG
              have q100 : f 10 = .bool false := endV hp 10 (by decide) rfl (fun h => by cases h)
              try simp only [q100]
              clear hp
              have Hq7 := Lib.hid (Hq6.out.ext hE)
              have BL7 := Lib.hid (BL6.ext hE)
              clear hE hG
              go_wp2_with fail
              go_roundw
              case rel => exact ⟨j + 1, l', by simp, hll, Lib.hid ⟨Hq7.out, HLT.out, BL7.out⟩⟩
              case measure => simp [intOf]; omega
          · have hjk' : ¬ (j : Int) < (kn : Int) := by omega
            have hl0 : L' = [] := List.eq_nil_of_length_eq_zero (by omega)
            go_wp2_with fail
            refine (qu_len w wr 6 p best L' [] hJ.out.1).mono ?_
            rw [hl0]
            rintro e w5 ⟨rfl, e5⟩
            go_wp2
            go_ret
            exact ⟨rfl, hJ.out.1.base.trans e5⟩
      · obtain ⟨e, he⟩ : ∃ e, l[k]? = some e := ⟨_, List.getElem?_eq_getElem (by rw [← Hn.out]; exact hkl)⟩
        obtain ⟨g, off, rfl, bb, a3, n3, c3, a4, n4, c4, z1, z2, hwf, hcell⟩ := Hat.out k e he
        have f0 := hcell wr hH.out.2.1.base
        have hc0 := f0.1
        have hc1 := f0.2.1
        have hc2 := f0.2.2.1
        have hc3 := f0.2.2.2.1
        have hc4 := f0.2.2.2.2.1
        have R0 := Lib.hid f0.2.2.2.2.2
        have RA := Lib.hid (fun wz (hz : Ext w wz) => (hcell wz hz).2.2.2.2.2)
        have Z1 := Lib.hid z1
        have Z2 := Lib.hid z2
        clear f0 hcell z1 z2 he hwf
        obtain ⟨id, dep, eq⟩ := e
        simp only at hc0 hc1
        obtain ⟨w5, hw5, e5, b5, s5⟩ := alloc1 wr #[.int .i64 id, .int .i64 dep, .bool bb, .slice a3 n3 c3, .slice a4 n4 c4] 74
        have hq5 := Lib.hid (hH.out.2.1.more e5 (Nat.le_refl _))
        have R5 := Lib.hid (R0.out.ext e5)
        have BL5 := Lib.hid (hH.out.2.2.ext e5)
        have hL := Lib.hid hH.out.1
        go_wp2_with fail
        rw [← hw5]
        clear hw5
        refine (rqwords3_calls _ eq.1 _ _ _ R5.out.1 R5.out.2.2.2).mono ?_
        rw [← Z1.out, ← Z2.out]
        rintro e' w6 ⟨rfl, e6⟩
        clear hc0 hc1 hc2 hc3 hc4
        by_cases hbg : 6 < n3 + n4
        · have hbg' : (6 : Int) < ((n3 + n4 : Nat) : Int) := by omega
          go_wp2
          go_ret
          exact ⟨rfl, hq5.out.base.trans e6⟩
        · have hbg' : ¬ (6 : Int) < ((n3 + n4 : Nat) : Int) := by omega
          have hq6 := Lib.hid (hq5.out.ext e6)
          have B6 := Lib.hid (b5.ext e6)
          have BL6 := Lib.hid (BL5.out.ext e6)
          obtain ⟨q, hqq⟩ : ∃ q, q = ratE eq := ⟨_, rfl⟩
          have hR : IsR w6 (.agg #[.bool bb, .slice a3 n3 c3, .slice a4 n4 c4]) q 6 := by
            have hr := R5.out.ext e6
            have hq1 : n3 = eq.2.1.length := Z1.out
            have hq2 : n4 = eq.2.2.length := Z2.out
            rw [hqq]
            exact hr.1.isR hr.2.1 hr.2.2.1 6 (by omega) (by omega) (by omega) (by omega)
          have sq := hR.szD
          have HQQ := Lib.hid hqq
          have HQ6 := Lib.hid hR
          have hnd : NdR 6 w6 (.agg #[.int .i64 id, .int .i64 dep, .bool bb, .slice a3 n3 c3, .slice a4 n4 c4]) ⟨id, dep, q⟩ := ⟨_, _, _, _, _, _, _, rfl, hR⟩
          have hd0 := B6.out.cell 0
          have hd1 := B6.out.cell 1
          have hd2 := B6.out.cell 2
          have hd3 := B6.out.cell 3
          have hd4 := B6.out.cell 4
          have s6 := e6.size
          have b5s := b5.lt
          clear b5 hqq hR
          go_wp2_with fail
          refine (qu_push w w6 6 p best L _ _ ⟨id, dep, q⟩ hq6.out hnd (by omega) (by rw [hL.out]; omega) (by intro g hg; simp only [List.mem_singleton] at hg; subst hg; omega)).mono ?_
          rintro e' w7 ⟨rfl, hq7, hf7⟩
          have B7 := hf7.bx B6.out (by simp)
          have BL7 := hf7.bxT BL6.out (by decide) (by decide)
          have Hq7 := Lib.hid hq7
          have HL7 := Lib.hid HR.out
          have Hf7 := Lib.hid hf7
          have e07 := hq7.base
          clear hd0 hd1 hd2 hd3 hd4 hnd hq7 hf7
          have HQ7 : Hid (IsR w7 (.agg #[.bool bb, .slice a3 n3 c3, .slice a4 n4 c4]) q 6) := Lib.hid (by
            have hr := RA.out w7 e07
            have hq1 : n3 = eq.2.1.length := Z1.out
            have hq2 : n4 = eq.2.2.length := Z2.out
            rw [HQQ.out]
            exact hr.1.isR hr.2.1 hr.2.2.1 6 (by omega) (by omega) (by omega) (by omega))
          obtain ⟨c, hc⟩ : ∃ c, c = cmpR q lim := ⟨_, rfl⟩
          have Hc := Lib.hid hc.symm
          have s7 := Hf7.out.size
          have hkp := keepN_snoc
          clear hc hkp
          go_wp2_with fail
          refine wp_region_puts [] [PP.val (.pointer (some ⟨wr.heap.size, 2, none⟩)), PP.val (.agg #[.bool bb, .slice a3 n3 c3, .slice a4 n4 c4]), PP.frQd q, PP.val (.agg #[.bool bl, .slice a1 n1 c1, .slice a2 n2 c2]), PP.frQd lim, PP.val (.int .i64 c), PP.val (.bool (decide (c < 0)))] [] [0, 1, 2, 3, 4, 5, 6]
            (by kernel_rfl) (by kernel_rfl) (fun f => (by simp only [fillR, fillL, List.setIfInBounds_toArray, List.set_cons_succ, List.set_cons_zero, Nat.reduceAdd]; rfl)) ?_ ?_ ?_ ?_ ?_
          · intro x hx; cases hx
          · intro x hx; cases hx
          · intro x hx; cases hx
          · refine ⟨?o0, ?o1, ?o2, ?o3, ?o4, ?o5, ?o6, trivial⟩
            case o0 =>
              intro f w8 hG hp hl
              have hE : Ext w7 w8 := hG
              have hS := hE.size
              simp only [OpGoal]
              go_simp
              exact ⟨_, rfl, Ext.refl _, rfl⟩
            case o1 =>
              intro f w8 hG hp hl
              have hE : Ext w7 w8 := hG
              have hS := hE.size
              have q47 : f 0 = .pointer (some ⟨wr.heap.size, 2, none⟩) := tellV hp 0 0 rfl rfl (fun h => by cases h)
              have hbx := B7.ext hE
              have hcell0 := hbx.cell 0
              have hcell1 := hbx.cell 1
              have hcell2 := hbx.cell 2
              have hcell3 := hbx.cell 3
              have hcell4 := hbx.cell 4
              simp only [OpGoal]
              go_simp
              exact ⟨_, rfl, Ext.refl _, rfl⟩
            case o2 =>
              intro f w8 hG hp hl
              have hE : Ext w7 w8 := hG
              have hS := hE.size
              have q48 : f 1 = .agg #[.bool bb, .slice a3 n3 c3, .slice a4 n4 c4] := tellV hp 0 1 rfl rfl (fun h => by cases h)
              change OpGoal _ _ _ f w8 Ext _
              refine og_call (P := Try.prog) _ _ _ #[f 1] Try.func30 (by kernel_rfl) (by kernel_rfl) rfl rfl (by kernel_rfl) ?_
              rw [q48]
              refine (rqofR_calls _ _ _ _ (HQ7.out.ext hE) (by omega)).mono ?_
              rintro e w' ⟨v', rfl, h1, h2⟩
              exact ⟨v', rfl, h2, h1.mono hS⟩
            case o3 =>
              intro f w8 hG hp hl
              have hE : Ext w7 w8 := hG
              have hS := hE.size
              change OpGoal _ _ _ f w8 Ext _
              exact og_load (P := Try.prog) _ _ w.heap.size _ _ _ rfl rfl rfl (BL7.ext hE) Try.underlying28 rfl (by kernel_rfl) rfl
            case o4 =>
              intro f w8 hG hp hl
              have hE : Ext w7 w8 := hG
              have hS := hE.size
              have q50 : f 3 = .agg #[.bool bl, .slice a1 n1 c1, .slice a2 n2 c2] := tellV hp 0 3 rfl rfl (fun h => by cases h)
              change OpGoal _ _ _ f w8 Ext _
              refine og_call (P := Try.prog) _ _ _ #[f 3] Try.func30 (by kernel_rfl) (by kernel_rfl) rfl rfl (by kernel_rfl) ?_
              rw [q50]
              refine (rqofR_calls _ _ _ _ (HR.out.ext (e07.trans hE)) (by omega)).mono ?_
              rintro e w' ⟨v', rfl, h1, h2⟩
              exact ⟨v', rfl, h2, h1.mono hS⟩
            case o5 =>
              intro f w8 hG hp hl
              have hE : Ext w7 w8 := hG
              have hS := hE.size
              have q49 := tellV hp 0 2 rfl rfl (fun _ => hE)
              have q51 := tellV hp 1 4 rfl rfl (fun _ => hE)
              change OpGoal _ _ _ f w8 Ext _
              refine og_call (P := Try.prog) _ _ _ #[f 2, f 4] Try.func54 (by kernel_rfl) (by kernel_rfl) rfl rfl (by kernel_rfl) ?_
              refine (rqcmp3_calls _ _ q lim (5 * 6) (5 * 6) _ q49.cq q51.cq sq slim (by omega)).mono ?_
              rw [Hc.out]
              rintro e w' ⟨rfl, h2⟩
              exact ⟨_, rfl, h2, rfl⟩
            case o6 =>
              intro f w8 hG hp hl
              have hE : Ext w7 w8 := hG
              have hS := hE.size
              have q52 : f 5 = .int .i64 c := tellV hp 0 5 rfl rfl (fun h => by cases h)
              simp only [OpGoal]
              go_simp
              exact ⟨_, rfl, Ext.refl _, rfl⟩
          · intro f w8 hG hp
            have hE : Ext w7 w8 := ChgS.nil hG
            have q53 : f 6 = .bool (decide (c < 0)) := endV hp 6 (by decide) rfl (fun h => by cases h)
            try simp only [q53]
            clear hp
            have hq8 := (Hq7.out.ext hE).mono (T := []) (by simp)
            have BL8 := BL7.ext hE
            have hkl' : (⟨id, dep, q⟩ :: L : List Nd).length = k + 1 := by rw [List.length_cons, hL.out]
            have hkn : (keepN lim L).length ≤ k := by rw [← hL.out]; exact List.length_filter_le _ _
            have HQ8 := Lib.hid hq8
            have HB8 := Lib.hid BL8
            clear hq8 BL8 hE hG
            by_cases hc0 : c < 0
            · have hkc : (keepN lim (⟨id, dep, q⟩ :: L)).length = (keepN lim L).length + 1 := by
                have : q < lim := cmpR_lt.1 (by rw [Hc.out]; exact hc0)
                unfold keepN
                rw [List.filter_cons_of_pos (by simpa using this), List.length_cons]
              obtain ⟨kn, hkn'⟩ : ∃ kn, kn = (keepN lim L).length := ⟨_, rfl⟩
              rw [← hkn'] at hkn hkc ⊢
              have HKC := Lib.hid hkc
              clear hkc hkn'
              go_wp2_with fail
              go_roundw
              case rel => exact ⟨k + 1, _, hkl, by simp, by rw [HKC.out]; simp, Lib.hid ⟨hkl', HQ8.out, HB8.out⟩⟩
              case measure => simp [intOf]; omega
            · have hkc : (keepN lim (⟨id, dep, q⟩ :: L)).length = (keepN lim L).length := by
                have : ¬ q < lim := fun h => hc0 (by rw [← Hc.out]; exact cmpR_lt.2 h)
                unfold keepN
                rw [List.filter_cons_of_neg (by simpa using this)]
              obtain ⟨kn, hkn'⟩ : ∃ kn, kn = (keepN lim L).length := ⟨_, rfl⟩
              rw [← hkn'] at hkn hkc ⊢
              have HKC := Lib.hid hkc
              clear hkc hkn'
              go_wp2_with fail
              go_roundw
              case rel => exact ⟨k + 1, _, hkl, by simp, by rw [HKC.out], Lib.hid ⟨hkl', HQ8.out, HB8.out⟩⟩
              case measure => simp [intOf]; omega
end Go.Proofs.Ytkcnnlhaiahpbaa
