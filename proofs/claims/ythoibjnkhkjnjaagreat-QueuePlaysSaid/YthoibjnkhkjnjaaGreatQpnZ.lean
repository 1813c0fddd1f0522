/-
  The law QueuePlays.
-/
import Derived.Test.YthoibjnkhkjnjaaGreatQpkZ
import Derived.Test.YthoibjnkhkjnjaaGreatQqlZ
import Derived.Deep.DeepCutAuto
import Derived.Deep.CutBlock
namespace Go.Proofs.YthoibjnkhkjnjaaGreat
open Go.RowKit
set_option linter.unusedVariables false
set_option linter.unusedSimpArgs false

abbrev OpE := Int × Int × Int × Bool × List Nat × List Nat
/-- A call as it is handed in. -/
def RawOp (w : World) (v : Value) (e : OpE) : Prop := ∃ b a1 n1 c1 a2 n2 c2, v = .agg #[.int .i64 e.1, .int .i64 e.2.1, .int .i64 e.2.2.1, .bool b, .slice a1 n1 c1, .slice a2 n2 c2] ∧ RawE w (.agg #[.bool b, .slice a1 n1 c1, .slice a2 n2 c2]) e.2.2.2
/-- A script as it is handed in. -/
def SLP (w : World) (u : Value) (l : List OpE) : Prop := SL 6 RawOp w u l
set_option maxRecDepth 100000 in
set_option maxHeartbeats 1000000 in
theorem SLP.at {w : World} {u : Value} {l : List OpE} (h : SLP w u l) : ∃ ad m cap, m = l.length ∧ u = .slice ad m cap ∧ m ≤ 9223372036854775807 ∧ ∀ (i : Nat) (e : OpE), l[i]? = some e → ∃ g off, ad = some ⟨g, off, none⟩ ∧ ∃ b a1 n1 c1 a2 n2 c2, n1 = e.2.2.2.2.1.length ∧ n2 = e.2.2.2.2.2.length ∧
    ∀ wz, Ext w wz → wz.cell? ⟨g, off + i * 6, none⟩ = some (.int .i64 e.1) ∧ wz.cell? ⟨g, off + i * 6 + 1, none⟩ = some (.int .i64 e.2.1) ∧ wz.cell? ⟨g, off + i * 6 + 2, none⟩ = some (.int .i64 e.2.2.1) ∧ wz.cell? ⟨g, off + i * 6 + 3, none⟩ = some (.bool b) ∧ wz.cell? ⟨g, off + i * 6 + 4, none⟩ = some (.slice a1 n1 c1) ∧ wz.cell? ⟨g, off + i * 6 + 5, none⟩ = some (.slice a2 n2 c2) ∧ RawE wz (.agg #[.bool b, .slice a1 n1 c1, .slice a2 n2 c2]) e.2.2.2 := by
  obtain ⟨ad, m, cap, h1, h2, h3, h4⟩ := h.opn
  refine ⟨ad, m, cap, h1, h2, h3, fun i e hi => ?_⟩
  obtain ⟨g, off, k1, cs, k2, k3, b, a1, n1, c1, a2, n2, c2, k5, k4⟩ := h4 i e hi
  cases k5
  obtain ⟨a1', n1', c1', a2', n2', c2', j1, j2, j3⟩ := RawQ.opn2 k4.1
  cases j3
  exact ⟨g, off, k1, _, a1, n1, c1, a2, n2, c2, j1, j2, fun wz hz => ⟨k3 wz hz 0 _ rfl, k3 wz hz 1 _ rfl, k3 wz hz 2 _ rfl, k3 wz hz 3 _ rfl, k3 wz hz 4 _ rfl, k3 wz hz 5 _ rfl, k4.ext hz⟩⟩
set_option maxRecDepth 100000 in
set_option maxHeartbeats 1000000 in
theorem QFr.bxT {S : List Nat} {p g : Nat} {t : TypeId} {cs : Array Value} {w w' : World} (h : QFr S p w w') (hb : Bx t w g cs) (h1 : t ≠ 38) (h2 : t ≠ 58) : Bx t w' g cs := by
  obtain ⟨bs, h3, h4⟩ := h
  exact h3.blk hb fun hm => by
    rcases h4 g hm with ⟨-, cs', hb'⟩ | ⟨-, cs', hb'⟩
    · exact bx_ne hb h2 hb'
    · exact bx_ne hb h1 hb'
set_option maxRecDepth 100000 in
set_option maxHeartbeats 1000000 in
theorem ShpP.fr {Q : Nat → Prop} {S : List Nat} {p : Nat} {w w' : World} {s : Value} (h : ShpP Q w s) (hf : QFr S p w w') : ShpP Q w' s := by
  obtain ⟨ad, l, cap, h1, h2, h3⟩ := h
  exact ⟨ad, l, cap, h1, h2, h3.imp_right fun ⟨g, cur, k1, k2, k3, k4⟩ => ⟨g, cur, k1, k2, hf.bxT (t := 61) k3 (by decide) (by decide), k4⟩⟩
set_option maxRecDepth 100000 in
set_option maxHeartbeats 1000000 in
theorem ShpR.fr {Q : Nat → Prop} {S : List Nat} {p : Nat} {w w' : World} {v : Value} (h : ShpR Q w v) (hf : QFr S p w w') : ShpR Q w' v := by
  obtain ⟨b, s, t, h1, h2, h3⟩ := h
  exact ⟨b, s, t, h1, h2.fr hf, h3.fr hf⟩
set_option maxRecDepth 100000 in
set_option maxHeartbeats 1000000 in
theorem blks_own {v : Value} {g : Nat} (h : g ∈ blks v) : v.ownBlock = some g := by
  unfold blks at h
  cases hh : v.ownBlock with
  | none => rw [hh] at h; simp at h
  | some g' => rw [hh] at h; simp at h; rw [h]
set_option maxRecDepth 100000 in
set_option maxHeartbeats 1000000 in
theorem ChgS.lessL {p m : Nat} {w w1 : World} (h : ChgS [p, m] w w1) (h0 : w1.heap[p]? = w.heap[p]?) : ChgS [m] w w1 := ⟨h.1, h.2.1, h.2.2.1, h.2.2.2.1, fun k hk n => by
  by_cases e : k = p
  · rw [e]; exact h0
  · exact h.2.2.2.2 k hk (by simp only [List.mem_cons, List.not_mem_nil, or_false, not_or] at n ⊢; exact ⟨e, n⟩)⟩
set_option maxRecDepth 100000 in
set_option maxHeartbeats 1000000 in
theorem ChgS.lessR {p m : Nat} {w w1 : World} (h : ChgS [p, m] w w1) (h0 : w1.heap[m]? = w.heap[m]?) : ChgS [p] w w1 := ⟨h.1, h.2.1, h.2.2.1, h.2.2.2.1, fun k hk n => by
  by_cases e : k = m
  · rw [e]; exact h0
  · exact h.2.2.2.2 k hk (by simp only [List.mem_cons, List.not_mem_nil, or_false, not_or] at n ⊢; exact ⟨n, e⟩)⟩
/-- What each block holds. -/
def PrJ (p m : Nat) (b : World) : Prop := (∃ cs, Bx 58 b p cs) ∧ ∃ cs, Bx 31 b m cs
/-- The program's queue, pruned. -/
def PrA (w0 : World) (B p : Nat) (best : Bool) (lim : Rat) (l : List Nd) (S : List Nat) (v : Value) (b : World) : Prop := b.ownsRow B 3 1 v (goneN lim l).length (((goneN lim l).mergeSort (fun x y => decide (x ≤ y))).map (Value.int .i64)) ∧ Qu w0 6 best p (keepN lim l) S b
set_option maxRecDepth 100000 in
set_option maxHeartbeats 1000000 in
theorem PrA.ext {w0 w w' : World} {B p : Nat} {best : Bool} {lim : Rat} {l : List Nd} {S : List Nat} {v : Value} (h : PrA w0 B p best lim l S v w) (he : Ext w w') : PrA w0 B p best lim l S v w' := ⟨ownsRow_ext h.1 he, h.2.ext he⟩
set_option maxRecDepth 100000 in
set_option maxHeartbeats 1000000 in
theorem PrA.chg {w0 w w' : World} {B p m : Nat} {best : Bool} {lim : Rat} {l : List Nd} {S : List Nat} {v : Value} (h : PrA w0 B p best lim l S v w) (hj : PrJ p m w) (hc : Chg m w w') (hm : w0.heap.size ≤ m) : PrA w0 B p best lim l S v w' := by
  obtain ⟨-, cs, hb⟩ := hj
  exact ⟨ownsRow_chg h.1 hc hb (by decide), h.2.doc (bs := [m]) (hc.chgS (by simp)) (fun g hg => by
    rw [List.mem_singleton.1 hg]
    exact ⟨hm, .inl ⟨cs, hb⟩⟩) (fun g hg => .inl hg)⟩
/-- The document's queue, pruned. -/
def PrB (w0 : World) (B m : Nat) (best : Bool) (lim : Rat) (L : List Nd) (v : Value) (b : World) : Prop := ∃ v' out, b.ownsRow B 3 1 v out.length (out.map (Value.int .i64)) ∧ SrtI out ∧ out.Perm (goneN lim L) ∧ Bx 31 b m #[.int .i64 (ordV best), v'] ∧ DL w0.heap.size 6 b v' (keepN lim L) ∧ ∀ g, v'.ownBlock = some g → B ≤ g
set_option maxRecDepth 100000 in
set_option maxHeartbeats 1000000 in
theorem PrB.ext {w0 w w' : World} {B m : Nat} {best : Bool} {lim : Rat} {L : List Nd} {v : Value} (h : PrB w0 B m best lim L v w) (he : Ext w w') : PrB w0 B m best lim L v w' := by
  obtain ⟨v', out, h1, h2, h3, h4, h5, h6⟩ := h
  exact ⟨v', out, ownsRow_ext h1 he, h2, h3, h4.ext he, h5.ext he, h6⟩
set_option maxRecDepth 100000 in
set_option maxHeartbeats 1000000 in
theorem PrB.chg {w0 w w' : World} {B p m : Nat} {best : Bool} {lim : Rat} {L : List Nd} {v : Value} (h : PrB w0 B m best lim L v w) (hj : PrJ p m w) (hc : Chg p w w') : PrB w0 B m best lim L v w' := by
  obtain ⟨⟨cs, hb⟩, -⟩ := hj
  obtain ⟨v', out, h1, h2, h3, h4, h5, h6⟩ := h
  have hmp : m ≠ p := fun e => by
    subst e
    exact bx_ne hb (by decide) h4
  refine ⟨v', out, ownsRow_chg h1 hc hb (by decide), h2, h3, h4.chg hc hmp, h5.chgX (bs := [p]) (hc.chgS (by simp)) (fun g hg cs' hcs => ?_) (fun g hg hm => ?_), h6⟩
  · rw [List.mem_singleton.1 hg] at hcs
    exact bx_ne hcs (by decide) hb
  · obtain ⟨-, -, cs', hcs⟩ := h5.own g hg
    rw [List.mem_singleton.1 hm] at hcs
    exact bx_ne hcs (by decide) hb
/-- Both, behind the pruning. -/
def PrT (w0 : World) (p m : Nat) (best : Bool) (lim : Rat) (l L : List Nd) (b : World) : Prop := ∃ v, Qu w0 6 best p (keepN lim l) (blks v) b ∧ Bx 31 b m #[.int .i64 (ordV best), v] ∧ DL w0.heap.size 6 b v (keepN lim L)
set_option maxRecDepth 100000 in
set_option maxHeartbeats 1000000 in
theorem PrT.ext {w0 w w' : World} {p m : Nat} {best : Bool} {lim : Rat} {l L : List Nd} (h : PrT w0 p m best lim l L w) (he : Ext w w') : PrT w0 p m best lim l L w' := by
  obtain ⟨v, h1, h2, h3⟩ := h
  exact ⟨v, h1.ext he, h2.ext he, h3.ext he⟩
set_option maxRecDepth 100000 in
set_option maxHeartbeats 1000000 in
theorem Qu.bx {w0 w : World} {k p : Nat} {best : Bool} {l : List Nd} {S : List Nat} (h : Qu w0 k best p l S w) : ∃ cs, Bx 58 w p cs := by
  obtain ⟨hv, d, h1, -⟩ := h
  exact ⟨_, h1⟩
set_option maxRecDepth 100000 in
set_option maxHeartbeats 1000000 in
/-- More blocks that are none of the queue's list. -/
theorem Qu.moreS {w0 wX w : World} {k p : Nat} {best : Bool} {l : List Nd} {S T bs : List Nat} (h : Qu w0 k best p l S wX) (hc : ChgS bs wX w) (hb : ∀ g ∈ bs, w0.heap.size ≤ g ∧ ((∃ cs, Bx 31 wX g cs) ∨ (g ∈ S ∧ ∃ cs, Bx 38 wX g cs))) (hT : ∀ g ∈ T, wX.heap.size ≤ g) : Qu w0 k best p l (S ++ T) w := h.doc hc hb fun g hg => by
  rcases List.mem_append.1 hg with hg | hg
  · exact .inl hg
  · exact .inr (hT g hg)
/-- Both queues side by side: the same waits. -/
def TwI (w0 : World) (p m : Nat) (best : Bool) (N : Nat) (w : World) : Prop := ∃ l v L, Qu w0 6 best p l (blks v) w ∧ Bx 31 w m #[.int .i64 (ordV best), v] ∧ DL w0.heap.size 6 w v L ∧ Srt best L ∧ l.Perm L ∧ L.length ≤ N ∧ w0.heap.size ≤ m
set_option maxRecDepth 100000 in
set_option maxHeartbeats 1000000 in
theorem TwI.ext {w0 w w' : World} {p m N : Nat} {best : Bool} (h : TwI w0 p m best N w) (he : Ext w w') : TwI w0 p m best N w' := by
  obtain ⟨l, v, L, h1, h2, h3, h4⟩ := h
  exact ⟨l, v, L, h1.ext he, h2.ext he, h3.ext he, h4⟩
set_option maxRecDepth 100000 in
set_option maxHeartbeats 32000000 in
theorem queuePlays_bad (o : Int) (ho : ¬ (o = 0 ∨ o = 1)) (lv : Value) (l : List OpE) (w : World) (hl : SLP w lv l) (hlen : (l.length + 1) * 80 ≤ 140737488355328) :
    Calls Tryz.prog 3 #[.int .i64 o, lv] w fun e w' => e = .returned (.bool true) ∧ Ext w w' := by
  have lim0 : (1000 : Nat) ≤ LIM := by rw [LIM_eq]; omega
  obtain ⟨ad, n, cap, hn, rfl, hn1, hat⟩ := hl.at
  rw [← hn] at hlen
  have Hn := Lib.hid hn
  have Hat := Lib.hid hat
  clear hl hn hat
  go_enter Tryz.func3, Tryz.ntmps3
  go_wp2_with fail
  refine (speaks20_calls w).mono ?_
  rintro e w2 ⟨rfl, e2⟩
  have ho0 : ¬ o = 0 := fun h => ho (.inl h)
  have ho1 : ¬ o = 1 := fun h => ho (.inr h)
  have hb0 : (o != 0) = true := by simp [ho0]
  have hb1 : (o != 1) = true := by simp [ho1]
  clear ho
  go_wp2_with fail
  refine (qnew_bad o _ ho0 ho1).mono ?_
  rintro e w3 ⟨rfl, e3⟩
  go_wp2
  go_ret
  exact ⟨by first | rfl | simp [hb0, hb1], e2.trans e3⟩
set_option maxRecDepth 100000 in
set_option maxHeartbeats 32000000 in
theorem queuePlays_some (best : Bool) (lv : Value) (l : List OpE) (w : World) (hl : SLP w lv l) (hlen : (l.length + 1) * 80 ≤ 140737488355328) :
    Calls Tryz.prog 3 #[.int .i64 (ordV best), lv] w fun e w' => e = .returned (.bool true) ∧ Ext w w' := by
  have lim0 : (1000 : Nat) ≤ LIM := by rw [LIM_eq]; omega
  obtain ⟨ad, n, cap, hn, rfl, hn1, hat⟩ := hl.at
  rw [← hn] at hlen
  have Hn := Lib.hid hn
  have Hat := Lib.hid hat
  clear hl hn hat
  go_enter Tryz.func3, Tryz.ntmps3
  go_wp2_with fail
  refine (speaks20_calls w).mono ?_
  rintro e w2 ⟨rfl, e2⟩
  go_wp2_with fail
  refine (qu_new w w2 6 best [] e2).mono ?_
  rintro e w3 ⟨rfl, hq3, e3⟩
  obtain ⟨p, hp⟩ : ∃ p, p = w2.heap.size := ⟨_, rfl⟩
  rw [← hp] at hq3 ⊢
  clear hp
  obtain ⟨w4, hw4, e4, b4, s4⟩ := alloc1 w3 #[.int .i64 (ordV best), .slice none 0 0] 31
  obtain ⟨m, hm⟩ : ∃ m, m = w3.heap.size := ⟨_, rfl⟩
  rw [← hm] at b4
  have hE3 := hq3.base
  have hs3 := hE3.size
  have HI : Hid (TwI w p m best 0 w4) := Lib.hid ⟨[], .slice none 0 0, [], hq3.ext e4, b4, DL.nil _ _ _, List.Pairwise.nil, List.Perm.refl _, Nat.le_refl _, by omega⟩
  have HM := Lib.hid hm
  clear hq3 b4 hE3 e2 e3 e4 hs3 s4
  clear hm
  obtain ⟨bst, hbst⟩ : ∃ b, b = best := ⟨_, rfl⟩
  rw [← hbst] at HI
  clear hbst
  go_upto_region 4 with (fail)
  go_cut [39] (fun b wx => b = .bool false ∧ w3 = wx)
  case first =>
    clear HI HM hw4
    cases best
    all_goals
      first
        | rw [show ordV true = 0 from rfl]
        | rw [show ordV false = 1 from rfl]
      go_wp2_with fail
      go_meet
      exact ⟨rfl, rfl⟩
  case rest =>
      obtain ⟨rfl, rfl⟩ := hcut
      go_wp2_with fail
      rw [← hw4, ← HM.out]
      clear hw4 HM
      go_loopw [59] (fun i wr => ∃ k : Nat, k ≤ n ∧ i = .int .i64 (k : Int) ∧ Hid (TwI w p m bst k wr)) (fun i _ => ((n : Int) - intOf i).toNat)
      case atStart => exact ⟨0, Nat.zero_le _, rfl, HI⟩
      case round =>
        obtain ⟨k, hk, rfl, hH⟩ := hrel
        clear HI
        rcases Nat.eq_or_lt_of_le hk with hkl | hkl
        · subst hkl
          have hkk : ¬ ((k : Int) < (k : Int)) := by omega
          go_wp2_with fail
          go_loopw [163] (fun i wr => ∃ j : Nat, j ≤ k ∧ i = .int .i64 (j : Int) ∧ Hid (TwI w p m bst (k - j) wr)) (fun i _ => ((k : Int) - intOf i).toNat)
          case atStart => exact ⟨0, Nat.zero_le _, rfl, Lib.hid (by simpa using hH.out)⟩
          case round =>
            clear hH
            obtain ⟨j, hj, rfl, hJ⟩ := hrel
            obtain ⟨l1, v1, L1, hq0, hr0, hd0, hs0, hp0, hl0, hmw⟩ := hJ.out
            have HQ6 := Lib.hid hq0
            have HR6 := Lib.hid hr0
            have HD6 := Lib.hid hd0
            have HS := Lib.hid hs0
            have HP := Lib.hid hp0
            clear hq0 hr0 hd0 hs0 hp0 hJ
            by_cases hjk : j < k
            · have hjk' : (j : Int) < (k : Int) := by omega
              go_wp2_with fail
              refine (tw_qpop w wr bst p l1 L1 (blks v1) HQ6.out HP.out HS.out (by omega)).mono ?_
              rintro e' w7 ⟨va, l2, rfl, hrw, hrk, hq7, hp7, hf7⟩
              have HRK := Lib.hid hrk
              have HF7 := Lib.hid hf7
              have HQ7 := Lib.hid hq7
              have HP7 := Lib.hid hp7
              have HDr7 := Lib.hid (HD6.out.fr (Ext.refl _) hf7 (HurtP.refl (fun _ => False) _) (fun g hg => hg.elim) (fun g hg => blks_mem hg))
              have HRr7 := Lib.hid (hf7.bxT HR6.out (by decide) (by decide))
              have hf7s := hf7.size
              have hrw2 := hrw
              obtain ⟨a5, m5, c5, a6, m6, c6, rfl, -⟩ := hrw2
              obtain ⟨w8, hw8, e8, b8, s8⟩ := alloc1 w7 #[.int .i64 (popI L1), .int .i64 (popD L1), .bool (popB L1), .slice a5 m5 c5, .slice a6 m6 c6] 38
              have HRr8 := Lib.hid (HRr7.out.ext e8)
              have HDr8 := Lib.hid (HDr7.out.ext e8)
              have HQ8 := Lib.hid (HQ7.out.ext e8)
              have HB8 := Lib.hid b8
              have HW8 := Lib.hid (hrw.ext e8)
              have HE8 := Lib.hid e8
              clear hrk hf7 hq7 hp7 hrw b8 e8
              go_wp2_with fail
              rw [← hw8]
              clear hw8
              refine (tw_rpop w.heap.size m bst v1 L1 w8 HRr8.out HDr8.out (by omega)).mono ?_
              rintro e' w9 ⟨vb, v9, rfl, hrw', hc9, hr9, hd9, hbk⟩
              have HQ9 : Hid (Qu w 6 bst p l2 (blks v9) w9) := Lib.hid (HQ8.out.doc (bs := [m]) (hc9.chgS (by simp)) (fun g' hg' => by
                rw [List.mem_singleton.1 hg']
                exact ⟨hmw, .inl ⟨_, HRr8.out⟩⟩) (fun g' hg' => .inl (by rw [← hbk]; exact hg')))
              have hn8 : ∀ g' ∈ [m], ∀ cs, ¬ Bx 61 w8 g' cs := fun g' hg' cs hcs => by
                rw [List.mem_singleton.1 hg'] at hcs
                exact bx_ne hcs (by decide) HRr8.out
              have HRK9 := Lib.hid (HRK.out w9 m ((HE8.out.chg m).trans hc9) ⟨_, HRr7.out⟩)
              have hm8 : m < w7.heap.size := HRr7.out.lt
              have HB9 := Lib.hid (HB8.out.chg hc9 (by omega))
              have h89 := hc9.size
              obtain ⟨a7, m7, c7, a8, m8, c8, rfl, -⟩ := show RwN w9 vb _ _ _ _ _ from hrw'
              obtain ⟨w10, hw10, e10, b10, s10⟩ := alloc1 w9 #[.int .i64 (popI L1), .int .i64 (popD L1), .bool (popB L1), .slice a7 m7 c7, .slice a8 m8 c8] 38
              have HRb := Lib.hid (hrw'.ext e10)
              have HRa := Lib.hid (HRK9.out.ext e10)
              have BA := HB9.out.ext e10
              have HE10 := Lib.hid e10
              have HR9 := Lib.hid hr9
              have HD9 := Lib.hid hd9
              have hq0 := BA.cell 0
              have hq1 := BA.cell 1
              have hq2 := BA.cell 2
              have hq3 := BA.cell 3
              have hq4 := BA.cell 4
              rw [hw10] at hq0 hq1 hq2 hq3 hq4
              have hpt : (popT L1 != popT L1) = false := by simp
              clear hrw' hc9 hr9 hd9 hbk hn8 b10 e10 BA
              go_wp2_with fail
              rw [← hw10]
              refine (rsame_rw _ _ _ _ _ _ _ w10 HRa.out HRb.out).mono ?_
              rintro e' w11 ⟨rfl, e11⟩
              have HE11 := Lib.hid (HE10.out.trans e11)
              have HQ11 := Lib.hid (HQ9.out.ext HE11.out)
              have HR11 := Lib.hid (HR9.out.ext HE11.out)
              have HD11 := Lib.hid (HD9.out.ext HE11.out)
              have HSp := Lib.hid (show Srt bst L1.tail from by
                cases L1 with
                | nil => exact HS.out
                | cons y T => exact srt_tail HS.out)
              have HLp : Hid (L1.tail.length ≤ k - (j + 1)) := Lib.hid (by rw [List.length_tail]; omega)
              clear e11 hw10 hq0 hq1 hq2 hq3 hq4
              go_wp2_with fail
              go_roundw
              case rel => exact ⟨j + 1, hjk, by simp, Lib.hid ⟨l2, v9, L1.tail, HQ11.out, HR11.out, HD11.out, HSp.out, HP7.out, HLp.out, hmw⟩⟩
              case measure => simp [intOf]; omega
            · have hjk' : ¬ (j : Int) < (k : Int) := by omega
              have hl1 : l1.length = 0 := by rw [HP.out.length_eq]; omega
              have HL1 := Lib.hid hl1
              have hE1 := HQ6.out.base
              clear hl1
              go_wp2_with fail
              refine (qu_len w wr 6 p bst l1 _ HQ6.out).mono ?_
              rw [HL1.out]
              rintro e w5 ⟨rfl, e5⟩
              go_wp2
              go_ret
              exact ⟨rfl, hE1.trans e5⟩
        · obtain ⟨e, he⟩ : ∃ e, l[k]? = some e := ⟨_, List.getElem?_eq_getElem (by rw [← Hn.out]; exact hkl)⟩
          obtain ⟨g, off, rfl, bb, a3, n3, c3, a4, n4, c4, z1, z2, hcell⟩ := Hat.out k e he
          obtain ⟨l1, v1, L1, hq0, hr0, hd0, hs0, hp0, hl0, hmw⟩ := hH.out
          have hEr := hq0.base
          have f0 := hcell wr hEr
          have hc0 := f0.1
          have hc1 := f0.2.1
          have hc2 := f0.2.2.1
          have hc3 := f0.2.2.2.1
          have hc4 := f0.2.2.2.2.1
          have hc5 := f0.2.2.2.2.2.1
          have RA := Lib.hid (fun wz (hz : Ext w wz) => (hcell wz hz).2.2.2.2.2.2)
          have Z1 := Lib.hid z1
          have Z2 := Lib.hid z2
          clear f0 hcell z1 z2 he hH
          obtain ⟨kd, id, dep, eq⟩ := e
          simp only at hc0 hc1 hc2
          obtain ⟨w5, hw5, e5, b5, s5⟩ := alloc1 wr #[.int .i64 kd, .int .i64 id, .int .i64 dep, .bool bb, .slice a3 n3 c3, .slice a4 n4 c4] 40
          have HQ := Lib.hid (hq0.ext e5)
          have HR := Lib.hid (hr0.ext e5)
          have HD := Lib.hid (hd0.ext e5)
          have HS := Lib.hid hs0
          have HP := Lib.hid hp0
          have HL := Lib.hid hl0
          have HE5 := Lib.hid (hEr.trans e5)
          clear hq0 hr0 hd0 hs0 hp0 hl0
          go_wp2_with fail
          rw [← hw5]
          clear hw5
          refine (rqwords3_calls _ eq.1 _ _ _ (RA.out w5 HE5.out).1 (RA.out w5 HE5.out).2.2.2).mono ?_
          rw [← Z1.out, ← Z2.out]
          rintro e' w6 ⟨rfl, e6⟩
          clear hc0 hc1 hc2 hc3 hc4 hc5
          by_cases hbg : 6 < n3 + n4
          · have hbg' : (6 : Int) < ((n3 + n4 : Nat) : Int) := by omega
            go_wp2
            go_ret
            exact ⟨rfl, HE5.out.trans e6⟩
          · have hbg' : ¬ (6 : Int) < ((n3 + n4 : Nat) : Int) := by omega
            have B6 := b5.ext e6
            have hd0 := B6.cell 0
            have hd1 := B6.cell 1
            have hd2 := B6.cell 2
            have hd3 := B6.cell 3
            have hd4 := B6.cell 4
            have hd5 := B6.cell 5
            obtain ⟨q, hqq⟩ : ∃ q, q = ratE eq := ⟨_, rfl⟩
            have HIS : Hid (∀ wz, Ext w wz → ∀ v, RawE wz v eq → IsR wz v q 6) := Lib.hid (fun wz _ v hr => by
              have hq1 : n3 = eq.2.1.length := Z1.out
              have hq2 : n4 = eq.2.2.length := Z2.out
              rw [hqq]
              exact hr.1.isR hr.2.1 hr.2.2.1 6 (by omega) (by omega) (by omega) (by omega))
            have HB6 := Lib.hid B6
            have HE6 := Lib.hid (HE5.out.trans e6)
            have HQ6 := Lib.hid (HQ.out.ext e6)
            have HR6 := Lib.hid (HR.out.ext e6)
            have HD6 := Lib.hid (HD.out.ext e6)
            have hlk : L1.length ≤ k := HL.out
            have hb9 := b5.lt
            have s6 := e6.size
            have hE6s := HE6.out.size
            clear B6 hqq b5 e5 e6 HQ HR HD hEr
            go_upto_block 2 with (fail)
            obtain ⟨z, hz⟩ : ∃ z, z = bits BinOp.and IntKind.i64 kd 7 := ⟨_, rfl⟩
            rw [← hz]
            clear hz
            go_cut [70] (fun _ wx => Hid (TwI w p m bst (k + 1) wx))
            case rest =>
              obtain ⟨l2, v2, L2, hq2, hr2, hd2', hs2, hp2, hl2, -⟩ := hcut.out
              have HQz := Lib.hid hq2
              have HRz := Lib.hid hr2
              have HDz := Lib.hid hd2'
              have HSz := Lib.hid hs2
              have HPz := Lib.hid hp2
              have HLz := Lib.hid hl2
              clear hcut hq2 hr2 hd2' hs2 hp2 hl2 hd0 hd1 hd2 hd3 hd4 hd5 HQ6 HR6 HD6 HS HP HB6 HE5 RA
              go_wp2_with fail
              obtain ⟨adz, capz, hvz⟩ := HDz.out.val
              subst hvz
              refine (tw_qleast w wc bst p l2 _ HQz.out).mono ?_
              rintro e wa ⟨va, t, b, xs, ys, rfl, hA, hRq, ea⟩
              obtain ⟨x1, y1, u1, x2, y2, u2, rfl, hraw, hshp⟩ := hRq
              obtain ⟨wb, hwb, eb, bb1, sb⟩ := alloc1 wa #[.bool b, .slice x1 y1 u1, .slice x2 y2 u2] 36
              have HRb := Lib.hid (HRz.out.ext (ea.trans eb))
              have HDb := Lib.hid (HDz.out.ext (ea.trans eb))
              have HRW := Lib.hid (hraw.ext eb)
              have HSH := Lib.hid (hshp.hurtP (eb.hurtsP (fun g => wc.heap.size ≤ g)))
              have HA := Lib.hid hA
              have HEb := Lib.hid (ea.trans eb)
              have HBb := Lib.hid bb1
              clear hA hraw hshp ea eb bb1
              go_wp2_with fail
              rw [← hwb]
              clear hwb
              refine (tw_rleast w.heap.size m bst _ L2 wb HRb.out HDb.out).mono ?_
              rintro e wv ⟨vb, t', b', xs', ys', rfl, hA', hRq', ec⟩
              obtain ⟨rfl, rfl, rfl, rfl⟩ := hA'.uniq HA.out HPz.out
              obtain ⟨x3, y3, u3, x4, y4, u4, rfl, hraw', -⟩ := hRq'
              obtain ⟨wd, hwd, ed, bd1, sd⟩ := alloc1 wv #[.bool b, .slice x3 y3 u3, .slice x4 y4 u4] 36
              have HEd := Lib.hid (HEb.out.trans (ec.trans ed))
              have HRW1 := Lib.hid (HRW.out.ext (ec.trans ed))
              have HRW2 := Lib.hid (hraw'.ext ed)
              have HSHd := Lib.hid (HSH.out.hurtP ((ec.trans ed).hurtsP (fun g => wc.heap.size ≤ g)))
              have hba := HBb.out.ext (ec.trans ed)
              have hbm := HRz.out.ext HEd.out
              have HQd := Lib.hid (HQz.out.ext HEd.out)
              have hle := HPz.out.length_eq
              have hlb := HBb.out.lt
              clear hA' hraw' ec ed
              go_wp2_with fail
              rw [← hwd]
              clear hwd
              refine wp_region_puts [] [PP.val (.pointer (some ⟨p, 0, none⟩)), PP.val (.int .i64 (L2.length : Int)), PP.val (.pointer (some ⟨m, 0, none⟩)), PP.val (.pointer (some ⟨m, 0, none⟩)), PP.val (.pointer (some ⟨m, 1, none⟩)), PP.val (.slice adz L2.length capz), PP.val (.int .i64 (L2.length : Int)), PP.val (.bool false), PP.val (.bool false), PP.val (.bool t), PP.val (.bool t), PP.val (.bool false), PP.val (.bool false), PP.val (.bool false), PP.val (.agg #[.bool b, .slice x1 y1 u1, .slice x2 y2 u2]), PP.val (.agg #[.bool b, .slice x3 y3 u3, .slice x4 y4 u4]), PP.val (.bool true), PP.val (.bool false), PP.val (.bool false)] [] [0, 1, 2, 3, 4, 5, 6, 7, 8, 9, 10, 11, 12, 13, 14, 15, 16, 17, 18]
                (by kernel_rfl) (by kernel_rfl) (fun f => (by simp only [fillR, fillL, List.setIfInBounds_toArray, List.set_cons_succ, List.set_cons_zero, Nat.reduceAdd]; rfl)) ?_ ?_ ?_ ?_ ?_
              · intro x hx; cases hx
              · intro x hx; cases hx
              · intro x hx; cases hx
              · refine ⟨?o0, ?o1, ?o2, ?o3, ?o4, ?o5, ?o6, ?o7, ?o8, ?o9, ?o10, ?o11, ?o12, ?o13, ?o14, ?o15, ?o16, ?o17, ?o18, trivial⟩
                case o0 =>
                  intro f we hG hp hl
                  have hE : Ext wd we := hG
                  have hS := hE.size
                  simp only [OpGoal]
                  go_simp
                  exact ⟨_, rfl, Ext.refl _, rfl⟩
                case o1 =>
                  intro f we hG hp hl
                  have hE : Ext wd we := hG
                  have hS := hE.size
                  have q139 : f 0 = .pointer (some ⟨p, 0, none⟩) := tellV hp 0 0 rfl rfl (fun h => by cases h)
                  change OpGoal _ _ _ f we Ext _
                  refine og_call (P := Tryz.prog) _ _ _ #[f 0] Tryz.func19 (by kernel_rfl) (by kernel_rfl) rfl rfl (by kernel_rfl) ?_
                  rw [q139]
                  refine (qu_len w _ 6 p bst _ _ (HQd.out.ext hE)).mono ?_
                  rw [hle]
                  rintro e w' ⟨rfl, h2⟩
                  exact ⟨_, rfl, h2, rfl⟩
                case o2 =>
                  intro f we hG hp hl
                  have hE : Ext wd we := hG
                  have hS := hE.size
                  simp only [OpGoal]
                  go_simp
                  exact ⟨_, rfl, Ext.refl _, rfl⟩
                case o3 =>
                  intro f we hG hp hl
                  have hE : Ext wd we := hG
                  have hS := hE.size
                  have q141 : f 2 = .pointer (some ⟨m, 0, none⟩) := tellV hp 0 2 rfl rfl (fun h => by cases h)
                  simp only [OpGoal]
                  go_simp
                  exact ⟨_, rfl, Ext.refl _, rfl⟩
                case o4 =>
                  intro f we hG hp hl
                  have hE : Ext wd we := hG
                  have hS := hE.size
                  have q142 : f 3 = .pointer (some ⟨m, 0, none⟩) := tellV hp 0 3 rfl rfl (fun h => by cases h)
                  simp only [OpGoal]
                  go_simp
                  exact ⟨_, rfl, Ext.refl _, rfl⟩
                case o5 =>
                  intro f we hG hp hl
                  have hE : Ext wd we := hG
                  have hS := hE.size
                  have q143 : f 4 = .pointer (some ⟨m, 1, none⟩) := tellV hp 0 4 rfl rfl (fun h => by cases h)
                  have hcell := (hbm.ext hE).cell 1
                  simp only [OpGoal]
                  go_simp
                  exact ⟨_, rfl, Ext.refl _, rfl⟩
                case o6 =>
                  intro f we hG hp hl
                  have hE : Ext wd we := hG
                  have hS := hE.size
                  have q144 : f 5 = .slice adz L2.length capz := tellV hp 0 5 rfl rfl (fun h => by cases h)
                  simp only [OpGoal]
                  go_simp
                  exact ⟨_, rfl, Ext.refl _, rfl⟩
                case o7 =>
                  intro f we hG hp hl
                  have hE : Ext wd we := hG
                  have hS := hE.size
                  have q140 : f 1 = .int .i64 (L2.length : Int) := tellV hp 0 1 rfl rfl (fun h => by cases h)
                  have q145 : f 6 = .int .i64 (L2.length : Int) := tellV hp 1 6 rfl rfl (fun h => by cases h)
                  simp only [OpGoal]
                  go_simp
                  exact ⟨_, rfl, Ext.refl _, rfl⟩
                case o8 =>
                  intro f we hG hp hl
                  have hE : Ext wd we := hG
                  have hS := hE.size
                  have q146 : f 7 = .bool false := tellV hp 0 7 rfl rfl (fun h => by cases h)
                  simp only [OpGoal]
                  go_simp
                  exact ⟨_, rfl, Ext.refl _, rfl⟩
                case o9 =>
                  intro f we hG hp hl
                  have hE : Ext wd we := hG
                  have hS := hE.size
                  have qg : f 8 = .bool false := tellV hp 0 8 rfl rfl (fun h => by cases h)
                  change OpGoal _ _ _ f we Ext _
                  refine og_guard (j := 8) (want := false) rfl qg ?_
                  simp only [OpGoal]
                  go_simp
                  exact ⟨_, rfl, Ext.refl _, rfl⟩
                case o10 =>
                  intro f we hG hp hl
                  have hE : Ext wd we := hG
                  have hS := hE.size
                  have qg : f 8 = .bool false := tellV hp 0 8 rfl rfl (fun h => by cases h)
                  change OpGoal _ _ _ f we Ext _
                  refine og_guard (j := 8) (want := false) rfl qg ?_
                  simp only [OpGoal]
                  go_simp
                  exact ⟨_, rfl, Ext.refl _, rfl⟩
                case o11 =>
                  intro f we hG hp hl
                  have hE : Ext wd we := hG
                  have hS := hE.size
                  have q148 : f 9 = .bool t := tellV hp 0 9 rfl rfl (fun h => by cases h)
                  have q149 : f 10 = .bool t := tellV hp 1 10 rfl rfl (fun h => by cases h)
                  have qg : f 8 = .bool false := tellV hp 2 8 rfl rfl (fun h => by cases h)
                  change OpGoal _ _ _ f we Ext _
                  refine og_guard (j := 8) (want := false) rfl qg ?_
                  simp only [OpGoal]
                  go_simp
                  exact ⟨_, rfl, Ext.refl _, rfl⟩
                case o12 =>
                  intro f we hG hp hl
                  have hE : Ext wd we := hG
                  have hS := hE.size
                  have q147 : f 8 = .bool false := tellV hp 0 8 rfl rfl (fun h => by cases h)
                  have q150 : f 11 = .bool false := tellV hp 1 11 rfl rfl (fun h => by cases h)
                  simp only [OpGoal]
                  go_simp
                  exact ⟨_, rfl, Ext.refl _, rfl⟩
                case o13 =>
                  intro f we hG hp hl
                  have hE : Ext wd we := hG
                  have hS := hE.size
                  have q151 : f 12 = .bool false := tellV hp 0 12 rfl rfl (fun h => by cases h)
                  simp only [OpGoal]
                  go_simp
                  exact ⟨_, rfl, Ext.refl _, rfl⟩
                case o14 =>
                  intro f we hG hp hl
                  have hE : Ext wd we := hG
                  have hS := hE.size
                  have qg : f 13 = .bool false := tellV hp 0 13 rfl rfl (fun h => by cases h)
                  change OpGoal _ _ _ f we Ext _
                  refine og_guard (j := 13) (want := false) rfl qg ?_
                  change OpGoal _ _ _ f we Ext _
                  exact og_load (P := Tryz.prog) _ _ wa.heap.size _ _ _ rfl rfl rfl (hba.ext hE) Tryz.underlying36 rfl (by kernel_rfl) rfl
                case o15 =>
                  intro f we hG hp hl
                  have hE : Ext wd we := hG
                  have hS := hE.size
                  have qg : f 13 = .bool false := tellV hp 0 13 rfl rfl (fun h => by cases h)
                  change OpGoal _ _ _ f we Ext _
                  refine og_guard (j := 13) (want := false) rfl qg ?_
                  change OpGoal _ _ _ f we Ext _
                  exact og_load (P := Tryz.prog) _ _ wv.heap.size _ _ _ rfl rfl rfl (bd1.ext hE) Tryz.underlying36 rfl (by kernel_rfl) rfl
                case o16 =>
                  intro f we hG hp hl
                  have hE : Ext wd we := hG
                  have hS := hE.size
                  have q153 : f 14 = .agg #[.bool b, .slice x1 y1 u1, .slice x2 y2 u2] := tellV hp 0 14 rfl rfl (fun h => by cases h)
                  have q154 : f 15 = .agg #[.bool b, .slice x3 y3 u3, .slice x4 y4 u4] := tellV hp 1 15 rfl rfl (fun h => by cases h)
                  have qg : f 13 = .bool false := tellV hp 2 13 rfl rfl (fun h => by cases h)
                  change OpGoal _ _ _ f we Ext _
                  refine og_guard (j := 13) (want := false) rfl qg ?_
                  change OpGoal _ _ _ f we Ext _
                  refine og_call (P := Tryz.prog) _ _ _ #[f 14, f 15] Tryz.func20 (by kernel_rfl) (by kernel_rfl) rfl rfl (by kernel_rfl) ?_
                  rw [q153, q154]
                  refine (rqsame3_calls _ _ _ _ _ _ _ _ _ (HRW1.out.ext hE) (HRW2.out.ext hE)).mono ?_
                  rintro e w' ⟨rfl, h2⟩
                  exact ⟨_, rfl, h2, congrArg Value.bool (by simp)⟩
                case o17 =>
                  intro f we hG hp hl
                  have hE : Ext wd we := hG
                  have hS := hE.size
                  have q155 : f 16 = .bool true := tellV hp 0 16 rfl rfl (fun h => by cases h)
                  have qg : f 13 = .bool false := tellV hp 1 13 rfl rfl (fun h => by cases h)
                  change OpGoal _ _ _ f we Ext _
                  refine og_guard (j := 13) (want := false) rfl qg ?_
                  simp only [OpGoal]
                  go_simp
                  exact ⟨_, rfl, Ext.refl _, rfl⟩
                case o18 =>
                  intro f we hG hp hl
                  have hE : Ext wd we := hG
                  have hS := hE.size
                  have q152 : f 13 = .bool false := tellV hp 0 13 rfl rfl (fun h => by cases h)
                  have q156 : f 17 = .bool false := tellV hp 1 17 rfl rfl (fun h => by cases h)
                  simp only [OpGoal]
                  go_simp
                  exact ⟨_, rfl, Ext.refl _, rfl⟩
              · intro f we hG hp
                have hE : Ext wd we := ChgS.nil hG
                have q157 : f 18 = .bool false := endV hp 18 (by decide) rfl (fun h => by cases h)
                try simp only [q157]
                clear hp
                have hbe := hba.ext hE
                have hk0 := hbe.cell 0
                have hk1 := hbe.cell 1
                have hk2 := hbe.cell 2
                have HEe := Lib.hid (HEd.out.trans hE)
                have HSHe := Lib.hid (HSHd.out.hurtP (hE.hurtsP (fun g => wc.heap.size ≤ g)))
                clear hE hG hbe hba hbm bd1
                go_wp2_with fail
                refine (spoilP_calls _ (fun g => wc.heap.size ≤ g) we HSHe.out).mono ?_
                rintro e wf ⟨rfl, hh⟩
                have HEf := Lib.hid (HEe.out.hurtP hh (fun g hg => hg))
                clear hh hk0 hk1 hk2
                go_wp2_with fail
                go_roundw
                case rel => exact ⟨k + 1, hkl, by simp, Lib.hid (TwI.ext ⟨l2, _, L2, HQz.out, HRz.out, HDz.out, HSz.out, HPz.out, HLz.out, hmw⟩ HEf.out)⟩
                case measure => simp [intOf]; omega
            rcases (show (z = 0 ∨ z = 1 ∨ z = 2 ∨ z = 3) ∨ (z = 4 ∨ z = 5) ∨ z = 6 ∨ (z ≠ 0 ∧ z ≠ 1 ∧ z ≠ 2 ∧ z ≠ 3 ∧ z ≠ 4 ∧ z ≠ 5 ∧ z ≠ 6) by omega) with hz | hz | hz | hz
            · have hx6 : Hid (NdR 6 w6 (.agg #[.int .i64 id, .int .i64 dep, .bool bb, .slice a3 n3 c3, .slice a4 n4 c4]) ⟨id, dep, q⟩) := Lib.hid ⟨_, _, _, _, _, _, _, rfl, HIS.out w6 HE6.out _ (RA.out w6 HE6.out)⟩
              obtain ⟨w7, hw7, e7, b7, s7⟩ := alloc1 w6 #[.int .i64 id, .int .i64 dep, .bool bb, .slice a3 n3 c3, .slice a4 n4 c4] 38
              have HE7 := Lib.hid (HE6.out.trans e7)
              have HR7 := Lib.hid (RA.out w7 HE7.out)
              have HB7 := Lib.hid b7
              have hlz : Hid (n3 = eq.2.1.length ∧ n4 = eq.2.2.length) := Lib.hid ⟨Z1.out, Z2.out⟩
              have hb7 := b7.lt
              have H7 := Lib.hid e7
              clear b7 e7
              rcases hz with rfl | rfl | rfl | rfl
              all_goals
                go_wp2_with fail
                rw [← hw7]
                refine (rqcopy3_calls _ eq.1 eq.2.1 eq.2.2 _ HR7.out.1 (by rw [← hlz.out.1]; omega) (by rw [← hlz.out.2]; omega)).mono ?_
                rintro e' w8 ⟨v8, rfl, hf8, e8⟩
                have hf8' := hf8
                obtain ⟨sv, tv, hv8, hs8, ht8⟩ := hf8'
                obtain ⟨a5, c5, hsv⟩ := FrL.slice hs8
                obtain ⟨a6, c6, htv⟩ := FrL.slice ht8
                subst hv8 hsv htv
                have B8 := HB7.out.ext e8
                have hk2 := B8.cell 2
                have hk3 := B8.cell 3
                have hk4 := B8.cell 4
                have hf2 := B8.free 2
                have hf3 := B8.free 3
                have hf4 := B8.free 4
                obtain ⟨w9, hw9, c9, B9⟩ := put3n B8 (.bool eq.1) (.slice a5 eq.2.1.length c5) (.slice a6 eq.2.2.length c6)
                have hs78 := e8.size
                have hE69 : Ext w6 w9 := (H7.out.trans e8).step c9 (Nat.le_refl _)
                have hF9 := hf8.chg c9 hb7
                have HB9 := Lib.hid B9
                have HE69 := Lib.hid hE69
                have HF9 := Lib.hid hF9
                have h69 := hE69.size
                have h89 := c9.size
                clear B8 B9 hf8 hs8 ht8 e8 c9 hF9 hE69 hd0 hd1 hd2 hd3 hd4 hd5
                go_upto_region 19 with (fail)
                rw [← hw9]
                clear hw9 hw7 hk2 hk3 hk4 hf2 hf3 hf4
                have hS0 : ∀ g' ∈ w6.heap.size :: blks v1, g' < w9.heap.size := fun g' hg' => by
                  rcases List.mem_cons.1 hg' with rfl | hg'
                  · omega
                  · have := (HD6.out.own g' (blks_own hg')).2.1
                    omega
                have HS0 := Lib.hid hS0
                have hx9 : NdR 6 w9 (.agg #[.int .i64 id, .int .i64 dep, .bool eq.1, .slice a5 eq.2.1.length c5, .slice a6 eq.2.2.length c6]) ⟨id, dep, q⟩ := ⟨_, _, _, _, _, _, _, rfl, HIS.out w9 (HE6.out.trans HE69.out) _ ⟨HF9.out.raw, HR7.out.2.1, HR7.out.2.2.1, HR7.out.2.2.2⟩⟩
                have HX9 := Lib.hid hx9
                have B9 := HB9.out
                have hk0 := B9.cell 0
                have hk1 := B9.cell 1
                have hk2 := B9.cell 2
                have hk3 := B9.cell 3
                have hk4 := B9.cell 4
                clear hS0 hx9 B9
                go_wp2_with fail
                refine (qu_pushP w7.heap.size w w6 w9 6 p bst l1 (w6.heap.size :: blks v1) _ ⟨id, dep, q⟩ (HQ6.out.more (Ext.refl w6) (Nat.le_refl _)) HE69.out (by omega) HX9.out (by omega) (by rw [HP.out.length_eq]; omega) HS0.out).mono ?_
                rintro e' w10 ⟨rfl, hq10, hf10⟩
                have B10 := hf10.bx HB9.out (by simp)
                have HQ10 := Lib.hid hq10
                have HF10 := Lib.hid hf10
                have h910 := hf10.size
                have hsh : ShpR (fun g' => w7.heap.size ≤ g' ∧ g' < w9.heap.size) w9 (.agg #[.bool eq.1, .slice a5 eq.2.1.length c5, .slice a6 eq.2.2.length c6]) := by
                  obtain ⟨s', t', h1, h2, h3⟩ := HF9.out
                  exact ⟨_, s', t', h1, h2.shpP (Nat.le_refl _), h3.shpP (Nat.le_refl _)⟩
                have HSH := Lib.hid (hsh.fr hf10)
                clear hk0 hk1 hk2 hk3 hk4 hq10 hf10 hsh
                have hk2 := B10.cell 2
                have hk3 := B10.cell 3
                have hk4 := B10.cell 4
                clear B10
                go_wp2_with fail
                refine (spoilP_calls _ _ w10 HSH.out).mono ?_
                rintro e' w11 ⟨rfl, hh⟩
                have HQ11 := Lib.hid (HQ10.out.hurt hh (by omega))
                have HH := Lib.hid hh
                have HD11 := Lib.hid (HD6.out.fr HE69.out HF10.out hh (fun g' hg' => by omega) (fun g' hg' => List.mem_cons_of_mem _ (blks_mem hg')))
                have HR11 := Lib.hid ((HF10.out.bxT (HR6.out.ext HE69.out) (by decide) (by decide)).hurtP hh (by decide))
                have BO := (HF10.out.bxT (HB6.out.ext HE69.out) (by decide) (by decide)).hurtP hh (by decide)
                have hE11 := HQ11.out.base
                have HX11 : Hid (NdR 6 w11 (.agg #[.int .i64 id, .int .i64 dep, .bool bb, .slice a3 n3 c3, .slice a4 n4 c4]) ⟨id, dep, q⟩) := Lib.hid ⟨_, _, _, _, _, _, _, rfl, HIS.out w11 hE11 _ (RA.out w11 hE11)⟩
                have hw11 := hE11.size
                have ho1 := BO.cell 1
                have ho2 := BO.cell 2
                have ho3 := BO.cell 3
                have ho4 := BO.cell 4
                have ho5 := BO.cell 5
                clear hh hk2 hk3 hk4 BO hE11
                go_wp2_with fail
                refine (rpush_calls w.heap.size 6 m bst v1 _ L1 ⟨id, dep, q⟩ w11 HR11.out HD11.out HS.out HX11.out (by omega) (by omega) hw11).mono ?_
                rintro e' w12 ⟨rfl, hc12, v2, L2, hr12, hd12, hs12, hp12, hv12⟩
                have HQ12 : Hid (Qu w 6 bst p (⟨id, dep, q⟩ :: l1) (blks v2) w12) := Lib.hid (HQ11.out.doc hc12 (fun g' hg' => by
                  rcases List.mem_cons.1 hg' with rfl | hg'
                  · exact ⟨hmw, .inl ⟨_, HR11.out⟩⟩
                  · obtain ⟨k1, -, k3⟩ := HD11.out.own g' (blks_own hg')
                    exact ⟨k1, .inr ⟨List.mem_cons_of_mem _ hg', k3⟩⟩) (fun g' hg' => (hv12 g' (blks_own hg')).imp_left fun h => List.mem_cons_of_mem _ (blks_mem h)))
                have HR12 := Lib.hid hr12
                have HD12 := Lib.hid hd12
                have HS12 := Lib.hid hs12
                have HP12 := Lib.hid ((List.Perm.cons _ HP.out).trans hp12.symm)
                have hll := hp12.length_eq
                rw [List.length_cons] at hll
                have HL12 : Hid (L2.length ≤ k + 1) := Lib.hid (by omega)
                clear hc12 hr12 hd12 hs12 hp12 hv12 hll ho1 ho2 ho3 ho4 ho5
                go_wp2_with fail
                go_meet
                exact Lib.hid ⟨_, v2, L2, HQ12.out, HR12.out, HD12.out, HS12.out, HP12.out, HL12.out, hmw⟩
            · rcases hz with rfl | rfl
              all_goals
                go_wp2_with fail
                refine (tw_qpop w w6 bst p l1 L1 (blks v1) HQ6.out HP.out HS.out (by omega)).mono ?_
                rintro e' w7 ⟨va, l2, rfl, hrw, hrk, hq7, hp7, hf7⟩
                have HRK := Lib.hid hrk
                have HF7 := Lib.hid hf7
                have HQ7 := Lib.hid hq7
                have HP7 := Lib.hid hp7
                have HDr7 := Lib.hid (HD6.out.fr (Ext.refl _) hf7 (HurtP.refl (fun _ => False) _) (fun g hg => hg.elim) (fun g hg => blks_mem hg))
                have HRr7 := Lib.hid (hf7.bxT HR6.out (by decide) (by decide))
                have hf7s := hf7.size
                have hrw2 := hrw
                obtain ⟨a5, m5, c5, a6, m6, c6, rfl, -⟩ := hrw2
                obtain ⟨w8, hw8, e8, b8, s8⟩ := alloc1 w7 #[.int .i64 (popI L1), .int .i64 (popD L1), .bool (popB L1), .slice a5 m5 c5, .slice a6 m6 c6] 38
                have HRr8 := Lib.hid (HRr7.out.ext e8)
                have HDr8 := Lib.hid (HDr7.out.ext e8)
                have HQ8 := Lib.hid (HQ7.out.ext e8)
                have HB8 := Lib.hid b8
                have HW8 := Lib.hid (hrw.ext e8)
                have HE8 := Lib.hid e8
                clear hrk hf7 hq7 hp7 hrw b8 e8
                go_wp2_with fail
                rw [← hw8]
                clear hw8
                refine (tw_rpop w.heap.size m bst v1 L1 w8 HRr8.out HDr8.out (by omega)).mono ?_
                rintro e' w9 ⟨vb, v9, rfl, hrw', hc9, hr9, hd9, hbk⟩
                have HQ9 : Hid (Qu w 6 bst p l2 (blks v9) w9) := Lib.hid (HQ8.out.doc (bs := [m]) (hc9.chgS (by simp)) (fun g' hg' => by
                  rw [List.mem_singleton.1 hg']
                  exact ⟨hmw, .inl ⟨_, HRr8.out⟩⟩) (fun g' hg' => .inl (by rw [← hbk]; exact hg')))
                have hn8 : ∀ g' ∈ [m], ∀ cs, ¬ Bx 61 w8 g' cs := fun g' hg' cs hcs => by
                  rw [List.mem_singleton.1 hg'] at hcs
                  exact bx_ne hcs (by decide) HRr8.out
                have HRK9 := Lib.hid (HRK.out w9 m ((HE8.out.chg m).trans hc9) ⟨_, HRr7.out⟩)
                have hm8 : m < w7.heap.size := HRr7.out.lt
                have HB9 := Lib.hid (HB8.out.chg hc9 (by omega))
                have h89 := hc9.size
                obtain ⟨a7, m7, c7, a8, m8, c8, rfl, -⟩ := show RwN w9 vb _ _ _ _ _ from hrw'
                obtain ⟨w10, hw10, e10, b10, s10⟩ := alloc1 w9 #[.int .i64 (popI L1), .int .i64 (popD L1), .bool (popB L1), .slice a7 m7 c7, .slice a8 m8 c8] 38
                have HRb := Lib.hid (hrw'.ext e10)
                have HRa := Lib.hid (HRK9.out.ext e10)
                have BA := HB9.out.ext e10
                have HE10 := Lib.hid e10
                have HR9 := Lib.hid hr9
                have HD9 := Lib.hid hd9
                have hq0 := BA.cell 0
                have hq1 := BA.cell 1
                have hq2 := BA.cell 2
                have hq3 := BA.cell 3
                have hq4 := BA.cell 4
                rw [hw10] at hq0 hq1 hq2 hq3 hq4
                have hpt : (popT L1 != popT L1) = false := by simp
                clear hrw' hc9 hr9 hd9 hbk hn8 b10 e10 BA
                go_wp2_with fail
                rw [← hw10]
                refine (rsame_rw _ _ _ _ _ _ _ w10 HRa.out HRb.out).mono ?_
                rintro e' w11 ⟨rfl, e11⟩
                have HE11 := Lib.hid (HE10.out.trans e11)
                have HQ11 := Lib.hid (HQ9.out.ext HE11.out)
                have HR11 := Lib.hid (HR9.out.ext HE11.out)
                have HD11 := Lib.hid (HD9.out.ext HE11.out)
                have HSp := Lib.hid (show Srt bst L1.tail from by
                  cases L1 with
                  | nil => exact HS.out
                  | cons y T => exact srt_tail HS.out)
                have HLp : Hid (L1.tail.length ≤ k + 1) := Lib.hid (by rw [List.length_tail]; omega)
                clear e11 hw10 hq0 hq1 hq2 hq3 hq4
                go_wp2_with fail
                go_meet
                exact Lib.hid ⟨l2, v9, L1.tail, HQ11.out, HR11.out, HD11.out, HSp.out, HP7.out, HLp.out, hmw⟩
            · subst hz
              have hpm : p ≠ m := fun e => by
                obtain ⟨cs, hcs⟩ := HQ6.out.bx
                rw [e] at hcs
                exact bx_ne hcs (by decide) HR6.out
              have hpB : w.heap.size ≤ p := by
                obtain ⟨_, _, _, _, _, _, _, h6, _⟩ := HQ6.out
                exact h6
              have hpl : p < w6.heap.size := by
                obtain ⟨cs, hcs⟩ := HQ6.out.bx
                exact hcs.lt
              have hml : m < w6.heap.size := HR6.out.lt
              have HPM : Hid (∀ g' ∈ [p, m], w.heap.size ≤ g') := Lib.hid (by intro g' hg'; simp only [List.mem_cons, List.not_mem_nil, or_false] at hg'; rcases hg' with rfl | rfl <;> assumption)
              have HNB : Hid (wr.heap.size ∉ [p, m]) := Lib.hid (by
                intro hg'
                simp only [List.mem_cons, List.not_mem_nil, or_false] at hg'
                rcases hg' with e | e
                · obtain ⟨cs, hcs⟩ := HQ6.out.bx
                  rw [← e] at hcs
                  exact bx_ne HB6.out (by decide) hcs
                · have h := HR6.out
                  rw [← e] at h
                  exact bx_ne HB6.out (by decide) h)
              have HJ0 : Hid (PrJ p m w6) := Lib.hid ⟨HQ6.out.bx, _, HR6.out⟩
              have HLA : Hid (eq.2.1.length ≤ 8796093022208 ∧ eq.2.2.length ≤ 8796093022208) := Lib.hid (by
                have h1 : n3 = eq.2.1.length := Z1.out
                have h2 : n4 = eq.2.2.length := Z2.out
                omega)
              have HSV : Hid (∀ g' ∈ blks v1, g' < w6.heap.size) := Lib.hid fun g' hg' => (HD6.out.own g' (blks_own hg')).2.1
              have HPL : Hid (l1.length = L1.length) := Lib.hid HP.out.length_eq
              have Hdm : Hid (∀ wz bs, ChgS bs w6 wz → (∀ g' ∈ bs, g' = m) → ∀ T : List Nat, (∀ g' ∈ T, w6.heap.size ≤ g') → Qu w 6 bst p l1 (blks v1 ++ T) wz) := Lib.hid fun wz bs hc hb T hT => HQ6.out.moreS hc (fun g' hg' => by
                rw [hb g' hg']
                exact ⟨hmw, .inl ⟨_, HR6.out⟩⟩) hT
              have Hdp : Hid (∀ wz, ChgS [p] w6 wz → DL w.heap.size 6 wz v1 L1) := Lib.hid fun wz hc => HD6.out.chgX hc (fun g' hg' cs hcs => by
                rw [List.mem_singleton.1 hg'] at hcs
                obtain ⟨ds, hd⟩ := HQ6.out.bx
                exact bx_ne hcs (by decide) hd) (fun g' hg' hm' => by
                obtain ⟨-, -, cs, hcs⟩ := HD6.out.own g' hg'
                rw [List.mem_singleton.1 hm'] at hcs
                obtain ⟨ds, hd⟩ := HQ6.out.bx
                exact bx_ne hcs (by decide) hd)
              clear hd0 hd1 hd2 hd3 hd4 hd5
              go_wp2_with fail
              refine wp_region_putv [p, m] (PrJ p m) [⟨5, p, PrA w w6.heap.size p bst q l1 (blks v1), fun _ _ _ he h => h.ext he, fun g' hne hg' v a b ja jb hc h => h.chg ja ((show g' = m by simp only [List.mem_cons, List.not_mem_nil, or_false] at hg'; exact hg'.resolve_left hne) ▸ hc) hmw⟩, ⟨10, m, PrB w w6.heap.size m bst q L1, fun _ _ _ he h => h.ext he, fun g' hne hg' v a b ja jb hc h => h.chg ja ((show g' = p by simp only [List.mem_cons, List.not_mem_nil, or_false] at hg'; exact hg'.resolve_right hne) ▸ hc)⟩] [PP.val (.pointer (some ⟨p, 0, none⟩)), PP.val (.pointer (some ⟨wr.heap.size, 1, none⟩)), PP.val (.pointer (some ⟨wr.heap.size, 3, none⟩)), PP.val (.agg #[.bool bb, .slice a3 n3 c3, .slice a4 n4 c4]), PP.frR eq.1 eq.2.1 eq.2.2, PP.any, PP.val (.pointer (some ⟨m, 0, none⟩)), PP.val (.pointer (some ⟨wr.heap.size, 1, none⟩)), PP.val (.pointer (some ⟨wr.heap.size, 3, none⟩)), PP.val (.agg #[.bool bb, .slice a3 n3 c3, .slice a4 n4 c4]), PP.any, PP.val (.bool true), PP.val (.bool false)] (PrT w p m bst q l1 L1) [] [5, 4, 3, 2, 1, 0]
                (by kernel_rfl) (by kernel_rfl) (fun f => (by simp only [fillR, fillL, List.setIfInBounds_toArray, List.set_cons_succ, List.set_cons_zero, Nat.reduceAdd]; rfl)) (by intro x hx; simp only [List.mem_cons, List.not_mem_nil, or_false] at hx; rcases hx with rfl | rfl; exact hpl; exact hml) (by intro x hx; simp only [List.mem_cons, List.not_mem_nil, or_false] at hx; rcases hx with rfl | rfl <;> rfl) (by intro x hx y hy h; simp only [List.mem_cons, List.not_mem_nil, or_false] at hx hy; rcases hx with rfl | rfl <;> rcases hy with rfl | rfl; exact absurd rfl h; exact hpm; exact Ne.symm hpm; exact absurd rfl h) (by intro x hx; simp only [List.mem_cons, List.not_mem_nil, or_false] at hx; rcases hx with rfl | rfl <;> simp) (by simp) (by intro x hx; simp only [List.mem_cons, List.not_mem_nil, or_false] at hx; rcases hx with rfl | rfl; exact (show 5 < 13 by decide); exact (show 10 < 13 by decide)) (fun _ _ he h => h.ext he) HJ0.out (fun _ _ he h => ⟨h.1.imp fun _ k => k.ext he, h.2.imp fun _ k => k.ext he⟩) ?_ ?_
              · refine ⟨?o0, ?o1, ?o2, ?o3, ?o4, ?o5, ?o6, ?o7, ?o8, ?o9, ?o10, ?o11, ?o12, trivial⟩
                case o0 =>
                  intro f w7 hJ hG hp hl both hbo
                  have hE : Ext w6 w7 := hG
                  have hS := hE.size
                  simp only [OpGoal]
                  go_simp
                  exact ⟨_, rfl, Ext.refl _, rfl⟩
                case o1 =>
                  intro f w7 hJ hG hp hl both hbo
                  have hE : Ext w6 w7 := hG
                  have hS := hE.size
                  simp only [OpGoal]
                  go_simp
                  exact ⟨_, rfl, Ext.refl _, rfl⟩
                case o2 =>
                  intro f w7 hJ hG hp hl both hbo
                  have hE : Ext w6 w7 := hG
                  have hS := hE.size
                  have q117 : f 1 = .pointer (some ⟨wr.heap.size, 1, none⟩) := tellW hp 0 1 rfl rfl (fun h => by cases h)
                  simp only [OpGoal]
                  go_simp
                  exact ⟨_, rfl, Ext.refl _, rfl⟩
                case o3 =>
                  intro f w7 hJ hG hp hl both hbo
                  have hE : Ext w6 w7 := hG
                  have hS := hE.size
                  have q118 : f 2 = .pointer (some ⟨wr.heap.size, 3, none⟩) := tellW hp 0 2 rfl rfl (fun h => by cases h)
                  have hG' : ChgS [p, m] w6 w7 := hE.chgS _
                  have hbx := HB6.out.chgS hG' HNB.out
                  have hcell3 := hbx.cell 3
                  have hcell4 := hbx.cell 4
                  have hcell5 := hbx.cell 5
                  simp only [OpGoal]
                  go_simp
                  exact ⟨_, rfl, Ext.refl _, rfl⟩
                case o4 =>
                  intro f w7 hJ hG hp hl both hbo
                  have hE : Ext w6 w7 := hG
                  have hS := hE.size
                  have q119 : f 3 = .agg #[.bool bb, .slice a3 n3 c3, .slice a4 n4 c4] := tellW hp 0 3 rfl rfl (fun h => by cases h)
                  change OpGoal _ _ _ f w7 Ext _
                  refine og_call (P := Tryz.prog) _ _ _ #[f 3] Tryz.func7 (by kernel_rfl) (by kernel_rfl) rfl rfl (by kernel_rfl) ?_
                  rw [q119]
                  refine (rqcopy3_calls _ eq.1 eq.2.1 eq.2.2 _ (RA.out _ (HE6.out.trans hE)).1 HLA.out.1 HLA.out.2).mono ?_
                  rintro e w' ⟨v', rfl, h1, h2⟩
                  exact ⟨v', rfl, h2, h1.mono hS⟩
                case o5 =>
                  intro f w7 hJ hG hp hl both hbo
                  have hE : Ext w6 w7 := hG
                  have hS := hE.size
                  have q116 : f 0 = .pointer (some ⟨p, 0, none⟩) := tellW hp 0 0 rfl rfl (fun h => by cases h)
                  have q120 := tellW hp 1 4 rfl rfl (fun _ => hE)
                  intro hg0
                  have hG' : ChgS [p, m] w6 w7 := hE.chgS _
                  have q116 : f 0 = .pointer (some ⟨p, 0, none⟩) := tellW hp 0 0 rfl rfl (fun h => by cases h)
                  have q120 := tellW hp 1 4 rfl rfl (fun h => by cases h)
                  have hE7 := HE6.out.stepS hG' HPM.out
                  have hr0 := RA.out w7 hE7
                  have hIs := HIS.out w7 hE7 _ ⟨FrR.raw q120, hr0.2.1, hr0.2.2.1, hr0.2.2.2⟩
                  have hl7 : w6.heap.size ≤ w7.heap.size := hG'.2.2.2.1
                  refine og_callR (P := Tryz.prog) _ _ _ #[f 0, f 4] Tryz.func15 (by kernel_rfl) (by kernel_rfl) rfl rfl (by kernel_rfl) ?_
                  rw [q116]
                  obtain ⟨T, hT1, hT2⟩ : ∃ T : List Nat, (∀ g' ∈ T, w6.heap.size ≤ g' ∧ g' < w7.heap.size) ∧ (both = true → ∃ v2, T = blks v2 ∧ Bx 31 w7 m #[.int .i64 (ordV bst), v2] ∧ DL w.heap.size 6 w7 v2 (keepN q L1)) := by
                    cases both with
                    | false => exact ⟨[], by simp, fun h => by cases h⟩
                    | true =>
                      have hB : PrB w w6.heap.size m bst q L1 (f 10) w7 := hbo rfl _ (List.mem_cons_of_mem _ (List.mem_cons_self ..)) (show 10 ≠ 5 by decide)
                      obtain ⟨v2, out, -, -, -, k4, k5, k6⟩ := hB
                      exact ⟨blks v2, fun g' hg' => ⟨k6 g' (blks_own hg'), (k5.own g' (blks_own hg')).2.1⟩, fun _ => ⟨v2, rfl, k4, k5⟩⟩
                  refine (pruneC_calls w w7 6 p bst l1 (blks v1 ++ T) (f 4) q 6 (Hdm.out w7 [m] (hG'.lessL hg0) (fun g' hg' => List.mem_singleton.1 hg') T (fun g' hg' => (hT1 g' hg').1)) hIs (by omega) (by omega) (by rw [HPL.out]; omega) (fun g' hg' => by
                    rcases List.mem_append.1 hg' with h | h
                    · have := HSV.out g' h
                      omega
                    · exact (hT1 g' h).2)).mono ?_
                  rintro e w' ⟨ov, rfl, h1, h2, -, h4⟩
                  have hJm' : ∃ cs, Bx 31 w' m cs := hJ.2.imp fun cs k => k.chgS h4 (fun hm' => hpm (List.mem_singleton.1 hm').symm)
                  refine ⟨ov, rfl, ⟨ChgS.one h4, h2.bx, hJm'⟩, ⟨ownsRow_mono h1 hl7, h2.mono (fun g' hg' => List.mem_append_left _ hg')⟩, fun hb => ?_⟩
                  obtain ⟨v2, hTv, k4, k5⟩ := hT2 hb
                  subst hTv
                  have kk : DL w.heap.size 6 w' v2 (keepN q L1) := k5.chgX h4 (fun g' hg' cs hcs => by
                    rw [List.mem_singleton.1 hg'] at hcs
                    obtain ⟨ds, hd⟩ := hJ.1
                    exact bx_ne hcs (by decide) hd) (fun g' hg' hm' => by
                    obtain ⟨-, -, cs, hcs⟩ := k5.own g' hg'
                    rw [List.mem_singleton.1 hm'] at hcs
                    obtain ⟨ds, hd⟩ := hJ.1
                    exact bx_ne hcs (by decide) hd)
                  exact ⟨v2, h2.mono (fun g' hg' => List.mem_append_right _ hg'), k4.chgS h4 (fun hm' => hpm (List.mem_singleton.1 hm').symm), kk⟩
                case o6 =>
                  intro f w7 hJ hG hp hl both hbo
                  have hS : w6.heap.size ≤ w7.heap.size := hG.2.2.2.1
                  simp only [OpGoal]
                  go_simp
                  exact ⟨_, rfl, Ext.refl _, rfl⟩
                case o7 =>
                  intro f w7 hJ hG hp hl both hbo
                  have hS : w6.heap.size ≤ w7.heap.size := hG.2.2.2.1
                  simp only [OpGoal]
                  go_simp
                  exact ⟨_, rfl, Ext.refl _, rfl⟩
                case o8 =>
                  intro f w7 hJ hG hp hl both hbo
                  have hS : w6.heap.size ≤ w7.heap.size := hG.2.2.2.1
                  have q123 : f 7 = .pointer (some ⟨wr.heap.size, 1, none⟩) := tellW hp 0 7 rfl rfl (fun h => by cases h)
                  simp only [OpGoal]
                  go_simp
                  exact ⟨_, rfl, Ext.refl _, rfl⟩
                case o9 =>
                  intro f w7 hJ hG hp hl both hbo
                  have hS : w6.heap.size ≤ w7.heap.size := hG.2.2.2.1
                  have q124 : f 8 = .pointer (some ⟨wr.heap.size, 3, none⟩) := tellW hp 0 8 rfl rfl (fun h => by cases h)
                  have hG' : ChgS [p, m] w6 w7 := hG
                  have hbx := HB6.out.chgS hG' HNB.out
                  have hcell3 := hbx.cell 3
                  have hcell4 := hbx.cell 4
                  have hcell5 := hbx.cell 5
                  simp only [OpGoal]
                  go_simp
                  exact ⟨_, rfl, Ext.refl _, rfl⟩
                case o10 =>
                  intro f w7 hJ hG hp hl both hbo
                  have hS : w6.heap.size ≤ w7.heap.size := hG.2.2.2.1
                  have q122 : f 6 = .pointer (some ⟨m, 0, none⟩) := tellW hp 0 6 rfl rfl (fun h => by cases h)
                  have q125 : f 9 = .agg #[.bool bb, .slice a3 n3 c3, .slice a4 n4 c4] := tellW hp 1 9 rfl rfl (fun h => by cases h)
                  intro hg0
                  have hG' : ChgS [p, m] w6 w7 := hG
                  have q122 : f 6 = .pointer (some ⟨m, 0, none⟩) := tellW hp 0 6 rfl rfl (fun h => by cases h)
                  have q125 : f 9 = .agg #[.bool bb, .slice a3 n3 c3, .slice a4 n4 c4] := tellW hp 1 9 rfl rfl (fun h => by cases h)
                  have hE7 := HE6.out.stepS hG' HPM.out
                  have hIs := HIS.out w7 hE7 _ (RA.out w7 hE7)
                  have hl7 : w6.heap.size ≤ w7.heap.size := hG'.2.2.2.1
                  have hws : w.heap.size ≤ w7.heap.size := hE7.size
                  refine og_callR (P := Tryz.prog) _ _ _ #[f 6, f 9] Tryz.func16 (by kernel_rfl) (by kernel_rfl) rfl rfl (by kernel_rfl) ?_
                  rw [q122, q125]
                  have hr7 : Bx 31 w7 m #[.int .i64 (ordV bst), v1] := (show w7.heap[m]? = w6.heap[m]? from hg0).trans HR6.out
                  refine (rprune_calls w.heap.size 6 m (ordV bst) v1 _ L1 q 6 w7 hr7 (Hdp.out w7 (hG'.lessR hg0)) hIs (by omega) (by omega) (by omega) hws).mono ?_
                  rintro e w' ⟨ov, v', out, rfl, h1, h2, h3, h4, h5, h6, h7⟩
                  have hJp : ∃ cs, Bx 58 w' p cs := hJ.1.imp fun cs k => k.chg h6 hpm
                  refine ⟨ov, rfl, ⟨h6, hJp, _, h4⟩, ⟨v', out, ownsRow_mono h1 hl7, h2, h3, h4, h5, fun g' hg' => Nat.le_trans hl7 (h7 g' hg')⟩, fun hb => ⟨v', ?_, h4, h5⟩⟩
                  have hA : PrA w w6.heap.size p bst q l1 (blks v1) (f 5) w7 := hbo hb _ (List.mem_cons_self ..) (show 5 ≠ 10 by decide)
                  exact hA.2.doc (bs := [m]) (h6.chgS (by simp)) (fun g' hg' => by
                    rw [List.mem_singleton.1 hg']
                    exact ⟨hmw, .inl ⟨_, hr7⟩⟩) (fun g' hg' => .inr (h7 g' (blks_own hg')))
                case o11 =>
                  intro f w7 hJ hG hp hl both hbo
                  have hS : w6.heap.size ≤ w7.heap.size := hG.2.2.2.1
                  have hA : PrA w w6.heap.size p bst q l1 (blks v1) (f 5) w7 := tellWS hp 0 5 _ rfl rfl
                  have hB : PrB w w6.heap.size m bst q L1 (f 10) w7 := tellWS hp 1 10 _ rfl rfl
                  obtain ⟨v', out, r1, r2, r3, -⟩ := hB
                  have hso : (goneN q l1).mergeSort (fun x y => decide (x ≤ y)) = out := srtI_uniq r2 (r3.trans (goneN_perm HP.out).symm)
                  have hln : (goneN q l1).length = out.length := by rw [r3.length_eq, (goneN_perm (lim := q) HP.out).length_eq]
                  have r0 := hA.1
                  rw [hso, hln] at r0
                  change OpGoal _ _ _ f w7 Ext _
                  refine og_call (P := Tryz.prog) _ _ _ #[f 5, f 10] Tryz.func14 (by kernel_rfl) (by kernel_rfl) rfl rfl (by kernel_rfl) ?_
                  refine (sameInts_calls _ _ (f 5) (f 10) out w7 r0 r1).mono ?_
                  rintro e w' ⟨rfl, h2⟩
                  exact ⟨_, rfl, h2, rfl⟩
                case o12 =>
                  intro f w7 hJ hG hp hl both hbo
                  have hS : w6.heap.size ≤ w7.heap.size := hG.2.2.2.1
                  have q127 : f 11 = .bool true := tellW hp 0 11 rfl rfl (fun h => by cases h)
                  simp only [OpGoal]
                  go_simp
                  exact ⟨_, rfl, Ext.refl _, rfl⟩
              · intro f w7 hJ hT hG hp
                have hz0 := endWS hp 5 (by decide)
                have hz1 := endWS hp 10 (by decide)
                have q128 : f 12 = .bool false := endW hp 12 (by decide) rfl (fun h => by cases h)
                try simp only [q128]
                clear hp
                obtain ⟨v2, hq2, hr2, hd2⟩ := hT
                have HQ7 := Lib.hid hq2
                have HR7 := Lib.hid hr2
                have HD7 := Lib.hid hd2
                have HSk := Lib.hid (srt_keep q HS.out)
                have HPk := Lib.hid (keepN_perm (lim := q) HP.out)
                have HLk : Hid ((keepN q L1).length ≤ k + 1) := Lib.hid (Nat.le_trans (List.length_filter_le _ _) (by omega))
                clear hq2 hr2 hd2 hz0 hz1 hG hJ
                go_wp2_with fail
                go_meet
                exact Lib.hid ⟨_, v2, _, HQ7.out, HR7.out, HD7.out, HSk.out, HPk.out, HLk.out, hmw⟩
            · obtain ⟨z0, z1, z2, z3, z4, z5, z6⟩ := hz
              go_wp2_with fail
              go_meet
              exact Lib.hid ⟨l1, v1, L1, HQ6.out, HR6.out, HD6.out, HS.out, HP.out, Nat.le_succ_of_le HL.out, hmw⟩

set_option maxRecDepth 100000 in
set_option maxHeartbeats 1000000 in
theorem queuePlays_calls (o : Int) (lv : Value) (l : List OpE) (w : World) (hl : SLP w lv l) (hlen : (l.length + 1) * 80 ≤ 140737488355328) :
    Calls Tryz.prog 3 #[.int .i64 o, lv] w fun e w' => e = .returned (.bool true) ∧ Ext w w' := by
  by_cases ho : o = 0 ∨ o = 1
  · rcases ho with rfl | rfl
    · exact queuePlays_some true lv l w hl hlen
    · exact queuePlays_some false lv l w hl hlen
  · exact queuePlays_bad o ho lv l w hl hlen
end Go.Proofs.YthoibjnkhkjnjaaGreat

/-
  Scripts handed in to a law.
-/
namespace Go.Proofs.YthoibjnkhkjnjaaGreat
open Go.RowKit
open Go.ChangeShapes Go.WideShapes Go.ChangeAt
set_option linter.unusedVariables false
set_option linter.unusedSimpArgs false

set_option maxRecDepth 100000 in
set_option maxHeartbeats 1000000 in
theorem cellsOp : Tryz.prog.cellsOf 40 = 6 := by kernel_rfl
section
variable {H : Type} {enc : TypeId × Value → H} {w : World} {base : Nat} {spare : Nat → Bool} {held : Bool}
set_option maxRecDepth 100000 in
set_option maxHeartbeats 1000000 in
theorem open_opC {fuel : Nat} {cs : List Value} {x : DataW H × List MemPlace} (h : DataW.trod enc Tryz.prog w base spare held fuel 40 cs = some x) : ∃ kd nid dep b s t xs ys, cs = [.int .i64 kd, .int .i64 nid, .int .i64 dep, .bool b, s, t] ∧ IsL .u64 w s xs ∧ Dig W xs ∧ IsL .u64 w t ys ∧ Dig W ys ∧ (∀ B, (∀ n ∈ x.1.weights Tryz.prog 40, n ≤ B) → xs.length ≤ B ∧ ys.length ≤ B) := by
  obtain ⟨y0, y1, n, hx, hl, h0, h1⟩ := trod_struct2 Tryz.underlying40 h
  rw [cellsOp] at hl
  obtain ⟨c0, c1, c2, c3, c4, c5, rfl⟩ : ∃ c0 c1 c2 c3 c4 c5, cs = [c0, c1, c2, c3, c4, c5] := by
    rcases cs with _ | ⟨c0, _ | ⟨c1, _ | ⟨c2, _ | ⟨c3, _ | ⟨c4, _ | ⟨c5, _ | ⟨c6, cs⟩⟩⟩⟩⟩⟩⟩ <;> simp at hl
    exact ⟨_, _, _, _, _, _, rfl⟩
  obtain ⟨kd, hkd, -, -⟩ := open_int1 h0
  obtain ⟨nid, dep, b, s, t, xs, ys, hb, -, hL, hd, hL2, hd2, hB⟩ := open_nodeC h1
  have e0 : List.take (Tryz.prog.cellsOf 3) (List.drop 0 [c0, c1, c2, c3, c4, c5]) = [c0] := by rw [cellsInt]; rfl
  have e1 : List.take (Tryz.prog.cellsOf 38) (List.drop 1 [c0, c1, c2, c3, c4, c5]) = [c1, c2, c3, c4, c5] := by rw [cellsN]; rfl
  have h0' : [c0] = [.int .i64 kd] := e0 ▸ hkd
  have h1' : [c1, c2, c3, c4, c5] = [.int .i64 nid, .int .i64 dep, .bool b, s, t] := e1 ▸ hb
  simp only [List.cons.injEq, and_true] at h0' h1'
  obtain ⟨rfl, rfl, rfl, rfl, rfl⟩ := h1'
  subst h0'
  refine ⟨kd, nid, dep, b, _, _, xs, ys, rfl, hL, hd, hL2, hd2, fun B h => hB B fun n hn => h n ?_⟩
  rw [hx]
  simp only [DataW.weights, Tryz.underlying40]
  first
    | exact List.mem_append_right _ (List.mem_append_left _ hn)
    | (simp only [List.mem_append]; exact .inr (.inl hn))
set_option maxRecDepth 100000 in
set_option maxHeartbeats 1000000 in
theorem open_opsS {v : Value} {d : DataW H} {p : List MemPlace} {W0 : World} {b0 : Nat} (hv : Value.okWide Tryz.prog W0 .any b0 22 v) (h : DataW.Trod enc Tryz.prog w base spare held 22 v d p) (B : Nat) (hb : B ≤ 4611686018427387903) (hB : ∀ n ∈ d.weights Tryz.prog 22, n ≤ B) :
    ∃ l, SLP w v l ∧ l.length * Tryz.prog.bytesOf 40 ≤ B := by
  obtain ⟨a, n, c, rfl⟩ := okWide_slice Tryz.underlying22 hv
  obtain ⟨fuel, hf⟩ := h
  obtain ⟨v', ys, h1, h2, h3, -⟩ := open_structs (R := RawOp) (F := fun _ _ => True) B Tryz.underlying22 cellsOp (by omega) (fun fuel cs x hl hw hx => by
    obtain ⟨kd, nid, dep, b, s, t, xs, ys, rfl, hL, hd, hL2, hd2, hB2⟩ := open_opC hx
    have hh := hB2 B hw
    have hE : RawE w (.agg #[.bool b, s, t]) (b, xs, ys) := ⟨⟨s, t, rfl, hL, hL2⟩, hd, hd2, by show xs.length + ys.length ≤ _; omega⟩
    have hL' := hL
    have hL2' := hL2
    obtain ⟨a1, c1, rfl, -⟩ := hL'
    obtain ⟨a2, c2, rfl, -⟩ := hL2'
    exact ⟨(kd, nid, dep, b, xs, ys), ⟨b, a1, _, c1, a2, _, c2, rfl, hE⟩, trivial⟩) hB hf
  have hcs : (Value.slice a n c).cells.toList = [Value.slice a n c] := rfl
  rw [hcs] at h1
  cases h1
  exact ⟨ys, h2, h3⟩
end
set_option maxRecDepth 100000 in
set_option maxHeartbeats 1000000 in
theorem bytesOp : Tryz.prog.bytesOf 40 = 80 := by kernel_rfl
end Go.Proofs.YthoibjnkhkjnjaaGreat
