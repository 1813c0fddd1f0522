/-
 The documents' matrices: a matrix times a list, a list times a matrix, the product of two.
-/
import Derived.Test.YtdmjgjcljbogiaaGreatMaaT
namespace Go.Proofs.YtdmjgjcljbogiaaGreat
set_option maxRecDepth 100000
set_option maxHeartbeats 1000000
open Go.RowKit
set_option linter.unusedVariables false
set_option linter.unusedSimpArgs false
end Go.Proofs.YtdmjgjcljbogiaaGreat
/-
 The law MatTimes.
-/
namespace Go.Proofs.YtdmjgjcljbogiaaGreat
set_option maxRecDepth 100000
set_option maxHeartbeats 1000000
open Go.RowKit
set_option linter.unusedVariables false
set_option linter.unusedSimpArgs false
theorem ratT_len (ms : List (List TE)) {n : Nat} (h : ∀ l ∈ ms, l.length ≤ n) : ∀ r ∈ ms.map ratT, r.length ≤ n := by
 intro r hr
 obtain ⟨l, hl, rfl⟩ := List.mem_map.1 hr
 unfold ratT
 rw [List.length_map]
 exact h l hl
end Go.Proofs.YtdmjgjcljbogiaaGreat
/-
 The documents' matrices: the greatest place (Most), the columns (Transpose).
-/
namespace Go.Proofs.YtdmjgjcljbogiaaGreat
set_option maxRecDepth 100000
set_option maxHeartbeats 1000000
open Go.RowKit
set_option linter.unusedVariables false
set_option linter.unusedSimpArgs false
def MostL (L : List (Int × Rat)) (m : Int) : Prop := (∀ x ∈ L, x.1 ≤ m) ∧ (m = -1 ∨ ∃ x ∈ L, x.1 = m)
def allV (rows : List (List (Int × Rat))) : List (Int × Rat) := rows.flatMap mkV
theorem allV_snoc (rows : List (List (Int × Rat))) (r : List (Int × Rat)) : allV (rows ++ [r]) = allV rows ++ mkV r := by unfold allV; rw [List.flatMap_append]; simp
theorem most_nil : MostL [] (-1) := ⟨fun x hx => (by cases hx), .inl rfl⟩
theorem most_gt {L : List (Int × Rat)} {m : Int} (h : MostL L m) {x : Int × Rat} (hx : m < x.1) : MostL (L ++ [x]) x.1 := by
 refine ⟨fun y hy => ?_, .inr ⟨x, by simp, rfl⟩⟩
 rcases List.mem_append.1 hy with hy | hy
 ·have := h.1 y hy; omega
 ·rw [List.mem_singleton] at hy; rw [hy]; exact Int.le_refl _
theorem most_le {L : List (Int × Rat)} {m : Int} (h : MostL L m) {x : Int × Rat} (hx : x.1 ≤ m) : MostL (L ++ [x]) m := by
 refine ⟨fun y hy => ?_, h.2.imp_right fun ⟨y, hy, e⟩ => ⟨y, List.mem_append_left _ hy, e⟩⟩
 rcases List.mem_append.1 hy with hy | hy
 ·exact h.1 y hy
 ·rw [List.mem_singleton] at hy; rw [hy]; exact hx
set_option maxHeartbeats 8000000 in
theorem most_calls (k : Nat) (v : Value) (rows : List (List (Int × Rat))) (w : World) (hv : ML k w v rows) (hN : ∀ r ∈ rows, r.length ≤ 1000) (hk : k ≤ 1000000) :
  Calls Tryz.prog 32 #[v] w fun e w' => ∃ m, e = .returned (.int .i64 m) ∧ MostL (allV rows) m ∧ Ext w w' := by
 obtain ⟨ad, n, cap, hnl, rfl, hn1, hat⟩ := hv.at
 have HN := Lib.hid hnl
 have HAT := Lib.hid hat
 have HL := Lib.hid hN
 clear hnl hat hv hN
 go_enter Tryz.func32, Tryz.ntmps32
 go_wp2_with fail
 go_loopw [3, 4] (fun s3 s4 wr => ∃ (i : Nat) (m : Int), i ≤ n ∧ s4 = .int .i64 (i : Int) ∧ s3 = .int .i64 m ∧ Hid (MostL (allV (rows.take i)) m) ∧ Ext w wr) (fun _ s4 _ => ((n : Int) - intOf s4).toNat)
 case atStart => exact ⟨0, -1, Nat.zero_le _, rfl, rfl, Lib.hid most_nil, Ext.refl _⟩
 case round =>
  obtain ⟨i, m, hi, rfl, rfl, HS, hE0⟩ := hrel
  rcases Nat.eq_or_lt_of_le hi with hin | hin
  ·subst hin
   have hlt : ¬ ((i : Int) < (i : Int)) := by omega
   have hT := HS.out
   rw [show rows.take i = rows by rw [HN.out, List.take_length]] at hT
   have HT := Lib.hid hT
   clear hT
   go_wp2
   go_ret
   exact ⟨_, rfl, HT.out, hE0⟩
  ·have hlt : (i : Int) < (n : Int) := by omega
   obtain ⟨r, hr⟩ : ∃ x, rows[i]? = some x := ⟨_, List.getElem?_eq_getElem (by rw [← HN.out]; exact hin)⟩
   obtain ⟨g, off, rfl, a1, n1, c1, hcell, hTL⟩ := HAT.out i _ hr
   have hc0 := hcell wr hE0
   have HTK := Lib.hid (take_next hr)
   have hrN := HL.out r (List.mem_of_getElem? hr)
   have HTL := Lib.hid hTL
   clear hcell hr hTL
   go_wp2_with fail
   refine (make5_calls k _ r wr (HTL.out.ext hE0) hk hrN).mono ?_
   rintro e w6 ⟨v6, rfl, hto, e6⟩
   obtain ⟨ad6, cap6, rfl, hl6, hat6⟩ := hto.at
   have HAT6 := Lib.hid hat6
   obtain ⟨L, hL⟩ : ∃ L, L = (mkV r).length := ⟨_, rfl⟩
   rw [← hL] at hl6 ⊢
   have HLL := Lib.hid hL
   have hE6 := hE0.trans e6
   have HS6 := Lib.hid (show MostL (allV (rows.take i) ++ (mkV r).take 0) m by rw [List.take_zero, List.append_nil]; exact HS.out)
   clear hc0 hto hat6 hL HS
   go_wp2_with fail
   obtain ⟨wo, hwo⟩ : ∃ wo : World, wo = wr := ⟨_, rfl⟩
   rw [← hwo] at hE0 e6
   clear hwo
   go_loopw [3, 6] (fun s3 s6 wr => ∃ (j : Nat) (m : Int), j ≤ L ∧ s6 = .int .i64 (j : Int) ∧ s3 = .int .i64 m ∧ Hid (MostL (allV (rows.take i) ++ (mkV r).take j) m) ∧ Ext w6 wr) (fun _ s6 _ => ((L : Int) - intOf s6).toNat)
   case atStart => exact ⟨0, m, Nat.zero_le _, rfl, rfl, HS6, Ext.refl _⟩
   case round =>
    obtain ⟨j, m, hj, rfl, rfl, HS, hE6j⟩ := hrel
    clear HS6
    rcases Nat.eq_or_lt_of_le hj with hjn | hjn
    ·subst hjn
     have hlt2 : ¬ ((j : Int) < (j : Int)) := by omega
     have hN1 : Hid (MostL (allV (rows.take (i + 1))) m) := Lib.hid (by
      have := HS.out
      rw [show (mkV r).take j = mkV r by rw [HLL.out, List.take_length]] at this
      rw [HTK.out, allV_snoc]
      exact this)
     go_wp2
     go_roundw
     case rel => exact ⟨i + 1, m, by omega, congrArg (Value.int .i64) (by omega), rfl, hN1, hE6.trans hE6j⟩
     case measure => simp [intOf]; omega
    ·have hlt2 : (j : Int) < (L : Int) := by omega
     obtain ⟨x, hx⟩ : ∃ x, (mkV r)[j]? = some x := ⟨_, List.getElem?_eq_getElem (by rw [← HLL.out]; exact hjn)⟩
     obtain ⟨g6, rfl, b', a1', n1', c1', a2', n2', c2', hcell, -, -⟩ := HAT6.out j x hx
     obtain ⟨xc, xq⟩ := x
     simp only at hcell
     obtain ⟨hc0, -⟩ := hcell wr hE6j
     have HX := Lib.hid (take_next hx)
     clear hx hcell
     by_cases hm : m < xc
     ·have hN1 : Hid (MostL (allV (rows.take i) ++ (mkV r).take (j + 1)) xc) := Lib.hid (by rw [HX.out, ← List.append_assoc]; exact most_gt HS.out (x := (xc, xq)) hm)
      go_wp2
      go_roundw
      case rel => exact ⟨j + 1, xc, by omega, congrArg (Value.int .i64) (by omega), rfl, hN1, hE6j⟩
      case measure => simp [intOf]; omega
     ·have hN1 : Hid (MostL (allV (rows.take i) ++ (mkV r).take (j + 1)) m) := Lib.hid (by rw [HX.out, ← List.append_assoc]; exact most_le HS.out (x := (xc, xq)) (by show xc ≤ m; omega))
      go_wp2
      go_roundw
      case rel => exact ⟨j + 1, m, by omega, congrArg (Value.int .i64) (by omega), rfl, hN1, hE6j⟩
      case measure => simp [intOf]; omega
theorem TO.snoc {B K : Nat} {w w' : World} {hv v' : Value} {ps : Ps} {m : List (Int × Rat)} {c : Int} {q : Rat} {b : Bool} {a1 a2 : Option Addr} {n1 c1 n2 c2 : Nat} (hps : lP ps = m) (hls : LS 66 4 B w hv ((tsP ps).map tmv)) (hfr : ∀ p ∈ ps, FrQ B w (ratv p.1) p.2 ∧ szQ p.2 ≤ K) (hq : FrQ B w (.agg #[.bool b, .slice a1 n1 c1, .slice a2 n2 c2]) q) (hK : szQ q ≤ K) (hg : w.grownBy w' hv.ownBlock)
  (h' : LS 66 4 B w' v' ((tsP ps).map tmv ++ [.agg #[.int .i64 c, .bool b, .slice a1 n1 c1, .slice a2 n2 c2]])) : TO B K w' v' (m ++ [(c, q)]) := by
 have hk : Keep 107 w w' := by
  rcases hls.2.2 with ⟨h1, h2⟩ | ⟨g, cap, cur, h1, h2, h3, h4⟩
  ·rw [h1] at hg
   exact Ext.keep hg
  ·rw [h1] at hg
   refine keep_of (bs := [g]) (Chg.chgS (g := g) hg (by simp)) fun g' hg' => ?_
   rw [List.mem_singleton] at hg'
   subst hg'
   exact ⟨_, cur, h3, by decide⟩
 have e : m ++ [(c, q)] = lP (ps ++ [((⟨c, b, a1, n1, c1, a2, n2, c2⟩ : TmC), q)]) := by rw [lP_snoc, hps]
 rw [e]
 refine TO.of_ps (by rw [tsP_snoc, List.map_append]; exact h') fun p hp => ?_
 rcases List.mem_append.1 hp with hp | hp
 ·exact ⟨(hfr p hp).1.keep hk, (hfr p hp).2⟩
 ·rw [List.mem_singleton] at hp
  subst hp
  exact ⟨hq.keep hk, hK⟩
end Go.Proofs.YtdmjgjcljbogiaaGreat
/-
 Matrices: orders: the place of each number (mat.places), the rows in an order (mat.Rows).
-/
namespace Go.Proofs.YtdmjgjcljbogiaaGreat
set_option maxRecDepth 100000
set_option maxHeartbeats 1000000
open Go.RowKit
set_option linter.unusedVariables false
set_option linter.unusedSimpArgs false
def isOrd (zs : List Int) : Bool := zs.all (fun x => decide (0 ≤ x) && decide (x < (zs.length : Int))) && decide zs.Nodup
theorem isOrd_true {zs : List Int} (h : ∀ x ∈ zs, 0 ≤ x ∧ x < (zs.length : Int)) (hd : zs.Nodup) : isOrd zs = true := by
 unfold isOrd
 simp only [Bool.and_eq_true, List.all_eq_true, decide_eq_true_eq]
 exact ⟨h, hd⟩
theorem isOrd_of {zs : List Int} (h : isOrd zs = true) : (∀ x ∈ zs, 0 ≤ x ∧ x < (zs.length : Int)) ∧ zs.Nodup := by
 unfold isOrd at h
 simp only [Bool.and_eq_true, List.all_eq_true, decide_eq_true_eq] at h
 exact h
theorem isOrd_out {zs : List Int} {x : Int} (hx : x ∈ zs) (h : x < 0 ∨ (zs.length : Int) ≤ x) : isOrd zs = false := by
 cases h0 : isOrd zs with
 | false => rfl
 | true =>
  have := (isOrd_of h0).1 x hx
  omega
theorem isOrd_dup {zs : List Int} {x : Int} {i j : Nat} (hij : j < i) (hi : zs[i]? = some x) (hj : zs[j]? = some x) : isOrd zs = false := by
 cases h0 : isOrd zs with
 | false => rfl
 | true =>
  have hd := (isOrd_of h0).2
  obtain ⟨a1, a2⟩ := List.getElem?_eq_some_iff.1 hi
  obtain ⟨b1, b2⟩ := List.getElem?_eq_some_iff.1 hj
  exact absurd (b2.trans a2.symm) (List.pairwise_iff_getElem.1 hd j i b1 a1 hij)
def PlJ (zs : List Int) (i : Nat) (f : Nat → Int) : Prop := (∀ c, c < zs.length → f c = -1 ∨ ∃ j : Nat, j < i ∧ f c = (j : Int) ∧ zs[j]? = some (c : Int)) ∧ ∀ (j : Nat) (x : Int), j < i → zs[j]? = some x → 0 ≤ x ∧ x < (zs.length : Int) ∧ f x.toNat = (j : Int)
theorem PlJ.step {zs : List Int} {i c : Nat} {f : Nat → Int} (h : PlJ zs i f) (hx : zs[i]? = some (c : Int)) (hc : c < zs.length) (hf : f c = -1) : PlJ zs (i + 1) (fun d => if d = c then (i : Int) else f d) := by
 refine ⟨fun d hd => ?_, fun j x hj hjx => ?_⟩
 ·by_cases hdc : d = c
  ·subst hdc
   simp only [if_true]
   exact .inr ⟨i, by omega, rfl, hx⟩
  ·simp only [hdc, if_false]
   rcases h.1 d hd with h1 | ⟨j, h1, h2, h3⟩
   ·exact .inl h1
   ·exact .inr ⟨j, by omega, h2, h3⟩
 ·by_cases hji : j = i
  ·subst hji
   rw [hx] at hjx
   cases hjx
   exact ⟨by omega, by omega, by simp⟩
  ·obtain ⟨h1, h2, h3⟩ := h.2 j x (by omega) hjx
   refine ⟨h1, h2, ?_⟩
   have : x.toNat ≠ c := fun e => by rw [e, hf] at h3; omega
   simp only [this, if_false]
   exact h3
theorem PlJ.ord {zs : List Int} {f : Nat → Int} (h : PlJ zs zs.length f) : isOrd zs = true := by
 refine isOrd_true (fun x hx => ?_) ?_
 ·obtain ⟨j, hj, rfl⟩ := List.getElem_of_mem hx
  have := h.2 j _ hj (List.getElem?_eq_getElem hj)
  exact ⟨this.1, this.2.1⟩
 ·refine List.pairwise_iff_getElem.2 fun a b ha hb hab e => ?_
  have h1 := (h.2 a _ ha (List.getElem?_eq_getElem ha)).2.2
  have h2 := (h.2 b _ hb (List.getElem?_eq_getElem hb)).2.2
  rw [e] at h1
  omega
def InvL (zs at_ : List Int) : Prop := at_.length = zs.length ∧ ∀ (i : Nat) (x : Int), zs[i]? = some x → 0 ≤ x ∧ x < (zs.length : Int) ∧ at_[x.toNat]? = some (i : Int)
theorem PlJ.inv {zs : List Int} {f : Nat → Int} (h : PlJ zs zs.length f) : InvL zs ((List.range zs.length).map f) := by
 refine ⟨by simp, fun i x hx => ?_⟩
 obtain ⟨h1, h2, h3⟩ := h.2 i x (List.getElem?_eq_some_iff.1 hx).1 hx
 refine ⟨h1, h2, ?_⟩
 rw [List.getElem?_map, List.getElem?_range (by omega), Option.map_some, h3]
def ordL (w : World) (v : Value) (zs : List Int) : Prop := SV (fun _ v z => v = .int .i64 z) w v zs
theorem ordL.ext {w w' : World} {v : Value} {zs : List Int} (h : ordL w v zs) (he : Ext w w') : ordL w' v zs := SV.ext (fun _ _ h => h) h he
theorem ordL.at {w : World} {v : Value} {zs : List Int} (h : ordL w v zs) : ∃ ad m cap, m = zs.length ∧ v = .slice ad m cap ∧ m ≤ 9223372036854775807 ∧ ∀ (i : Nat) (z : Int), zs[i]? = some z → ∃ g off, ad = some ⟨g, off, none⟩ ∧ ∀ wz, Ext w wz → wz.cell? ⟨g, off + i, none⟩ = some (.int .i64 z) := by
 obtain ⟨ad, m, cap, h1, h2, h3, h4⟩ := h.opn
 refine ⟨ad, m, cap, h1, h2, h3, fun i z hz => ?_⟩
 obtain ⟨g, off, k1, v, k2, rfl⟩ := h4 i z hz
 exact ⟨g, off, k1, k2⟩
theorem infoI : ∃ i, Tryz.prog.info? 3 = some i ∧ i.size = 1 ∧ i.bytes = 8 ∧ i.zero = some (.int .i64 0) := by
 have h : (Tryz.prog.info? 3).map (fun i => (i.size, i.bytes, i.zero)) = some (1, 8, some (.int .i64 0)) := by kernel_rfl
 cases hi : Tryz.prog.info? 3 with
 | none => rw [hi] at h; cases h
 | some i =>
  rw [hi] at h
  simp only [Option.map_some, Option.some.injEq, Prod.mk.injEq] at h
  exact ⟨i, rfl, h⟩
theorem make_ints (n : Nat) (hn : n ≤ 65536) : ∃ CS : Array Value, CS.size = n ∧ ∀ w : World, (Instr.makeSlice 46 (.int .i64 (n : Int)) (.int .i64 (n : Int))).run Tryz.prog w = .ok (.slice (some ⟨w.heap.size, 0, none⟩) n n) (w.alloc (.cells CS 3)) := by
 obtain ⟨i, h1, h2, h3, h4⟩ := infoI
 refine ⟨madeCells #[.int .i64 0] (n * 1), by rw [size_madeCells]; omega, fun w => ?_⟩
 have hr := run_make (P := Tryz.prog) w 46 3 i (.int .i64 0) Tryz.underlying46 h1 h4 .i64 .i64 n n (by omega) (Int.le_refl _) (by rw [h3]; omega) (by omega)
 simp only [Int.toNat_natCast] at hr
 rw [hr, h2, show (Value.int .i64 0).cells = #[.int .i64 0] from rfl]
def PlA (w : World) (G N : Nat) (f : Nat → Option Int) : Prop := ∃ cs : Array Value, Bx 3 w G cs ∧ cs.size = N ∧ ∀ c y, c < N → f c = some y → cs[c]? = some (.int .i64 y)
theorem PlA.ext {w w' : World} {G N : Nat} {f : Nat → Option Int} (h : PlA w G N f) (he : Ext w w') : PlA w' G N f := by
 obtain ⟨cs, h1, h2, h3⟩ := h
 exact ⟨cs, h1.ext he, h2, h3⟩
theorem PlA.set {w : World} {G N c : Nat} {y : Int} {f f' : Nat → Option Int} (h : PlA w G N f) (hf : ∀ d, f' d = if d = c then some y else f d) : PlA (w.setCell ⟨G, c, none⟩ (.int .i64 y)) G N f' := by
 obtain ⟨cs, h1, h2, h3⟩ := h
 refine ⟨_, h1.set c _, by simp [h2], fun d z hd hz => ?_⟩
 rw [hf] at hz
 rw [Array.getElem?_setIfInBounds]
 by_cases hdc : c = d
 ·subst hdc
  rw [if_pos rfl] at hz
  cases hz
  rw [if_pos rfl, if_pos (by omega)]
 ·rw [if_neg (fun e => hdc e.symm)] at hz
  rw [if_neg hdc]
  exact h3 d z hd hz
theorem PlA.il {w : World} {B G N : Nat} {f : Nat → Int} (h : PlA w G N (fun c => some (f c))) (hB : B ≤ G) (hN : N ≤ 1000000) : IL B w (.slice (some ⟨G, 0, none⟩) N N) ((List.range N).map f) := by
 obtain ⟨cs, h1, h2, h3⟩ := h
 have hl : ((List.range N).map f).length = N := by simp
 have hcs : cs.toList = ((List.range N).map f).map (Value.int .i64) := by
  apply List.ext_getElem?
  intro c
  rw [Array.getElem?_toList]
  rcases Nat.lt_or_ge c N with hc | hc
  ·rw [h3 c _ hc rfl, List.getElem?_map, List.getElem?_map, List.getElem?_range hc]
   rfl
  ·rw [Array.getElem?_eq_none (by omega), List.getElem?_eq_none (by simp; omega)]
 unfold IL
 rw [hl]
 refine ⟨by rw [List.length_map, hl]; omega, .inr ⟨G, N, cs, rfl, hB, h1, Nat.le_refl _, by unfold maxLen; omega, by omega, ?_⟩⟩
 rw [Nat.mul_one, ← hcs, List.take_of_length_le (by rw [Array.length_toList]; omega)]
set_option maxHeartbeats 8000000 in
theorem places6_calls (v : Value) (zs : List Int) (w : World) (hv : ordL w v zs) (hn : zs.length ≤ 1000) :
  Calls Tryz.prog 64 #[v] w fun e w' => ∃ v', e = .returned (.tuple #[v', .bool (isOrd zs)]) ∧ (isOrd zs = true → ∃ at_, InvL zs at_ ∧ IL w.heap.size w' v' at_) ∧ Ext w w' := by
 obtain ⟨ad, n, cap, hnl, rfl, hn1, hat⟩ := hv.at
 rw [← hnl] at hn
 have HN := Lib.hid hnl
 have HAT := Lib.hid hat
 clear hnl hat hv
 obtain ⟨CS, hCS, hmk⟩ := make_ints n (by omega)
 obtain ⟨G, hGw⟩ : ∃ G, G = w.heap.size := ⟨_, rfl⟩
 obtain ⟨w1, hw1⟩ : ∃ w1, w1 = w.alloc (.cells CS 3) := ⟨_, rfl⟩
 have e1 : Ext w w1 := hw1 ▸ (Ext.refl _).alloc _
 have HT1 : Hid (PlA w1 G n (fun c => if c < 0 then some (-1) else none)) := Lib.hid (by
  rw [hw1, hGw]
  exact ⟨CS, Bx.new w _ CS, hCS, fun c y _ h => by simp at h⟩)
 have hB : w.heap.size ≤ G := by omega
 clear hCS
 go_enter Tryz.func64, Tryz.ntmps64
 go_wp2_with fail
 rw [← hw1, ← hGw]
 clear hw1 hGw hmk
 go_loopw [13] (fun s13 wr => ∃ (i : Nat), i ≤ n ∧ s13 = .int .i64 (i : Int) ∧ Hid (PlA wr G n (fun c => if c < i then some (-1) else none)) ∧ Ext w wr) (fun s13 _ => ((n : Int) - intOf s13).toNat)
 case atStart => exact ⟨0, Nat.zero_le _, rfl, HT1, e1⟩
 case round =>
  obtain ⟨i, hi, rfl, HS, hE0⟩ := hrel
  clear HT1 e1
  rcases Nat.eq_or_lt_of_le hi with hin | hin
  ·have hlt : ¬ ((i : Int) < (n : Int)) := by omega
   have HS0 : Hid (∃ f, PlJ zs 0 f ∧ PlA wr G n (fun c => some (f c))) := Lib.hid (by
    refine ⟨fun _ => -1, ⟨fun c _ => .inl rfl, fun j x hj => by omega⟩, ?_⟩
    obtain ⟨cs, h1, h2, h3⟩ := HS.out
    exact ⟨cs, h1, h2, fun c y hc hy => h3 c y hc (by show (if c < i then some (-1) else none) = some y; rw [if_pos (by omega)]; exact hy)⟩)
   clear HS
   go_wp2_with fail
   go_loopw [22] (fun s22 wr => ∃ (i : Nat), i ≤ n ∧ s22 = .int .i64 (i : Int) ∧ Hid (∃ f, PlJ zs i f ∧ PlA wr G n (fun c => some (f c))) ∧ Ext w wr) (fun s22 _ => ((n : Int) - intOf s22).toNat)
   case atStart => exact ⟨0, Nat.zero_le _, rfl, HS0, hE0⟩
   case round =>
    obtain ⟨j, hj, rfl, HS, hE1⟩ := hrel
    clear HS0 hE0
    rcases Nat.eq_or_lt_of_le hj with hjn | hjn
    ·have hlt2 : ¬ ((j : Int) < (n : Int)) := by omega
     have hR : Hid (isOrd zs = true ∧ ∃ at_, InvL zs at_ ∧ IL w.heap.size wr (.slice (some ⟨G, 0, none⟩) n n) at_) := Lib.hid (by
      obtain ⟨f, h1, h2⟩ := HS.out
      rw [hjn, HN.out] at h1
      refine ⟨h1.ord, _, h1.inv, ?_⟩
      rw [← HN.out]
      exact h2.il hB (by omega))
     clear HS
     go_wp2
     go_ret2
     exact ⟨_, by rw [hR.out.1] <;> rfl, fun _ => hR.out.2, hE1⟩
    ·have hlt2 : (j : Int) < (n : Int) := by omega
     obtain ⟨x, hx⟩ : ∃ x, zs[j]? = some x := ⟨_, List.getElem?_eq_getElem (by rw [← HN.out]; exact hjn)⟩
     obtain ⟨g, off, rfl, hcell⟩ := HAT.out j x hx
     have hc0 := hcell wr hE1
     have HX := Lib.hid (And.intro hx (List.mem_of_getElem? hx))
     clear hx hcell
     by_cases hx0 : x < 0
     ·have hR : Hid (isOrd zs = false) := Lib.hid (isOrd_out HX.out.2 (.inl hx0))
      clear HS
      go_wp2
      go_ret2
      exact ⟨_, by rw [hR.out] <;> rfl, (fun h => by rw [hR.out] at h; cases h), hE1⟩
     by_cases hxn : (n : Int) ≤ x
     ·have hR : Hid (isOrd zs = false) := Lib.hid (isOrd_out HX.out.2 (.inr (by rw [← HN.out]; exact hxn)))
      clear HS
      go_wp2
      go_ret2
      exact ⟨_, by rw [hR.out] <;> rfl, (fun h => by rw [hR.out] at h; cases h), hE1⟩
     obtain ⟨c, rfl⟩ : ∃ c : Nat, x = (c : Int) := ⟨x.toNat, by omega⟩
     have hcn : c < n := by omega
     have hcn' : (c : Int) < (n : Int) := by omega
     have hc0' : ¬ ((c : Int) < 0) := hx0
     obtain ⟨f, hf1, hf2⟩ := HS.out
     obtain ⟨cs, hb, hsz, hcs⟩ := id hf2
     obtain ⟨y, hy⟩ : ∃ y, y = f c := ⟨_, rfl⟩
     have hk0 : wr.cell? ⟨G, c, none⟩ = some (.int .i64 y) := by rw [hb.cell, hy]; exact hcs c _ hcn rfl
     have hf0 := hb.free c
     have HF := Lib.hid (And.intro hf1 (And.intro hf2 hy))
     clear hf1 hf2 hb hsz hcs hy HS
     by_cases hy0 : 0 ≤ y
     ·have hR : Hid (isOrd zs = false) := Lib.hid (by
       rcases HF.out.1.1 c (by rw [← HN.out]; exact hcn) with h | ⟨k, h1, h2, h3⟩
       ·rw [← HF.out.2.2] at h
        omega
       ·exact isOrd_dup h1 HX.out.1 h3)
      go_wp2
      go_ret2
      exact ⟨_, by rw [hR.out] <;> rfl, (fun h => by rw [hR.out] at h; cases h), hE1⟩
     ·have hN1 : Hid (PlJ zs (j + 1) (fun d => if d = c then (j : Int) else f d)) := Lib.hid (HF.out.1.step HX.out.1 (by rw [← HN.out]; exact hcn) (by
       rcases HF.out.1.1 c (by rw [← HN.out]; exact hcn) with h | ⟨k, h1, h2, h3⟩
       ·exact h
       ·rw [← HF.out.2.2] at h2
        omega))
      go_wp2
      go_roundw
      case rel => exact ⟨j + 1, by omega, congrArg (Value.int .i64) (by omega), Lib.hid ⟨_, hN1.out, HF.out.2.1.set fun d => by
       by_cases hd : d = c
       ·rw [if_pos hd, if_pos hd]
       ·rw [if_neg hd, if_neg hd]⟩, hE1.step (Chg.setCell _ G _ _) hB⟩
      case measure => simp [intOf]; omega
  ·have hlt : (i : Int) < (n : Int) := by omega
   obtain ⟨cs, hb, hsz, hcs⟩ := HS.out
   obtain ⟨y, hk0⟩ : ∃ y, wr.cell? ⟨G, i, none⟩ = some y := ⟨_, by rw [hb.cell]; exact Array.getElem?_eq_getElem (by omega)⟩
   have hf0 := hb.free i
   clear hb hsz hcs
   go_wp2
   go_roundw
   case rel => exact ⟨i + 1, by omega, congrArg (Value.int .i64) (by omega), Lib.hid (HS.out.set fun d => by
    by_cases hd : d = i
    ·rw [if_pos hd, if_pos (by omega)]
    ·rw [if_neg hd]
     by_cases h2 : d < i
     ·rw [if_pos h2, if_pos (by omega)]
     ·rw [if_neg h2, if_neg (by omega)]), hE0.step (Chg.setCell _ G _ _) hB⟩
   case measure => simp [intOf]; omega
def rowsM (rows : List (List (Int × Rat))) (zs : List Int) : List (List (Int × Rat)) := zs.map fun x => mkV (rows.getD x.toNat [])
def roOk (rows : List (List (Int × Rat))) (zs : List Int) : Bool := isOrd zs && decide (zs.length = rows.length)
set_option maxHeartbeats 8000000 in
theorem rows_calls (k N : Nat) (v u : Value) (rows : List (List (Int × Rat))) (zs : List Int) (w : World) (hv : ML k w v rows) (hu : ordL w u zs) (hN : ∀ r ∈ rows, r.length ≤ N) (hN30 : N ≤ 1073741824) (hn : zs.length ≤ 1000) (hk : (N + 1) * (k + 1) ≤ 34359738000) :
  Calls Tryz.prog 33 #[v, u] w fun e w' => ∃ v', e = .returned (.tuple #[v', .int .i64 (scE (roOk rows zs))]) ∧ (roOk rows zs = true → MO w.heap.size (N * (k + 1)) w' v' (rowsM rows zs)) ∧ (roOk rows zs = false → v' = .slice none 0 0) ∧ Ext w w' := by
 obtain ⟨ad, m, cap, hml, rfl, hm1, hat⟩ := hv.at
 have HU := Lib.hid hu
 obtain ⟨ado, n, capo, hnl, rfl, hn1, hato⟩ := hu.at
 have hn' := hn
 rw [← hnl] at hn'
 obtain ⟨K, hK⟩ : ∃ K, K = N * (k + 1) := ⟨_, rfl⟩
 rw [← hK]
 have HK := Lib.hid (And.intro hK hk)
 have HM := Lib.hid hml
 have HN := Lib.hid hnl
 have HAT := Lib.hid hat
 have HATO := Lib.hid hato
 have HL := Lib.hid hN
 clear hml hat hv hu hN hnl hato hK hk
 go_enter Tryz.func33, Tryz.ntmps33
 go_wp2_with fail
 refine (places6_calls _ zs w HU.out hn).mono ?_
 rintro e w2 ⟨v2, rfl, -, e2⟩
 obtain ⟨b, hb⟩ : ∃ b, b = isOrd zs := ⟨_, rfl⟩
 rw [← hb]
 have HB := Lib.hid hb
 clear hb hn HU
 cases b with
 | false =>
  have hR : Hid (roOk rows zs = false) := Lib.hid (by unfold roOk; rw [← HB.out]; rfl)
  go_wp2
  go_ret2
  exact ⟨_, by rw [hR.out] <;> rfl, (fun h => by rw [hR.out] at h; cases h), fun _ => rfl, e2⟩
 | true =>
 by_cases hmn : n = m
 ·subst hmn
  have hz : ¬ ((n : Int) ≠ (n : Int)) := by simp
  have hR : Hid (roOk rows zs = true) := Lib.hid (by unfold roOk; rw [← HB.out, decide_eq_true (by rw [← HN.out, HM.out])]; rfl)
  have HOR := Lib.hid (isOrd_of HB.out.symm).1
  go_wp2_with fail
  go_loopw [4, 26] (fun s4 s26 wr => ∃ (i : Nat) (ad4 : Option Addr) (cap4 : Nat), i ≤ n ∧ s26 = .int .i64 (i : Int) ∧ s4 = .slice ad4 i cap4 ∧ Hid (MO w.heap.size K wr (.slice ad4 i cap4) (rowsM rows (zs.take i))) ∧ Ext w wr) (fun _ s26 _ => ((n : Int) - intOf s26).toNat)
  case atStart => exact ⟨0, _, _, Nat.zero_le _, rfl, rfl, Lib.hid (MO.nil _ _ _), e2⟩
  case round =>
   obtain ⟨i, ad4, cap4, hi, rfl, rfl, hS, hE0⟩ := hrel
   rcases Nat.eq_or_lt_of_le hi with hin | hin
   ·subst hin
    have hlt : ¬ ((i : Int) < (i : Int)) := by omega
    have hT := hS.out
    rw [show zs.take i = zs by rw [HN.out, List.take_length]] at hT
    have HT := Lib.hid hT
    clear hT
    go_wp2
    go_ret2
    exact ⟨_, by rw [hR.out] <;> rfl, (fun _ => HT.out), (fun h => by rw [hR.out] at h; cases h), hE0⟩
   ·have hlt : (i : Int) < (n : Int) := by omega
    obtain ⟨x, hx⟩ : ∃ x, zs[i]? = some x := ⟨_, List.getElem?_eq_getElem (by rw [← HN.out]; exact hin)⟩
    obtain ⟨gz, offz, rfl, hzc⟩ := HATO.out i x hx
    have hc0 := hzc wr hE0
    have hxr := HOR.out x (List.mem_of_getElem? hx)
    rw [← HN.out] at hxr
    obtain ⟨c, rfl⟩ : ∃ c : Nat, x = (c : Int) := ⟨x.toNat, by omega⟩
    have hcn : c < n := by omega
    have hcn' : (c : Int) < (n : Int) := by omega
    obtain ⟨r, hr⟩ : ∃ x, rows[c]? = some x := ⟨_, List.getElem?_eq_getElem (by rw [← HM.out]; exact hcn)⟩
    obtain ⟨g, off, rfl, a1, n1, c1, hcell, hTL⟩ := HAT.out c _ hr
    have hc1 := hcell wr hE0
    have hrN := HL.out r (List.mem_of_getElem? hr)
    have hm2 : (r.length + 1) * (k + 1) ≤ (N + 1) * (k + 1) := Nat.mul_le_mul_right _ (by omega)
    have hm3 : r.length * (k + 1) ≤ N * (k + 1) := Nat.mul_le_mul_right _ (by omega)
    have HMM := Lib.hid (And.intro (Nat.le_trans hm2 HK.out.2) (show r.length * (k + 1) ≤ K by rw [HK.out.1]; exact hm3))
    have HTK := Lib.hid (show rowsM rows (zs.take (i + 1)) = rowsM rows (zs.take i) ++ [mkV r] by
     rw [take_next hx]
     unfold rowsM
     rw [List.map_append]
     simp [List.getD, hr])
    have HTL := Lib.hid hTL
    obtain ⟨vs, hls, hvl, hvs⟩ := hS.out
    have hvi : vs.length = i := by rw [hvl]; unfold rowsM; rw [List.length_map, List.length_take, ← HN.out]; omega
    subst hvi
    have HLS := Lib.hid hls
    have HGE := Lib.hid (ownsRow_ge hls)
    have HV := Lib.hid (And.intro hvl hvs)
    have hwr := hE0.size
    clear hx hzc hxr hr hcell hTL hm2 hm3 hls hvl hvs hS
    go_wp2_with fail
    refine (vmake_calls k _ r wr (HTL.out.ext hE0) (by omega) HMM.out.1).mono ?_
    rintro e w6 ⟨v6, rfl, r6, e6⟩
    obtain ⟨a6, k6, hv6⟩ := r6.val
    subst hv6
    have HR6 := Lib.hid ((r6.le HMM.out.2).mono hwr)
    have hs6 := e6.size
    clear r6 hc0 hc1
    go_wp2_with (first
     | (at_builtin; go_loud (refine wpList_append_V rfl _ _ 22 rfl 40 24 w.heap.size Tryz.underlying22 (by kernel_rfl) (by kernel_rfl) _ vs.length vs rfl (ownsRow_extI HLS.out (e6.trans ((Ext.refl _).alloc _))) ⟨w6.heap.size, 0, none⟩ (.slice a6 (mkV r).length k6) rfl (cell_one_new _ _ _) rfl (by omega) (by omega) (by rw [alloc_size]; omega) ?_); intro g' cap2' w7 hls7 hg7 hwh7 hlt7)
     | fail)
    go_roundw
    case rel =>
     have hA := (Ext.refl w6).alloc (.cells #[.slice a6 (mkV r).length k6] 40)
     refine ⟨vs.length + 1, some ⟨g', 0, none⟩, cap2', by omega, by simp, rfl, Lib.hid ?_, ((hE0.trans e6).trans hA).stepG hg7 HGE.out⟩
     rw [HTK.out]
     have hLA := ownsRow_extI HLS.out (e6.trans hA)
     exact OV.app (w := w6.alloc (.cells #[.slice a6 (mkV r).length k6] 40)) HV.out.1 (fun i u y h1 h2 => (HV.out.2 i u y h1 h2).ext (e6.trans hA)) rfl hls7 (fun u y h => TO.grow h hLA hg7 (by decide) (by decide)) (TO.grow (HR6.out.ext hA) hLA hg7 (by decide) (by decide))
    case measure => simp [intOf]; omega
 ·have hz : (n : Int) ≠ (m : Int) := by omega
  have hR : Hid (roOk rows zs = false) := Lib.hid (by unfold roOk; rw [decide_eq_false (by rw [← HN.out, ← HM.out]; exact hmn), Bool.and_false])
  go_wp2
  go_ret2
  exact ⟨_, by rw [hR.out] <;> rfl, (fun h => by rw [hR.out] at h; cases h), fun _ => rfl, e2⟩
end Go.Proofs.YtdmjgjcljbogiaaGreat
/-
 Lists of whole numbers handed in to a law.
-/
namespace Go.Proofs.YtdmjgjcljbogiaaGreat
set_option maxRecDepth 100000
set_option maxHeartbeats 1000000
open Go.RowKit
open Go.ChangeShapes Go.WideShapes Go.ChangeAt
set_option linter.unusedVariables false
set_option linter.unusedSimpArgs false
section
variable {H : Type} {enc : TypeId × Value → H} {w : World} {base : Nat} {spare : Nat → Bool} {held : Bool}
theorem open_intsS {v : Value} {d : DataW H} {p : List MemPlace} {W0 : World} {b0 : Nat} (hv : Value.okWide Tryz.prog W0 .any b0 46 v) (h : DataW.Trod enc Tryz.prog w base spare held 46 v d p) (B : Nat) (hb : B ≤ 4611686018427387903) (hB : ∀ n ∈ d.weights Tryz.prog 46, n ≤ B) :
  ∃ l, ordL w v l ∧ l.length * Tryz.prog.bytesOf 3 ≤ B := by
 obtain ⟨a, n, c, rfl⟩ := okWide_slice Tryz.underlying46 hv
 obtain ⟨fuel, hf⟩ := h
 obtain ⟨v', ys, h1, h2, h3, -⟩ := open_ones (R := fun _ v z => v = .int .i64 z) (F := fun _ _ => True) B Tryz.underlying46 cellsInt (fun fuel v x hw hx => by
  obtain ⟨k, h1, -, -⟩ := open_int1 hx
  cases h1
  exact ⟨k, rfl, trivial⟩) hB hf
 have hcs : (Value.slice a n c).cells.toList = [Value.slice a n c] := rfl
 rw [hcs] at h1
 cases h1
 exact ⟨ys, h2, h3⟩
end
end Go.Proofs.YtdmjgjcljbogiaaGreat
/-
 Matrices: the columns in an order (mat.Columns).
-/
namespace Go.Proofs.YtdmjgjcljbogiaaGreat
set_option maxRecDepth 100000
set_option maxHeartbeats 1000000
open Go.RowKit
set_option linter.unusedVariables false
set_option linter.unusedSimpArgs false
/-! Plain. -/
def colF (at_ : List Int) (x : Int × Rat) : Int × Rat := (at_.getD x.1.toNat 0, x.2)
def coV (r : List (Int × Rat)) (zs : List Int) : List (Int × Rat) := mkV (rngV (fun c => getV r (zs.getD c 0)) zs.length)
def colsM (rows : List (List (Int × Rat))) (zs : List Int) : List (List (Int × Rat)) := rows.map fun r => coV r zs
def coOk (rows : List (List (Int × Rat))) (zs : List Int) : Bool := isOrd zs && (allV rows).all fun x => decide (x.1 < (zs.length : Int))
theorem colF_get {zs at_ : List Int} (h : InvL zs at_) : ∀ {m : List (Int × Rat)}, (∀ x ∈ m, 0 ≤ x.1 ∧ x.1 < (zs.length : Int) ∧ x.1 ∈ zs) → ∀ d, getV (m.map (colF at_)) d = if 0 ≤ d ∧ d < (zs.length : Int) then getV m (zs.getD d.toNat 0) else 0
 | [], _, d => by
  rw [List.map_nil, getV_nil]
  split
  ·exact (getV_nil _).symm
  ·rfl
 | x :: m, hm, d => by
  have ih := colF_get h (m := m) (fun y hy => hm y (List.mem_cons_of_mem _ hy)) d
  obtain ⟨h0, h1, h2⟩ := hm x (List.mem_cons_self ..)
  obtain ⟨j, hj, hjx⟩ := List.getElem_of_mem h2
  have hjx' : zs[j]? = some x.1 := by rw [List.getElem?_eq_getElem hj, hjx]
  obtain ⟨-, -, ha⟩ := h.2 j x.1 hjx'
  have haD : at_.getD x.1.toNat 0 = (j : Int) := by rw [List.getD_eq_getElem?_getD, ha]; rfl
  rw [List.map_cons, show colF at_ x :: m.map (colF at_) = [colF at_ x] ++ m.map (colF at_) from rfl, getV_append, ih]
  show getV [(at_.getD x.1.toNat 0, x.2)] d + _ = _
  rw [haD, getV_one]
  by_cases hd : 0 ≤ d ∧ d < (zs.length : Int)
  ·rw [if_pos hd, if_pos hd, show x :: m = [x] ++ m from rfl, getV_append]
   congr 1
   obtain ⟨xc, xq⟩ := x
   simp only at h0 h1 hjx' ⊢
   rw [getV_one]
   have hdl : d.toNat < zs.length := by omega
   have hdz : zs[d.toNat]? = some (zs.getD d.toNat 0) := by rw [List.getD_eq_getElem?_getD, List.getElem?_eq_getElem hdl]; rfl
   obtain ⟨k0, k1, k2⟩ := h.2 d.toNat _ hdz
   by_cases hjd : (j : Int) = d
   ·subst hjd
    rw [Int.toNat_natCast] at hdz
    rw [hjx'] at hdz
    simp only [Option.some.injEq] at hdz
    rw [Int.toNat_natCast, ← hdz, if_pos ⟨rfl, hd.1⟩, if_pos ⟨rfl, h0⟩]
   ·rw [if_neg (fun e => hjd e.1), if_neg]
    rintro ⟨e, -⟩
    rw [← e] at k2
    rw [ha] at k2
    simp only [Option.some.injEq] at k2
    omega
  ·rw [if_neg hd, if_neg hd, if_neg (fun e => hd ⟨by omega, by omega⟩), Rat.add_zero]
theorem nodup_le : ∀ (n : Nat) (l : List Nat), l.Nodup → (∀ y ∈ l, y < n) → l.length ≤ n
 | 0, l, _, h => by
  cases l with
  | nil => simp
  | cons y l => exact absurd (h y (List.mem_cons_self ..)) (by omega)
 | n + 1, l, hd, h => by
  by_cases hm : n ∈ l
  ·have := nodup_le n (l.erase n) (hd.erase n) fun y hy => by
    have h1 := hd.mem_erase_iff.1 hy
    have := h y h1.2
    omega
   rw [List.length_erase_of_mem hm] at this
   omega
  ·have := nodup_le n l hd fun y hy => by
    have := h y hy
    have : y ≠ n := fun e => hm (e ▸ hy)
    omega
   omega
theorem ord_mem {zs : List Int} (h : isOrd zs = true) {x : Int} (h0 : 0 ≤ x) (h1 : x < (zs.length : Int)) : x ∈ zs := by
 obtain ⟨hr, hd⟩ := isOrd_of h
 have hp : (zs.map Int.toNat).Nodup := by
  refine List.pairwise_map.2 (hd.imp_of_mem fun {a b} ha hb hab e => hab ?_)
  have := hr a ha
  have := hr b hb
  omega
 have hlt : ∀ y ∈ zs.map Int.toNat, y < zs.length := fun y hy => by
  obtain ⟨z, hz, rfl⟩ := List.mem_map.1 hy
  have := hr z hz
  omega
 have this : x.toNat ∈ zs.map Int.toNat := Classical.byContradiction fun hn => by
  have h2 := nodup_le zs.length (x.toNat :: zs.map Int.toNat) (List.nodup_cons.2 ⟨hn, hp⟩) fun y hy => by
   rcases List.mem_cons.1 hy with rfl | hy
   ·omega
   ·exact hlt y hy
  simp at h2
  omega
 obtain ⟨z, hz, e⟩ := List.mem_map.1 this
 have := hr z hz
 have : z = x := by omega
 rw [← this]
 exact hz
theorem co_eq {zs at_ : List Int} (h : InvL zs at_) (ho : isOrd zs = true) {r : List (Int × Rat)} (hr : ∀ x ∈ mkV r, x.1 < (zs.length : Int)) : mkV ((mkV r).map (colF at_)) = coV r zs := by
 unfold coV
 refine mkV_congr fun d => ?_
 rw [colF_get h (fun x hx => ⟨(mkV_nf r).1.2 x hx, hr x hx, ord_mem ho ((mkV_nf r).1.2 x hx) (hr x hx)⟩), rng_get]
 split
 ·rw [mkV_get]
 ·rfl
end Go.Proofs.YtdmjgjcljbogiaaGreat
/-
 Matrices: the columns in an order: the walk (mat.Columns).
-/
namespace Go.Proofs.YtdmjgjcljbogiaaGreat
set_option maxRecDepth 100000
set_option maxHeartbeats 1000000
open Go.RowKit
set_option linter.unusedVariables false
set_option linter.unusedSimpArgs false
set_option maxHeartbeats 4000000 in
theorem colgeq_calls (p N : Nat) (ad0 : Option Addr) (cap0 : Nat) (c : Int) (b : Bool) (a1 a2 : Option Addr) (n1 c1 n2 c2 : Nat) (w : World) (hp : Bx 46 w p #[.slice ad0 N cap0]) :
  Calls Tryz.prog 66 #[.agg #[.int .i64 c, .bool b, .slice a1 n1 c1, .slice a2 n2 c2], .pointer (some ⟨p, 0, none⟩)] w fun e w' => e = .returned (.bool (decide ((N : Int) ≤ c))) ∧ Ext w w' := by
 obtain ⟨w1, hw1, e1, bx1, s1⟩ := alloc1 w #[.int .i64 c, .bool b, .slice a1 n1 c1, .slice a2 n2 c2] 66
 have hd0 := bx1.cell 0
 have hpc := (hp.ext e1).cell 0
 rw [hw1] at hd0 hpc
 go_enter Tryz.func66, Tryz.ntmps66
 go_wp2
 go_ret
 rw [← hw1]
 exact ⟨rfl, e1⟩
def GeR (m : List (Int × Rat)) (N : Nat) (r : Int) : Prop := 0 ≤ r ↔ ∃ x ∈ m, (N : Int) ≤ x.1
def NoGe (m : List (Int × Rat)) (N : Nat) : Prop := ∀ x ∈ m, ¬ (N : Int) ≤ x.1
set_option maxHeartbeats 4000000 in
theorem colidx_calls (B k p N : Nat) (ad0 : Option Addr) (cap0 : Nat) (v : Value) (m : List (Int × Rat)) (w : World) (h : TO B k w v m) (hk : k ≤ LIM) (hp : Bx 46 w p #[.slice ad0 N cap0]) :
  Calls Tryz.prog 98 #[v, .func (.func 66) #[] #[.pointer (some ⟨p, 0, none⟩)]] w fun e w' => ∃ r, e = .returned (.int .i64 r) ∧ GeR m N r ∧ Ext w w' := by
 obtain ⟨ad, n, cap, hn, rfl, hn1, hat⟩ := (h.tl hk).at
 have Hn := Lib.hid hn
 have Hat := Lib.hid hat
 clear hn hat h
 go_enter Tryz.func98, Tryz.ntmps98
 go_wp2_with fail
 go_loopw [8] (fun s8 wr => ∃ i : Nat, i ≤ n ∧ s8 = .int .i64 (i : Int) ∧ Hid (NoGe (m.take i) N) ∧ Ext w wr) (fun s8 _ => ((n : Int) - intOf s8).toNat)
 case atStart => exact ⟨0, Nat.zero_le _, rfl, Lib.hid (fun x hx => by simp at hx), Ext.refl _⟩
 case round =>
  obtain ⟨i, hi, rfl, hH, hex⟩ := hrel
  rcases Nat.eq_or_lt_of_le hi with hin | hin
  ·subst hin
   have hlt : ¬ ((i : Int) < (i : Int)) := by omega
   have HF : Hid (GeR m N (-1)) := by
    have := hH.out
    rw [Hn.out, List.take_length] at this
    exact Lib.hid ⟨fun h => by omega, fun ⟨x, hx, h⟩ => absurd h (this x hx)⟩
   clear hH
   go_wp2
   go_ret
   exact ⟨-1, rfl, HF.out, hex⟩
  ·have hlt : (i : Int) < (n : Int) := by omega
   obtain ⟨x, hx⟩ : ∃ x, m[i]? = some x := ⟨_, List.getElem?_eq_getElem (by rw [← Hn.out]; exact hin)⟩
   obtain ⟨g, off, rfl, b, a1, n1, c1, a2, n2, c2, hcell⟩ := Hat.out i x hx
   obtain ⟨hc0, hc1, hc2, hc3, hIsR⟩ := hcell wr hex
   have HX := Lib.hid (And.intro hx (take_next hx))
   obtain ⟨xc, xq⟩ := x
   simp only at hc0 hc1 hc2 hc3
   have HPC := Lib.hid (hp.ext hex)
   obtain ⟨r, hr⟩ : ∃ r : Bool, r = decide ((N : Int) ≤ xc) := ⟨_, rfl⟩
   have Hr := Lib.hid hr.symm
   clear hx hIsR hcell hr
   go_wp2_with fail
   refine (colgeq_calls p N ad0 cap0 xc b a1 a2 n1 c1 n2 c2 wr HPC.out).mono ?_
   rw [Hr.out]
   rintro ee w2 ⟨rfl, e2⟩
   cases r with
   | true =>
    have HF : Hid (GeR m N (i : Int)) := Lib.hid ⟨fun _ => ⟨_, List.mem_of_getElem? HX.out.1, of_decide_eq_true Hr.out⟩, fun _ => by omega⟩
    clear hH
    go_wp2
    go_ret
    exact ⟨_, rfl, HF.out, hex.trans e2⟩
   | false =>
    have HF : Hid (NoGe (m.take (i + 1)) N) := Lib.hid fun x hx => by
     rw [HX.out.2] at hx
     rcases List.mem_append.1 hx with hx | hx
     ·exact hH.out x hx
     ·rw [List.mem_singleton] at hx
      subst hx
      exact of_decide_eq_false Hr.out
    clear hH
    go_wp2
    go_roundw
    case rel => exact ⟨i + 1, by omega, congrArg (Value.int .i64) (by omega), HF, hex.trans e2⟩
    case measure => simp [intOf]; omega
set_option maxHeartbeats 4000000 in
theorem colany_calls (B k p N : Nat) (ad0 : Option Addr) (cap0 : Nat) (v : Value) (m : List (Int × Rat)) (w : World) (h : TO B k w v m) (hk : k ≤ LIM) (hp : Bx 46 w p #[.slice ad0 N cap0]) :
  Calls Tryz.prog 65 #[v, .func (.func 66) #[] #[.pointer (some ⟨p, 0, none⟩)]] w fun e w' => e = .returned (.bool (m.any fun x => decide ((N : Int) ≤ x.1))) ∧ Ext w w' := by
 go_enter Tryz.func65, Tryz.ntmps65
 go_wp2_with fail
 refine (colidx_calls B k p N ad0 cap0 v m w h hk hp).mono ?_
 rintro e w2 ⟨r, rfl, hr, e2⟩
 have hA : Hid ((m.any fun x => decide ((N : Int) ≤ x.1)) = decide (0 ≤ r)) := Lib.hid (by
  by_cases h0 : 0 ≤ r
  ·obtain ⟨x, hx, hl⟩ := hr.1 h0
   rw [decide_eq_true h0]
   exact List.any_eq_true.2 ⟨x, hx, decide_eq_true hl⟩
  ·rw [decide_eq_false h0]
   exact List.any_eq_false.2 fun x hx h => h0 (hr.2 ⟨x, hx, of_decide_eq_true h⟩))
 clear hr
 go_wp2
 go_ret
 exact ⟨by rw [hA.out] <;> rfl, e2⟩
/-! A column stored over. -/
theorem set_same {l : List Value} {j : Nat} {b : Value} (h : l[j]? = some b) : l.set j b = l := by
 apply List.ext_getElem?
 intro i
 rw [List.getElem?_set]
 split
 ·rename_i e
  subst e
  split
  ·exact h.symm
  ·rename_i h2
   have := (List.getElem?_eq_some_iff.1 h).1
   exact absurd this h2
 ·rfl
theorem laid_col {l : List Value} {p : Nat} {a b s t : Value} (hp : p + 4 ≤ l.length) (h1 : l[p + 1]? = some b) (h2 : l[p + 2]? = some s) (h3 : l[p + 3]? = some t) : laidS l p [a, b, s, t] = l.set p a := by
 rw [← set4 a b s t p l hp]
 rw [set_same (l := l.set p a) (j := p + 1) (by rw [List.getElem?_set_ne (by omega)]; exact h1)]
 rw [set_same (l := l.set p a) (j := p + 2) (by rw [List.getElem?_set_ne (by omega)]; exact h2)]
 rw [set_same (l := l.set p a) (j := p + 3) (by rw [List.getElem?_set_ne (by omega)]; exact h3)]
theorem TO.setCol {B k i g : Nat} {w : World} {v : Value} {m : List (Int × Rat)} {c d : Int} {q : Rat} (h : TO B k w v m) (hi : m[i]? = some (c, q)) (hg : v.ownBlock = some g) : TO B k (w.setCell ⟨g, i * 4, none⟩ (.int .i64 d)) v (m.set i (d, q)) := by
 obtain ⟨ts, h1, h2, h3⟩ := h
 have hlt : i < ts.length := by have := (List.getElem?_eq_some_iff.1 hi).1; omega
 obtain ⟨t, ht⟩ : ∃ t, ts[i]? = some t := ⟨_, List.getElem?_eq_getElem hlt⟩
 obtain ⟨k1, k2, k3⟩ := h3 i t _ ht hi
 have hcg := Chg.setCell w g (i * 4) (.int .i64 d)
 obtain ⟨ad, cap, -, -, -, ho⟩ := h2.opn
 obtain ⟨-, -, -, cs, hb⟩ := ho g hg
 have hset : (ts.set i ⟨d, t.b, t.a1, t.n1, t.c1, t.a2, t.n2, t.c2⟩).map tmv = (ts.map tmv).set i (tmv ⟨d, t.b, t.a1, t.n1, t.c1, t.a2, t.n2, t.c2⟩) := by rw [List.map_set]
 refine ⟨ts.set i ⟨d, t.b, t.a1, t.n1, t.c1, t.a2, t.n2, t.c2⟩, by rw [List.length_set, List.length_set, h1], ?_, fun j u x hu hx => ?_⟩
 ·rw [hset]
  refine h2.set (strN_tmv1 _) (by rw [List.length_map]; exact hlt) hg fun rest hr => ?_
  have hl := flatS_len h2.1.size
  rw [List.length_map] at hl
  have hel : ∀ (j : Nat) (u : Value), j < 4 → (tmv t).cells[j]? = some u → (flatS (ts.map tmv) ++ rest)[i * 4 + j]? = some u := fun j u hj hu => by
   rw [List.getElem?_append_left (by rw [hl]; omega), flatS_get (n := 4) (by omega) h2.1.size (i := i) (cs := (tmv t).cells) (by rw [List.getElem?_map, ht]; rfl) j hj]
   exact hu
  have e : (tmv ⟨d, t.b, t.a1, t.n1, t.c1, t.a2, t.n2, t.c2⟩).cells.toList = [.int .i64 d, .bool t.b, .slice t.a1 t.n1 t.c1, .slice t.a2 t.n2 t.c2] := rfl
  rw [e, laid_col (b := .bool t.b) (s := .slice t.a1 t.n1 t.c1) (t := .slice t.a2 t.n2 t.c2) (by rw [List.length_append, hl]; omega) (hel 1 _ (by omega) rfl) (hel 2 _ (by omega) rfl) (hel 3 _ (by omega) rfl)]
  have := Bx.set hr (i * 4) (.int .i64 d)
  rwa [List.setIfInBounds_toArray] at this
 ·by_cases hji : j = i
  ·subst hji
   rw [List.getElem?_set_self hlt] at hu
   rw [List.getElem?_set_self (by omega)] at hx
   cases hu
   cases hx
   exact ⟨rfl, k2.chgB hcg hb (by decide), k3⟩
  ·rw [List.getElem?_set_ne (Ne.symm hji)] at hu hx
   obtain ⟨f1, f2, f3⟩ := h3 j u x hu hx
   exact ⟨f1, f2.chgB hcg hb (by decide), f3⟩
def mpV (f : Int × Rat → Int × Rat) (m : List (Int × Rat)) (i : Nat) : List (Int × Rat) := (m.take i).map f ++ m.drop i
theorem mpV_at {f : Int × Rat → Int × Rat} {m : List (Int × Rat)} {i : Nat} (h : i ≤ m.length) : (mpV f m i)[i]? = m[i]? := by
 unfold mpV
 rw [List.getElem?_append_right (by rw [List.length_map, List.length_take]; omega), List.getElem?_drop]
 congr 1
 rw [List.length_map, List.length_take]
 omega
theorem mpV_set {f : Int × Rat → Int × Rat} {m : List (Int × Rat)} {i : Nat} {x : Int × Rat} (h : m[i]? = some x) : (mpV f m i).set i (f x) = mpV f m (i + 1) := by
 have hl := (List.getElem?_eq_some_iff.1 h).1
 unfold mpV
 have hlen : ((m.take i).map f).length = i := by rw [List.length_map, List.length_take]; omega
 rw [List.set_append_right _ _ (by omega), hlen, Nat.sub_self, take_next h, List.map_append, List.append_assoc]
 congr 1
 rw [List.drop_eq_getElem_cons hl]
 rfl
set_option maxHeartbeats 8000000 in
theorem columns_calls (k N : Nat) (v u : Value) (rows : List (List (Int × Rat))) (zs : List Int) (w : World) (hv : ML k w v rows) (hu : ordL w u zs) (hN : ∀ r ∈ rows, r.length ≤ N) (hN30 : N ≤ 1073741824) (hnr : rows.length ≤ 1000000) (hn : zs.length ≤ 1000) (hk : (N + 1) * (k + 1) ≤ 34359738000) (hk2 : (N + 1) * (N * (k + 1) + 1) ≤ 34359738000) :
  Calls Tryz.prog 34 #[v, u] w fun e w' => ∃ v', e = .returned (.tuple #[v', .int .i64 (scE (coOk rows zs))]) ∧ (coOk rows zs = true → MO w.heap.size (N * (N * (k + 1) + 1)) w' v' (colsM rows zs)) ∧ (coOk rows zs = false → v' = .slice none 0 0) ∧ Ext w w' := by
 obtain ⟨ad, m, cap, hml, rfl, hm1, hat⟩ := hv.at
 have HU := Lib.hid hu
 obtain ⟨ado, n, capo, hnl, rfl, hn1, -⟩ := hu.at
 obtain ⟨K, hK⟩ : ∃ K, K = N * (k + 1) := ⟨_, rfl⟩
 rw [← hK] at hk2 ⊢
 obtain ⟨C, hC⟩ : ∃ C, C = N * (K + 1) := ⟨_, rfl⟩
 rw [← hC]
 rw [← hml] at hnr
 have HK := Lib.hid (And.intro hK (And.intro hk (And.intro hC hk2)))
 have HM := Lib.hid hml
 have HN := Lib.hid hnl
 have HAT := Lib.hid hat
 have HL := Lib.hid hN
 have hKL : K ≤ 34359738000 := by
  have : 1 * (K + 1) ≤ (N + 1) * (K + 1) := Nat.mul_le_mul_right _ (by omega)
  omega
 clear hml hat hv hu hN hnl hK hk hC hk2
 obtain ⟨w1, hw1, e1, b1, s1⟩ := alloc1 w #[.slice ado n capo] 46
 have hp0 := b1.cell 0
 rw [hw1] at hp0
 go_enter Tryz.func34, Tryz.ntmps34
 go_wp2_with fail
 rw [← hw1]
 refine (places6_calls _ zs w1 (HU.out.ext e1) hn).mono ?_
 rintro e w2 ⟨v2, rfl, h2, e2⟩
 obtain ⟨b, hb⟩ : ∃ b, b = isOrd zs := ⟨_, rfl⟩
 rw [← hb] at h2 ⊢
 have HB := Lib.hid hb
 have E2 := e1.trans e2
 clear hb HU hw1 hp0
 cases b with
 | false =>
  have hR : Hid (coOk rows zs = false) := Lib.hid (by unfold coOk; rw [← HB.out]; rfl)
  clear h2
  go_wp2
  go_ret2
  exact ⟨_, by rw [hR.out] <;> rfl, (fun h => by rw [hR.out] at h; cases h), fun _ => rfl, E2⟩
 | true =>
 obtain ⟨at_, hinv, hil⟩ := h2 rfl
 obtain ⟨pad, pcap, hv2, -⟩ := hil.opn
 obtain ⟨an, han⟩ : ∃ an, an = at_.length := ⟨_, rfl⟩
 have hann : an = n := by rw [han, hinv.1, HN.out]
 rw [← han, hann] at hv2
 subst hv2
 have HI := Lib.hid hil
 have HINV := Lib.hid hinv
 have HBX := Lib.hid (b1.ext e2)
 have hw2 : w.heap.size < w2.heap.size := (b1.ext e2).lt
 have hAN : Hid (at_.length = n) := Lib.hid (by rw [hinv.1, HN.out])
 clear hil hinv h2 b1 s1 e1 e2 han hann
 go_wp2_with fail
 go_loopw [4, 21] (fun s4 s21 wr => ∃ (i : Nat) (ad4 : Option Addr) (cap4 : Nat), i ≤ m ∧ s21 = .int .i64 (i : Int) ∧ s4 = .slice ad4 i cap4 ∧ Hid (MO w2.heap.size C wr (.slice ad4 i cap4) (colsM (rows.take i) zs) ∧ ∀ x ∈ allV (rows.take i), x.1 < (zs.length : Int)) ∧ Ext w2 wr) (fun _ s21 _ => ((m : Int) - intOf s21).toNat)
 case atStart => exact ⟨0, _, _, Nat.zero_le _, rfl, rfl, Lib.hid ⟨MO.nil _ _ _, fun x hx => by cases hx⟩, Ext.refl _⟩
 case round =>
  obtain ⟨i, ad4, cap4, hi, rfl, rfl, hS, hE0⟩ := hrel
  rcases Nat.eq_or_lt_of_le hi with hin | hin
  ·subst hin
   have hlt : ¬ ((i : Int) < (i : Int)) := by omega
   have hT := hS.out
   rw [show rows.take i = rows by rw [HM.out, List.take_length]] at hT
   have hR : Hid (coOk rows zs = true) := Lib.hid (by
    unfold coOk
    rw [← HB.out, Bool.true_and, List.all_eq_true]
    exact fun x hx => decide_eq_true (hT.2 x hx))
   have HT := Lib.hid (hT.1.mono (B' := w.heap.size) (by omega) (Nat.le_refl _))
   clear hT
   go_wp2
   go_ret2
   exact ⟨_, by rw [hR.out] <;> rfl, (fun _ => HT.out), (fun h => by rw [hR.out] at h; cases h), E2.trans hE0⟩
  ·have hlt : (i : Int) < (m : Int) := by omega
   obtain ⟨r, hr⟩ : ∃ x, rows[i]? = some x := ⟨_, List.getElem?_eq_getElem (by rw [← HM.out]; exact hin)⟩
   obtain ⟨g, off, rfl, a1, n1, c1, hcell, hTL⟩ := HAT.out i _ hr
   have hc1 := hcell wr (E2.trans hE0)
   have hrN := HL.out r (List.mem_of_getElem? hr)
   have hm2 : (r.length + 1) * (k + 1) ≤ (N + 1) * (k + 1) := Nat.mul_le_mul_right _ (by omega)
   have hm3 : r.length * (k + 1) ≤ N * (k + 1) := Nat.mul_le_mul_right _ (by omega)
   have HMM := Lib.hid (And.intro (Nat.le_trans hm2 HK.out.2.1) (show r.length * (k + 1) ≤ K by rw [HK.out.1]; exact hm3))
   have HTK := Lib.hid (And.intro (take_next hr) (List.mem_of_getElem? hr))
   have HTL := Lib.hid hTL
   have hwr := hE0.size
   clear hr hcell hTL hm2 hm3
   go_wp2_with fail
   refine (vmake_calls k _ r wr (HTL.out.ext (E2.trans hE0)) (by omega) HMM.out.1).mono ?_
   rintro e w6 ⟨v6, rfl, r6, e6⟩
   have R6 := Lib.hid (r6.le HMM.out.2)
   have hE6 := hE0.trans e6
   have hs6 := e6.size
   clear r6 hc1
   go_wp2_with fail
   refine (colany_calls wr.heap.size K w.heap.size n ado capo _ (mkV r) w6 R6.out (by rw [LIM_eq]; omega) (HBX.out.ext hE6)).mono ?_
   rintro e w7 ⟨rfl, e7⟩
   obtain ⟨s, hs⟩ : ∃ s, s = ((mkV r).any fun x => decide ((n : Int) ≤ x.1)) := ⟨_, rfl⟩
   rw [← hs]
   have HS := Lib.hid hs
   have hE7 := hE6.trans e7
   clear hs
   cases s with
   | true =>
    have hR : Hid (coOk rows zs = false) := Lib.hid (by
     obtain ⟨x, hx, hl⟩ := List.any_eq_true.1 HS.out.symm
     unfold coOk
     rw [← HB.out, Bool.true_and, List.all_eq_false]
     refine ⟨x, List.mem_flatMap.2 ⟨r, HTK.out.2, hx⟩, ?_⟩
     have := of_decide_eq_true hl
     rw [HN.out] at this
     simpa using this)
    clear hS
    go_wp2
    go_ret2
    exact ⟨_, by rw [hR.out] <;> rfl, (fun h => by rw [hR.out] at h; cases h), fun _ => rfl, E2.trans hE7⟩
   | false =>
   have hall : ∀ x ∈ mkV r, x.1 < (n : Int) := fun x hx => by
    have := List.any_eq_false.1 HS.out.symm x hx
    simpa using this
   have HALL := Lib.hid hall
   obtain ⟨ad6, cap6, hv6, hl6, -⟩ := R6.out.at
   subst hv6
   have hLr := mkV_len r
   obtain ⟨L, hL⟩ : ∃ L, L = (mkV r).length := ⟨_, rfl⟩
   rw [← hL] at hl6 hLr R6 ⊢
   have HLL := Lib.hid hL
   have HS7 := Lib.hid hS.out
   have HT7 : Hid (TO wr.heap.size K w7 (.slice ad6 L cap6) (mpV (colF at_) (mkV r) 0)) := Lib.hid (R6.out.ext e7)
   have e67 := e6.trans e7
   clear hL hall hS R6
   go_wp2_with fail
   obtain ⟨wo, hwo⟩ : ∃ wo : World, wo = wr := ⟨_, rfl⟩
   rw [← hwo] at hE0 hwr e6 hs6 HT7 e67 HS7
   clear hwo
   go_loopw [32] (fun s32 wr => ∃ (j : Nat), j ≤ L ∧ s32 = .int .i64 (j : Int) ∧ Hid (TO wo.heap.size K wr (.slice ad6 L cap6) (mpV (colF at_) (mkV r) j)) ∧ Ext wo wr) (fun s32 _ => ((L : Int) - intOf s32).toNat)
   case atStart => exact ⟨0, Nat.zero_le _, rfl, HT7, e67⟩
   case round =>
    obtain ⟨j, hj, rfl, HT, hEo⟩ := hrel
    clear HT7
    have hE2r := hE0.trans hEo
    have hwr3 := hEo.size
    rcases Nat.eq_or_lt_of_le hj with hjn | hjn
    ·subst hjn
     have hlt2 : ¬ ((j : Int) < (j : Int)) := by omega
     have hmp : mpV (colF at_) (mkV r) j = (mkV r).map (colF at_) := by
      unfold mpV
      rw [HLL.out, List.take_length, List.drop_length, List.append_nil]
     have HTM := Lib.hid (show TO wo.heap.size K wr (.slice ad6 j cap6) ((mkV r).map (colF at_)) by rw [← hmp]; exact HT.out)
     have hmul : (j + 1) * (K + 1) ≤ (N + 1) * (K + 1) := Nat.mul_le_mul_right _ (by omega)
     have hmul2 : j * (K + 1) ≤ N * (K + 1) := Nat.mul_le_mul_right _ (by omega)
     have HMU := Lib.hid (And.intro (Nat.le_trans hmul HK.out.2.2.2) (show j * (K + 1) ≤ C by rw [HK.out.2.2.1]; exact hmul2))
     have hml : ((mkV r).map (colF at_)).length = j := by rw [List.length_map, HLL.out]
     have HMLL := Lib.hid hml
     clear hmp hmul hmul2 hml HT
     go_wp2_with fail
     refine (vmake_calls K _ ((mkV r).map (colF at_)) wr (HTM.out.tl (by rw [LIM_eq]; omega)) (by rw [HMLL.out]; omega) (by rw [HMLL.out]; exact HMU.out.1)).mono ?_
     rintro e w9 ⟨v9, rfl, r9, e9⟩
     rw [HMLL.out, co_eq HINV.out HB.out.symm (fun x hx => by rw [← HN.out]; exact HALL.out x hx)] at r9
     have hE9 := hEo.trans e9
     obtain ⟨a9, k9, hv9⟩ := r9.val
     subst hv9
     have HP := Lib.hid ((r9.le HMU.out.2).mono (show w2.heap.size ≤ wr.heap.size by omega))
     obtain ⟨vs, hls, hvl, hvs⟩ := HS7.out.1.ext hE9
     have hvi : vs.length = i := by rw [hvl]; unfold colsM; rw [List.length_map, List.length_take, ← HM.out]; omega
     subst hvi
     have HAL : Hid (∀ x ∈ allV (rows.take (vs.length + 1)), x.1 < (zs.length : Int)) := Lib.hid fun x hx => by
      rw [HTK.out.1, allV_snoc] at hx
      rcases List.mem_append.1 hx with hx | hx
      ·exact HS7.out.2 x hx
      ·rw [← HN.out]; exact HALL.out x hx
     have HCO : Hid (colsM (rows.take (vs.length + 1)) zs = colsM (rows.take vs.length) zs ++ [coV r zs]) := Lib.hid (by rw [HTK.out.1]; unfold colsM; rw [List.map_append]; rfl)
     have HLS := Lib.hid hls
     have HGE := Lib.hid (ownsRow_ge hls)
     have HV := Lib.hid (And.intro hvl hvs)
     have hs9 := hE9.size
     have hE29 := hE0.trans hE9
     have hs29 := hE29.size
     clear hls hvl hvs HS7 HTM r9
     go_wp2_with (first
      | (at_builtin; go_loud (refine wpList_append_V rfl _ _ 22 rfl 40 24 w2.heap.size Tryz.underlying22 (by kernel_rfl) (by kernel_rfl) _ vs.length vs rfl (ownsRow_extI HLS.out ((Ext.refl _).alloc _)) ⟨w9.heap.size, 0, none⟩ (.slice a9 (coV r zs).length k9) rfl (cell_one_new _ _ _) rfl (by omega) (by omega) (by rw [alloc_size]; omega) ?_); intro g' cap2' w10 hls7 hg7 hwh7 hlt7)
      | fail)
     go_roundw
     case rel =>
      have hA := (Ext.refl w9).alloc (.cells #[.slice a9 (coV r zs).length k9] 40)
      refine ⟨vs.length + 1, some ⟨g', 0, none⟩, cap2', by omega, by simp, rfl, Lib.hid ⟨?_, HAL.out⟩, (hE29.trans hA).stepG hg7 HGE.out⟩
      rw [HCO.out]
      have hLA := ownsRow_extI HLS.out hA
      exact OV.app (w := w9.alloc (.cells #[.slice a9 (coV r zs).length k9] 40)) HV.out.1 (fun i u y h1 h2 => (HV.out.2 i u y h1 h2).ext hA) rfl hls7 (fun u y h => TO.grow h hLA hg7 (by decide) (by decide)) (TO.grow (HP.out.ext hA) hLA hg7 (by decide) (by decide))
     case measure => simp [intOf]; omega
    ·have hlt2 : (j : Int) < (L : Int) := by omega
     obtain ⟨x, hx⟩ : ∃ x, (mkV r)[j]? = some x := ⟨_, List.getElem?_eq_getElem (by rw [← HLL.out]; exact hjn)⟩
     have hx0 : 0 ≤ x.1 := (mkV_nf r).1.2 x (List.mem_of_getElem? hx)
     have hxn := HALL.out x (List.mem_of_getElem? hx)
     have hmx : (mpV (colF at_) (mkV r) j)[j]? = some x := by rw [mpV_at (by rw [← HLL.out]; omega)]; exact hx
     obtain ⟨ad7, cap7, hv7, -, hat7⟩ := HT.out.at
     obtain ⟨g6, hg7, b', a1', n1', c1', a2', n2', c2', hcell, -, -⟩ := hat7 j x hmx
     simp only [Value.slice.injEq] at hv7
     have hadg : ad6 = some ⟨g6, 0, none⟩ := by rw [hv7.1, hg7]
     subst hadg
     obtain ⟨hc0, -, -, -⟩ := hcell wr (Ext.refl _)
     obtain ⟨hg6o, -, cs6, hb6⟩ := HT.out.own g6 rfl
     have hf0 := hb6.free (j * 4)
     obtain ⟨xc, xq⟩ := x
     simp only at hc0 hx0 hxn
     obtain ⟨c, rfl⟩ : ∃ c : Nat, xc = (c : Int) := ⟨xc.toNat, by omega⟩
     have hcn : c < n := by omega
     obtain ⟨y, hy⟩ : ∃ y, at_[c]? = some y := ⟨_, List.getElem?_eq_getElem (by rw [hAN.out]; exact hcn)⟩
     have hiln : IL w1.heap.size w2 (.slice pad n pcap) at_ := HI.out
     obtain ⟨ga, rfl, hacell⟩ := hiln.at hy
     have ha0 := hacell wr hE2r
     have HST := Lib.hid (show TO wo.heap.size K (wr.setCell ⟨g6, j * 4, none⟩ (.int .i64 y)) (.slice (some ⟨g6, 0, none⟩) L cap6) (mpV (colF at_) (mkV r) (j + 1)) by
      have h1 := HT.out.setCol (d := y) hmx rfl
      rw [← mpV_set hx]
      have : colF at_ ((c : Int), xq) = (y, xq) := by
       unfold colF
       rw [List.getD_eq_getElem?_getD]
       show ((at_[c]?).getD 0, xq) = _
       rw [hy]
       rfl
      rw [this]
      exact h1)
     clear hx hmx hv7 hat7 hg7 hcell hb6 hy hiln hacell HT
     go_wp2
     go_roundw
     case rel => exact ⟨j + 1, by omega, congrArg (Value.int .i64) (by omega), HST, hEo.step (Chg.setCell _ g6 _ _) hg6o⟩
     case measure => simp [intOf]; omega
end Go.Proofs.YtdmjgjcljbogiaaGreat
/-
 The documents' matrices: orders, the rows and the columns in an order (Order, Rows, Columns).
-/
namespace Go.Proofs.YtdmjgjcljbogiaaGreat
set_option maxRecDepth 100000
set_option maxHeartbeats 1000000
open Go.RowKit
set_option linter.unusedVariables false
set_option linter.unusedSimpArgs false
def OrdJ (zs : List Int) (i : Nat) : Prop := (∀ (j : Nat) (x : Int), j < i → zs[j]? = some x → 0 ≤ x ∧ x < (zs.length : Int)) ∧ ∀ (a b : Nat) (x : Int), a < b → b < i → zs[a]? = some x → zs[b]? ≠ some x
theorem OrdJ.ord {zs : List Int} (h : OrdJ zs zs.length) : isOrd zs = true := by
 refine isOrd_true (fun x hx => ?_) ?_
 ·obtain ⟨j, hj, rfl⟩ := List.getElem_of_mem hx
  exact h.1 j _ hj (List.getElem?_eq_getElem hj)
 ·exact List.pairwise_iff_getElem.2 fun a b ha hb hab e => h.2 a b _ hab hb (List.getElem?_eq_getElem ha) (by rw [List.getElem?_eq_getElem hb, e])
theorem OrdJ.step {zs : List Int} {i : Nat} {x : Int} (h : OrdJ zs i) (hx : zs[i]? = some x) (h0 : 0 ≤ x) (h1 : x < (zs.length : Int)) (hn : ∀ a, a < i → zs[a]? ≠ some x) : OrdJ zs (i + 1) := by
 refine ⟨fun j y hj hy => ?_, fun a b y hab hb ha hbx => ?_⟩
 ·by_cases e : j = i
  ·subst e
   rw [hx] at hy
   cases hy
   exact ⟨h0, h1⟩
  ·exact h.1 j y (by omega) hy
 ·by_cases e : b = i
  ·subst e
   rw [hx] at hbx
   cases hbx
   exact hn a hab ha
  ·exact h.2 a b y hab (by omega) ha hbx
def NoX (zs : List Int) (i : Nat) (x : Int) : Prop := ∀ a, a < i → zs[a]? ≠ some x
set_option maxHeartbeats 8000000 in
theorem order6_calls (v : Value) (zs : List Int) (w : World) (hv : ordL w v zs) :
  Calls Tryz.prog 67 #[v] w fun e w' => e = .returned (.bool (isOrd zs)) ∧ Ext w w' := by
 obtain ⟨ad, n, cap, hnl, rfl, hn1, hat⟩ := hv.at
 have HN := Lib.hid hnl
 have HAT := Lib.hid hat
 clear hnl hat hv
 go_enter Tryz.func67, Tryz.ntmps67
 go_wp2_with fail
 go_loopw [3] (fun s3 wr => ∃ (i : Nat), i ≤ n ∧ s3 = .int .i64 (i : Int) ∧ Hid (OrdJ zs i) ∧ Ext w wr) (fun s3 _ => ((n : Int) - intOf s3).toNat)
 case atStart => exact ⟨0, Nat.zero_le _, rfl, Lib.hid ⟨fun j x h => by omega, fun a b x _ h => by omega⟩, Ext.refl _⟩
 case round =>
  obtain ⟨i, hi, rfl, HS, hE0⟩ := hrel
  rcases Nat.eq_or_lt_of_le hi with hin | hin
  ·subst hin
   have hlt : ¬ ((i : Int) < (i : Int)) := by omega
   have hR : Hid (isOrd zs = true) := Lib.hid (by have := HS.out; rw [HN.out] at this; exact this.ord)
   go_wp2
   go_ret
   exact ⟨by rw [hR.out] <;> rfl, hE0⟩
  ·have hlt : (i : Int) < (n : Int) := by omega
   obtain ⟨x, hx⟩ : ∃ x, zs[i]? = some x := ⟨_, List.getElem?_eq_getElem (by rw [← HN.out]; exact hin)⟩
   obtain ⟨g, off, rfl, hcell⟩ := HAT.out i x hx
   have hc0 := hcell wr hE0
   have HX := Lib.hid (And.intro hx (And.intro (List.mem_of_getElem? hx) hcell))
   clear hx hcell
   by_cases hx0 : x < 0
   ·have hR : Hid (isOrd zs = false) := Lib.hid (isOrd_out HX.out.2.1 (.inl hx0))
    go_wp2
    go_ret
    exact ⟨by rw [hR.out] <;> rfl, hE0⟩
   by_cases hxn : (n : Int) ≤ x
   ·have hR : Hid (isOrd zs = false) := Lib.hid (isOrd_out HX.out.2.1 (.inr (by rw [← HN.out]; exact hxn)))
    go_wp2
    go_ret
    exact ⟨by rw [hR.out] <;> rfl, hE0⟩
   have HXR := Lib.hid (show 0 ≤ x ∧ x < (zs.length : Int) by rw [← HN.out]; omega)
   go_wp2_with fail
   clear hc0 hx0 hxn
   go_loopw [4] (fun s4 wr => ∃ (k : Nat), k ≤ i ∧ s4 = .int .i64 (k : Int) ∧ Hid (NoX zs k x) ∧ Ext w wr) (fun s4 _ => ((i : Int) - intOf s4).toNat)
   case atStart => exact ⟨0, Nat.zero_le _, rfl, Lib.hid (fun a h => by omega), hE0⟩
   case round =>
    obtain ⟨k, hk, rfl, HK, hE1⟩ := hrel
    rcases Nat.eq_or_lt_of_le hk with hki | hki
    ·subst hki
     have hlt2 : ¬ ((k : Int) < (k : Int)) := by omega
     have hN1 := Lib.hid (HS.out.step HX.out.1 HXR.out.1 HXR.out.2 HK.out)
     clear HS HK
     go_wp2
     go_roundw
     case rel => exact ⟨k + 1, by omega, congrArg (Value.int .i64) (by omega), hN1, hE1⟩
     case measure => simp [intOf]; omega
    ·have hlt2 : (k : Int) < (i : Int) := by omega
     have hkn : (k : Int) < (n : Int) := by omega
     obtain ⟨y, hy⟩ : ∃ x, zs[k]? = some x := ⟨_, List.getElem?_eq_getElem (by rw [← HN.out]; omega)⟩
     obtain ⟨g', off', hgg, hcell'⟩ := HAT.out k y hy
     cases hgg
     have HY := Lib.hid (And.intro hy hcell')
     obtain ⟨s, hs⟩ : ∃ s, s = decide (y = x) := ⟨_, rfl⟩
     have HSS := Lib.hid hs
     have hd0 := hcell' wr hE1
     have hd1 := HX.out.2.2 wr hE1
     clear hy hcell' hs
     go_wp2_with fail
     clear hd0 hd1
     refine wp_region_puts [] [PP.val (.slice (some ⟨g, off, none⟩) n cap), PP.val (.int .i64 (k : Int)), PP.val (.pointer (some ⟨g, off + k, none⟩)), PP.val (.int .i64 y), PP.val (.slice (some ⟨g, off, none⟩) n cap), PP.val (.int .i64 (i : Int)), PP.val (.pointer (some ⟨g, off + i, none⟩)), PP.val (.int .i64 x), PP.val (.bool s)] [] [0, 1, 2, 3, 4, 5, 6, 7, 8]
      (by kernel_rfl) (by kernel_rfl) (fun f => (by simp only [fillR, fillL, List.setIfInBounds_toArray, List.set_cons_succ, List.set_cons_zero, Nat.reduceAdd]; rfl)) ?_ ?_ ?_ ?_ ?_
     ·intro x hx; cases hx
     ·intro x hx; cases hx
     ·intro x hx; cases hx
     ·refine ⟨?o0, ?o1, ?o2, ?o3, ?o4, ?o5, ?o6, ?o7, ?o8, trivial⟩
      case o0 =>
       intro f w6 hG hp hl
       have hE : Ext wr w6 := hG
       have hS := hE.size
       simp only [OpGoal]
       go_simp
       exact ⟨_, rfl, Ext.refl _, rfl⟩
      case o1 =>
       intro f w6 hG hp hl
       have hE : Ext wr w6 := hG
       have hS := hE.size
       simp only [OpGoal]
       go_simp
       exact ⟨_, rfl, Ext.refl _, rfl⟩
      case o2 =>
       intro f w6 hG hp hl
       have hE : Ext wr w6 := hG
       have hS := hE.size
       have q30 : f 0 = .slice (some ⟨g, off, none⟩) n cap := tellV hp 0 0 rfl rfl (fun h => by cases h)
       have q31 : f 1 = .int .i64 (k : Int) := tellV hp 1 1 rfl rfl (fun h => by cases h)
       simp only [OpGoal]
       go_simp
       exact ⟨_, rfl, Ext.refl _, rfl⟩
      case o3 =>
       intro f w6 hG hp hl
       have hE : Ext wr w6 := hG
       have hS := hE.size
       have q32 : f 2 = .pointer (some ⟨g, off + k, none⟩) := tellV hp 0 2 rfl rfl (fun h => by cases h)
       have hcell := HY.out.2 _ (hE1.trans hE)
       simp only [OpGoal]
       go_simp
       exact ⟨_, rfl, Ext.refl _, rfl⟩
      case o4 =>
       intro f w6 hG hp hl
       have hE : Ext wr w6 := hG
       have hS := hE.size
       simp only [OpGoal]
       go_simp
       exact ⟨_, rfl, Ext.refl _, rfl⟩
      case o5 =>
       intro f w6 hG hp hl
       have hE : Ext wr w6 := hG
       have hS := hE.size
       simp only [OpGoal]
       go_simp
       exact ⟨_, rfl, Ext.refl _, rfl⟩
      case o6 =>
       intro f w6 hG hp hl
       have hE : Ext wr w6 := hG
       have hS := hE.size
       have q34 : f 4 = .slice (some ⟨g, off, none⟩) n cap := tellV hp 0 4 rfl rfl (fun h => by cases h)
       have q35 : f 5 = .int .i64 (i : Int) := tellV hp 1 5 rfl rfl (fun h => by cases h)
       simp only [OpGoal]
       go_simp
       exact ⟨_, rfl, Ext.refl _, rfl⟩
      case o7 =>
       intro f w6 hG hp hl
       have hE : Ext wr w6 := hG
       have hS := hE.size
       have q36 : f 6 = .pointer (some ⟨g, off + i, none⟩) := tellV hp 0 6 rfl rfl (fun h => by cases h)
       have hcell := HX.out.2.2 _ (hE1.trans hE)
       simp only [OpGoal]
       go_simp
       exact ⟨_, rfl, Ext.refl _, rfl⟩
      case o8 =>
       intro f w6 hG hp hl
       have hE : Ext wr w6 := hG
       have hS := hE.size
       have q33 : f 3 = .int .i64 y := tellV hp 0 3 rfl rfl (fun h => by cases h)
       have q37 : f 7 = .int .i64 x := tellV hp 1 7 rfl rfl (fun h => by cases h)
       simp only [OpGoal]
       go_simp
       exact ⟨_, rfl, Ext.refl _, congrArg Value.bool (by first | exact HSS.out.symm | simp [HSS.out])⟩
     ·intro f w6 hG hp
      have hE : Ext wr w6 := ChgS.nil hG
      have q38 : f 8 = .bool s := endV hp 8 (by decide) rfl (fun h => by cases h)
      try simp only [q38]
      clear hp
      cases s with
      | true =>
       have hR : Hid (isOrd zs = false) := Lib.hid (isOrd_dup hki HX.out.1 (by rw [← of_decide_eq_true HSS.out.symm]; exact HY.out.1))
       go_wp2
       go_ret
       exact ⟨by rw [hR.out] <;> rfl, hE1.trans hE⟩
      | false =>
       have hN1 : Hid (NoX zs (k + 1) x) := Lib.hid fun a ha e => by
        by_cases hak : a = k
        ·subst hak
         rw [HY.out.1] at e
         cases e
         exact of_decide_eq_false HSS.out.symm rfl
        ·exact HK.out a (by omega) e
       clear HK
       go_wp2
       go_roundw
       case rel => exact ⟨k + 1, by omega, congrArg (Value.int .i64) (by omega), hN1, hE1.trans hE⟩
       case measure => simp [intOf]; omega
set_option maxHeartbeats 8000000 in
theorem rows6_calls (k N : Nat) (v u : Value) (rows : List (List (Int × Rat))) (zs : List Int) (w : World) (hv : ML k w v rows) (hu : ordL w u zs) (hN : ∀ r ∈ rows, r.length ≤ N) (hN1 : N ≤ 1000) (hn : zs.length ≤ 1000) (hk : k ≤ 1000000) :
  Calls Tryz.prog 35 #[v, u] w fun e w' => ∃ v', e = .returned (.tuple #[v', .int .i64 (scE (roOk rows zs))]) ∧ (roOk rows zs = true → MO w.heap.size (N * (k + 1) + 1) w' v' (rowsM rows zs)) ∧ (roOk rows zs = false → MLE w' v' []) ∧ Ext w w' := by
 obtain ⟨ad, m, cap, hml, rfl, hm1, hat⟩ := hv.at
 have HU := Lib.hid hu
 obtain ⟨ado, n, capo, hnl, rfl, hn1, hato⟩ := hu.at
 rw [← hnl] at hn
 obtain ⟨K, hK⟩ : ∃ K, K = N * (k + 1) + 1 := ⟨_, rfl⟩
 rw [← hK]
 have HK := Lib.hid hK
 have HM := Lib.hid hml
 have HN := Lib.hid hnl
 have HAT := Lib.hid hat
 have HATO := Lib.hid hato
 have HL := Lib.hid hN
 have em := emptyM
 clear hml hat hv hu hN hnl hato hK
 go_enter Tryz.func35, Tryz.ntmps35
 obtain ⟨w1, hw1⟩ : ∃ w1, w1 = w.alloc (.cells #[] 40) := ⟨_, rfl⟩
 have e1 : Ext w w1 := hw1 ▸ (Ext.refl _).alloc _
 have M1 : Hid (MO w.heap.size K w1 (.slice (some ⟨w.heap.size, 0, none⟩) 0 0) (rowsM rows (zs.take 0))) := Lib.hid (hw1 ▸ OV.empty _ _ _ _ (Nat.le_refl _))
 go_wp2_with fail
 rw [← hw1]
 refine (order6_calls _ zs w1 (HU.out.ext e1)).mono ?_
 rintro e w2 ⟨rfl, e2⟩
 obtain ⟨b, hb⟩ : ∃ b, b = isOrd zs := ⟨_, rfl⟩
 rw [← hb]
 have HB := Lib.hid hb
 have E2 := e1.trans e2
 have M2 := Lib.hid (M1.out.ext e2)
 clear hb HU hw1 M1 e1 e2
 cases b with
 | false =>
  have hR : Hid (roOk rows zs = false) := Lib.hid (by unfold roOk; rw [← HB.out]; rfl)
  go_wp2
  go_ret2
  exact ⟨_, by rw [hR.out] <;> rfl, (fun h => by rw [hR.out] at h; cases h), (fun _ => MLE.none _ _ _ (by omega)), E2⟩
 | true =>
 by_cases hmn : n = m
 ·subst hmn
  have hz : ¬ ((n : Int) ≠ (n : Int)) := by simp
  have hR : Hid (roOk rows zs = true) := Lib.hid (by unfold roOk; rw [← HB.out, decide_eq_true (by rw [← HN.out, HM.out])]; rfl)
  have HOR := Lib.hid (isOrd_of HB.out.symm).1
  go_wp2_with fail
  go_loopw [6, 7] (fun s6 s7 wr => ∃ (i : Nat) (ad4 : Option Addr) (cap4 : Nat), i ≤ n ∧ s7 = .int .i64 (i : Int) ∧ s6 = .slice ad4 i cap4 ∧ Hid (MO w.heap.size K wr (.slice ad4 i cap4) (rowsM rows (zs.take i))) ∧ Ext w wr) (fun _ s7 _ => ((n : Int) - intOf s7).toNat)
  case atStart => exact ⟨0, _, _, Nat.zero_le _, rfl, rfl, M2, E2⟩
  case round =>
   obtain ⟨i, ad4, cap4, hi, rfl, rfl, hS, hE0⟩ := hrel
   clear M2
   rcases Nat.eq_or_lt_of_le hi with hin | hin
   ·subst hin
    have hlt : ¬ ((i : Int) < (i : Int)) := by omega
    have hT := hS.out
    rw [show zs.take i = zs by rw [HN.out, List.take_length]] at hT
    have HT := Lib.hid hT
    clear hT
    go_wp2
    go_ret2
    exact ⟨_, by rw [hR.out] <;> rfl, (fun _ => HT.out), (fun h => by rw [hR.out] at h; cases h), hE0⟩
   ·have hlt : (i : Int) < (n : Int) := by omega
    obtain ⟨x, hx⟩ : ∃ x, zs[i]? = some x := ⟨_, List.getElem?_eq_getElem (by rw [← HN.out]; exact hin)⟩
    obtain ⟨gz, offz, rfl, hzc⟩ := HATO.out i x hx
    have hc0 := hzc wr hE0
    have hxr := HOR.out x (List.mem_of_getElem? hx)
    rw [← HN.out] at hxr
    obtain ⟨c, rfl⟩ : ∃ c : Nat, x = (c : Int) := ⟨x.toNat, by omega⟩
    have hcn : c < n := by omega
    have hcn' : (c : Int) < (n : Int) := by omega
    obtain ⟨r, hr⟩ : ∃ x, rows[c]? = some x := ⟨_, List.getElem?_eq_getElem (by rw [← HM.out]; exact hcn)⟩
    obtain ⟨g, off, rfl, a1, n1, c1, hcell, hTL⟩ := HAT.out c _ hr
    have hc1 := hcell wr hE0
    have hrN := HL.out r (List.mem_of_getElem? hr)
    have hm3 : r.length * (k + 1) ≤ N * (k + 1) := Nat.mul_le_mul_right _ hrN
    have HMM := Lib.hid (show r.length * (k + 1) + 1 ≤ K by rw [HK.out]; omega)
    have HTK := Lib.hid (show rowsM rows (zs.take (i + 1)) = rowsM rows (zs.take i) ++ [mkV r] by
     rw [take_next hx]
     unfold rowsM
     rw [List.map_append]
     simp [List.getD, hr])
    have HTL := Lib.hid hTL
    obtain ⟨vs, hls, hvl, hvs⟩ := hS.out
    have hvi : vs.length = i := by rw [hvl]; unfold rowsM; rw [List.length_map, List.length_take, ← HN.out]; omega
    subst hvi
    have HLS := Lib.hid hls
    have HGE := Lib.hid (ownsRow_ge hls)
    have HV := Lib.hid (And.intro hvl hvs)
    have hwr := hE0.size
    clear hx hzc hxr hr hcell hTL hm3 hls hvl hvs hS
    go_wp2_with fail
    refine (make5_calls k _ r wr (HTL.out.ext hE0) hk (by omega)).mono ?_
    rintro e w6 ⟨v6, rfl, r6, e6⟩
    obtain ⟨a6, k6, hv6⟩ := r6.val
    subst hv6
    have HR6 := Lib.hid ((r6.le HMM.out).mono hwr)
    have hs6 := e6.size
    clear r6 hc0 hc1
    go_wp2_with (first
     | (at_builtin; go_loud (refine wpList_append_V rfl _ _ 22 rfl 40 24 w.heap.size Tryz.underlying22 (by kernel_rfl) (by kernel_rfl) _ vs.length vs rfl (ownsRow_extI HLS.out (e6.trans ((Ext.refl _).alloc _))) ⟨w6.heap.size, 0, none⟩ (.slice a6 (mkV r).length k6) rfl (cell_one_new _ _ _) rfl (by omega) (by omega) (by rw [alloc_size]; omega) ?_); intro g' cap2' w7 hls7 hg7 hwh7 hlt7)
     | fail)
    go_roundw
    case rel =>
     have hA := (Ext.refl w6).alloc (.cells #[.slice a6 (mkV r).length k6] 40)
     refine ⟨vs.length + 1, some ⟨g', 0, none⟩, cap2', by omega, by simp, rfl, Lib.hid ?_, ((hE0.trans e6).trans hA).stepG hg7 HGE.out⟩
     rw [HTK.out]
     have hLA := ownsRow_extI HLS.out (e6.trans hA)
     exact OV.app (w := w6.alloc (.cells #[.slice a6 (mkV r).length k6] 40)) HV.out.1 (fun i u y h1 h2 => (HV.out.2 i u y h1 h2).ext (e6.trans hA)) rfl hls7 (fun u y h => TO.grow h hLA hg7 (by decide) (by decide)) (TO.grow (HR6.out.ext hA) hLA hg7 (by decide) (by decide))
    case measure => simp [intOf]; omega
 ·have hz : (n : Int) ≠ (m : Int) := by omega
  have hR : Hid (roOk rows zs = false) := Lib.hid (by unfold roOk; rw [decide_eq_false (by rw [← HN.out, ← HM.out]; exact hmn), Bool.and_false])
  go_wp2
  go_ret2
  exact ⟨_, by rw [hR.out] <;> rfl, (fun h => by rw [hR.out] at h; cases h), (fun _ => MLE.none _ _ _ (by omega)), E2⟩
end Go.Proofs.YtdmjgjcljbogiaaGreat
/-
 The documents' matrices: the columns in an order (Columns).
-/
namespace Go.Proofs.YtdmjgjcljbogiaaGreat
set_option maxRecDepth 100000
set_option maxHeartbeats 1000000
open Go.RowKit
set_option linter.unusedVariables false
set_option linter.unusedSimpArgs false
theorem co_ok {rows : List (List (Int × Rat))} {zs : List Int} {m : Int} (h : MostL (allV rows) m) (ho : isOrd zs = true) : coOk rows zs = decide (m < (zs.length : Int)) := by
 unfold coOk
 rw [ho, Bool.true_and]
 by_cases hm : m < (zs.length : Int)
 ·rw [decide_eq_true hm, List.all_eq_true]
  intro x hx
  have := h.1 x hx
  exact decide_eq_true (by omega)
 ·rw [decide_eq_false hm, List.all_eq_false]
  rcases h.2 with h1 | ⟨x, hx, e⟩
  ·omega
  ·exact ⟨x, hx, by simp; omega⟩
set_option maxHeartbeats 8000000 in
theorem columns6_calls (k N : Nat) (v u : Value) (rows : List (List (Int × Rat))) (zs : List Int) (w : World) (hv : ML k w v rows) (hu : ordL w u zs) (hN : ∀ r ∈ rows, r.length ≤ N) (hN1 : N ≤ 1000) (hnr : rows.length ≤ 1000000) (hn : zs.length ≤ 1000) (hk : k ≤ 1000) (hKK : N * (k + 1) + 1 ≤ 1000000) :
  Calls Tryz.prog 36 #[v, u] w fun e w' => ∃ v', e = .returned (.tuple #[v', .int .i64 (scE (coOk rows zs))]) ∧ (coOk rows zs = true → MO w.heap.size (1000 * (N * (k + 1) + 1 + 1) + 1) w' v' (colsM rows zs)) ∧ (coOk rows zs = false → MLE w' v' []) ∧ Ext w w' := by
 have HV := Lib.hid hv
 obtain ⟨ad, m, cap, hml, rfl, hm1, hat⟩ := hv.at
 have HU := Lib.hid hu
 obtain ⟨ado, n, capo, hnl, rfl, hn1, hato⟩ := hu.at
 rw [← hnl] at hn
 rw [← hml] at hnr
 obtain ⟨K, hK⟩ : ∃ K, K = N * (k + 1) + 1 := ⟨_, rfl⟩
 rw [← hK] at hKK ⊢
 obtain ⟨C, hC⟩ : ∃ C, C = 1000 * (K + 1) + 1 := ⟨_, rfl⟩
 rw [← hC]
 have HK := Lib.hid (And.intro hK hC)
 have HM := Lib.hid hml
 have HN := Lib.hid hnl
 have HAT := Lib.hid hat
 have HATO := Lib.hid hato
 have HL := Lib.hid hN
 have em := emptyM
 have eb := emptyT
 clear hml hat hv hu hN hnl hato hK hC
 go_enter Tryz.func36, Tryz.ntmps36
 obtain ⟨w1, hw1⟩ : ∃ w1, w1 = w.alloc (.cells #[] 40) := ⟨_, rfl⟩
 have e1 : Ext w w1 := hw1 ▸ (Ext.refl _).alloc _
 have M1 : Hid (MO w.heap.size C w1 (.slice (some ⟨w.heap.size, 0, none⟩) 0 0) (colsM (rows.take 0) zs)) := Lib.hid (hw1 ▸ OV.empty _ _ _ _ (Nat.le_refl _))
 go_wp2_with fail
 rw [← hw1]
 refine (order6_calls _ zs w1 (HU.out.ext e1)).mono ?_
 rintro e w2 ⟨rfl, e2⟩
 obtain ⟨b, hb⟩ : ∃ b, b = isOrd zs := ⟨_, rfl⟩
 rw [← hb]
 have HB := Lib.hid hb
 have E2 := e1.trans e2
 have M2 := Lib.hid (M1.out.ext e2)
 clear hb HU hw1 M1 e1 e2
 cases b with
 | false =>
  have hR : Hid (coOk rows zs = false) := Lib.hid (by unfold coOk; rw [← HB.out]; rfl)
  go_wp2
  go_ret2
  exact ⟨_, by rw [hR.out] <;> rfl, (fun h => by rw [hR.out] at h; cases h), (fun _ => MLE.none _ _ _ (by omega)), E2⟩
 | true =>
 go_wp2_with fail
 refine (most_calls k _ rows w2 (HV.out.ext E2) (fun r hr => Nat.le_trans (HL.out r hr) hN1) (by omega)).mono ?_
 rintro e w3 ⟨mm, rfl, hm, e3⟩
 have hok := co_ok hm HB.out.symm
 rw [← HN.out] at hok
 have HOK := Lib.hid hok
 have E3 := E2.trans e3
 have M3 := Lib.hid (M2.out.ext e3)
 clear hok hm M2 HV E2 e3
 by_cases h3 : (n : Int) ≤ mm
 ·have hS : Hid (coOk rows zs = false) := Lib.hid (by rw [HOK.out]; exact decide_eq_false (by omega))
  go_wp2
  go_ret2
  exact ⟨_, by rw [hS.out] <;> rfl, (fun h => by rw [hS.out] at h; cases h), (fun _ => MLE.none _ _ _ (by omega)), E3⟩
 have hR : Hid (coOk rows zs = true) := Lib.hid (by rw [HOK.out]; exact decide_eq_true (by omega))
 clear HOK
 go_wp2_with fail
 go_loopw [6, 7] (fun s6 s7 wr => ∃ (i : Nat) (ad4 : Option Addr) (cap4 : Nat), i ≤ m ∧ s7 = .int .i64 (i : Int) ∧ s6 = .slice ad4 i cap4 ∧ Hid (MO w.heap.size C wr (.slice ad4 i cap4) (colsM (rows.take i) zs)) ∧ Ext w wr) (fun _ s7 _ => ((m : Int) - intOf s7).toNat)
 case atStart => exact ⟨0, _, _, Nat.zero_le _, rfl, rfl, M3, E3⟩
 case round =>
  obtain ⟨i, ad4, cap4, hi, rfl, rfl, HS, hE0⟩ := hrel
  clear M3 E3
  have hwr := hE0.size
  rcases Nat.eq_or_lt_of_le hi with hin | hin
  ·subst hin
   have hlt : ¬ ((i : Int) < (i : Int)) := by omega
   have hT := HS.out
   rw [show rows.take i = rows by rw [HM.out, List.take_length]] at hT
   have HT := Lib.hid hT
   clear hT
   go_wp2
   go_ret2
   exact ⟨_, by rw [hR.out] <;> rfl, (fun _ => HT.out), (fun h => by rw [hR.out] at h; cases h), hE0⟩
  ·have hlt : (i : Int) < (m : Int) := by omega
   obtain ⟨r, hr⟩ : ∃ x, rows[i]? = some x := ⟨_, List.getElem?_eq_getElem (by rw [← HM.out]; exact hin)⟩
   obtain ⟨g, off, rfl, a1, n1, c1, hcell, hTL⟩ := HAT.out i _ hr
   have hrN := HL.out r (List.mem_of_getElem? hr)
   have hgs : ∀ c, szQ (getV r c) ≤ K := fun c => by
    have h1 := sz_get hTL.szs c
    have h2 : r.length * (k + 1) ≤ N * (k + 1) := Nat.mul_le_mul_right _ hrN
    have := HK.out.1
    omega
   have HR := Lib.hid (And.intro hTL (And.intro (take_next hr) hcell))
   have HGS := Lib.hid hgs
   have HTE := Lib.hid (show TO wr.heap.size K (wr.alloc (.cells #[] 66)) (.slice (some ⟨wr.heap.size, 0, none⟩) 0 0) (rngV (fun c => getV r (zs.getD c 0)) 0) ∧ Ext wr (wr.alloc (.cells #[] 66)) from ⟨TO.empty _ _ _ (Nat.le_refl _), (Ext.refl wr).alloc _⟩)
   clear hr hcell hTL hgs
   go_wp2_with fail
   obtain ⟨wo, hwo⟩ : ∃ wo : World, wo = wr := ⟨_, rfl⟩
   rw [← hwo] at hE0 hwr HTE HS ⊢
   clear hwo
   go_loopw [8, 9] (fun s8 s9 wr => ∃ (j gA capv : Nat), j ≤ n ∧ s9 = .int .i64 (j : Int) ∧ s8 = .slice (some ⟨gA, 0, none⟩) j capv ∧ Hid (TO wo.heap.size K wr (.slice (some ⟨gA, 0, none⟩) j capv) (rngV (fun c => getV r (zs.getD c 0)) j)) ∧ Ext wo wr) (fun _ s9 _ => ((n : Int) - intOf s9).toNat)
   case atStart => exact ⟨0, _, _, Nat.zero_le _, rfl, rfl, Lib.hid HTE.out.1, HTE.out.2⟩
   case round =>
    obtain ⟨j, gA, capv, hj, rfl, rfl, HC, hEo⟩ := hrel
    clear HTE
    have hwo := hEo.size
    have hEw := hE0.trans hEo
    rcases Nat.eq_or_lt_of_le hj with hjn | hjn
    ·subst hjn
     have hlt2 : ¬ ((j : Int) < (j : Int)) := by omega
     have hrl : (rngV (fun c => getV r (zs.getD c 0)) j).length = j := by unfold rngV; simp
     have HRL := Lib.hid hrl
     have hmul : j * (K + 1) ≤ 1000 * (K + 1) := Nat.mul_le_mul_right _ (by omega)
     have HMU := Lib.hid (show j * (K + 1) + 1 ≤ C by have := HK.out.2; omega)
     clear hrl hmul
     go_wp2_with fail
     refine (make5_calls K _ (rngV (fun c => getV r (zs.getD c 0)) j) wr (HC.out.tl (by rw [LIM_eq]; omega)) hKK (by rw [HRL.out]; omega)).mono ?_
     rintro e w6 ⟨v6, rfl, r6, e6⟩
     rw [HRL.out] at r6
     have HP : Hid (TO w.heap.size C w6 v6 (coV r zs)) := Lib.hid (by
      have := (r6.le HMU.out).mono (show w.heap.size ≤ wr.heap.size by omega)
      rw [HN.out] at this
      exact this)
     obtain ⟨a6, k6, hv6⟩ := HP.out.val
     subst hv6
     have hE6 := hEw.trans e6
     obtain ⟨vs, hls, hvl, hvs⟩ := HS.out.ext (hEo.trans e6)
     have hvi : vs.length = i := by rw [hvl]; unfold colsM; rw [List.length_map, List.length_take, ← HM.out]; omega
     subst hvi
     have HCO : Hid (colsM (rows.take (vs.length + 1)) zs = colsM (rows.take vs.length) zs ++ [coV r zs]) := Lib.hid (by rw [HR.out.2.1]; unfold colsM; rw [List.map_append]; rfl)
     have HLS := Lib.hid hls
     have HVS := Lib.hid (And.intro hvl hvs)
     have HGE := Lib.hid (ownsRow_ge hls)
     have hs6 := hE6.size
     clear hls hvl hvs HS HC r6
     go_wp2_with (first
      | (at_builtin; go_loud (refine wpList_append_V rfl _ _ 22 rfl 40 24 w.heap.size Tryz.underlying22 (by kernel_rfl) (by kernel_rfl) _ vs.length vs rfl (ownsRow_extI HLS.out ((Ext.refl _).alloc _)) ⟨w6.heap.size, 0, none⟩ (.slice a6 (coV r zs).length k6) rfl (cell_one_new _ _ _) rfl (by omega) (by omega) (by rw [alloc_size]; omega) ?_); intro g' cap2' w7 hls7 hg7 hwh7 hlt7)
      | fail)
     go_roundw
     case rel =>
      have hA := (Ext.refl w6).alloc (.cells #[.slice a6 (coV r zs).length k6] 40)
      refine ⟨vs.length + 1, some ⟨g', 0, none⟩, cap2', by omega, by simp, rfl, Lib.hid ?_, (hE6.trans hA).stepG hg7 HGE.out⟩
      have hLA := ownsRow_extI HLS.out hA
      rw [HCO.out]
      exact OV.app (w := w6.alloc (.cells #[.slice a6 (coV r zs).length k6] 40)) HVS.out.1 (fun i u y h1 h2 => (HVS.out.2 i u y h1 h2).ext hA) rfl hls7 (fun u y h => TO.grow h hLA hg7 (by decide) (by decide)) (TO.grow (HP.out.ext hA) hLA hg7 (by decide) (by decide))
     case measure => simp [intOf]; omega
    ·have hlt2 : (j : Int) < (n : Int) := by omega
     obtain ⟨z, hz⟩ : ∃ x, zs[j]? = some x := ⟨_, List.getElem?_eq_getElem (by rw [← HN.out]; exact hjn)⟩
     obtain ⟨gz, offz, rfl, hzc⟩ := HATO.out j z hz
     have hzD : zs.getD j 0 = z := by rw [List.getD_eq_getElem?_getD, hz]; rfl
     obtain ⟨q, hq⟩ : ∃ q, q = getV r z := ⟨_, rfl⟩
     have HQ := Lib.hid hq
     have hzq : szQ q ≤ K := by rw [hq]; exact HGS.out z
     have hZ4 : szD q ≤ 68719476736 := by have := szD_of hzq; omega
     have HZC := Lib.hid hzc
     have HRN : Hid (rngV (fun c => getV r (zs.getD c 0)) (j + 1) = rngV (fun c => getV r (zs.getD c 0)) j ++ [((j : Int), q)]) := Lib.hid (by rw [rng_succ, hzD, hq])
     obtain ⟨pso, hpso, hlso, hfro⟩ := HC.out.ps
     have hol : ((tsP pso).map tmv).length = j := by
      have := congrArg List.length hpso
      unfold lP rngV at this
      unfold tsP
      simp at this ⊢
      omega
     obtain ⟨hgA, hgr, hgw⟩ := gT_own hlso (Ext.refl wr)
     have hgAl : gA < wr.heap.size := by obtain ⟨cs, h1⟩ := hgA; exact blk_lt h1
     have HPSO := Lib.hid hpso
     have HO := Lib.hid hlso
     have HFO := Lib.hid hfro
     have HOL := Lib.hid hol
     have HGA := Lib.hid hgA
     have HGR := Lib.hid hgr
     have hE0r := hE0.trans hEo
     obtain ⟨j1, hj1⟩ : ∃ j1, j1 = j + 1 := ⟨_, rfl⟩
     have hj1' : (j : Int) + 1 = (j1 : Int) := by omega
     have hj1n : j1 ≤ n := by omega
     have HJ1 := Lib.hid hj1
     have hc0 := HR.out.2.2 wr hEw
     have hz0 := hzc wr hEw
     clear hz hzc hzD hq hpso hlso hfro hol hgA hgr hj1
     go_wp2_with fail
     clear hc0 hz0
     refine wp_region_one gA 14 15 (fun v b => ApT wo.heap.size wr.heap.size j ((j : Int)) (q) (tsP pso) (.slice (some ⟨gA, 0, none⟩) j capv) v b) [PP.val (.slice (some ⟨gA, 0, none⟩) j capv), PP.val (.int .i64 (j : Int)), PP.val (.slice (some ⟨g, off, none⟩) m cap), PP.val (.int .i64 (i : Int)), PP.val (.pointer (some ⟨g, off + i, none⟩)), PP.val (.slice a1 n1 c1), PP.val (.slice (some ⟨gz, offz, none⟩) n capo), PP.val (.int .i64 (j : Int)), PP.val (.pointer (some ⟨gz, offz + j, none⟩)), PP.val (.int .i64 z), PP.frQd q, PP.frQ q, PP.frTm ((j : Int)) (q), PP.oneT ((j : Int)) (q), PP.any, PP.any] [(0, 15, 8)] [14, 13, 12, 11, 10, 9, 8, 7, 6, 5, 4, 3, 2, 1, 0] (by kernel_rfl) (by kernel_rfl) (fun f => (by simp only [fillR, fillL, List.setIfInBounds_toArray, List.set_cons_succ, List.set_cons_zero, Nat.reduceAdd]; rfl)) (by decide) (hgAl) (fun u w1 w2 h hp => hp.ext h) (by intro p hp; simp only [List.mem_cons, List.not_mem_nil, or_false] at hp; rcases hp with rfl | rfl | rfl | rfl | rfl | rfl | rfl | rfl | rfl | rfl | rfl | rfl | rfl | rfl | rfl | rfl <;> rfl) (fun _ _ => trivial) ?_ ?_ (by decide)
     ·refine ⟨?o0, ?o1, ?o2, ?o3, ?o4, ?o5, ?o6, ?o7, ?o8, ?o9, ?o10, ?o11, ?o12, ?o13, ?o14, ?o15, trivial⟩
      case o0 =>
       intro f w7 hG hp hl
       have hE : Ext wr w7 := hG
       have hS := hE.size
       have l8 : f 15 = .slice (some ⟨gA, 0, none⟩) j capv := hl.1 rfl
       simp only [OpGoal]
       go_simp
       exact ⟨_, rfl, Ext.refl _, rfl⟩
      case o1 =>
       intro f w7 hG hp hl
       have hE : Ext wr w7 := hG
       have hS := hE.size
       simp only [OpGoal]
       go_simp
       exact ⟨_, rfl, Ext.refl _, rfl⟩
      case o2 =>
       intro f w7 hG hp hl
       have hE : Ext wr w7 := hG
       have hS := hE.size
       simp only [OpGoal]
       go_simp
       exact ⟨_, rfl, Ext.refl _, rfl⟩
      case o3 =>
       intro f w7 hG hp hl
       have hE : Ext wr w7 := hG
       have hS := hE.size
       simp only [OpGoal]
       go_simp
       exact ⟨_, rfl, Ext.refl _, rfl⟩
      case o4 =>
       intro f w7 hG hp hl
       have hE : Ext wr w7 := hG
       have hS := hE.size
       have q37 : f 2 = .slice (some ⟨g, off, none⟩) m cap := tellO hp 0 2 rfl rfl
       have q38 : f 3 = .int .i64 (i : Int) := tellO hp 1 3 rfl rfl
       simp only [OpGoal]
       go_simp
       exact ⟨_, rfl, Ext.refl _, rfl⟩
      case o5 =>
       intro f w7 hG hp hl
       have hE : Ext wr w7 := hG
       have hS := hE.size
       have q39 : f 4 = .pointer (some ⟨g, off + i, none⟩) := tellO hp 0 4 rfl rfl
       have hcell := HR.out.2.2 _ (hEw.trans hE)
       simp only [OpGoal]
       go_simp
       exact ⟨_, rfl, Ext.refl _, rfl⟩
      case o6 =>
       intro f w7 hG hp hl
       have hE : Ext wr w7 := hG
       have hS := hE.size
       simp only [OpGoal]
       go_simp
       exact ⟨_, rfl, Ext.refl _, rfl⟩
      case o7 =>
       intro f w7 hG hp hl
       have hE : Ext wr w7 := hG
       have hS := hE.size
       simp only [OpGoal]
       go_simp
       exact ⟨_, rfl, Ext.refl _, rfl⟩
      case o8 =>
       intro f w7 hG hp hl
       have hE : Ext wr w7 := hG
       have hS := hE.size
       have q41 : f 6 = .slice (some ⟨gz, offz, none⟩) n capo := tellO hp 0 6 rfl rfl
       have q42 : f 7 = .int .i64 (j : Int) := tellO hp 1 7 rfl rfl
       simp only [OpGoal]
       go_simp
       exact ⟨_, rfl, Ext.refl _, rfl⟩
      case o9 =>
       intro f w7 hG hp hl
       have hE : Ext wr w7 := hG
       have hS := hE.size
       have q43 : f 8 = .pointer (some ⟨gz, offz + j, none⟩) := tellO hp 0 8 rfl rfl
       have hcell := HZC.out _ (hEw.trans hE)
       simp only [OpGoal]
       go_simp
       exact ⟨_, rfl, Ext.refl _, rfl⟩
      case o10 =>
       intro f w7 hG hp hl
       have hE : Ext wr w7 := hG
       have hS := hE.size
       have q40 : f 5 = .slice a1 n1 c1 := tellO hp 0 5 rfl rfl
       have q44 : f 9 = .int .i64 z := tellO hp 1 9 rfl rfl
       change OpGoal _ _ _ f w7 Ext _
       refine og_call (P := Tryz.prog) _ _ _ #[f 5, f 9] Tryz.func42 (by kernel_rfl) (by kernel_rfl) rfl rfl (by kernel_rfl) ?_
       rw [q40, q44]
       refine (get5_calls k _ z r _ (HR.out.1.ext (hEw.trans hE)) (by omega) (by omega)).mono ?_
       rw [← HQ.out]
       rintro e w' ⟨v', rfl, h1, h3, h2⟩
       exact ⟨v', rfl, h2, h1.mono hS⟩
      case o11 =>
       intro f w7 hG hp hl
       have hE : Ext wr w7 := hG
       have hS := hE.size
       have q45 := tellO hp 0 10 rfl rfl
       change OpGoal _ _ _ f w7 Ext _
       refine og_call (P := Tryz.prog) _ _ _ #[f 10] Tryz.func44 (by kernel_rfl) (by kernel_rfl) rfl rfl (by kernel_rfl) ?_
       refine (rqto3_calls _ q _ q45.cq hZ4).mono ?_
       rintro e w' ⟨v', rfl, h1, h2⟩
       exact ⟨v', rfl, h2, h1.mono hS⟩
      case o12 =>
       intro f w7 hG hp hl
       have hE : Ext wr w7 := hG
       have hS := hE.size
       have q36 : f 1 = .int .i64 (j : Int) := tellO hp 0 1 rfl rfl
       have q46 := tellO hp 1 11 rfl rfl
       obtain ⟨tb, ta1, tn1, tc1, ta2, tn2, tc2, tv, tq⟩ := FrQ.opn (q46)
       change OpGoal _ _ _ f w7 Ext _
       simp only [OpGoal]
       go_simp
       exact ⟨_, rfl, Ext.refl _, ⟨(j : Int), tb, ta1, tn1, tc1, ta2, tn2, tc2⟩, rfl, rfl, tq⟩
      case o13 =>
       intro f w7 hG hp hl
       have hE : Ext wr w7 := hG
       have hS := hE.size
       have q47 := tellO hp 0 12 rfl rfl
       obtain ⟨tt, tv, tc, tq⟩ := q47
       change OpGoal _ _ _ f w7 Ext _
       exact og_buildSlice (P := Tryz.prog) 40 66 1 4 _ [tmv tt] rfl rfl Tryz.underlying40 (by kernel_rfl) (by kernel_rfl) (by simp only [Act.eval]; exact congrArg (fun z => [(0, z)]) tv) rfl (by omega) (by omega) (by omega) (strN_tmv [tt]).size (fun w' he hb => ⟨_, tt, hS, rfl, hb, tc, tq.ext he⟩)
      case o14 =>
       intro f w7 hG hp hl
       have hE : Ext wr w7 := hG
       have hS := hE.size
       have q35 : f 0 = .slice (some ⟨gA, 0, none⟩) j capv := tellO hp 0 0 rfl rfl
       have q48 := tellO hp 1 13 rfl rfl
       have qL : f 0 = .slice (some ⟨gA, 0, none⟩) j capv := tellO hp 0 0 rfl rfl
       obtain ⟨gx, tt, hgx, hvx, hbx, htc, htq⟩ := tellO hp 1 13 rfl rfl
       change OpGoal _ _ _ f w7 (Chg gA) _
       refine og_append (P := Tryz.prog) _ _ 40 rfl rfl wo.heap.size 66 4 64 Tryz.underlying40 (by kernel_rfl) (by kernel_rfl) (by omega) (.slice (some ⟨gA, 0, none⟩) j capv) j (flatS ((tsP pso).map tmv)) qL (by have := (HO.out.ext ((Ext.refl wr).trans hE)).2; rw [HOL.out] at this; exact this) ⟨gx, 0, none⟩ 1 1 [.int .i64 tt.c, .bool tt.b, .slice tt.a1 tt.n1 tt.c1, .slice tt.a2 tt.n2 tt.c2] hvx rfl (fun j u hj => by rw [addr_add, Nat.zero_add, hbx.cell]; unfold tmv; simpa [Value.cells] using hj) (by intro u hu; simp at hu; rcases hu with rfl | rfl | rfl | rfl <;> rfl) (by omega) (by unfold maxLen; omega) (by omega) (by have := hE.size; omega) (fun v' w' h1 h2 h3 => ⟨HGR.out _ _ h2, ap_fin (by have := HOL.out; rw [List.length_map] at this; exact this) h1 h3 hE.size htc (htq.chg (HGR.out _ _ h2) hgAl)⟩)
      case o15 =>
       intro f w7 hG hp hl
       have hS : wr.heap.size ≤ w7.heap.size := Chg.size hG
       change OpGoal _ _ _ f w7 Ext _
       simp only [OpGoal]
       go_simp
       exact ⟨_, rfl, Ext.refl _, rfl⟩
     ·intro f w7 hC hF1 hmv hp
      clear hp
      obtain ⟨tt, go, co, hv9, hls9, htc9, htq9, hgo9⟩ := id hF1
      have hf9 := (hmv (by decide)).trans hv9
      have hTO := to_app HPSO.out HFO.out (Ext.refl wr) hC HGA.out (hv9 ▸ hF1) (by omega) (Nat.le_refl _) hzq
      rw [← HRN.out] at hTO
      have HTO := Lib.hid hTO
      have hE7 := hEo.step hC hgw
      rw [hf9]
      clear hF1 hmv hv9 hls9 htc9 htq9 hgo9 hTO hf9
      go_wp2
      go_roundw
      case rel => exact ⟨j1, go, co, hj1n, rfl, by rw [HJ1.out], Lib.hid (by rw [HJ1.out]; exact HTO.out), hE7⟩
      case measure => have := HJ1.out; simp [intOf]; omega
end Go.Proofs.YtdmjgjcljbogiaaGreat
/-
 Matrices, lists of terms written over: just which blocks may be harmed.
-/
namespace Go.Proofs.YtdmjgjcljbogiaaGreat
set_option maxRecDepth 100000
set_option maxHeartbeats 1000000
open Go.RowKit
set_option linter.unusedVariables false
set_option linter.unusedSimpArgs false
def HurtW (Q : Nat → Prop) (w w' : World) : Prop := w'.os = w.os ∧ w'.tape = w.tape ∧ w'.output = w.output ∧ w.heap.size ≤ w'.heap.size ∧
 ∀ k, k < w.heap.size → w'.heap[k]? = w.heap[k]? ∨ (Q k ∧ ∃ cur cur' t, (t = 107 ∨ (t = 66 ∧ ∀ x, x % 4 ≠ 0 → cur'[x]? = cur[x]?)) ∧ w.heap[k]? = some (.cells cur t (0, 0)) ∧ w'.heap[k]? = some (.cells cur' t (0, 0)) ∧ cur'.size = cur.size)
theorem HurtP.w {Q : Nat → Prop} {w w' : World} (h : HurtP Q w w') : HurtW Q w w' := by
 obtain ⟨h1, h2, h3, h4, h5⟩ := h
 refine ⟨h1, h2, h3, h4, fun k hk => ?_⟩
 rcases h5 k hk with e | ⟨hb, cur, cur', c1, c2, c3⟩
 ·exact .inl e
 ·exact .inr ⟨hb, cur, cur', _, .inl rfl, c1, c2, c3⟩
theorem HurtW.refl (Q : Nat → Prop) (w : World) : HurtW Q w w := ⟨rfl, rfl, rfl, Nat.le_refl _, fun k hk => .inl rfl⟩
theorem Ext.hurtsW {w w' : World} (Q : Nat → Prop) (h : Ext w w') : HurtW Q w w' := ⟨World.grownBy.os h, World.grownBy.tape h, World.grownBy.output h, h.size, fun k hk => .inl (h.heap hk)⟩
theorem HurtW.trans {Q : Nat → Prop} {a b c : World} (h : HurtW Q a b) (k : HurtW Q b c) : HurtW Q a c := by
 obtain ⟨h1, h2, h3, h4, h5⟩ := h
 obtain ⟨k1, k2, k3, k4, k5⟩ := k
 refine ⟨k1.trans h1, k2.trans h2, k3.trans h3, Nat.le_trans h4 k4, fun g hg => ?_⟩
 rcases h5 g hg with e1 | ⟨hb, cur, cur', t, ht, c1, c2, c3⟩ <;> rcases k5 g (by omega) with e2 | ⟨hb2, dur, dur', u, hu, d1, d2, d3⟩
 ·exact .inl (e2.trans e1)
 ·exact .inr ⟨hb2, dur, dur', u, hu, e1 ▸ d1, d2, d3⟩
 ·exact .inr ⟨hb, cur, cur', t, ht, c1, e2.trans c2, c3⟩
 ·rw [c2] at d1
  cases d1
  refine .inr ⟨hb, cur, dur', t, ?_, c1, d2, by omega⟩
  rcases ht with ht | ⟨ht, hx⟩
  ·exact .inl ht
  ·rcases hu with hu | ⟨hu, hy⟩
   ·exact .inl hu
   ·exact .inr ⟨ht, fun x hn => (hy x hn).trans (hx x hn)⟩
theorem HurtW.size {Q : Nat → Prop} {w w' : World} (h : HurtW Q w w') : w.heap.size ≤ w'.heap.size := h.2.2.2.1
theorem Ext.hurtW {Q : Nat → Prop} {a w w' : World} (h : Ext a w) (k : HurtW Q w w') (hB : ∀ k, Q k → a.heap.size ≤ k) : Ext a w' := by
 obtain ⟨k1, k2, k3, k4, k5⟩ := k
 refine ⟨k1.trans (World.grownBy.os h), k2.trans (World.grownBy.tape h), k3.trans (World.grownBy.output h), Nat.le_trans h.size k4, fun g hg _ => ?_⟩
 have := h.size
 rcases k5 g (by omega) with e1 | ⟨hb, -⟩
 ·exact e1.trans (h.heap hg)
 ·have := hB g hb; omega
theorem Bx.hurtW {Q : Nat → Prop} {t : TypeId} {w w' : World} {g : Nat} {cs : Array Value} (h : Bx t w g cs) (he : HurtW Q w w') (ht : t ≠ 107) (ht2 : t ≠ 66) : Bx t w' g cs := by
 rcases he.2.2.2.2 g (blk_lt h) with e1 | ⟨-, cur, cur', u, hu, c1, -⟩
 ·exact e1.trans h
 ·unfold Bx at h
  rw [h] at c1
  cases c1
  exact absurd (hu.imp_right And.left) (not_or.2 ⟨ht, ht2⟩)
theorem Bx.hurtTW {Q : Nat → Prop} {w w' : World} {g : Nat} {cs : Array Value} (h : Bx 66 w g cs) (he : HurtW Q w w') : ∃ cs', Bx 66 w' g cs' ∧ cs'.size = cs.size ∧ ∀ x, x % 4 ≠ 0 → cs'[x]? = cs[x]? := by
 rcases he.2.2.2.2 g (blk_lt h) with e1 | ⟨-, cur, cur', u, hu, c1, c2, c3⟩
 ·exact ⟨cs, e1.trans h, rfl, fun x _ => rfl⟩
 ·unfold Bx at h
  rw [h] at c1
  cases c1
  rcases hu with hu | ⟨-, hu⟩
  ·exact absurd hu (by decide)
  ·exact ⟨cur', c2, c3, hu⟩
theorem ShpP.hurtW {Q Q1 : Nat → Prop} {w w' : World} {s : Value} (h : ShpP Q w s) (he : HurtW Q1 w w') : ShpP Q w' s := by
 obtain ⟨ad, l, cap, h1, h2, h3⟩ := h
 refine ⟨ad, l, cap, h1, h2, ?_⟩
 rcases h3 with h3 | ⟨g, cur, h3, h4, h5, h6⟩
 ·exact .inl h3
 ·rcases he.2.2.2.2 g (blk_lt h5) with e1 | ⟨-, cu, cu', u, hu, c1, c2, c3⟩
  ·exact .inr ⟨g, cur, h3, h4, e1.trans h5, h6⟩
  ·rw [h5] at c1
   cases c1
   exact .inr ⟨g, cu', h3, h4, c2, by omega⟩
theorem ShpR.hurtW {Q Q1 : Nat → Prop} {w w' : World} {v : Value} (h : ShpR Q w v) (he : HurtW Q1 w w') : ShpR Q w' v := by
 obtain ⟨b, s, t, h1, h2, h3⟩ := h
 exact ⟨b, s, t, h1, h2.hurtW he, h3.hurtW he⟩
theorem HurtW.setCell {Q : Nat → Prop} {g i : Nat} {w : World} {cur : Array Value} (h : Bx 66 w g cur) (hB : Q g) (hi : i % 4 = 0) (u : Value) : HurtW Q w (w.setCell ⟨g, i, none⟩ u) := by
 have hc := Chg.setCell w g i u
 refine ⟨World.grownBy.os hc, World.grownBy.tape hc, World.grownBy.output hc, hc.size, fun k hk => ?_⟩
 by_cases hkg : k = g
 ·subst hkg
  refine .inr ⟨hB, cur, _, _, .inr ⟨rfl, fun x hx => ?_⟩, h, heap_setCell_same w k i _ _ _ h, by simp⟩
  rw [Array.getElem?_setIfInBounds, if_neg (by omega)]
 ·exact .inl (hc.heap hk hkg)
def SpBW (Q : Nat → Prop) (n : Nat) (w : World) (g : Nat) : Prop := Q g ∧ ∃ cs, Bx 66 w g cs ∧ n * 4 ≤ cs.size ∧ ∀ i, i < n → ∃ b a1 n1 c1 a2 n2 c2, cs[i * 4 + 1]? = some (.bool b) ∧ cs[i * 4 + 2]? = some (.slice a1 n1 c1) ∧ cs[i * 4 + 3]? = some (.slice a2 n2 c2) ∧ ShpR Q w (.agg #[.bool b, .slice a1 n1 c1, .slice a2 n2 c2])
def SpW (Q : Nat → Prop) (w : World) (v : Value) : Prop := ∃ ad n cap, v = .slice ad n cap ∧ n ≤ 9223372036854775807 ∧ (n = 0 ∨ ∃ g, ad = some ⟨g, 0, none⟩ ∧ SpBW Q n w g)
theorem SpBW.hurtW {Q Q1 : Nat → Prop} {n g : Nat} {w w' : World} (h : SpBW Q n w g) (he : HurtW Q1 w w') : SpBW Q n w' g := by
 obtain ⟨h1, cs, h2, h3, h4⟩ := h
 obtain ⟨cs', k1, k2, k3⟩ := h2.hurtTW he
 refine ⟨h1, cs', k1, by omega, fun i hi => ?_⟩
 obtain ⟨b, a1, n1, c1, a2, n2, c2, j1, j2, j3, j4⟩ := h4 i hi
 exact ⟨b, a1, n1, c1, a2, n2, c2, by rw [k3 _ (by omega)]; exact j1, by rw [k3 _ (by omega)]; exact j2, by rw [k3 _ (by omega)]; exact j3, j4.hurtW he⟩
theorem SpW.hurtW {Q Q1 : Nat → Prop} {w w' : World} {v : Value} (h : SpW Q w v) (he : HurtW Q1 w w') : SpW Q w' v := by
 obtain ⟨ad, n, cap, h1, h2, h3⟩ := h
 exact ⟨ad, n, cap, h1, h2, h3.imp_right fun ⟨g, a, b⟩ => ⟨g, a, b.hurtW he⟩⟩
theorem SpW.ext {Q : Nat → Prop} {w w' : World} {v : Value} (h : SpW Q w v) (he : Ext w w') : SpW Q w' v := h.hurtW (he.hurtsW fun _ => True)
def SpMW (Q : Nat → Prop) (w : World) (v : Value) : Prop := ∃ ad n cap, v = .slice ad n cap ∧ n ≤ 9223372036854775807 ∧ (n = 0 ∨ ∃ g, ad = some ⟨g, 0, none⟩ ∧ ∃ cs, Bx 40 w g cs ∧ n ≤ cs.size ∧ ∀ i, i < n → ∃ a1 n1 c1, cs[i]? = some (.slice a1 n1 c1) ∧ SpW Q w (.slice a1 n1 c1))
theorem SpMW.hurtW {Q Q1 : Nat → Prop} {w w' : World} {v : Value} (h : SpMW Q w v) (he : HurtW Q1 w w') : SpMW Q w' v := by
 obtain ⟨ad, n, cap, h1, h2, h3⟩ := h
 refine ⟨ad, n, cap, h1, h2, h3.imp_right fun ⟨g, a, cs, b, c, d⟩ => ⟨g, a, cs, b.hurtW he (by decide) (by decide), c, fun i hi => ?_⟩⟩
 obtain ⟨a1, n1, c1, k1, k2⟩ := d i hi
 exact ⟨a1, n1, c1, k1, k2.hurtW he⟩
theorem SpMW.ext {Q : Nat → Prop} {w w' : World} {v : Value} (h : SpMW Q w v) (he : Ext w w') : SpMW Q w' v := h.hurtW (he.hurtsW fun _ => True)
/-! What lies from block B on stays where those blocks stay. -/
def Above (B : Nat) (w w' : World) : Prop := ∀ g, B ≤ g → g < w.heap.size → w'.heap[g]? = w.heap[g]?
theorem HurtW.above {Q : Nat → Prop} {B : Nat} {w w' : World} (h : HurtW Q w w') (hQ : ∀ k, Q k → k < B) : Above B w w' := fun g hg hl => by
 rcases h.2.2.2.2 g hl with e | ⟨hb, -⟩
 ·exact e
 ·have := hQ g hb
  omega
theorem Bx.above {B g : Nat} {t : TypeId} {w w' : World} {cs : Array Value} (h : Bx t w g cs) (ha : Above B w w') (hg : B ≤ g) : Bx t w' g cs := (ha g hg h.lt).trans h
theorem FrL.above {e : TypeId} {k : IntKind} {B : Nat} {w w' : World} {s : Value} {xs : List Nat} (h : FrL e k B w s xs) (ha : Above B w w') : FrL e k B w' s xs := by
 obtain ⟨ad, cap, h1, h2, h3, h4⟩ := h
 refine ⟨ad, cap, h1, h2, h3, ?_⟩
 rcases h4 with h4 | ⟨g, cur, h4, h5, h6, h7⟩
 ·exact .inl h4
 ·exact .inr ⟨g, cur, h4, h5, Bx.above h6 ha h5, h7⟩
theorem FrQ.above {B : Nat} {w w' : World} {v : Value} {q : Rat} (h : FrQ B w v q) (ha : Above B w w') : FrQ B w' v q := by
 obtain ⟨s, t, h1, h2, h3⟩ := h
 exact ⟨s, t, h1, FrL.above h2 ha, FrL.above h3 ha⟩
theorem ownsRow_above {B e size n : Nat} {w w' : World} {v : Value} {xs : List Value} (h : w.ownsRow B e size v n xs) (ha : Above B w w') : w'.ownsRow B e size v n xs := by
 refine ⟨h.1, ?_⟩
 rcases h.2 with h2 | ⟨g, cap, cur, h1, h2, h3, h4⟩
 ·exact .inl h2
 ·exact .inr ⟨g, cap, cur, h1, h2, Bx.above h3 ha h2, h4⟩
theorem TO.above {B k : Nat} {w w' : World} {v : Value} {m : List (Int × Rat)} (h : TO B k w v m) (ha : Above B w w') : TO B k w' v m := by
 obtain ⟨ts, h1, h2, h3⟩ := h
 exact ⟨ts, h1, ⟨h2.1, ownsRow_above h2.2 ha⟩, fun i t x a b => ⟨(h3 i t x a b).1, (h3 i t x a b).2.1.above ha, (h3 i t x a b).2.2⟩⟩
theorem MO.above {B k : Nat} {w w' : World} {v : Value} {rows : List (List (Int × Rat))} (h : MO B k w v rows) (ha : Above B w w') : MO B k w' v rows := by
 obtain ⟨vs, h1, h2, h3⟩ := h
 exact ⟨vs, ownsRow_above h1 ha, h2, fun i u y a b => (h3 i u y a b).above ha⟩
end Go.Proofs.YtdmjgjcljbogiaaGreat
/-
 The law MatOrders.
-/
namespace Go.Proofs.YtdmjgjcljbogiaaGreat
set_option maxRecDepth 100000
set_option maxHeartbeats 1000000
open Go.RowKit
set_option linter.unusedVariables false
set_option linter.unusedSimpArgs false
def OutM (B K : Nat) (w : World) (v : Value) (rows : List (List (Int × Rat))) (ok : Bool) : Prop := (ok = true → MO B K w v rows) ∧ (ok = false → v = .slice none 0 0)
theorem OutM.mle {B K : Nat} {w : World} {v : Value} {rows : List (List (Int × Rat))} {ok : Bool} (h : OutM B K w v rows ok) (hK : K ≤ LIM) : MLE w v (if ok then rows.map fmV else []) := by
 cases ok with
 | true => exact (h.1 rfl).mle hK
 | false =>
  rw [h.2 rfl]
  exact MLE.none _ _ _ (by omega)
theorem OutM.ext {B K : Nat} {w w' : World} {v : Value} {rows : List (List (Int × Rat))} {ok : Bool} (h : OutM B K w v rows ok) (he : Ext w w') : OutM B K w' v rows ok := ⟨fun e => (h.1 e).ext he, h.2⟩
theorem OutM.sp {B K : Nat} {w : World} {v : Value} {rows : List (List (Int × Rat))} {ok : Bool} (h : OutM B K w v rows ok) : SpM B w v := by
 cases ok with
 | true => exact (h.1 rfl).sp
 | false =>
  rw [h.2 rfl]
  exact ⟨none, 0, 0, rfl, by omega, .inl rfl⟩
theorem SpM.mono' {B0 B1 : Nat} {w : World} {v : Value} (h : SpM B0 w v) (hB : B1 ≤ B0) : SpM B1 w v := by
 obtain ⟨ad, n, cap, h1, h2, h3⟩ := h
 refine ⟨ad, n, cap, h1, h2, h3.imp_right fun ⟨g, a, cs, b, c, d⟩ => ⟨g, a, cs, b, c, fun i hi => ?_⟩⟩
 obtain ⟨a1, n1, c1, k1, k2⟩ := d i hi
 exact ⟨a1, n1, c1, k1, k2.mono hB⟩
theorem outE {w : World} {v : Value} {rows : List (List (Int × Rat))} {ok : Bool} {B K : Nat} (h1 : ok = true → MO B K w v rows) (h2 : ok = false → MLE w v []) (hK : K ≤ LIM) : MLE w v (if ok then rows.map fmV else []) := by
 cases ok with
 | true => exact (h1 rfl).mle hK
 | false => exact h2 rfl
set_option maxHeartbeats 8000000 in
theorem matOrders_calls (v u : Value) (ms : List (List TE)) (zs : List Int) (w : World) (hv : MLE w v ms) (hb : ms.length ≤ 281474976710656) (hu : ordL w u zs) :
  Calls Tryz.prog 7 #[v, u] w fun e w' => e = .returned (.bool true) ∧ Ext w w' := by
 have HV := Lib.hid hv
 have HU := Lib.hid hu
 obtain ⟨ado, n, capo, hnl, rfl, hn1, -⟩ := hu.at
 have HN := Lib.hid hnl
 have lim : (100000000 : Nat) ≤ LIM := by rw [LIM_eq]; omega
 clear hv hu hnl
 go_enter Tryz.func7, Tryz.ntmps7
 go_wp2_with fail
 refine (speaks6_calls _).mono ?_
 rintro e w2 ⟨rfl, e2⟩
 go_wp2_with fail
 refine (greatM_calls _ ms w2 (HV.out.ext e2) hb).mono ?_
 rintro e w3 ⟨rfl, e3⟩
 obtain ⟨p, hp⟩ : ∃ p, p = greatM ms := ⟨_, rfl⟩
 rw [← hp]
 have HP := Lib.hid hp
 clear hp
 have E5 := e2.trans e3
 cases p with
 | true =>
  go_wp2
  go_ret
  exact ⟨rfl, E5⟩
 | false =>
 by_cases h40 : 40 < n
 ·have h40' : (40 : Int) < (n : Int) := by omega
  go_wp2
  go_ret
  exact ⟨rfl, E5⟩
 have h40' : ¬ (40 : Int) < (n : Int) := by omega
 obtain ⟨m1, m2⟩ := greatM_not HP.out.symm
 have HM2 := Lib.hid m2
 obtain ⟨M, hM⟩ : ∃ M, M = ms.map ratT := ⟨_, rfl⟩
 have hMl : M.length ≤ 12 := by rw [hM, List.length_map]; exact m1
 have HML := Lib.hid (show ∀ r ∈ M, r.length ≤ 30 by rw [hM]; exact ratT_len ms fun l hl => (m2 l hl).1)
 have toM : ∀ {w' : World} {v' : Value}, MLE w' v' ms → ML 6 w' v' M := fun h => by rw [hM]; exact h.ml 6 (by omega) (by omega) fun l hl e he => (m2 l hl).2 e he
 have TM := Lib.hid (And.intro @toM trivial)
 have hzl : zs.length ≤ 1000 := by rw [← HN.out]; omega
 obtain ⟨ro, hro⟩ : ∃ ro, ro = roOk M zs := ⟨_, rfl⟩
 obtain ⟨co, hco⟩ : ∃ co, co = coOk M zs := ⟨_, rfl⟩
 have HRO := Lib.hid hro
 have HCO := Lib.hid hco
 clear m2 hM toM HP e2 e3 hro hco
 go_wp2_with fail
 refine (copyM_calls _ ms w3 (HV.out.ext E5) (by omega) HM2.out).mono ?_
 rintro e w6 ⟨v6, rfl, r6, e6⟩
 have C6 := Lib.hid r6
 have E6 := E5.trans e6
 clear r6
 go_wp2_with fail
 refine (rows_calls 6 30 _ _ M zs w6 (TM.out.1 C6.out) (HU.out.ext E6) HML.out (by omega) hzl (by omega)).mono ?_
 rw [← HRO.out]
 rintro e w7 ⟨v7, rfl, r7, n7, e7⟩
 have R7 := Lib.hid (show OutM w6.heap.size (30 * (6 + 1)) w7 v7 (rowsM M zs) ro from ⟨r7, n7⟩)
 have E7 := E6.trans e7
 obtain ⟨x7, hx7⟩ : ∃ x, x = scE ro := ⟨_, rfl⟩
 rw [← hx7]
 clear r7 n7
 go_wp2_with fail
 refine (columns_calls 6 30 _ _ M zs w7 (TM.out.1 (C6.out.ext e7)) (HU.out.ext E7) HML.out (by omega) (by omega) hzl (by omega) (by omega)).mono ?_
 rw [← HCO.out]
 rintro e w8 ⟨v8, rfl, r8, n8, e8⟩
 have R8 := Lib.hid (show OutM w7.heap.size (30 * (30 * (6 + 1) + 1)) w8 v8 (colsM M zs) co from ⟨r8, n8⟩)
 have E8 := E7.trans e8
 obtain ⟨x8, hx8⟩ : ∃ x, x = scE co := ⟨_, rfl⟩
 rw [← hx8]
 clear r8 n8
 go_wp2_with fail
 refine (rows6_calls 6 30 _ _ M zs w8 (TM.out.1 (HV.out.ext E8)) (HU.out.ext E8) HML.out (by omega) hzl (by omega)).mono ?_
 rw [← HRO.out]
 rintro e w9 ⟨v9, rfl, r9, n9, e9⟩
 have R9 := Lib.hid (outE r9 n9 (by omega))
 have E9 := E8.trans e9
 rw [← hx7]
 clear r9 n9
 go_wp2_with fail
 refine (columns6_calls 6 30 _ _ M zs w9 (TM.out.1 (HV.out.ext E9)) (HU.out.ext E9) HML.out (by omega) (by omega) hzl (by omega) (by omega)).mono ?_
 rw [← HCO.out]
 rintro e w10 ⟨v10, rfl, r10, n10, e10⟩
 have R10 := Lib.hid (outE r10 n10 (by omega))
 have E10 := E9.trans e10
 rw [← hx8]
 have S7 := Lib.hid (And.intro ((R7.out.ext ((e8.trans e9).trans e10)).mle (by omega)) (R9.out.ext e10))
 have S8 := Lib.hid ((R8.out.ext (e9.trans e10)).mle (by omega))
 have z7 : ¬ (x7 ≠ x7) := by simp
 have z8 : ¬ (x8 ≠ x8) := by simp
 clear r10 n10 hx7 hx8 R9
 go_wp2_with fail
 refine (sameM_true _ _ _ w10 S7.out.1 S7.out.2).mono ?_
 rintro e w11 ⟨rfl, e11⟩
 go_wp2_with fail
 refine (sameM_true _ _ _ w11 (S8.out.ext e11) (R10.out.ext e11)).mono ?_
 rintro e w12 ⟨rfl, e12⟩
 have SP7 := Lib.hid (R7.out.sp.ext ((((e8.trans e9).trans e10).trans e11).trans e12))
 have SP8 := Lib.hid (SpM.mono' (R8.out.sp.ext (((e9.trans e10).trans e11).trans e12)) e7.size)
 have E612 := (((((e7.trans e8).trans e9).trans e10).trans e11).trans e12)
 clear S7 S8 R7 R8 R10 e7 e8 e9 e10 e11 e12 E7 E8 E9 E10
 go_wp2_with fail
 refine (spoilM_calls w6.heap.size _ w12 SP7.out).mono ?_
 rintro e w13 ⟨rfl, h13⟩
 have SP9 := Lib.hid (SP8.out.hurtV h13)
 clear SP7 SP8
 go_wp2_with fail
 refine (spoilM_calls w6.heap.size _ w13 SP9.out).mono ?_
 rintro e w14 ⟨rfl, h14⟩
 have E6H : Ext w6 w14 := E612.hurtV (h13.trans h14) (Nat.le_refl _)
 clear SP9 h13 h14 E612
 go_wp2_with fail
 refine (sameM_true _ _ ms w14 (C6.out.ext E6H) (HV.out.ext (E6.trans E6H))).mono ?_
 rintro e w15 ⟨rfl, e15⟩
 go_wp2
 go_ret
 exact ⟨rfl, (E6.trans E6H).trans e15⟩
end Go.Proofs.YtdmjgjcljbogiaaGreat
