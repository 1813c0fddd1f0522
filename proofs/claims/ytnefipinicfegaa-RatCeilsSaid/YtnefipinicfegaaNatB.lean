/-
  nat: words: sums with a carry, an element behind the end, how many bits; the sum of two numbers.
-/
import Derived.Test.YtnefipinicfegaaNatA
import Derived.Test.YtnefipinicfegaaShelf
import Derived.Shelf.Spec.BitsCarry
import Derived.Lib.ItoaNum
import Derived.Deep.RegionWith
namespace Go.Proofs.Ytnefipinicfegaa
open Go.RowKit
set_option linter.unusedVariables false
set_option linter.unusedSimpArgs false

theorem add64_run (x y c : Nat) (hc : c ≤ 1) (w : World) :
    (callFunc 112 #[.int .u64 (x : Int), .int .u64 (y : Int), .int .u64 (c : Int)]).run Try.prog w =
      .ok (.value (.tuple #[.int .u64 (((x + y + c) % W : Nat) : Int), .int .u64 (((x + y + c) / W : Nat) : Int)])) w := by
  rw [run_callFunc_extern Try.func112 (by kernel_rfl) (by kernel_rfl) (by kernel_rfl) (e := add64Entry) (by kernel_rfl), run_add64 x y c (by omega) (by omega) (by omega) (by omega)]
  simp only [Result.andThen, W_eq]
  congr 5 <;> omega

theorem sub64_run (x y b : Nat) (hb : b ≤ 1) (w : World) :
    (callFunc 113 #[.int .u64 (x : Int), .int .u64 (y : Int), .int .u64 (b : Int)]).run Try.prog w =
      .ok (.value (.tuple #[.int .u64 (((x + W - y - b) % W : Nat) : Int), .int .u64 ((if x < y + b then 1 else 0 : Nat) : Int)])) w := by
  rw [run_callFunc_extern Try.func113 (by kernel_rfl) (by kernel_rfl) (by kernel_rfl) (e := sub64Entry) (by kernel_rfl), run_sub64 x y b hb]
  rw [W_eq]; rfl

/-- The place i, or 0 behind the end. -/
def gD (l : List Nat) (i : Nat) : Nat := l.getD i 0
theorem gD_lt {l : List Nat} {i : Nat} (h : i < l.length) : gD l i = l[i] := by simp [gD, List.getD, h]
theorem gD_ge {l : List Nat} {i : Nat} (h : ¬ i < l.length) : gD l i = 0 := by simp [gD, List.getD, h]

set_option maxHeartbeats 400000 in
/-- nat.at: the element, or 0 behind the end. -/
theorem at_calls (ad : Option Addr) (cap : Nat) (xs : List Nat) (i : Nat) (w : World) (hr : Rd w ad (vals .u64 xs)) (hi : i ≤ 9223372036854775807) (hl : xs.length ≤ 9223372036854775807) :
    Calls Try.prog 114 #[.slice ad xs.length cap, .int .i64 (i : Int)] w fun e w' => e = .returned (.int .u64 ((gD xs i : Nat) : Int)) ∧ w = w' := by
  by_cases h : i < xs.length
  · obtain ⟨b, off, rfl, hcells⟩ := hr.at (by rw [vals_length]; omega)
    have hcell := hcells i _ (vals_get .u64 xs i h)
    clear hcells
    have hg := gD_lt h
    have Hg := Lib.hid hg
    clear hg
    go_enter Try.func114, Try.ntmps114
    go_wp2
    go_ret
    exact ⟨by rw [Hg.out]; rfl, rfl⟩
  · have hg := gD_ge h
    have Hg := Lib.hid hg
    clear hg
    go_enter Try.func114, Try.ntmps114
    go_wp2
    go_ret
    exact ⟨by rw [Hg.out]; rfl, rfl⟩

/-- How many bits a number has. -/
def bitsN (n : Nat) : Nat := if n = 0 then 0 else (sz W n - 1) * 64 + Lib.bitLen ((dg W n).getLastD 0)

theorem bitLen_pos (x : Nat) (h0 : x ≠ 0) (h : x < W) : 1 ≤ Lib.bitLen x := (Lib.bitLenAux_bounds 64 x (by rw [W_eq] at h; omega) h0).1

theorem can_last {B : Nat} {l : List Nat} (h : Can B l) (hl : 0 < l.length) : l[l.length - 1] ≠ 0 := by
  intro h0
  have h1 := tz_snoc_zero (l.take (l.length - 1))
  have h2 : l.take (l.length - 1) ++ [0] = l := by
    have := List.take_succ_eq_append_getElem (l := l) (i := l.length - 1) (by omega)
    rw [h0, List.take_of_length_le (by omega)] at this
    exact this.symm
  rw [h2, h.2] at h1
  have := tz_length_le (l.take (l.length - 1))
  rw [← h1, List.length_take] at this
  omega

theorem getLastD_eq (l : List Nat) (hl : 0 < l.length) : l.getLastD 0 = l[l.length - 1] := by
  rw [List.getLastD_eq_getLast?, List.getLast?_eq_getElem?, List.getElem?_eq_getElem (by omega), Option.getD_some]

theorem bitsN_zero (n : Nat) : bitsN n = 0 ↔ n = 0 := by
  unfold bitsN
  split
  · simp [*]
  · rename_i h
    have hp : 0 < (dg W n).length := by
      rcases Nat.eq_zero_or_pos (dg W n).length with h1 | h1
      · exact absurd ((dg_eq_nil W_gt).1 (List.eq_nil_of_length_eq_zero h1)) h
      · exact h1
    have h1 := can_last (dg_can W_gt n) hp
    have h2 := bitLen_pos _ h1 ((dg_can W_gt n).1.get (by omega))
    rw [getLastD_eq _ hp]
    constructor
    · intro h3; omega
    · intro h3; exact absurd h3 h

theorem bitsN_of {p : List Nat} {n : Nat} (hp : p = dg W n) (h0 : 0 < p.length) : (((p.length : Int) - 1) * 64 + (Lib.bitLen p[p.length - 1] : Int)) = (bitsN n : Int) := by
  subst hp
  have hn : n ≠ 0 := fun h => by subst h; simp [dg_zero] at h0
  unfold bitsN sz
  rw [if_neg hn, getLastD_eq _ h0]
  omega

set_option maxHeartbeats 400000 in
theorem bits_calls (v : Value) (n : Nat) (w : World) (hv : IsN .u64 W w v n) :
    Calls Try.prog 84 #[v] w fun e w' => e = .returned (.int .i64 (bitsN n : Int)) ∧ Ext w w' := by
  obtain ⟨xs, ⟨ad, cap, rfl, hlc, hcap, hr⟩, hlen, hd, hval⟩ := hv
  have Hx := Lib.hid (show tz xs = dg W n by rw [tz_eq_dg W_gt hd, hval])
  have htr : Rd w ad (vals .u64 (tz xs)) := by rw [← tz_take, vals_take]; exact hr.take _
  have hl1 : (tz xs).length ≤ 17592186044160 := by have := tz_length_le xs; rw [LIM_eq] at hlen; omega
  go_enter Try.func84, Try.ntmps84
  go_wp2_with fail
  refine (bare_calls ad _ cap xs w rfl hr hlc hcap).mono ?_
  rintro e w' ⟨rfl, rfl⟩
  clear hr hlen hlc hval
  generalize tz xs = p at *
  by_cases h0 : p.length = 0
  · have hn : n = 0 := (dg_eq_nil W_gt).1 (by rw [← Hx.out]; exact List.eq_nil_of_length_eq_zero h0)
    subst hn
    go_wp2
    go_ret
    exact ⟨rfl, Ext.refl _⟩
  · obtain ⟨b, off, rfl, hcells⟩ := htr.at (by rw [vals_length]; omega)
    have hcell := hcells (p.length - 1) _ (vals_get .u64 p (p.length - 1) (by omega))
    clear hcells
    have hlt : p[p.length - 1]'(by omega) < W := by
      have : Dig W p := by rw [Hx.out]; exact (dg_can W_gt n).1
      exact this.get (by omega)
    go_wp2_with fail
    refine (Try.bits_Len64 _ _ (by omega) (by rw [W_eq] at hlt; omega)).mono ?_
    rintro e w' ⟨rfl, hw⟩
    subst hw
    have hbl : Lib.bitLen (p[p.length - 1]'(by omega)) ≤ 64 := Lib.bitLen_le _ 64 (Nat.le_refl _) (by rw [W_eq] at hlt; omega)
    rw [Int.toNat_natCast]
    go_wp2
    go_ret
    exact ⟨ret_int (bitsN_of Hx.out (by omega)), Ext.refl _⟩

/-! Sums. -/
/-- Behind i rounds: what stands in the first places, and the carry, are the sum so far. -/
def AddInv (xs ys l : List Nat) (i c : Nat) : Prop := l.length = xs.length + 1 ∧ Dig W l ∧ c ≤ 1 ∧ val W (l.take i) + W ^ i * c = val W (xs.take i) + val W (ys.take i) ∧ i ≤ xs.length

theorem take_getD (ys : List Nat) (i : Nat) : val W (ys.take (i + 1)) = val W (ys.take i) + W ^ i * gD ys i := by
  by_cases h : i < ys.length
  · rw [val_take_succ ys i h, gD_lt h]
  · rw [List.take_of_length_le (by omega), List.take_of_length_le (by omega), gD_ge h]; simp

theorem Dig.gD {B : Nat} (hB : 0 < B) {l : List Nat} (h : Dig B l) (i : Nat) : gD l i < B := by
  by_cases hi : i < l.length
  · rw [gD_lt hi]; exact h.get hi
  · rw [gD_ge hi]; omega

theorem AddInv.step {xs ys l : List Nat} {i c : Nat} (h : AddInv xs ys l i c) (hx : i < xs.length) (dx : Dig W xs) (dy : Dig W ys) :
    AddInv xs ys (l.set i ((xs[i] + gD ys i + c) % W)) (i + 1) ((xs[i] + gD ys i + c) / W) := by
  obtain ⟨h1, h2, h3, h4, h5⟩ := h
  have hW : 0 < W := by rw [W_eq]; omega
  have hxi := dx.get hx
  have hyi := dy.gD hW i
  refine ⟨by simpa using h1, h2.set (Nat.mod_lt _ hW), ?_, ?_, by omega⟩
  · have : (xs[i] + gD ys i + c) / W < 2 := Nat.div_lt_of_lt_mul (by omega)
    omega
  · rw [val_take_succ _ _ (by simp; omega), List.getElem_set_self, List.take_set_of_le (Nat.le_refl _), val_take_succ xs i hx, take_getD ys i]
    have e := Nat.mod_add_div (xs[i] + gD ys i + c) W
    have e2 : W ^ i * ((xs[i] + gD ys i + c) % W) + W ^ (i + 1) * ((xs[i] + gD ys i + c) / W) = W ^ i * (xs[i] + gD ys i + c) := by
      rw [Nat.pow_succ, Nat.mul_assoc, ← Nat.mul_add, e]
    simp only [Nat.mul_add] at e2
    omega

theorem AddInv.finish {xs ys l : List Nat} {c : Nat} (h : AddInv xs ys l xs.length c) (hl : ys.length ≤ xs.length) (dx : Dig W xs) : Dig W (l.set xs.length c) ∧ val W (l.set xs.length c) = val W xs + val W ys := by
  obtain ⟨h1, h2, h3, h4, h5⟩ := h
  refine ⟨h2.set (by rw [W_eq]; omega), ?_⟩
  rw [List.take_of_length_le (Nat.le_refl _), List.take_of_length_le hl] at h4
  rw [val_split _ xs.length (by simp; omega), List.take_set_of_le (Nat.le_refl _), val_drop _ xs.length (by simp; omega), List.getElem_set_self, List.drop_of_length_le (by simp; omega)]
  simp only [val, Nat.mul_zero, Nat.add_zero]
  exact h4

set_option maxHeartbeats 2000000 in
set_option maxRecDepth 100000 in
theorem add_core (va vb : Value) (ad ad2 : Option Addr) (cap cap2 : Nat) (xs ys : List Nat) (w : World) (hr : Rd w ad (vals .u64 xs)) (hr2 : Rd w ad2 (vals .u64 ys))
    (hab : (va = .slice ad xs.length cap ∧ vb = .slice ad2 ys.length cap2 ∧ ys.length ≤ xs.length) ∨ (va = .slice ad2 ys.length cap2 ∧ vb = .slice ad xs.length cap ∧ ys.length < xs.length))
    (hlen : xs.length ≤ 17592186044160) (dx : Dig W xs) (dy : Dig W ys) :
    Calls Try.prog 99 #[va, vb] w fun e w' => ∃ v', e = .returned v' ∧ FrN 79 .u64 W w.heap.size w' v' (val W xs + val W ys) ∧ Ext w w' := by
  have hadd := add64_run
  rcases hab with ⟨rfl, rfl, hlt⟩ | ⟨rfl, rfl, hlt⟩
  all_goals
    go_enter Try.func99, Try.ntmps99
    go_wp2_with (at_make; refine wpList_make_vals _ rfl _ _ 22 rfl 79 .u64 8 Try.underlying22 info79 .i64 .i64 _ _ (xs.length + 1) rfl rfl (by omega) (by omega) (by omega) (by omega) ?_)
    intro w1 g hext hg hblk
    go_wp2_with fail
    go_loopw [6, 21] (fun c i wr => ∃ (k cc : Nat) (l : List Nat), i = .int .i64 k ∧ c = .int .u64 cc ∧ AddInv xs ys l k cc ∧ BlkAt 79 .u64 wr g l [] ∧ Ext w wr) (fun _ i _ => xs.length - (intOf i).toNat)
    case atStart => exact ⟨0, 0, _, rfl, rfl, ⟨by simp, Dig.replicate (by rw [W_eq]; omega) _, by omega, by simp [val], Nat.zero_le _⟩, hblk, hext⟩
    case round =>
      obtain ⟨k, c, l, rfl, rfl, hinv, hbl, hex⟩ := hrel
      have hc1 := hinv.2.2.1
      have hk1 := hinv.2.2.2.2
      have hl1 : l.length = xs.length + 1 := hinv.1
      by_cases hlt2 : k < xs.length
      · obtain ⟨b, off, rfl, hcells⟩ := hr.at (by rw [vals_length]; omega)
        have hcell := hex.cell (hcells k _ (vals_get .u64 xs k hlt2))
        clear hcells hblk hext
        obtain ⟨old, hout⟩ := hbl.got k (by omega)
        have hfr := hbl.free k
        have hcc := hadd xs[k] (gD ys k) c hc1
        have Hinv := Lib.hid (hinv.step hlt2 dx dy)
        have Hl1 := Lib.hid hl1
        clear hinv hadd hl1
        have hr2' := hr2.ext hex
        have hb1 : (k : Int) < (xs.length : Int) + 1 := by omega
        generalize (xs[k] + gD ys k + c) % W = dd at hcc Hinv
        generalize (xs[k] + gD ys k + c) / W = bb at hcc Hinv
        go_wp2_with fail
        refine wp_region_store g 15 [isV (.slice (some ⟨g, 0, none⟩) (xs.length + 1) (xs.length + 1)), isV (.int .i64 k), isV (.slice (some ⟨b, off, none⟩) xs.length cap), isV (.int .i64 k), isV (.pointer (some ⟨b, off + k, none⟩)), isV (.int .u64 xs[k]), isV (.slice ad2 ys.length cap2), isV (.int .i64 k), isV (.int .u64 (gD ys k)), isV (.int .u64 c),
            isV (.tuple #[.int .u64 (dd : Int), .int .u64 (bb : Int)]), isV (.tuple #[.int .u64 (dd : Int), .int .u64 (bb : Int)]),
            isV (.int .u64 (dd : Int)), isV (.int .u64 (bb : Int)), isV (.pointer (some ⟨g, k, none⟩)),
            fun _ w => BlkAt 79 .u64 w g (l.set k dd) [], isV (.int .u64 (bb : Int))]
          [(9, 16, 6)] [5, 8, 15]
          (by kernel_rfl) (by kernel_rfl) (fun f => (by simp only [fillR, fillL, List.setIfInBounds_toArray, List.set_cons_succ, List.set_cons_zero, Nat.reduceAdd]; rfl)) ?_ ?_ ?_ ?_
        · repeat (first | exact trivial | refine ⟨fun v wa wb h hp => (by first | exact hp | exact BlkAt.ext hp h), ?_⟩)
        · repeat (first | exact trivial | refine ⟨fun v wa wb h hp => (by first | exact hp | exact BlkAt.ext hp h), ?_⟩)
        · refine ⟨?_, ?_, ?_, ?_, ?_, ?o5, ?_, ?_, ?o8, ?_, ?_, ?_, ?_, ?_, ?_, ?o15, ?_, trivial⟩
          case o5 =>
            intro f w2 hG hpre hp hl
            simp [PostsOf, pl, isV, Region.binds] at hp
            simp [PreFacts] at hpre
            have hcell2 := hpre.cell hcell
            simp only [OpGoal]
            go_simp
            exact ⟨_, rfl, Ext.refl _, rfl⟩
          case o8 =>
            intro f w2 hG hpre hp hl
            simp [PostsOf, pl, isV, Region.binds] at hp
            simp [PreFacts] at hpre
            simp only [OpGoal]
            go_simp
            refine (at_calls ad2 cap2 ys k w2 (hr2'.ext hpre) (by omega) (by omega)).mono ?_
            rintro e w' ⟨rfl, rfl⟩
            exact ⟨_, rfl, Ext.refl _, rfl⟩
          case o15 =>
            intro f w2 hG hpre hp hl
            simp [PostsOf, pl, isV, Region.binds] at hp
            simp [PreFacts] at hpre
            have hb2 := hbl.ext hpre
            obtain ⟨old, hout⟩ := hb2.got k (by have := Hl1.out; omega)
            have hfree2 := hb2.free k
            simp only [OpGoal]
            go_simp
            exact ⟨undef, rfl, Chg.setCell _ _ _ _, hb2.set k _ (by have := Hl1.out; omega)⟩
          all_goals
            intro f w2 hG hpre hp hl
            simp [PostsOf, pl, isV, Region.binds] at hp
            simp [LateFacts] at hl
            simp only [OpGoal]
            go_simp
            exact ⟨_, rfl, Ext.refl _, rfl⟩
        · intro f w2 hG hp
          simp [AllPosts, pl, isV] at hp
          obtain ⟨p0, p1, p2, p3, p4, p5, p6, p7, p8, p9, p10, p11, p12, p13, p14, p15, p16⟩ := hp
          have P15 := Lib.hid p15
          clear p15
          go_wp2
          go_roundw
          case rel => exact ⟨k + 1, bb, _, rfl, p16, Hinv.out, P15.out, hex.step hG hg⟩
          case measure => simp [intOf]; omega
      · have hk : k = xs.length := by omega
        subst hk
        obtain ⟨old, hout⟩ := hbl.got xs.length (by omega)
        have hfr := hbl.free xs.length
        have Hfin := Lib.hid (hinv.finish (by omega) dx)
        have Hb2 := Lib.hid (BlkAt.set (w := wr) hbl xs.length c (by omega))
        have Hex2 := hex.setCell (p := ⟨g, xs.length, none⟩) hg (.int .u64 c)
        have Hl1 := Lib.hid hl1
        clear hinv hadd hl1 hblk hext hr2 hr
        go_wp2_with fail
        refine (bare_calls (some ⟨g, 0, none⟩) (xs.length + 1) (xs.length + 1) (l.set xs.length c) _ (by rw [List.length_set]; exact Hl1.out) Hb2.out.rd (by omega) (by omega)).mono ?_
        rintro e w' ⟨rfl, rfl⟩
        go_wp2
        go_ret
        exact ⟨_, rfl, Hb2.out.frN hg W_gt Hfin.out.1 Hfin.out.2 (by rw [List.length_set]; exact Hl1.out) (by omega), Hex2⟩

set_option maxHeartbeats 400000 in
/-- nat.Add. -/
theorem add_calls (v u : Value) (x y : Nat) (w : World) (hv : IsN .u64 W w v x) (hu : IsN .u64 W w u y) :
    Calls Try.prog 99 #[v, u] w fun e w' => ∃ v', e = .returned v' ∧ FrN 79 .u64 W w.heap.size w' v' (x + y) ∧ Ext w w' := by
  obtain ⟨xs, ⟨ad, cap, rfl, hlc, hcap, hr⟩, hlen, hd, rfl⟩ := hv
  obtain ⟨ys, ⟨ad2, cap2, rfl, hlc2, hcap2, hr2⟩, hlen2, hd2, rfl⟩ := hu
  rw [LIM_eq] at hlen hlen2
  rcases Nat.lt_or_ge xs.length ys.length with h | h
  · have := add_core _ _ ad2 ad cap2 cap ys xs w hr2 hr (.inr ⟨rfl, rfl, h⟩) hlen2 hd2 hd
    rwa [Nat.add_comm] at this
  · exact add_core _ _ ad ad2 cap cap2 xs ys w hr hr2 (.inl ⟨rfl, rfl, h⟩) hlen hd hd2
end Go.Proofs.Ytnefipinicfegaa
