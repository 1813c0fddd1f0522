/-
  nat: differences.
-/
import Derived.Test.YtnefipinicfegaaNatB
namespace Go.Proofs.Ytnefipinicfegaa
open Go.RowKit
set_option linter.unusedVariables false
set_option linter.unusedSimpArgs false

def LessInv (xs ys l : List Nat) (i c : Nat) : Prop :=
  l.length = xs.length ∧ Dig W l ∧ c ≤ 1 ∧ val W (l.take i) + val W (ys.take i) = val W (xs.take i) + W ^ i * c ∧ i ≤ xs.length ∧ l.drop i = xs.drop i

theorem drop_get {l m : List Nat} {i : Nat} (h : l.drop i = m.drop i) (hl : i < l.length) (hm : i < m.length) : l[i] = m[i] := by
  have := congrArg (fun t => t[0]?) h
  simpa [List.getElem?_drop, hl, hm] using this

theorem LessInv.step {xs ys l : List Nat} {i c : Nat} (h : LessInv xs ys l i c) (hx : i < xs.length) (dx : Dig W xs) (dy : Dig W ys) :
    LessInv xs ys (l.set i ((xs[i] + W - gD ys i - c) % W)) (i + 1) (if xs[i] < gD ys i + c then 1 else 0) := by
  obtain ⟨h1, h2, h3, h4, h5, h6⟩ := h
  have hW : 0 < W := by rw [W_eq]; omega
  have hxi := dx.get hx
  have hyi := dy.gD hW i
  have key : (xs[i] + W - gD ys i - c) % W + gD ys i + c = xs[i] + W * (if xs[i] < gD ys i + c then 1 else 0) := by
    split
    · rw [Nat.mod_eq_of_lt (by omega)]; omega
    · have : xs[i] + W - gD ys i - c = (xs[i] - gD ys i - c) + W := by omega
      rw [this, Nat.add_mod_right, Nat.mod_eq_of_lt (by omega)]; omega
  refine ⟨by simpa using h1, h2.set (Nat.mod_lt _ hW), by split <;> omega, ?_, by omega, ?_⟩
  · rw [val_take_succ _ _ (by simp; omega), List.getElem_set_self, List.take_set_of_le (Nat.le_refl _), val_take_succ xs i hx, take_getD ys i]
    have e2 := congrArg (W ^ i * ·) key
    simp only [Nat.mul_add] at e2
    rw [Nat.pow_succ, Nat.mul_assoc]
    omega
  · rw [List.drop_set_of_lt (by omega)]
    have := congrArg (List.drop 1) h6
    simpa [List.drop_drop, Nat.add_comm] using this

theorem LessInv.finish {xs ys l : List Nat} {c : Nat} (h : LessInv xs ys l xs.length c) (hl : ys.length ≤ xs.length) (hle : val W ys ≤ val W xs) : val W l = val W xs - val W ys := by
  obtain ⟨h1, h2, h3, h4, h5, h6⟩ := h
  rw [List.take_of_length_le (by omega), List.take_of_length_le hl, List.take_of_length_le (Nat.le_refl _)] at h4
  have hlt := val_lt (show 0 < W by rw [W_eq]; omega) h2
  rw [h1] at hlt
  have : c = 0 ∨ c = 1 := by omega
  rcases this with rfl | rfl
  · omega
  · omega

set_option maxHeartbeats 2000000 in
set_option maxRecDepth 100000 in
theorem less_core (ad ad2 : Option Addr) (cap cap2 : Nat) (xs ys : List Nat) (w : World) (hr : Rd w ad (vals .u64 xs)) (hr2 : Rd w ad2 (vals .u64 ys))
    (hlc : xs.length ≤ cap) (hcap : cap ≤ 9223372036854775807)
    (hlen : xs.length ≤ 17592186044160) (hlt : ys.length ≤ xs.length) (hle : val W ys ≤ val W xs) (dx : Dig W xs) (dy : Dig W ys) :
    Calls Try.prog 98 #[.slice ad xs.length cap, .slice ad2 ys.length cap2] w fun e w' => ∃ v', e = .returned v' ∧ FrN 79 .u64 W w.heap.size w' v' (val W xs - val W ys) ∧ Ext w w' := by
  have hle' := Lib.hid hle
  clear hle
  go_enter Try.func98, Try.ntmps98
  go_wp2_with fail
  refine (clone_calls ad _ cap xs w rfl hr hlc hcap (by rw [BIG_eq]; omega)).mono ?_
  rintro e w1 ⟨v1, rfl, hfr, hext⟩
  rcases Nat.eq_zero_or_pos xs.length with h0 | h0
  · have hxs : xs = [] := List.eq_nil_of_length_eq_zero h0
    subst hxs
    obtain ⟨ad1, cap1, rfl, hlc1, hcap1, hown⟩ := hfr
    go_wp2_with fail
    refine wp_loop_rounds 1 ?_
    rw [rounds_succ]
    go_wp2_with fail
    refine (bare_calls ad1 0 cap1 [] _ rfl (.inl rfl) (by omega) hcap1).mono ?_
    rintro e w' ⟨rfl, rfl⟩
    go_wp2
    go_ret
    have e0 : val W ([] : List Nat) - val W ys = 0 := by simp [val]
    rw [e0]
    exact ⟨_, rfl, ⟨ad1, cap1, rfl, Nat.zero_le _, hcap1, hown⟩, hext⟩
  · obtain ⟨g, rest, cap1, rfl, hg, hblk, hrest, hcap1⟩ := hfr.blk h0
    have hsub := sub64_run
    go_wp2_with fail
    go_loopw [6, 12] (fun c i wr => ∃ (k cc : Nat) (l : List Nat), i = .int .i64 k ∧ c = .int .u64 cc ∧ LessInv xs ys l k cc ∧ BlkAt 79 .u64 wr g l rest ∧ Ext w wr) (fun _ i _ => xs.length - (intOf i).toNat)
    case atStart => exact ⟨0, 0, _, rfl, rfl, ⟨rfl, dx, by omega, by simp [val], Nat.zero_le _, rfl⟩, hblk, hext⟩
    case round =>
      obtain ⟨k, c, l, rfl, rfl, hinv, hbl, hex⟩ := hrel
      have hc1 := hinv.2.2.1
      have hk1 := hinv.2.2.2.2.1
      by_cases hlt2 : k < xs.length
      · have Hl1 := Lib.hid hinv.1
        have hcell : wr.cell? ⟨g, k, none⟩ = some (.int .u64 (xs[k] : Int)) := by
          rw [hbl.cell k (by have := hinv.1; omega), drop_get hinv.2.2.2.2.2 (by have := hinv.1; omega) hlt2]
        have hfree := hbl.free k
        have hcc := hsub xs[k] (gD ys k) c hc1
        have Hinv := Lib.hid (hinv.step hlt2 dx dy)
        have hr2' := hr2.ext hex
        have Hset := fun y => Lib.hid (BlkAt.set hbl k y (by have := hinv.1; omega))
        generalize (xs[k] + W - gD ys k - c) % W = dd at hcc Hinv
        generalize (if xs[k] < gD ys k + c then 1 else 0 : Nat) = bb at hcc Hinv
        clear hinv hsub hblk hext
        go_wp2_with fail
        refine wp_region_store g 15 [isV (.slice (some ⟨g, 0, none⟩) xs.length cap1), isV (.int .i64 k), isV (.slice (some ⟨g, 0, none⟩) xs.length cap1), isV (.int .i64 k), isV (.pointer (some ⟨g, k, none⟩)), isV (.int .u64 xs[k]), isV (.slice ad2 ys.length cap2), isV (.int .i64 k), isV (.int .u64 (gD ys k)), isV (.int .u64 c),
            isV (.tuple #[.int .u64 (dd : Int), .int .u64 (bb : Int)]),
            isV (.tuple #[.int .u64 (dd : Int), .int .u64 (bb : Int)]),
            isV (.int .u64 (dd : Int)), isV (.int .u64 (bb : Int)), isV (.pointer (some ⟨g, k, none⟩)),
            fun _ w => BlkAt 79 .u64 w g (l.set k dd) rest, isV (.int .u64 (bb : Int))]
          [(9, 16, 6)] [5, 8, 15]
          (by kernel_rfl) (by kernel_rfl) (fun f => (by simp only [fillR, fillL, List.setIfInBounds_toArray, List.set_cons_succ, List.set_cons_zero, Nat.reduceAdd]; rfl)) ?_ ?_ ?_ ?_
        · repeat (first | exact trivial | refine ⟨fun v wa wb h hp => (by first | exact hp | exact BlkAt.ext hp h), ?_⟩)
        · repeat (first | exact trivial | refine ⟨fun v wa wb h hp => (by first | exact hp | exact BlkAt.ext hp h), ?_⟩)
        · refine ⟨?_, ?_, ?_, ?_, ?_, ?o5, ?_, ?_, ?o8, ?_, ?_, ?_, ?_, ?_, ?_, ?o15, ?_, trivial⟩
          case o5 =>
            intro f w2 hG hpre hp hl
            simp [PostsOf, pl, isV, Region.binds] at hp
            simp [PreFacts] at hpre
            have hcell2 := hpre.cell hcell
            simp only [OpGoal]
            go_simp
            exact ⟨_, rfl, Ext.refl _, rfl⟩
          case o8 =>
            intro f w2 hG hpre hp hl
            simp [PostsOf, pl, isV, Region.binds] at hp
            simp [PreFacts] at hpre
            simp only [OpGoal]
            go_simp
            refine (at_calls ad2 cap2 ys k w2 (hr2'.ext hpre) (by omega) (by omega)).mono ?_
            rintro e w' ⟨rfl, rfl⟩
            exact ⟨_, rfl, Ext.refl _, rfl⟩
          case o15 =>
            intro f w2 hG hpre hp hl
            simp [PostsOf, pl, isV, Region.binds] at hp
            simp [PreFacts] at hpre
            have hb2 := hbl.ext hpre
            obtain ⟨old, hout⟩ := hb2.got k (by have := Hl1.out; omega)
            have hfree2 := hb2.free k
            simp only [OpGoal]
            go_simp
            exact ⟨undef, rfl, Chg.setCell _ _ _ _, hb2.set k _ (by have := Hl1.out; omega)⟩
          all_goals
            intro f w2 hG hpre hp hl
            simp [PostsOf, pl, isV, Region.binds] at hp
            simp [LateFacts] at hl
            simp only [OpGoal]
            go_simp
            exact ⟨_, rfl, Ext.refl _, rfl⟩
        · intro f w2 hG hp
          simp [AllPosts, pl, isV] at hp
          obtain ⟨p0, p1, p2, p3, p4, p5, p6, p7, p8, p9, p10, p11, p12, p13, p14, p15, p16⟩ := hp
          have P15 := Lib.hid p15
          clear p15
          go_wp2
          go_roundw
          case rel => exact ⟨k + 1, bb, _, rfl, p16, Hinv.out, P15.out, hex.step hG hg⟩
          case measure => simp [intOf]; omega
      · have hk : k = xs.length := by omega
        subst hk
        have Hfin := Lib.hid (hinv.finish hlt hle'.out)
        have Hd := Lib.hid hinv.2.1
        have Hl1 := Lib.hid hinv.1
        clear hinv hsub hblk hext hr2 hr
        go_wp2_with fail
        refine (bare_calls (some ⟨g, 0, none⟩) xs.length cap1 l _ Hl1.out hbl.rd (by omega) hcap1).mono ?_
        rintro e w' ⟨rfl, rfl⟩
        go_wp2
        go_ret
        exact ⟨_, rfl, hbl.frN hg W_gt Hd.out Hfin.out (by rw [Hl1.out]; exact hrest) hcap1, hex⟩
/-- less: x - y, y no greater. -/
theorem less_calls (v u : Value) (x y : Nat) (w : World) (hv : IsN .u64 W w v x) (hu : IsC .u64 W w u y) (hle : y ≤ x) :
    Calls Try.prog 98 #[v, u] w fun e w' => ∃ v', e = .returned v' ∧ FrN 79 .u64 W w.heap.size w' v' (x - y) ∧ Ext w w' := by
  obtain ⟨xs, ⟨ad, cap, rfl, hlc, hcap, hr⟩, hlen, hd, rfl⟩ := hv
  obtain ⟨ad2, cap2, rfl, hlc2, hcap2, hr2⟩ := hu
  rw [LIM_eq] at hlen
  have h := dg_len_mono W_gt hle
  have h2 := dg_len_val W_gt hd
  have := less_core ad ad2 cap cap2 xs (dg W y) w hr hr2 hlc hcap hlen (by omega) (by rw [dg_val W_gt]; exact hle) hd (dg_can W_gt y).1
  rwa [dg_val W_gt] at this
end Go.Proofs.Ytnefipinicfegaa
