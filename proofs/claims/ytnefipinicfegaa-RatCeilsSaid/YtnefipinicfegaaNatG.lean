/-
  nat: numbers times a power of two, and divided by one, by fewer than 64 bits.
-/
import Derived.Test.YtnefipinicfegaaNatF
namespace Go.Proofs.Ytnefipinicfegaa
open Go.RowKit
set_option linter.unusedVariables false
set_option linter.unusedSimpArgs false

def ShlInv (s : Nat) (xs l : List Nat) (i c : Nat) : Prop :=
  l.length = xs.length ∧ Dig W l ∧ c < 2 ^ s ∧ val W (l.take i) + W ^ i * c = val W (xs.take i) * 2 ^ s ∧ i ≤ xs.length ∧ l.drop i = xs.drop i

theorem pow_split (s : Nat) (hs : s ≤ 64) : W = 2 ^ (64 - s) * 2 ^ s := by
  rw [← Nat.pow_add, Nat.sub_add_cancel hs, W_eq]
theorem shl_mod (x s : Nat) (hs : s ≤ 64) : (x * 2 ^ s) % W = (x % 2 ^ (64 - s)) * 2 ^ s := by
  rw [pow_split s hs, Nat.mul_mod_mul_right]
theorem shl_div (x s : Nat) (hs : s ≤ 64) : (x * 2 ^ s) / W = x / 2 ^ (64 - s) := by
  rw [pow_split s hs, Nat.mul_div_mul_right _ _ (Nat.pow_pos (by omega))]
theorem shl_lt (x s c : Nat) (hs : s ≤ 64) (hc : c < 2 ^ s) : (x * 2 ^ s) % W + c < W := by
  rw [shl_mod x s hs]
  have h1 : x % 2 ^ (64 - s) + 1 ≤ 2 ^ (64 - s) := Nat.mod_lt _ (Nat.pow_pos (by omega))
  have h2 := Nat.mul_le_mul_right (2 ^ s) h1
  rw [← pow_split s hs, Nat.add_mul] at h2
  omega
theorem shl_word (x s c : Nat) (hs : s ≤ 64) (hc : c < 2 ^ s) : bits .or .u64 (IntKind.u64.wrap ((x : Int) * 2 ^ s)) (c : Int) = (((x * 2 ^ s) % W + c : Nat) : Int) := by
  have hlt := shl_lt x s c hs hc
  have e1 : IntKind.u64.wrap ((x : Int) * 2 ^ s) = (((x * 2 ^ s) % W : Nat) : Int) := by
    rw [IntKind.wrap_u64, W_eq]
    have : ((x : Int) * 2 ^ s) = ((x * 2 ^ s : Nat) : Int) := by rw [Int.natCast_mul, Int.natCast_pow]; rfl
    rw [this]
    omega
  rw [e1, u64_or_nat _ _ (by rw [W_eq] at hlt ⊢; omega) (by rw [W_eq] at hlt; omega)]
  congr 1
  rw [shl_mod x s hs, Nat.mul_comm, ← Nat.two_pow_add_eq_or_of_lt hc]

theorem ShlInv.step {s : Nat} {xs l : List Nat} {i c : Nat} (h : ShlInv s xs l i c) (hx : i < xs.length) (hs : s ≤ 64) (dx : Dig W xs) :
    ShlInv s xs (l.set i ((xs[i] * 2 ^ s) % W + c)) (i + 1) (xs[i] / 2 ^ (64 - s)) := by
  obtain ⟨h1, h2, h3, h4, h5, h6⟩ := h
  refine ⟨by simpa using h1, h2.set (shl_lt _ _ _ hs h3), ?_, ?_, by omega, ?_⟩
  · refine Nat.div_lt_of_lt_mul ?_
    rw [← pow_split s hs]; exact dx.get hx
  · rw [val_take_succ _ _ (by simp; omega), List.getElem_set_self, List.take_set_of_le (Nat.le_refl _), val_take_succ xs i hx, ← shl_div _ _ hs]
    have e := Nat.mod_add_div (xs[i] * 2 ^ s) W
    have e2 := congrArg (W ^ i * ·) e
    simp only [Nat.mul_add] at e2
    rw [Nat.pow_succ, Nat.mul_assoc, Nat.mul_add, Nat.add_mul, Nat.mul_assoc (W ^ i) xs[i]]
    omega
  · rw [List.drop_set_of_lt (by omega)]
    have := congrArg (List.drop 1) h6
    simpa [List.drop_drop, Nat.add_comm] using this

theorem ShlInv.finish {s : Nat} {xs l : List Nat} {c : Nat} (h : ShlInv s xs l xs.length c) (hs : s < 64) : Dig W (l ++ [c]) ∧ val W (l ++ [c]) = val W xs * 2 ^ s := by
  obtain ⟨h1, h2, h3, h4, h5, h6⟩ := h
  have hc : c < W := Nat.lt_of_lt_of_le h3 (by rw [pow_split s (by omega)]; exact Nat.le_mul_of_pos_left _ (Nat.pow_pos (by omega)))
  refine ⟨h2.append (Dig.cons hc Dig.nil), ?_⟩
  rw [List.take_of_length_le (by omega), List.take_of_length_le (Nat.le_refl _)] at h4
  rw [val_append, val_singleton, h1]
  exact h4

set_option maxHeartbeats 2000000 in
set_option maxRecDepth 100000 in
theorem shl_core (ad : Option Addr) (cap : Nat) (xs : List Nat) (s : Nat) (w : World) (hr : Rd w ad (vals .u64 xs)) (hlc : xs.length ≤ cap) (hcap : cap ≤ 9223372036854775807)
    (hlen : xs.length ≤ 17592186044160) (dx : Dig W xs) (hs : s < 64) :
    Calls Try.prog 107 #[.slice ad xs.length cap, .int .i64 (s : Int)] w fun e w' => ∃ v', e = .returned (.tuple #[v', .int .i64 0]) ∧ FrN 79 .u64 W w.heap.size w' v' (val W xs * 2 ^ s) ∧ Ext w w' := by
  have htl := tz_length_le xs
  have hq : (s : Int) / 64 = ((0 : Nat) : Int) := by omega
  have hq2 : (s : Int) % 64 = (s : Int) := by omega
  have htr : Rd w ad (vals .u64 (tz xs)) := by rw [← tz_take, vals_take]; exact hr.take _
  have Htv := Lib.hid (val_tz (B := W) xs)
  have dt := dx.tz
  go_enter Try.func107, Try.ntmps107
  go_wp2_with fail
  refine (bare_calls ad _ cap xs w rfl hr hlc hcap).mono ?_
  rintro e w' ⟨rfl, rfl⟩
  generalize tz xs = p at *
  go_wp2_with fail
  refine (moved_calls ad _ cap p 0 w rfl htr (by omega)).mono ?_
  rintro e w1 ⟨v1, rfl, hfr, hext⟩
  simp only [List.replicate_zero, List.nil_append] at hfr
  rcases Nat.eq_zero_or_pos s with h0 | h0
  · subst h0
    obtain ⟨ad1, cap1, rfl, hlc1, hcap1, hown⟩ := hfr
    go_wp2_with fail
    refine (bare_calls ad1 p.length cap1 p w1 rfl hown.rd hlc1 hcap1).mono ?_
    rintro e w' ⟨rfl, rfl⟩
    go_wp2
    go_ret2
    refine ⟨_, rfl, ?_, hext⟩
    have ht := tz_eq_dg W_gt dt
    rw [Nat.pow_zero, Nat.mul_one, ← Htv.out]
    show FrL _ _ _ _ _ (dg W (val W p))
    rw [← ht]
    exact frL_tz ⟨ad1, cap1, rfl, hlc1, hcap1, hown⟩
  · rcases Nat.eq_zero_or_pos p.length with hp | hp
    · have hp' : p = [] := List.eq_nil_of_length_eq_zero hp
      subst hp'
      obtain ⟨ad1, cap1, rfl, hlc1, hcap1, hown⟩ := hfr
      go_wp2_with fail
      refine wp_loop_rounds 1 ?_
      rw [rounds_succ]
      have hs1 := hext.size
      have hfr1 : FrL 79 .u64 w.heap.size w1 (.slice ad1 0 cap1) [] := ⟨ad1, cap1, rfl, Nat.zero_le _, hcap1, hown⟩
      go_wp2_with (at_builtin; refine wpList_append_fr _ rfl _ _ 22 rfl 79 .u64 8 Try.underlying22 info79 w.heap.size _ [] [0] (some ⟨w1.heap.size, 0, none⟩) 1 1 rfl rfl rfl (hfr1.alloc _) (Rd.new1 w1 .u64 0 _) (by simp) (by simp) (by simp; omega) ?_)
      intro v2 w2 hfr2 hgr2
      have hext2 := Ext.step_own (hext.alloc (.cells #[.int .u64 0] 79)) hgr2 hfr1.block
      obtain ⟨ad2, cap2, rfl, hlc2, hcap2, hown2⟩ := hfr2
      go_wp2_with fail
      refine (bare_calls ad2 1 cap2 [0] w2 rfl hown2.rd hlc2 hcap2).mono ?_
      rintro e w' ⟨rfl, rfl⟩
      go_wp2
      go_ret2
      refine ⟨_, rfl, ?_, hext2⟩
      rw [← Htv.out]
      simp only [val, Nat.zero_mul]
      exact frL_tz (xs := [0]) ⟨ad2, cap2, rfl, hlc2, hcap2, hown2⟩
    · obtain ⟨g, rest, cap1, rfl, hg, hblk, hrest, hcap1⟩ := hfr.blk hp
      go_wp2_with fail
      go_loopw [8, 29] (fun c i wr => ∃ (k cc : Nat) (l : List Nat), i = .int .i64 k ∧ c = .int .u64 cc ∧ ShlInv s p l k cc ∧ BlkAt 79 .u64 wr g l rest ∧ Ext w wr) (fun _ i _ => p.length - (intOf i).toNat)
      case atStart => exact ⟨0, 0, _, rfl, rfl, ⟨rfl, dt, Nat.pow_pos (by omega), by simp [val], Nat.zero_le _, rfl⟩, hblk, hext⟩
      case round =>
        obtain ⟨k, c, l, rfl, rfl, hinv, hbl, hex⟩ := hrel
        have hk1 := hinv.2.2.2.2.1
        have Hl1 := Lib.hid hinv.1
        by_cases hlt : k < p.length
        · have hcell : wr.cell? ⟨g, k, none⟩ = some (.int .u64 (p[k] : Int)) := by
            rw [hbl.cell k (by have := hinv.1; omega), drop_get hinv.2.2.2.2.2 (by have := hinv.1; omega) hlt]
          have hfree := hbl.free k
          have Hst := Lib.hid (hinv.step hlt (by omega) dt)
          have Hw := Lib.hid (shl_word p[k] s c (by omega) hinv.2.2.1)
          go_wp2_with fail
          rw [Hw.out]
          go_roundw
          case rel => exact ⟨k + 1, _, _, by go_num, by go_num, Hst.out, BlkAt.set (w := wr) hbl k _ (by have := Hl1.out; omega), hex.setCell hg _⟩
          case measure => simp [intOf]; omega
        · have hk : k = p.length := by omega
          subst hk
          have Hfin := Lib.hid (hinv.finish hs)
          have hs1 := hex.size
          have hfr1 := hbl.fr hg (cap := cap1) (by rw [Hl1.out]; exact hrest) hcap1
          rw [Hl1.out] at hfr1
          clear hinv
          go_wp2_with (at_builtin; refine wpList_append_fr _ rfl _ _ 22 rfl 79 .u64 8 Try.underlying22 info79 w.heap.size _ l [c] (some ⟨wr.heap.size, 0, none⟩) 1 1 rfl rfl rfl (hfr1.alloc _) (Rd.new1 wr .u64 c _) (by rw [Hl1.out]; omega) (by rw [Hl1.out]; omega) (by simp; omega) ?_)
          intro v2 w2 hfr2 hgr2
          have hext2 := Ext.step_own (hex.alloc (.cells #[.int .u64 (c : Int)] 79)) hgr2 hfr1.block
          obtain ⟨ad2, cap2, rfl, hlc2, hcap2, hown2⟩ := hfr2
          have HL2 : Hid ((l ++ [c]).length = p.length + 1) := by show (l ++ [c]).length = p.length + 1; rw [List.length_append, Hl1.out]; rfl
          go_wp2_with fail
          refine (bare_calls ad2 _ cap2 (l ++ [c]) w2 (by simp) hown2.rd (by simpa using hlc2) hcap2).mono ?_
          rintro e w' ⟨rfl, rfl⟩
          go_wp2
          go_ret2
          refine ⟨_, rfl, ?_, hext2⟩
          have ht := tz_eq_dg W_gt Hfin.out.1
          rw [← Htv.out, ← Hfin.out.2]
          show FrL _ _ _ _ _ (dg W (val W (l ++ [c])))
          rw [← ht]
          exact frL_tz ⟨ad2, cap2, rfl, hlc2, hcap2, hown2⟩

/-- nat.Shl, by fewer than 64 bits. -/
theorem shl_calls (v : Value) (x s : Nat) (w : World) (hv : IsN .u64 W w v x) (hs : s < 64) :
    Calls Try.prog 107 #[v, .int .i64 (s : Int)] w fun e w' => ∃ v', e = .returned (.tuple #[v', .int .i64 0]) ∧ FrN 79 .u64 W w.heap.size w' v' (x * 2 ^ s) ∧ Ext w w' := by
  obtain ⟨xs, ⟨ad, cap, rfl, hlc, hcap, hr⟩, hlen, hd, rfl⟩ := hv
  rw [LIM_eq] at hlen
  exact shl_core ad cap xs s w hr hlc hcap hlen hd hs

/-! Division by a power of two. -/
def ShrInv (s : Nat) (xs l : List Nat) (i : Nat) : Prop :=
  l.length = xs.length ∧ Dig W l ∧ 2 ^ s * val W (l.take i) + gD xs 0 % 2 ^ s = val W (xs.take i) + W ^ i * (gD xs i % 2 ^ s) ∧ i ≤ xs.length ∧ l.drop i = xs.drop i

theorem shr_word (x y s : Nat) (hs : s ≤ 64) (hx : x < W) : bits .or .u64 ((x : Int) / 2 ^ s) (IntKind.u64.wrap ((y : Int) * 2 ^ (64 - s))) = ((x / 2 ^ s + (y * 2 ^ (64 - s)) % W : Nat) : Int) ∧ x / 2 ^ s + (y * 2 ^ (64 - s)) % W < W ∧
    2 ^ s * (x / 2 ^ s + (y * 2 ^ (64 - s)) % W) + x % 2 ^ s = x + W * (y % 2 ^ s) := by
  have hp := pow_split s hs
  have hc : x / 2 ^ s < 2 ^ (64 - s) := by
    refine Nat.div_lt_of_lt_mul ?_
    rw [Nat.mul_comm, ← hp]; exact hx
  have hm := shl_mod y (64 - s) (by omega)
  rw [show 64 - (64 - s) = s by omega] at hm
  have hlt := shl_lt y (64 - s) _ (by omega) hc
  refine ⟨?_, by omega, ?_⟩
  · have e0 : ((x : Int) / 2 ^ s) = ((x / 2 ^ s : Nat) : Int) := by rw [Int.natCast_ediv, Int.natCast_pow]; rfl
    have e1 : IntKind.u64.wrap ((y : Int) * 2 ^ (64 - s)) = (((y * 2 ^ (64 - s)) % W : Nat) : Int) := by
      rw [IntKind.wrap_u64, W_eq]
      have : ((y : Int) * 2 ^ (64 - s)) = ((y * 2 ^ (64 - s) : Nat) : Int) := by rw [Int.natCast_mul, Int.natCast_pow]; rfl
      rw [this]
      omega
    rw [e0, e1, u64_or_nat _ _ (by rw [W_eq] at hlt; omega) (by rw [W_eq] at hlt ⊢; omega)]
    congr 1
    rw [hm, Nat.or_comm, Nat.mul_comm (y % 2 ^ s), ← Nat.two_pow_add_eq_or_of_lt hc]
    omega
  · rw [hm, Nat.mul_add]
    have e1 := Nat.mod_add_div x (2 ^ s)
    have e2 : 2 ^ s * (y % 2 ^ s * 2 ^ (64 - s)) = W * (y % 2 ^ s) := by rw [hp]; ac_rfl
    omega

theorem ShrInv.step {s : Nat} {xs l : List Nat} {i : Nat} (h : ShrInv s xs l i) (hx : i < xs.length) (hs : s ≤ 64) (dx : Dig W xs) :
    ShrInv s xs (l.set i (gD xs i / 2 ^ s + (gD xs (i + 1) * 2 ^ (64 - s)) % W)) (i + 1) := by
  obtain ⟨h1, h2, h3, h4, h5⟩ := h
  have hW : 0 < W := by rw [W_eq]; omega
  obtain ⟨_, b, e⟩ := shr_word (gD xs i) (gD xs (i + 1)) s hs (dx.gD hW i)
  generalize gD xs i / 2 ^ s + (gD xs (i + 1) * 2 ^ (64 - s)) % W = d at *
  refine ⟨by simpa using h1, h2.set b, ?_, by omega, ?_⟩
  · rw [val_take_succ _ _ (by simp; omega), List.getElem_set_self, List.take_set_of_le (Nat.le_refl _), take_getD xs i]
    have e2 := congrArg (W ^ i * ·) e
    simp only [Nat.mul_add] at e2
    have e3 : 2 ^ s * (W ^ i * d) = W ^ i * (2 ^ s * d) := by ac_rfl
    rw [Nat.pow_succ, Nat.mul_assoc, Nat.mul_add, e3]
    omega
  · rw [List.drop_set_of_lt (by omega)]
    have := congrArg (List.drop 1) h5
    simpa [List.drop_drop, Nat.add_comm] using this

theorem ShrInv.finish {s : Nat} {xs l : List Nat} (h : ShrInv s xs l xs.length) : val W l = val W xs / 2 ^ s := by
  obtain ⟨h1, h2, h3, h4, h5⟩ := h
  rw [List.take_of_length_le (by omega), List.take_of_length_le (Nat.le_refl _), gD_ge (l := xs) (i := xs.length) (by omega), Nat.zero_mod, Nat.mul_zero, Nat.add_zero] at h3
  have hp : 0 < 2 ^ s := Nat.pow_pos (by omega)
  rw [← h3, Nat.mul_add_div hp, Nat.div_eq_of_lt (Nat.mod_lt _ hp), Nat.add_zero]

set_option maxHeartbeats 2000000 in
set_option maxRecDepth 100000 in
theorem shr_core (ad : Option Addr) (cap : Nat) (xs : List Nat) (s : Nat) (w : World) (hr : Rd w ad (vals .u64 xs)) (hlc : xs.length ≤ cap) (hcap : cap ≤ 9223372036854775807)
    (hlen : xs.length ≤ 17592186044160) (dx : Dig W xs) (hs : s < 64) :
    Calls Try.prog 110 #[.slice ad xs.length cap, .int .i64 (s : Int)] w fun e w' => ∃ v', e = .returned (.tuple #[v', .int .i64 0]) ∧ FrN 79 .u64 W w.heap.size w' v' (val W xs / 2 ^ s) ∧ Ext w w' := by
  have htl := tz_length_le xs
  have hq : (s : Int) / 64 = 0 := by omega
  have hq2 : (s : Int) % 64 = (s : Int) := by omega
  have htr : Rd w ad (vals .u64 (tz xs)) := by rw [← tz_take, vals_take]; exact hr.take _
  have Htv := Lib.hid (val_tz (B := W) xs)
  have dt := dx.tz
  go_enter Try.func110, Try.ntmps110
  go_wp2_with fail
  refine (bare_calls ad _ cap xs w rfl hr hlc hcap).mono ?_
  rintro e w' ⟨rfl, rfl⟩
  generalize tz xs = p at *
  have hmin : min (0 : Int) (p.length : Int) = 0 := by omega
  go_wp2_with fail
  refine (clone_calls ad _ cap p w rfl htr (by omega) hcap (by rw [BIG_eq]; omega)).mono ?_
  rintro e w1 ⟨v1, rfl, hfr, hext⟩
  clear htr hr
  rcases Nat.eq_zero_or_pos s with h0 | h0
  · subst h0
    obtain ⟨ad1, cap1, rfl, hlc1, hcap1, hown⟩ := hfr
    go_wp2_with fail
    refine (bare_calls ad1 p.length cap1 p w1 rfl hown.rd hlc1 hcap1).mono ?_
    rintro e w' ⟨rfl, rfl⟩
    go_wp2
    go_ret2
    refine ⟨_, rfl, ?_, hext⟩
    have ht := tz_eq_dg W_gt dt
    rw [Nat.pow_zero, Nat.div_one, ← Htv.out]
    show FrL _ _ _ _ _ (dg W (val W p))
    rw [← ht]
    exact frL_tz ⟨ad1, cap1, rfl, hlc1, hcap1, hown⟩
  · rcases Nat.eq_zero_or_pos p.length with hp | hp
    · have hp' : p = [] := List.eq_nil_of_length_eq_zero hp
      subst hp'
      obtain ⟨ad1, cap1, rfl, hlc1, hcap1, hown⟩ := hfr
      go_wp2_with fail
      refine wp_loop_rounds 1 ?_
      rw [rounds_succ]
      go_wp2_with fail
      refine (bare_calls ad1 0 cap1 [] _ rfl (.inl rfl) (by omega) hcap1).mono ?_
      rintro e w' ⟨rfl, rfl⟩
      go_wp2
      go_ret2
      refine ⟨_, rfl, ?_, hext⟩
      rw [← Htv.out]
      simp only [val, Nat.zero_div]
      exact ⟨ad1, cap1, rfl, Nat.zero_le _, hcap1, hown⟩
    · obtain ⟨g, rest, cap1, rfl, hg, hblk, hrest, hcap1⟩ := hfr.blk hp
      go_wp2_with fail
      go_loopw [32] (fun i wr => ∃ (k : Nat) (l : List Nat), i = .int .i64 k ∧ ShrInv s p l k ∧ BlkAt 79 .u64 wr g l rest ∧ Ext w wr) (fun i _ => p.length - (intOf i).toNat)
      case atStart => exact ⟨0, _, rfl, ⟨rfl, dt, by simp [val], Nat.zero_le _, rfl⟩, hblk, hext⟩
      case round =>
        obtain ⟨k, l, rfl, hinv, hbl, hex⟩ := hrel
        have hk1 := hinv.2.2.2.1
        have Hl1 := Lib.hid hinv.1
        clear hblk hext
        by_cases hlt : k < p.length
        · have hcell : wr.cell? ⟨g, k, none⟩ = some (.int .u64 (gD p k : Int)) := by
            rw [gD_lt hlt, hbl.cell k (by have := hinv.1; omega), drop_get hinv.2.2.2.2 (by have := hinv.1; omega) hlt]
          have hfree := hbl.free k
          have Hst := Lib.hid (hinv.step hlt (by omega) dt)
          have hb1 := BlkAt.set hbl k (gD p k / 2 ^ s) (by have := hinv.1; omega)
          rw [show ((gD p k / 2 ^ s : Nat) : Int) = (gD p k : Int) / 2 ^ s by rw [Int.natCast_ediv, Int.natCast_pow]; rfl] at hb1
          have hc1 := hb1.cell k (by rw [List.length_set]; have := hinv.1; omega)
          rw [List.getElem_set_self, show ((gD p k / 2 ^ s : Nat) : Int) = (gD p k : Int) / 2 ^ s by rw [Int.natCast_ediv, Int.natCast_pow]; rfl] at hc1
          by_cases hlt2 : k + 1 < p.length
          · have hc2 := hb1.cell (k + 1) (by rw [List.length_set]; have := hinv.1; omega)
            rw [List.getElem_set_ne (by omega), drop_get (i := k + 1) (l := l) (m := p) (by have := congrArg (List.drop 1) hinv.2.2.2.2; simpa [List.drop_drop, Nat.add_comm] using this) (by have := hinv.1; omega) hlt2, ← gD_lt hlt2] at hc2
            have hw := (shr_word (gD p k) (gD p (k + 1)) s (by omega) (dt.gD (by rw [W_eq]; omega) k)).1
            generalize gD p k / 2 ^ s + (gD p (k + 1) * 2 ^ (64 - s)) % W = d at hw Hst
            generalize gD p (k + 1) = y at *
            clear hinv
            have hi1 : (k : Int) + 1 < (p.length : Int) := by omega
            go_wp2_with fail
            generalize gD p k = x at *
            have wr1 : IntKind.i64.wrap ((k : Int) + 1) = (k : Int) + 1 := IntWalk.i64_in _ (by omega)
            have wr2 : IntKind.u64.wrap (64 - (s : Int)) = 64 - (s : Int) := IntWalk.u64_in _ (by omega)
            have wr3 : (64 - (s : Int)).toNat = 64 - s := by omega
            refine wp_region_store g 14 [isV (.slice (some ⟨g, 0, none⟩) p.length cap1), isV (.int .i64 k), isV (.pointer (some ⟨g, k, none⟩)), isV (.int .u64 ((x : Int) / 2 ^ s)), isV (.slice (some ⟨g, 0, none⟩) p.length cap1), isV (.int .i64 k), isV (.int .i64 ((k : Int) + 1)), isV (.pointer (some ⟨g, k + 1, none⟩)), isV (.int .u64 y),
                isV (.int .u64 s), isV (.int .u64 (64 - (s : Int))), isV (.int .u64 (IntKind.u64.wrap ((y : Int) * 2 ^ (64 - s)))), isV (.int .u64 (d : Int)), isV (.pointer (some ⟨g, k, none⟩)),
                fun _ w => BlkAt 79 .u64 w g (l.set k d) rest]
              [] [3, 8, 14]
              (by kernel_rfl) (by kernel_rfl) (fun f => (by simp only [fillR, fillL, List.setIfInBounds_toArray, List.set_cons_succ, List.set_cons_zero, Nat.reduceAdd]; rfl)) ?_ ?_ ?_ ?_
            · repeat (first | exact trivial | refine ⟨fun v wa wb h hp => (by first | exact hp | exact BlkAt.ext hp h), ?_⟩)
            · repeat (first | exact trivial | refine ⟨fun v wa wb h hp => (by first | exact hp | exact BlkAt.ext hp h), ?_⟩)
            · refine ⟨?_, ?_, ?_, ?o3, ?_, ?_, ?_, ?_, ?o8, ?_, ?_, ?_, ?_, ?_, ?o14, trivial⟩
              case o3 =>
                intro f w2 hG hpre hp hl
                simp [PostsOf, pl, isV, Region.binds] at hp
                simp [PreFacts] at hpre
                have hcell2 := hpre.cell hc1
                simp only [OpGoal]
                go_simp
                exact ⟨_, rfl, Ext.refl _, rfl⟩
              case o8 =>
                intro f w2 hG hpre hp hl
                simp [PostsOf, pl, isV, Region.binds] at hp
                simp [PreFacts] at hpre
                have hcell2 := hpre.cell hc2
                simp only [OpGoal]
                go_simp
                exact ⟨_, rfl, Ext.refl _, rfl⟩
              case o14 =>
                intro f w2 hG hpre hp hl
                simp [PostsOf, pl, isV, Region.binds] at hp
                simp [PreFacts] at hpre
                have hb2 := hb1.ext hpre
                obtain ⟨old, hout⟩ := hb2.got k (by rw [List.length_set]; have := Hl1.out; omega)
                have hfree2 := hb2.free k
                simp only [OpGoal]
                go_simp
                refine ⟨undef, rfl, Chg.setCell _ _ _ _, ?_⟩
                have := hb2.set k d (by rw [List.length_set]; have := Hl1.out; omega)
                rwa [List.set_set] at this
              all_goals
                intro f w2 hG hpre hp hl
                simp [PostsOf, pl, isV, Region.binds] at hp
                simp only [OpGoal]
                go_simp
                exact ⟨_, rfl, Ext.refl _, rfl⟩
            · intro f w2 hG hp
              simp [AllPosts, pl, isV] at hp
              obtain ⟨p0, p1, p2, p3, p4, p5, p6, p7, p8, p9, p10, p11, p12, p13, p14⟩ := hp
              have P14 := Lib.hid p14
              clear p14
              go_wp2
              go_roundw
              case rel => exact ⟨k + 1, _, by go_num, Hst.out, P14.out, (hex.setCell hg _).step hG hg⟩
              case measure => simp [intOf]; omega
          · have hz : gD p (k + 1) = 0 := gD_ge (by omega)
            rw [hz, Nat.zero_mul, Nat.zero_mod, Nat.add_zero] at Hst
            clear hinv
            go_wp2_with fail
            go_roundw
            case rel => exact ⟨k + 1, _, by go_num, Hst.out, hb1, hex.setCell hg _⟩
            case measure => simp [intOf]; omega
        · have hk : k = p.length := by omega
          subst hk
          have Hfin := Lib.hid hinv.finish
          have Hd := Lib.hid hinv.2.1
          clear hinv
          go_wp2_with fail
          refine (bare_calls (some ⟨g, 0, none⟩) p.length cap1 l _ Hl1.out hbl.rd (by omega) hcap1).mono ?_
          rintro e w' ⟨rfl, rfl⟩
          go_wp2
          go_ret2
          exact ⟨_, rfl, hbl.frN hg W_gt Hd.out (by rw [← Htv.out]; exact Hfin.out) (by rw [Hl1.out]; exact hrest) hcap1, hex⟩

/-- nat.Shr, by fewer than 64 bits. -/
theorem shr_calls (v : Value) (x s : Nat) (w : World) (hv : IsN .u64 W w v x) (hs : s < 64) :
    Calls Try.prog 110 #[v, .int .i64 (s : Int)] w fun e w' => ∃ v', e = .returned (.tuple #[v', .int .i64 0]) ∧ FrN 79 .u64 W w.heap.size w' v' (x / 2 ^ s) ∧ Ext w w' := by
  obtain ⟨xs, ⟨ad, cap, rfl, hlc, hcap, hr⟩, hlen, hd, rfl⟩ := hv
  rw [LIM_eq] at hlen
  exact shr_core ad cap xs s w hr hlc hcap hlen hd hs
end Go.Proofs.Ytnefipinicfegaa
