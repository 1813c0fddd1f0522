/-
  nat: products, word by word.
-/
import Derived.Test.YtnefipinicfegaaNatD
namespace Go.Proofs.Ytnefipinicfegaa
open Go.RowKit
set_option linter.unusedVariables false
set_option linter.unusedSimpArgs false

theorem mul64_calls (x y hi lo : Nat) (w : World) (hx : x < W) (hy : y < W) (h1 : x * y / W = hi) (h2 : x * y % W = lo) :
    Calls Try.prog 111 #[.int .u64 (x : Int), .int .u64 (y : Int)] w fun e w' => e = .returned (.tuple #[.int .u64 (hi : Int), .int .u64 (lo : Int)]) ∧ w = w' := by
  subst h1 h2
  rw [W_eq] at *
  exact (Try.bits_Mul64 x y hx hy w).mono fun e w' ⟨h1, h2⟩ => ⟨h1, h2.symm⟩

/-- Behind the places from i on there are noughts. -/
def ZeroFrom (l : List Nat) (i : Nat) : Prop := ∀ j, i ≤ j → gD l j = 0

def MulInv (xs ys l : List Nat) (i : Nat) : Prop :=
  l.length = xs.length + ys.length ∧ Dig W l ∧ val W l = val W (xs.take i) * val W ys ∧ ZeroFrom l (i + ys.length) ∧ i ≤ xs.length

def RowInv (xs ys l : List Nat) (i k c : Nat) : Prop :=
  l.length = xs.length + ys.length ∧ Dig W l ∧ val W l + c * W ^ (i + k) = val W (xs.take i) * val W ys + gD xs i * W ^ i * val W (ys.take k) ∧ ZeroFrom l (i + ys.length) ∧ k ≤ ys.length ∧ c < W

theorem gD_set_ne {l : List Nat} {i j y : Nat} (h : i ≠ j) : gD (l.set i y) j = gD l j := by
  simp [gD, List.getD, List.getElem?_set_ne h]
theorem val_set' (l : List Nat) (i y : Nat) (h : i < l.length) : val W (l.set i y) + gD l i * W ^ i = val W l + y * W ^ i := by
  rw [gD_lt h]; exact val_set l i y h
theorem ZeroFrom.set {l : List Nat} {n i y : Nat} (h : ZeroFrom l n) (hi : i < n) : ZeroFrom (l.set i y) n := fun j hj => by
  rw [gD_set_ne (by omega)]; exact h j hj

theorem RowInv.start {xs ys l : List Nat} {i : Nat} (h : MulInv xs ys l i) (hW : 0 < W) : RowInv xs ys l i 0 0 := by
  obtain ⟨h1, h2, h3, h4, h5⟩ := h
  exact ⟨h1, h2, by simp [val, h3], h4, Nat.zero_le _, hW⟩

theorem row_bound {x y p c B : Nat} (hx : x < B) (hy : y < B) (hp : p < B) (hc : c < B) : x * y + p + c < B * B := by
  obtain ⟨b, rfl⟩ : ∃ b, B = b + 1 := ⟨B - 1, by omega⟩
  have h1 : x * y ≤ b * b := Nat.mul_le_mul (by omega) (by omega)
  have h2 : (b + 1) * (b + 1) = b * b + b + b + 1 := by rw [Nat.add_mul, Nat.mul_add]; omega
  omega

theorem RowInv.step {xs ys l : List Nat} {i k c : Nat} (h : RowInv xs ys l i k c) (hx : i < xs.length) (hk : k < ys.length) (dx : Dig W xs) (dy : Dig W ys) (t q : Nat)
    (ht : (gD xs i * gD ys k + gD l (i + k) + c) % W = t) (hq : (gD xs i * gD ys k + gD l (i + k) + c) / W = q) :
    RowInv xs ys (l.set (i + k) t) i (k + 1) q := by
  obtain ⟨h1, h2, h3, h4, h5, h6⟩ := h
  have hW : 0 < W := by rw [W_eq]; omega
  have hlt : gD xs i * gD ys k + gD l (i + k) + c < W * W := row_bound (dx.gD hW i) (dy.gD hW k) (h2.gD hW _) h6
  refine ⟨by simpa using h1, h2.set (by rw [← ht]; exact Nat.mod_lt _ hW), ?_, h4.set (by omega), by omega, by rw [← hq]; exact Nat.div_lt_of_lt_mul hlt⟩
  have e1 := val_set' l (i + k) t (by omega)
  have e2 := Nat.mod_add_div (gD xs i * gD ys k + gD l (i + k) + c) W
  rw [ht, hq] at e2
  have e3 : val W (ys.take (k + 1)) = val W (ys.take k) + W ^ k * gD ys k := take_getD ys k
  have e4 : (t + W * q) * W ^ (i + k) = (gD xs i * gD ys k + gD l (i + k) + c) * W ^ (i + k) := by rw [e2]
  have e5 : gD xs i * W ^ i * (W ^ k * gD ys k) = gD xs i * gD ys k * W ^ (i + k) := by rw [Nat.pow_add]; ac_rfl
  have e6 : q * W ^ (i + (k + 1)) = W * q * W ^ (i + k) := by rw [← Nat.add_assoc, Nat.pow_succ]; ac_rfl
  rw [e3, Nat.mul_add, e5, e6]
  simp only [Nat.add_mul] at e4
  omega

theorem MulInv.next {xs ys l : List Nat} {i c : Nat} (h : RowInv xs ys l i ys.length c) (hx : i < xs.length) : MulInv xs ys (l.set (i + ys.length) c) (i + 1) := by
  obtain ⟨h1, h2, h3, h4, h5, h6⟩ := h
  refine ⟨by simpa using h1, h2.set h6, ?_, fun j hj => ?_, by omega⟩
  · have e1 := val_set' l (i + ys.length) c (by omega)
    rw [h4 _ (Nat.le_refl _)] at e1
    rw [List.take_of_length_le (Nat.le_refl _)] at h3
    have e2 : val W (xs.take (i + 1)) = val W (xs.take i) + W ^ i * gD xs i := take_getD xs i
    rw [e2, Nat.add_mul, Nat.mul_comm (W ^ i)]
    omega
  · rw [gD_set_ne (by omega)]; exact h4 j (by omega)

/-- The new carry, and what is written, by the words that the code adds. -/
theorem add64_run0 (x y : Nat) (w : World) :
    (callFunc 112 #[.int .u64 (x : Int), .int .u64 (y : Int), .int .u64 0]).run Try.prog w =
      .ok (.value (.tuple #[.int .u64 (((x + y) % W : Nat) : Int), .int .u64 (((x + y) / W : Nat) : Int)])) w := add64_run x y 0 (by omega) w

theorem words_row {x y p c B : Nat} (hB : 1 < B) (hx : x < B) (hy : y < B) (hp : p < B) (hc : c < B) :
    x * y / B + (x * y % B + p) / B ≤ B - 1 ∧ x * y / B + (x * y % B + p) / B + ((x * y % B + p) % B + c) / B ≤ B - 1 ∧
    ((x * y % B + p) % B + c) % B = (x * y + p + c) % B ∧ x * y / B + (x * y % B + p) / B + ((x * y % B + p) % B + c) / B = (x * y + p + c) / B := by
  have hlt := row_bound hx hy hp hc
  have e1 := Nat.mod_add_div (x * y) B
  have e2 := Nat.mod_add_div (x * y % B + p) B
  have e3 := Nat.mod_add_div ((x * y % B + p) % B + c) B
  have m3 : ((x * y % B + p) % B + c) % B < B := Nat.mod_lt _ (by omega)
  have tot : x * y + p + c = ((x * y % B + p) % B + c) % B + B * (x * y / B + (x * y % B + p) / B + ((x * y % B + p) % B + c) / B) := by
    simp only [Nat.mul_add]; omega
  have d : (x * y + p + c) / B = x * y / B + (x * y % B + p) / B + ((x * y % B + p) % B + c) / B := by
    rw [tot, Nat.add_mul_div_left _ _ (by omega), Nat.div_eq_of_lt m3, Nat.zero_add]
  have m : (x * y + p + c) % B = ((x * y % B + p) % B + c) % B := by
    rw [tot, Nat.add_mul_mod_self_left, Nat.mod_eq_of_lt m3]
  have b : (x * y + p + c) / B < B := Nat.div_lt_of_lt_mul hlt
  rw [d] at b
  refine ⟨?_, ?_, m.symm, d.symm⟩
  · generalize ((x * y % B + p) % B + c) / B = o at b
    generalize x * y / B + (x * y % B + p) / B = o2 at b ⊢
    omega
  · generalize x * y / B + (x * y % B + p) / B + ((x * y % B + p) % B + c) / B = o at b ⊢
    omega

set_option maxHeartbeats 2000000 in
set_option maxRecDepth 100000 in
theorem simple_core (ad ad2 : Option Addr) (cap cap2 : Nat) (xs ys : List Nat) (w : World) (hr : Rd w ad (vals .u64 xs)) (hr2 : Rd w ad2 (vals .u64 ys))
    (hlen : xs.length ≤ 17592186044160) (hlen2 : ys.length ≤ 17592186044160) (dx : Dig W xs) (dy : Dig W ys) :
    Calls Try.prog 97 #[.slice ad xs.length cap, .slice ad2 ys.length cap2] w fun e w' => ∃ v', e = .returned v' ∧ FrN 79 .u64 W w.heap.size w' v' (val W xs * val W ys) ∧ Ext w w' := by
  have hadd := add64_run0
  go_enter Try.func97, Try.ntmps97
  go_wp2_with (at_make; refine wpList_make_vals _ rfl _ _ 22 rfl 79 .u64 8 Try.underlying22 info79 .i64 .i64 _ _ (xs.length + ys.length) rfl rfl (by omega) (by omega) (by omega) (by omega) ?_)
  intro w1 g hext hg hblk
  go_wp2_with fail
  go_loopw [22] (fun i wr => ∃ (k : Nat) (l : List Nat), i = .int .i64 k ∧ MulInv xs ys l k ∧ BlkAt 79 .u64 wr g l [] ∧ Ext w wr) (fun i _ => xs.length - (intOf i).toNat)
  case atStart => exact ⟨0, _, rfl, ⟨by simp, Dig.replicate (by rw [W_eq]; omega) _, by simp [val, val_replicate], fun j _ => by simp [gD, List.getD, List.getElem?_replicate]; split <;> simp, Nat.zero_le _⟩, hblk, hext⟩
  case round =>
    obtain ⟨i, l, rfl, hinv, hbl, hex⟩ := hrel
    have hi1 := hinv.2.2.2.2
    clear hblk hext
    by_cases hlt : i < xs.length
    · obtain ⟨b, off, rfl, hcells⟩ := hr.at (by rw [vals_length]; omega)
      have hcell := hex.cell (hcells i _ (vals_get .u64 xs i hlt))
      rw [← gD_lt hlt] at hcell
      clear hcells
      have Hrow := Lib.hid (RowInv.start hinv (by rw [W_eq]; omega))
      clear hinv
      go_wp2_with fail
      obtain ⟨wo, rfl⟩ : ∃ wo : World, wo = wr := ⟨_, rfl⟩
      go_loopw [8, 29] (fun c kk wr => ∃ (k cc : Nat) (l : List Nat), kk = .int .i64 k ∧ c = .int .u64 cc ∧ RowInv xs ys l i k cc ∧ BlkAt 79 .u64 wr g l [] ∧ Ext w wr) (fun _ kk _ => ys.length - (intOf kk).toNat)
      case atStart => exact ⟨0, 0, l, rfl, rfl, Hrow.out, hbl, hex⟩
      case round =>
        obtain ⟨k, c, l, rfl, rfl, hrow, hbl, hex⟩ := hrel
        have hk1 := hrow.2.2.2.2.1
        have Hl1 := Lib.hid hrow.1
        clear hcell Hrow
        by_cases hlt2 : k < ys.length
        · obtain ⟨b2, off2, rfl, hcells2⟩ := hr2.at (by rw [vals_length]; omega)
          have hcell2 := hex.cell (hcells2 k _ (vals_get .u64 ys k hlt2))
          rw [← gD_lt hlt2] at hcell2
          clear hcells2
          have hW : 1 < W := W_gt
          have hcell3 := hbl.cell (i + k) (by have := Hl1.out; omega)
          rw [← gD_lt (show i + k < l.length by have := Hl1.out; omega)] at hcell3
          have hfree := hbl.free (i + k)
          have hwords := words_row hW (dx.gD (by omega) i) (dy.gD (by omega) k) (hrow.2.1.gD (by omega) (i + k)) hrow.2.2.2.2.2
          obtain ⟨hw1, hw2, hw3, hw4⟩ := hwords
          have Hstep := Lib.hid (hrow.step hlt hlt2 dx dy _ _ hw3.symm hw4.symm)
          have hmul := mul64_calls (gD xs i) (gD ys k) _ _ wr (dx.gD (by omega) i) (dy.gD (by omega) k) rfl rfl
          clear hrow hw3 hw4
          generalize gD xs i * gD ys k / W = hi at *
          generalize gD xs i * gD ys k % W = lo at *
          have ha1 := hadd lo (gD l (i + k))
          generalize (lo + gD l (i + k)) / W = c1 at *
          generalize (lo + gD l (i + k)) % W = s1 at *
          have ha2 := hadd s1 c
          generalize (s1 + c) / W = c2 at *
          generalize (s1 + c) % W = s2 at *
          rw [W_eq] at hw1 hw2
          clear hadd
          go_wp2_with fail
          refine hmul.mono ?_
          rintro e w' ⟨rfl, rfl⟩
          go_wp2_with fail
          go_roundw
          case rel => exact ⟨k + 1, _, _, rfl, by go_num, Hstep.out, BlkAt.set (w := wr) hbl (i + k) s2 (by have := Hl1.out; omega), hex.setCell hg _⟩
          case measure => simp [intOf]; omega
        · have hk : k = ys.length := by omega
          subst hk
          have Hn := Lib.hid (MulInv.next hrow hlt)
          obtain ⟨old, hout⟩ := hbl.got (i + ys.length) (by have := Hl1.out; omega)
          have hfree := hbl.free (i + ys.length)
          clear hrow hadd
          go_wp2_with fail
          go_roundw
          case rel => exact ⟨i + 1, _, by go_num, Hn.out, BlkAt.set (w := wr) hbl (i + ys.length) c (by have := Hl1.out; omega), hex.setCell hg _⟩
          case measure => simp [intOf]; omega
    · have hi : i = xs.length := by omega
      subst hi
      have Hl := Lib.hid hinv.1
      have Hd := Lib.hid hinv.2.1
      have Hv : Hid (val W l = val W xs * val W ys) := by have := hinv.2.2.1; rwa [List.take_of_length_le (Nat.le_refl _)] at this
      clear hinv
      go_wp2_with fail
      refine (bare_calls (some ⟨g, 0, none⟩) (xs.length + ys.length) (xs.length + ys.length) l _ Hl.out hbl.rd (by omega) (by omega)).mono ?_
      rintro e w' ⟨rfl, rfl⟩
      go_wp2
      go_ret
      exact ⟨_, rfl, hbl.frN hg W_gt Hd.out Hv.out Hl.out (by omega), hex⟩
end Go.Proofs.Ytnefipinicfegaa
