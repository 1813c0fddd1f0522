/-
  nat.byWord: a number divided by a word.
-/
import Derived.Test.YtnefipinicfegaaDivB
namespace Go.Proofs.Ytnefipinicfegaa
open Go.RowKit
set_option linter.unusedVariables false
set_option linter.unusedSimpArgs false

def ByInv (d : Nat) (xs l : List Nat) (k r : Nat) : Prop :=
  l.length = xs.length ∧ Dig W l ∧ r < d ∧ val W (xs.drop k) = val W (l.drop k) * d + r ∧ k ≤ xs.length

theorem ByInv.step {d : Nat} {xs l : List Nat} {j r : Nat} (h : ByInv d xs l (j + 1) r) (hd : 0 < d) (dx : Dig W xs) :
    ByInv d xs (l.set j ((r * W + gD xs j) / d)) j ((r * W + gD xs j) % d) := by
  obtain ⟨h1, h2, h3, h4, h5⟩ := h
  have hj : j < xs.length := by omega
  have hW : 0 < W := by rw [W_eq]; omega
  have hx := dx.gD hW j
  refine ⟨by simpa using h1, h2.set (quo_lt hx h3), Nat.mod_lt _ hd, ?_, by omega⟩
  rw [val_drop xs j hj, val_drop _ j (by simp; omega), List.getElem_set_self, List.drop_set_of_lt (by omega), h4, ← gD_lt hj]
  have e := Nat.div_add_mod (r * W + gD xs j) d
  generalize (r * W + gD xs j) / d = q at *
  generalize (r * W + gD xs j) % d = r' at *
  have e1 : W * (val W (l.drop (j + 1)) * d + r) = W * val W (l.drop (j + 1)) * d + r * W := by rw [Nat.mul_add, Nat.mul_assoc, Nat.mul_comm W r]
  rw [e1, Nat.add_mul, Nat.mul_comm q d]
  omega

set_option maxHeartbeats 1000000 in
set_option maxRecDepth 100000 in
theorem byWord_core (ad : Option Addr) (cap : Nat) (xs : List Nat) (d : Nat) (w : World) (hr : Rd w ad (vals .u64 xs))
    (hlen : xs.length ≤ 17592186044160) (dx : Dig W xs) (hd : 0 < d) (hdW : d < W) :
    Calls Try.prog 105 #[.slice ad xs.length cap, .int .u64 (d : Int)] w fun e w' => ∃ v', e = .returned (.tuple #[v', .int .u64 ((val W xs % d : Nat) : Int)]) ∧ FrN 79 .u64 W w.heap.size w' v' (val W xs / d) ∧ Ext w w' := by
  go_enter Try.func105, Try.ntmps105
  go_wp2_with (at_make; refine wpList_make_vals _ rfl _ _ 22 rfl 79 .u64 8 Try.underlying22 info79 .i64 .i64 _ _ xs.length rfl rfl (by omega) (by omega) (by omega) (by omega) ?_)
  intro w1 g hext hg hblk
  go_wp2_with fail
  go_loopw [7, 8] (fun r i wr => ∃ (k rr : Nat) (l : List Nat), i = .int .i64 ((k : Int) - 1) ∧ r = .int .u64 rr ∧ ByInv d xs l k rr ∧ BlkAt 79 .u64 wr g l [] ∧ Ext w wr) (fun _ i _ => (intOf i + 1).toNat)
  case atStart => exact ⟨xs.length, 0, _, rfl, rfl, ⟨by simp, Dig.replicate (by rw [W_eq]; omega) _, hd, by rw [List.drop_of_length_le (by simp), List.drop_of_length_le (by simp)]; simp [val], Nat.le_refl _⟩, hblk, hext⟩
  case round =>
    obtain ⟨k, rr, l, rfl, rfl, hinv, hbl, hex⟩ := hrel
    have Hl1 := Lib.hid hinv.1
    clear hblk hext
    rcases Nat.eq_zero_or_pos k with hk0 | hk0
    · subst hk0
      have Hd := Lib.hid hinv.2.1
      have hrd := hinv.2.2.1
      have hv : val W xs = val W l * d + rr := hinv.2.2.2.1
      have Hq : Hid (val W l = val W xs / d) := by
        show val W l = val W xs / d
        rw [hv, Nat.mul_comm, Nat.mul_add_div hd, Nat.div_eq_of_lt hrd, Nat.add_zero]
      have Hm : Hid (rr = val W xs % d) := by
        show rr = val W xs % d
        rw [hv, Nat.mul_comm, Nat.mul_add_mod, Nat.mod_eq_of_lt hrd]
      clear hinv hv
      go_wp2_with fail
      refine (bare_calls (some ⟨g, 0, none⟩) xs.length xs.length l _ Hl1.out hbl.rd (by omega) (by omega)).mono ?_
      rintro e w' ⟨rfl, rfl⟩
      go_wp2
      go_ret2
      refine ⟨.slice (some ⟨g, 0, none⟩) (tz l).length xs.length, ?_, hbl.frN hg W_gt Hd.out Hq.out Hl1.out (by omega), hex⟩
      rw [← Hm.out]; rfl
    · obtain ⟨j, rfl⟩ : ∃ j, k = j + 1 := ⟨k - 1, by omega⟩
      have hj : j < xs.length := by have := hinv.2.2.2.2; omega
      obtain ⟨b, off, rfl, hcells⟩ := hr.at (by rw [vals_length]; omega)
      have hcell := hex.cell (hcells j _ (vals_get .u64 xs j hj))
      rw [← gD_lt hj] at hcell
      clear hcells
      rw [show ((j + 1 : Nat) : Int) - 1 = (j : Int) from by omega]
      have Hst := Lib.hid (hinv.step hd dx)
      have hrd := hinv.2.2.1
      have hxlt := dx.gD (B := W) (by rw [W_eq]; omega) j
      have hdiv := fun (wx : World) => div64_calls rr (gD xs j) d wx hxlt hdW hrd
      generalize (rr * W + gD xs j) / d = qq at *
      generalize (rr * W + gD xs j) % d = r2 at *
      have Hdiv := Lib.hid hdiv
      clear hdiv hinv
      go_wp2_with fail
      refine (Hdiv.out _).mono ?_
      rintro e w2 ⟨rfl, hext2⟩
      have hb2 := hbl.ext hext2
      obtain ⟨old, hout⟩ := hb2.got j (by have := Hl1.out; omega)
      have hfree := hb2.free j
      go_wp2_with fail
      go_roundw
      case rel => exact ⟨j, r2, _, rfl, rfl, Hst.out, BlkAt.set (w := w2) hb2 j qq (by have := Hl1.out; omega), (hex.trans hext2).setCell hg _⟩
      case measure => simp [intOf]
end Go.Proofs.Ytnefipinicfegaa
