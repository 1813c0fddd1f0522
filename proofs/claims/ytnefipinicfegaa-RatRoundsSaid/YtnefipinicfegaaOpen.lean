/-
  A law's arguments opened, and its end: a law that returns true and leaves what was there.
-/
import Derived.Test.YtnefipinicfegaaLawB
import Derived.Carry
import Derived.ChangeSlices
namespace Go.Proofs.Ytnefipinicfegaa
open Go.RowKit
open Go.ChangeShapes Go.WideShapes Go.ChangeAt


section
variable {H : Type} {enc : TypeId × Value → H} {P : Program} {w : World}
set_option maxRecDepth 100000 in
set_option maxHeartbeats 1000000 in
theorem trodAll_ext (hl : laidOutB P = true) {W W' : World} (hE : Ext W W') (sp : Nat → Bool) : ∀ {ts : List TypeId} {vs : List Value} {ds : List (DataW H)} {ps : List MemPlace},
    (∀ t ∈ ts, P.readableRec t = true ∧ t < P.types.size) → DataW.TrodAll enc P W 0 (fun _ => true) true ts vs ds ps → (∀ x ∈ ps, x.block < W.heap.size) → (∀ x ∈ ps, sp x.block = true) → DataW.TrodAll enc P W' 0 sp true ts vs ds ps
  | [], vs, ds, ps, _, h, _, _ => by
    obtain ⟨rfl, rfl, rfl⟩ := trodAll_nil h
    exact trodAll_mk0
  | t :: ts, vs, ds, ps, ht, h, hlt, hsp => by
    obtain ⟨v, vs', d, ds', p, q, rfl, rfl, rfl, h1, h2⟩ := trodAll_cons h
    have h0 := ht t (List.mem_cons_self ..)
    exact trodAll_cons_mk (WideElems.Trod_stays hl h0.1 h0.2 h1 (fun x hx => hE.below.same (hlt x (List.mem_append_left _ hx))) (fun x hx => hsp x (List.mem_append_left _ hx)))
      (trodAll_ext hl hE sp (fun t' ht' => ht t' (List.mem_cons_of_mem _ ht')) h2 (fun x hx => hlt x (List.mem_append_right _ hx)) (fun x hx => hsp x (List.mem_append_right _ hx)))

/-- A reading of so many words. -/
def wordsIn {H : Type} (d : DataW H) (n : Nat) : Prop := (d = .nil ∧ n = 0) ∨ ∃ es rs, d = .slice es rs ∧ es.length = n
def wordsI {H : Type} (d : DataW H) (n : Nat) : Prop := ∃ d0 d1, d = .agg [d0, d1] ∧ wordsIn d1 n
def wordsQ {H : Type} (d : DataW H) (n m : Nat) : Prop := ∃ d0 d1, d = .agg [d0, d1] ∧ wordsI d0 n ∧ wordsIn d1 m
set_option maxRecDepth 100000 in
set_option maxHeartbeats 1000000 in
theorem open_words {base : Nat} {spare : Nat → Bool} {held : Bool} {t e : TypeId} {fuel : Nat} {cs : List Value} {x : DataW H × List MemPlace} (ht : P.underlying t = some (.slice e)) (he : P.underlying e = some (.int .u64)) (hc : P.cellsOf e = 1) (hby : 1 ≤ P.bytesOf e)
    (h : DataW.trod enc P w base spare held fuel t cs = some x) : ∃ v xs, cs = [v] ∧ IsL .u64 w v xs ∧ Dig W xs ∧ (∀ B, (∀ n ∈ x.1.weights P t, n ≤ B) → xs.length ≤ B) ∧ wordsIn x.1 xs.length := by
  rcases open_ints ht he hc h with ⟨rfl, hx0⟩ | ⟨a, len, cap, zs, rfl, _, hl, hm, hzl, hx, hcell, hwf⟩
  · exact ⟨_, [], rfl, ⟨none, 0, rfl, Nat.le_refl _, by omega, Rd.nil _ _⟩, Dig.nil, fun B _ => Nat.zero_le B, .inl ⟨by rw [hx0], rfl⟩⟩
  · have hlz : len ≤ zs.length := by rw [hzl]; split <;> omega
    have hnn : ∀ z ∈ zs, 0 ≤ z ∧ z ≤ 18446744073709551615 := fun z hz => bounds_u64 (hwf z hz)
    refine ⟨_, (zs.take len).map Int.toNat, rfl, ⟨some a, cap, by rw [List.length_map, List.length_take]; congr 1; omega, by rw [List.length_map, List.length_take]; omega, by unfold maxLen at hm; omega, ?_⟩, ?_, ?_, ?_⟩
    · rcases Nat.eq_zero_or_pos len with h0 | h0
      · subst h0; exact .inl (by simp [vals])
      · obtain ⟨b, off, rfl, hc2⟩ := ints_at hcell (by omega)
        refine .inr ⟨b, off, rfl, fun i v hi => ?_⟩
        have hil : i < len := by
          have := (List.getElem?_eq_some_iff.1 hi).1
          rw [vals_length, List.length_map, List.length_take] at this
          omega
        have hiz : i < zs.length := by omega
        rw [hc2 i hiz, ← hi]
        have hz := hnn zs[i] (List.getElem_mem hiz)
        simp [vals, List.getElem?_map, hil, hiz, List.getD]
        omega
    · intro y hy
      obtain ⟨z, hz, rfl⟩ := List.mem_map.1 hy
      have := hnn z (List.mem_of_mem_take hz)
      rw [W_eq]
      omega
    · intro B hB
      subst hx
      have := hB (((lits (H := H) .u64 (zs.take len)).length + (lits (H := H) .u64 (zs.drop len)).length) * P.bytesOf e) (by simp [DataW.weights, ht])
      rw [List.length_map]
      have h1 : (lits (H := H) .u64 (zs.take len)).length = (zs.take len).length := by simp [lits]
      rw [h1] at this
      have h2 : (zs.take len).length * 1 ≤ ((zs.take len).length + (lits (H := H) .u64 (zs.drop len)).length) * P.bytesOf e := Nat.mul_le_mul (Nat.le_add_right _ _) hby
      omega
    · subst hx
      exact .inr ⟨_, _, rfl, by simp [lits]⟩
end

set_option maxRecDepth 100000 in
set_option maxHeartbeats 1000000 in
theorem bytesW : 1 ≤ Try.prog.bytesOf 79 := by decide +kernel
set_option maxRecDepth 100000 in
set_option maxHeartbeats 1000000 in
theorem cellsW : Try.prog.cellsOf 79 = 1 := by kernel_rfl
set_option maxRecDepth 100000 in
set_option maxHeartbeats 1000000 in
theorem cellsI : Try.prog.cellsOf 24 = 2 := by kernel_rfl
set_option maxRecDepth 100000 in
set_option maxHeartbeats 1000000 in
theorem cellsQ : Try.prog.cellsOf 28 = 3 := by kernel_rfl
set_option maxRecDepth 100000 in
set_option maxHeartbeats 1000000 in
theorem cellsB : Try.prog.cellsOf 4 = 1 := by kernel_rfl
set_option maxRecDepth 100000 in
set_option maxHeartbeats 1000000 in
theorem cellsS : Try.prog.cellsOf 22 = 1 := by kernel_rfl

section
variable {H : Type} {enc : TypeId × Value → H} {w : World} {base : Nat} {spare : Nat → Bool} {held : Bool}
set_option maxRecDepth 100000 in
set_option maxHeartbeats 1000000 in
theorem open_bool1 {fuel : Nat} {cs : List Value} {x : DataW H × List MemPlace} (h : DataW.trod enc Try.prog w base spare held fuel 4 cs = some x) : ∃ b, cs = [.bool b] := by
  cases fuel with
  | zero => simp [DataW.trod] at h
  | succ n =>
    unfold DataW.trod at h
    rw [Try.underlying4] at h
    rcases cs with _ | ⟨c, _ | ⟨c2, cs⟩⟩ <;> (try cases c) <;> simp at h
    exact ⟨_, rfl⟩
set_option maxRecDepth 100000 in
set_option maxHeartbeats 1000000 in
theorem open_intC {fuel : Nat} {cs : List Value} {x : DataW H × List MemPlace} (h : DataW.trod enc Try.prog w base spare held fuel 24 cs = some x) : ∃ b s xs, cs = [.bool b, s] ∧ IsL .u64 w s xs ∧ Dig W xs ∧ (∀ B, (∀ n ∈ x.1.weights Try.prog 24, n ≤ B) → xs.length ≤ B) ∧ wordsI x.1 xs.length := by
  obtain ⟨y0, y1, n, hx, hl, h0, h1⟩ := trod_struct2 Try.underlying24 h
  rw [cellsI] at hl
  obtain ⟨c0, c1, rfl⟩ : ∃ c0 c1, cs = [c0, c1] := by
    rcases cs with _ | ⟨c0, _ | ⟨c1, _ | ⟨c2, cs⟩⟩⟩ <;> simp at hl
    exact ⟨_, _, rfl⟩
  obtain ⟨b, hb⟩ := open_bool1 h0
  obtain ⟨s, xs, hs, hL, hd, hB, hw⟩ := open_words Try.underlying22 Try.underlying79 cellsW bytesW h1
  have e0 : List.take (Try.prog.cellsOf 4) (List.drop 0 [c0, c1]) = [c0] := by rw [cellsB]; rfl
  have e1 : List.take (Try.prog.cellsOf 22) (List.drop 1 [c0, c1]) = [c1] := by rw [cellsS]; rfl
  have hb' : [c0] = [.bool b] := e0 ▸ hb
  have hs' : [c1] = [s] := e1 ▸ hs
  simp only [List.cons.injEq, and_true] at hb' hs'
  subst hb' hs'
  exact ⟨b, _, xs, rfl, hL, hd, fun B h => hB B fun n hn => h n (by rw [hx]; simp only [DataW.weights, Try.underlying24]; exact List.mem_append_right _ (List.mem_append_left _ hn)), by rw [hx]; exact ⟨_, _, rfl, hw⟩⟩
set_option maxRecDepth 100000 in
set_option maxHeartbeats 1000000 in
theorem open_ratC {fuel : Nat} {cs : List Value} {x : DataW H × List MemPlace} (h : DataW.trod enc Try.prog w base spare held fuel 28 cs = some x) : ∃ b s t xs ys, cs = [.bool b, s, t] ∧ IsL .u64 w s xs ∧ Dig W xs ∧ IsL .u64 w t ys ∧ Dig W ys ∧ (∀ B, (∀ n ∈ x.1.weights Try.prog 28, n ≤ B) → xs.length ≤ B ∧ ys.length ≤ B) ∧ wordsQ x.1 xs.length ys.length := by
  obtain ⟨y0, y1, n, hx, hl, h0, h1⟩ := trod_struct2 Try.underlying28 h
  rw [cellsQ] at hl
  obtain ⟨c0, c1, c2, rfl⟩ : ∃ c0 c1 c2, cs = [c0, c1, c2] := by
    rcases cs with _ | ⟨c0, _ | ⟨c1, _ | ⟨c2, _ | ⟨c3, cs⟩⟩⟩⟩ <;> simp at hl
    exact ⟨_, _, _, rfl⟩
  obtain ⟨b, s, xs, hb, hL, hd, hB, hw⟩ := open_intC h0
  obtain ⟨t, ys, ht, hL2, hd2, hB2, hw2⟩ := open_words Try.underlying22 Try.underlying79 cellsW bytesW h1
  have e0 : List.take (Try.prog.cellsOf 24) (List.drop 0 [c0, c1, c2]) = [c0, c1] := by rw [cellsI]; rfl
  have e1 : List.take (Try.prog.cellsOf 22) (List.drop 2 [c0, c1, c2]) = [c2] := by rw [cellsS]; rfl
  have hb' : [c0, c1] = [.bool b, s] := e0 ▸ hb
  have ht' : [c2] = [t] := e1 ▸ ht
  simp only [List.cons.injEq, and_true] at hb' ht'
  obtain ⟨rfl, rfl⟩ := hb'
  subst ht'
  refine ⟨b, _, _, xs, ys, rfl, hL, hd, hL2, hd2, fun B h => ⟨hB B fun n hn => h n ?_, hB2 B fun n hn => h n ?_⟩, by rw [hx]; exact ⟨_, _, rfl, hw, hw2⟩⟩
  · rw [hx]; simp only [DataW.weights, Try.underlying28]; exact List.mem_append_left _ hn
  · rw [hx]; simp only [DataW.weights, Try.underlying28]; exact List.mem_append_right _ (List.mem_append_left _ hn)
set_option maxRecDepth 100000 in
set_option maxHeartbeats 1000000 in
theorem open_ratS {v : Value} {d : DataW H} {p : List MemPlace} {W0 : World} {b0 : Nat} (hv : Value.okWide Try.prog W0 .any b0 28 v) (h : DataW.Trod enc Try.prog w base spare held 28 v d p) : ∃ b xs ys, RawQ w v b xs ys ∧ Dig W xs ∧ Dig W ys ∧ (∀ B, (∀ n ∈ d.weights Try.prog 28, n ≤ B) → xs.length ≤ B ∧ ys.length ≤ B) ∧ wordsQ d xs.length ys.length := by
  obtain ⟨cs, rfl, _⟩ := okWide_struct Try.underlying28 hv
  obtain ⟨fuel, hf⟩ := h
  obtain ⟨b, s, t, xs, ys, hc, hL, hd, hL2, hd2, hB⟩ := open_ratC hf
  have hcs : cs = #[.bool b, s, t] := by
    have : cs.toList = [.bool b, s, t] := by simpa [Value.cells] using hc
    rw [← Array.toArray_toList (xs := cs), this]
  subst hcs
  exact ⟨b, xs, ys, ⟨s, t, rfl, hL, hL2⟩, hd, hd2, hB⟩
set_option maxRecDepth 100000 in
set_option maxHeartbeats 1000000 in
theorem open_intS {v : Value} {d : DataW H} {p : List MemPlace} {W0 : World} {b0 : Nat} (hv : Value.okWide Try.prog W0 .any b0 24 v) (h : DataW.Trod enc Try.prog w base spare held 24 v d p) : ∃ b xs, RawI w v b xs ∧ Dig W xs ∧ (∀ B, (∀ n ∈ d.weights Try.prog 24, n ≤ B) → xs.length ≤ B) ∧ wordsI d xs.length := by
  obtain ⟨cs, rfl, _⟩ := okWide_struct Try.underlying24 hv
  obtain ⟨fuel, hf⟩ := h
  obtain ⟨b, s, xs, hc, hL, hd, hB⟩ := open_intC hf
  have hcs : cs = #[.bool b, s] := by
    have : cs.toList = [.bool b, s] := by simpa [Value.cells] using hc
    rw [← Array.toArray_toList (xs := cs), this]
  subst hcs
  exact ⟨b, xs, ⟨s, rfl, hL⟩, hd, hB⟩
end

/-! Fractions as they are handed in. -/
def rawN (b : Bool) (xs : List Nat) : Int := sgn b (val W xs)
def rawD (ys : List Nat) : Nat := if val W ys = 0 then 1 else val W ys
def rawR (b : Bool) (xs ys : List Nat) : Rat := mkRat (rawN b xs) (rawD ys)
set_option maxRecDepth 100000 in
set_option maxHeartbeats 1000000 in
theorem RawQ.isQ {w : World} {v : Value} {b : Bool} {xs ys : List Nat} (h : RawQ w v b xs ys) (dx : Dig W xs) (dy : Dig W ys) (h1 : xs.length ≤ LIM) (h2 : ys.length ≤ LIM) : IsQ w v (rawN b xs) (rawD ys) := by
  obtain ⟨s, t, rfl, hs, ht⟩ := h
  exact ⟨b, s, t, val W xs, val W ys, rfl, ⟨xs, hs, h1, dx, rfl⟩, rfl, ⟨ys, ht, h2, dy, rfl⟩, rfl⟩
set_option maxRecDepth 100000 in
set_option maxHeartbeats 1000000 in
theorem rawD_sz {ys : List Nat} (dy : Dig W ys) : sz W (rawD ys) ≤ max ys.length 1 := by
  unfold rawD
  split
  · rw [show sz W 1 = 1 from rfl]; omega
  · exact Nat.le_trans (dg_len_val W_gt dy) (by omega)
set_option maxRecDepth 100000 in
set_option maxHeartbeats 1000000 in
theorem rawN_sz {b : Bool} {xs : List Nat} (dx : Dig W xs) : szZ (rawN b xs) ≤ xs.length := by
  unfold rawN szZ
  rw [sgn_natAbs]
  exact dg_len_val W_gt dx
set_option maxRecDepth 100000 in
set_option maxHeartbeats 1000000 in
theorem RawQ.isR {w : World} {v : Value} {b : Bool} {xs ys : List Nat} (h : RawQ w v b xs ys) (dx : Dig W xs) (dy : Dig W ys) (k : Nat) (h1 : xs.length ≤ k) (h2 : ys.length ≤ k) (hk : 1 ≤ k) (hk2 : k ≤ LIM) : IsR w v (rawR b xs ys) k := by
  have := rawD_sz dy
  have := rawN_sz (b := b) dx
  exact ⟨_, _, h.isQ dx dy (by omega) (by omega), rfl, by omega, by omega⟩
set_option maxRecDepth 100000 in
set_option maxHeartbeats 1000000 in
theorem W_TK : W < TK ^ 5 := by
  rw [W_eq, TK_eq]
  decide
set_option maxRecDepth 100000 in
set_option maxHeartbeats 1000000 in
theorem szTK_le (n : Nat) : sz TK n ≤ 5 * sz W n := by
  refine dg_len_le TK_gt ?_
  rw [Nat.pow_mul]
  exact Nat.lt_of_lt_of_le (dg_len_lt W_gt n) (Nat.pow_le_pow_left (Nat.le_of_lt W_TK) _)
set_option maxRecDepth 100000 in
set_option maxHeartbeats 1000000 in
theorem rawD_pos (ys : List Nat) : 0 < rawD ys := by unfold rawD; split <;> omega
set_option maxRecDepth 100000 in
set_option maxHeartbeats 1000000 in
theorem rawR_szD {b : Bool} {xs ys : List Nat} (dx : Dig W xs) (dy : Dig W ys) (k : Nat) (h1 : xs.length ≤ k) (h2 : ys.length ≤ k) (hk : 1 ≤ k) : szT (rawN b xs) ≤ 5 * k ∧ sz TK (rawD ys) ≤ 5 * k ∧ szD (rawR b xs ys) ≤ 5 * k := by
  have a1 := rawD_sz dy
  have a2 := rawN_sz (b := b) dx
  have a3 := szTK_le (rawD ys)
  have a4 : szT (rawN b xs) ≤ 5 * szZ (rawN b xs) := szTK_le _
  have a5 := szD_mkRat (rawN b xs) (rawD ys) (rawD_pos ys)
  unfold rawR szD
  omega
set_option maxRecDepth 100000 in
set_option maxHeartbeats 1000000 in
theorem szD_div {x y : Rat} {k l : Nat} (hx : szD x ≤ k) (hy : szD y ≤ l) (hy0 : y ≠ 0) : szD (x / y) ≤ k + l := by
  have hq := div_mkRat x.num y.num x.den y.den
  rw [Rat.mkRat_self, Rat.mkRat_self] at hq
  rw [hq]
  have h1 := szD_le hx
  have h2 := szD_le hy
  have sxy := szT_mul x.num y.den
  have syx := szT_mul y.num x.den
  have s1' : szT (x.den : Int) = sz TK x.den := rfl
  have s2' : szT (y.den : Int) = sz TK y.den := rfl
  have hny : y.num ≠ 0 := fun h => hy0 (Rat.num_eq_zero.1 h)
  have hxd := x.den_pos
  have := szD_divInt (x.num * y.den) (y.num * x.den) (Int.mul_ne_zero hny (by omega))
  omega
end Go.Proofs.Ytnefipinicfegaa
