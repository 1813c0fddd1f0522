/-
  nat.takeOff: so many times the divisor is taken off, and put on again if that was once too often.
-/
import Derived.Test.YtnefipinicfegaaDivD
namespace Go.Proofs.Ytnefipinicfegaa
open Go.RowKit
set_option linter.unusedVariables false
set_option linter.unusedSimpArgs false

/-- Block g holds the numbers xs from place off on. -/
def SegAt (e : TypeId) (k : IntKind) (w : World) (g off : Nat) (pre : List Value) (xs : List Nat) (post : List Value) : Prop :=
  pre.length = off ∧ w.heap[g]? = some (.cells (pre ++ (vals k xs ++ post)).toArray e (0, 0))
section
variable {w : World} {g off : Nat} {k : IntKind} {xs : List Nat} {pre post : List Value} {e : TypeId}
theorem SegAt.cell (h : SegAt e k w g off pre xs post) (i : Nat) (hi : i < xs.length) : w.cell? ⟨g, off + i, none⟩ = some (.int k (gD xs i : Int)) := by
  rw [cell_of_row w g _ _ e _ h.2]
  have := vals_get k xs i hi
  rw [gD_lt hi, List.getElem?_toArray, List.getElem?_append_right (by have := h.1; omega), List.getElem?_append_left (by rw [vals_length]; have := h.1; omega), ← this]
  congr 1
  have := h.1
  omega
theorem SegAt.free (h : SegAt e k w g off pre xs post) (i : Nat) : w.frozen? ⟨g, i, none⟩ = false := frozen_of_row w g i _ e h.2
theorem SegAt.set (h : SegAt e k w g off pre xs post) (i y : Nat) (hi : i < xs.length) : SegAt e k (w.setCell ⟨g, off + i, none⟩ (.int k (y : Int))) g off pre (xs.set i y) post := by
  refine ⟨h.1, ?_⟩
  rw [heap_setCell_same w g _ _ e _ h.2]
  congr 2
  rw [← vals_set]
  have h1 := h.1
  simp only [List.setIfInBounds_toArray]
  rw [List.set_append_right _ _ (by omega), show off + i - pre.length = i by omega, List.set_append_left _ _ (by rw [vals_length]; exact hi)]
theorem SegAt.ext {w' : World} (h : SegAt e k w g off pre xs post) (he : Ext w w') : SegAt e k w' g off pre xs post := ⟨h.1, he.blk h.2⟩
end
/-- Is the place not in block g? -/
def Away (g : Nat) (ad : Option Addr) : Prop := ∀ a, ad = some a → a.block ≠ g
theorem Rd.chg {w w' : World} {ad : Option Addr} {xs : List Value} {g : Nat} (h : Rd w ad xs) (he : Chg g w w') (ha : Away g ad) : Rd w' ad xs := by
  rcases h with h | ⟨b, off, h1, h2⟩
  · exact .inl h
  · refine .inr ⟨b, off, h1, fun i v hi => ?_⟩
    have hc := h2 i v hi
    exact (World.cell?_of_block (w := w) (he.heap (k := b) (World.block_lt_of_cell? w _ hc) (ha _ h1))).trans hc

/-- Behind i places: what is left, with what was taken off, is what was there, and what is owed. -/
def OffInv (q : Nat) (ss ys l : List Nat) (i c b : Nat) : Prop :=
  l.length = ss.length ∧ Dig W l ∧ c < W ∧ b ≤ 1 ∧ val W (l.take i) + q * val W (ys.take i) = val W (ss.take i) + W ^ i * (c + b) ∧ l.drop i = ss.drop i ∧ i ≤ ys.length

theorem drop_tail {l m : List Nat} {i y : Nat} (h : l.drop i = m.drop i) : (l.set i y).drop (i + 1) = m.drop (i + 1) := by
  rw [List.drop_set_of_lt (by omega)]
  have := congrArg (List.drop 1) h
  simpa [List.drop_drop, Nat.add_comm] using this
theorem drop_gD {l m : List Nat} {i : Nat} (h : l.drop i = m.drop i) : gD l i = gD m i := by
  have := congrArg (fun t => t[0]?) h
  simp only [List.getElem?_drop, Nat.add_zero] at this
  simp [gD, List.getD, this]
theorem sub_word {a t b : Nat} (ha : a < W) (ht : t < W) (hb : b ≤ 1) : (a + W - t - b) % W + t + b = a + W * (if a < t + b then 1 else 0) := by
  split
  · rw [Nat.mod_eq_of_lt (by omega)]; omega
  · have : a + W - t - b = (a - t - b) + W := by omega
    rw [this, Nat.add_mod_right, Nat.mod_eq_of_lt (by omega)]; omega

theorem OffInv.step {q : Nat} {ss ys l : List Nat} {i c b : Nat} (h : OffInv q ss ys l i c b) (hs : ss.length = ys.length + 1) (hi : i < ys.length) (hq : q < W) (ds : Dig W ss) (dy : Dig W ys) (t c' : Nat)
    (ht : (q * gD ys i + c) % W = t) (hc : (q * gD ys i + c) / W = c') :
    OffInv q ss ys (l.set i ((gD ss i + W - t - b) % W)) (i + 1) c' (if gD ss i < t + b then 1 else 0) := by
  obtain ⟨h1, h2, h3, h4, h5, h6, h7⟩ := h
  have hW : 0 < W := by rw [W_eq]; omega
  have ha := ds.gD hW i
  have hy := dy.gD hW i
  have htl : t < W := by rw [← ht]; exact Nat.mod_lt _ hW
  have key := sub_word ha htl h4
  have e := Nat.mod_add_div (q * gD ys i + c) W
  rw [ht, hc] at e
  have hc' : c' < W := by
    rw [← hc]
    refine Nat.div_lt_of_lt_mul ?_
    have := row_bound (x := q) (y := gD ys i) (p := c) (c := 0) hq hy h3 hW
    omega
  refine ⟨by simpa using h1, h2.set (Nat.mod_lt _ hW), hc', by split <;> omega, ?_, drop_tail h6, by omega⟩
  generalize (gD ss i + W - t - b) % W = d at *
  generalize (if gD ss i < t + b then 1 else 0 : Nat) = b' at *
  rw [val_take_succ _ _ (by simp; omega), List.getElem_set_self, List.take_set_of_le (Nat.le_refl _), take_getD ys i, take_getD ss i]
  have e1 := congrArg (W ^ i * ·) key
  have e2 := congrArg (W ^ i * ·) e
  simp only [Nat.mul_add] at e1 e2
  have e3 : q * (W ^ i * gD ys i) = W ^ i * (q * gD ys i) := by ac_rfl
  rw [Nat.mul_add q, e3, Nat.pow_succ, Nat.mul_assoc (W ^ i) W, Nat.mul_add W, Nat.mul_add (W ^ i)]
  rw [Nat.mul_add] at h5
  omega

theorem val_end (l : List Nat) (n : Nat) (h : l.length = n + 1) : val W l = val W (l.take n) + W ^ n * gD l n := by
  rw [val_split l n (by omega), val_drop l n (by omega), List.drop_of_length_le (by omega), ← gD_lt (by omega)]
  simp [val]
theorem val_set_end (l : List Nat) (n d : Nat) (h : l.length = n + 1) : val W (l.set n d) = val W (l.take n) + W ^ n * d := by
  rw [val_end _ n (by simpa using h), List.take_set_of_le (Nat.le_refl _), gD_lt (by simp; omega), List.getElem_set_self]

/-- All places: what is left. -/
theorem OffInv.last {q : Nat} {ss ys l : List Nat} {c b d b' : Nat} (h : OffInv q ss ys l ys.length c b) (hs : ss.length = ys.length + 1) (hd : d < W) (key : d + c + b = gD ss ys.length + W * b') :
    Dig W (l.set ys.length d) ∧ val W (l.set ys.length d) + q * val W ys = val W ss + W ^ (ys.length + 1) * b' := by
  obtain ⟨h1, h2, h3, h4, h5, h6, h7⟩ := h
  refine ⟨h2.set hd, ?_⟩
  rw [List.take_of_length_le (Nat.le_refl ys.length)] at h5
  have e1 := congrArg (W ^ ys.length * ·) key
  simp only [Nat.mul_add] at e1 h5
  rw [val_set_end l ys.length d (by omega), val_end ss ys.length hs, Nat.pow_succ, Nat.mul_assoc]
  omega

/-- Behind i places of putting on again. -/
def OnInv (ss ys l : List Nat) (i c : Nat) : Prop :=
  l.length = ss.length ∧ Dig W l ∧ c ≤ 1 ∧ val W (l.take i) + W ^ i * c = val W (ss.take i) + val W (ys.take i) ∧ l.drop i = ss.drop i ∧ i ≤ ys.length

theorem OnInv.step {ss ys l : List Nat} {i c : Nat} (h : OnInv ss ys l i c) (hs : ss.length = ys.length + 1) (hi : i < ys.length) (ds : Dig W ss) (dy : Dig W ys) :
    OnInv ss ys (l.set i ((gD ss i + gD ys i + c) % W)) (i + 1) ((gD ss i + gD ys i + c) / W) := by
  obtain ⟨h1, h2, h3, h4, h5, h6⟩ := h
  have hW : 0 < W := by rw [W_eq]; omega
  have hxi := ds.gD hW i
  have hyi := dy.gD hW i
  refine ⟨by simpa using h1, h2.set (Nat.mod_lt _ hW), ?_, ?_, drop_tail h5, by omega⟩
  · have : (gD ss i + gD ys i + c) / W < 2 := Nat.div_lt_of_lt_mul (by omega)
    omega
  · rw [val_take_succ _ _ (by simp; omega), List.getElem_set_self, List.take_set_of_le (Nat.le_refl _), take_getD ss i, take_getD ys i]
    have e := Nat.mod_add_div (gD ss i + gD ys i + c) W
    have e2 : W ^ i * ((gD ss i + gD ys i + c) % W) + W ^ (i + 1) * ((gD ss i + gD ys i + c) / W) = W ^ i * (gD ss i + gD ys i + c) := by
      rw [Nat.pow_succ, Nat.mul_assoc, ← Nat.mul_add, e]
    simp only [Nat.mul_add] at e2
    omega

theorem OnInv.last {ss ys l : List Nat} {c : Nat} (h : OnInv ss ys l ys.length c) (hs : ss.length = ys.length + 1) :
    Dig W (l.set ys.length ((gD ss ys.length + c) % W)) ∧ ∃ o, val W (l.set ys.length ((gD ss ys.length + c) % W)) + W ^ (ys.length + 1) * o = val W ss + val W ys := by
  obtain ⟨h1, h2, h3, h4, h5, h6⟩ := h
  have hW : 0 < W := by rw [W_eq]; omega
  refine ⟨h2.set (Nat.mod_lt _ hW), (gD ss ys.length + c) / W, ?_⟩
  have e := Nat.mod_add_div (gD ss ys.length + c) W
  generalize (gD ss ys.length + c) % W = d at *
  generalize (gD ss ys.length + c) / W = o at *
  rw [List.take_of_length_le (Nat.le_refl ys.length)] at h4
  have e1 := congrArg (W ^ ys.length * ·) e
  simp only [Nat.mul_add] at e1
  rw [val_set_end l ys.length d (by omega), val_end ss ys.length hs, Nat.pow_succ, Nat.mul_assoc]
  omega

/-- Nothing was owed: the guess was right. -/
theorem off_right {S V q R : Nat} (hV : 0 < V) (h : R + q * V = S) (hq : S / V ≤ q) : q = S / V ∧ R = S % V := by
  have h1 : q ≤ S / V := by rw [Nat.le_div_iff_mul_le hV]; omega
  have h2 : q = S / V := by omega
  have e := Nat.div_add_mod S V
  rw [← h2, Nat.mul_comm] at e
  exact ⟨h2, by omega⟩

/-- Once too often. -/
theorem off_again {S V q R R2 P o : Nat} (hV : 0 < V) (h : R + q * V = S + P) (h2 : R2 + P * o = R + V) (hR : R < P) (hR2 : R2 < P) (hVP : V ≤ P) (hq : q ≤ S / V + 1) : q - 1 = S / V ∧ R2 = S % V := by
  have hSq : S < q * V := by omega
  have h3 : S / V < q := by rw [Nat.div_lt_iff_lt_mul hV]; exact hSq
  have h4 : q = S / V + 1 := by omega
  have e := Nat.div_add_mod S V
  have hm := Nat.mod_lt S hV
  have h7 : q * V = V * (S / V) + V := by rw [h4, Nat.add_mul, Nat.one_mul, Nat.mul_comm]
  refine ⟨by rw [h4, Nat.add_sub_cancel], ?_⟩
  rw [h7] at h
  generalize V * (S / V) = z at h e
  generalize S % V = m at *
  clear h7 h4 h3 hSq hq
  have h5 : R + V = m + P := by omega
  have h6 : R2 + P * o = m + P := by omega
  rcases Nat.lt_trichotomy o 1 with ho | ho | ho
  · have : o = 0 := by omega
    subst this
    omega
  · subst ho
    omega
  · have : P * 2 ≤ P * o := Nat.mul_le_mul_left _ ho
    omega
end Go.Proofs.Ytnefipinicfegaa
