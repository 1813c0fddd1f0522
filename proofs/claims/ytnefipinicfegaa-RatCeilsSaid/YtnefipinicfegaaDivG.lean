/-
  nat.DivMod: the guess is right or one too great; a round of the division. Plain facts, and the guess's one contract.
-/
import Derived.Test.YtnefipinicfegaaDivF
import Derived.Test.YtnefipinicfegaaZer
namespace Go.Proofs.Ytnefipinicfegaa
open Go.RowKit
set_option linter.unusedVariables false
set_option linter.unusedSimpArgs false

theorem guess_near {S V U3 V2 P slo vlo g : Nat} (hP : 0 < P) (hS : S = U3 * P + slo) (hslo : slo < P) (hVe : V = V2 * P + vlo) (hvlo : vlo < P) (hV2 : 0 < V2) (hg : g = U3 / V2) (hgW : g ≤ V2 + 1) :
    S / V ≤ g ∧ g ≤ S / V + 1 := by
  have hV : 0 < V := by have := Nat.mul_pos hV2 hP; omega
  have e := Nat.div_add_mod U3 V2
  have hm := Nat.mod_lt U3 hV2
  constructor
  · have h1 : S / V * V ≤ S := Nat.div_mul_le_self S V
    generalize S / V = q at *
    have h2 : q * V2 * P ≤ q * V := by rw [hVe, Nat.mul_add, Nat.mul_assoc]; omega
    have h3 : q * V2 * P < (U3 + 1) * P := by rw [Nat.add_mul]; omega
    have h4 : q * V2 < U3 + 1 := Nat.lt_of_mul_lt_mul_right h3
    rw [hg, Nat.le_div_iff_mul_le hV2]
    omega
  · rcases Nat.eq_zero_or_pos g with h0 | h0
    · rw [h0]; exact Nat.zero_le _
    · obtain ⟨f, rfl⟩ : ∃ f, g = f + 1 := ⟨g - 1, by omega⟩
      suffices hh : f ≤ S / V by
        generalize S / V = q at *
        omega
      rw [Nat.le_div_iff_mul_le hV]
      have h1 : (f + 1) * V2 ≤ U3 := by rw [hg]; exact Nat.div_mul_le_self U3 V2
      have h2 : f * V ≤ f * ((V2 + 1) * P) := Nat.mul_le_mul_left _ (by rw [Nat.add_mul]; omega)
      have h3 : f * ((V2 + 1) * P) ≤ U3 * P := by
        rw [← Nat.mul_assoc]
        refine Nat.mul_le_mul_right P ?_
        rw [Nat.mul_add, Nat.mul_one]
        rw [Nat.add_mul, Nat.one_mul] at h1
        omega
      omega

theorem guess_most {S V P v1 u2 vlo slo : Nat} (hVe : V = v1 * P + vlo) (hvlo : vlo < P) (hS : S = u2 * (W * P) + slo) (h : v1 ≤ u2) (hn : W ≤ 2 * v1) (hlt : S < V * W) (hV : 0 < V) :
    S / V ≤ W - 1 ∧ W - 1 ≤ S / V + 1 := by
  have hW : 2 ≤ W := by rw [W_eq]; omega
  constructor
  · have : S / V < W := by rw [Nat.div_lt_iff_lt_mul hV, Nat.mul_comm]; exact hlt
    omega
  · suffices hh : W - 2 ≤ S / V by
      generalize S / V = q at *
      omega
    rw [Nat.le_div_iff_mul_le hV]
    have e1 : (W - 2) * V + 2 * V = W * V := by rw [← Nat.add_mul, Nat.sub_add_cancel hW]
    have e2 : v1 * (W * P) ≤ u2 * (W * P) := Nat.mul_le_mul_right _ h
    have e3 : W * P ≤ 2 * v1 * P := Nat.mul_le_mul_right _ hn
    have e4 : W * V = v1 * (W * P) + W * vlo := by rw [hVe, Nat.mul_add]; congr 1; ac_rfl
    have e5 : W * vlo ≤ W * P := Nat.mul_le_mul_left _ (by omega)
    have e6 : 2 * v1 * P = 2 * (v1 * P) := Nat.mul_assoc ..
    omega

def guessN (u2 u1 u0 v1 v0 : Nat) : Nat := if v1 ≤ u2 then W - 1 else ((u2 * W + u1) * W + u0) / (v1 * W + v0)

theorem guess_calls (u2 u1 u0 v1 v0 : Nat) (w : World) (h1 : u1 < W) (h0 : u0 < W) (hv1 : v1 < W) (hv0 : v0 < W) (hn : W ≤ 2 * v1) :
    Calls Try.prog 109 #[.int .u64 (u2 : Int), .int .u64 (u1 : Int), .int .u64 (u0 : Int), .int .u64 (v1 : Int), .int .u64 (v0 : Int)] w fun e w' => e = .returned (.int .u64 ((guessN u2 u1 u0 v1 v0 : Nat) : Int)) ∧ Ext w w' := by
  unfold guessN
  split
  · rename_i h
    exact (guess_top u2 u1 u0 v1 v0 w h).mono fun e w' ⟨he, hw⟩ => ⟨he, hw ▸ Ext.refl _⟩
  · rename_i h
    exact guess_low u2 u1 u0 v1 v0 w (by omega) h1 h0 hv1 hv0 hn

theorem guess_spec {ss ys : List Nat} {m : Nat} (hs : ss.length = m + 3) (hy : ys.length = m + 2) (ds : Dig W ss) (dy : Dig W ys) (hn : W ≤ 2 * gD ys (m + 1)) (hlt : val W ss < val W ys * W) :
    val W ss / val W ys ≤ guessN (gD ss (m + 2)) (gD ss (m + 1)) (gD ss m) (gD ys (m + 1)) (gD ys m) ∧
    guessN (gD ss (m + 2)) (gD ss (m + 1)) (gD ss m) (gD ys (m + 1)) (gD ys m) ≤ val W ss / val W ys + 1 ∧
    guessN (gD ss (m + 2)) (gD ss (m + 1)) (gD ss m) (gD ys (m + 1)) (gD ys m) < W := by
  have hW : 0 < W := by rw [W_eq]; omega
  have hP : 0 < W ^ m := Nat.pow_pos hW
  have es : val W ss = val W (ss.take m) + W ^ m * gD ss m + W ^ (m + 1) * gD ss (m + 1) + W ^ (m + 2) * gD ss (m + 2) := by
    have : ss = ss.take (m + 3) := (List.take_of_length_le (by omega)).symm
    have h : val W ss = val W (ss.take (m + 3)) := congrArg _ this
    rw [h, take_getD ss (m + 2), take_getD ss (m + 1), take_getD ss m]
  have ey : val W ys = val W (ys.take m) + W ^ m * gD ys m + W ^ (m + 1) * gD ys (m + 1) := by
    have : ys = ys.take (m + 2) := (List.take_of_length_le (by omega)).symm
    have h : val W ys = val W (ys.take (m + 2)) := congrArg _ this
    rw [h, take_getD ys (m + 1), take_getD ys m]
  have ls := val_lt hW (ds.take m)
  have ly := val_lt hW (dy.take m)
  rw [List.length_take, Nat.min_eq_left (by omega)] at ls ly
  have hv0 := dy.gD hW m
  have hu0 := ds.gD hW m
  have hu1 := ds.gD hW (m + 1)
  have p1 : W ^ (m + 1) = W * W ^ m := by rw [Nat.pow_succ, Nat.mul_comm]
  have p2 : W ^ (m + 2) = W * (W * W ^ m) := by rw [Nat.pow_succ, p1, Nat.mul_comm]
  generalize gD ss (m + 2) = u2 at *
  generalize gD ss (m + 1) = u1 at *
  generalize gD ss m = u0 at *
  generalize gD ys (m + 1) = v1 at *
  generalize gD ys m = v0 at *
  have hv1 : 0 < v1 := by rw [W_eq] at hn; omega
  rw [p1] at es ey
  rw [p2] at es
  have hVpos : 0 < val W ys := by
    have : 0 < W * W ^ m * v1 := Nat.mul_pos (Nat.mul_pos hW hP) hv1
    omega
  unfold guessN
  split
  · rename_i h
    have a1 : val W ys = v1 * (W * W ^ m) + (val W (ys.take m) + W ^ m * v0) := by rw [ey, Nat.mul_comm v1]; omega
    have a2 : val W ss = u2 * (W * (W * W ^ m)) + (val W (ss.take m) + W ^ m * u0 + W * W ^ m * u1) := by rw [es, Nat.mul_comm u2]; omega
    have a3 : val W (ys.take m) + W ^ m * v0 < W * W ^ m := by
      have : W ^ m * (v0 + 1) ≤ W ^ m * W := Nat.mul_le_mul_left _ hv0
      rw [Nat.mul_add, Nat.mul_comm _ W] at this
      omega
    obtain ⟨b1, b2⟩ := guess_most a1 a3 a2 h hn hlt hVpos
    exact ⟨b1, b2, by omega⟩
  · rename_i h
    have hgl : ((u2 * W + u1) * W + u0) / (v1 * W + v0) < W := by
      refine quo_lt hu0 ?_
      have : (u2 + 1) * W ≤ v1 * W := Nat.mul_le_mul_right _ (by omega)
      rw [Nat.add_mul] at this
      omega
    have a1 : val W ys = (v1 * W + v0) * W ^ m + val W (ys.take m) := by
      rw [ey, Nat.add_mul]
      have : v1 * W * W ^ m = W * W ^ m * v1 := by ac_rfl
      rw [this, Nat.mul_comm v0]; omega
    have a2 : val W ss = ((u2 * W + u1) * W + u0) * W ^ m + val W (ss.take m) := by
      rw [es]
      simp only [Nat.add_mul]
      have e1 : u2 * W * W * W ^ m = W * (W * W ^ m) * u2 := by ac_rfl
      have e2 : u1 * W * W ^ m = W * W ^ m * u1 := by ac_rfl
      rw [e1, e2, Nat.mul_comm u0]; omega
    have hV2 : W ≤ v1 * W + v0 := by
      have : 1 * W ≤ v1 * W := Nat.mul_le_mul_right _ hv1
      omega
    obtain ⟨b1, b2⟩ := guess_near hP a2 ls a1 ly (by omega) rfl (by omega)
    exact ⟨b1, b2, hgl⟩

/-! A round of the division. -/
def DivInv (V n X : Nat) (us qs : List Nat) (k : Nat) : Prop :=
  us.length = n + qs.length ∧ Dig W us ∧ Dig W qs ∧ val W us + V * val W qs = X ∧ val W us < V * W ^ k ∧ (∀ j, j < k → gD qs j = 0) ∧ k ≤ qs.length

def seg (us : List Nat) (i m : Nat) : List Nat := (us.drop i).take m
theorem seg_len {us : List Nat} {i m : Nat} (h : i + m ≤ us.length) : (seg us i m).length = m := by
  unfold seg; rw [List.length_take, List.length_drop]; omega
theorem seg_gD {us : List Nat} {i m j : Nat} (h : j < m) : gD (seg us i m) j = gD us (i + j) := by
  simp [seg, gD, List.getD, List.getElem?_take, h, List.getElem?_drop]
theorem Dig.seg {us : List Nat} (h : Dig W us) (i m : Nat) : Dig W (seg us i m) := (h.drop i).take m
theorem val_seg {us : List Nat} {i m : Nat} (h : i + m ≤ us.length) : val W us = val W (us.take i) + W ^ i * (val W (seg us i m) + W ^ m * val W (us.drop (i + m))) := by
  rw [val_split us i (by omega), val_split (us.drop i) m (by rw [List.length_drop]; omega), List.drop_drop]
  rfl

theorem DivInv.small {V n X : Nat} {us qs : List Nat} {i : Nat} (h : DivInv V n X us qs (i + 1)) (hVn : V < W ^ n) :
    val W (us.drop (i + (n + 1))) = 0 ∧ val W (seg us i (n + 1)) < V * W := by
  obtain ⟨h1, h2, h3, h4, h5, h6, h7⟩ := h
  have hW : 0 < W := by rw [W_eq]; omega
  have hPi : 0 < W ^ i := Nat.pow_pos hW
  have e := val_seg (us := us) (i := i) (m := n + 1) (by omega)
  generalize val W (us.drop (i + (n + 1))) = T at *
  generalize val W (seg us i (n + 1)) = S at *
  have e1 : W ^ i * (S + W ^ (n + 1) * T) < W ^ i * (V * W) := by
    have : V * W ^ (i + 1) = W ^ i * (V * W) := by rw [Nat.pow_succ]; ac_rfl
    omega
  have e2 : S + W ^ (n + 1) * T < V * W := Nat.lt_of_mul_lt_mul_left e1
  have e3 : V * W ≤ W ^ n * W := Nat.mul_le_mul_right _ (by omega)
  have e4 : W ^ (n + 1) = W ^ n * W := Nat.pow_succ ..
  refine ⟨?_, by omega⟩
  rcases Nat.eq_zero_or_pos T with h0 | h0
  · exact h0
  · have : W ^ (n + 1) * 1 ≤ W ^ (n + 1) * T := Nat.mul_le_mul_left _ h0
    omega

theorem DivInv.step {V n X : Nat} {us qs ss' : List Nat} {i : Nat} (h : DivInv V n X us qs (i + 1)) (hVn : V < W ^ n) (hV : 0 < V) (hl : ss'.length = n + 1) (hd : Dig W ss') (hv : val W ss' = val W (seg us i (n + 1)) % V) :
    DivInv V n X (us.take i ++ (ss' ++ us.drop (i + (n + 1)))) (qs.set i (val W (seg us i (n + 1)) / V)) i := by
  obtain ⟨hT, hS⟩ := h.small hVn
  obtain ⟨h1, h2, h3, h4, h5, h6, h7⟩ := h
  have hW : 0 < W := by rw [W_eq]; omega
  have e := val_seg (us := us) (i := i) (m := n + 1) (by omega)
  rw [hT, Nat.mul_zero, Nat.add_zero] at e
  have hq : val W (seg us i (n + 1)) / V < W := by rw [Nat.div_lt_iff_lt_mul hV, Nat.mul_comm]; exact hS
  have elen : (us.take i).length = i := by rw [List.length_take]; omega
  have e' : val W (us.take i ++ (ss' ++ us.drop (i + (n + 1)))) = val W (us.take i) + W ^ i * (val W (seg us i (n + 1)) % V) := by
    rw [val_append, val_append, hT, Nat.mul_zero, Nat.add_zero, elen, hv]
  have lt := val_lt hW (h2.take i)
  rw [elen] at lt
  have dm := Nat.div_add_mod (val W (seg us i (n + 1))) V
  have ml := Nat.mod_lt (val W (seg us i (n + 1))) hV
  have es := val_set' qs i (val W (seg us i (n + 1)) / V) (by omega)
  rw [h6 i (by omega), Nat.zero_mul, Nat.add_zero] at es
  generalize val W (seg us i (n + 1)) = S at *
  generalize S / V = d at *
  generalize S % V = r at *
  refine ⟨?_, (h2.take i).append (hd.append (h2.drop _)), h3.set hq, ?_, ?_, ?_, by rw [List.length_set]; omega⟩
  · simp only [List.length_append, List.length_take, List.length_drop, List.length_set, hl]; omega
  · rw [e', es, Nat.mul_add]
    rw [e] at h4
    have a1 : V * (d * W ^ i) = W ^ i * (V * d) := by ac_rfl
    have a2 := congrArg (W ^ i * ·) dm
    simp only [Nat.mul_add] at a2
    omega
  · rw [e']
    have : W ^ i * (r + 1) ≤ W ^ i * V := Nat.mul_le_mul_left _ ml
    rw [Nat.mul_add, Nat.mul_comm _ V] at this
    omega
  · intro j hj
    rw [gD_set_ne (by omega)]
    exact h6 j (by omega)

theorem DivInv.finish {V n X : Nat} {us qs : List Nat} (h : DivInv V n X us qs 0) : val W qs = X / V ∧ val W us = X % V := by
  obtain ⟨h1, h2, h3, h4, h5, h6, h7⟩ := h
  rw [Nat.pow_zero, Nat.mul_one] at h5
  have hV : 0 < V := by omega
  rw [← h4, Nat.add_comm, Nat.mul_add_div hV, Nat.div_eq_of_lt h5, Nat.mul_add_mod, Nat.mod_eq_of_lt h5]
  simp

theorem BlkAt.seg {e : TypeId} {k : IntKind} {w : World} {g : Nat} {us : List Nat} {rest : List Value} (h : BlkAt e k w g us rest) (i m : Nat) (hi : i + m ≤ us.length) :
    SegAt e k w g i (vals k (us.take i)) (seg us i m) (vals k (us.drop (i + m)) ++ rest) := by
  refine ⟨by rw [vals_length, List.length_take]; omega, ?_⟩
  have e1 : us = us.take i ++ (Go.Proofs.Ytnefipinicfegaa.seg us i m ++ us.drop (i + m)) := by
    unfold Go.Proofs.Ytnefipinicfegaa.seg
    rw [← List.drop_drop, List.take_append_drop, List.take_append_drop]
  have h2 : w.heap[g]? = some (.cells (vals k us ++ rest).toArray e (0, 0)) := h
  rw [h2]
  have e2 : vals k us = vals k (us.take i) ++ (vals k (Go.Proofs.Ytnefipinicfegaa.seg us i m) ++ vals k (us.drop (i + m))) := by
    rw [← vals_append, ← vals_append, ← e1]
  rw [e2]
  simp only [List.append_assoc]
theorem SegAt.blk {e : TypeId} {k : IntKind} {w : World} {g i : Nat} {a ss b : List Nat} {rest : List Value} (h : SegAt e k w g i (vals k a) ss (vals k b ++ rest)) : BlkAt e k w g (a ++ (ss ++ b)) rest := by
  show w.heap[g]? = _
  rw [h.2, vals_append, vals_append]
  simp only [List.append_assoc]
end Go.Proofs.Ytnefipinicfegaa
