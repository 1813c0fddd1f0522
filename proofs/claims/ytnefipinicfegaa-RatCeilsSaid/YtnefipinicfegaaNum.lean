/-
  Numbers as lists of places, the one of the least weight first. Plain: no program is named here.
-/
import Derived.KernelRfl
namespace Go.Proofs.Ytnefipinicfegaa
set_option linter.unusedVariables false
set_option linter.unusedSimpArgs false

/-- The number that a list of places tells. -/
def val (B : Nat) : List Nat → Nat
  | [] => 0
  | x :: l => x + B * val B l

def Dig (B : Nat) (l : List Nat) : Prop := ∀ x ∈ l, x < B

/-- Without the noughts at the end. -/
def tz : List Nat → List Nat
  | [] => []
  | x :: l => match tz l with
    | [] => if x = 0 then [] else [x]
    | y :: r => x :: y :: r

def dgF (B : Nat) : Nat → Nat → List Nat
  | 0, _ => []
  | f + 1, n => if n = 0 then [] else n % B :: dgF B f (n / B)

/-- A number's places, without noughts at the end. -/
def dg (B n : Nat) : List Nat := dgF B n n

section
variable {B : Nat}

theorem Dig.nil : Dig B [] := fun _ h => by cases h
theorem Dig.cons {x : Nat} {l : List Nat} (hx : x < B) (h : Dig B l) : Dig B (x :: l) := fun y hy => by
  rcases List.mem_cons.1 hy with rfl | hy
  · exact hx
  · exact h y hy
theorem Dig.head {x : Nat} {l : List Nat} (h : Dig B (x :: l)) : x < B := h x (List.mem_cons_self ..)
theorem Dig.tail {x : Nat} {l : List Nat} (h : Dig B (x :: l)) : Dig B l := fun y hy => h y (List.mem_cons_of_mem _ hy)
theorem Dig.take {l : List Nat} (h : Dig B l) (k : Nat) : Dig B (l.take k) := fun y hy => h y (List.mem_of_mem_take hy)
theorem Dig.drop {l : List Nat} (h : Dig B l) (k : Nat) : Dig B (l.drop k) := fun y hy => h y (List.mem_of_mem_drop hy)
theorem Dig.append {l m : List Nat} (h : Dig B l) (k : Dig B m) : Dig B (l ++ m) := fun y hy => by
  rcases List.mem_append.1 hy with h' | h'
  · exact h y h'
  · exact k y h'
theorem Dig.set {l : List Nat} (h : Dig B l) {i y : Nat} (hy : y < B) : Dig B (l.set i y) := fun z hz => by
  rcases List.mem_or_eq_of_mem_set hz with h' | rfl
  · exact h z h'
  · exact hy
theorem Dig.get {l : List Nat} (h : Dig B l) {i : Nat} (hi : i < l.length) : l[i] < B := h _ (List.getElem_mem hi)
theorem Dig.replicate (hB : 0 < B) (n : Nat) : Dig B (List.replicate n 0) := fun y hy => by
  rw [(List.mem_replicate.1 hy).2]; exact hB

theorem val_append (l m : List Nat) : val B (l ++ m) = val B l + B ^ l.length * val B m := by
  induction l with
  | nil => simp [val]
  | cons x l ih =>
    simp only [List.cons_append, val, ih, List.length_cons, Nat.pow_succ, Nat.mul_add]
    have : B * (B ^ l.length * val B m) = B ^ l.length * B * val B m := by
      rw [← Nat.mul_assoc, Nat.mul_comm B]
    omega

theorem val_lt (hB : 0 < B) {l : List Nat} (h : Dig B l) : val B l < B ^ l.length := by
  induction l with
  | nil => simp [val]
  | cons x l ih =>
    have h1 := ih h.tail
    have h2 := h.head
    simp only [val, List.length_cons, Nat.pow_succ]
    have : B * val B l + B ≤ B ^ l.length * B := by
      rw [Nat.mul_comm _ B, ← Nat.mul_succ]
      exact Nat.mul_le_mul_left B h1
    omega

theorem val_singleton (x : Nat) : val B [x] = x := by simp [val]

theorem val_take_succ (l : List Nat) (i : Nat) (h : i < l.length) : val B (l.take (i + 1)) = val B (l.take i) + B ^ i * l[i] := by
  rw [List.take_succ_eq_append_getElem h, val_append, val_singleton, List.length_take, Nat.min_eq_left (by omega)]

theorem val_drop (l : List Nat) (i : Nat) (h : i < l.length) : val B (l.drop i) = l[i] + B * val B (l.drop (i + 1)) := by
  rw [List.drop_eq_getElem_cons h, val]

theorem val_split (l : List Nat) (i : Nat) (h : i ≤ l.length) : val B l = val B (l.take i) + B ^ i * val B (l.drop i) := by
  have := val_append (B := B) (l.take i) (l.drop i)
  rw [List.take_append_drop, List.length_take, Nat.min_eq_left h] at this
  exact this

theorem val_set (l : List Nat) (i y : Nat) (h : i < l.length) : val B (l.set i y) + l[i] * B ^ i = val B l + y * B ^ i := by
  induction l generalizing i with
  | nil => simp at h
  | cons x l ih =>
    cases i with
    | zero => simp [val]; omega
    | succ i =>
      have := ih i (by simpa using h)
      simp only [List.set_cons_succ, val, List.getElem_cons_succ, Nat.pow_succ]
      have e1 : l[i]'(by simpa using h) * (B ^ i * B) = B * (l[i]'(by simpa using h) * B ^ i) := by
        rw [← Nat.mul_assoc, Nat.mul_comm]
      have e2 : y * (B ^ i * B) = B * (y * B ^ i) := by
        rw [← Nat.mul_assoc, Nat.mul_comm]
      rw [e1, e2]
      have := congrArg (B * ·) this
      simp only [Nat.mul_add] at this
      omega

theorem val_replicate (n : Nat) : val B (List.replicate n 0) = 0 := by
  induction n with
  | zero => rfl
  | succ n ih => simp [List.replicate_succ, val, ih]

theorem val_append_zeros (l : List Nat) (n : Nat) : val B (l ++ List.replicate n 0) = val B l := by
  rw [val_append, val_replicate]; simp

theorem val_zeros_append (l : List Nat) (n : Nat) : val B (List.replicate n 0 ++ l) = B ^ n * val B l := by
  rw [val_append, val_replicate]; simp

/-! Trimming. -/
theorem tz_snoc_zero (l : List Nat) : tz (l ++ [0]) = tz l := by
  induction l with
  | nil => rfl
  | cons x l ih => simp only [List.cons_append, tz, ih]

theorem tz_snoc (l : List Nat) (x : Nat) (h : x ≠ 0) : tz (l ++ [x]) = l ++ [x] := by
  induction l with
  | nil => simp [tz, h]
  | cons y l ih =>
    simp only [List.cons_append, tz, ih]
    cases l <;> simp

theorem tz_length_le (l : List Nat) : (tz l).length ≤ l.length := by
  induction l with
  | nil => simp [tz]
  | cons x l ih =>
    simp only [tz]
    split
    · split <;> simp
    · rename_i y r h
      rw [h] at ih
      simpa using ih

theorem tz_append_zeros (l : List Nat) : ∃ n, l = tz l ++ List.replicate n 0 := by
  induction l with
  | nil => exact ⟨0, rfl⟩
  | cons x l ih =>
    obtain ⟨n, hn⟩ := ih
    simp only [tz]
    split
    · rename_i h
      rw [h] at hn
      split
      · rename_i hx
        exact ⟨n + 1, by rw [hx, List.replicate_succ, List.nil_append]; rw [List.nil_append] at hn; rw [← hn]⟩
      · exact ⟨n, by rw [List.nil_append] at hn; rw [List.singleton_append, ← hn]⟩
    · rename_i y r h
      rw [h] at hn
      exact ⟨n, by simp [hn]⟩

theorem tz_take (l : List Nat) : l.take (tz l).length = tz l := by
  obtain ⟨n, hn⟩ := tz_append_zeros l
  have : (tz l ++ List.replicate n 0).take (tz l).length = tz l := List.take_left
  rw [← hn] at this
  exact this

theorem val_tz (l : List Nat) : val B (tz l) = val B l := by
  obtain ⟨n, hn⟩ := tz_append_zeros l
  have h : val B l = val B (tz l ++ List.replicate n 0) := congrArg _ hn
  rw [h, val_append_zeros]

theorem Dig.tz {l : List Nat} (h : Dig B l) : Dig B (tz l) := by
  rw [← tz_take]; exact h.take _

theorem tz_idem (l : List Nat) : tz (tz l) = tz l := by
  induction l with
  | nil => rfl
  | cons x l ih =>
    simp only [tz]
    split
    · split
      · rfl
      · rename_i h; simp [tz, h]
    · rename_i y r h
      rw [h] at ih
      simp only [tz] at ih ⊢
      rw [ih]

/-- In the one form: each place is less than B, and there is no nought at the end. -/
def Can (B : Nat) (l : List Nat) : Prop := Dig B l ∧ tz l = l

theorem Can.tail {x : Nat} {l : List Nat} (h : Can B (x :: l)) : Can B l := by
  refine ⟨h.1.tail, ?_⟩
  have := h.2
  simp only [tz] at this
  split at this
  · rename_i hl
    split at this
    · cases this
    · simp only [List.cons.injEq, true_and] at this
      rw [← this]; rfl
  · rename_i y r hl
    simp only [List.cons.injEq, true_and] at this
    rw [hl, this]

theorem Can.val_pos {x : Nat} {l : List Nat} (h : Can B (x :: l)) : 0 < val B (x :: l) := by
  induction l generalizing x with
  | nil =>
    have := h.2
    simp only [tz] at this
    split at this
    · cases this
    · simp [val]; omega
  | cons y l ih =>
    have h2 := ih h.tail
    have hB : 0 < B := by have := h.1.head; omega
    have : 0 < B * val B (y :: l) := Nat.mul_pos hB h2
    rw [val]
    omega

theorem Can.uniq {l m : List Nat} (hl : Can B l) (hm : Can B m) (h : val B l = val B m) : l = m := by
  induction l generalizing m with
  | nil =>
    cases m with
    | nil => rfl
    | cons y m => have := hm.val_pos; rw [← h] at this; simp [val] at this
  | cons x l ih =>
    cases m with
    | nil => have := hl.val_pos; rw [h] at this; simp [val] at this
    | cons y m =>
      have hx := hl.1.head
      have hy := hm.1.head
      simp only [val] at h
      have h1 : (x + B * val B l) % B = x := by rw [Nat.add_mul_mod_self_left]; exact Nat.mod_eq_of_lt hx
      have h2 : (y + B * val B m) % B = y := by rw [Nat.add_mul_mod_self_left]; exact Nat.mod_eq_of_lt hy
      have hxy : x = y := by rw [← h1, ← h2, h]
      subst hxy
      have h3 : B * val B l = B * val B m := by omega
      have h4 := Nat.eq_of_mul_eq_mul_left (show 0 < B by omega) h3
      rw [ih hl.tail hm.tail h4]

theorem can_tz {l : List Nat} (h : Dig B l) : Can B (tz l) := ⟨h.tz, tz_idem l⟩

theorem dgF_spec (hB : 1 < B) : ∀ f n, n ≤ f → Can B (dgF B f n) ∧ val B (dgF B f n) = n := by
  intro f
  induction f with
  | zero =>
    intro n h
    have : n = 0 := by omega
    subst this
    exact ⟨⟨Dig.nil, rfl⟩, rfl⟩
  | succ f ih =>
    intro n h
    simp only [dgF]
    split
    · subst_vars
      exact ⟨⟨Dig.nil, rfl⟩, rfl⟩
    · rename_i hn
      have hlt : n / B < n := Nat.div_lt_self (by omega) hB
      obtain ⟨⟨h1, h2⟩, h3⟩ := ih (n / B) (by omega)
      refine ⟨⟨Dig.cons (Nat.mod_lt _ (by omega)) h1, ?_⟩, ?_⟩
      · simp only [tz, h2]
        split
        · rename_i he
          rw [he] at h3
          simp only [val] at h3
          have hne : ¬ n % B = 0 := by
            have := Nat.mod_add_div n B
            rw [← h3, Nat.mul_zero, Nat.add_zero] at this
            omega
          rw [if_neg hne, he]
        · rename_i he; rw [he]
      · rw [val, h3, Nat.mod_add_div]

theorem dg_can (hB : 1 < B) (n : Nat) : Can B (dg B n) := (dgF_spec hB n n (Nat.le_refl _)).1
theorem dg_val (hB : 1 < B) (n : Nat) : val B (dg B n) = n := (dgF_spec hB n n (Nat.le_refl _)).2
theorem Can.eq_dg (hB : 1 < B) {l : List Nat} (h : Can B l) : l = dg B (val B l) := h.uniq (dg_can hB _) (dg_val hB _).symm
theorem tz_eq_dg (hB : 1 < B) {l : List Nat} (h : Dig B l) : tz l = dg B (val B l) := by
  rw [(can_tz h).eq_dg hB, val_tz]
theorem dg_inj (hB : 1 < B) {n m : Nat} (h : dg B n = dg B m) : n = m := by
  rw [← dg_val hB n, ← dg_val hB m, h]
theorem dg_zero : dg B 0 = [] := rfl
theorem dg_eq_nil (hB : 1 < B) {n : Nat} : dg B n = [] ↔ n = 0 := by
  constructor
  · intro h; rw [← dg_val hB n, h]; rfl
  · rintro rfl; rfl
theorem dg_small (hB : 1 < B) {n : Nat} (h0 : n ≠ 0) (h : n < B) : dg B n = [n] := by
  have hc : Can B [n] := ⟨Dig.cons h Dig.nil, by simp [tz, h0]⟩
  have := hc.eq_dg hB
  rw [val_singleton] at this
  exact this.symm
theorem dg_cons (hB : 1 < B) {n : Nat} (h0 : n ≠ 0) : dg B n = n % B :: dg B (n / B) := by
  have hc : Can B (n % B :: dg B (n / B)) := by
    obtain ⟨h1, h2⟩ := dg_can hB (n / B)
    refine ⟨Dig.cons (Nat.mod_lt _ (by omega)) h1, ?_⟩
    simp only [tz, h2]
    split
    · rename_i he
      have h3 := (dg_eq_nil hB).1 he
      have hne : ¬ n % B = 0 := by
        have := Nat.mod_add_div n B
        rw [h3, Nat.mul_zero, Nat.add_zero] at this
        omega
      rw [if_neg hne, he]
    · rename_i he; rw [he]
  have := hc.eq_dg hB
  rw [val, dg_val hB, Nat.mod_add_div] at this
  exact this.symm

theorem Can.pow_le {x : Nat} {l : List Nat} (h : Can B (x :: l)) : B ^ l.length ≤ val B (x :: l) := by
  induction l generalizing x with
  | nil => have := h.val_pos; simp only [List.length_nil, Nat.pow_zero]; omega
  | cons y l ih =>
    have := ih h.tail
    rw [val, List.length_cons, Nat.pow_succ]
    have h2 := Nat.mul_le_mul_left B this
    rw [Nat.mul_comm] at h2
    omega

theorem dg_len_lt (hB : 1 < B) (n : Nat) : n < B ^ (dg B n).length := by
  have := val_lt (by omega) (dg_can hB n).1
  rwa [dg_val hB] at this

theorem dg_len_le (hB : 1 < B) {n k : Nat} (h : n < B ^ k) : (dg B n).length ≤ k := by
  rcases hl : dg B n with _ | ⟨x, l⟩
  · simp
  · have hc : Can B (x :: l) := hl ▸ dg_can hB n
    have h1 := hc.pow_le
    rw [← hl, dg_val hB] at h1
    have h2 : B ^ l.length < B ^ k := Nat.lt_of_le_of_lt h1 h
    have := (Nat.pow_lt_pow_iff_right hB).1 h2
    simp only [List.length_cons]
    omega

theorem dg_len_mono (hB : 1 < B) {n m : Nat} (h : n ≤ m) : (dg B n).length ≤ (dg B m).length :=
  dg_len_le hB (Nat.lt_of_le_of_lt h (dg_len_lt hB m))
theorem dg_len_mul (hB : 1 < B) (n m : Nat) : (dg B (n * m)).length ≤ (dg B n).length + (dg B m).length := by
  refine dg_len_le hB ?_
  rw [Nat.pow_add]
  exact Nat.mul_lt_mul'' (dg_len_lt hB n) (dg_len_lt hB m)
theorem dg_len_add (hB : 1 < B) (n m : Nat) : (dg B (n + m)).length ≤ max (dg B n).length (dg B m).length + 1 := by
  refine dg_len_le hB ?_
  have h1 := Nat.lt_of_lt_of_le (dg_len_lt hB n) (Nat.pow_le_pow_right (by omega) (Nat.le_max_left _ (dg B m).length))
  have h2 := Nat.lt_of_lt_of_le (dg_len_lt hB m) (Nat.pow_le_pow_right (by omega) (Nat.le_max_right (dg B n).length _))
  rw [Nat.pow_succ]
  have h3 := Nat.mul_le_mul_left (B ^ max (dg B n).length (dg B m).length) hB
  omega
theorem dg_len_val (hB : 1 < B) {l : List Nat} (h : Dig B l) : (dg B (val B l)).length ≤ l.length := dg_len_le hB (val_lt (by omega) h)

end
end Go.Proofs.Ytnefipinicfegaa
