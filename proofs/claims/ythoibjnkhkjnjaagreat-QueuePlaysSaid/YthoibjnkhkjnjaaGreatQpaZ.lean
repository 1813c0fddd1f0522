/-
  A queue as a list in order: plain. No program is named here.
-/
import Derived.Test.YthoibjnkhkjnjaaGreatQqoZ
namespace Go.Proofs.YthoibjnkhkjnjaaGreat
set_option linter.unusedVariables false
set_option linter.unusedSimpArgs false

/-- In order. -/
def Srt (best : Bool) (L : List Nd) : Prop := L.Pairwise (Le best)
/-- x stands at place k of L. -/
def insN (L : List Nd) (k : Nat) (x : Nd) : List Nd := L.take k ++ x :: L.drop k
set_option maxRecDepth 100000 in
set_option maxHeartbeats 1000000 in
theorem insN_len (L : List Nd) (k : Nat) (x : Nd) (h : k ≤ L.length) : (insN L k x).length = L.length + 1 := by
  unfold insN
  rw [List.length_append, List.length_cons, List.length_take, List.length_drop]
  omega
set_option maxRecDepth 100000 in
set_option maxHeartbeats 1000000 in
theorem insN_end (L : List Nd) (x : Nd) : insN L L.length x = L ++ [x] := by unfold insN; simp
set_option maxRecDepth 100000 in
set_option maxHeartbeats 1000000 in
theorem insN_perm (L : List Nd) (k : Nat) (x : Nd) : (insN L k x).Perm (x :: L) := by
  unfold insN
  refine List.perm_middle.trans ?_
  rw [List.take_append_drop]
set_option maxRecDepth 100000 in
set_option maxHeartbeats 1000000 in
theorem insN_at {L : List Nd} {k : Nat} {x : Nd} (h : k ≤ L.length) : (insN L k x)[k]? = some x := by
  unfold insN
  rw [List.getElem?_append_right (by rw [List.length_take]; omega), List.length_take, Nat.min_eq_left h, Nat.sub_self]
  rfl
set_option maxRecDepth 100000 in
set_option maxHeartbeats 1000000 in
theorem insN_pre {L : List Nd} {k : Nat} {x y : Nd} (h : L[k]? = some y) : (insN L (k + 1) x)[k]? = some y := by
  have hl := (List.getElem?_eq_some_iff.1 h).1
  unfold insN
  rw [List.getElem?_append_left (by rw [List.length_take]; omega), List.getElem?_take, if_pos (by omega)]
  exact h
set_option maxRecDepth 100000 in
set_option maxHeartbeats 1000000 in
/-- One place further ahead. -/
theorem insN_swap {L : List Nd} {k : Nat} {x y : Nd} (h : L[k]? = some y) : ((insN L (k + 1) x).set (k + 1) y).set k x = insN L k x := by
  have hl := (List.getElem?_eq_some_iff.1 h).1
  have h2 := (List.getElem?_eq_some_iff.1 h).2
  apply List.ext_getElem?
  intro j
  have hlen : (insN L (k + 1) x).length = L.length + 1 := insN_len _ _ _ (by omega)
  by_cases hj : j = k
  · subst hj
    rw [List.getElem?_set_self (by rw [List.length_set, hlen]; omega), insN_at (by omega)]
  · rw [List.getElem?_set_ne (Ne.symm hj)]
    by_cases hj2 : j = k + 1
    · subst hj2
      rw [List.getElem?_set_self (by rw [hlen]; omega)]
      unfold insN
      rw [List.getElem?_append_right (by rw [List.length_take]; omega), List.length_take, Nat.min_eq_left (by omega), Nat.add_sub_cancel_left, List.getElem?_cons_succ, List.getElem?_drop, Nat.add_zero, h]
    · rw [List.getElem?_set_ne (Ne.symm hj2)]
      unfold insN
      by_cases hlt : j < k
      · rw [List.getElem?_append_left (by rw [List.length_take]; omega), List.getElem?_append_left (by rw [List.length_take]; omega), List.getElem?_take, List.getElem?_take, if_pos (by omega), if_pos hlt]
      · rw [List.getElem?_append_right (by rw [List.length_take]; omega), List.getElem?_append_right (by rw [List.length_take]; omega), List.length_take, List.length_take, Nat.min_eq_left (by omega), Nat.min_eq_left (by omega)]
        obtain ⟨m, rfl⟩ : ∃ m, j = k + 1 + (m + 1) := ⟨j - (k + 2), by omega⟩
        rw [show k + 1 + (m + 1) - (k + 1) = m + 1 by omega, show k + 1 + (m + 1) - k = (m + 1) + 1 by omega, List.getElem?_cons_succ, List.getElem?_cons_succ, List.getElem?_drop, List.getElem?_drop]
        congr 1
        omega
set_option maxRecDepth 100000 in
set_option maxHeartbeats 1000000 in
theorem Srt.at {best : Bool} {L : List Nd} (h : Srt best L) {i j : Nat} {a b : Nd} (hi : L[i]? = some a) (hj : L[j]? = some b) (hij : i ≤ j) : Le best a b := by
  rcases Nat.eq_or_lt_of_le hij with e | e
  · subst e
    rw [hi] at hj
    cases hj
    exact Le.rfl' _ _
  · obtain ⟨h1, rfl⟩ := List.getElem?_eq_some_iff.1 hi
    obtain ⟨h2, rfl⟩ := List.getElem?_eq_some_iff.1 hj
    exact List.pairwise_iff_getElem.1 h i j h1 h2 e
set_option maxRecDepth 100000 in
set_option maxHeartbeats 1000000 in
/-- Where x stops the list is in order. -/
theorem insN_srt {best : Bool} {L : List Nd} {k : Nat} {x : Nd} (h : Srt best L) (hk : k ≤ L.length) (ha : ∀ j y, k ≤ j → L[j]? = some y → Lt best x y) (hb : ∀ y, 0 < k → L[k - 1]? = some y → ¬ Lt best x y) : Srt best (insN L k x) := by
  unfold insN Srt
  rw [List.pairwise_append]
  refine ⟨List.Pairwise.sublist (List.take_sublist _ _) h, List.pairwise_cons.2 ⟨fun y hy => ?_, List.Pairwise.sublist (List.drop_sublist _ _) h⟩, fun a ha' b hb' => ?_⟩
  · obtain ⟨j, hj⟩ := List.mem_iff_getElem?.1 hy
    rw [List.getElem?_drop] at hj
    exact (ha _ y (by omega) hj).le
  · obtain ⟨i, hi⟩ := List.mem_iff_getElem?.1 ha'
    have hlt := (List.getElem?_eq_some_iff.1 hi).1
    rw [List.length_take] at hlt
    rw [List.getElem?_take, if_pos (by omega)] at hi
    obtain ⟨z, hz⟩ : ∃ z, L[k - 1]? = some z := ⟨_, List.getElem?_eq_getElem (by omega)⟩
    have haz : Le best a z := h.at hi hz (by omega)
    rcases List.mem_cons.1 hb' with rfl | hb'
    · exact haz.trans (hb z (by omega) hz)
    · obtain ⟨j, hj⟩ := List.mem_iff_getElem?.1 hb'
      rw [List.getElem?_drop] at hj
      exact h.at hi hj (by omega)
set_option maxRecDepth 100000 in
set_option maxHeartbeats 1000000 in
/-- The first of those in order is the one that nobody comes ahead of. -/
theorem srt_first {best : Bool} {L l : List Nd} {x y : Nd} {T l' : List Nd} (h : Srt best (y :: T)) (hp : l.Perm (y :: T)) (hx : (x :: l').Perm l) (hm : ∀ z ∈ l', Le best x z) : x = y ∧ l'.Perm T := by
  have hxy : (x :: l').Perm (y :: T) := hx.trans hp
  have hxm : x ∈ y :: T := hxy.mem_iff.1 (List.mem_cons_self ..)
  have hym : y ∈ x :: l' := hxy.mem_iff.2 (List.mem_cons_self ..)
  have h1 : Le best y x := by
    rcases List.mem_cons.1 hxm with rfl | hxm
    · exact Le.rfl' _ _
    · exact (List.pairwise_cons.1 h).1 x hxm
  have h2 : Le best x y := by
    rcases List.mem_cons.1 hym with rfl | hym
    · exact Le.rfl' _ _
    · exact hm y hym
  have e := Le.antisymm h2 h1
  subst e
  exact ⟨rfl, hxy.cons_inv⟩
set_option maxRecDepth 100000 in
set_option maxHeartbeats 1000000 in
theorem srt_tail {best : Bool} {y : Nd} {T : List Nd} (h : Srt best (y :: T)) : Srt best T := (List.pairwise_cons.1 h).2
set_option maxRecDepth 100000 in
set_option maxHeartbeats 1000000 in
theorem srt_keep {best : Bool} {L : List Nd} (lim : Rat) (h : Srt best L) : Srt best (keepN lim L) := List.Pairwise.sublist List.filter_sublist h
/-- The least cost. -/
def IsLeast (q : Rat) (L : List Nd) : Prop := (∃ x ∈ L, x.q = q) ∧ ∀ x ∈ L, q ≤ x.q
set_option maxRecDepth 100000 in
set_option maxHeartbeats 1000000 in
theorem IsLeast.uniq {q r : Rat} {L l : List Nd} (h : IsLeast q L) (k : IsLeast r l) (hp : l.Perm L) : q = r := by
  obtain ⟨⟨x, hx, rfl⟩, h2⟩ := h
  obtain ⟨⟨y, hy, rfl⟩, k2⟩ := k
  have h3 := h2 y (hp.mem_iff.1 hy)
  have h4 := k2 x (hp.mem_iff.2 hx)
  exact Rat.le_antisymm h3 h4
/-- The numbers of those that go, rising: as they are put in one by one. -/
def insI (out : List Int) (k : Nat) (x : Int) : List Int := out.take k ++ x :: out.drop k
set_option maxRecDepth 100000 in
set_option maxHeartbeats 1000000 in
theorem insI_end (L : List Int) (x : Int) : insI L L.length x = L ++ [x] := by unfold insI; simp
set_option maxRecDepth 100000 in
set_option maxHeartbeats 1000000 in
theorem insI_len (L : List Int) (k : Nat) (x : Int) (h : k ≤ L.length) : (insI L k x).length = L.length + 1 := by
  unfold insI
  rw [List.length_append, List.length_cons, List.length_take, List.length_drop]
  omega
set_option maxRecDepth 100000 in
set_option maxHeartbeats 1000000 in
theorem insI_perm (L : List Int) (k : Nat) (x : Int) : (insI L k x).Perm (x :: L) := by
  unfold insI
  refine List.perm_middle.trans ?_
  rw [List.take_append_drop]
set_option maxRecDepth 100000 in
set_option maxHeartbeats 1000000 in
theorem insI_at {L : List Int} {k : Nat} {x : Int} (h : k ≤ L.length) : (insI L k x)[k]? = some x := by
  unfold insI
  rw [List.getElem?_append_right (by rw [List.length_take]; omega), List.length_take, Nat.min_eq_left h, Nat.sub_self]
  rfl
set_option maxRecDepth 100000 in
set_option maxHeartbeats 1000000 in
theorem insI_pre {L : List Int} {k : Nat} {x y : Int} (h : L[k]? = some y) : (insI L (k + 1) x)[k]? = some y := by
  have hl := (List.getElem?_eq_some_iff.1 h).1
  unfold insI
  rw [List.getElem?_append_left (by rw [List.length_take]; omega), List.getElem?_take, if_pos (by omega)]
  exact h
set_option maxRecDepth 100000 in
set_option maxHeartbeats 1000000 in
theorem insI_swap {L : List Int} {k : Nat} {x y : Int} (h : L[k]? = some y) : ((insI L (k + 1) x).set (k + 1) y).set k x = insI L k x := by
  have hl := (List.getElem?_eq_some_iff.1 h).1
  apply List.ext_getElem?
  intro j
  have hlen : (insI L (k + 1) x).length = L.length + 1 := insI_len _ _ _ (by omega)
  by_cases hj : j = k
  · subst hj
    rw [List.getElem?_set_self (by rw [List.length_set, hlen]; omega), insI_at (by omega)]
  · rw [List.getElem?_set_ne (Ne.symm hj)]
    by_cases hj2 : j = k + 1
    · subst hj2
      rw [List.getElem?_set_self (by rw [hlen]; omega)]
      unfold insI
      rw [List.getElem?_append_right (by rw [List.length_take]; omega), List.length_take, Nat.min_eq_left (by omega), Nat.add_sub_cancel_left, List.getElem?_cons_succ, List.getElem?_drop, Nat.add_zero, h]
    · rw [List.getElem?_set_ne (Ne.symm hj2)]
      unfold insI
      by_cases hlt : j < k
      · rw [List.getElem?_append_left (by rw [List.length_take]; omega), List.getElem?_append_left (by rw [List.length_take]; omega), List.getElem?_take, List.getElem?_take, if_pos (by omega), if_pos hlt]
      · rw [List.getElem?_append_right (by rw [List.length_take]; omega), List.getElem?_append_right (by rw [List.length_take]; omega), List.length_take, List.length_take, Nat.min_eq_left (by omega), Nat.min_eq_left (by omega)]
        obtain ⟨m, rfl⟩ : ∃ m, j = k + 1 + (m + 1) := ⟨j - (k + 2), by omega⟩
        rw [show k + 1 + (m + 1) - (k + 1) = m + 1 by omega, show k + 1 + (m + 1) - k = (m + 1) + 1 by omega, List.getElem?_cons_succ, List.getElem?_cons_succ, List.getElem?_drop, List.getElem?_drop]
        congr 1
        omega
def SrtI (L : List Int) : Prop := L.Pairwise (· ≤ ·)
set_option maxRecDepth 100000 in
set_option maxHeartbeats 1000000 in
theorem SrtI.at {L : List Int} (h : SrtI L) {i j : Nat} {a b : Int} (hi : L[i]? = some a) (hj : L[j]? = some b) (hij : i ≤ j) : a ≤ b := by
  rcases Nat.eq_or_lt_of_le hij with e | e
  · subst e
    rw [hi] at hj
    cases hj
    exact Int.le_refl _
  · obtain ⟨h1, rfl⟩ := List.getElem?_eq_some_iff.1 hi
    obtain ⟨h2, rfl⟩ := List.getElem?_eq_some_iff.1 hj
    exact List.pairwise_iff_getElem.1 h i j h1 h2 e
set_option maxRecDepth 100000 in
set_option maxHeartbeats 1000000 in
theorem insI_srt {L : List Int} {k : Nat} {x : Int} (h : SrtI L) (hk : k ≤ L.length) (ha : ∀ j y, k ≤ j → L[j]? = some y → x < y) (hb : ∀ y, 0 < k → L[k - 1]? = some y → ¬ x < y) : SrtI (insI L k x) := by
  unfold insI SrtI
  rw [List.pairwise_append]
  refine ⟨List.Pairwise.sublist (List.take_sublist _ _) h, List.pairwise_cons.2 ⟨fun y hy => ?_, List.Pairwise.sublist (List.drop_sublist _ _) h⟩, fun a ha' b hb' => ?_⟩
  · obtain ⟨j, hj⟩ := List.mem_iff_getElem?.1 hy
    rw [List.getElem?_drop] at hj
    exact Int.le_of_lt (ha _ y (by omega) hj)
  · obtain ⟨i, hi⟩ := List.mem_iff_getElem?.1 ha'
    have hlt := (List.getElem?_eq_some_iff.1 hi).1
    rw [List.length_take] at hlt
    rw [List.getElem?_take, if_pos (by omega)] at hi
    obtain ⟨z, hz⟩ : ∃ z, L[k - 1]? = some z := ⟨_, List.getElem?_eq_getElem (by omega)⟩
    have haz : a ≤ z := h.at hi hz (by omega)
    rcases List.mem_cons.1 hb' with rfl | hb'
    · have := hb z (by omega) hz
      omega
    · obtain ⟨j, hj⟩ := List.mem_iff_getElem?.1 hb'
      rw [List.getElem?_drop] at hj
      exact h.at hi hj (by omega)
set_option maxRecDepth 100000 in
set_option maxHeartbeats 1000000 in
theorem srtI_uniq {l l' : List Int} (h : SrtI l') (hp : l'.Perm l) : l.mergeSort (fun x y => decide (x ≤ y)) = l' := by
  have tr : ∀ a b c : Int, decide (a ≤ b) = true → decide (b ≤ c) = true → decide (a ≤ c) = true := fun a b c h1 h2 => by simp only [decide_eq_true_eq] at *; omega
  have tt : ∀ a b : Int, (decide (a ≤ b) || decide (b ≤ a)) = true := fun a b => by simp only [Bool.or_eq_true, decide_eq_true_eq]; omega
  have h1 : (l.mergeSort (fun x y => decide (x ≤ y))).Perm l' := (List.mergeSort_perm l _).trans hp.symm
  refine h1.eq_of_pairwise (le := fun x y => decide (x ≤ y) = true) (fun a b _ _ h1 h2 => by simp only [decide_eq_true_eq] at *; omega) (List.pairwise_mergeSort tr tt l) (h.imp fun h => by simpa using h)
end Go.Proofs.YthoibjnkhkjnjaaGreat

/-
  A list of nodes that begins anywhere in its block: the document's queue.
-/
namespace Go.Proofs.YthoibjnkhkjnjaaGreat
open Go.RowKit
set_option linter.unusedVariables false
set_option linter.unusedSimpArgs false

/-- A list that lies alone from block B on, at an offset. -/
def rowO (w : World) (B : Nat) (e : TypeId) (size : Nat) (v : Value) (n : Nat) (xs : List Value) : Prop :=
  xs.length = n * size ∧ ((v = .slice none 0 0 ∧ n = 0) ∨ ∃ g off cap cur, v = .slice (some ⟨g, off, none⟩) n cap ∧ B ≤ g ∧ w.heap[g]? = some (.cells cur e (0, 0)) ∧ n ≤ cap ∧ cap ≤ maxLen ∧ off + cap * size ≤ cur.size ∧ ∀ j u, xs[j]? = some u → cur[off + j]? = some u)
set_option maxRecDepth 100000 in
set_option maxHeartbeats 1000000 in
theorem rowO.kept {w w' : World} {B : Nat} {e : TypeId} {size n : Nat} {v : Value} {xs : List Value} {row : Option Nat} (h : rowO w B e size v n xs) (hg : w.grownBy w' row) (hne : v.ownBlock = none ∨ v.ownBlock ≠ row) : rowO w' B e size v n xs := by
  refine ⟨h.1, ?_⟩
  rcases h.2 with hn | ⟨g, off, cap, cur, rfl, hb, hgg, rest⟩
  · exact .inl hn
  · refine .inr ⟨g, off, cap, cur, rfl, hb, ?_, rest⟩
    rw [hg.block g (Array.getElem?_eq_some_iff.1 hgg).1 (by simpa [Value.ownBlock] using hne)]
    exact hgg
set_option maxRecDepth 100000 in
set_option maxHeartbeats 1000000 in
theorem run_append_roomO {P : Program} (w : World) (t ty e : TypeId) (i : TypeInfo) (ht : P.underlying t = some (.slice e)) (hi : P.info? e = some i)
    (g off sLen sCap : Nat) (cur : Array Value) (hg : w.heap[g]? = some (.cells cur e (0, 0)))
    (a : Addr) (m c : Nat) (news : List Value) (hl : news.length = m * i.size) (hnews : ∀ j u, news[j]? = some u → w.cell? (a.add j) = some u) (h1 : ∀ u ∈ news, u.oneCell' = true)
    (hroom : sLen + m ≤ sCap) (hfit : off + sLen * i.size + news.length ≤ cur.size) :
    (Builtin.append_ #[t, t] ty #[.slice (some ⟨g, off, none⟩) sLen sCap, .slice (some a) m c]).run P w =
      .ok (.slice (some ⟨g, off, none⟩) (sLen + m) sCap) (w.setRow g (cur.toList.take (off + sLen * i.size) ++ news ++ cur.toList.drop (off + sLen * i.size + news.length)).toArray) := by
  have hf := run_firstCells_some (P := P) w i.size m a m c news hl hnews
  have hst := run_storeCells_at P g (off + sLen * i.size) e news 0 cur w hg (by simpa using hfit) h1
  simp only [Nat.add_zero] at hst
  simp [Builtin.append_, run_underlying ht, sizeOf, typeInfo, hi, Builtin.lenOf, hroom, hf, Addr.add_lit, hst]
set_option maxRecDepth 100000 in
set_option maxHeartbeats 1000000 in
theorem run_append_O {P : Program} (w : World) (B : Nat) (t ty e : TypeId) (i : TypeInfo) (z : Value) (size bytes : Nat) (ht : P.underlying t = some (.slice e)) (hi : P.info? e = some i) (hz : i.zero = some z)
    (hsize : i.size = size) (hby : i.bytes = bytes) (hzs : z.cells.size = size) (hsz : 0 < size)
    (v : Value) (n : Nat) (xs : List Value) (hown : rowO w B e size v n xs)
    (a : Addr) (m c : Nat) (news : List Value) (hl : news.length = m * size) (hnews : ∀ j u, news[j]? = some u → w.cell? (a.add j) = some u) (h1 : ∀ u ∈ news, u.oneCell' = true)
    (hm : 0 < m) (h63 : n + m ≤ maxLen) (hbytes : (n + m) * bytes ≤ 140737488355328) (hbase : B ≤ w.heap.size) :
    ∃ v' w', (Builtin.append_ #[t, t] ty #[v, .slice (some a) m c]).run P w = .ok v' w' ∧ rowO w' B e size v' (n + m) (xs ++ news) ∧ w.grownBy w' v.ownBlock ∧
      ∀ g, v'.ownBlock = some g → v.ownBlock = some g ∨ w.heap.size ≤ g := by
  subst hsize
  subst hby
  have hsmall : n + m ≤ 9223372036854775807 := by simp only [maxLen] at h63; omega
  have hlen : (xs ++ news).length = (n + m) * i.size := by rw [List.length_append, hown.1, hl, Nat.add_mul]
  have grown : ∀ (old : Nat), old < n + m → ∀ (row : Option Nat),
      rowO (w.drew.alloc (.cells (xs.toArray ++ news.toArray ++ Builtin.zeroCells z.cells (grownCap w (n + m) old e - (n + m))) e)) B e i.size
        (.slice (some ⟨w.heap.size, 0, none⟩) (n + m) (grownCap w (n + m) old e)) (n + m) (xs ++ news) ∧
      w.grownBy (w.drew.alloc (.cells (xs.toArray ++ news.toArray ++ Builtin.zeroCells z.cells (grownCap w (n + m) old e - (n + m))) e)) row := by
    intro old ho row
    have hge := grownCap_ge w (n + m) old e
    have hcm : grownCap w (n + m) old e ≤ maxLen := grownCap_le_maxLen w (n + m) old e h63
    refine ⟨⟨hlen, .inr ⟨w.heap.size, 0, _, _, rfl, hbase, heap_alloc_new w.drew _, hge, hcm, ?_, fun j u hu => ?_⟩⟩, ⟨rfl, rfl, rfl, by simp, fun k hk _ => heap_alloc_old w.drew _ hk⟩⟩
    · simp only [Array.size_append, List.size_toArray, size_zeroCells, hzs, hown.1, hl, ← Nat.add_mul, Nat.zero_add]
      refine Nat.le_of_eq ?_
      congr 1
      omega
    · have hj := (List.getElem?_eq_some_iff.1 hu).1
      rw [Nat.zero_add, Array.getElem?_append_left (by simpa using hj), List.append_toArray, List.getElem?_toArray]
      exact hu
  rcases hown.2 with ⟨rfl, rfl⟩ | ⟨g, off, cap, cur, rfl, hbg, hg, hnc, hcm, hcs, htake⟩
  · have hx : xs = [] := List.eq_nil_of_length_eq_zero (by simpa using hown.1)
    subst hx
    have hr := run_append_nil (P := P) w t ty e i z ht hi hz a m c news hl hnews (by omega) (by omega) (by have hb := hbytes; simp only [Nat.zero_add] at hb; omega)
    have hgr := grown 0 (by omega) (Value.ownBlock (.slice none 0 0))
    simp only [Nat.zero_add, List.nil_append, Array.empty_append] at hgr ⊢
    refine ⟨_, _, hr, hgr.1, hgr.2, fun g hg => .inr ?_⟩
    simp only [Value.ownBlock, Option.some.injEq] at hg
    omega
  · by_cases hroom : n + m ≤ cap
    · have hmul := Nat.mul_le_mul_right i.size hroom
      rw [Nat.add_mul] at hmul
      have hfit : off + n * i.size + news.length ≤ cur.size := by rw [hl]; omega
      have hr := run_append_roomO (P := P) w t ty e i ht hi g off n cap cur hg a m c news hl hnews h1 hroom hfit
      refine ⟨_, _, hr, ⟨hlen, .inr ⟨g, off, cap, _, rfl, hbg, setRow_heap w g cur _ e _ hg, hroom, hcm, ?_, fun j u hu => ?_⟩⟩, ⟨rfl, rfl, rfl, by simp, fun k _ hk => setRow_other w g k _ (fun e => hk (by simp [Value.ownBlock, e]))⟩, fun g2 hg2 => .inl hg2⟩
      · simp only [List.size_toArray, List.length_append, List.length_take, List.length_drop, Array.length_toList]
        omega
      · have hxl := hown.1
        rw [List.getElem?_toArray]
        by_cases hj : j < xs.length
        · rw [List.getElem?_append_left hj] at hu
          rw [List.append_assoc, List.getElem?_append_left (by rw [List.length_take, Array.length_toList]; omega), List.getElem?_take, if_pos (by omega), Array.getElem?_toList]
          exact htake j u hu
        · rw [List.getElem?_append_right (by omega)] at hu
          have hj2 := (List.getElem?_eq_some_iff.1 hu).1
          rw [List.getElem?_append_left (by rw [List.length_append, List.length_take, Array.length_toList]; omega), List.getElem?_append_right (by rw [List.length_take, Array.length_toList]; omega), List.length_take, Array.length_toList, Nat.min_eq_left (by omega)]
          rw [show off + j - (off + n * i.size) = j - xs.length by omega]
          exact hu
    · have holds : ∀ j u, xs[j]? = some u → w.cell? ((⟨g, off, none⟩ : Addr).add j) = some u := fun j u hu => by
        rw [addr_add, cell_of_row w g _ cur e (0, 0) hg]
        exact htake j u hu
      have hr := run_append_grow (P := P) w t ty e i z ht hi hz ⟨g, off, none⟩ n cap xs hown.1 holds a m c news hl hnews (by omega) (by omega) (growslice_fits (by omega) hbytes)
      have hgr := grown cap (by omega) (Value.ownBlock (.slice (some ⟨g, off, none⟩) n cap))
      refine ⟨_, _, hr, hgr.1, hgr.2, fun g2 hg2 => .inr ?_⟩
      simp only [Value.ownBlock, Option.some.injEq] at hg2
      omega
set_option maxRecDepth 100000 in
set_option maxHeartbeats 1000000 in
/-- The append of one struct, in a region that draws its order. -/
theorem og_appendO {P : Program} {o : Oper} {a : Act} {f : Nat → Value} {w : World} {R : World → World → Prop} {post : Value → World → Prop} (s x : Operand) (t : TypeId) (hgd : o.guard = none) (ho : o.op = .call { callee := .builtin .append, args := #[s, x], argTypes := #[t, t] })
    (base : Nat) (e : TypeId) (size bytes : Nat) (ht : P.underlying t = some (.slice e)) (hi : (P.info? e).map (fun i => (i.size, i.bytes)) = some (size, bytes)) (hz : ((P.info? e).bind (·.zero)).map (·.cells.size) = some size) (hsz : 0 < size)
    (v : Value) (n : Nat) (xs : List Value) (hs : a.eval s = v) (hown : rowO w base e size v n xs)
    (ad : Addr) (m c : Nat) (news : List Value) (hx : a.eval x = .slice (some ad) m c) (hl : news.length = m * size) (hnews : ∀ j u, news[j]? = some u → w.cell? (ad.add j) = some u) (h1 : ∀ u ∈ news, u.oneCell' = true)
    (hm : 0 < m) (h63 : n + m ≤ maxLen) (hbytes : (n + m) * bytes ≤ 140737488355328) (hbase : base ≤ w.heap.size)
    (h : ∀ v' w', rowO w' base e size v' (n + m) (xs ++ news) → w.grownBy w' v.ownBlock → (∀ g, v'.ownBlock = some g → v.ownBlock = some g ∨ w.heap.size ≤ g) → R w w' ∧ post v' w') : OpGoal P o a f w R post := by
  unfold OpGoal
  rw [hgd]
  cases hie : P.info? e with
  | none => simp [hie] at hi
  | some i =>
    simp only [hie, Option.map_some, Option.some.injEq, Prod.mk.injEq, Option.bind_some] at hi hz
    cases hiz : i.zero with
    | none => rw [hiz] at hz; cases hz
    | some z =>
      rw [hiz] at hz
      obtain ⟨v', w', hr, h2, h3, h4⟩ := run_append_O (P := P) w base t o.type e i z size bytes ht hie hiz hi.1 hi.2 (by simpa using hz) hsz v n xs hown ad m c news hl hnews h1 hm h63 hbytes hbase
      unfold Oper.wp
      simp [execOp, ho, resolve, invoke, builtin, hs, hx, hr, Result.andThen]
      exact ⟨v', rfl, h v' w' h2 h3 h4⟩

set_option maxRecDepth 100000 in
set_option maxHeartbeats 1000000 in
theorem flat5 {vs : List Value} {i : Nat} {cs : Array Value} (h : Five vs) (hi : vs[i]? = some (.agg cs)) (j : Nat) (hj : j < 5) : (flat vs)[i * 5 + j]? = cs[j]? := by
  unfold flat
  rw [Great.flat_get (by omega) vs h.size, show (i * 5 + j) / 5 = i by omega, show (i * 5 + j) % 5 = j by omega, hi]
  rfl

/-! The document's list. -/
def DL (B k : Nat) (w : World) (v : Value) (L : List Nd) : Prop := ∃ vs : List Value, Five vs ∧ vs.length = L.length ∧ rowO w B 38 5 v L.length (flat vs) ∧ ∀ (i : Nat) (u : Value) (x : Nd), vs[i]? = some u → L[i]? = some x → NdV B k w u x
set_option maxRecDepth 100000 in
set_option maxHeartbeats 1000000 in
theorem DL.nil (B k : Nat) (w : World) : DL B k w (.slice none 0 0) [] := ⟨[], fun v hv => by (cases hv), rfl, ⟨rfl, .inl ⟨rfl, rfl⟩⟩, fun i u x h => by simp at h⟩
set_option maxRecDepth 100000 in
set_option maxHeartbeats 1000000 in
theorem DL.val {B k : Nat} {w : World} {v : Value} {L : List Nd} (h : DL B k w v L) : ∃ ad cap, v = .slice ad L.length cap := by
  obtain ⟨vs, -, -, h, -⟩ := h
  rcases h.2 with ⟨h1, h2⟩ | ⟨g, off, cap, cur, h1, -⟩
  · exact ⟨none, 0, by rw [h1, h2]⟩
  · exact ⟨_, _, h1⟩
set_option maxRecDepth 100000 in
set_option maxHeartbeats 1000000 in
theorem DL.chgX {B k : Nat} {w w' : World} {v : Value} {L : List Nd} {bs : List Nat} (h : DL B k w v L) (hc : ChgS bs w w') (hb : ∀ g ∈ bs, ∀ cs, ¬ Bx 61 w g cs) (hv : ∀ g, v.ownBlock = some g → g ∉ bs) : DL B k w' v L := by
  obtain ⟨vs, h1, h2, h3, h4⟩ := h
  refine ⟨vs, h1, h2, ⟨h3.1, ?_⟩, fun i u x a b => (h4 i u x a b).chgX hc hb⟩
  rcases h3.2 with hn | ⟨g, off, cap, cur, rfl, k1, k2, rest⟩
  · exact .inl hn
  · exact .inr ⟨g, off, cap, cur, rfl, k1, (hc.2.2.2.2 g (blk_lt k2) (hv g rfl)).trans k2, rest⟩
set_option maxRecDepth 100000 in
set_option maxHeartbeats 1000000 in
theorem DL.ext {B k : Nat} {w w' : World} {v : Value} {L : List Nd} (h : DL B k w v L) (he : Ext w w') : DL B k w' v L := h.chgX (he.chgS []) (by simp) (by simp)
set_option maxRecDepth 100000 in
set_option maxHeartbeats 1000000 in
theorem DL.own {B k : Nat} {w : World} {v : Value} {L : List Nd} (h : DL B k w v L) : ∀ g, v.ownBlock = some g → B ≤ g ∧ g < w.heap.size ∧ ∃ cs, Bx 38 w g cs := by
  intro g hg
  obtain ⟨vs, -, -, h, -⟩ := h
  rcases h.2 with ⟨h1, -⟩ | ⟨g', off, cap, cur, rfl, k1, k2, -⟩
  · rw [h1] at hg; cases hg
  · simp only [Value.ownBlock, Option.some.injEq] at hg
    subst hg
    exact ⟨k1, blk_lt k2, cur, k2⟩
set_option maxRecDepth 100000 in
set_option maxHeartbeats 1000000 in
/-- A node's cells. -/
theorem DL.at {B k : Nat} {w : World} {v : Value} {L : List Nd} (h : DL B k w v L) {i : Nat} {x : Nd} (hi : L[i]? = some x) : ∃ g off cap b a1 n1 c1 a2 n2 c2, v = .slice (some ⟨g, off, none⟩) L.length cap ∧
    (∀ wz, (∀ cs, Bx 38 w g cs → Bx 38 wz g cs) → ∀ (j : Nat) (u : Value), (#[.int .i64 x.id, .int .i64 x.depth, .bool b, .slice a1 n1 c1, .slice a2 n2 c2] : Array Value)[j]? = some u → wz.cell? ⟨g, off + i * 5 + j, none⟩ = some u) ∧
    NdV B k w (.agg #[.int .i64 x.id, .int .i64 x.depth, .bool b, .slice a1 n1 c1, .slice a2 n2 c2]) x := by
  obtain ⟨vs, h1, h2, h3, h4⟩ := h
  have hlt := (List.getElem?_eq_some_iff.1 hi).1
  obtain ⟨u, hu⟩ : ∃ u, vs[i]? = some u := ⟨_, List.getElem?_eq_getElem (by omega)⟩
  have hN := h4 i u x hu hi
  have hN' := hN
  obtain ⟨b, a1, n1, c1, a2, n2, c2, rfl, -⟩ := hN'
  have hfl := flat_len h1.size
  rcases h3.2 with ⟨-, h0⟩ | ⟨g, off, cap, cur, rfl, k1, k2, k3, k4, k5, k6⟩
  · omega
  · refine ⟨g, off, cap, b, a1, n1, c1, a2, n2, c2, rfl, fun wz hz j y hy => ?_, hN⟩
    have hj : j < 5 := by have := (Array.getElem?_eq_some_iff.1 hy).1; simpa using this
    have hb := hz cur k2
    rw [Nat.add_assoc, hb.cell]
    refine k6 _ _ ?_
    rw [flat5 h1 hu j hj]
    exact hy
set_option maxRecDepth 100000 in
set_option maxHeartbeats 1000000 in
/-- A node stored into a place of the list. -/
theorem DL.put {B k g off n cap i : Nat} {w w' : World} {v : Value} {L : List Nd} {cur cs : Array Value} {x : Nd} (h : DL B k w v L) (hv : v = .slice (some ⟨g, off, none⟩) n cap) (hi : i < L.length) (hb : Bx 38 w g cur) (h5 : cs.size = 5) (hx : NdV B k w (.agg cs) x) (ho : cs.all (·.oneCell') = true) (hch : Chg g w w') (hb' : Bx 38 w' g (splice cur (off + i * 5) cs.toList)) :
    DL B k w' v (L.set i x) := by
  obtain ⟨vs, h1, h2, h3, h4⟩ := h
  have hlt : i < vs.length := by omega
  have hfl := flat_len h1.size
  rcases h3.2 with ⟨-, h0⟩ | ⟨g', off', cap', cur', rfl, k1, k2, k3, k4, k5, k6⟩
  · omega
  cases hv
  have hcu : cur' = cur := by
    unfold Bx at hb
    rw [k2] at hb
    simpa using hb
  subst hcu
  have hfit : off + i * 5 + 5 ≤ cur'.size := by omega
  refine ⟨vs.set i (.agg cs), ?_, by rw [List.length_set, List.length_set, h2], ⟨?_, .inr ⟨g, off, cap, _, by rw [List.length_set], k1, hb', by rw [List.length_set]; exact k3, k4, ?_, fun j u hj => ?_⟩⟩, fun j u y hu hy => ?_⟩
  · intro u hu
    rcases List.mem_or_eq_of_mem_set hu with hu | rfl
    · exact h1 u hu
    · exact ⟨cs, rfl, h5, ho⟩
  · rw [List.length_set]
    rw [flat_len (fun u hu => ?_), List.length_set, h2]
    rcases List.mem_or_eq_of_mem_set hu with hu | rfl
    · exact h1.size u hu
    · exact h5
  · unfold splice
    simp only [List.size_toArray, List.length_append, List.length_take, List.length_drop, Array.length_toList]
    omega
  · have hj5 : j < vs.length * 5 := by
      have := (List.getElem?_eq_some_iff.1 hj).1
      rw [flat_len (fun u hu => ?_), List.length_set] at this
      · exact this
      · rcases List.mem_or_eq_of_mem_set hu with hu | rfl
        · exact h1.size u hu
        · exact h5
    have hF : Five (vs.set i (.agg cs)) := fun u hu => by
      rcases List.mem_or_eq_of_mem_set hu with hu | rfl
      · exact h1 u hu
      · exact ⟨cs, rfl, h5, ho⟩
    obtain ⟨m, r, hr, rfl⟩ : ∃ m r, r < 5 ∧ j = m * 5 + r := ⟨j / 5, j % 5, by omega, by omega⟩
    have hm : m < vs.length := by omega
    obtain ⟨z, hz⟩ : ∃ z, (vs.set i (.agg cs))[m]? = some z := ⟨_, List.getElem?_eq_getElem (by rw [List.length_set]; exact hm)⟩
    obtain ⟨zs, rfl, -, -⟩ := hF z (List.mem_of_getElem? hz)
    rw [flat5 hF hz r hr] at hj
    unfold splice
    rw [List.getElem?_toArray]
    by_cases hmi : m = i
    · subst hmi
      rw [List.getElem?_set_self hlt] at hz
      cases hz
      have ha : cur'.toList.length = cur'.size := Array.length_toList
      have hb5 : cs.toList.length = 5 := by rw [Array.length_toList, h5]
      rw [List.append_assoc, List.getElem?_append_right (by rw [List.length_take]; omega), List.length_take, Nat.min_eq_left (by omega), List.getElem?_append_left (by omega), Array.getElem?_toList]
      rw [show off + (m * 5 + r) - (off + m * 5) = r by omega]
      exact hj
    · rw [List.getElem?_set_ne (Ne.symm hmi)] at hz
      have hold := k6 (m * 5 + r) u (by rw [flat5 h1 hz r hr]; exact hj)
      by_cases hlo : m < i
      · rw [List.append_assoc, List.getElem?_append_left (by rw [List.length_take, Array.length_toList]; omega), List.getElem?_take, if_pos (by omega), Array.getElem?_toList]
        exact hold
      · rw [List.getElem?_append_right (by rw [List.length_append, List.length_take, Array.length_toList, Array.length_toList, h5]; omega), List.length_append, List.length_take, Array.length_toList, Array.length_toList, h5, Nat.min_eq_left (by omega), List.getElem?_drop, Array.getElem?_toList]
        rw [show off + i * 5 + 5 + (off + (m * 5 + r) - (off + i * 5 + 5)) = off + (m * 5 + r) by omega]
        exact hold
  · have hty : ∀ cs0, ¬ Bx 61 w g cs0 := fun cs0 h => by
      unfold Bx at h hb
      rw [hb] at h
      simp at h
    by_cases hji : j = i
    · subst hji
      rw [List.getElem?_set_self hlt] at hu
      rw [List.getElem?_set_self (by omega)] at hy
      cases hu
      cases hy
      exact hx.chgX (hch.chgS (bs := [g]) (by simp)) (by simpa using hty)
    · rw [List.getElem?_set_ne (Ne.symm hji)] at hu hy
      exact (h4 j u y hu hy).chgX (hch.chgS (bs := [g]) (by simp)) (by simpa using hty)
set_option maxRecDepth 100000 in
set_option maxHeartbeats 1000000 in
theorem DL.fits {B k g off n cap i : Nat} {w : World} {v : Value} {L : List Nd} {cur : Array Value} (h : DL B k w v L) (hv : v = .slice (some ⟨g, off, none⟩) n cap) (hi : i < L.length) (hb : Bx 38 w g cur) : off + i * 5 + 5 ≤ cur.size := by
  obtain ⟨vs, h1, h2, h3, h4⟩ := h
  rcases h3.2 with ⟨-, h0⟩ | ⟨g', off', cap', cur', rfl, k1, k2, k3, k4, k5, k6⟩
  · omega
  cases hv
  have hcu : cur' = cur := by
    unfold Bx at hb
    rw [k2] at hb
    simpa using hb
  subst hcu
  omega
set_option maxRecDepth 100000 in
set_option maxHeartbeats 1000000 in
/-- But for the first one. -/
theorem DL.tail {B k g off n cap : Nat} {w : World} {L : List Nd} {x : Nd} (h : DL B k w (.slice (some ⟨g, off, none⟩) n cap) (x :: L)) : n = L.length + 1 ∧ 0 < cap ∧ DL B k w (.slice (if cap = 1 then some ⟨g, off, none⟩ else some ⟨g, off + 5, none⟩) L.length (cap - 1)) L := by
  obtain ⟨vs, h1, h2, h3, h4⟩ := h
  cases vs with
  | nil => simp at h2
  | cons u vs =>
    simp only [List.length_cons, Nat.add_right_cancel_iff] at h2
    obtain ⟨cs, rfl, hs, -⟩ := h1 u (List.mem_cons_self ..)
    rcases h3.2 with ⟨h0, -⟩ | ⟨g', off', cap', cur, hv, k1, k2, k3, k4, k5, k6⟩
    · cases h0
    cases hv
    have hF : Five vs := fun v hv => h1 v (List.mem_cons_of_mem _ hv)
    have hlen := flat_len hF.size
    refine ⟨rfl, by simp only [List.length_cons] at k3; omega, vs, hF, h2, ⟨by rw [hlen, h2], .inr ?_⟩, fun i u y hu hy => h4 (i + 1) u y (by simpa using hu) (by simpa using hy)⟩
    simp only [List.length_cons] at k3
    have hcons : ∀ j u, (flat vs)[j]? = some u → cur[off + 5 + j]? = some u := fun j u hu => by
      have := k6 (5 + j) u (by
        show (cs.toList ++ flat vs)[5 + j]? = some u
        rw [List.getElem?_append_right (by rw [Array.length_toList, hs]; omega), Array.length_toList, hs, Nat.add_sub_cancel_left]
        exact hu)
      rwa [← Nat.add_assoc] at this
    by_cases hc : cap = 1
    · rw [if_pos hc]
      subst hc
      have h0 : L.length = 0 := by omega
      refine ⟨g, off, 0, cur, by rw [h0], k1, k2, by omega, Nat.zero_le _, by omega, fun j u hu => ?_⟩
      have := (List.getElem?_eq_some_iff.1 hu).1
      omega
    · rw [if_neg hc]
      exact ⟨g, off + 5, cap - 1, cur, rfl, k1, k2, by omega, by omega, by omega, hcons⟩
set_option maxRecDepth 100000 in
set_option maxHeartbeats 1000000 in
/-- One more at the end. -/
theorem DL.fin {B k : Nat} {w w' : World} {v v' : Value} {L : List Nd} {x : Nd} {cs : Array Value} {vs : List Value} (h1 : Five vs) (h2 : vs.length = L.length) (h4 : ∀ (i : Nat) (u : Value) (y : Nd), vs[i]? = some u → L[i]? = some y → NdV B k w' u y) (h5 : cs.size = 5) (ho : cs.all (·.oneCell') = true) (hx : NdV B k w' (.agg cs) x) (h : rowO w' B 38 5 v' (L.length + 1) (flat vs ++ cs.toList)) : DL B k w' v' (L ++ [x]) := by
  refine ⟨vs ++ [.agg cs], ?_, by rw [List.length_append, List.length_append, h2]; rfl, ?_, fun i u y hu hy => ?_⟩
  · intro u hu
    rcases List.mem_append.1 hu with hu | hu
    · exact h1 u hu
    · rw [List.mem_singleton] at hu
      exact ⟨cs, hu, h5, ho⟩
  · have e : flat (vs ++ [.agg cs]) = flat vs ++ cs.toList := by
      rw [flat_append]
      show flat vs ++ (cs.toList ++ []) = _
      rw [List.append_nil]
    rw [e, List.length_append]
    exact h
  · by_cases hin : i < vs.length
    · rw [List.getElem?_append_left hin] at hu
      rw [List.getElem?_append_left (by omega)] at hy
      exact h4 i u y hu hy
    · have hil := (List.getElem?_eq_some_iff.1 hu).1
      rw [List.length_append] at hil
      have hie : i = vs.length := by simp only [List.length_cons, List.length_nil] at hil; omega
      subst hie
      rw [List.getElem?_concat_length] at hu
      rw [h2, List.getElem?_concat_length] at hy
      cases hu
      cases hy
      exact hx
end Go.Proofs.YthoibjnkhkjnjaaGreat

/-
  The document's queue: Pop, Same, Least.
-/
namespace Go.Proofs.YthoibjnkhkjnjaaGreat
open Go.RowKit
set_option linter.unusedVariables false
set_option linter.unusedSimpArgs false

set_option maxRecDepth 100000 in
set_option maxHeartbeats 1000000 in
theorem Ext.bxs {t : TypeId} {g : Nat} {w w' : World} (h : Ext w w') : ∀ cs, Bx t w g cs → Bx t w' g cs := fun cs hb => hb.ext h
set_option maxRecDepth 100000 in
set_option maxHeartbeats 2000000 in
theorem rpop0_calls (p : Nat) (o : Value) (ad : Option Addr) (cap : Nat) (w : World) (hp : Bx 31 w p #[o, .slice ad 0 cap]) :
    Calls Tryz.prog 12 #[.pointer (some ⟨p, 0, none⟩)] w fun e w' => e = .returned (.tuple #[.agg #[.int .i64 0, .int .i64 0, .bool false, .slice none 0 0, .slice none 0 0], .bool false]) ∧ Ext w w' := by
  obtain ⟨w1, hw1, e1, b1, s1⟩ := alloc1 w #[.int .i64 0, .int .i64 0, .bool false, .slice none 0 0, .slice none 0 0] 38
  have hlt := hp.lt
  have hc : (w.alloc (.cells #[.int .i64 0, .int .i64 0, .bool false, .slice none 0 0, .slice none 0 0] 38)).cell? ⟨p, 1, none⟩ = some (.slice ad 0 cap) := by
    rw [← hw1]
    exact (hp.ext e1).cell 1
  go_enter Tryz.func12, Tryz.ntmps12
  go_wp2
  rw [← hw1]
  refine ret_box2 2 3 38 w.heap.size 38 _ _ _ (by kernel_rfl) rfl rfl b1 Tryz.underlying38 rfl (by kernel_rfl) rfl ?_
  exact ⟨rfl, e1⟩
set_option maxRecDepth 100000 in
set_option maxHeartbeats 4000000 in
set_option maxRecDepth 100000 in
set_option maxHeartbeats 1000000 in
/-- The first one goes: what is left lies behind it. -/
theorem rpop_calls (B k p : Nat) (o : Value) (v : Value) (x : Nd) (L : List Nd) (w : World) (hp : Bx 31 w p #[o, v]) (h : DL B k w v (x :: L)) (ho : ∃ z, o = .int .i64 z) (hn : L.length + 1 ≤ 35184372088832) :
    Calls Tryz.prog 12 #[.pointer (some ⟨p, 0, none⟩)] w fun e w' => ∃ va v', e = .returned (.tuple #[va, .bool true]) ∧ NdV B k w' va x ∧ Chg p w w' ∧ Bx 31 w' p #[o, v'] ∧ DL B k w' v' L ∧ v'.ownBlock = v.ownBlock := by
  obtain ⟨oz, rfl⟩ := ho
  obtain ⟨g, off, cap, b, a1, n1, c1, a2, n2, c2, rfl, hcell, hN⟩ := h.at (i := 0) rfl
  obtain ⟨hn0, hcap, hT⟩ := h.tail
  have hpg : p ≠ g := by
    obtain ⟨-, -, cs, hb⟩ := h.own g rfl
    intro e
    subst e
    unfold Bx at hb hp
    rw [hb] at hp
    simp at hp
  obtain ⟨xi, xd, xq⟩ := x
  simp only at hcell hN
  obtain ⟨w0, hw0, e0, bz, s0⟩ := alloc1 w #[.int .i64 0, .int .i64 0, .bool false, .slice none 0 0, .slice none 0 0] 38
  obtain ⟨w1, hw1, e1, bn, s1⟩ := alloc1 w0 #[.int .i64 xi, .int .i64 xd, .bool b, .slice a1 n1 c1, .slice a2 n2 c2] 38
  have P1 := hp.ext (e0.trans e1)
  have hq0 := hcell w0 (e0.bxs) 0 _ rfl
  have hq1 := hcell w0 (e0.bxs) 1 _ rfl
  have hq2 := hcell w0 (e0.bxs) 2 _ rfl
  have hq3 := hcell w0 (e0.bxs) 3 _ rfl
  have hq4 := hcell w0 (e0.bxs) 4 _ rfl
  simp only [Nat.zero_mul, Nat.add_zero] at hq0 hq1 hq2 hq3 hq4
  have hp1 := (hp.ext e0).cell 1
  rw [hw0] at hp1 hq0 hq1 hq2 hq3 hq4
  have hr1 := P1.cell 1
  have hrf := P1.free 1
  have hw2 : w1 = (w.alloc (.cells #[.int .i64 0, .int .i64 0, .bool false, .slice none 0 0, .slice none 0 0] 38)).alloc (.cells #[.int .i64 xi, .int .i64 xd, .bool b, .slice a1 n1 c1, .slice a2 n2 c2] 38) := by rw [hw1, hw0]
  rw [hw2] at hr1 hrf
  have HT := Lib.hid hT
  have HN := Lib.hid hN
  have HP := Lib.hid hp
  have hpl := hp.lt
  have hlen : (0 : Int) < ((L.length + 1 : Nat) : Int) := by omega
  have h1le : (1 : Int) ≤ ((L.length + 1 : Nat) : Int) := by omega
  clear hcell hN hT h hp P1 hw0 hw1 bz bn e0 e1 hw2 s0 s1 hn0
  go_enter Tryz.func12, Tryz.ntmps12
  by_cases hc1 : cap = 1
  · subst hc1
    go_wp2
    obtain ⟨wA, hwA⟩ : ∃ wA, wA = w.setCell ⟨p, 1, none⟩ (.slice (some ⟨g, off, none⟩) L.length 0) := ⟨_, rfl⟩
    have cA : Chg p w wA := by rw [hwA]; exact Chg.setCell _ p 1 _
    have PA : Bx 31 wA p #[.int .i64 oz, (.slice (some ⟨g, off, none⟩) L.length 0)] := by rw [hwA]; exact HP.out.set 1 _
    have sA : wA.heap.size = w.heap.size := by rw [hwA]; simp
    rw [← hwA]
    obtain ⟨wB, hwB, eB, bB, sB⟩ := alloc1 wA #[.int .i64 xi, .int .i64 xd, .bool b, .slice a1 n1 c1, .slice a2 n2 c2] 38
    obtain ⟨wC, hwC, eC, bC, sC⟩ := alloc1 wB #[.int .i64 xi, .int .i64 xd, .bool b, .slice a1 n1 c1, .slice a2 n2 c2] 38
    rw [← hwB, ← hwC]
    rw [sA] at bB
    refine ret_box2 2 3 38 w.heap.size 38 _ _ _ (by kernel_rfl) rfl rfl (bB.ext eC) Tryz.underlying38 rfl (by kernel_rfl) rfl ?_
    have hne : ∀ g' ∈ [p], ∀ ds, ¬ Bx 61 w g' ds := fun g' hg' ds => by
      rw [List.mem_singleton.1 hg']
      exact bx_ne HP.out (by decide)
    have eAC := eB.trans eC
    have HT2 : DL B k w (.slice (some ⟨g, off, none⟩) L.length 0) L := by simpa [] using HT.out
    have hown : ∀ g', ((.slice (some ⟨g, off, none⟩) L.length 0) : Value).ownBlock = some g' → g' ∉ [p] := by
      intro g' hg' hm
      simp only [Value.ownBlock, Option.some.injEq] at hg'
      rw [← hg', List.mem_singleton] at hm
      exact hpg hm.symm
    have hN5 := (HN.out.chgX (cA.chgS (bs := [p]) (by simp)) hne).ext eAC
    have hD5 := (HT2.chgX (cA.chgS (bs := [p]) (by simp)) hne hown).ext eAC
    first
      | exact ⟨_, rfl, hN5, cA.trans (eAC.chg p), _, PA.ext eAC, hD5, rfl⟩
      | exact ⟨_, _, rfl, hN5, cA.trans (eAC.chg p), PA.ext eAC, hD5, rfl⟩
  · go_wp2
    obtain ⟨wA, hwA⟩ : ∃ wA, wA = w.setCell ⟨p, 1, none⟩ (.slice (some ⟨g, off + 5, none⟩) L.length (cap - 1)) := ⟨_, rfl⟩
    have cA : Chg p w wA := by rw [hwA]; exact Chg.setCell _ p 1 _
    have PA : Bx 31 wA p #[.int .i64 oz, (.slice (some ⟨g, off + 5, none⟩) L.length (cap - 1))] := by rw [hwA]; exact HP.out.set 1 _
    have sA : wA.heap.size = w.heap.size := by rw [hwA]; simp
    rw [← hwA]
    obtain ⟨wB, hwB, eB, bB, sB⟩ := alloc1 wA #[.int .i64 xi, .int .i64 xd, .bool b, .slice a1 n1 c1, .slice a2 n2 c2] 38
    obtain ⟨wC, hwC, eC, bC, sC⟩ := alloc1 wB #[.int .i64 xi, .int .i64 xd, .bool b, .slice a1 n1 c1, .slice a2 n2 c2] 38
    rw [← hwB, ← hwC]
    rw [sA] at bB
    refine ret_box2 2 3 38 w.heap.size 38 _ _ _ (by kernel_rfl) rfl rfl (bB.ext eC) Tryz.underlying38 rfl (by kernel_rfl) rfl ?_
    have hne : ∀ g' ∈ [p], ∀ ds, ¬ Bx 61 w g' ds := fun g' hg' ds => by
      rw [List.mem_singleton.1 hg']
      exact bx_ne HP.out (by decide)
    have eAC := eB.trans eC
    have HT2 : DL B k w (.slice (some ⟨g, off + 5, none⟩) L.length (cap - 1)) L := by simpa [hc1] using HT.out
    have hown : ∀ g', ((.slice (some ⟨g, off + 5, none⟩) L.length (cap - 1)) : Value).ownBlock = some g' → g' ∉ [p] := by
      intro g' hg' hm
      simp only [Value.ownBlock, Option.some.injEq] at hg'
      rw [← hg', List.mem_singleton] at hm
      exact hpg hm.symm
    have hN5 := (HN.out.chgX (cA.chgS (bs := [p]) (by simp)) hne).ext eAC
    have hD5 := (HT2.chgX (cA.chgS (bs := [p]) (by simp)) hne hown).ext eAC
    first
      | exact ⟨_, rfl, hN5, cA.trans (eAC.chg p), _, PA.ext eAC, hD5, rfl⟩
      | exact ⟨_, _, rfl, hN5, cA.trans (eAC.chg p), PA.ext eAC, hD5, rfl⟩
end Go.Proofs.YthoibjnkhkjnjaaGreat

/-
  The document's queue: the least Least.
-/
namespace Go.Proofs.YthoibjnkhkjnjaaGreat
open Go.RowKit
set_option linter.unusedVariables false
set_option linter.unusedSimpArgs false

set_option maxRecDepth 100000 in
set_option maxHeartbeats 1000000 in
theorem put3r {t : TypeId} {g : Nat} {w : World} {a b c : Value} (h : Bx t w g #[a, b, c]) (a' b' c' : Value) : ∃ w1, w1 = (((w.setCell ⟨g, 0, none⟩ a').setCell ⟨g, 1, none⟩ b').setCell ⟨g, 2, none⟩ c') ∧ Chg g w w1 ∧ Bx t w1 g #[a', b', c'] :=
  ⟨_, rfl, ((Chg.setCell w g 0 _).trans (Chg.setCell _ g 1 _)).trans (Chg.setCell _ g 2 _), ((h.set 0 a').set 1 b').set 2 c'⟩
set_option maxRecDepth 100000 in
set_option maxHeartbeats 1000000 in
theorem FrQ.chgY {B g : Nat} {w w' : World} {v : Value} {q : Rat} {t : TypeId} {cs : Array Value} (h : FrQ B w v q) (hc : Chg g w w') (hb : Bx t w g cs) (ht : t ≠ 61) : FrQ B w' v q := by
  obtain ⟨s, u, hst, hs, hu⟩ := h
  have hn : ∀ g' ∈ [g], ∀ ds, ¬ Bx 61 w g' ds := fun g' hg' ds => by
    rw [List.mem_singleton.1 hg']
    exact bx_ne hb ht
  exact ⟨s, u, hst, FrL.chgX hs (hc.chgS (bs := [g]) (by simp)) hn, FrL.chgX hu (hc.chgS (bs := [g]) (by simp)) hn⟩
set_option maxRecDepth 100000 in
set_option maxHeartbeats 1000000 in
theorem DL.le {B k : Nat} {w : World} {v : Value} {L : List Nd} (h : DL B k w v L) : L.length ≤ 9223372036854775807 ∧ ∃ ad cap, v = .slice ad L.length cap := by
  obtain ⟨vs, h1, h2, h3, h4⟩ := h
  rcases h3.2 with ⟨rfl, h0⟩ | ⟨g, off, cap, cur, rfl, k1, k2, k3, k4, k5, k6⟩
  · rw [h0]
    exact ⟨by omega, _, _, rfl⟩
  · unfold maxLen at k4
    exact ⟨by omega, _, _, rfl⟩
set_option maxRecDepth 100000 in
set_option maxHeartbeats 2000000 in
theorem rleast0_calls (p : Nat) (o : Value) (ad : Option Addr) (cap : Nat) (w : World) (hp : Bx 31 w p #[o, .slice ad 0 cap]) :
    Calls Tryz.prog 18 #[.pointer (some ⟨p, 0, none⟩)] w fun e w' => e = .returned (.tuple #[.agg #[.bool false, .slice none 0 0, .slice none 0 0], .bool false]) ∧ Ext w w' := by
  obtain ⟨w1, hw1, e1, b1, s1⟩ := alloc1 w #[.bool false, .slice none 0 0, .slice none 0 0] 36
  have hlt := hp.lt
  have hc : (w.alloc (.cells #[.bool false, .slice none 0 0, .slice none 0 0] 36)).cell? ⟨p, 1, none⟩ = some (.slice ad 0 cap) := by
    rw [← hw1]
    exact (hp.ext e1).cell 1
  go_enter Tryz.func18, Tryz.ntmps18
  go_wp2
  rw [← hw1]
  refine ret_box2 2 3 36 w.heap.size 36 _ _ _ (by kernel_rfl) rfl rfl b1 Tryz.underlying36 rfl (by kernel_rfl) rfl ?_
  exact ⟨rfl, e1⟩
/-- The least of the first j lies in block b. -/
def LeaI (B k b : Nat) (w : World) (L : List Nd) (j : Nat) (wr : World) : Prop :=
  ∃ y bb z1 m1 d1 z2 m2 d2, y ∈ L ∧ (∀ z ∈ L.take j, y.q ≤ z.q) ∧ Bx 36 wr b #[.bool bb, .slice z1 m1 d1, .slice z2 m2 d2] ∧ FrQ B wr (.agg #[.bool bb, .slice z1 m1 d1, .slice z2 m2 d2]) y.q ∧ szQ y.q ≤ k ∧ Chg b w wr
set_option maxRecDepth 100000 in
set_option maxHeartbeats 8000000 in
theorem rleast_calls (B k p : Nat) (oz : Int) (v : Value) (L : List Nd) (w : World) (hp : Bx 31 w p #[.int .i64 oz, v]) (h : DL B k w v L) (hne : 0 < L.length) (hk : k ≤ 1000) :
    Calls Tryz.prog 18 #[.pointer (some ⟨p, 0, none⟩)] w fun e w' => ∃ va q, e = .returned (.tuple #[va, .bool true]) ∧ FrQ B w' va q ∧ IsLeast q L ∧ szQ q ≤ k ∧ Ext w w' := by
  have lim0 : (1000 : Nat) ≤ LIM := by rw [LIM_eq]; omega
  obtain ⟨hmax, -⟩ := h.le
  obtain ⟨x0, hx0⟩ : ∃ x, L[0]? = some x := ⟨_, List.getElem?_eq_getElem hne⟩
  obtain ⟨g, off, cap, b, a1, n1, c1, a2, n2, c2, rfl, hcell, hN⟩ := h.at hx0
  obtain ⟨_, _, _, _, _, _, _, he, hN, hsz⟩ := hN
  cases he
  obtain ⟨n, hn⟩ : ∃ n, n = L.length := ⟨_, rfl⟩
  rw [← hn] at hmax hne hp h
  obtain ⟨w0, hw0, e0, bz, s0⟩ := alloc1 w #[.bool false, .slice none 0 0, .slice none 0 0] 36
  obtain ⟨w1, hw1, e1, bb, s1⟩ := alloc1 w0 #[.bool b, .slice a1 n1 c1, .slice a2 n2 c2] 36
  have hp1 := (hp.ext e0).cell 1
  have hq2 := hcell w0 e0.bxs 2 _ rfl
  have hq3 := hcell w0 e0.bxs 3 _ rfl
  have hq4 := hcell w0 e0.bxs 4 _ rfl
  simp only [Nat.zero_mul, Nat.add_zero] at hq2 hq3 hq4
  rw [hw0] at hp1 hq2 hq3 hq4
  have hw2 : w1 = (w.alloc (.cells #[.bool false, .slice none 0 0, .slice none 0 0] 36)).alloc (.cells #[.bool b, .slice a1 n1 c1, .slice a2 n2 c2] 36) := by rw [hw1, hw0]
  rw [s0] at bb
  have E1 := Lib.hid (e0.trans e1)
  have BZ := Lib.hid (bz.ext e1)
  have HI : Hid (LeaI B k (w.heap.size + 1) w1 L 0 w1) := Lib.hid ⟨x0, b, a1, n1, c1, a2, n2, c2, List.mem_of_getElem? hx0, (by intro z hz; cases hz), bb, hN.ext (e0.trans e1), hsz, Chg.refl _ _⟩
  have HP := Lib.hid hp
  have HD := Lib.hid h
  have HL := Lib.hid hn
  clear hw0 hw1 e0 e1 bz bb s0 hx0 hcell hN hsz hp hn h
  go_enter Tryz.func18, Tryz.ntmps18
  go_wp2_with fail
  rw [← hw2]
  clear hw2 hp1 hq2 hq3 hq4
  go_loopw [5] (fun i wr => ∃ j : Nat, i = .int .i64 (j : Int) ∧ j ≤ n ∧ Hid (LeaI B k (w.heap.size + 1) w1 L j wr)) (fun i _ => ((n : Int) - intOf i).toNat)
  case atStart => exact ⟨0, rfl, Nat.zero_le _, HI⟩
  case round =>
    clear HI
    obtain ⟨j, rfl, hj, hH⟩ := hrel
    obtain ⟨y, bb, z1, m1, d1, z2, m2, d2, hy, hmin, hbx, hfr, hsy, hch⟩ := hH.out
    have hext : Ext w wr := E1.out.step hch (by omega)
    have P1 := HP.out.ext hext
    have hpc := P1.cell 1
    have hb0 := hbx.cell 0
    have hb1 := hbx.cell 1
    have hb2 := hbx.cell 2
    rcases Nat.eq_or_lt_of_le hj with hjn | hjn
    · subst hjn
      have BW := BZ.out.chg hch (by omega)
      have hg0 := BW.cell 0
      have hg1 := BW.cell 1
      have hg2 := BW.cell 2
      have hf0 := BW.free 0
      have hf1 := BW.free 1
      have hf2 := BW.free 2
      obtain ⟨w3, hw3, c3, b3⟩ := put3r BW (.bool bb) (.slice z1 m1 d1) (.slice z2 m2 d2)
      have HF := Lib.hid hfr
      have HS := Lib.hid (And.intro hy (And.intro hmin hsy))
      have HE := Lib.hid hext
      clear hfr hmin hy hsy hext hbx hch hH
      go_wp2_with fail
      rw [← hw3]
      clear hw3
      refine ret_box2 2 3 36 w.heap.size 36 _ _ _ (by kernel_rfl) rfl rfl b3 Tryz.underlying36 rfl (by kernel_rfl) rfl ?_
      refine ⟨_, y.q, rfl, HF.out.chgY c3 BW (by decide), ⟨⟨y, HS.out.1, rfl⟩, fun z hz => HS.out.2.1 z ?_⟩, HS.out.2.2, HE.out.step c3 (Nat.le_refl _)⟩
      rw [List.take_of_length_le (by rw [← HL.out]; exact Nat.le_refl _)]
      exact hz
    · obtain ⟨x, hx⟩ : ∃ x, L[j]? = some x := ⟨_, List.getElem?_eq_getElem (by rw [← HL.out]; exact hjn)⟩
      obtain ⟨g', off', cap', b', a3, n3, c3, a4, n4, c4, hse, hcell, hN⟩ := HD.out.at hx
      simp only [Value.slice.injEq, Option.some.injEq, Addr.mk.injEq] at hse
      obtain ⟨⟨rfl, rfl, -⟩, -, rfl⟩ := hse
      obtain ⟨_, _, _, _, _, _, _, he, hN, hsz⟩ := hN
      cases he
      have HC := Lib.hid (show ∀ wz, Ext w wz → _ from fun wz hz => hcell wz hz.bxs)
      have HF := Lib.hid hfr
      have HY := Lib.hid (And.intro hy (And.intro hmin hsy))
      have HX := Lib.hid hx
      have HN := Lib.hid (hN.ext hext)
      have HE := Lib.hid hext
      have HCH := Lib.hid hch
      obtain ⟨q, hq⟩ : ∃ q, q = x.q := ⟨_, rfl⟩
      obtain ⟨r, hr⟩ : ∃ r, r = y.q := ⟨_, rfl⟩
      rw [← hq] at HN hsz
      rw [← hr] at HF
      have HQ := Lib.hid hq
      have HR := Lib.hid hr
      have hsr : szQ r ≤ k := by rw [hr]; exact hsy
      have HIq := Lib.hid (HN.out.isR hsz (by omega))
      have HIr := Lib.hid (HF.out.isR hsr (by omega))
      have sa := Lib.hid (IsR.szD HIq.out)
      have sb := Lib.hid (IsR.szD HIr.out)
      have hjm : (j : Int) < (n : Int) := by omega
      clear hfr hy hmin hx hN hext hch hH hcell hq hr hsy
      obtain ⟨t, ht⟩ : ∃ t, t = decide (cmpQ q r < 0) := ⟨_, rfl⟩
      have HT := Lib.hid ht
      clear ht
      go_wp2_with fail
      refine wp_region_puts [] [PP.val (.pointer (some ⟨p, 0, none⟩)), PP.val (.pointer (some ⟨p, 0, none⟩)), PP.val (.pointer (some ⟨p, 1, none⟩)), PP.val (.slice (some ⟨g, off, none⟩) n cap), PP.val (.int .i64 (j : Int)), PP.val (.pointer (some ⟨g, off + j * 5, none⟩)), PP.val (.pointer (some ⟨g, off + j * 5 + 2, none⟩)), PP.val (.agg #[.bool b', .slice a3 n3 c3, .slice a4 n4 c4]), PP.frQd q, PP.val (.agg #[.bool bb, .slice z1 m1 d1, .slice z2 m2 d2]), PP.frQd r, PP.val (.int .i64 (cmpQ q r)), PP.val (.bool t)] [] [0, 1, 2, 3, 4, 5, 6, 7, 8, 9, 10, 11, 12]
        (by kernel_rfl) (by kernel_rfl) (fun f => (by simp only [fillR, fillL, List.setIfInBounds_toArray, List.set_cons_succ, List.set_cons_zero, Nat.reduceAdd]; rfl)) ?_ ?_ ?_ ?_ ?_
      · intro x hx; cases hx
      · intro x hx; cases hx
      · intro x hx; cases hx
      · refine ⟨?o0, ?o1, ?o2, ?o3, ?o4, ?o5, ?o6, ?o7, ?o8, ?o9, ?o10, ?o11, ?o12, trivial⟩
        case o0 =>
          intro f w2 hG hp hl
          have hE : Ext wr w2 := hG
          have hS := hE.size
          simp only [OpGoal]
          go_simp
          exact ⟨_, rfl, Ext.refl _, rfl⟩
        case o1 =>
          intro f w2 hG hp hl
          have hE : Ext wr w2 := hG
          have hS := hE.size
          have q29 : f 0 = .pointer (some ⟨p, 0, none⟩) := tellV hp 0 0 rfl rfl (fun h => by cases h)
          simp only [OpGoal]
          go_simp
          exact ⟨_, rfl, Ext.refl _, rfl⟩
        case o2 =>
          intro f w2 hG hp hl
          have hE : Ext wr w2 := hG
          have hS := hE.size
          have q30 : f 1 = .pointer (some ⟨p, 0, none⟩) := tellV hp 0 1 rfl rfl (fun h => by cases h)
          simp only [OpGoal]
          go_simp
          exact ⟨_, rfl, Ext.refl _, rfl⟩
        case o3 =>
          intro f w2 hG hp hl
          have hE : Ext wr w2 := hG
          have hS := hE.size
          have q31 : f 2 = .pointer (some ⟨p, 1, none⟩) := tellV hp 0 2 rfl rfl (fun h => by cases h)
          have hcell := (P1.ext hE).cell 1
          simp only [OpGoal]
          go_simp
          exact ⟨_, rfl, Ext.refl _, rfl⟩
        case o4 =>
          intro f w2 hG hp hl
          have hE : Ext wr w2 := hG
          have hS := hE.size
          simp only [OpGoal]
          go_simp
          exact ⟨_, rfl, Ext.refl _, rfl⟩
        case o5 =>
          intro f w2 hG hp hl
          have hE : Ext wr w2 := hG
          have hS := hE.size
          have q32 : f 3 = .slice (some ⟨g, off, none⟩) n cap := tellV hp 0 3 rfl rfl (fun h => by cases h)
          have q33 : f 4 = .int .i64 (j : Int) := tellV hp 1 4 rfl rfl (fun h => by cases h)
          simp only [OpGoal]
          go_simp
          exact ⟨_, rfl, Ext.refl _, rfl⟩
        case o6 =>
          intro f w2 hG hp hl
          have hE : Ext wr w2 := hG
          have hS := hE.size
          have q34 : f 5 = .pointer (some ⟨g, off + j * 5, none⟩) := tellV hp 0 5 rfl rfl (fun h => by cases h)
          simp only [OpGoal]
          go_simp
          exact ⟨_, rfl, Ext.refl _, rfl⟩
        case o7 =>
          intro f w2 hG hp hl
          have hE : Ext wr w2 := hG
          have hS := hE.size
          have q35 : f 6 = .pointer (some ⟨g, off + j * 5 + 2, none⟩) := tellV hp 0 6 rfl rfl (fun h => by cases h)
          change OpGoal _ _ _ f w2 Ext _
          exact og_loadAt (P := Tryz.prog) _ _ g (off + j * 5 + 2) _ _ rfl rfl q35 (fun i v h => by
  have h3 := HC.out _ (HE.out.trans hE) (i + 2) v (by rcases i with _ | _ | _ | i <;> first | exact h | simp at h)
  rwa [show off + j * 5 + (i + 2) = off + j * 5 + 2 + i by omega] at h3) Tryz.underlying36 rfl (by kernel_rfl) rfl
        case o8 =>
          intro f w2 hG hp hl
          have hE : Ext wr w2 := hG
          have hS := hE.size
          have q36 : f 7 = .agg #[.bool b', .slice a3 n3 c3, .slice a4 n4 c4] := tellV hp 0 7 rfl rfl (fun h => by cases h)
          change OpGoal _ _ _ f w2 Ext _
          refine og_call (P := Tryz.prog) _ _ _ #[f 7] Tryz.func27 (by kernel_rfl) (by kernel_rfl) rfl rfl (by kernel_rfl) ?_
          rw [q36]
          refine (rqofR_calls _ _ _ _ (HIq.out.ext hE) hk).mono ?_
          rintro e w' ⟨v', rfl, h1, h2⟩
          exact ⟨v', rfl, h2, h1.mono hS⟩
        case o9 =>
          intro f w2 hG hp hl
          have hE : Ext wr w2 := hG
          have hS := hE.size
          change OpGoal _ _ _ f w2 Ext _
          exact og_load (P := Tryz.prog) _ _ (w.heap.size + 1) _ _ _ rfl rfl rfl (hbx.ext hE) Tryz.underlying36 rfl (by kernel_rfl) rfl
        case o10 =>
          intro f w2 hG hp hl
          have hE : Ext wr w2 := hG
          have hS := hE.size
          have q38 : f 9 = .agg #[.bool bb, .slice z1 m1 d1, .slice z2 m2 d2] := tellV hp 0 9 rfl rfl (fun h => by cases h)
          change OpGoal _ _ _ f w2 Ext _
          refine og_call (P := Tryz.prog) _ _ _ #[f 9] Tryz.func27 (by kernel_rfl) (by kernel_rfl) rfl rfl (by kernel_rfl) ?_
          rw [q38]
          refine (rqofR_calls _ _ _ _ (HIr.out.ext hE) hk).mono ?_
          rintro e w' ⟨v', rfl, h1, h2⟩
          exact ⟨v', rfl, h2, h1.mono hS⟩
        case o11 =>
          intro f w2 hG hp hl
          have hE : Ext wr w2 := hG
          have hS := hE.size
          have q37 := tellV hp 0 8 rfl rfl (fun _ => hE)
          have q39 := tellV hp 1 10 rfl rfl (fun _ => hE)
          change OpGoal _ _ _ f w2 Ext _
          refine og_call (P := Tryz.prog) _ _ _ #[f 8, f 10] Tryz.func32 (by kernel_rfl) (by kernel_rfl) rfl rfl (by kernel_rfl) ?_
          refine (rqcmp3_calls _ _ q r (5 * k) (5 * k) _ q37.cq q39.cq sa.out sb.out (by omega)).mono ?_
          rintro e w' ⟨rfl, h2⟩
          exact ⟨_, rfl, h2, rfl⟩
        case o12 =>
          intro f w2 hG hp hl
          have hE : Ext wr w2 := hG
          have hS := hE.size
          have q40 : f 11 = .int .i64 (cmpQ q r) := tellV hp 0 11 rfl rfl (fun h => by cases h)
          simp only [OpGoal]
          go_simp
          exact ⟨_, rfl, Ext.refl _, congrArg Value.bool (by rw [HT.out])⟩
      · intro f w2 hG hp
        have hE : Ext wr w2 := ChgS.nil hG
        have q41 : f 12 = .bool t := endV hp 12 (by decide) rfl (fun h => by cases h)
        try simp only [q41]
        clear hp
        have BB := hbx.ext hE
        have hk0 := BB.cell 0
        have hk1 := BB.cell 1
        have hk2 := BB.cell 2
        have hfb0 := BB.free 0
        have hfb1 := BB.free 1
        have hfb2 := BB.free 2
        have P2 := P1.ext hE
        have hpc2 := P2.cell 1
        have hd2 := HC.out _ (HE.out.trans hE) 2 _ rfl
        have hd3 := HC.out _ (HE.out.trans hE) 3 _ rfl
        have hd4 := HC.out _ (HE.out.trans hE) 4 _ rfl
        obtain ⟨w3, hw3, c3, b3⟩ := put3r BB (.bool b') (.slice a3 n3 c3) (.slice a4 n4 c4)
        have HB3 := Lib.hid b3
        have HC3 := Lib.hid c3
        have HE2 := Lib.hid hE
        have HBB := Lib.hid BB
        clear b3 c3 hE BB hb0 hb1 hb2 hpc P1 hbx
        cases t with
        | true =>
          go_wp2_with fail
          rw [← hw3]
          go_roundw
          case rel =>
            have hlt : q < r := cmpR_lt.1 (of_decide_eq_true HT.out.symm)
            refine ⟨j + 1, by simp, by omega, Lib.hid ⟨x, _, _, _, _, _, _, _, List.mem_of_getElem? HX.out, fun z hz => ?_, HB3.out, (by rw [← HQ.out]; exact (HN.out.ext HE2.out).chgY HC3.out HBB.out (by decide)), by rw [← HQ.out]; exact hsz, (HCH.out.trans (HE2.out.chg _)).trans HC3.out⟩⟩
            rw [← HQ.out]
            rw [List.take_add_one, HX.out] at hz
            rcases List.mem_append.1 hz with hz | hz
            · have := HY.out.2.1 z hz
              rw [← HR.out] at this
              exact Rat.le_trans (Rat.le_of_lt hlt) this
            · have : z = x := by simpa using hz
              rw [this, HQ.out]
              exact Rat.le_refl
          case measure => simp [intOf]; omega
        | false =>
          go_wp2_with fail
          go_roundw
          case rel =>
            have hlt : ¬ q < r := fun h => of_decide_eq_false HT.out.symm (cmpR_lt.2 h)
            refine ⟨j + 1, by simp, by omega, Lib.hid ⟨y, _, _, _, _, _, _, _, HY.out.1, fun z hz => ?_, HBB.out, (by rw [← HR.out]; exact HF.out.ext HE2.out), HY.out.2.2, HCH.out.trans (HE2.out.chg _)⟩⟩
            rw [List.take_add_one, HX.out] at hz
            rcases List.mem_append.1 hz with hz | hz
            · exact HY.out.2.1 z hz
            · have : z = x := by simpa using hz
              rw [this, ← HQ.out, ← HR.out]
              exact Rat.not_lt.1 hlt
          case measure => simp [intOf]; omega
end Go.Proofs.YthoibjnkhkjnjaaGreat
