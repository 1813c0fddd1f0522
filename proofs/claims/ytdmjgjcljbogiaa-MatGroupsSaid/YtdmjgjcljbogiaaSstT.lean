/-
 A region that draws its order, calls, and stores into parts of blocks that were there when it began: several stores may go into one block.
-/
import Derived.Test.YtdmjgjcljbogiaaComT
import Derived.Deep.AppendLies
import Derived.Laws.OwnMore
import Derived.WalkKit
import Derived.Test.YtdmjgjcljbogiaaShelf
namespace Go.Proofs.Ytdmjgjcljbogiaa
set_option maxRecDepth 100000
set_option maxHeartbeats 1000000
open Go.RowKit
set_option linter.unusedVariables false
set_option linter.unusedSimpArgs false
structure Sm where
 s : Nat
 g : Nat
 R : World → World → Prop
 U : World → World → Prop
 F : Value → World → Prop
def smAt : List Sm → Nat → Option Sm
 | [], _ => none
 | x :: l, k => if k = x.s then some x else smAt l k
theorem smAt_mem {l : List Sm} {k : Nat} {x : Sm} (h : smAt l k = some x) : x ∈ l ∧ x.s = k := by
 induction l with
 | nil => cases h
 | cons y l ih =>
  simp only [smAt] at h
  split at h
  ·cases h; exact ⟨List.mem_cons_self .., by omega⟩
  ·exact ⟨List.mem_cons_of_mem _ (ih h).1, (ih h).2⟩
def postM {S : Nat} (sts : List Sm) (L : List (PP S)) (k : Nat) (v : Value) (w1 : World) : Prop :=
 match smAt sts k with
 | some x => x.F v w1
 | none => (L.getD k PP.any).p v w1
theorem tellM {S : Nat} {w1 : World} {sts : List Sm} {L : List (PP S)} {f : Nat → Value} {l : List Edge} (hp : PostsOf (postM sts L) f w1 l) (n j : Nat)
  (h : (match l[n]? with | some e => Region.binds .any e && e.on == j | none => false) = true) (hs : smAt sts j = none) : (L.getD j PP.any).p (f j) w1 := by
 have := postsOf_nth l n j h hp
 unfold postM at this
 rw [hs] at this
 exact this
theorem endMS {S : Nat} {w1 : World} {sts : List Sm} {L : List (PP S)} {f : Nat → Value} {n : Nat} {x : Sm} (hp : AllPosts (postM sts L) f w1 n 0) (j : Nat) (hk : j < n) (hs : smAt sts j = some x) : x.F (f j) w1 := by
 have := allPosts_nth n 0 j (Nat.zero_le _) (by omega) hp
 unfold postM at this
 rw [hs] at this
 exact this
def OweM {S : Nat} (P : Program) (fr : (Nat → Value) → Array Value) (df : List Deferred) (w : World) (sts : List Sm) (I : World → Prop) (L : List (PP S)) (lates : List (Nat × Nat × Nat)) (tmps : Array Value) (pre : List Nat) (k : Nat) (o : Oper) : Prop :=
 ∀ f w1, (if pre.contains k then Ext w w1 else ChgS (sts.map (·.g)) w w1) → PostsOf (postM sts L) f w1 o.after.toList → LateFacts tmps f k lates →
  match smAt sts k with
  | some x => I w1 → x.U w w1 → OpGoal P o ⟨fr f, df⟩ f w1 (fun a b => x.R a b ∧ Chg x.g a b) (fun v w2 => x.F v w2)
  | none => OpGoal P o ⟨fr f, df⟩ f w1 Ext (L.getD k PP.any).p
def OwesM {S : Nat} (P : Program) (fr : (Nat → Value) → Array Value) (df : List Deferred) (w : World) (sts : List Sm) (I : World → Prop) (L : List (PP S)) (lates : List (Nat × Nat × Nat)) (tmps : Array Value) (pre : List Nat) : List Oper → Nat → Prop
 | [], _ => True
 | o :: l, k => OweM P fr df w sts I L lates tmps pre k o ∧ OwesM P fr df w sts I L lates tmps pre l (k + 1)
theorem owesM_at {S : Nat} {P : Program} {fr : (Nat → Value) → Array Value} {df : List Deferred} {w : World} {sts : List Sm} {I : World → Prop} {L : List (PP S)} {lates : List (Nat × Nat × Nat)} {tmps : Array Value} {pre : List Nat} :
  ∀ (l : List Oper) (k : Nat), OwesM P fr df w sts I L lates tmps pre l k → ∀ i o, l[i]? = some o → OweM P fr df w sts I L lates tmps pre (k + i) o
 | [], _, _, i, o, h => by simp at h
 | x :: l, k, hs, i, o, h => by
  cases i with
  | zero =>
   simp only [List.getElem?_cons_zero, Option.some.injEq] at h
   subst h
   exact hs.1
  | succ i =>
   have := owesM_at l (k + 1) hs.2 i o (by simpa using h)
   rwa [show k + 1 + i = k + (i + 1) by omega] at this
theorem wp_region_mut {P : Program} {id : Nat} {l : List Oper} {Q : Exit → Act → World → Prop} {tmps : Array Value} {df : List Deferred} {w : World} {fr : (Nat → Value) → Array Value}
  (sts : List Sm) (I : World → Prop) (L : List (PP w.heap.size)) (lates : List (Nat × Nat × Nat)) (pre : List Nat)
  (hm : P.follows .mixedOrders = true) (hok : (regOk l.toArray tmps.size && lateOk l.toArray lates && (sts.map (·.s)).all fun s => ancOk l.toArray [s] (pre.filter (· != s))) = true)
  (hfr : ∀ f, fillR l.toArray tmps f = fr f)
  (hlt : ∀ x ∈ sts, x.g < w.heap.size) (hs : ∀ x ∈ sts, smAt sts x.s = some x) (hL : ∀ p ∈ L, p.c = false)
  (hI : I w) (hIe : ∀ w1 w2, Ext w1 w2 → I w1 → I w2) (hIr : ∀ x ∈ sts, ∀ w1 w2, Chg x.g w1 w2 → x.R w1 w2 → I w1 → I w2)
  (hFe : ∀ x ∈ sts, ∀ v w1 w2, Ext w1 w2 → x.F v w1 → x.F v w2) (hFr : ∀ x ∈ sts, ∀ y ∈ sts, y.s ≠ x.s → ∀ v w1 w2, Chg y.g w1 w2 → y.R w1 w2 → x.F v w1 → x.F v w2)
  (hU : ∀ x ∈ sts, x.U w w) (hUe : ∀ x ∈ sts, ∀ w1 w2, w.heap.size ≤ w1.heap.size → Ext w1 w2 → x.U w w1 → x.U w w2) (hUr : ∀ x ∈ sts, ∀ y ∈ sts, y.s ≠ x.s → ∀ w1 w2, w.heap.size ≤ w1.heap.size → Chg y.g w1 w2 → y.R w1 w2 → x.U w w1 → x.U w w2)
  (hE : ∀ w1, ChgS (sts.map (·.g)) w w1 → I w1 → (∀ x ∈ sts, x.U w w1) → Ext w w1)
  (hstep : OwesM P fr df w sts I L lates tmps pre l 0)
  (hend : ∀ f w1, ChgS (sts.map (·.g)) w w1 → I w1 → AllPosts (postM sts L) f w1 l.length 0 → Q .normal ⟨fr f, df⟩ w1) :
  (Code.region id l.toArray true).wp P Q ⟨tmps, df⟩ w := by
 simp only [Bool.and_eq_true] at hok
 obtain ⟨⟨hok1, hok2⟩, hok3⟩ := hok
 have hLk : ∀ k, (L.getD k PP.any).c = false := fun k => by
  by_cases hk : k < L.length
  ·rw [List.getD, List.getElem?_eq_getElem hk]
   exact hL _ (List.getElem_mem hk)
  ·rw [List.getD, List.getElem?_eq_none (by omega)]
   rfl
 refine wp_region_posts (D := fun _ _ _ => True) (G := fun a b => ChgS (sts.map (·.g)) a b ∧ (a = w → I b)) (G0 := fun s a b => w.heap.size ≤ b.heap.size ∧ ∀ x, smAt sts s = some x → a = w → x.U w b)
  (R := fun i w1 w2 => match smAt sts i with | some x => x.R w1 w2 ∧ Chg x.g w1 w2 | none => Ext w1 w2) (post := postM sts L) hm hok1 (fun _ => trivial) ⟨(Ext.refl w).drew.chgS _, fun _ => hIe _ _ (Ext.refl w).drew hI⟩ (fun s => ⟨(Ext.refl w).drew.size, fun x hx _ => hUe x (smAt_mem hx).1 _ _ (Nat.le_refl _) (Ext.refl w).drew (hU x (smAt_mem hx).1)⟩) ?_ ?_ ?_ ?_ ?_
 ·rintro i w1 w2 ⟨hG, hI1⟩ hR
  cases hx : smAt sts i with
  | none => rw [hx] at hR; exact ⟨hG.trans (hR.chgS _), fun h => hIe _ _ hR (hI1 h)⟩
  | some x => rw [hx] at hR; exact ⟨hG.trans (hR.2.chgS (List.mem_map.2 ⟨x, (smAt_mem hx).1, rfl⟩)), fun h => hIr x (smAt_mem hx).1 _ _ hR.2 hR.1 (hI1 h)⟩
 ·rintro s i w1 w2 his ⟨h1, h2⟩ hR
  cases hx : smAt sts i with
  | none =>
   rw [hx] at hR
   exact ⟨Nat.le_trans h1 hR.size, fun y hy h => hUe y (smAt_mem hy).1 _ _ h1 hR (h2 y hy h)⟩
  | some x =>
   rw [hx] at hR
   refine ⟨Nat.le_trans h1 hR.2.size, fun y hy h => hUr y (smAt_mem hy).1 x (smAt_mem hx).1 ?_ _ _ h1 hR.2 hR.1 (h2 y hy h)⟩
   rw [(smAt_mem hy).2, (smAt_mem hx).2]
   omega
 ·rintro i j v w1 w2 hij ⟨hG, _⟩ hR hp
  unfold postM at hp ⊢
  cases hxj : smAt sts j with
  | none =>
   rw [hxj] at hR
   cases hxi : smAt sts i with
   | some x =>
    rw [hxi] at hp
    exact hFe x (smAt_mem hxi).1 _ _ _ hR hp
   | none =>
    rw [hxi] at hp
    exact (L.getD i PP.any).m _ _ _ hR hp
  | some x =>
   rw [hxj] at hR
   cases hxi : smAt sts i with
   | some y =>
    rw [hxi] at hp
    refine hFr y (smAt_mem hxi).1 x (smAt_mem hxj).1 ?_ _ _ _ hR.2 hR.1 hp
    rw [(smAt_mem hxi).2, (smAt_mem hxj).2]
    omega
   | none =>
    rw [hxi] at hp
    exact (L.getD i PP.any).m2 (hLk i) _ (hlt x (smAt_mem hxj).1) _ _ _ hR.2 hp
 ·intro i o ho listed f w1 _ _ _ hG hpre hp hl
  have hO := owesM_at l 0 hstep i o (by simpa using ho)
  rw [Nat.zero_add] at hO
  rw [hfr]
  have hEE : (if pre.contains i then Ext w w1 else ChgS (sts.map (·.g)) w w1) := by
   split
   ·rename_i hpi
    refine hE w1 hG.1 (hG.2 rfl) fun x hx => ?_
    have hxs := List.all_eq_true.1 hok3 x.s (List.mem_map.2 ⟨x, hx, rfl⟩)
    have hanc : Anc l.toArray i x.s := by
     by_cases his : i = x.s
     ·rw [his]; exact .self
     ·refine anc_of _ [x.s] (fun j hj => ?_) hxs i (List.mem_filter.2 ⟨by simpa using hpi, by simpa using his⟩)
      have : j = x.s := by simpa using hj
      rw [this]; exact .self
    exact (hpre x.s hanc).2 x (hs x hx) rfl
   ·exact hG.1
  have hg := hO f w1 hEE (postsOf_of _ fun e he hb => hp e (Array.mem_toList_iff.1 he) hb) (lateFacts_of hl lates hok2)
  unfold postM
  cases hx : smAt sts i with
  | none =>
   simp only [hx] at hg
   exact OpGoal.mono (fun _ h => by simp only [hx]; exact h) (fun v w' _ h => ⟨by simp only [hx]; exact h, trivial⟩) (fun h => ⟨by simp only [hx]; exact h, trivial⟩) hg
  | some x =>
   simp only [hx] at hg
   have h0 := (hpre i .self).2 x hx rfl
   exact OpGoal.mono (fun w' h => by simp only [hx]; exact h) (fun v w' _ h => ⟨by simp only [hx]; exact h, trivial⟩) (fun h => ⟨by simp only [hx]; exact h, trivial⟩) (hg (hG.2 rfl) h0)
 ·intro f w1 hG hp _
  rw [hfr]
  exact hend f w1 hG.1 (hG.2 rfl) (allPosts_of _ _ fun i _ hi => hp i (by simpa using hi))
end Go.Proofs.Ytdmjgjcljbogiaa
/-
 Lists of structs of n cells in memory of one's own: read, stored into, appended to, cut.
-/
namespace Go.Proofs.Ytdmjgjcljbogiaa
set_option maxRecDepth 100000
set_option maxHeartbeats 1000000
open Go.RowKit
set_option linter.unusedVariables false
set_option linter.unusedSimpArgs false
def flatS (vs : List Value) : List Value := vs.flatMap fun v => v.cells.toList
def StrN (n : Nat) (vs : List Value) : Prop := ∀ v ∈ vs, ∃ cs : Array Value, v = .agg cs ∧ cs.size = n ∧ cs.all (·.oneCell') = true
theorem StrN.size {n : Nat} {vs : List Value} (h : StrN n vs) : ∀ v ∈ vs, v.cells.size = n := fun v hv => by
 obtain ⟨cs, rfl, h1, -⟩ := h v hv
 exact h1
theorem StrN.nil (n : Nat) : StrN n [] := fun v hv => by cases hv
theorem StrN.app {n : Nat} {vs us : List Value} (h : StrN n vs) (k : StrN n us) : StrN n (vs ++ us) := fun v hv => by
 rcases List.mem_append.1 hv with hv | hv
 ·exact h v hv
 ·exact k v hv
theorem StrN.one {n : Nat} {cs : Array Value} (h : cs.size = n) (k : cs.all (·.oneCell') = true) : StrN n [.agg cs] := fun v hv => by
 rw [List.mem_singleton] at hv
 exact ⟨cs, hv, h, k⟩
theorem StrN.set {n : Nat} {vs : List Value} (h : StrN n vs) {u : Value} (hu : StrN n [u]) (i : Nat) : StrN n (vs.set i u) := fun v hv => by
 rcases List.mem_or_eq_of_mem_set hv with hv | rfl
 ·exact h v hv
 ·exact hu _ (List.mem_singleton.2 rfl)
theorem flatS_len {n : Nat} {vs : List Value} (h : ∀ v ∈ vs, v.cells.size = n) : (flatS vs).length = vs.length * n := by
 induction vs with
 | nil => simp [flatS]
 | cons v vs ih =>
  unfold flatS at ih ⊢
  rw [List.flatMap_cons, List.length_append, ih fun u hu => h u (List.mem_cons_of_mem _ hu), Array.length_toList, h v (List.mem_cons_self ..), List.length_cons, Nat.add_mul, Nat.one_mul]
  omega
theorem flatS_append (vs us : List Value) : flatS (vs ++ us) = flatS vs ++ flatS us := by simp [flatS]
theorem flatS_take {n : Nat} {vs : List Value} (h : ∀ v ∈ vs, v.cells.size = n) (i : Nat) : (flatS vs).take (i * n) = flatS (vs.take i) := by
 rcases Nat.lt_or_ge i vs.length with hi | hi
 ·conv => lhs; rw [← List.take_append_drop i vs, flatS_append]
  rw [List.take_append_of_le_length, List.take_of_length_le]
  ·rw [flatS_len fun u hu => h u (List.mem_of_mem_take hu), List.length_take, Nat.min_eq_left (by omega)]; exact Nat.le_refl _
  ·rw [flatS_len fun u hu => h u (List.mem_of_mem_take hu), List.length_take, Nat.min_eq_left (by omega)]; exact Nat.le_refl _
 ·rw [List.take_of_length_le hi, List.take_of_length_le]
  rw [flatS_len h]
  exact Nat.mul_le_mul_right _ hi
theorem flatS_drop {n : Nat} {vs : List Value} (h : ∀ v ∈ vs, v.cells.size = n) (i : Nat) : (flatS vs).drop (i * n) = flatS (vs.drop i) := by
 have h1 := flatS_take h i
 have h2 : flatS vs = flatS (vs.take i) ++ flatS (vs.drop i) := by rw [← flatS_append, List.take_append_drop]
 rw [← List.take_append_drop (i * n) (flatS vs), h1] at h2
 exact List.append_cancel_left h2
theorem flatS_get {n : Nat} (hn : 0 < n) {vs : List Value} (h : ∀ v ∈ vs, v.cells.size = n) {i : Nat} {cs : Array Value} (hi : vs[i]? = some (.agg cs)) (j : Nat) (hj : j < n) : (flatS vs)[i * n + j]? = cs[j]? := by
 have h1 := flatS_drop h i
 have h2 : vs.drop i = .agg cs :: vs.drop (i + 1) := by
  obtain ⟨hl, hv⟩ := List.getElem?_eq_some_iff.1 hi
  rw [List.drop_eq_getElem_cons hl, hv]
 rw [h2] at h1
 have h3 : flatS (Value.agg cs :: vs.drop (i + 1)) = cs.toList ++ flatS (vs.drop (i + 1)) := rfl
 rw [h3] at h1
 have h4 : (flatS vs)[i * n + j]? = ((flatS vs).drop (i * n))[j]? := by rw [List.getElem?_drop]
 have h5 : cs.size = n := h _ (List.mem_of_getElem? hi)
 rw [h4, h1, List.getElem?_append_left (by rw [Array.length_toList, h5]; exact hj), Array.getElem?_toList]
def laidS (cur : List Value) (off : Nat) (cs : List Value) : List Value := cur.take off ++ cs ++ cur.drop (off + cs.length)
theorem laidS_flat {n : Nat} {vs rest : List Value} {i : Nat} {v : Value} (h : ∀ v ∈ vs, v.cells.size = n) (hi : i < vs.length) (hv : v.cells.size = n) : laidS (flatS vs ++ rest) (i * n) v.cells.toList = flatS (vs.set i v) ++ rest := by
 have hvl : v.cells.toList.length = n := by rw [Array.length_toList, hv]
 have hle : i * n + n ≤ (flatS vs).length := by
  rw [flatS_len h, ← Nat.succ_mul]
  exact Nat.mul_le_mul_right _ hi
 unfold laidS
 rw [hvl, List.take_append_of_le_length (by omega), List.drop_append_of_le_length hle, flatS_take h, show i * n + n = (i + 1) * n by rw [Nat.succ_mul], flatS_drop h, List.set_eq_take_append_cons_drop, if_pos hi, flatS_append]
 have h6 : flatS (v :: vs.drop (i + 1)) = v.cells.toList ++ flatS (vs.drop (i + 1)) := rfl
 rw [h6]
 simp only [List.append_assoc]
def LS (e : TypeId) (n B : Nat) (w : World) (v : Value) (vs : List Value) : Prop := StrN n vs ∧ w.ownsRow B e n v vs.length (flatS vs)
section
variable {e : TypeId} {n B : Nat} {w w' : World} {v : Value} {vs : List Value}
theorem LS.nil (e : TypeId) (n B : Nat) (w : World) : LS e n B w (.slice none 0 0) [] := ⟨.nil n, World.ownsRow_nil _ _ _ _⟩
theorem LS.mono {B' : Nat} (h : LS e n B w v vs) (hb : B' ≤ B) : LS e n B' w v vs := by
 refine ⟨h.1, h.2.1, ?_⟩
 rcases h.2.2 with h2 | ⟨g, cap, cur, h1, h2, h3⟩
 ·exact .inl h2
 ·exact .inr ⟨g, cap, cur, h1, Nat.le_trans hb h2, h3⟩
theorem LS.kept {row : Option Nat} (h : LS e n B w v vs) (hg : w.grownBy w' row) (hne : v.ownBlock = none ∨ v.ownBlock ≠ row) : LS e n B w' v vs := ⟨h.1, h.2.kept hg hne⟩
theorem LS.ext (h : LS e n B w v vs) (he : Ext w w') : LS e n B w' v vs := h.kept he (by
 cases hv : v.ownBlock with
 | none => exact .inl rfl
 | some g => exact .inr (by simp))
theorem LS.chgT {p : Nat} {t : TypeId} {cs : Array Value} (h : LS e n B w v vs) (he : Chg p w w') (hp : Bx t w p cs) (ht : t ≠ e) : LS e n B w' v vs := by
 refine ⟨h.1, h.2.1, ?_⟩
 rcases h.2.2 with h2 | ⟨g, cap, cur, h1, h2, h3, h4⟩
 ·exact .inl h2
 ·refine .inr ⟨g, cap, cur, h1, h2, he.blk h3 ?_, h4⟩
  rintro rfl
  unfold Bx at hp
  rw [h3] at hp
  simp only [Option.some.injEq, Obj.cells.injEq] at hp
  exact ht hp.2.1.symm
theorem LS.opn (h : LS e n B w v vs) : ∃ ad cap, v = .slice ad vs.length cap ∧ vs.length ≤ cap ∧ cap ≤ 9223372036854775807 ∧ (∀ g, v.ownBlock = some g → ad = some ⟨g, 0, none⟩ ∧ B ≤ g ∧ g < w.heap.size ∧ ∃ cs, Bx e w g cs) := by
 rcases h.2.2 with ⟨h1, h2⟩ | ⟨g, cap, cur, h1, h2, h3, h4, h5, h6⟩
 ·refine ⟨none, 0, by rw [h1, h2], by omega, by omega, fun g hg => ?_⟩
  rw [h1] at hg
  cases hg
 ·refine ⟨_, cap, h1, h4, by unfold maxLen at h5; omega, fun g' hg => ?_⟩
  rw [h1] at hg
  simp only [Value.ownBlock, Option.some.injEq] at hg
  subst hg
  exact ⟨rfl, h2, blk_lt h3, _, h3⟩
theorem LS.hold (h : LS e n B w v vs) (h0 : 0 < vs.length) : ∃ g cap rest, v = .slice (some ⟨g, 0, none⟩) vs.length cap ∧ B ≤ g ∧ vs.length ≤ cap ∧ cap ≤ 9223372036854775807 ∧ vs.length * n + rest.length = cap * n ∧ Bx e w g (flatS vs ++ rest).toArray := by
 rcases h.2.2 with ⟨h1, h2⟩ | ⟨g, cap, cur, h1, h2, h3, h4, h5, h6, h7⟩
 ·omega
 ·refine ⟨g, cap, cur.toList.drop (vs.length * n), h1, h2, h4, by unfold maxLen at h5; omega, ?_, ?_⟩
  ·have h9 : cur.toList.length = cap * n := by rw [Array.length_toList]; exact h6
   rw [List.length_drop, h9]
   have := Nat.mul_le_mul_right n h4
   omega
  ·rw [← h7, List.take_append_drop]
   exact h3
theorem LS.of_hold {g cap : Nat} {rest : List Value} (h5 : StrN n vs) (hB : B ≤ g) (hc : vs.length ≤ cap) (hm : cap ≤ 9223372036854775807) (hl : vs.length * n + rest.length = cap * n) (hb : Bx e w g (flatS vs ++ rest).toArray) : LS e n B w (.slice (some ⟨g, 0, none⟩) vs.length cap) vs := by
 have hf := flatS_len h5.size
 refine ⟨h5, hf, .inr ⟨g, cap, _, rfl, hB, hb, hc, by unfold maxLen; omega, ?_, ?_⟩⟩
 ·simp only [List.size_toArray, List.length_append, hf]
  exact hl
 ·show (flatS vs ++ rest).take (vs.length * n) = flatS vs
  rw [List.take_append_of_le_length (by omega), List.take_of_length_le (by omega)]
theorem LS.at (hn : 0 < n) (h : LS e n B w v vs) {i : Nat} {u : Value} (hi : vs[i]? = some u) : ∃ g cap, v = .slice (some ⟨g, 0, none⟩) vs.length cap ∧ B ≤ g ∧ ∃ cs : Array Value, u = .agg cs ∧ cs.size = n ∧ cs.all (·.oneCell') = true ∧ ∀ wz, Ext w wz → ∀ (j : Nat) (x : Value), cs[j]? = some x → wz.cell? ⟨g, i * n + j, none⟩ = some x ∧ wz.frozen? ⟨g, i * n + j, none⟩ = false := by
 obtain ⟨hil, -⟩ := List.getElem?_eq_some_iff.1 hi
 obtain ⟨g, cap, rest, h1, h2, h3, h4, h5, h6⟩ := h.hold (by omega)
 obtain ⟨cs, rfl, hc, ho⟩ := h.1 u (List.mem_of_getElem? hi)
 refine ⟨g, cap, h1, h2, cs, rfl, hc, ho, fun wz hz j x hj => ?_⟩
 have hjn : j < n := by rw [← hc]; exact (Array.getElem?_eq_some_iff.1 hj).1
 have hb := h6.ext hz
 constructor
 ·rw [cell_of_row wz g _ _ _ _ hb, List.getElem?_toArray, List.getElem?_append_left, flatS_get hn h.1.size hi j hjn, hj]
  rw [flatS_len h.1.size]
  have := Nat.mul_le_mul_right n (show i + 1 ≤ vs.length by omega)
  rw [Nat.succ_mul] at this
  omega
 ·exact hb.free _
theorem LS.take (h : LS e n B w v vs) {ad : Option Addr} {l cap m : Nat} (hv : v = .slice ad l cap) (hm : m ≤ vs.length) (h0 : 0 < vs.length) : LS e n B w (.slice ad m cap) (vs.take m) := by
 obtain ⟨g, cap', rest, h1, h2, h3, h4, h5, h6⟩ := h.hold h0
 rw [hv] at h1
 cases h1
 have hml : (vs.take m).length = m := by rw [List.length_take]; omega
 have := LS.of_hold (e := e) (n := n) (B := B) (w := w) (vs := vs.take m) (g := g) (cap := cap) (rest := (flatS (vs.drop m)) ++ rest) (fun u hu => h.1 u (List.mem_of_mem_take hu)) h2 (by omega) h4 (by
  rw [hml, List.length_append, flatS_len fun u hu => h.1.size u (List.mem_of_mem_drop hu), List.length_drop, ← Nat.add_assoc, ← Nat.add_mul, show m + (vs.length - m) = vs.length by omega]
  exact h5) (by rw [← List.append_assoc, ← flatS_append, List.take_append_drop]; exact h6)
 rw [hml] at this
 exact this
theorem LS.set (h : LS e n B w v vs) {i : Nat} {u : Value} (hu : StrN n [u]) (hi : i < vs.length) {g : Nat} (hg : v.ownBlock = some g) (hw : ∀ rest : List Value, Bx e w g (flatS vs ++ rest).toArray → Bx e w' g (laidS (flatS vs ++ rest) (i * n) u.cells.toList).toArray) : LS e n B w' v (vs.set i u) := by
 obtain ⟨g', cap', rest, h1, h2, h3, h4, h5, h6⟩ := h.hold (by omega)
 rw [h1] at hg
 simp only [Value.ownBlock, Option.some.injEq] at hg
 subst hg
 have h7 := hw rest h6
 rw [laidS_flat h.1.size hi (hu.size _ (List.mem_singleton.2 rfl))] at h7
 have := LS.of_hold (e := e) (n := n) (B := B) (w := w') (vs := vs.set i u) (g := g') (cap := cap') (rest := rest) (h.1.set hu i) h2 (by rw [List.length_set]; exact h3) h4 (by rw [List.length_set]; exact h5) h7
 rw [List.length_set] at this
 rw [h1]
 exact this
end
theorem wpList_append_LS {P : Program} {w : World} {ops : Array Oper} {rest : List Oper} {o : Oper} {a : Act} {Q : Exit → Act → World → Prop} (hgd : o.guard = none) (s x : Operand) (t : TypeId)
  (ho : o.op = .call { callee := .builtin .append, args := #[s, x], argTypes := #[t, t] })
  (e : TypeId) (n bytes B : Nat) (ht : P.underlying t = some (.slice e)) (hi : (P.info? e).map (fun i => (i.size, i.bytes)) = some (n, bytes)) (hz : ((P.info? e).bind (·.zero)).map (fun z => z.cells.size) = some n) (hn : 0 < n)
  (v : Value) (vs : List Value) (hs : a.eval s = v) (hown : LS e n B w v vs)
  (ad : Addr) (cs : Array Value) (hx : a.eval x = .slice (some ad) 1 1) (hl : cs.size = n) (hnews : ∀ (j : Nat) (u : Value), cs[j]? = some u → w.cell? (ad.add j) = some u) (h1 : cs.all (·.oneCell') = true)
  (hbytes : (vs.length + 1) * bytes ≤ 140737488355328) (h63 : vs.length + 1 ≤ 140737488355328) (hbase : B ≤ w.heap.size)
  (h : ∀ g cap w', LS e n B w' (.slice (some ⟨g, 0, none⟩) (vs.length + 1) cap) (vs ++ [.agg cs]) → w.grownBy w' v.ownBlock → (v.ownBlock = some g ∨ g = w.heap.size) → g < w'.heap.size → wpList P ops Q rest (a.put o.dst (.slice (some ⟨g, 0, none⟩) (vs.length + 1) cap)) w') :
  wpList P ops Q (o :: rest) a w := by
 cases hie : P.info? e with
 | none => simp [hie] at hi
 | some i =>
  simp only [hie, Option.map_some, Option.some.injEq, Prod.mk.injEq] at hi
  cases hiz : i.zero with
  | none => simp [hie, hiz] at hz
  | some z =>
   simp only [hie, hiz, Option.bind_some, Option.map_some, Option.some.injEq] at hz
   refine wpList_append_lies w hgd s x t ho B e i z n bytes ht hie hiz hi.1 hi.2 hz hn v vs.length (flatS vs) hs hown.2 ad 1 1 cs.toList hx (by rw [Array.length_toList, hl, Nat.one_mul]) (fun j u hj => hnews j u (by rwa [Array.getElem?_toList] at hj)) (fun u hu => Array.all_eq_true'.1 h1 u (Array.mem_toList_iff.1 hu)) (by omega) (by unfold maxLen; omega) hbytes hbase _ rfl fun g cap w' k1 k2 k3 k4 => ?_
   refine h g cap w' ⟨hown.1.app (.one hl h1), ?_⟩ k2 k3 k4
   rw [List.length_append, flatS_append]
   have : flatS [Value.agg cs] = cs.toList := by
    show cs.toList ++ [] = _
    rw [List.append_nil]
   rw [this]
   exact k1
theorem IsR.parts {w : World} {v : Value} {x : Rat} {k : Nat} (h : IsR w v x k) : ∃ b ad n cap ad2 n2 cap2, v = .agg #[.bool b, .slice ad n cap, .slice ad2 n2 cap2] := by
 obtain ⟨n, d, ⟨b, s, t, m, d0, rfl, ⟨xs, ⟨ad, cap, rfl, -⟩, -⟩, -, ⟨ys, ⟨ad2, cap2, rfl, -⟩, -⟩, -⟩, -⟩ := h
 exact ⟨_, _, _, _, _, _, _, rfl⟩
theorem wpList_append_V {P : Program} {w : World} {ops : Array Oper} {rest : List Oper} {o : Oper} {a : Act} {Q : Exit → Act → World → Prop} (hgd : o.guard = none) (s x : Operand) (t : TypeId)
  (ho : o.op = .call { callee := .builtin .append, args := #[s, x], argTypes := #[t, t] })
  (e : TypeId) (bytes B : Nat) (ht : P.underlying t = some (.slice e)) (hi : (P.info? e).map (fun i => (i.size, i.bytes)) = some (1, bytes)) (hz : ((P.info? e).bind (·.zero)).map (fun z => z.cells.size) = some 1)
  (v : Value) (n : Nat) (xs : List Value) (hs : a.eval s = v) (hown : w.ownsRow B e 1 v n xs)
  (ad : Addr) (u : Value) (hx : a.eval x = .slice (some ad) 1 1) (hnews : ∀ (j : Nat) (y : Value), [u][j]? = some y → w.cell? (ad.add j) = some y) (h1 : u.oneCell' = true)
  (hbytes : (n + 1) * bytes ≤ 140737488355328) (h63 : n + 1 ≤ 140737488355328) (hbase : B ≤ w.heap.size)
  (h : ∀ g cap w', w'.ownsRow B e 1 (.slice (some ⟨g, 0, none⟩) (n + 1) cap) (n + 1) (xs ++ [u]) → w.grownBy w' v.ownBlock → (v.ownBlock = some g ∨ g = w.heap.size) → g < w'.heap.size → wpList P ops Q rest (a.put o.dst (.slice (some ⟨g, 0, none⟩) (n + 1) cap)) w') :
  wpList P ops Q (o :: rest) a w := by
 cases hie : P.info? e with
 | none => simp [hie] at hi
 | some i =>
  simp only [hie, Option.map_some, Option.some.injEq, Prod.mk.injEq] at hi
  cases hiz : i.zero with
  | none => simp [hie, hiz] at hz
  | some z =>
   simp only [hie, hiz, Option.bind_some, Option.map_some, Option.some.injEq] at hz
   exact wpList_append_lies w hgd s x t ho B e i z 1 bytes ht hie hiz hi.1 hi.2 hz (by omega) v n xs hs hown ad 1 1 [u] hx rfl hnews (fun y hy => by rw [List.mem_singleton] at hy; rw [hy]; exact h1) (by omega) (by unfold maxLen; omega) hbytes hbase _ rfl h
theorem news_new (w : World) (t : TypeId) (cs : Array Value) : ∀ (j : Nat) (u : Value), cs[j]? = some u → (w.alloc (.cells cs t)).cell? ((⟨w.heap.size, 0, none⟩ : Addr).add j) = some u := by
 intro j u hj
 rw [Addr.add_lit, Nat.zero_add, (Bx.new w t cs).cell j]
 exact hj
theorem Ext.stepG {a w w' : World} {row : Option Nat} (h : Ext a w) (k : w.grownBy w' row) (hg : ∀ g, row = some g → a.heap.size ≤ g) : Ext a w' := by
 cases row with
 | none => exact h.trans k
 | some g => exact h.step k (hg g rfl)
end Go.Proofs.Ytdmjgjcljbogiaa
/-
 A list of structs of n cells in a block: two change places, one is laid over; plain.
-/
namespace Go.Proofs.Ytdmjgjcljbogiaa
set_option maxRecDepth 100000
set_option maxHeartbeats 1000000
open Go.RowKit
set_option linter.unusedVariables false
set_option linter.unusedSimpArgs false
theorem flatS_inj {n : Nat} : ∀ {vs us : List Value}, StrN n vs → StrN n us → vs.length = us.length → flatS vs = flatS us → vs = us
 | [], [], _, _, _, _ => rfl
 | [], _ :: _, _, _, h, _ => by simp at h
 | _ :: _, [], _, _, h, _ => by simp at h
 | v :: vs, u :: us, h1, h2, h3, h4 => by
  obtain ⟨cs, rfl, hc, -⟩ := h1 v (List.mem_cons_self ..)
  obtain ⟨ds, rfl, hd, -⟩ := h2 u (List.mem_cons_self ..)
  unfold flatS at h4
  rw [List.flatMap_cons, List.flatMap_cons] at h4
  have h5 := List.append_inj h4 (by show cs.toList.length = ds.toList.length; rw [Array.length_toList, Array.length_toList, hc, hd])
  have hcd : cs = ds := Array.toList_inj.1 h5.1
  rw [flatS_inj (vs := vs) (us := us) (fun v hv => h1 v (List.mem_cons_of_mem _ hv)) (fun v hv => h2 v (List.mem_cons_of_mem _ hv)) (by simpa using h3) h5.2, hcd]
def HoldS (e : TypeId) (n g : Nat) (rest : List Value) (w : World) (vs : List Value) : Prop := StrN n vs ∧ Bx e w g (flatS vs ++ rest).toArray
section
variable {e : TypeId} {n : Nat}
theorem HoldS.inj {g : Nat} {rest : List Value} {w : World} {vs us : List Value} (h : HoldS e n g rest w vs) (k : HoldS e n g rest w us) (hl : vs.length = us.length) : vs = us := by
 obtain ⟨h1, h2⟩ := h
 obtain ⟨k1, k2⟩ := k
 unfold Bx at h2 k2
 rw [h2] at k2
 simp only [Option.some.injEq, Obj.cells.injEq, and_true] at k2
 have := congrArg Array.toList k2
 simp only [List.append_cancel_right_eq] at this
 exact flatS_inj h1 k1 hl this
theorem HoldS.ext {g : Nat} {rest : List Value} {w w' : World} {vs : List Value} (h : HoldS e n g rest w vs) (he : Ext w w') : HoldS e n g rest w' vs := ⟨h.1, h.2.ext he⟩
theorem HoldS.chg {g k : Nat} {rest : List Value} {w w' : World} {vs : List Value} (h : HoldS e n g rest w vs) (he : Chg k w w') (hk : g ≠ k) : HoldS e n g rest w' vs := ⟨h.1, h.2.chg he hk⟩
theorem HoldS.cell {g : Nat} {rest : List Value} {w : World} {vs : List Value} (hn : 0 < n) (h : HoldS e n g rest w vs) {i : Nat} {cs : Array Value} (hi : vs[i]? = some (.agg cs)) : ∀ (j : Nat) (v : Value), cs[j]? = some v → w.cell? ⟨g, i * n + j, none⟩ = some v := by
 intro j v hj
 obtain ⟨cs', hcs, hsz, -⟩ := h.1 _ (List.mem_of_getElem? hi)
 cases hcs
 have hj5 : j < n := by rw [← hsz]; exact (Array.getElem?_eq_some_iff.1 hj).1
 have hil := (List.getElem?_eq_some_iff.1 hi).1
 rw [cell_of_row w g _ _ _ _ h.2, List.getElem?_toArray, List.getElem?_append_left, flatS_get hn h.1.size hi j hj5, hj]
 rw [flatS_len h.1.size]
 have := Nat.mul_le_mul_right n (show i + 1 ≤ vs.length by omega)
 rw [Nat.succ_mul] at this
 omega
theorem HoldS.free {g : Nat} {rest : List Value} {w : World} {vs : List Value} (h : HoldS e n g rest w vs) (j : Nat) : w.frozen? ⟨g, j, none⟩ = false := h.2.free j
theorem run_storeVar_at {P : Program} (w : World) (g off : Nat) (t ty : TypeId) (cur : List Value) (cs : Array Value) (hg : w.heap[g]? = some (.cells cur.toArray t (0, 0))) (hi : (P.info? ty).map (·.size) = some cs.size) (hfit : off + cs.size ≤ cur.length) (h1 : cs.all (·.oneCell') = true) :
  (storeVar ty ⟨g, off, none⟩ (.agg cs)).run P w = .ok () (w.setRow g (laidS cur off cs.toList).toArray) := by
 have hst := run_storeCells_at P g off t cs.toList 0 cur.toArray w hg (by simpa using hfit) (fun u hu => by
  have := Array.all_eq_true'.1 h1 u (Array.mem_toList_iff.1 hu)
  exact this)
 cases hq : P.info? ty with
 | none => simp [hq] at hi
 | some i =>
  have hs : i.size = cs.size := by simpa [hq] using hi
  have hc : (Value.agg cs).cells = cs := rfl
  simp only [Nat.add_zero] at hst
  simp [storeVar, sizeOf, typeInfo, hq, hc, hs, laidS, hst]
def stS (e : TypeId) (n g N : Nat) (rest vs : List Value) (s i : Nat) (v : Value) : Sm :=
 ⟨s, g, fun a b => ∀ us, us.length = N → HoldS e n g rest a us → HoldS e n g rest b (us.set i v), fun _ b => ∃ us, us.length = N ∧ HoldS e n g rest b us ∧ us[i]? = vs[i]?, fun _ b => ∃ us, us.length = N ∧ HoldS e n g rest b us ∧ us[i]? = some v⟩
def inS (e : TypeId) (n g N : Nat) (rest vs : List Value) (i k : Nat) (b : World) : Prop := ∃ us, us.length = N ∧ HoldS e n g rest b us ∧ ∀ j, j ≠ i → j ≠ k → us[j]? = vs[j]?
theorem og_stS {P : Program} {o : Oper} {a : Act} {f : Nat → Value} {w : World} (g N : Nat) (rest vs : List Value) (s i p q : Nat) (v : Value) (ty : TypeId) (x y : Operand) (hgd : o.guard = none) (ho : o.op = .store ty x y) (hx : a.eval x = .pointer (some ⟨g, i * n, none⟩)) (hy : a.eval y = v)
  (hi : i < N) (hty : (P.info? ty).map (·.size) = some n) (h5 : StrN n [v]) (hI : inS e n g N rest vs p q w) : OpGoal P o a f w (fun a b => (stS e n g N rest vs s i v).R a b ∧ Chg g a b) (fun u w2 => (stS e n g N rest vs s i v).F u w2) := by
 obtain ⟨us, hl, hH, -⟩ := hI
 obtain ⟨cs, rfl, hcs, hc1⟩ := h5 v (List.mem_singleton.2 rfl)
 have hlen := flatS_len hH.1.size
 have hmul := Nat.mul_le_mul_right n (show i + 1 ≤ us.length by omega)
 rw [Nat.succ_mul] at hmul
 have hrun := run_storeVar_at (P := P) w g (i * n) e ty _ cs hH.2 (by rw [hcs]; exact hty) (by rw [List.length_append, hlen, hcs]; omega) hc1
 have hsp := laidS_flat (rest := rest) (i := i) (v := .agg cs) hH.1.size (by omega) hcs
 have hcc : (Value.agg cs).cells = cs := rfl
 rw [hcc] at hsp
 rw [hsp] at hrun
 have hH2 : HoldS e n g rest (w.setRow g (flatS (us.set i (.agg cs)) ++ rest).toArray) (us.set i (.agg cs)) := ⟨hH.1.set h5 i, hH.2.setRow _⟩
 unfold OpGoal
 rw [hgd]
 unfold Oper.wp execOp
 simp only [ho, hx, hy, Instr.storeAt, Instr.sureAddr, Sem.run_bind, Sem.run_pure, Result.andThen_ok, hrun]
 refine ⟨_, rfl, ⟨fun us' hl' hH' => ?_, Chg.setRow w g _⟩, _, by rw [List.length_set]; exact hl, hH2, by rw [List.getElem?_set_self (by omega)]⟩
 rw [hH'.inj hH (by omega)]
 exact hH2
theorem wp_region_swpS {P : Program} {id : Nat} {l : List Oper} {Q : Exit → Act → World → Prop} {tmps : Array Value} {df : List Deferred} {w : World} {fr : (Nat → Value) → Array Value}
  (g N i k s1 s2 : Nat) (rest vs : List Value) (va vb : Value) (L : List (PP w.heap.size)) (lates : List (Nat × Nat × Nat)) (pre : List Nat)
  (hm : P.follows .mixedOrders = true) (hok : (regOk l.toArray tmps.size && lateOk l.toArray lates && ([stS e n g N rest vs s1 i vb, stS e n g N rest vs s2 k va].map (·.s)).all fun s => ancOk l.toArray [s] (pre.filter (· != s))) = true)
  (hfr : ∀ f, fillR l.toArray tmps f = fr f)
  (hik : i ≠ k) (hss : s1 ≠ s2) (hN : vs.length = N) (hH : HoldS e n g rest w vs) (hi : i < N) (hk : k < N) (hL : ∀ p ∈ L, p.c = false)
  (hstep : OwesM P fr df w [stS e n g N rest vs s1 i vb, stS e n g N rest vs s2 k va] (inS e n g N rest vs i k) L lates tmps pre l 0)
  (hend : ∀ f w1, Chg g w w1 → HoldS e n g rest w1 ((vs.set i vb).set k va) → AllPosts (postM [stS e n g N rest vs s1 i vb, stS e n g N rest vs s2 k va] L) f w1 l.length 0 → Q .normal ⟨fr f, df⟩ w1)
  (hs1 : s1 < l.length) (hs2 : s2 < l.length) :
  (Code.region id l.toArray true).wp P Q ⟨tmps, df⟩ w := by
 have hlt := blk_lt hH.2
 have hmem : ∀ x ∈ [stS e n g N rest vs s1 i vb, stS e n g N rest vs s2 k va], x = stS e n g N rest vs s1 i vb ∨ x = stS e n g N rest vs s2 k va := fun x hx => by simpa using hx
 have hat1 : smAt [stS e n g N rest vs s1 i vb, stS e n g N rest vs s2 k va] s1 = some (stS e n g N rest vs s1 i vb) := by simp [smAt, stS]
 have hat2 : smAt [stS e n g N rest vs s1 i vb, stS e n g N rest vs s2 k va] s2 = some (stS e n g N rest vs s2 k va) := by simp [smAt, stS, Ne.symm hss]
 have getset : ∀ (us : List Value) (p q : Nat) (v : Value), q ≠ p → (us.set p v)[q]? = us[q]? := fun us p q v h => List.getElem?_set_ne (by omega)
 refine wp_region_mut [stS e n g N rest vs s1 i vb, stS e n g N rest vs s2 k va] (inS e n g N rest vs i k) L lates pre hm hok hfr ?_ ?_ hL ⟨vs, hN, hH, fun _ _ _ => rfl⟩ ?_ ?_ ?_ ?_ ?_ ?_ ?_ ?_ hstep ?_
 ·intro x hx
  rcases hmem x hx with rfl | rfl <;> exact hlt
 ·intro x hx
  rcases hmem x hx with rfl | rfl
  ·exact hat1
  ·exact hat2
 ·rintro w1 w2 he ⟨us, h1, h2, h3⟩
  exact ⟨us, h1, h2.ext he, h3⟩
 ·intro x hx w1 w2 hch hR hI
  obtain ⟨us, h1, h2, h3⟩ := hI
  rcases hmem x hx with rfl | rfl
  ·exact ⟨_, by rw [List.length_set]; exact h1, hR us h1 h2, fun j hj hj2 => by rw [getset _ _ _ _ hj]; exact h3 j hj hj2⟩
  ·exact ⟨_, by rw [List.length_set]; exact h1, hR us h1 h2, fun j hj hj2 => by rw [getset _ _ _ _ hj2]; exact h3 j hj hj2⟩
 ·intro x hx v w1 w2 he hF
  rcases hmem x hx with rfl | rfl <;> (obtain ⟨us, h1, h2, h3⟩ := hF; exact ⟨us, h1, h2.ext he, h3⟩)
 ·intro x hx y hy hne v w1 w2 hch hR hF
  rcases hmem x hx with rfl | rfl <;> rcases hmem y hy with rfl | rfl
  ·exact absurd rfl hne
  ·obtain ⟨us, h1, h2, h3⟩ := hF
   exact ⟨_, by rw [List.length_set]; exact h1, hR us h1 h2, by rw [getset _ _ _ _ hik]; exact h3⟩
  ·obtain ⟨us, h1, h2, h3⟩ := hF
   exact ⟨_, by rw [List.length_set]; exact h1, hR us h1 h2, by rw [getset _ _ _ _ (Ne.symm hik)]; exact h3⟩
  ·exact absurd rfl hne
 ·intro x hx
  rcases hmem x hx with rfl | rfl <;> exact ⟨vs, hN, hH, rfl⟩
 ·intro x hx w1 w2 _ he hU
  rcases hmem x hx with rfl | rfl <;> (obtain ⟨us, h1, h2, h3⟩ := hU; exact ⟨us, h1, h2.ext he, h3⟩)
 ·intro x hx y hy hne w1 w2 _ hch hR hU
  rcases hmem x hx with rfl | rfl <;> rcases hmem y hy with rfl | rfl
  ·exact absurd rfl hne
  ·obtain ⟨us, h1, h2, h3⟩ := hU
   exact ⟨_, by rw [List.length_set]; exact h1, hR us h1 h2, by rw [getset _ _ _ _ hik]; exact h3⟩
  ·obtain ⟨us, h1, h2, h3⟩ := hU
   exact ⟨_, by rw [List.length_set]; exact h1, hR us h1 h2, by rw [getset _ _ _ _ (Ne.symm hik)]; exact h3⟩
  ·exact absurd rfl hne
 ·rintro w1 hG ⟨us, h1, h2, h3⟩ hU
  obtain ⟨us1, a1, a2, a3⟩ := hU (stS e n g N rest vs s1 i vb) (by simp)
  obtain ⟨us2, b1, b2, b3⟩ := hU (stS e n g N rest vs s2 k va) (by simp)
  have e1 := a2.inj h2 (by omega)
  have e2 := b2.inj h2 (by omega)
  subst e1 e2
  have huv : us2 = vs := by
   apply List.ext_getElem?
   intro j
   by_cases hj : j = i
   ·rw [hj]; exact a3
   ·by_cases hj2 : j = k
    ·rw [hj2]; exact b3
    ·exact h3 j hj hj2
  subst huv
  refine ⟨hG.1, hG.2.1, hG.2.2.1, hG.2.2.2.1, fun j hj _ => ?_⟩
  by_cases hjg : j = g
  ·rw [hjg]
   exact h2.2.trans hH.2.symm
  ·exact hG.2.2.2.2 j hj (by simp [stS]; exact hjg)
 ·intro f w1 hG hI hp
  obtain ⟨us, h1, h2, h3⟩ := hI
  obtain ⟨us1, a1, a2, a3⟩ := endMS hp s1 hs1 hat1
  obtain ⟨us2, b1, b2, b3⟩ := endMS hp s2 hs2 hat2
  have e1 := a2.inj h2 (by omega)
  have e2 := b2.inj h2 (by omega)
  subst e1 e2
  have huv : us2 = (vs.set i vb).set k va := by
   apply List.ext_getElem?
   intro j
   by_cases hj2 : j = k
   ·rw [hj2, List.getElem?_set_self (by rw [List.length_set]; omega)]
    exact b3
   ·rw [getset _ _ _ _ hj2]
    by_cases hj : j = i
    ·rw [hj, List.getElem?_set_self (by omega)]
     exact a3
    ·rw [getset _ _ _ _ hj]
     exact h3 j hj hj2
  refine hend f w1 ⟨hG.1, hG.2.1, hG.2.2.1, hG.2.2.2.1, fun j hj hne => hG.2.2.2.2 j hj (by simp [stS]; exact fun h => hne (by rw [h]))⟩ (huv ▸ h2) hp
end
theorem og_callv {P : Program} {o : Oper} {a : Act} {f : Nat → Value} {w : World} {post : Value → World → Prop} {fn : Func} (F : FuncId) (x : Operand) (xs : Array Operand) (ts : Array TypeId) (args : Array Value) (hf : P.funcs[F]? = some fn) (hn : (fn.name == "runtime.NumGoroutine") = false) (hb : fn.body.isNone = false) (hgd : o.guard = none) (ho : o.op = .call { callee := .value x, args := xs, argTypes := ts })
  (hx : a.eval x = .func (.func F) #[] #[]) (ha : xs.map a.eval = args) (hc : Calls P F args w fun e w' => ∃ v, e = .returned v ∧ Ext w w' ∧ post v w') : OpGoal P o a f w Ext post := by
 unfold OpGoal
 rw [hgd]
 unfold Oper.wp
 have hrun : (execOp a.eval o).run P w = .ok (.enter F args) w := by
  subst ha
  have h1 : fn.name ≠ "runtime.NumGoroutine" := by simpa using hn
  have h2 : ¬ fn.body = none := by intro h; simp [h] at hb
  simp [execOp, ho, resolve, hx, Deferred.ofValue, invoke, callFunc, hf, h1, h2]
 rw [hrun, Oper.upon_enter]
 refine hc.mono ?_
 rintro e w' ⟨v, rfl, h1, h2⟩
 exact ⟨v, rfl, h1, h2⟩
theorem og_skip {P : Program} {o : Oper} {a : Act} {f : Nat → Value} {w : World} {R : World → World → Prop} {post : Value → World → Prop} {j : Nat} {want b : Bool} (hg : o.guard = some (j, want)) (hf : f j = .bool b) (hb : b ≠ want) (hu : post undef w) : OpGoal P o a f w R post := by
 unfold OpGoal
 rw [hg]
 exact ⟨fun h => absurd (by rw [hf] at h; cases h; rfl) hb, fun _ => hu⟩
end Go.Proofs.Ytdmjgjcljbogiaa
/-
 A region that draws its order, calls, and at its end appends to a list of structs of one's own, or stores a part of one of its structs; plain.
-/
namespace Go.Proofs.Ytdmjgjcljbogiaa
set_option maxRecDepth 100000
set_option maxHeartbeats 1000000
open Go.RowKit
set_option linter.unusedVariables false
set_option linter.unusedSimpArgs false
theorem append_where {P : Program} (w : World) (base : Nat) (t ty e : TypeId) (i : TypeInfo) (z : Value) (size bytes : Nat) (ht : P.underlying t = some (.slice e)) (hi : P.info? e = some i) (hz : i.zero = some z)
  (hsize : i.size = size) (hby : i.bytes = bytes) (v : Value) (n : Nat) (xs : List Value) (hown : w.ownsRow base e size v n xs)
  (a : Addr) (m c : Nat) (news : List Value) (hl : news.length = m * size) (hnews : ∀ j u, news[j]? = some u → w.cell? (a.add j) = some u) (h1 : ∀ u ∈ news, u.oneCell' = true)
  (hm : 0 < m) (h63 : n + m ≤ maxLen) (hbytes : (n + m) * bytes ≤ 140737488355328) (v' : Value) (w' : World) (hrun : (Builtin.append_ #[t, t] ty #[v, .slice (some a) m c]).run P w = .ok v' w') :
  ∀ g, v'.ownBlock = some g → v.ownBlock = some g ∨ w.heap.size ≤ g := by
 subst hsize hby
 have hsmall : n + m ≤ 9223372036854775807 := by simp only [maxLen] at h63; omega
 intro g0 hg0
 rcases hown.2 with ⟨rfl, rfl⟩ | ⟨g, cap, cur, rfl, hbg, hg, hnc, hcm, hcs, htake⟩
 ·have hr := run_append_nil (P := P) w t ty e i z ht hi hz a m c news hl hnews (by omega) (by omega) (by have hb := hbytes; simp only [Nat.zero_add] at hb; omega)
  rw [hr] at hrun
  cases hrun
  simp only [Value.ownBlock, Option.some.injEq] at hg0
  exact .inr (by omega)
 ·by_cases hroom : n + m ≤ cap
  ·have hfit : n * i.size + news.length ≤ cur.size := by rw [hl, hcs, ← Nat.add_mul]; exact Nat.mul_le_mul_right _ hroom
   have hr := run_append_room (P := P) w t ty e i ht hi g n cap cur hg a m c news hl hnews h1 hroom hfit
   rw [hr] at hrun
   cases hrun
   exact .inl hg0
  ·have holds : ∀ j u, xs[j]? = some u → w.cell? ((⟨g, 0, none⟩ : Addr).add j) = some u := hown.cells (g := g) rfl
   have hr := run_append_grow (P := P) w t ty e i z ht hi hz ⟨g, 0, none⟩ n cap xs hown.1 holds a m c news hl hnews (by omega) (by omega) (growslice_fits (by omega) hbytes)
   rw [hr] at hrun
   cases hrun
   simp only [Value.ownBlock, Option.some.injEq] at hg0
   exact .inr (by omega)
theorem og_append {P : Program} {o : Oper} {a : Act} {f : Nat → Value} {w : World} {R : World → World → Prop} {post : Value → World → Prop} (s x : Operand) (t : TypeId) (hgd : o.guard = none) (ho : o.op = .call { callee := .builtin .append, args := #[s, x], argTypes := #[t, t] })
  (base : Nat) (e : TypeId) (size bytes : Nat) (ht : P.underlying t = some (.slice e)) (hi : (P.info? e).map (fun i => (i.size, i.bytes)) = some (size, bytes)) (hz : ((P.info? e).bind (·.zero)).map (·.cells.size) = some size) (hsz : 0 < size)
  (v : Value) (n : Nat) (xs : List Value) (hs : a.eval s = v) (hown : w.ownsRow base e size v n xs)
  (ad : Addr) (m c : Nat) (news : List Value) (hx : a.eval x = .slice (some ad) m c) (hl : news.length = m * size) (hnews : ∀ j u, news[j]? = some u → w.cell? (ad.add j) = some u) (h1 : ∀ u ∈ news, u.oneCell' = true)
  (hm : 0 < m) (h63 : n + m ≤ maxLen) (hbytes : (n + m) * bytes ≤ 140737488355328) (hbase : base ≤ w.heap.size)
  (h : ∀ v' w', w'.ownsRow base e size v' (n + m) (xs ++ news) → w.grownBy w' v.ownBlock → (∀ g, v'.ownBlock = some g → v.ownBlock = some g ∨ w.heap.size ≤ g) → R w w' ∧ post v' w') : OpGoal P o a f w R post := by
 unfold OpGoal
 rw [hgd]
 cases hie : P.info? e with
 | none => simp [hie] at hi
 | some i =>
  simp only [hie, Option.map_some, Option.some.injEq, Prod.mk.injEq, Option.bind_some] at hi hz
  cases hiz : i.zero with
  | none => rw [hiz] at hz; cases hz
  | some z =>
   rw [hiz] at hz
   obtain ⟨v', w', hr, h2, h3, -⟩ := run_append_own (P := P) w base t o.type e i z size bytes ht hie hiz hi.1 hi.2 (by simpa using hz) hsz v n xs hown ad m c news hl hnews h1 h63 hbytes hbase
   have h4 := append_where w base t o.type e i z size bytes ht hie hiz hi.1 hi.2 v n xs hown ad m c news hl hnews h1 hm h63 hbytes v' w' hr
   unfold Oper.wp
   simp [execOp, ho, resolve, invoke, builtin, hs, hx, hr, Result.andThen]
   exact ⟨v', rfl, h v' w' h2 h3 h4⟩
/-! ONE operation of the region changes one block (an append, a store); another one may move its value. -/
def postO {S : Nat} (s1 : Nat) (F : Value → World → Prop) (L : List (PP S)) (k : Nat) (v : Value) (w1 : World) : Prop :=
 if k = s1 then F v w1 else (L.getD k PP.any).p v w1
theorem tellO {S : Nat} {w1 : World} {s1 : Nat} {F : Value → World → Prop} {L : List (PP S)} {f : Nat → Value} {l : List Edge} (hp : PostsOf (postO s1 F L) f w1 l) (n j : Nat)
  (h : (match l[n]? with | some e => Region.binds .any e && e.on == j | none => false) = true) (hs : (j == s1) = false) : (L.getD j PP.any).p (f j) w1 := by
 have := postsOf_nth l n j h hp
 unfold postO at this
 rw [if_neg (by simpa using hs)] at this
 exact this
def opt2 (k s1 s2 : Nat) : Option Bool := if k = s1 then some true else if k = s2 then some false else none
def OweO {S : Nat} (P : Program) (fr : (Nat → Value) → Array Value) (df : List Deferred) (w : World) (gA s1 s2 : Nat) (F : Value → World → Prop) (L : List (PP S)) (lates : List (Nat × Nat × Nat)) (tmps : Array Value) (pre : List Nat) (k : Nat) (o : Oper) : Prop :=
 ∀ f w1, (if pre.contains k then Ext w w1 else Chg gA w w1) → PostsOf (postO s1 F L) f w1 o.after.toList → LateFacts tmps f k lates →
  match opt2 k s1 s2 with
  | some true => OpGoal P o ⟨fr f, df⟩ f w1 (Chg gA) F
  | some false => OpGoal P o ⟨fr f, df⟩ f w1 Ext (fun v _ => v = f s1)
  | none => OpGoal P o ⟨fr f, df⟩ f w1 Ext (L.getD k PP.any).p
def OwesO {S : Nat} (P : Program) (fr : (Nat → Value) → Array Value) (df : List Deferred) (w : World) (gA s1 s2 : Nat) (F : Value → World → Prop) (L : List (PP S)) (lates : List (Nat × Nat × Nat)) (tmps : Array Value) (pre : List Nat) : List Oper → Nat → Prop
 | [], _ => True
 | o :: l, k => OweO P fr df w gA s1 s2 F L lates tmps pre k o ∧ OwesO P fr df w gA s1 s2 F L lates tmps pre l (k + 1)
theorem owesO_at {S : Nat} {P : Program} {fr : (Nat → Value) → Array Value} {df : List Deferred} {w : World} {gA s1 s2 : Nat} {F : Value → World → Prop} {L : List (PP S)} {lates : List (Nat × Nat × Nat)} {tmps : Array Value} {pre : List Nat} :
  ∀ (l : List Oper) (k : Nat), OwesO P fr df w gA s1 s2 F L lates tmps pre l k → ∀ i o, l[i]? = some o → OweO P fr df w gA s1 s2 F L lates tmps pre (k + i) o
 | [], _, _, i, o, h => by simp at h
 | x :: l, k, hs, i, o, h => by
  cases i with
  | zero =>
   simp only [List.getElem?_cons_zero, Option.some.injEq] at h
   subst h
   exact hs.1
  | succ i =>
   have := owesO_at l (k + 1) hs.2 i o (by simpa using h)
   rwa [show k + 1 + i = k + (i + 1) by omega] at this
theorem wp_region_one {P : Program} {id : Nat} {l : List Oper} {Q : Exit → Act → World → Prop} {tmps : Array Value} {df : List Deferred} {w : World} {fr : (Nat → Value) → Array Value}
  (gA s1 s2 : Nat) (F : Value → World → Prop) (L : List (PP w.heap.size)) (lates : List (Nat × Nat × Nat)) (pre : List Nat)
  (hm : P.follows .mixedOrders = true) (hok : (regOk l.toArray tmps.size && lateOk l.toArray lates && ancOk l.toArray [s1] (pre.filter (· != s1)) && (decide (l.length ≤ s2) || ancOk l.toArray [s2] [s1])) = true)
  (hfr : ∀ f, fillR l.toArray tmps f = fr f)
  (hss : s1 ≠ s2) (hA : gA < w.heap.size) (hF : ∀ u w1 w2, Ext w1 w2 → F u w1 → F u w2) (hL : ∀ p ∈ L, p.c = false) (hL2 : ∀ v w, (L.getD s2 PP.any).p v w)
  (hstep : OwesO P fr df w gA s1 s2 F L lates tmps pre l 0)
  (hend : ∀ f w1, Chg gA w w1 → F (f s1) w1 → (s2 < l.length → f s2 = f s1) → AllPosts (postO s1 F L) f w1 l.length 0 → Q .normal ⟨fr f, df⟩ w1)
  (hs1 : s1 < l.length) :
  (Code.region id l.toArray true).wp P Q ⟨tmps, df⟩ w := by
 simp only [Bool.and_eq_true] at hok
 obtain ⟨⟨⟨hok1, hok2⟩, hok3⟩, hok4⟩ := hok
 have hLk : ∀ k, (L.getD k PP.any).c = false := fun k => by
  by_cases hk : k < L.length
  ·rw [List.getD, List.getElem?_eq_getElem hk]
   exact hL _ (List.getElem_mem hk)
  ·rw [List.getD, List.getElem?_eq_none (by omega)]
   rfl
 have hanc2 : s2 < l.length → Anc l.toArray s1 s2 := fun h2 => by
  rcases Bool.or_eq_true .. ▸ hok4 with h | h
  ·have := of_decide_eq_true h; omega
  ·exact anc_of _ [s2] (fun j hj => by rw [show j = s2 by simpa using hj]; exact .self) h s1 (by simp)
 refine wp_region_posts (D := fun listed f _ => listed s2 = true → s2 < l.length → listed s1 = true ∧ f s2 = f s1) (G := fun a b => Chg gA a b) (G0 := fun s a b => s = s1 → Ext a b)
  (R := fun i w1 w2 => if i = s1 then Chg gA w1 w2 else Ext w1 w2) (post := postO s1 F L) hm hok1 (fun _ h => by cases h) (((Ext.refl w).drew).chg gA) (fun s _ => (Ext.refl w).drew) ?_ ?_ ?_ ?_ ?_
 ·intro i w1 w2 hG hR
  by_cases hi : i = s1
  ·simp only [hi, if_true] at hR; exact hG.trans hR
  ·simp only [hi, if_false] at hR; exact hG.trans (hR.chg gA)
 ·intro s i w1 w2 his h hR hs
  subst hs
  simp only [his, if_false] at hR
  exact (h rfl).trans hR
 ·intro i j v w1 w2 hij hG hR hp
  unfold postO at hp ⊢
  by_cases hj : j = s1
  ·simp only [hj, if_true] at hR
   have hi : i ≠ s1 := fun h => hij (by rw [h, hj])
   simp only [hi, if_false] at hp ⊢
   exact (L.getD i PP.any).m2 (hLk i) _ hA _ _ _ hR hp
  ·simp only [hj, if_false] at hR
   by_cases hi : i = s1
   ·simp only [hi, if_true] at hp ⊢
    exact hF _ _ _ hR hp
   ·simp only [hi, if_false] at hp ⊢
    exact (L.getD i PP.any).m _ _ _ hR hp
 ·intro i o ho listed f w1 hli hbefore hD hG hpre hp hl
  have hO := owesO_at l 0 hstep i o (by simpa using ho)
  have hil : i < l.length := by
   have := (Array.getElem?_eq_some_iff.1 ho).1
   simpa using this
  rw [Nat.zero_add] at hO
  rw [hfr]
  have hEE : (if pre.contains i then Ext w w1 else Chg gA w w1) := by
   split
   ·rename_i hpi
    have hanc : Anc l.toArray i s1 := by
     by_cases his : i = s1
     ·rw [his]; exact .self
     ·refine anc_of _ [s1] (fun j hj => ?_) hok3 i (List.mem_filter.2 ⟨by simpa using hpi, by simpa using his⟩)
      have : j = s1 := by simpa using hj
      rw [this]; exact .self
    exact hpre s1 hanc rfl
   ·exact hG
  have hg := hO f w1 hEE (postsOf_of _ fun e he hb => hp e (Array.mem_toList_iff.1 he) hb) (lateFacts_of hl lates hok2)
  unfold postO
  by_cases h1 : i = s1
  ·subst h1
   simp only [opt2, if_true] at hg
   refine OpGoal.mono (fun w' h => by simp only [if_true]; exact h) (fun v w' _ h => ⟨by simp only [if_true]; exact h, fun h2 h3 => ?_⟩) (fun h => ⟨by simp only [if_true]; exact h, fun h2 h3 => ?_⟩) hg
   ·simp only [Ne.symm hss, if_false] at h2
    have := (hD h2 h3).1
    rw [hli] at this
    cases this
   ·simp only [Ne.symm hss, if_false] at h2
    have := (hD h2 h3).1
    rw [hli] at this
    cases this
  ·by_cases h2 : i = s2
   ·subst h2
    simp only [opt2, h1, if_false, if_true] at hg
    have hb := hbefore s1 (hanc2 hil) hss
    have fin : ∀ v, v = f s1 → (if s1 = i then true else listed s1) = true ∧ (if i = i then v else f i) = (if s1 = i then v else f s1) := fun v hv => by
     simp only [hss, if_false, if_true]
     exact ⟨hb, hv⟩
    exact OpGoal.mono (fun w' h => by simp only [h1, if_false]; exact h) (fun v w' _ h => ⟨by simp only [h1, if_false]; exact hL2 v w', fun _ _ => fin v h⟩) (fun h => ⟨by simp only [h1, if_false]; exact hL2 undef w1, fun _ _ => fin undef h⟩) hg
   ·simp only [opt2, h1, h2, if_false] at hg
    refine OpGoal.mono (fun w' h => by simp only [h1, if_false]; exact h) (fun v w' _ h => ⟨by simp only [h1, if_false]; exact h, fun h3 h4 => ?_⟩) (fun h => ⟨by simp only [h1, if_false]; exact h, fun h3 h4 => ?_⟩) hg
    ·simp only [Ne.symm h2, if_false] at h3
     simp only [h3, Ne.symm h1, Ne.symm h2, if_false]
     exact hD h3 h4
    ·simp only [Ne.symm h2, if_false] at h3
     simp only [h3, Ne.symm h1, Ne.symm h2, if_false]
     exact hD h3 h4
 ·intro f w1 hG hp hd
  obtain ⟨listed, hall, hd⟩ := hd
  rw [hfr]
  have hF1 := hp s1 (by simpa using hs1)
  unfold postO at hF1
  rw [if_pos rfl] at hF1
  exact hend f w1 hG hF1 (fun h2 => (hd (hall s2 (by simpa using h2)) h2).2) (allPosts_of _ _ fun i _ hi => hp i (by simpa using hi))
end Go.Proofs.Ytdmjgjcljbogiaa
/-
 Lists handed in to a law: of fractions, of bools.
-/
namespace Go.Proofs.Ytdmjgjcljbogiaa
set_option maxRecDepth 100000
set_option maxHeartbeats 1000000
open Go.RowKit
open Go.ChangeShapes Go.WideShapes Go.ChangeAt
set_option linter.unusedVariables false
set_option linter.unusedSimpArgs false
theorem cellsQs : Try.prog.cellsOf 28 = 3 := by kernel_rfl
section
variable {H : Type} {enc : TypeId × Value → H} {w : World} {base : Nat} {spare : Nat → Bool} {held : Bool}
theorem open_ratsS {v : Value} {d : DataW H} {p : List MemPlace} {W0 : World} {b0 : Nat} (hv : Value.okWide Try.prog W0 .any b0 61 v) (h : DataW.Trod enc Try.prog w base spare held 61 v d p) (B : Nat) (hb : B ≤ 4611686018427387903) (hB : ∀ n ∈ d.weights Try.prog 61, n ≤ B) :
  ∃ l, SLQ w v l ∧ l.length * Try.prog.bytesOf 28 ≤ B := by
 obtain ⟨a, n, c, rfl⟩ := okWide_slice Try.underlying61 hv
 obtain ⟨fuel, hf⟩ := h
 obtain ⟨v', ys, h1, h2, h3, -⟩ := open_structs (R := RawE) (F := fun _ _ => True) B Try.underlying61 cellsQs (by omega) (fun fuel cs x hl hw hx => by
  obtain ⟨b, s, t, xs, ys, rfl, hL, hd, hL2, hd2, hB2, -⟩ := open_ratC hx
  have hh := hB2 B hw
  exact ⟨(b, xs, ys), ⟨⟨s, t, rfl, hL, hL2⟩, hd, hd2, by show xs.length + ys.length ≤ _; omega⟩, trivial⟩) hB hf
 have hcs : (Value.slice a n c).cells.toList = [Value.slice a n c] := rfl
 rw [hcs] at h1
 cases h1
 exact ⟨ys, h2, h3⟩
end
end Go.Proofs.Ytdmjgjcljbogiaa
/-
 A stable sort's merging: plain: what exchanges, rotations and merges leave. No program is named here.
-/
namespace Go.Proofs.Ytdmjgjcljbogiaa
set_option maxRecDepth 100000
set_option maxHeartbeats 1000000
set_option linter.unusedVariables false
set_option linter.unusedSimpArgs false
def Ris {α : Type} (key : α → Int) (l : List α) : Prop := l.Pairwise fun x y => key x ≤ key y
section
variable {α : Type} {key : α → Int}
theorem Ris.nil : Ris key ([] : List α) := List.Pairwise.nil
theorem Ris.one (x : α) : Ris key [x] := List.pairwise_singleton _ _
theorem ris_append {l m : List α} : Ris key (l ++ m) ↔ Ris key l ∧ Ris key m ∧ ∀ x ∈ l, ∀ y ∈ m, key x ≤ key y := List.pairwise_append
theorem Ris.of_short {l : List α} (h : l.length ≤ 1) : Ris key l := by
 match l, h with
 | [], _ => exact .nil
 | [x], _ => exact .one x
theorem Ris.take {l : List α} (h : Ris key l) (i : Nat) : Ris key (l.take i) := List.Pairwise.sublist (List.take_sublist i l) h
theorem Ris.drop {l : List α} (h : Ris key l) (i : Nat) : Ris key (l.drop i) := List.Pairwise.sublist (List.drop_sublist i l) h
theorem Ris.le {l : List α} (h : Ris key l) {i j : Nat} {x y : α} (hij : i ≤ j) (hx : l[i]? = some x) (hy : l[j]? = some y) : key x ≤ key y := by
 obtain ⟨hi, rfl⟩ := List.getElem?_eq_some_iff.1 hx
 obtain ⟨hj, rfl⟩ := List.getElem?_eq_some_iff.1 hy
 rcases Nat.eq_or_lt_of_le hij with rfl | hlt
 ·exact Int.le_refl _
 ·exact List.pairwise_iff_getElem.1 h i j hi hj hlt
theorem cross {L R : List α} (hL : Ris key L) (hR : Ris key R) (i j : Nat) (h : i = 0 ∨ R.length ≤ j ∨ ∃ x y, L[i - 1]? = some x ∧ R[j]? = some y ∧ key x ≤ key y) : ∀ x ∈ L.take i, ∀ y ∈ R.drop j, key x ≤ key y := by
 intro x hx y hy
 obtain ⟨p, hp, hpx⟩ := List.mem_iff_getElem.1 hx
 obtain ⟨q, hq, hqy⟩ := List.mem_iff_getElem.1 hy
 rw [List.length_take] at hp
 rw [List.length_drop] at hq
 rcases h with h | h | ⟨u, v, hu, hv, huv⟩
 ·omega
 ·omega
 ·rw [List.getElem_take] at hpx
  rw [List.getElem_drop] at hqy
  have h1 := hL.le (i := p) (j := i - 1) (x := x) (by omega) (List.getElem?_eq_some_iff.2 ⟨by omega, hpx⟩) hu
  have h2 := hR.le (i := j) (j := j + q) (y := y) (by omega) hv (List.getElem?_eq_some_iff.2 ⟨by omega, hqy⟩)
  omega
theorem merged {L R M1 M2 : List α} (hL : Ris key L) (hR : Ris key R) (i j : Nat)
  (h1 : i = 0 ∨ R.length ≤ j ∨ ∃ x y, L[i - 1]? = some x ∧ R[j]? = some y ∧ key x ≤ key y)
  (h2 : j = 0 ∨ L.length ≤ i ∨ ∃ x y, R[j - 1]? = some x ∧ L[i]? = some y ∧ key x ≤ key y)
  (p1 : M1.Perm (L.take i ++ R.take j)) (p2 : M2.Perm (L.drop i ++ R.drop j)) (s1 : Ris key M1) (s2 : Ris key M2) : (M1 ++ M2).Perm (L ++ R) ∧ Ris key (M1 ++ M2) := by
 constructor
 ·refine (p1.append p2).trans ?_
  refine (List.Perm.trans ?_ (List.Perm.of_eq (show (L.take i ++ L.drop i) ++ (R.take j ++ R.drop j) = L ++ R by rw [List.take_append_drop, List.take_append_drop])))
  simp only [List.append_assoc]
  refine List.Perm.append_left _ ?_
  rw [← List.append_assoc, ← List.append_assoc]
  exact List.Perm.append_right _ List.perm_append_comm
 ·refine ris_append.2 ⟨s1, s2, fun x hx y hy => ?_⟩
  have hx' := p1.mem_iff.1 hx
  have hy' := p2.mem_iff.1 hy
  rcases List.mem_append.1 hx' with hx' | hx' <;> rcases List.mem_append.1 hy' with hy' | hy'
  ·have := hL
   rw [← List.take_append_drop i L] at this
   exact (ris_append.1 this).2.2 x hx' y hy'
  ·exact cross hL hR i j h1 x hx' y hy'
  ·exact cross hR hL j i h2 x hx' y hy'
  ·have := hR
   rw [← List.take_append_drop j R] at this
   exact (ris_append.1 this).2.2 x hx' y hy'
theorem putin {L : List α} {y : α} (hL : Ris key L) (i : Nat) (h1 : i = 0 ∨ ∃ x, L[i - 1]? = some x ∧ key x ≤ key y) (h2 : L.length ≤ i ∨ ∃ x, L[i]? = some x ∧ key y ≤ key x) : Ris key (L.take i ++ [y] ++ L.drop i) := by
 have hR : Ris key [y] := .one y
 have c1 := cross hL hR i 0 (by
  rcases h1 with h1 | ⟨x, h1, h3⟩
  ·exact .inl h1
  ·exact .inr (.inr ⟨x, y, h1, rfl, h3⟩))
 have c2 := cross hR hL 1 i (by
  rcases h2 with h2 | ⟨x, h2, h3⟩
  ·exact .inr (.inl h2)
  ·exact .inr (.inr ⟨y, x, rfl, h2, h3⟩))
 have hs := hL
 rw [← List.take_append_drop i L] at hs
 obtain ⟨s1, s2, s3⟩ := ris_append.1 hs
 refine ris_append.2 ⟨ris_append.2 ⟨s1, hR, fun x hx z hz => c1 x hx z hz⟩, s2, fun x hx z hz => ?_⟩
 rcases List.mem_append.1 hx with hx | hx
 ·exact s3 x hx z hz
 ·exact c2 x hx z hz
theorem putin_perm {L : List α} {y : α} (i : Nat) : (L.take i ++ [y] ++ L.drop i).Perm (L ++ [y]) := by
 refine (List.Perm.trans ?_ (List.Perm.of_eq (show L.take i ++ (L.drop i ++ [y]) = L ++ [y] by rw [← List.append_assoc, List.take_append_drop])))
 rw [List.append_assoc]
 exact List.Perm.append_left _ List.perm_append_comm
theorem set_split {P Q S : List α} {x y : α} {i k : Nat} (hi : i = P.length) (hk : k = P.length + 1 + Q.length) : ((P ++ x :: (Q ++ y :: S)).set i y).set k x = P ++ y :: (Q ++ x :: S) := by
 subst hi
 have e1 : (P ++ x :: (Q ++ y :: S)).set P.length y = P ++ y :: (Q ++ y :: S) := by
  rw [List.set_append_right _ _ (Nat.le_refl _), Nat.sub_self, List.set_cons_zero]
 rw [e1, List.set_append_right _ _ (by omega), show k - P.length = Q.length + 1 by omega, List.set_cons_succ, List.set_append_right _ _ (Nat.le_refl _), Nat.sub_self, List.set_cons_zero]
inductive Blk (key : α → Int) (bs : Nat) : List α → Prop
 | short (l : List α) : l.length ≤ bs → Ris key l → Blk key bs l
 | cons (c l : List α) : c.length = bs → Ris key c → Blk key bs l → Blk key bs (c ++ l)
inductive Ful (key : α → Int) (bs : Nat) : List α → Prop
 | nil : Ful key bs []
 | snoc (l c : List α) : c.length = bs → Ris key c → Ful key bs l → Ful key bs (l ++ c)
theorem Ful.blk {bs : Nat} {l m : List α} (h : Ful key bs l) (k : Blk key bs m) : Blk key bs (l ++ m) := by
 induction h generalizing m with
 | nil => exact k
 | snoc l c h1 h2 _ ih =>
  rw [List.append_assoc]
  exact ih (.cons c m h1 h2 k)
theorem Blk.first {bs : Nat} {l : List α} (h : Blk key bs l) (h0 : 0 < bs) (hl : bs ≤ l.length) : ∃ c m, l = c ++ m ∧ c.length = bs ∧ Ris key c ∧ Blk key bs m := by
 cases h with
 | short _ h1 h2 => exact ⟨l, [], by simp, by omega, h2, .short _ (Nat.zero_le _) .nil⟩
 | cons c m h1 h2 h3 => exact ⟨c, m, rfl, h1, h2, h3⟩
theorem Blk.all {bs : Nat} {l : List α} (h : Blk key bs l) (h0 : 0 < bs) (hl : l.length ≤ bs) : Ris key l := by
 cases h with
 | short _ h1 h2 => exact h2
 | cons c m h1 h2 h3 =>
  have : m = [] := List.eq_nil_of_length_eq_zero (by rw [List.length_append] at hl; omega)
  subst this
  rw [List.append_nil]
  exact h2
end
end Go.Proofs.Ytdmjgjcljbogiaa
/-
 Terms in a list of one's own: two ranges change places, two blocks are turned about.
-/
namespace Go.Proofs.Ytdmjgjcljbogiaa
set_option maxRecDepth 100000
set_option maxHeartbeats 1000000
open Go.RowKit
set_option linter.unusedVariables false
set_option linter.unusedSimpArgs false
structure TmC where
 c : Int
 b : Bool
 a1 : Option Addr
 n1 : Nat
 c1 : Nat
 a2 : Option Addr
 n2 : Nat
 c2 : Nat
def tmv (t : TmC) : Value := .agg #[.int .i64 t.c, .bool t.b, .slice t.a1 t.n1 t.c1, .slice t.a2 t.n2 t.c2]
def tkey (t : TmC) : Int := t.c
theorem strN_tmv (l : List TmC) : StrN 4 (l.map tmv) := fun v hv => by
 obtain ⟨t, -, rfl⟩ := List.mem_map.1 hv
 exact ⟨_, rfl, rfl, all4 rfl rfl rfl rfl⟩
theorem strN_tmv1 (t : TmC) : StrN 4 [.agg #[.int .i64 t.c, .bool t.b, .slice t.a1 t.n1 t.c1, .slice t.a2 t.n2 t.c2]] := strN_tmv [t]
def HoldT (g : Nat) (rest : List Value) (w : World) (l : List TmC) : Prop := HoldS 106 4 g rest w (l.map tmv)
theorem HoldT.ext {g : Nat} {rest : List Value} {w w' : World} {l : List TmC} (h : HoldT g rest w l) (he : Ext w w') : HoldT g rest w' l := HoldS.ext h he
theorem HoldT.at {g : Nat} {rest : List Value} {w : World} {l : List TmC} (h : HoldT g rest w l) {i : Nat} {t : TmC} (hi : l[i]? = some t) : ∀ wz, Ext w wz → ∀ (j : Nat) (v : Value), (#[.int .i64 t.c, .bool t.b, .slice t.a1 t.n1 t.c1, .slice t.a2 t.n2 t.c2] : Array Value)[j]? = some v → wz.cell? ⟨g, i * 4 + j, none⟩ = some v := by
 intro wz hz j v hj
 have h2 : (l.map tmv)[i]? = some (.agg #[.int .i64 t.c, .bool t.b, .slice t.a1 t.n1 t.c1, .slice t.a2 t.n2 t.c2]) := by rw [List.getElem?_map, hi]; rfl
 exact hz.cell (HoldS.cell (by omega) h h2 j v hj)
theorem HoldT.swapped {g : Nat} {rest : List Value} {w : World} {P Q S : List TmC} {x y : TmC} {p q : Nat} (hp : p = P.length) (hq : q = P.length + 1 + Q.length) (h : HoldS 106 4 g rest w ((((P ++ x :: (Q ++ y :: S)).map tmv).set p (tmv y)).set q (tmv x))) : HoldT g rest w (P ++ y :: (Q ++ x :: S)) := by
 unfold HoldT
 rw [← List.map_set, ← List.map_set, set_split hp hq] at h
 exact h
theorem HoldT.swapped' {g : Nat} {rest : List Value} {w : World} {P Q S : List TmC} {x y : TmC} {p q : Nat} (hp : p = P.length) (hq : q = P.length + 1 + Q.length) (h : HoldS 106 4 g rest w ((((P ++ x :: (Q ++ y :: S)).map tmv).set q (tmv x)).set p (tmv y))) : HoldT g rest w (P ++ y :: (Q ++ x :: S)) := by
 rw [List.set_comm _ _ (by omega)] at h
 exact HoldT.swapped hp hq h
theorem get_at {P S : List TmC} {x : TmC} {p : Nat} (hp : p = P.length) : (P ++ x :: S)[p]? = some x := by
 subst hp
 rw [List.getElem?_append_right (Nat.le_refl _), Nat.sub_self, List.getElem?_cons_zero]
theorem get_at2 {P Q S : List TmC} {x y : TmC} {q : Nat} (hq : q = P.length + 1 + Q.length) : (P ++ x :: (Q ++ y :: S))[q]? = some y := by
 subst hq
 rw [List.getElem?_append_right (by omega), show P.length + 1 + Q.length - P.length = Q.length + 1 by omega, List.getElem?_cons_succ, List.getElem?_append_right (Nat.le_refl _), Nat.sub_self, List.getElem?_cons_zero]
set_option maxHeartbeats 4000000 in
theorem swapRange_calls (fv : Value) (n cap g : Nat) (rest : List Value) (A X Q Y S : List TmC) (w : World) (a b m : Nat) (hn : n = (A ++ X ++ Q ++ Y ++ S).length) (hN : n ≤ 35184372088832) (ha : a = A.length) (hb : b = a + X.length + Q.length) (hm : m = X.length) (hm2 : m = Y.length) (hH : HoldT g rest w (A ++ X ++ Q ++ Y ++ S)) :
  Calls Try.prog 144 #[.slice (some ⟨g, 0, none⟩) n cap, .int .i64 (a : Int), .int .i64 (b : Int), .int .i64 (m : Int), fv] w fun e w' => e = .returned (.tuple #[]) ∧ Chg g w w' ∧ HoldT g rest w' (A ++ Y ++ Q ++ X ++ S) := by
 simp only [List.length_append] at hn
 have hab : a + m ≤ b := by omega
 have hbn : b + m ≤ n := by omega
 have Hl := Lib.hid (And.intro hn (And.intro ha (And.intro hb (And.intro hm hm2))))
 have Hd := Lib.hid hH
 clear hn ha hb hm hm2 hH
 go_enter Try.func144, Try.ntmps144
 go_wp2_with fail
 go_loopw [10] (fun i wr => ∃ (t : Nat) (X1 X2 Y1 Y2 : List TmC), i = .int .i64 (t : Int) ∧ t ≤ m ∧ Hid (X = X1 ++ X2 ∧ Y = Y1 ++ Y2 ∧ X1.length = t ∧ Y1.length = t ∧ HoldT g rest wr (A ++ Y1 ++ X2 ++ Q ++ X1 ++ Y2 ++ S)) ∧ Chg g w wr) (fun i _ => ((m : Int) - intOf i).toNat)
 case atStart => exact ⟨0, [], X, [], Y, rfl, by omega, Lib.hid ⟨rfl, rfl, rfl, rfl, by simpa using Hd.out⟩, Chg.refl _ _⟩
 case round =>
  obtain ⟨t, X1, X2, Y1, Y2, rfl, ht, hH, hch⟩ := hrel
  rcases Nat.eq_or_lt_of_le ht with htm | htm
  ·subst htm
   have htt : ¬ (t : Int) < (t : Int) := by omega
   have HF : Hid (HoldT g rest wr (A ++ Y ++ Q ++ X ++ S)) := by
    obtain ⟨h1, h2, h3, h4, h5⟩ := hH.out
    obtain ⟨-, -, -, k1, k2⟩ := Hl.out
    have e1 : X2 = [] := List.eq_nil_of_length_eq_zero (by rw [h1, List.length_append] at k1; omega)
    have e2 : Y2 = [] := List.eq_nil_of_length_eq_zero (by rw [h2, List.length_append] at k2; omega)
    subst e1 e2
    rw [List.append_nil] at h1 h2
    subst h1 h2
    exact Lib.hid (by simpa using h5)
   go_wp2
   go_end0
   exact ⟨rfl, hch, by simpa only [List.append_assoc] using HF.out⟩
  ·obtain ⟨x, X3, y, Y3, hX, hY, h1, h2, h3, h4, P, R, T, hP, hR, hT, h5⟩ : ∃ x X3 y Y3, X2 = x :: X3 ∧ Y2 = y :: Y3 ∧ X = X1 ++ X2 ∧ Y = Y1 ++ Y2 ∧ X1.length = t ∧ Y1.length = t ∧ ∃ P R T, P = A ++ Y1 ∧ R = X3 ++ Q ++ X1 ∧ T = Y3 ++ S ∧ HoldT g rest wr (P ++ x :: (R ++ y :: T)) := by
    obtain ⟨h1, h2, h3, h4, h5⟩ := hH.out
    obtain ⟨-, -, -, k1, k2⟩ := Hl.out
    match X2, Y2, h1, h2, h5 with
    | [], _, h1, _, _ => rw [h1, List.append_nil] at k1; omega
    | _ :: _, [], _, h2, _ => rw [h2, List.append_nil] at k2; omega
    | x :: X3, y :: Y3, h1, h2, h5 => exact ⟨x, X3, y, Y3, rfl, rfl, h1, h2, h3, h4, _, _, _, rfl, rfl, rfl, by simpa [List.append_assoc] using h5⟩
   obtain ⟨p, hp⟩ : ∃ p, p = a + t := ⟨_, rfl⟩
   obtain ⟨q, hq⟩ : ∃ q, q = b + t := ⟨_, rfl⟩
   have hlp : p = P.length := by
    rw [hP, List.length_append]
    have := Hl.out.2.1
    omega
   have hlq : q = P.length + 1 + R.length := by
    obtain ⟨-, -, k0, k1, -⟩ := Hl.out
    rw [h1, hX, List.length_append, List.length_cons] at k0
    rw [← hlp, hR, List.length_append, List.length_append]
    omega
   have hNN : ((P ++ x :: (R ++ y :: T)).map tmv).length = n := by
    have k := Hl.out.1
    rw [h1, h2, hX, hY] at k
    rw [List.length_map, hP, hR, hT]
    simp only [List.length_append, List.length_cons] at k ⊢
    omega
   have HCi := Lib.hid (h5.at (get_at hlp))
   have HCk := Lib.hid (h5.at (get_at2 hlq))
   have H5 := Lib.hid h5
   have HS := Lib.hid (And.intro h1 (And.intro h2 (And.intro h3 (And.intro h4 (And.intro hX (And.intro hY (And.intro hP (And.intro hR (And.intro hT (And.intro hlp (And.intro hlq hNN)))))))))))
   clear h1 h2 h3 h4 hX hY hP hR hT h5 hH hlp hlq hNN
   have hpn : p < n := by omega
   have hqn : q < n := by omega
   have hpq : p ≠ q := by omega
   have htm' : (t : Int) < (m : Int) := by omega
   have hpi : (a : Int) + (t : Int) = (p : Int) := by omega
   have hqi : (b : Int) + (t : Int) = (q : Int) := by omega
   have hpn' : (p : Int) < (n : Int) := by omega
   have hqn' : (q : Int) < (n : Int) := by omega
   clear hp hq
   go_wp2_with fail
   refine wp_region_swpS g n p q 21 23 rest ((P ++ x :: (R ++ y :: T)).map tmv) (.agg #[.int .i64 x.c, .bool x.b, .slice x.a1 x.n1 x.c1, .slice x.a2 x.n2 x.c2]) (.agg #[.int .i64 y.c, .bool y.b, .slice y.a1 y.n1 y.c1, .slice y.a2 y.n2 y.c2]) [PP.val (.slice (some ⟨g, 0, none⟩) n cap), PP.val (.int .i64 (a : Int)), PP.val (.int .i64 (t : Int)), PP.val (.int .i64 (p : Int)), PP.val (.slice (some ⟨g, 0, none⟩) n cap), PP.val (.int .i64 (b : Int)), PP.val (.int .i64 (t : Int)), PP.val (.int .i64 (q : Int)), PP.val (.slice (some ⟨g, 0, none⟩) n cap), PP.val (.int .i64 (b : Int)), PP.val (.int .i64 (t : Int)), PP.val (.int .i64 (q : Int)), PP.val (.pointer (some ⟨g, q * 4, none⟩)), PP.val (.agg #[.int .i64 y.c, .bool y.b, .slice y.a1 y.n1 y.c1, .slice y.a2 y.n2 y.c2]), PP.val (.slice (some ⟨g, 0, none⟩) n cap), PP.val (.int .i64 (a : Int)), PP.val (.int .i64 (t : Int)), PP.val (.int .i64 (p : Int)), PP.val (.pointer (some ⟨g, p * 4, none⟩)), PP.val (.agg #[.int .i64 x.c, .bool x.b, .slice x.a1 x.n1 x.c1, .slice x.a2 x.n2 x.c2]), PP.val (.pointer (some ⟨g, p * 4, none⟩)), PP.any, PP.val (.pointer (some ⟨g, q * 4, none⟩)), PP.any] [] [21, 20, 19, 18, 17, 16, 15, 14, 13, 12, 11, 10, 9, 8, 3, 2, 1, 0] (by kernel_rfl) (by kernel_rfl) (fun f => (by simp only [fillR, fillL, List.setIfInBounds_toArray, List.set_cons_succ, List.set_cons_zero, Nat.reduceAdd]; rfl)) hpq (by decide) HS.out.2.2.2.2.2.2.2.2.2.2.2 H5.out hpn hqn (by intro p hp; simp only [List.mem_cons, List.not_mem_nil, or_false] at hp; rcases hp with rfl | rfl | rfl | rfl | rfl | rfl | rfl | rfl | rfl | rfl | rfl | rfl | rfl | rfl | rfl | rfl | rfl | rfl | rfl | rfl | rfl | rfl | rfl | rfl <;> rfl) ?_ ?_ (by decide) (by decide)
   ·refine ⟨?o0, ?o1, ?o2, ?o3, ?o4, ?o5, ?o6, ?o7, ?o8, ?o9, ?o10, ?o11, ?o12, ?o13, ?o14, ?o15, ?o16, ?o17, ?o18, ?o19, ?o20, ?o21, ?o22, ?o23, trivial⟩
    case o0 =>
     intro f w2 hG hp hl
     have hE : Ext wr w2 := hG
     have hS := hE.size
     simp only [OpGoal]
     go_simp
     exact ⟨_, rfl, Ext.refl _, rfl⟩
    case o1 =>
     intro f w2 hG hp hl
     have hE : Ext wr w2 := hG
     have hS := hE.size
     simp only [OpGoal]
     go_simp
     exact ⟨_, rfl, Ext.refl _, rfl⟩
    case o2 =>
     intro f w2 hG hp hl
     have hE : Ext wr w2 := hG
     have hS := hE.size
     simp only [OpGoal]
     go_simp
     exact ⟨_, rfl, Ext.refl _, rfl⟩
    case o3 =>
     intro f w2 hG hp hl
     have hE : Ext wr w2 := hG
     have hS := hE.size
     have q17 : f 1 = .int .i64 (a : Int) := tellM hp 0 1 rfl rfl
     have q18 : f 2 = .int .i64 (t : Int) := tellM hp 1 2 rfl rfl
     simp only [OpGoal]
     go_simp
     first
     | exact ⟨_, rfl, Ext.refl _, rfl⟩
     | exact ⟨_, rfl, Ext.refl _, congrArg (Value.int .i64) (Go.IntWalk.i64_in _ ⟨by omega, by omega⟩)⟩
    case o4 =>
     intro f w2 hG hp hl
     have hS : wr.heap.size ≤ w2.heap.size := hG.2.2.2.1
     simp only [OpGoal]
     go_simp
     exact ⟨_, rfl, Ext.refl _, rfl⟩
    case o5 =>
     intro f w2 hG hp hl
     have hS : wr.heap.size ≤ w2.heap.size := hG.2.2.2.1
     simp only [OpGoal]
     go_simp
     exact ⟨_, rfl, Ext.refl _, rfl⟩
    case o6 =>
     intro f w2 hG hp hl
     have hS : wr.heap.size ≤ w2.heap.size := hG.2.2.2.1
     simp only [OpGoal]
     go_simp
     exact ⟨_, rfl, Ext.refl _, rfl⟩
    case o7 =>
     intro f w2 hG hp hl
     have hS : wr.heap.size ≤ w2.heap.size := hG.2.2.2.1
     have q21 : f 5 = .int .i64 (b : Int) := tellM hp 0 5 rfl rfl
     have q22 : f 6 = .int .i64 (t : Int) := tellM hp 1 6 rfl rfl
     simp only [OpGoal]
     go_simp
     first
     | exact ⟨_, rfl, Ext.refl _, rfl⟩
     | exact ⟨_, rfl, Ext.refl _, congrArg (Value.int .i64) (Go.IntWalk.i64_in _ ⟨by omega, by omega⟩)⟩
    case o8 =>
     intro f w2 hG hp hl
     have hE : Ext wr w2 := hG
     have hS := hE.size
     simp only [OpGoal]
     go_simp
     exact ⟨_, rfl, Ext.refl _, rfl⟩
    case o9 =>
     intro f w2 hG hp hl
     have hE : Ext wr w2 := hG
     have hS := hE.size
     simp only [OpGoal]
     go_simp
     exact ⟨_, rfl, Ext.refl _, rfl⟩
    case o10 =>
     intro f w2 hG hp hl
     have hE : Ext wr w2 := hG
     have hS := hE.size
     simp only [OpGoal]
     go_simp
     exact ⟨_, rfl, Ext.refl _, rfl⟩
    case o11 =>
     intro f w2 hG hp hl
     have hE : Ext wr w2 := hG
     have hS := hE.size
     have q25 : f 9 = .int .i64 (b : Int) := tellM hp 0 9 rfl rfl
     have q26 : f 10 = .int .i64 (t : Int) := tellM hp 1 10 rfl rfl
     simp only [OpGoal]
     go_simp
     first
     | exact ⟨_, rfl, Ext.refl _, rfl⟩
     | exact ⟨_, rfl, Ext.refl _, congrArg (Value.int .i64) (Go.IntWalk.i64_in _ ⟨by omega, by omega⟩)⟩
    case o12 =>
     intro f w2 hG hp hl
     have hE : Ext wr w2 := hG
     have hS := hE.size
     have q24 : f 8 = .slice (some ⟨g, 0, none⟩) n cap := tellM hp 0 8 rfl rfl
     have q27 : f 11 = .int .i64 (q : Int) := tellM hp 1 11 rfl rfl
     simp only [OpGoal]
     go_simp
     exact ⟨_, rfl, Ext.refl _, rfl⟩
    case o13 =>
     intro f w2 hG hp hl
     have hE : Ext wr w2 := hG
     have hS := hE.size
     have q28 : f 12 = .pointer (some ⟨g, q * 4, none⟩) := tellM hp 0 12 rfl rfl
     change OpGoal _ _ _ f w2 Ext _
     exact og_loadAt (P := Try.prog) _ _ g (q * 4) _ _ rfl rfl q28 (fun j v h => HCk.out _ hE j v h) Try.underlying106 rfl (by kernel_rfl) rfl
    case o14 =>
     intro f w2 hG hp hl
     have hE : Ext wr w2 := hG
     have hS := hE.size
     simp only [OpGoal]
     go_simp
     exact ⟨_, rfl, Ext.refl _, rfl⟩
    case o15 =>
     intro f w2 hG hp hl
     have hE : Ext wr w2 := hG
     have hS := hE.size
     simp only [OpGoal]
     go_simp
     exact ⟨_, rfl, Ext.refl _, rfl⟩
    case o16 =>
     intro f w2 hG hp hl
     have hE : Ext wr w2 := hG
     have hS := hE.size
     simp only [OpGoal]
     go_simp
     exact ⟨_, rfl, Ext.refl _, rfl⟩
    case o17 =>
     intro f w2 hG hp hl
     have hE : Ext wr w2 := hG
     have hS := hE.size
     have q31 : f 15 = .int .i64 (a : Int) := tellM hp 0 15 rfl rfl
     have q32 : f 16 = .int .i64 (t : Int) := tellM hp 1 16 rfl rfl
     simp only [OpGoal]
     go_simp
     first
     | exact ⟨_, rfl, Ext.refl _, rfl⟩
     | exact ⟨_, rfl, Ext.refl _, congrArg (Value.int .i64) (Go.IntWalk.i64_in _ ⟨by omega, by omega⟩)⟩
    case o18 =>
     intro f w2 hG hp hl
     have hE : Ext wr w2 := hG
     have hS := hE.size
     have q30 : f 14 = .slice (some ⟨g, 0, none⟩) n cap := tellM hp 0 14 rfl rfl
     have q33 : f 17 = .int .i64 (p : Int) := tellM hp 1 17 rfl rfl
     simp only [OpGoal]
     go_simp
     exact ⟨_, rfl, Ext.refl _, rfl⟩
    case o19 =>
     intro f w2 hG hp hl
     have hE : Ext wr w2 := hG
     have hS := hE.size
     have q34 : f 18 = .pointer (some ⟨g, p * 4, none⟩) := tellM hp 0 18 rfl rfl
     change OpGoal _ _ _ f w2 Ext _
     exact og_loadAt (P := Try.prog) _ _ g (p * 4) _ _ rfl rfl q34 (fun j v h => HCi.out _ hE j v h) Try.underlying106 rfl (by kernel_rfl) rfl
    case o20 =>
     intro f w2 hG hp hl
     have hE : Ext wr w2 := hG
     have hS := hE.size
     have q16 : f 0 = .slice (some ⟨g, 0, none⟩) n cap := tellM hp 0 0 rfl rfl
     have q19 : f 3 = .int .i64 (p : Int) := tellM hp 1 3 rfl rfl
     simp only [OpGoal]
     go_simp
     exact ⟨_, rfl, Ext.refl _, rfl⟩
    case o21 =>
     intro f w2 hG hp hl
     have hE : Ext wr w2 := hG
     have hS := hE.size
     have q36 : f 20 = .pointer (some ⟨g, p * 4, none⟩) := tellM hp 0 20 rfl rfl
     have q29 : f 13 = .agg #[.int .i64 y.c, .bool y.b, .slice y.a1 y.n1 y.c1, .slice y.a2 y.n2 y.c2] := tellM hp 1 13 rfl rfl
     intro hI hU
     exact og_stS (P := Try.prog) g n _ _ 21 p _ _ _ _ _ _ rfl rfl q36 q29 hpn (by kernel_rfl) (strN_tmv1 y) hI
    case o22 =>
     intro f w2 hG hp hl
     have hS : wr.heap.size ≤ w2.heap.size := hG.2.2.2.1
     have q20 : f 4 = .slice (some ⟨g, 0, none⟩) n cap := tellM hp 0 4 rfl rfl
     have q23 : f 7 = .int .i64 (q : Int) := tellM hp 1 7 rfl rfl
     simp only [OpGoal]
     go_simp
     exact ⟨_, rfl, Ext.refl _, rfl⟩
    case o23 =>
     intro f w2 hG hp hl
     have hS : wr.heap.size ≤ w2.heap.size := hG.2.2.2.1
     have q37 : f 22 = .pointer (some ⟨g, q * 4, none⟩) := tellM hp 0 22 rfl rfl
     have q35 : f 19 = .agg #[.int .i64 x.c, .bool x.b, .slice x.a1 x.n1 x.c1, .slice x.a2 x.n2 x.c2] := tellM hp 1 19 rfl rfl
     intro hI hU
     exact og_stS (P := Try.prog) g n _ _ 23 q _ _ _ _ _ _ rfl rfl q37 q35 hqn (by kernel_rfl) (strN_tmv1 x) hI
   ·intro f w2 hC hW hp
    clear hp
    have HF : Hid (HoldT g rest w2 (P ++ y :: (R ++ x :: T))) := by
     obtain ⟨-, -, -, -, -, -, -, -, -, hlp, hlq, -⟩ := HS.out
     exact HoldT.swapped hlp hlq hW
    clear hW
    go_wp2
    go_roundw
    case rel =>
     refine ⟨t + 1, X1 ++ [x], X3, Y1 ++ [y], Y3, congrArg (Value.int .i64) (by omega), by omega, Lib.hid ?_, hch.trans hC⟩
     obtain ⟨h1, h2, h3, h4, hX, hY, hP, hR, hT, -⟩ := HS.out
     have h5 := HF.out
     rw [hP, hR, hT] at h5
     exact ⟨by rw [h1, hX]; simp, by rw [h2, hY]; simp, by simp [h3], by simp [h4], by simpa [List.append_assoc] using h5⟩
    case measure => simp [intOf]; omega
set_option maxHeartbeats 4000000 in
theorem rotate_calls (fv : Value) (n cap g : Nat) (rest : List Value) (A U V S : List TmC) (w : World) (a m b : Nat) (hn : n = (A ++ U ++ V ++ S).length) (hN : n ≤ 35184372088832) (ha : a = A.length) (hm : m = a + U.length) (hb : b = m + V.length) (hU : 0 < U.length) (hV : 0 < V.length) (hH : HoldT g rest w (A ++ U ++ V ++ S)) :
  Calls Try.prog 143 #[.slice (some ⟨g, 0, none⟩) n cap, .int .i64 (a : Int), .int .i64 (m : Int), .int .i64 (b : Int), fv] w fun e w' => e = .returned (.tuple #[]) ∧ Chg g w w' ∧ HoldT g rest w' (A ++ V ++ U ++ S) := by
 simp only [List.length_append] at hn
 obtain ⟨i0, hi0⟩ : ∃ i0, i0 = U.length := ⟨_, rfl⟩
 obtain ⟨j0, hj0⟩ : ∃ j0, j0 = V.length := ⟨_, rfl⟩
 have hi0' : (m : Int) - (a : Int) = (i0 : Int) := by omega
 have hj0' : (b : Int) - (m : Int) = (j0 : Int) := by omega
 have hmn : m ≤ n := by omega
 have hbn : b ≤ n := by omega
 have han : a ≤ n := by omega
 have Hl := Lib.hid (And.intro hn (And.intro ha (And.intro hm (And.intro hb (And.intro hi0 (And.intro hj0 (And.intro hU hV)))))))
 have Hd := Lib.hid hH
 clear hn ha hm hb hi0 hj0 hU hV hH
 go_enter Try.func143, Try.ntmps143
 go_wp2_with fail
 go_loopw [10, 11] (fun s10 s11 wr => ∃ (i j : Nat) (A' U' V' S' : List TmC), s10 = .int .i64 (i : Int) ∧ s11 = .int .i64 (j : Int) ∧ 0 < i ∧ 0 < j ∧ i ≤ m ∧ m + j ≤ n ∧ Hid (i = U'.length ∧ j = V'.length ∧ m = A'.length + i ∧ n = A'.length + i + j + S'.length ∧ A' ++ V' ++ U' ++ S' = A ++ V ++ U ++ S ∧ HoldT g rest wr (A' ++ U' ++ V' ++ S')) ∧ Chg g w wr) (fun s10 s11 _ => (intOf s10 + intOf s11).toNat)
 case atStart =>
  obtain ⟨hn, ha, hm, hb, hi0, hj0, hU, hV⟩ := Hl.out
  exact ⟨i0, j0, A, U, V, S, rfl, rfl, by omega, by omega, by omega, by omega, Lib.hid ⟨hi0, hj0, by omega, by omega, rfl, Hd.out⟩, Chg.refl _ _⟩
 case round =>
  obtain ⟨i, j, A', U', V', S', rfl, rfl, hi, hj, him, hjn, hH, hch⟩ := hrel
  obtain ⟨p, hp⟩ : ∃ p : Nat, p + i = m := ⟨m - i, by omega⟩
  have hpi : (m : Int) - (i : Int) = (p : Int) := by omega
  rcases Nat.lt_trichotomy i j with hij | hij | hij
  ·obtain ⟨q, hq⟩ : ∃ q : Nat, q + i = m + j := ⟨m + j - i, by omega⟩
   have hqi : (m : Int) + (j : Int) - (i : Int) = (q : Int) := by omega
   have hne : ¬ (i : Int) = (j : Int) := by omega
   have hgt : ¬ (j : Int) < (i : Int) := by omega
   have hji : (j : Int) - (i : Int) = ((j - i : Nat) : Int) := by omega
   have HV : Hid (∃ V1 V2, V' = V1 ++ V2 ∧ V2.length = i ∧ V1.length = j - i) := by
    obtain ⟨h1, h2, -⟩ := hH.out
    exact ⟨V'.take (j - i), V'.drop (j - i), (List.take_append_drop _ _).symm, by rw [List.length_drop]; omega, by rw [List.length_take]; omega⟩
   obtain ⟨V1, V2, hVV, hV2, hV1⟩ := HV.out
   have HS := Lib.hid (And.intro hVV (And.intro hV1 hV2))
   clear hVV hV1 hV2 HV
   go_wp2_with fail
   refine (swapRange_calls fv n cap g rest A' U' V1 V2 S' wr p q i (by
    obtain ⟨h1, h2, h3, h4, -⟩ := hH.out
    obtain ⟨k1, k2, k3⟩ := HS.out
    simp only [List.length_append]
    omega) hN (by have := hH.out.2.2.1; omega) (by
    obtain ⟨h1, h2, h3, h4, -⟩ := hH.out
    obtain ⟨k1, k2, k3⟩ := HS.out
    omega) hH.out.1 HS.out.2.2.symm (by
    have := hH.out.2.2.2.2.2
    rw [HS.out.1] at this
    simpa [List.append_assoc] using this)).mono ?_
   rintro e w2 ⟨rfl, hc2, hH2⟩
   have HH2 := Lib.hid hH2
   clear hH2
   go_wp2_with fail
   go_roundw
   case rel =>
    obtain ⟨h1, h2, h3, h4, h5, -⟩ := hH.out
    obtain ⟨k1, k2, k3⟩ := HS.out
    refine ⟨i, j - i, A', V2, V1, U' ++ S', rfl, rfl, hi, by omega, him, by omega, Lib.hid ⟨k3.symm, k2.symm, h3, by rw [List.length_append]; omega, ?_, by simpa [List.append_assoc] using HH2.out⟩, hch.trans hc2⟩
    rw [← h5, k1]
    simp [List.append_assoc]
   case measure => simp [intOf]; omega
  ·subst hij
   go_wp2_with fail
   refine (swapRange_calls fv n cap g rest A' U' [] V' S' wr p m i (by
    obtain ⟨h1, h2, h3, h4, -⟩ := hH.out
    simp only [List.length_append, List.length_nil]
    omega) hN (by have := hH.out.2.2.1; omega) (by
    obtain ⟨h1, h2, h3, h4, -⟩ := hH.out
    simp only [List.length_nil]
    omega) hH.out.1 hH.out.2.1 (by simpa using hH.out.2.2.2.2.2)).mono ?_
   rintro e w2 ⟨rfl, hc2, hH2⟩
   rw [List.append_nil, hH.out.2.2.2.2.1] at hH2
   have HH2 := Lib.hid hH2
   clear hH2
   go_wp2
   go_end0
   exact ⟨rfl, hch.trans hc2, by simpa only [List.append_assoc] using HH2.out⟩
  ·have hne : ¬ (i : Int) = (j : Int) := by omega
   have hgt : (j : Int) < (i : Int) := by omega
   have hji : (i : Int) - (j : Int) = ((i - j : Nat) : Int) := by omega
   have HV : Hid (∃ U1 U2, U' = U1 ++ U2 ∧ U1.length = j ∧ U2.length = i - j) := by
    obtain ⟨h1, h2, -⟩ := hH.out
    exact ⟨U'.take j, U'.drop j, (List.take_append_drop _ _).symm, by rw [List.length_take]; omega, by rw [List.length_drop]; omega⟩
   obtain ⟨U1, U2, hVV, hV1, hV2⟩ := HV.out
   have HS := Lib.hid (And.intro hVV (And.intro hV1 hV2))
   clear hVV hV1 hV2 HV
   go_wp2_with fail
   refine (swapRange_calls fv n cap g rest A' U1 U2 V' S' wr p m j (by
    obtain ⟨h1, h2, h3, h4, -⟩ := hH.out
    obtain ⟨k1, k2, k3⟩ := HS.out
    simp only [List.length_append]
    omega) hN (by have := hH.out.2.2.1; omega) (by
    obtain ⟨h1, h2, h3, h4, -⟩ := hH.out
    obtain ⟨k1, k2, k3⟩ := HS.out
    omega) HS.out.2.1.symm hH.out.2.1 (by
    have := hH.out.2.2.2.2.2
    rw [HS.out.1] at this
    simpa [List.append_assoc] using this)).mono ?_
   rintro e w2 ⟨rfl, hc2, hH2⟩
   have HH2 := Lib.hid hH2
   clear hH2
   go_wp2_with fail
   go_roundw
   case rel =>
    obtain ⟨h1, h2, h3, h4, h5, -⟩ := hH.out
    obtain ⟨k1, k2, k3⟩ := HS.out
    refine ⟨i - j, j, A' ++ V', U2, U1, S', rfl, rfl, by omega, hj, by omega, hjn, Lib.hid ⟨k3.symm, k2.symm, by rw [List.length_append]; omega, by rw [List.length_append]; omega, ?_, by simpa [List.append_assoc] using HH2.out⟩, hch.trans hc2⟩
    rw [← h5, k1]
    simp [List.append_assoc]
   case measure => simp [intOf]; omega
end Go.Proofs.Ytdmjgjcljbogiaa
/-
 Terms in a list of one's own: a range sorted by putting each at its place.
-/
namespace Go.Proofs.Ytdmjgjcljbogiaa
set_option maxRecDepth 100000
set_option maxHeartbeats 1000000
open Go.RowKit
set_option linter.unusedVariables false
set_option linter.unusedSimpArgs false
theorem cmpT_calls (x y : TmC) (w : World) : Calls Try.prog 121 #[.agg #[.int .i64 x.c, .bool x.b, .slice x.a1 x.n1 x.c1, .slice x.a2 x.n2 x.c2], .agg #[.int .i64 y.c, .bool y.b, .slice y.a1 y.n1 y.c1, .slice y.a2 y.n2 y.c2]] w fun e w' => ∃ z : Int, e = .returned (.int .i64 z) ∧ (z < 0 ↔ x.c < y.c) ∧ Ext w w' := by
 obtain ⟨c, b, a1, n1, c1, a2, n2, c2⟩ := x
 obtain ⟨d, b', a1', n1', c1', a2', n2', c2'⟩ := y
 simp only
 obtain ⟨w1, hw1, e1, b1, b2, s1⟩ := alloc2 w #[.int .i64 c, .bool b, .slice a1 n1 c1, .slice a2 n2 c2] #[.int .i64 d, .bool b', .slice a1' n1' c1', .slice a2' n2' c2'] 106 106
 go_enter Try.func121, Try.ntmps121
 go_wp2_with fail
 rw [← hw1]
 clear hw1
 have hc0 := b1.cell 0
 have hd0 := b2.cell 0
 go_wp2_with fail
 refine (Try.cmp_Compare_int c d _).mono ?_
 have hz : Lib.compareInt c d < 0 ↔ c < d := by unfold Lib.compareInt; grind
 have Hz := Lib.hid hz
 clear hz
 obtain ⟨z, hz⟩ : ∃ z, z = Lib.compareInt c d := ⟨_, rfl⟩
 rw [← hz] at Hz ⊢
 clear hz
 rintro e w3 ⟨rfl, rfl⟩
 go_wp2
 go_ret
 exact ⟨z, rfl, Hz.out, e1⟩
set_option maxHeartbeats 8000000 in
theorem insertion_calls (n cap g : Nat) (rest : List Value) (A M S : List TmC) (w : World) (a b : Nat) (hn : n = (A ++ M ++ S).length) (hN : n ≤ 35184372088832) (ha : a = A.length) (hb : b = a + M.length) (hH : HoldT g rest w (A ++ M ++ S)) :
  Calls Try.prog 141 #[.slice (some ⟨g, 0, none⟩) n cap, .int .i64 (a : Int), .int .i64 (b : Int), .func (.func 121) #[] #[]] w fun e w' => e = .returned (.tuple #[]) ∧ Chg g w w' ∧ ∃ M', M'.Perm M ∧ Ris tkey M' ∧ HoldT g rest w' (A ++ M' ++ S) := by
 simp only [List.length_append] at hn
 obtain ⟨m, hm⟩ : ∃ m, m = M.length := ⟨_, rfl⟩
 have hbm : b = a + m := by omega
 have hbn : b ≤ n := by omega
 have Hl := Lib.hid (And.intro hn (And.intro ha hm))
 have HBM := Lib.hid hbm
 have hab : a ≤ b := by omega
 have Hd := Lib.hid hH
 clear hn ha hm hb hH hbm
 obtain ⟨a1, ha1⟩ : ∃ a1 : Nat, a1 = a + 1 := ⟨_, rfl⟩
 have ha1' : (a : Int) + 1 = (a1 : Int) := by omega
 have HA1 := Lib.hid ha1
 clear ha1
 go_enter Try.func141, Try.ntmps141
 go_wp2_with fail
 go_loopw [8] (fun s8 wr => ∃ (i t : Nat) (M1 M2 : List TmC), s8 = .int .i64 (i : Int) ∧ i = a + t ∧ 0 < t ∧ i ≤ b + 1 ∧ Hid ((M1 ++ M2).Perm M ∧ M1.length = min t m ∧ Ris tkey M1 ∧ HoldT g rest wr (A ++ (M1 ++ M2) ++ S)) ∧ Chg g w wr) (fun s8 _ => ((b : Int) + 1 - intOf s8).toNat)
 case atStart =>
  refine ⟨a1, 1, M.take 1, M.drop 1, rfl, HA1.out, by omega, by omega, Lib.hid ⟨by rw [List.take_append_drop], by rw [List.length_take, ← Hl.out.2.2], Ris.of_short (by rw [List.length_take]; omega), by rw [List.take_append_drop]; exact Hd.out⟩, Chg.refl _ _⟩
 case round =>
  obtain ⟨i, t, M1, M2, rfl, hit, ht0, hib, hH, hch⟩ := hrel
  by_cases hlt : i < b
  case neg =>
   have hlt' : ¬ (i : Int) < (b : Int) := by omega
   have HF : Hid (∃ M', M'.Perm M ∧ Ris tkey M' ∧ HoldT g rest wr (A ++ (M' ++ S))) := by
    obtain ⟨h1, h2, h3, h4⟩ := hH.out
    have e2 : M2 = [] := List.eq_nil_of_length_eq_zero (by
     have k := h1.length_eq
     have k2 := Hl.out.2.2
     have k3 := HBM.out
     rw [List.length_append] at k
     omega)
    subst e2
    rw [List.append_nil] at h1 h4
    exact Lib.hid ⟨M1, h1, h3, by simpa only [List.append_assoc] using h4⟩
   go_wp2
   go_end0
   exact ⟨rfl, hch, HF.out⟩
  case pos =>
   have hlt' : (i : Int) < (b : Int) := by omega
   obtain ⟨y, M3, HM⟩ : ∃ y M3, Hid (M2 = y :: M3 ∧ M1.length = t ∧ n = A.length + M1.length + 1 + M3.length + S.length) := by
    obtain ⟨h1, h2, h3, h4⟩ := hH.out
    obtain ⟨k1, k2, k3⟩ := Hl.out
    have k4 := HBM.out
    have k := h1.length_eq
    rw [List.length_append] at k
    match M2, k with
    | [], k => simp only [List.length_nil] at k; omega
    | y :: M3, k =>
     simp only [List.length_cons] at k
     exact ⟨y, M3, Lib.hid ⟨rfl, by omega, by omega⟩⟩
   obtain ⟨wo, hwo⟩ : ∃ wo, wo = wr := ⟨wr, rfl⟩
   subst hwo
   go_wp2_with fail
   go_loopw [9] (fun s9 wq => ∃ (j : Nat) (U V : List TmC), s9 = .int .i64 (j : Int) ∧ a ≤ j ∧ j ≤ i ∧ Hid (j = a + U.length ∧ M1 = U ++ V ∧ (∀ v ∈ V, tkey y ≤ tkey v) ∧ HoldT g rest wq ((A ++ U) ++ y :: (V ++ M3 ++ S))) ∧ Chg g wo wq) (fun s9 _ => (intOf s9).toNat)
   case atStart =>
    obtain ⟨h1, h2, h3, h4⟩ := hH.out
    obtain ⟨k1, k2, k3⟩ := HM.out
    exact ⟨i, M1, [], rfl, by omega, by omega, Lib.hid ⟨by omega, by simp, by simp, by rw [k1] at h4; simpa [List.append_assoc] using h4⟩, Chg.refl _ _⟩
   case round =>
    obtain ⟨j, U, V, rfl, haj, hji, hI, hcq⟩ := hrel
    have FIN : (j ≤ a ∨ ∃ u, U[U.length - 1]? = some u ∧ tkey u ≤ tkey y) → Hid (∃ M1', M1'.length = min (t + 1) m ∧ (M1' ++ M3).Perm M ∧ Ris tkey M1' ∧ HoldT g rest wr (A ++ (M1' ++ M3) ++ S)) := by
     intro hs
     obtain ⟨h1, h2, h3, h4⟩ := hH.out
     obtain ⟨k1, k2, k3⟩ := HM.out
     obtain ⟨i1, i2, i3, i4⟩ := hI.out
     have hl := h1.length_eq
     have hl2 := Hl.out.2.2
     subst i2
     have hp := putin (key := tkey) (L := U ++ V) (y := y) h3 U.length (by
      rcases hs with hs | ⟨u, hu, hle⟩
      ·exact .inl (by omega)
      ·refine .inr ⟨u, ?_, hle⟩
       have := (List.getElem?_eq_some_iff.1 hu).1
       rw [List.getElem?_append_left this]
       exact hu) (by
      rcases Nat.eq_zero_or_pos V.length with hv | hv
      ·exact .inl (by rw [List.length_append]; omega)
      ·refine .inr ⟨V[0], ?_, i3 _ (List.getElem_mem _)⟩
       rw [List.getElem?_append_right (Nat.le_refl _), Nat.sub_self, List.getElem?_eq_getElem hv])
     rw [List.take_left, List.drop_left] at hp
     refine ⟨U ++ [y] ++ V, ?_, ?_, hp, by simpa [List.append_assoc] using i4⟩
     ·simp only [List.length_append, List.length_cons, List.length_nil] at k2 hl ⊢
      rw [k1, List.length_cons] at hl
      omega
     ·refine List.Perm.trans ?_ h1
      rw [k1]
      have := putin_perm (L := U ++ V) (y := y) U.length
      rw [List.take_left, List.drop_left] at this
      exact (this.append_right M3).trans (by simp)
    have FINA := Lib.hid FIN
    clear FIN
    rcases Nat.eq_or_lt_of_le haj with hja | hja
    ·subst hja
     have HF := (FINA.out (.inl (Nat.le_refl _))).out
     obtain ⟨M1', f1, f2, f3, f4⟩ := HF
     have HF := Lib.hid (And.intro f1 (And.intro f2 (And.intro f3 f4)))
     clear f1 f2 f3 f4 FINA
     go_wp2_with fail
     refine wp_region_puts [] [PP.val (.int .i64 (a : Int)), PP.val (.int .i64 (a : Int)), PP.val (.bool false), PP.val (.bool false), PP.any, PP.any, PP.any, PP.any, PP.any, PP.any, PP.any, PP.any, PP.any, PP.any, PP.any, PP.any, PP.val (.bool false)] [] [0, 1, 2, 3, 4, 5, 6, 7, 8, 9, 10, 11, 12, 13, 14, 15, 16]
      (by kernel_rfl) (by kernel_rfl) (fun f => (by simp only [fillR, fillL, List.setIfInBounds_toArray, List.set_cons_succ, List.set_cons_zero, Nat.reduceAdd]; rfl)) ?_ ?_ ?_ ?_ ?_
     ·intro x hx; cases hx
     ·intro x hx; cases hx
     ·intro x hx; cases hx
     ·refine ⟨?o0, ?o1, ?o2, ?o3, ?o4, ?o5, ?o6, ?o7, ?o8, ?o9, ?o10, ?o11, ?o12, ?o13, ?o14, ?o15, ?o16, trivial⟩
      case o0 =>
       intro f w2 hG hp hl
       have hE : Ext wr w2 := hG
       have hS := hE.size
       simp only [OpGoal]
       go_simp
       exact ⟨_, rfl, Ext.refl _, rfl⟩
      case o1 =>
       intro f w2 hG hp hl
       have hE : Ext wr w2 := hG
       have hS := hE.size
       simp only [OpGoal]
       go_simp
       exact ⟨_, rfl, Ext.refl _, rfl⟩
      case o2 =>
       intro f w2 hG hp hl
       have hE : Ext wr w2 := hG
       have hS := hE.size
       have q18 : f 0 = .int .i64 (a : Int) := tellV hp 0 0 rfl rfl (fun h => by cases h)
       have q19 : f 1 = .int .i64 (a : Int) := tellV hp 1 1 rfl rfl (fun h => by cases h)
       simp only [OpGoal]
       go_simp
       exact ⟨_, rfl, Ext.refl _, rfl⟩
      case o3 =>
       intro f w2 hG hp hl
       have hE : Ext wr w2 := hG
       have hS := hE.size
       have q20 : f 2 = .bool false := tellV hp 0 2 rfl rfl (fun h => by cases h)
       simp only [OpGoal]
       go_simp
       exact ⟨_, rfl, Ext.refl _, rfl⟩
      case o4 =>
       intro f w2 hG hp hl
       have hE : Ext wr w2 := hG
       have hS := hE.size
       have qg : f 3 = .bool false := tellV hp 0 3 rfl rfl (fun h => by cases h)
       exact og_skip rfl qg (by decide) trivial
      case o5 =>
       intro f w2 hG hp hl
       have hE : Ext wr w2 := hG
       have hS := hE.size
       have qg : f 3 = .bool false := tellV hp 0 3 rfl rfl (fun h => by cases h)
       exact og_skip rfl qg (by decide) trivial
      case o6 =>
       intro f w2 hG hp hl
       have hE : Ext wr w2 := hG
       have hS := hE.size
       have qg : f 3 = .bool false := tellV hp 0 3 rfl rfl (fun h => by cases h)
       exact og_skip rfl qg (by decide) trivial
      case o7 =>
       intro f w2 hG hp hl
       have hE : Ext wr w2 := hG
       have hS := hE.size
       have qg : f 3 = .bool false := tellV hp 2 3 rfl rfl (fun h => by cases h)
       exact og_skip rfl qg (by decide) trivial
      case o8 =>
       intro f w2 hG hp hl
       have hE : Ext wr w2 := hG
       have hS := hE.size
       have qg : f 3 = .bool false := tellV hp 1 3 rfl rfl (fun h => by cases h)
       exact og_skip rfl qg (by decide) trivial
      case o9 =>
       intro f w2 hG hp hl
       have hE : Ext wr w2 := hG
       have hS := hE.size
       have qg : f 3 = .bool false := tellV hp 0 3 rfl rfl (fun h => by cases h)
       exact og_skip rfl qg (by decide) trivial
      case o10 =>
       intro f w2 hG hp hl
       have hE : Ext wr w2 := hG
       have hS := hE.size
       have qg : f 3 = .bool false := tellV hp 0 3 rfl rfl (fun h => by cases h)
       exact og_skip rfl qg (by decide) trivial
      case o11 =>
       intro f w2 hG hp hl
       have hE : Ext wr w2 := hG
       have hS := hE.size
       have qg : f 3 = .bool false := tellV hp 1 3 rfl rfl (fun h => by cases h)
       exact og_skip rfl qg (by decide) trivial
      case o12 =>
       intro f w2 hG hp hl
       have hE : Ext wr w2 := hG
       have hS := hE.size
       have qg : f 3 = .bool false := tellV hp 2 3 rfl rfl (fun h => by cases h)
       exact og_skip rfl qg (by decide) trivial
      case o13 =>
       intro f w2 hG hp hl
       have hE : Ext wr w2 := hG
       have hS := hE.size
       have qg : f 3 = .bool false := tellV hp 1 3 rfl rfl (fun h => by cases h)
       exact og_skip rfl qg (by decide) trivial
      case o14 =>
       intro f w2 hG hp hl
       have hE : Ext wr w2 := hG
       have hS := hE.size
       have qg : f 3 = .bool false := tellV hp 3 3 rfl rfl (fun h => by cases h)
       exact og_skip rfl qg (by decide) trivial
      case o15 =>
       intro f w2 hG hp hl
       have hE : Ext wr w2 := hG
       have hS := hE.size
       have qg : f 3 = .bool false := tellV hp 1 3 rfl rfl (fun h => by cases h)
       exact og_skip rfl qg (by decide) trivial
      case o16 =>
       intro f w2 hG hp hl
       have hE : Ext wr w2 := hG
       have hS := hE.size
       have q21 : f 3 = .bool false := tellV hp 0 3 rfl rfl (fun h => by cases h)
       simp only [OpGoal]
       go_simp
       exact ⟨_, rfl, Ext.refl _, rfl⟩
     ·intro f w2 hG hp
      have hE : Ext wr w2 := ChgS.nil hG
      have q34 : f 16 = .bool false := endV hp 16 (by decide) rfl (fun h => by cases h)
      try simp only [q34]
      clear hp
      go_wp2
      go_roundw
      case rel =>
       obtain ⟨f1, f2, f3, f4⟩ := HF.out
       exact ⟨i + 1, t + 1, M1', M3, congrArg (Value.int .i64) (by omega), by omega, by omega, by omega, Lib.hid ⟨f2, f1, f3, f4.ext hE⟩, (hch.trans hcq).trans (hE.chg g)⟩
      case measure => simp [intOf]; omega
    ·obtain ⟨U', u, HU⟩ : ∃ U' u, Hid (U = U' ++ [u] ∧ j = a + U'.length + 1) := by
      obtain ⟨i1, i2, i3, i4⟩ := hI.out
      have hne : U ≠ [] := fun h => by rw [h] at i1; simp at i1; omega
      exact ⟨U.dropLast, U.getLast hne, Lib.hid ⟨(List.dropLast_concat_getLast hne).symm, by rw [List.length_dropLast]; have := List.length_pos_iff.2 hne; omega⟩⟩
     obtain ⟨k, hk⟩ : ∃ k, j = k + 1 := ⟨j - 1, by omega⟩
     subst hk
     have HHT : Hid (HoldT g rest wr ((A ++ U') ++ u :: ([] ++ y :: (V ++ M3 ++ S)))) := by
      have := hI.out.2.2.2
      rw [HU.out.1] at this
      exact Lib.hid (by simpa [List.append_assoc] using this)
     have HLP : Hid (k = (A ++ U').length ∧ k + 1 = (A ++ U').length + 1 + ([] : List TmC).length ∧ ((((A ++ U') ++ u :: ([] ++ y :: (V ++ M3 ++ S)))).map tmv).length = n) := by
      obtain ⟨i1, i2, i3, i4⟩ := hI.out
      obtain ⟨k1, k2, k3⟩ := HM.out
      obtain ⟨l1, l2⟩ := HU.out
      have := Hl.out.2.1
      have k4 := HBM.out
      rw [i2, l1] at k3
      simp only [List.length_map, List.length_append, List.length_cons, List.length_nil] at k3 ⊢
      refine Lib.hid ⟨by omega, by omega, by omega⟩
     have HCk := Lib.hid (HHT.out.at (get_at HLP.out.1))
     have HCj := Lib.hid (HHT.out.at (get_at2 HLP.out.2.1))
     have hjn : k + 1 < n := by omega
     have hkn : k < n := by omega
     have hjn' : (((k + 1 : Nat) : Nat) : Int) < (n : Int) := by omega
     have hkn' : (k : Int) < (n : Int) := by omega
     have hja' : (a : Int) < ((k + 1 : Nat) : Int) := by omega
     have hk1 : ((k + 1 : Nat) : Int) - 1 = (k : Int) := by omega
     obtain ⟨r, hr⟩ : ∃ r : Bool, r = decide (y.c < u.c) := ⟨_, rfl⟩
     have HR := Lib.hid hr
     clear hr
     obtain ⟨j, hj⟩ : ∃ j, j = k + 1 := ⟨_, rfl⟩
     rw [← hj] at hjn hjn' hja' hk1 HCj haj hji
     rw [← hj]
     have HJ := Lib.hid hj
     clear hj hja
     go_wp2_with fail
     refine wp_region_puts [] [PP.val (.int .i64 (j : Int)), PP.val (.int .i64 (a : Int)), PP.val (.bool true), PP.val (.bool true), PP.val (.func (.func 121) #[] #[]), PP.val (.slice (some ⟨g, 0, none⟩) n cap), PP.val (.int .i64 (j : Int)), PP.val (.pointer (some ⟨g, j * 4, none⟩)), PP.val (.agg #[.int .i64 y.c, .bool y.b, .slice y.a1 y.n1 y.c1, .slice y.a2 y.n2 y.c2]), PP.val (.slice (some ⟨g, 0, none⟩) n cap), PP.val (.int .i64 (j : Int)), PP.val (.int .i64 (k : Int)), PP.val (.pointer (some ⟨g, k * 4, none⟩)), PP.val (.agg #[.int .i64 u.c, .bool u.b, .slice u.a1 u.n1 u.c1, .slice u.a2 u.n2 u.c2]), PP.pred (fun v => ∃ z : Int, v = .int .i64 z ∧ (z < 0 ↔ y.c < u.c)), PP.val (.bool r), PP.val (.bool r)] [] [0, 1, 2, 3, 4, 5, 6, 7, 8, 9, 10, 11, 12, 13, 14, 15, 16]
      (by kernel_rfl) (by kernel_rfl) (fun f => (by simp only [fillR, fillL, List.setIfInBounds_toArray, List.set_cons_succ, List.set_cons_zero, Nat.reduceAdd]; rfl)) ?_ ?_ ?_ ?_ ?_
     ·intro x hx; cases hx
     ·intro x hx; cases hx
     ·intro x hx; cases hx
     ·refine ⟨?o0, ?o1, ?o2, ?o3, ?o4, ?o5, ?o6, ?o7, ?o8, ?o9, ?o10, ?o11, ?o12, ?o13, ?o14, ?o15, ?o16, trivial⟩
      case o0 =>
       intro f w2 hG hp hl
       have hE : Ext wr w2 := hG
       have hS := hE.size
       simp only [OpGoal]
       go_simp
       exact ⟨_, rfl, Ext.refl _, rfl⟩
      case o1 =>
       intro f w2 hG hp hl
       have hE : Ext wr w2 := hG
       have hS := hE.size
       simp only [OpGoal]
       go_simp
       exact ⟨_, rfl, Ext.refl _, rfl⟩
      case o2 =>
       intro f w2 hG hp hl
       have hE : Ext wr w2 := hG
       have hS := hE.size
       have q18 : f 0 = .int .i64 (j : Int) := tellV hp 0 0 rfl rfl (fun h => by cases h)
       have q19 : f 1 = .int .i64 (a : Int) := tellV hp 1 1 rfl rfl (fun h => by cases h)
       simp only [OpGoal]
       go_simp
       exact ⟨_, rfl, Ext.refl _, rfl⟩
      case o3 =>
       intro f w2 hG hp hl
       have hE : Ext wr w2 := hG
       have hS := hE.size
       have q20 : f 2 = .bool true := tellV hp 0 2 rfl rfl (fun h => by cases h)
       simp only [OpGoal]
       go_simp
       exact ⟨_, rfl, Ext.refl _, rfl⟩
      case o4 =>
       intro f w2 hG hp hl
       have hE : Ext wr w2 := hG
       have hS := hE.size
       have qg : f 3 = .bool true := tellV hp 0 3 rfl rfl (fun h => by cases h)
       change OpGoal _ _ _ f w2 Ext _
       refine og_guard (j := 3) (want := true) rfl qg ?_
       simp only [OpGoal]
       go_simp
       exact ⟨_, rfl, Ext.refl _, rfl⟩
      case o5 =>
       intro f w2 hG hp hl
       have hE : Ext wr w2 := hG
       have hS := hE.size
       have qg : f 3 = .bool true := tellV hp 0 3 rfl rfl (fun h => by cases h)
       change OpGoal _ _ _ f w2 Ext _
       refine og_guard (j := 3) (want := true) rfl qg ?_
       simp only [OpGoal]
       go_simp
       exact ⟨_, rfl, Ext.refl _, rfl⟩
      case o6 =>
       intro f w2 hG hp hl
       have hE : Ext wr w2 := hG
       have hS := hE.size
       have qg : f 3 = .bool true := tellV hp 0 3 rfl rfl (fun h => by cases h)
       change OpGoal _ _ _ f w2 Ext _
       refine og_guard (j := 3) (want := true) rfl qg ?_
       simp only [OpGoal]
       go_simp
       exact ⟨_, rfl, Ext.refl _, rfl⟩
      case o7 =>
       intro f w2 hG hp hl
       have hE : Ext wr w2 := hG
       have hS := hE.size
       have q23 : f 5 = .slice (some ⟨g, 0, none⟩) n cap := tellV hp 0 5 rfl rfl (fun h => by cases h)
       have q24 : f 6 = .int .i64 (j : Int) := tellV hp 1 6 rfl rfl (fun h => by cases h)
       have qg : f 3 = .bool true := tellV hp 2 3 rfl rfl (fun h => by cases h)
       change OpGoal _ _ _ f w2 Ext _
       refine og_guard (j := 3) (want := true) rfl qg ?_
       simp only [OpGoal]
       go_simp
       exact ⟨_, rfl, Ext.refl _, rfl⟩
      case o8 =>
       intro f w2 hG hp hl
       have hE : Ext wr w2 := hG
       have hS := hE.size
       have q25 : f 7 = .pointer (some ⟨g, j * 4, none⟩) := tellV hp 0 7 rfl rfl (fun h => by cases h)
       have qg : f 3 = .bool true := tellV hp 1 3 rfl rfl (fun h => by cases h)
       change OpGoal _ _ _ f w2 Ext _
       refine og_guard (j := 3) (want := true) rfl qg ?_
       change OpGoal _ _ _ f w2 Ext _
       exact og_loadAt (P := Try.prog) _ _ g (j * 4) _ _ rfl rfl q25 (fun j v h => HCj.out _ hE j v h) Try.underlying106 rfl (by kernel_rfl) rfl
      case o9 =>
       intro f w2 hG hp hl
       have hE : Ext wr w2 := hG
       have hS := hE.size
       have qg : f 3 = .bool true := tellV hp 0 3 rfl rfl (fun h => by cases h)
       change OpGoal _ _ _ f w2 Ext _
       refine og_guard (j := 3) (want := true) rfl qg ?_
       simp only [OpGoal]
       go_simp
       exact ⟨_, rfl, Ext.refl _, rfl⟩
      case o10 =>
       intro f w2 hG hp hl
       have hE : Ext wr w2 := hG
       have hS := hE.size
       have qg : f 3 = .bool true := tellV hp 0 3 rfl rfl (fun h => by cases h)
       change OpGoal _ _ _ f w2 Ext _
       refine og_guard (j := 3) (want := true) rfl qg ?_
       simp only [OpGoal]
       go_simp
       exact ⟨_, rfl, Ext.refl _, rfl⟩
      case o11 =>
       intro f w2 hG hp hl
       have hE : Ext wr w2 := hG
       have hS := hE.size
       have q28 : f 10 = .int .i64 (j : Int) := tellV hp 0 10 rfl rfl (fun h => by cases h)
       have qg : f 3 = .bool true := tellV hp 1 3 rfl rfl (fun h => by cases h)
       change OpGoal _ _ _ f w2 Ext _
       refine og_guard (j := 3) (want := true) rfl qg ?_
       simp only [OpGoal]
       go_simp
       first
       | exact ⟨_, rfl, Ext.refl _, rfl⟩
       | exact ⟨_, rfl, Ext.refl _, congrArg (Value.int .i64) (Go.IntWalk.i64_in _ ⟨by omega, by omega⟩)⟩
      case o12 =>
       intro f w2 hG hp hl
       have hE : Ext wr w2 := hG
       have hS := hE.size
       have q27 : f 9 = .slice (some ⟨g, 0, none⟩) n cap := tellV hp 0 9 rfl rfl (fun h => by cases h)
       have q29 : f 11 = .int .i64 (k : Int) := tellV hp 1 11 rfl rfl (fun h => by cases h)
       have qg : f 3 = .bool true := tellV hp 2 3 rfl rfl (fun h => by cases h)
       change OpGoal _ _ _ f w2 Ext _
       refine og_guard (j := 3) (want := true) rfl qg ?_
       simp only [OpGoal]
       go_simp
       exact ⟨_, rfl, Ext.refl _, rfl⟩
      case o13 =>
       intro f w2 hG hp hl
       have hE : Ext wr w2 := hG
       have hS := hE.size
       have q30 : f 12 = .pointer (some ⟨g, k * 4, none⟩) := tellV hp 0 12 rfl rfl (fun h => by cases h)
       have qg : f 3 = .bool true := tellV hp 1 3 rfl rfl (fun h => by cases h)
       change OpGoal _ _ _ f w2 Ext _
       refine og_guard (j := 3) (want := true) rfl qg ?_
       change OpGoal _ _ _ f w2 Ext _
       exact og_loadAt (P := Try.prog) _ _ g (k * 4) _ _ rfl rfl q30 (fun j v h => HCk.out _ hE j v h) Try.underlying106 rfl (by kernel_rfl) rfl
      case o14 =>
       intro f w2 hG hp hl
       have hE : Ext wr w2 := hG
       have hS := hE.size
       have q22 : f 4 = .func (.func 121) #[] #[] := tellV hp 0 4 rfl rfl (fun h => by cases h)
       have q26 : f 8 = .agg #[.int .i64 y.c, .bool y.b, .slice y.a1 y.n1 y.c1, .slice y.a2 y.n2 y.c2] := tellV hp 1 8 rfl rfl (fun h => by cases h)
       have q31 : f 13 = .agg #[.int .i64 u.c, .bool u.b, .slice u.a1 u.n1 u.c1, .slice u.a2 u.n2 u.c2] := tellV hp 2 13 rfl rfl (fun h => by cases h)
       have qg : f 3 = .bool true := tellV hp 3 3 rfl rfl (fun h => by cases h)
       change OpGoal _ _ _ f w2 Ext _
       refine og_guard (j := 3) (want := true) rfl qg ?_
       change OpGoal _ _ _ f w2 Ext _
       refine og_callv (P := Try.prog) _ _ _ _ #[f 8, f 13] Try.func121 (by kernel_rfl) (by kernel_rfl) rfl rfl q22 (by kernel_rfl) ?_
       rw [q26, q31]
       refine (cmpT_calls y u _).mono ?_
       rintro e w' ⟨z, rfl, h1, h2⟩
       exact ⟨_, rfl, h2, z, rfl, h1⟩
      case o15 =>
       intro f w2 hG hp hl
       have hE : Ext wr w2 := hG
       have hS := hE.size
       have q32 := tellV hp 0 14 rfl rfl (fun _ => hE)
       have qg : f 3 = .bool true := tellV hp 1 3 rfl rfl (fun h => by cases h)
       change OpGoal _ _ _ f w2 Ext _
       refine og_guard (j := 3) (want := true) rfl qg ?_
       obtain ⟨z, hz, hzz⟩ := q32
       simp only [OpGoal]
       go_simp
       exact ⟨_, rfl, Ext.refl _, congrArg Value.bool (by first | (rw [HR.out]; done) | (rw [HR.out]; exact decide_eq_decide.2 hzz))⟩
      case o16 =>
       intro f w2 hG hp hl
       have hE : Ext wr w2 := hG
       have hS := hE.size
       have q21 : f 3 = .bool true := tellV hp 0 3 rfl rfl (fun h => by cases h)
       have q33 : f 15 = .bool r := tellV hp 1 15 rfl rfl (fun h => by cases h)
       simp only [OpGoal]
       go_simp
       exact ⟨_, rfl, Ext.refl _, rfl⟩
     ·intro f w2 hG hp
      have hE : Ext wr w2 := ChgS.nil hG
      have q34 : f 16 = .bool r := endV hp 16 (by decide) rfl (fun h => by cases h)
      try simp only [q34]
      clear hp
      have H2 := Lib.hid (HHT.out.ext hE)
      have HLQ : Hid (j = (A ++ U').length + 1 + ([] : List TmC).length) := Lib.hid (HJ.out.trans HLP.out.2.1)
      have HCi := Lib.hid (H2.out.at (get_at2 HLQ.out))
      have HCl := Lib.hid (H2.out.at (get_at HLP.out.1))
      cases r with
      | false =>
       have hle : tkey u ≤ tkey y := by
        have := HR.out
        have h2 := of_decide_eq_false this.symm
        show u.c ≤ y.c
        omega
       have HF := (FINA.out (.inr ⟨u, by rw [HU.out.1]; simp, hle⟩)).out
       obtain ⟨M1', f1, f2, f3, f4⟩ := HF
       have HF := Lib.hid (And.intro f1 (And.intro f2 (And.intro f3 (f4.ext hE))))
       clear f1 f2 f3 f4 FINA
       go_wp2
       go_roundw
       case rel =>
        obtain ⟨f1, f2, f3, f4⟩ := HF.out
        exact ⟨i + 1, t + 1, M1', M3, congrArg (Value.int .i64) (by omega), by omega, by omega, by omega, Lib.hid ⟨f2, f1, f3, f4⟩, (hch.trans hcq).trans (hE.chg g)⟩
       case measure => simp [intOf]; omega
      | true =>
       have hle : Hid (tkey y ≤ tkey u) := by
        have := HR.out
        have h2 := of_decide_eq_true this.symm
        refine Lib.hid ?_
        show y.c ≤ u.c
        omega
       have hjk : j ≠ k := by have := HJ.out; omega
       go_wp2_with fail
       refine wp_region_swpS g n j k 15 17 rest (((A ++ U') ++ u :: ([] ++ y :: (V ++ M3 ++ S))).map tmv) (.agg #[.int .i64 y.c, .bool y.b, .slice y.a1 y.n1 y.c1, .slice y.a2 y.n2 y.c2]) (.agg #[.int .i64 u.c, .bool u.b, .slice u.a1 u.n1 u.c1, .slice u.a2 u.n2 u.c2]) [PP.val (.slice (some ⟨g, 0, none⟩) n cap), PP.val (.int .i64 (j : Int)), PP.val (.slice (some ⟨g, 0, none⟩) n cap), PP.val (.int .i64 (j : Int)), PP.val (.int .i64 (k : Int)), PP.val (.slice (some ⟨g, 0, none⟩) n cap), PP.val (.int .i64 (j : Int)), PP.val (.int .i64 (k : Int)), PP.val (.pointer (some ⟨g, k * 4, none⟩)), PP.val (.agg #[.int .i64 u.c, .bool u.b, .slice u.a1 u.n1 u.c1, .slice u.a2 u.n2 u.c2]), PP.val (.slice (some ⟨g, 0, none⟩) n cap), PP.val (.int .i64 (j : Int)), PP.val (.pointer (some ⟨g, j * 4, none⟩)), PP.val (.agg #[.int .i64 y.c, .bool y.b, .slice y.a1 y.n1 y.c1, .slice y.a2 y.n2 y.c2]), PP.val (.pointer (some ⟨g, j * 4, none⟩)), PP.any, PP.val (.pointer (some ⟨g, k * 4, none⟩)), PP.any] [] [15, 14, 13, 12, 11, 10, 9, 8, 7, 6, 5, 1, 0] (by kernel_rfl) (by kernel_rfl) (fun f => (by simp only [fillR, fillL, List.setIfInBounds_toArray, List.set_cons_succ, List.set_cons_zero, Nat.reduceAdd]; rfl)) hjk (by decide) HLP.out.2.2 H2.out hjn hkn (by intro p hp; simp only [List.mem_cons, List.not_mem_nil, or_false] at hp; rcases hp with rfl | rfl | rfl | rfl | rfl | rfl | rfl | rfl | rfl | rfl | rfl | rfl | rfl | rfl | rfl | rfl | rfl | rfl <;> rfl) ?_ ?_ (by decide) (by decide)
       ·refine ⟨?o0, ?o1, ?o2, ?o3, ?o4, ?o5, ?o6, ?o7, ?o8, ?o9, ?o10, ?o11, ?o12, ?o13, ?o14, ?o15, ?o16, ?o17, trivial⟩
        case o0 =>
         intro f w3 hG hp hl
         have hE : Ext w2 w3 := hG
         have hS := hE.size
         simp only [OpGoal]
         go_simp
         exact ⟨_, rfl, Ext.refl _, rfl⟩
        case o1 =>
         intro f w3 hG hp hl
         have hE : Ext w2 w3 := hG
         have hS := hE.size
         simp only [OpGoal]
         go_simp
         exact ⟨_, rfl, Ext.refl _, rfl⟩
        case o2 =>
         intro f w3 hG hp hl
         have hS : w2.heap.size ≤ w3.heap.size := hG.2.2.2.1
         simp only [OpGoal]
         go_simp
         exact ⟨_, rfl, Ext.refl _, rfl⟩
        case o3 =>
         intro f w3 hG hp hl
         have hS : w2.heap.size ≤ w3.heap.size := hG.2.2.2.1
         simp only [OpGoal]
         go_simp
         exact ⟨_, rfl, Ext.refl _, rfl⟩
        case o4 =>
         intro f w3 hG hp hl
         have hS : w2.heap.size ≤ w3.heap.size := hG.2.2.2.1
         have q40 : f 3 = .int .i64 (j : Int) := tellM hp 0 3 rfl rfl
         simp only [OpGoal]
         go_simp
         first
         | exact ⟨_, rfl, Ext.refl _, rfl⟩
         | exact ⟨_, rfl, Ext.refl _, congrArg (Value.int .i64) (Go.IntWalk.i64_in _ ⟨by omega, by omega⟩)⟩
        case o5 =>
         intro f w3 hG hp hl
         have hE : Ext w2 w3 := hG
         have hS := hE.size
         simp only [OpGoal]
         go_simp
         exact ⟨_, rfl, Ext.refl _, rfl⟩
        case o6 =>
         intro f w3 hG hp hl
         have hE : Ext w2 w3 := hG
         have hS := hE.size
         simp only [OpGoal]
         go_simp
         exact ⟨_, rfl, Ext.refl _, rfl⟩
        case o7 =>
         intro f w3 hG hp hl
         have hE : Ext w2 w3 := hG
         have hS := hE.size
         have q43 : f 6 = .int .i64 (j : Int) := tellM hp 0 6 rfl rfl
         simp only [OpGoal]
         go_simp
         first
         | exact ⟨_, rfl, Ext.refl _, rfl⟩
         | exact ⟨_, rfl, Ext.refl _, congrArg (Value.int .i64) (Go.IntWalk.i64_in _ ⟨by omega, by omega⟩)⟩
        case o8 =>
         intro f w3 hG hp hl
         have hE : Ext w2 w3 := hG
         have hS := hE.size
         have q42 : f 5 = .slice (some ⟨g, 0, none⟩) n cap := tellM hp 0 5 rfl rfl
         have q44 : f 7 = .int .i64 (k : Int) := tellM hp 1 7 rfl rfl
         simp only [OpGoal]
         go_simp
         exact ⟨_, rfl, Ext.refl _, rfl⟩
        case o9 =>
         intro f w3 hG hp hl
         have hE : Ext w2 w3 := hG
         have hS := hE.size
         have q45 : f 8 = .pointer (some ⟨g, k * 4, none⟩) := tellM hp 0 8 rfl rfl
         change OpGoal _ _ _ f w3 Ext _
         exact og_loadAt (P := Try.prog) _ _ g (k * 4) _ _ rfl rfl q45 (fun j v h => HCl.out _ hE j v h) Try.underlying106 rfl (by kernel_rfl) rfl
        case o10 =>
         intro f w3 hG hp hl
         have hE : Ext w2 w3 := hG
         have hS := hE.size
         simp only [OpGoal]
         go_simp
         exact ⟨_, rfl, Ext.refl _, rfl⟩
        case o11 =>
         intro f w3 hG hp hl
         have hE : Ext w2 w3 := hG
         have hS := hE.size
         simp only [OpGoal]
         go_simp
         exact ⟨_, rfl, Ext.refl _, rfl⟩
        case o12 =>
         intro f w3 hG hp hl
         have hE : Ext w2 w3 := hG
         have hS := hE.size
         have q47 : f 10 = .slice (some ⟨g, 0, none⟩) n cap := tellM hp 0 10 rfl rfl
         have q48 : f 11 = .int .i64 (j : Int) := tellM hp 1 11 rfl rfl
         simp only [OpGoal]
         go_simp
         exact ⟨_, rfl, Ext.refl _, rfl⟩
        case o13 =>
         intro f w3 hG hp hl
         have hE : Ext w2 w3 := hG
         have hS := hE.size
         have q49 : f 12 = .pointer (some ⟨g, j * 4, none⟩) := tellM hp 0 12 rfl rfl
         change OpGoal _ _ _ f w3 Ext _
         exact og_loadAt (P := Try.prog) _ _ g (j * 4) _ _ rfl rfl q49 (fun j v h => HCi.out _ hE j v h) Try.underlying106 rfl (by kernel_rfl) rfl
        case o14 =>
         intro f w3 hG hp hl
         have hE : Ext w2 w3 := hG
         have hS := hE.size
         have q37 : f 0 = .slice (some ⟨g, 0, none⟩) n cap := tellM hp 0 0 rfl rfl
         have q38 : f 1 = .int .i64 (j : Int) := tellM hp 1 1 rfl rfl
         simp only [OpGoal]
         go_simp
         exact ⟨_, rfl, Ext.refl _, rfl⟩
        case o15 =>
         intro f w3 hG hp hl
         have hE : Ext w2 w3 := hG
         have hS := hE.size
         have q51 : f 14 = .pointer (some ⟨g, j * 4, none⟩) := tellM hp 0 14 rfl rfl
         have q46 : f 9 = .agg #[.int .i64 u.c, .bool u.b, .slice u.a1 u.n1 u.c1, .slice u.a2 u.n2 u.c2] := tellM hp 1 9 rfl rfl
         intro hI hU
         exact og_stS (P := Try.prog) g n _ _ 15 j _ _ _ _ _ _ rfl rfl q51 q46 hjn (by kernel_rfl) (strN_tmv1 u) hI
        case o16 =>
         intro f w3 hG hp hl
         have hS : w2.heap.size ≤ w3.heap.size := hG.2.2.2.1
         have q39 : f 2 = .slice (some ⟨g, 0, none⟩) n cap := tellM hp 0 2 rfl rfl
         have q41 : f 4 = .int .i64 (k : Int) := tellM hp 1 4 rfl rfl
         simp only [OpGoal]
         go_simp
         exact ⟨_, rfl, Ext.refl _, rfl⟩
        case o17 =>
         intro f w3 hG hp hl
         have hS : w2.heap.size ≤ w3.heap.size := hG.2.2.2.1
         have q52 : f 16 = .pointer (some ⟨g, k * 4, none⟩) := tellM hp 0 16 rfl rfl
         have q50 : f 13 = .agg #[.int .i64 y.c, .bool y.b, .slice y.a1 y.n1 y.c1, .slice y.a2 y.n2 y.c2] := tellM hp 1 13 rfl rfl
         intro hI hU
         exact og_stS (P := Try.prog) g n _ _ 17 k _ _ _ _ _ _ rfl rfl q52 q50 hkn (by kernel_rfl) (strN_tmv1 y) hI
       ·intro f w3 hC hW hp
        clear hp
        have HF : Hid (HoldT g rest w3 ((A ++ U') ++ y :: ([] ++ u :: (V ++ M3 ++ S)))) := Lib.hid (HoldT.swapped' HLP.out.1 HLQ.out hW)
        clear hW
        go_wp2
        go_roundw
        case rel =>
         obtain ⟨i1, i2, i3, i4⟩ := hI.out
         obtain ⟨l1, l2⟩ := HU.out
         refine ⟨k, U', u :: V, rfl, by have := HJ.out; omega, by have := HJ.out; omega, Lib.hid ⟨by omega, by rw [i2, l1]; simp, fun v hv => ?_, by simpa [List.append_assoc] using HF.out⟩, (hcq.trans (hE.chg g)).trans hC⟩
         rcases List.mem_cons.1 hv with rfl | hv
         ·exact hle.out
         ·exact i3 v hv
        case measure => have := HJ.out; simp [intOf]; omega
end Go.Proofs.Ytdmjgjcljbogiaa
/-
 Terms in a list of one's own: two ranges merged, one of them of one term.
-/
namespace Go.Proofs.Ytdmjgjcljbogiaa
set_option maxRecDepth 100000
set_option maxHeartbeats 1000000
open Go.RowKit
set_option linter.unusedVariables false
set_option linter.unusedSimpArgs false
theorem split_at {R : List TmC} {h : Nat} (hh : h < R.length) : ∃ R1 x R2, R = R1 ++ x :: R2 ∧ R1.length = h ∧ R[h]? = some x :=
 ⟨R.take h, R[h], R.drop (h + 1), by rw [← List.drop_eq_getElem_cons hh, List.take_append_drop], by rw [List.length_take]; omega, List.getElem?_eq_getElem hh⟩
set_option maxHeartbeats 8000000 in
theorem symMerge_one (n cap g : Nat) (rest : List Value) (A R S : List TmC) (y : TmC) (w : World) (a m b : Nat) (hn : n = (A ++ [y] ++ R ++ S).length) (hN : n ≤ 35184372088832) (ha : a = A.length) (hm : m = a + 1) (hb : b = m + R.length) (hR0 : 0 < R.length) (hR : Ris tkey R) (hH : HoldT g rest w (A ++ [y] ++ R ++ S)) :
  Calls Try.prog 142 #[.slice (some ⟨g, 0, none⟩) n cap, .int .i64 (a : Int), .int .i64 (m : Int), .int .i64 (b : Int), .func (.func 121) #[] #[]] w fun e w' => e = .returned (.tuple #[]) ∧ Chg g w w' ∧ ∃ M, M.Perm ([y] ++ R) ∧ Ris tkey M ∧ HoldT g rest w' (A ++ M ++ S) := by
 simp only [List.length_append, List.length_cons, List.length_nil] at hn
 have hbn : b ≤ n := by omega
 have han : a < n := by omega
 have hma : (m : Int) - (a : Int) = 1 := by omega
 have hmb : m ≤ b := by omega
 have hmn : m ≤ n := by omega
 have Hm := Lib.hid hm
 have Hl := Lib.hid (And.intro hn (And.intro ha hb))
 have HR0 := Lib.hid hR
 have Hd := Lib.hid (show HoldT g rest w (A ++ y :: (R ++ S)) by simpa [List.append_assoc] using hH)
 clear hn ha hb hR0 hR hH hm
 go_enter Try.func142, Try.ntmps142
 go_wp2_with fail
 go_loopw [10, 11] (fun s10 s11 wr => ∃ (i j : Nat), s10 = .int .i64 (i : Int) ∧ s11 = .int .i64 (j : Int) ∧ m ≤ i ∧ i ≤ j ∧ j ≤ b ∧ Hid ((i = m ∨ ∃ x, R[i - m - 1]? = some x ∧ tkey x < tkey y) ∧ (j = b ∨ ∃ x, R[j - m]? = some x ∧ tkey y ≤ tkey x)) ∧ Ext w wr) (fun s10 s11 _ => (intOf s11 - intOf s10).toNat)
 case atStart => exact ⟨m, b, rfl, rfl, Nat.le_refl _, hmb, Nat.le_refl _, Lib.hid ⟨.inl rfl, .inl rfl⟩, Ext.refl _⟩
 case round =>
  obtain ⟨i, j, rfl, rfl, hmi, hij, hjb, hF, hex⟩ := hrel
  rcases Nat.eq_or_lt_of_le hij with he | hlt
  ·subst he
   obtain ⟨k, hk⟩ : ∃ k, k + 1 = i := ⟨i - 1, by omega⟩
   have hk1 : (i : Int) - 1 = (k : Int) := by omega
   have HP : Hid (Ris tkey (R.take (i - m) ++ [y] ++ R.drop (i - m)) ∧ (R.take (i - m) ++ [y] ++ R.drop (i - m)).Perm ([y] ++ R)) := by
    obtain ⟨h1, h2⟩ := hF.out
    obtain ⟨l1, l2, l3⟩ := Hl.out
    constructor
    ·refine putin HR0.out (i - m) ?_ ?_
     ·rcases h1 with h1 | ⟨x, h1, h3⟩
      ·exact .inl (by omega)
      ·exact .inr ⟨x, h1, by omega⟩
     ·rcases h2 with h2 | ⟨x, h2, h3⟩
      ·exact .inl (by omega)
      ·exact .inr ⟨x, h2, h3⟩
    ·exact (putin_perm (i - m)).trans List.perm_append_comm
   obtain ⟨d, hd⟩ : ∃ d, d = i - m := ⟨_, rfl⟩
   rw [← hd] at HP
   have HKD := Lib.hid (show k = a + d by have := Hm.out; omega)
   have HD := Lib.hid (show HoldT g rest wr (A ++ y :: (R ++ S)) from Hd.out.ext hex)
   obtain ⟨wo, hwo⟩ : ∃ wo, wo = wr := ⟨wr, rfl⟩
   subst hwo
   clear hF
   have HdL := Lib.hid (show d ≤ R.length by have := Hl.out.2.2; omega)
   have HKI := Lib.hid hk
   have hkn : k ≤ n := by omega
   clear hd hk
   go_wp2_with fail
   go_loopw [13] (fun s13 wq => ∃ (t q : Nat), s13 = .int .i64 (q : Int) ∧ q = a + t ∧ t ≤ d ∧ Hid (HoldT g rest wq ((A ++ R.take t) ++ y :: (R.drop t ++ S))) ∧ Chg g wo wq) (fun s13 _ => ((k : Int) - intOf s13).toNat)
   case atStart => exact ⟨0, a, rfl, rfl, Nat.zero_le _, Lib.hid (by simpa using HD.out), Chg.refl _ _⟩
   case round =>
    obtain ⟨t, q, rfl, hq, htd, hHT, hch⟩ := hrel
    have HQ := Lib.hid hq
    rcases Nat.eq_or_lt_of_le htd with he | hlt
    ·subst he
     have hqk : ¬ (q : Int) < (k : Int) := by have := HKD.out; omega
     clear hq
     go_wp2
     refine bodyPost_ret (results_none (by kernel_rfl) _ _ _) rfl ?_
     exact ⟨rfl, (hex.chg g).trans hch, _, HP.out.2, HP.out.1, by simpa [List.append_assoc] using hHT.out⟩
    ·obtain ⟨x, X, HX⟩ : ∃ x X, Hid (R.drop t = x :: X ∧ R.take (t + 1) = R.take t ++ [x] ∧ R.drop (t + 1) = X) := by
      have htl : t < R.length := by have := HdL.out; omega
      exact ⟨R[t], R.drop (t + 1), Lib.hid ⟨List.drop_eq_getElem_cons htl, by rw [List.take_add_one, List.getElem?_eq_getElem htl]; rfl, rfl⟩⟩
     have H5 : Hid (HoldT g rest wr ((A ++ R.take t) ++ y :: ([] ++ x :: (X ++ S)))) := by
      have := hHT.out
      rw [HX.out.1] at this
      exact this
     obtain ⟨p, hp⟩ : ∃ p, p = q + 1 := ⟨_, rfl⟩
     have HLP : Hid (q = (A ++ R.take t).length ∧ p = (A ++ R.take t).length + 1 + ([] : List TmC).length ∧ (((A ++ R.take t) ++ y :: ([] ++ x :: (X ++ S))).map tmv).length = n) := by
      obtain ⟨l1, l2, l3⟩ := Hl.out
      have k1 := congrArg List.length HX.out.1
      have := HdL.out
      have := Hm.out
      simp only [List.length_drop, List.length_cons] at k1
      simp only [List.length_map, List.length_append, List.length_cons, List.length_nil, List.length_take]
      exact Lib.hid ⟨by omega, by omega, by omega⟩
     have HCi := Lib.hid (H5.out.at (get_at HLP.out.1))
     have HCk := Lib.hid (H5.out.at (get_at2 HLP.out.2.1))
     have hqk : (q : Int) < (k : Int) := by have := HKD.out; omega
     have hp1 : (q : Int) + 1 = (p : Int) := by omega
     have hqn : q < n := by omega
     have hpn : p < n := by have := HKI.out; omega
     have hqn' : (q : Int) < (n : Int) := by omega
     have hpn' : (p : Int) < (n : Int) := by omega
     have hqp : q ≠ p := by omega
     have HPQ := Lib.hid hp
     clear hp hHT hq
     go_wp2_with fail
     refine wp_region_swpS g n q p 15 17 rest (((A ++ R.take t) ++ y :: ([] ++ x :: (X ++ S))).map tmv) (.agg #[.int .i64 y.c, .bool y.b, .slice y.a1 y.n1 y.c1, .slice y.a2 y.n2 y.c2]) (.agg #[.int .i64 x.c, .bool x.b, .slice x.a1 x.n1 x.c1, .slice x.a2 x.n2 x.c2]) [PP.val (.slice (some ⟨g, 0, none⟩) n cap), PP.val (.int .i64 (q : Int)), PP.val (.slice (some ⟨g, 0, none⟩) n cap), PP.val (.int .i64 (q : Int)), PP.val (.int .i64 (p : Int)), PP.val (.slice (some ⟨g, 0, none⟩) n cap), PP.val (.int .i64 (q : Int)), PP.val (.int .i64 (p : Int)), PP.val (.pointer (some ⟨g, p * 4, none⟩)), PP.val (.agg #[.int .i64 x.c, .bool x.b, .slice x.a1 x.n1 x.c1, .slice x.a2 x.n2 x.c2]), PP.val (.slice (some ⟨g, 0, none⟩) n cap), PP.val (.int .i64 (q : Int)), PP.val (.pointer (some ⟨g, q * 4, none⟩)), PP.val (.agg #[.int .i64 y.c, .bool y.b, .slice y.a1 y.n1 y.c1, .slice y.a2 y.n2 y.c2]), PP.val (.pointer (some ⟨g, q * 4, none⟩)), PP.any, PP.val (.pointer (some ⟨g, p * 4, none⟩)), PP.any] [] [15, 14, 13, 12, 11, 10, 9, 8, 7, 6, 5, 1, 0] (by kernel_rfl) (by kernel_rfl) (fun f => (by simp only [fillR, fillL, List.setIfInBounds_toArray, List.set_cons_succ, List.set_cons_zero, Nat.reduceAdd]; rfl)) hqp (by decide) HLP.out.2.2 H5.out hqn hpn (by intro p hp; simp only [List.mem_cons, List.not_mem_nil, or_false] at hp; rcases hp with rfl | rfl | rfl | rfl | rfl | rfl | rfl | rfl | rfl | rfl | rfl | rfl | rfl | rfl | rfl | rfl | rfl | rfl <;> rfl) ?_ ?_ (by decide) (by decide)
     ·refine ⟨?o0, ?o1, ?o2, ?o3, ?o4, ?o5, ?o6, ?o7, ?o8, ?o9, ?o10, ?o11, ?o12, ?o13, ?o14, ?o15, ?o16, ?o17, trivial⟩
      case o0 =>
       intro f w2 hG hp hl
       have hE : Ext wr w2 := hG
       have hS := hE.size
       simp only [OpGoal]
       go_simp
       exact ⟨_, rfl, Ext.refl _, rfl⟩
      case o1 =>
       intro f w2 hG hp hl
       have hE : Ext wr w2 := hG
       have hS := hE.size
       simp only [OpGoal]
       go_simp
       exact ⟨_, rfl, Ext.refl _, rfl⟩
      case o2 =>
       intro f w2 hG hp hl
       have hS : wr.heap.size ≤ w2.heap.size := hG.2.2.2.1
       simp only [OpGoal]
       go_simp
       exact ⟨_, rfl, Ext.refl _, rfl⟩
      case o3 =>
       intro f w2 hG hp hl
       have hS : wr.heap.size ≤ w2.heap.size := hG.2.2.2.1
       simp only [OpGoal]
       go_simp
       exact ⟨_, rfl, Ext.refl _, rfl⟩
      case o4 =>
       intro f w2 hG hp hl
       have hS : wr.heap.size ≤ w2.heap.size := hG.2.2.2.1
       have q64 : f 3 = .int .i64 (q : Int) := tellM hp 0 3 rfl rfl
       simp only [OpGoal]
       go_simp
       first
       | exact ⟨_, rfl, Ext.refl _, rfl⟩
       | exact ⟨_, rfl, Ext.refl _, congrArg (Value.int .i64) (Go.IntWalk.i64_in _ ⟨by omega, by omega⟩)⟩
      case o5 =>
       intro f w2 hG hp hl
       have hE : Ext wr w2 := hG
       have hS := hE.size
       simp only [OpGoal]
       go_simp
       exact ⟨_, rfl, Ext.refl _, rfl⟩
      case o6 =>
       intro f w2 hG hp hl
       have hE : Ext wr w2 := hG
       have hS := hE.size
       simp only [OpGoal]
       go_simp
       exact ⟨_, rfl, Ext.refl _, rfl⟩
      case o7 =>
       intro f w2 hG hp hl
       have hE : Ext wr w2 := hG
       have hS := hE.size
       have q67 : f 6 = .int .i64 (q : Int) := tellM hp 0 6 rfl rfl
       simp only [OpGoal]
       go_simp
       first
       | exact ⟨_, rfl, Ext.refl _, rfl⟩
       | exact ⟨_, rfl, Ext.refl _, congrArg (Value.int .i64) (Go.IntWalk.i64_in _ ⟨by omega, by omega⟩)⟩
      case o8 =>
       intro f w2 hG hp hl
       have hE : Ext wr w2 := hG
       have hS := hE.size
       have q66 : f 5 = .slice (some ⟨g, 0, none⟩) n cap := tellM hp 0 5 rfl rfl
       have q68 : f 7 = .int .i64 (p : Int) := tellM hp 1 7 rfl rfl
       simp only [OpGoal]
       go_simp
       exact ⟨_, rfl, Ext.refl _, rfl⟩
      case o9 =>
       intro f w2 hG hp hl
       have hE : Ext wr w2 := hG
       have hS := hE.size
       have q69 : f 8 = .pointer (some ⟨g, p * 4, none⟩) := tellM hp 0 8 rfl rfl
       change OpGoal _ _ _ f w2 Ext _
       exact og_loadAt (P := Try.prog) _ _ g (p * 4) _ _ rfl rfl q69 (fun j v h => HCk.out _ hE j v h) Try.underlying106 rfl (by kernel_rfl) rfl
      case o10 =>
       intro f w2 hG hp hl
       have hE : Ext wr w2 := hG
       have hS := hE.size
       simp only [OpGoal]
       go_simp
       exact ⟨_, rfl, Ext.refl _, rfl⟩
      case o11 =>
       intro f w2 hG hp hl
       have hE : Ext wr w2 := hG
       have hS := hE.size
       simp only [OpGoal]
       go_simp
       exact ⟨_, rfl, Ext.refl _, rfl⟩
      case o12 =>
       intro f w2 hG hp hl
       have hE : Ext wr w2 := hG
       have hS := hE.size
       have q71 : f 10 = .slice (some ⟨g, 0, none⟩) n cap := tellM hp 0 10 rfl rfl
       have q72 : f 11 = .int .i64 (q : Int) := tellM hp 1 11 rfl rfl
       simp only [OpGoal]
       go_simp
       exact ⟨_, rfl, Ext.refl _, rfl⟩
      case o13 =>
       intro f w2 hG hp hl
       have hE : Ext wr w2 := hG
       have hS := hE.size
       have q73 : f 12 = .pointer (some ⟨g, q * 4, none⟩) := tellM hp 0 12 rfl rfl
       change OpGoal _ _ _ f w2 Ext _
       exact og_loadAt (P := Try.prog) _ _ g (q * 4) _ _ rfl rfl q73 (fun j v h => HCi.out _ hE j v h) Try.underlying106 rfl (by kernel_rfl) rfl
      case o14 =>
       intro f w2 hG hp hl
       have hE : Ext wr w2 := hG
       have hS := hE.size
       have q61 : f 0 = .slice (some ⟨g, 0, none⟩) n cap := tellM hp 0 0 rfl rfl
       have q62 : f 1 = .int .i64 (q : Int) := tellM hp 1 1 rfl rfl
       simp only [OpGoal]
       go_simp
       exact ⟨_, rfl, Ext.refl _, rfl⟩
      case o15 =>
       intro f w2 hG hp hl
       have hE : Ext wr w2 := hG
       have hS := hE.size
       have q75 : f 14 = .pointer (some ⟨g, q * 4, none⟩) := tellM hp 0 14 rfl rfl
       have q70 : f 9 = .agg #[.int .i64 x.c, .bool x.b, .slice x.a1 x.n1 x.c1, .slice x.a2 x.n2 x.c2] := tellM hp 1 9 rfl rfl
       intro hI hU
       exact og_stS (P := Try.prog) g n _ _ 15 q _ _ _ _ _ _ rfl rfl q75 q70 hqn (by kernel_rfl) (strN_tmv1 x) hI
      case o16 =>
       intro f w2 hG hp hl
       have hS : wr.heap.size ≤ w2.heap.size := hG.2.2.2.1
       have q63 : f 2 = .slice (some ⟨g, 0, none⟩) n cap := tellM hp 0 2 rfl rfl
       have q65 : f 4 = .int .i64 (p : Int) := tellM hp 1 4 rfl rfl
       simp only [OpGoal]
       go_simp
       exact ⟨_, rfl, Ext.refl _, rfl⟩
      case o17 =>
       intro f w2 hG hp hl
       have hS : wr.heap.size ≤ w2.heap.size := hG.2.2.2.1
       have q76 : f 16 = .pointer (some ⟨g, p * 4, none⟩) := tellM hp 0 16 rfl rfl
       have q74 : f 13 = .agg #[.int .i64 y.c, .bool y.b, .slice y.a1 y.n1 y.c1, .slice y.a2 y.n2 y.c2] := tellM hp 1 13 rfl rfl
       intro hI hU
       exact og_stS (P := Try.prog) g n _ _ 17 p _ _ _ _ _ _ rfl rfl q76 q74 hpn (by kernel_rfl) (strN_tmv1 y) hI
     ·intro f w2 hC hW hp
      clear hp
      have HF : Hid (HoldT g rest w2 ((A ++ R.take t) ++ x :: ([] ++ y :: (X ++ S)))) := HoldT.swapped HLP.out.1 HLP.out.2.1 hW
      clear hW
      go_wp2
      go_roundw
      case rel =>
       refine ⟨t + 1, p, rfl, by have := HPQ.out; have := HQ.out; omega, by omega, Lib.hid ?_, hch.trans hC⟩
       obtain ⟨k1, k2, k3⟩ := HX.out
       rw [k2, k3]
       simpa [List.append_assoc] using HF.out
      case measure => have := HPQ.out; simp [intOf]; omega
  ·obtain ⟨h, hh⟩ : ∃ h, h = (i + j) / 2 := ⟨_, rfl⟩
   obtain ⟨R1, x, R2, HX⟩ : ∃ R1 x R2, Hid (R = R1 ++ x :: R2 ∧ R1.length = h - m ∧ R[h - m]? = some x) := by
    obtain ⟨R1, x, R2, h1, h2, h3⟩ := split_at (R := R) (h := h - m) (by have := Hl.out.2.2; omega)
    exact ⟨R1, x, R2, Lib.hid ⟨h1, h2, h3⟩⟩
   have H5 : Hid (HoldT g rest wr (A ++ y :: (R1 ++ x :: (R2 ++ S)))) := by
    have := Hd.out.ext hex
    rw [HX.out.1] at this
    exact Lib.hid (by simpa [List.append_assoc] using this)
   have HCa := Lib.hid (H5.out.at (get_at (p := a) Hl.out.2.1))
   have HCh := Lib.hid (H5.out.at (get_at2 (q := h) (by have := Hl.out.2.1; have := HX.out.2.1; omega)))
   obtain ⟨r, hr⟩ : ∃ r : Bool, r = decide (x.c < y.c) := ⟨_, rfl⟩
   have HR := Lib.hid hr
   have hij' : (i : Int) < (j : Int) := by omega
   have hhn : h < n := by omega
   have hhn' : (h : Int) < (n : Int) := by omega
   have han' : (a : Int) < (n : Int) := by omega
   have hh2 : ((i : Int) + (j : Int)) / 2 = (h : Int) := by omega
   have him : h < j := by omega
   have hih : i ≤ h := by omega
   clear hr hh
   go_wp2_with fail
   refine wp_region_puts [] [PP.val (.func (.func 121) #[] #[]), PP.val (.slice (some ⟨g, 0, none⟩) n cap), PP.val (.int .i64 (h : Int)), PP.val (.pointer (some ⟨g, h * 4, none⟩)), PP.val (.agg #[.int .i64 x.c, .bool x.b, .slice x.a1 x.n1 x.c1, .slice x.a2 x.n2 x.c2]), PP.val (.slice (some ⟨g, 0, none⟩) n cap), PP.val (.int .i64 (a : Int)), PP.val (.pointer (some ⟨g, a * 4, none⟩)), PP.val (.agg #[.int .i64 y.c, .bool y.b, .slice y.a1 y.n1 y.c1, .slice y.a2 y.n2 y.c2]), PP.pred (fun v => ∃ z : Int, v = .int .i64 z ∧ (z < 0 ↔ x.c < y.c)), PP.val (.bool r)] [] [0, 1, 2, 3, 4, 5, 6, 7, 8, 9, 10]
    (by kernel_rfl) (by kernel_rfl) (fun f => (by simp only [fillR, fillL, List.setIfInBounds_toArray, List.set_cons_succ, List.set_cons_zero, Nat.reduceAdd]; rfl)) ?_ ?_ ?_ ?_ ?_
   ·intro x hx; cases hx
   ·intro x hx; cases hx
   ·intro x hx; cases hx
   ·refine ⟨?o0, ?o1, ?o2, ?o3, ?o4, ?o5, ?o6, ?o7, ?o8, ?o9, ?o10, trivial⟩
    case o0 =>
     intro f w2 hG hp hl
     have hE : Ext wr w2 := hG
     have hS := hE.size
     simp only [OpGoal]
     go_simp
     exact ⟨_, rfl, Ext.refl _, rfl⟩
    case o1 =>
     intro f w2 hG hp hl
     have hE : Ext wr w2 := hG
     have hS := hE.size
     simp only [OpGoal]
     go_simp
     exact ⟨_, rfl, Ext.refl _, rfl⟩
    case o2 =>
     intro f w2 hG hp hl
     have hE : Ext wr w2 := hG
     have hS := hE.size
     simp only [OpGoal]
     go_simp
     exact ⟨_, rfl, Ext.refl _, rfl⟩
    case o3 =>
     intro f w2 hG hp hl
     have hE : Ext wr w2 := hG
     have hS := hE.size
     have q41 : f 1 = .slice (some ⟨g, 0, none⟩) n cap := tellV hp 0 1 rfl rfl (fun h => by cases h)
     have q42 : f 2 = .int .i64 (h : Int) := tellV hp 1 2 rfl rfl (fun h => by cases h)
     simp only [OpGoal]
     go_simp
     exact ⟨_, rfl, Ext.refl _, rfl⟩
    case o4 =>
     intro f w2 hG hp hl
     have hE : Ext wr w2 := hG
     have hS := hE.size
     have q43 : f 3 = .pointer (some ⟨g, h * 4, none⟩) := tellV hp 0 3 rfl rfl (fun h => by cases h)
     change OpGoal _ _ _ f w2 Ext _
     exact og_loadAt (P := Try.prog) _ _ g (h * 4) _ _ rfl rfl q43 (fun j v h => HCh.out _ hE j v h) Try.underlying106 rfl (by kernel_rfl) rfl
    case o5 =>
     intro f w2 hG hp hl
     have hE : Ext wr w2 := hG
     have hS := hE.size
     simp only [OpGoal]
     go_simp
     exact ⟨_, rfl, Ext.refl _, rfl⟩
    case o6 =>
     intro f w2 hG hp hl
     have hE : Ext wr w2 := hG
     have hS := hE.size
     simp only [OpGoal]
     go_simp
     exact ⟨_, rfl, Ext.refl _, rfl⟩
    case o7 =>
     intro f w2 hG hp hl
     have hE : Ext wr w2 := hG
     have hS := hE.size
     have q45 : f 5 = .slice (some ⟨g, 0, none⟩) n cap := tellV hp 0 5 rfl rfl (fun h => by cases h)
     have q46 : f 6 = .int .i64 (a : Int) := tellV hp 1 6 rfl rfl (fun h => by cases h)
     simp only [OpGoal]
     go_simp
     exact ⟨_, rfl, Ext.refl _, rfl⟩
    case o8 =>
     intro f w2 hG hp hl
     have hE : Ext wr w2 := hG
     have hS := hE.size
     have q47 : f 7 = .pointer (some ⟨g, a * 4, none⟩) := tellV hp 0 7 rfl rfl (fun h => by cases h)
     change OpGoal _ _ _ f w2 Ext _
     exact og_loadAt (P := Try.prog) _ _ g (a * 4) _ _ rfl rfl q47 (fun j v h => HCa.out _ hE j v h) Try.underlying106 rfl (by kernel_rfl) rfl
    case o9 =>
     intro f w2 hG hp hl
     have hE : Ext wr w2 := hG
     have hS := hE.size
     have q40 : f 0 = .func (.func 121) #[] #[] := tellV hp 0 0 rfl rfl (fun h => by cases h)
     have q44 : f 4 = .agg #[.int .i64 x.c, .bool x.b, .slice x.a1 x.n1 x.c1, .slice x.a2 x.n2 x.c2] := tellV hp 1 4 rfl rfl (fun h => by cases h)
     have q48 : f 8 = .agg #[.int .i64 y.c, .bool y.b, .slice y.a1 y.n1 y.c1, .slice y.a2 y.n2 y.c2] := tellV hp 2 8 rfl rfl (fun h => by cases h)
     change OpGoal _ _ _ f w2 Ext _
     refine og_callv (P := Try.prog) _ _ _ _ #[f 4, f 8] Try.func121 (by kernel_rfl) (by kernel_rfl) rfl rfl q40 (by kernel_rfl) ?_
     rw [q44, q48]
     refine (cmpT_calls x y _).mono ?_
     rintro e w' ⟨z, rfl, h1, h2⟩
     exact ⟨_, rfl, h2, z, rfl, h1⟩
    case o10 =>
     intro f w2 hG hp hl
     have hE : Ext wr w2 := hG
     have hS := hE.size
     have q49 := tellV hp 0 9 rfl rfl (fun _ => hE)
     obtain ⟨z, hz, hzz⟩ := q49
     simp only [OpGoal]
     go_simp
     exact ⟨_, rfl, Ext.refl _, congrArg Value.bool (by first | (rw [HR.out]; done) | (rw [HR.out]; exact decide_eq_decide.2 hzz))⟩
   ·intro f w2 hG hp
    have hE : Ext wr w2 := ChgS.nil hG
    have q50 : f 10 = .bool r := endV hp 10 (by decide) rfl (fun h => by cases h)
    try simp only [q50]
    clear hp
    cases r with
    | true =>
     obtain ⟨h1, hh1⟩ : ∃ h1 : Nat, h1 = h + 1 := ⟨_, rfl⟩
     have hh3 : (h : Int) + 1 = (h1 : Int) := by omega
     have HH := Lib.hid hh1
     clear hh1
     go_wp2
     go_roundw
     case rel =>
      refine ⟨h1, j, rfl, rfl, by omega, by omega, hjb, Lib.hid ⟨.inr ⟨x, ?_, ?_⟩, hF.out.2⟩, hex.trans hE⟩
      ·have := HX.out.2.2
       rw [show h1 - m - 1 = h - m by have := HH.out; omega]
       exact this
      ·exact of_decide_eq_true HR.out.symm
     case measure => simp [intOf]; omega
    | false =>
     go_wp2
     go_roundw
     case rel =>
      refine ⟨i, h, rfl, rfl, hmi, hih, by omega, Lib.hid ⟨hF.out.1, .inr ⟨x, HX.out.2.2, ?_⟩⟩, hex.trans hE⟩
      have := of_decide_eq_false HR.out.symm
      show y.c ≤ x.c
      omega
     case measure => simp [intOf]; omega
set_option maxHeartbeats 8000000 in
theorem symMerge_last (n cap g : Nat) (rest : List Value) (A L S : List TmC) (y : TmC) (w : World) (a m b : Nat) (hn : n = (A ++ L ++ [y] ++ S).length) (hN : n ≤ 35184372088832) (ha : a = A.length) (hm : m = a + L.length) (hb : b = m + 1) (hL1 : 1 < L.length) (hL : Ris tkey L) (hH : HoldT g rest w (A ++ L ++ [y] ++ S)) :
  Calls Try.prog 142 #[.slice (some ⟨g, 0, none⟩) n cap, .int .i64 (a : Int), .int .i64 (m : Int), .int .i64 (b : Int), .func (.func 121) #[] #[]] w fun e w' => e = .returned (.tuple #[]) ∧ Chg g w w' ∧ ∃ M, M.Perm (L ++ [y]) ∧ Ris tkey M ∧ HoldT g rest w' (A ++ M ++ S) := by
 simp only [List.length_append, List.length_cons, List.length_nil] at hn
 have hbn : b ≤ n := by omega
 have hmn : m < n := by omega
 have ham : a ≤ m := by omega
 have hma : ¬ (m : Int) - (a : Int) = 1 := by omega
 have hbm : (b : Int) - (m : Int) = 1 := by omega
 have Hl := Lib.hid (And.intro hn (And.intro ha hm))
 have HL0 := Lib.hid hL
 have Hd := Lib.hid (show HoldT g rest w ((A ++ L) ++ y :: S) by simpa [List.append_assoc] using hH)
 clear hn ha hm hb hL1 hL hH
 go_enter Try.func142, Try.ntmps142
 go_wp2_with fail
 go_loopw [14, 15] (fun s14 s15 wr => ∃ (i j : Nat), s14 = .int .i64 (i : Int) ∧ s15 = .int .i64 (j : Int) ∧ a ≤ i ∧ i ≤ j ∧ j ≤ m ∧ Hid ((i = a ∨ ∃ x, L[i - a - 1]? = some x ∧ tkey x ≤ tkey y) ∧ (j = m ∨ ∃ x, L[j - a]? = some x ∧ tkey y ≤ tkey x)) ∧ Ext w wr) (fun s14 s15 _ => (intOf s15 - intOf s14).toNat)
 case atStart => exact ⟨a, m, rfl, rfl, Nat.le_refl _, ham, Nat.le_refl _, Lib.hid ⟨.inl rfl, .inl rfl⟩, Ext.refl _⟩
 case round =>
  obtain ⟨i, j, rfl, rfl, hai, hij, hjm, hF, hex⟩ := hrel
  rcases Nat.eq_or_lt_of_le hij with he | hlt
  ·subst he
   obtain ⟨d, hd⟩ : ∃ d, d = i - a := ⟨_, rfl⟩
   have HP : Hid (Ris tkey (L.take d ++ [y] ++ L.drop d) ∧ (L.take d ++ [y] ++ L.drop d).Perm (L ++ [y])) := by
    obtain ⟨h1, h2⟩ := hF.out
    obtain ⟨l1, l2, l3⟩ := Hl.out
    subst hd
    refine Lib.hid ⟨putin HL0.out (i - a) ?_ ?_, putin_perm (i - a)⟩
    ·rcases h1 with h1 | ⟨x, h1, h3⟩
     ·exact .inl (by omega)
     ·exact .inr ⟨x, h1, h3⟩
    ·rcases h2 with h2 | ⟨x, h2, h3⟩
     ·exact .inl (by omega)
     ·exact .inr ⟨x, h2, h3⟩
   have HIA := Lib.hid (show i = a + d by omega)
   have HdL := Lib.hid (show d ≤ L.length by have := Hl.out.2.2; omega)
   have HD := Lib.hid (show HoldT g rest wr ((A ++ L) ++ y :: S) from Hd.out.ext hex)
   obtain ⟨wo, hwo⟩ : ∃ wo, wo = wr := ⟨wr, rfl⟩
   subst hwo
   clear hF hd
   go_wp2_with fail
   go_loopw [17] (fun s17 wq => ∃ (t q : Nat), s17 = .int .i64 (q : Int) ∧ Hid (q = a + t) ∧ q ≤ m ∧ i ≤ q ∧ d ≤ t ∧ t ≤ m ∧ Hid (t ≤ L.length ∧ HoldT g rest wq ((A ++ L.take t) ++ y :: (L.drop t ++ S))) ∧ Chg g wo wq) (fun s17 _ => (intOf s17).toNat)
   case atStart => exact ⟨L.length, m, rfl, Lib.hid Hl.out.2.2, Nat.le_refl _, hjm, HdL.out, by have := Hl.out.2.2; omega, Lib.hid ⟨Nat.le_refl _, by simpa using HD.out⟩, Chg.refl _ _⟩
   case round =>
    obtain ⟨t, q, rfl, HQ, hqm, hiq, htd, htm, hHT, hch⟩ := hrel
    rcases Nat.eq_or_lt_of_le htd with he | hlt
    ·subst he
     have hqk : ¬ (i : Int) < (q : Int) := by have := HIA.out; have := HQ.out; omega
     go_wp2
     refine bodyPost_ret (results_none (by kernel_rfl) _ _ _) rfl ?_
     exact ⟨rfl, (hex.chg g).trans hch, _, HP.out.2, HP.out.1, by simpa [List.append_assoc] using hHT.out.2⟩
    ·obtain ⟨t0, ht0⟩ : ∃ t0, t = t0 + 1 := ⟨t - 1, by omega⟩
     subst ht0
     obtain ⟨x, HX⟩ : ∃ x, Hid (L.take (t0 + 1) = L.take t0 ++ [x] ∧ L.drop t0 = x :: L.drop (t0 + 1)) := by
      have htl : t0 < L.length := by have := hHT.out.1; omega
      exact ⟨L[t0], Lib.hid ⟨by rw [List.take_add_one, List.getElem?_eq_getElem htl]; rfl, List.drop_eq_getElem_cons htl⟩⟩
     have H5 : Hid (HoldT g rest wr ((A ++ L.take t0) ++ x :: ([] ++ y :: (L.drop (t0 + 1) ++ S)))) := by
      have := hHT.out.2
      rw [HX.out.1] at this
      exact Lib.hid (by simpa [List.append_assoc] using this)
     obtain ⟨p, hp⟩ : ∃ p, q = p + 1 := ⟨q - 1, by have := HQ.out; omega⟩
     have HLP : Hid (p = (A ++ L.take t0).length ∧ q = (A ++ L.take t0).length + 1 + ([] : List TmC).length ∧ (((A ++ L.take t0) ++ x :: ([] ++ y :: (L.drop (t0 + 1) ++ S))).map tmv).length = n) := by
      obtain ⟨l1, l2, l3⟩ := Hl.out
      have := HQ.out
      have := hHT.out.1
      simp only [List.length_map, List.length_append, List.length_cons, List.length_nil, List.length_take, List.length_drop]
      exact Lib.hid ⟨by omega, by omega, by omega⟩
     have HCk := Lib.hid (H5.out.at (get_at HLP.out.1))
     have HCi := Lib.hid (H5.out.at (get_at2 HLP.out.2.1))
     have hqk : (i : Int) < (q : Int) := by have := HIA.out; have := HQ.out; omega
     have hp1 : (q : Int) - 1 = (p : Int) := by omega
     have hqn : q < n := by omega
     have hpn : p < n := by omega
     have hqn' : (q : Int) < (n : Int) := by omega
     have hpn' : (p : Int) < (n : Int) := by omega
     have hqp : q ≠ p := by omega
     have HPQ := Lib.hid hp
     clear hp hHT
     go_wp2_with fail
     refine wp_region_swpS g n q p 15 17 rest (((A ++ L.take t0) ++ x :: ([] ++ y :: (L.drop (t0 + 1) ++ S))).map tmv) (.agg #[.int .i64 y.c, .bool y.b, .slice y.a1 y.n1 y.c1, .slice y.a2 y.n2 y.c2]) (.agg #[.int .i64 x.c, .bool x.b, .slice x.a1 x.n1 x.c1, .slice x.a2 x.n2 x.c2]) [PP.val (.slice (some ⟨g, 0, none⟩) n cap), PP.val (.int .i64 (q : Int)), PP.val (.slice (some ⟨g, 0, none⟩) n cap), PP.val (.int .i64 (q : Int)), PP.val (.int .i64 (p : Int)), PP.val (.slice (some ⟨g, 0, none⟩) n cap), PP.val (.int .i64 (q : Int)), PP.val (.int .i64 (p : Int)), PP.val (.pointer (some ⟨g, p * 4, none⟩)), PP.val (.agg #[.int .i64 x.c, .bool x.b, .slice x.a1 x.n1 x.c1, .slice x.a2 x.n2 x.c2]), PP.val (.slice (some ⟨g, 0, none⟩) n cap), PP.val (.int .i64 (q : Int)), PP.val (.pointer (some ⟨g, q * 4, none⟩)), PP.val (.agg #[.int .i64 y.c, .bool y.b, .slice y.a1 y.n1 y.c1, .slice y.a2 y.n2 y.c2]), PP.val (.pointer (some ⟨g, q * 4, none⟩)), PP.any, PP.val (.pointer (some ⟨g, p * 4, none⟩)), PP.any] [] [15, 14, 13, 12, 11, 10, 9, 8, 7, 6, 5, 1, 0] (by kernel_rfl) (by kernel_rfl) (fun f => (by simp only [fillR, fillL, List.setIfInBounds_toArray, List.set_cons_succ, List.set_cons_zero, Nat.reduceAdd]; rfl)) hqp (by decide) HLP.out.2.2 H5.out hqn hpn (by intro p hp; simp only [List.mem_cons, List.not_mem_nil, or_false] at hp; rcases hp with rfl | rfl | rfl | rfl | rfl | rfl | rfl | rfl | rfl | rfl | rfl | rfl | rfl | rfl | rfl | rfl | rfl | rfl <;> rfl) ?_ ?_ (by decide) (by decide)
     ·refine ⟨?o0, ?o1, ?o2, ?o3, ?o4, ?o5, ?o6, ?o7, ?o8, ?o9, ?o10, ?o11, ?o12, ?o13, ?o14, ?o15, ?o16, ?o17, trivial⟩
      case o0 =>
       intro f w2 hG hp hl
       have hE : Ext wr w2 := hG
       have hS := hE.size
       simp only [OpGoal]
       go_simp
       exact ⟨_, rfl, Ext.refl _, rfl⟩
      case o1 =>
       intro f w2 hG hp hl
       have hE : Ext wr w2 := hG
       have hS := hE.size
       simp only [OpGoal]
       go_simp
       exact ⟨_, rfl, Ext.refl _, rfl⟩
      case o2 =>
       intro f w2 hG hp hl
       have hS : wr.heap.size ≤ w2.heap.size := hG.2.2.2.1
       simp only [OpGoal]
       go_simp
       exact ⟨_, rfl, Ext.refl _, rfl⟩
      case o3 =>
       intro f w2 hG hp hl
       have hS : wr.heap.size ≤ w2.heap.size := hG.2.2.2.1
       simp only [OpGoal]
       go_simp
       exact ⟨_, rfl, Ext.refl _, rfl⟩
      case o4 =>
       intro f w2 hG hp hl
       have hS : wr.heap.size ≤ w2.heap.size := hG.2.2.2.1
       have q116 : f 3 = .int .i64 (q : Int) := tellM hp 0 3 rfl rfl
       simp only [OpGoal]
       go_simp
       first
       | exact ⟨_, rfl, Ext.refl _, rfl⟩
       | exact ⟨_, rfl, Ext.refl _, congrArg (Value.int .i64) (Go.IntWalk.i64_in _ ⟨by omega, by omega⟩)⟩
      case o5 =>
       intro f w2 hG hp hl
       have hE : Ext wr w2 := hG
       have hS := hE.size
       simp only [OpGoal]
       go_simp
       exact ⟨_, rfl, Ext.refl _, rfl⟩
      case o6 =>
       intro f w2 hG hp hl
       have hE : Ext wr w2 := hG
       have hS := hE.size
       simp only [OpGoal]
       go_simp
       exact ⟨_, rfl, Ext.refl _, rfl⟩
      case o7 =>
       intro f w2 hG hp hl
       have hE : Ext wr w2 := hG
       have hS := hE.size
       have q119 : f 6 = .int .i64 (q : Int) := tellM hp 0 6 rfl rfl
       simp only [OpGoal]
       go_simp
       first
       | exact ⟨_, rfl, Ext.refl _, rfl⟩
       | exact ⟨_, rfl, Ext.refl _, congrArg (Value.int .i64) (Go.IntWalk.i64_in _ ⟨by omega, by omega⟩)⟩
      case o8 =>
       intro f w2 hG hp hl
       have hE : Ext wr w2 := hG
       have hS := hE.size
       have q118 : f 5 = .slice (some ⟨g, 0, none⟩) n cap := tellM hp 0 5 rfl rfl
       have q120 : f 7 = .int .i64 (p : Int) := tellM hp 1 7 rfl rfl
       simp only [OpGoal]
       go_simp
       exact ⟨_, rfl, Ext.refl _, rfl⟩
      case o9 =>
       intro f w2 hG hp hl
       have hE : Ext wr w2 := hG
       have hS := hE.size
       have q121 : f 8 = .pointer (some ⟨g, p * 4, none⟩) := tellM hp 0 8 rfl rfl
       change OpGoal _ _ _ f w2 Ext _
       exact og_loadAt (P := Try.prog) _ _ g (p * 4) _ _ rfl rfl q121 (fun j v h => HCk.out _ hE j v h) Try.underlying106 rfl (by kernel_rfl) rfl
      case o10 =>
       intro f w2 hG hp hl
       have hE : Ext wr w2 := hG
       have hS := hE.size
       simp only [OpGoal]
       go_simp
       exact ⟨_, rfl, Ext.refl _, rfl⟩
      case o11 =>
       intro f w2 hG hp hl
       have hE : Ext wr w2 := hG
       have hS := hE.size
       simp only [OpGoal]
       go_simp
       exact ⟨_, rfl, Ext.refl _, rfl⟩
      case o12 =>
       intro f w2 hG hp hl
       have hE : Ext wr w2 := hG
       have hS := hE.size
       have q123 : f 10 = .slice (some ⟨g, 0, none⟩) n cap := tellM hp 0 10 rfl rfl
       have q124 : f 11 = .int .i64 (q : Int) := tellM hp 1 11 rfl rfl
       simp only [OpGoal]
       go_simp
       exact ⟨_, rfl, Ext.refl _, rfl⟩
      case o13 =>
       intro f w2 hG hp hl
       have hE : Ext wr w2 := hG
       have hS := hE.size
       have q125 : f 12 = .pointer (some ⟨g, q * 4, none⟩) := tellM hp 0 12 rfl rfl
       change OpGoal _ _ _ f w2 Ext _
       exact og_loadAt (P := Try.prog) _ _ g (q * 4) _ _ rfl rfl q125 (fun j v h => HCi.out _ hE j v h) Try.underlying106 rfl (by kernel_rfl) rfl
      case o14 =>
       intro f w2 hG hp hl
       have hE : Ext wr w2 := hG
       have hS := hE.size
       have q113 : f 0 = .slice (some ⟨g, 0, none⟩) n cap := tellM hp 0 0 rfl rfl
       have q114 : f 1 = .int .i64 (q : Int) := tellM hp 1 1 rfl rfl
       simp only [OpGoal]
       go_simp
       exact ⟨_, rfl, Ext.refl _, rfl⟩
      case o15 =>
       intro f w2 hG hp hl
       have hE : Ext wr w2 := hG
       have hS := hE.size
       have q127 : f 14 = .pointer (some ⟨g, q * 4, none⟩) := tellM hp 0 14 rfl rfl
       have q122 : f 9 = .agg #[.int .i64 x.c, .bool x.b, .slice x.a1 x.n1 x.c1, .slice x.a2 x.n2 x.c2] := tellM hp 1 9 rfl rfl
       intro hI hU
       exact og_stS (P := Try.prog) g n _ _ 15 q _ _ _ _ _ _ rfl rfl q127 q122 hqn (by kernel_rfl) (strN_tmv1 x) hI
      case o16 =>
       intro f w2 hG hp hl
       have hS : wr.heap.size ≤ w2.heap.size := hG.2.2.2.1
       have q115 : f 2 = .slice (some ⟨g, 0, none⟩) n cap := tellM hp 0 2 rfl rfl
       have q117 : f 4 = .int .i64 (p : Int) := tellM hp 1 4 rfl rfl
       simp only [OpGoal]
       go_simp
       exact ⟨_, rfl, Ext.refl _, rfl⟩
      case o17 =>
       intro f w2 hG hp hl
       have hS : wr.heap.size ≤ w2.heap.size := hG.2.2.2.1
       have q128 : f 16 = .pointer (some ⟨g, p * 4, none⟩) := tellM hp 0 16 rfl rfl
       have q126 : f 13 = .agg #[.int .i64 y.c, .bool y.b, .slice y.a1 y.n1 y.c1, .slice y.a2 y.n2 y.c2] := tellM hp 1 13 rfl rfl
       intro hI hU
       exact og_stS (P := Try.prog) g n _ _ 17 p _ _ _ _ _ _ rfl rfl q128 q126 hpn (by kernel_rfl) (strN_tmv1 y) hI
     ·intro f w2 hC hW hp
      clear hp
      have HF : Hid (HoldT g rest w2 ((A ++ L.take t0) ++ y :: ([] ++ x :: (L.drop (t0 + 1) ++ S)))) := Lib.hid (HoldT.swapped' HLP.out.1 HLP.out.2.1 hW)
      clear hW
      go_wp2
      go_roundw
      case rel =>
       refine ⟨t0, p, rfl, Lib.hid (by have := HQ.out; have := HPQ.out; omega), by have := HPQ.out; omega, by omega, by omega, by omega, Lib.hid ⟨by have := congrArg List.length HX.out.2; simp only [List.length_drop, List.length_cons] at this; omega, ?_⟩, hch.trans hC⟩
       rw [HX.out.2]
       simpa [List.append_assoc] using HF.out
      case measure => have := HPQ.out; simp [intOf]; omega
  ·obtain ⟨h, hh⟩ : ∃ h, h = (i + j) / 2 := ⟨_, rfl⟩
   obtain ⟨L1, x, L2, HX⟩ : ∃ L1 x L2, Hid (L = L1 ++ x :: L2 ∧ L1.length = h - a ∧ L[h - a]? = some x) := by
    obtain ⟨L1, x, L2, h1, h2, h3⟩ := split_at (R := L) (h := h - a) (by have := Hl.out.2.2; omega)
    exact ⟨L1, x, L2, Lib.hid ⟨h1, h2, h3⟩⟩
   have H5 : Hid (HoldT g rest wr ((A ++ L1) ++ x :: (L2 ++ y :: S))) := by
    have := Hd.out.ext hex
    rw [HX.out.1] at this
    exact Lib.hid (by simpa [List.append_assoc] using this)
   have HLM : Hid (h = (A ++ L1).length ∧ m = (A ++ L1).length + 1 + L2.length) := by
    obtain ⟨l1, l2, l3⟩ := Hl.out
    obtain ⟨k1, k2, -⟩ := HX.out
    rw [k1] at l3
    simp only [List.length_append, List.length_cons] at l3 ⊢
    exact Lib.hid ⟨by omega, by omega⟩
   have HCh := Lib.hid (H5.out.at (get_at HLM.out.1))
   have HCm := Lib.hid (H5.out.at (get_at2 HLM.out.2))
   obtain ⟨r, hr⟩ : ∃ r : Bool, r = decide (y.c < x.c) := ⟨_, rfl⟩
   have HR := Lib.hid hr
   have hij' : (i : Int) < (j : Int) := by omega
   have hhn : h < n := by omega
   have hhn' : (h : Int) < (n : Int) := by omega
   have hmn' : (m : Int) < (n : Int) := by omega
   have hh2 : ((i : Int) + (j : Int)) / 2 = (h : Int) := by omega
   have him : h < j := by omega
   have hih : i ≤ h := by omega
   clear hr hh
   go_wp2_with fail
   refine wp_region_puts [] [PP.val (.func (.func 121) #[] #[]), PP.val (.slice (some ⟨g, 0, none⟩) n cap), PP.val (.int .i64 (m : Int)), PP.val (.pointer (some ⟨g, m * 4, none⟩)), PP.val (.agg #[.int .i64 y.c, .bool y.b, .slice y.a1 y.n1 y.c1, .slice y.a2 y.n2 y.c2]), PP.val (.slice (some ⟨g, 0, none⟩) n cap), PP.val (.int .i64 (h : Int)), PP.val (.pointer (some ⟨g, h * 4, none⟩)), PP.val (.agg #[.int .i64 x.c, .bool x.b, .slice x.a1 x.n1 x.c1, .slice x.a2 x.n2 x.c2]), PP.pred (fun v => ∃ z : Int, v = .int .i64 z ∧ (z < 0 ↔ y.c < x.c)), PP.val (.bool r), PP.val (.bool (!r))] [] [0, 1, 2, 3, 4, 5, 6, 7, 8, 9, 10, 11]
    (by kernel_rfl) (by kernel_rfl) (fun f => (by simp only [fillR, fillL, List.setIfInBounds_toArray, List.set_cons_succ, List.set_cons_zero, Nat.reduceAdd]; rfl)) ?_ ?_ ?_ ?_ ?_
   ·intro x hx; cases hx
   ·intro x hx; cases hx
   ·intro x hx; cases hx
   ·refine ⟨?o0, ?o1, ?o2, ?o3, ?o4, ?o5, ?o6, ?o7, ?o8, ?o9, ?o10, ?o11, trivial⟩
    case o0 =>
     intro f w2 hG hp hl
     have hE : Ext wr w2 := hG
     have hS := hE.size
     simp only [OpGoal]
     go_simp
     exact ⟨_, rfl, Ext.refl _, rfl⟩
    case o1 =>
     intro f w2 hG hp hl
     have hE : Ext wr w2 := hG
     have hS := hE.size
     simp only [OpGoal]
     go_simp
     exact ⟨_, rfl, Ext.refl _, rfl⟩
    case o2 =>
     intro f w2 hG hp hl
     have hE : Ext wr w2 := hG
     have hS := hE.size
     simp only [OpGoal]
     go_simp
     exact ⟨_, rfl, Ext.refl _, rfl⟩
    case o3 =>
     intro f w2 hG hp hl
     have hE : Ext wr w2 := hG
     have hS := hE.size
     have q93 : f 1 = .slice (some ⟨g, 0, none⟩) n cap := tellV hp 0 1 rfl rfl (fun h => by cases h)
     have q94 : f 2 = .int .i64 (m : Int) := tellV hp 1 2 rfl rfl (fun h => by cases h)
     simp only [OpGoal]
     go_simp
     exact ⟨_, rfl, Ext.refl _, rfl⟩
    case o4 =>
     intro f w2 hG hp hl
     have hE : Ext wr w2 := hG
     have hS := hE.size
     have q95 : f 3 = .pointer (some ⟨g, m * 4, none⟩) := tellV hp 0 3 rfl rfl (fun h => by cases h)
     change OpGoal _ _ _ f w2 Ext _
     exact og_loadAt (P := Try.prog) _ _ g (m * 4) _ _ rfl rfl q95 (fun j v h => HCm.out _ hE j v h) Try.underlying106 rfl (by kernel_rfl) rfl
    case o5 =>
     intro f w2 hG hp hl
     have hE : Ext wr w2 := hG
     have hS := hE.size
     simp only [OpGoal]
     go_simp
     exact ⟨_, rfl, Ext.refl _, rfl⟩
    case o6 =>
     intro f w2 hG hp hl
     have hE : Ext wr w2 := hG
     have hS := hE.size
     simp only [OpGoal]
     go_simp
     exact ⟨_, rfl, Ext.refl _, rfl⟩
    case o7 =>
     intro f w2 hG hp hl
     have hE : Ext wr w2 := hG
     have hS := hE.size
     have q97 : f 5 = .slice (some ⟨g, 0, none⟩) n cap := tellV hp 0 5 rfl rfl (fun h => by cases h)
     have q98 : f 6 = .int .i64 (h : Int) := tellV hp 1 6 rfl rfl (fun h => by cases h)
     simp only [OpGoal]
     go_simp
     exact ⟨_, rfl, Ext.refl _, rfl⟩
    case o8 =>
     intro f w2 hG hp hl
     have hE : Ext wr w2 := hG
     have hS := hE.size
     have q99 : f 7 = .pointer (some ⟨g, h * 4, none⟩) := tellV hp 0 7 rfl rfl (fun h => by cases h)
     change OpGoal _ _ _ f w2 Ext _
     exact og_loadAt (P := Try.prog) _ _ g (h * 4) _ _ rfl rfl q99 (fun j v h => HCh.out _ hE j v h) Try.underlying106 rfl (by kernel_rfl) rfl
    case o9 =>
     intro f w2 hG hp hl
     have hE : Ext wr w2 := hG
     have hS := hE.size
     have q92 : f 0 = .func (.func 121) #[] #[] := tellV hp 0 0 rfl rfl (fun h => by cases h)
     have q96 : f 4 = .agg #[.int .i64 y.c, .bool y.b, .slice y.a1 y.n1 y.c1, .slice y.a2 y.n2 y.c2] := tellV hp 1 4 rfl rfl (fun h => by cases h)
     have q100 : f 8 = .agg #[.int .i64 x.c, .bool x.b, .slice x.a1 x.n1 x.c1, .slice x.a2 x.n2 x.c2] := tellV hp 2 8 rfl rfl (fun h => by cases h)
     change OpGoal _ _ _ f w2 Ext _
     refine og_callv (P := Try.prog) _ _ _ _ #[f 4, f 8] Try.func121 (by kernel_rfl) (by kernel_rfl) rfl rfl q92 (by kernel_rfl) ?_
     rw [q96, q100]
     refine (cmpT_calls y x _).mono ?_
     rintro e w' ⟨z, rfl, h1, h2⟩
     exact ⟨_, rfl, h2, z, rfl, h1⟩
    case o10 =>
     intro f w2 hG hp hl
     have hE : Ext wr w2 := hG
     have hS := hE.size
     have q101 := tellV hp 0 9 rfl rfl (fun _ => hE)
     obtain ⟨z, hz, hzz⟩ := q101
     simp only [OpGoal]
     go_simp
     exact ⟨_, rfl, Ext.refl _, congrArg Value.bool (by first | (rw [HR.out]; done) | (rw [HR.out]; exact decide_eq_decide.2 hzz))⟩
    case o11 =>
     intro f w2 hG hp hl
     have hE : Ext wr w2 := hG
     have hS := hE.size
     have q102 : f 10 = .bool r := tellV hp 0 10 rfl rfl (fun h => by cases h)
     simp only [OpGoal]
     go_simp
     exact ⟨_, rfl, Ext.refl _, rfl⟩
   ·intro f w2 hG hp
    have hE : Ext wr w2 := ChgS.nil hG
    have q103 : f 11 = .bool (!r) := endV hp 11 (by decide) rfl (fun h => by cases h)
    try simp only [q103]
    clear hp
    cases r with
    | true =>
     go_wp2
     go_roundw
     case rel =>
      refine ⟨i, h, rfl, rfl, hai, hih, by omega, Lib.hid ⟨hF.out.1, .inr ⟨x, HX.out.2.2, ?_⟩⟩, hex.trans hE⟩
      have := of_decide_eq_true HR.out.symm
      show y.c ≤ x.c
      omega
     case measure => simp [intOf]; omega
    | false =>
     obtain ⟨h1, hh1⟩ : ∃ h1 : Nat, h1 = h + 1 := ⟨_, rfl⟩
     have hh3 : (h : Int) + 1 = (h1 : Int) := by omega
     have HH := Lib.hid hh1
     clear hh1
     go_wp2
     go_roundw
     case rel =>
      refine ⟨h1, j, rfl, rfl, by omega, by omega, hjm, Lib.hid ⟨.inr ⟨x, ?_, ?_⟩, hF.out.2⟩, hex.trans hE⟩
      ·have := HX.out.2.2
       rw [show h1 - a - 1 = h - a by have := HH.out; omega]
       exact this
      ·have := of_decide_eq_false HR.out.symm
       show x.c ≤ y.c
       omega
     case measure => simp [intOf]; omega
end Go.Proofs.Ytdmjgjcljbogiaa
/-
 Terms in a list of one's own: two ranges merged.
-/
namespace Go.Proofs.Ytdmjgjcljbogiaa
set_option maxRecDepth 100000
set_option maxHeartbeats 1000000
open Go.RowKit
set_option linter.unusedVariables false
set_option linter.unusedSimpArgs false
theorem ris_app_nil {L R : List TmC} (hL : Ris tkey L) (hR : Ris tkey R) (h : L.length = 0 ∨ R.length = 0) : Ris tkey (L ++ R) := by
 rcases h with h | h
 ·rw [List.eq_nil_of_length_eq_zero h]; exact hR
 ·rw [List.eq_nil_of_length_eq_zero h, List.append_nil]; exact hL
theorem parted {L R : List TmC} {a m b s e mid nn s0 r0 : Nat} (hL : Ris tkey L) (hR : Ris tkey R) (hm : m = a + L.length) (hb : b = m + R.length) (hmid : mid = (a + b) / 2) (hnn : nn = mid + m) (he : e + s = nn) (has : a ≤ s) (hsm : s ≤ m) (hsd : s ≤ mid) (heb : e ≤ b)
  (h0 : s0 = a ∨ s0 + b = nn) (h1 : r0 = m ∨ r0 = mid)
  (k1 : s = s0 ∨ ∃ x y, L[s - 1 - a]? = some x ∧ R[mid - s]? = some y ∧ tkey x ≤ tkey y) (k2 : s = r0 ∨ ∃ x y, R[mid - 1 - s]? = some x ∧ L[s - a]? = some y ∧ tkey x ≤ tkey y) :
  ∃ L1 L2 R1 R2, L = L1 ++ L2 ∧ R = R1 ++ R2 ∧ L1.length + a = s ∧ R1.length + m = e ∧ L2.length + s = m ∧ R2.length + e = b ∧ Ris tkey L1 ∧ Ris tkey L2 ∧ Ris tkey R1 ∧ Ris tkey R2 ∧
   ∀ M1 M2 : List TmC, M1.Perm (L1 ++ R1) → M2.Perm (L2 ++ R2) → Ris tkey M1 → Ris tkey M2 → (M1 ++ M2).Perm (L ++ R) ∧ Ris tkey (M1 ++ M2) := by
 have hem : e = m + (mid - s) := by omega
 refine ⟨L.take (s - a), L.drop (s - a), R.take (mid - s), R.drop (mid - s), (List.take_append_drop _ _).symm, (List.take_append_drop _ _).symm, by rw [List.length_take]; omega, by rw [List.length_take]; omega, by rw [List.length_drop]; omega, by rw [List.length_drop]; omega,
  hL.take _, hL.drop _, hR.take _, hR.drop _, fun M1 M2 p1 p2 s1 s2 => merged hL hR (s - a) (mid - s) ?_ ?_ p1 p2 s1 s2⟩
 ·rcases k1 with k1 | ⟨x, y, h2, h3, h4⟩
  ·rcases h0 with h0 | h0
   ·exact .inl (by omega)
   ·exact .inr (.inl (by omega))
  ·exact .inr (.inr ⟨x, y, by rw [show s - a - 1 = s - 1 - a by omega]; exact h2, h3, h4⟩)
 ·rcases k2 with k2 | ⟨x, y, h2, h3, h4⟩
  ·rcases h1 with h1 | h1
   ·exact .inr (.inl (by omega))
   ·exact .inl (by omega)
  ·exact .inr (.inr ⟨x, y, by rw [show mid - s - 1 = mid - 1 - s by omega]; exact h2, h3, h4⟩)
set_option maxHeartbeats 16000000 in
theorem symMerge_gt (n cap g : Nat) (rest : List Value) (dd : Nat) (ih : ∀ (A L R S : List TmC) (w : World) (a m b : Nat), L.length + R.length ≤ dd → n = (A ++ L ++ R ++ S).length → a = A.length → m = a + L.length → b = m + R.length → 0 < L.length → 0 < R.length → Ris tkey L → Ris tkey R → HoldT g rest w (A ++ L ++ R ++ S) →
   Calls Try.prog 142 #[.slice (some ⟨g, 0, none⟩) n cap, .int .i64 (a : Int), .int .i64 (m : Int), .int .i64 (b : Int), .func (.func 121) #[] #[]] w fun e w' => e = .returned (.tuple #[]) ∧ Chg g w w' ∧ ∃ M, M.Perm (L ++ R) ∧ Ris tkey M ∧ HoldT g rest w' (A ++ M ++ S))
  (A L R S : List TmC) (w : World) (a m b mid : Nat) (hd : L.length + R.length ≤ dd + 1) (hn : n = (A ++ L ++ R ++ S).length) (hN : n ≤ 35184372088832) (ha : a = A.length) (hm : m = a + L.length) (hb : b = m + R.length) (hL1 : 1 < L.length) (hR1 : 1 < R.length) (hL : Ris tkey L) (hR : Ris tkey R) (hH : HoldT g rest w (A ++ L ++ R ++ S))
  (hmid : mid = (a + b) / 2) (hgt : mid < m) :
  Calls Try.prog 142 #[.slice (some ⟨g, 0, none⟩) n cap, .int .i64 (a : Int), .int .i64 (m : Int), .int .i64 (b : Int), .func (.func 121) #[] #[]] w fun e w' => e = .returned (.tuple #[]) ∧ Chg g w w' ∧ ∃ M, M.Perm (L ++ R) ∧ Ris tkey M ∧ HoldT g rest w' (A ++ M ++ S) := by
 simp only [List.length_append] at hn
 have hbn : b ≤ n := by omega
 have hmn : m < n := by omega
 have hma : ¬ (m : Int) - (a : Int) = 1 := by omega
 have hbm : ¬ (b : Int) - (m : Int) = 1 := by omega
 obtain ⟨nn, hnn⟩ : ∃ nn, nn = mid + m := ⟨_, rfl⟩
 obtain ⟨p, hp⟩ : ∃ p, p + 1 = nn := ⟨nn - 1, by omega⟩
 obtain ⟨s0, hs0⟩ : ∃ s0, s0 + b = nn := ⟨nn - b, by omega⟩
 obtain ⟨r0, hr0⟩ : ∃ r0, r0 = mid := ⟨_, rfl⟩
 have HA := Lib.hid (show n = A.length + L.length + R.length + S.length ∧ a = A.length ∧ m = a + L.length ∧ b = m + R.length ∧ mid = (a + b) / 2 ∧ nn = mid + m ∧ p + 1 = nn ∧ (s0 + b = nn) ∧ r0 = mid ∧ a ≤ s0 ∧ s0 < r0 ∧ r0 ≤ m ∧ r0 ≤ mid ∧ nn ≤ s0 + b ∧ 1 < L.length ∧ 1 < R.length ∧ L.length + R.length ≤ dd + 1 ∧ (mid < m) by omega)
 have hmid1 : ((a : Int) + (b : Int)) / 2 = (mid : Int) := by omega
 have hnn1 : (mid : Int) + (m : Int) = (nn : Int) := by omega
 have hp1 : (nn : Int) - 1 = (p : Int) := by omega
 have hgt1 : (mid : Int) < (m : Int) := by omega
 have hs1 : (nn : Int) - (b : Int) = (s0 : Int) := by omega
 have hab : a ≤ b := by omega
 have hmb : m ≤ b := by omega
 have ham : a ≤ m := by omega
 have hdn : mid < n := by omega
 have hnn2 : nn ≤ 70368744177664 := by omega
 have has0 : a ≤ s0 := by omega
 have hsr0 : s0 ≤ r0 := by omega
 have hrm0 : r0 ≤ m := by omega
 have HIH := Lib.hid ih
 have HLR := Lib.hid (And.intro hL hR)
 have Hd := Lib.hid hH
 clear hn ha hm hb hL1 hR1 hL hR hH hmid hnn hp hs0 hr0 ih hd hgt
 go_enter Try.func142, Try.ntmps142
 go_wp2_with fail
 go_loopw [20, 21] (fun s20 s21 wr => ∃ (s r : Nat), s20 = .int .i64 (s : Int) ∧ s21 = .int .i64 (r : Int) ∧ s0 ≤ s ∧ s ≤ r ∧ r ≤ r0 ∧ Hid ((s = s0 ∨ ∃ x y, L[s - 1 - a]? = some x ∧ R[mid - s]? = some y ∧ tkey x ≤ tkey y) ∧ (r = r0 ∨ ∃ x y, R[mid - 1 - r]? = some x ∧ L[r - a]? = some y ∧ tkey x ≤ tkey y)) ∧ Ext w wr) (fun s20 s21 _ => (intOf s21 - intOf s20).toNat)
 case atStart => exact ⟨s0, mid, rfl, rfl, Nat.le_refl _, by have := HA.out; omega, by have := HA.out; omega, Lib.hid ⟨.inl rfl, .inl (by have := HA.out; omega)⟩, Ext.refl _⟩
 case round =>
  obtain ⟨s, r, rfl, rfl, hs, hsr, hr, hF, hex⟩ := hrel
  rcases Nat.eq_or_lt_of_le hsr with he | hlt
  ·subst he
   obtain ⟨e, he⟩ : ∃ e, e + s = nn := ⟨nn - s, by have := HA.out; omega⟩
   obtain ⟨L1, L2, R1, R2, HB', HR', HMG'⟩ : ∃ L1 L2 R1 R2, Hid (L.length = L1.length + L2.length ∧ R.length = R1.length + R2.length ∧ L1.length + a = s ∧ R1.length + m = e ∧ L2.length + s = m ∧ R2.length + e = b ∧ e + s = nn ∧ s ≤ mid ∧ s ≤ m ∧ a ≤ s ∧ e ≤ b ∧ L = L1 ++ L2 ∧ R = R1 ++ R2) ∧ Hid (Ris tkey L1 ∧ Ris tkey L2 ∧ Ris tkey R1 ∧ Ris tkey R2) ∧
     Hid (∀ M1 M2 : List TmC, M1.Perm (L1 ++ R1) → M2.Perm (L2 ++ R2) → Ris tkey M1 → Ris tkey M2 → (M1 ++ M2).Perm (L ++ R) ∧ Ris tkey (M1 ++ M2)) := by
    have h0 := HA.out
    obtain ⟨h1, h2⟩ := hF.out
    obtain ⟨L1, L2, R1, R2, k1, k2, k3, k4, k5, k6, k7, k8, k9, k10, k11⟩ := parted (L := L) (R := R) (a := a) (m := m) (b := b) (s := s) (e := e) (mid := mid) (nn := nn) (s0 := s0) (r0 := r0) HLR.out.1 HLR.out.2 (by omega) (by omega) (by omega) (by omega) he (by omega) (by omega) (by omega) (by omega) (by omega) (by omega) h1 h2
    have k12 := congrArg List.length k1
    have k13 := congrArg List.length k2
    rw [List.length_append] at k12 k13
    exact ⟨L1, L2, R1, R2, Lib.hid ⟨k12, k13, k3, k4, k5, k6, he, by omega, by omega, by omega, by omega, k1, k2⟩, Lib.hid ⟨k7, k8, k9, k10⟩, Lib.hid k11⟩
   have HB := Lib.hid (show L.length = L1.length + L2.length ∧ R.length = R1.length + R2.length ∧ L1.length + a = s ∧ R1.length + m = e ∧ L2.length + s = m ∧ R2.length + e = b ∧ e + s = nn ∧ s ≤ mid ∧ s ≤ m ∧ a ≤ s ∧ e ≤ b by have := HB'.out; omega)
   have HR := HR'
   have HMG := HMG'
   have H0 := Lib.hid (show HoldT g rest wr (A ++ L1 ++ L2 ++ R1 ++ R2 ++ S) by
    have := Hd.out.ext hex
    rw [HB'.out.2.2.2.2.2.2.2.2.2.2.2.1, HB'.out.2.2.2.2.2.2.2.2.2.2.2.2] at this
    simpa [List.append_assoc] using this)
   have hes : (nn : Int) - (s : Int) = (e : Int) := by omega
   have hsm : s ≤ m := by have := HB.out; omega
   have hsd : s ≤ mid := by have := HB.out; omega
   have hab2 : a ≤ s := by have := HB.out; omega
   have heb2 : e ≤ b := by have := HB.out; omega
   clear he hF HB' HR' HMG'
   rcases Nat.eq_or_lt_of_le hsd with hsd1 | hsd1
   ·have HSD := Lib.hid hsd1
    clear hsd1
    have hq0 : (s : Int) < (m : Int) := by have := HA.out; have := HB.out; have := HSD.out; omega
    have hq1 : ¬ (m : Int) < (e : Int) := by have := HA.out; have := HB.out; have := HSD.out; omega
    have hq2 : (a : Int) < (s : Int) := by have := HA.out; have := HB.out; have := HSD.out; omega
    have hq3 : ¬ (s : Int) < (mid : Int) := by have := HA.out; have := HB.out; have := HSD.out; omega
    have hq4 : (mid : Int) < (e : Int) := by have := HA.out; have := HB.out; have := HSD.out; omega
    have hq5 : (e : Int) < (b : Int) := by have := HA.out; have := HB.out; have := HSD.out; omega
    have H1 := Lib.hid (show HoldT g rest wr (A ++ (L1 ++ R1) ++ (L2 ++ R2 ++ S)) by
     have h0 := H0.out
     have : L2.length = 0 ∨ R1.length = 0 := by have := HA.out; have := HB.out; have := HSD.out; omega
     rcases this with h | h
     ·rw [List.eq_nil_of_length_eq_zero h] at h0 ⊢
      simpa [List.append_assoc] using h0
     ·rw [List.eq_nil_of_length_eq_zero h] at h0 ⊢
      simpa [List.append_assoc] using h0)
    have hC1 : Chg g w wr := (hex.chg g)
    obtain ⟨M1, HM1⟩ : ∃ M1, Hid (M1.Perm (L1 ++ R1) ∧ Ris tkey M1 ∧ HoldT g rest wr (A ++ M1 ++ (L2 ++ R2 ++ S))) := ⟨L1 ++ R1, Lib.hid ⟨List.Perm.refl _, ris_app_nil HR.out.1 HR.out.2.2.1 (by have := HA.out; have := HB.out; have := HSD.out; omega), H1.out⟩⟩
    have hC3 : Chg g w wr := hC1
    go_wp2_with fail
    refine (HIH.out (A ++ M1) L2 R2 S wr mid e b (by have := HA.out; have := HB.out; have := HSD.out; omega) (by have := HA.out; have := HB.out; have := HSD.out; have := HM1.out.1.length_eq; simp only [List.length_append] at this ⊢; omega) (by have := HA.out; have := HB.out; have := HSD.out; have := HM1.out.1.length_eq; simp only [List.length_append] at this ⊢; omega) (by have := HA.out; have := HB.out; have := HSD.out; omega) (by have := HA.out; have := HB.out; have := HSD.out; omega) (by have := HA.out; have := HB.out; have := HSD.out; omega) (by have := HA.out; have := HB.out; have := HSD.out; omega) HR.out.2.1 HR.out.2.2.2 (by simpa [List.append_assoc] using HM1.out.2.2)).mono ?_
    rintro ee w4 ⟨rfl, hc4, M2, hp2, hs2, hH4⟩
    have HM2 := Lib.hid (And.intro hp2 (And.intro hs2 (show HoldT g rest w4 (A ++ (M1 ++ M2) ++ S) by simpa [List.append_assoc] using hH4)))
    have hC4 : Chg g w w4 := hC3.trans hc4
    clear hp2 hs2 hH4 hc4
    have HFN := Lib.hid (HMG.out M1 M2 HM1.out.1 HM2.out.1 HM1.out.2.1 HM2.out.2.1)
    have HF2 := Lib.hid HM2.out.2.2
    clear HMG HM1 HM2 HIH H1
    go_wp2
    go_end0
    exact ⟨rfl, hC4, M1 ++ M2, HFN.out.1, HFN.out.2, by simpa only [List.append_assoc] using HF2.out⟩
   ·have HSD := Lib.hid hsd1
    have hsm1 : s < m := by have := HA.out; omega
    rcases Nat.eq_or_lt_of_le (show a ≤ s by omega) with has | has
    ·rcases Nat.eq_or_lt_of_le (show e ≤ b by omega) with heb | heb
     ·have HAS := Lib.hid has
      have HEB := Lib.hid heb
      clear has heb
      have hq0 : (s : Int) < (m : Int) := by have := HA.out; have := HB.out; have := HAS.out; have := HEB.out; omega
      have hq1 : (m : Int) < (e : Int) := by have := HA.out; have := HB.out; have := HAS.out; have := HEB.out; omega
      have hq2 : ¬ (a : Int) < (s : Int) := by have := HA.out; have := HB.out; have := HAS.out; have := HEB.out; omega
      have hq3 : (s : Int) < (mid : Int) := by have := HA.out; have := HB.out; have := HAS.out; have := HEB.out; omega
      have hq4 : (mid : Int) < (e : Int) := by have := HA.out; have := HB.out; have := HAS.out; have := HEB.out; omega
      have hq5 : ¬ (e : Int) < (b : Int) := by have := HA.out; have := HB.out; have := HAS.out; have := HEB.out; omega
      go_wp2_with fail
      refine (rotate_calls _ n cap g rest (A ++ L1) L2 R1 (R2 ++ S) wr s m e (by have := HA.out; have := HB.out; have := HAS.out; have := HEB.out; simp only [List.length_append]; omega) hN (by have := HA.out; have := HB.out; have := HAS.out; have := HEB.out; simp only [List.length_append]; omega) (by have := HA.out; have := HB.out; have := HAS.out; have := HEB.out; omega) (by have := HA.out; have := HB.out; have := HAS.out; have := HEB.out; omega) (by have := HA.out; have := HB.out; have := HAS.out; have := HEB.out; omega) (by have := HA.out; have := HB.out; have := HAS.out; have := HEB.out; omega) (by simpa [List.append_assoc] using H0.out)).mono ?_
      rintro ee w2 ⟨rfl, hc2, hH2⟩
      have H1 := Lib.hid (show HoldT g rest w2 (A ++ (L1 ++ R1) ++ (L2 ++ R2 ++ S)) by simpa [List.append_assoc] using hH2)
      have hC1 : Chg g w w2 := (hex.chg g).trans hc2
      clear hH2 hc2
      obtain ⟨M1, HM1⟩ : ∃ M1, Hid (M1.Perm (L1 ++ R1) ∧ Ris tkey M1 ∧ HoldT g rest w2 (A ++ M1 ++ (L2 ++ R2 ++ S))) := ⟨L1 ++ R1, Lib.hid ⟨List.Perm.refl _, ris_app_nil HR.out.1 HR.out.2.2.1 (by have := HA.out; have := HB.out; have := HAS.out; have := HEB.out; omega), H1.out⟩⟩
      have hC3 : Chg g w w2 := hC1
      obtain ⟨M2, HM2⟩ : ∃ M2, Hid (M2.Perm (L2 ++ R2) ∧ Ris tkey M2 ∧ HoldT g rest w2 (A ++ (M1 ++ M2) ++ S)) := ⟨L2 ++ R2, Lib.hid ⟨List.Perm.refl _, ris_app_nil HR.out.2.1 HR.out.2.2.2 (by have := HA.out; have := HB.out; have := HAS.out; have := HEB.out; omega), by simpa [List.append_assoc] using HM1.out.2.2⟩⟩
      have hC4 : Chg g w w2 := hC3
      have HFN := Lib.hid (HMG.out M1 M2 HM1.out.1 HM2.out.1 HM1.out.2.1 HM2.out.2.1)
      have HF2 := Lib.hid HM2.out.2.2
      clear HMG HM1 HM2 HIH H1
      go_wp2
      go_end0
      exact ⟨rfl, hC4, M1 ++ M2, HFN.out.1, HFN.out.2, by simpa only [List.append_assoc] using HF2.out⟩
     ·have HAS := Lib.hid has
      have HEB := Lib.hid heb
      clear has heb
      exfalso; have := HA.out; have := HB.out; have := HAS.out; have := HEB.out; omega
    ·rcases Nat.eq_or_lt_of_le (show e ≤ b by omega) with heb | heb
     ·have HAS := Lib.hid has
      have HEB := Lib.hid heb
      clear has heb
      have hq0 : (s : Int) < (m : Int) := by have := HA.out; have := HB.out; have := HAS.out; have := HEB.out; omega
      have hq1 : (m : Int) < (e : Int) := by have := HA.out; have := HB.out; have := HAS.out; have := HEB.out; omega
      have hq2 : (a : Int) < (s : Int) := by have := HA.out; have := HB.out; have := HAS.out; have := HEB.out; omega
      have hq3 : (s : Int) < (mid : Int) := by have := HA.out; have := HB.out; have := HAS.out; have := HEB.out; omega
      have hq4 : (mid : Int) < (e : Int) := by have := HA.out; have := HB.out; have := HAS.out; have := HEB.out; omega
      have hq5 : ¬ (e : Int) < (b : Int) := by have := HA.out; have := HB.out; have := HAS.out; have := HEB.out; omega
      go_wp2_with fail
      refine (rotate_calls _ n cap g rest (A ++ L1) L2 R1 (R2 ++ S) wr s m e (by have := HA.out; have := HB.out; have := HAS.out; have := HEB.out; simp only [List.length_append]; omega) hN (by have := HA.out; have := HB.out; have := HAS.out; have := HEB.out; simp only [List.length_append]; omega) (by have := HA.out; have := HB.out; have := HAS.out; have := HEB.out; omega) (by have := HA.out; have := HB.out; have := HAS.out; have := HEB.out; omega) (by have := HA.out; have := HB.out; have := HAS.out; have := HEB.out; omega) (by have := HA.out; have := HB.out; have := HAS.out; have := HEB.out; omega) (by simpa [List.append_assoc] using H0.out)).mono ?_
      rintro ee w2 ⟨rfl, hc2, hH2⟩
      have H1 := Lib.hid (show HoldT g rest w2 (A ++ (L1 ++ R1) ++ (L2 ++ R2 ++ S)) by simpa [List.append_assoc] using hH2)
      have hC1 : Chg g w w2 := (hex.chg g).trans hc2
      clear hH2 hc2
      go_wp2_with fail
      refine (HIH.out A L1 R1 (L2 ++ R2 ++ S) w2 a s mid (by have := HA.out; have := HB.out; have := HAS.out; have := HEB.out; omega) (by have := HA.out; have := HB.out; have := HAS.out; have := HEB.out; simp only [List.length_append]; omega) (by have := HA.out; omega) (by have := HA.out; have := HB.out; have := HAS.out; have := HEB.out; omega) (by have := HA.out; have := HB.out; have := HAS.out; have := HEB.out; omega) (by have := HA.out; have := HB.out; have := HAS.out; have := HEB.out; omega) (by have := HA.out; have := HB.out; have := HAS.out; have := HEB.out; omega) HR.out.1 HR.out.2.2.1 (by simpa [List.append_assoc] using H1.out)).mono ?_
      rintro ee w3 ⟨rfl, hc3, M1, hp1, hs1, hH3⟩
      have HM1 := Lib.hid (And.intro hp1 (And.intro hs1 hH3))
      have hC3 : Chg g w w3 := hC1.trans hc3
      clear hp1 hs1 hH3 hc3
      obtain ⟨M2, HM2⟩ : ∃ M2, Hid (M2.Perm (L2 ++ R2) ∧ Ris tkey M2 ∧ HoldT g rest w3 (A ++ (M1 ++ M2) ++ S)) := ⟨L2 ++ R2, Lib.hid ⟨List.Perm.refl _, ris_app_nil HR.out.2.1 HR.out.2.2.2 (by have := HA.out; have := HB.out; have := HAS.out; have := HEB.out; omega), by simpa [List.append_assoc] using HM1.out.2.2⟩⟩
      have hC4 : Chg g w w3 := hC3
      have HFN := Lib.hid (HMG.out M1 M2 HM1.out.1 HM2.out.1 HM1.out.2.1 HM2.out.2.1)
      have HF2 := Lib.hid HM2.out.2.2
      clear HMG HM1 HM2 HIH H1
      go_wp2
      go_end0
      exact ⟨rfl, hC4, M1 ++ M2, HFN.out.1, HFN.out.2, by simpa only [List.append_assoc] using HF2.out⟩
     ·have HAS := Lib.hid has
      have HEB := Lib.hid heb
      clear has heb
      have hq0 : (s : Int) < (m : Int) := by have := HA.out; have := HB.out; have := HAS.out; have := HEB.out; omega
      have hq1 : (m : Int) < (e : Int) := by have := HA.out; have := HB.out; have := HAS.out; have := HEB.out; omega
      have hq2 : (a : Int) < (s : Int) := by have := HA.out; have := HB.out; have := HAS.out; have := HEB.out; omega
      have hq3 : (s : Int) < (mid : Int) := by have := HA.out; have := HB.out; have := HAS.out; have := HEB.out; omega
      have hq4 : (mid : Int) < (e : Int) := by have := HA.out; have := HB.out; have := HAS.out; have := HEB.out; omega
      have hq5 : (e : Int) < (b : Int) := by have := HA.out; have := HB.out; have := HAS.out; have := HEB.out; omega
      go_wp2_with fail
      refine (rotate_calls _ n cap g rest (A ++ L1) L2 R1 (R2 ++ S) wr s m e (by have := HA.out; have := HB.out; have := HAS.out; have := HEB.out; simp only [List.length_append]; omega) hN (by have := HA.out; have := HB.out; have := HAS.out; have := HEB.out; simp only [List.length_append]; omega) (by have := HA.out; have := HB.out; have := HAS.out; have := HEB.out; omega) (by have := HA.out; have := HB.out; have := HAS.out; have := HEB.out; omega) (by have := HA.out; have := HB.out; have := HAS.out; have := HEB.out; omega) (by have := HA.out; have := HB.out; have := HAS.out; have := HEB.out; omega) (by simpa [List.append_assoc] using H0.out)).mono ?_
      rintro ee w2 ⟨rfl, hc2, hH2⟩
      have H1 := Lib.hid (show HoldT g rest w2 (A ++ (L1 ++ R1) ++ (L2 ++ R2 ++ S)) by simpa [List.append_assoc] using hH2)
      have hC1 : Chg g w w2 := (hex.chg g).trans hc2
      clear hH2 hc2
      go_wp2_with fail
      refine (HIH.out A L1 R1 (L2 ++ R2 ++ S) w2 a s mid (by have := HA.out; have := HB.out; have := HAS.out; have := HEB.out; omega) (by have := HA.out; have := HB.out; have := HAS.out; have := HEB.out; simp only [List.length_append]; omega) (by have := HA.out; omega) (by have := HA.out; have := HB.out; have := HAS.out; have := HEB.out; omega) (by have := HA.out; have := HB.out; have := HAS.out; have := HEB.out; omega) (by have := HA.out; have := HB.out; have := HAS.out; have := HEB.out; omega) (by have := HA.out; have := HB.out; have := HAS.out; have := HEB.out; omega) HR.out.1 HR.out.2.2.1 (by simpa [List.append_assoc] using H1.out)).mono ?_
      rintro ee w3 ⟨rfl, hc3, M1, hp1, hs1, hH3⟩
      have HM1 := Lib.hid (And.intro hp1 (And.intro hs1 hH3))
      have hC3 : Chg g w w3 := hC1.trans hc3
      clear hp1 hs1 hH3 hc3
      go_wp2_with fail
      refine (HIH.out (A ++ M1) L2 R2 S w3 mid e b (by have := HA.out; have := HB.out; have := HAS.out; have := HEB.out; omega) (by have := HA.out; have := HB.out; have := HAS.out; have := HEB.out; have := HM1.out.1.length_eq; simp only [List.length_append] at this ⊢; omega) (by have := HA.out; have := HB.out; have := HAS.out; have := HEB.out; have := HM1.out.1.length_eq; simp only [List.length_append] at this ⊢; omega) (by have := HA.out; have := HB.out; have := HAS.out; have := HEB.out; omega) (by have := HA.out; have := HB.out; have := HAS.out; have := HEB.out; omega) (by have := HA.out; have := HB.out; have := HAS.out; have := HEB.out; omega) (by have := HA.out; have := HB.out; have := HAS.out; have := HEB.out; omega) HR.out.2.1 HR.out.2.2.2 (by simpa [List.append_assoc] using HM1.out.2.2)).mono ?_
      rintro ee w4 ⟨rfl, hc4, M2, hp2, hs2, hH4⟩
      have HM2 := Lib.hid (And.intro hp2 (And.intro hs2 (show HoldT g rest w4 (A ++ (M1 ++ M2) ++ S) by simpa [List.append_assoc] using hH4)))
      have hC4 : Chg g w w4 := hC3.trans hc4
      clear hp2 hs2 hH4 hc4
      have HFN := Lib.hid (HMG.out M1 M2 HM1.out.1 HM2.out.1 HM1.out.2.1 HM2.out.2.1)
      have HF2 := Lib.hid HM2.out.2.2
      clear HMG HM1 HM2 HIH H1
      go_wp2
      go_end0
      exact ⟨rfl, hC4, M1 ++ M2, HFN.out.1, HFN.out.2, by simpa only [List.append_assoc] using HF2.out⟩
  ·obtain ⟨c, hc⟩ : ∃ c, c = (s + r) / 2 := ⟨_, rfl⟩
   obtain ⟨q, hq⟩ : ∃ q, q + c = p := ⟨p - c, by have := HA.out; omega⟩
   obtain ⟨L1, x, L2, HX⟩ : ∃ L1 x L2, Hid (L = L1 ++ x :: L2 ∧ L1.length = c - a ∧ L[c - a]? = some x) := by
    obtain ⟨L1, x, L2, h1, h2, h3⟩ := split_at (R := L) (h := c - a) (by have := HA.out; omega)
    exact ⟨L1, x, L2, Lib.hid ⟨h1, h2, h3⟩⟩
   obtain ⟨R1, y, R2, HY⟩ : ∃ R1 y R2, Hid (R = R1 ++ y :: R2 ∧ R1.length = q - m ∧ R[q - m]? = some y) := by
    obtain ⟨L1, x, L2, h1, h2, h3⟩ := split_at (R := R) (h := q - m) (by have := HA.out; omega)
    exact ⟨L1, x, L2, Lib.hid ⟨h1, h2, h3⟩⟩
   have H5 : Hid (HoldT g rest wr ((A ++ L1) ++ x :: ((L2 ++ R1) ++ y :: (R2 ++ S)))) := by
    have := Hd.out.ext hex
    rw [HX.out.1, HY.out.1] at this
    exact Lib.hid (by simpa [List.append_assoc] using this)
   have HLM : Hid (c = (A ++ L1).length ∧ q = (A ++ L1).length + 1 + (L2 ++ R1).length) := by
    have h0 := HA.out
    obtain ⟨k1, k2, -⟩ := HX.out
    obtain ⟨k3, k4, -⟩ := HY.out
    have k5 := congrArg List.length k1
    simp only [List.length_append, List.length_cons] at k5 ⊢
    exact Lib.hid ⟨by omega, by omega⟩
   have HCc := Lib.hid (H5.out.at (get_at HLM.out.1))
   have HCq := Lib.hid (H5.out.at (get_at2 HLM.out.2))
   obtain ⟨v, hv⟩ : ∃ v : Bool, v = decide (y.c < x.c) := ⟨_, rfl⟩
   have HR := Lib.hid hv
   have HCQ := Lib.hid (And.intro hc hq)
   have hsr' : (s : Int) < (r : Int) := by omega
   have hqn : q < n := by have := HA.out; omega
   have hcn : c < n := by have := HA.out; omega
   have hqn' : (q : Int) < (n : Int) := by omega
   have hcn' : (c : Int) < (n : Int) := by omega
   have hc2 : ((s : Int) + (r : Int)) / 2 = (c : Int) := by omega
   have hq2 : (p : Int) - (c : Int) = (q : Int) := by omega
   have hcr : c < r := by omega
   have hsc : s ≤ c := by omega
   have hrn : r ≤ n := by omega
   clear hv hc hq
   go_wp2_with fail
   refine wp_region_puts [] [PP.val (.func (.func 121) #[] #[]), PP.val (.slice (some ⟨g, 0, none⟩) n cap), PP.val (.int .i64 (p : Int)), PP.val (.int .i64 (c : Int)), PP.val (.int .i64 (q : Int)), PP.val (.pointer (some ⟨g, q * 4, none⟩)), PP.val (.agg #[.int .i64 y.c, .bool y.b, .slice y.a1 y.n1 y.c1, .slice y.a2 y.n2 y.c2]), PP.val (.slice (some ⟨g, 0, none⟩) n cap), PP.val (.int .i64 (c : Int)), PP.val (.pointer (some ⟨g, c * 4, none⟩)), PP.val (.agg #[.int .i64 x.c, .bool x.b, .slice x.a1 x.n1 x.c1, .slice x.a2 x.n2 x.c2]), PP.pred (fun v => ∃ z : Int, v = .int .i64 z ∧ (z < 0 ↔ y.c < x.c)), PP.val (.bool v), PP.val (.bool (!v))] [] [0, 1, 2, 3, 4, 5, 6, 7, 8, 9, 10, 11, 12, 13]
    (by kernel_rfl) (by kernel_rfl) (fun f => (by simp only [fillR, fillL, List.setIfInBounds_toArray, List.set_cons_succ, List.set_cons_zero, Nat.reduceAdd]; rfl)) ?_ ?_ ?_ ?_ ?_
   ·intro x hx; cases hx
   ·intro x hx; cases hx
   ·intro x hx; cases hx
   ·refine ⟨?o0, ?o1, ?o2, ?o3, ?o4, ?o5, ?o6, ?o7, ?o8, ?o9, ?o10, ?o11, ?o12, ?o13, trivial⟩
    case o0 =>
     intro f w2 hG hp hl
     have hE : Ext wr w2 := hG
     have hS := hE.size
     simp only [OpGoal]
     go_simp
     exact ⟨_, rfl, Ext.refl _, rfl⟩
    case o1 =>
     intro f w2 hG hp hl
     have hE : Ext wr w2 := hG
     have hS := hE.size
     simp only [OpGoal]
     go_simp
     exact ⟨_, rfl, Ext.refl _, rfl⟩
    case o2 =>
     intro f w2 hG hp hl
     have hE : Ext wr w2 := hG
     have hS := hE.size
     simp only [OpGoal]
     go_simp
     exact ⟨_, rfl, Ext.refl _, rfl⟩
    case o3 =>
     intro f w2 hG hp hl
     have hE : Ext wr w2 := hG
     have hS := hE.size
     simp only [OpGoal]
     go_simp
     exact ⟨_, rfl, Ext.refl _, rfl⟩
    case o4 =>
     intro f w2 hG hp hl
     have hE : Ext wr w2 := hG
     have hS := hE.size
     have q160 : f 2 = .int .i64 (p : Int) := tellV hp 0 2 rfl rfl (fun h => by cases h)
     have q161 : f 3 = .int .i64 (c : Int) := tellV hp 1 3 rfl rfl (fun h => by cases h)
     simp only [OpGoal]
     go_simp
     first
     | exact ⟨_, rfl, Ext.refl _, rfl⟩
     | exact ⟨_, rfl, Ext.refl _, congrArg (Value.int .i64) (Go.IntWalk.i64_in _ ⟨by omega, by omega⟩)⟩
    case o5 =>
     intro f w2 hG hp hl
     have hE : Ext wr w2 := hG
     have hS := hE.size
     have q159 : f 1 = .slice (some ⟨g, 0, none⟩) n cap := tellV hp 0 1 rfl rfl (fun h => by cases h)
     have q162 : f 4 = .int .i64 (q : Int) := tellV hp 1 4 rfl rfl (fun h => by cases h)
     simp only [OpGoal]
     go_simp
     exact ⟨_, rfl, Ext.refl _, rfl⟩
    case o6 =>
     intro f w2 hG hp hl
     have hE : Ext wr w2 := hG
     have hS := hE.size
     have q163 : f 5 = .pointer (some ⟨g, q * 4, none⟩) := tellV hp 0 5 rfl rfl (fun h => by cases h)
     change OpGoal _ _ _ f w2 Ext _
     exact og_loadAt (P := Try.prog) _ _ g (q * 4) _ _ rfl rfl q163 (fun j v h => HCq.out _ hE j v h) Try.underlying106 rfl (by kernel_rfl) rfl
    case o7 =>
     intro f w2 hG hp hl
     have hE : Ext wr w2 := hG
     have hS := hE.size
     simp only [OpGoal]
     go_simp
     exact ⟨_, rfl, Ext.refl _, rfl⟩
    case o8 =>
     intro f w2 hG hp hl
     have hE : Ext wr w2 := hG
     have hS := hE.size
     simp only [OpGoal]
     go_simp
     exact ⟨_, rfl, Ext.refl _, rfl⟩
    case o9 =>
     intro f w2 hG hp hl
     have hE : Ext wr w2 := hG
     have hS := hE.size
     have q165 : f 7 = .slice (some ⟨g, 0, none⟩) n cap := tellV hp 0 7 rfl rfl (fun h => by cases h)
     have q166 : f 8 = .int .i64 (c : Int) := tellV hp 1 8 rfl rfl (fun h => by cases h)
     simp only [OpGoal]
     go_simp
     exact ⟨_, rfl, Ext.refl _, rfl⟩
    case o10 =>
     intro f w2 hG hp hl
     have hE : Ext wr w2 := hG
     have hS := hE.size
     have q167 : f 9 = .pointer (some ⟨g, c * 4, none⟩) := tellV hp 0 9 rfl rfl (fun h => by cases h)
     change OpGoal _ _ _ f w2 Ext _
     exact og_loadAt (P := Try.prog) _ _ g (c * 4) _ _ rfl rfl q167 (fun j v h => HCc.out _ hE j v h) Try.underlying106 rfl (by kernel_rfl) rfl
    case o11 =>
     intro f w2 hG hp hl
     have hE : Ext wr w2 := hG
     have hS := hE.size
     have q158 : f 0 = .func (.func 121) #[] #[] := tellV hp 0 0 rfl rfl (fun h => by cases h)
     have q164 : f 6 = .agg #[.int .i64 y.c, .bool y.b, .slice y.a1 y.n1 y.c1, .slice y.a2 y.n2 y.c2] := tellV hp 1 6 rfl rfl (fun h => by cases h)
     have q168 : f 10 = .agg #[.int .i64 x.c, .bool x.b, .slice x.a1 x.n1 x.c1, .slice x.a2 x.n2 x.c2] := tellV hp 2 10 rfl rfl (fun h => by cases h)
     change OpGoal _ _ _ f w2 Ext _
     refine og_callv (P := Try.prog) _ _ _ _ #[f 6, f 10] Try.func121 (by kernel_rfl) (by kernel_rfl) rfl rfl q158 (by kernel_rfl) ?_
     rw [q164, q168]
     refine (cmpT_calls y x _).mono ?_
     rintro e w' ⟨z, rfl, h1, h2⟩
     exact ⟨_, rfl, h2, z, rfl, h1⟩
    case o12 =>
     intro f w2 hG hp hl
     have hE : Ext wr w2 := hG
     have hS := hE.size
     have q169 := tellV hp 0 11 rfl rfl (fun _ => hE)
     obtain ⟨z, hz, hzz⟩ := q169
     simp only [OpGoal]
     go_simp
     exact ⟨_, rfl, Ext.refl _, congrArg Value.bool (by first | (rw [HR.out]; done) | (rw [HR.out]; exact decide_eq_decide.2 hzz))⟩
    case o13 =>
     intro f w2 hG hp hl
     have hE : Ext wr w2 := hG
     have hS := hE.size
     have q170 : f 12 = .bool v := tellV hp 0 12 rfl rfl (fun h => by cases h)
     simp only [OpGoal]
     go_simp
     exact ⟨_, rfl, Ext.refl _, rfl⟩
   ·intro f w2 hG hp
    have hE : Ext wr w2 := ChgS.nil hG
    have q171 : f 13 = .bool (!v) := endV hp 13 (by decide) rfl (fun h => by cases h)
    try simp only [q171]
    clear hp
    cases v with
    | true =>
     go_wp2
     go_roundw
     case rel =>
      refine ⟨s, c, rfl, rfl, hs, hsc, by omega, Lib.hid ⟨hF.out.1, .inr ⟨y, x, ?_, HX.out.2.2, ?_⟩⟩, hex.trans hE⟩
      ·have := HY.out.2.2
       rw [show mid - 1 - c = q - m by have := HCQ.out; have := HA.out; omega]
       exact this
      ·have := of_decide_eq_true HR.out.symm
       show y.c ≤ x.c
       omega
     case measure => simp [intOf]; omega
    | false =>
     obtain ⟨c1, hc1⟩ : ∃ c1 : Nat, c1 = c + 1 := ⟨_, rfl⟩
     have hc3 : (c : Int) + 1 = (c1 : Int) := by omega
     have HH := Lib.hid hc1
     clear hc1
     go_wp2
     go_roundw
     case rel =>
      refine ⟨c1, r, rfl, rfl, by omega, by omega, hr, Lib.hid ⟨.inr ⟨x, y, ?_, ?_, ?_⟩, hF.out.2⟩, hex.trans hE⟩
      ·rw [show c1 - 1 - a = c - a by have := HH.out; omega]
       exact HX.out.2.2
      ·have := HY.out.2.2
       rw [show mid - c1 = q - m by have := HCQ.out; have := HA.out; have := HH.out; omega]
       exact this
      ·have := of_decide_eq_false HR.out.symm
       show x.c ≤ y.c
       omega
     case measure => simp [intOf]; omega
set_option maxHeartbeats 16000000 in
theorem symMerge_le (n cap g : Nat) (rest : List Value) (dd : Nat) (ih : ∀ (A L R S : List TmC) (w : World) (a m b : Nat), L.length + R.length ≤ dd → n = (A ++ L ++ R ++ S).length → a = A.length → m = a + L.length → b = m + R.length → 0 < L.length → 0 < R.length → Ris tkey L → Ris tkey R → HoldT g rest w (A ++ L ++ R ++ S) →
   Calls Try.prog 142 #[.slice (some ⟨g, 0, none⟩) n cap, .int .i64 (a : Int), .int .i64 (m : Int), .int .i64 (b : Int), .func (.func 121) #[] #[]] w fun e w' => e = .returned (.tuple #[]) ∧ Chg g w w' ∧ ∃ M, M.Perm (L ++ R) ∧ Ris tkey M ∧ HoldT g rest w' (A ++ M ++ S))
  (A L R S : List TmC) (w : World) (a m b mid : Nat) (hd : L.length + R.length ≤ dd + 1) (hn : n = (A ++ L ++ R ++ S).length) (hN : n ≤ 35184372088832) (ha : a = A.length) (hm : m = a + L.length) (hb : b = m + R.length) (hL1 : 1 < L.length) (hR1 : 1 < R.length) (hL : Ris tkey L) (hR : Ris tkey R) (hH : HoldT g rest w (A ++ L ++ R ++ S))
  (hmid : mid = (a + b) / 2) (hgt : m ≤ mid) :
  Calls Try.prog 142 #[.slice (some ⟨g, 0, none⟩) n cap, .int .i64 (a : Int), .int .i64 (m : Int), .int .i64 (b : Int), .func (.func 121) #[] #[]] w fun e w' => e = .returned (.tuple #[]) ∧ Chg g w w' ∧ ∃ M, M.Perm (L ++ R) ∧ Ris tkey M ∧ HoldT g rest w' (A ++ M ++ S) := by
 simp only [List.length_append] at hn
 have hbn : b ≤ n := by omega
 have hmn : m < n := by omega
 have hma : ¬ (m : Int) - (a : Int) = 1 := by omega
 have hbm : ¬ (b : Int) - (m : Int) = 1 := by omega
 obtain ⟨nn, hnn⟩ : ∃ nn, nn = mid + m := ⟨_, rfl⟩
 obtain ⟨p, hp⟩ : ∃ p, p + 1 = nn := ⟨nn - 1, by omega⟩
 obtain ⟨s0, hs0⟩ : ∃ s0, s0 = a := ⟨_, rfl⟩
 obtain ⟨r0, hr0⟩ : ∃ r0, r0 = m := ⟨_, rfl⟩
 have HA := Lib.hid (show n = A.length + L.length + R.length + S.length ∧ a = A.length ∧ m = a + L.length ∧ b = m + R.length ∧ mid = (a + b) / 2 ∧ nn = mid + m ∧ p + 1 = nn ∧ (s0 = a) ∧ r0 = m ∧ a ≤ s0 ∧ s0 < r0 ∧ r0 ≤ m ∧ r0 ≤ mid ∧ nn ≤ s0 + b ∧ 1 < L.length ∧ 1 < R.length ∧ L.length + R.length ≤ dd + 1 ∧ (m ≤ mid) by omega)
 have hmid1 : ((a : Int) + (b : Int)) / 2 = (mid : Int) := by omega
 have hnn1 : (mid : Int) + (m : Int) = (nn : Int) := by omega
 have hp1 : (nn : Int) - 1 = (p : Int) := by omega
 have hgt1 : ¬ (mid : Int) < (m : Int) := by omega
 skip
 have hab : a ≤ b := by omega
 have hmb : m ≤ b := by omega
 have ham : a ≤ m := by omega
 have hdn : mid < n := by omega
 have hnn2 : nn ≤ 70368744177664 := by omega
 have has0 : a ≤ s0 := by omega
 have hsr0 : s0 ≤ r0 := by omega
 have hrm0 : r0 ≤ m := by omega
 have HIH := Lib.hid ih
 have HLR := Lib.hid (And.intro hL hR)
 have Hd := Lib.hid hH
 clear hn ha hm hb hL1 hR1 hL hR hH hmid hnn hp hs0 hr0 ih hd hgt
 go_enter Try.func142, Try.ntmps142
 go_wp2_with fail
 go_loopw [20, 21] (fun s20 s21 wr => ∃ (s r : Nat), s20 = .int .i64 (s : Int) ∧ s21 = .int .i64 (r : Int) ∧ s0 ≤ s ∧ s ≤ r ∧ r ≤ r0 ∧ Hid ((s = s0 ∨ ∃ x y, L[s - 1 - a]? = some x ∧ R[mid - s]? = some y ∧ tkey x ≤ tkey y) ∧ (r = r0 ∨ ∃ x y, R[mid - 1 - r]? = some x ∧ L[r - a]? = some y ∧ tkey x ≤ tkey y)) ∧ Ext w wr) (fun s20 s21 _ => (intOf s21 - intOf s20).toNat)
 case atStart => exact ⟨a, m, rfl, rfl, by have := HA.out; omega, by have := HA.out; omega, by have := HA.out; omega, Lib.hid ⟨.inl (by have := HA.out; omega), .inl (by have := HA.out; omega)⟩, Ext.refl _⟩
 case round =>
  obtain ⟨s, r, rfl, rfl, hs, hsr, hr, hF, hex⟩ := hrel
  rcases Nat.eq_or_lt_of_le hsr with he | hlt
  ·subst he
   obtain ⟨e, he⟩ : ∃ e, e + s = nn := ⟨nn - s, by have := HA.out; omega⟩
   obtain ⟨L1, L2, R1, R2, HB', HR', HMG'⟩ : ∃ L1 L2 R1 R2, Hid (L.length = L1.length + L2.length ∧ R.length = R1.length + R2.length ∧ L1.length + a = s ∧ R1.length + m = e ∧ L2.length + s = m ∧ R2.length + e = b ∧ e + s = nn ∧ s ≤ mid ∧ s ≤ m ∧ a ≤ s ∧ e ≤ b ∧ L = L1 ++ L2 ∧ R = R1 ++ R2) ∧ Hid (Ris tkey L1 ∧ Ris tkey L2 ∧ Ris tkey R1 ∧ Ris tkey R2) ∧
     Hid (∀ M1 M2 : List TmC, M1.Perm (L1 ++ R1) → M2.Perm (L2 ++ R2) → Ris tkey M1 → Ris tkey M2 → (M1 ++ M2).Perm (L ++ R) ∧ Ris tkey (M1 ++ M2)) := by
    have h0 := HA.out
    obtain ⟨h1, h2⟩ := hF.out
    obtain ⟨L1, L2, R1, R2, k1, k2, k3, k4, k5, k6, k7, k8, k9, k10, k11⟩ := parted (L := L) (R := R) (a := a) (m := m) (b := b) (s := s) (e := e) (mid := mid) (nn := nn) (s0 := s0) (r0 := r0) HLR.out.1 HLR.out.2 (by omega) (by omega) (by omega) (by omega) he (by omega) (by omega) (by omega) (by omega) (by omega) (by omega) h1 h2
    have k12 := congrArg List.length k1
    have k13 := congrArg List.length k2
    rw [List.length_append] at k12 k13
    exact ⟨L1, L2, R1, R2, Lib.hid ⟨k12, k13, k3, k4, k5, k6, he, by omega, by omega, by omega, by omega, k1, k2⟩, Lib.hid ⟨k7, k8, k9, k10⟩, Lib.hid k11⟩
   have HB := Lib.hid (show L.length = L1.length + L2.length ∧ R.length = R1.length + R2.length ∧ L1.length + a = s ∧ R1.length + m = e ∧ L2.length + s = m ∧ R2.length + e = b ∧ e + s = nn ∧ s ≤ mid ∧ s ≤ m ∧ a ≤ s ∧ e ≤ b by have := HB'.out; omega)
   have HR := HR'
   have HMG := HMG'
   have H0 := Lib.hid (show HoldT g rest wr (A ++ L1 ++ L2 ++ R1 ++ R2 ++ S) by
    have := Hd.out.ext hex
    rw [HB'.out.2.2.2.2.2.2.2.2.2.2.2.1, HB'.out.2.2.2.2.2.2.2.2.2.2.2.2] at this
    simpa [List.append_assoc] using this)
   have hes : (nn : Int) - (s : Int) = (e : Int) := by omega
   have hsm : s ≤ m := by have := HB.out; omega
   have hsd : s ≤ mid := by have := HB.out; omega
   have hab2 : a ≤ s := by have := HB.out; omega
   have heb2 : e ≤ b := by have := HB.out; omega
   clear he hF HB' HR' HMG'
   rcases Nat.eq_or_lt_of_le hsm with hsm1 | hsm1
   ·have HSM := Lib.hid hsm1
    clear hsm1
    rcases Nat.eq_or_lt_of_le hsd with hsd1 | hsd1
    ·have HSD := Lib.hid hsd1
     clear hsd1
     have hq0 : ¬ (s : Int) < (m : Int) := by have := HA.out; have := HB.out; have := HSM.out; have := HSD.out; omega
     have hq1 : ¬ (m : Int) < (e : Int) := by have := HA.out; have := HB.out; have := HSM.out; have := HSD.out; omega
     have hq2 : (a : Int) < (s : Int) := by have := HA.out; have := HB.out; have := HSM.out; have := HSD.out; omega
     have hq3 : ¬ (s : Int) < (mid : Int) := by have := HA.out; have := HB.out; have := HSM.out; have := HSD.out; omega
     have hq4 : ¬ (mid : Int) < (e : Int) := by have := HA.out; have := HB.out; have := HSM.out; have := HSD.out; omega
     have hq5 : (e : Int) < (b : Int) := by have := HA.out; have := HB.out; have := HSM.out; have := HSD.out; omega
     have H1 := Lib.hid (show HoldT g rest wr (A ++ (L1 ++ R1) ++ (L2 ++ R2 ++ S)) by
      have h0 := H0.out
      have : L2.length = 0 ∨ R1.length = 0 := by have := HA.out; have := HB.out; have := HSM.out; have := HSD.out; omega
      rcases this with h | h
      ·rw [List.eq_nil_of_length_eq_zero h] at h0 ⊢
       simpa [List.append_assoc] using h0
      ·rw [List.eq_nil_of_length_eq_zero h] at h0 ⊢
       simpa [List.append_assoc] using h0)
     have hC1 : Chg g w wr := (hex.chg g)
     obtain ⟨M1, HM1⟩ : ∃ M1, Hid (M1.Perm (L1 ++ R1) ∧ Ris tkey M1 ∧ HoldT g rest wr (A ++ M1 ++ (L2 ++ R2 ++ S))) := ⟨L1 ++ R1, Lib.hid ⟨List.Perm.refl _, ris_app_nil HR.out.1 HR.out.2.2.1 (by have := HA.out; have := HB.out; have := HSM.out; have := HSD.out; omega), H1.out⟩⟩
     have hC3 : Chg g w wr := hC1
     obtain ⟨M2, HM2⟩ : ∃ M2, Hid (M2.Perm (L2 ++ R2) ∧ Ris tkey M2 ∧ HoldT g rest wr (A ++ (M1 ++ M2) ++ S)) := ⟨L2 ++ R2, Lib.hid ⟨List.Perm.refl _, ris_app_nil HR.out.2.1 HR.out.2.2.2 (by have := HA.out; have := HB.out; have := HSM.out; have := HSD.out; omega), by simpa [List.append_assoc] using HM1.out.2.2⟩⟩
     have hC4 : Chg g w wr := hC3
     have HFN := Lib.hid (HMG.out M1 M2 HM1.out.1 HM2.out.1 HM1.out.2.1 HM2.out.2.1)
     have HF2 := Lib.hid HM2.out.2.2
     clear HMG HM1 HM2 HIH H1
     go_wp2
     go_end0
     exact ⟨rfl, hC4, M1 ++ M2, HFN.out.1, HFN.out.2, by simpa only [List.append_assoc] using HF2.out⟩
    ·have HSD := Lib.hid hsd1
     clear hsd1
     have hq0 : ¬ (s : Int) < (m : Int) := by have := HA.out; have := HB.out; have := HSM.out; have := HSD.out; omega
     have hq1 : (m : Int) < (e : Int) := by have := HA.out; have := HB.out; have := HSM.out; have := HSD.out; omega
     have hq2 : (a : Int) < (s : Int) := by have := HA.out; have := HB.out; have := HSM.out; have := HSD.out; omega
     have hq3 : (s : Int) < (mid : Int) := by have := HA.out; have := HB.out; have := HSM.out; have := HSD.out; omega
     have hq4 : ¬ (mid : Int) < (e : Int) := by have := HA.out; have := HB.out; have := HSM.out; have := HSD.out; omega
     have hq5 : (e : Int) < (b : Int) := by have := HA.out; have := HB.out; have := HSM.out; have := HSD.out; omega
     have H1 := Lib.hid (show HoldT g rest wr (A ++ (L1 ++ R1) ++ (L2 ++ R2 ++ S)) by
      have h0 := H0.out
      have : L2.length = 0 ∨ R1.length = 0 := by have := HA.out; have := HB.out; have := HSM.out; have := HSD.out; omega
      rcases this with h | h
      ·rw [List.eq_nil_of_length_eq_zero h] at h0 ⊢
       simpa [List.append_assoc] using h0
      ·rw [List.eq_nil_of_length_eq_zero h] at h0 ⊢
       simpa [List.append_assoc] using h0)
     have hC1 : Chg g w wr := (hex.chg g)
     go_wp2_with fail
     refine (HIH.out A L1 R1 (L2 ++ R2 ++ S) wr a s mid (by have := HA.out; have := HB.out; have := HSM.out; have := HSD.out; omega) (by have := HA.out; have := HB.out; have := HSM.out; have := HSD.out; simp only [List.length_append]; omega) (by have := HA.out; omega) (by have := HA.out; have := HB.out; have := HSM.out; have := HSD.out; omega) (by have := HA.out; have := HB.out; have := HSM.out; have := HSD.out; omega) (by have := HA.out; have := HB.out; have := HSM.out; have := HSD.out; omega) (by have := HA.out; have := HB.out; have := HSM.out; have := HSD.out; omega) HR.out.1 HR.out.2.2.1 (by simpa [List.append_assoc] using H1.out)).mono ?_
     rintro ee w3 ⟨rfl, hc3, M1, hp1, hs1, hH3⟩
     have HM1 := Lib.hid (And.intro hp1 (And.intro hs1 hH3))
     have hC3 : Chg g w w3 := hC1.trans hc3
     clear hp1 hs1 hH3 hc3
     obtain ⟨M2, HM2⟩ : ∃ M2, Hid (M2.Perm (L2 ++ R2) ∧ Ris tkey M2 ∧ HoldT g rest w3 (A ++ (M1 ++ M2) ++ S)) := ⟨L2 ++ R2, Lib.hid ⟨List.Perm.refl _, ris_app_nil HR.out.2.1 HR.out.2.2.2 (by have := HA.out; have := HB.out; have := HSM.out; have := HSD.out; omega), by simpa [List.append_assoc] using HM1.out.2.2⟩⟩
     have hC4 : Chg g w w3 := hC3
     have HFN := Lib.hid (HMG.out M1 M2 HM1.out.1 HM2.out.1 HM1.out.2.1 HM2.out.2.1)
     have HF2 := Lib.hid HM2.out.2.2
     clear HMG HM1 HM2 HIH H1
     go_wp2
     go_end0
     exact ⟨rfl, hC4, M1 ++ M2, HFN.out.1, HFN.out.2, by simpa only [List.append_assoc] using HF2.out⟩
   ·have HSM := Lib.hid hsm1
    have hsd1 : s < mid := by have := HA.out; omega
    rcases Nat.eq_or_lt_of_le (show a ≤ s by omega) with has | has
    ·rcases Nat.eq_or_lt_of_le (show e ≤ b by omega) with heb | heb
     ·have HAS := Lib.hid has
      have HEB := Lib.hid heb
      clear has heb
      have hq0 : (s : Int) < (m : Int) := by have := HA.out; have := HB.out; have := HAS.out; have := HEB.out; omega
      have hq1 : (m : Int) < (e : Int) := by have := HA.out; have := HB.out; have := HAS.out; have := HEB.out; omega
      have hq2 : ¬ (a : Int) < (s : Int) := by have := HA.out; have := HB.out; have := HAS.out; have := HEB.out; omega
      have hq3 : (s : Int) < (mid : Int) := by have := HA.out; have := HB.out; have := HAS.out; have := HEB.out; omega
      have hq4 : (mid : Int) < (e : Int) := by have := HA.out; have := HB.out; have := HAS.out; have := HEB.out; omega
      have hq5 : ¬ (e : Int) < (b : Int) := by have := HA.out; have := HB.out; have := HAS.out; have := HEB.out; omega
      go_wp2_with fail
      refine (rotate_calls _ n cap g rest (A ++ L1) L2 R1 (R2 ++ S) wr s m e (by have := HA.out; have := HB.out; have := HAS.out; have := HEB.out; simp only [List.length_append]; omega) hN (by have := HA.out; have := HB.out; have := HAS.out; have := HEB.out; simp only [List.length_append]; omega) (by have := HA.out; have := HB.out; have := HAS.out; have := HEB.out; omega) (by have := HA.out; have := HB.out; have := HAS.out; have := HEB.out; omega) (by have := HA.out; have := HB.out; have := HAS.out; have := HEB.out; omega) (by have := HA.out; have := HB.out; have := HAS.out; have := HEB.out; omega) (by simpa [List.append_assoc] using H0.out)).mono ?_
      rintro ee w2 ⟨rfl, hc2, hH2⟩
      have H1 := Lib.hid (show HoldT g rest w2 (A ++ (L1 ++ R1) ++ (L2 ++ R2 ++ S)) by simpa [List.append_assoc] using hH2)
      have hC1 : Chg g w w2 := (hex.chg g).trans hc2
      clear hH2 hc2
      obtain ⟨M1, HM1⟩ : ∃ M1, Hid (M1.Perm (L1 ++ R1) ∧ Ris tkey M1 ∧ HoldT g rest w2 (A ++ M1 ++ (L2 ++ R2 ++ S))) := ⟨L1 ++ R1, Lib.hid ⟨List.Perm.refl _, ris_app_nil HR.out.1 HR.out.2.2.1 (by have := HA.out; have := HB.out; have := HAS.out; have := HEB.out; omega), H1.out⟩⟩
      have hC3 : Chg g w w2 := hC1
      obtain ⟨M2, HM2⟩ : ∃ M2, Hid (M2.Perm (L2 ++ R2) ∧ Ris tkey M2 ∧ HoldT g rest w2 (A ++ (M1 ++ M2) ++ S)) := ⟨L2 ++ R2, Lib.hid ⟨List.Perm.refl _, ris_app_nil HR.out.2.1 HR.out.2.2.2 (by have := HA.out; have := HB.out; have := HAS.out; have := HEB.out; omega), by simpa [List.append_assoc] using HM1.out.2.2⟩⟩
      have hC4 : Chg g w w2 := hC3
      have HFN := Lib.hid (HMG.out M1 M2 HM1.out.1 HM2.out.1 HM1.out.2.1 HM2.out.2.1)
      have HF2 := Lib.hid HM2.out.2.2
      clear HMG HM1 HM2 HIH H1
      go_wp2
      go_end0
      exact ⟨rfl, hC4, M1 ++ M2, HFN.out.1, HFN.out.2, by simpa only [List.append_assoc] using HF2.out⟩
     ·have HAS := Lib.hid has
      have HEB := Lib.hid heb
      clear has heb
      have hq0 : (s : Int) < (m : Int) := by have := HA.out; have := HB.out; have := HAS.out; have := HEB.out; omega
      have hq1 : (m : Int) < (e : Int) := by have := HA.out; have := HB.out; have := HAS.out; have := HEB.out; omega
      have hq2 : ¬ (a : Int) < (s : Int) := by have := HA.out; have := HB.out; have := HAS.out; have := HEB.out; omega
      have hq3 : (s : Int) < (mid : Int) := by have := HA.out; have := HB.out; have := HAS.out; have := HEB.out; omega
      have hq4 : (mid : Int) < (e : Int) := by have := HA.out; have := HB.out; have := HAS.out; have := HEB.out; omega
      have hq5 : (e : Int) < (b : Int) := by have := HA.out; have := HB.out; have := HAS.out; have := HEB.out; omega
      go_wp2_with fail
      refine (rotate_calls _ n cap g rest (A ++ L1) L2 R1 (R2 ++ S) wr s m e (by have := HA.out; have := HB.out; have := HAS.out; have := HEB.out; simp only [List.length_append]; omega) hN (by have := HA.out; have := HB.out; have := HAS.out; have := HEB.out; simp only [List.length_append]; omega) (by have := HA.out; have := HB.out; have := HAS.out; have := HEB.out; omega) (by have := HA.out; have := HB.out; have := HAS.out; have := HEB.out; omega) (by have := HA.out; have := HB.out; have := HAS.out; have := HEB.out; omega) (by have := HA.out; have := HB.out; have := HAS.out; have := HEB.out; omega) (by simpa [List.append_assoc] using H0.out)).mono ?_
      rintro ee w2 ⟨rfl, hc2, hH2⟩
      have H1 := Lib.hid (show HoldT g rest w2 (A ++ (L1 ++ R1) ++ (L2 ++ R2 ++ S)) by simpa [List.append_assoc] using hH2)
      have hC1 : Chg g w w2 := (hex.chg g).trans hc2
      clear hH2 hc2
      obtain ⟨M1, HM1⟩ : ∃ M1, Hid (M1.Perm (L1 ++ R1) ∧ Ris tkey M1 ∧ HoldT g rest w2 (A ++ M1 ++ (L2 ++ R2 ++ S))) := ⟨L1 ++ R1, Lib.hid ⟨List.Perm.refl _, ris_app_nil HR.out.1 HR.out.2.2.1 (by have := HA.out; have := HB.out; have := HAS.out; have := HEB.out; omega), H1.out⟩⟩
      have hC3 : Chg g w w2 := hC1
      go_wp2_with fail
      refine (HIH.out (A ++ M1) L2 R2 S w2 mid e b (by have := HA.out; have := HB.out; have := HAS.out; have := HEB.out; omega) (by have := HA.out; have := HB.out; have := HAS.out; have := HEB.out; have := HM1.out.1.length_eq; simp only [List.length_append] at this ⊢; omega) (by have := HA.out; have := HB.out; have := HAS.out; have := HEB.out; have := HM1.out.1.length_eq; simp only [List.length_append] at this ⊢; omega) (by have := HA.out; have := HB.out; have := HAS.out; have := HEB.out; omega) (by have := HA.out; have := HB.out; have := HAS.out; have := HEB.out; omega) (by have := HA.out; have := HB.out; have := HAS.out; have := HEB.out; omega) (by have := HA.out; have := HB.out; have := HAS.out; have := HEB.out; omega) HR.out.2.1 HR.out.2.2.2 (by simpa [List.append_assoc] using HM1.out.2.2)).mono ?_
      rintro ee w4 ⟨rfl, hc4, M2, hp2, hs2, hH4⟩
      have HM2 := Lib.hid (And.intro hp2 (And.intro hs2 (show HoldT g rest w4 (A ++ (M1 ++ M2) ++ S) by simpa [List.append_assoc] using hH4)))
      have hC4 : Chg g w w4 := hC3.trans hc4
      clear hp2 hs2 hH4 hc4
      have HFN := Lib.hid (HMG.out M1 M2 HM1.out.1 HM2.out.1 HM1.out.2.1 HM2.out.2.1)
      have HF2 := Lib.hid HM2.out.2.2
      clear HMG HM1 HM2 HIH H1
      go_wp2
      go_end0
      exact ⟨rfl, hC4, M1 ++ M2, HFN.out.1, HFN.out.2, by simpa only [List.append_assoc] using HF2.out⟩
    ·rcases Nat.eq_or_lt_of_le (show e ≤ b by omega) with heb | heb
     ·have HAS := Lib.hid has
      have HEB := Lib.hid heb
      clear has heb
      exfalso; have := HA.out; have := HB.out; have := HAS.out; have := HEB.out; omega
     ·have HAS := Lib.hid has
      have HEB := Lib.hid heb
      clear has heb
      have hq0 : (s : Int) < (m : Int) := by have := HA.out; have := HB.out; have := HAS.out; have := HEB.out; omega
      have hq1 : (m : Int) < (e : Int) := by have := HA.out; have := HB.out; have := HAS.out; have := HEB.out; omega
      have hq2 : (a : Int) < (s : Int) := by have := HA.out; have := HB.out; have := HAS.out; have := HEB.out; omega
      have hq3 : (s : Int) < (mid : Int) := by have := HA.out; have := HB.out; have := HAS.out; have := HEB.out; omega
      have hq4 : (mid : Int) < (e : Int) := by have := HA.out; have := HB.out; have := HAS.out; have := HEB.out; omega
      have hq5 : (e : Int) < (b : Int) := by have := HA.out; have := HB.out; have := HAS.out; have := HEB.out; omega
      go_wp2_with fail
      refine (rotate_calls _ n cap g rest (A ++ L1) L2 R1 (R2 ++ S) wr s m e (by have := HA.out; have := HB.out; have := HAS.out; have := HEB.out; simp only [List.length_append]; omega) hN (by have := HA.out; have := HB.out; have := HAS.out; have := HEB.out; simp only [List.length_append]; omega) (by have := HA.out; have := HB.out; have := HAS.out; have := HEB.out; omega) (by have := HA.out; have := HB.out; have := HAS.out; have := HEB.out; omega) (by have := HA.out; have := HB.out; have := HAS.out; have := HEB.out; omega) (by have := HA.out; have := HB.out; have := HAS.out; have := HEB.out; omega) (by simpa [List.append_assoc] using H0.out)).mono ?_
      rintro ee w2 ⟨rfl, hc2, hH2⟩
      have H1 := Lib.hid (show HoldT g rest w2 (A ++ (L1 ++ R1) ++ (L2 ++ R2 ++ S)) by simpa [List.append_assoc] using hH2)
      have hC1 : Chg g w w2 := (hex.chg g).trans hc2
      clear hH2 hc2
      go_wp2_with fail
      refine (HIH.out A L1 R1 (L2 ++ R2 ++ S) w2 a s mid (by have := HA.out; have := HB.out; have := HAS.out; have := HEB.out; omega) (by have := HA.out; have := HB.out; have := HAS.out; have := HEB.out; simp only [List.length_append]; omega) (by have := HA.out; omega) (by have := HA.out; have := HB.out; have := HAS.out; have := HEB.out; omega) (by have := HA.out; have := HB.out; have := HAS.out; have := HEB.out; omega) (by have := HA.out; have := HB.out; have := HAS.out; have := HEB.out; omega) (by have := HA.out; have := HB.out; have := HAS.out; have := HEB.out; omega) HR.out.1 HR.out.2.2.1 (by simpa [List.append_assoc] using H1.out)).mono ?_
      rintro ee w3 ⟨rfl, hc3, M1, hp1, hs1, hH3⟩
      have HM1 := Lib.hid (And.intro hp1 (And.intro hs1 hH3))
      have hC3 : Chg g w w3 := hC1.trans hc3
      clear hp1 hs1 hH3 hc3
      go_wp2_with fail
      refine (HIH.out (A ++ M1) L2 R2 S w3 mid e b (by have := HA.out; have := HB.out; have := HAS.out; have := HEB.out; omega) (by have := HA.out; have := HB.out; have := HAS.out; have := HEB.out; have := HM1.out.1.length_eq; simp only [List.length_append] at this ⊢; omega) (by have := HA.out; have := HB.out; have := HAS.out; have := HEB.out; have := HM1.out.1.length_eq; simp only [List.length_append] at this ⊢; omega) (by have := HA.out; have := HB.out; have := HAS.out; have := HEB.out; omega) (by have := HA.out; have := HB.out; have := HAS.out; have := HEB.out; omega) (by have := HA.out; have := HB.out; have := HAS.out; have := HEB.out; omega) (by have := HA.out; have := HB.out; have := HAS.out; have := HEB.out; omega) HR.out.2.1 HR.out.2.2.2 (by simpa [List.append_assoc] using HM1.out.2.2)).mono ?_
      rintro ee w4 ⟨rfl, hc4, M2, hp2, hs2, hH4⟩
      have HM2 := Lib.hid (And.intro hp2 (And.intro hs2 (show HoldT g rest w4 (A ++ (M1 ++ M2) ++ S) by simpa [List.append_assoc] using hH4)))
      have hC4 : Chg g w w4 := hC3.trans hc4
      clear hp2 hs2 hH4 hc4
      have HFN := Lib.hid (HMG.out M1 M2 HM1.out.1 HM2.out.1 HM1.out.2.1 HM2.out.2.1)
      have HF2 := Lib.hid HM2.out.2.2
      clear HMG HM1 HM2 HIH H1
      go_wp2
      go_end0
      exact ⟨rfl, hC4, M1 ++ M2, HFN.out.1, HFN.out.2, by simpa only [List.append_assoc] using HF2.out⟩
  ·obtain ⟨c, hc⟩ : ∃ c, c = (s + r) / 2 := ⟨_, rfl⟩
   obtain ⟨q, hq⟩ : ∃ q, q + c = p := ⟨p - c, by have := HA.out; omega⟩
   obtain ⟨L1, x, L2, HX⟩ : ∃ L1 x L2, Hid (L = L1 ++ x :: L2 ∧ L1.length = c - a ∧ L[c - a]? = some x) := by
    obtain ⟨L1, x, L2, h1, h2, h3⟩ := split_at (R := L) (h := c - a) (by have := HA.out; omega)
    exact ⟨L1, x, L2, Lib.hid ⟨h1, h2, h3⟩⟩
   obtain ⟨R1, y, R2, HY⟩ : ∃ R1 y R2, Hid (R = R1 ++ y :: R2 ∧ R1.length = q - m ∧ R[q - m]? = some y) := by
    obtain ⟨L1, x, L2, h1, h2, h3⟩ := split_at (R := R) (h := q - m) (by have := HA.out; omega)
    exact ⟨L1, x, L2, Lib.hid ⟨h1, h2, h3⟩⟩
   have H5 : Hid (HoldT g rest wr ((A ++ L1) ++ x :: ((L2 ++ R1) ++ y :: (R2 ++ S)))) := by
    have := Hd.out.ext hex
    rw [HX.out.1, HY.out.1] at this
    exact Lib.hid (by simpa [List.append_assoc] using this)
   have HLM : Hid (c = (A ++ L1).length ∧ q = (A ++ L1).length + 1 + (L2 ++ R1).length) := by
    have h0 := HA.out
    obtain ⟨k1, k2, -⟩ := HX.out
    obtain ⟨k3, k4, -⟩ := HY.out
    have k5 := congrArg List.length k1
    simp only [List.length_append, List.length_cons] at k5 ⊢
    exact Lib.hid ⟨by omega, by omega⟩
   have HCc := Lib.hid (H5.out.at (get_at HLM.out.1))
   have HCq := Lib.hid (H5.out.at (get_at2 HLM.out.2))
   obtain ⟨v, hv⟩ : ∃ v : Bool, v = decide (y.c < x.c) := ⟨_, rfl⟩
   have HR := Lib.hid hv
   have HCQ := Lib.hid (And.intro hc hq)
   have hsr' : (s : Int) < (r : Int) := by omega
   have hqn : q < n := by have := HA.out; omega
   have hcn : c < n := by have := HA.out; omega
   have hqn' : (q : Int) < (n : Int) := by omega
   have hcn' : (c : Int) < (n : Int) := by omega
   have hc2 : ((s : Int) + (r : Int)) / 2 = (c : Int) := by omega
   have hq2 : (p : Int) - (c : Int) = (q : Int) := by omega
   have hcr : c < r := by omega
   have hsc : s ≤ c := by omega
   have hrn : r ≤ n := by omega
   clear hv hc hq
   go_wp2_with fail
   refine wp_region_puts [] [PP.val (.func (.func 121) #[] #[]), PP.val (.slice (some ⟨g, 0, none⟩) n cap), PP.val (.int .i64 (p : Int)), PP.val (.int .i64 (c : Int)), PP.val (.int .i64 (q : Int)), PP.val (.pointer (some ⟨g, q * 4, none⟩)), PP.val (.agg #[.int .i64 y.c, .bool y.b, .slice y.a1 y.n1 y.c1, .slice y.a2 y.n2 y.c2]), PP.val (.slice (some ⟨g, 0, none⟩) n cap), PP.val (.int .i64 (c : Int)), PP.val (.pointer (some ⟨g, c * 4, none⟩)), PP.val (.agg #[.int .i64 x.c, .bool x.b, .slice x.a1 x.n1 x.c1, .slice x.a2 x.n2 x.c2]), PP.pred (fun v => ∃ z : Int, v = .int .i64 z ∧ (z < 0 ↔ y.c < x.c)), PP.val (.bool v), PP.val (.bool (!v))] [] [0, 1, 2, 3, 4, 5, 6, 7, 8, 9, 10, 11, 12, 13]
    (by kernel_rfl) (by kernel_rfl) (fun f => (by simp only [fillR, fillL, List.setIfInBounds_toArray, List.set_cons_succ, List.set_cons_zero, Nat.reduceAdd]; rfl)) ?_ ?_ ?_ ?_ ?_
   ·intro x hx; cases hx
   ·intro x hx; cases hx
   ·intro x hx; cases hx
   ·refine ⟨?o0, ?o1, ?o2, ?o3, ?o4, ?o5, ?o6, ?o7, ?o8, ?o9, ?o10, ?o11, ?o12, ?o13, trivial⟩
    case o0 =>
     intro f w2 hG hp hl
     have hE : Ext wr w2 := hG
     have hS := hE.size
     simp only [OpGoal]
     go_simp
     exact ⟨_, rfl, Ext.refl _, rfl⟩
    case o1 =>
     intro f w2 hG hp hl
     have hE : Ext wr w2 := hG
     have hS := hE.size
     simp only [OpGoal]
     go_simp
     exact ⟨_, rfl, Ext.refl _, rfl⟩
    case o2 =>
     intro f w2 hG hp hl
     have hE : Ext wr w2 := hG
     have hS := hE.size
     simp only [OpGoal]
     go_simp
     exact ⟨_, rfl, Ext.refl _, rfl⟩
    case o3 =>
     intro f w2 hG hp hl
     have hE : Ext wr w2 := hG
     have hS := hE.size
     simp only [OpGoal]
     go_simp
     exact ⟨_, rfl, Ext.refl _, rfl⟩
    case o4 =>
     intro f w2 hG hp hl
     have hE : Ext wr w2 := hG
     have hS := hE.size
     have q160 : f 2 = .int .i64 (p : Int) := tellV hp 0 2 rfl rfl (fun h => by cases h)
     have q161 : f 3 = .int .i64 (c : Int) := tellV hp 1 3 rfl rfl (fun h => by cases h)
     simp only [OpGoal]
     go_simp
     first
     | exact ⟨_, rfl, Ext.refl _, rfl⟩
     | exact ⟨_, rfl, Ext.refl _, congrArg (Value.int .i64) (Go.IntWalk.i64_in _ ⟨by omega, by omega⟩)⟩
    case o5 =>
     intro f w2 hG hp hl
     have hE : Ext wr w2 := hG
     have hS := hE.size
     have q159 : f 1 = .slice (some ⟨g, 0, none⟩) n cap := tellV hp 0 1 rfl rfl (fun h => by cases h)
     have q162 : f 4 = .int .i64 (q : Int) := tellV hp 1 4 rfl rfl (fun h => by cases h)
     simp only [OpGoal]
     go_simp
     exact ⟨_, rfl, Ext.refl _, rfl⟩
    case o6 =>
     intro f w2 hG hp hl
     have hE : Ext wr w2 := hG
     have hS := hE.size
     have q163 : f 5 = .pointer (some ⟨g, q * 4, none⟩) := tellV hp 0 5 rfl rfl (fun h => by cases h)
     change OpGoal _ _ _ f w2 Ext _
     exact og_loadAt (P := Try.prog) _ _ g (q * 4) _ _ rfl rfl q163 (fun j v h => HCq.out _ hE j v h) Try.underlying106 rfl (by kernel_rfl) rfl
    case o7 =>
     intro f w2 hG hp hl
     have hE : Ext wr w2 := hG
     have hS := hE.size
     simp only [OpGoal]
     go_simp
     exact ⟨_, rfl, Ext.refl _, rfl⟩
    case o8 =>
     intro f w2 hG hp hl
     have hE : Ext wr w2 := hG
     have hS := hE.size
     simp only [OpGoal]
     go_simp
     exact ⟨_, rfl, Ext.refl _, rfl⟩
    case o9 =>
     intro f w2 hG hp hl
     have hE : Ext wr w2 := hG
     have hS := hE.size
     have q165 : f 7 = .slice (some ⟨g, 0, none⟩) n cap := tellV hp 0 7 rfl rfl (fun h => by cases h)
     have q166 : f 8 = .int .i64 (c : Int) := tellV hp 1 8 rfl rfl (fun h => by cases h)
     simp only [OpGoal]
     go_simp
     exact ⟨_, rfl, Ext.refl _, rfl⟩
    case o10 =>
     intro f w2 hG hp hl
     have hE : Ext wr w2 := hG
     have hS := hE.size
     have q167 : f 9 = .pointer (some ⟨g, c * 4, none⟩) := tellV hp 0 9 rfl rfl (fun h => by cases h)
     change OpGoal _ _ _ f w2 Ext _
     exact og_loadAt (P := Try.prog) _ _ g (c * 4) _ _ rfl rfl q167 (fun j v h => HCc.out _ hE j v h) Try.underlying106 rfl (by kernel_rfl) rfl
    case o11 =>
     intro f w2 hG hp hl
     have hE : Ext wr w2 := hG
     have hS := hE.size
     have q158 : f 0 = .func (.func 121) #[] #[] := tellV hp 0 0 rfl rfl (fun h => by cases h)
     have q164 : f 6 = .agg #[.int .i64 y.c, .bool y.b, .slice y.a1 y.n1 y.c1, .slice y.a2 y.n2 y.c2] := tellV hp 1 6 rfl rfl (fun h => by cases h)
     have q168 : f 10 = .agg #[.int .i64 x.c, .bool x.b, .slice x.a1 x.n1 x.c1, .slice x.a2 x.n2 x.c2] := tellV hp 2 10 rfl rfl (fun h => by cases h)
     change OpGoal _ _ _ f w2 Ext _
     refine og_callv (P := Try.prog) _ _ _ _ #[f 6, f 10] Try.func121 (by kernel_rfl) (by kernel_rfl) rfl rfl q158 (by kernel_rfl) ?_
     rw [q164, q168]
     refine (cmpT_calls y x _).mono ?_
     rintro e w' ⟨z, rfl, h1, h2⟩
     exact ⟨_, rfl, h2, z, rfl, h1⟩
    case o12 =>
     intro f w2 hG hp hl
     have hE : Ext wr w2 := hG
     have hS := hE.size
     have q169 := tellV hp 0 11 rfl rfl (fun _ => hE)
     obtain ⟨z, hz, hzz⟩ := q169
     simp only [OpGoal]
     go_simp
     exact ⟨_, rfl, Ext.refl _, congrArg Value.bool (by first | (rw [HR.out]; done) | (rw [HR.out]; exact decide_eq_decide.2 hzz))⟩
    case o13 =>
     intro f w2 hG hp hl
     have hE : Ext wr w2 := hG
     have hS := hE.size
     have q170 : f 12 = .bool v := tellV hp 0 12 rfl rfl (fun h => by cases h)
     simp only [OpGoal]
     go_simp
     exact ⟨_, rfl, Ext.refl _, rfl⟩
   ·intro f w2 hG hp
    have hE : Ext wr w2 := ChgS.nil hG
    have q171 : f 13 = .bool (!v) := endV hp 13 (by decide) rfl (fun h => by cases h)
    try simp only [q171]
    clear hp
    cases v with
    | true =>
     go_wp2
     go_roundw
     case rel =>
      refine ⟨s, c, rfl, rfl, hs, hsc, by omega, Lib.hid ⟨hF.out.1, .inr ⟨y, x, ?_, HX.out.2.2, ?_⟩⟩, hex.trans hE⟩
      ·have := HY.out.2.2
       rw [show mid - 1 - c = q - m by have := HCQ.out; have := HA.out; omega]
       exact this
      ·have := of_decide_eq_true HR.out.symm
       show y.c ≤ x.c
       omega
     case measure => simp [intOf]; omega
    | false =>
     obtain ⟨c1, hc1⟩ : ∃ c1 : Nat, c1 = c + 1 := ⟨_, rfl⟩
     have hc3 : (c : Int) + 1 = (c1 : Int) := by omega
     have HH := Lib.hid hc1
     clear hc1
     go_wp2
     go_roundw
     case rel =>
      refine ⟨c1, r, rfl, rfl, by omega, by omega, hr, Lib.hid ⟨.inr ⟨x, y, ?_, ?_, ?_⟩, hF.out.2⟩, hex.trans hE⟩
      ·rw [show c1 - 1 - a = c - a by have := HH.out; omega]
       exact HX.out.2.2
      ·have := HY.out.2.2
       rw [show mid - c1 = q - m by have := HCQ.out; have := HA.out; have := HH.out; omega]
       exact this
      ·have := of_decide_eq_false HR.out.symm
       show x.c ≤ y.c
       omega
     case measure => simp [intOf]; omega
theorem symMerge_calls (n cap g : Nat) (rest : List Value) (hN : n ≤ 35184372088832) : ∀ (dd : Nat) (A L R S : List TmC) (w : World) (a m b : Nat), L.length + R.length ≤ dd → n = (A ++ L ++ R ++ S).length → a = A.length → m = a + L.length → b = m + R.length → 0 < L.length → 0 < R.length → Ris tkey L → Ris tkey R → HoldT g rest w (A ++ L ++ R ++ S) →
   Calls Try.prog 142 #[.slice (some ⟨g, 0, none⟩) n cap, .int .i64 (a : Int), .int .i64 (m : Int), .int .i64 (b : Int), .func (.func 121) #[] #[]] w fun e w' => e = .returned (.tuple #[]) ∧ Chg g w w' ∧ ∃ M, M.Perm (L ++ R) ∧ Ris tkey M ∧ HoldT g rest w' (A ++ M ++ S) := by
 intro dd
 induction dd with
 | zero => intro A L R S w a m b hd; omega
 | succ dd ih =>
  intro A L R S w a m b hd hn ha hm hb hL0 hR0 hL hR hH
  rcases Nat.eq_or_lt_of_le (show 1 ≤ L.length from hL0) with hL1 | hL1
  ·match L, hL1 with
   | [y], _ => exact symMerge_one n cap g rest A R S y w a m b hn hN ha hm hb hR0 hR hH
  ·rcases Nat.eq_or_lt_of_le (show 1 ≤ R.length from hR0) with hR1 | hR1
   ·match R, hR1 with
    | [y], _ => exact symMerge_last n cap g rest A L S y w a m b hn hN ha hm hb hL1 hL hH
   ·rcases Nat.lt_or_ge ((a + b) / 2) m with hgt | hle
    ·exact symMerge_gt n cap g rest dd ih A L R S w a m b _ hd hn hN ha hm hb hL1 hR1 hL hR hH rfl hgt
    ·exact symMerge_le n cap g rest dd ih A L R S w a m b _ hd hn hN ha hm hb hL1 hR1 hL hR hH rfl hle
end Go.Proofs.Ytdmjgjcljbogiaa
/-
 Terms in a list of one's own: sorted by their places (slices.SortStableFunc).
-/
namespace Go.Proofs.Ytdmjgjcljbogiaa
set_option maxRecDepth 100000
set_option maxHeartbeats 1000000
open Go.RowKit
set_option linter.unusedVariables false
set_option linter.unusedSimpArgs false
theorem split_len {T : List TmC} {k : Nat} (h : k ≤ T.length) : ∃ C T', T = C ++ T' ∧ C.length = k := ⟨T.take k, T.drop k, (List.take_append_drop _ _).symm, by rw [List.length_take]; omega⟩
set_option maxHeartbeats 16000000 in
theorem stable_calls (n cap g : Nat) (rest : List Value) (l : List TmC) (w : World) (hn : n = l.length) (hN : n ≤ 35184372088832) (hH : HoldT g rest w l) :
  Calls Try.prog 137 #[.slice (some ⟨g, 0, none⟩) n cap, .int .i64 (n : Int), .func (.func 121) #[] #[]] w fun e w' => e = .returned (.tuple #[]) ∧ Chg g w w' ∧ ∃ l', l'.Perm l ∧ Ris tkey l' ∧ HoldT g rest w' l' := by
 have Hn := Lib.hid hn
 have Hd := Lib.hid hH
 clear hn hH
 go_enter Try.func137, Try.ntmps137
 go_wp2_with fail
 go_loopw [7, 8] (fun s7 s8 wr => ∃ (a b : Nat), s7 = .int .i64 (a : Int) ∧ s8 = .int .i64 (b : Int) ∧ b = a + 20 ∧ a ≤ n ∧ Hid (∃ F T, Ful tkey 20 F ∧ (F ++ T).Perm l ∧ F.length = a ∧ HoldT g rest wr (F ++ T)) ∧ Chg g w wr) (fun s7 s8 _ => ((n : Int) + 20 - intOf s8).toNat)
 case atStart => exact ⟨0, 20, rfl, rfl, rfl, by omega, Lib.hid ⟨[], l, .nil, List.Perm.refl _, rfl, by simpa using Hd.out⟩, Chg.refl _ _⟩
 case round =>
  obtain ⟨a, b, rfl, rfl, hb, ha, hH, hch⟩ := hrel
  have HB := Lib.hid hb
  clear hb
  by_cases hbn : b ≤ n
  ·obtain ⟨F, C, T, HF⟩ : ∃ F C T, Hid (Ful tkey 20 F ∧ (F ++ C ++ T).Perm l ∧ F.length = a ∧ HoldT g rest wr (F ++ C ++ T) ∧ C.length = 20 ∧ n = F.length + C.length + T.length) := by
    obtain ⟨F, T, h1, h2, h3, h4⟩ := hH.out
    have hl := h2.length_eq
    rw [List.length_append, ← Hn.out] at hl
    obtain ⟨C, T', h5, h6⟩ := split_len (T := T) (k := 20) (by have := HB.out; omega)
    subst h5
    rw [List.length_append] at hl
    exact ⟨F, C, T', Lib.hid ⟨h1, by simpa [List.append_assoc] using h2, h3, by simpa [List.append_assoc] using h4, h6, by omega⟩⟩
   have hbn' : (b : Int) ≤ (n : Int) := by omega
   obtain ⟨b2, hb2⟩ : ∃ b2 : Nat, b2 = b + 20 := ⟨_, rfl⟩
   have hb2' : (b : Int) + 20 = (b2 : Int) := by omega
   have HB2 := Lib.hid hb2
   clear hb2 hH
   go_wp2_with fail
   refine (insertion_calls n cap g rest F C T wr a b (by have := HF.out.2.2.2.2; simp only [List.length_append]; omega) hN HF.out.2.2.1.symm (by have := HF.out.2.2.2.2.1; have := HB.out; omega) HF.out.2.2.2.1).mono ?_
   rintro ee w2 ⟨rfl, hc2, C', hp2, hs2, hH2⟩
   have HC := Lib.hid (And.intro hp2 (And.intro hs2 hH2))
   clear hp2 hs2 hH2
   go_wp2
   go_roundw
   case rel =>
    obtain ⟨h1, h2, h3, h4, h5, h6⟩ := HF.out
    obtain ⟨k1, k2, k3⟩ := HC.out
    have k4 := k1.length_eq
    refine ⟨b, b2, rfl, rfl, HB2.out, hbn, Lib.hid ⟨F ++ C', T, .snoc F C' (by omega) k2 h1, ?_, by rw [List.length_append]; have := HB.out; omega, k3⟩, hch.trans hc2⟩
    exact ((k1.append_left F).append_right T).trans h2
   case measure => have := HB2.out; simp [intOf]; omega
  ·have hbn' : ¬ (b : Int) ≤ (n : Int) := by omega
   obtain ⟨F, T, HF⟩ : ∃ F T, Hid (Ful tkey 20 F ∧ (F ++ T).Perm l ∧ F.length = a ∧ HoldT g rest wr (F ++ T) ∧ n = F.length + T.length) := by
    obtain ⟨F, T, h1, h2, h3, h4⟩ := hH.out
    have hl := h2.length_eq
    rw [List.length_append, ← Hn.out] at hl
    exact ⟨F, T, Lib.hid ⟨h1, h2, h3, h4, by omega⟩⟩
   clear hH
   go_wp2_with fail
   refine (insertion_calls n cap g rest F T [] wr a n (by have := HF.out.2.2.2.2; simp only [List.length_append, List.length_nil]; omega) hN HF.out.2.2.1.symm (by have := HF.out.2.2.2.2; have := HF.out.2.2.1; omega) (by rw [List.append_nil]; exact HF.out.2.2.2.1)).mono ?_
   rintro ee w2 ⟨rfl, hc2, T', hp2, hs2, hH2⟩
   rw [List.append_nil] at hH2
   have HL : Hid (∃ l', l'.Perm l ∧ Blk tkey 20 l' ∧ HoldT g rest w2 l') := by
    obtain ⟨h1, h2, h3, h4, h5⟩ := HF.out
    have k := hp2.length_eq
    exact Lib.hid ⟨F ++ T', (hp2.append_left F).trans h2, h1.blk (.short T' (by have := HB.out; omega) hs2), hH2⟩
   have hC2 : Chg g w w2 := hch.trans hc2
   clear hp2 hs2 hH2 HF HB hch hc2 hbn hbn' ha
   go_wp2_with fail
   go_loopw [6] (fun s6 wr => ∃ (bs : Nat), s6 = .int .i64 (bs : Int) ∧ 20 ≤ bs ∧ bs ≤ 70368744177664 ∧ Hid (∃ l', l'.Perm l ∧ Blk tkey bs l' ∧ HoldT g rest wr l') ∧ Chg g w wr) (fun s6 _ => ((n : Int) - intOf s6).toNat)
   case atStart => exact ⟨20, rfl, Nat.le_refl _, by omega, HL, hC2⟩
   case round =>
    obtain ⟨bs, rfl, hbs0, hbs1, hH, hch⟩ := hrel
    by_cases hlt : bs < n
    case neg =>
     have hlt' : ¬ (bs : Int) < (n : Int) := by omega
     have HFF : Hid (∃ l', l'.Perm l ∧ Ris tkey l' ∧ HoldT g rest wr l') := by
      obtain ⟨l', h1, h2, h3⟩ := hH.out
      exact Lib.hid ⟨l', h1, h2.all (by omega) (by rw [h1.length_eq, ← Hn.out]; omega), h3⟩
     clear hH HL
     go_wp2
     go_end0
     exact ⟨rfl, hch, HFF.out⟩
    case pos =>
     have hlt' : (bs : Int) < (n : Int) := by omega
     obtain ⟨bb, hbb⟩ : ∃ bb : Nat, bb = 2 * bs := ⟨_, rfl⟩
     have hbb1 : 2 * (bs : Int) = (bb : Int) := by omega
     have hbb2 : (bs : Int) * 2 = (bb : Int) := by omega
     have hbbl : bb ≤ 70368744177664 := by omega
     have HBB := Lib.hid hbb
     obtain ⟨wo, hwo⟩ : ∃ wo, wo = wr := ⟨wr, rfl⟩
     subst hwo
     clear hbb HL
     go_wp2_with fail
     go_loopw [7, 8] (fun s7 s8 wq => ∃ (a b : Nat), s7 = .int .i64 (a : Int) ∧ s8 = .int .i64 (b : Int) ∧ Hid (b = a + bb) ∧ a ≤ n ∧ b ≤ n + bb ∧ Hid (∃ F T, Ful tkey bb F ∧ Blk tkey bs T ∧ (F ++ T).Perm l ∧ F.length = a ∧ HoldT g rest wq (F ++ T)) ∧ Chg g wo wq) (fun s7 s8 _ => ((n : Int) + (bb : Int) - intOf s8).toNat)
     case atStart =>
      obtain ⟨l', h1, h2, h3⟩ := hH.out
      exact ⟨0, bb, rfl, rfl, Lib.hid (by omega), by omega, by omega, Lib.hid ⟨[], l', .nil, h2, h1, rfl, h3⟩, Chg.refl _ _⟩
     case round =>
      obtain ⟨a, b, rfl, rfl, HB, ha, hbl, hI, hcq⟩ := hrel
      obtain ⟨m, hm⟩ : ∃ m : Nat, m = a + bs := ⟨_, rfl⟩
      have hm' : (a : Int) + (bs : Int) = (m : Int) := by omega
      have hml : m ≤ n + bs := by omega
      have HM := Lib.hid hm
      clear hm
      by_cases hbn : b ≤ n
      ·obtain ⟨F, C, D, T, HF⟩ : ∃ F C D T, Hid (Ful tkey bb F ∧ Blk tkey bs T ∧ (F ++ C ++ D ++ T).Perm l ∧ F.length = a ∧ HoldT g rest wr (F ++ C ++ D ++ T) ∧ C.length = bs ∧ D.length = bs ∧ Ris tkey C ∧ Ris tkey D ∧ n = F.length + C.length + D.length + T.length) := by
        obtain ⟨F, T, h1, h2, h3, h4, h5⟩ := hI.out
        have hl := h3.length_eq
        rw [List.length_append, ← Hn.out] at hl
        have hb1 := HB.out
        have hb2 := HBB.out
        obtain ⟨C, T', rfl, h6, h7, h8⟩ := h2.first (by omega) (by omega)
        rw [List.length_append] at hl
        obtain ⟨D, T2, rfl, h9, h10, h11⟩ := h8.first (by omega) (by omega)
        rw [List.length_append] at hl
        exact ⟨F, C, D, T2, Lib.hid ⟨h1, h11, by simpa [List.append_assoc] using h3, h4, by simpa [List.append_assoc] using h5, h6, h9, h7, h10, by omega⟩⟩
       have hbn' : (b : Int) ≤ (n : Int) := by omega
       obtain ⟨b2, hb2⟩ : ∃ b2 : Nat, b2 = b + bb := ⟨_, rfl⟩
       have hb2' : (b : Int) + (bb : Int) = (b2 : Int) := by omega
       have hb2l : b2 ≤ n + bb := by omega
       have HB2 := Lib.hid hb2
       clear hb2 hI
       go_wp2_with fail
       refine (symMerge_calls n cap g rest hN _ F C D T wr a m b (Nat.le_refl _) (by have := HF.out.2.2.2.2.2; simp only [List.length_append]; omega) HF.out.2.2.2.1.symm (by have := HF.out.2.2.2.2.2.1; have := HM.out; omega) (by have := HF.out.2.2.2.2.2.2.1; have := HM.out; have := HB.out; have := HBB.out; omega) (by have := HF.out.2.2.2.2.2.1; omega) (by have := HF.out.2.2.2.2.2.2.1; omega) HF.out.2.2.2.2.2.2.2.1 HF.out.2.2.2.2.2.2.2.2.1 HF.out.2.2.2.2.1).mono ?_
       rintro ee w2 ⟨rfl, hc2, M, hp2, hs2, hH2⟩
       have HC := Lib.hid (And.intro hp2 (And.intro hs2 hH2))
       clear hp2 hs2 hH2
       go_wp2
       go_roundw
       case rel =>
        obtain ⟨h1, h2, h3, h4, h5, h6, h7, h8, h9, h10⟩ := HF.out
        obtain ⟨k1, k2, k3⟩ := HC.out
        have k4 := k1.length_eq
        rw [List.length_append] at k4
        have hb1 := HB.out
        have hb2 := HBB.out
        refine ⟨b, b2, rfl, rfl, HB2, hbn, hb2l, Lib.hid ⟨F ++ M, T, .snoc F M (by omega) k2 h1, h2, ?_, by rw [List.length_append]; omega, k3⟩, hcq.trans hc2⟩
        refine ((k1.append_left F).append_right T).trans ?_
        simpa [List.append_assoc] using h3
       case measure => have := HB2.out; have := HBB.out; simp [intOf]; omega
      ·have hbn' : ¬ (b : Int) ≤ (n : Int) := by omega
       by_cases hmn : m < n
       ·obtain ⟨F, C, T, HF⟩ : ∃ F C T, Hid (Ful tkey bb F ∧ (F ++ C ++ T).Perm l ∧ F.length = a ∧ HoldT g rest wr (F ++ C ++ T) ∧ C.length = bs ∧ Ris tkey C ∧ Ris tkey T ∧ n = F.length + C.length + T.length) := by
         obtain ⟨F, T, h1, h2, h3, h4, h5⟩ := hI.out
         have hl := h3.length_eq
         rw [List.length_append, ← Hn.out] at hl
         have hb1 := HB.out
         have hb2 := HBB.out
         have hm1 := HM.out
         obtain ⟨C, T', rfl, h6, h7, h8⟩ := h2.first (by omega) (by omega)
         rw [List.length_append] at hl
         exact ⟨F, C, T', Lib.hid ⟨h1, by simpa [List.append_assoc] using h3, h4, by simpa [List.append_assoc] using h5, h6, h7, h8.all (by omega) (by omega), by omega⟩⟩
        have hmn' : (m : Int) < (n : Int) := by omega
        clear hI
        go_wp2_with fail
        refine (symMerge_calls n cap g rest hN _ F C T [] wr a m n (Nat.le_refl _) (by have := HF.out.2.2.2.2; simp only [List.length_append, List.length_nil]; omega) HF.out.2.2.1.symm (by have := HF.out.2.2.2.2.1; have := HM.out; omega) (by have := HF.out.2.2.2.2; have := HF.out.2.2.1; have := HM.out; omega) (by have := HF.out.2.2.2.2.1; omega) (by have := HF.out.2.2.2.2; have := HF.out.2.2.1; have := HM.out; omega) HF.out.2.2.2.2.2.1 HF.out.2.2.2.2.2.2.1 (by rw [List.append_nil]; exact HF.out.2.2.2.1)).mono ?_
        rintro ee w2 ⟨rfl, hc2, M, hp2, hs2, hH2⟩
        rw [List.append_nil] at hH2
        have HC := Lib.hid (And.intro hp2 (And.intro hs2 hH2))
        clear hp2 hs2 hH2
        go_wp2
        go_roundw
        case rel =>
         obtain ⟨h1, h2, h3, h4, h5, h6, h7, h8⟩ := HF.out
         obtain ⟨k1, k2, k3⟩ := HC.out
         have k4 := k1.length_eq
         rw [List.length_append] at k4
         have hb1 := HB.out
         have hb2 := HBB.out
         refine ⟨bb, rfl, by omega, hbbl, Lib.hid ⟨F ++ M, (k1.append_left F).trans (by simpa [List.append_assoc] using h2), h1.blk (.short M (by omega) k2), k3⟩, (hch.trans hcq).trans hc2⟩
        case measure => have := HBB.out; simp [intOf]; omega
       ·have hmn' : ¬ (m : Int) < (n : Int) := by omega
        have HC : Hid (∃ l', l'.Perm l ∧ Blk tkey bb l' ∧ HoldT g rest wr l') := by
         obtain ⟨F, T, h1, h2, h3, h4, h5⟩ := hI.out
         have hl := h3.length_eq
         rw [List.length_append, ← Hn.out] at hl
         have hb1 := HB.out
         have hb2 := HBB.out
         have hm1 := HM.out
         exact Lib.hid ⟨F ++ T, h3, h1.blk (.short T (by omega) (h2.all (by omega) (by omega))), h5⟩
        clear hI
        go_wp2
        go_roundw
        case rel => exact ⟨bb, rfl, by have := HBB.out; omega, hbbl, HC, hch.trans hcq⟩
        case measure => have := HBB.out; simp [intOf]; omega
theorem sortT_calls (n cap g : Nat) (rest : List Value) (l : List TmC) (w : World) (hn : n = l.length) (hN : n ≤ 35184372088832) (hH : HoldT g rest w l) :
  Calls Try.prog 120 #[.slice (some ⟨g, 0, none⟩) n cap, .func (.func 121) #[] #[]] w fun e w' => e = .returned (.tuple #[]) ∧ Chg g w w' ∧ ∃ l', l'.Perm l ∧ Ris tkey l' ∧ HoldT g rest w' l' := by
 have Hd := Lib.hid (stable_calls n cap g rest l w hn hN hH)
 clear hn hH
 go_enter Try.func120, Try.ntmps120
 go_wp2_with fail
 refine Hd.out.mono ?_
 rintro ee w2 ⟨rfl, hc2, hH2⟩
 have H2 := Lib.hid hH2
 clear hH2 Hd
 go_wp2
 go_end0
 exact ⟨rfl, hc2, H2.out⟩
end Go.Proofs.Ytdmjgjcljbogiaa
