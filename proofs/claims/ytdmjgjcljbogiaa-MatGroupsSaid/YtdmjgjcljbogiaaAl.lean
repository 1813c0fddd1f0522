/-
 A region that draws its order, calls, makes new things (structs without whole numbers in their cells) and stores into those. Plain but for two types' numbers.
-/
import Derived.Test.YtdmjgjcljbogiaaRatA
namespace Go.Proofs.Ytdmjgjcljbogiaa
set_option maxRecDepth 100000
set_option maxHeartbeats 1000000
open Go.RowKit
set_option linter.unusedVariables false
set_option linter.unusedSimpArgs false
def NoInt (cs : Array Value) : Prop := ∀ v ∈ cs.toList, ∀ k z, v ≠ .int k z
def SChg (S : Nat) (w1 w2 : World) : Prop := ∃ g t cs cs', S ≤ g ∧ t ≠ 88 ∧ t ≠ 3 ∧ NoInt cs ∧ Bx t w1 g cs ∧ Bx t w2 g cs' ∧ Chg g w1 w2
theorem Rd.schg {S : Nat} {w1 w2 : World} {ad : Option Addr} {k : IntKind} {xs : List Nat} (h : Rd w1 ad (vals k xs)) (hc : SChg S w1 w2) : Rd w2 ad (vals k xs) := by
 obtain ⟨g, t, cs, cs', _, _, _, hno, hb, _, hch⟩ := hc
 rcases h with h | ⟨b, off, rfl, h⟩
 ·exact .inl h
 ·by_cases hbg : b = g
  ·subst hbg
   cases xs with
   | nil => exact .inl rfl
   | cons x xs =>
    have h0 := h 0 (.int k x) rfl
    rw [hb.cell] at h0
    have := hno _ (Array.mem_toList_iff.2 (Array.mem_of_getElem? h0)) k x
    exact absurd rfl this
  ·refine .inr ⟨b, off, rfl, fun i v hi => ?_⟩
   have := h i v hi
   rw [← this]
   exact World.cell?_of_block (w := w1) (hch.heap (World.block_lt_of_cell? w1 ⟨b, off + i, none⟩ this) hbg)
theorem Own.schg {S : Nat} {e : TypeId} {B : Nat} {w1 w2 : World} {ad : Option Addr} {cap : Nat} {xs : List Value} (h : Own e B w1 ad cap xs) (hc : SChg S w1 w2) (he : e = 88 ∨ e = 3) : Own e B w2 ad cap xs := by
 obtain ⟨g, t, cs, cs', _, ht1, ht2, hno, hb, _, hch⟩ := hc
 rcases h with h | ⟨g', cur, h1, h2, h3, h4⟩
 ·exact .inl h
 ·refine .inr ⟨g', cur, h1, h2, hch.blk h3 ?_, h4⟩
  rintro rfl
  unfold Bx at hb
  rw [h3] at hb
  simp only [Option.some.injEq, Obj.cells.injEq] at hb
  rcases he with he | he
  ·exact ht1 (hb.2.1 ▸ he)
  ·exact ht2 (hb.2.1 ▸ he)
theorem IsN.schg {S : Nat} {w1 w2 : World} {k : IntKind} {B n : Nat} {v : Value} (h : IsN k B w1 v n) (hc : SChg S w1 w2) : IsN k B w2 v n := by
 obtain ⟨xs, ⟨ad, cap, h1, h2, h3, h4⟩, h5⟩ := h
 exact ⟨xs, ⟨ad, cap, h1, h2, h3, h4.schg hc⟩, h5⟩
theorem FrN.schg {S : Nat} {w1 w2 : World} {e : TypeId} {k : IntKind} {B B0 n : Nat} {v : Value} (h : FrN e k B B0 w1 v n) (hc : SChg S w1 w2) (he : e = 88 ∨ e = 3) : FrN e k B B0 w2 v n := by
 obtain ⟨ad, cap, h1, h2, h3, h4⟩ := h
 exact ⟨ad, cap, h1, h2, h3, h4.schg hc he⟩
theorem FrZ.schg {S : Nat} {w1 w2 : World} {B0 : Nat} {v : Value} {z : Int} (h : FrZ B0 w1 v z) (hc : SChg S w1 w2) : FrZ B0 w2 v z := by
 obtain ⟨s, h1, h2⟩ := h
 exact ⟨s, h1, h2.schg hc (.inl rfl)⟩
theorem FrQ.schg {S : Nat} {w1 w2 : World} {B0 : Nat} {v : Value} {q : Rat} (h : FrQ B0 w1 v q) (hc : SChg S w1 w2) : FrQ B0 w2 v q := by
 obtain ⟨s, t, h1, h2, h3⟩ := h
 exact ⟨s, t, h1, h2.schg hc (.inl rfl), h3.schg hc (.inl rfl)⟩
structure PA (S : Nat) where
 p : Value → World → Prop
 m : ∀ v w1 w2, Ext w1 w2 → p v w1 → p v w2
 m3 : ∀ v w1 w2, SChg S w1 w2 → p v w1 → p v w2
def PA.val {S : Nat} (v : Value) : PA S := ⟨fun u _ => u = v, fun _ _ _ _ h => h, fun _ _ _ _ h => h⟩
def PA.any {S : Nat} : PA S := ⟨fun _ _ => True, fun _ _ _ _ h => h, fun _ _ _ _ h => h⟩
def PA.isN {S : Nat} (n : Nat) : PA S := ⟨fun u w => IsN .u64 W w u n, fun _ _ _ h hp => hp.ext h, fun _ _ _ h hp => hp.schg h⟩
def PA.frN {S : Nat} (n : Nat) : PA S := ⟨fun u w => FrN 88 .u64 W S w u n, fun _ _ _ h hp => hp.ext h, fun _ _ _ h hp => hp.schg h (.inl rfl)⟩
def PA.frZ {S : Nat} (z : Int) : PA S := ⟨fun u w => FrZ S w u z, fun _ _ _ h hp => hp.ext h, fun _ _ _ h hp => hp.schg h⟩
def PA.frQ {S : Nat} (q : Rat) : PA S := ⟨fun u w => FrQ S w u q, fun _ _ _ h hp => hp.ext h, fun _ _ _ h hp => hp.schg h⟩
theorem FrZ.parts {B0 : Nat} {w : World} {v : Value} {z : Int} (h : FrZ B0 w v z) : ∃ cells, v = .agg cells ∧ cells.size = 2 ∧ cells.all (·.oneCell') = true ∧ NoInt cells := by
 obtain ⟨s, rfl, hn⟩ := h
 obtain ⟨ad, cap, rfl⟩ := hn.slice
 exact ⟨_, rfl, rfl, all2 rfl rfl, by intro v hv k z; simp at hv; rcases hv with rfl | rfl <;> simp⟩
theorem FrQ.parts {B0 : Nat} {w : World} {v : Value} {q : Rat} (h : FrQ B0 w v q) : ∃ cells, v = .agg cells ∧ cells.size = 3 ∧ cells.all (·.oneCell') = true ∧ NoInt cells := by
 obtain ⟨s, t, rfl, hn, hm⟩ := h
 obtain ⟨ad, cap, rfl⟩ := hn.slice
 obtain ⟨ad2, cap2, rfl⟩ := hm.slice
 exact ⟨_, rfl, rfl, all3 rfl rfl rfl, by intro v hv k z; simp at hv; rcases hv with rfl | rfl | rfl <;> simp⟩
theorem noInt2 (b : Bool) (a : Option Addr) (n c : Nat) : NoInt #[.bool b, .slice a n c] := by intro v hv k z; simp at hv; rcases hv with rfl | rfl <;> simp
theorem noInt3 (b : Bool) (a : Option Addr) (n c : Nat) (a2 : Option Addr) (n2 c2 : Nat) : NoInt #[.bool b, .slice a n c, .slice a2 n2 c2] := by intro v hv k z; simp at hv; rcases hv with rfl | rfl | rfl <;> simp
end Go.Proofs.Ytdmjgjcljbogiaa
