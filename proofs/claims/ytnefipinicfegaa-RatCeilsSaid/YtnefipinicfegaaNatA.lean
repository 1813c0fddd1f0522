/-
  nat: the number without its noughts at the end, which of two is the greater, how many bits.
-/
import Derived.Test.YtnefipinicfegaaProg
import Derived.Test.YtnefipinicfegaaBase
import Derived.Test.YtnefipinicfegaaReg
import Derived.WalkSpells
import Derived.WalkLawsBesides
import Derived.Deep.QuietTactic
import Derived.BigQuiet
import Derived.Handy
namespace Go.Proofs.Ytnefipinicfegaa
open Go.RowKit
set_option linter.unusedVariables false
set_option linter.unusedSimpArgs false

theorem tz_zero (xs : List Nat) (j : Nat) (h : j < xs.length) (h0 : ((xs[j] : Int) == 0) = true) (ht : Hid (tz xs = tz (xs.take (j+1)))) : Hid (tz xs = tz (xs.take j)) := by
  have h1 : xs[j] = 0 := by simpa using h0
  show tz xs = tz (xs.take j)
  rw [ht.out, List.take_succ_eq_append_getElem h, h1, tz_snoc_zero]
theorem tz_stop (xs : List Nat) (j : Nat) (h : j < xs.length) (h0 : ((xs[j] : Int) == 0) = false) (ht : Hid (tz xs = tz (xs.take (j+1)))) : (tz xs).length = j + 1 := by
  have h1 : ¬ xs[j] = 0 := by simpa using h0
  rw [ht.out, List.take_succ_eq_append_getElem h, tz_snoc _ _ h1, List.length_append, List.length_take]
  simp; omega

set_option maxHeartbeats 400000 in
theorem bare_core (ad : Option Addr) (cap : Nat) (xs : List Nat) (w : World) (hr : Rd w ad (vals .u64 xs)) (hlc : xs.length ≤ cap) (hc : cap ≤ 9223372036854775807) :
    Calls Try.prog 96 #[.slice ad xs.length cap] w fun e w' => e = .returned (.slice ad (tz xs).length cap) ∧ w = w' := by
  go_enter Try.func96, Try.ntmps96
  go_wp2
  go_loop [3] (fun n => ∃ k : Nat, k ≤ xs.length ∧ n = .int .i64 k ∧ Hid (tz xs = tz (xs.take k))) (fun n => (intOf n).toNat)
  case atStart => exact ⟨xs.length, Nat.le_refl _, rfl, by simp [Hid]⟩
  case round =>
    obtain ⟨k, hk, rfl, ht⟩ := hrel
    rcases Nat.eq_zero_or_pos k with hk0 | hk0
    · subst hk0
      go_wp2
      go_ret
      have e0 : tz xs = [] := by have := ht.out; simpa [tz] using this
      exact ⟨by simp [e0], rfl⟩
    · obtain ⟨j, rfl⟩ : ∃ j, k = j + 1 := ⟨k - 1, by omega⟩
      obtain ⟨b, off, rfl, hcells⟩ := hr.at (by rw [vals_length]; omega)
      have hcell := hcells j _ (vals_get .u64 xs j (by omega))
      clear hcells
      go_wp2
      · go_round
        case rel => exact ⟨j, by omega, rfl, tz_zero xs j (by omega) (by assumption) ht⟩
        case measure => simp [intOf]
      · go_ret
        exact ⟨by rw [tz_stop xs j (by omega) (by assumption) ht]; simp, rfl⟩

theorem bare_calls (ad : Option Addr) (n cap : Nat) (xs : List Nat) (w : World) (hn : xs.length = n) (hr : Rd w ad (vals .u64 xs)) (hlc : n ≤ cap) (hc : cap ≤ 9223372036854775807) :
    Calls Try.prog 96 #[.slice ad n cap] w fun e w' => e = .returned (.slice ad (tz xs).length cap) ∧ w = w' := by
  subst hn
  exact bare_core ad cap xs w hr hlc hc

theorem info79 : (Try.prog.info? 79).map (fun i => (i.zero, i.size, i.bytes)) = some (some (.int .u64 0), 1, 8) := by kernel_rfl
theorem info3 : (Try.prog.info? 3).map (fun i => (i.zero, i.size, i.bytes)) = some (some (.int .i64 0), 1, 8) := by kernel_rfl
theorem empty22 (w : World) : (Instr.buildSlice 22 0 #[]).run Try.prog w = .ok (.slice (some ⟨w.heap.size, 0, none⟩) 0 0) (w.alloc (.cells #[] 79)) := by kernel_rfl

set_option maxHeartbeats 400000 in
theorem clone_core (ad : Option Addr) (cap : Nat) (xs : List Nat) (w : World) (hr : Rd w ad (vals .u64 xs)) (hlc : xs.length ≤ cap) (hcap : cap ≤ 9223372036854775807) (hl : xs.length ≤ BIG) :
    Calls Try.prog 104 #[.slice ad xs.length cap] w fun e w' => ∃ v, e = .returned v ∧ FrL 79 .u64 w.heap.size w' v xs ∧ Ext w w' := by
  obtain ⟨i0, hi, hz0, hz1, hz2⟩ := info_parts info79
  have ee := fun (wx : World) (a : Option Addr) (n c : Nat) => Lib.run_eql_slice_nil (P := Try.prog) wx 22 79 a n c 0 0 Try.underlying22
  have eb := empty22
  cases ad with
  | none =>
    have h0 : xs = [] := by
      rcases hr with h | ⟨b, off, h, _⟩
      · exact vals_nil.1 h
      · cases h
    subst h0
    go_enter Try.func104, Try.ntmps104
    go_wp2
    go_ret
    exact ⟨_, rfl, ⟨none, 0, rfl, by simp, by omega, .inl ⟨rfl, rfl, rfl⟩⟩, Ext.refl _⟩
  | some a =>
    have hown : (w.alloc (.cells #[] 79)).ownsRow w.heap.size 79 1 (.slice (some ⟨w.heap.size, 0, none⟩) 0 0) 0 [] := World.ownsRow_made w #[] 0 (Nat.le_refl _) (by decide) rfl
    have hnews : ∀ j u, (vals .u64 xs)[j]? = some u → (w.alloc (.cells #[] 79)).cell? (a.add j) = some u := hr.addr a rfl ((Ext.refl w).alloc _)
    go_enter Try.func104, Try.ntmps104
    go_wp2_with (at_builtin; refine wpList_append_own _ rfl _ _ 22 rfl w.heap.size 79 i0 (.int .u64 0) 1 8 Try.underlying22 hi hz0 hz1 hz2 rfl (by decide) _ _ _ rfl hown a xs.length cap (vals .u64 xs) rfl ?c1 hnews ?c2 ?c3 ?c4 ?c5 ?_)
    case c1 => simp [vals_length]
    case c2 => exact vals_one _ _
    case c3 => rw [BIG_eq] at hl; unfold maxLen; omega
    case c4 => rw [BIG_eq] at hl; omega
    case c5 => simp
    intro v' w1 hown' hgr _
    go_wp2
    go_ret
    exact ⟨v', rfl, own_frl hown', Ext.step ((Ext.refl w).alloc _) (g := w.heap.size) hgr (Nat.le_refl _)⟩

theorem clone_calls (ad : Option Addr) (n cap : Nat) (xs : List Nat) (w : World) (hn : xs.length = n) (hr : Rd w ad (vals .u64 xs)) (hlc : n ≤ cap) (hcap : cap ≤ 9223372036854775807) (hl : n ≤ BIG) :
    Calls Try.prog 104 #[.slice ad n cap] w fun e w' => ∃ v, e = .returned v ∧ FrL 79 .u64 w.heap.size w' v xs ∧ Ext w w' := by
  subst hn
  exact clone_core ad cap xs w hr hlc hcap hl

set_option maxHeartbeats 400000 in
/-- nat.Trim: the number's one form, in new memory. -/
theorem trim_calls (v : Value) (n : Nat) (w : World) (hv : IsN .u64 W w v n) :
    Calls Try.prog 87 #[v] w fun e w' => ∃ v', e = .returned v' ∧ FrN 79 .u64 W w.heap.size w' v' n ∧ Ext w w' := by
  obtain ⟨xs, ⟨ad, cap, rfl, hlc, hcap, hr⟩, hlen, hd, hval⟩ := hv
  have htz := tz_length_le xs
  have htr : Rd w ad (vals .u64 (tz xs)) := by rw [← tz_take, vals_take]; exact hr.take _
  have hbig : (tz xs).length ≤ BIG := by rw [LIM_eq] at hlen; rw [BIG_eq]; omega
  have hdg : tz xs = dg W n := by rw [tz_eq_dg W_gt hd, hval]
  have Hdg := Lib.hid hdg
  clear hdg
  go_enter Try.func87, Try.ntmps87
  go_wp2_with fail
  refine (bare_calls ad _ cap xs w rfl hr hlc hcap).mono ?_
  rintro e w' ⟨rfl, rfl⟩
  go_wp2_with fail
  refine (clone_calls ad _ cap (tz xs) w rfl htr (by omega) hcap hbig).mono ?_
  rintro e w' ⟨v', rfl, hfr, hext⟩
  go_wp2
  go_ret
  rw [Hdg.out] at hfr
  exact ⟨v', rfl, hfr, hext⟩

theorem ret_int {k : IntKind} {a b : Int} (h : a = b) : Ending.returned (.int k a) = .returned (.int k b) := by rw [h]

/-- -1, 0 or 1, as x is less than y, y, or greater. -/
def cmpN (x y : Nat) : Int := if x < y then -1 else if x = y then 0 else 1

theorem val_lt_top {B : Nat} {xs ys : List Nat} (i : Nat) (hx : i < xs.length) (hy : i < ys.length) (hB : 0 < B) (dx : Dig B xs) (hdrop : xs.drop (i + 1) = ys.drop (i + 1)) (h : xs[i] < ys[i]) : val B xs < val B ys := by
  rw [val_split xs i (by omega), val_split ys i (by omega), val_drop xs i hx, val_drop ys i hy, hdrop]
  have h1 := val_lt hB (dx.take i)
  rw [List.length_take, Nat.min_eq_left (by omega)] at h1
  have h2 : B ^ i * (xs[i] + 1) ≤ B ^ i * ys[i] := Nat.mul_le_mul_left _ h
  rw [Nat.mul_add] at h2
  simp only [Nat.mul_add]
  omega

theorem drop_eq {p q : List Nat} (j : Nat) (hp : j < p.length) (hq : j < q.length) (h1 : Hid (p[j] = q[j])) (h2 : Hid (p.drop (j + 1) = q.drop (j + 1))) : Hid (p.drop j = q.drop j) := by
  show p.drop j = q.drop j
  rw [List.drop_eq_getElem_cons hp, List.drop_eq_getElem_cons hq, h1.out, h2.out]

theorem val_lt_len {B : Nat} (hB : 1 < B) {n m : Nat} (h : (dg B n).length < (dg B m).length) : n < m := by
  rcases Nat.lt_or_ge n m with h1 | h1
  · exact h1
  · have := dg_len_mono hB h1
    omega

set_option maxHeartbeats 800000 in
theorem cmp_calls (v u : Value) (x y : Nat) (w : World) (hv : IsN .u64 W w v x) (hu : IsN .u64 W w u y) :
    Calls Try.prog 95 #[v, u] w fun e w' => e = .returned (.int .i64 (cmpN x y)) ∧ Ext w w' := by
  obtain ⟨xs, ⟨ad, cap, rfl, hlc, hcap, hr⟩, hlen, hd, hval⟩ := hv
  obtain ⟨ys, ⟨ad2, cap2, rfl, hlc2, hcap2, hr2⟩, hlen2, hd2, hval2⟩ := hu
  have Hx := Lib.hid (show tz xs = dg W x by rw [tz_eq_dg W_gt hd, hval])
  have Hy := Lib.hid (show tz ys = dg W y by rw [tz_eq_dg W_gt hd2, hval2])
  have htr : Rd w ad (vals .u64 (tz xs)) := by rw [← tz_take, vals_take]; exact hr.take _
  have htr2 : Rd w ad2 (vals .u64 (tz ys)) := by rw [← tz_take, vals_take]; exact hr2.take _
  have hl1 : (tz xs).length ≤ 9223372036854775807 := by have := tz_length_le xs; omega
  have hl2 : (tz ys).length ≤ 9223372036854775807 := by have := tz_length_le ys; omega
  clear hval hval2
  go_enter Try.func95, Try.ntmps95
  go_wp2_with fail
  refine (bare_calls ad _ cap xs w rfl hr hlc hcap).mono ?_
  rintro e w' ⟨rfl, rfl⟩
  go_wp2_with fail
  refine (bare_calls ad2 _ cap2 ys w rfl hr2 hlc2 hcap2).mono ?_
  rintro e w' ⟨rfl, rfl⟩
  clear hr hr2 hlen hlen2 hlc hlc2
  generalize tz xs = p at *
  generalize tz ys = q at *
  have hp : val W p = x := by rw [Hx.out, dg_val W_gt]
  have hq : val W q = y := by rw [Hy.out, dg_val W_gt]
  have dp : Dig W p := by rw [Hx.out]; exact (dg_can W_gt x).1
  have dq : Dig W q := by rw [Hy.out]; exact (dg_can W_gt y).1
  rcases Nat.lt_trichotomy p.length q.length with hlt | heq | hgt
  · have hfin : cmpN x y = -1 := by
      have : x < y := val_lt_len W_gt (by rw [← Hx.out, ← Hy.out]; exact hlt)
      simp [cmpN, this]
    clear hp hq
    go_wp2
    go_ret
    exact ⟨ret_int hfin.symm, Ext.refl _⟩
  · clear hp hq
    have Heq := Lib.hid heq
    go_wp2
    go_loopw [5] (fun i wr => ∃ k : Nat, k ≤ q.length ∧ i = .int .i64 ((k : Int) - 1) ∧ Hid (p.drop k = q.drop k) ∧ Ext w wr) (fun i _ => (intOf i + 1).toNat)
    case atStart => exact ⟨q.length, Nat.le_refl _, rfl, by simp [Hid, heq], Ext.refl _⟩
    case round =>
      obtain ⟨k, hk, rfl, hdr, hext⟩ := hrel
      rcases Nat.eq_zero_or_pos k with hk0 | hk0
      · subst hk0
        have hfin : cmpN x y = 0 := by
          have : p = q := by have := hdr.out; simpa using this
          have : x = y := dg_inj W_gt (by rw [← Hx.out, ← Hy.out, this])
          simp [cmpN, this]
        go_wp2
        go_ret
        exact ⟨ret_int hfin.symm, hext⟩
      · obtain ⟨j, rfl⟩ : ∃ j, k = j + 1 := ⟨k - 1, by omega⟩
        obtain ⟨b, off, rfl, hcells⟩ := htr.at (by rw [vals_length]; omega)
        obtain ⟨b2, off2, rfl, hcells2⟩ := htr2.at (by rw [vals_length]; omega)
        have hcell := hext.cell (hcells j _ (vals_get .u64 p j (by omega)))
        have hcell2 := hext.cell (hcells2 j _ (vals_get .u64 q j (by omega)))
        clear hcells hcells2
        rw [show ((j + 1 : Nat) : Int) - 1 = (j : Int) from by omega]
        rcases Nat.lt_trichotomy p[j] q[j] with h1 | h1 | h1
        · have hfin : cmpN x y = -1 := by
            have : x < y := by rw [← dg_val W_gt x, ← dg_val W_gt y, ← Hx.out, ← Hy.out]; exact val_lt_top j (by omega) (by omega) (by rw [W_eq]; omega) dp hdr.out h1
            simp [cmpN, this]
          go_wp2
          go_quiet (fail)
          go_wp2
          go_ret
          exact ⟨ret_int hfin.symm, by first | exact hext.drews _ | exact (hext.drews _).drews _⟩
        · have H1 := Lib.hid h1
          have h2 : ¬ p[j] < q[j] := by omega
          have h3 : ¬ q[j] < p[j] := by omega
          clear h1
          go_wp2
          go_quiet (fail)
          go_wp2
          go_quiet (fail)
          go_wp2
          go_roundw
          case rel => exact ⟨j, by omega, rfl, drop_eq j (by have := Heq.out; omega) (by omega) H1 hdr, hext.drews _⟩
          case measure => simp [intOf]
        · have hfin : cmpN x y = 1 := by
            have : y < x := by rw [← dg_val W_gt x, ← dg_val W_gt y, ← Hx.out, ← Hy.out]; exact val_lt_top j (by omega) (by omega) (by rw [W_eq]; omega) dq hdr.out.symm h1
            unfold cmpN; rw [if_neg (by omega), if_neg (by omega)]
          have h2 : ¬ p[j] < q[j] := by omega
          go_wp2
          go_quiet (fail)
          go_wp2
          go_quiet (fail)
          go_wp2
          go_ret
          exact ⟨ret_int hfin.symm, by first | exact hext.drews _ | exact (hext.drews _).drews _⟩
  · have hfin : cmpN x y = 1 := by
      have : y < x := val_lt_len W_gt (by rw [← Hx.out, ← Hy.out]; exact hgt)
      unfold cmpN; rw [if_neg (by omega), if_neg (by omega)]
    clear hp hq
    go_wp2
    go_ret
    exact ⟨ret_int hfin.symm, Ext.refl _⟩
end Go.Proofs.Ytnefipinicfegaa
