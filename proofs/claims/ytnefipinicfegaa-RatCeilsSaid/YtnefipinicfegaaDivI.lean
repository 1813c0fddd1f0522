/-
  nat.DivMod by more than one word, walked.
-/
import Derived.Test.YtnefipinicfegaaDivH
namespace Go.Proofs.Ytnefipinicfegaa
open Go.RowKit
set_option linter.unusedVariables false
set_option linter.unusedSimpArgs false

/-- A round's guess. -/
theorem round_guess {V X m i : Nat} {us qs vs : List Nat} (h : DivInv V vs.length X us qs (i + 1)) (hn : vs.length = m + 1 + 1) (hv : val W vs = V) (dv : Dig W vs) (hV : V < W ^ (m + 1 + 1)) (hb : 9223372036854775808 ≤ gD vs (m + 1)) :
    (val W (seg us i (vs.length + 1)) / val W vs ≤ guessN (gD us (i + vs.length)) (gD us (i + vs.length - 1)) (gD us (i + vs.length - 2)) (gD vs (vs.length - 1)) (gD vs (vs.length - 2))) ∧
    (guessN (gD us (i + vs.length)) (gD us (i + vs.length - 1)) (gD us (i + vs.length - 2)) (gD vs (vs.length - 1)) (gD vs (vs.length - 2)) ≤ val W (seg us i (vs.length + 1)) / val W vs + 1) ∧
    guessN (gD us (i + vs.length)) (gD us (i + vs.length - 1)) (gD us (i + vs.length - 2)) (gD vs (vs.length - 1)) (gD vs (vs.length - 2)) < W ∧
    W ≤ 2 * gD vs (vs.length - 1) := by
  have hu := h.1
  have hk := h.2.2.2.2.2.2
  have du := h.2.1
  obtain ⟨h1, h2⟩ := h.small (n := vs.length) (by rw [hn]; exact hV)
  have hW2 : W ≤ 2 * gD vs (vs.length - 1) := by rw [hn, Nat.add_sub_cancel, W_eq]; omega
  have hl : (seg us i (vs.length + 1)).length = m + 3 := by rw [seg_len (by omega)]; omega
  have g := guess_spec (ss := seg us i (vs.length + 1)) (ys := vs) (m := m) hl hn (du.seg _ _) dv (by rw [W_eq]; omega) (by rw [hv]; exact h2)
  rw [seg_gD (by omega), seg_gD (by omega), seg_gD (by omega)] at g
  rw [show i + vs.length - 1 = i + (m + 1) by omega, show i + vs.length - 2 = i + m by omega, show vs.length - 1 = m + 1 by omega, show vs.length - 2 = m by omega, show i + vs.length = i + (m + 2) by omega]
  rw [show vs.length - 1 = m + 1 by omega] at hW2
  exact ⟨g.1, g.2.1, g.2.2, hW2⟩

theorem BlkAt.cellD {e : TypeId} {k : IntKind} {w : World} {g : Nat} {xs : List Nat} {rest : List Value} (h : BlkAt e k w g xs rest) (i : Nat) (hi : i < xs.length) : w.cell? ⟨g, i, none⟩ = some (.int k (gD xs i : Int)) := by
  rw [gD_lt hi]; exact h.cell i hi

theorem Chg.cell {g0 : Nat} {w w' : World} (h : Chg g0 w w') {b o : Nat} {v : Value} (hv : w.cell? ⟨b, o, none⟩ = some v) (hne : b ≠ g0) : w'.cell? ⟨b, o, none⟩ = some v :=
  (World.cell?_of_block (w := w) (h.heap (k := b) (World.block_lt_of_cell? w _ hv) hne)).trans hv
theorem Chg2.cell {g1 g2 : Nat} {w w' : World} (h : Chg2 g1 g2 w w') {b o : Nat} {v : Value} (hv : w.cell? ⟨b, o, none⟩ = some v) (h1 : b ≠ g1) (h2 : b ≠ g2) : w'.cell? ⟨b, o, none⟩ = some v :=
  (World.cell?_of_block (w := w) (h.2.2.2.2 b (World.block_lt_of_cell? w _ hv) h1 h2)).trans hv

/-- What takeOff leaves in the dividend's block. -/
def OffDone (e : TypeId) (g i n : Nat) (us : List Nat) (V : Nat) (rest : List Value) (w : World) : Prop :=
  ∃ ss', ss'.length = n + 1 ∧ Dig W ss' ∧ val W ss' = val W (seg us i (n + 1)) % V ∧ BlkAt e .u64 w g (us.take i ++ (ss' ++ us.drop (i + (n + 1)))) rest
theorem OffDone.ext {e : TypeId} {g i n : Nat} {us : List Nat} {V : Nat} {rest : List Value} {w w' : World} (h : OffDone e g i n us V rest w) (he : Ext w w') : OffDone e g i n us V rest w' := by
  obtain ⟨ss, h1, h2, h3, h4⟩ := h
  exact ⟨ss, h1, h2, h3, h4.ext he⟩
theorem OffDone.chg {e : TypeId} {g g0 i n : Nat} {us : List Nat} {V : Nat} {rest : List Value} {w w' : World} (h : OffDone e g i n us V rest w) (he : Chg g0 w w') (hne : g ≠ g0) : OffDone e g i n us V rest w' := by
  obtain ⟨ss, h1, h2, h3, h4⟩ := h
  exact ⟨ss, h1, h2, h3, h4.chg he hne⟩

set_option maxHeartbeats 4000000 in
set_option maxRecDepth 100000 in
/-- nat.DivMod by more than one word. -/
theorem divmod_long (v u : Value) (x y : Nat) (w : World) (hv : IsN .u64 W w v x) (hu : IsN .u64 W w u y) (hy : 0 < y) (hlt : y ≤ x) (hs1 : 2 ≤ sz W y) (hsx : sz W x ≤ 17592186044096) :
    Calls Try.prog 86 #[v, u] w fun e w' => ∃ vq vr, e = .returned (.tuple #[vq, vr, .int .i64 0]) ∧ FrN 79 .u64 W w.heap.size w' vq (x / y) ∧ FrN 79 .u64 W w.heap.size w' vr (x % y) ∧ Ext w w' := by
  obtain ⟨xs, ⟨ad, cap, rfl, hlc, hcap, hr⟩, hlen, hd, hval⟩ := hv
  obtain ⟨ys, ⟨ad2, cap2, rfl, hlc2, hcap2, hr2⟩, hlen2, hd2, hval2⟩ := hu
  obtain ⟨tr, tc, tl, te⟩ := isN_tz hr hlc hcap hlen hd hval
  obtain ⟨tr2, tc2, tl2, te2⟩ := isN_tz hr2 hlc2 hcap2 hlen2 hd2 hval2
  have Te := Lib.hid te
  have Te2 := Lib.hid te2
  clear te te2 hval hval2 hd hd2 hlen hlen2
  go_enter Try.func86, Try.ntmps86
  go_wp2_with fail
  refine (bare_calls ad _ cap xs w rfl hr hlc hcap).mono ?_
  rintro e w' ⟨rfl, rfl⟩
  go_wp2_with fail
  refine (bare_calls ad2 _ cap2 ys w rfl hr2 hlc2 hcap2).mono ?_
  rintro e w' ⟨rfl, rfl⟩
  clear hr hr2 hlc hlc2
  generalize tz xs = p at *
  generalize tz ys = q at *
  have dp : Dig W p := by rw [Te.out]; exact (dg_can W_gt x).1
  have dq : Dig W q := by rw [Te2.out]; exact (dg_can W_gt y).1
  have hq0 : 0 < q.length := by
    rcases Nat.eq_zero_or_pos q.length with h | h
    · have hy0 : y = 0 := (dg_eq_nil W_gt).1 (by rw [← Te2.out]; exact List.eq_nil_of_length_eq_zero h)
      omega
    · exact h
  have hb : ((q.length : Int) == 0) = false := beq_eq_false_iff_ne.2 (by omega)
  have Vp : Hid (val W p = x) := by show val W p = x; rw [Te.out, dg_val W_gt]
  have Vq : Hid (val W q = y) := by show val W q = y; rw [Te2.out, dg_val W_gt]
  have i1 := isN_of tr rfl tc hcap tl dp (by rw [Te.out, dg_val W_gt] : val W p = x)
  have i2 := isN_of tr2 rfl tc2 hcap2 tl2 dq (by rw [Te2.out, dg_val W_gt] : val W q = y)
  have hq1 : 2 ≤ q.length := by rw [Te2.out]; exact hs1
  have hp1 : p.length ≤ 17592186044096 := by rw [Te.out]; exact hsx
  have hc : decide (cmpN x y < 0) = false := by unfold cmpN; rw [if_neg (by omega)]; split <;> rfl
  have hcmp := Lib.hid (cmp_calls _ _ x y w i1 i2)
  have I1 := Lib.hid i1
  have I2 := Lib.hid i2
  have Hlt := Lib.hid hlt
  clear i1 i2 hlt
  generalize cmpN x y = cc at *
  obtain ⟨b, off, rfl, hcells⟩ := tr2.head hq0
  have hcell := hcells (q.length - 1) (by omega)
  clear hcells
  have hq2 : ((q.length : Int) == 1) = false := beq_eq_false_iff_ne.2 (by omega)
  have htop : gD q (q.length - 1) ≠ 0 := by
    rw [gD_lt (by omega)]
    exact can_last (by rw [Te2.out]; exact dg_can W_gt y) hq0
  have htW : gD q (q.length - 1) < W := dq.gD (by rw [W_eq]; omega) _
  clear hs1 hsx
  go_wp2_with fail
  refine hcmp.out.mono ?_
  rintro e w1 ⟨rfl, hext⟩
  have hcell1 := hext.cell hcell
  obtain ⟨top, Htop⟩ : ∃ top, gD q (q.length - 1) = top := ⟨_, rfl⟩
  rw [Htop] at hcell1 htop htW hcell
  have HTop := Lib.hid Htop
  clear Htop
  go_wp2_with fail
  rw [W_eq] at htW
  refine (Try.bits_LeadingZeros64 _ _ (by omega) (by omega)).mono ?_
  rintro e w' ⟨rfl, hw⟩
  have hw2 := hw.symm
  subst hw2
  clear hw
  rw [Int.toNat_natCast]
  obtain ⟨hb1, hb2, hb3⟩ := Lib.bitLenAux_bounds 64 top (by omega) htop
  have hb4 := Lib.bitLen_le top 64 (Nat.le_refl _) (by omega)
  change 1 ≤ Lib.bitLen top at hb1
  change 2 ^ (Lib.bitLen top - 1) ≤ top at hb2
  change top < 2 ^ Lib.bitLen top at hb3
  obtain ⟨s, hs, hs2, hs3⟩ : ∃ s : Nat, (64 : Int) - (Lib.bitLen top : Int) = (s : Int) ∧ s < 64 ∧ Lib.bitLen top + s = 64 := ⟨64 - Lib.bitLen top, by omega, by omega, by omega⟩
  rw [hs]
  clear hs
  go_wp2_with fail
  refine (shl_calls _ y s _ (I2.out.ext hext) hs2).mono ?_
  rintro e w2 ⟨vv, rfl, hfv, hext2⟩
  go_wp2_with fail
  refine (shl_calls _ x s _ (I1.out.ext (hext.trans hext2)) hs2).mono ?_
  rintro e w3 ⟨vu, rfl, hfu, hext3⟩
  obtain ⟨m, hm⟩ : ∃ m, q.length = m + 2 := ⟨q.length - 2, by omega⟩
  have Hm := Lib.hid hm
  have NF := norm_facts (y := y) (lo := val W (q.take (m + 1))) (top := top) (s := s) (n := m + 1) (L := Lib.bitLen top)
    (by rw [← Vq.out, ← HTop.out, val_end q (m + 1) (by omega)]; congr 3; omega)
    (by have := val_lt (show 0 < W by rw [W_eq]; omega) (dq.take (m + 1)); rwa [List.length_take, Nat.min_eq_left (by omega)] at this) hb2 hb3 hb1 hs3
  obtain ⟨n1, n2, n3, n4⟩ := NF
  have dv : Dig W (dg W (y * 2 ^ s)) := (dg_can W_gt _).1
  have hVv : val W (dg W (y * 2 ^ s)) = y * 2 ^ s := dg_val W_gt _
  have hx1 : x < W ^ p.length := by rw [← Vp.out]; exact val_lt (by rw [W_eq]; omega) dp
  have hx2 : x * 2 ^ s < W ^ p.length * 9223372036854775808 := by
    have a : x * 2 ^ s ≤ x * 2 ^ 63 := Nat.mul_le_mul_left _ (Nat.pow_le_pow_right (by omega) (by omega))
    have b : (x + 1) * 2 ^ 63 ≤ W ^ p.length * 2 ^ 63 := Nat.mul_le_mul_right _ hx1
    omega
  have hu1 : (dg W (x * 2 ^ s)).length ≤ p.length + 1 := by
    refine dg_len_le W_gt (Nat.lt_of_lt_of_le hx2 ?_)
    rw [Nat.pow_succ]
    exact Nat.mul_le_mul_left _ (by rw [W_eq]; omega)
  have hu2 : p.length ≤ (dg W (x * 2 ^ s)).length := by
    have : (dg W x).length ≤ (dg W (x * 2 ^ s)).length := dg_len_mono W_gt (Nat.le_mul_of_pos_right _ (Nat.pow_pos (by omega)))
    rwa [← Te.out] at this
  have hpq : q.length ≤ p.length := by
    have := dg_len_mono W_gt Hlt.out
    rwa [← Te.out, ← Te2.out] at this
  have du : Dig W (dg W (x * 2 ^ s)) := (dg_can W_gt _).1
  have hUv : val W (dg W (x * 2 ^ s)) = x * 2 ^ s := dg_val W_gt _
  have HxV : Hid (x * 2 ^ s < (y * 2 ^ s) * W ^ (p.length - (m + 1))) := by
    show x * 2 ^ s < (y * 2 ^ s) * W ^ (p.length - (m + 1))
    refine Nat.lt_of_lt_of_le hx2 ?_
    have e : W ^ p.length = W ^ (m + 1) * W ^ (p.length - (m + 1)) := by rw [← Nat.pow_add]; congr 1; omega
    rw [e]
    have a := Nat.mul_le_mul_right (W ^ (p.length - (m + 1))) n3
    have c : W ^ (m + 1) * W ^ (p.length - (m + 1)) * 9223372036854775808 = W ^ (m + 1) * 9223372036854775808 * W ^ (p.length - (m + 1)) := by ac_rfl
    rw [c]
    exact a
  have HV4 := Lib.hid n4
  have HV2 := Lib.hid n2
  have Hq : Hid ((x * 2 ^ s) / (y * 2 ^ s) = x / y) := Nat.mul_div_mul_right _ _ (Nat.pow_pos (by omega))
  have Hr : Hid ((x * 2 ^ s) % (y * 2 ^ s) / 2 ^ s = x % y) := by
    show (x * 2 ^ s) % (y * 2 ^ s) / 2 ^ s = x % y
    rw [Nat.mul_mod_mul_right, Nat.mul_div_cancel _ (Nat.pow_pos (by omega))]
  have HVpos : Hid (0 < y * 2 ^ s) := Nat.mul_pos hy (Nat.pow_pos (by omega))
  change FrL _ _ _ _ _ (dg W (y * 2 ^ s)) at hfv
  change FrL _ _ _ _ _ (dg W (x * 2 ^ s)) at hfu
  clear hx1 hx2 n2 n3 n4 hb1 hb2 hb3 hb4 hcell hcell1 I1 I2 tr tr2 HTop htW htop Hlt hy
  obtain ⟨V, HV⟩ : ∃ V, y * 2 ^ s = V := ⟨_, rfl⟩
  obtain ⟨X, HX⟩ : ∃ X, x * 2 ^ s = X := ⟨_, rfl⟩
  rw [HV] at hfv n1 dv hVv HxV HV4 HV2 Hq Hr HVpos
  rw [HX] at hfu hu1 hu2 du hUv HxV Hq Hr
  clear HV HX
  obtain ⟨vs, Hvs⟩ : ∃ vs, dg W V = vs := ⟨_, rfl⟩
  obtain ⟨us, Hus⟩ : ∃ us, dg W X = us := ⟨_, rfl⟩
  rw [Hvs] at hfv n1 dv hVv HV2
  rw [Hus] at hfu hu1 hu2 du hUv
  clear Hvs Hus
  have HvV := Lib.hid hVv
  have HuX := Lib.hid hUv
  have Hn1 := Lib.hid n1
  obtain ⟨gv, restv, capv, rfl, hgv, hbv, hcv1, hcv2⟩ := hfv.blk (by omega)
  have hfu2 := hfu
  obtain ⟨gu0, restu0, capu0, rfl, hgu0, hbu0, hcu01, hcu02⟩ := hfu.blk (by omega)
  have hz1 : (p.length : Int) + 1 - (us.length : Int) = ((p.length + 1 - us.length : Nat) : Int) := by omega
  have hs3 := hext3.size
  clear hVv hUv n1
  go_wp2_with (at_builtin; refine wpList_append_zeros _ rfl _ _ 22 3 rfl 79 .u64 .i64 8 Try.underlying22 Try.underlying3 info79 w2.heap.size _ us (p.length + 1 - us.length) rfl rfl (by omega) hfu2 (by omega) (by omega) hs3 ?_)
  intro v' w4 hfu4 hgr4
  have hext4 := Ext.step_own hext3 hgr4 hfu2.block
  obtain ⟨ul, Hul⟩ : ∃ ul, us ++ List.replicate (p.length + 1 - us.length) 0 = ul := ⟨_, rfl⟩
  rw [Hul] at hfu4
  have hul : ul.length = p.length + 1 := by rw [← Hul, List.length_append, List.length_replicate]; omega
  have dul : Dig W ul := by rw [← Hul]; exact du.append (Dig.replicate (by rw [W_eq]; omega) _)
  have vul : val W ul = X := by rw [← Hul, val_append_zeros, HuX.out]
  obtain ⟨gu, restu, capu, rfl, hgu, hbu, hcu1, hcu2⟩ := hfu4.blk (by omega)
  have hbv4 := hbv.ext hext4
  have hgvu : gv < gu := by have := hbv.lt; omega
  have hvl : vs.length ≤ p.length := by have := Hn1.out; omega
  obtain ⟨nq, hnq⟩ : ∃ nq, p.length + 1 = vs.length + nq := ⟨p.length + 1 - vs.length, by omega⟩
  have hnq0 : 0 < nq := by omega
  have Inv0 : Hid (DivInv V vs.length X ul (List.replicate nq 0) nq) := by
    refine ⟨?_, dul, Dig.replicate (by rw [W_eq]; omega) _, ?_, ?_, ?_, ?_⟩
    · rw [List.length_replicate]; omega
    · rw [val_replicate, vul]; simp
    · rw [vul]; have := HxV.out; have e := Hn1.out; rwa [show nq = p.length - (m + 1) by omega]
    · intro j hj; simp [gD, List.getD, List.getElem?_replicate, hj]
    · rw [List.length_replicate]; exact Nat.le_refl _
  have Hnq := Lib.hid hnq
  have Hul2 := Lib.hid hul
  clear Hul dul vul hfu hfu2 hfu4 hbu0 hcu01 hcu02 hgu0 hgr4 hext3 hs3 hz1 du hu1 hu2 hm
  have hl1 : (ul.length : Int) - (vs.length : Int) = (nq : Int) := by omega
  have hL1 : ul.length ≤ 17592186044097 := by omega
  have hL2 : vs.length + nq = ul.length := by omega
  obtain ⟨L, hL⟩ : ∃ L, ul.length = L := ⟨_, rfl⟩
  have HL := Lib.hid hL
  have HL2 := Lib.hid hL2
  rw [hL] at hl1 hL1 hL2 hcu1 ⊢
  clear hL hnq hul hL2
  go_wp2_with (at_make; refine wpList_make_vals _ rfl _ _ 22 rfl 79 .u64 8 Try.underlying22 info79 .i64 .i64 _ _ nq rfl rfl (by omega) (by omega) (by omega) (by omega) ?_)
  intro w5 gq hext5 hgq hbq
  have hbv5 := hbv4.ext hext5
  have hbu5 := hbu.ext hext5
  have hguq : gu < gq := by have := hbu.lt; omega
  clear hbv4 hbu hbv
  go_wp2_with fail
  have hnqL : nq ≤ L := by have := HL2.out; have := HL.out; omega
  go_loopw [16] (fun vi wr => ∃ (k : Nat) (i : Int) (ul' ql : List Nat), vi = .int .i64 i ∧ i + 1 = (k : Int) ∧ DivInv V vs.length X ul' ql k ∧ ql.length = nq ∧ BlkAt 79 .u64 wr gu ul' restu ∧ BlkAt 79 .u64 wr gq ql [] ∧ BlkAt 79 .u64 wr gv vs restv ∧ Ext w2 wr) (fun vi _ => (intOf vi + 1).toNat)
  case atStart => exact ⟨nq, _, _, _, rfl, by omega, Inv0.out, List.length_replicate .., hbu5, hbq, hbv5, hext4.trans hext5⟩
  case round =>
    obtain ⟨k, i, ul', ql, rfl, hik, hinv, hqn, hbu', hbq', hbv', hex⟩ := hrel
    have Hqn := Lib.hid hqn
    have hkn : k ≤ nq := by have := hinv.2.2.2.2.2.2; omega
    clear Inv0 hqn hbu5 hbq hbv5
    cases k with
    | zero =>
      obtain rfl : i = -1 := by omega
      have Hfin := Lib.hid hinv.finish
      have hul1 : ul'.length = L := by have := hinv.1; have := HL2.out; have := HL.out; have := Hqn.out; omega
      have hdu := hinv.2.1
      have hdq := hinv.2.2.1
      have hcapu : ul'.length + restu.length = capu := by omega
      have hIu := Lib.hid (isN_of (ad := some ⟨gu, 0, none⟩) (cap := capu) (m := X % V) hbu'.rd hul1 (by omega) (by omega) (by omega) hdu Hfin.out.2)
      clear hinv
      go_wp2_with fail
      refine (shr_calls _ _ s _ hIu.out hs2).mono ?_
      rintro e w6 ⟨vr, rfl, hfr, hext6⟩
      rw [Hr.out] at hfr
      go_wp2_with fail
      refine (bare_calls (some ⟨gq, 0, none⟩) nq nq ql w6 Hqn.out (hbq'.ext hext6).rd (Nat.le_refl _) (by omega)).mono ?_
      rintro e w' ⟨rfl, rfl⟩
      go_wp2
      go_ret3
      have hE := hext.trans hext2
      have hs1 := hext.size
      have hs2' := hext2.size
      have hs4 := hext4.size
      have hs5 := hex.size
      refine ⟨_, _, rfl, ?_, FrN.mono hfr (by omega), hE.trans (hex.trans hext6)⟩
      have := (hbq'.ext hext6).frN (B0 := w.heap.size) (cap := nq) (by omega) W_gt hdq (by rw [Hfin.out.1, Hq.out] : val W ql = x / y) (by simp; exact Hqn.out) (by omega)
      exact this
    | succ j =>
      obtain rfl : i = (j : Int) := by omega
      clear hik
      have hul1 : ul'.length = L := by have := hinv.1; have := HL2.out; have := HL.out; have := Hqn.out; omega
      have hjL : j + vs.length < L := by have := HL2.out; have := HL.out; omega
      have hn2 : 2 ≤ vs.length := by have := Hn1.out; omega
      obtain ⟨g1, g2, g3, g4⟩ := round_guess hinv Hn1.out HvV.out dv HV4.out HV2.out
      have Hstep := Lib.hid (fun ss' => hinv.step (ss' := ss') (by rw [Hn1.out]; exact HV4.out) HVpos.out)
      have du' := hinv.2.1
      have hW : 0 < W := by rw [W_eq]; omega
      have d2 := du'.gD hW (j + vs.length)
      have d1 := du'.gD hW (j + vs.length - 1)
      have d0 := du'.gD hW (j + vs.length - 2)
      have dv1 := dv.gD hW (vs.length - 1)
      have dv0 := dv.gD hW (vs.length - 2)
      have c2 := hbu'.cellD (j + vs.length) (by omega)
      have c1 := hbu'.cellD (j + vs.length - 1) (by omega)
      have c0 := hbu'.cellD (j + vs.length - 2) (by omega)
      have cv1 := hbv'.cellD (vs.length - 1) (by omega)
      have cv0 := hbv'.cellD (vs.length - 2) (by omega)
      have hsg := hbu'.seg j (vs.length + 1) (by omega)
      have hss := seg_len (us := ul') (i := j) (m := vs.length + 1) (by omega)
      have Hg := Lib.hid (guess_calls (gD ul' (j + vs.length)) (gD ul' (j + vs.length - 1)) (gD ul' (j + vs.length - 2)) (gD vs (vs.length - 1)) (gD vs (vs.length - 2)) · d1 d0 dv1 dv0 g4)
      have Ht := Lib.hid (fun (wx : World) (hs : SegAt 79 .u64 wx gu j (vals .u64 (ul'.take j)) (seg ul' j (vs.length + 1)) (vals .u64 (ul'.drop (j + (vs.length + 1))) ++ restu)) (hr : Rd wx (some ⟨gv, 0, none⟩) (vals .u64 vs)) =>
        takeOff_calls gu j (capu - j) capv (some ⟨gv, 0, none⟩) _ _ (seg ul' j (vs.length + 1)) vs _ wx hs hss hr (by intro a ha; cases ha; show gv ≠ gu; omega) (by omega) g3 (du'.seg _ _) dv (by rw [HvV.out]; exact HVpos.out) g1 g2)
      have Hdd : Hid (val W (seg ul' j (vs.length + 1)) / val W vs = val W (seg ul' j (vs.length + 1)) / V) := by show _ = _; rw [HvV.out]
      generalize hdd : val W (seg ul' j (vs.length + 1)) / val W vs = dd at Ht Hdd
      generalize guessN (gD ul' (j + vs.length)) (gD ul' (j + vs.length - 1)) (gD ul' (j + vs.length - 2)) (gD vs (vs.length - 1)) (gD vs (vs.length - 2)) = gg at *
      generalize gD ul' (j + vs.length) = u2 at *
      generalize gD ul' (j + vs.length - 1) = u1 at *
      generalize gD ul' (j + vs.length - 2) = u0 at *
      generalize gD vs (vs.length - 1) = v1 at *
      generalize gD vs (vs.length - 2) = v0 at *
      obtain ⟨e2, he2⟩ : ∃ e2, j + vs.length = e2 := ⟨_, rfl⟩
      obtain ⟨e1, he1⟩ : ∃ e1, j + vs.length - 1 = e1 := ⟨_, rfl⟩
      obtain ⟨e0, he0⟩ : ∃ e0, j + vs.length - 2 = e0 := ⟨_, rfl⟩
      obtain ⟨e3, he3⟩ : ∃ e3, j + vs.length + 1 = e3 := ⟨_, rfl⟩
      obtain ⟨n1, hn1⟩ : ∃ n1, vs.length - 1 = n1 := ⟨_, rfl⟩
      obtain ⟨n0, hn0⟩ : ∃ n0, vs.length - 2 = n0 := ⟨_, rfl⟩
      rw [he2] at c2 hjL
      rw [he1] at c1
      rw [he0] at c0
      rw [hn1] at cv1
      rw [hn0] at cv0
      have w1' : IntKind.i64.wrap ((j : Int) + (vs.length : Int)) = (e2 : Int) := by rw [IntWalk.i64_in _ (by omega)]; omega
      have w2' : IntKind.i64.wrap ((e2 : Int) + 1) = (e3 : Int) := by rw [IntWalk.i64_in _ (by omega)]; omega
      have w3' : IntKind.i64.wrap ((e2 : Int) - 1) = (e1 : Int) := by rw [IntWalk.i64_in _ (by omega)]; omega
      have w4' : IntKind.i64.wrap ((e2 : Int) - 2) = (e0 : Int) := by rw [IntWalk.i64_in _ (by omega)]; omega
      have w5' : IntKind.i64.wrap ((vs.length : Int) - 1) = (n1 : Int) := by rw [IntWalk.i64_in _ (by omega)]; omega
      have w6' : IntKind.i64.wrap ((vs.length : Int) - 2) = (n0 : Int) := by rw [IntWalk.i64_in _ (by omega)]; omega
      have x1 : e1 < L := by omega
      have x0 : e0 < L := by omega
      have y1 : n1 < vs.length := by omega
      have y0 : n0 < vs.length := by omega
      have z1 : j ≤ e3 := by omega
      have z2 : e3 ≤ capu := by omega
      have z3 : ¬ capu = j := by omega
      have z4 : e3 - j = vs.length + 1 := by omega
      have z5 : j < nq := by omega
      have hgvq : gv ≠ gq := by omega
      have hgvu' : gv ≠ gu := by omega
      have hguq' : gu ≠ gq := by omega
      clear hinv hdd g1 g2 g3 g4 d0 d1 d2 dv0 dv1 hss he0 he1 he2 he3 hn1 hn0 hsg
      go_wp2_with fail
      refine wp_region_two gu 41 gq 43 (by decide) [isV (.slice (some ⟨gq, 0, none⟩) nq nq), isV (.int .i64 j), isV (.slice (some ⟨gu, 0, none⟩) L capu), isV (.int .i64 j), isV (.int .i64 j), isV (.int .i64 vs.length), isV (.int .i64 e2), isV (.int .i64 e3),
          isV (.slice (some ⟨gu, j, none⟩) (vs.length + 1) (capu - j)), isV (.slice (some ⟨gv, 0, none⟩) vs.length capv),
          isV (.slice (some ⟨gu, 0, none⟩) L capu), isV (.int .i64 j), isV (.int .i64 vs.length), isV (.int .i64 e2), isV (.pointer (some ⟨gu, e2, none⟩)), isV (.int .u64 u2),
          isV (.slice (some ⟨gu, 0, none⟩) L capu), isV (.int .i64 j), isV (.int .i64 vs.length), isV (.int .i64 e2), isV (.int .i64 e1), isV (.pointer (some ⟨gu, e1, none⟩)), isV (.int .u64 u1),
          isV (.slice (some ⟨gu, 0, none⟩) L capu), isV (.int .i64 j), isV (.int .i64 vs.length), isV (.int .i64 e2), isV (.int .i64 e0), isV (.pointer (some ⟨gu, e0, none⟩)), isV (.int .u64 u0),
          isV (.slice (some ⟨gv, 0, none⟩) vs.length capv), isV (.int .i64 vs.length), isV (.int .i64 n1), isV (.pointer (some ⟨gv, n1, none⟩)), isV (.int .u64 v1),
          isV (.slice (some ⟨gv, 0, none⟩) vs.length capv), isV (.int .i64 vs.length), isV (.int .i64 n0), isV (.pointer (some ⟨gv, n0, none⟩)), isV (.int .u64 v0),
          isV (.int .u64 gg), fun v w => v = .int .u64 (dd : Int) ∧ OffDone 79 gu j vs.length ul' V restu w,
          isV (.pointer (some ⟨gq, j, none⟩)), fun _ w => BlkAt 79 .u64 w gq (ql.set j dd) []]
        [] [(15, 41), (22, 41), (29, 41), (41, 41), (43, 43)]
        (by kernel_rfl) (by kernel_rfl) (fun f => (by simp only [fillR, fillL, List.setIfInBounds_toArray, List.set_cons_succ, List.set_cons_zero, Nat.reduceAdd]; rfl)) ?_ ?_ ?_ ?_ ?_
      · repeat (first | exact trivial | refine ⟨fun v wa wb h hp => (by first | exact hp | exact BlkAt.ext hp h | exact ⟨hp.1, hp.2.ext h⟩), ?_⟩)
      · repeat (first | exact trivial | refine ⟨fun v wa wb h hp => (by first | exact hp | exact BlkAt.chg hp h (by omega)), ?_⟩)
      · repeat (first | exact trivial | refine ⟨fun v wa wb h hp => (by first | exact hp | exact ⟨hp.1, hp.2.chg h (by omega)⟩), ?_⟩)
      · refine ⟨?_, ?_, ?_, ?_, ?_, ?_, ?_, ?_, ?o8, ?_, ?_, ?_, ?_, ?_, ?_, ?o15, ?_, ?_, ?_, ?_, ?_, ?_, ?o22, ?_, ?_, ?_, ?_, ?_, ?_, ?o29, ?_, ?_, ?_, ?_, ?o34, ?_, ?_, ?_, ?_, ?o39, ?o40, ?o41, ?_, ?o43, trivial⟩
        case o8 =>
          intro f w2 hG hpre hp hl
          simp [PostsOf, pl, isV, Region.binds] at hp
          simp only [OpGoal]
          go_simp
          exact ⟨_, rfl, Ext.refl _, by simp only [pl, List.getD_cons_succ, List.getD_cons_zero, isV]⟩
        case o15 =>
          intro f w2 hG hpre hp hl
          simp [PostsOf, pl, isV, Region.binds] at hp
          simp [PreFacts] at hpre
          have hcell2 := hpre.cell c2 hguq'
          simp only [OpGoal]
          go_simp
          exact ⟨_, rfl, Ext.refl _, rfl⟩
        case o22 =>
          intro f w2 hG hpre hp hl
          simp [PostsOf, pl, isV, Region.binds] at hp
          simp [PreFacts] at hpre
          have hcell2 := hpre.cell c1 hguq'
          simp only [OpGoal]
          go_simp
          exact ⟨_, rfl, Ext.refl _, rfl⟩
        case o29 =>
          intro f w2 hG hpre hp hl
          simp [PostsOf, pl, isV, Region.binds] at hp
          simp [PreFacts] at hpre
          have hcell2 := hpre.cell c0 hguq'
          simp only [OpGoal]
          go_simp
          exact ⟨_, rfl, Ext.refl _, rfl⟩
        case o34 =>
          intro f w2 hG hpre hp hl
          simp [PostsOf, pl, isV, Region.binds] at hp
          have hcell2 := hG.cell cv1 hgvu' hgvq
          simp only [OpGoal]
          go_simp
          exact ⟨_, rfl, Ext.refl _, rfl⟩
        case o39 =>
          intro f w2 hG hpre hp hl
          simp [PostsOf, pl, isV, Region.binds] at hp
          have hcell2 := hG.cell cv0 hgvu' hgvq
          simp only [OpGoal]
          go_simp
          exact ⟨_, rfl, Ext.refl _, rfl⟩
        case o40 =>
          intro f w2 hG hpre hp hl
          simp [PostsOf, pl, isV, Region.binds] at hp
          simp only [OpGoal]
          go_simp
          refine (Hg.out w2).mono ?_
          rintro e w' ⟨rfl, hx⟩
          exact ⟨_, rfl, hx, rfl⟩
        case o41 =>
          intro f w2 hG hpre hp hl
          simp [PostsOf, pl, isV, Region.binds] at hp
          simp [PreFacts] at hpre
          simp only [OpGoal]
          go_simp
          refine (Ht.out w2 ?_ ?_).mono ?_
          · exact BlkAt.seg (BlkAt.chg hbu' hpre hguq') j (vs.length + 1) (by omega)
          · exact BlkAt.rd (hG.blk hbv' hgvu' hgvq)
          · rintro e w' ⟨ss', rfl, hs1, hs2, hs3, hs4, hch⟩
            exact ⟨_, rfl, hch, rfl, ss', hs1, hs2, by rw [hs3, HvV.out], hs4.blk⟩
        case o43 =>
          intro f w2 hG hpre hp hl
          simp [PostsOf, pl, isV, Region.binds] at hp
          simp [PreFacts] at hpre
          have hb2 := BlkAt.chg hbq' hpre (Ne.symm hguq')
          obtain ⟨old, hout⟩ := hb2.got j (by rw [Hqn.out]; exact z5)
          have hfree2 := hb2.free j
          simp only [OpGoal]
          go_simp
          exact ⟨undef, rfl, Chg.setCell _ _ _ _, hb2.set j _ (by rw [Hqn.out]; exact z5)⟩
        all_goals
          intro f w2 hG hpre hp hl
          simp [PostsOf, pl, isV, Region.binds] at hp
          simp only [OpGoal]
          go_simp
          exact ⟨_, rfl, Ext.refl _, rfl⟩
      · intro f w2 hG hp
        simp [AllPosts, pl, isV] at hp
        obtain ⟨p0, p1, p2, p3, p4, p5, p6, p7, p8, p9, p10, p11, p12, p13, p14, p15, p16, p17, p18, p19, p20, p21, p22, p23, p24, p25, p26, p27, p28, p29, p30, p31, p32, p33, p34, p35, p36, p37, p38, p39, p40, ⟨p41, P⟩, p42, p43⟩ := hp
        have P41 := Lib.hid P
        have P43 := Lib.hid p43
        clear P p43 Ht Hg
        go_wp2
        go_roundw
        case rel =>
          obtain ⟨ss', hs1, hs2, hs3, hs4⟩ := P41.out
          have := Hstep.out ss' hs1 hs2 hs3
          rw [← Hdd.out] at this
          exact ⟨j, (j : Int) - 1, _, _, by go_num, by omega, this, by rw [List.length_set]; exact Hqn.out, hs4, P43.out, hG.blk hbv' hgvu' hgvq, hex.step2 hG hgu (by omega)⟩
        case measure => simp [intOf]
end Go.Proofs.Ytnefipinicfegaa
