/-
 nat.byWord: a number divided by a word.
-/
import Derived.Test.YthoibjnkhkjnjaaGreatDiaZ
namespace Go.Proofs.YthoibjnkhkjnjaaGreat
set_option maxRecDepth 100000
set_option maxHeartbeats 1000000
open Go.RowKit
set_option linter.unusedVariables false
set_option linter.unusedSimpArgs false
def ByInv(d:Nat)(xs l:List Nat)(k r:Nat):Prop:=
 l.length=xs.length∧Dig W l∧r<d∧val W (xs.drop k)=val W (l.drop k)*d+r∧k≤xs.length
theorem ByInv.step{d:Nat}{xs l:List Nat}{j r:Nat}(h:ByInv d xs l (j+1) r)(hd:0<d)(dx:Dig W xs):
  ByInv d xs (l.set j ((r*W+gD xs j) / d)) j ((r*W+gD xs j) % d):=by
 obtain⟨h1,h2,h3,h4,h5⟩:=h
 have hj:j<xs.length:=by omega
 have hW:0<W:=by rw[W_eq];omega
 have hx:=dx.gD hW j;refine⟨by simpa using h1,h2.set (quo_lt hx h3),Nat.mod_lt _ hd,?_,by omega⟩;rw[val_drop xs j hj,val_drop _ j (by simp;omega),List.getElem_set_self,List.drop_set_of_lt (by omega),h4,←gD_lt hj];have e:=Nat.div_add_mod (r*W+gD xs j) d
 generalize (r*W+gD xs j) / d=q at*
 generalize (r*W+gD xs j) % d=r' at*
 have e1:W*(val W (l.drop (j+1))*d+r)=W*val W (l.drop (j+1))*d+r*W:=by rw[Nat.mul_add,Nat.mul_assoc,Nat.mul_comm W r]
 rw[e1,Nat.add_mul,Nat.mul_comm q d]
 omega
theorem byWord_core(ad:Option Addr)(cap:Nat)(xs:List Nat)(d:Nat)(w:World)(hr:Rd w ad (vals .u64 xs))
  (hlen:xs.length≤1099511627776) (dx:Dig W xs) (hd:0<d) (hdW:d<W):
  Calls Tryz.prog 89 #[.slice ad xs.length cap,.int .u64 (d:Int)] w fun e w'=>∃v',e= .returned (.tuple #[v',.int .u64 ((val W xs % d:Nat):Int)])∧FrN 61 .u64 W w.heap.size w' v' (val W xs / d)∧Ext w w':=by
 go_enter Tryz.func89,Tryz.ntmps89
 go_wp2_with (at_make;refine wpList_make_vals _ rfl _ _ 32 rfl 61 .u64 8 Tryz.underlying32 info61 .i64 .i64 _ _ xs.length rfl rfl (by omega) (by omega) (by omega) (by omega) ?_)
 intro w1 g hext hg hblk;go_wp2_with fail
 go_loopw [7,8] (fun r i wr=>∃(k rr:Nat) (l:List Nat),i= .int .i64 ((k:Int) - 1)∧r= .int .u64 rr∧ByInv d xs l k rr∧BlkAt 61 .u64 wr g l []∧Ext w wr) (fun _ i _=>(intOf i+1).toNat)
 case atStart=>exact ⟨xs.length,0,_,rfl,rfl,⟨by simp,Dig.replicate (by rw[W_eq];omega) _,hd,by rw[List.drop_of_length_le (by simp),List.drop_of_length_le (by simp)];simp[val],Nat.le_refl _⟩,hblk,hext⟩
 case round=>
  obtain⟨k,rr,l,rfl,rfl,hinv,hbl,hex⟩:=hrel;have Hl1:=Lib.hid hinv.1;clear hblk hext
  rcases Nat.eq_zero_or_pos k with hk0 |hk0
  ·subst hk0;have Hd:=Lib.hid hinv.2.1;have hrd:=hinv.2.2.1
   have hv:val W xs=val W l*d+rr:=hinv.2.2.2.1
   have Hq:Hid (val W l=val W xs / d):=by
    show val W l=val W xs / d
    rw[hv,Nat.mul_comm,Nat.mul_add_div hd,Nat.div_eq_of_lt hrd,Nat.add_zero]
   have Hm:Hid (rr=val W xs % d):=by
    show rr=val W xs % d
    rw[hv,Nat.mul_comm,Nat.mul_add_mod,Nat.mod_eq_of_lt hrd]
   clear hinv hv;go_wp2_with fail;refine(bare_calls (some ⟨g,0,none⟩) xs.length xs.length l _ Hl1.out hbl.rd (by omega) (by omega)).mono ?_;rintro e w' ⟨rfl,rfl⟩;go_wp2
   go_ret2
   refine⟨.slice (some ⟨g,0,none⟩) (tz l).length xs.length,?_,hbl.frN hg W_gt Hd.out Hq.out Hl1.out (by omega),hex⟩;rw[←Hm.out];rfl
  ·obtain⟨j,rfl⟩:∃j,k=j+1:=⟨k - 1,by omega⟩
   have hj:j<xs.length:=by have:=hinv.2.2.2.2;omega
   obtain⟨b,off,rfl,hcells⟩:=hr.at (by rw[vals_length];omega);have hcell:=hex.cell (hcells j _ (vals_get .u64 xs j hj));rw[←gD_lt hj]at hcell;clear hcells;rw[show ((j+1:Nat):Int) - 1=(j:Int)from by omega];have Hst:=Lib.hid (hinv.step hd dx);have hrd:=hinv.2.2.1;have hxlt:=dx.gD (B:=W) (by rw[W_eq];omega) j
   have hdiv:=fun(wx:World)=>div64_calls rr (gD xs j) d wx hxlt hdW hrd
   generalize (rr*W+gD xs j) / d=qq at*
   generalize (rr*W+gD xs j) % d=r2 at*
   have Hdiv:=Lib.hid hdiv;clear hdiv hinv;go_wp2_with fail;refine(Hdiv.out _).mono ?_;rintro e w2 ⟨rfl,hext2⟩;have hb2:=hbl.ext hext2;obtain⟨old,hout⟩:=hb2.got j (by have:=Hl1.out;omega);have hfree:=hb2.free j;go_wp2_with fail;go_roundw
   case rel=>exact ⟨j,r2,_,rfl,rfl,Hst.out,BlkAt.set (w:=w2) hb2 j qq (by have:=Hl1.out;omega),(hex.trans hext2).setCell hg _⟩
   case measure=>simp [intOf]
theorem guess_top(u2 u1 u0 v1 v0:Nat)(w:World)(h:v1≤u2):
  Calls Tryz.prog 93 #[.int .u64 (u2:Int),.int .u64 (u1:Int),.int .u64 (u0:Int),.int .u64 (v1:Int),.int .u64 (v0:Int)] w fun e w'=>e= .returned (.int .u64 ((W - 1:Nat):Int))∧w=w':=by
 have h2:(v1:Int)≤(u2:Int):=by omega
 go_enter Tryz.func93,Tryz.ntmps93
 go_wp2_with fail;go_ret;exact⟨by rw[W_eq];rfl,rfl⟩
theorem mul_words{q v0 r u0:Nat}(hu:u0<W):(q*v0≤W*r+u0)↔(q*v0 / W<r∨(q*v0 / W=r∧q*v0 % W≤u0)):=by
 have hW:0<W:=by rw[W_eq];omega
 have e:=Nat.div_add_mod (q*v0) W;have hm:=Nat.mod_lt (q*v0) hW
 generalize q*v0 / W=hi at*
 generalize q*v0 % W=lo at*
 rw[←e]
 constructor
 ·intro h
  rcases Nat.lt_trichotomy hi r with h1 |h1 |h1
  ·exact .inl h1
  ·subst h1;exact .inr ⟨rfl,by omega⟩
  ·have:W*(r+1)≤W*hi:=Nat.mul_le_mul_left _ h1
   rw[Nat.mul_add]at this
   omega
 ·rintro(h |⟨rfl,h⟩)
  ·have:W*(hi+1)≤W*r:=Nat.mul_le_mul_left _ h
   rw[Nat.mul_add]at this
   omega
  ·omega
theorem guess_low(u2 u1 u0 v1 v0:Nat)(w:World)(h:u2<v1)(h1:u1<W)(h0:u0<W)(hv1:v1<W)(hv0:v0<W)(hn:W≤2*v1):
  Calls Tryz.prog 93 #[.int .u64 (u2:Int),.int .u64 (u1:Int),.int .u64 (u0:Int),.int .u64 (v1:Int),.int .u64 (v0:Int)] w fun e w'=>e= .returned (.int .u64 ((((u2*W+u1)*W+u0) / (v1*W+v0):Nat):Int))∧Ext w w':=by
 have h2:¬(v1:Int)≤(u2:Int):=by omega
 have hU:u2*W+u1<v1*W+v0:=by
  have:(u2+1)*W≤v1*W:=Nat.mul_le_mul_right _ h
  rw[Nat.add_mul]at this
  omega
 have Q1:=Lib.hid (QInv.start (B:=W) (u:=u2*W+u1) (v1:=v1) (v0:=v0) (d:=u0) h0 (by rw[W_eq]at*;omega) hn W_gt hv0 hU);have hql:=quo_lt (B:=W) h1 h;have hrl:(u2*W+u1) % v1<W:=Nat.lt_trans (Nat.mod_lt _ (by omega)) hv1;have hdiv:=Lib.hid (fun(wx:World)=>div64_calls u2 u1 v1 wx h1 hv1 h);obtain⟨U,hUe⟩:∃U,u2*W+u1=U:=⟨_,rfl⟩;rw[hUe]at Q1 hql hrl hdiv hU ⊢;clear hUe
 generalize U / v1=q at*
 generalize U % v1=r at*
 go_enter Tryz.func93,Tryz.ntmps93
 go_wp2_with fail;refine(hdiv.out w).mono ?_;rintro e w1 ⟨rfl,hext⟩;go_wp2_with fail
 go_loop [11,12] (fun a b=>∃q r:Nat,a= .int .u64 q∧b= .int .u64 r∧r<W∧q<W∧Hid (QInv W U v1 v0 u0 q r)) (fun a _=>(intOf a).toNat)
 case atStart=>exact ⟨q,r,rfl,rfl,hrl,hql,Q1⟩
 case round=>
  clear Q1 hrl hql hdiv;obtain⟨qq,rr,rfl,rfl,hrl,hql,HQ⟩:=hrel;have hmul:=Lib.hid (fun(wx:World)=>mul64_calls qq v0 _ _ wx hql hv0 rfl rfl)
  by_cases hc:qq*v0≤W*rr+u0
  ·have Hex:=Lib.hid (HQ.out.exit hc);rw[mul_words h0]at hc
   generalize qq*v0 / W=hi at*
   generalize qq*v0 % W=lo at*
   rcases hc with hc |⟨hc,hc2⟩
   ·go_wp2_with fail;refine(hmul.out w1).mono ?_;rintro e w' ⟨rfl,rfl⟩;go_wp2_with fail;go_ret;exact⟨by rw[←Hex.out];rfl,hext⟩
   ·have HC:=Lib.hid hc
    have c1:¬hi<rr:=by omega
    have c2:((hi:Int)==(rr:Int))=true:=by simp;omega
    clear hc;go_wp2_with fail;refine(hmul.out w1).mono ?_;rintro e w' ⟨rfl,rfl⟩;go_wp2_with fail;go_ret;exact⟨by rw[←Hex.out];rfl,hext⟩
  ·have hq1:1≤qq:=QInv.pos (u:=U) (v1:=v1) (B:=W) (q:=qq) (r:=rr) (d:=u0) (v0:=v0) (by rw[W_eq];omega) (.inr (by omega));have Hs:=Lib.hid (HQ.out.step h0 (by rw[W_eq];omega) hU (.inr (by omega)));rw[mul_words h0]at hc
   generalize qq*v0 / W=hi at*
   generalize qq*v0 % W=lo at*
   have c1:¬hi<rr:=by omega
   rw[W_eq]at hrl hql hv1;have c4:qq<18446744073709551616:=hql
   by_cases hov:rr+v1<18446744073709551616
   ·have c5:¬(rr:Int)+(v1:Int)<(rr:Int):=by omega
    by_cases hh:hi=rr
    ·have c2:((hi:Int)==(rr:Int))=true:=by simp;omega
     have c3:¬lo≤u0:=by omega
     clear hh hc;go_wp2_with fail;refine(hmul.out w1).mono ?_;rintro e w' ⟨rfl,rfl⟩;go_wp2_with fail
     go_round
     case rel=>exact ⟨qq - 1,rr+v1,by go_num,by go_num,by rw[W_eq];omega,by rw[W_eq];omega,Hs⟩
     case measure=>simp [intOf];omega
    ·have c2:((hi:Int)==(rr:Int))=false:=by simp;omega
     clear hh hc;go_wp2_with fail;refine(hmul.out w1).mono ?_;rintro e w' ⟨rfl,rfl⟩;go_wp2_with fail
     go_round
     case rel=>exact ⟨qq - 1,rr+v1,by go_num,by go_num,by rw[W_eq];omega,by rw[W_eq];omega,Hs⟩
     case measure=>simp [intOf];omega
   ·obtain⟨z,hz,hz2⟩:∃z:Nat,IntKind.u64.wrap ((rr:Int)+(v1:Int))=(z:Int)∧z<rr:=⟨rr+v1 - 18446744073709551616,by rw[IntKind.wrap_u64];omega,by omega⟩;have Hex:=Lib.hid (Hs.out.brk (by rw[W_eq];omega) hv0 (by rw[W_eq];omega))
    by_cases hh:hi=rr
    ·have c2:((hi:Int)==(rr:Int))=true:=by simp;omega
     have c3:¬lo≤u0:=by omega
     clear hh hc;go_wp2_with fail;refine(hmul.out w1).mono ?_;rintro e w' ⟨rfl,rfl⟩;go_wp2_with fail;go_ret;refine⟨ret_int (a:=(qq:Int) - 1) ?_,hext⟩;rw[←Hex.out];omega
    ·have c2:((hi:Int)==(rr:Int))=false:=by simp;omega
     clear hh hc;go_wp2_with fail;refine(hmul.out w1).mono ?_;rintro e w' ⟨rfl,rfl⟩;go_wp2_with fail;go_ret;refine⟨ret_int (a:=(qq:Int) - 1) ?_,hext⟩;rw[←Hex.out];omega
end Go.Proofs.YthoibjnkhkjnjaaGreat
