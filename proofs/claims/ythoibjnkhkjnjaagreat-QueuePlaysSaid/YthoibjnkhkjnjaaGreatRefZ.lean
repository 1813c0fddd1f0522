/-
 The document's numbers: the greatest common divisor; numbers told by words.
-/
import Derived.Test.YthoibjnkhkjnjaaGreatReeZ
namespace Go.Proofs.YthoibjnkhkjnjaaGreat
set_option maxRecDepth 100000
set_option maxHeartbeats 1000000
open Go.RowKit
set_option linter.unusedVariables false
set_option linter.unusedSimpArgs false
def numD(w:World)(v:Value):Nat:=
 match v with
 | .slice (some a) n _=>val TK ((List.range n).map fun i=>match w.cell? (a.add i)with |some (.int _ z)=>z.toNat |_=>0)
 |_=>0
theorem numD_of{w:World}{v:Value}{n:Nat}(h:IsC .i64 TK w v n):numD w v=n:=by
 obtain⟨ad,cap,rfl,_,_,hr⟩:=h
 rcases Nat.eq_zero_or_pos (dg TK n).length with h0 |h0
 ·have hn:n=0:=(dg_eq_nil TK_gt).1 (List.eq_nil_of_length_eq_zero h0)
  rw[h0];subst hn
  cases ad<;>simp [numD,val]
 ·obtain⟨b,off,rfl,hc⟩:=hr.at (by rw[vals_length];exact h0)
  have e:((List.range (dg TK n).length).map fun i=>match w.cell? ((⟨b,off,none⟩:Addr).add i)with |some (.int _ z)=>z.toNat |_=>0)=dg TK n:=by
   refine List.ext_getElem (by simp) fun i h1 h2=> ?_
   have:=hc i _ (vals_get .i64 (dg TK n) i h2)
   simp only[List.getElem_map,List.getElem_range]
   have e2:(⟨b,off,none⟩:Addr).add i=⟨b,off+i,none⟩:=by unfold Addr.add;split<;>simp_all
   rw[e2,this]
   simp
  show val TK _=n
  rw[e,dg_val TK_gt]
theorem szT_zero{n:Nat}:sz TK n=0↔n=0:=by
 constructor
 ·intro h;exact(dg_eq_nil TK_gt).1 (List.eq_nil_of_length_eq_zero h)
 ·rintro rfl;rfl
theorem rgcd01_calls(v u:Value)(x y:Nat)(w:World)(hv:IsN .i64 TK w v x)(hu:IsN .i64 TK w u y)(hsx:sz TK x≤68719476736)(hsy:sz TK y≤68719476736):
  Calls Tryz.prog 67 #[v,u] w fun e w'=>∃v',e= .returned v'∧FrN 3 .i64 TK w.heap.size w' v' (Nat.gcd x y)∧Ext w w':=by
 go_enter Tryz.func67,Tryz.ntmps67
 go_wp2_with fail;refine(rtrim_calls v x w hv).mono ?_;rintro e w1 ⟨va,rfl,ha,hext⟩;go_wp2_with fail;refine(rtrim_calls u y w1 (hu.ext hext)).mono ?_;rintro e w2 ⟨vb,rfl,hb,hext2⟩;have ha2:=ha.ext hext2;have hb2:=FrN.mono hb hext.size;clear ha hb;go_wp2_with fail
 go_loopw [5,6] (fun s5 s6 wr=>∃a b,FrN 3 .i64 TK w.heap.size wr s5 a∧FrN 3 .i64 TK w.heap.size wr s6 b∧Nat.gcd a b=Nat.gcd x y∧sz TK a≤68719476736∧sz TK b≤68719476736∧Ext w wr) (fun _ s6 wr=>numD wr s6)
 case atStart=>exact ⟨x,y,ha2,hb2,rfl,hsx,hsy,hext.trans hext2⟩
 case round=>
  obtain⟨a,b,ia,ib,hg,sa,sb,hex⟩:=hrel;obtain⟨adb,capb,rfl⟩:=ib.slice
  rcases Nat.eq_zero_or_pos b with h0 |h0
  ·subst h0
   have hz:sz TK 0=0:=rfl
   rw[hz]at*;go_wp2;go_ret;refine⟨_,rfl,?_,hex⟩;rw[←hg,Nat.gcd_zero_right];exact ia
  ·have hs0:0<sz TK b:=by
    have:sz TK b≠0:=fun e=>by have:=szT_zero.1 e;omega
    omega
   go_wp2_with fail;refine(rdm01_calls _ _ a b _ (ia.isC.isN TK_gt (by rw[LIM_eq];omega)) (ib.isC.isN TK_gt (by rw[LIM_eq];omega)) h0 sb).mono ?_;rintro e w3 ⟨vq,vr,rfl,hq,hr,hext3⟩;go_wp2;go_roundw
   case rel=>
    refine⟨b,a % b,ib.ext hext3,FrN.mono hr hex.size,?_,sb,?_,hex.trans hext3⟩
    ·rw[←hg,Nat.gcd_comm b,←Nat.gcd_rec,Nat.gcd_comm]
    ·exact Nat.le_trans (dg_len_mono TK_gt (Nat.le_of_lt (Nat.mod_lt _ h0))) sb
   case measure=>
    rw[numD_of hr.isC,numD_of ib.isC];exact Nat.mod_lt _ h0
theorem half_of(a:Nat)(ha:a<W):bits .and .u64 (a:Int) 4294967295=((a % 4294967296:Nat):Int):=by
 have h:=u64_and_nat a 4294967295 (by rw[W_eq]at ha;exact ha) (by omega)
 have e:((4294967295:Nat):Int)=4294967295:=rfl
 rw[e]at h;rw[h]
 congr 1
 have:=Nat.and_two_pow_sub_one_eq_mod a 32
 simpa using this
set_option maxHeartbeats 4000000 in
theorem rof01_calls(v:Value)(n:Nat)(w:World)(hv:IsN .u64 W w v n)(hsz:sz TK n≤68719476736):
  Calls Tryz.prog 44 #[v] w fun e w'=>∃v',e= .returned v'∧FrN 3 .i64 TK w.heap.size w' v' n∧Ext w w':=by
 obtain⟨xs,⟨ad,cap,rfl,hlc,hcap,hr⟩,hlen,dx,hx⟩:=hv;rw[LIM_eq]at hlen;have Hx:=Lib.hid hx;clear hx;have eb:=emptyD;have hf0:=frl_empty w 3 .i64;have hal:=(Ext.refl w).alloc (.cells #[] 3)
 go_enter Tryz.func44,Tryz.ntmps44
 go_wp2_with fail;refine(rsmall_calls 4294967296 _ (by omega)).mono ?_;rintro e w1 ⟨vh,rfl,hh,e1⟩;have hex1:=hal.trans e1;have hh1:=hh.isC.isN TK_gt (by rw[LIM_eq];exact Nat.le_trans (dg_small_len (by omega)) (by omega));obtain⟨H,hH⟩:∃H:Nat,H=4294967296:=⟨_,rfl⟩;rw[←hH]at hh1;have HH:=Lib.hid hH;clear hH;have hfr1:=hf0.ext e1;clear hh;go_wp2_with fail
 go_loopw [3,5] (fun out i wr=>∃k:Nat,i= .int .i64 ((k:Int) - 1)∧FrN 3 .i64 TK w.heap.size wr out (hiV W xs k)∧k≤xs.length∧Ext w1 wr) (fun _ i _=>(intOf i+1).toNat)
 case atStart=>exact ⟨xs.length,rfl,by rw[hi_big xs _ (Nat.le_refl _)];exact hfr1,Nat.le_refl _,Ext.refl _⟩
 case round=>
  obtain⟨k,rfl,hfr,hk,hexr⟩:=hrel;have hex:=hex1.trans hexr
  rcases Nat.eq_zero_or_pos k with hk0 |hk0
  ·subst hk0;rw[hi_zero,Hx.out]at hfr;go_wp2;go_ret;exact⟨_,rfl,hfr,hex⟩
  ·obtain⟨j,rfl⟩:∃j,k=j+1:=⟨k - 1,by omega⟩;rw[show ((j+1:Nat):Int) - 1=(j:Int)from by omega];obtain⟨b,off,rfl,hcells⟩:=hr.at (by rw[vals_length];omega);have hcell:=hex.cell (hcells j _ (vals_get .u64 xs j (by omega)));rw[←gD_lt (show j<xs.length by omega)]at hcell;have hst:=hi_step (B:=W) xs j;have ha1:=dx.gD (show 0<W by rw[W_eq];omega) j
   have hle:hiV W xs j≤n:=by
    rw[←Hx.out,hi_split xs j]
    have:1*hiV W xs j≤W^j*hiV W xs j:=Nat.mul_le_mul_right _ (Nat.pow_pos (by rw[W_eq];omega))
    omega
   obtain⟨a,ha⟩:∃a,a=gD xs j:=⟨_,rfl⟩;rw[←ha]at hst ha1 hcell;have hand:=half_of a ha1;rw[W_eq]at ha1;obtain⟨p,hp⟩:∃p,p=a / 4294967296:=⟨_,rfl⟩;obtain⟨q,hq⟩:∃q,q=a % 4294967296:=⟨_,rfl⟩;rw[←hq]at hand
   have hpi:(a:Int) / 4294967296=(p:Int):=by omega
   have hpq:a=p*4294967296+q:=by omega
   have hp1:p<4294967296:=by omega
   have hq1:q<4294967296:=by omega
   obtain⟨t,ht⟩:∃t,t=hiV W xs (j+1):=⟨_,rfl⟩;rw[←ht]at hst hfr;obtain⟨z,hz⟩:∃z,z=hiV W xs j:=⟨_,rfl⟩;rw[←hz]at hst hle
   have hz2:z=(t*H+p)*H+q:=by rw[HH.out,hst,hpq,W_eq];omega
   have hszz:sz TK z≤68719476736:=Nat.le_trans (dg_len_mono TK_gt hle) hsz;have hs3:sz TK ((t*H+p)*H)≤68719476736:=Nat.le_trans (dg_len_mono TK_gt (by rw[hz2];omega)) hszz;have hs2:sz TK (t*H+p)≤68719476736:=Nat.le_trans (dg_len_mono TK_gt (by rw[HH.out];omega)) hs3;have hs1:sz TK (t*H)≤68719476736:=Nat.le_trans (dg_len_mono TK_gt (by omega)) hs2;have hs0:sz TK t≤68719476736:=Nat.le_trans (dg_len_mono TK_gt (by rw[HH.out];omega)) hs1
   have sp:∀m:Nat,m<4294967296→sz TK m≤5:=fun m hm=>dg_small_len (by omega)
   have Hz:=Lib.hid hz;have Hz2:=Lib.hid hz2
   have hw1:IntKind.i64.wrap (p:Int)=(p:Int):=by simp (disch:=omega) only[IntWalk.i64_in]
   have hw2:IntKind.i64.wrap (q:Int)=(q:Int):=by simp (disch:=omega) only[IntWalk.i64_in]
   have hjl:j<xs.length:=by omega
   clear hcells hst hpq ha hp hq ht hz hz2 hle;go_wp2_with fail;refine wpQ [PP.val (u3),PP.val (vh),PP.frN 3 .i64 TK (t*H),PP.val (.slice (some ⟨b,off,none⟩) xs.length cap),PP.val (.int .i64 j),PP.val (.pointer (some ⟨b,off+j,none⟩)),PP.val (.int .u64 (a:Int)),PP.val (.int .u64 (p:Int)),PP.val (.int .i64 (p:Int)),PP.frN 3 .i64 TK p,PP.frN 3 .i64 TK (t*H+p),PP.frN 3 .i64 TK (t*H+p)] [(0,11,3)] [0,1,2,3,4,5,6,7,8,9,10,11] ?_ ?_
   ·refine⟨?_,?_,?_,?_,?_,?_,?_,?_,?_,?_,?_,?_,trivial⟩
    ·intro f w2 hG hp hl
     have l3:f 11=u3:=hl.1 rfl
     simp only[OpGoal];go_simp;exact⟨_,rfl,Ext.refl _,rfl⟩
    ·intro f w2 hG hp hl;simp only[OpGoal];go_simp;exact⟨_,rfl,Ext.refl _,rfl⟩
    ·intro f w2 hG hp hl;have hE:Ext wr w2:=hG;have hS:=hE.size;have q15:=tE hp 0 0 rfl rfl rfl;have q16:=tE hp 1 1 rfl rfl rfl;change OpGoal _ _ _ f w2 Ext _;refine oC #[f 0,f 1] Tryz.func66 rfl rfl ?_;rw[q15,q16];refine(rmul01_calls _ _ t H _ ((hfr.isC.isN TK_gt (by rw[LIM_eq];omega)).ext hE) (hh1.ext (hexr.trans hE))).mono ?_;rintro e w' ⟨v',rfl,h1,h2⟩;exact⟨v',rfl,h2,h1.mono hS⟩
    ·intro f w2 hG hp hl;simp only[OpGoal];go_simp;exact⟨_,rfl,Ext.refl _,rfl⟩
    ·intro f w2 hG hp hl;simp only[OpGoal];go_simp;exact⟨_,rfl,Ext.refl _,rfl⟩
    ·intro f w2 hG hp hl;have q18:=tE hp 0 3 rfl rfl rfl;have q19:=tE hp 1 4 rfl rfl rfl;simp only[OpGoal];go_simp;exact⟨_,rfl,Ext.refl _,rfl⟩
    ·intro f w2 hG hp hl;have hE:Ext wr w2:=hG;have q20:=tE hp 0 5 rfl rfl rfl;have hc2:=hE.cell hcell;simp only[OpGoal];go_simp;exact⟨_,rfl,Ext.refl _,rfl⟩
    ·intro f w2 hG hp hl;have q21:=tE hp 0 6 rfl rfl rfl;simp only[OpGoal];go_simp;exact⟨_,rfl,Ext.refl _,rfl⟩
    ·intro f w2 hG hp hl;have q22:=tE hp 0 7 rfl rfl rfl;simp only[OpGoal];go_simp;exact⟨_,rfl,Ext.refl _,rfl⟩
    ·intro f w2 hG hp hl;have hE:Ext wr w2:=hG;have hS:=hE.size;have q23:=tE hp 0 8 rfl rfl rfl;change OpGoal _ _ _ f w2 Ext _;refine oC #[f 8] Tryz.func61 rfl rfl ?_;rw[q23];refine(rsmall_calls p _ (by omega)).mono ?_;rintro e w' ⟨v',rfl,h1,h2⟩;exact⟨v',rfl,h2,h1.mono hS⟩
    ·intro f w2 hG hp hl;have hE:Ext wr w2:=hG;have hS:=hE.size;have q17:=tellV hp 0 2 rfl rfl (fun _=>hE);have q24:=tellV hp 1 9 rfl rfl (fun _=>hE);change OpGoal _ _ _ f w2 Ext _;refine oC #[f 2,f 9] Tryz.func65 rfl rfl ?_;refine(radd01_calls _ _ (t*H) p _ (q17.isC.isN TK_gt (by rw[LIM_eq];omega)) (q24.isC.isN TK_gt (by have:=sp p hp1;rw[LIM_eq];omega)) hs1 (by have:=sp p hp1;omega)).mono ?_;rintro e w' ⟨v',rfl,h1,h2⟩;exact⟨v',rfl,h2,h1.mono hS⟩
    ·intro f w2 hG hp hl;have hE:Ext wr w2:=hG;have q25:=tellV hp 0 10 rfl rfl (fun _=>hE);exact⟨_,rfl,Ext.refl _,q25⟩
   ·intro f w2 hG hp;have hE:Ext wr w2:=ChgS.nil hG;have q3:=endV hp 11 (by decide) rfl (fun _=>hE);clear hp;have hq3:=FrN.mono q3 hex.size;have hex2:=hex.trans hE;have hexr2:=hexr.trans hE;have hcell2:=hE.cell hcell;clear q3
    generalize f 11=v3 at*
    go_wp2_with fail;refine wpQ [PP.val (v3),PP.val (vh),PP.frN 3 .i64 TK ((t*H+p)*H),PP.val (.slice (some ⟨b,off,none⟩) xs.length cap),PP.val (.int .i64 j),PP.val (.pointer (some ⟨b,off+j,none⟩)),PP.val (.int .u64 (a:Int)),PP.val (.int .u64 (q:Int)),PP.val (.int .i64 (q:Int)),PP.frN 3 .i64 TK q,PP.frN 3 .i64 TK ((t*H+p)*H+q),PP.frN 3 .i64 TK ((t*H+p)*H+q)] [(0,11,3)] [0,1,2,3,4,5,6,7,8,9,10,11] ?_ ?_
    ·refine⟨?_,?_,?_,?_,?_,?_,?_,?_,?_,?_,?_,?_,trivial⟩
     ·intro f w3 hG hp hl
      have l3:f 11=v3:=hl.1 rfl
      simp only[OpGoal];go_simp;exact⟨_,rfl,Ext.refl _,rfl⟩
     ·intro f w3 hG hp hl;simp only[OpGoal];go_simp;exact⟨_,rfl,Ext.refl _,rfl⟩
     ·intro f w3 hG hp hl;have hE:Ext w2 w3:=hG;have hS:=hE.size;have q26:=tE hp 0 0 rfl rfl rfl;have q27:=tE hp 1 1 rfl rfl rfl;change OpGoal _ _ _ f w3 Ext _;refine oC #[f 0,f 1] Tryz.func66 rfl rfl ?_;rw[q26,q27];refine(rmul01_calls _ _ (t*H+p) H _ ((hq3.isC.isN TK_gt (by rw[LIM_eq];omega)).ext hE) (hh1.ext (hexr2.trans hE))).mono ?_;rintro e w' ⟨v',rfl,h1,h2⟩;exact⟨v',rfl,h2,h1.mono hS⟩
     ·intro f w3 hG hp hl;simp only[OpGoal];go_simp;exact⟨_,rfl,Ext.refl _,rfl⟩
     ·intro f w3 hG hp hl;simp only[OpGoal];go_simp;exact⟨_,rfl,Ext.refl _,rfl⟩
     ·intro f w3 hG hp hl;have q29:=tE hp 0 3 rfl rfl rfl;have q30:=tE hp 1 4 rfl rfl rfl;simp only[OpGoal];go_simp;exact⟨_,rfl,Ext.refl _,rfl⟩
     ·intro f w3 hG hp hl;have hE:Ext w2 w3:=hG;have q31:=tE hp 0 5 rfl rfl rfl;have hc2:=hE.cell hcell2;simp only[OpGoal];go_simp;exact⟨_,rfl,Ext.refl _,rfl⟩
     ·intro f w3 hG hp hl;have q32:=tE hp 0 6 rfl rfl rfl;simp only[OpGoal];go_simp;exact⟨_,rfl,Ext.refl _,rfl⟩
     ·intro f w3 hG hp hl;have q33:=tE hp 0 7 rfl rfl rfl;simp only[OpGoal];go_simp;exact⟨_,rfl,Ext.refl _,rfl⟩
     ·intro f w3 hG hp hl;have hE:Ext w2 w3:=hG;have hS:=hE.size;have q34:=tE hp 0 8 rfl rfl rfl;change OpGoal _ _ _ f w3 Ext _;refine oC #[f 8] Tryz.func61 rfl rfl ?_;rw[q34];refine(rsmall_calls q _ (by omega)).mono ?_;rintro e w' ⟨v',rfl,h1,h2⟩;exact⟨v',rfl,h2,h1.mono hS⟩
     ·intro f w3 hG hp hl;have hE:Ext w2 w3:=hG;have hS:=hE.size;have q28:=tellV hp 0 2 rfl rfl (fun _=>hE);have q35:=tellV hp 1 9 rfl rfl (fun _=>hE);change OpGoal _ _ _ f w3 Ext _;refine oC #[f 2,f 9] Tryz.func65 rfl rfl ?_;refine(radd01_calls _ _ ((t*H+p)*H) q _ (q28.isC.isN TK_gt (by rw[LIM_eq];omega)) (q35.isC.isN TK_gt (by have:=sp q hq1;rw[LIM_eq];omega)) hs3 (by have:=sp q hq1;omega)).mono ?_;rintro e w' ⟨v',rfl,h1,h2⟩;exact⟨v',rfl,h2,h1.mono hS⟩
     ·intro f w3 hG hp hl;have hE:Ext w2 w3:=hG;have q36:=tellV hp 0 10 rfl rfl (fun _=>hE);exact⟨_,rfl,Ext.refl _,q36⟩
    ·intro f w3 hG hp;have hE:Ext w2 w3:=ChgS.nil hG;have q3:=endV hp 11 (by decide) rfl (fun _=>hE);clear hp;have hq4:=FrN.mono q3 (Nat.le_trans hex2.size (Nat.le_refl _));rw[←Hz2.out,Hz.out]at hq4;clear q3
     generalize f 11=v4 at*
     go_wp2;go_roundw
     case rel=>exact ⟨j,rfl,hq4,by omega,hexr2.trans hE⟩
     case measure=>simp [intOf]
end Go.Proofs.YthoibjnkhkjnjaaGreat
