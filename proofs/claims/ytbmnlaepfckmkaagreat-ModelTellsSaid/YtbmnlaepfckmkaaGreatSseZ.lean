/-
 Terms in a list of one's own: two ranges merged.
-/
import Derived.Test.YtbmnlaepfckmkaaGreatSsdZ
namespace Go.Proofs.YtbmnlaepfckmkaaGreat
set_option maxRecDepth 100000
set_option maxHeartbeats 1000000
open Go.RowKit
set_option linter.unusedVariables false
set_option linter.unusedSimpArgs false
theorem ris_app_nil{L R:List TmC}(hL:Ris tkey L)(hR:Ris tkey R)(h:L.length=0∨R.length=0):Ris tkey (L++R):=by
 rcases h with h |h
 ·rw[List.eq_nil_of_length_eq_zero h];exact hR
 ·rw[List.eq_nil_of_length_eq_zero h,List.append_nil];exact hL
theorem parted{L R:List TmC}{a m b s e mid nn s0 r0:Nat}(hL:Ris tkey L)(hR:Ris tkey R)(hm:m=a+L.length)(hb:b=m+R.length)(hmid:mid=(a+b) / 2)(hnn:nn=mid+m)(he:e+s=nn)(has:a≤s)(hsm:s≤m)(hsd:s≤mid)(heb:e≤b)
  (h0:s0=a∨s0+b=nn) (h1:r0=m∨r0=mid)
  (k1:s=s0∨∃x y,L[s - 1 - a]? =some x∧R[mid - s]? =some y∧tkey x≤tkey y) (k2:s=r0∨∃x y,R[mid - 1 - s]? =some x∧L[s - a]? =some y∧tkey x≤tkey y):
  ∃L1 L2 R1 R2,L=L1++L2∧R=R1++R2∧L1.length+a=s∧R1.length+m=e∧L2.length+s=m∧R2.length+e=b∧Ris tkey L1∧Ris tkey L2∧Ris tkey R1∧Ris tkey R2∧
   ∀M1 M2:List TmC,M1.Perm (L1++R1)→M2.Perm (L2++R2)→Ris tkey M1→Ris tkey M2→(M1++M2).Perm (L++R)∧Ris tkey (M1++M2):=by
 have hem:e=m+(mid - s):=by omega
 refine⟨L.take (s - a),L.drop (s - a),R.take (mid - s),R.drop (mid - s),(List.take_append_drop _ _).symm,(List.take_append_drop _ _).symm,by rw[List.length_take];omega,by rw[List.length_take];omega,by rw[List.length_drop];omega,by rw[List.length_drop];omega,
  hL.take _,hL.drop _,hR.take _,hR.drop _,fun M1 M2 p1 p2 s1 s2=>merged hL hR (s - a) (mid - s) ?_ ?_ p1 p2 s1 s2⟩
 ·rcases k1 with k1 |⟨x,y,h2,h3,h4⟩
  ·rcases h0 with h0 |h0
   ·exact .inl (by omega)
   ·exact .inr (.inl (by omega))
  ·exact .inr (.inr ⟨x,y,by rw[show s - a - 1=s - 1 - a by omega];exact h2,h3,h4⟩)
 ·rcases k2 with k2 |⟨x,y,h2,h3,h4⟩
  ·rcases h1 with h1 |h1
   ·exact .inr (.inl (by omega))
   ·exact .inl (by omega)
  ·exact .inr (.inr ⟨x,y,by rw[show mid - s - 1=mid - 1 - s by omega];exact h2,h3,h4⟩)
set_option maxHeartbeats 16000000 in
theorem symMerge_gt(n cap g:Nat)(rest:List Value)(dd:Nat)(ih:∀(A L R S:List TmC) (w:World) (a m b:Nat),L.length+R.length≤dd→n=(A++L++R++S).length→a=A.length→m=a+L.length→b=m+R.length→0<L.length→0<R.length→Ris tkey L→Ris tkey R→HoldT g rest w (A++L++R++S)→
   Calls Tryz.prog 207 #[.slice (some ⟨g,0,none⟩) n cap,.int .i64 (a:Int),.int .i64 (m:Int),.int .i64 (b:Int),.func (.func 157) #[] #[]] w fun e w'=>e= .returned (.tuple #[])∧Chg g w w'∧∃M,M.Perm (L++R)∧Ris tkey M∧HoldT g rest w' (A++M++S))
  (A L R S:List TmC) (w:World) (a m b mid:Nat) (hd:L.length+R.length≤dd+1) (hn:n=(A++L++R++S).length) (hN:n≤35184372088832) (ha:a=A.length) (hm:m=a+L.length) (hb:b=m+R.length) (hL1:1<L.length) (hR1:1<R.length) (hL:Ris tkey L) (hR:Ris tkey R) (hH:HoldT g rest w (A++L++R++S))
  (hmid:mid=(a+b) / 2) (hgt:mid<m):
  Calls Tryz.prog 207 #[.slice (some ⟨g,0,none⟩) n cap,.int .i64 (a:Int),.int .i64 (m:Int),.int .i64 (b:Int),.func (.func 157) #[] #[]] w fun e w'=>e= .returned (.tuple #[])∧Chg g w w'∧∃M,M.Perm (L++R)∧Ris tkey M∧HoldT g rest w' (A++M++S):=by
 simp only[List.length_append]at hn
 have hbn:b≤n:=by omega
 have hmn:m<n:=by omega
 have hma:¬(m:Int) - (a:Int)=1:=by omega
 have hbm:¬(b:Int) - (m:Int)=1:=by omega
 obtain⟨nn,hnn⟩:∃nn,nn=mid+m:=⟨_,rfl⟩;obtain⟨p,hp⟩:∃p,p+1=nn:=⟨nn - 1,by omega⟩;obtain⟨s0,hs0⟩:∃s0,s0+b=nn:=⟨nn - b,by omega⟩;obtain⟨r0,hr0⟩:∃r0,r0=mid:=⟨_,rfl⟩;have HA:=Lib.hid (show n=A.length+L.length+R.length+S.length∧a=A.length∧m=a+L.length∧b=m+R.length∧mid=(a+b) / 2∧nn=mid+m∧p+1=nn∧(s0+b=nn)∧r0=mid∧a≤s0∧s0<r0∧r0≤m∧r0≤mid∧nn≤s0+b∧1<L.length∧1<R.length∧L.length+R.length≤dd+1∧(mid<m)by omega)
 have hmid1:((a:Int)+(b:Int)) / 2=(mid:Int):=by omega
 have hnn1:(mid:Int)+(m:Int)=(nn:Int):=by omega
 have hp1:(nn:Int) - 1=(p:Int):=by omega
 have hgt1:(mid:Int)<(m:Int):=by omega
 have hs1:(nn:Int) - (b:Int)=(s0:Int):=by omega
 have hab:a≤b:=by omega
 have hmb:m≤b:=by omega
 have ham:a≤m:=by omega
 have hdn:mid<n:=by omega
 have hnn2:nn≤70368744177664:=by omega
 have has0:a≤s0:=by omega
 have hsr0:s0≤r0:=by omega
 have hrm0:r0≤m:=by omega
 have HIH:=Lib.hid ih;have HLR:=Lib.hid (And.intro hL hR);have Hd:=Lib.hid hH;clear hn ha hm hb hL1 hR1 hL hR hH hmid hnn hp hs0 hr0 ih hd hgt
 go_enter Tryz.func207,Tryz.ntmps207
 go_wp2_with fail
 go_loopw [20,21] (fun s20 s21 wr=>∃(s r:Nat),s20= .int .i64 (s:Int)∧s21= .int .i64 (r:Int)∧s0≤s∧s≤r∧r≤r0∧Hid ((s=s0∨∃x y,L[s - 1 - a]? =some x∧R[mid - s]? =some y∧tkey x≤tkey y)∧(r=r0∨∃x y,R[mid - 1 - r]? =some x∧L[r - a]? =some y∧tkey x≤tkey y))∧Ext w wr) (fun s20 s21 _=>(intOf s21 - intOf s20).toNat)
 case atStart=>exact ⟨s0,mid,rfl,rfl,Nat.le_refl _,by have:=HA.out;omega,by have:=HA.out;omega,Lib.hid ⟨.inl rfl,.inl (by have:=HA.out;omega)⟩,Ext.refl _⟩
 case round=>
  obtain⟨s,r,rfl,rfl,hs,hsr,hr,hF,hex⟩:=hrel
  rcases Nat.eq_or_lt_of_le hsr with he |hlt
  ·subst he;obtain⟨e,he⟩:∃e,e+s=nn:=⟨nn - s,by have:=HA.out;omega⟩;obtain⟨L1,L2,R1,R2,HB',HR',HMG'⟩:∃L1 L2 R1 R2,Hid (L.length=L1.length+L2.length∧R.length=R1.length+R2.length∧L1.length+a=s∧R1.length+m=e∧L2.length+s=m∧R2.length+e=b∧e+s=nn∧s≤mid∧s≤m∧a≤s∧e≤b∧L=L1++L2∧R=R1++R2)∧Hid (Ris tkey L1∧Ris tkey L2∧Ris tkey R1∧Ris tkey R2)∧
     Hid (∀M1 M2:List TmC,M1.Perm (L1++R1)→M2.Perm (L2++R2)→Ris tkey M1→Ris tkey M2→(M1++M2).Perm (L++R)∧Ris tkey (M1++M2)):=by
    have h0:=HA.out;obtain⟨h1,h2⟩:=hF.out;obtain⟨L1,L2,R1,R2,k1,k2,k3,k4,k5,k6,k7,k8,k9,k10,k11⟩:=parted (L:=L) (R:=R) (a:=a) (m:=m) (b:=b) (s:=s) (e:=e) (mid:=mid) (nn:=nn) (s0:=s0) (r0:=r0) HLR.out.1 HLR.out.2 (by omega) (by omega) (by omega) (by omega) he (by omega) (by omega) (by omega) (by omega) (by omega) (by omega) h1 h2;have k12:=congrArg List.length k1;have k13:=congrArg List.length k2;rw[List.length_append]at k12 k13;exact⟨L1,L2,R1,R2,Lib.hid ⟨k12,k13,k3,k4,k5,k6,he,by omega,by omega,by omega,by omega,k1,k2⟩,Lib.hid ⟨k7,k8,k9,k10⟩,Lib.hid k11⟩
   have HB:=Lib.hid (show L.length=L1.length+L2.length∧R.length=R1.length+R2.length∧L1.length+a=s∧R1.length+m=e∧L2.length+s=m∧R2.length+e=b∧e+s=nn∧s≤mid∧s≤m∧a≤s∧e≤b by have:=HB'.out;omega);have HR:=HR';have HMG:=HMG'
   have H0:=Lib.hid (show HoldT g rest wr (A++L1++L2++R1++R2++S)by
    have:=Hd.out.ext hex
    rw[HB'.out.2.2.2.2.2.2.2.2.2.2.2.1,HB'.out.2.2.2.2.2.2.2.2.2.2.2.2]at this
    simpa[List.append_assoc]using this)
   have hes:(nn:Int) - (s:Int)=(e:Int):=by omega
   have hsm:s≤m:=by have:=HB.out;omega
   have hsd:s≤mid:=by have:=HB.out;omega
   have hab2:a≤s:=by have:=HB.out;omega
   have heb2:e≤b:=by have:=HB.out;omega
   clear he hF HB' HR' HMG'
   rcases Nat.eq_or_lt_of_le hsd with hsd1 |hsd1
   ·have HSD:=Lib.hid hsd1;clear hsd1
    have hq0:(s:Int)<(m:Int):=by have:=HA.out;have:=HB.out;have:=HSD.out;omega
    have hq1:¬(m:Int)<(e:Int):=by have:=HA.out;have:=HB.out;have:=HSD.out;omega
    have hq2:(a:Int)<(s:Int):=by have:=HA.out;have:=HB.out;have:=HSD.out;omega
    have hq3:¬(s:Int)<(mid:Int):=by have:=HA.out;have:=HB.out;have:=HSD.out;omega
    have hq4:(mid:Int)<(e:Int):=by have:=HA.out;have:=HB.out;have:=HSD.out;omega
    have hq5:(e:Int)<(b:Int):=by have:=HA.out;have:=HB.out;have:=HSD.out;omega
    have H1:=Lib.hid (show HoldT g rest wr (A++(L1++R1)++(L2++R2++S))by
     have h0:=H0.out
     have:L2.length=0∨R1.length=0:=by have:=HA.out;have:=HB.out;have:=HSD.out;omega
     rcases this with h |h
     ·rw[List.eq_nil_of_length_eq_zero h]at h0 ⊢
      simpa[List.append_assoc]using h0
     ·rw[List.eq_nil_of_length_eq_zero h]at h0 ⊢
      simpa[List.append_assoc]using h0)
    have hC1:Chg g w wr:=(hex.chg g);obtain⟨M1,HM1⟩:∃M1,Hid (M1.Perm (L1++R1)∧Ris tkey M1∧HoldT g rest wr (A++M1++(L2++R2++S))):=⟨L1++R1,Lib.hid ⟨List.Perm.refl _,ris_app_nil HR.out.1 HR.out.2.2.1 (by have:=HA.out;have:=HB.out;have:=HSD.out;omega),H1.out⟩⟩;have hC3:Chg g w wr:=hC1;go_wp2_with fail;refine(HIH.out (A++M1) L2 R2 S wr mid e b (by have:=HA.out;have:=HB.out;have:=HSD.out;omega) (by have:=HA.out;have:=HB.out;have:=HSD.out;have:=HM1.out.1.length_eq;simp only[List.length_append]at this ⊢;omega) (by have:=HA.out;have:=HB.out;have:=HSD.out;have:=HM1.out.1.length_eq;simp only[List.length_append]at this ⊢;omega) (by have:=HA.out;have:=HB.out;have:=HSD.out;omega) (by have:=HA.out;have:=HB.out;have:=HSD.out;omega) (by have:=HA.out;have:=HB.out;have:=HSD.out;omega) (by have:=HA.out;have:=HB.out;have:=HSD.out;omega) HR.out.2.1 HR.out.2.2.2 (by simpa[List.append_assoc]using HM1.out.2.2)).mono ?_;rintro ee w4 ⟨rfl,hc4,M2,hp2,hs2,hH4⟩;have HM2:=Lib.hid (And.intro hp2 (And.intro hs2 (show HoldT g rest w4 (A++(M1++M2)++S)by simpa[List.append_assoc]using hH4)));have hC4:Chg g w w4:=hC3.trans hc4;clear hp2 hs2 hH4 hc4;have HFN:=Lib.hid (HMG.out M1 M2 HM1.out.1 HM2.out.1 HM1.out.2.1 HM2.out.2.1);have HF2:=Lib.hid HM2.out.2.2;clear HMG HM1 HM2 HIH H1;go_wp2
    go_end0
    exact⟨rfl,hC4,M1++M2,HFN.out.1,HFN.out.2,by simpa only[List.append_assoc]using HF2.out⟩
   ·have HSD:=Lib.hid hsd1
    have hsm1:s<m:=by have:=HA.out;omega
    rcases Nat.eq_or_lt_of_le (show a≤s by omega)with has |has
    ·rcases Nat.eq_or_lt_of_le (show e≤b by omega)with heb |heb
     ·have HAS:=Lib.hid has;have HEB:=Lib.hid heb;clear has heb
      have hq0:(s:Int)<(m:Int):=by have:=HA.out;have:=HB.out;have:=HAS.out;have:=HEB.out;omega
      have hq1:(m:Int)<(e:Int):=by have:=HA.out;have:=HB.out;have:=HAS.out;have:=HEB.out;omega
      have hq2:¬(a:Int)<(s:Int):=by have:=HA.out;have:=HB.out;have:=HAS.out;have:=HEB.out;omega
      have hq3:(s:Int)<(mid:Int):=by have:=HA.out;have:=HB.out;have:=HAS.out;have:=HEB.out;omega
      have hq4:(mid:Int)<(e:Int):=by have:=HA.out;have:=HB.out;have:=HAS.out;have:=HEB.out;omega
      have hq5:¬(e:Int)<(b:Int):=by have:=HA.out;have:=HB.out;have:=HAS.out;have:=HEB.out;omega
      go_wp2_with fail;refine(rotate_calls _ n cap g rest (A++L1) L2 R1 (R2++S) wr s m e (by have:=HA.out;have:=HB.out;have:=HAS.out;have:=HEB.out;simp only[List.length_append];omega) hN (by have:=HA.out;have:=HB.out;have:=HAS.out;have:=HEB.out;simp only[List.length_append];omega) (by have:=HA.out;have:=HB.out;have:=HAS.out;have:=HEB.out;omega) (by have:=HA.out;have:=HB.out;have:=HAS.out;have:=HEB.out;omega) (by have:=HA.out;have:=HB.out;have:=HAS.out;have:=HEB.out;omega) (by have:=HA.out;have:=HB.out;have:=HAS.out;have:=HEB.out;omega) (by simpa[List.append_assoc]using H0.out)).mono ?_;rintro ee w2 ⟨rfl,hc2,hH2⟩;have H1:=Lib.hid (show HoldT g rest w2 (A++(L1++R1)++(L2++R2++S))by simpa[List.append_assoc]using hH2);have hC1:Chg g w w2:=(hex.chg g).trans hc2;clear hH2 hc2;obtain⟨M1,HM1⟩:∃M1,Hid (M1.Perm (L1++R1)∧Ris tkey M1∧HoldT g rest w2 (A++M1++(L2++R2++S))):=⟨L1++R1,Lib.hid ⟨List.Perm.refl _,ris_app_nil HR.out.1 HR.out.2.2.1 (by have:=HA.out;have:=HB.out;have:=HAS.out;have:=HEB.out;omega),H1.out⟩⟩;have hC3:Chg g w w2:=hC1;obtain⟨M2,HM2⟩:∃M2,Hid (M2.Perm (L2++R2)∧Ris tkey M2∧HoldT g rest w2 (A++(M1++M2)++S)):=⟨L2++R2,Lib.hid ⟨List.Perm.refl _,ris_app_nil HR.out.2.1 HR.out.2.2.2 (by have:=HA.out;have:=HB.out;have:=HAS.out;have:=HEB.out;omega),by simpa[List.append_assoc]using HM1.out.2.2⟩⟩;have hC4:Chg g w w2:=hC3
      have HFN:=Lib.hid (HMG.out M1 M2 HM1.out.1 HM2.out.1 HM1.out.2.1 HM2.out.2.1);have HF2:=Lib.hid HM2.out.2.2;clear HMG HM1 HM2 HIH H1;go_wp2
      go_end0
      exact⟨rfl,hC4,M1++M2,HFN.out.1,HFN.out.2,by simpa only[List.append_assoc]using HF2.out⟩
     ·have HAS:=Lib.hid has;have HEB:=Lib.hid heb;clear has heb
      exfalso;have:=HA.out;have:=HB.out;have:=HAS.out;have:=HEB.out;omega
    ·rcases Nat.eq_or_lt_of_le (show e≤b by omega)with heb |heb
     ·have HAS:=Lib.hid has;have HEB:=Lib.hid heb;clear has heb
      have hq0:(s:Int)<(m:Int):=by have:=HA.out;have:=HB.out;have:=HAS.out;have:=HEB.out;omega
      have hq1:(m:Int)<(e:Int):=by have:=HA.out;have:=HB.out;have:=HAS.out;have:=HEB.out;omega
      have hq2:(a:Int)<(s:Int):=by have:=HA.out;have:=HB.out;have:=HAS.out;have:=HEB.out;omega
      have hq3:(s:Int)<(mid:Int):=by have:=HA.out;have:=HB.out;have:=HAS.out;have:=HEB.out;omega
      have hq4:(mid:Int)<(e:Int):=by have:=HA.out;have:=HB.out;have:=HAS.out;have:=HEB.out;omega
      have hq5:¬(e:Int)<(b:Int):=by have:=HA.out;have:=HB.out;have:=HAS.out;have:=HEB.out;omega
      go_wp2_with fail;refine(rotate_calls _ n cap g rest (A++L1) L2 R1 (R2++S) wr s m e (by have:=HA.out;have:=HB.out;have:=HAS.out;have:=HEB.out;simp only[List.length_append];omega) hN (by have:=HA.out;have:=HB.out;have:=HAS.out;have:=HEB.out;simp only[List.length_append];omega) (by have:=HA.out;have:=HB.out;have:=HAS.out;have:=HEB.out;omega) (by have:=HA.out;have:=HB.out;have:=HAS.out;have:=HEB.out;omega) (by have:=HA.out;have:=HB.out;have:=HAS.out;have:=HEB.out;omega) (by have:=HA.out;have:=HB.out;have:=HAS.out;have:=HEB.out;omega) (by simpa[List.append_assoc]using H0.out)).mono ?_;rintro ee w2 ⟨rfl,hc2,hH2⟩;have H1:=Lib.hid (show HoldT g rest w2 (A++(L1++R1)++(L2++R2++S))by simpa[List.append_assoc]using hH2);have hC1:Chg g w w2:=(hex.chg g).trans hc2;clear hH2 hc2;go_wp2_with fail;refine(HIH.out A L1 R1 (L2++R2++S) w2 a s mid (by have:=HA.out;have:=HB.out;have:=HAS.out;have:=HEB.out;omega) (by have:=HA.out;have:=HB.out;have:=HAS.out;have:=HEB.out;simp only[List.length_append];omega) (by have:=HA.out;omega) (by have:=HA.out;have:=HB.out;have:=HAS.out;have:=HEB.out;omega) (by have:=HA.out;have:=HB.out;have:=HAS.out;have:=HEB.out;omega) (by have:=HA.out;have:=HB.out;have:=HAS.out;have:=HEB.out;omega) (by have:=HA.out;have:=HB.out;have:=HAS.out;have:=HEB.out;omega) HR.out.1 HR.out.2.2.1 (by simpa[List.append_assoc]using H1.out)).mono ?_
      rintro ee w3 ⟨rfl,hc3,M1,hp1,hs1,hH3⟩;have HM1:=Lib.hid (And.intro hp1 (And.intro hs1 hH3));have hC3:Chg g w w3:=hC1.trans hc3;clear hp1 hs1 hH3 hc3;obtain⟨M2,HM2⟩:∃M2,Hid (M2.Perm (L2++R2)∧Ris tkey M2∧HoldT g rest w3 (A++(M1++M2)++S)):=⟨L2++R2,Lib.hid ⟨List.Perm.refl _,ris_app_nil HR.out.2.1 HR.out.2.2.2 (by have:=HA.out;have:=HB.out;have:=HAS.out;have:=HEB.out;omega),by simpa[List.append_assoc]using HM1.out.2.2⟩⟩;have hC4:Chg g w w3:=hC3;have HFN:=Lib.hid (HMG.out M1 M2 HM1.out.1 HM2.out.1 HM1.out.2.1 HM2.out.2.1);have HF2:=Lib.hid HM2.out.2.2;clear HMG HM1 HM2 HIH H1;go_wp2
      go_end0
      exact⟨rfl,hC4,M1++M2,HFN.out.1,HFN.out.2,by simpa only[List.append_assoc]using HF2.out⟩
     ·have HAS:=Lib.hid has;have HEB:=Lib.hid heb;clear has heb
      have hq0:(s:Int)<(m:Int):=by have:=HA.out;have:=HB.out;have:=HAS.out;have:=HEB.out;omega
      have hq1:(m:Int)<(e:Int):=by have:=HA.out;have:=HB.out;have:=HAS.out;have:=HEB.out;omega
      have hq2:(a:Int)<(s:Int):=by have:=HA.out;have:=HB.out;have:=HAS.out;have:=HEB.out;omega
      have hq3:(s:Int)<(mid:Int):=by have:=HA.out;have:=HB.out;have:=HAS.out;have:=HEB.out;omega
      have hq4:(mid:Int)<(e:Int):=by have:=HA.out;have:=HB.out;have:=HAS.out;have:=HEB.out;omega
      have hq5:(e:Int)<(b:Int):=by have:=HA.out;have:=HB.out;have:=HAS.out;have:=HEB.out;omega
      go_wp2_with fail;refine(rotate_calls _ n cap g rest (A++L1) L2 R1 (R2++S) wr s m e (by have:=HA.out;have:=HB.out;have:=HAS.out;have:=HEB.out;simp only[List.length_append];omega) hN (by have:=HA.out;have:=HB.out;have:=HAS.out;have:=HEB.out;simp only[List.length_append];omega) (by have:=HA.out;have:=HB.out;have:=HAS.out;have:=HEB.out;omega) (by have:=HA.out;have:=HB.out;have:=HAS.out;have:=HEB.out;omega) (by have:=HA.out;have:=HB.out;have:=HAS.out;have:=HEB.out;omega) (by have:=HA.out;have:=HB.out;have:=HAS.out;have:=HEB.out;omega) (by simpa[List.append_assoc]using H0.out)).mono ?_;rintro ee w2 ⟨rfl,hc2,hH2⟩;have H1:=Lib.hid (show HoldT g rest w2 (A++(L1++R1)++(L2++R2++S))by simpa[List.append_assoc]using hH2);have hC1:Chg g w w2:=(hex.chg g).trans hc2;clear hH2 hc2;go_wp2_with fail;refine(HIH.out A L1 R1 (L2++R2++S) w2 a s mid (by have:=HA.out;have:=HB.out;have:=HAS.out;have:=HEB.out;omega) (by have:=HA.out;have:=HB.out;have:=HAS.out;have:=HEB.out;simp only[List.length_append];omega) (by have:=HA.out;omega) (by have:=HA.out;have:=HB.out;have:=HAS.out;have:=HEB.out;omega) (by have:=HA.out;have:=HB.out;have:=HAS.out;have:=HEB.out;omega) (by have:=HA.out;have:=HB.out;have:=HAS.out;have:=HEB.out;omega) (by have:=HA.out;have:=HB.out;have:=HAS.out;have:=HEB.out;omega) HR.out.1 HR.out.2.2.1 (by simpa[List.append_assoc]using H1.out)).mono ?_
      rintro ee w3 ⟨rfl,hc3,M1,hp1,hs1,hH3⟩;have HM1:=Lib.hid (And.intro hp1 (And.intro hs1 hH3));have hC3:Chg g w w3:=hC1.trans hc3;clear hp1 hs1 hH3 hc3;go_wp2_with fail;refine(HIH.out (A++M1) L2 R2 S w3 mid e b (by have:=HA.out;have:=HB.out;have:=HAS.out;have:=HEB.out;omega) (by have:=HA.out;have:=HB.out;have:=HAS.out;have:=HEB.out;have:=HM1.out.1.length_eq;simp only[List.length_append]at this ⊢;omega) (by have:=HA.out;have:=HB.out;have:=HAS.out;have:=HEB.out;have:=HM1.out.1.length_eq;simp only[List.length_append]at this ⊢;omega) (by have:=HA.out;have:=HB.out;have:=HAS.out;have:=HEB.out;omega) (by have:=HA.out;have:=HB.out;have:=HAS.out;have:=HEB.out;omega) (by have:=HA.out;have:=HB.out;have:=HAS.out;have:=HEB.out;omega) (by have:=HA.out;have:=HB.out;have:=HAS.out;have:=HEB.out;omega) HR.out.2.1 HR.out.2.2.2 (by simpa[List.append_assoc]using HM1.out.2.2)).mono ?_;rintro ee w4 ⟨rfl,hc4,M2,hp2,hs2,hH4⟩;have HM2:=Lib.hid (And.intro hp2 (And.intro hs2 (show HoldT g rest w4 (A++(M1++M2)++S)by simpa[List.append_assoc]using hH4)));have hC4:Chg g w w4:=hC3.trans hc4;clear hp2 hs2 hH4 hc4;have HFN:=Lib.hid (HMG.out M1 M2 HM1.out.1 HM2.out.1 HM1.out.2.1 HM2.out.2.1);have HF2:=Lib.hid HM2.out.2.2;clear HMG HM1 HM2 HIH H1;go_wp2
      go_end0
      exact⟨rfl,hC4,M1++M2,HFN.out.1,HFN.out.2,by simpa only[List.append_assoc]using HF2.out⟩
  ·obtain⟨c,hc⟩:∃c,c=(s+r) / 2:=⟨_,rfl⟩;obtain⟨q,hq⟩:∃q,q+c=p:=⟨p - c,by have:=HA.out;omega⟩
   obtain⟨L1,x,L2,HX⟩:∃L1 x L2,Hid (L=L1++x::L2∧L1.length=c - a∧L[c - a]? =some x):=by
    obtain⟨L1,x,L2,h1,h2,h3⟩:=split_at (R:=L) (h:=c - a) (by have:=HA.out;omega);exact⟨L1,x,L2,Lib.hid ⟨h1,h2,h3⟩⟩
   obtain⟨R1,y,R2,HY⟩:∃R1 y R2,Hid (R=R1++y::R2∧R1.length=q - m∧R[q - m]? =some y):=by
    obtain⟨L1,x,L2,h1,h2,h3⟩:=split_at (R:=R) (h:=q - m) (by have:=HA.out;omega);exact⟨L1,x,L2,Lib.hid ⟨h1,h2,h3⟩⟩
   have H5:Hid (HoldT g rest wr ((A++L1)++x::((L2++R1)++y::(R2++S)))):=by
    have:=Hd.out.ext hex
    rw[HX.out.1,HY.out.1]at this;exact Lib.hid (by simpa[List.append_assoc]using this)
   have HLM:Hid (c=(A++L1).length∧q=(A++L1).length+1+(L2++R1).length):=by
    have h0:=HA.out;obtain⟨k1,k2, -⟩:=HX.out;obtain⟨k3,k4, -⟩:=HY.out;have k5:=congrArg List.length k1;simp only[List.length_append,List.length_cons]at k5 ⊢;exact Lib.hid ⟨by omega,by omega⟩
   have HCc:=Lib.hid (H5.out.at (get_at HLM.out.1));have HCq:=Lib.hid (H5.out.at (get_at2 HLM.out.2));obtain⟨v,hv⟩:∃v:Bool,v=decide (y.c<x.c):=⟨_,rfl⟩;have HR:=Lib.hid hv;have HCQ:=Lib.hid (And.intro hc hq)
   have hsr':(s:Int)<(r:Int):=by omega
   have hqn:q<n:=by have:=HA.out;omega
   have hcn:c<n:=by have:=HA.out;omega
   have hqn':(q:Int)<(n:Int):=by omega
   have hcn':(c:Int)<(n:Int):=by omega
   have hc2:((s:Int)+(r:Int)) / 2=(c:Int):=by omega
   have hq2:(p:Int) - (c:Int)=(q:Int):=by omega
   have hcr:c<r:=by omega
   have hsc:s≤c:=by omega
   have hrn:r≤n:=by omega
   clear hv hc hq;go_wp2_with fail;refine wpQ [PP.val (.func (.func 157) #[] #[]),PP.val (.slice (some ⟨g,0,none⟩) n cap),PP.val (.int .i64 (p:Int)),PP.val (.int .i64 (c:Int)),PP.val (.int .i64 (q:Int)),PP.val (.pointer (some ⟨g,q*4,none⟩)),PP.val (.agg #[.int .i64 y.c,.bool y.b,.slice y.a1 y.n1 y.c1,.slice y.a2 y.n2 y.c2]),PP.val (.slice (some ⟨g,0,none⟩) n cap),PP.val (.int .i64 (c:Int)),PP.val (.pointer (some ⟨g,c*4,none⟩)),PP.val (.agg #[.int .i64 x.c,.bool x.b,.slice x.a1 x.n1 x.c1,.slice x.a2 x.n2 x.c2]),PP.pred (fun v=>∃z:Int,v= .int .i64 z∧(z<0↔y.c<x.c)),PP.val (.bool v),PP.val (.bool (!v))] [] [0,1,2,3,4,5,6,7,8,9,10,11,12,13] ?_ ?_
   ·refine⟨?_,?_,?_,?_,?_,?_,?_,?_,?_,?_,?_,?_,?_,?_,trivial⟩
    ·intro f w2 hG hp hl;simp only[OpGoal];go_simp;exact⟨_,rfl,Ext.refl _,rfl⟩
    ·intro f w2 hG hp hl;simp only[OpGoal];go_simp;exact⟨_,rfl,Ext.refl _,rfl⟩
    ·intro f w2 hG hp hl;simp only[OpGoal];go_simp;exact⟨_,rfl,Ext.refl _,rfl⟩
    ·intro f w2 hG hp hl;simp only[OpGoal];go_simp;exact⟨_,rfl,Ext.refl _,rfl⟩
    ·intro f w2 hG hp hl;have hE:Ext wr w2:=hG;have hS:=hE.size;have q160:=tE hp 0 2 rfl rfl rfl;have q161:=tE hp 1 3 rfl rfl rfl;simp only[OpGoal];go_simp
     first
     |exact ⟨_,rfl,Ext.refl _,rfl⟩
     |exact ⟨_,rfl,Ext.refl _,congrArg (Value.int .i64) (Go.IntWalk.i64_in _ ⟨by omega,by omega⟩)⟩
    ·intro f w2 hG hp hl;have q159:=tE hp 0 1 rfl rfl rfl;have q162:=tE hp 1 4 rfl rfl rfl;simp only[OpGoal];go_simp;exact⟨_,rfl,Ext.refl _,rfl⟩
    ·intro f w2 hG hp hl;have hE:Ext wr w2:=hG;have q163:=tE hp 0 5 rfl rfl rfl;change OpGoal _ _ _ f w2 Ext _;exact og_loadAt (P:=Tryz.prog) _ _ g (q*4) _ _ rfl rfl q163 (fun j v h=>HCq.out _ hE j v h) Tryz.underlying95 rfl (by kernel_rfl) rfl
    ·intro f w2 hG hp hl;simp only[OpGoal];go_simp;exact⟨_,rfl,Ext.refl _,rfl⟩
    ·intro f w2 hG hp hl;simp only[OpGoal];go_simp;exact⟨_,rfl,Ext.refl _,rfl⟩
    ·intro f w2 hG hp hl;have q165:=tE hp 0 7 rfl rfl rfl;have q166:=tE hp 1 8 rfl rfl rfl;simp only[OpGoal];go_simp;exact⟨_,rfl,Ext.refl _,rfl⟩
    ·intro f w2 hG hp hl;have hE:Ext wr w2:=hG;have q167:=tE hp 0 9 rfl rfl rfl;change OpGoal _ _ _ f w2 Ext _;exact og_loadAt (P:=Tryz.prog) _ _ g (c*4) _ _ rfl rfl q167 (fun j v h=>HCc.out _ hE j v h) Tryz.underlying95 rfl (by kernel_rfl) rfl
    ·intro f w2 hG hp hl;have q158:=tE hp 0 0 rfl rfl rfl;have q164:=tE hp 1 6 rfl rfl rfl;have q168:=tE hp 2 10 rfl rfl rfl;change OpGoal _ _ _ f w2 Ext _;refine og_callv (P:=Tryz.prog) _ _ _ _ #[f 6,f 10] Tryz.func157 (by kernel_rfl) (by kernel_rfl) rfl rfl q158 (by kernel_rfl) ?_;rw[q164,q168];refine(cmpT_calls y x _).mono ?_;rintro e w' ⟨z,rfl,h1,h2⟩;exact⟨_,rfl,h2,z,rfl,h1⟩
    ·intro f w2 hG hp hl;have hE:Ext wr w2:=hG;have q169:=tellV hp 0 11 rfl rfl (fun _=>hE);obtain⟨z,hz,hzz⟩:=q169;simp only[OpGoal];go_simp;exact⟨_,rfl,Ext.refl _,congrArg Value.bool (by first | (rw[HR.out];done) | (rw[HR.out];exact decide_eq_decide.2 hzz))⟩
    ·intro f w2 hG hp hl;have q170:=tE hp 0 12 rfl rfl rfl;simp only[OpGoal];go_simp;exact⟨_,rfl,Ext.refl _,rfl⟩
   ·intro f w2 hG hp;have hE:Ext wr w2:=ChgS.nil hG
    have q171:f 13= .bool (!v):=endV hp 13 (by decide) rfl (fun h=>by cases h)
    try simp only[q171]
    clear hp
    cases v with
    |true=>
     go_wp2;go_roundw
     case rel=>
      refine⟨s,c,rfl,rfl,hs,hsc,by omega,Lib.hid ⟨hF.out.1,.inr ⟨y,x,?_,HX.out.2.2,?_⟩⟩,hex.trans hE⟩
      ·have:=HY.out.2.2
       rw[show mid - 1 - c=q - m by have:=HCQ.out;have:=HA.out;omega];exact this
      ·have:=of_decide_eq_true HR.out.symm
       show y.c≤x.c
       omega
     case measure=>simp [intOf];omega
    |false=>
     obtain⟨c1,hc1⟩:∃c1:Nat,c1=c+1:=⟨_,rfl⟩
     have hc3:(c:Int)+1=(c1:Int):=by omega
     have HH:=Lib.hid hc1;clear hc1;go_wp2;go_roundw
     case rel=>
      refine⟨c1,r,rfl,rfl,by omega,by omega,hr,Lib.hid ⟨.inr ⟨x,y,?_,?_,?_⟩,hF.out.2⟩,hex.trans hE⟩
      ·rw[show c1 - 1 - a=c - a by have:=HH.out;omega];exact HX.out.2.2
      ·have:=HY.out.2.2
       rw[show mid - c1=q - m by have:=HCQ.out;have:=HA.out;have:=HH.out;omega];exact this
      ·have:=of_decide_eq_false HR.out.symm
       show x.c≤y.c
       omega
     case measure=>simp [intOf];omega
set_option maxHeartbeats 16000000 in
theorem symMerge_le(n cap g:Nat)(rest:List Value)(dd:Nat)(ih:∀(A L R S:List TmC) (w:World) (a m b:Nat),L.length+R.length≤dd→n=(A++L++R++S).length→a=A.length→m=a+L.length→b=m+R.length→0<L.length→0<R.length→Ris tkey L→Ris tkey R→HoldT g rest w (A++L++R++S)→
   Calls Tryz.prog 207 #[.slice (some ⟨g,0,none⟩) n cap,.int .i64 (a:Int),.int .i64 (m:Int),.int .i64 (b:Int),.func (.func 157) #[] #[]] w fun e w'=>e= .returned (.tuple #[])∧Chg g w w'∧∃M,M.Perm (L++R)∧Ris tkey M∧HoldT g rest w' (A++M++S))
  (A L R S:List TmC) (w:World) (a m b mid:Nat) (hd:L.length+R.length≤dd+1) (hn:n=(A++L++R++S).length) (hN:n≤35184372088832) (ha:a=A.length) (hm:m=a+L.length) (hb:b=m+R.length) (hL1:1<L.length) (hR1:1<R.length) (hL:Ris tkey L) (hR:Ris tkey R) (hH:HoldT g rest w (A++L++R++S))
  (hmid:mid=(a+b) / 2) (hgt:m≤mid):
  Calls Tryz.prog 207 #[.slice (some ⟨g,0,none⟩) n cap,.int .i64 (a:Int),.int .i64 (m:Int),.int .i64 (b:Int),.func (.func 157) #[] #[]] w fun e w'=>e= .returned (.tuple #[])∧Chg g w w'∧∃M,M.Perm (L++R)∧Ris tkey M∧HoldT g rest w' (A++M++S):=by
 simp only[List.length_append]at hn
 have hbn:b≤n:=by omega
 have hmn:m<n:=by omega
 have hma:¬(m:Int) - (a:Int)=1:=by omega
 have hbm:¬(b:Int) - (m:Int)=1:=by omega
 obtain⟨nn,hnn⟩:∃nn,nn=mid+m:=⟨_,rfl⟩;obtain⟨p,hp⟩:∃p,p+1=nn:=⟨nn - 1,by omega⟩;obtain⟨s0,hs0⟩:∃s0,s0=a:=⟨_,rfl⟩;obtain⟨r0,hr0⟩:∃r0,r0=m:=⟨_,rfl⟩;have HA:=Lib.hid (show n=A.length+L.length+R.length+S.length∧a=A.length∧m=a+L.length∧b=m+R.length∧mid=(a+b) / 2∧nn=mid+m∧p+1=nn∧(s0=a)∧r0=m∧a≤s0∧s0<r0∧r0≤m∧r0≤mid∧nn≤s0+b∧1<L.length∧1<R.length∧L.length+R.length≤dd+1∧(m≤mid)by omega)
 have hmid1:((a:Int)+(b:Int)) / 2=(mid:Int):=by omega
 have hnn1:(mid:Int)+(m:Int)=(nn:Int):=by omega
 have hp1:(nn:Int) - 1=(p:Int):=by omega
 have hgt1:¬(mid:Int)<(m:Int):=by omega
 skip
 have hab:a≤b:=by omega
 have hmb:m≤b:=by omega
 have ham:a≤m:=by omega
 have hdn:mid<n:=by omega
 have hnn2:nn≤70368744177664:=by omega
 have has0:a≤s0:=by omega
 have hsr0:s0≤r0:=by omega
 have hrm0:r0≤m:=by omega
 have HIH:=Lib.hid ih;have HLR:=Lib.hid (And.intro hL hR);have Hd:=Lib.hid hH;clear hn ha hm hb hL1 hR1 hL hR hH hmid hnn hp hs0 hr0 ih hd hgt
 go_enter Tryz.func207,Tryz.ntmps207
 go_wp2_with fail
 go_loopw [20,21] (fun s20 s21 wr=>∃(s r:Nat),s20= .int .i64 (s:Int)∧s21= .int .i64 (r:Int)∧s0≤s∧s≤r∧r≤r0∧Hid ((s=s0∨∃x y,L[s - 1 - a]? =some x∧R[mid - s]? =some y∧tkey x≤tkey y)∧(r=r0∨∃x y,R[mid - 1 - r]? =some x∧L[r - a]? =some y∧tkey x≤tkey y))∧Ext w wr) (fun s20 s21 _=>(intOf s21 - intOf s20).toNat)
 case atStart=>exact ⟨a,m,rfl,rfl,by have:=HA.out;omega,by have:=HA.out;omega,by have:=HA.out;omega,Lib.hid ⟨.inl (by have:=HA.out;omega),.inl (by have:=HA.out;omega)⟩,Ext.refl _⟩
 case round=>
  obtain⟨s,r,rfl,rfl,hs,hsr,hr,hF,hex⟩:=hrel
  rcases Nat.eq_or_lt_of_le hsr with he |hlt
  ·subst he;obtain⟨e,he⟩:∃e,e+s=nn:=⟨nn - s,by have:=HA.out;omega⟩;obtain⟨L1,L2,R1,R2,HB',HR',HMG'⟩:∃L1 L2 R1 R2,Hid (L.length=L1.length+L2.length∧R.length=R1.length+R2.length∧L1.length+a=s∧R1.length+m=e∧L2.length+s=m∧R2.length+e=b∧e+s=nn∧s≤mid∧s≤m∧a≤s∧e≤b∧L=L1++L2∧R=R1++R2)∧Hid (Ris tkey L1∧Ris tkey L2∧Ris tkey R1∧Ris tkey R2)∧
     Hid (∀M1 M2:List TmC,M1.Perm (L1++R1)→M2.Perm (L2++R2)→Ris tkey M1→Ris tkey M2→(M1++M2).Perm (L++R)∧Ris tkey (M1++M2)):=by
    have h0:=HA.out;obtain⟨h1,h2⟩:=hF.out;obtain⟨L1,L2,R1,R2,k1,k2,k3,k4,k5,k6,k7,k8,k9,k10,k11⟩:=parted (L:=L) (R:=R) (a:=a) (m:=m) (b:=b) (s:=s) (e:=e) (mid:=mid) (nn:=nn) (s0:=s0) (r0:=r0) HLR.out.1 HLR.out.2 (by omega) (by omega) (by omega) (by omega) he (by omega) (by omega) (by omega) (by omega) (by omega) (by omega) h1 h2;have k12:=congrArg List.length k1;have k13:=congrArg List.length k2;rw[List.length_append]at k12 k13;exact⟨L1,L2,R1,R2,Lib.hid ⟨k12,k13,k3,k4,k5,k6,he,by omega,by omega,by omega,by omega,k1,k2⟩,Lib.hid ⟨k7,k8,k9,k10⟩,Lib.hid k11⟩
   have HB:=Lib.hid (show L.length=L1.length+L2.length∧R.length=R1.length+R2.length∧L1.length+a=s∧R1.length+m=e∧L2.length+s=m∧R2.length+e=b∧e+s=nn∧s≤mid∧s≤m∧a≤s∧e≤b by have:=HB'.out;omega);have HR:=HR';have HMG:=HMG'
   have H0:=Lib.hid (show HoldT g rest wr (A++L1++L2++R1++R2++S)by
    have:=Hd.out.ext hex
    rw[HB'.out.2.2.2.2.2.2.2.2.2.2.2.1,HB'.out.2.2.2.2.2.2.2.2.2.2.2.2]at this
    simpa[List.append_assoc]using this)
   have hes:(nn:Int) - (s:Int)=(e:Int):=by omega
   have hsm:s≤m:=by have:=HB.out;omega
   have hsd:s≤mid:=by have:=HB.out;omega
   have hab2:a≤s:=by have:=HB.out;omega
   have heb2:e≤b:=by have:=HB.out;omega
   clear he hF HB' HR' HMG'
   rcases Nat.eq_or_lt_of_le hsm with hsm1 |hsm1
   ·have HSM:=Lib.hid hsm1;clear hsm1
    rcases Nat.eq_or_lt_of_le hsd with hsd1 |hsd1
    ·have HSD:=Lib.hid hsd1;clear hsd1
     have hq0:¬(s:Int)<(m:Int):=by have:=HA.out;have:=HB.out;have:=HSM.out;have:=HSD.out;omega
     have hq1:¬(m:Int)<(e:Int):=by have:=HA.out;have:=HB.out;have:=HSM.out;have:=HSD.out;omega
     have hq2:(a:Int)<(s:Int):=by have:=HA.out;have:=HB.out;have:=HSM.out;have:=HSD.out;omega
     have hq3:¬(s:Int)<(mid:Int):=by have:=HA.out;have:=HB.out;have:=HSM.out;have:=HSD.out;omega
     have hq4:¬(mid:Int)<(e:Int):=by have:=HA.out;have:=HB.out;have:=HSM.out;have:=HSD.out;omega
     have hq5:(e:Int)<(b:Int):=by have:=HA.out;have:=HB.out;have:=HSM.out;have:=HSD.out;omega
     have H1:=Lib.hid (show HoldT g rest wr (A++(L1++R1)++(L2++R2++S))by
      have h0:=H0.out
      have:L2.length=0∨R1.length=0:=by have:=HA.out;have:=HB.out;have:=HSM.out;have:=HSD.out;omega
      rcases this with h |h
      ·rw[List.eq_nil_of_length_eq_zero h]at h0 ⊢
       simpa[List.append_assoc]using h0
      ·rw[List.eq_nil_of_length_eq_zero h]at h0 ⊢
       simpa[List.append_assoc]using h0)
     have hC1:Chg g w wr:=(hex.chg g);obtain⟨M1,HM1⟩:∃M1,Hid (M1.Perm (L1++R1)∧Ris tkey M1∧HoldT g rest wr (A++M1++(L2++R2++S))):=⟨L1++R1,Lib.hid ⟨List.Perm.refl _,ris_app_nil HR.out.1 HR.out.2.2.1 (by have:=HA.out;have:=HB.out;have:=HSM.out;have:=HSD.out;omega),H1.out⟩⟩;have hC3:Chg g w wr:=hC1;obtain⟨M2,HM2⟩:∃M2,Hid (M2.Perm (L2++R2)∧Ris tkey M2∧HoldT g rest wr (A++(M1++M2)++S)):=⟨L2++R2,Lib.hid ⟨List.Perm.refl _,ris_app_nil HR.out.2.1 HR.out.2.2.2 (by have:=HA.out;have:=HB.out;have:=HSM.out;have:=HSD.out;omega),by simpa[List.append_assoc]using HM1.out.2.2⟩⟩;have hC4:Chg g w wr:=hC3;have HFN:=Lib.hid (HMG.out M1 M2 HM1.out.1 HM2.out.1 HM1.out.2.1 HM2.out.2.1);have HF2:=Lib.hid HM2.out.2.2;clear HMG HM1 HM2 HIH H1;go_wp2
     go_end0
     exact⟨rfl,hC4,M1++M2,HFN.out.1,HFN.out.2,by simpa only[List.append_assoc]using HF2.out⟩
    ·have HSD:=Lib.hid hsd1;clear hsd1
     have hq0:¬(s:Int)<(m:Int):=by have:=HA.out;have:=HB.out;have:=HSM.out;have:=HSD.out;omega
     have hq1:(m:Int)<(e:Int):=by have:=HA.out;have:=HB.out;have:=HSM.out;have:=HSD.out;omega
     have hq2:(a:Int)<(s:Int):=by have:=HA.out;have:=HB.out;have:=HSM.out;have:=HSD.out;omega
     have hq3:(s:Int)<(mid:Int):=by have:=HA.out;have:=HB.out;have:=HSM.out;have:=HSD.out;omega
     have hq4:¬(mid:Int)<(e:Int):=by have:=HA.out;have:=HB.out;have:=HSM.out;have:=HSD.out;omega
     have hq5:(e:Int)<(b:Int):=by have:=HA.out;have:=HB.out;have:=HSM.out;have:=HSD.out;omega
     have H1:=Lib.hid (show HoldT g rest wr (A++(L1++R1)++(L2++R2++S))by
      have h0:=H0.out
      have:L2.length=0∨R1.length=0:=by have:=HA.out;have:=HB.out;have:=HSM.out;have:=HSD.out;omega
      rcases this with h |h
      ·rw[List.eq_nil_of_length_eq_zero h]at h0 ⊢
       simpa[List.append_assoc]using h0
      ·rw[List.eq_nil_of_length_eq_zero h]at h0 ⊢
       simpa[List.append_assoc]using h0)
     have hC1:Chg g w wr:=(hex.chg g);go_wp2_with fail;refine(HIH.out A L1 R1 (L2++R2++S) wr a s mid (by have:=HA.out;have:=HB.out;have:=HSM.out;have:=HSD.out;omega) (by have:=HA.out;have:=HB.out;have:=HSM.out;have:=HSD.out;simp only[List.length_append];omega) (by have:=HA.out;omega) (by have:=HA.out;have:=HB.out;have:=HSM.out;have:=HSD.out;omega) (by have:=HA.out;have:=HB.out;have:=HSM.out;have:=HSD.out;omega) (by have:=HA.out;have:=HB.out;have:=HSM.out;have:=HSD.out;omega) (by have:=HA.out;have:=HB.out;have:=HSM.out;have:=HSD.out;omega) HR.out.1 HR.out.2.2.1 (by simpa[List.append_assoc]using H1.out)).mono ?_;rintro ee w3 ⟨rfl,hc3,M1,hp1,hs1,hH3⟩;have HM1:=Lib.hid (And.intro hp1 (And.intro hs1 hH3));have hC3:Chg g w w3:=hC1.trans hc3;clear hp1 hs1 hH3 hc3;obtain⟨M2,HM2⟩:∃M2,Hid (M2.Perm (L2++R2)∧Ris tkey M2∧HoldT g rest w3 (A++(M1++M2)++S)):=⟨L2++R2,Lib.hid ⟨List.Perm.refl _,ris_app_nil HR.out.2.1 HR.out.2.2.2 (by have:=HA.out;have:=HB.out;have:=HSM.out;have:=HSD.out;omega),by simpa[List.append_assoc]using HM1.out.2.2⟩⟩;have hC4:Chg g w w3:=hC3;have HFN:=Lib.hid (HMG.out M1 M2 HM1.out.1 HM2.out.1 HM1.out.2.1 HM2.out.2.1);have HF2:=Lib.hid HM2.out.2.2;clear HMG HM1 HM2 HIH H1;go_wp2
     go_end0
     exact⟨rfl,hC4,M1++M2,HFN.out.1,HFN.out.2,by simpa only[List.append_assoc]using HF2.out⟩
   ·have HSM:=Lib.hid hsm1
    have hsd1:s<mid:=by have:=HA.out;omega
    rcases Nat.eq_or_lt_of_le (show a≤s by omega)with has |has
    ·rcases Nat.eq_or_lt_of_le (show e≤b by omega)with heb |heb
     ·have HAS:=Lib.hid has;have HEB:=Lib.hid heb;clear has heb
      have hq0:(s:Int)<(m:Int):=by have:=HA.out;have:=HB.out;have:=HAS.out;have:=HEB.out;omega
      have hq1:(m:Int)<(e:Int):=by have:=HA.out;have:=HB.out;have:=HAS.out;have:=HEB.out;omega
      have hq2:¬(a:Int)<(s:Int):=by have:=HA.out;have:=HB.out;have:=HAS.out;have:=HEB.out;omega
      have hq3:(s:Int)<(mid:Int):=by have:=HA.out;have:=HB.out;have:=HAS.out;have:=HEB.out;omega
      have hq4:(mid:Int)<(e:Int):=by have:=HA.out;have:=HB.out;have:=HAS.out;have:=HEB.out;omega
      have hq5:¬(e:Int)<(b:Int):=by have:=HA.out;have:=HB.out;have:=HAS.out;have:=HEB.out;omega
      go_wp2_with fail;refine(rotate_calls _ n cap g rest (A++L1) L2 R1 (R2++S) wr s m e (by have:=HA.out;have:=HB.out;have:=HAS.out;have:=HEB.out;simp only[List.length_append];omega) hN (by have:=HA.out;have:=HB.out;have:=HAS.out;have:=HEB.out;simp only[List.length_append];omega) (by have:=HA.out;have:=HB.out;have:=HAS.out;have:=HEB.out;omega) (by have:=HA.out;have:=HB.out;have:=HAS.out;have:=HEB.out;omega) (by have:=HA.out;have:=HB.out;have:=HAS.out;have:=HEB.out;omega) (by have:=HA.out;have:=HB.out;have:=HAS.out;have:=HEB.out;omega) (by simpa[List.append_assoc]using H0.out)).mono ?_;rintro ee w2 ⟨rfl,hc2,hH2⟩;have H1:=Lib.hid (show HoldT g rest w2 (A++(L1++R1)++(L2++R2++S))by simpa[List.append_assoc]using hH2);have hC1:Chg g w w2:=(hex.chg g).trans hc2;clear hH2 hc2;obtain⟨M1,HM1⟩:∃M1,Hid (M1.Perm (L1++R1)∧Ris tkey M1∧HoldT g rest w2 (A++M1++(L2++R2++S))):=⟨L1++R1,Lib.hid ⟨List.Perm.refl _,ris_app_nil HR.out.1 HR.out.2.2.1 (by have:=HA.out;have:=HB.out;have:=HAS.out;have:=HEB.out;omega),H1.out⟩⟩;have hC3:Chg g w w2:=hC1;obtain⟨M2,HM2⟩:∃M2,Hid (M2.Perm (L2++R2)∧Ris tkey M2∧HoldT g rest w2 (A++(M1++M2)++S)):=⟨L2++R2,Lib.hid ⟨List.Perm.refl _,ris_app_nil HR.out.2.1 HR.out.2.2.2 (by have:=HA.out;have:=HB.out;have:=HAS.out;have:=HEB.out;omega),by simpa[List.append_assoc]using HM1.out.2.2⟩⟩;have hC4:Chg g w w2:=hC3
      have HFN:=Lib.hid (HMG.out M1 M2 HM1.out.1 HM2.out.1 HM1.out.2.1 HM2.out.2.1);have HF2:=Lib.hid HM2.out.2.2;clear HMG HM1 HM2 HIH H1;go_wp2
      go_end0
      exact⟨rfl,hC4,M1++M2,HFN.out.1,HFN.out.2,by simpa only[List.append_assoc]using HF2.out⟩
     ·have HAS:=Lib.hid has;have HEB:=Lib.hid heb;clear has heb
      have hq0:(s:Int)<(m:Int):=by have:=HA.out;have:=HB.out;have:=HAS.out;have:=HEB.out;omega
      have hq1:(m:Int)<(e:Int):=by have:=HA.out;have:=HB.out;have:=HAS.out;have:=HEB.out;omega
      have hq2:¬(a:Int)<(s:Int):=by have:=HA.out;have:=HB.out;have:=HAS.out;have:=HEB.out;omega
      have hq3:(s:Int)<(mid:Int):=by have:=HA.out;have:=HB.out;have:=HAS.out;have:=HEB.out;omega
      have hq4:(mid:Int)<(e:Int):=by have:=HA.out;have:=HB.out;have:=HAS.out;have:=HEB.out;omega
      have hq5:(e:Int)<(b:Int):=by have:=HA.out;have:=HB.out;have:=HAS.out;have:=HEB.out;omega
      go_wp2_with fail;refine(rotate_calls _ n cap g rest (A++L1) L2 R1 (R2++S) wr s m e (by have:=HA.out;have:=HB.out;have:=HAS.out;have:=HEB.out;simp only[List.length_append];omega) hN (by have:=HA.out;have:=HB.out;have:=HAS.out;have:=HEB.out;simp only[List.length_append];omega) (by have:=HA.out;have:=HB.out;have:=HAS.out;have:=HEB.out;omega) (by have:=HA.out;have:=HB.out;have:=HAS.out;have:=HEB.out;omega) (by have:=HA.out;have:=HB.out;have:=HAS.out;have:=HEB.out;omega) (by have:=HA.out;have:=HB.out;have:=HAS.out;have:=HEB.out;omega) (by simpa[List.append_assoc]using H0.out)).mono ?_;rintro ee w2 ⟨rfl,hc2,hH2⟩;have H1:=Lib.hid (show HoldT g rest w2 (A++(L1++R1)++(L2++R2++S))by simpa[List.append_assoc]using hH2);have hC1:Chg g w w2:=(hex.chg g).trans hc2;clear hH2 hc2;obtain⟨M1,HM1⟩:∃M1,Hid (M1.Perm (L1++R1)∧Ris tkey M1∧HoldT g rest w2 (A++M1++(L2++R2++S))):=⟨L1++R1,Lib.hid ⟨List.Perm.refl _,ris_app_nil HR.out.1 HR.out.2.2.1 (by have:=HA.out;have:=HB.out;have:=HAS.out;have:=HEB.out;omega),H1.out⟩⟩;have hC3:Chg g w w2:=hC1;go_wp2_with fail;refine(HIH.out (A++M1) L2 R2 S w2 mid e b (by have:=HA.out;have:=HB.out;have:=HAS.out;have:=HEB.out;omega) (by have:=HA.out;have:=HB.out;have:=HAS.out;have:=HEB.out;have:=HM1.out.1.length_eq;simp only[List.length_append]at this ⊢;omega) (by have:=HA.out;have:=HB.out;have:=HAS.out;have:=HEB.out;have:=HM1.out.1.length_eq;simp only[List.length_append]at this ⊢;omega) (by have:=HA.out;have:=HB.out;have:=HAS.out;have:=HEB.out;omega) (by have:=HA.out;have:=HB.out;have:=HAS.out;have:=HEB.out;omega) (by have:=HA.out;have:=HB.out;have:=HAS.out;have:=HEB.out;omega) (by have:=HA.out;have:=HB.out;have:=HAS.out;have:=HEB.out;omega) HR.out.2.1 HR.out.2.2.2 (by simpa[List.append_assoc]using HM1.out.2.2)).mono ?_
      rintro ee w4 ⟨rfl,hc4,M2,hp2,hs2,hH4⟩;have HM2:=Lib.hid (And.intro hp2 (And.intro hs2 (show HoldT g rest w4 (A++(M1++M2)++S)by simpa[List.append_assoc]using hH4)));have hC4:Chg g w w4:=hC3.trans hc4;clear hp2 hs2 hH4 hc4;have HFN:=Lib.hid (HMG.out M1 M2 HM1.out.1 HM2.out.1 HM1.out.2.1 HM2.out.2.1);have HF2:=Lib.hid HM2.out.2.2;clear HMG HM1 HM2 HIH H1;go_wp2
      go_end0
      exact⟨rfl,hC4,M1++M2,HFN.out.1,HFN.out.2,by simpa only[List.append_assoc]using HF2.out⟩
    ·rcases Nat.eq_or_lt_of_le (show e≤b by omega)with heb |heb
     ·have HAS:=Lib.hid has;have HEB:=Lib.hid heb;clear has heb
      exfalso;have:=HA.out;have:=HB.out;have:=HAS.out;have:=HEB.out;omega
     ·have HAS:=Lib.hid has;have HEB:=Lib.hid heb;clear has heb
      have hq0:(s:Int)<(m:Int):=by have:=HA.out;have:=HB.out;have:=HAS.out;have:=HEB.out;omega
      have hq1:(m:Int)<(e:Int):=by have:=HA.out;have:=HB.out;have:=HAS.out;have:=HEB.out;omega
      have hq2:(a:Int)<(s:Int):=by have:=HA.out;have:=HB.out;have:=HAS.out;have:=HEB.out;omega
      have hq3:(s:Int)<(mid:Int):=by have:=HA.out;have:=HB.out;have:=HAS.out;have:=HEB.out;omega
      have hq4:(mid:Int)<(e:Int):=by have:=HA.out;have:=HB.out;have:=HAS.out;have:=HEB.out;omega
      have hq5:(e:Int)<(b:Int):=by have:=HA.out;have:=HB.out;have:=HAS.out;have:=HEB.out;omega
      go_wp2_with fail;refine(rotate_calls _ n cap g rest (A++L1) L2 R1 (R2++S) wr s m e (by have:=HA.out;have:=HB.out;have:=HAS.out;have:=HEB.out;simp only[List.length_append];omega) hN (by have:=HA.out;have:=HB.out;have:=HAS.out;have:=HEB.out;simp only[List.length_append];omega) (by have:=HA.out;have:=HB.out;have:=HAS.out;have:=HEB.out;omega) (by have:=HA.out;have:=HB.out;have:=HAS.out;have:=HEB.out;omega) (by have:=HA.out;have:=HB.out;have:=HAS.out;have:=HEB.out;omega) (by have:=HA.out;have:=HB.out;have:=HAS.out;have:=HEB.out;omega) (by simpa[List.append_assoc]using H0.out)).mono ?_;rintro ee w2 ⟨rfl,hc2,hH2⟩;have H1:=Lib.hid (show HoldT g rest w2 (A++(L1++R1)++(L2++R2++S))by simpa[List.append_assoc]using hH2);have hC1:Chg g w w2:=(hex.chg g).trans hc2;clear hH2 hc2;go_wp2_with fail;refine(HIH.out A L1 R1 (L2++R2++S) w2 a s mid (by have:=HA.out;have:=HB.out;have:=HAS.out;have:=HEB.out;omega) (by have:=HA.out;have:=HB.out;have:=HAS.out;have:=HEB.out;simp only[List.length_append];omega) (by have:=HA.out;omega) (by have:=HA.out;have:=HB.out;have:=HAS.out;have:=HEB.out;omega) (by have:=HA.out;have:=HB.out;have:=HAS.out;have:=HEB.out;omega) (by have:=HA.out;have:=HB.out;have:=HAS.out;have:=HEB.out;omega) (by have:=HA.out;have:=HB.out;have:=HAS.out;have:=HEB.out;omega) HR.out.1 HR.out.2.2.1 (by simpa[List.append_assoc]using H1.out)).mono ?_
      rintro ee w3 ⟨rfl,hc3,M1,hp1,hs1,hH3⟩;have HM1:=Lib.hid (And.intro hp1 (And.intro hs1 hH3));have hC3:Chg g w w3:=hC1.trans hc3;clear hp1 hs1 hH3 hc3;go_wp2_with fail;refine(HIH.out (A++M1) L2 R2 S w3 mid e b (by have:=HA.out;have:=HB.out;have:=HAS.out;have:=HEB.out;omega) (by have:=HA.out;have:=HB.out;have:=HAS.out;have:=HEB.out;have:=HM1.out.1.length_eq;simp only[List.length_append]at this ⊢;omega) (by have:=HA.out;have:=HB.out;have:=HAS.out;have:=HEB.out;have:=HM1.out.1.length_eq;simp only[List.length_append]at this ⊢;omega) (by have:=HA.out;have:=HB.out;have:=HAS.out;have:=HEB.out;omega) (by have:=HA.out;have:=HB.out;have:=HAS.out;have:=HEB.out;omega) (by have:=HA.out;have:=HB.out;have:=HAS.out;have:=HEB.out;omega) (by have:=HA.out;have:=HB.out;have:=HAS.out;have:=HEB.out;omega) HR.out.2.1 HR.out.2.2.2 (by simpa[List.append_assoc]using HM1.out.2.2)).mono ?_;rintro ee w4 ⟨rfl,hc4,M2,hp2,hs2,hH4⟩;have HM2:=Lib.hid (And.intro hp2 (And.intro hs2 (show HoldT g rest w4 (A++(M1++M2)++S)by simpa[List.append_assoc]using hH4)));have hC4:Chg g w w4:=hC3.trans hc4;clear hp2 hs2 hH4 hc4;have HFN:=Lib.hid (HMG.out M1 M2 HM1.out.1 HM2.out.1 HM1.out.2.1 HM2.out.2.1);have HF2:=Lib.hid HM2.out.2.2;clear HMG HM1 HM2 HIH H1;go_wp2
      go_end0
      exact⟨rfl,hC4,M1++M2,HFN.out.1,HFN.out.2,by simpa only[List.append_assoc]using HF2.out⟩
  ·obtain⟨c,hc⟩:∃c,c=(s+r) / 2:=⟨_,rfl⟩;obtain⟨q,hq⟩:∃q,q+c=p:=⟨p - c,by have:=HA.out;omega⟩
   obtain⟨L1,x,L2,HX⟩:∃L1 x L2,Hid (L=L1++x::L2∧L1.length=c - a∧L[c - a]? =some x):=by
    obtain⟨L1,x,L2,h1,h2,h3⟩:=split_at (R:=L) (h:=c - a) (by have:=HA.out;omega);exact⟨L1,x,L2,Lib.hid ⟨h1,h2,h3⟩⟩
   obtain⟨R1,y,R2,HY⟩:∃R1 y R2,Hid (R=R1++y::R2∧R1.length=q - m∧R[q - m]? =some y):=by
    obtain⟨L1,x,L2,h1,h2,h3⟩:=split_at (R:=R) (h:=q - m) (by have:=HA.out;omega);exact⟨L1,x,L2,Lib.hid ⟨h1,h2,h3⟩⟩
   have H5:Hid (HoldT g rest wr ((A++L1)++x::((L2++R1)++y::(R2++S)))):=by
    have:=Hd.out.ext hex
    rw[HX.out.1,HY.out.1]at this;exact Lib.hid (by simpa[List.append_assoc]using this)
   have HLM:Hid (c=(A++L1).length∧q=(A++L1).length+1+(L2++R1).length):=by
    have h0:=HA.out;obtain⟨k1,k2, -⟩:=HX.out;obtain⟨k3,k4, -⟩:=HY.out;have k5:=congrArg List.length k1;simp only[List.length_append,List.length_cons]at k5 ⊢;exact Lib.hid ⟨by omega,by omega⟩
   have HCc:=Lib.hid (H5.out.at (get_at HLM.out.1));have HCq:=Lib.hid (H5.out.at (get_at2 HLM.out.2));obtain⟨v,hv⟩:∃v:Bool,v=decide (y.c<x.c):=⟨_,rfl⟩;have HR:=Lib.hid hv;have HCQ:=Lib.hid (And.intro hc hq)
   have hsr':(s:Int)<(r:Int):=by omega
   have hqn:q<n:=by have:=HA.out;omega
   have hcn:c<n:=by have:=HA.out;omega
   have hqn':(q:Int)<(n:Int):=by omega
   have hcn':(c:Int)<(n:Int):=by omega
   have hc2:((s:Int)+(r:Int)) / 2=(c:Int):=by omega
   have hq2:(p:Int) - (c:Int)=(q:Int):=by omega
   have hcr:c<r:=by omega
   have hsc:s≤c:=by omega
   have hrn:r≤n:=by omega
   clear hv hc hq;go_wp2_with fail;refine wpQ [PP.val (.func (.func 157) #[] #[]),PP.val (.slice (some ⟨g,0,none⟩) n cap),PP.val (.int .i64 (p:Int)),PP.val (.int .i64 (c:Int)),PP.val (.int .i64 (q:Int)),PP.val (.pointer (some ⟨g,q*4,none⟩)),PP.val (.agg #[.int .i64 y.c,.bool y.b,.slice y.a1 y.n1 y.c1,.slice y.a2 y.n2 y.c2]),PP.val (.slice (some ⟨g,0,none⟩) n cap),PP.val (.int .i64 (c:Int)),PP.val (.pointer (some ⟨g,c*4,none⟩)),PP.val (.agg #[.int .i64 x.c,.bool x.b,.slice x.a1 x.n1 x.c1,.slice x.a2 x.n2 x.c2]),PP.pred (fun v=>∃z:Int,v= .int .i64 z∧(z<0↔y.c<x.c)),PP.val (.bool v),PP.val (.bool (!v))] [] [0,1,2,3,4,5,6,7,8,9,10,11,12,13] ?_ ?_
   ·refine⟨?_,?_,?_,?_,?_,?_,?_,?_,?_,?_,?_,?_,?_,?_,trivial⟩
    ·intro f w2 hG hp hl;simp only[OpGoal];go_simp;exact⟨_,rfl,Ext.refl _,rfl⟩
    ·intro f w2 hG hp hl;simp only[OpGoal];go_simp;exact⟨_,rfl,Ext.refl _,rfl⟩
    ·intro f w2 hG hp hl;simp only[OpGoal];go_simp;exact⟨_,rfl,Ext.refl _,rfl⟩
    ·intro f w2 hG hp hl;simp only[OpGoal];go_simp;exact⟨_,rfl,Ext.refl _,rfl⟩
    ·intro f w2 hG hp hl;have hE:Ext wr w2:=hG;have hS:=hE.size;have q160:=tE hp 0 2 rfl rfl rfl;have q161:=tE hp 1 3 rfl rfl rfl;simp only[OpGoal];go_simp
     first
     |exact ⟨_,rfl,Ext.refl _,rfl⟩
     |exact ⟨_,rfl,Ext.refl _,congrArg (Value.int .i64) (Go.IntWalk.i64_in _ ⟨by omega,by omega⟩)⟩
    ·intro f w2 hG hp hl;have q159:=tE hp 0 1 rfl rfl rfl;have q162:=tE hp 1 4 rfl rfl rfl;simp only[OpGoal];go_simp;exact⟨_,rfl,Ext.refl _,rfl⟩
    ·intro f w2 hG hp hl;have hE:Ext wr w2:=hG;have q163:=tE hp 0 5 rfl rfl rfl;change OpGoal _ _ _ f w2 Ext _;exact og_loadAt (P:=Tryz.prog) _ _ g (q*4) _ _ rfl rfl q163 (fun j v h=>HCq.out _ hE j v h) Tryz.underlying95 rfl (by kernel_rfl) rfl
    ·intro f w2 hG hp hl;simp only[OpGoal];go_simp;exact⟨_,rfl,Ext.refl _,rfl⟩
    ·intro f w2 hG hp hl;simp only[OpGoal];go_simp;exact⟨_,rfl,Ext.refl _,rfl⟩
    ·intro f w2 hG hp hl;have q165:=tE hp 0 7 rfl rfl rfl;have q166:=tE hp 1 8 rfl rfl rfl;simp only[OpGoal];go_simp;exact⟨_,rfl,Ext.refl _,rfl⟩
    ·intro f w2 hG hp hl;have hE:Ext wr w2:=hG;have q167:=tE hp 0 9 rfl rfl rfl;change OpGoal _ _ _ f w2 Ext _;exact og_loadAt (P:=Tryz.prog) _ _ g (c*4) _ _ rfl rfl q167 (fun j v h=>HCc.out _ hE j v h) Tryz.underlying95 rfl (by kernel_rfl) rfl
    ·intro f w2 hG hp hl;have q158:=tE hp 0 0 rfl rfl rfl;have q164:=tE hp 1 6 rfl rfl rfl;have q168:=tE hp 2 10 rfl rfl rfl;change OpGoal _ _ _ f w2 Ext _;refine og_callv (P:=Tryz.prog) _ _ _ _ #[f 6,f 10] Tryz.func157 (by kernel_rfl) (by kernel_rfl) rfl rfl q158 (by kernel_rfl) ?_;rw[q164,q168];refine(cmpT_calls y x _).mono ?_;rintro e w' ⟨z,rfl,h1,h2⟩;exact⟨_,rfl,h2,z,rfl,h1⟩
    ·intro f w2 hG hp hl;have hE:Ext wr w2:=hG;have q169:=tellV hp 0 11 rfl rfl (fun _=>hE);obtain⟨z,hz,hzz⟩:=q169;simp only[OpGoal];go_simp;exact⟨_,rfl,Ext.refl _,congrArg Value.bool (by first | (rw[HR.out];done) | (rw[HR.out];exact decide_eq_decide.2 hzz))⟩
    ·intro f w2 hG hp hl;have q170:=tE hp 0 12 rfl rfl rfl;simp only[OpGoal];go_simp;exact⟨_,rfl,Ext.refl _,rfl⟩
   ·intro f w2 hG hp;have hE:Ext wr w2:=ChgS.nil hG
    have q171:f 13= .bool (!v):=endV hp 13 (by decide) rfl (fun h=>by cases h)
    try simp only[q171]
    clear hp
    cases v with
    |true=>
     go_wp2;go_roundw
     case rel=>
      refine⟨s,c,rfl,rfl,hs,hsc,by omega,Lib.hid ⟨hF.out.1,.inr ⟨y,x,?_,HX.out.2.2,?_⟩⟩,hex.trans hE⟩
      ·have:=HY.out.2.2
       rw[show mid - 1 - c=q - m by have:=HCQ.out;have:=HA.out;omega];exact this
      ·have:=of_decide_eq_true HR.out.symm
       show y.c≤x.c
       omega
     case measure=>simp [intOf];omega
    |false=>
     obtain⟨c1,hc1⟩:∃c1:Nat,c1=c+1:=⟨_,rfl⟩
     have hc3:(c:Int)+1=(c1:Int):=by omega
     have HH:=Lib.hid hc1;clear hc1;go_wp2;go_roundw
     case rel=>
      refine⟨c1,r,rfl,rfl,by omega,by omega,hr,Lib.hid ⟨.inr ⟨x,y,?_,?_,?_⟩,hF.out.2⟩,hex.trans hE⟩
      ·rw[show c1 - 1 - a=c - a by have:=HH.out;omega];exact HX.out.2.2
      ·have:=HY.out.2.2
       rw[show mid - c1=q - m by have:=HCQ.out;have:=HA.out;have:=HH.out;omega];exact this
      ·have:=of_decide_eq_false HR.out.symm
       show x.c≤y.c
       omega
     case measure=>simp [intOf];omega
theorem symMerge_calls(n cap g:Nat)(rest:List Value)(hN:n≤35184372088832):∀(dd:Nat) (A L R S:List TmC) (w:World) (a m b:Nat),L.length+R.length≤dd→n=(A++L++R++S).length→a=A.length→m=a+L.length→b=m+R.length→0<L.length→0<R.length→Ris tkey L→Ris tkey R→HoldT g rest w (A++L++R++S)→
   Calls Tryz.prog 207 #[.slice (some ⟨g,0,none⟩) n cap,.int .i64 (a:Int),.int .i64 (m:Int),.int .i64 (b:Int),.func (.func 157) #[] #[]] w fun e w'=>e= .returned (.tuple #[])∧Chg g w w'∧∃M,M.Perm (L++R)∧Ris tkey M∧HoldT g rest w' (A++M++S):=by
 intro dd
 induction dd with
 |zero=>intro A L R S w a m b hd;omega
 |succ dd ih=>
  intro A L R S w a m b hd hn ha hm hb hL0 hR0 hL hR hH
  rcases Nat.eq_or_lt_of_le (show 1≤L.length from hL0)with hL1 |hL1
  ·match L,hL1 with
   | [y],_=>exact symMerge_one n cap g rest A R S y w a m b hn hN ha hm hb hR0 hR hH
  ·rcases Nat.eq_or_lt_of_le (show 1≤R.length from hR0)with hR1 |hR1
   ·match R,hR1 with
    | [y],_=>exact symMerge_last n cap g rest A L S y w a m b hn hN ha hm hb hL1 hL hH
   ·rcases Nat.lt_or_ge ((a+b) / 2) m with hgt |hle
    ·exact symMerge_gt n cap g rest dd ih A L R S w a m b _ hd hn hN ha hm hb hL1 hR1 hL hR hH rfl hgt
    ·exact symMerge_le n cap g rest dd ih A L R S w a m b _ hd hn hN ha hm hb hL1 hR1 hL hR hH rfl hle
end Go.Proofs.YtbmnlaepfckmkaaGreat
