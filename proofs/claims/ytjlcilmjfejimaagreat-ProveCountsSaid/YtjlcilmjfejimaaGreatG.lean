/- Certificates' parts in their one form. -/
import Derived.Test.YtjlcilmjfejimaaGreatF
namespace Go.Proofs.YtjlcilmjfejimaaGreat
set_option maxRecDepth 100000
set_option maxHeartbeats 32000000
set_option linter.unusedVariables false
set_option linter.unusedSimpArgs false
open Go.RowKit Tryz
variable{a b f q:Nat}{c:Value}{d e:World}{h:List Value}{i:List CR}{j:Option Addr}{k:Array Value}{l m:TypeId}{n:List Bool}{o:List ByteArray}{p:Type}
theorem KM(e f:Value)(a:List Nat)(w:World)(n:IsL .u64 w e a)(o:IsL .u64 w f a):
  Calls prog 247 #[e,f] w λp q=>p= .returned true/\Ext w q:=by
 obtain⟨_,_,rfl,_,_,r⟩:=n;obtain⟨_,_,rfl,_,_,s⟩:=o;have c:¬((a.length:Int)≠a.length):=sm;go_enter func247,ntmps247;go_wp2_with fail;go_loopw [13] (λd wr=>∃k:Nat,k<=a.length/\d= .int .i64 k/\Ext w wr) (λd _=>a.length - (intOf d).toNat)
 case atStart=>exact ⟨0,om,rfl,rE⟩
 case round=>
  obtain⟨k,_,rfl,hex⟩:=hrel;by_cases h:k<a.length
  .obtain⟨u,v,rfl,i⟩:=r.at (by rw[kU];omega);obtain⟨x,y,rfl,j⟩:=s.at (by rw[kU];omega);have l:=i k _ (mM .u64 a k h);have m:=j k _ (mM .u64 a k h);have HC:Hid (∀b,Ext wr b->b.cell? (u,v+k)=some (.int .u64 (a[k]:Int))/\b.cell? (x,y+k)=some (.int .u64 (a[k]:Int))):=a8 λb c=>⟨(hex.trans c).cell l,(hex.trans c).cell m⟩
   have z:(k:Int)<a.length:=om;clear i j l m;go_upto_region 6 with(fail);exact Uf9
  .have z:¬(k:Int)<a.length:=om;go_wp2;go_ret;exact⟨rfl,hex⟩
theorem NZ(r s:Value)(f:Bool)(i j:List Nat)(w:World)(D:xH w r f i j)(E:xH w s f i j):
  Calls prog 241 #[r,s] w λe F=>e= .returned true/\Ext w F:=by
 obtain⟨u,t,rfl,k,l⟩:=D;obtain⟨v,t2,rfl,m,n⟩:=E;obtain⟨H,o,e1,x,y,_⟩:=lZ w #[f,u,t] #[f,v,t2] 37 37;have h:=a8 (aD k (aD l (aD m n)));obtain⟨_,_,_,rfl⟩:∃a b c,u= .slice a b c:=by obtain⟨p,q,d, -⟩:=k;exact⟨_,_,_,d⟩
 obtain⟨_,_,_,rfl⟩:∃a b c,t= .slice a b c:=by obtain⟨p,q,d, -⟩:=l;exact⟨_,_,_,d⟩
 obtain⟨_,_,_,rfl⟩:∃a b c,v= .slice a b c:=by obtain⟨p,q,d, -⟩:=m;exact⟨_,_,_,d⟩
 obtain⟨_,_,_,rfl⟩:∃a b c,t2= .slice a b c:=by obtain⟨p,q,d, -⟩:=n;exact⟨_,_,_,d⟩
 clear k l m n;obtain⟨z,A,-⟩:=x.cl [0,1];obtain⟨B,C,-⟩:=y.cl [0,1];go_enter func241,ntmps241;rw[o]at z A B C;go_wp2_with fail;rw[<-o];refine(KM _ _ i H (h.out.1.ext e1) (h.out.2.2.1.ext e1)).mono ?_;rintro e I ⟨rfl,e2⟩;have:=(x.ext e2).cell 2;have:=(y.ext e2).cell 2;clear z A B C o;go_wp2_with fail;refine(KM _ _ j I (h.out.2.1.ext (e1.trans e2)) (h.out.2.2.2.ext (e1.trans e2))).mono ?_;exact bP8
theorem AH(y:Nat)(r:Value)(m:Rat)(w:World)(o:FrQ y w r m)(z:szQ m<=1000000):
  Calls prog 212 #[r] w λe w'=>e= .returned true/\Ext w w':=by
 obtain⟨c,f,h,i,j,k,l,rfl, -⟩:=o.opn;obtain⟨p,s,u,n,_⟩:=kR w #[c,(f,h,i),(j,k,l)] 37;have v:=a8 (o.ext u);have HC:Hid (∀a,Ext p a->a.cell? w.heap.size=some (.bool c)/\a.cell? (w,1)=some (.slice f h i)/\a.cell? (w,2)=some (.slice j k l)):=a8 λa q=>⟨(n.ext q).cell 0,(n.ext q).cell 1,(n.ext q).cell 2⟩
 clear o n;go_enter func212,ntmps212;go_wp2_with fail;rw[<-s];clear s;apply JY [kN (.agg #[.bool c,(f,h,i),(j,k,l)]),kN (.agg #[.bool c,(f,h,i),(j,k,l)]),nL (λx a=>FrQ p a x m) (λx _ c A B=>B.ext A),kN true,kN true] ?st ?en hF kr rfl kr
 case st=>
  refine⟨oX,oX,?_,?_,oX,trivial⟩
  .intro C b a hI d D E;have F:b 1= .agg #[c,(f,h,i),(j,k,l)]:=d.1 rfl;refine oC (P:=prog) #[b 1] func90 rfl rfl ?_;rw[F];refine(pL _ m 1000000 a ((v.out.ext hI).isR z de) de).mono ?_;exact rf0
  .intro C b a hI d D E;have H:b 0= .agg #[c,(f,h,i),(j,k,l)]:=d.1 rfl;have I:FrQ p a (b 2) m:=d.2.1 rfl;refine oC (P:=prog) #[b 0,b 2] func241 rfl rfl ?_;rw[H];refine(NZ _ _ _ _ _ a (v.out.ext hI).raw I.raw).mono ?_;exact DR3
 case en=>
  intro b _ hI d;have J:b 4=true:=d.2.2.2.2.1 rfl;simp only[J];clear d;go_wp2;go_ret;exact⟨rfl,u.trans hI⟩
def FD(n:Int):Int->List (Int×Rat)->Bool
 |_,[]=>true
 |last,x::l=>(decide (last<x.1)&&decide (x.1<n))&&(!decide (x.2=0)&&FD n x.1 l)
theorem uZ(y l c:Nat)(z:Value)(a:List (Int×Rat))(w:World)(X:TO y l w z a)(A:l<=1000000)(B:FD c (-1) a=true):
  Calls prog 163 #[z,c] w λm Y=>m= .returned true/\Ext w Y:=by
 obtain⟨Z,C,D,E⟩:=X;obtain⟨_,n,_,F,rfl,_,H⟩:=LsT.at D;have I:=a8 F;have a0:=a8 C;have a1:=a8 E;have a2:=a8 H;clear C D E H F;go_enter func163,ntmps163;go_wp2_with fail;go_loopw [5,10] (λa3 o wr=>∃(i:Nat) (d:Int),i<=n/\a3= .int .i64 d/\o= .int .i64 (i:Int)/\Hid (FD c d (a.drop i)=true)/\Ext w wr) (λ_ o _=>((n:Int) - intOf o).toNat)
 case atStart=>exact ⟨0, -1,zl,rfl,rfl,a8 B,rE⟩
 case round=>
  obtain⟨i,d,a4,rfl,rfl,J,hex⟩:=hrel;clear B;rcases aI a4 with hin |hin
  .exact xB7
  .have hlt:(i:Int)<n:=om;obtain⟨t,p⟩:∃t,Z[i]? =some t:=⟨_,aA (by rw[<-I.out];exact hin)⟩;obtain⟨⟨K,b⟩,q⟩:∃a5,a[i]? =some a5:=⟨_,aA (by rw[<-a0.out,<-I.out];exact hin)⟩;obtain⟨g,rfl,L⟩:=a2.out i t p;obtain⟨_,_,_,_⟩:=L wr hex;obtain⟨M,N,O⟩:=a1.out i t (K,b) p q;have P:a.drop i=(K,b)::a.drop (i+1):=List.drop_eq_getElem?_toList_append.trans (by rw[q];rfl);have r:=J.out;rw[P]at r;simp only[FD,aU,decide_eq_true_eq,hQ,decide_eq_false_iff_not]at r;obtain⟨⟨a6,a7⟩,Q,R⟩:=r;have a9:=a8 R;have e:=a8 (aD (N.ext hex) O);simp only at M;subst M;have b0:(b.num.sign==0)=false:=by
    simp only[beq_eq_false_iff_ne,ne_eq,iM,iA];exact Q
   have:¬(t.c<=d):=om;have:¬((c:Int)<=t.c):=om;obtain⟨b1,S,s,u,_⟩:=kR wr #[t.c,t.b,(t.a1,t.n1,t.c1),(t.a2,t.n2,t.c2)] 67;obtain⟨f,h,j,k,-⟩:=u.cl [0,1,2,3];rw[S]at f h j k;clear p q L N O P a6 a7 Q R J;go_wp2_with fail;rw[<-S];clear f h j k;refine(AH y _ b b1 (e.out.1.ext s) (aE e.out.2 A)).mono ?_;rintro m b2 ⟨rfl,v⟩;have x:=u.ext v;obtain⟨f,h,j,k,-⟩:=x.cl [0,1,2,3];go_wp2_with fail;refine(wO _ b l b2 ((e.out.1.ext (s.trans v)).isR e.out.2 (aE A de))).mono ?_;obtain⟨_,T⟩:=ex b.num.sign;rw[<-T]at b0 ⊢;clear T;rintro m _ ⟨rfl,U⟩;have V:=x.ext U;have:=V.cell 0;clear f h j k V x u;go_wp2;go_roundw
   case rel=>exact ⟨i+1,t.c,om,rfl,ci om,a9,hex.trans ((s.trans v).trans U)⟩
   case measure=>simp [intOf];omega
theorem GF(b c d:Nat)(j:Value)(a:CR)(w:World)(s:CnO b c w j a)(k:c<=1000000)(l:qR a.1=true)(u:FD d (-1) a.2.1=true):
  Calls prog 169 #[j,d] w λe v=>e= .returned true/\Ext w v:=by
 obtain⟨x,y,z,A,B,C,D,E,F,H,rfl,m,n,o⟩:=s;obtain⟨I,f,e1,p,_⟩:=kR w #[a.1,(x,y,z),A,(B,C,D),(E,F,H)] 39;have h:=a8 (aD (m.ext e1) (aD (n.ext e1) o));have i:1<=a.1/\a.1<=3:=of_decide_eq_true l;have:=i.1;have:=i.2;obtain⟨q,r,-⟩:=p.cl [0,1];rw[f]at q r;clear m n o i l;go_enter func169,ntmps169;go_wp2_with fail;rw[<-f];refine(uZ b c d _ _ I h.out.1 k u).mono ?_;rintro e J ⟨rfl,e2⟩;have K:=p.ext e2;obtain⟨_,_,_,-⟩:=K.cl [2,3,4];clear q r f;go_wp2_with fail;refine(AH b _ a.2.2 J (h.out.2.1.ext e2) (aE h.out.2.2 k)).mono ?_;exact bP8
def JB(x:Nat):Bool:=decide (x<=32) || decide (126<x)
theorem QD(a:Nat)(w:World)(i:a<=1114111):
  Calls prog 215 #[.int .i32 (a:Int)] w λd e=>d= .returned (.bool (JB a))/\e=w:=by
 go_enter func215,ntmps215;by_cases b:a<=32
 .have f:(a:Int)<=32:=om;have HB:Hid (JB a=true):=a8 (by unfold JB;rw[decide_eq_true b];rfl);clear b;exact uo1
 .have f:¬(a:Int)<=32:=om;by_cases c:126<a
  .have h:(126:Int)<(a:Int):=om;have HB:Hid (JB a=true):=a8 (by unfold JB;rw[decide_eq_true c,jZ]);clear b c;exact uo1
  .have h:¬(126:Int)<(a:Int):=om;have HB:Hid (JB a=false):=a8 (by unfold JB;rw[decide_eq_false b,decide_eq_false c];rfl);clear b c;exact uo1
def J0(s:ByteArray):Bool:=!s.toList.isEmpty&&(decide (s.size<=32)&&decide (Lib.idxFunc JB true s<0))
theorem SP(a:ByteArray)(w:World)(c:J0 a=true):
  Calls prog 166 #[a] w λb d=>b= .returned true/\Ext w d:=by
 simp only[J0,aU,decide_eq_true_eq,hQ]at c;obtain⟨e,f,i⟩:=c;have:(a.size:Int)<=32:=om;have h:decide (0<=Lib.idxFunc JB true a)=false:=decide_eq_false om;have j:=a8 h;clear i h;go_enter func166,ntmps166;go_wp2_with fail;refine(strings_ContainsFunc_grows 215 #[] (enters_of func215 kr rfl) JB a w (λW k l _=>(QD k W l).mono λb d ⟨e,f⟩=>⟨e,f▸Below.refl _ _⟩)).mono ?_;rw[j.out];rintro b _ ⟨rfl,m⟩;have n:=Ext.of_below m;go_wp2;go_ret;exact⟨rfl,n⟩
theorem QP(a:ByteArray)(w:World)(b:J0 a=true):
  Calls prog 165 #[a] w λe c=>e= .returned false/\Ext w c:=by
 go_enter func165,ntmps165;go_wp2_with fail;refine(SP a w b).mono ?_;exact Jh0
def NmL(w:World)(v:Value)(ss:List ByteArray):Prop:=SV (λ_ v s=>v= .string s) w v ss
theorem NT(f:Value)(a:List ByteArray)(w:World)(h:NmL w f a)(m:∀n∈a,J0 n=true):
  Calls prog 213 #[f,.func (.func 165) #[] #[]] w λo p=>o= .returned (-1:Int)/\Ext w p:=by
 obtain⟨_,b,_,j,rfl,_,k⟩:=h.opn;have q:=a8 j;have r:=a8 k;clear j k h;go_enter func213,ntmps213;go_wp2_with fail;go_loopw [8] (λc wr=>∃i:Nat,i<=b/\c= .int .i64 (i:Int)/\Ext w wr) (λc _=>((b:Int) - intOf c).toNat)
 case atStart=>exact ⟨0,zl,rfl,rE⟩
 case round=>
  obtain⟨i,s,rfl,hex⟩:=hrel;rcases aI s with hin |hin
  .exact xB7
  .have hlt:(i:Int)<b:=om;obtain⟨d,e⟩:∃u,a[i]? =some u:=⟨_,aA (by rw[<-q.out];exact hin)⟩;obtain⟨g,_,rfl,_,l,rfl⟩:=r.out i d e;have:=l wr hex;clear l;have v:=a8 (m d (aM e));clear e;go_wp2_with fail;refine(QP d wr v.out).mono ?_;exact Vv1
theorem QT(a:Value)(b:List ByteArray)(w:World)(c:NmL w a b)(d:∀f∈b,J0 f=true):
  Calls prog 164 #[a,.func (.func 165) #[] #[]] w λe h=>e= .returned false/\Ext w h:=by
 go_enter func164,ntmps164;go_wp2_with fail;refine(NT a b w c d).mono ?_;exact Jh0
def M6(n:Nat)(c:CR):Bool:=qR c.1&&FD n (-1) c.2.1
theorem QQ(h b c i:Nat)(j:Value)(a:CR)(w:World)(d:CnO h b w j a)(n:b<=1000000)(f:M6 c a=true)(k:Bx 3 w i #[c]):
  Calls prog 168 #[j,(i,0)] w λe o=>e= .returned false/\Ext w o:=by
 have p:=d;obtain⟨q,r,s,u,v,x,y,z,A,B,rfl,C,D,E⟩:=p;obtain⟨F,l,e1,H,_⟩:=kR w #[a.1,(q,r,s),u,(v,x,y),(z,A,B)] 39;have I:=a8 (d.ext e1);have J:=(k.ext e1).cell 0;have K:=H.q5.1;simp only[M6,aU]at f;have m:=a8 f;rw[l]at J K;clear d C D E k f;go_enter func168,ntmps168;go_wp2_with fail;rw[<-l];refine(GF h b c _ a F I.out n m.out.1 m.out.2).mono ?_;exact fD9
def CvL(B K:Nat)(w:World)(v:Value)(cs:List CR):Prop:=SL 5 (CnO B K) w v cs
theorem NS(m:Value)(n c d e:Nat)(f:List CR)(w:World)(o:CvL n c w m f)(s:c<=1000000)(u:∀a∈f,M6 d a=true)(v:Bx 3 w e #[d]):
  Calls prog 216 #[m,.func (.func 168) #[] #[(e,0)]] w λx y=>x= .returned (-1:Int)/\Ext w y:=by
 obtain⟨_,h,_,p,rfl,_,q⟩:=o.opn;have z:=a8 p;have A:=a8 q;clear p q o;go_enter func216,ntmps216;go_wp2_with fail;go_loopw [8] (λj wr=>∃i:Nat,i<=h/\j= .int .i64 (i:Int)/\Ext w wr) (λj _=>((h:Int) - intOf j).toNat)
 case atStart=>exact ⟨0,zl,rfl,rE⟩
 case round=>
  obtain⟨i,B,rfl,hex⟩:=hrel;rcases aI B with hin |hin
  .exact xB7
  .have hlt:(i:Int)<h:=om;obtain⟨a,k⟩:∃C,f[i]? =some C:=⟨_,aA (by rw[<-z.out];exact hin)⟩;obtain⟨g,D,rfl,_,_,r,l⟩:=A.out i a k;obtain⟨_,_,_,_,_,_,_,_,_,_,E,F,H,I⟩:=l.ext hex
   cases E
   have b:=r wr hex;have:wr.cell? (g,D+i*5)=some (.int .i64 a.1):=b 0 _ rfl;have:=b 1 _ rfl;have:=b 2 _ rfl;have:=b 3 _ rfl;have:=b 4 _ rfl;have J:=a8 (l.ext hex);have K:=a8 (v.ext hex);clear r b l F H I;have L:=a8 (u a (aM k));clear k;go_wp2_with fail;refine(QQ n c d e _ a wr J.out s L.out K.out).mono ?_;exact Vv1
theorem QS(a:Value)(h b c d:Nat)(f:List CR)(w:World)(i:CvL h b w a f)(j:b<=1000000)(k:∀l∈f,M6 c l=true)(m:Bx 3 w d #[c]):
  Calls prog 167 #[a,.func (.func 168) #[] #[(d,0)]] w λe n=>e= .returned false/\Ext w n:=by
 go_enter func167,ntmps167;go_wp2_with fail;refine(NS a h b c d f w i j k m).mono ?_;exact Jh0
theorem QR(f a b h:Nat)(c:Value)(d:List (Int×Rat))(w:World)(j:TO f a w c d)(k:a<=1000000)(l:FD b (-1) d=true)(i:Bx 3 w h #[b]):
  Calls prog 171 #[c,(h,0)] w λe m=>e= .returned false/\Ext w m:=by
 have:=i.cell 0;clear i;go_enter func171,ntmps171;go_wp2_with fail;refine(uZ f a b c d w j k l).mono ?_;exact Jh0
def TsL(B K:Nat)(w:World)(v:Value)(ms:List (List (Int×Rat))):Prop:=SV (TO B K) w v ms
theorem NU(l:Value)(m a b c:Nat)(d:List (List (Int×Rat)))(w:World)(n:TsL m a w l d)(r:a<=1000000)(s:∀u∈d,FD b (-1) u=true)(v:Bx 3 w c #[b]):
  Calls prog 217 #[l,.func (.func 171) #[] #[(c,0)]] w λx y=>x= .returned (-1:Int)/\Ext w y:=by
 obtain⟨_,e,_,o,rfl,_,p⟩:=n.opn;have z:=a8 o;have A:=a8 p;clear o p n;go_enter func217,ntmps217;go_wp2_with fail;go_loopw [8] (λf wr=>∃i:Nat,i<=e/\f= .int .i64 (i:Int)/\Ext w wr) (λf _=>((e:Int) - intOf f).toNat)
 case atStart=>exact ⟨0,zl,rfl,rE⟩
 case round=>
  obtain⟨i,B,rfl,hex⟩:=hrel;rcases aI B with hin |hin
  .exact xB7
  .have hlt:(i:Int)<e:=om;obtain⟨h,j⟩:∃C,d[i]? =some C:=⟨_,aA (by rw[<-z.out];exact hin)⟩;obtain⟨g,_,rfl,_,q,k⟩:=A.out i h j;obtain⟨_,_,rfl⟩:=k.val;have:=q wr hex;have D:=a8 (k.ext hex);have E:=a8 (v.ext hex);clear q k;have F:=a8 (s h (aM j));clear j;go_wp2_with fail;refine(QR m a b c _ h wr D.out r F.out E.out).mono ?_;exact Vv1
theorem QU(a:Value)(h b c d:Nat)(f:List (List (Int×Rat)))(w:World)(i:TsL h b w a f)(j:b<=1000000)(k:∀l∈f,FD c (-1) l=true)(m:Bx 3 w d #[c]):
  Calls prog 170 #[a,.func (.func 171) #[] #[(d,0)]] w λe n=>e= .returned false/\Ext w n:=by
 go_enter func170,ntmps170;go_wp2_with fail;refine(NU a h b c d f w i j k m).mono ?_;exact Jh0
structure CrT where
 na:Option Addr
 nn:Nat
 nc:Nat
 wa:Option Addr
 wn:Nat
 wc:Nat
 oa:Option Addr
 on:Nat
 oc:Nat
 ca:Option Addr
 cn:Nat
 cc:Nat
 lo:QC
 hi:QC
 sa:Option Addr
 sn:Nat
 sc:Nat
 da:Option Addr
 dn:Nat
 dc:Nat
def crC(t:CrT):Array Value:=#[(t.na,t.nn,t.nc),(t.wa,t.wn,t.wc),(t.oa,t.on,t.oc),(t.ca,t.cn,t.cc),(2:Int),true,true,t.lo.b,(t.lo.a1,t.lo.n1,t.lo.c1),(t.lo.a2,t.lo.n2,t.lo.c2),t.hi.b,(t.hi.a1,t.hi.n1,t.hi.c1),(t.hi.a2,t.hi.n2,t.hi.c2),(t.sa,t.sn,t.sc),(t.da,t.dn,t.dc)]
structure CrV where
 nm:List ByteArray
 bs:List Bool
 ob:List (Int×Rat)
 cs:List CR
 lo:Rat
 hi:Rat
 sl:List (List (Int×Rat))
 ds:List DR
def DvL(B K:Nat)(w:World)(v:Value)(ds:List DR):Prop:=SL 11 (vT B K) w v ds
structure CrP (B K:Nat) (w:World) (t:CrT) (x:CrV):Prop where
 nm:NmL w (.slice t.na t.nn t.nc) x.nm
 bs:BL w (.slice t.wa t.wn t.wc) x.bs
 ob:TO B K w (.slice t.oa t.on t.oc) x.ob
 cs:CvL B K w (.slice t.ca t.cn t.cc) x.cs
 lo:FrQ B w (qv t.lo) x.lo
 hi:FrQ B w (qv t.hi) x.hi
 sl:TsL B K w (.slice t.sa t.sn t.sc) x.sl
 ds:DvL B K w (.slice t.da t.dn t.dc) x.ds
 lz:szQ x.lo<=K
 hz:szQ x.hi<=K
theorem CrP.ext{c d:Nat}{w e:World}{t:CrT}{f:CrV}(a:CrP c d w t f)(b:Ext w e):CrP c d e t f:=
 ⟨SV.ext (λ_ _ a=>a) a.nm b,a.bs.ext b,a.ob.ext b,SL.ext (λ_ _ a=>a.ext b) a.cs b,a.lo.ext b,a.hi.ext b,SV.ext (λ_ _ a=>a.ext b) a.sl b,SL.ext (λ_ _ a=>a.ext b) a.ds b,a.lz,a.hz⟩
theorem SV.lenS{d:World->Value->p->Prop}{w:World}{c:List p}(e:SV d w (j,a,b) c):a=c.length:=by
 obtain⟨_,_,_,f,h, -⟩:=e.opn
 cases h
 exact f
theorem SL.lenS{d:World->Value->p->Prop}{w:World}{c:List p}(e:SL b d w (j,a,f) c):a=c.length:=by
 obtain⟨_,_,_,h,i, -⟩:=e.opn
 cases i
 exact h
theorem NV(f n:Nat)(t:CrT)(h:CrV)(w:World)(o:CrP f n w t h)(p:n<=1000000):
  Calls prog 162 #[.agg (crC t)] w λi x=>i= .returned true/\Ext w x:=by
 obtain⟨a,j,q,b,_⟩:=kR w (crC t) 75;have c:=a8 (o.ext q);clear o;have r:a.cell? (w,7)=some (.bool t.lo.b):=b.cell 7;have s:a.cell? (w,8)=some (.slice t.lo.a1 t.lo.n1 t.lo.c1):=b.cell 8;have u:a.cell? (w,9)=some (.slice t.lo.a2 t.lo.n2 t.lo.c2):=b.cell 9;rw[j]at r s u;unfold crC at*;go_enter func162,ntmps162;go_wp2_with fail;rw[<-j];refine(AH f _ h.lo a c.out.lo (aE c.out.lz p)).mono ?_;rintro i d ⟨rfl,k⟩;have e:=b.ext k;have y:d.cell? (w,10)=some (.bool t.hi.b):=e.cell 10;have z:d.cell? (w,11)=some (.slice t.hi.a1 t.hi.n1 t.hi.c1):=e.cell 11;have A:d.cell? (w,12)=some (.slice t.hi.a2 t.hi.n2 t.hi.c2):=e.cell 12;clear r s u j;go_wp2_with fail;refine(AH f _ h.hi d (c.out.hi.ext k) (aE c.out.hz p)).mono ?_;rintro i l ⟨rfl,v⟩;have m:=e.ext v;have:l.cell? (w,4)=some (.int .i64 2):=m.cell 4;have:l.cell? (w,5)=some (.bool true):=m.cell 5;have:l.cell? (w,6)=some (.bool true):=m.cell 6;clear y z A;go_wp2;go_ret;exact⟨rfl,(q.trans k).trans v⟩
def V7(n lines:Nat)(d:DR):Bool:=M6 n d.c&&((decide (d.rs=2) || decide (d.rs=3))&&(FD lines (-1) d.us&&decide (d.p1=0/\d.p2=0/\d.p3=0/\d.p4=0)))
theorem MQ(j d e a:Nat)(k:Value)(f:DR)(w:World)(D:vT j d w k f)(E:d<=1000000)(l:V7 e a f=true):
  Calls prog 172 #[k,a] w λm F=>m= .returned true/\Ext w F:=by
 obtain⟨H,e,I,J,K,L,M,N,O,P,n,o,p,rfl, -,h⟩:=D;simp only[V7,aU,fQ,decide_eq_true_eq]at l;obtain⟨-,q,i,r,s,u,v⟩:=l;obtain⟨Q,x,R,_,_,_,_⟩:=f;simp only at q i r s u v h ⊢;subst r s u v;obtain⟨b,y,z,A,S,B,_⟩:=qI w #[Q.1,(H,e,I),J,(K,L,M),(N,O,P),x,(n,o,p),(0:Int),(0:Int),(0:Int),(0:Int)] #[a] #[(0:Int),(0:Int),(0:Int),(0:Int)] 110 3 40;have T:=a8 (h.ext z);clear h;have:b.cell? (w,5)=some (.int .i64 x):=A.cell 5;have:b.cell? (w,6)=some (.slice n o p):=A.cell 6;have:b.cell? (w.heap.size+1,0)=some (.int .i64 (a:Int)):=S.cell 0;have U:=a8 B;have V:=a8 i;clear B i;go_enter func172,ntmps172;go_upto_region 2 with(fail);rw[<-y];clear y;rcases q with rfl |rfl;all_goals
  go_wp2_with fail;refine(uZ j d a _ R b T.out E V.out).mono ?_;rintro m _ ⟨rfl,C⟩;have c:=U.out.ext C;have:=c.cell 0;have:=c.cell 1;have:=c.cell 2;have:=c.cell 3
  have:∀w:World,(binOp .eql 40 (.agg #[(0:Int),(0:Int),(0:Int),(0:Int)]) (.agg #[(0:Int),(0:Int),(0:Int),(0:Int)])).run prog w= .ok true w:=λ_=>kr
  have:∀(X Y:Operand) (w:World),(eqGuard .eql 40 X Y (.agg #[(0:Int),(0:Int),(0:Int),(0:Int)]) (.agg #[(0:Int),(0:Int),(0:Int),(0:Int)])).run prog w= .ok () w:=λ_ _ _=>kr
  go_wp2;go_ret;exact⟨rfl,z.trans C⟩
structure CrG (x:CrV):Prop where
 bs:x.bs.length=x.nm.length
 ob:FD x.nm.length (-1) x.ob=true
 nm:∀s∈x.nm,J0 s=true
 cs:∀c∈x.cs,M6 x.nm.length c=true
 sl:∀m∈x.sl,FD x.nm.length (-1) m=true
 ds:∀(i:Nat) (d:DR),x.ds[i]? =some d->V7 x.nm.length (x.cs.length+i) d=true
theorem NR(q n:Nat)(t:CrT)(j:CrV)(w:World)(s:CrP q n w t j)(u:n<=1000000)(b0:CrG j)(e3:j.nm.length<=1000/\j.cs.length<=100000/\j.ds.length<=100000):
  Calls prog 126 #[.agg (crC t)] w λo e4=>o= .returned (0:Int)/\Ext w e4:=by
 have I:=s.nm.lenS;have b1:=s.bs.lenS;have b2:=s.cs.lenS;have b3:=s.ds.lenS;rw[b0.bs,<-I]at b1;obtain⟨J,a,K,L,_,M,N,O,P,B,l,C,b,c,Q,R,S,T,k,U⟩:=t;simp only at I b1 b2 b3;have e5:=b1.symm;subst e5;obtain⟨d,bR,bS,e,v,_⟩:=lZ w #[(J,a,K),(L,a,M),(N,O,P),(B,l,C),(2:Int),true,true,b.b,(b.a1,b.n1,b.c1),(b.a2,b.n2,b.c2),c.b,(c.a1,c.n1,c.c1),(c.a2,c.n2,c.c2),(Q,R,S),(T,k,U)] #[a] 75 3;have x:=a8 (s.ext bS);have D:=a8 I;have E:=a8 b0;have e6:=a8 b2;have e7:=a8 b3;have i6:(a:Int)<=1000:=om;have i7:(l:Int)<=100000:=om;have j0:(k:Int)<=100000:=om;clear s b0 e3 I b2 b3;have m:Hid (∀V,Ext d V->Bx 75 V w #[(J,a,K),(L,a,M),(N,O,P),(B,l,C),(2:Int),true,true,b.b,(b.a1,b.n1,b.c1),(b.a2,b.n2,b.c2),c.b,(c.a1,c.n1,c.c1),(c.a2,c.n2,c.c2),(Q,R,S),(T,k,U)]/\Bx 3 V (w.heap.size+1) #[a]):=a8 λV bT=>⟨e.ext bT,v.ext bT⟩
 have e8:d.cell? w.heap.size=some (.slice J a K):=e.cell 0;have e9:d.cell? (w,1)=some (.slice L a M):=e.cell 1;have eA:d.cell? (w,2)=some (.slice N O P):=e.cell 2;have eB:d.cell? (w,3)=some (.slice B l C):=e.cell 3;have eC:d.cell? (w,4)=some (.int .i64 2):=e.cell 4;have eD:d.cell? (w,5)=some (.bool true):=e.cell 5;have eE:d.cell? (w,6)=some (.bool true):=e.cell 6;have eG:d.cell? (w,7)=some (.bool b.b):=e.cell 7;have eN:d.cell? (w,8)=some (.slice b.a1 b.n1 b.c1):=e.cell 8;have fA:d.cell? (w,9)=some (.slice b.a2 b.n2 b.c2):=e.cell 9;have fB:d.cell? (w,10)=some (.bool c.b):=e.cell 10;have fC:d.cell? (w,11)=some (.slice c.a1 c.n1 c.c1):=e.cell 11;have fD:d.cell? (w,12)=some (.slice c.a2 c.n2 c.c2):=e.cell 12;have fE:d.cell? (w,13)=some (.slice Q R S):=e.cell 13;have fG:d.cell? (w,14)=some (.slice T k U):=e.cell 14;clear e v;unfold crC;go_enter func126,ntmps126;go_wp2_with fail;rw[<-bR];have g0:=Ext.refl d;refine(NV q n _ j d x.out u).mono ?_;rintro o r ⟨rfl,y⟩;have X:=g0.trans y;have Y:=m.out _ X;have v:r.cell? (w,1)=some (.slice L a M):=Y.1.cell 1;have b4:r.cell? (w,2)=some (.slice N O P):=Y.1.cell 2;have l:r.cell? (w.heap.size+1,0)=some (.int .i64 (a:Int)):=Y.2.cell 0;clear Y;clear e8 e9 eA eB eC eD eE eG eN fA fB fC fD fE fG bR;go_wp2_with fail;refine(uZ q n a _ j.ob r (x.out.ob.ext X) u (by rw[D.out];exact E.out.ob)).mono ?_;rintro o z ⟨rfl,p⟩;have Z:=X.trans p;have b5:=m.out _ Z;have d0:z.cell? w.heap.size=some (.slice J a K):=b5.1.cell 0;have k:z.cell? (w.heap.size+1,0)=some (.int .i64 (a:Int)):=b5.2.cell 0;clear b5;clear v b4;clear l;go_wp2_with fail;refine(QT _ j.nm z (x.out.ext Z).nm E.out.nm).mono ?_;rintro o a0 ⟨rfl,a1⟩;have F:=Z.trans a1;have b6:=m.out _ F;have p:a0.cell? (w,3)=some (.slice B l C):=b6.1.cell 3;have g1:a0.cell? (w.heap.size+1,0)=some (.int .i64 (a:Int)):=b6.2.cell 0;clear b6;clear d0;clear k;go_wp2_with fail;refine(QS _ q n a (w.heap.size+1) j.cs a0 (x.out.ext F).cs u (by rw[D.out];exact E.out.cs) (m.out _ F).2).mono ?_;rintro o b7 ⟨rfl,c0⟩;have H:=F.trans c0;have b8:=m.out _ H;have f13:b7.cell? (w,13)=some (.slice Q R S):=b8.1.cell 13;have g2:b7.cell? (w.heap.size+1,0)=some (.int .i64 (a:Int)):=b8.2.cell 0;clear b8;clear p;clear g1;go_wp2_with fail;refine(QU _ q n a (w.heap.size+1) j.sl b7 (x.out.ext H).sl u (by rw[D.out];exact E.out.sl) (m.out _ H).2).mono ?_;rintro o c1 ⟨rfl,c2⟩;have b9:=H.trans c2;have bA:=m.out _ b9;have g3:c1.cell? (w,14)=some (.slice T k U):=bA.1.cell 14;have g4:c1.cell? (w.heap.size+1,0)=some (.int .i64 (a:Int)):=bA.2.cell 0;clear bA;clear f13;clear g2;go_wp2_with fail;go_loopw [4,47] (λg5 bB wr=>∃h:Nat,h<=k/\g5= .bool false/\bB= .int .i64 (h:Int)/\Ext d wr) (λ_ bB _=>((k:Int) - intOf bB).toNat)
 case atStart=>exact ⟨0,zl,rfl,rfl,b9⟩
 case round=>
  obtain⟨h,g6,rfl,rfl,A⟩:=hrel;clear g3 g4 y p a1 c0 c2 X Z F H b9;have g7:=m.out _ A;rcases aI g6 with bC |bC
  .have g9:¬((h:Int)<k):=om;clear bC;go_wp2;go_ret;exact⟨rfl,bS.trans A⟩
  .have g9:(h:Int)<k:=om;obtain⟨f,bD⟩:∃f,j.ds[h]? =some f:=⟨_,aA (by rw[<-e7.out];exact bC)⟩;obtain⟨_,_,_,gA,c3, -,c4⟩:=x.out.ds.opn;simp only[Value.slice.injEq]at c3;obtain⟨c5,gG,gL⟩:=c3;obtain⟨g,gT,h0,_,h1,c6,bE⟩:=c4 h f bD;have i:=c6 wr A;have h2:=a8 (bE.ext A);obtain⟨h3,h4,h5,h6,h7,h8,v,h9,hA,b4,hB,hC,hD,hE,c7,hG⟩:=bE.ext A
   cases hE
   rw[h0]at c5;subst c5;have hH:=a8 c7;have hI:wr.cell? (g,gT+h*11)=some (.int .i64 f.c.1):=i 0 _ rfl;have hJ:=i 1 _ rfl;have hK:=i 2 _ rfl;have hL:=i 3 _ rfl;have hM:=i 4 _ rfl;have hN:=i 5 _ rfl;have hO:=i 6 _ rfl;have hP:=i 7 _ rfl;have hR:=i 8 _ rfl;have hS:=i 9 _ rfl;have hT:=i 10 _ rfl;obtain⟨r,bG,y,bO,hU⟩:=kR wr #[f.c.1,(h3,h4,h5),h6,(h7,h8,v),(h9,hA,b4),f.rs,(hB,hC,hD),f.p1,f.p2,f.p3,f.p4] 110;have hV:=a8 bO;have bP:=A.trans y;have hW:=a8 bP;have c8:=a8 (E.out.ds h f bD);obtain⟨a2,a3,a4,a5,a6,-⟩:=bO.cl [0,1,2,3,4];have c9:r.cell? (w.heap.size+1,0)=some (.int .i64 (a:Int)):=(m.out _ bP).2.cell 0;rw[bG]at a2 a3 a4 a5 a6 c9;clear bD c4 c6 bE i c7 hG gA gG gL bO hU bP g7 h1;go_wp2_with fail;rw[<-bG];clear bG a2 a3 a4 a5 a6 c9 hI hJ hK hL hM hN hO hP hR hS hT;have a7:M6 a f.c=true:=by
    have:=c8.out;rw[<-D.out]at this;simp only[V7,aU]at this;exact this.1
   simp only[M6,aU]at a7;refine(GF q n a _ f.c r (hH.out.ext y) u a7.1 a7.2).mono ?_;rintro o z ⟨rfl,p⟩;have e0:=hW.out.trans p;have e1:=hV.out.ext p;obtain⟨a2,a3,a4,a5,a6,hX,hY,hZ,i0,i1,i2,-⟩:=e1.cl [0,1,2,3,4,5,6,7,8,9,10];have i3:z.cell? (w,3)=some (.slice B l C):=(m.out _ e0).1.cell 3;obtain⟨a9,e2⟩:=ex (l+h);have j1:(l:Int)+h=(a9:Int):=om;have j2:IntKind.i64.wrap (a9:Int)=a9:=cC _ ⟨om,om⟩;have i4:=a8 e2;clear e1 a7 e2;go_wp2_with fail;clear a2 a3 a4 a5 a6 hX hY hZ i0 i1 i2 i3;refine(MQ q n a a9 _ f z (h2.out.ext (y.trans p)) u (by rw[D.out,i4.out,e6.out];exact c8.out)).mono ?_;rintro o a0 ⟨rfl,a1⟩;have i5:=e0.trans a1;go_wp2;go_roundw
   case rel=>
    exact⟨h+1,om,rfl,ci om,i5⟩
   case measure=>simp [intOf];omega
theorem DL(a:Rat):qP a a=0:=by
 have:=DM a a;omega
theorem V0(a:Nat)(b:Int)(c:Rat)(d:Bool)(f:Option Addr)(h i:Nat)(j:Option Addr)(k l:Nat)(m:Bool)(n:Option Addr)(o p:Nat)(q:Option Addr)(r s:Nat)(w:World)(u:IsR w (.agg #[d,(f,h,i),(j,k,l)]) c a)(v:IsR w (.agg #[m,(n,o,p),(q,r,s)]) c a)(M:a<=1000000):
  Calls prog 221 #[.agg #[b,d,(f,h,i),(j,k,l)],.agg #[b,m,(n,o,p),(q,r,s)]] w λe z=>e= .returned true/\Ext w z:=by
 obtain⟨A,x,e1,B,C,_⟩:=lZ w #[b,d,(f,h,i),(j,k,l)] #[b,m,(n,o,p),(q,r,s)] 67 67;have y:=a8 (aD (u.ext e1) (v.ext e1));obtain⟨D,E,F,H,-⟩:=B.cl [0,1,2,3];obtain⟨I,J,K,L,-⟩:=C.cl [0,1,2,3];rw[x]at D E F H I J K L;clear u v;go_enter func221,ntmps221;go_wp2_with fail;rw[<-x];refine(pO _ _ c c a a A y.out.1 y.out.2 om).mono ?_;rw[DL];exact fD9
theorem VC(z A:Value)(f:Nat)(h:List (Int×Rat))(w:World)(Y:TL f w z h)(Z:TL f w A h)(a0:f<=1000000):
  Calls prog 220 #[z,A,.func (.func 221) #[] #[]] w λa1 a2=>a1= .returned true/\Ext w a2:=by
 obtain⟨_,a3,_,k,rfl,_,B⟩:=Y.at;obtain⟨_,c,_,l,rfl,_,C⟩:=Z.at;have a4:c=a3:=by rw[k,l]
 subst a4;have a5:=a8 k;have a6:=a8 l;have a7:=a8 B;have a9:=a8 C;have b0:¬((c:Int)≠c):=sm;clear k B l C;go_enter func220,ntmps220;go_wp2_with fail;go_loopw [17] (λm wr=>∃i:Nat,i<=c/\m= .int .i64 (i:Int)/\Ext w wr) (λm _=>((c:Int) - intOf m).toNat)
 case atStart=>exact ⟨0,zl,rfl,rE⟩
 case round=>
  obtain⟨i,b1,rfl,hex⟩:=hrel;clear b0;rcases aI b1 with hin |hin
  .exact xB7
  .have hlt:(i:Int)<c:=om;obtain⟨a,j⟩:∃a,h[i]? =some a:=⟨_,aA (by rw[<-a5.out];exact hin)⟩;obtain⟨b2,n⟩:∃a,h[i]? =some a:=⟨_,aA (by rw[<-a6.out];exact hin)⟩;obtain rfl:a=b2:=by rw[j]at n;exact Option.some.inj n
   obtain⟨g,_,rfl,o,p,q,r,s,u,v,D⟩:=a7.out i a j;obtain⟨_,_,rfl,E,F,H,I,J,K,L,x⟩:=a9.out i a j;obtain⟨_,_,_,_,M⟩:=D wr hex;obtain⟨_,_,_,_, -⟩:=x (wr.alloc (.cells #[a.1,o,(p,q,r),(s,u,v)] 67)) (hex.alloc _);obtain⟨-, -, -, -,N⟩:=x wr hex;have O:=a8 (aD M N);clear D x M N j n;obtain⟨b,y,e2,d,e,b3⟩:=lZ wr #[a.1,o,(p,q,r),(s,u,v)] #[a.1,E,(F,H,I),(J,K,L)] 67 67;have P:b.cell? wr.heap.size=some (.int .i64 a.1):=d.cell 0;have Q:b.cell? (wr,1)=some (.bool o):=d.cell 1;have R:b.cell? (wr,2)=some (.slice p q r):=d.cell 2;have S:b.cell? (wr,3)=some (.slice s u v):=d.cell 3;have T:b.cell? (wr.heap.size+1,0)=some (.int .i64 a.1):=e.cell 0;have U:b.cell? (wr.heap.size+1,1)=some (.bool E):=e.cell 1;have V:b.cell? (wr.heap.size+1,2)=some (.slice F H I):=e.cell 2;have X:b.cell? (wr.heap.size+1,3)=some (.slice J K L):=e.cell 3;rw[y]at P Q R S T U V X;clear d e b3;go_wp2_with fail;rw[<-y];clear y P Q R S T U V X;refine(V0 f a.1 a.2 _ _ _ _ _ _ _ _ _ _ _ _ _ _ b (O.out.1.ext e2) (O.out.2.ext e2) a0).mono ?_;exact Kz5
theorem CC(b c:Value)(a:Nat)(d:List (Int×Rat))(w:World)(f:TL a w b d)(h:TL a w c d)(i:a<=1000000):
  Calls prog 176 #[b,c] w λe j=>e= .returned true/\Ext w j:=by
 go_enter func176,ntmps176;go_wp2_with fail;refine(VC b c a d w f h i).mono ?_;exact Jh0
theorem V6(b:Nat)(d f:Value)(a:CR)(w:World)(z:CnR b w d a)(A:CnR b w f a)(B:b<=1000000):
  Calls prog 178 #[d,f] w λe C=>e= .returned true/\Ext w C:=by
 obtain⟨D,E,F,H,I,J,K,L,M,N,rfl,h,i⟩:=z;obtain⟨O,P,Q,R,S,T,U,V,X,Y,rfl,j,k⟩:=A;obtain⟨Z,c,e1,l,m,_⟩:=lZ w #[a.1,(D,E,F),H,(I,J,K),(L,M,N)] #[a.1,(O,P,Q),R,(S,T,U),(V,X,Y)] 39 39;have n:=a8 (aD (i.ext e1) (k.ext e1));have o:=a8 (aD (h.ext e1) (j.ext e1));obtain⟨p,q,r,s,-⟩:=l.cl [0,2,3,4];obtain⟨u,v,x,y,-⟩:=m.cl [0,2,3,4];rw[c]at p q r s u v x y;clear h i j k;go_enter func178,ntmps178;go_wp2_with fail;rw[<-c];clear p q r s u v x y c;refine(pO _ _ a.2.2 a.2.2 b b Z n.out.1 n.out.2 om).mono ?_;rw[DL];rintro e a0 ⟨rfl,e2⟩;have:=(l.ext e2).cell 1;have:=(m.ext e2).cell 1;go_wp2_with fail;refine(CC _ _ b a.2.1 a0 (o.out.1.ext e2) (o.out.2.ext e2) B).mono ?_;exact bP8
theorem VB(M N:Value)(c:Nat)(h:List CR)(w:World)(a9:CL c w M h)(b0:CL c w N h)(b1:c<=1000000):
  Calls prog 177 #[M,N,.func (.func 178) #[] #[]] w λb2 b3=>b2= .returned true/\Ext w b3:=by
 obtain⟨_,b4,_,v,rfl,_,O⟩:=a9.at;obtain⟨_,d,_,x,rfl,_,P⟩:=b0.at;have b5:d=b4:=by rw[v,x]
 subst b5;have b6:=a8 v;have b7:=a8 x;have b8:=a8 O;have b9:=a8 P;have bA:¬((d:Int)≠d):=sm;clear v O x P;go_enter func177,ntmps177;go_wp2_with fail;go_loopw [17] (λy wr=>∃i:Nat,i<=d/\y= .int .i64 (i:Int)/\Ext w wr) (λy _=>((d:Int) - intOf y).toNat)
 case atStart=>exact ⟨0,zl,rfl,rE⟩
 case round=>
  obtain⟨i,bB,rfl,hex⟩:=hrel;clear bA;rcases aI bB with hin |hin
  .exact xB7
  .have hlt:(i:Int)<d:=om;obtain⟨a,j⟩:∃a,h[i]? =some a:=⟨_,aA (by rw[<-b6.out];exact hin)⟩;obtain⟨bC,z⟩:∃a,h[i]? =some a:=⟨_,aA (by rw[<-b7.out];exact hin)⟩;obtain rfl:a=bC:=by rw[j]at z;exact Option.some.inj z
   obtain⟨g,_,rfl,k,l,m,n,o,p,q,r,s,u,Q,R,S⟩:=b8.out i a j;obtain⟨_,_,rfl,A,B,C,D,E,F,H,I,J,K,T,U,V⟩:=b9.out i a j;obtain⟨_,_,_,_,_⟩:=Q wr hex;obtain⟨_,_,_,_,_⟩:=T (wr.alloc (.cells #[a.1,(k,l,m),n,(o,p,q),(r,s,u)] 39)) (hex.alloc _);have X:Hid (CnR c wr (.agg #[a.1,(k,l,m),n,(o,p,q),(r,s,u)]) a/\CnR c wr (.agg #[a.1,(A,B,C),D,(E,F,H),(I,J,K)]) a):=a8 ⟨⟨_,_,_,_,_,_,_,_,_,_,rfl,R.ext hex,S.ext hex⟩,⟨_,_,_,_,_,_,_,_,_,_,rfl,U.ext hex,V.ext hex⟩⟩;clear Q T R S U V j z;obtain⟨b,L,e2,e,f,bD⟩:=lZ wr #[a.1,(k,l,m),n,(o,p,q),(r,s,u)] #[a.1,(A,B,C),D,(E,F,H),(I,J,K)] 39 39;have Y:b.cell? wr.heap.size=some (.int .i64 a.1):=e.cell 0;have Z:b.cell? (wr,1)=some (.slice k l m):=e.cell 1;have a0:b.cell? (wr,2)=some (.bool n):=e.cell 2;have a1:b.cell? (wr,3)=some (.slice o p q):=e.cell 3;have a2:b.cell? (wr,4)=some (.slice r s u):=e.cell 4;have a3:b.cell? (wr.heap.size+1,0)=some (.int .i64 a.1):=f.cell 0;have a4:b.cell? (wr.heap.size+1,1)=some (.slice A B C):=f.cell 1;have a5:b.cell? (wr.heap.size+1,2)=some (.bool D):=f.cell 2;have a6:b.cell? (wr.heap.size+1,3)=some (.slice E F H):=f.cell 3;have a7:b.cell? (wr.heap.size+1,4)=some (.slice I J K):=f.cell 4;rw[L]at Y Z a0 a1 a2 a3 a4 a5 a6 a7;clear e f bD;go_wp2_with fail;rw[<-L];clear L Y Z a0 a1 a2 a3 a4 a5 a6 a7;refine(V6 c _ _ a b (X.out.1.ext e2) (X.out.2.ext e2) b1).mono ?_;exact Kz5
def VnL(w:World)(v:Value)(ss:List ByteArray):Prop:=SL 13 (λ_ v nm=>∃b0 b1 b2:Bool,∃l h c:QC,v= .agg #[.string nm,b0,b1,b2,l.b,(l.a1,l.n1,l.c1),(l.a2,l.n2,l.c2),h.b,(h.a1,h.n1,h.c1),(h.a2,h.n2,h.c2),c.b,(c.a1,c.n1,c.c1),(c.a2,c.n2,c.c2)]) w v ss
theorem VnL.ext{w b:World}{c:Value}{d:List ByteArray}(a:VnL w c d)(e:Ext w b):VnL b c d:=SL.ext (λ_ _ a=>a) a e
theorem QM(d:ByteArray)(e f h:Bool)(a b c:QC)(w:World):
  Calls prog 174 #[.agg #[d,e,f,h,a.b,(a.a1,a.n1,a.c1),(a.a2,a.n2,a.c2),b.b,(b.a1,b.n1,b.c1),(b.a2,b.n2,b.c2),c.b,(c.a1,c.n1,c.c1),(c.a2,c.n2,c.c2)],d] w λj k=>j= .returned true/\Ext w k:=by
 obtain⟨l,i,m,n,_⟩:=kR w #[d,e,f,h,a.b,(a.a1,a.n1,a.c1),(a.a2,a.n2,a.c2),b.b,(b.a1,b.n1,b.c1),(b.a2,b.n2,b.c2),c.b,(c.a1,c.n1,c.c1),(c.a2,c.n2,c.c2)] 86;have o:l.cell? w.heap.size=some (.string d):=n.cell 0;rw[i]at o;go_enter func174,ntmps174;go_wp2;rw[<-i];go_ret;exact⟨sm,m⟩
theorem VD(v x:Value)(k:List ByteArray)(w:World)(a:VnL w v k)(Q:NmL w x k):
  Calls prog 173 #[v,x,.func (.func 174) #[] #[]] w λR S=>R= .returned true/\Ext w S:=by
 obtain⟨_,T,_,p,rfl,_,y⟩:=a.opn;obtain⟨_,j,_,q,rfl,_,z⟩:=Q.opn;have U:j=T:=by rw[p,q]
 subst U;have V:=a8 p;have X:=a8 q;have Y:=a8 y;have Z:=a8 z;have a0:¬((j:Int)≠j):=sm;clear p y q z;go_enter func173,ntmps173;go_wp2_with fail;go_loopw [17] (λr wr=>∃i:Nat,i<=j/\r= .int .i64 (i:Int)/\Ext w wr) (λr _=>((j:Int) - intOf r).toNat)
 case atStart=>exact ⟨0,zl,rfl,rE⟩
 case round=>
  obtain⟨i,a1,rfl,hex⟩:=hrel;clear a0;rcases aI a1 with hin |hin
  .exact xB7
  .have hlt:(i:Int)<j:=om;obtain⟨h,l⟩:∃h,k[i]? =some h:=⟨_,aA (by rw[<-V.out];exact hin)⟩;obtain⟨a2,s⟩:∃h,k[i]? =some h:=⟨_,aA (by rw[<-X.out];exact hin)⟩;obtain rfl:h=a2:=by rw[l]at s;exact Option.some.inj s
   obtain⟨g,a3,rfl,_,a4,A,m,n,o,b,a,c,a5⟩:=Y.out i h l
   cases a5
   obtain⟨_,_,rfl,_,B,rfl⟩:=Z.out i h l;have d:=A wr hex;have:=B (wr.alloc (.cells #[h,m,n,o,b.b,(b.a1,b.n1,b.c1),(b.a2,b.n2,b.c2),a.b,(a.a1,a.n1,a.c1),(a.a2,a.n2,a.c2),c.b,(c.a1,c.n1,c.c1),(c.a2,c.n2,c.c2)] 86)) (hex.alloc _);have:wr.cell? (g,a3+i*13)=some (.string h):=d 0 _ rfl;have:=d 1 _ rfl;have:=d 2 _ rfl;have:=d 3 _ rfl;have:=d 4 _ rfl;have:=d 5 _ rfl;have:=d 6 _ rfl;have:=d 7 _ rfl;have:=d 8 _ rfl;have:=d 9 _ rfl;have:=d 10 _ rfl;have:=d 11 _ rfl;have:=d 12 _ rfl;clear A B d l s a4;obtain⟨e,u,e2,f,a6⟩:=kR wr #[h,m,n,o,b.b,(b.a1,b.n1,b.c1),(b.a2,b.n2,b.c2),a.b,(a.a1,a.n1,a.c1),(a.a2,a.n2,a.c2),c.b,(c.a1,c.n1,c.c1),(c.a2,c.n2,c.c2)] 86;have C:e.cell? wr.heap.size=some (.string h):=f.cell 0;have D:e.cell? (wr,1)=some (.bool m):=f.cell 1;have E:e.cell? (wr,2)=some (.bool n):=f.cell 2;have F:e.cell? (wr,3)=some (.bool o):=f.cell 3;have H:e.cell? (wr,4)=some (.bool b.b):=f.cell 4;have I:e.cell? (wr,5)=some (.slice b.a1 b.n1 b.c1):=f.cell 5;have J:e.cell? (wr,6)=some (.slice b.a2 b.n2 b.c2):=f.cell 6;have K:e.cell? (wr,7)=some (.bool a.b):=f.cell 7;have L:e.cell? (wr,8)=some (.slice a.a1 a.n1 a.c1):=f.cell 8;have M:e.cell? (wr,9)=some (.slice a.a2 a.n2 a.c2):=f.cell 9;have N:e.cell? (wr,10)=some (.bool c.b):=f.cell 10;have O:e.cell? (wr,11)=some (.slice c.a1 c.n1 c.c1):=f.cell 11;have P:e.cell? (wr,12)=some (.slice c.a2 c.n2 c.c2):=f.cell 12;rw[u]at C D E F H I J K L M N O P;clear f a6;go_wp2_with fail;rw[<-u];clear u C D E F H I J K L M N O P;refine(QM h m n o b a c e).mono ?_;exact Kz5
theorem VA(j l:Value)(d:List Bool)(w:World)(s:BL w j d)(u:BL w l d):
  Calls prog 175 #[j,l] w λv x=>v= .returned true/\Ext w x:=by
 obtain⟨_,y,_,e,rfl,_,m⟩:=s.at;obtain⟨_,a,_,n,rfl,_,o⟩:=u.at;have z:a=y:=by rw[e,n]
 subst z;have p:=a8 (aD m o);have A:=a8 e;have f:¬((a:Int)≠a):=sm;clear m o e n;go_enter func175,ntmps175;go_wp2_with fail;go_loopw [13] (λh wr=>∃k:Nat,k<=a/\h= .int .i64 k/\Ext w wr) (λh _=>a - (intOf h).toNat)
 case atStart=>exact ⟨0,om,rfl,rE⟩
 case round=>
  obtain⟨k,_,rfl,hex⟩:=hrel;by_cases B:k<a
  .obtain⟨b,i⟩:∃b,d[k]? =some b:=⟨_,aA (by rw[<-A.out];exact B)⟩;obtain⟨C,D,rfl,q⟩:=p.out.1 k b i;obtain⟨E,F,rfl,r⟩:=p.out.2 k b i;have HC:Hid (∀c,Ext wr c->c.cell? (C,D+k)=some (.bool b)/\c.cell? (E,F+k)=some (.bool b)):=a8 λc f=>⟨q _ (hex.trans f),r _ (hex.trans f)⟩
   have H:(k:Int)<a:=om;clear q r i;go_upto_region 6 with(fail);exact Uf9
  .have H:¬(k:Int)<a:=om;go_wp2;go_ret;exact⟨rfl,hex⟩
theorem CD{w:World}(e:w.ownsRow a 4 1 c b (n.map Value.bool))(f:b=n.length):BL w c n:=
 OV.sv (t:=4) (B:=a) ⟨n.map Value.bool,by rw[aF,<-f];exact e,sm,λ_ _ _ d h=>by
  rw[aX,h]at d
  cases d
  rfl⟩
theorem CoL.clP{w:World}(d:CoL b a w c i)(e:a<=LIM):CL a w c i:=(OL.sl d om).map λ_ _ d=>d.cnR e
theorem CvL.cl{w:World}(d:CvL b a w c i)(e:a<=LIM):CL a w c i:=SL.map d λ_ _ d=>d.cnR e
theorem CL.leP{w:World}(d:CL a w c i)(e:a<=b):CL b w c i:=SL.map d λ_ _ d=>d.le e
def PX.bl(bs:List Bool):PE:=nL (λu w=>BL w u bs) λu a b he h=>h.ext he
def PX.tl(k:Nat)(l:List (Int×Rat)):PE:=nL (λu w=>TL k w u l) λu a b he h=>h.ext he
def PX.cl(k:Nat)(l:List CR):PE:=nL (λu w=>CL k w u l) λu a b he h=>h.ext he
theorem JD(V h q s:Nat)(t:CrT)(u:CrV)(d:PbR)(l m:ByteArray)(n:Option Addr)(o p:Nat)(i:Option Addr)(j k:Nat)(w:World)(M:CrP V h w t u)(N:PbV q w (.agg #[l,m,(n,o,p),(i,j,k)]) d)(O:VnL w (i,j,k) u.nm)(P:u.bs=tZ d)(Q:u.ob=tV d)(R:u.cs=rJ d)
  (b1:d.2.length<=1000) (b2:d.1.length<=1000) (X:1<=q) (Y:(d.2.length+1)*(q+1)<=h) (S:∀Z∈d.1,Z.2.length<=s) (a0:1<=s) (a1:(s+1)*(q+1)<=h) (J:h<=1000000):
  Calls prog 127 #[.agg #[l,m,(n,o,p),(i,j,k)],.agg (crC t)] w λe w'=>e= .returned true/\Ext w w':=by
 obtain⟨a2,T,F,z,A,_⟩:=lZ w #[l,m,(n,o,p),(i,j,k)] (crC t) 25 75;have H:=a8 (M.ext F);have K:=a8 (N.ext F);have a3:=a8 (O.ext F);have L:=a8 (aD P (aD Q R));have a4:=a8 S;have a5:d.2.length*(q+1)<=h:=aE (aJ _ (Nat.le_succ _)) Y;have I:h<=LIM:=aE J de;have HC:Hid (∀b,Ext a2 b->b.cell? w.heap.size=some (.string l)/\b.cell? (w,1)=some (.string m)/\b.cell? (w,2)=some (.slice n o p)/\b.cell? (w,3)=some (.slice i j k)/\
  b.cell? (w.heap.size+1,0)=some (.slice t.na t.nn t.nc)/\b.cell? (w.heap.size+1,1)=some (.slice t.wa t.wn t.wc)/\b.cell? (w.heap.size+1,2)=some (.slice t.oa t.on t.oc)/\b.cell? (w.heap.size+1,3)=some (.slice t.ca t.cn t.cc)):=a8 λb r=>⟨(z.ext r).cell 0,(z.ext r).cell 1,(z.ext r).cell 2,(z.ext r).cell 3,(A.ext r).cell 0,(A.ext r).cell 1,(A.ext r).cell 2,(A.ext r).cell 3⟩
 clear M N O P Q R z A S;go_enter func127,ntmps127;go_wp2_with fail;rw[<-T];clear T;apply JY [kN _,kN (i,j,k),kN _,kN (t.na,t.nn,t.nc),kN true,kN true,kN (.agg #[l,m,(n,o,p),(i,j,k)]),PX.bl (tZ d),kN _,kN (t.wa,t.wn,t.wc),kN true,kN true,kN true,
  kN (.agg #[l,m,(n,o,p),(i,j,k)]),PX.tl h (tV d),kN _,kN (t.oa,t.on,t.oc),kN true,kN true,kN true,kN (.agg #[l,m,(n,o,p),(i,j,k)]),PX.cl h (rJ d),kN _,kN (t.ca,t.cn,t.cc),kN true,kN true,kN true] ?st ?en hF kr rfl kr
 case st=>
  refine⟨oX,oX,oX,oX,?_,oX,oX,?_,oX,oX,?_,oX,oX,oX,?_,oX,oX,?_,oX,oX,oX,?_,oX,oX,?_,oX,oX,trivial⟩
  .intro v a b f c x y;have a6:a 1=(i,j,k):=c.1 rfl;have a7:a 3=(t.na,t.nn,t.nc):=c.2.1 rfl;refine oC (P:=prog) #[a 1,a 3,.func (.func 174) #[] #[]] func173 rfl rfl ?_;rw[a6,a7];refine(VD _ _ u.nm b (a3.out.ext f) (H.out.ext f).nm).mono ?_;exact DR3
  .intro v a b f c x y;refine oGd rfl (c.2.1 rfl) ?_;have B:a 6= .agg #[l,m,(n,o,p),(i,j,k)]:=c.1 rfl;refine oC (P:=prog) #[a 6] func38 rfl rfl ?_;rw[B];refine(CU q _ d b (K.out.ext f) om).mono ?_;rintro e w' ⟨U,rfl,C,h2⟩;exact⟨_,rfl,h2,CD C (by unfold tZ;rw[aF])⟩
  .intro v a b f c x y;refine oGd rfl (c.2.2.2.1 rfl) ?_;have D:BL b (a 7) (tZ d):=c.1 rfl;have E:a 9=(t.wa,t.wn,t.wc):=c.2.1 rfl;refine oC (P:=prog) #[a 7,a 9] func175 rfl rfl ?_;rw[E];refine(VA _ _ (tZ d) b D (by rw[<-L.out.1];exact(H.out.ext f).bs)).mono ?_;exact DR3
  .intro v a b f c x y;refine oGd rfl (c.2.1 rfl) ?_;have B:a 13= .agg #[l,m,(n,o,p),(i,j,k)]:=c.1 rfl;refine oC (P:=prog) #[a 13] func39 rfl rfl ?_;rw[B];refine(BM q _ d b (K.out.ext f) om om).mono ?_;rintro e w' ⟨U,rfl,C,h2⟩;exact⟨_,rfl,h2,(C.le a5).tl I⟩
  .intro v a b f c x y;refine oGd rfl (c.2.2.2.1 rfl) ?_;have D:TL h b (a 14) (tV d):=c.1 rfl;have E:a 16=(t.oa,t.on,t.oc):=c.2.1 rfl;refine oC (P:=prog) #[a 14,a 16] func176 rfl rfl ?_;rw[E];refine(CC _ _ h (tV d) b D (by rw[<-L.out.2.1];exact(H.out.ext f).ob.tl I) J).mono ?_;exact DR3
  .intro v a b f c x y;refine oGd rfl (c.2.1 rfl) ?_;have B:a 20= .agg #[l,m,(n,o,p),(i,j,k)]:=c.1 rfl;refine oC (P:=prog) #[a 20] func40 rfl rfl ?_;rw[B];have a9:s<=1000000:=by
    have:s+1<=(s+1)*(q+1):=eY _ om;omega
   refine(EM q h s _ d b (K.out.ext f) a4.out a0 a9 a1 om X om om).mono ?_;rintro e w' ⟨U,rfl,C,h2⟩;exact⟨_,rfl,h2,C.clP I⟩
  .intro v a b f c x y;refine oGd rfl (c.2.2.2.1 rfl) ?_;have D:CL h b (a 21) (rJ d):=c.1 rfl;have E:a 23=(t.ca,t.cn,t.cc):=c.2.1 rfl;refine oC (P:=prog) #[a 21,a 23,.func (.func 178) #[] #[]] func177 rfl rfl ?_;rw[E];refine(VB _ _ h (rJ d) b D (by rw[<-L.out.2.2];exact(H.out.ext f).cs.cl I) J).mono ?_;exact DR3
 case en=>
  intro a _ f c;have b0:a 26=true:=c.2.2.2.2.2.2.2.2.2.2.2.2.2.2.2.2.2.2.2.2.2.2.2.2.2.2.1 rfl;simp only[b0];clear c;go_wp2;go_ret;exact⟨rfl,F.trans f⟩
theorem SI(w:World):
  Calls prog 222 #[(),()] w λa b=>a= .returned ()/\Ext w b:=by
 have:∀(c:TypeId) (w:World),(Builtin.append_ #[55,55] c #[(),()]).run prog w= .ok () w:=λ_ _=>kr
 go_enter func222,ntmps222;go_wp2_with fail;refine(slices_Clone_int_nil 0 0 w).mono ?_;rintro a d ⟨rfl,rfl⟩;go_wp2_with fail;refine(slices_Sort_int_none none 0 d).mono ?_;rintro a e ⟨rfl,rfl⟩;go_wp2_with fail;refine(slices_Compact_int_empty none 0 e).mono ?_;rintro a _ ⟨rfl,rfl⟩;go_wp2;go_ret;exact⟨rfl,rE⟩
def ckC(t:CrT)(la:Option Addr)(ln lc:Nat):Array Value:=#[(t.na,t.nn,t.nc),(t.wa,t.wn,t.wc),(t.oa,t.on,t.oc),(t.ca,t.cn,t.cc),(2:Int),true,true,t.lo.b,(t.lo.a1,t.lo.n1,t.lo.c1),(t.lo.a2,t.lo.n2,t.lo.c2),t.hi.b,(t.hi.a1,t.hi.n1,t.hi.c1),(t.hi.a2,t.hi.n2,t.hi.c2),(t.sa,t.sn,t.sc),(t.da,t.dn,t.dc),(la,ln,lc)]
def LnR(k:Nat)(w:World)(v:Value)(c:CR):Prop:=∃a n p b a1 n1 c1 a2 n2 c2,v= .agg #[c.1,.slice a n p,.bool b,.slice a1 n1 c1,.slice a2 n2 c2,false,()]/\CnR k w (.agg #[c.1,.slice a n p,.bool b,.slice a1 n1 c1,.slice a2 n2 c2]) c
theorem LnR.ext{a:Nat}{w b:World}{c:Value}{d:CR}(e:LnR a w c d)(f:Ext w b):LnR a b c d:=by
 obtain⟨h,i,j,k,l,m,n,o,p,q,r,s⟩:=e;exact⟨h,i,j,k,l,m,n,o,p,q,r,s.ext f⟩
def LnL(k:Nat)(w:World)(v:Value)(cs:List CR):Prop:=SL 7 (LnR k) w v cs
theorem LnL.ext{b:Nat}{w c:World}{d:Value}{e:List CR}(a:LnL b w d e)(f:Ext w c):LnL b c d e:=SL.ext (λ_ _ a=>a.ext f) a f
def usL(cs:List CR)(us:List (Int×Rat)):List CR:=us.map λu=>cs.getD u.1.toNat (0,[],0)
theorem ac6(a:List CR)(b:List (Int×Rat))(c:Nat)(e:Rat)(d:CR)(f:a[c]? =some d):usL a (b++ [((c:Int),e)])=usL a b++ [d]:=by simp[usL,f]
def SmJ(k ky:Nat)(cs:List CR)(us:List (Int×Rat))(w1:World)(j:Nat)(l1 l2:Value)(wz:World):Prop:=
 Ext w1 wz/\OL 39 5 w1 (λ_=>CnR k w1) wz l1 (usL cs (us.take j))/\OL 37 3 w1 (λ_ u q=>IsR w1 u q ky) wz l2 ((us.take j).map (·.2))
def SmI(w1 w3:World)(gl gt:Nat)(l1 l2:Value)(lv tc:Array Value)(lc:List CR)(lq:List Rat)(k ky:Nat)(S:Nat->Bool)(wz:World):Prop:=
 Ext w1 wz/\Bx 183 wz gl lv/\Bx 67 wz gt tc/\w3.heap.size<=wz.heap.size/\(S 0=false->OL 39 5 w1 (λ_=>CnR k w1) wz l1 lc)/\(S 1=false->OL 37 3 w1 (λ_ u q=>IsR w1 u q ky) wz l2 lq)
def SmP(w:World)(K:Nat)(cs:List CR)(us:List (Int×Rat))(s:Int)(e:Ending)(w':World):Prop:=
 Ext w w'/\∃v,e= .returned (.tuple #[v,(),(rK (usL cs us) (us.map (·.2)) s:Int)])/\(rK (usL cs us) (us.map (·.2)) s=0->CnO w K w' v (oD (usL cs us) (us.map (·.2)) s))/\(rK (usL cs us) (us.map (·.2)) s≠0->v=sE)
theorem GG(bO d ky Z a5 bP R bR:Nat)(t:CrT)(c5:Option Addr)(a6 bB:Nat)(l:List CR)(U:Int)(a:Option Addr)(n cp:Nat)(b:Bool)(a1:Option Addr)(n1 c1:Nat)(a2:Option Addr)(n2 c2:Nat)(fD:Int)(bS:Option Addr)(a0 bT:Nat)(p o D H:Int)(e:List (Int×Rat))(w:World)
  (a7:Bx 181 w bO (ckC t c5 a6 bB)) (hl:LnL d w (c5,a6,bB) l) (V:TL ky w (bS,a0,bT) e) (has:∀u∈e,pM u.1 l.length=true) (m0:d<=LIM) (m1:l.length<=1000000) (m2:e.length<=1000000)
  (hN:∀j∈usL l e,j.2.1.length<=Z) (hO:e.length<=a5) (hP:a5*Z+Z<=1073741824) (hT:a5*Z*(ky+d+1)+1<=bP) (hR:a5*(ky+d+1)+1<=R) (hU:R<=34359738000) (hV:(a5*Z+Z+1)*(bP+ky+d+1)<=34359738000) (h1:1<=R) (hW:max bP R=bR):
  Calls prog 179 #[(bO,0),.agg #[U,(a,n,cp),b,(a1,n1,c1),(a2,n2,c2),fD,(bS,a0,bT),p,o,D,H]] w λc6 I=>SmP w bR l e U c6 I:=by
 obtain⟨_,_,_,fE,fG,_,g0⟩:=V.at;simp only[Value.slice.injEq]at fG;obtain⟨rfl,rfl,rfl⟩:=fG;obtain⟨w1,c7,bC,c8,hX,hY⟩:=lZ w #[U,(a,n,cp),b,(a1,n1,c1),(a2,n2,c2),fD,(bS,a0,bT),p,o,D,H] #[(0:Int),(),false,(),()] 110 39;have hZ:=a8 (hl.ext bC);have i0:=a8 g0;have g1:=a8 fE;have i1:=a8 has;have i2:Hid (∀wz,Ext w1 wz->wz.cell? (bO,15)=some (.slice c5 a6 bB)):=a8 λwz hz=>(a7.ext (bC.trans hz)).cell 15
 have i3:Hid (∀wz,Ext w1 wz->wz.cell? w.heap.size=some (.int .i64 U)):=a8 λwz hz=>(c8.ext hz).cell 0
 have d6:w1.cell? (w,6)=some (.slice bS a0 bT):=c8.cell 6;rw[c7]at d6;clear a7 hl V g0 fE has c8 hY;go_enter func179,ntmps179;go_wp2_with fail;rw[<-c7];have g2:Hid (SmJ d ky l e w1 0 () () w1):=a8 ⟨rE,OL.nil _ _ _ _ _,OL.nil _ _ _ _ _⟩;clear c7 d6;go_loopw [5,7,8,15] (λi4 i5 i6 i wr=>∃c:Nat,i4= .slice none 0 0/\i= .int .i64 (c:Int)/\c<=a0/\Hid (SmJ d ky l e w1 c i5 i6 wr)) (λ_ _ _ i _=>((a0:Int) - intOf i).toNat)
 case atStart=>exact ⟨0,rfl,rfl,zl,g2⟩
 case round=>
  obtain⟨c,rfl,rfl,m,c0⟩:=hrel;rcases aI m with c9 |c9
  .subst c9;have i7:¬((c:Int)<c):=om;obtain⟨F,a9,b0⟩:=c0.out;have g3:e.take c=e:=by rw[g1.out];exact bN
   rw[g3]at a9 b0;have g4:Hid (CL d wr u7 (usL l e)):=a8 ((OL.sl a9 om).map λu j0 h=>h.ext F);have g5:Hid (QL ky wr u8 (e.map (·.2))):=a8 ((OL.sl b0 om).map λu j0 h=>h.ext F);have e0:=a8 F;have j1:=i3.out wr F;clear F a9 b0 c0 g2 g3;go_wp2_with fail;refine(AV d ky Z a5 bP R u7 u8 _ _ U wr g4.out g5.out hN (by unfold usL;rw[aF];exact hO) hP hT hR hU hV h1).mono ?_;rintro c6 g6 ⟨e1,rfl,a3,hz,hnz⟩;obtain⟨cd,e2⟩:=ex (rK (usL l e) (e.map (·.2)) U);rw[<-e2]at hz hnz ⊢;have e3:=a8 e2;have e4:=bC.trans e0.out;have j2:∃b1 p o D H b2 b3 b4 b5 b6 b7,e1= .agg #[.int .i64 b1,.slice p o D,.bool H,.slice b2 b3 b4,.slice b5 b6 b7]:=BP1;obtain⟨b1,p,o,D,H,b2,b3,b4,b5,b6,b7,rfl⟩:=j2;have e5:=hX.ext (e0.out.trans a3);obtain⟨b8,g7,g9,e6⟩:=DW e5 (.int .i64 b1) (.slice p o D) (.bool H) (.slice b2 b3 b4) (.slice b5 b6 b7);have j3:=e4.size;have j4:Hid (cd=0->CnO w bR b8 (.agg #[.int .i64 b1,.slice p o D,.bool H,.slice b2 b3 b4,.slice b5 b6 b7]) (oD (usL l e) (e.map (·.2)) U)):=a8 λh0=>by
    rw[<-hW];exact((hz h0).chgB g9 e5).mono j3
   have j5:=a8 hnz;have gA:Ext w b8:=(e4.trans a3).step g9 om;obtain⟨b9,j6,gG,jA⟩:=DW e6 b1 (p,o,D) H (b2,b3,b4) (b5,b6,b7);have jB:Hid (cd=0->CnO w bR b9 (.agg #[b1,(p,o,D),H,(b2,b3,b4),(b5,b6,b7)]) (oD (usL l e) (e.map (·.2)) U)):=a8 λh0=>(j4.out h0).chgB gG e6
   have jC:=a8 (gA.step gG om);have jD:=e5.q5;have:=e6.q5;clear hz hnz gA e4 a3 e2 g4 g5 j1;go_upto_region 11 with(fail);rw[<-g7];clear g7 jD;go_wp2;rw[<-j6];refine IF 4 5 6 39 (w.heap.size+1) 39 _ _ _ _ kr rfl rfl rfl jA underlying39 rfl kr rfl ?_;exact⟨jC.out,_,by rw[<-e3.out]<;>rfl,λh=>jB.out (by rw[e3.out];exact h),λh=>j5.out (by rw[e3.out];exact h)⟩
  .have i7:(c:Int)<a0:=om;obtain⟨⟨gL,q⟩,a4⟩:∃gL,e[c]? =some gL:=⟨_,aA (by rw[<-g1.out];exact c9)⟩;obtain⟨_,_,rfl,J,K,L,M,N,O,P,e7⟩:=i0.out c _ a4;obtain⟨i,rfl,jE⟩:=zW (i1.out _ (aM a4));obtain⟨j,e8⟩:∃j,l[i]? =some j:=⟨_,aA jE⟩;obtain⟨_,_,_,jG,gT, -,h3⟩:=hZ.out.opn;simp only[Value.slice.injEq]at gT;obtain⟨h4,k0,k1⟩:=gT;obtain⟨Q,T,k2,_,k3,X,r,s,pl,v,x,y,z,A,B,C,k4,h5⟩:=h3 i j e8
   cases k4
   rw[k2]at h4;subst h4;have:(i:Int)<a6:=om;obtain⟨F,a9,b0⟩:=c0.out;obtain⟨k5,k6,k7,k8, -⟩:=e7 wr (bC.trans F);have k9:=a8 (e7 w1 bC).2.2.2.2;have h6:=a8 (aD a4 (mP a4));have e0:=a8 F;have h7:=a8 (aD e8 h5);have h8:=a8 (aD a9 b0);obtain⟨g6,h9,a3,e9,kA⟩:=kR wr #[i,J,(K,L,M),(N,O,P)] 67;have hA:=F.trans a3;have HC:Hid (∀wz,Ext g6 wz->wz.cell? (bO,15)=some (.slice (Q,T) a6 bB)/\wz.cell? wr.heap.size=some (.int .i64 (i:Int))/\wz.cell? (Q,T+i*7)=some (.int .i64 j.1)/\wz.cell? (Q,T+i*7+1)=some (.slice r s pl)/\wz.cell? (Q,T+i*7+2)=some (.bool v)/\wz.cell? (Q,T+i*7+3)=some (.slice x y z)/\wz.cell? (Q,T+i*7+4)=some (.slice A B C)/\wz.cell? (Q,T+i*7+5)=some (.bool false)/\wz.cell? (Q,T+i*7+6)=some (.slice none 0 0)):=a8 λwz hz=>
    have Y:=hA.trans hz;⟨i2.out _ Y,(e9.ext hz).cell 0,X _ Y 0 _ rfl,X _ Y 1 _ rfl,X _ Y 2 _ rfl,X _ Y 3 _ rfl,X _ Y 4 _ rfl,X _ Y 5 _ rfl,X _ Y 6 _ rfl⟩
   have kB:=a8 e9;clear e7 a4 F a9 b0 c0 e8 h5 h3 X jG k0 k1 k3 e9;go_upto_region 6 with(fail);rw[<-h9];clear h9 kA k5 k6 k7 k8;apply wpXA 8 9 183 #[(0:Int),(),false,(),(),false,()] (λl _=>l=#[.int .i64 j.1,.slice r s pl,.bool v,.slice x y z,.slice A B C,.bool false,.slice none 0 0])
    [kN _,kN _,kN _,kN (Q,T,a6,bB),kN _,kN i,kN _,kN (.agg #[j.1,(r,s,pl),v,(x,y,z),(A,B,C),false,()]),kV,kV] (λ_ _ _ _ h=>h) ?st ?en hF kr rfl kr ?hc
   case hc=>intro d a;repeat (first |rfl | (rcases d with _ |d; · rfl))
   case st=>exact ⟨oX,oX,oX,oX,oX,oX,oX,oX,oA,oB,trivial⟩
   case en=>
    intro f b8 hI kC hp;obtain⟨bD,_,hB,_,hC,rfl⟩:=kC;simp only[hB];clear hp hB;have kD:=hA.trans hI;have hD:=kB.out.ext hI;have eA:SmI w1 b8 bD wr u7 u8 #[j.1,(r,s,pl),v,(x,y,z),(A,B,C),false,()] #[i,J,(K,L,M),(N,O,P)] (usL l (e.take c)) ((e.take c).map (·.2)) d ky (λ_=>false) b8:=
     ⟨kD,hC,hD,lr,λ_=>nZ h8.out.1 (a3.trans hI),λ_=>nZ h8.out.2 (a3.trans hI)⟩
    obtain⟨bA,c3⟩:=ex (usL l (e.take c));obtain⟨lq,c4⟩:=ex ((e.take c).map (·.2));rw[<-c3,<-c4]at eA;have hE:Hid (bA.length<=1000000/\lq.length<=1000000):=a8 (by
     rw[c3,c4];unfold usL;rw[aF,aF,aP];omega)
    have hG:=a8 (aD c3 c4);have kE:Hid (CnR d w1 (.agg #[j.1,(r,s,pl),v,(x,y,z),(A,B,C)]) j):=a8 h7.out.2;clear c3 c4 hI hC hD;go_upto_region 7 with(fail);apply mQ [4,9] (λi a b=>if i=0 then Grw w1 39 5 u7 a b else Grw w1 37 3 u8 a b) (SmI w1 b8 bD wr u7 u8 #[j.1,(r,s,pl),v,(x,y,z),(A,B,C),false,()] #[.int .i64 (i:Int),J,(K,L,M),(N,O,P)] bA lq d ky)
     [kN u7,kN _,kN (.agg #[j.1,(r,s,pl),v,(x,y,z),(A,B,C)]),
      ⟨λu b=>∃gx,u= .slice (some ⟨gx,0,none⟩) 1 1/\Bx 39 b gx #[j.1,(r,s,pl),v,(x,y,z),(A,B,C)],λi=>decide (i=0),?m3,?s3⟩,
      ⟨λu b=>OL 39 5 w1 (λ_=>CnR d w1) b u (bA++ [j]),λi=>decide (i=0),λu a b k h=>nZ h k,?s4⟩,kN u8,kN _,kN (.agg #[J,(K,L,M),(N,O,P)]),
      ⟨λu kG=>∃gx,u= .slice (some ⟨gx,0,none⟩) 1 1/\Bx 37 kG gx #[J,(K,L,M),(N,O,P)],λi=>decide (i≠0),?m8,?s8⟩,
      ⟨λu b=>OL 37 3 w1 (λ_ u q=>IsR w1 u q ky) b u (lq++ [q]),λi=>decide (i≠0),λu a b k h=>nZ h k,?s9⟩,
      ⟨λu b=>OL 39 5 w1 (λ_=>CnR d w1) b u (bA++ [j]),λi=>decide (i=0),λu a b k h=>nZ h k,?s10⟩,
      ⟨λu b=>OL 37 3 w1 (λ_ u q=>IsR w1 u q ky) b u (lq++ [q]),λi=>decide (i≠0),λu a b k h=>nZ h k,?s11⟩]
     [[],[],[],[],[0],[],[],[],[],[1],[0],[1]] [[],[],[],[0],[],[],[],[],[1],[],[],[]] [(10,3),(11,3),(11,8)] [(4,1,false),(9,0,true)] [(0,10,7),(5,11,8)] ?ie eA ?st ?en ?hcs sm kr kr hF
    case m3=>exactλu a b k ⟨gx,h1,h2⟩=>⟨gx,h1,h2.ext k⟩
    case m8=>exactλu a b k ⟨gx,h1,h2⟩=>⟨gx,h1,h2.ext k⟩
    case s3=>
     intro i hi u a b hR hp;have h0:i≠0:=of_decide_eq_false hi;simp only[h0,if_false]at hR;obtain⟨gx,h1,h2⟩:=hp;exact⟨gx,h1,hR.bx h2 de⟩
    case s8=>
     exact IE0
    case s4 |s10=>
     exact mf7
    case s9 |s11=>
     exact gj2
    case ie=>exactλS a b k ⟨h1,h2,l0,l1,l2,l3⟩=>⟨h1.trans k,h2.ext k,l0.ext k,aE l1 k.size,λh=>nZ (l2 h) k,λh=>nZ (l3 h) k⟩
    case hcs=>
     intro d a hH h1 h2;have hH:a<2:=hH;have a4:a=0∨a=1:=om;rcases d with _ |_ |_ |_ |_ |_ |_ |_ |_ |_ |_ |_ |d<;>rcases a4 with rfl |rfl<;>first |rfl | (simp at h1;done) | (simp at h2;done)
    case st=>
     refine⟨?_,oX,?_,?_,?_,?_,oX,?_,?_,?_,?_,?_,trivial⟩
     .exact Ui1
     .intro S f wz hI hp hl hS;have l4:f 1= .pointer bD:=hp.1 rfl;exact kW (P:=prog) _ _ bD 0 #[j.1,(r,s,pl),v,(x,y,z),(A,B,C)] _ rfl rfl l4 (λc l5 m=>(hI.2.1.cell (0+c)).trans (by
       rcases c with _ |_ |_ |_ |_ |c
       .exact m
       .exact m
       .exact m
       .exact m
       .exact m
       .simp at m)) underlying39 rfl kr rfl
     .intro S f wz hI hp hl hS;have l6:f 2= .agg #[j.1,(r,s,pl),v,(x,y,z),(A,B,C)]:=hp.1 rfl;exact lH (P:=prog) 71 39 1 5 _ [.agg #[j.1,(r,s,pl),v,(x,y,z),(A,B,C)]] rfl rfl underlying71 kr kr (by simp only[Act.eval];exact congrArg (λeB=> [(0,eB)]) l6) rfl om om om (by simp[Value.cells]) (λI k a7=>⟨_,rfl,by simpa[Value.cells]using a7⟩)
     .intro S f wz hI hp hl eC hS;have l7:f 0=u7:=hp.1 rfl;obtain⟨gx,eD,eE⟩:=hp.2.1 rfl;have eG:=hI.2.2.2.2.1 eC;obtain⟨bE,bG,eN,fA⟩:=eG;have m3:=bG.2;have fB:=hI.1.size;have l9:=hE.out.1;refine oI (P:=prog) _ _ 71 rfl rfl w1 39 5 88 underlying71 kr kr om u7 bE.length (kX bE) l7 m3 ⟨gx,0,none⟩ 1 1 [j.1,(r,s,pl),v,(x,y,z),(A,B,C)] eD rfl (λc u m=>by rw[nO,aY,eE.cell];simpa using m) (by intro u V;simp at V;rcases V with rfl |rfl |rfl |rfl |rfl<;>rfl) om (by unfold maxLen;omega) om fB (λe1 I p o D=> ?_)
      have E:Grw w1 39 5 u7 wz I:=⟨o,_,_,m3⟩;exact⟨E,⟨E.ext hI.1 lr,E.bx hI.2.1 de,E.bx hI.2.2.1 de,aE hI.2.2.2.1 (World.grownBy.size o),λh=>(by simp[onS]at h),λh=>E.ol (R:=λu q=>IsR w1 u q ky) (hI.2.2.2.2.2 (by simpa[onS]using h)) de⟩,OL.fin (R:=λ_=>CnR d w1) (w':=I) bG.1 eN fA kE.out p rfl (by simp[Value.oneCell'])⟩
     .intro S f wz hI hp hl hS;have:f 11=u8:=hl.2.1 rfl;exact DG6
     .intro S f wz hI hp hl hS;have lA:f 6= .pointer (wr,1):=hp.1 rfl;exact kW (P:=prog) _ _ wr 1 #[J,(K,L,M),(N,O,P)] _ rfl rfl lA (λc l5 m=>hI.2.2.1.cell (1+c) |>.trans (by
       rcases c with _ |_ |_ |c
       .exact m
       .exact m
       .exact m
       .simp at m)) underlying37 rfl kr rfl
     .intro S f wz hI hp hl hS;have lB:f 7= .agg #[J,(K,L,M),(N,O,P)]:=hp.1 rfl;exact lH (P:=prog) 41 37 1 3 _ [.agg #[J,(K,L,M),(N,O,P)]] rfl rfl underlying41 kr kr (by simp only[Act.eval];exact congrArg (λeB=> [(0,eB)]) lB) rfl om om om (by simp[Value.cells]) (λI k a7=>⟨_,rfl,by simpa[Value.cells]using a7⟩)
     .intro S f wz hI hp hl eC hS;have lC:f 5=u8:=hp.1 rfl;obtain⟨gx,eD,eE⟩:=hp.2.1 rfl;have eG:=hI.2.2.2.2.2 eC;obtain⟨bE,bG,eN,fA⟩:=eG;have m3:=bG.2;have fB:=hI.1.size;have l9:=hE.out.2;refine oI (P:=prog) _ _ 41 rfl rfl w1 37 3 56 underlying41 kr kr om u8 bE.length (kX bE) lC m3 ⟨gx,0,none⟩ 1 1 [J,(K,L,M),(N,O,P)] eD rfl (λc u m=>by rw[nO,aY,eE.cell];simpa using m) (by intro u V;simp at V;rcases V with rfl |rfl |rfl<;>rfl) om (by unfold maxLen;omega) om fB (λe1 I p o D=> ?_)
      have E:Grw w1 37 3 u8 wz I:=⟨o,_,_,m3⟩;exact⟨E,⟨E.ext hI.1 lr,E.bx hI.2.1 de,E.bx hI.2.2.1 de,aE hI.2.2.2.1 (World.grownBy.size o),λh=>E.ol (R:=CnR d w1) (hI.2.2.2.2.1 (by simpa[onS]using h)) de,λh=>(by simp[onS]at h)⟩,OL.fin (R:=λ_ u q=>IsR w1 u q ky) (w':=I) bG.1 eN fA k9.out p rfl (by simp[Value.oneCell'])⟩
     .intro S f wz hI hp hl hS;have lD:OL 39 5 w1 (λ_=>CnR d w1) wz (f 4) (bA++ [j]):=hp.1 rfl;clear hp;simp only[kM];go_simp;exact⟨_,rfl,rE,lD⟩
     .intro S f wz hI hp hl hS;have lE:OL 37 3 w1 (λ_ u q=>IsR w1 u q ky) wz (f 9) (lq++ [q]):=hp.1 rfl;clear hp;simp only[kM];go_simp;exact⟨_,rfl,rE,lE⟩
    case en=>
     intro hJ b9 hI hp;have hK:OL 39 5 w1 (λ_=>CnR d w1) b9 (hJ 10) (bA++ [j]):=hp.2.2.2.2.2.2.2.2.2.2.1 rfl;have hL:OL 37 3 w1 (λ_ u q=>IsR w1 u q ky) b9 (hJ 11) (lq++ [q]):=hp.2.2.2.2.2.2.2.2.2.2.2.1 rfl;have lG:=a8 hI.1;have:b9.cell? (bD,6)=some (.slice none 0 0):=hI.2.1.cell 6;have hM:=a8 (aD hK hL);clear hI hp hK hL eA;go_wp2_with fail;refine(SI b9).mono ?_;rintro c6 _ ⟨rfl,fC⟩;go_wp2;go_roundw
     case rel=>
      refine⟨c+1,rfl,ci om,om,a8 ⟨lG.out.trans fC,?_,?_⟩⟩
      .rw[h6.out.2,ac6 l _ i q j h7.out.1,<-hG.out.1];exact nZ hM.out.1 fC
      .rw[h6.out.2,bY,<-hG.out.2];exact nZ hM.out.2 fC
     case measure=>simp [intOf];omega
def mulR(rs:Int)(bs:List Bool)(c:CR):CR:=if rs=3 then n7 c else c
theorem N0(c3 a6 q k a7 R a9 c4 b5 r m b0:Nat)(t:CrT)(y:Option Addr)(z A:Nat)(S:List CR)(c5:List Bool)(d:Value)(j:DR)(e:CR)(hI:Int)(w:World)
  (B:Bx 181 w q (ckC t y z A)) (s:LnL k w (y,z,A) S) (e3:BL w (t.wa,t.wn,t.wc) c5) (hJ:vT c3 a6 w d j) (has:∀u∈j.us,pM u.1 S.length=true) (g6:k<=LIM) (g7:S.length<=1000000) (g9:j.us.length<=1000000) (gA:a6<=a7) (gG:a7<=LIM)
  (gL:∀hK∈usL S j.us,hK.2.1.length<=R) (gT:j.us.length<=a9) (h0:a9*R+R<=1073741824) (h1:a9*R*(a7+k+1)+1<=c4) (T:a9*(a7+k+1)+1<=b5) (h2:b5<=34359738000) (h3:(a9*R+R+1)*(c4+a7+k+1)<=34359738000) (U:1<=b5) (h4:max c4 b5=r) (h5:r<=LIM)
  (e4:e=oD (usL S j.us) (j.us.map (·.2)) j.c.1) (e5:rK (usL S j.us) (j.us.map (·.2)) j.c.1=0) (hL:j.rs=2∨(j.rs=3/\rR e c5=0)) (e6:vX (mulR j.rs c5 e) j.c=true)
  (hM:e.2.1.length<=1073741824) (hN:(e.2.1.length+1)*(r+1)<=17179869180) (hO:e.2.1.length*(r+1)<=m) (hP:r<=m) (h6:m<=17179869180)
  (hR:e.2.1.length<=b0) (hS:(n7 e).2.1.length<=b0) (h7:j.c.2.1.length<=b0) (h8:2*b0<=1073741824) (h9:(2*b0+1)*(2*(m+1)+2)<=34359738000) (k1:a6<=r):
  Calls prog 128 #[(q,0),d,hI] w λb6 eC=>b6= .returned (.tuple #[(),true])/\Ext w eC:=by
 obtain⟨f,_,hA,V,X,Y,Z⟩:=j;obtain⟨a,n,cp,b,a1,n1,c1,a2,n2,c2,a0,a3,a4,rfl,e7,e8⟩:=hJ;simp only at*;rcases hL with rfl |⟨rfl,hB⟩
 .obtain⟨p,b1,O,P,c6,eD⟩:=lZ w #[f.1,(a,n,cp),b,(a1,n1,c1),(a2,n2,c2),(2:Int),(a0,a3,a4),V,X,Y,Z] #[(0:Int),(),false,(),()] 110 39;have eE:Hid (∀c,Ext p c->Bx 181 c q (ckC t y z A)):=a8 λc hz=>B.ext (O.trans hz)
  have eG:Hid (∀c,Ext w c->Bx 181 c q (ckC t y z A)):=a8 λc hz=>B.ext hz
  have eN:=a8 (s.ext O);have hC:=a8 e3;have fA:=a8 ((e8.ext O).le gA |>.tl gG);have fB:=a8 has;have c7:Hid (CnO c3 a6 w (.agg #[f.1,(a,n,cp),b,(a1,n1,c1),(a2,n2,c2)]) f/\Bx 110 p w #[f.1,(a,n,cp),b,(a1,n1,c1),(a2,n2,c2),(2:Int),(a0,a3,a4),V,X,Y,Z]):=a8 ⟨e7,P⟩;have fC:=a8 e6;have hT:w.heap.size+1<p.heap.size:=om;have hU:q<w.heap.size:=B.lt;have d0:p.cell? w.heap.size=some (.int .i64 f.1):=P.cell 0;obtain⟨d1,d2,d3,d4,d5,d6,d7,d8,d9,d10,-⟩:=P.cl [1,2,3,4,5,6,7,8,9,10];rw[b1]at d0 d1 d2 d3 d4 d5 d6 d7 d8 d9 d10;clear B s e3 has e7 e8 P e6 eD;go_enter func128,ntmps128;go_wp2_with fail;rw[<-b1];clear d0 d1 d2 d3 d4 d5 d6 d7 d8 d9 d10 b1;refine(GG q k a7 R a9 c4 b5 r t y z A S f.1 a n cp b a1 n1 c1 a2 n2 c2 _ a0 a3 a4 V X Y Z hA p (eE.out _ rE) eN.out fA.out fB.out g6 g7 g9 gL gT h0 h1 T h2 h3 U h4).mono ?_;rintro b6 fD ⟨v,d,rfl,hz, -⟩;rw[e5,<-e4]at hz;rw[e5];clear e4;obtain⟨C,D,E,F,H,I,J,K,L,M,N,fE,c8⟩:∃C D E F H I J K L M N,d= .agg #[.int .i64 C,.slice D E F,.bool H,.slice I J K,.slice L M N]/\CnO p r fD d e:=mD0;subst fE;have c9:=c6.ext v;have fG:=c9.q5;obtain⟨i,e0,x,e1⟩:=DW c9 (.int .i64 C) (.slice D E F) (.bool H) (.slice I J K) (.slice L M N);have hV:=v.size;have g0:=a8 (c8.chg x om);have b2:=a8 ((O.trans v).step x om);have hW:p.heap.size<=i.heap.size:=aE v.size x.size;have e2:Hid (CnO c3 a6 i (.agg #[f.1,(a,n,cp),b,(a1,n1,c1),(a2,n2,c2)]) f/\Bx 110 i w #[f.1,(a,n,cp),b,(a1,n1,c1),(a2,n2,c2),(2:Int),(a0,a3,a4),V,X,Y,Z]):=a8 ⟨c7.out.1.ext b2.out,(c7.out.2.ext v).chg x om⟩;have hD:Hid (∀c,Ext w c->Bx 181 c q (ckC t y z A)):=eG;have hX:=x.size;clear hz c8 c6;go_upto_region 15 with(fail);rw[<-e0];clear e0 fG;have:=e1.q5;have g1:=e2.out.2;have hY:i.cell? w.heap.size=some (.int .i64 f.1):=g1.cell 0;obtain⟨hZ,i0,i1,i2,-⟩:=g1.cl [1,2,3,4];clear g1;go_wp2_with fail;refine(qQ (m+1) b0 _ _ e f i ((g0.out.cnR h5).le om) ((e2.out.1.cnR om).le om) hR h7 h8 h9).mono ?_;rw[show vX e f=true from fC.out];rintro b6 g2 ⟨rfl,i3⟩;go_wp2;go_ret2;exact⟨rfl,b2.out.trans i3⟩
 .obtain⟨p,b1,O,P,c6,eD⟩:=lZ w #[f.1,(a,n,cp),b,(a1,n1,c1),(a2,n2,c2),(3:Int),(a0,a3,a4),V,X,Y,Z] #[(0:Int),(),false,(),()] 110 39;have eE:Hid (∀c,Ext p c->Bx 181 c q (ckC t y z A)):=a8 λc hz=>B.ext (O.trans hz)
  have eG:Hid (∀c,Ext w c->Bx 181 c q (ckC t y z A)):=a8 λc hz=>B.ext hz
  have eN:=a8 (s.ext O);have hC:=a8 e3;have fA:=a8 ((e8.ext O).le gA |>.tl gG);have fB:=a8 has;have c7:Hid (CnO c3 a6 w (.agg #[f.1,(a,n,cp),b,(a1,n1,c1),(a2,n2,c2)]) f/\Bx 110 p w #[f.1,(a,n,cp),b,(a1,n1,c1),(a2,n2,c2),(3:Int),(a0,a3,a4),V,X,Y,Z]):=a8 ⟨e7,P⟩;have fC:=a8 e6;have i4:=a8 hB;clear hB;have hT:w.heap.size+1<p.heap.size:=om;have hU:q<w.heap.size:=B.lt;have d0:p.cell? w.heap.size=some (.int .i64 f.1):=P.cell 0;obtain⟨d1,d2,d3,d4,d5,d6,d7,d8,d9,d10,-⟩:=P.cl [1,2,3,4,5,6,7,8,9,10];rw[b1]at d0 d1 d2 d3 d4 d5 d6 d7 d8 d9 d10;clear B s e3 has e7 e8 P e6 eD;go_enter func128,ntmps128;go_wp2_with fail;rw[<-b1];clear d0 d1 d2 d3 d4 d5 d6 d7 d8 d9 d10 b1;refine(GG q k a7 R a9 c4 b5 r t y z A S f.1 a n cp b a1 n1 c1 a2 n2 c2 _ a0 a3 a4 V X Y Z hA p (eE.out _ rE) eN.out fA.out fB.out g6 g7 g9 gL gT h0 h1 T h2 h3 U h4).mono ?_;rintro b6 fD ⟨v,d,rfl,hz, -⟩;rw[e5,<-e4]at hz;rw[e5];clear e4;obtain⟨C,D,E,F,H,I,J,K,L,M,N,fE,c8⟩:∃C D E F H I J K L M N,d= .agg #[.int .i64 C,.slice D E F,.bool H,.slice I J K,.slice L M N]/\CnO p r fD d e:=mD0;subst fE;have c9:=c6.ext v;have fG:=c9.q5;obtain⟨i,e0,x,e1⟩:=DW c9 (.int .i64 C) (.slice D E F) (.bool H) (.slice I J K) (.slice L M N);have hV:=v.size;have g0:=a8 (c8.chg x om);have b2:=a8 ((O.trans v).step x om);have hW:p.heap.size<=i.heap.size:=aE v.size x.size;have e2:Hid (CnO c3 a6 i (.agg #[f.1,(a,n,cp),b,(a1,n1,c1),(a2,n2,c2)]) f/\Bx 110 i w #[f.1,(a,n,cp),b,(a1,n1,c1),(a2,n2,c2),(3:Int),(a0,a3,a4),V,X,Y,Z]):=a8 ⟨c7.out.1.ext b2.out,(c7.out.2.ext v).chg x om⟩;have hD:Hid (∀c,Ext w c->Bx 181 c q (ckC t y z A)):=eG;have hX:=x.size;clear hz c8 c6;have i5:Hid (∀c,Chg (w.heap.size+1) i c->c.cell? (q,1)=some (.slice t.wa t.wn t.wc)):=a8 λc hz=>((hD.out _ b2.out).chg hz om).cell 1
  have i6:Hid (∀c,Chg (w.heap.size+1) i c->BL c (t.wa,t.wn,t.wc) c5):=a8 λc hz=>hC.out.ext (b2.out.step hz om)
  have HC:=i5;have g3:=a8 e1;have g4:w.heap.size+1<i.heap.size:=by have:=e1.lt;omega
  clear e1;go_upto_region 12 with(fail);rw[<-e0];clear e0 fG;apply mQ [10] (λ_ b7 b8=>Chg (w.heap.size+1) b7 b8) (RnI (w.heap.size+1) #[C,(D,E,F),H,(I,J,K),(L,M,N)] i (m+1) 0 (n7 e) i)
   [kN (.agg #[C,(D,E,F),H,(I,J,K),(L,M,N)]),kN _,kN _,kN _,kN _,kN (t.wa,t.wn,t.wc),
    ⟨λu c=>∃d,u= .tuple #[d,(0:Int)]/\RvP i (m+1) 0 (n7 e) c d,λ_=>false,?m6,?s6⟩,⟨λu c=>∃d,u= .tuple #[d,(0:Int)]/\RvP i (m+1) 0 (n7 e) c d,λ_=>false,?m7,?s7⟩,
    ⟨λu c=>RvP i (m+1) 0 (n7 e) c u,λ_=>false,λu b7 b8 a5 h=>h.ext a5,λi7 _ u b7 b8 T h=>h.chg T g4⟩,kN (0:Int),kV,kN (0:Int)] [] [] [] [(0,0,false),(6,0,false)] [] ?ie ⟨Chg.refl _ _,λ_=>rE,λh=>(by cases h)⟩ ?st ?en ?hcs sm kr kr hF
  case m6 |m7=>exactλu b7 b8 a5 ⟨d,U,b3⟩=>⟨d,U,b3.ext a5⟩
  case s6 |s7=>exactλi7 _ u b7 b8 T ⟨d,U,b3⟩=>⟨d,U,b3.chg T g4⟩
  case ie=>exactλb4 b7 b8 a5 ⟨U,b3,e9⟩=>⟨U.trans (a5.chg _),λh=>(b3 h).trans a5,λh=>(let ⟨j0,j1,j2⟩:=e9 h;⟨j0,j1.ext a5,j2.ext a5⟩)⟩
  case hcs=>
   exact Bl5
  case st=>
   refine⟨?_,oX,oX,oX,oX,oX,?_,?_,?_,?_,?_,?_,trivial⟩
   .intro b4 l c o hp s Q;exact kZ _ _ (w.heap.size+1) _ _ _ rfl rfl rfl (g3.out.ext (o.2.1 (Q.1 rfl))) underlying39 rfl kr rfl
   .intro b4 l c o hp s Q;have j3:l 0= .agg #[C,(D,E,F),H,(I,J,K),(L,M,N)]:=hp.1 rfl;have j4:l 5=(t.wa,t.wn,t.wc):=hp.2.1 rfl;refine oC (P:=prog) #[l 0,l 5] func52 rfl rfl ?_;rw[j3,j4];refine(CI r m _ _ e c5 c ((g0.out.ext (o.2.1 (Q.2.1 rfl))).cnR h5) (i6.out c o.1) hM hN hO hP h6).mono ?_;rintro b6 eC T;obtain⟨d,rfl,b3,e9⟩:=RvP.of T;have j5:=(o.2.1 (Q.2.1 rfl)).size;rw[i4.out]at e9 ⊢;obtain⟨b9,bA,bB,bC,bD,bE,bG,bO,bP,bR,bS,bT,c0⟩:=e9;exact⟨_,rfl,b3,d,rfl,b9,bA,bB,bC,bD,bE,bG,bO,bP,bR,bS,bT,λh=>(c0 h).mono j5⟩
   .intro b4 l c o hp s Q;have j6:∃d,l 6= .tuple #[d,(0:Int)]/\RvP i (m+1) 0 (n7 e) c d:=hp.1 rfl;clear hp;simp only[kM];go_simp;exact⟨_,rfl,rE,j6⟩
   .intro b4 l c o hp s Q;obtain⟨d,jA,eA⟩:∃d,l 7= .tuple #[d,(0:Int)]/\RvP i (m+1) 0 (n7 e) c d:=hp.1 rfl;clear hp;simp only[kM];go_simp;exact⟨_,rfl,rE,eA⟩
   .intro b4 l c o hp s Q;obtain⟨d,jA,eA⟩:∃d,l 7= .tuple #[d,(0:Int)]/\RvP i (m+1) 0 (n7 e) c d:=hp.1 rfl;exact rm4
   .intro b4 l c o hp s jB Q;have eA:RvP i (m+1) 0 (n7 e) c (l 8):=hp.1 rfl;obtain⟨b9,bA,bB,bC,bD,bE,bG,bO,bP,bR,bS,bT,c0⟩:=eA;have jC:RvP i (m+1) 0 (n7 e) c (.agg #[b9,(bA,bB,bC),bD,(bE,bG,bO),(bP,bR,bS)]):=⟨b9,bA,bB,bC,bD,bE,bG,bO,bP,bR,bS,rfl,by rw[<-bT];exact c0⟩;exact AM (P:=prog) _ _ _ (w.heap.size+1) 39 _ #[b9,(bA,bB,bC),bD,(bE,bG,bO),(bP,bR,bS)] rfl rfl rfl bT (g3.out.ext (o.2.1 jB)) kr rfl (by simp[Value.oneCell']) λeC hE B=>⟨⟨o.1.trans hE,λh=>(by simp[onS]at h),λ_=>⟨_,B,jC.chg hE g4⟩⟩,trivial⟩
   .intro b4 l c o hp s Q;have:l 9=(0:Int):=hp.1 rfl;exact rm4
  case en=>
   intro l g2 o hp;have hG:l 11=(0:Int):=hp.2.2.2.2.2.2.2.2.2.2.2.1 rfl;obtain⟨_,hH,b9,bA,bB,bC,bD,bE,bG,bO,bP,bR,bS,bT,c0⟩:=o.2.2 rfl
   cases bT
   have eB:=o.1;have jD:=a8 (c0 rfl);have jE:=a8 (e2.out.1.chgB eB g3.out);have g5:=e2.out.2.chg eB om;have jG:=a8 (b2.out.step eB om);have:=hH.q5;have hY:g2.cell? w.heap.size=some (.int .i64 f.1):=g5.cell 0;obtain⟨hZ,i0,i1,i2,-⟩:=g5.cl [1,2,3,4];simp only[hG];clear hp o hG eB c0 g5 hH;go_wp2_with fail;refine(qQ (m+1) b0 _ _ (n7 e) f g2 (jD.out.cnR (aE (Nat.succ_le_succ h6) de)) ((jE.out.cnR om).le om) hS h7 h8 h9).mono ?_;rw[show vX (n7 e) f=true from fC.out];rintro b6 _ ⟨rfl,k0⟩;go_wp2;go_ret2;exact⟨rfl,jG.out.trans k0⟩
theorem EV(d b:Nat)(t:CrT)(p:Option Addr)(q r:Nat)(e:Value)(a:List (Int×Rat))(w:World)(h:Bx 181 w d (ckC t p q r))(f:TL b w e a)(s:a.length<=1073741824)(u:(a.length+1)*(b+1)<=34359738000)(F:t.nn<=300)(i:uP a (t.nn:Int)=true):
  Calls prog 129 #[(d,0),e] w λj k=>∃c,j= .returned c/\QL (a.length*(b+1)+1) k c (scL a t.nn)/\Ext w k:=by
 have:w.cell? d=some (.slice t.na t.nn t.nc):=h.cell 0;have v:=a8 f;have l:=a8 i;have m:a.length*(b+1)+1<=LIM:=by
  have:a.length*(b+1)<=(a.length+1)*(b+1):=aJ _ om;exact aE (show _<=34359738001 by omega) de
 have x:=a8 m;obtain⟨_,_,_,rfl⟩:∃y z A,e= .slice y z A:=by
  obtain⟨_,_,_,_,B, -⟩:=f.opn;exact⟨_,_,_,B⟩
 clear h f i m;go_enter func129,ntmps129;go_wp2_with fail;refine(JO b _ (t.nn:Int) a w v.out s u om).mono ?_;rw[l.out];rintro j C ⟨c,rfl,n,D⟩;have E:Hid (QL (a.length*(b+1)+1) C c (scL a t.nn)):=a8 ((OL.sl (n.1 l.out) om).map λ_ _ o=>o.1.isR o.2 x.out);clear n;go_wp2;go_ret;exact⟨_,rfl,E.out,D⟩
theorem QL.leP{w:World}{e:List Rat}(d:QL a w c e)(f:a<=b):QL b w c e:=SL.map d λ_ _ d=>d.mono f
def PX.ql(k:Nat)(l:List Rat):PE:=nL (λu w=>QL k w u l) λu a b he h=>SL.ext (λ_ _ h=>h.ext he) h he
theorem QV(a0 H h B i D m n E:Nat)(t:CrT)(j:CrV)(I:Option Addr)(J K:Nat)(o:Value)(d:List (Int×Rat))(f:PbR)(p q:ByteArray)(r:Option Addr)(s u:Nat)(v:Option Addr)(x y:Nat)(w:World)(z:Bx 181 w h (ckC t I J K))(L:CrP a0 H w t j)(b:Bx 25 w n #[p,q,(r,s,u),(v,x,y)])(M:PbV D w (.agg #[p,q,(r,s,u),(v,x,y)]) f)(N:Bx 178 w E #[(h,0)])
  (A:TL B w o d) (a1:d.length<=1073741824) (a2:(d.length+1)*(B+1)<=34359738000) (a3:t.nn<=300) (O:uP d (t.nn:Int)=true) (a4:d.length*(B+1)+1<=i) (bD:f.2.length<=1000) (a5:(f.2.length+1)*(D+1)<=m) (a6:(f.2.length+1)*(m+i+1)<=34359738000) (a7:H<=1000000) (P:CH f (scL d t.nn)=j.hi):
  Calls prog 182 #[o,(n,0),(E,0)] w λe w'=>e= .returned true/\Ext w w':=by
 have a9:=a8 z;have Q:=a8 L;have R:=a8 (aD M A);have S:=a8 (aD O P);obtain⟨C,T⟩:=ex (f.2.length*(m+i+1)+1);have b0:C<=34359738001:=by
  have:f.2.length*(m+i+1)<=(f.2.length+1)*(m+i+1):=aJ _ om;omega
 have b1:=a8 T;have HC:Hid (∀a,Ext w a->a.cell? n=some (.string p)/\a.cell? (n,1)=some (.string q)/\a.cell? (n,2)=some (.slice r s u)/\a.cell? (n,3)=some (.slice v x y)/\a.cell? E=some (.pointer h)/\
  a.cell? (h,10)=some (.bool t.hi.b)/\a.cell? (h,11)=some (.slice t.hi.a1 t.hi.n1 t.hi.c1)/\a.cell? (h,12)=some (.slice t.hi.a2 t.hi.n2 t.hi.c2)):=a8 λa k=>⟨(b.ext k).cell 0,(b.ext k).cell 1,(b.ext k).cell 2,(b.ext k).cell 3,(N.ext k).cell 0,(z.ext k).cell 10,(z.ext k).cell 11,(z.ext k).cell 12⟩
 clear z L b M N A O P T;go_enter func182,ntmps182;go_wp2_with fail;apply JY [kN (.agg #[p,q,(r,s,u),(v,x,y)]),kN _,kN o,PX.ql i (scL d t.nn),nL (λU w=>FrQ 0 w U j.hi/\szQ j.hi<=C) (λU _ _ b2 V=>⟨V.1.ext b2,V.2⟩),kN _,kN _,kN _,kN _,kN (.agg #[t.hi.b,(t.hi.a1,t.hi.n1,t.hi.c1),(t.hi.a2,t.hi.n2,t.hi.c2)]),kN (0:Int),kN true,kN true] ?st ?en hF kr rfl kr
 case st=>
  refine⟨oX,oX,oX,?_,?_,oX,oX,oX,oX,oX,?_,oX,oX,trivial⟩
  .intro X c a l b A Y;have b3:c 1= .pointer h:=b.1 rfl;have b4:c 2=o:=b.2.1 rfl;refine oC (P:=prog) #[c 1,c 2] func129 rfl rfl ?_;rw[b3,b4];refine(EV h B t I J K o d a (a9.out.ext l) (R.out.2.ext l) a1 a2 a3 S.out.1).mono ?_;rintro e w' ⟨b5,rfl,F,h2⟩;exact⟨_,rfl,h2,F.leP a4⟩
  .intro X c a l b A Y;have b6:c 0= .agg #[p,q,(r,s,u),(v,x,y)]:=b.1 rfl;have b7:QL i a (c 3) (scL d t.nn):=b.2.1 rfl;refine oC (P:=prog) #[c 0,c 3] func68 rfl rfl ?_;rw[b6];refine(zZ D i m _ _ f _ a (R.out.1.ext l) b7 om a5 a6).mono ?_;rw[S.out.2];rintro e w' ⟨b5,rfl,F,h2,b8⟩;exact⟨_,rfl,b8,F.mono zl,by rw[b1.out];exact h2⟩
  .intro X c a l b A Y;obtain⟨b9,bA⟩:FrQ 0 a (c 4) j.hi/\szQ j.hi<=C:=b.1 rfl;have bB:c 9= .agg #[t.hi.b,(t.hi.a1,t.hi.n1,t.hi.c1),(t.hi.a2,t.hi.n2,t.hi.c2)]:=b.2.1 rfl;refine oC (P:=prog) #[c 4,c 9] func108 rfl rfl ?_;rw[bB];have Z:=(Q.out.ext l).hi;unfold qv at Z;refine(pO _ _ j.hi j.hi C 1000000 a (b9.isR bA (aE b0 de)) (Z.isR (aE Q.out.hz a7) de) om).mono ?_;rw[DL];exact DR3
 case en=>
  intro c _ l b;have bC:c 12=true:=b.2.2.2.2.2.2.2.2.2.2.2.2.1 rfl;simp only[bC];clear b;go_wp2;go_ret;exact⟨rfl,l⟩
section
variable {t:TypeId} {w:World} {g:Nat}
theorem put7{k l m n o p:Value}(q:Bx t w g #[c,k,l,m,n,o,p])(a b d e f h i:Value):∃j,j=(((((((w.setCell g a).setCell (g,1) b).setCell (g,2) d).setCell (g,3) e).setCell (g,4) f).setCell (g,5) h).setCell (g,6) i)/\Chg g w j/\Bx t j g #[a,b,d,e,f,h,i]:=
 ⟨_,rfl,((((((Chg.setCell w g 0 _).trans (Chg.setCell _ g 1 _)).trans (Chg.setCell _ g 2 _)).trans (Chg.setCell _ g 3 _)).trans (Chg.setCell _ g 4 _)).trans (Chg.setCell _ g 5 _)).trans (Chg.setCell _ g 6 _),((((((q.set 0 a).set 1 b).set 2 d).set 3 e).set 4 f).set 5 h).set 6 i⟩
end
theorem QX(F:Value)(n e o f p q r s u:Nat)(t:CrT)(v:CrV)(H:Option Addr)(I J:Nat)(a:List (Int×Rat))(S:List (List (Int×Rat)))(c:PbR)(x y:ByteArray)(z:Option Addr)(A B:Nat)(C:Option Addr)(D E:Nat)(w:World)(h:Bx 181 w o (ckC t H I J))(i:CrP n e w t v)(j:Bx 25 w s #[x,y,(z,A,B),(C,D,E)])(k:PbV q w (.agg #[x,y,(z,A,B),(C,D,E)]) c)(l:Bx 178 w u #[(o,0)])(K:TsL n e w F (a::S))(T:f<=LIM)(U:a.length<=1073741824)(V:(a.length+1)*(f+1)<=34359738000)(X:t.nn<=300)(Y:uP a (t.nn:Int)=true)(Z:a.length*(f+1)+1<=p)(a0:c.2.length<=1000)(a1:(c.2.length+1)*(q+1)<=r)(a2:(c.2.length+1)*(r+p+1)<=34359738000)(a3:e<=1000000)(a4:e<=f)(a5:CH c (scL a t.nn)=v.hi):
  Calls prog 217 #[F,.func (.func 182) #[] #[(s,0),(u,0)]] w λL a6=>L= .returned (0:Int)/\Ext w a6:=by
 obtain⟨_,M,_,N,rfl,_,O⟩:=K.opn;obtain⟨g,a7,rfl,_,P,d⟩:=O 0 a rfl;obtain⟨a9,b0,rfl⟩:=d.val;have b1:0<M:=by rw[N];simp
 have:(0:Int)<(M:Int):=om;have Q:=a8 (aD h (aD i (aD j (aD k (aD l d)))));have HC:=a8 P;clear O N b1 h i j k l K P d;go_enter func217,ntmps217;go_wp2_with fail;go_loopw [8] (λR wr=>R= .int .i64 0/\Ext w wr) (λR _=>0)
 case atStart=>exact ⟨rfl,rE⟩
 case round=>
  obtain⟨rfl,b⟩:=hrel;have:wr.cell? (g,a7)=some (.slice a9 a.length b0):=HC.out wr b;obtain⟨h,i,j,k,l,d⟩:=Q.out;have b2:=a8 ((d.ext b).le a4 |>.tl T);have m:=a8 (aD (h.ext b) (aD (i.ext b) (aD (j.ext b) (aD (k.ext b) (l.ext b)))));clear h i j k l d Q HC;go_wp2_with fail;refine(QV n e o f p q r s u t v H I J _ a c x y z A B C D E wr m.out.1 m.out.2.1 m.out.2.2.1 m.out.2.2.2.1 m.out.2.2.2.2 b2.out U V X Y Z a0 a1 a2 a3 a5).mono ?_;rintro L _ ⟨rfl,b3⟩;go_wp2;go_ret;exact⟨rfl,b.trans b3⟩
theorem QW(f:Value)(h c i d j k l m n:Nat)(t:CrT)(o:CrV)(z:Option Addr)(A B:Nat)(a:List (Int×Rat))(C:List (List (Int×Rat)))(b:PbR)(p q:ByteArray)(r:Option Addr)(s u:Nat)(v:Option Addr)(x y:Nat)(w:World)(D:Bx 181 w i (ckC t z A B))(E:CrP h c w t o)(F:Bx 25 w m #[p,q,(r,s,u),(v,x,y)])(H:PbV k w (.agg #[p,q,(r,s,u),(v,x,y)]) b)(I:Bx 178 w n #[(i,0)])(J:TsL h c w f (a::C))(K:d<=LIM)(L:a.length<=1073741824)(M:(a.length+1)*(d+1)<=34359738000)(N:t.nn<=300)(O:uP a (t.nn:Int)=true)(P:a.length*(d+1)+1<=j)(Q:b.2.length<=1000)(R:(b.2.length+1)*(k+1)<=l)(S:(b.2.length+1)*(l+j+1)<=34359738000)(T:c<=1000000)(U:c<=d)(V:CH b (scL a t.nn)=o.hi):
  Calls prog 170 #[f,.func (.func 182) #[] #[(m,0),(n,0)]] w λe X=>e= .returned true/\Ext w X:=by
 go_enter func170,ntmps170;go_wp2_with fail;refine(QX f h c i d j k l m n t o z A B a C b p q r s u v x y w D E F H I J K L M N O P Q R S T U V).mono ?_;exact Jh0
theorem JE(u i:Nat)(v:List CR)(h:CR)(b2 L a c R S T:Nat)(t:CrT)(d:CrV)(U:Option Addr)(f x:Nat)(m:List (Int×Rat))(b3:List (List (Int×Rat)))(p:PbR)(y z:ByteArray)(A:Option Addr)(B C:Nat)(D:Option Addr)(E F:Nat)(w:World)(b4:Bx 181 w a (ckC t U f x))(V:CrP b2 L w t d)(b5:PbV S w (.agg #[y,z,(A,B,C),(D,E,F)]) p)(b6:LnL c w (U,f,x) v)(eG:f=i+1)(eN:v[i]? =some h)(jG:v.length<=1000000)(b7:d.ob≠ [])(b8:d.sl=m::b3)(b9:vX h (2,d.ob,d.lo)=true)(fA:h.2.1.length<=u)(fB:d.ob.length<=u)(fC:2*u<=1073741824)(fD:(2*u+1)*(2*c+2)<=34359738000)(bA:c<=LIM)(fE:m.length<=1073741824)(q:(m.length+1)*(c+1)<=34359738000)(fG:t.nn<=300)(g0:uP m (t.nn:Int)=true)(g1:m.length*(c+1)+1<=R)(g2:p.2.length<=1000)(g3:(p.2.length+1)*(S+1)<=T)(g4:(p.2.length+1)*(T+R+1)<=34359738000)(X:L<=1000000)(Y:L<=c)(hc:CH p (scL m t.nn)=d.hi):
  Calls prog 130 #[(a,0),.agg #[y,z,(A,B,C),(D,E,F)]] w λM g5=>M= .returned true/\Ext w g5:=by
 obtain⟨Z,bB,a0,bC,bD,g6⟩:=lZ w #[(a,0)] #[y,z,(A,B,C),(D,E,F)] 178 25;have r:Hid (∀b,Ext w b->Bx 181 b a (ckC t U f x)):=a8 λb n=>b4.ext n
 have a1:=a8 V;have g7:=a8 b5;have bE:=a8 (aD b9 b8);have j:Hid (∀b,Ext Z b->Bx 178 b w #[(a,0)]/\Bx 25 b (w.heap.size+1) #[y,z,(A,B,C),(D,E,F)]):=a8 λb n=>⟨bC.ext n,bD.ext n⟩
 obtain⟨_,_,_,g9,bG, -,bO⟩:=b6.opn;simp only[Value.slice.injEq]at bG;obtain⟨bP,gA,gG⟩:=bG;obtain⟨bR,bS,gL,_,gT,bT,c0,c1,pl,c2,c3,c4,c5,c6,c7,c8,h0,c9⟩:=bO i h eN
 cases h0
 rw[gL]at bP;subst bP;have h1:=a8 bT;have h2:=a8 c9;have e0:t.on=d.ob.length:=(V.ob.tl (aE X de)).opn.elim λ_ a2=>by
  obtain⟨_,_,h3,h4, -⟩:=a2
  cases h4
  exact h3
 have:0<t.on:=by
  rw[e0];exact fJ.2 b7
 have:¬((t.on:Int)=0):=om;have:f<=1000000:=om;have:(0:Int)<(f:Int):=om;have:(f:Int) - 1=(i:Int):=om;have:(i:Int)<f:=om;have:IntKind.i64.wrap (i:Int)=i:=cC _ ⟨om,om⟩;clear b4 V b5 b9 b8 bC bD b6 bO bT c9 g9 gA gG gT e0 b7 eG g6;go_enter func130,ntmps130;go_wp2_with fail;rw[<-bB];clear bB;refine(mT 0 Z om om).mono ?_;rintro M e1 ⟨_,rfl,hF,o⟩;obtain⟨h5,h6,h7,h8,h9,hA,hB,rfl, -⟩:=hF.opn;obtain⟨N,e2,s,O,hC⟩:=kR e1 #[(2:Int),(),h5,(h6,h7,h8),(h9,hA,hB),false,()] 183;have e3:=(a0.trans o).trans s;have H:=(j.out _ (o.trans s)).1.cell 0;have e:=r.out _ e3;have hD:N.cell? (a,4)=some (.int .i64 2):=e.cell 4;have hE:N.cell? (a,15)=some (.slice (bR,bS) f x):=e.cell 15;have k:=h1.out _ e3;have hG:N.cell? (bR,bS+i*7)=some (.int .i64 h.1):=k 0 _ rfl;have hH:=k 1 _ rfl;have hI:=k 2 _ rfl;have hJ:=k 3 _ rfl;have hK:=k 4 _ rfl;have hL:=k 5 _ rfl;have hM:=k 6 _ rfl;have l:∀a3,N.frozen? ⟨e1.heap.size,a3,none⟩=false:=λa3=>O.free a3
 obtain⟨hN,hO,hP,hR,hS,hT,hU,-⟩:=O.cl [0,1,2,3,4,5,6];obtain⟨e4,e5,I,e6⟩:=put7 O h.1 (c0,c1,pl) c2 (c3,c4,c5) (c6,c7,c8) false ();have f0:=l 0;have f1:=l 1;have f2:=l 2;have f3:=l 3;have f4:=l 4;have f5:=l 5;have f6:=l 6;have e7:=e.chg I (by have:=e.lt;have:=r.out _ (Ext.refl w) |>.lt;have:=a0.size;have:=o.size;omega);have hV:=((j.out _ (o.trans s)).1.chg I (by have:=(j.out _ (Ext.refl Z)).1.lt;have:=o.size;omega)).cell 0;have hW:e4.cell? (a,4)=some (.int .i64 2):=e7.cell 4;have a4:=(a0.trans o).trans (s.step I lr);have a5:=o.trans (s.step I lr);clear k l hF e;go_upto_region 2 with(fail);rw[<-e2];clear e2 hD;go_upto_region 5 with(fail);rw[<-e5];clear e5 H hE hG hH hI hJ hK hL hM f0 f1 f2 f3 f4 f5 f6 hN hO hP hR hS hT hU O hC;have HC:Hid (∀b,Ext e4 b->b.cell? w.heap.size=some (.pointer a)/\b.cell? (a,2)=some (.slice t.oa t.on t.oc)/\b.cell? (a,7)=some (.bool t.lo.b)/\b.cell? (a,8)=some (.slice t.lo.a1 t.lo.n1 t.lo.c1)/\b.cell? (a,9)=some (.slice t.lo.a2 t.lo.n2 t.lo.c2)):=a8 λb n=>
  have q:=r.out _ (a4.trans n);⟨(j.out _ (a5.trans n)).1.cell 0,q.cell 2,q.cell 7,q.cell 8,q.cell 9⟩
 have hX:=a8 e6;have hY:=a8 a4;have hZ:=a8 a5;clear e6 e7 a4 a5 I s;go_upto_region 7 with(fail);clear hV hW;apply wpXA 11 12 39 #[(0:Int),(),false,(),()] (λv _=>v=#[.int .i64 2,.slice t.oa t.on t.oc,.bool t.lo.b,.slice t.lo.a1 t.lo.n1 t.lo.c1,.slice t.lo.a2 t.lo.n2 t.lo.c2])
  [kN _,kN _,kN _,kN _,kN (t.oa,t.on,t.oc),kN _,kN _,kN _,kN _,kN (.agg #[t.lo.b,(t.lo.a1,t.lo.n1,t.lo.c1),(t.lo.a2,t.lo.n2,t.lo.c2)]),kN (.agg #[(2:Int),(t.oa,t.on,t.oc),t.lo.b,(t.lo.a1,t.lo.n1,t.lo.c1),(t.lo.a2,t.lo.n2,t.lo.c2)]),kV,kV] (λ_ _ _ _ a2=>a2) ?st ?en hF kr rfl kr ?hc
 case hc=>intro c _;repeat (first |rfl | (rcases c with _ |c; · rfl))
 case st=>exact ⟨oX,oX,oX,oX,oX,oX,oX,oX,oX,oX,oX,oA,oB,trivial⟩
 case en=>
  intro _ J P i0 i1;obtain⟨_,_,e8,_,e9,rfl⟩:=i0;simp only[e8];clear i1 e8;have Q:=hY.out.trans P;have eA:=a8 (hZ.out.trans P);have e:=r.out _ Q;have eB:=hX.out.ext P;have H:=(j.out _ eA.out).1.cell 0;have i2:J.cell? (a,2)=some (.slice t.oa t.on t.oc):=e.cell 2;have i3:J.cell? (a,5)=some (.bool true):=e.cell 5;obtain⟨i4,i5,i6,i7,j0,j1,-⟩:=eB.cl [0,1,2,3,4,6];obtain⟨j2,j3,j4,j5,j6,-⟩:=e9.cl [0,1,2,3,4];have a6:=a8 (a1.out.ext Q);have eC:=a8 Q;clear eB e9 e P Q;go_wp2_with fail;have a7:=a6.out.lo;unfold qv at a7;have jA:=a8 a7;clear a7 H i2 i3 i4 i5 i6 i7 j0 j1 j2 j3 j4 j5 j6;have eD:Hid (CnR c J (.agg #[h.1,(c0,c1,pl),c2,(c3,c4,c5),(c6,c7,c8)]) h/\CnR c J (.agg #[(2:Int),(t.oa,t.on,t.oc),t.lo.b,(t.lo.a1,t.lo.n1,t.lo.c1),(t.lo.a2,t.lo.n2,t.lo.c2)]) (2,d.ob,d.lo)):=a8 ⟨h2.out.ext eC.out,⟨_,_,_,_,_,_,_,_,_,_,rfl,(a6.out.ob.le Y).tl bA,(jA.out.isR a6.out.lz (aE X de)).mono Y⟩⟩;refine(qQ c u _ _ h (2,d.ob,d.lo) J eD.out.1 eD.out.2 fA fB fC fD).mono ?_;rw[bE.out.1];rintro M a9 ⟨rfl,eE⟩;have b0:=eC.out.trans eE;have b1:=a8 (eA.out.trans eE);have e:=r.out _ b0;have H:=(j.out _ b1.out).1.cell 0;have jB:a9.cell? (a,6)=some (.bool true):=e.cell 6;have jC:a9.cell? (a,13)=some (.slice t.sa t.sn t.sc):=e.cell 13;have K:=a8 b0;clear e b0;go_wp2_with fail;clear H jB jC;refine(QW _ b2 L a c R S T (w.heap.size+1) w t d _ f x m b3 p y z A B C D E F a9 (r.out _ K.out) (a1.out.ext K.out) (j.out _ b1.out).2 (g7.out.ext K.out) (j.out _ b1.out).1 (by rw[<-bE.out.2];exact(a1.out.ext K.out).sl) bA fE q fG g0 g1 g2 g3 g4 X Y hc).mono ?_;rintro M _ ⟨rfl,jD⟩;have jE:=a8 (K.out.trans jD);go_wp2;go_ret;exact⟨rfl,jE.out⟩
def StG(KB:Nat)(bs:List Bool)(cs:List CR)(d:DR):Prop:=∃ky N M K1 R K2 K3 N2:Nat,(∀u∈d.us,pM u.1 cs.length=true)/\d.us.length<=1000000/\KB<=ky/\ky<=LIM/\(∀c∈usL cs d.us,c.2.1.length<=N)/\d.us.length<=M/\M*N+N<=1073741824/\M*N*(ky+KB+1)+1<=K1/\M*(ky+KB+1)+1<=R/\R<=34359738000/\(M*N+N+1)*(K1+ky+KB+1)<=34359738000/\1<=R/\max K1 R=K2/\K2<=LIM/\
 rK (usL cs d.us) (d.us.map (·.2)) d.c.1=0/\(d.rs=2∨(d.rs=3/\rR (oD (usL cs d.us) (d.us.map (·.2)) d.c.1) bs=0))/\vX (mulR d.rs bs (oD (usL cs d.us) (d.us.map (·.2)) d.c.1)) d.c=true/\
 (oD (usL cs d.us) (d.us.map (·.2)) d.c.1).2.1.length<=1073741824/\((oD (usL cs d.us) (d.us.map (·.2)) d.c.1).2.1.length+1)*(K2+1)<=17179869180/\(oD (usL cs d.us) (d.us.map (·.2)) d.c.1).2.1.length*(K2+1)<=K3/\K2<=K3/\K3<=17179869180/\
 (oD (usL cs d.us) (d.us.map (·.2)) d.c.1).2.1.length<=N2/\(n7 (oD (usL cs d.us) (d.us.map (·.2)) d.c.1)).2.1.length<=N2/\d.c.2.1.length<=N2/\2*N2<=1073741824/\(2*N2+1)*(2*(K3+1)+2)<=34359738000/\KB<=K2
def VfJ(KB gk:Nat)(t:CrT)(w3:World)(cs:List CR)(i:Nat)(wr:World):Prop:=
 Ext w3 wr/\∃la lc,Bx 181 wr gk (ckC t la i lc)/\OL 183 7 w3 (λ_=>LnR KB w3) wr (.slice la i lc) cs
theorem hp2{b:CR}(c:i[a]? =some b):i.take (a+1)=i.take a++ [b]:=mP c
theorem NA(c1 k Q a6 hC bC eB gA:Nat)(t:CrT)(a:CrV)(U:CR)(H:List (Int×Rat))(I:PbR)(V j:ByteArray)(X:Option Addr)(Y Z:Nat)(R:Option Addr)(S T:Nat)(w:World)
  (c2:CrP c1 k w t a) (jE:CrG a) (jG:PbV Q w (.agg #[V,j,(X,Y,Z),(R,S,T)]) I) (k0:VnL w (R,S,T) a.nm) (k1:a.bs=tZ I) (k2:a.ob=tV I) (k3:a.cs=rJ I)
  (k4:I.2.length<=1000) (q5:I.1.length<=1000) (q6:1<=Q) (k5:∀q7∈I.1,q7.2.length<=bC) (q8:1<=bC) (q9:(I.2.length+1)*(Q+1)<=k) (qA:(bC+1)*(Q+1)<=k) (b3:k<=1000000) (w7:a.nm.length<=300) (qB:a.cs.length<=100000) (qC:a.ds.length<=100000)
  (k6:∀(i:Nat) (f:DR),a.ds[i]? =some f->StG k a.bs (a.cs++(a.ds.take i).map (·.c)) f)
  (k7:a.sl=[H]) (w8:H.length<=1000) (k8:(H.length+1)*(k+1)<=34359738000) (k9:uP H (a.nm.length:Int)=true) (kA:H.length*(k+1)+1<=a6) (qD:(I.2.length+1)*(Q+1)<=hC) (qE:(I.2.length+1)*(hC+a6+1)<=34359738000) (hc:CH I (scL H a.nm.length)=a.hi) (kB:xA I (scL H a.nm.length)=true)
  (eC:Nat) (qG:Q<=eC) (qL:a6<=eC) (r0:bC*(Q+a6+1)+1<=eC) (r1:(bC+1)*(Q+a6+1)<=34359738000) (r2:eC<=17179869180)
  (kC:a.cs.length+a.ds.length=gA+1) (kD:(a.cs++a.ds.map (·.c))[gA]? =some U) (kE:a.ob≠ []) (kG:vX U (2,a.ob,a.lo)=true) (r3:U.2.1.length<=eB) (r4:a.ob.length<=eB) (r5:2*eB<=1073741824) (r6:(2*eB+1)*(2*k+2)<=34359738000):
  Calls prog 70 #[.agg #[V,j,(X,Y,Z),(R,S,T)],.agg (crC t)] w λe w'=>e= .returned (.tuple #[(0:Int),(0:Int)])/\Ext w w':=by
 have l0:=c2.nm.lenS;have l1:=c2.cs.lenS;have l2:=c2.ds.lenS;have l3:=c2.sl.lenS;obtain⟨a7,gG⟩:=ex t.ca;obtain⟨a9,gL⟩:=ex t.da;obtain⟨b0,gT⟩:=ex t.sa;have r7:=a8 gG;have r8:=a8 gL;have r9:=a8 gT;have eD:crC t=#[.slice t.na t.nn t.nc,.slice t.wa t.wn t.wc,.slice t.oa t.on t.oc,.slice a7 t.cn t.cc,.int .i64 2,.bool true,.bool true,.bool t.lo.b,.slice t.lo.a1 t.lo.n1 t.lo.c1,.slice t.lo.a2 t.lo.n2 t.lo.c2,.bool t.hi.b,.slice t.hi.a1 t.hi.n1 t.hi.c1,.slice t.hi.a2 t.hi.n2 t.hi.c2,.slice b0 t.sn t.sc,.slice a9 t.dn t.dc]:=by unfold crC;rw[<-gG,<-gL,<-gT]
 have l4:ckC t none 0 0=#[.slice t.na t.nn t.nc,.slice t.wa t.wn t.wc,.slice t.oa t.on t.oc,.slice a7 t.cn t.cc,.int .i64 2,.bool true,.bool true,.bool t.lo.b,.slice t.lo.a1 t.lo.n1 t.lo.c1,.slice t.lo.a2 t.lo.n2 t.lo.c2,.bool t.hi.b,.slice t.hi.a1 t.hi.n1 t.hi.c1,.slice t.hi.a2 t.hi.n2 t.hi.c2,.slice b0 t.sn t.sc,.slice a9 t.dn t.dc,.slice none 0 0]:=by unfold ckC;rw[<-gG,<-gL,<-gT]
 obtain⟨D,h0,l5,J,d,rA⟩:=lZ w #[V,j,(X,Y,Z),(R,S,T)] (crC t) 25 75;have bD:Hid (∀b,Ext w b->CrP c1 k b t a):=a8 λb o=>c2.ext o
 have hD:Hid (∀b,Ext w b->PbV Q b (.agg #[V,j,(X,Y,Z),(R,S,T)]) I):=a8 λb o=>jG.ext o
 have c3:Hid (∀b,Ext D b->Bx 25 b w #[V,j,(X,Y,Z),(R,S,T)]/\Bx 75 b (w.heap.size+1) #[(t.na,t.nn,t.nc),(t.wa,t.wn,t.wc),(t.oa,t.on,t.oc),(a7,t.cn,t.cc),(2:Int),true,true,t.lo.b,(t.lo.a1,t.lo.n1,t.lo.c1),(t.lo.a2,t.lo.n2,t.lo.c2),t.hi.b,(t.hi.a1,t.hi.n1,t.hi.c1),(t.hi.a2,t.hi.n2,t.hi.c2),(b0,t.sn,t.sc),(a9,t.dn,t.dc)]):=a8 λb o=>⟨J.ext o,by rw[<-eD];exact d.ext o⟩
 have l6:t.nn<=300:=om;have w9:(t.cn:Int)<=100000:=om;have wA:(t.dn:Int)<=100000:=om;have M:=a8 (aD l0 (aD l1 (aD l2 l3)));have a0:=a8 (aD k6 (aD k7 (aD k9 (aD hc (aD kB (aD kD (aD kE kG)))))));have rB:=a8 kC;have eE:∀i,D.cell? ⟨w.heap.size,i,none⟩=(#[V,j,(X,Y,Z),(R,S,T)]:Array Value)[i]? :=λi=>J.cell i
 have eG:=eE 0;have eN:=eE 1;have fA:=eE 2;have fB:=eE 3;have K:∀i,D.cell? ⟨w.heap.size+1,i,none⟩=(#[(t.na,t.nn,t.nc),(t.wa,t.wn,t.wc),(t.oa,t.on,t.oc),(a7,t.cn,t.cc),(2:Int),true,true,t.lo.b,(t.lo.a1,t.lo.n1,t.lo.c1),(t.lo.a2,t.lo.n2,t.lo.c2),t.hi.b,(t.hi.a1,t.hi.n1,t.hi.c1),(t.hi.a2,t.hi.n2,t.hi.c2),(b0,t.sn,t.sc),(a9,t.dn,t.dc)]:Array Value)[i]? :=λi=>by rw[<-eD];exact d.cell i
 have U:D.cell? (w.heap.size+1,0)=some (.slice t.na t.nn t.nc):=K 0;have m:D.cell? (w.heap.size+1,1)=some (.slice t.wa t.wn t.wc):=K 1;have n:D.cell? (w.heap.size+1,2)=some (.slice t.oa t.on t.oc):=K 2;have c4:D.cell? (w.heap.size+1,3)=some (.slice a7 t.cn t.cc):=K 3;have c5:D.cell? (w.heap.size+1,4)=some (.int .i64 2):=K 4;have c6:D.cell? (w.heap.size+1,5)=some (.bool true):=K 5;have c7:D.cell? (w.heap.size+1,6)=some (.bool true):=K 6;have c8:D.cell? (w.heap.size+1,7)=some (.bool t.lo.b):=K 7;have c9:D.cell? (w.heap.size+1,8)=some (.slice t.lo.a1 t.lo.n1 t.lo.c1):=K 8;have e0:D.cell? (w.heap.size+1,9)=some (.slice t.lo.a2 t.lo.n2 t.lo.c2):=K 9;have e1:D.cell? (w.heap.size+1,10)=some (.bool t.hi.b):=K 10;have e2:D.cell? (w.heap.size+1,11)=some (.slice t.hi.a1 t.hi.n1 t.hi.c1):=K 11;have e3:D.cell? (w.heap.size+1,12)=some (.slice t.hi.a2 t.hi.n2 t.hi.c2):=K 12;have e4:D.cell? (w.heap.size+1,13)=some (.slice b0 t.sn t.sc):=K 13;have e5:D.cell? (w.heap.size+1,14)=some (.slice a9 t.dn t.dc):=K 14;rw[eD]at h0 ⊢;rw[h0]at U m n c4 c5 c6 c7 c8 c9 e0 e1 e2 e3 e4 e5;have l7:=a8 eD;have l9:=a8 (JD c1 k Q bC t a I V j X Y Z R S T);have fC:=a8 (aD k0 (aD k1 (aD k2 k3)));have rC:=a8 jE;have lA:=a8 k5;clear J d eE K c2 jG k0 k1 k2 k3 k6 k7 k9 hc kB kD kE kG l0 l1 l2 l3 jE k5 rA kC gG gL gT eD;go_enter func70,ntmps70;go_wp2_with fail;rw[<-h0];clear h0 U m n c4 c5 c6 c7 c8 c9 e0 e1 e2 e3 e4 e5;rw[<-l7.out];refine(NR c1 k t a D (bD.out D l5) b3 rC.out ⟨om,qB,qC⟩).mono ?_;rintro e E ⟨rfl,hE⟩;obtain⟨J,d⟩:=c3.out E hE;obtain⟨eG,eN,fA,fB,-⟩:=J.cl [0,1,2,3];have U:E.cell? (w.heap.size+1,0)=some (.slice t.na t.nn t.nc):=d.cell 0;have m:E.cell? (w.heap.size+1,1)=some (.slice t.wa t.wn t.wc):=d.cell 1;have n:E.cell? (w.heap.size+1,2)=some (.slice t.oa t.on t.oc):=d.cell 2;have c4:E.cell? (w.heap.size+1,3)=some (.slice a7 t.cn t.cc):=d.cell 3;have c5:E.cell? (w.heap.size+1,4)=some (.int .i64 2):=d.cell 4;have c6:E.cell? (w.heap.size+1,5)=some (.bool true):=d.cell 5;have c7:E.cell? (w.heap.size+1,6)=some (.bool true):=d.cell 6;have c8:E.cell? (w.heap.size+1,7)=some (.bool t.lo.b):=d.cell 7;have c9:E.cell? (w.heap.size+1,8)=some (.slice t.lo.a1 t.lo.n1 t.lo.c1):=d.cell 8;have e0:E.cell? (w.heap.size+1,9)=some (.slice t.lo.a2 t.lo.n2 t.lo.c2):=d.cell 9;have e1:E.cell? (w.heap.size+1,10)=some (.bool t.hi.b):=d.cell 10;have e2:E.cell? (w.heap.size+1,11)=some (.slice t.hi.a1 t.hi.n1 t.hi.c1):=d.cell 11;have e3:E.cell? (w.heap.size+1,12)=some (.slice t.hi.a2 t.hi.n2 t.hi.c2):=d.cell 12;have e4:E.cell? (w.heap.size+1,13)=some (.slice b0 t.sn t.sc):=d.cell 13;have e5:E.cell? (w.heap.size+1,14)=some (.slice a9 t.dn t.dc):=d.cell 14;clear J d;go_wp2_with fail;have h1:=a8 (l5.trans hE);clear eG eN fA fB U m n c4 c5 c6 c7 c8 c9 e0 e1 e2 e3 e4 e5;rw[<-l7.out];refine(l9.out E (bD.out E h1.out) (hD.out E h1.out) (fC.out.1.ext h1.out) fC.out.2.1 fC.out.2.2.1 fC.out.2.2.2 k4 q5 q6 q9 lA.out q8 qA b3).mono ?_;rintro e c ⟨rfl,lB⟩;have b4:=a8 (h1.out.trans lB);have fD:=a8 (hE.trans lB);obtain⟨hG,h3,hH,lC,rD⟩:=kR c (ckC t none 0 0) 181;obtain⟨J,d⟩:=c3.out c fD.out;have U:c.cell? (w.heap.size+1,0)=some (.slice t.na t.nn t.nc):=d.cell 0;have m:c.cell? (w.heap.size+1,1)=some (.slice t.wa t.wn t.wc):=d.cell 1;have n:c.cell? (w.heap.size+1,2)=some (.slice t.oa t.on t.oc):=d.cell 2;have c4:c.cell? (w.heap.size+1,3)=some (.slice a7 t.cn t.cc):=d.cell 3;have c5:c.cell? (w.heap.size+1,4)=some (.int .i64 2):=d.cell 4;have c6:c.cell? (w.heap.size+1,5)=some (.bool true):=d.cell 5;have c7:c.cell? (w.heap.size+1,6)=some (.bool true):=d.cell 6;have c8:c.cell? (w.heap.size+1,7)=some (.bool t.lo.b):=d.cell 7;have c9:c.cell? (w.heap.size+1,8)=some (.slice t.lo.a1 t.lo.n1 t.lo.c1):=d.cell 8;have e0:c.cell? (w.heap.size+1,9)=some (.slice t.lo.a2 t.lo.n2 t.lo.c2):=d.cell 9;have e1:c.cell? (w.heap.size+1,10)=some (.bool t.hi.b):=d.cell 10;have e2:c.cell? (w.heap.size+1,11)=some (.slice t.hi.a1 t.hi.n1 t.hi.c1):=d.cell 11;have e3:c.cell? (w.heap.size+1,12)=some (.slice t.hi.a2 t.hi.n2 t.hi.c2):=d.cell 12;have e4:c.cell? (w.heap.size+1,13)=some (.slice b0 t.sn t.sc):=d.cell 13;have e5:c.cell? (w.heap.size+1,14)=some (.slice a9 t.dn t.dc):=d.cell 14;have fE:hG.cell? (w.heap.size+1,3)=some (.slice a7 t.cn t.cc):=(c3.out hG (fD.out.trans hH)).2.cell 3;rw[l4]at h3;clear l4;rw[h3]at fE;clear J d l9 fC;go_wp2_with fail;rw[<-h3];have lD:Hid (VfJ k c t c (a.cs.take 0) 0 hG):=a8 ⟨hH,none,0,lC,OL.nil _ _ _ _ _⟩;clear h3 fE lC U m n c4 c5 c6 c7 c8 c9 e0 e1 e2 e3 e4 e5
 go_loopw [32] (λhJ wr=>∃i:Nat,i<=t.cn/\hJ= .int .i64 (i:Int)/\Hid (VfJ k c t c (a.cs.take i) i wr)) (λhJ _=>((t.cn:Int) - intOf hJ).toNat)
 case atStart=>exact ⟨0,zl,rfl,lD⟩
 case round=>
  obtain⟨i,lE,rfl,a1⟩:=hrel;clear lD hH rD;rcases aI lE with h4 |h4
  .have bE:¬(i:Int)<t.cn:=om;have hK:VfJ k c t c (a.cs++(a.ds.take 0).map (·.c)) (t.cn+0) wr:=by
    have:=a1.out;rw[h4,M.out.2.1,bN]at this;rw[M.out.2.1];simpa using this
   have lG:=a8 hK;have rG:wr.cell? (w.heap.size+1,14)=some (.slice a9 t.dn t.dc):=(c3.out wr (fD.out.trans hK.1)).2.cell 14;clear a1 hK h4;go_wp2_with fail;clear rG;go_loopw [51] (λhL wr=>∃l:Nat,l<=t.dn/\hL= .int .i64 (l:Int)/\Hid (VfJ k c t c (a.cs++(a.ds.take l).map (·.c)) (t.cn+l) wr)) (λhL _=>((t.dn:Int) - intOf hL).toNat)
   case atStart=>exact ⟨0,zl,rfl,lG⟩
   case round=>
    obtain⟨l,b5,rfl,a1⟩:=hrel;clear lG bE lE;rcases aI b5 with h5 |h5
    .have bE:¬(l:Int)<t.dn:=om;obtain⟨q,b6⟩:=ex (t.cn+t.dn);have s0:VfJ k c t c (a.cs++a.ds.map (·.c)) q wr:=by
      have:=a1.out;rw[h5,M.out.2.2.1,bN,<-M.out.2.2.1,<-b6]at this;exact this
     have s1:q=gA+1:=by rw[b6,M.out.2.1,M.out.2.2.1];exact rB.out
     obtain⟨N,u,v,a2,b7⟩:=s0;have b8:Hid (∀b,Ext wr b->Bx 181 b c (ckC t u q v)):=a8 λb o=>a2.ext o
     have h6:Hid (LnL k wr (u,q,v) (a.cs++a.ds.map (·.c))):=a8 ((OL.sl b7 om).map λa3 bG h=>h.ext N);have s2:=a8 N;have wB:t.sn=1:=by rw[M.out.2.2.2,a0.out.2.1];rfl
     have m0:uP H (t.nn:Int)=true:=by rw[M.out.1];exact a0.out.2.2.1
     have m1:=a8 m0;have m2:Hid (CH I (scL H t.nn)=a.hi/\xA I (scL H t.nn)=true):=a8 (by rw[M.out.1];exact⟨a0.out.2.2.2.1,a0.out.2.2.2.2.1⟩);have s3:wr.cell? (w.heap.size+1,13)=some (.slice b0 t.sn t.sc):=(c3.out wr (fD.out.trans N)).2.cell 13;obtain⟨_,sm,_,s4,m3, -,m4⟩:=(bD.out _ b4.out).sl.opn;simp only[Value.slice.injEq]at m3;obtain⟨m5,s5,s6⟩:=m3;obtain⟨g,b9,bA,a3,bB,hM⟩:=m4 0 H (by rw[a0.out.2.1];rfl);obtain⟨e6,e7,rfl⟩:=hM.val;have s7:b0=some ⟨g,b9,none⟩:=r9.out.trans (m5.trans bA);subst s7;have m6:=a8 (aD bB hM);have s8:=a8 s1;have wC:q<=200000:=by have:=M.out.2.1;omega
     clear a1 h5 b6 N a2 b7 m0 m4 bB hM s4 m5 s5 s6 bA b5;go_wp2_with fail;clear s3 bE;go_loopw [90] (λhN s9=>∃h7:Nat,h7<=1/\hN= .int .i64 (h7:Int)/\Ext wr s9) (λhN _=>((1:Int) - intOf hN).toNat)
     case atStart=>exact ⟨0,zl,rfl,rE⟩
     case round=>
      obtain⟨h7,sC,rfl,fG⟩:=hrel;have bO:=a8 (s2.out.trans fG);obtain⟨J,d⟩:=c3.out _ (fD.out.trans bO.out);obtain⟨eG,eN,fA,fB,-⟩:=J.cl [0,1,2,3];rcases aI sC with m7 |m7
      .subst m7;have bE:¬(((1:Nat):Int)<(t.sn:Int)):=om;clear J d;go_wp2_with fail;clear eG eN fA fB;refine(JE eB gA (a.cs++a.ds.map (·.c)) U c1 k c k a6 Q hC t a u q v H [] I V j X Y Z R S T _ (b8.out _ fG) (bD.out _ (b4.out.trans bO.out)) (hD.out _ (b4.out.trans bO.out)) (h6.out.ext fG) s8.out a0.out.2.2.2.2.2.1 (by rw[aB,aF];omega) a0.out.2.2.2.2.2.2.1 a0.out.2.1 a0.out.2.2.2.2.2.2.2 r3 r4 r5 r6 (aE b3 de) om k8 l6 m1.out kA k4 qD qE b3 lr m2.out.1).mono ?_;rintro e hO ⟨rfl,u0⟩;have u1:=a8 ((b4.out.trans bO.out).trans u0);go_wp2;go_ret2;exact⟨rfl,u1.out⟩
      .have u2:h7=0:=om;subst u2;have bE:(((0:Nat):Int)<(t.sn:Int)):=om;have h8:wr.cell? (g,b9)=some (.slice e6 H.length e7):=m6.out.1 _ bO.out;have HC:Hid (∀b,Ext wr b->b.cell? w.heap.size=some (.string V)/\b.cell? (w,1)=some (.string j)/\b.cell? (w,2)=some (.slice X Y Z)/\b.cell? (w,3)=some (.slice R S T)):=a8 λb o=>⟨(J.ext o).cell 0,(J.ext o).cell 1,(J.ext o).cell 2,(J.ext o).cell 3⟩
       have m8:=a8 fG;clear J d eG eN fA fB fG;go_upto_region 24 with(fail);apply JY [kN (.agg #[V,j,(X,Y,Z),(R,S,T)]),kN (c,0),kN (e6,H.length,e7),PX.ql a6 (scL H t.nn),kN true,kN false] ?st ?en hF kr rfl kr
       case st=>
        refine⟨oX,oX,oX,?_,?_,oX,trivial⟩
        .intro bP r b hI p bR hS;have u3:r 1= .pointer c.heap.size:=p.1 rfl;have u4:r 2=(e6,H.length,e7):=p.2.1 rfl;refine oC (P:=prog) #[r 1,r 2] func129 rfl rfl ?_;rw[u3,u4];refine(EV c k t u q v _ H b (b8.out _ (m8.out.trans hI)) (((m6.out.2.ext (bO.out.trans hI))).tl (aE b3 de)) om k8 l6 m1.out).mono ?_;rintro e w' ⟨_,rfl,u5,h2⟩;exact⟨_,rfl,h2,u5.leP kA⟩
        .intro bP r b hI p bR hS;have u6:r 0= .agg #[V,j,(X,Y,Z),(R,S,T)]:=p.1 rfl;have u7:QL a6 b (r 3) (scL H t.nn):=p.2.1 rfl;refine oC (P:=prog) #[r 0,r 3] func66 rfl rfl ?_;rw[u6];refine(CT Q a6 eC bC _ _ I _ b (hD.out _ (b4.out.trans (bO.out.trans hI))) u7 lA.out qG qL r0 r1 r2).mono ?_;rw[m2.out.2];exact DR3
       case en=>
        intro r _ hI p;have u8:r 5=false:=p.2.2.2.2.2.1 rfl;simp only[u8];clear p;have u9:=a8 (m8.out.trans hI);go_wp2;go_roundw
        case rel=>exact ⟨1,lr,rfl,u9.out⟩
        case measure=>simp [intOf]
    .have bE:(l:Int)<t.dn:=om;obtain⟨f,g0⟩:∃f,a.ds[l]? =some f:=⟨_,aA (by rw[<-M.out.2.2.1];exact h5)⟩;obtain⟨q,b6⟩:=ex (t.cn+l);rw[<-b6]at a1;obtain⟨N,u,v,a2,b7⟩:=a1.out;obtain⟨v0,v1,v2,hP,g1, -,g2⟩:=(bD.out _ b4.out).ds.opn;simp only[Value.slice.injEq]at g1;obtain⟨g3,hR,hT⟩:=g1;obtain⟨g,b9,bA,v3,hU,bB,hV⟩:=g2 l f g0;have v4:=hV;obtain⟨s,x,y,z,A,j,m,B,C,n,e6,mA,e7,hW,g4,h9⟩:=v4
     cases hW
     have v5:a9=some ⟨g,b9,none⟩:=r8.out.trans (g3.trans bA);subst v5;have hX:Hid (LnR k c (.agg #[f.c.1,(s,x,y),z,(A,j,m),(B,C,n),false,()]) f.c):=a8 ⟨_,_,_,_,_,_,_,_,_,_,rfl,g4.cnR (aE b3 de)⟩;have mB:=a8 hV;have F:=bB wr N;have h8:wr.cell? (g,b9+l*11)=some (.int .i64 f.c.1):=F 0 _ rfl;have hY:=F 1 _ rfl;have hZ:=F 2 _ rfl;have i0:=F 3 _ rfl;have i1:=F 4 _ rfl;have v6:=F 5 _ rfl;have v7:=F 6 _ rfl;have v8:=F 7 _ rfl;have v9:=F 8 _ rfl;have vA:=F 9 _ rfl;have vB:=F 10 _ rfl;obtain⟨b1,e8,O,a4,i2⟩:=kR wr #[f.c.1,(s,x,y),z,(A,j,m),(B,C,n),f.rs,(e6,mA,e7),f.p1,f.p2,f.p3,f.p4] 110;have vC:Hid (∀b,Ext b1 b->Bx 110 b wr #[f.c.1,(s,x,y),z,(A,j,m),(B,C,n),f.rs,(e6,mA,e7),f.p1,f.p2,f.p3,f.p4]):=a8 λb o=>a4.ext o
     have mC:b1.cell? (c,15)=some (.slice u q v):=(a2.ext O).cell 15;obtain⟨d0,d1,d2,d3,d4,d5,d6,d7,d8,d9,d10,-⟩:=a4.cl [0,1,2,3,4,5,6,7,8,9,10];rw[e8]at mC d0 d1 d2 d3 d4 d5 d6 d7 d8 d9 d10;have b8:Hid (∀b,Ext b1 b->Bx 181 b c (ckC t u q v)):=a8 λb o=>(a2.ext O).ext o
     have mD:=a8 b7;have mE:=N.trans O;have g5:=a8 mE;have mG:(a.cs++(a.ds.take l).map (·.c)).length=q:=by
      rw[aB,aF,aP,b6,M.out.2.1];have:=(aH.1 g0).1;omega
     have n0:=a8 mG;have n1:=a8 b6;have n2:=a8 (a0.out.1 l f g0);have i3:Hid (a.cs++(a.ds.take (l+1)).map (·.c)=(a.cs++(a.ds.take l).map (·.c))++ [f.c]):=a8 (by rw[mP g0,bY,aG];rfl);have wX:q<=200000:=by have:=M.out.2.1;omega
     have h6:Hid (LnL k b1 (u,q,v) (a.cs++(a.ds.take l).map (·.c))):=a8 (LnL.ext (w:=wr) ((OL.sl b7 om).map λa3 bG h=>h.ext N) O);clear g2 bB F hU hP g3 hR hT bA g4 h9 g0 N a2 b7 a4 i2 a1 hV mE mG b6;go_wp2_with fail;rw[<-e8];clear e8 h8 hY hZ i0 i1 v6 v7 v8 v9 vA vB mC d0 d1 d2 d3 d4 d5 d6 d7 d8 d9 d10;obtain⟨vD,vE,vG,w0,w1,w2,w3,w4,n3,n4,n9,nI,o0,o1,o2,o3,o5,o8,p0,p1,p2,p3,p4,i4,p5,p6,p7,p8,p9,pA,pB,pC,pD,pE,pG,q0⟩:=n2.out;have x0:(f.rs==1)=false:=by rcases i4 with h |⟨h, -⟩<;>rw [h]<;>rfl
     refine(N0 c1 k c k vD vE vG w0 w1 w2 w3 w4 t u q v _ a.bs _ f _ (q:Int) b1 (b8.out _ rE) h6.out ((bD.out _ (b4.out.trans g5.out)).bs) (mB.out.ext g5.out) n3 (aE b3 de) (by rw[n0.out];omega) n4 n9 nI o0 o1 o2 o3 o5 o8 p0 p1 p2 p3 rfl p4 i4 p5 p6 p7 p8 p9 pA pB pC pD pE pG q0).mono ?_;rintro e e9 ⟨rfl,eA⟩;clear n3 n4 n9 nI o0 o1 o2 o3 o5 o8 p0 p1 p2 p3 p4 i4 p5 p6 p7 p8 p9 pA pB pC pD pE pG q0 n2;have q1:=a8 (g5.out.trans eA);obtain⟨P,bS,bT,g6⟩:=mD.out;have c0:P.length=q:=by rw[bT];exact n0.out
     have i5:c.heap.size<=e9.heap.size:=q1.out.size;have b2:Hid (pW 7 P/\e9.ownsRow c 183 7 (u,q,v) q (kX P)/\(∀(i:Nat) (a3:Value) (bG:CR),P[i]? =some a3->(a.cs++(a.ds.take l).map (·.c))[i]? =some bG->LnR k c a3 bG)/\P.length=(a.cs++(a.ds.take l).map (·.c)).length):=a8 ⟨bS.1,by have:=lL (lL bS.2 O) eA;rwa [c0]at this,g6,bT⟩;have i6:=a8 c0;have HC:Hid (∀b,Ext e9 b->b.cell? (c,15)=some (.slice u q v)/\b.cell? wr.heap.size=some (.int .i64 f.c.1)/\b.cell? (wr,1)=some (.slice s x y)/\b.cell? (wr,2)=some (.bool z)/\b.cell? (wr,3)=some (.slice A j m)/\b.cell? (wr,4)=some (.slice B C n)/\b.cell? (wr,5)=some (.int .i64 f.rs)):=a8 λb o=>
      have a5:=vC.out _ (eA.trans o);⟨(b8.out _ (eA.trans o)).cell 15,a5.cell 0,a5.cell 1,a5.cell 2,a5.cell 3,a5.cell 4,a5.cell 5⟩
     have hA:=a8 (b8.out _ eA);clear bS bT g6 c0 O eA mD mB h6;go_upto_region 19 with(fail);apply wpXB c 12 13 16 c 7 (q+1) 183 (u,q,v) (kX P) (isN [f.c.1,(s,x,y),z,(A,j,m),(B,C,n),false,()]) 181 c 15 (ckC t u q v).toList
      [kN _,kN _,kN _,kN _,kN (u,q,v),kN _,kN (.agg #[f.c.1,(s,x,y),z,(A,j,m),(B,C,n)]),kN _,kN f.rs,kN false,kN (),kN (.agg #[f.c.1,(s,x,y),z,(A,j,m),(B,C,n),false,()]),LN 183 (isN [f.c.1,(s,x,y),z,(A,j,m),(B,C,n),false,()]) KS,kV,kN _,kN _,kV] [4,6,8] [(14,12),(15,12),(16,12)] q1.out hA.out ?st ?en hF kr rfl kr ?hc KS
     case hc=>intro l s b5;repeat (first |rfl |exact absurd rfl b5 | (rcases l with _ |l;first |rfl |exact absurd rfl b5))
     case st=>
      refine⟨oXb,oXb,oXb,oXb,oXb,oXb,oXb,oXb,oXb,oXb,oXb,oXb,?_,?_,oXb,oXb,?_,trivial⟩
      .intro bP r b hI p bR hS;have i7:r 11= .agg #[f.c.1,(s,x,y),z,(A,j,m),(B,C,n),false,()]:=p.1 rfl;exact lH (P:=prog) 179 183 1 7 _ [.agg #[f.c.1,(s,x,y),z,(A,j,m),(B,C,n),false,()]] rfl rfl underlying179 kr kr (by simp only[Act.eval];exact congrArg (λj0=> [(0,j0)]) i7) rfl om om om (by simp[Value.cells]) (λw' w5 a5=>⟨_,_,rfl,by simpa[Value.cells]using a5,rfl⟩)
      .intro bP r b hI p bR j1 hS;have j2:r 4=(u,q,v):=p.1 rfl;obtain⟨j3,_,j4,j5,rfl⟩:=p.2.1 rfl;exact FP (P:=prog) _ _ 179 q 120 [f.c.1,(s,x,y),z,(A,j,m),(B,C,n),false,()] j3 hI j1 (hS.2.1 rfl) rfl rfl underlying179 kr kr om j2 b2.out.2.1 j4 j5 rfl (by intro a3 g7;simp at g7;rcases g7 with rfl |rfl |rfl |rfl |rfl |rfl |rfl<;>rfl) om om i5 lr de rfl (λ_ _=>rfl)
      .intro bP r b hI p bR hS1 hS;have q10:r 15= .pointer (c,15):=p.1 rfl;exact vl1
     case en=>
      intro r hO q2 j6 jA p;obtain⟨jB,jC,_,jD,g9,rfl,q3⟩:=jA;clear jD;have HJ1:Hid (VfJ k c t c (a.cs++(a.ds.take (l+1)).map (·.c)) (t.cn+(l+1)) hO):=a8 ⟨q2,jB,jC,by rw[<-gH,<-n1.out];exact q3,by
       rw[i3.out,<-gH,<-n1.out];exact OL.fin (R:=λ_=>LnR k c) (w':=hO) b2.out.1 b2.out.2.2.2 b2.out.2.2.1 hX.out (by rw[i6.out];exact g9) rfl (by simp[Value.oneCell'])⟩
      clear p g9 q3 j6 q2;go_wp2;go_roundw
      case rel=>exact ⟨l+1,om,ci om,HJ1⟩
      case measure=>simp [intOf];omega
  .have bE:(i:Int)<t.cn:=om;obtain⟨L,hB⟩:∃L,a.cs[i]? =some L:=⟨_,aA (by rw[<-M.out.2.1];exact h4)⟩;obtain⟨N,u,v,a2,b7⟩:=a1.out;obtain⟨v0,v1,v2,hP,g1, -,g2⟩:=(bD.out _ b4.out).cs.opn;simp only[Value.slice.injEq]at g1;obtain⟨g3,hR,hT⟩:=g1;obtain⟨g,b9,bA,v3,hU,bB,s,x,y,z,A,j,m,B,C,n,hW,g4,h9,fE⟩:=g2 i L hB
   cases hW
   have w6:a7=some ⟨g,b9,none⟩:=r7.out.trans (g3.trans bA);subst w6;have hX:Hid (LnR k c (.agg #[L.1,(s,x,y),z,(A,j,m),(B,C,n),false,()]) L):=a8 ⟨_,_,_,_,_,_,_,_,_,_,rfl,CnO.cnR ⟨_,_,_,_,_,_,_,_,_,_,rfl,g4,h9,fE⟩ (aE b3 de)⟩;have F:=bB wr N;have h8:wr.cell? (g,b9+i*5)=some (.int .i64 L.1):=F 0 _ rfl;have hY:=F 1 _ rfl;have hZ:=F 2 _ rfl;have i0:=F 3 _ rfl;have i1:=F 4 _ rfl;obtain⟨b1,e8,O,a4,i2⟩:=kR wr #[L.1,(s,x,y),z,(A,j,m),(B,C,n)] 39;obtain⟨P,bS,bT,g6⟩:=b7;have c0:P.length=i:=by rw[bT,aP];have:=(aH.1 hB).1;omega
   have i5:c.heap.size<=b1.heap.size:=aE N.size O.size;have b2:Hid (pW 7 P/\b1.ownsRow c 183 7 (u,i,v) i (kX P)/\(∀(l:Nat) (a3:Value) (bG:CR),P[l]? =some a3->(a.cs.take i)[l]? =some bG->LnR k c a3 bG)/\P.length=(a.cs.take i).length):=a8 ⟨bS.1,by have:=lL bS.2 O;rwa [c0]at this,g6,bT⟩;have b8:=a8 (a2.ext O);have g5:=a8 (N.trans O);have HC:Hid (∀b,Ext b1 b->b.cell? (c,15)=some (.slice u i v)/\b.cell? wr.heap.size=some (.int .i64 L.1)/\b.cell? (wr,1)=some (.slice s x y)/\b.cell? (wr,2)=some (.bool z)/\b.cell? (wr,3)=some (.slice A j m)/\b.cell? (wr,4)=some (.slice B C n)):=a8 λb o=>⟨((a2.ext O).ext o).cell 15,(a4.ext o).cell 0,(a4.ext o).cell 1,(a4.ext o).cell 2,(a4.ext o).cell 3,(a4.ext o).cell 4⟩
   have i3:=a8 (mP hB);have i6:=a8 c0;clear g2 bB F hU hP g3 hR hT bA g4 h9 fE hB N a2 bS bT g6 c0 O a4 i2 a1;go_upto_region 10 with(fail);rw[<-e8];clear e8 h8 hY hZ i0 i1;apply wpXB c 7 8 11 c 7 (i+1) 183 (u,i,v) (kX P) (isN [L.1,(s,x,y),z,(A,j,m),(B,C,n),false,()]) 181 c 15 (ckC t u i v).toList
    [kN _,kN _,kN _,kN _,kN (u,i,v),kN (.agg #[L.1,(s,x,y),z,(A,j,m),(B,C,n)]),kN (.agg #[L.1,(s,x,y),z,(A,j,m),(B,C,n),false,()]),LN 183 (isN [L.1,(s,x,y),z,(A,j,m),(B,C,n),false,()]) KS,kV,kN _,kN _,kV] [4,5] [(9,7),(10,7),(11,7)] g5.out b8.out ?st ?en hF kr rfl kr ?hc KS
   case hc=>intro l s b5;repeat (first |rfl |exact absurd rfl b5 | (rcases l with _ |l;first |rfl |exact absurd rfl b5))
   case st=>
    refine⟨oXb,oXb,oXb,oXb,oXb,oXb,oXb,?_,?_,oXb,oXb,?_,trivial⟩
    .intro bP r b hI p bR hS;have i7:r 6= .agg #[L.1,(s,x,y),z,(A,j,m),(B,C,n),false,()]:=p.1 rfl;exact lH (P:=prog) 179 183 1 7 _ [.agg #[L.1,(s,x,y),z,(A,j,m),(B,C,n),false,()]] rfl rfl underlying179 kr kr (by simp only[Act.eval];exact congrArg (λj0=> [(0,j0)]) i7) rfl om om om (by simp[Value.cells]) (λw' w5 a5=>⟨_,_,rfl,by simpa[Value.cells]using a5,rfl⟩)
    .intro bP r b hI p bR j1 hS;have j2:r 4=(u,i,v):=p.1 rfl;obtain⟨j3,_,j4,j5,rfl⟩:=p.2.1 rfl;exact FP (P:=prog) _ _ 179 i 120 [L.1,(s,x,y),z,(A,j,m),(B,C,n),false,()] j3 hI j1 (hS.2.1 rfl) rfl rfl underlying179 kr kr om j2 b2.out.2.1 j4 j5 rfl (by intro a3 g7;simp at g7;rcases g7 with rfl |rfl |rfl |rfl |rfl |rfl |rfl<;>rfl) om om i5 lr de rfl (λ_ _=>rfl)
    .intro bP r b hI p bR hS1 hS;have q10:r 10= .pointer (c,15):=p.1 rfl;exact vl1
   case en=>
    intro r e9 q4 j6 jA p;obtain⟨jB,jC,_,jD,g9,rfl,hA⟩:=jA;clear jD;have HJ1:Hid (VfJ k c t c (a.cs.take (i+1)) (i+1) e9):=a8 ⟨q4,jB,jC,hA,by
     rw[i3.out];exact OL.fin (R:=λ_=>LnR k c) (w':=e9) b2.out.1 b2.out.2.2.2 b2.out.2.2.1 hX.out (by rw[i6.out];exact g9) rfl (by simp[Value.oneCell'])⟩
    clear p g9 hA j6 q4;exact vh5
theorem af6:∃i0 z,prog.info? 4=some i0/\i0.size=1/\i0.bytes=1/\i0.zero=some z/\z.cells.size=1:=by
 have h1:(prog.info? 4).map (λi=>(i.size,i.bytes))=some (1,1):=kr;have h2:((prog.info? 4).bind (·.zero)).map (·.cells.size)=some 1:=kr
 cases h:prog.info? 4 with
 |none=>rw [h]at h1;cases h1
 |some i=>
  rw[h]at h1 h2;simp only[Option.map_some,Option.some.injEq,Prod.mk.injEq,Option.bind_some]at h1 h2
  cases hz:i.zero with
  |none=>rw [hz]at h2;cases h2
  |some z=>
   rw[hz]at h2;exact⟨i,z,rfl,h1.1,h1.2,hz,by simpa using h2⟩
theorem YI{t:TypeId}{w:World}(i:w.ownsRow f t 1 (j,a,b) a h)(m:0<a):∃g,j=some ⟨g,0,none⟩/\∀(c:Nat) (d:Value),h[c]? =some d->w.cell? ⟨g,c,none⟩=some d:=by
 obtain⟨g,k⟩:∃g,Value.slice j a b= .slice (some ⟨g,0,none⟩) a b:=by
  rcases i.2 with⟨e,_⟩ |⟨g,_,_,e, -⟩
  .omega
  .exact⟨g,by rw[e];cases e;rfl⟩
 cases k
 exact⟨g,rfl,λc d l=>by have:=World.ownsRow.cells i (g:=g) rfl c d l;rwa [nO,aY]at this⟩
theorem LZ(C a i:Nat)(s:Option Addr)(e:List Bool)(w:World)(j:w.ownsRow C 4 1 (s,a,i) a (e.map Value.bool))(D:0<a)(M:a<=1000):
  Calls prog 125 #[(s,a,i)] w λE u=>∃f,E= .returned f/\u.ownsRow w 4 1 f a (e.map Value.bool)/\Ext w u:=by
 obtain⟨g,rfl,k⟩:=YI j D;have:∀(w:World) (h:Option Addr) (a l m n:Nat),(binOp .eql 70 (.slice h a l) (.slice none m n)).run prog w= .ok h.isNone w:=λw h a l m n=>Lib.run_eql_slice_nil w _ _ h a l m n underlying70
 have o:(e.map Value.bool).length=a:=by have:=j.1;omega
 obtain⟨p,q⟩:=ex (e.map Value.bool);have F:Hid (∀b∈p,b.oneCell'=true):=a8 λb v=>by
  rw[q]at v;obtain⟨_, -,rfl⟩:=bJ.1 v;rfl
 rw[<-q]at k o ⊢;have HC:Hid (∀(c:Nat) (b:Value),p[c]? =some b->w.cell? ((⟨g,0,none⟩:Addr).add c)=some b):=a8 λc b r=>by rw[nO,aY];exact k c b r
 have H:=a8 o;obtain⟨I,J,x,y,z,A,B⟩:=af6;have d:=a8 (aD x (aD y (aD z (aD A B))));clear x y z A B j k o q;go_enter func125,ntmps125;go_wp2_with (at_builtin;refine wpList_append_own _ rfl _ _ 70 rfl w 4 I J 1 1 underlying70 d.out.1 d.out.2.2.2.1 d.out.2.1 d.out.2.2.1 d.out.2.2.2.2 om _ _ _ rfl (jY w #[] 0 lr zl sm) ⟨g,0,none⟩ a i p rfl ?qc1 ?qc2 ?qc3 ?qc4 ?qc5 ?qc6 ?_)
 case qc1=>rw [H.out];omega
 case qc2=>
  intro c b r;exact Lib.cell?_alloc_some _ (HC.out c b r)
 case qc3=>exact F.out
 case qc4=>rw [aY];unfold maxLen;omega
 case qc5=>rw [aY];omega
 case qc6=>simp
 intro f _ K L _;go_wp2;go_ret;refine⟨f,rfl,by simpa using K,?_⟩;exact Ext.step ((Ext.refl w).alloc _) (g:=w.heap.size) L lr
theorem M0(l a d:Nat)(f:Option Addr)(b:List ByteArray)(w:World)(h:w.ownsRow l 9 1 (f,a,d) a (b.map Value.string))(m:0<a)(r:a<=1000):
  Calls prog 124 #[(f,a,d)] w λi e=>∃c,i= .returned c/\e.ownsRow w 9 1 c a (b.map Value.string)/\Ext w e:=by
 obtain⟨g,rfl,n⟩:=YI h m;have j:b.length=a:=by have:=h.1;simp at this;exact this
 refine(slices_Clone_string g 0 a d b w om om λo p=> ?_).mono ?_
 .rw[aY];exact n o _ (by rw[aX,aO,aA p];rfl)
 .rintro i e ⟨c,rfl,k, -,q⟩;rw[<-j,bN,j]at k;exact⟨c,rfl,k,Ext.of_below q⟩
structure LgF (B K:Nat) (w:World) (s:LgS) (nm:List ByteArray) (bs:List Bool) (ob:List (Int×Rat)) (cs:List CR):Prop where
 nm:w.ownsRow B 9 1 (.slice s.na s.nn s.nc) s.nn (nm.map Value.string)
 bs:w.ownsRow B 4 1 (.slice s.wa s.wn s.wc) s.wn (bs.map Value.bool)
 ob:TO B K w (.slice s.oa s.on s.oc) ob
 cs:CoL B K w (.slice s.ca s.cn s.cc) cs
theorem LgF.ext{c d:Nat}{w e:World}{f:LgS}{h:List ByteArray}{i:List Bool}{j:List (Int×Rat)}{k:List CR}(a:LgF c d w f h i j k)(b:Ext w e):LgF c d e f h i j k:=⟨lL a.nm b,lL a.bs b,a.ob.ext b,a.cs.ext b⟩
theorem LgF.kp{B c j:Nat}{w d:World}{e:LgS}{f:List ByteArray}{h:List Bool}{i:List (Int×Rat)}{cs:List CR}(a:LgF B c w e f h i cs)(b:Kp j w d):LgF B c d e f h i cs:=⟨yO a.nm b de,yO a.bs b de,a.ob.keepT b.keepT,a.cs.kp b⟩
def uC(a b:World):Prop:=∀t g cs,(t=9∨t=4∨t=67∨t=165)->Bx t a g cs->Bx t b g cs
theorem Ext.keepS(a:Ext d e):uC d e:=λ_ _ _ _ b=>b.ext a
theorem uC.trans{a:World}(f:uC d e)(h:uC e a):uC d a:=λt g b c i=>h t g b c (f t g b c i)
theorem uC.keepT(a:uC d e):rI d e:=λt g b c f=>a t g b (by rcases c with a |a<;>simp [a]) f
theorem Chg.keepS{g:Nat}{t:TypeId}(a:Chg g d e)(f:Bx t d g k)(b:t≠9/\t≠4/\t≠67/\t≠165):uC d e:=λ_ _ _ h c=>c.chg a (by
 rintro rfl;have:=bxT c f;subst this
 rcases h with a |a |a |a
 .exact b.1 a
 .exact b.2.1 a
 .exact b.2.2.1 a
 .exact b.2.2.2 a)
theorem vI{t:TypeId}(j:d.ownsRow a t b c f h)(k:uC d e)(l:t=9∨t=4∨t=67∨t=165):e.ownsRow a t b c f h:=by
 refine⟨j.1,?_⟩;rcases j.2 with i |⟨g,m,n,o,i,p,q⟩
 .exact .inl i
 .exact .inr ⟨g,m,n,o,i,k _ _ _ l p,q⟩
def Fr(e:TypeId)(gc:Nat)(a b:World):Prop:=∀t g' cs,t≠e->g'≠gc->Bx t a g' cs->Bx t b g' cs
theorem Fr.row{t:TypeId}(n:Fr l a d e)(o:Bx m d a k)(i:d.ownsRow b t f c q h)(p:t≠l)(r:t≠m):e.ownsRow b t f c q h:=by
 refine⟨i.1,?_⟩;rcases i.2 with s |⟨g,u,v,x,y,j,z⟩
 .exact .inl s
 .exact .inr ⟨g,u,v,x,y,n _ _ _ p (by rintro rfl;exact r (bxT j o)) j,z⟩
theorem Fr.keepS(i:Fr l a d e)(j:Bx m d a k)(c:l≠9/\l≠4/\l≠67/\l≠165)(f:m≠9/\m≠4/\m≠67/\m≠165):uC d e:=λt g n b h=>by
 have o:t≠l:=by
  rintro rfl
  rcases b with b |b |b |b
  .exact c.1 b
  .exact c.2.1 b
  .exact c.2.2.1 b
  .exact c.2.2.2 b
 have p:t≠m:=by
  rintro rfl
  rcases b with b |b |b |b
  .exact f.1 b
  .exact f.2.1 b
  .exact f.2.2.1 b
  .exact f.2.2.2 b
 exact i t g n o (by rintro rfl;exact p (bxT h j)) h
def UD(g:Nat):World->Nat->List Value->World
 |w,_,[]=>w
 |w,k,x::xs=>UD g (w.setCell (g,k) x) (k+1) xs
theorem IM(g:Nat):∀(b:List Value) (w:World) (a:Nat),Chg g w (UD g w a b)
 | [],w,_=>Chg.refl g w
 |x::b,w,a=>(Chg.setCell w g a x).trans (IM g b _ (a+1))
theorem MW{t:TypeId}(g:Nat):∀(c a b:List Value) (w:World),Bx t w g (a++b).toArray->b.length=c.length->Bx t (UD g w a.length c) g (a++c).toArray
 | [],a,b,w,h,hl=>by
  rw[aL hl]at h;exact h
 |x::c,a,b,w,h,hl=>by
  cases b with
  |nil=>simp at hl
  |cons e b=>
   have d:=h.set a.length x;have f:(a++e::b).toArray.setIfInBounds a.length x=((a++ [x])++b).toArray:=sm;rw[f]at d;have:=MW g c (a++ [x]) b _ d (by simpa using hl);rw[aB]at this;simpa[UD]using this
theorem W7{g:Nat}{t:TypeId}(i:d.ownsRow a t b c f h)(l:Chg g d e)(m:c.ownBlock≠some g):e.ownsRow a t b c f h:=by
 refine⟨i.1,?_⟩;rcases i.2 with n |⟨o,p,q,j,r,k,s⟩
 .exact .inl n
 .exact .inr ⟨o,p,q,j,r,(Chg.heap l (qJ k) (by rintro rfl;exact m (by rw[j];rfl))).trans k,s⟩
theorem qX{t:TypeId}{w:World}{d:List Value}(h:w.ownsRow a t f c q d)(hB:b<=a):w.ownsRow b t f c q d:=by
 exact Ks0
def cpC(u:CrT)(ca:Option Addr)(cn cc:Nat)(da:Option Addr)(dn dc:Nat):Array Value:=#[(u.na,u.nn,u.nc),(u.wa,u.wn,u.wc),(u.oa,u.on,u.oc),(ca,cn,cc),(0:Int),false,false,u.lo.b,(u.lo.a1,u.lo.n1,u.lo.c1),(u.lo.a2,u.lo.n2,u.lo.c2),u.hi.b,(u.hi.a1,u.hi.n1,u.hi.c1),(u.hi.a2,u.hi.n2,u.hi.c2),(),(da,dn,dc)]
structure CpF (B K:Nat) (w:World) (u:CrT) (nm:List ByteArray) (bs:List Bool) (ob:List (Int×Rat)):Prop where
 nm:w.ownsRow B 9 1 (.slice u.na u.nn u.nc) u.nn (nm.map Value.string)
 bs:w.ownsRow B 4 1 (.slice u.wa u.wn u.wc) u.wn (bs.map Value.bool)
 ob:TO B K w (.slice u.oa u.on u.oc) ob
 lo:FrQ B w (qv u.lo) ((0:Int):Rat)
 hi:FrQ B w (qv u.hi) ((0:Int):Rat)
theorem CpF.keep{w:World}{f:CrT}{h:List (Int×Rat)}(c:CpF a b w f o n h)(e:uC w d):CpF a b d f o n h:=⟨vI c.nm e sm,vI c.bs e sm,c.ob.keepT e.keepT,c.lo.keepT e.keepT,c.hi.keepT e.keepT⟩
theorem RA.keepS{f b:Nat}{c d:World}(a:RA f 75 b c d):uC c d:=by
 unfold RA at a;by_cases e:b=0
 .rw[if_pos e]at a;exact a.keepS
 .rw[if_neg e]at a;obtain⟨g,_, -,h,i⟩:=a;exact i.keepS h de
def DG{S:Nat}(p:Value->World->Prop)(h:∀u a b,uC a b->p u a->p u b):PX (RA S 75):=⟨p,λ_=>false,λu a b he hp=>h u a b he.keepS hp,λi _ u a b hR hp=>h u a b hR.keepS hp⟩
def fmD(d:DR):DR:=⟨mW d.c,d.rs,mkV d.us,d.p1,d.p2,d.p3,d.p4⟩
def DyI(B K:Nat)(w1 w5:World)(gb:Nat)(d:DR)(o5:List Value)(oq:Value)(S:Nat->Bool)(wz:World):Prop:=
 Ext w1 wz/\Chg gb w5 wz/\∃s xa xn xp xb x1 m1 d1 x2 m2 d2 qa qn qc,Bx 110 wz gb #[.int .i64 s,.slice xa xn xp,.bool xb,.slice x1 m1 d1,.slice x2 m2 d2,d.rs,.slice qa qn qc,d.p1,d.p2,d.p3,d.p4]/\
  (S 0=false->o5=[.int .i64 s,.slice xa xn xp,.bool xb,.slice x1 m1 d1,.slice x2 m2 d2])/\(S 0=true->CnO B K wz (.agg #[.int .i64 s,.slice xa xn xp,.bool xb,.slice x1 m1 d1,.slice x2 m2 d2]) (mW d.c))/\(S 1=false->oq= .slice qa qn qc)/\(S 1=true->TO B K wz (.slice qa qn qc) (mkV d.us))
def CyJ(B K:Nat)(w1:World)(gc:Nat)(u:CrT)(nm:List ByteArray)(bs:List Bool)(ob:List (Int×Rat))(ys:List CR)(zs:List DR)(i j:Nat)(wr:World):Prop:=
 Ext w1 wr/\CpF B K wr u nm bs ob/\∃ca cc da dc,Bx 75 wr gc (cpC u ca i cc da j dc)/\CoL B K wr (.slice ca i cc) ys/\DeL B K wr (.slice da j dc) zs
theorem M5(hD kC k j g g2:Nat)(d:LgS)(b4:List DR)(n3:List (List Int))(a9:List ByteArray)(b0:List Bool)(A:List (Int×Rat))(o:List CR)(w:World)(h:nX hD kC w g d b4 n3)(hF:LgF hD k w d a9 b0 A o)(n4:0<d.nn)(i0:d.nn<=1000)(n9:0<d.wn)(nI:d.wn<=1000)(kD:mkV A=A)(vE:A.length<=1000)(p:k<=LIM)(kE:kC<=k)(g3:(g2+1)*(k+1)<=j)(vG:A.length<=g2)(w0:j<=1000000000)(o0:∀y∈o,y.2.1.length<=g2)(o1:∀a∈b4,a.c.2.1.length<=g2/\a.us.length<=g2)(w1:o.length<=1000)(w2:b4.length<=1000):
  Calls prog 67 #[(g,0)] w λe w'=>∃b O Q K L,e= .returned (.agg (cpC b O o.length Q K b4.length L))/\Ext w w'/\CpF w j w' b a9 b0 A/\CoL w j w' (.slice O o.length Q) (o.map mW)/\DeL w j w' (.slice K b4.length L) (b4.map fmD):=by
 obtain⟨c,kG,b7,l0,o2⟩:=kR w #[(),(),(),(),(0:Int),false,false,false,(),(),false,(),(),(),()] 75;have i1:=a8 (h.ext b7);have hE:=a8 (hF.ext b7);have o3:(A.length+1)*(k+1)<=j:=aE (aJ _ om) g3;have o5:A.length*(k+1)<=j:=aE (aJ _ om) o3;have w3:k+1<=j:=aE (cX _ om) g3;have HC:Hid (∀wz,Ext c wz->wz.cell? (g,4)=some (.slice d.na d.nn d.nc)/\wz.cell? (g,5)=some (.slice d.wa d.wn d.wc)/\wz.cell? (g,6)=some (.slice d.oa d.on d.oc)):=a8 λwz m=>by
  obtain⟨K,o8,L,p0,en,p1,u, -⟩:=i1.out;exact⟨(u.ext m).cell 4,(u.ext m).cell 5,(u.ext m).cell 6⟩
 have p2:=a8 kD;have p3:=a8 l0;clear h hF kD l0;go_enter func67,ntmps67;go_upto_region 1 with(fail);rw[<-kG];clear kG o2;apply wpXA 21 22 75 #[(),(),(),(),(0:Int),false,false,false,(),(),false,(),(),(),()] (λcells wz=>∃b,cells=cpC b none 0 0 none 0 0/\b.nn=d.nn/\b.wn=d.wn/\CpF c j wz b a9 b0 A)
  [kN _,kN _,kN _,kN _,kN (d.na,d.nn,d.nc),DG (λb wz=>wz.ownsRow c 9 1 b d.nn (a9.map Value.string)) (λb l n p h=>vI h p sm),
   kN _,kN _,kN _,kN _,kN (d.wa,d.wn,d.wc),DG (λb wz=>wz.ownsRow c 4 1 b d.wn (b0.map Value.bool)) (λb l n p h=>vI h p sm),
   kN _,kN _,kN _,kN _,kN (d.oa,d.on,d.oc),DG (λb wz=>TO c j wz b A) (λb l n p h=>h.keepT p.keepT),
   DG (λb wz=>FrQ c wz b ((0:Int):Rat)) (λb l n p h=>h.keepT p.keepT),DG (λb wz=>FrQ c wz b ((0:Int):Rat)) (λb l n p h=>h.keepT p.keepT),
   DG (λY wz=>∃b,Y= .agg (cpC b none 0 0 none 0 0)/\b.nn=d.nn/\b.wn=d.wn/\CpF c j wz b a9 b0 A) (λY l n p ⟨b,h1,h2,g4,g5⟩=>⟨b,h1,h2,g4,g5.keep p⟩),kV,kV] (λcells l n R ⟨b,h1,h2,g4,g5⟩=>⟨b,h1,h2,g4,g5.keep R.keepS⟩) ?st ?en hF kr rfl kr ?hc
 case hc=>intro k l;repeat (first |rfl | (rcases k with _ |k; · rfl))
 case st=>
  refine⟨oX,oX,oX,oX,oX,?_,oX,oX,oX,oX,oX,?_,oX,oX,oX,oX,oX,?_,?_,?_,?_,oA,?_,trivial⟩
  .intro S f wz hI hp hl hS;have e8:f 4=(d.na,d.nn,d.nc):=hp.1 rfl;refine oC (P:=prog) #[f 4] func124 rfl rfl ?_;rw[e8];refine(M0 hD d.nn d.nc d.na a9 wz (lL hE.out.nm hI.1) n4 i0).mono ?_;exact MC0
  .intro S f wz hI hp hl hS;have e8:f 10=(d.wa,d.wn,d.wc):=hp.1 rfl;refine oC (P:=prog) #[f 10] func125 rfl rfl ?_;rw[e8];refine(LZ hD d.wn d.wc d.wa b0 wz (lL hE.out.bs hI.1) n9 nI).mono ?_;exact MC0
  .intro S f wz hI hp hl hS;have e8:f 16=(d.oa,d.on,d.oc):=hp.1 rfl;refine oC (P:=prog) #[f 16] func50 rfl rfl ?_;rw[e8];refine(nF k _ A wz ((hE.out.ob.ext hI.1).tl p) om om).mono ?_;rw[p2.out];rintro e w' ⟨v',rfl,h1,h2⟩;exact⟨_,rfl,h2,(h1.mono hI.1.size).le o5⟩
  .exact yB9
  .exact yB9
  .intro S f wz hI hp hl hS;have i2:wz.ownsRow c 9 1 (f 5) d.nn (a9.map Value.string):=hp.1 rfl;have i3:wz.ownsRow c 4 1 (f 11) d.wn (b0.map Value.bool):=hp.2.1 rfl;have i4:TO c j wz (f 17) A:=hp.2.2.1 rfl;have i5:FrQ c wz (f 18) ((0:Int):Rat):=hp.2.2.2.1 rfl;have i6:FrQ c wz (f 19) ((0:Int):Rat):=hp.2.2.2.2.1 rfl;obtain⟨p4,p5,g6⟩:=lI i2;obtain⟨p6,p7,p8⟩:=lI i3;obtain⟨p9,pA,pB⟩:=i4.val;obtain⟨pC,pD,pE,pG,q0,q1,q2,q3, -⟩:=i5.opn;obtain⟨u,q4,i0,g7,q5,q6,g9,q7, -⟩:=i6.opn;rw[g6]at i2;rw[p8]at i3;rw[pB]at i4;rw[q3]at i5;rw[q7]at i6;have q8:CpF c j wz ⟨p4,d.nn,p5,p6,d.wn,p7,p9,A.length,pA,none,0,0,⟨pC,pD,pE,pG,q0,q1,q2⟩,⟨u,q4,i0,g7,q5,q6,g9⟩,none,0,0,none,0,0⟩ a9 b0 A:=⟨i2,i3,i4,i5,i6⟩;clear hp;simp only[kM];go_simp;exact⟨_,rfl,rE,_,rfl,rfl,rfl,q8⟩
  .intro S f wz hI hp hl hG hS;obtain⟨b,q9,h2,g4,g5⟩:∃b,f 20= .agg (cpC b none 0 0 none 0 0)/\b.nn=d.nn/\b.wn=d.wn/\CpF c j wz b a9 b0 A:=hp.2.1 rfl;exact L0 hI (hS.1 rfl) hG rfl rfl rfl q9 kr (by rfl) (by simp[cpC,Value.oneCell']) de (λl1 B _ u hc=>⟨b,rfl,h2,g4,g5.keep (hc.keepS u de)⟩)
 case en=>
  intro f B hI i7 hp;obtain⟨s,cells,l2,qA,v,b,rfl,qB,qC,M⟩:=i7;simp only[l2];have l3:Hid (CyJ c j c s b a9 b0 A ((o.take 0).map mW) [] 0 0 B):=a8 ⟨hI,M,none,0,none,0,v,OL.nil _ _ _ _ _,OL.nil _ _ _ _ _⟩;obtain⟨l4,j0⟩:=ex d.ca;have qD:=a8 j0;have qE:B.cell? (g,7)=some (.slice l4 d.cn d.cc):=by
   obtain⟨K,o8,L,p0,en,p1,u, -⟩:=i1.out;rw[j0];exact(u.ext hI).cell 7
  have qG:=(hE.out.cs.clP p).at;obtain⟨_,_,_,qL,b5, -,l5⟩:=qG;simp only[Value.slice.injEq]at b5;obtain⟨l6,hH,hv3⟩:=b5;have l7:d.cn=o.length:=om;have l9:=a8 l7;have w4:d.cn<=1000:=om;have r0:=a8 l5;have r1:=a8 l6;have lA:c.heap.size<=s:=qA;clear hp l2 qL l6 hH hv3 l5 j0 l7 v M hI;go_wp2_with fail;clear qE;go_loopw [35] (λj1 wr=>∃i:Nat,i<=d.cn/\j1= .int .i64 (i:Int)/\Hid (CyJ c j c s b a9 b0 A ((o.take i).map mW) [] i 0 wr)) (λj1 _=>((d.cn:Int) - intOf j1).toNat)
  case atStart=>exact ⟨0,zl,rfl,l3⟩
  case round=>
   obtain⟨i,lB,rfl,bR⟩:=hrel;clear l3;rcases aI lB with hJ |hJ
   .have hK:¬(i:Int)<d.cn:=om;have j2:CyJ c j c s b a9 b0 A (o.map mW) ((b4.take 0).map fmD) o.length 0 wr:=by
     have:=bR.out;rw[hJ,l9.out,bN]at this;exact this
    have lC:=a8 j2;obtain⟨r2,gA,r3,_,_,_,lD,r4,lE,r5,lG,r6⟩:=i1.out;have r7:wr.cell? (g,18)=some (.slice r2 gA r3):=(lD.ext j2.1).cell 18;have r8:=a8 lG;have hL:=a8 lE;have w5:gA<=1000:=om;clear bR j2 hJ lD lG r6 r5 lE r4;go_wp2_with fail;clear r7 hK lB;go_loopw [53] (λj3 wr=>∃x:Nat,x<=gA/\j3= .int .i64 (x:Int)/\Hid (CyJ c j c s b a9 b0 A (o.map mW) ((b4.take x).map fmD) o.length x wr)) (λj3 _=>((gA:Int) - intOf j3).toNat)
    case atStart=>exact ⟨0,zl,rfl,lC⟩
    case round=>
     obtain⟨x,b9,rfl,bR⟩:=hrel;clear lC;rcases aI b9 with j4 |j4
     .subst j4;obtain⟨b6,M,O,Q,K,L,v,bD,bA⟩:=bR.out;have m:=p3.out.ext b6;have m0:∀(c4 q r c5 c6 c7 c8 c9 e0 e1 e2 e3 e4 e5 e6:Value),Chg w wr (((((((((((((((wr.setCell w c4).setCell (w,1) q).setCell (w,2) r).setCell (w,3) c5).setCell (w,4) c6).setCell (w,5) c7).setCell (w,6) c8).setCell (w,7) c9).setCell (w,8) e0).setCell (w,9) e1).setCell (w,10) e2).setCell (w,11) e3).setCell (w,12) e4).setCell (w,13) e5).setCell (w,14) e6):=λc4 q r c5 c6 c7 c8 c9 e0 e1 e2 e3 e4 e5 e6=>IM w [c4,q,r,c5,c6,c7,c8,c9,e0,e1,e2,e3,e4,e5,e6] wr 0
      have w6:wr.cell? s=some (.slice b.na b.nn b.nc):=v.cell 0;have w7:wr.cell? (s,1)=some (.slice b.wa b.wn b.wc):=v.cell 1;have w8:wr.cell? (s,2)=some (.slice b.oa b.on b.oc):=v.cell 2;have w9:wr.cell? (s,3)=some (.slice O o.length Q):=v.cell 3;have wA:wr.cell? (s,4)=some (.int .i64 0):=v.cell 4;have wB:wr.cell? (s,5)=some (.bool false):=v.cell 5;have wC:wr.cell? (s,6)=some (.bool false):=v.cell 6;have wX:wr.cell? (s,7)=some (.bool b.lo.b):=v.cell 7;have x0:wr.cell? (s,8)=some (.slice b.lo.a1 b.lo.n1 b.lo.c1):=v.cell 8;have x1:wr.cell? (s,9)=some (.slice b.lo.a2 b.lo.n2 b.lo.c2):=v.cell 9;have x2:wr.cell? (s,10)=some (.bool b.hi.b):=v.cell 10;have x3:wr.cell? (s,11)=some (.slice b.hi.a1 b.hi.n1 b.hi.c1):=v.cell 11;have x4:wr.cell? (s,12)=some (.slice b.hi.a2 b.hi.n2 b.hi.c2):=v.cell 12;have x5:wr.cell? (s,13)=some (.slice none 0 0):=v.cell 13;have x6:wr.cell? (s,14)=some (.slice K x L):=v.cell 14;have x7:wr.cell? w.heap.size=some (.slice none 0 0):=m.cell 0;have x8:=m.free 0;have gG:wr.cell? (w,1)=some (.slice none 0 0):=m.cell 1;have gL:=m.free 1;have gT:wr.cell? (w,2)=some (.slice none 0 0):=m.cell 2;have h0:=m.free 2;have x9:wr.cell? (w,3)=some (.slice none 0 0):=m.cell 3;have y0:=m.free 3;have y1:wr.cell? (w,4)=some (.int .i64 0):=m.cell 4;have y2:=m.free 4;have y3:wr.cell? (w,5)=some (.bool false):=m.cell 5;have y4:=m.free 5;have y5:wr.cell? (w,6)=some (.bool false):=m.cell 6;have y6:=m.free 6;have y7:wr.cell? (w,7)=some (.bool false):=m.cell 7;have y8:=m.free 7;have y9:wr.cell? (w,8)=some (.slice none 0 0):=m.cell 8;have z0:=m.free 8;have z1:wr.cell? (w,9)=some (.slice none 0 0):=m.cell 9;have z2:=m.free 9;have z3:wr.cell? (w,10)=some (.bool false):=m.cell 10;have z4:=m.free 10;have z5:wr.cell? (w,11)=some (.slice none 0 0):=m.cell 11;have z6:=m.free 11;have z7:wr.cell? (w,12)=some (.slice none 0 0):=m.cell 12;have z8:=m.free 12;have z9:wr.cell? (w,13)=some (.slice none 0 0):=m.cell 13;have A0:=m.free 13;have A1:wr.cell? (w,14)=some (.slice none 0 0):=m.cell 14;have A2:=m.free 14;have hK:¬(x:Int)<x:=om;have r9:=a8 m;have rA:=a8 (aD M (aD bD bA));have rB:=a8 b6;have rC:=a8 m0;have rD:Hid (∀(c4 q r c5 c6 c7 c8 c9 e0 e1 e2 e3 e4 e5 e6:Value),Bx 75 (((((((((((((((wr.setCell w c4).setCell (w,1) q).setCell (w,2) r).setCell (w,3) c5).setCell (w,4) c6).setCell (w,5) c7).setCell (w,6) c8).setCell (w,7) c9).setCell (w,8) e0).setCell (w,9) e1).setCell (w,10) e2).setCell (w,11) e3).setCell (w,12) e4).setCell (w,13) e5).setCell (w,14) e6) w #[c4,q,r,c5,c6,c7,c8,c9,e0,e1,e2,e3,e4,e5,e6]):=a8 λc4 q r c5 c6 c7 c8 c9 e0 e1 e2 e3 e4 e5 e6=>MW w [c4,q,r,c5,c6,c7,c8,c9,e0,e1,e2,e3,e4,e5,e6] [] [(),(),(),(),(0:Int),false,false,false,(),(),false,(),(),(),()] wr m rfl
      clear v m M bD bA b6 bR m0;go_wp2;have m:=r9.out;have e9:∀eN,Chg w wr eN->Ext w eN/\CpF w j eN b a9 b0 A/\CoL w j eN (O,o.length,Q) (o.map mW)/\DeL w j eN (K,b4.length,L) (b4.map fmD):=λeN bS=>by
       have p:=bS.keepS m de;obtain⟨M,⟨h3,bB,eA,fA⟩,⟨j5,fB,e7,eB⟩⟩:=rA.out;rw[hL.out,bN]at e7 eB;refine⟨(b7.trans rB.out).step bS lr,⟨qX (vI M.nm p sm) b7.size,qX (vI M.bs p sm) b7.size,(M.ob.keepT p.keepT).mono b7.size,(M.lo.keepT p.keepT).mono b7.size,(M.hi.keepT p.keepT).mono b7.size⟩,⟨h3,⟨bB.1,qX (mF bB.2 bS m de) b7.size⟩,eA,λk b J l n=>((fA k b J l n).keepT p.keepT).mono b7.size⟩,⟨j5,⟨fB.1,by rw[<-hL.out];exact qX (mF fB.2 bS m de) b7.size⟩,e7,λk b J l n=>((eB k b J l n).keepT p.keepT).mono b7.size lr⟩⟩
      refine l8 2 75 w 75 _ _ kr rfl (rD.out _ _ _ _ _ _ _ _ _ _ _ _ _ _ _) underlying75 rfl kr rfl ?_;exact⟨b,O,Q,K,L,by unfold cpC;rw[qB,qC,<-hL.out]<;>rfl,e9 _ (rC.out _ _ _ _ _ _ _ _ _ _ _ _ _ _ _)⟩
     .have hK:(x:Int)<gA:=om;obtain⟨a,h4⟩:∃a,b4[x]? =some a:=⟨_,aA (by rw[<-hL.out];exact j4)⟩;obtain⟨rG,rfl,l,z,Z,n,a0,a1,a2,a3,a4,a5,bE,bG,bO,h5,h6,h7⟩:=r8.out.at h4;obtain⟨b6,M,O,Q,K,L,v,bD,bA⟩:=bR.out;have hM:Hid (CnR k c (.agg #[a.c.1,(l,z,Z),n,(a0,a1,a2),(a3,a4,a5)]) a.c/\TL k c (bE,bG,bO) a.us):=a8 ⟨(h6.le kE).cnR p,(h7.le kE).tl p⟩;have b8:=h5 wr b6;have j6:wr.cell? (rG,x*11)=some (.int .i64 a.c.1):=b8 0 _ rfl;have g7:=b8 1 _ rfl;have g9:=b8 2 _ rfl;have jA:=b8 3 _ rfl;have jB:=b8 4 _ rfl;have s0:=b8 5 _ rfl;have s1:=b8 6 _ rfl;have s2:=b8 7 _ rfl;have s4:=b8 8 _ rfl;have s5:=b8 9 _ rfl;have s6:=b8 10 _ rfl;obtain⟨N,h8,b1,bP,jC⟩:=kR wr #[a.c.1,(l,z,Z),n,(a0,a1,a2),(a3,a4,a5),a.rs,(bE,bG,bO),a.p1,a.p2,a.p3,a.p4] 110;have hN:=a8 (b6.trans b1);have m1:c.heap.size<=wr.heap.size:=b6.size;have Aa:wr.heap.size<N.heap.size:=om;have s7:=a8 (show CpF c j N b a9 b0 A/\Bx 75 N s (cpC b O o.length Q K x L)/\CoL c j N (O,o.length,Q) (o.map mW)/\DeL c j N (K,x,L) ((b4.take x).map fmD)/\s<wr.heap.size from⟨M.keep b1.keepS,v.ext b1,bD.ext b1,bA.ext b1,v.lt⟩);have jD:Hid ((b4.take (x+1)).map fmD=(b4.take x).map fmD++ [fmD a]):=a8 (by rw[mP h4,bY];rfl);have s8:=(aH.1 h4).1;have m2:((b4.take x).map fmD).length=x:=by rw[aF,aP];omega
      have s9:=a8 m2;obtain⟨_,_⟩:=o1 a (aM h4);have jE:(a.c.2.1.length+1)*(k+1)<=j:=aE (aJ _ om) g3;have jG:a.c.2.1.length*(k+1)<=j:=aE (aJ _ om) jE;have sC:(a.us.length+1)*(k+1)<=j:=aE (aJ _ om) g3;have u0:a.us.length*(k+1)<=j:=aE (aJ _ om) sC;have u1:a.c.2.1.length<=j:=by
       have:a.c.2.1.length+1<=(a.c.2.1.length+1)*(k+1):=eY _ om;omega
      have Ab:a.us.length<=j:=by
       have:a.us.length+1<=(a.us.length+1)*(k+1):=eY _ om;omega
      have m3:=a8 bP;have u2:Hid ((Value.slice K x L).ownBlock≠some wr):=a8 λh=>by
       obtain⟨a6,bT, -⟩:=bA;have:=(World.ownsRow.lt bT.2 _ h).2;omega
      have u3:DyI c j c N wr a [a.c.1,(l,z,Z),n,(a0,a1,a2),(a3,a4,a5)] (bE,bG,bO) (λ_=>false) N:=⟨hN.out,Chg.refl _ _,a.c.1,l,z,Z,n,a0,a1,a2,a3,a4,a5,bE,bG,bO,bP,λ_=>rfl,λh=>(by cases h),λ_=>rfl,λh=>(by cases h)⟩;clear h5 b8 h6 h7 h4 b6 v bD bA M b1 bP jC bR s8;go_upto_region 10 with(fail);rw[<-h8];clear h8 j6 g7 g9 jA jB s0 s1 s2 s4 s5 s6;apply mQ [7,9] (λ_ hO J=>Chg wr hO J/\∃o,Bx 110 hO wr o) (DyI c j c N wr a [a.c.1,(l,z,Z),n,(a0,a1,a2),(a3,a4,a5)] (bE,bG,bO))
       [kN _,kN (.agg #[a.c.1,.slice l z Z,.bool n,(a0,a1,a2),(a3,a4,a5)]),⟨λY w=>CnO c j w Y (mW a.c),λ_=>false,λY l n R h=>h.ext R,λ_ _ Y l n T h=>h.keepT (let ⟨_,u⟩:=T.2;T.1.keepS u de).keepT⟩,kN _,kN (bE,bG,bO),⟨λY w=>TO c j w Y (mkV a.us),λ_=>false,λY l n R h=>h.ext R,λ_ _ Y l n T h=>h.keepT (let ⟨_,u⟩:=T.2;T.1.keepS u de).keepT⟩,kN _,kV,kN _,kV] [] [] [] [(1,0,false),(4,1,false),(2,0,false)] [] ?ie u3 ?st ?en ?hcs sm kr kr hF
      case hcs=>
       intro k l _ _ _;rcases k with _ |_ |_ |_ |_ |_ |_ |_ |_ |_ |k<;>rfl
      case ie=>
       rintro S hO J R ⟨c0,bC,b2,C,D,E,F,q,H,d1,r,I,d2,U,V,X,b3,fC,eC,fD,eD⟩;exact⟨c0.trans R,bC.trans (R.chg _),b2,C,D,E,F,q,H,d1,r,I,d2,U,V,X,b3.ext R,fC,λh=>(eC h).ext R,fD,λh=>(eD h).ext R⟩
      case st=>
       refine⟨oX,?_,?_,oX,?_,?_,oX,?_,oX,?_,trivial⟩
       .intro S f wz hI hp hl hS;have u4:f 0= .pointer wr.heap.size:=hp.1 rfl;obtain⟨-, -,b2,C,D,E,F,q,H,d1,r,I,d2,U,V,X,b3,fC, -⟩:=hI;have:=fC (hS.1 rfl);simp only[List.cons.injEq,Value.int.injEq,Value.slice.injEq,Value.bool.injEq,true_and,and_true]at this;obtain⟨rfl,⟨rfl,rfl,rfl⟩,rfl,⟨rfl,rfl,rfl⟩,rfl,rfl,rfl⟩:=this;exact kW (P:=prog) _ _ wr 0 #[a.c.1,(l,z,Z),n,(a0,a1,a2),(a3,a4,a5)] _ rfl rfl u4 (λx Y b9=>(b3.cell (0+x)).trans (by
         rcases x with _ |_ |_ |_ |_ |x
         .exact b9
         .exact b9
         .exact b9
         .exact b9
         .exact b9
         .simp at b9)) underlying39 rfl kr rfl
       .intro S f wz hI hp hl hS;have fB:f 1= .agg #[a.c.1,(l,z,Z),n,(a0,a1,a2),(a3,a4,a5)]:=hp.1 rfl;refine oC (P:=prog) #[f 1] func46 rfl rfl ?_;rw[fB];refine(uE k j _ a.c wz (hM.out.1.ext hI.1) om om jG om).mono ?_;exact cz7
       .intro S f wz hI hp hl hS;have eB:f 3= .pointer (wr,6):=hp.1 rfl;obtain⟨-, -,b2,C,D,E,F,q,H,d1,r,I,d2,U,V,X,b3, -, -,fD, -⟩:=hI;have u5:=fD (hS.2.1 rfl);have hc:=b3.cell 6;clear hp;rw[<-u5]at hc;exact DG6
       .intro S f wz hI hp hl hS;have e8:f 4=(bE,bG,bO):=hp.1 rfl;refine oC (P:=prog) #[f 4] func50 rfl rfl ?_;rw[e8];refine(nF k _ a.us wz (hM.out.2.ext hI.1) om om).mono ?_;rintro e w' ⟨v',rfl,h1,h2⟩;exact⟨_,rfl,h2,(h1.mono hI.1.size).le u0⟩
       .intro S f wz hI hp hl hP hS;have k0:f 6= .pointer wr.heap.size:=hp.1 rfl;have e7:CnO c j wz (f 2) (mW a.c):=hp.2.1 rfl;obtain⟨c0,bC,b2,C,D,E,F,q,H,d1,r,I,d2,U,V,X,b3,fC,eC,fD,eD⟩:=hI;obtain⟨c1,c2,hR,hT,gL,gG,hU,h0,gT,hV,hH,_⟩:=id e7;rw[hH]at e7;have e9:∀B,Chg wr wz B->Bx 110 B wr #[.int .i64 (mW a.c).1,(c1,c2,hR),hT,(gL,gG,hU),(h0,gT,hV),a.rs,(U,V,X),a.p1,a.p2,a.p3,a.p4]->DyI c j c N wr a [a.c.1,(l,z,Z),n,(a0,a1,a2),(a3,a4,a5)] (bE,bG,bO) (onS S 0) B:=λB hc u=>
         have p:=(hc.keepS b3 de).keepT;⟨c0.step hc m1,bC.trans hc,_,c1,c2,hR,hT,gL,gG,hU,h0,gT,hV,U,V,X,u,λh=>(by simp[onS]at h),λ_=>e7.keepT p,λh=>fD (by simpa[onS]using h),λh=>(eD (by simpa[onS]using h)).keepT p⟩
        exact kM.mono2 (R:=Chg wr) (p:=λ_ B=>Bx 110 B wr.heap.size #[.int .i64 (mW a.c).1,.slice c1 c2 hR,.bool hT,.slice gL gG hU,.slice h0 gT hV,.int .i64 a.rs,.slice U V X,.int .i64 a.p1,.int .i64 a.p2,.int .i64 a.p3,.int .i64 a.p4]/\Chg wr.heap.size wz B) (λY B T b5=>⟨⟨T,_,b3⟩,e9 B T b5.1,trivial⟩) (λb5=>⟨e9 wz b5.2 b5.1,trivial⟩) (oN (P:=prog) wr 0 110 _ [b2,(C,D,E),F,(q,H,d1),(r,I,d2),a.rs,(U,V,X),a.p1,a.p2,a.p3,a.p4] #[.int .i64 (mW a.c).1,(c1,c2,hR),hT,(gL,gG,hU),(h0,gT,hV)] _ _ rfl rfl k0 hH kr b3 (by show 0+5<=11;omega) (by simp[Value.oneCell']) (λw' hc k1 _=>⟨k1,hc⟩))
       .intro S f wz hI hp hl hG hS;have u6:f 8= .pointer (wr,6):=hp.1 rfl;have g6:TO c j wz (f 5) (mkV a.us):=hp.2.1 rfl;obtain⟨c0,bC,b2,C,D,E,F,q,H,d1,r,I,d2,U,V,X,b3,fC,eC,fD,eD⟩:=hI;obtain⟨c1,hW,k2⟩:=g6.val;obtain⟨c2,u7⟩:=ex ((mkV a.us).length);rw[<-u7]at k2;rw[k2]at g6;have e9:∀B,Chg wr wz B->Bx 110 B wr #[b2,(C,D,E),F,(q,H,d1),(r,I,d2),a.rs,(c1,c2,hW),a.p1,a.p2,a.p3,a.p4]->DyI c j c N wr a [a.c.1,(l,z,Z),n,(a0,a1,a2),(a3,a4,a5)] (bE,bG,bO) (onS S 1) B:=λB hc u=>
         have p:=(hc.keepS b3 de).keepT;⟨c0.step hc m1,bC.trans hc,_,C,D,E,F,q,H,d1,r,I,d2,c1,c2,hW,u,λh=>fC (by simpa[onS]using h),λh=>(eC (by simpa[onS]using h)).keepT p,λh=>(by simp[onS]at h),λ_=>g6.keepT p⟩
        exact kM.mono2 (R:=Chg wr) (p:=λ_ B=>Bx 110 B wr.heap.size #[.int .i64 b2,.slice C D E,.bool F,.slice q H d1,.slice r I d2,.int .i64 a.rs,.slice c1 c2 hW,.int .i64 a.p1,.int .i64 a.p2,.int .i64 a.p3,.int .i64 a.p4]/\Chg wr.heap.size wz B) (λY B T b5=>⟨⟨T,_,b3⟩,e9 B T b5.1,trivial⟩) (λb5=>⟨e9 wz b5.2 b5.1,trivial⟩) (qV (P:=prog) wr 6 110 _ [b2,(C,D,E),F,(q,H,d1),(r,I,d2),a.rs,(U,V,X),a.p1,a.p2,a.p3,a.p4] c1 c2 hW _ _ rfl rfl u6 k2 kr b3 (by show 6<11;omega) (λw' hc k1 _=>⟨k1,hc⟩))
      case en=>
       intro f a7 hI hp;obtain⟨c0,bC,b2,C,D,E,F,q,H,d1,r,I,d2,U,V,X,b3, -,eC, -,eD⟩:=hI;have k3:=eC rfl;have m4:=eD rfl;have u8:Hid (vT c j a7 (.agg #[b2,(C,D,E),F,(q,H,d1),(r,I,d2),a.rs,(U,V,X),a.p1,a.p2,a.p3,a.p4]) (fmD a)):=a8 (by
        obtain⟨_,_,_,_,_,_,_,_,_,_,b5, -⟩:=id k3
        cases b5
        exact⟨C,D,E,F,q,H,d1,r,I,d2,U,V,X,rfl,k3,m4⟩)
       obtain⟨M,v,bD,bA,_⟩:=s7.out;have hX:uC N a7:=λt g o eE u=>by
        exact bC.keepS (show Bx 110 N wr #[a.c.1,(l,z,Z),n,(a0,a1,a2),(a3,a4,a5),a.rs,(bE,bG,bO),a.p1,a.p2,a.p3,a.p4]from m3.out) de t g o eE u
       have fE:Bx 75 a7 s (cpC b O o.length Q K x L):=v.chg bC om;have Ac:a7.cell? (s,14)=some (.slice K x L):=fE.cell 14;obtain⟨d0,_,_,d3,d4,d5,d6,d7,d8,d9,d10,-⟩:=b3.cl [0,1,2,3,4,5,6,7,8,9,10];obtain⟨a6,bT,eG,h9⟩:=bA;have hA:a6.length=x:=by rw[eG];exact s9.out
       have k4:LS 110 11 c a7 (K,x,L) a6:=⟨bT.1,W7 bT.2 bC u2.out⟩;subst hA;have c3:=(Ext.refl a7).alloc (.cells #[b2,(C,D,E),F,(q,H,d1),(r,I,d2),a.rs,(U,V,X),a.p1,a.p2,a.p3,a.p4] 110);have k5:=a8 (show LS 110 11 c (a7.alloc (.cells #[b2,(C,D,E),F,(q,H,d1),(r,I,d2),a.rs,(U,V,X),a.p1,a.p2,a.p3,a.p4] 110)) (K,a6.length,L) a6 from⟨k4.1,lL k4.2 c3⟩);have m5:=a8 (aD eG (λk b J l n=>(h9 k b J l n).keepT hX.keepT));have u9:=a8 (fE.ext c3);have v0:=a8 ((M.keep hX).keep c3.keepS);have v1:Hid (CoL c j (a7.alloc (.cells #[b2,(C,D,E),F,(q,H,d1),(r,I,d2),a.rs,(U,V,X),a.p1,a.p2,a.p3,a.p4] 110)) (O,o.length,Q) (o.map mW)):=a8 (by
        obtain⟨h3,bB,eA,fA⟩:=bD;exact(OL.ext (R:=CnO c j) ⟨h3,⟨bB.1,mF bB.2 bC m3.out de⟩,eA,λk b J l n=>(fA k b J l n).keepT hX.keepT⟩ c3 λ_ _ h=>h.ext c3))
       have v2:=a8 (c0.trans c3);have Ad:=c0.size;have Ae:a6.length<=1000:=om;clear hp c0 bC b3 eC eD k3 m4 M v bD hX bT eG h9 k4 fE c3 m2;go_wp2_with (first
        | (at_builtin;go_loud (refine nR rfl _ _ 73 rfl 110 11 152 c underlying73 kr kr om _ a6 rfl k5.out ⟨a7.heap.size,0,none⟩ #[b2,(C,D,E),F,(q,H,d1),(r,I,d2),a.rs,(U,V,X),a.p1,a.p2,a.p3,a.p4] rfl rfl (vP _ _ _) (by simp[Value.oneCell']) om om (by rw[nD];omega) ?_);intro m6 m7 k6 m8 mA _ _;have fG:=u9.out.growO mA k5.out.2 de;have Af:=fG.cell 14;have f14:=fG.free 14)
        |fail)
       go_roundw
       case rel=>
        have c3:=(Ext.refl a7).alloc (.cells #[b2,(C,D,E),F,(q,H,d1),(r,I,d2),a.rs,(U,V,X),a.p1,a.p2,a.p3,a.p4] 110);have hB:Grw c 110 11 (K,a6.length,L) _ k6:=⟨mA,_,_,k5.out.2⟩;have k7:uC _ k6:=λt g o eE u=>hB.bx u (by rcases eE with rfl |rfl |rfl |rfl<;>decide)
        have bS:=Chg.setCell k6 s 14 (m6,a6.length+1,m7);have k8:=bS.keepS fG de;have mB:=(c3.keepS.trans k7).trans k8;refine⟨a6.length+1,om,ci om,a8 ⟨(hB.ext v2.out lr).step bS lA,(v0.out.keep k7).keep k8,O,Q,some ⟨m6,0,none⟩,m7,fG.set 14 _,?_,?_⟩⟩
        .obtain⟨h3,bB,eA,fA⟩:=v1.out;exact⟨h3,⟨bB.1,mF (hB.row bB.2 de) bS fG de⟩,eA,λk b J l n=>(fA k b J l n).keepT (k7.trans k8).keepT⟩
        .rw[jD.out];exact OL.app (w:=a7) m5.out.1 m5.out.2 ⟨m8.1,mF m8.2 bS fG de⟩ (λb J h=>h.keepT mB.keepT) (u8.out.keepT mB.keepT)
       case measure=>simp [intOf];omega
   .have hK:(i:Int)<d.cn:=om;obtain⟨y,hC⟩:∃y,o[i]? =some y:=⟨_,aA (by rw[<-l9.out];exact hJ)⟩;obtain⟨b6,M,O,Q,K,L,v,bD,bA⟩:=bR.out;obtain⟨l1,v3,mC,l,z,Z,n,a0,a1,a2,a3,a4,a5,h5,h6,h7⟩:=r0.out i y hC;have v4:l4=some ⟨l1,v3,none⟩:=qD.out.trans (r1.out.trans mC);subst v4;have hM:Hid (CnR k c (.agg #[y.1,(l,z,Z),n,(a0,a1,a2),(a3,a4,a5)]) y):=a8 ⟨_,_,_,_,_,_,_,_,_,_,rfl,h6,h7⟩;obtain⟨j6,g7,g9,jA,jB⟩:=h5 wr b6;obtain⟨N,h8,b1,bP,jC⟩:=kR wr #[y.1,(l,z,Z),n,(a0,a1,a2),(a3,a4,a5)] 39;obtain⟨a6,bT,eG,h9⟩:=bD;have hA:a6.length=i:=by rw[eG,aF,aP];have:=(aH.1 hC).1;omega
    have mD:c.heap.size<=N.heap.size:=aE b6.size b1.size;have hY:Hid (pW 5 a6/\N.ownsRow c 39 5 (O,i,Q) i (kX a6)/\(∀(k:Nat) (b:Value) (J:CR),a6[k]? =some b->((o.take i).map mW)[k]? =some J->CnO c j N b J)/\a6.length=((o.take i).map mW).length):=a8 ⟨bT.1,by have:=lL bT.2 b1;rwa [hA]at this,λk b J l n=>(h9 k b J l n).ext b1,eG⟩;have k9:=a8 (v.ext b1);have hN:=a8 (b6.trans b1);have v5:=a8 (M.keep b1.keepS);have v6:=a8 (bA.ext b1);have mE:Hid (∀wz,Ext N wz->wz.cell? (s,3)=some (.slice O i Q)/\wz.cell? wr.heap.size=some (.int .i64 y.1)/\wz.cell? (wr,1)=some (.slice l z Z)/\wz.cell? (wr,2)=some (.bool n)/\wz.cell? (wr,3)=some (.slice a0 a1 a2)/\wz.cell? (wr,4)=some (.slice a3 a4 a5)):=a8 λwz m=>⟨((v.ext b1).ext m).cell 3,(bP.ext m).cell 0,(bP.ext m).cell 1,(bP.ext m).cell 2,(bP.ext m).cell 3,(bP.ext m).cell 4⟩
    have jD:Hid ((o.take (i+1)).map mW=(o.take i).map mW++ [mW y]):=a8 (by rw[mP hC,bY];rfl);have v7:=a8 hA;have Ag:=o0 y (aM hC);have jE:(y.2.1.length+1)*(k+1)<=j:=aE (aJ _ om) g3;have jG:y.2.1.length*(k+1)<=j:=aE (aJ _ om) jE;have u1:y.2.1.length<=j:=by
     have:y.2.1.length+1<=(y.2.1.length+1)*(k+1):=eY _ om;omega
    have Ah:=HC;clear HC;have HC:=mE;clear mE h5 h6 h7 hC b6 v bT eG h9 hA b1 bP jC bR M bA mC;go_upto_region 5 with(fail);rw[<-h8];clear h8 j6 g7 g9 jA jB;apply wpXB c 4 5 7 c 5 (i+1) 39 (O,i,Q) (kX a6) (λz w=>CnO c j w (.agg z.toArray) (mW y)) 75 s 3 (cpC b O i Q K 0 L).toList
     [kN _,kN (O,i,Q),kN (.agg #[y.1,.slice l z Z,.bool n,(a0,a1,a2),(a3,a4,a5)]),⟨λY w=>CnO c j w Y (mW y),λ_=>false,λY l n R h=>h.ext R,?s3⟩,LN 39 (λz w=>CnO c j w (.agg z.toArray) (mW y)) (λz l n R h=>h.ext R),kV,kN _,kV] [1,2,3] [(6,4),(7,4)] hN.out k9.out ?st ?en hF kr rfl kr ?hc (λz l n R h=>h.ext R)
    case hc=>intro k l p;repeat (first |rfl |exact absurd rfl p | (rcases k with _ |k;first |rfl |exact absurd rfl p))
    case s3=>
     intro x _ Y hO J T h;unfold RB at T;by_cases b9:x=0
     .rw[if_pos b9]at T;exact h.keepT λt g o eE u=>T.bx u (by rcases eE with rfl |rfl<;>decide)
     .rw[if_neg b9]at T;exact h.keepT (T.1.keepS T.2 de).keepT
    case st=>
     refine⟨oXb,oXb,oXb,?_,?_,?_,oXb,?_,trivial⟩
     .intro S f wz hI hp hl hS;have hP:S 0=false:=by simpa[xY,tbB]using hS
      have mG:=hI.2.1 hP;have e7:f 2= .agg #[y.1,(l,z,Z),n,(a0,a1,a2),(a3,a4,a5)]:=hp.1 rfl;refine oC (P:=prog) #[f 2] func46 rfl rfl ?_;rw[e7];refine(uE k j _ y wz (hM.out.ext (hN.out.trans mG)) om om jG om).mono ?_;rintro e w' ⟨v',rfl,h1,h2⟩;exact⟨_,rfl,h2,h1.mono (aE mD mG.size)⟩
     .intro S f wz hI hp hl hS;have eB:CnO c j wz (f 3) (mW y):=hp.1 rfl;obtain⟨C,D,E,F,q,H,d1,r,I,d2,hv3, -⟩:=id eB;rw[hv3]at eB;exact lH (P:=prog) 71 39 1 5 _ [f 3] rfl rfl underlying71 kr kr rfl rfl om om om (by rw[hv3];simp[Value.cells]) (λw' R u=>⟨_,_,rfl,by rw[hv3]at u;simpa[Value.cells]using u,eB.ext R⟩)
     .intro S f wz hI hp hl hP hS;have fB:f 1=(O,i,Q):=hp.1 rfl;obtain⟨v8,hZ,v9,vA,g0⟩:=hp.2.1 rfl;obtain⟨C,D,E,F,q,H,d1,r,I,d2,hv3, -⟩:=id g0;have g1:hZ=[.int .i64 (mW y).1,.slice C D E,.bool F,.slice q H d1,.slice r I d2]:=ZS2;exact FP (P:=prog) _ _ 71 i 88 hZ v8 hI hP (hS.2.1 rfl) rfl rfl underlying71 kr kr om fB hY.out.2.1 v9 vA (by rw[g1];rfl) (by rw[g1];intro b n0;simp at n0;rcases n0 with rfl |rfl |rfl |rfl |rfl<;>rfl) om om mD lr de rfl (λw' hB=>g0.keepT λt g o eE u=>hB.bx u (by rcases eE with rfl |rfl<;>decide))
     .intro S f wz hI hp hl hG hS;have k0:f 6= .pointer (s,3):=hp.1 rfl;exact FQ hI (hS.1 rfl) hG rfl rfl k0 rfl kr (by show 3<15;omega) de lA de (λz l n hc u h=>h.keepT (hc.keepS u de).keepT)
    case en=>
     intro f a7 n1 kA i7 hp;obtain⟨vB,vC,hZ,vD,n2,g0,fE⟩:=i7;clear vD;have kB:uC N a7:=Fr.keepS (show Fr 39 s N a7 from kA) k9.out de de;obtain⟨C,D,E,F,q,H,d1,r,I,d2,hv3, -⟩:=id g0;have g1:hZ=[.int .i64 (mW y).1,.slice C D E,.bool F,.slice q H d1,.slice r I d2]:=ZS2;have HJ1:Hid (CyJ c j c s b a9 b0 A ((o.take (i+1)).map mW) [] (i+1) 0 a7):=a8 ⟨n1,v5.out.keep kB,vB,vC,K,L,fE,by
      rw[jD.out];exact OL.fin (R:=CnO c j) (w':=a7) hY.out.1 hY.out.2.2.2 (λk b J l n=>(hY.out.2.2.1 k b J l n).keepT kB.keepT) g0 (by rw[v7.out];exact n2) (by rw[g1];rfl) (by rw[g1];simp[Value.oneCell']),by
      obtain⟨j5,bB,eA,fA⟩:=v6.out;exact⟨j5,⟨bB.1,Fr.row (show Fr 39 s N a7 from kA) k9.out bB.2 de de⟩,eA,λk b J l n=>by simp at n⟩⟩
     clear hp n2 fE kA n1 g0 hv3 g1 kB;exact vh5
def nmS:List ByteArray:=[⟨#[120]⟩]
def pS:PbR:=([((false,true,0,3),[(0,2)])],[(true,(true,true,0,4), -1)])
def csS:List CR:=[(1,[(0,2)],3),(2,[(0,1)],0),(1,[(0,1)],4)]
def obS:List (Int×Rat):=[(0, -1)]
def usA:List (Int×Rat):=[(0,mkRat 1 2)]
def usB:List (Int×Rat):=[(3, -1)]
def dA:DR:=⟨(1,[(0,1)],1),3,usA,0,0,0,0⟩
def dB:DR:=⟨(2,[(0, -1)], -1),2,usB,0,0,0,0⟩
def neS:List (List Int):=[[],[],[]]
theorem conS:rJ pS=csS:=by decide+kernel
theorem objS:tV pS=obS:=by decide+kernel
theorem whlS:tZ pS=[true]:=by decide+kernel
theorem yY:mkV usA=usA:=by decide+kernel
theorem IV:mkV usB=usB:=by decide+kernel
theorem ag5:mkV obS=obS:=by decide+kernel
theorem ae8:csS.map mW=csS:=by decide+kernel
theorem ai3:fmD dA=dA:=by
 have h1:mW dA.c=dA.c:=by decide+kernel
 have h2:mkV dA.us=dA.us:=by decide+kernel
 unfold fmD;rw[h1,h2]
theorem ai4:fmD dB=dB:=by
 have h1:mW dB.c=dB.c:=by decide+kernel
 have h2:mkV dB.us=dB.us:=by decide+kernel
 unfold fmD;rw[h1,h2]
theorem rndS:FB csS [] neS [true] usA 1=some dA:=by
 unfold FB;have h1:(usA.all λu=>pM u.1 neS.length)=true:=by decide+kernel
 have h2:rK (usC csS [] usA) (usA.map (·.2)) 1=0:=by decide+kernel
 have h3:rR (oD (usC csS [] usA) (usA.map (·.2)) 1) [true]=0:=by decide+kernel
 have h4:(1,(n7 (oD (usC csS [] usA) (usA.map (·.2)) 1)).2)=dA.c:=by decide+kernel
 rw[h1,h2,h3];simp only[if_true];unfold PD;rw[h4];rfl
theorem sumS(b:List Int):JS csS [dA] (neS++ [b]) usB 2=some dB:=by
 unfold JS;have c:(usB.all λa=>pM a.1 (neS++ [b]).length)=true:=by
  rw[aB];exact(by decide+kernel:(usB.all λa=>pM a.1 4)=true)
 have d:rK (usC csS [dA] usB) (usB.map (·.2)) 2=0:=by decide+kernel
 have e:oD (usC csS [dA] usB) (usB.map (·.2)) 2=dB.c:=by decide+kernel
 rw[c,d];simp only[if_true];unfold PS;rw[e];rfl
theorem XE:CH pS [1]= -1:=by decide+kernel
theorem ad8:xA pS [1]=true:=by decide+kernel
theorem gatS:mkV (gaN [1] 1)=[(0,1)]:=by decide+kernel
theorem scaS:scL [(0,1)] 1=[1]:=by decide+kernel
theorem scoS:uP [(0,1)] (1:Int)=true:=by decide+kernel
def crS:CrV:=⟨nmS,[true],obS,csS, -1, -1,[[(0,1)]],[dA,dB]⟩
theorem aj3:J0 ⟨#[120]⟩=true:=by decide+kernel
theorem crgS:CrG crS:=by
 refine⟨rfl,by decide+kernel,λs hs=> ?_,λc hc=> ?_,λm hm=> ?_,λi d hi=> ?_⟩
 .rw[aC.1 hs];exact aj3
 .have:(csS.all λc=>M6 crS.nm.length c)=true:=by decide+kernel
  exact cA.1 this c hc
 .rw[aC.1 hm];decide+kernel
 .have h1:V7 crS.nm.length (crS.cs.length+0) dA=true:=by decide+kernel
  have h2:V7 crS.nm.length (crS.cs.length+1) dB=true:=by decide+kernel
  rcases i with _ |_ |i
  .cases hi
   exact h1
  .cases hi
   exact h2
  .cases hi
theorem stgA:StG 700 [true] csS dA:=by
 refine⟨700,1,1,1402,1402,1402,1403,1,?_,by decide+kernel,de,de,?_,by decide+kernel,de,de,de,de,de,de,de,de,by decide+kernel,.inr ⟨rfl,by decide+kernel⟩,by decide+kernel,by decide+kernel,by decide+kernel,by decide+kernel,de,de,by decide+kernel,by decide+kernel,by decide+kernel,de,de,de⟩
 .have:(dA.us.all λu=>pM u.1 csS.length)=true:=by decide+kernel
  exact cA.1 this
 .have:((usL csS dA.us).all λc=>decide (c.2.1.length<=1))=true:=by decide+kernel
  exactλc hc=>of_decide_eq_true (cA.1 this c hc)
theorem stgB:StG 700 [true] (csS++ [dA.c]) dB:=by
 refine⟨700,1,1,1402,1402,1402,1403,1,?_,by decide+kernel,de,de,?_,by decide+kernel,de,de,de,de,de,de,de,de,by decide+kernel,.inl rfl,by decide+kernel,by decide+kernel,by decide+kernel,by decide+kernel,de,de,by decide+kernel,by decide+kernel,by decide+kernel,de,de,de⟩
 .have:(dB.us.all λu=>pM u.1 (csS++ [dA.c]).length)=true:=by decide+kernel
  exact cA.1 this
 .have:((usL (csS++ [dA.c]) dB.us).all λc=>decide (c.2.1.length<=1))=true:=by decide+kernel
  exactλc hc=>of_decide_eq_true (cA.1 this c hc)
theorem stgS:∀(i:Nat) (d:DR),crS.ds[i]? =some d->StG 700 crS.bs (crS.cs++(crS.ds.take i).map (·.c)) d:=by
 intro i d hi;rcases i with _ |_ |i
 .cases hi
  exact stgA
 .cases hi
  exact stgB
 .cases hi
theorem domS:vX dB.c (2,crS.ob,crS.lo)=true:=by decide+kernel
def F8(r:RwR):RwR:=(r.1,mkV r.2)
def VrN(k:Nat)(w:World)(v:Value)(r:ByteArray×VrR):Prop:=∃(l h c:QC),v= .agg #[r.1,r.2.1,r.2.2.1.1,r.2.2.1.2.1,l.b,(l.a1,l.n1,l.c1),(l.a2,l.n2,l.c2),h.b,(h.a1,h.n1,h.c1),(h.a2,h.n2,h.c2),c.b,(c.a1,c.n1,c.c1),(c.a2,c.n2,c.c2)]/\SpV k w l h r.2.2.1/\IsR w (.agg #[c.b,(c.a1,c.n1,c.c1),(c.a2,c.n2,c.c2)]) r.2.2.2 k
def VnN(k:Nat)(w:World)(v:Value)(l:List (ByteArray×VrR)):Prop:=SL 13 (VrN k) w v l
theorem VrN.ext{b:Nat}{w c:World}{d:Value}{e:ByteArray×VrR}(a:VrN b w d e)(f:Ext w c):VrN b c d e:=by
 obtain⟨h,a,i,j,k,l⟩:=a;exact⟨h,a,i,j,k.ext f,l.ext f⟩
theorem VnN.ext{b:Nat}{w c:World}{d:Value}{e:List (ByteArray×VrR)}(a:VnN b w d e)(f:Ext w c):VnN b c d e:=SL.ext (λ_ _ a=>a.ext f) a f
def RwP(B K:Nat)(w:World)(v:Value)(r:RwR):Prop:=∃(nm:ByteArray) (l:QC) (h:QC) (ta:Option Addr) (tn tc:Nat),v= .agg #[nm,r.1.1,r.1.2.1,l.b,(l.a1,l.n1,l.c1),(l.a2,l.n2,l.c2),h.b,(h.a1,h.n1,h.c1),(h.a2,h.n2,h.c2),(ta,tn,tc)]/\FrQ B w (.agg #[l.b,(l.a1,l.n1,l.c1),(l.a2,l.n2,l.c2)]) r.1.2.2.1/\FrQ B w (.agg #[h.b,(h.a1,h.n1,h.c1),(h.a2,h.n2,h.c2)]) r.1.2.2.2/\TO B K w (ta,tn,tc) r.2/\szQ r.1.2.2.1<=K/\szQ r.1.2.2.2<=K
theorem RwP.keepT{c d:Nat}{w e:World}{f:Value}{h:RwR}(a:RwP c d w f h)(b:rI w e):RwP c d e f h:=by
 obtain⟨i,j,a,k,l,m,n,o,p,q,r⟩:=a;exact⟨i,j,a,k,l,m,n,o.keepT b,p.keepT b,q.keepT b,r⟩
theorem RwP.rwv{w:World}{f:RwR}(d:RwP b a w c f)(e:a<=LIM):RwV a w c f:=by
 obtain⟨h,i,d,j,k,l,m,n,o,p,q,r⟩:=d;exact⟨h,i,d,j,k,l,m,⟨n.isR q e,o.isR r e⟩,p.tl e⟩
def RoI(B K:Nat)(w1 w5:World)(gb:Nat)(nm:ByteArray)(r:RwR)(l:QC)(h:QC)(ta:Option Addr)(tn tc:Nat)(S:Nat->Bool)(wz:World):Prop:=
 Ext w1 wz/\Chg gb w5 wz/\∃(lx:QC) (hx:QC) (txa:Option Addr) (txn txc:Nat),Bx 81 wz gb #[nm,r.1.1,r.1.2.1,lx.b,(lx.a1,lx.n1,lx.c1),(lx.a2,lx.n2,lx.c2),hx.b,(hx.a1,hx.n1,hx.c1),(hx.a2,hx.n2,hx.c2),(txa,txn,txc)]/\(S 0=false->lx=l)/\(S 0=true->FrQ B wz (.agg #[lx.b,(lx.a1,lx.n1,lx.c1),(lx.a2,lx.n2,lx.c2)]) r.1.2.2.1)/\(S 1=false->hx=h)/\(S 1=true->FrQ B wz (.agg #[hx.b,(hx.a1,hx.n1,hx.c1),(hx.a2,hx.n2,hx.c2)]) r.1.2.2.2)/\(S 2=false->txa=ta/\txn=tn/\txc=tc)/\(S 2=true->TO B K wz (txa,txn,txc) (mkV r.2))
theorem NY(k y a3:Nat)(u:Value)(M:List (RwR))(w:World)(b:RwL k w u M)(g6:∀h∈M,h.2.length<=a3)(hL:a3<=1000000)(g7:(a3+1)*(k+1)<=y)(hM:y<=1000000000)(g9:M.length<=100000):
  Calls prog 42 #[u] w λe w'=>∃b7 b8,e= .returned (.slice b7 M.length b8)/\OL 81 10 w (RwP w y) w' (.slice b7 M.length b8) (M.map F8)/\Ext w w':=by
 obtain⟨_,b9,_,bR,rfl,_,eD⟩:=b.opn;have gA:=a8 eD;have bA:=a8 bR;rw[<-bR]at g9 ⊢;clear b eD bR;have eE:k<=y:=by have:=cX (k+1) (show 0<a3+1 by omega);omega
 go_enter func42,ntmps42;go_wp2_with fail
 go_loopw [2,7] (λgG z wr=>∃I:Nat,I<=b9/\z= .int .i64 (I:Int)/\Hid (Ext w wr/\OL 81 10 w (RwP w y) wr gG ((M.take I).map F8))) (λ_ z _=>((b9:Int) - intOf z).toNat)
 case atStart=>exact ⟨0,zl,rfl,a8 ⟨rE,OL.nil _ _ _ _ _⟩⟩
 case round=>
  obtain⟨z,gL,rfl,a4⟩:=hrel;rcases aI gL with bS |bS
  .have gT:¬(z:Int)<b9:=om;subst bS;obtain⟨eG,bB⟩:=a4.out;rw[aK (by rw[<-bA.out];exact lr)]at bB;obtain⟨a5,a6,a1, -⟩:=id bB;obtain⟨b7,b8,j⟩:=lI a6.2;have eN:a5.length=z:=by rw[a1,aF,bA.out]
   rw[eN]at j;subst j;have fA:=a8 (aD eG bB);clear eG bB a6 a1 eN;go_wp2;go_ret;exact⟨b7,b8,rfl,fA.out.2,fA.out.1⟩
  .have gT:(z:Int)<b9:=om;obtain⟨h,bC⟩:∃h,M[z]? =some h:=⟨_,aA (by rw[<-bA.out];exact bS)⟩;obtain⟨g,h0,rfl,_,h3,fB,s,i,b,N,O,P,o,⟨V,fC⟩,fD⟩:=gA.out z h bC
   cases o
   have J:=fB wr a4.out.1;have bT:wr.cell? (g,h0+z*10)=some (.string s):=J 0 _ rfl;have c0:=J 1 _ rfl;have c1:=J 2 _ rfl;have c2:=J 3 _ rfl;have c3:=J 4 _ rfl;have c4:=J 5 _ rfl;have c5:=J 6 _ rfl;have c6:=J 7 _ rfl;have c7:=J 8 _ rfl;have c8:=J 9 _ rfl;have a7:Hid (IsR w (.agg #[i.b,(i.a1,i.n1,i.c1),(i.a2,i.n2,i.c2)]) h.1.2.2.1 k/\IsR w (.agg #[b.b,(b.a1,b.n1,b.c1),(b.a2,b.n2,b.c2)]) h.1.2.2.2 k/\TL k w (N,O,P) h.2):=a8 ⟨V,fC,fD⟩;obtain⟨Z,fE,c9,e0,h4⟩:=kR wr #[s,h.1.1,h.1.2.1,i.b,(i.a1,i.n1,i.c1),(i.a2,i.n2,i.c2),b.b,(b.a1,b.n1,b.c1),(b.a2,b.n2,b.c2),(N,O,P)] 81;have h5:=a8 (a4.out.1.trans c9);have e1:w.heap.size<=wr.heap.size:=a4.out.1.size;have:wr.heap.size<Z.heap.size:=e0.lt;have h6:Hid ((M.take (z+1)).map F8=(M.take z).map F8++ [F8 h]):=a8 (by rw[mP bC,bY];rfl);have h7:=a8 (aM bC);have fG:RoI w y w Z wr s h i b N O P (λ_=>false) Z:=⟨h5.out,Chg.refl _ _,i,b,N,O,P,e0,λ_=>rfl,λb=>(by cases b),λ_=>rfl,λb=>(by cases b),λ_=>⟨rfl,rfl,rfl⟩,λb=>(by cases b)⟩;have h8:=a8 c9;clear J fB h3 V fC fD bC c9 e0 h4;go_upto_region 4 with(fail);rw[<-fE];clear fE bT c0 c1 c2 c3 c4 c5 c6 c7 c8;apply mQ [10,12,14] (λ_ e2 f=>Chg wr e2 f/\∃h9,Bx 81 e2 wr h9) (RoI w y w Z wr s h i b N O P)
    [kN _,kN (.agg #[i.b,(i.a1,i.n1,i.c1),(i.a2,i.n2,i.c2)]),⟨λu a9=>FrQ w a9 u h.1.2.2.1,λ_=>false,λu a b0 C b=>b.ext C,λ_ _ u a b0 x b=>b.keepT (let ⟨_,b1⟩:=x.2;x.1.keepS b1 de).keepT⟩,kN _,kN (.agg #[b.b,(b.a1,b.n1,b.c1),(b.a2,b.n2,b.c2)]),⟨λu a9=>FrQ w a9 u h.1.2.2.2,λ_=>false,λu a b0 C b=>b.ext C,λ_ _ u a b0 x b=>b.keepT (let ⟨_,b1⟩:=x.2;x.1.keepS b1 de).keepT⟩,kN _,kN (N,O,P),⟨λu a9=>TO w y a9 u (mkV h.2),λ_=>false,λu a b0 C b=>b.ext C,λ_ _ u a b0 x b=>b.keepT (let ⟨_,b1⟩:=x.2;x.1.keepS b1 de).keepT⟩,kN _,kV,kN _,kV,kN _,kV] [] [] [] [(1,0,false),(4,1,false),(7,2,false)] [] ?ie fG ?st ?en ?hcs sm kr kr hF
   case hcs=>
    exact Gb3
   case ie=>
    rintro D e2 f C ⟨A,B,c,d,p,q,r,o,Q,E,R,F,S,H⟩;exact⟨A.trans C,B.trans (C.chg _),c,d,p,q,r,o.ext C,Q,λb=>(E b).ext C,R,λb=>(F b).ext C,S,λb=>(H b).ext C⟩
   case st=>
    refine⟨oX,?_,?_,oX,?_,?_,oX,?_,?_,oX,?_,oX,?_,oX,?_,trivial⟩
    .intro D m n hI hp X K;have bD:m 0= .pointer (wr,3):=hp.1 rfl;obtain⟨A,B,c,d,p,q,r,o,Q,E,R,F,S,H⟩:=hI;have e3:=Q (K.1 rfl);subst e3;exact kW (P:=prog) _ _ wr 3 #[c.b,(c.a1,c.n1,c.c1),(c.a2,c.n2,c.c2)] _ rfl rfl bD (λI u T=>(o.cell (3+I)).trans (by
      rcases I with _ |_ |_ |I
      .exact T
      .exact T
      .exact T
      .simp at T)) underlying37 rfl kr rfl
    .intro D m n hI hp X K;have V:m 1= .agg #[i.b,(i.a1,i.n1,i.c1),(i.a2,i.n2,i.c2)]:=hp.1 rfl;refine oC (P:=prog) #[m 1] func90 rfl rfl ?_;rw[V];refine(pL _ h.1.2.2.1 k n (a7.out.1.ext hI.1) om).mono ?_;exact cz7
    .intro D m n hI hp X K;have bD:m 3= .pointer (wr,6):=hp.1 rfl;obtain⟨A,B,c,d,p,q,r,o,Q,E,R,F,S,H⟩:=hI;have e3:=R (K.2.1 rfl);subst e3;exact kW (P:=prog) _ _ wr 6 #[d.b,(d.a1,d.n1,d.c1),(d.a2,d.n2,d.c2)] _ rfl rfl bD (λI u T=>(o.cell (6+I)).trans (by
      rcases I with _ |_ |_ |I
      .exact T
      .exact T
      .exact T
      .simp at T)) underlying37 rfl kr rfl
    .intro D m n hI hp X K;have V:m 4= .agg #[b.b,(b.a1,b.n1,b.c1),(b.a2,b.n2,b.c2)]:=hp.1 rfl;refine oC (P:=prog) #[m 4] func90 rfl rfl ?_;rw[V];refine(pL _ h.1.2.2.2 k n (a7.out.2.1.ext hI.1) om).mono ?_;exact cz7
    .intro D m n hI hp X K;have bD:m 6= .pointer (wr,9):=hp.1 rfl;obtain⟨A,B,c,d,p,q,r,o,Q,E,R,F,S,H⟩:=hI;obtain⟨rfl,rfl,rfl⟩:=S (K.2.2.1 rfl);have v:=o.cell 9;exact rm4
    .intro D m n hI hp X K;have V:m 7=(N,O,P):=hp.1 rfl;refine oC (P:=prog) #[m 7] func50 rfl rfl ?_;rw[V];have:h.2.length<=a3:=g6 h h7.out;have hA:(h.2.length+1)*(k+1)<=y:=aE (aJ _ om) g7;have hB:h.2.length*(k+1)<=y:=aE (aJ _ om) hA;refine(nF k _ h.2 n (a7.out.2.2.ext hI.1) om om).mono ?_;rintro e w' ⟨v',rfl,h1,h2⟩;exact⟨_,rfl,h2,(h1.mono hI.1.size).le hB⟩
    .intro D m n hI hp X g0 K;have b2:m 9= .pointer (wr,3):=hp.1 rfl;have a0:FrQ w n (m 2) h.1.2.2.1:=hp.2.1 rfl;obtain⟨A,B,c,d,p,q,r,o,Q,E,R,F,S,H⟩:=hI;obtain⟨e4,e5,e6,e7,e8,e9,eA,j,U⟩:=a0.opn;obtain⟨f,b3⟩:=ex (⟨e4,e5,e6,e7,e8,e9,eA⟩:QC);have j:m 2= .agg #[f.b,(f.a1,f.n1,f.c1),(f.a2,f.n2,f.c2)]:=by rw[b3];exact j
     have U:FrQ w n (.agg #[f.b,(f.a1,f.n1,f.c1),(f.a2,f.n2,f.c2)]) h.1.2.2.1:=by rw[b3];exact U
     have Y:∀l,Chg wr n l->Bx 81 l wr #[s,h.1.1,h.1.2.1,f.b,(f.a1,f.n1,f.c1),(f.a2,f.n2,f.c2),d.b,(d.a1,d.n1,d.c1),(d.a2,d.n2,d.c2),(p,q,r)]->RoI w y w Z wr s h i b N O P (onS D 0) l:=λl v b4=>
      have L:=(v.keepS o de).keepT;have b5:=U.keepT L;⟨A.step v e1,B.trans v,f,d,p,q,r,b4,λb=>(by simp[onS]at b),λ_=>b5,λb=>R (by simpa[onS]using b),λb=>(F (by simpa[onS]using b)).keepT L,λb=>S (by simpa[onS]using b),λb=>(H (by simpa[onS]using b)).keepT L⟩
     exact kM.mono2 (R:=Chg wr) (p:=λ_ l=>Bx 81 l wr.heap.size #[.string s,.bool h.1.1,.bool h.1.2.1,.bool f.b,.slice f.a1 f.n1 f.c1,.slice f.a2 f.n2 f.c2,.bool d.b,.slice d.a1 d.n1 d.c1,.slice d.a2 d.n2 d.c2,.slice p q r]/\Chg wr.heap.size n l) (λu l x j=>⟨⟨x,_,o⟩,Y l x j.1,trivial⟩) (λj=>⟨Y n j.2 j.1,trivial⟩) (oN (P:=prog) wr 3 81 _ [s,h.1.1,h.1.2.1,c.b,(c.a1,c.n1,c.c1),(c.a2,c.n2,c.c2),d.b,(d.a1,d.n1,d.c1),(d.a2,d.n2,d.c2),(p,q,r)] #[f.b,(f.a1,f.n1,f.c1),(f.a2,f.n2,f.c2)] _ _ rfl rfl b2 j kr o (by show 3+3<=10;omega) (by simp[Value.oneCell']) (λw' v b6 _=>⟨b6,v⟩))
    .intro D m n hI hp X g0 K;have b2:m 11= .pointer (wr,6):=hp.1 rfl;have a0:FrQ w n (m 5) h.1.2.2.2:=hp.2.1 rfl;obtain⟨A,B,c,d,p,q,r,o,Q,E,R,F,S,H⟩:=hI;obtain⟨e4,e5,e6,e7,e8,e9,eA,j,U⟩:=a0.opn;obtain⟨f,b3⟩:=ex (⟨e4,e5,e6,e7,e8,e9,eA⟩:QC);have j:m 5= .agg #[f.b,(f.a1,f.n1,f.c1),(f.a2,f.n2,f.c2)]:=by rw[b3];exact j
     have U:FrQ w n (.agg #[f.b,(f.a1,f.n1,f.c1),(f.a2,f.n2,f.c2)]) h.1.2.2.2:=by rw[b3];exact U
     have Y:∀l,Chg wr n l->Bx 81 l wr #[s,h.1.1,h.1.2.1,c.b,(c.a1,c.n1,c.c1),(c.a2,c.n2,c.c2),f.b,(f.a1,f.n1,f.c1),(f.a2,f.n2,f.c2),(p,q,r)]->RoI w y w Z wr s h i b N O P (onS D 1) l:=λl v b4=>
      have L:=(v.keepS o de).keepT;have b5:=U.keepT L;⟨A.step v e1,B.trans v,c,f,p,q,r,b4,λb=>Q (by simpa[onS]using b),λb=>(E (by simpa[onS]using b)).keepT L,λb=>(by simp[onS]at b),λ_=>b5,λb=>S (by simpa[onS]using b),λb=>(H (by simpa[onS]using b)).keepT L⟩
     exact kM.mono2 (R:=Chg wr) (p:=λ_ l=>Bx 81 l wr.heap.size #[.string s,.bool h.1.1,.bool h.1.2.1,.bool c.b,.slice c.a1 c.n1 c.c1,.slice c.a2 c.n2 c.c2,.bool f.b,.slice f.a1 f.n1 f.c1,.slice f.a2 f.n2 f.c2,.slice p q r]/\Chg wr.heap.size n l) (λu l x j=>⟨⟨x,_,o⟩,Y l x j.1,trivial⟩) (λj=>⟨Y n j.2 j.1,trivial⟩) (oN (P:=prog) wr 6 81 _ [s,h.1.1,h.1.2.1,c.b,(c.a1,c.n1,c.c1),(c.a2,c.n2,c.c2),d.b,(d.a1,d.n1,d.c1),(d.a2,d.n2,d.c2),(p,q,r)] #[f.b,(f.a1,f.n1,f.c1),(f.a2,f.n2,f.c2)] _ _ rfl rfl b2 j kr o (by show 6+3<=10;omega) (by simp[Value.oneCell']) (λw' v b6 _=>⟨b6,v⟩))
    .intro D m n hI hp X g0 K;have b2:m 13= .pointer (wr,9):=hp.1 rfl;have a0:TO w y n (m 8) (mkV h.2):=hp.2.1 rfl;obtain⟨A,B,c,d,p,q,r,o,Q,E,R,F,S,H⟩:=hI;obtain⟨bE,bG,j⟩:=a0.val;obtain⟨bO,hC⟩:=ex ((mkV h.2).length);rw[<-hC]at j;rw[j]at a0;have U:=a0;have Y:∀l,Chg wr n l->Bx 81 l wr #[s,h.1.1,h.1.2.1,c.b,(c.a1,c.n1,c.c1),(c.a2,c.n2,c.c2),d.b,(d.a1,d.n1,d.c1),(d.a2,d.n2,d.c2),(bE,bO,bG)]->RoI w y w Z wr s h i b N O P (onS D 2) l:=λl v b4=>
      have L:=(v.keepS o de).keepT;have b5:=U.keepT L;⟨A.step v e1,B.trans v,c,d,bE,bO,bG,b4,λb=>Q (by simpa[onS]using b),λb=>(E (by simpa[onS]using b)).keepT L,λb=>R (by simpa[onS]using b),λb=>(F (by simpa[onS]using b)).keepT L,λb=>(by simp[onS]at b),λ_=>b5⟩
     exact kM.mono2 (R:=Chg wr) (p:=λ_ l=>Bx 81 l wr.heap.size #[.string s,.bool h.1.1,.bool h.1.2.1,.bool c.b,.slice c.a1 c.n1 c.c1,.slice c.a2 c.n2 c.c2,.bool d.b,.slice d.a1 d.n1 d.c1,.slice d.a2 d.n2 d.c2,.slice bE bO bG]/\Chg wr.heap.size n l) (λu l x j=>⟨⟨x,_,o⟩,Y l x j.1,trivial⟩) (λj=>⟨Y n j.2 j.1,trivial⟩) (qV (P:=prog) wr 9 81 _ [s,h.1.1,h.1.2.1,c.b,(c.a1,c.n1,c.c1),(c.a2,c.n2,c.c2),d.b,(d.a1,d.n1,d.c1),(d.a2,d.n2,d.c2),(p,q,r)] bE bO bG _ _ rfl rfl b2 j kr o (by show 9<10;omega) (λw' v b6 _=>⟨b6,v⟩))
   case en=>
    intro m a2 hI hp;obtain⟨A,B,c,d,p,q,r,o, -,E, -,F, -,H⟩:=hI;have hD:Hid (RwP w y a2 (.agg #[s,h.1.1,h.1.2.1,c.b,(c.a1,c.n1,c.c1),(c.a2,c.n2,c.c2),d.b,(d.a1,d.n1,d.c1),(d.a2,d.n2,d.c2),(p,q,r)]) (F8 h)):=a8 ⟨s,c,d,p,q,r,rfl,E rfl,F rfl,H rfl,(aE a7.out.1.sz eE),(aE a7.out.2.1.sz eE)⟩;have g1:Hid (Ext wr a2):=a8 (h8.out.step B lr);obtain⟨a5,a6,a1,g2⟩:=OL.ext a4.out.2 g1.out (λeB f b=>b.keepT g1.out.keepT);have hE:a5.length=z:=by rw[a1,aF,aP,<-bA.out];omega
    subst hE;have eC:=a8 a6;have g3:=a8 (aD a1 g2);have:w.heap.size<=a2.heap.size:=A.size;have hG:=a8 A;clear hp E F H A B fG a6 a1 g2;obtain⟨bT,c0,c1,c2,c3,c4,c5,c6,c7,c8,-⟩:=o.cl [0,1,2,3,4,5,6,7,8,9];clear o;go_wp2_with (first
     | (at_builtin;go_loud (refine nR rfl _ _ 22 rfl 81 10 160 w underlying22 kr kr om _ a5 rfl (eC.out.ext (rE.alloc _)) ⟨a2.heap.size,0,none⟩ #[s,h.1.1,h.1.2.1,c.b,(c.a1,c.n1,c.c1),(c.a2,c.n2,c.c2),d.b,(d.a1,d.n1,d.c1),(d.a2,d.n2,d.c2),(p,q,r)] rfl rfl (vP _ _ _) kr om om (by rw[nD];omega) ?_);intro _ _ _ hH g4 _ _;clear bT c0 c1 c2 c3 c4 c5 c6 c7 c8)
     |fail)
    go_roundw
    case rel=>
     have bP:=(Ext.refl a2).alloc (.cells #[s,h.1.1,h.1.2.1,c.b,(c.a1,c.n1,c.c1),(c.a2,c.n2,c.c2),d.b,(d.a1,d.n1,d.c1),(d.a2,d.n2,d.c2),(p,q,r)] 81);have hJ:=eC.out.ext bP;have g5:=yJ g4 hJ.2 de de;refine⟨a5.length+1,om,ci om,a8 ⟨(hG.out.trans bP).stepG g4 (λg hK=>eC.out.ge g hK),?_⟩⟩;rw[h6.out];exact OL.app (w:=a2.alloc (.cells #[s,h.1.1,h.1.2.1,c.b,(c.a1,c.n1,c.c1),(c.a2,c.n2,c.c2),d.b,(d.a1,d.n1,d.c1),(d.a2,d.n2,d.c2),(p,q,r)] 81)) g3.out.1 (λz eB f h1 h2=>(g3.out.2 z eB f h1 h2).keepT bP.keepT) hH (λeB f b=>b.keepT g5) ((hD.out.keepT bP.keepT).keepT g5)
    case measure=>simp [intOf];omega
def VrP(B K:Nat)(w:World)(v:Value)(r:ByteArray×VrR):Prop:=∃(l:QC) (h:QC) (c:QC),v= .agg #[r.1,r.2.1,r.2.2.1.1,r.2.2.1.2.1,l.b,(l.a1,l.n1,l.c1),(l.a2,l.n2,l.c2),h.b,(h.a1,h.n1,h.c1),(h.a2,h.n2,h.c2),c.b,(c.a1,c.n1,c.c1),(c.a2,c.n2,c.c2)]/\FrQ B w (.agg #[l.b,(l.a1,l.n1,l.c1),(l.a2,l.n2,l.c2)]) r.2.2.1.2.2.1/\FrQ B w (.agg #[h.b,(h.a1,h.n1,h.c1),(h.a2,h.n2,h.c2)]) r.2.2.1.2.2.2/\FrQ B w (.agg #[c.b,(c.a1,c.n1,c.c1),(c.a2,c.n2,c.c2)]) r.2.2.2/\szQ r.2.2.1.2.2.1<=K/\szQ r.2.2.1.2.2.2<=K/\szQ r.2.2.2<=K
theorem VrP.keepT{c d:Nat}{w e:World}{f:Value}{h:ByteArray×VrR}(a:VrP c d w f h)(b:rI w e):VrP c d e f h:=by
 obtain⟨i,a,j,k,l,m,n,o⟩:=a;exact⟨i,a,j,k,l.keepT b,m.keepT b,n.keepT b,o⟩
theorem VrP.vrn{w:World}{f:ByteArray×VrR}(d:VrP b a w c f)(e:a<=LIM):VrN a w c f:=by
 obtain⟨h,d,i,j,k,l,m,n,o,p⟩:=d;exact⟨h,d,i,j,⟨k.isR n e,l.isR o e⟩,m.isR p e⟩
def VaI(B K:Nat)(w1 w5:World)(gb:Nat)(r:ByteArray×VrR)(l:QC)(h:QC)(c:QC)(S:Nat->Bool)(wz:World):Prop:=
 Ext w1 wz/\Chg gb w5 wz/\∃(lx:QC) (hx:QC) (cx:QC),Bx 86 wz gb #[r.1,r.2.1,r.2.2.1.1,r.2.2.1.2.1,lx.b,(lx.a1,lx.n1,lx.c1),(lx.a2,lx.n2,lx.c2),hx.b,(hx.a1,hx.n1,hx.c1),(hx.a2,hx.n2,hx.c2),cx.b,(cx.a1,cx.n1,cx.c1),(cx.a2,cx.n2,cx.c2)]/\(S 0=false->lx=l)/\(S 0=true->FrQ B wz (.agg #[lx.b,(lx.a1,lx.n1,lx.c1),(lx.a2,lx.n2,lx.c2)]) r.2.2.1.2.2.1)/\(S 1=false->hx=h)/\(S 1=true->FrQ B wz (.agg #[hx.b,(hx.a1,hx.n1,hx.c1),(hx.a2,hx.n2,hx.c2)]) r.2.2.1.2.2.2)/\(S 2=false->cx=c)/\(S 2=true->FrQ B wz (.agg #[cx.b,(cx.a1,cx.n1,cx.c1),(cx.a2,cx.n2,cx.c2)]) r.2.2.2)
theorem O0(k J:Nat)(s:Value)(Q:List (ByteArray×VrR))(w:World)(c:VnN k w s Q)(g1:k<=J)(h9:J<=1000000000)(g2:Q.length<=100000):
  Calls prog 43 #[s] w λe w'=>∃bB bC,e= .returned (.slice bB Q.length bC)/\OL 86 13 w (VrP w J) w' (.slice bB Q.length bC) (Q.map id)/\Ext w w':=by
 obtain⟨_,bD,_,bP,rfl,_,e9⟩:=c.opn;have g3:=a8 e9;have bE:=a8 bP;rw[<-bP]at g2 ⊢;clear c e9 bP;have bR:k<=J:=g1;go_enter func43,ntmps43;go_wp2_with fail;go_loopw [2,7] (λg4 x wr=>∃y:Nat,y<=bD/\x= .int .i64 (y:Int)/\Hid (Ext w wr/\OL 86 13 w (VrP w J) wr g4 ((Q.take y).map id))) (λ_ x _=>((bD:Int) - intOf x).toNat)
 case atStart=>exact ⟨0,zl,rfl,a8 ⟨rE,OL.nil _ _ _ _ _⟩⟩
 case round=>
  obtain⟨x,g5,rfl,a0⟩:=hrel;rcases aI g5 with bS |bS
  .have g6:¬(x:Int)<bD:=om;subst bS;obtain⟨eA,bG⟩:=a0.out;rw[aK (by rw[<-bE.out];exact lr)]at bG;obtain⟨a1,a2,X, -⟩:=id bG;obtain⟨bB,bC,m⟩:=lI a2.2;have eB:a1.length=x:=by rw[X,aF,bE.out]
   rw[eB]at m;subst m;have eC:=a8 (aD eA bG);clear eA bG a2 X eB;go_wp2;go_ret;exact⟨bB,bC,rfl,(by have c:=eC.out.2;rwa [List.map_id]at c),eC.out.1⟩
  .have g6:(x:Int)<bD:=om;obtain⟨i,bT⟩:∃i,Q[x]? =some i:=⟨_,aA (by rw[<-bE.out];exact bS)⟩;obtain⟨g,g7,rfl,_,g9,eD,j,c,l,q,⟨R,eE⟩,eG⟩:=g3.out x i bT
   cases q
   have z:=eD wr a0.out.1;have c0:wr.cell? (g,g7+x*13)=some (.string i.1):=z 0 _ rfl;have c1:=z 1 _ rfl;have c2:=z 2 _ rfl;have c3:=z 3 _ rfl;have c4:=z 4 _ rfl;have c5:=z 5 _ rfl;have c6:=z 6 _ rfl;have c7:=z 7 _ rfl;have c8:=z 8 _ rfl;have c9:=z 9 _ rfl;have e0:=z 10 _ rfl;have e1:=z 11 _ rfl;have e2:=z 12 _ rfl;have Y:Hid (IsR w (.agg #[j.b,(j.a1,j.n1,j.c1),(j.a2,j.n2,j.c2)]) i.2.2.1.2.2.1 k/\IsR w (.agg #[c.b,(c.a1,c.n1,c.c1),(c.a2,c.n2,c.c2)]) i.2.2.1.2.2.2 k/\IsR w (.agg #[l.b,(l.a1,l.n1,l.c1),(l.a2,l.n2,l.c2)]) i.2.2.2 k):=a8 ⟨R,eE,eG⟩;obtain⟨V,eN,e3,e4,gA⟩:=kR wr #[i.1,i.2.1,i.2.2.1.1,i.2.2.1.2.1,j.b,(j.a1,j.n1,j.c1),(j.a2,j.n2,j.c2),c.b,(c.a1,c.n1,c.c1),(c.a2,c.n2,c.c2),l.b,(l.a1,l.n1,l.c1),(l.a2,l.n2,l.c2)] 86;have gG:=a8 (a0.out.1.trans e3);have e5:w.heap.size<=wr.heap.size:=a0.out.1.size;have:wr.heap.size<V.heap.size:=e4.lt;have gL:Hid ((Q.take (x+1)).map id=(Q.take x).map id++ [id i]):=a8 (by rw[mP bT,bY];rfl);have fA:VaI w J w V wr i j c l (λ_=>false) V:=⟨gG.out,Chg.refl _ _,j,c,l,e4,λ_=>rfl,λc=>(by cases c),λ_=>rfl,λc=>(by cases c),λ_=>rfl,λc=>(by cases c)⟩;have gT:=a8 e3;clear z eD g9 R eE eG bT e3 e4 gA;go_upto_region 4 with(fail);rw[<-eN];clear eN c0 c1 c2 c3 c4 c5 c6 c7 c8 c9 e0 e1 e2;apply mQ [10,12,14] (λ_ e6 b=>Chg wr e6 b/\∃h0,Bx 86 e6 wr h0) (VaI w J w V wr i j c l)
    [kN _,kN (.agg #[j.b,(j.a1,j.n1,j.c1),(j.a2,j.n2,j.c2)]),⟨λs a3=>FrQ w a3 s i.2.2.1.2.2.1,λ_=>false,λs a a4 D c=>c.ext D,λ_ _ s a a4 u c=>c.keepT (let ⟨_,a5⟩:=u.2;u.1.keepS a5 de).keepT⟩,kN _,kN (.agg #[c.b,(c.a1,c.n1,c.c1),(c.a2,c.n2,c.c2)]),⟨λs a3=>FrQ w a3 s i.2.2.1.2.2.2,λ_=>false,λs a a4 D c=>c.ext D,λ_ _ s a a4 u c=>c.keepT (let ⟨_,a5⟩:=u.2;u.1.keepS a5 de).keepT⟩,kN _,kN (.agg #[l.b,(l.a1,l.n1,l.c1),(l.a2,l.n2,l.c2)]),⟨λs a3=>FrQ w a3 s i.2.2.2,λ_=>false,λs a a4 D c=>c.ext D,λ_ _ s a a4 u c=>c.keepT (let ⟨_,a5⟩:=u.2;u.1.keepS a5 de).keepT⟩,kN _,kV,kN _,kV,kN _,kV] [] [] [] [(1,0,false),(4,1,false),(7,2,false)] [] ?ie fA ?st ?en ?hcs sm kr kr hF
   case hcs=>
    exact Gb3
   case ie=>
    rintro E e6 b D ⟨A,C,d,f,h,q,N,F,O,H,P,I⟩;exact⟨A.trans D,C.trans (D.chg _),d,f,h,q.ext D,N,λc=>(F c).ext D,O,λc=>(H c).ext D,P,λc=>(I c).ext D⟩
   case st=>
    refine⟨oX,?_,?_,oX,?_,?_,oX,?_,?_,oX,?_,oX,?_,oX,?_,trivial⟩
    .intro E o p hI r S K;have a6:o 0= .pointer (wr,4):=r.1 rfl;obtain⟨A,C,d,f,h,q,N,F,O,H,P,I⟩:=hI;have a7:=N (K.1 rfl);subst a7;exact kW (P:=prog) _ _ wr 4 #[d.b,(d.a1,d.n1,d.c1),(d.a2,d.n2,d.c2)] _ rfl rfl a6 (λy s B=>(q.cell (4+y)).trans (by
      rcases y with _ |_ |_ |y
      .exact B
      .exact B
      .exact B
      .simp at B)) underlying37 rfl kr rfl
    .intro E o p hI r S K;have R:o 1= .agg #[j.b,(j.a1,j.n1,j.c1),(j.a2,j.n2,j.c2)]:=r.1 rfl;refine oC (P:=prog) #[o 1] func90 rfl rfl ?_;rw[R];refine(pL _ i.2.2.1.2.2.1 k p (Y.out.1.ext hI.1) om).mono ?_;exact cz7
    .intro E o p hI r S K;have a6:o 3= .pointer (wr,7):=r.1 rfl;obtain⟨A,C,d,f,h,q,N,F,O,H,P,I⟩:=hI;have a7:=O (K.2.1 rfl);subst a7;exact kW (P:=prog) _ _ wr 7 #[f.b,(f.a1,f.n1,f.c1),(f.a2,f.n2,f.c2)] _ rfl rfl a6 (λy s B=>(q.cell (7+y)).trans (by
      rcases y with _ |_ |_ |y
      .exact B
      .exact B
      .exact B
      .simp at B)) underlying37 rfl kr rfl
    .intro E o p hI r S K;have R:o 4= .agg #[c.b,(c.a1,c.n1,c.c1),(c.a2,c.n2,c.c2)]:=r.1 rfl;refine oC (P:=prog) #[o 4] func90 rfl rfl ?_;rw[R];refine(pL _ i.2.2.1.2.2.2 k p (Y.out.2.1.ext hI.1) om).mono ?_;exact cz7
    .intro E o p hI r S K;have a6:o 6= .pointer (wr,10):=r.1 rfl;obtain⟨A,C,d,f,h,q,N,F,O,H,P,I⟩:=hI;have a7:=P (K.2.2.1 rfl);subst a7;exact kW (P:=prog) _ _ wr 10 #[h.b,(h.a1,h.n1,h.c1),(h.a2,h.n2,h.c2)] _ rfl rfl a6 (λy s B=>(q.cell (10+y)).trans (by
      rcases y with _ |_ |_ |y
      .exact B
      .exact B
      .exact B
      .simp at B)) underlying37 rfl kr rfl
    .intro E o p hI r S K;have R:o 7= .agg #[l.b,(l.a1,l.n1,l.c1),(l.a2,l.n2,l.c2)]:=r.1 rfl;refine oC (P:=prog) #[o 7] func90 rfl rfl ?_;rw[R];refine(pL _ i.2.2.2 k p (Y.out.2.2.ext hI.1) om).mono ?_;exact cz7
    .intro E o p hI r S fB K;have a9:o 9= .pointer (wr,4):=r.1 rfl;have b0:FrQ w p (o 2) i.2.2.1.2.2.1:=r.2.1 rfl;obtain⟨A,C,d,f,h,q,N,F,O,H,P,I⟩:=hI;obtain⟨b1,b2,b3,b4,b5,b6,b7,m,L⟩:=b0.opn;obtain⟨b,T⟩:=ex (⟨b1,b2,b3,b4,b5,b6,b7⟩:QC);have m:o 2= .agg #[b.b,(b.a1,b.n1,b.c1),(b.a2,b.n2,b.c2)]:=by rw[T];exact m
     have L:FrQ w p (.agg #[b.b,(b.a1,b.n1,b.c1),(b.a2,b.n2,b.c2)]) i.2.2.1.2.2.1:=by rw[T];exact L
     have U:∀n,Chg wr p n->Bx 86 n wr #[i.1,i.2.1,i.2.2.1.1,i.2.2.1.2.1,b.b,(b.a1,b.n1,b.c1),(b.a2,b.n2,b.c2),f.b,(f.a1,f.n1,f.c1),(f.a2,f.n2,f.c2),h.b,(h.a1,h.n1,h.c1),(h.a2,h.n2,h.c2)]->VaI w J w V wr i j c l (onS E 0) n:=λn v b8=>
      have M:=(v.keepS q de).keepT;have b9:=L.keepT M;⟨A.step v e5,C.trans v,b,f,h,b8,λc=>(by simp[onS]at c),λ_=>b9,λc=>O (by simpa[onS]using c),λc=>(H (by simpa[onS]using c)).keepT M,λc=>P (by simpa[onS]using c),λc=>(I (by simpa[onS]using c)).keepT M⟩
     exact kM.mono2 (R:=Chg wr) (p:=λ_ n=>Bx 86 n wr.heap.size #[.string i.1,.bool i.2.1,.bool i.2.2.1.1,.bool i.2.2.1.2.1,.bool b.b,.slice b.a1 b.n1 b.c1,.slice b.a2 b.n2 b.c2,.bool f.b,.slice f.a1 f.n1 f.c1,.slice f.a2 f.n2 f.c2,.bool h.b,.slice h.a1 h.n1 h.c1,.slice h.a2 h.n2 h.c2]/\Chg wr.heap.size p n) (λs n u m=>⟨⟨u,_,q⟩,U n u m.1,trivial⟩) (λm=>⟨U p m.2 m.1,trivial⟩) (oN (P:=prog) wr 4 86 _ [i.1,i.2.1,i.2.2.1.1,i.2.2.1.2.1,d.b,(d.a1,d.n1,d.c1),(d.a2,d.n2,d.c2),f.b,(f.a1,f.n1,f.c1),(f.a2,f.n2,f.c2),h.b,(h.a1,h.n1,h.c1),(h.a2,h.n2,h.c2)] #[b.b,(b.a1,b.n1,b.c1),(b.a2,b.n2,b.c2)] _ _ rfl rfl a9 m kr q (by show 4+3<=13;omega) (by simp[Value.oneCell']) (λw' v bA _=>⟨bA,v⟩))
    .intro E o p hI r S fB K;have a9:o 11= .pointer (wr,7):=r.1 rfl;have b0:FrQ w p (o 5) i.2.2.1.2.2.2:=r.2.1 rfl;obtain⟨A,C,d,f,h,q,N,F,O,H,P,I⟩:=hI;obtain⟨b1,b2,b3,b4,b5,b6,b7,m,L⟩:=b0.opn;obtain⟨b,T⟩:=ex (⟨b1,b2,b3,b4,b5,b6,b7⟩:QC);have m:o 5= .agg #[b.b,(b.a1,b.n1,b.c1),(b.a2,b.n2,b.c2)]:=by rw[T];exact m
     have L:FrQ w p (.agg #[b.b,(b.a1,b.n1,b.c1),(b.a2,b.n2,b.c2)]) i.2.2.1.2.2.2:=by rw[T];exact L
     have U:∀n,Chg wr p n->Bx 86 n wr #[i.1,i.2.1,i.2.2.1.1,i.2.2.1.2.1,d.b,(d.a1,d.n1,d.c1),(d.a2,d.n2,d.c2),b.b,(b.a1,b.n1,b.c1),(b.a2,b.n2,b.c2),h.b,(h.a1,h.n1,h.c1),(h.a2,h.n2,h.c2)]->VaI w J w V wr i j c l (onS E 1) n:=λn v b8=>
      have M:=(v.keepS q de).keepT;have b9:=L.keepT M;⟨A.step v e5,C.trans v,d,b,h,b8,λc=>N (by simpa[onS]using c),λc=>(F (by simpa[onS]using c)).keepT M,λc=>(by simp[onS]at c),λ_=>b9,λc=>P (by simpa[onS]using c),λc=>(I (by simpa[onS]using c)).keepT M⟩
     exact kM.mono2 (R:=Chg wr) (p:=λ_ n=>Bx 86 n wr.heap.size #[.string i.1,.bool i.2.1,.bool i.2.2.1.1,.bool i.2.2.1.2.1,.bool d.b,.slice d.a1 d.n1 d.c1,.slice d.a2 d.n2 d.c2,.bool b.b,.slice b.a1 b.n1 b.c1,.slice b.a2 b.n2 b.c2,.bool h.b,.slice h.a1 h.n1 h.c1,.slice h.a2 h.n2 h.c2]/\Chg wr.heap.size p n) (λs n u m=>⟨⟨u,_,q⟩,U n u m.1,trivial⟩) (λm=>⟨U p m.2 m.1,trivial⟩) (oN (P:=prog) wr 7 86 _ [i.1,i.2.1,i.2.2.1.1,i.2.2.1.2.1,d.b,(d.a1,d.n1,d.c1),(d.a2,d.n2,d.c2),f.b,(f.a1,f.n1,f.c1),(f.a2,f.n2,f.c2),h.b,(h.a1,h.n1,h.c1),(h.a2,h.n2,h.c2)] #[b.b,(b.a1,b.n1,b.c1),(b.a2,b.n2,b.c2)] _ _ rfl rfl a9 m kr q (by show 7+3<=13;omega) (by simp[Value.oneCell']) (λw' v bA _=>⟨bA,v⟩))
    .intro E o p hI r S fB K;have a9:o 13= .pointer (wr,10):=r.1 rfl;have b0:FrQ w p (o 8) i.2.2.2:=r.2.1 rfl;obtain⟨A,C,d,f,h,q,N,F,O,H,P,I⟩:=hI;obtain⟨b1,b2,b3,b4,b5,b6,b7,m,L⟩:=b0.opn;obtain⟨b,T⟩:=ex (⟨b1,b2,b3,b4,b5,b6,b7⟩:QC);have m:o 8= .agg #[b.b,(b.a1,b.n1,b.c1),(b.a2,b.n2,b.c2)]:=by rw[T];exact m
     have L:FrQ w p (.agg #[b.b,(b.a1,b.n1,b.c1),(b.a2,b.n2,b.c2)]) i.2.2.2:=by rw[T];exact L
     have U:∀n,Chg wr p n->Bx 86 n wr #[i.1,i.2.1,i.2.2.1.1,i.2.2.1.2.1,d.b,(d.a1,d.n1,d.c1),(d.a2,d.n2,d.c2),f.b,(f.a1,f.n1,f.c1),(f.a2,f.n2,f.c2),b.b,(b.a1,b.n1,b.c1),(b.a2,b.n2,b.c2)]->VaI w J w V wr i j c l (onS E 2) n:=λn v b8=>
      have M:=(v.keepS q de).keepT;have b9:=L.keepT M;⟨A.step v e5,C.trans v,d,f,b,b8,λc=>N (by simpa[onS]using c),λc=>(F (by simpa[onS]using c)).keepT M,λc=>O (by simpa[onS]using c),λc=>(H (by simpa[onS]using c)).keepT M,λc=>(by simp[onS]at c),λ_=>b9⟩
     exact kM.mono2 (R:=Chg wr) (p:=λ_ n=>Bx 86 n wr.heap.size #[.string i.1,.bool i.2.1,.bool i.2.2.1.1,.bool i.2.2.1.2.1,.bool d.b,.slice d.a1 d.n1 d.c1,.slice d.a2 d.n2 d.c2,.bool f.b,.slice f.a1 f.n1 f.c1,.slice f.a2 f.n2 f.c2,.bool b.b,.slice b.a1 b.n1 b.c1,.slice b.a2 b.n2 b.c2]/\Chg wr.heap.size p n) (λs n u m=>⟨⟨u,_,q⟩,U n u m.1,trivial⟩) (λm=>⟨U p m.2 m.1,trivial⟩) (oN (P:=prog) wr 10 86 _ [i.1,i.2.1,i.2.2.1.1,i.2.2.1.2.1,d.b,(d.a1,d.n1,d.c1),(d.a2,d.n2,d.c2),f.b,(f.a1,f.n1,f.c1),(f.a2,f.n2,f.c2),h.b,(h.a1,h.n1,h.c1),(h.a2,h.n2,h.c2)] #[b.b,(b.a1,b.n1,b.c1),(b.a2,b.n2,b.c2)] _ _ rfl rfl a9 m kr q (by show 10+3<=13;omega) (by simp[Value.oneCell']) (λw' v bA _=>⟨bA,v⟩))
   case en=>
    intro o Z hI r;obtain⟨A,C,d,f,h,q, -,F, -,H, -,I⟩:=hI;have h3:Hid (VrP w J Z (.agg #[i.1,i.2.1,i.2.2.1.1,i.2.2.1.2.1,d.b,(d.a1,d.n1,d.c1),(d.a2,d.n2,d.c2),f.b,(f.a1,f.n1,f.c1),(f.a2,f.n2,f.c2),h.b,(h.a1,h.n1,h.c1),(h.a2,h.n2,h.c2)]) (id i)):=a8 ⟨d,f,h,rfl,F rfl,H rfl,I rfl,(aE Y.out.1.sz bR),(aE Y.out.2.1.sz bR),(aE Y.out.2.2.sz bR)⟩;have fC:Hid (Ext wr Z):=a8 (gT.out.step C lr);obtain⟨a1,a2,X,fD⟩:=OL.ext a0.out.2 fC.out (λe7 b c=>c.keepT fC.out.keepT);have h4:a1.length=x:=by rw[X,aF,aP,<-bE.out];omega
    subst h4;have e8:=a8 a2;have fE:=a8 (aD X fD);have:w.heap.size<=Z.heap.size:=A.size;have h5:=a8 A;clear r F H I A C fA a2 X fD;obtain⟨c0,c1,c2,c3,c4,c5,c6,c7,c8,c9,e0,e1,e2,-⟩:=q.cl [0,1,2,3,4,5,6,7,8,9,10,11,12];clear q;go_wp2_with (first
     | (at_builtin;go_loud (refine nR rfl _ _ 23 rfl 86 13 192 w underlying23 kr kr om _ a1 rfl (e8.out.ext (rE.alloc _)) ⟨Z.heap.size,0,none⟩ #[i.1,i.2.1,i.2.2.1.1,i.2.2.1.2.1,d.b,(d.a1,d.n1,d.c1),(d.a2,d.n2,d.c2),f.b,(f.a1,f.n1,f.c1),(f.a2,f.n2,f.c2),h.b,(h.a1,h.n1,h.c1),(h.a2,h.n2,h.c2)] rfl rfl (vP _ _ _) kr om om (by rw[nD];omega) ?_);intro _ _ _ h6 fG _ _;clear c0 c1 c2 c3 c4 c5 c6 c7 c8 c9 e0 e1 e2)
     |fail)
    go_roundw
    case rel=>
     have bO:=(Ext.refl Z).alloc (.cells #[i.1,i.2.1,i.2.2.1.1,i.2.2.1.2.1,d.b,(d.a1,d.n1,d.c1),(d.a2,d.n2,d.c2),f.b,(f.a1,f.n1,f.c1),(f.a2,f.n2,f.c2),h.b,(h.a1,h.n1,h.c1),(h.a2,h.n2,h.c2)] 86);have h7:=e8.out.ext bO;have g0:=yJ fG h7.2 de de;refine⟨a1.length+1,om,ci om,a8 ⟨(h5.out.trans bO).stepG fG (λg h8=>e8.out.ge g h8),?_⟩⟩;rw[gL.out];exact OL.app (w:=Z.alloc (.cells #[i.1,i.2.1,i.2.2.1.1,i.2.2.1.2.1,d.b,(d.a1,d.n1,d.c1),(d.a2,d.n2,d.c2),f.b,(f.a1,f.n1,f.c1),(f.a2,f.n2,f.c2),h.b,(h.a1,h.n1,h.c1),(h.a2,h.n2,h.c2)] 86)) fE.out.1 (λx e7 b h1 h2=>(fE.out.2 x e7 b h1 h2).keepT bO.keepT) h6 (λe7 b c=>c.keepT g0) ((h3.out.keepT bO.keepT).keepT g0)
    case measure=>simp [intOf];omega
def BeI(w3 w5:World)(gb:Nat)(u:CrT)(ca:Option Addr)(cc:Nat)(da:Option Addr)(dc:Nat)(S:Nat->Bool)(wz:World):Prop:=
 Ext w3 wz/\Chg gb w5 wz/\∃lo hi:QC,Bx 75 wz gb #[(u.na,u.nn,u.nc),(u.wa,u.wn,u.wc),(u.oa,u.on,u.oc),(ca,3,cc),(2:Int),true,true,lo.b,(lo.a1,lo.n1,lo.c1),(lo.a2,lo.n2,lo.c2),hi.b,(hi.a1,hi.n1,hi.c1),(hi.a2,hi.n2,hi.c2),(),(da,2,dc)]/\(S 0=true->FrQ w3 wz (qv lo) (-1))/\(S 1=true->FrQ w3 wz (qv hi) (-1))
theorem aa7{w:World}(d:w.ownsRow a 9 1 c b (o.map Value.string)):NmL w c o:=
 OV.sv (t:=9) (B:=a) ⟨o.map Value.string,by
  have e:=d.1;rw[dG]at e;rw[e];exact d,sm,λ_ _ _ f h=>by
  rw[aX,h]at f
  cases f
  rfl⟩
theorem ag8{w:World}(d:QL a w c [1]):∃b e,c= .slice b 1 e:=by
 obtain⟨b,f,h,i,j, -⟩:=d.opn;have:f=1:=i;subst this;exact⟨b,h,j⟩
theorem QN(b6 g:Nat)(c:LgS)(c5:List (List Int))(fE:Value)(w:World)(j:nX b6 300 w g c [dA,dB] c5)(hF:LgF b6 300 w c nmS [true] obS csS)(fG:c.nn=1)(g0:c.wn=1)(g1:PbV 4 w (.agg #[c.n0,c.n1,(c.ra,c.rn,c.rc),(c.va,c.vn,c.vc)]) pS)(g2:VnL w (c.va,c.vn,c.vc) nmS)(T:QL 4 w fE [1]):
  Calls prog 23 #[(g,0),fE] w λe w'=>∃(b:CrT) (q:Option Addr) (r:Nat) (d f:QC) (hK:Nat) (o:Option Addr) (p:Nat),e= .returned (.tuple #[.agg #[(b.na,b.nn,b.nc),(b.wa,b.wn,b.wc),(b.oa,b.on,b.oc),.slice q 3 r,(2:Int),true,true,d.b,(d.a1,d.n1,d.c1),(d.a2,d.n2,d.c2),f.b,(f.a1,f.n1,f.c1),(f.a2,f.n2,f.c2),.slice hK 1 1,.slice o 2 p],(0:Int)])/\Ext w w':=by
 obtain⟨b7,b8,rfl⟩:=ag8 T;obtain⟨bG,c6,U,g3,hL⟩:=kR w #[(),(),(),(),(0:Int),false,false,false,(),(),false,(),(),(),()] 75;have g4:Hid (∀wz,Ext w wz->nX b6 300 wz g c [dA,dB] c5):=a8 λwz h=>j.ext h
 have hM:Hid (∀wz,Ext w wz->LgF b6 300 wz c nmS [true] obS csS):=a8 λwz h=>hF.ext h
 have HPV:Hid (∀wz,Ext w wz->PbV 4 wz (.agg #[c.n0,c.n1,(c.ra,c.rn,c.rc),(c.va,c.vn,c.vc)]) pS):=a8 λwz h=>g1.ext h
 have hN:Hid (∀wz,Ext w wz->VnL wz (c.va,c.vn,c.vc) nmS):=a8 λwz h=>g2.ext h
 have HX:Hid (∀wz,Ext w wz->QL 4 wz (.slice b7 1 b8) [1]):=a8 λwz h=>SL.ext (λ_ _ j=>j.ext h) T h
 have c7:Hid (∀wz,Ext w wz->wz.cell? g=some (.string c.n0)/\wz.cell? (g,1)=some (.string c.n1)/\wz.cell? (g,2)=some (.slice c.ra c.rn c.rc)/\wz.cell? (g,3)=some (.slice c.va c.vn c.vc)):=a8 λwz h=>by
  obtain⟨o,_,p,hO,en,hP,l, -⟩:=j;exact⟨(l.ext h).cell 0,(l.ext h).cell 1,(l.ext h).cell 2,(l.ext h).cell 3⟩
 have hR:=a8 g3;have bO:=a8 (aD fG g0);have i6:g<w.heap.size:=by
  obtain⟨_,_,_,_,_,_,l,_, -⟩:=j;exact l.lt
 obtain⟨g5,g6,g7,g9⟩:=c7.out bG U;rw[c6]at g5 g6 g7 g9;clear j hF g1 g2 T g3 hL fG g0;go_enter func23,ntmps23;go_wp2_with fail;rw[<-c6];clear c6 g5 g6 g7 g9;refine(CT 4 4 20 1 _ _ pS [1] bG (HPV.out bG U) (HX.out bG U) (by intro hS c8;rw[aC.1 c8];exact lr) om om om om om).mono ?_;rw[ad8];rintro e m ⟨rfl,c9⟩;go_wp2_with fail;have bP:=U.trans c9;refine(M5 b6 300 300 700 g 1 c [dA,dB] c5 nmS [true] obS csS m (g4.out m bP) (hM.out m bP) (by rw[bO.out.1];omega) (by rw[bO.out.1];omega) (by rw[bO.out.2];omega) (by rw[bO.out.2];omega) ag5 de de de de de de (by decide+kernel) (by
  intro gA e0;have e0:gA=dA∨gA=dB:=by simpa using e0
  rcases e0 with rfl |rfl<;>decide+kernel) de de).mono ?_
 rintro e i ⟨b,q,r,o,p,rfl,e1,M,V,X⟩;rw[ae8]at V;rw[show [dA,dB].map fmD=[dA,dB]by rw[dQ,dQ,eT,ai3,ai4]]at X;have hT:csS.length=3:=rfl;have hU: [dA,dB].length=2:=rfl;rw[hT]at V ⊢;rw[hU]at X ⊢;have e2:=bP.trans e1;have hV:Hid (∀wz,Ext i wz->CpF m 700 wz b nmS [true] obS/\CoL m 700 wz (.slice q 3 r) csS/\DeL m 700 wz (.slice o 2 p) [dA,dB]):=a8 λwz h=>⟨M.keep h.keepS,V.ext h,X.ext h⟩
 obtain⟨e3,e4,gG,bR,hW⟩:=kR i (cpC b q 3 r o 2 p) 75;obtain⟨gL,gT,h0,-⟩:=bR.cl [4,5,6];obtain⟨f4,f5,f6,-⟩:=bR.fl [4,5,6];have bS:Bx 75 (((e3.setCell (i,4) (2:Int)).setCell (i,5) true).setCell (i,6) true) i #[(b.na,b.nn,b.nc),(b.wa,b.wn,b.wc),(b.oa,b.on,b.oc),.slice q 3 r,(2:Int),true,true,b.lo.b,(b.lo.a1,b.lo.n1,b.lo.c1),(b.lo.a2,b.lo.n2,b.lo.c2),b.hi.b,(b.hi.a1,b.hi.n1,b.hi.c1),(b.hi.a2,b.hi.n2,b.hi.c2),(),.slice o 2 p]:=((bR.set 4 _).set 5 _).set 6 _;obtain⟨N,bT⟩:=ex (((e3.setCell (i,4) (2:Int)).setCell (i,5) true).setCell (i,6) true);rw[<-bT]at bS;have e5:Chg i e3 N:=by rw[bT];exact((Chg.setCell _ _ 4 _).trans (Chg.setCell _ _ 5 _)).trans (Chg.setCell _ _ 6 _)
 have h4:=gG.step e5 lr;have i7:i.heap.size<N.heap.size:=bS.lt;unfold cpC at e4 gL gT h0 ⊢;have h5:=a8 (c9.trans e1);have hX:=a8 U;clear M V X U c9 e1 bR;go_upto_region 4 with(fail);rw[<-e4];clear e4;go_upto_region 5 with(fail);rw[<-bT];have HE3:=a8 e2;have HC:Hid (∀wz,Ext i wz->wz.cell? g=some (.string c.n0)/\wz.cell? (g,1)=some (.string c.n1)/\wz.cell? (g,2)=some (.slice c.ra c.rn c.rc)/\wz.cell? (g,3)=some (.slice c.va c.vn c.vc)):=a8 λwz h=>c7.out wz (e2.trans h)
 have h6:BeI i N i b q r o p (λ_=>false) N:=⟨h4,Chg.refl _ _,b.lo,b.hi,bS,λj=>(by cases j),λj=>(by cases j)⟩;clear bT gL gT h0 f4 f5 f6 bS e5 h4 bP e2 gG hW c7;apply mQ [13,15] (λ_ c0 c1=>Chg i c0 c1/\∃hY,Bx 75 c0 i hY) (BeI i N i b q r o p)
  [kN _,kN _,kN _,kN (.agg #[c.n0,c.n1,(c.ra,c.rn,c.rc),(c.va,c.vn,c.vc)]),kN (.slice b7 1 b8),⟨λF w=>FrQ i w F (-1),λ_=>false,λF a e6 H j=>j.ext H,λ_ _ F a e6 z j=>j.keepT (let ⟨_,l⟩:=z.2;z.1.keepS l de).keepT⟩,kN _,kN _,kN _,kN (.agg #[c.n0,c.n1,(c.ra,c.rn,c.rc),(c.va,c.vn,c.vc)]),kN (.slice b7 1 b8),⟨λF w=>FrQ i w F (-1),λ_=>false,λF a e6 H j=>j.ext H,λ_ _ F a e6 z j=>j.keepT (let ⟨_,l⟩:=z.2;z.1.keepS l de).keepT⟩,kN _,kV,kN _,kV] [] [] [] [] [] ?ie h6 ?st ?en ?hcs sm kr kr hF
 case hcs=>
  exact Ob4
 case ie=>
  rintro O c0 c1 H ⟨L,P,d,f,l,Q,R⟩;exact⟨L.trans H,P.trans (H.chg _),d,f,l.ext H,λj=>(Q j).ext H,λj=>(R j).ext H⟩
 case st=>
  refine⟨oX,oX,oX,oX,oX,?_,oX,oX,oX,oX,oX,?_,oX,?_,oX,?_,trivial⟩
  .intro O n wz hI u c2 c3;have q3:n 3= .agg #[c.n0,c.n1,(c.ra,c.rn,c.rc),(c.va,c.vn,c.vc)]:=u.1 rfl;have q4:n 4= .slice b7 1 b8:=u.2.1 rfl;refine oC (P:=prog) #[n 3,n 4] func68 rfl rfl ?_;exact RM0
  .intro O n wz hI u c2 c3;have q3:n 9= .agg #[c.n0,c.n1,(c.ra,c.rn,c.rc),(c.va,c.vn,c.vc)]:=u.1 rfl;have q4:n 10= .slice b7 1 b8:=u.2.1 rfl;refine oC (P:=prog) #[n 9,n 10] func68 rfl rfl ?_;exact RM0
  .intro O n wz hI u c2 hZ c3;have e7:n 12= .pointer (i,7):=u.1 rfl;have e8:FrQ i wz (n 5) (-1):=u.2.1 rfl;obtain⟨L,P,d,f,l,Q,R⟩:=hI;obtain⟨I,B,C,J,D,E,K,x,e9⟩:=e8.opn;have b9:∀m,Chg i wz m->Bx 75 m i #[(b.na,b.nn,b.nc),(b.wa,b.wn,b.wc),(b.oa,b.on,b.oc),.slice q 3 r,(2:Int),true,true,I,(B,C,J),(D,E,K),f.b,(f.a1,f.n1,f.c1),(f.a2,f.n2,f.c2),(),.slice o 2 p]->BeI i N i b q r o p (onS O 0) m:=λm A eA=>
    have bA:=(A.keepS l de).keepT;have eB:=e9.keepT bA;⟨L.step A lr,P.trans A,⟨I,B,C,J,D,E,K⟩,f,eA,λ_=>eB,λj=>(R (by simpa[onS]using j)).keepT bA⟩
   exact kM.mono2 (R:=Chg i) (p:=λ_ m=>Bx 75 m i.heap.size #[.slice b.na b.nn b.nc,.slice b.wa b.wn b.wc,.slice b.oa b.on b.oc,.slice q 3 r,.int .i64 2,.bool true,.bool true,.bool I,.slice B C J,.slice D E K,.bool f.b,.slice f.a1 f.n1 f.c1,.slice f.a2 f.n2 f.c2,.slice none 0 0,.slice o 2 p]/\Chg i.heap.size wz m) (λF m z x=>⟨⟨z,_,l⟩,b9 m z x.1,trivial⟩) (λx=>⟨b9 wz x.2 x.1,trivial⟩) (oN (P:=prog) i 7 75 _ [(b.na,b.nn,b.nc),(b.wa,b.wn,b.wc),(b.oa,b.on,b.oc),.slice q 3 r,(2:Int),true,true,d.b,(d.a1,d.n1,d.c1),(d.a2,d.n2,d.c2),f.b,(f.a1,f.n1,f.c1),(f.a2,f.n2,f.c2),(),.slice o 2 p] #[I,(B,C,J),(D,E,K)] _ _ rfl rfl e7 x kr l (by show 7+3<=15;omega) (by simp[Value.oneCell']) (λw' A eC _=>⟨eC,A⟩))
  .intro O n wz hI u c2 hZ c3;have e7:n 14= .pointer (i,10):=u.1 rfl;have e8:FrQ i wz (n 11) (-1):=u.2.1 rfl;obtain⟨L,P,d,f,l,Q,R⟩:=hI;obtain⟨I,B,C,J,D,E,K,x,e9⟩:=e8.opn;have b9:∀m,Chg i wz m->Bx 75 m i #[(b.na,b.nn,b.nc),(b.wa,b.wn,b.wc),(b.oa,b.on,b.oc),.slice q 3 r,(2:Int),true,true,d.b,(d.a1,d.n1,d.c1),(d.a2,d.n2,d.c2),I,(B,C,J),(D,E,K),(),.slice o 2 p]->BeI i N i b q r o p (onS O 1) m:=λm A eA=>
    have bA:=(A.keepS l de).keepT;have eB:=e9.keepT bA;⟨L.step A lr,P.trans A,d,⟨I,B,C,J,D,E,K⟩,eA,λj=>(Q (by simpa[onS]using j)).keepT bA,λ_=>eB⟩
   exact kM.mono2 (R:=Chg i) (p:=λ_ m=>Bx 75 m i.heap.size #[.slice b.na b.nn b.nc,.slice b.wa b.wn b.wc,.slice b.oa b.on b.oc,.slice q 3 r,.int .i64 2,.bool true,.bool true,.bool d.b,.slice d.a1 d.n1 d.c1,.slice d.a2 d.n2 d.c2,.bool I,.slice B C J,.slice D E K,.slice none 0 0,.slice o 2 p]/\Chg i.heap.size wz m) (λF m z x=>⟨⟨z,_,l⟩,b9 m z x.1,trivial⟩) (λx=>⟨b9 wz x.2 x.1,trivial⟩) (oN (P:=prog) i 10 75 _ [(b.na,b.nn,b.nc),(b.wa,b.wn,b.wc),(b.oa,b.on,b.oc),.slice q 3 r,(2:Int),true,true,d.b,(d.a1,d.n1,d.c1),(d.a2,d.n2,d.c2),f.b,(f.a1,f.n1,f.c1),(f.a2,f.n2,f.c2),(),.slice o 2 p] #[I,(B,C,J),(D,E,K)] _ _ rfl rfl e7 x kr l (by show 10+3<=15;omega) (by simp[Value.oneCell']) (λw' A eC _=>⟨eC,A⟩))
 case en=>
  intro n eD hI u;obtain⟨L,P,d,f,l,Q,R⟩:=hI;have eE:=a8 (aD (Q rfl) (R rfl));have eG:=a8 L;have eN:=a8 l;clear u P h6 Q R L l HC;go_wp2_with fail;refine(M9 4 _ [1] eD (HX.out _ (HE3.out.trans eG.out)) de de).mono ?_;rintro e y ⟨_,rfl,bB,bC⟩;have h7:mkV (gaN [1] [(1:Rat)].length)=[(0,1)]:=gatS;rw[h7]at bB;obtain⟨fA,fB,rfl⟩:=bB.val;have h8: [((0:Int),(1:Rat))].length=1:=rfl;rw[h8]at bB ⊢;obtain⟨h9,fC,bD,hA,i0⟩:=kR y #[.slice fA 1 fB] 32;have Y:=(eN.out.ext bC).ext bD;have hB:=Y.cell 13;have f13:=Y.free 13;obtain⟨S,c4⟩:=ex (h9.setCell (i,13) (.slice y 1 1));have hC:Bx 75 S i #[(b.na,b.nn,b.nc),(b.wa,b.wn,b.wc),(b.oa,b.on,b.oc),.slice q 3 r,(2:Int),true,true,d.b,(d.a1,d.n1,d.c1),(d.a2,d.n2,d.c2),f.b,(f.a1,f.n1,f.c1),(f.a2,f.n2,f.c2),.slice y 1 1,.slice o 2 p]:=by rw[c4];exact Y.set 13 _
  have Z:Chg i h9 S:=by rw[c4];exact Chg.setCell _ _ 13 _
  have bE:=a8 ((eG.out.trans (bC.trans bD)).step Z lr);have fD:uC eD S:=((bC.trans bD).keepS).trans (Z.keepS Y de);have hD:Hid (TO eD 700 S (.slice fA 1 fB) [(0,1)]/\Bx 32 S y #[.slice fA 1 fB]):=a8 ⟨((bB.ext bD).keepT (Z.keepS Y de).keepT).le de,hA.chg Z (by have:=bC.size;have:=eG.out.size;have:=eN.out.lt;omega)⟩;have hE:=a8 (aD (eE.out.1.keepT fD.keepT) (eE.out.2.keepT fD.keepT));have i1:=a8 hC;clear hC Z fD hA i0 bB Y h8 h7 eE eN bC;rw[fC]at hB f13;go_upto_region 7 with(fail);rw[<-fC,<-c4];clear fC c4 hB f13 bD;have HC:Hid (∀wz,Ext S wz->wz.cell? g=some (.string c.n0)/\wz.cell? (g,1)=some (.string c.n1)/\wz.cell? (g,2)=some (.slice c.ra c.rn c.rc)/\wz.cell? (g,3)=some (.slice c.va c.vn c.vc)/\wz.cell? i.heap.size=some (.slice b.na b.nn b.nc)/\wz.cell? (i,1)=some (.slice b.wa b.wn b.wc)/\wz.cell? (i,2)=some (.slice b.oa b.on b.oc)/\wz.cell? (i,3)=some (.slice q 3 r)/\wz.cell? (i,4)=some (.int .i64 2)/\wz.cell? (i,5)=some (.bool true)/\wz.cell? (i,6)=some (.bool true)/\wz.cell? (i,7)=some (.bool d.b)/\wz.cell? (i,8)=some (.slice d.a1 d.n1 d.c1)/\wz.cell? (i,9)=some (.slice d.a2 d.n2 d.c2)/\wz.cell? (i,10)=some (.bool f.b)/\wz.cell? (i,11)=some (.slice f.a1 f.n1 f.c1)/\wz.cell? (i,12)=some (.slice f.a2 f.n2 f.c2)/\wz.cell? (i,13)=some (.slice y 1 1)/\wz.cell? (i,14)=some (.slice o 2 p)):=a8 λwz h=>by
   obtain⟨_,_,_,hO,en,hP,l, -⟩:=g4.out wz (HE3.out.trans (bE.out.trans h));have v:=i1.out.ext h;exact⟨l.cell 0,l.cell 1,l.cell 2,l.cell 3,v.cell 0,v.cell 1,v.cell 2,v.cell 3,v.cell 4,v.cell 5,v.cell 6,v.cell 7,v.cell 8,v.cell 9,v.cell 10,v.cell 11,v.cell 12,v.cell 13,v.cell 14⟩
  have i2:Hid (∀wz,Ext S wz->CrP 0 700 wz ⟨b.na,b.nn,b.nc,b.wa,b.wn,b.wc,b.oa,b.on,b.oc,q,3,r,d,f,some ⟨y.heap.size,0,none⟩,1,1,o,2,p⟩ crS):=a8 λwz h=>by
   obtain⟨M,V,X⟩:=hV.out wz (bE.out.trans h);have i3:b.wn=[true].length:=by have:=M.bs.1;rw[dG,aF]at this;exact this.symm
   exact⟨aa7 M.nm,CD M.bs i3,M.ob.mono zl,(OL.sl V de).map λb c1 j=>j.mono zl,(hE.out.1.ext h).mono zl,(hE.out.2.ext h).mono zl,⟨some ⟨y.heap.size,0,none⟩,1,rfl,lr,de,.inr ⟨y.heap.size,0,rfl,λhG c0 T=>by
    rcases hG with _ |hG
    .cases T
     exact⟨_,(hD.out.2.ext h).cell 0,(hD.out.1.ext h).mono zl⟩
    .cases T⟩⟩,(OL.sl X de).map λb c1 j=>j.mono zl lr,by decide+kernel,by decide+kernel⟩
  apply JY [kN _,kN _,kN _,kN (.agg #[c.n0,c.n1,(c.ra,c.rn,c.rc),(c.va,c.vn,c.vc)]),kN (.agg #[(b.na,b.nn,b.nc),(b.wa,b.wn,b.wc),(b.oa,b.on,b.oc),.slice q 3 r,(2:Int),true,true,d.b,(d.a1,d.n1,d.c1),(d.a2,d.n2,d.c2),f.b,(f.a1,f.n1,f.c1),(f.a2,f.n2,f.c2),.slice y 1 1,.slice o 2 p]),kN (.tuple #[(0:Int),(0:Int)]),kN _,kN (0:Int),kN (0:Int),kN (0:Int),kN (0:Int)] ?st ?en hF kr rfl kr
  case st=>
   refine⟨oX,oX,oX,oX,oX,?_,oX,oX,oX,oX,oX,trivial⟩;intro O n wz hI u c2 c3;have q3:n 3= .agg #[c.n0,c.n1,(c.ra,c.rn,c.rc),(c.va,c.vn,c.vc)]:=u.1 rfl;have q4:n 4= .agg #[(b.na,b.nn,b.nc),(b.wa,b.wn,b.wc),(b.oa,b.on,b.oc),.slice q 3 r,(2:Int),true,true,d.b,(d.a1,d.n1,d.c1),(d.a2,d.n2,d.c2),f.b,(f.a1,f.n1,f.c1),(f.a2,f.n2,f.c2),.slice y 1 1,.slice o 2 p]:=u.2.1 rfl;refine oC (P:=prog) #[n 3,n 4] func70 rfl rfl ?_;rw[q3,q4];have hH:=HE3.out.trans (bE.out.trans hI);refine(NA 0 700 4 702 20 1 1 4 ⟨b.na,b.nn,b.nc,b.wa,b.wn,b.wc,b.oa,b.on,b.oc,q,3,r,d,f,some ⟨y.heap.size,0,none⟩,1,1,o,2,p⟩ crS dB.c [(0,1)] pS _ _ _ _ _ _ _ _ wz
    (i2.out wz hI) crgS (HPV.out wz hH) (hN.out wz hH) whlS.symm objS.symm conS.symm de de de (by intro hS c8;rw[aC.1 c8];exact lr) de de de de de de de
    stgS rfl de de scoS de de de (by rw[show crS.nm.length=1 from rfl,scaS];exact XE) (by rw[show crS.nm.length=1 from rfl,scaS];exact ad8) 1000 de de de de de rfl rfl (List.cons_ne_nil _ _) domS de de de de).mono ?_
   exact DR3
  case en=>
   intro n s hI u;have j0:n 9=(0:Int):=u.2.2.2.2.2.2.2.2.2.1 rfl;have j1:n 10=(0:Int):=u.2.2.2.2.2.2.2.2.2.2.1 rfl;have i4:=HC.out s hI;obtain⟨-, -, -, -,_,_,_,_,_,e5,_,_,_,Z,_,_,_,_,_⟩:=i4;have h:=hR.out.ext (h5.out.trans (bE.out.trans hI));have j2:s.cell? w.heap.size=some (.slice none 0 0):=h.cell 0;have j3:=h.free 0;have C:s.cell? (w,1)=some (.slice none 0 0):=h.cell 1;have B:=h.free 1;have E:s.cell? (w,2)=some (.slice none 0 0):=h.cell 2;have D:=h.free 2;have j4:s.cell? (w,3)=some (.slice none 0 0):=h.cell 3;have j5:=h.free 3;have j6:s.cell? (w,4)=some (.int .i64 0):=h.cell 4;have jA:=h.free 4;have jB:s.cell? (w,5)=some (.bool false):=h.cell 5;have jC:=h.free 5;have jD:s.cell? (w,6)=some (.bool false):=h.cell 6;have jE:=h.free 6;have jG:s.cell? (w,7)=some (.bool false):=h.cell 7;have k0:=h.free 7;have k1:s.cell? (w,8)=some (.slice none 0 0):=h.cell 8;have k2:=h.free 8;have k3:s.cell? (w,9)=some (.slice none 0 0):=h.cell 9;have k4:=h.free 9;have k5:s.cell? (w,10)=some (.bool false):=h.cell 10;have k6:=h.free 10;have k7:s.cell? (w,11)=some (.slice none 0 0):=h.cell 11;have k8:=h.free 11;have k9:s.cell? (w,12)=some (.slice none 0 0):=h.cell 12;have kA:=h.free 12;have kB:s.cell? (w,13)=some (.slice none 0 0):=h.cell 13;have kC:=h.free 13;have kD:s.cell? (w,14)=some (.slice none 0 0):=h.cell 14;have kE:=h.free 14;have hJ:Hid (∀(a0 a1 a2 a3 a4 a5 a6 a7 a9 b0 b1 b2 b3 b4 b5:Value),Bx 75 (((((((((((((((s.setCell w a0).setCell (w,1) a1).setCell (w,2) a2).setCell (w,3) a3).setCell (w,4) a4).setCell (w,5) a5).setCell (w,6) a6).setCell (w,7) a7).setCell (w,8) a9).setCell (w,9) b0).setCell (w,10) b1).setCell (w,11) b2).setCell (w,12) b3).setCell (w,13) b4).setCell (w,14) b5) w #[a0,a1,a2,a3,a4,a5,a6,a7,a9,b0,b1,b2,b3,b4,b5]/\Chg w s (((((((((((((((s.setCell w a0).setCell (w,1) a1).setCell (w,2) a2).setCell (w,3) a3).setCell (w,4) a4).setCell (w,5) a5).setCell (w,6) a6).setCell (w,7) a7).setCell (w,8) a9).setCell (w,9) b0).setCell (w,10) b1).setCell (w,11) b2).setCell (w,12) b3).setCell (w,13) b4).setCell (w,14) b5)):=a8 λa0 a1 a2 a3 a4 a5 a6 a7 a9 b0 b1 b2 b3 b4 b5=>⟨MW w [a0,a1,a2,a3,a4,a5,a6,a7,a9,b0,b1,b2,b3,b4,b5] [] [(),(),(),(),(0:Int),false,false,false,(),(),false,(),(),(),()] s h rfl,IM w [a0,a1,a2,a3,a4,a5,a6,a7,a9,b0,b1,b2,b3,b4,b5] s 0⟩
   have i5:=a8 (hX.out.trans (h5.out.trans (bE.out.trans hI)));clear h u;go_wp2;refine nP 4 5 75 w 75 _ _ _ kr rfl rfl (hJ.out _ _ _ _ _ _ _ _ _ _ _ _ _ _ _).1 underlying75 rfl kr rfl ?_;exact⟨b,q,r,d,f,y.heap.size,o,p,rfl,i5.out.step (hJ.out _ _ _ _ _ _ _ _ _ _ _ _ _ _ _).2 lr⟩
end Go.Proofs.YtjlcilmjfejimaaGreat
