/- Terms in a list of one's own: two ranges merged, one of them of one term. -/
import Derived.Test.YtjlcilmjfejimaaGreatC
import Derived.Lib.SliceRun
import Derived.Deep.Strs
import Derived.Maps.AppendAt
namespace Go.Proofs.YtjlcilmjfejimaaGreat
set_option maxRecDepth 100000
set_option maxHeartbeats 32000000
set_option linter.unusedVariables false
set_option linter.unusedSimpArgs false
open Go.RowKit Tryz
variable{a d m r E F k B i:Nat}{b p:List (Int×Rat)}{c s u:Value}{e:Int}{f q:World}{g y:Rat}{j:List Value}{n:List Int}{o:TypeId}{t:Type}{v D:Array Value}{x R:List TmC}{A:Option Addr}{C:List Rat}{P:Program}
theorem xR{h:Nat}(a:h<R.length):∃R1 b c,R=R1++b::c/\R1.length=h/\R[h]? =some b:=
 ⟨R.take h,R[h],R.drop (h+1),by rw[<-dO a,bQ],by rw[aP];omega,aA a⟩
theorem N3(d q b:Nat)(rest:List Value)(n c r:List TmC)(a:TmC)(w:World)(p i u:Nat)(D:d=(n++ [a]++c++r).length)(eG:d<=35184372088832)(S:p=n.length)(T:i=p+1)(U:u=i+c.length)(b4:0<c.length)(V:Ris lU c)(X:kY b rest w (n++ [a]++c++r)):
  Calls prog 201 #[(b,d,q),p,i,u,.func (.func 96) #[] #[]] w λe w'=>e= .returned (.tuple #[])/\Chg b w w'/\∃E,E.Perm ([a]++c)/\Ris lU E/\kY b rest w' (n++E++r):=by
 simp only[aB,bH,cQ]at D;have eN:u<=d:=om;have fA:p<d:=om;have fB:(i:Int) - (p:Int)=1:=om;have b5:i<=u:=om;have fC:i<=d:=om;have Y:=a8 T;have y:=a8 (aD D (aD S U));have b6:=a8 V;have Hd:=a8 (show kY b rest w (n++a::(c++r))by simpa[aG]using X);clear D S U b4 V X T;go_enter func201,ntmps201;go_wp2_with fail;go_loopw [10,11] (λF I wr=>∃(j k:Nat),F= .int .i64 (j:Int)/\I= .int .i64 (k:Int)/\i<=j/\j<=k/\k<=u/\Hid ((j=i∨∃x,c[j - i - 1]? =some x/\lU x<lU a)/\(k=u∨∃x,c[k - i]? =some x/\lU a<=lU x))/\Ext w wr) (λF I _=>(intOf I - intOf F).toNat)
 case atStart=>exact ⟨i,u,rfl,rfl,lr,b5,lr,a8 ⟨.inl rfl,.inl rfl⟩,rE⟩
 case round=>
  obtain⟨j,k,rfl,rfl,b7,b8,b9,hF,hex⟩:=hrel;rcases aI b8 with J |bA
  .subst J;obtain⟨t,Z⟩:∃t,t+1=j:=⟨j - 1,om⟩;have fD:(j:Int) - 1=(t:Int):=om;have K:Hid (Ris lU (c.take (j - i)++ [a]++c.drop (j - i))/\(c.take (j - i)++ [a]++c.drop (j - i)).Perm ([a]++c)):=by
    obtain⟨h1,h2⟩:=hF.out;obtain⟨bB,bC,bD⟩:=y.out;constructor
    .refine YA b6.out (j - i) ?_ ?_
     .rcases h1 with h1 |⟨x,h1,h3⟩
      .exact .inl om
      .exact .inr ⟨x,h1,om⟩
     .exact ES8
    .exact(BU (j - i)).trans jF
   obtain⟨L,a0⟩:=ex (j - i);rw[<-a0]at K;have a1:=a8 (show t=p+L by have:=Y.out;omega);have bE:=a8 (show kY b rest wr (n++a::(c++r))from Hd.out.ext hex);obtain⟨M,bG⟩:∃M,M=wr:=⟨wr,rfl⟩;subst bG;clear hF;have a2:=a8 (show L<=c.length by have:=y.out.2.2;omega);have bO:=a8 Z;have fE:t<=d:=om;clear a0 Z;go_wp2_with fail;go_loopw [13] (λN a3=>∃(l g:Nat),N= .int .i64 (g:Int)/\g=p+l/\l<=L/\Hid (kY b rest a3 ((n++c.take l)++a::(c.drop l++r)))/\Chg b M a3) (λN _=>((t:Int) - intOf N).toNat)
   case atStart=>exact ⟨0,p,rfl,rfl,zl,a8 (by simpa using bE.out),Chg.refl _ _⟩
   case round=>
    obtain⟨l,g,rfl,O,bP,P,a4⟩:=hrel;have bR:=a8 O;rcases aI bP with J |bA
    .subst J;have bS:¬(g:Int)<t:=by have:=a1.out;omega
     clear O;go_wp2;refine bodyPost_ret (results_none kr _ _ _) rfl ?_;exact⟨rfl,(hex.chg b).trans a4,_,K.out.2,K.out.1,by simpa[aG]using P.out⟩
    .obtain⟨x,v,HX⟩:∃x v,Hid (c.drop l=x::v/\c.take (l+1)=c.take l++ [x]/\c.drop (l+1)=v):=by
      have a5:l<c.length:=by have:=a2.out;omega
      exact⟨c[l],c.drop (l+1),a8 ⟨dO a5,by rw[cE,aA a5];rfl,rfl⟩⟩
     have A:Hid (kY b rest wr ((n++c.take l)++a::([]++x::(v++r)))):=by
      have:=P.out;rw[HX.out.1]at this;exact this
     obtain⟨m,hp⟩:=ex (g+1);have B:Hid (g=(n++c.take l).length/\m=(n++c.take l).length+1+([]:List TmC).length/\(((n++c.take l)++a::([]++x::(v++r))).map tmv).length=d):=by
      obtain⟨bB,bC,bD⟩:=y.out;have a6:=congrArg List.length HX.out.1;have:=a2.out;have:=Y.out;simp only[cK,bH]at a6;simp only[aF,aB,bH,cQ,aP];exact a8 ⟨om,om,om⟩
     have bT:=a8 (A.out.at (wY B.out.1));have c0:=a8 (A.out.at (uV B.out.2.1));have bS:(g:Int)<t:=by have:=a1.out;omega
     have fG:(g:Int)+1=(m:Int):=om;have a7:g<d:=om;have a9:m<d:=by have:=bO.out;omega
     have g0:(g:Int)<d:=om;have g1:(m:Int)<d:=om;have c1:g≠m:=om;have b0:=a8 hp;clear hp P O;go_wp2_with fail;refine tP b d g m 15 17 rest (((n++c.take l)++a::([]++x::(v++r))).map tmv) (.agg #[a.c,a.b,(a.a1,a.n1,a.c1),(a.a2,a.n2,a.c2)]) (.agg #[x.c,x.b,(x.a1,x.n1,x.c1),(x.a2,x.n2,x.c2)]) [(b,d,q),g,(b,d,q),g,m,(b,d,q),g,m,(b,m*4),kL (.agg #[x.c,x.b,(x.a1,x.n1,x.c1),(x.a2,x.n2,x.c2)]),(b,d,q),g,(b,g*4),kL (.agg #[a.c,a.b,(a.a1,a.n1,a.c1),(a.a2,a.n2,a.c2)]),(b,g*4),kP,(b,m*4),kP] [] [15,14,13,12,11,10,9,8,7,6,5,1,0] kr kr (λf=>(by simp only[mJ,mO,aQ,aV,aZ,Nat.reduceAdd];rfl)) c1 de B.out.2.2 A.out a7 a9 (by intro m hp;simp only[aS,bI,or_false]at hp;rcases hp with rfl |rfl |rfl |rfl |rfl |rfl |rfl |rfl |rfl |rfl |rfl |rfl |rfl |rfl |rfl |rfl |rfl |rfl<;>rfl) ?_ ?_ de de
     .refine⟨oL,oL,?_,?_,?_,oL,oL,?_,?_,?_,oL,oL,?_,?_,?_,?_,?_,?_,trivial⟩
      .exact Az7
      .exact Az7
      .intro f w2 hG hp hl;have hS:wr.heap.size<=w2.heap.size:=hG.2.2.2.1;have g2:f 3=g:=lW hp 0 3 rfl rfl;exact mi3
      .intro f w2 hG hp hl;have o:Ext wr w2:=hG;have hS:=o.size;have g3:f 6=g:=lW hp 0 6 rfl rfl;exact mi3
      .intro f w2 hG hp hl;have g4:f 5=(b,d,q):=lW hp 0 5 rfl rfl;have g5:f 7=m:=lW hp 1 7 rfl rfl;exact DG6
      .intro f w2 hG hp hl;have o:Ext wr w2:=hG;have c2:f 8=(b,m*4):=lW hp 0 8 rfl rfl;change kM _ _ _ f w2 Ext _;exact kW (P:=prog) _ _ b (m*4) _ _ rfl rfl c2 (λk s h=>c0.out _ o k s h) underlying67 rfl kr rfl
      .intro f w2 hG hp hl;have g6:f 10=(b,d,q):=lW hp 0 10 rfl rfl;have g7:f 11=g:=lW hp 1 11 rfl rfl;exact DG6
      .intro f w2 hG hp hl;have o:Ext wr w2:=hG;have c3:f 12=(b,g*4):=lW hp 0 12 rfl rfl;change kM _ _ _ f w2 Ext _;exact kW (P:=prog) _ _ b (g*4) _ _ rfl rfl c3 (λk s h=>bT.out _ o k s h) underlying67 rfl kr rfl
      .intro f w2 hG hp hl;have g9:f 0=(b,d,q):=lW hp 0 0 rfl rfl;have gA:f 1=g:=lW hp 1 1 rfl rfl;exact DG6
      .intro f w2 hG hp hl;have c4:f 14=(b,g*4):=lW hp 0 14 rfl rfl;have c5:f 9= .agg #[x.c,x.b,(x.a1,x.n1,x.c1),(x.a2,x.n2,x.c2)]:=lW hp 1 9 rfl rfl;intro Q c6;exact A5 (P:=prog) b d _ _ 15 g _ _ _ _ _ _ rfl rfl c4 c5 a7 kr (sW x) Q
      .intro f w2 hG hp hl;have hS:wr.heap.size<=w2.heap.size:=hG.2.2.2.1;have gG:f 2=(b,d,q):=lW hp 0 2 rfl rfl;have gL:f 4=m:=lW hp 1 4 rfl rfl;exact DG6
      .intro f w2 hG hp hl;have hS:wr.heap.size<=w2.heap.size:=hG.2.2.2.1;have c7:f 16=(b,m*4):=lW hp 0 16 rfl rfl;have c8:f 13= .agg #[a.c,a.b,(a.a1,a.n1,a.c1),(a.a2,a.n2,a.c2)]:=lW hp 1 13 rfl rfl;intro Q c6;exact A5 (P:=prog) b d _ _ 17 m _ _ _ _ _ _ rfl rfl c7 c8 a9 kr (sW a) Q
     .intro f w2 c9 b1 hp;clear hp;have e0:Hid (kY b rest w2 ((n++c.take l)++x::([]++a::(v++r)))):=kY.swapped B.out.1 B.out.2.1 b1;clear b1;go_wp2;go_roundw
      case rel=>
       refine⟨l+1,m,rfl,by have:=b0.out;have:=bR.out;omega,om,a8 ?_,a4.trans c9⟩;obtain⟨a6,e1,e2⟩:=HX.out;rw[e1,e2];simpa[aG]using e0.out
      case measure=>have:=b0.out;simp[intOf];omega
  .obtain⟨h,e3⟩:=ex ((j+k) / 2);obtain⟨R1,x,C,HX⟩:∃R1 x C,Hid (c=R1++x::C/\R1.length=h - i/\c[h - i]? =some x):=by
    obtain⟨R1,x,C,h1,h2,h3⟩:=xR (R:=c) (h:=h - i) (by have:=y.out.2.2;omega);exact⟨R1,x,C,a8 ⟨h1,h2,h3⟩⟩
   have A:Hid (kY b rest wr (n++a::(R1++x::(C++r)))):=qD8;have e4:=a8 (A.out.at (wY (p:=p) y.out.2.1));have e5:=a8 (A.out.at (uV (q:=h) (by have:=y.out.2.1;have:=HX.out.2.1;omega)));obtain⟨R,b2⟩:=ex (decide (x.c<a.c):Bool);have HR:=a8 b2;have gT:(j:Int)<k:=om;have h0:h<d:=om;have h4:(h:Int)<d:=om;have h5:(p:Int)<d:=om;have h6:((j:Int)+k) / 2=(h:Int):=om;have h7:h<k:=om;have e6:j<=h:=om;clear b2 e3;go_wp2_with fail;refine wpQ [kL (.func (.func 96) #[] #[]),(b,d,q),h,(b,h*4),kL (.agg #[x.c,x.b,(x.a1,x.n1,x.c1),(x.a2,x.n2,x.c2)]),(b,d,q),p,(b,p*4),kL (.agg #[a.c,a.b,(a.a1,a.n1,a.c1),(a.a2,a.n2,a.c2)]),zO (λs=>∃z:Int,s=z/\(z<0↔x.c<a.c)),R] [] [0,1,2,3,4,5,6,7,8,9,10] ?_ ?_
   .refine⟨oL,oL,oL,oL,?_,oL,oL,oL,?_,?_,?_,trivial⟩
    .intro f w2 hG hp hl;have o:Ext wr w2:=hG;have e7:=tE hp 0 3 rfl rfl rfl;change kM _ _ _ f w2 Ext _;exact kW (P:=prog) _ _ b (h*4) _ _ rfl rfl e7 (λk s h=>e5.out _ o k s h) underlying67 rfl kr rfl
    .intro f w2 hG hp hl;have o:Ext wr w2:=hG;have e8:=tE hp 0 7 rfl rfl rfl;change kM _ _ _ f w2 Ext _;exact kW (P:=prog) _ _ b (p*4) _ _ rfl rfl e8 (λk s h=>e4.out _ o k s h) underlying67 rfl kr rfl
    .intro f w2 hG hp hl;have e9:=tE hp 0 0 rfl rfl rfl;have eA:=tE hp 1 4 rfl rfl rfl;have eB:=tE hp 2 8 rfl rfl rfl;change kM _ _ _ f w2 Ext _;refine A4 (P:=prog) _ _ _ _ #[f 4,f 8] func96 kr kr rfl rfl e9 kr ?_;rw[eA,eB];refine(vM x a _).mono ?_;exact wV7
    .intro f w2 hG hp hl;have o:Ext wr w2:=hG;have eC:=kO hp 0 9 rfl rfl (λ_=>o);obtain⟨z,_,hzz⟩:=eC;exact Um2
   .intro f w2 hG hp;have o:Ext wr w2:=mV.nil hG;have eD:f 10=R:=rM hp 10 de rfl (λh=>by cases h);try simp only[eD]
    clear hp
    cases R with
    |true=>
     obtain⟨h1,b3⟩:=ex (h+1:Nat);have h8:(h:Int)+1=(h1:Int):=om;have eE:=a8 b3;clear b3;go_wp2;go_roundw
     case rel=>
      refine⟨h1,k,rfl,rfl,om,om,b9,a8 ⟨.inr ⟨x,?_,?_⟩,hF.out.2⟩,hex.trans o⟩
      .have:=HX.out.2.2;rw[show h1 - i - 1=h - i by have:=eE.out;omega];exact this
      .exact of_decide_eq_true HR.out.symm
     case measure=>simp [intOf];omega
    |false=>
     go_wp2;go_roundw
     case rel=>
      refine⟨j,h,rfl,rfl,b7,e6,om,a8 ⟨hF.out.1,.inr ⟨x,HX.out.2.2,?_⟩⟩,hex.trans o⟩;have:=of_decide_eq_false HR.out.symm;show a.c<=x.c;omega
     case measure=>simp [intOf];omega
theorem JU(g p a:Nat)(rest:List Value)(n b q:List TmC)(y:TmC)(w:World)(i l F:Nat)(K:g=(n++b++ [y]++q).length)(eB:g<=35184372088832)(T:i=n.length)(U:l=i+b.length)(b4:F=l+1)(b5:1<b.length)(V:Ris lU b)(X:kY a rest w (n++b++ [y]++q)):
  Calls prog 201 #[(a,g,p),i,l,F,.func (.func 96) #[] #[]] w λe w'=>e= .returned (.tuple #[])/\Chg a w w'/\∃L,L.Perm (b++ [y])/\Ris lU L/\kY a rest w' (n++L++q):=by
 simp only[aB,bH,cQ]at K;have eC:F<=g:=om;have eD:l<g:=om;have b6:i<=l:=om;have eE:¬(l:Int) - (i:Int)=1:=om;have eG:(F:Int) - (l:Int)=1:=om;have u:=a8 (aD K (aD T U));have b7:=a8 V;have Hd:=a8 (show kY a rest w ((n++b)++y::q)by simpa[aG]using X);clear K T U b4 b5 V X;go_enter func201,ntmps201;go_wp2_with fail;go_loopw [14,15] (λM N wr=>∃(m k:Nat),M= .int .i64 (m:Int)/\N= .int .i64 (k:Int)/\i<=m/\m<=k/\k<=l/\Hid ((m=i∨∃x,b[m - i - 1]? =some x/\lU x<=lU y)/\(k=l∨∃x,b[k - i]? =some x/\lU y<=lU x))/\Ext w wr) (λM N _=>(intOf N - intOf M).toNat)
 case atStart=>exact ⟨i,l,rfl,rfl,lr,b6,lr,a8 ⟨.inl rfl,.inl rfl⟩,rE⟩
 case round=>
  obtain⟨m,k,rfl,rfl,b8,b9,Y,hF,hex⟩:=hrel;rcases aI b9 with O |bA
  .subst O;obtain⟨v,Z⟩:=ex (m - i);have a0:Hid (Ris lU (b.take v++ [y]++b.drop v)/\(b.take v++ [y]++b.drop v).Perm (b++ [y])):=by
    obtain⟨h1,h2⟩:=hF.out;obtain⟨a1,a2,I⟩:=u.out;subst Z;refine a8 ⟨YA b7.out (m - i) ?_ ?_,BU (m - i)⟩
    .rcases h1 with h1 |⟨x,h1,h3⟩
     .exact .inl om
     .exact .inr ⟨x,h1,h3⟩
    .exact ES8
   have a3:=a8 (show m=i+v by omega);have bB:=a8 (show v<=b.length by have:=u.out.2.2;omega);have bC:=a8 (show kY a rest wr ((n++b)++y::q)from Hd.out.ext hex);obtain⟨P,bD⟩:∃P,P=wr:=⟨wr,rfl⟩;subst bD;clear hF Z;go_wp2_with fail;go_loopw [17] (λQ a4=>∃(r d:Nat),Q= .int .i64 (d:Int)/\Hid (d=i+r)/\d<=l/\m<=d/\v<=r/\r<=l/\Hid (r<=b.length/\kY a rest a4 ((n++b.take r)++y::(b.drop r++q)))/\Chg a P a4) (λQ _=>(intOf Q).toNat)
   case atStart=>exact ⟨b.length,l,rfl,a8 u.out.2.2,lr,Y,bB.out,by have:=u.out.2.2;omega,a8 ⟨lr,by simpa using bC.out⟩,Chg.refl _ _⟩
   case round=>
    obtain⟨r,d,rfl,C,_,_,bE,_,D,a5⟩:=hrel;rcases aI bE with O |bA
    .subst O;have bG:¬(m:Int)<d:=by have:=a3.out;have:=C.out;omega
     go_wp2;refine bodyPost_ret (results_none kr _ _ _) rfl ?_;exact⟨rfl,(hex.chg a).trans a5,_,a0.out.2,a0.out.1,by simpa[aG]using D.out.2⟩
    .obtain⟨t0,bO⟩:∃t0,r=t0+1:=⟨r - 1,om⟩;subst bO;obtain⟨x,HX⟩:∃x,Hid (b.take (t0+1)=b.take t0++ [x]/\b.drop t0=x::b.drop (t0+1)):=by
      have a6:t0<b.length:=by have:=D.out.1;omega
      exact⟨b[t0],a8 ⟨by rw[cE,aA a6];rfl,dO a6⟩⟩
     have A:Hid (kY a rest wr ((n++b.take t0)++x::([]++y::(b.drop (t0+1)++q)))):=by
      have:=D.out.2;rw[HX.out.1]at this;exact a8 (by simpa[aG]using this)
     obtain⟨j,hp⟩:∃j,d=j+1:=⟨d - 1,by have:=C.out;omega⟩;have E:Hid (j=(n++b.take t0).length/\d=(n++b.take t0).length+1+([]:List TmC).length/\(((n++b.take t0)++x::([]++y::(b.drop (t0+1)++q))).map tmv).length=g):=by
      obtain⟨a1,a2,I⟩:=u.out;have:=C.out;have:=D.out.1;simp only[aF,aB,bH,cQ,aP,cK];exact a8 ⟨om,om,om⟩
     have bP:=a8 (A.out.at (wY E.out.1));have bR:=a8 (A.out.at (uV E.out.2.1));have bG:(m:Int)<d:=by have:=a3.out;have:=C.out;omega
     have eN:(d:Int) - 1=(j:Int):=om;have a7:d<g:=om;have a9:j<g:=om;have fA:(d:Int)<g:=om;have fB:(j:Int)<g:=om;have bS:d≠j:=om;have R:=a8 hp;clear hp D;go_wp2_with fail;refine tP a g d j 15 17 rest (((n++b.take t0)++x::([]++y::(b.drop (t0+1)++q))).map tmv) (.agg #[y.c,y.b,(y.a1,y.n1,y.c1),(y.a2,y.n2,y.c2)]) (.agg #[x.c,x.b,(x.a1,x.n1,x.c1),(x.a2,x.n2,x.c2)]) [(a,g,p),d,(a,g,p),d,j,(a,g,p),d,j,(a,j*4),kL (.agg #[x.c,x.b,(x.a1,x.n1,x.c1),(x.a2,x.n2,x.c2)]),(a,g,p),d,(a,d*4),kL (.agg #[y.c,y.b,(y.a1,y.n1,y.c1),(y.a2,y.n2,y.c2)]),(a,d*4),kP,(a,j*4),kP] [] [15,14,13,12,11,10,9,8,7,6,5,1,0] kr kr (λf=>(by simp only[mJ,mO,aQ,aV,aZ,Nat.reduceAdd];rfl)) bS de E.out.2.2 A.out a7 a9 (by intro j hp;simp only[aS,bI,or_false]at hp;rcases hp with rfl |rfl |rfl |rfl |rfl |rfl |rfl |rfl |rfl |rfl |rfl |rfl |rfl |rfl |rfl |rfl |rfl |rfl<;>rfl) ?_ ?_ de de
     .refine⟨oL,oL,?_,?_,?_,oL,oL,?_,?_,?_,oL,oL,?_,?_,?_,?_,?_,?_,trivial⟩
      .exact Az7
      .exact Az7
      .intro f w2 hG hp hl;have hS:wr.heap.size<=w2.heap.size:=hG.2.2.2.1;have fC:f 3=d:=lW hp 0 3 rfl rfl;exact mi3
      .intro f w2 hG hp hl;have o:Ext wr w2:=hG;have hS:=o.size;have fD:f 6=d:=lW hp 0 6 rfl rfl;exact mi3
      .intro f w2 hG hp hl;have fE:f 5=(a,g,p):=lW hp 0 5 rfl rfl;have fG:f 7=j:=lW hp 1 7 rfl rfl;exact DG6
      .intro f w2 hG hp hl;have o:Ext wr w2:=hG;have bT:f 8=(a,j*4):=lW hp 0 8 rfl rfl;change kM _ _ _ f w2 Ext _;exact kW (P:=prog) _ _ a (j*4) _ _ rfl rfl bT (λk s h=>bP.out _ o k s h) underlying67 rfl kr rfl
      .intro f w2 hG hp hl;have g0:f 10=(a,g,p):=lW hp 0 10 rfl rfl;have g1:f 11=d:=lW hp 1 11 rfl rfl;exact DG6
      .intro f w2 hG hp hl;have o:Ext wr w2:=hG;have c0:f 12=(a,d*4):=lW hp 0 12 rfl rfl;change kM _ _ _ f w2 Ext _;exact kW (P:=prog) _ _ a (d*4) _ _ rfl rfl c0 (λk s h=>bR.out _ o k s h) underlying67 rfl kr rfl
      .intro f w2 hG hp hl;have g2:f 0=(a,g,p):=lW hp 0 0 rfl rfl;have g3:f 1=d:=lW hp 1 1 rfl rfl;exact DG6
      .intro f w2 hG hp hl;have c1:f 14=(a,d*4):=lW hp 0 14 rfl rfl;have c2:f 9= .agg #[x.c,x.b,(x.a1,x.n1,x.c1),(x.a2,x.n2,x.c2)]:=lW hp 1 9 rfl rfl;intro S c3;exact A5 (P:=prog) a g _ _ 15 d _ _ _ _ _ _ rfl rfl c1 c2 a7 kr (sW x) S
      .intro f w2 hG hp hl;have hS:wr.heap.size<=w2.heap.size:=hG.2.2.2.1;have g4:f 2=(a,g,p):=lW hp 0 2 rfl rfl;have g5:f 4=j:=lW hp 1 4 rfl rfl;exact DG6
      .intro f w2 hG hp hl;have hS:wr.heap.size<=w2.heap.size:=hG.2.2.2.1;have c4:f 16=(a,j*4):=lW hp 0 16 rfl rfl;have c5:f 13= .agg #[y.c,y.b,(y.a1,y.n1,y.c1),(y.a2,y.n2,y.c2)]:=lW hp 1 13 rfl rfl;intro S c3;exact A5 (P:=prog) a g _ _ 17 j _ _ _ _ _ _ rfl rfl c4 c5 a9 kr (sW y) S
     .intro f w2 c6 b0 hp;clear hp;have c7:Hid (kY a rest w2 ((n++b.take t0)++y::([]++x::(b.drop (t0+1)++q)))):=a8 (kY.swapped' E.out.1 E.out.2.1 b0);clear b0;go_wp2;go_roundw
      case rel=>
       refine⟨t0,j,rfl,a8 (by have:=C.out;have:=R.out;omega),by have:=R.out;omega,om,om,om,a8 ⟨by have:=congrArg List.length HX.out.2;simp only[cK,bH]at this;omega,?_⟩,a5.trans c6⟩;rw[HX.out.2];simpa[aG]using c7.out
      case measure=>have:=R.out;simp[intOf];omega
  .obtain⟨h,c8⟩:=ex ((m+k) / 2);obtain⟨t,x,B,HX⟩:∃t x B,Hid (b=t++x::B/\t.length=h - i/\b[h - i]? =some x):=by
    obtain⟨t,x,B,h1,h2,h3⟩:=xR (R:=b) (h:=h - i) (by have:=u.out.2.2;omega);exact⟨t,x,B,a8 ⟨h1,h2,h3⟩⟩
   have A:Hid (kY a rest wr ((n++t)++x::(B++y::q))):=qD8;have b1:Hid (h=(n++t).length/\l=(n++t).length+1+B.length):=by
    obtain⟨a1,a2,I⟩:=u.out;obtain⟨c9,_, -⟩:=HX.out;rw[c9]at I;simp only[aB,bH]at I ⊢;exact a8 ⟨om,om⟩
   have e0:=a8 (A.out.at (wY b1.out.1));have e1:=a8 (A.out.at (uV b1.out.2));obtain⟨J,b2⟩:=ex (decide (y.c<x.c):Bool);have HR:=a8 b2;have g6:(m:Int)<k:=om;have g7:h<g:=om;have g9:(h:Int)<g:=om;have gA:(l:Int)<g:=om;have gG:((m:Int)+k) / 2=(h:Int):=om;have gL:h<k:=om;have e2:m<=h:=om;clear b2 c8;go_wp2_with fail;refine wpQ [kL (.func (.func 96) #[] #[]),(a,g,p),l,(a,l*4),kL (.agg #[y.c,y.b,(y.a1,y.n1,y.c1),(y.a2,y.n2,y.c2)]),(a,g,p),h,(a,h*4),kL (.agg #[x.c,x.b,(x.a1,x.n1,x.c1),(x.a2,x.n2,x.c2)]),zO (λs=>∃z:Int,s=z/\(z<0↔y.c<x.c)),J,kL (.bool (!J))] [] [0,1,2,3,4,5,6,7,8,9,10,11] ?_ ?_
   .refine⟨oL,oL,oL,oL,?_,oL,oL,oL,?_,?_,?_,oL,trivial⟩
    .intro f w2 hG hp hl;have o:Ext wr w2:=hG;have e3:=tE hp 0 3 rfl rfl rfl;change kM _ _ _ f w2 Ext _;exact kW (P:=prog) _ _ a (l*4) _ _ rfl rfl e3 (λk s h=>e1.out _ o k s h) underlying67 rfl kr rfl
    .intro f w2 hG hp hl;have o:Ext wr w2:=hG;have e4:=tE hp 0 7 rfl rfl rfl;change kM _ _ _ f w2 Ext _;exact kW (P:=prog) _ _ a (h*4) _ _ rfl rfl e4 (λk s h=>e0.out _ o k s h) underlying67 rfl kr rfl
    .intro f w2 hG hp hl;have e5:=tE hp 0 0 rfl rfl rfl;have e6:=tE hp 1 4 rfl rfl rfl;have e7:=tE hp 2 8 rfl rfl rfl;change kM _ _ _ f w2 Ext _;refine A4 (P:=prog) _ _ _ _ #[f 4,f 8] func96 kr kr rfl rfl e5 kr ?_;rw[e6,e7];refine(vM y x _).mono ?_;exact wV7
    .intro f w2 hG hp hl;have o:Ext wr w2:=hG;have e8:=kO hp 0 9 rfl rfl (λ_=>o);obtain⟨z,_,hzz⟩:=e8;exact Um2
   .intro f w2 hG hp;have o:Ext wr w2:=mV.nil hG;have e9:f 11= .bool (!J):=rM hp 11 de rfl (λh=>by cases h);try simp only[e9]
    clear hp
    cases J with
    |true=>
     go_wp2;go_roundw
     case rel=>
      refine⟨m,h,rfl,rfl,b8,e2,om,a8 ⟨hF.out.1,.inr ⟨x,HX.out.2.2,?_⟩⟩,hex.trans o⟩;exact EF8
     case measure=>simp [intOf];omega
    |false=>
     obtain⟨h1,b3⟩:=ex (h+1:Nat);have gT:(h:Int)+1=(h1:Int):=om;have eA:=a8 b3;clear b3;go_wp2;go_roundw
     case rel=>
      refine⟨h1,k,rfl,rfl,om,om,Y,a8 ⟨.inr ⟨x,?_,?_⟩,hF.out.2⟩,hex.trans o⟩
      .have:=HX.out.2.2;rw[show h1 - i - 1=h - i by have:=eA.out;omega];exact this
      .exact Gc6
     case measure=>simp [intOf];omega
theorem oH{b:List TmC}(c:Ris lU x)(d:Ris lU b)(a:x.length=0∨b.length=0):Ris lU (x++b):=by
 rcases a with a |a
 .rw[aL a];exact d
 .rw[aL a,cF];exact c
theorem Y7{L:List TmC}{a m b s e mid nn s0 r0:Nat}(j:Ris lU L)(k:Ris lU R)(z:m=a+L.length)(A:b=m+R.length)(B:mid=(a+b) / 2)(C:nn=mid+m)(D:e+s=nn)(has:a<=s)(E:s<=m)(F:s<=mid)(I:e<=b)
  (l:s0=a∨s0+b=nn) (n:r0=m∨r0=mid)
  (r:s=s0∨∃c d,L[s - 1 - a]? =some c/\R[mid - s]? =some d/\lU c<=lU d) (t:s=r0∨∃c d,R[mid - 1 - s]? =some c/\L[s - a]? =some d/\lU c<=lU d):
  ∃g h R1 i,L=g++h/\R=R1++i/\g.length+a=s/\R1.length+m=e/\h.length+s=m/\i.length+e=b/\Ris lU g/\Ris lU h/\Ris lU R1/\Ris lU i/\
   ∀M1 f:List TmC,M1.Perm (g++R1)->f.Perm (h++i)->Ris lU M1->Ris lU f->(M1++f).Perm (L++R)/\Ris lU (M1++f):=by
 have:e=m+(mid - s):=om;refine⟨L.take (s - a),L.drop (s - a),R.take (mid - s),R.drop (mid - s),(bQ _ _).symm,(bQ _ _).symm,by rw[aP];omega,by rw[aP];omega,by rw[cK];omega,by rw[cK];omega,
  j.take _,j.drop _,k.take _,k.drop _,λM1 f u v x y=>ag2 j k (s - a) (mid - s) ?_ ?_ u v x y⟩
 .rcases r with r |⟨c,d,o,p,q⟩
  .rcases l with l |l
   .exact .inl om
   .exact .inr (.inl om)
  .exact .inr (.inr ⟨c,d,by rw[show s - a - 1=s - 1 - a by omega];exact o,p,q⟩)
 .rcases t with t |⟨c,d,o,p,q⟩
  .rcases n with n |n
   .exact .inr (.inl om)
   .exact .inl om
  .exact .inr (.inr ⟨c,d,by rw[show mid - s - 1=mid - 1 - s by omega];exact o,p,q⟩)
theorem PU(n cap g:Nat)(rest:List Value)(C:Nat)(F:∀(A L R S:List TmC) (w:World) (a m b:Nat),L.length+R.length<=C->n=(A++L++R++S).length->a=A.length->m=a+L.length->b=m+R.length->0<L.length->0<R.length->Ris lU L->Ris lU R->kY g rest w (A++L++R++S)->
   Calls prog 201 #[(g,n,cap),a,m,b,.func (.func 96) #[] #[]] w λe w'=>e= .returned (.tuple #[])/\Chg g w w'/\∃p,p.Perm (L++R)/\Ris lU p/\kY g rest w' (A++p++S))
  (A L R S:List TmC) (w:World) (a m b mid:Nat) (a1:L.length+R.length<=C+1) (I:n=(A++L++R++S).length) (hN:n<=35184372088832) (a2:a=A.length) (a3:m=a+L.length) (a4:b=m+R.length) (a5:1<L.length) (a6:1<R.length) (J:Ris lU L) (K:Ris lU R) (M:kY g rest w (A++L++R++S))
  (a7:mid=(a+b) / 2) (a9:mid<m):
  Calls prog 201 #[(g,n,cap),a,m,b,.func (.func 96) #[] #[]] w λe w'=>e= .returned (.tuple #[])/\Chg g w w'/\∃p,p.Perm (L++R)/\Ris lU p/\kY g rest w' (A++p++S):=by
 simp only[aB]at I;have bB:b<=n:=om;have bC:m<n:=om;have bD:¬(m:Int) - (a:Int)=1:=om;have bE:¬(b:Int) - (m:Int)=1:=om;obtain⟨d,b0⟩:=ex (mid+m);obtain⟨o,hp⟩:∃o,o+1=d:=⟨d - 1,om⟩;obtain⟨k,b1⟩:∃k,k+b=d:=⟨d - b,om⟩;obtain⟨l,b2⟩:=ex mid;have HA:=a8 (show n=A.length+L.length+R.length+S.length/\a=A.length/\m=a+L.length/\b=m+R.length/\mid=(a+b) / 2/\d=mid+m/\o+1=d/\(k+b=d)/\l=mid/\a<=k/\k<l/\l<=m/\l<=mid/\d<=k+b/\1<L.length/\1<R.length/\L.length+R.length<=C+1/\(mid<m)by omega);have bG:((a:Int)+b) / 2=(mid:Int):=om;have bO:(mid:Int)+m=(d:Int):=om;have hp1:(d:Int) - 1=(o:Int):=om;have bP:(mid:Int)<m:=om;have hs1:(d:Int) - (b:Int)=k:=om;have bR:a<=b:=om;have bS:m<=b:=om;have bT:a<=m:=om;have c0:mid<n:=om;have c2:d<=70368744177664:=om;have c3:a<=k:=om;have c4:k<=l:=om;have c5:l<=m:=om;have HIH:=a8 F;have N:=a8 (aD J K);have Hd:=a8 M;clear I a2 a3 a4 a5 a6 J K M a7 b0 hp b1 b2 F a1 a9;go_enter func201,ntmps201;go_wp2_with fail;go_loopw [20,21] (λD E wr=>∃(s r:Nat),D= .int .i64 (s:Int)/\E= .int .i64 (r:Int)/\k<=s/\s<=r/\r<=l/\Hid ((s=k∨∃x y,L[s - 1 - a]? =some x/\R[mid - s]? =some y/\lU x<=lU y)/\(r=l∨∃x y,R[mid - 1 - r]? =some x/\L[r - a]? =some y/\lU x<=lU y))/\Ext w wr) (λD E _=>(intOf E - intOf D).toNat)
 case atStart=>exact ⟨k,mid,rfl,rfl,lr,by have:=HA.out;omega,by have:=HA.out;omega,a8 ⟨.inl rfl,.inl (by have:=HA.out;omega)⟩,rE⟩
 case round=>
  obtain⟨s,r,rfl,rfl,hs,b3,hr,hF,hex⟩:=hrel;rcases aI b3 with t |_
  .subst t;obtain⟨e,t⟩:∃e,e+s=d:=⟨d - s,by have:=HA.out;omega⟩;obtain⟨L1,L2,R1,R2,u,O,Q⟩:∃L1 L2 R1 R2,Hid (L.length=L1.length+L2.length/\R.length=R1.length+R2.length/\L1.length+a=s/\R1.length+m=e/\L2.length+s=m/\R2.length+e=b/\e+s=d/\s<=mid/\s<=m/\a<=s/\e<=b/\L=L1++L2/\R=R1++R2)/\Hid (Ris lU L1/\Ris lU L2/\Ris lU R1/\Ris lU R2)/\
     Hid (∀M1 M2:List TmC,M1.Perm (L1++R1)->M2.Perm (L2++R2)->Ris lU M1->Ris lU M2->(M1++M2).Perm (L++R)/\Ris lU (M1++M2)):=by
    have h0:=HA.out;obtain⟨h1,h2⟩:=hF.out;obtain⟨L1,L2,R1,R2,k1,k2,k3,k4,k5,b4,b5,b6,b7,b8,b9⟩:=Y7 (L:=L) (R:=R) (a:=a) (m:=m) (b:=b) (s:=s) (e:=e) (mid:=mid) (nn:=d) (s0:=k) (r0:=l) N.out.1 N.out.2 om om om om t om om om om om om h1 h2;have T:=congrArg List.length k1;have U:=congrArg List.length k2;rw[aB]at T U;exact⟨L1,L2,R1,R2,a8 ⟨T,U,k3,k4,k5,b4,t,om,om,om,om,k1,k2⟩,a8 ⟨b5,b6,b7,b8⟩,a8 b9⟩
   have HB:=a8 (show L.length=L1.length+L2.length/\R.length=R1.length+R2.length/\L1.length+a=s/\R1.length+m=e/\L2.length+s=m/\R2.length+e=b/\e+s=d/\s<=mid/\s<=m/\a<=s/\e<=b by have:=u.out;omega);have HR:=O;have HMG:=Q;have H0:=a8 (show kY g rest wr (A++L1++L2++R1++R2++S)by
    have:=Hd.out.ext hex;rw[u.out.2.2.2.2.2.2.2.2.2.2.2.1,u.out.2.2.2.2.2.2.2.2.2.2.2.2]at this;simpa[aG]using this)
   have c6:(d:Int) - (s:Int)=e:=om;have c7:s<=m:=by have:=HB.out;omega
   have bA:s<=mid:=by have:=HB.out;omega
   have c8:a<=s:=by have:=HB.out;omega
   have c9:e<=b:=by have:=HB.out;omega
   clear t hF u O Q;rcases aI bA with B |B
   .have i:=a8 B;clear B;have hq0:(s:Int)<m:=by have:=HA.out;have:=HB.out;have:=i.out;omega
    have hq1:¬(m:Int)<e:=by have:=HA.out;have:=HB.out;have:=i.out;omega
    have hq2:(a:Int)<s:=by have:=HA.out;have:=HB.out;have:=i.out;omega
    have hq3:¬(s:Int)<mid:=by have:=HA.out;have:=HB.out;have:=i.out;omega
    have hq4:(mid:Int)<e:=by have:=HA.out;have:=HB.out;have:=i.out;omega
    have hq5:(e:Int)<b:=by have:=HA.out;have:=HB.out;have:=i.out;omega
    have H1:=a8 (show kY g rest wr (A++(L1++R1)++(L2++R2++S))by
     have h0:=H0.out;have:L2.length=0∨R1.length=0:=by have:=HA.out;have:=HB.out;have:=i.out;omega
     rcases this with h |h
     .rw[aL h]at h0 ⊢;simpa[aG]using h0
     .rw[aL h]at h0 ⊢;simpa[aG]using h0)
    have hC1:Chg g w wr:=(hex.chg g);obtain⟨M1,HM1⟩:∃M1,Hid (M1.Perm (L1++R1)/\Ris lU M1/\kY g rest wr (A++M1++(L2++R2++S))):=⟨L1++R1,a8 ⟨dU _,oH HR.out.1 HR.out.2.2.1 (by have:=HA.out;have:=HB.out;have:=i.out;omega),H1.out⟩⟩;have hC3:Chg g w wr:=hC1;go_wp2_with fail;refine(HIH.out (A++M1) L2 R2 S wr mid e b (by have:=HA.out;have:=HB.out;have:=i.out;omega) (by have:=HA.out;have:=HB.out;have:=i.out;have:=HM1.out.1.length_eq;simp only[aB]at this ⊢;omega) (by have:=HA.out;have:=HB.out;have:=i.out;have:=HM1.out.1.length_eq;simp only[aB]at this ⊢;omega) (by have:=HA.out;have:=HB.out;have:=i.out;omega) (by have:=HA.out;have:=HB.out;have:=i.out;omega) (by have:=HA.out;have:=HB.out;have:=i.out;omega) (by have:=HA.out;have:=HB.out;have:=i.out;omega) HR.out.2.1 HR.out.2.2.2 (by simpa[aG]using HM1.out.2.2)).mono ?_;exact Qi2
   .have i:=a8 B;have e0:s<m:=by have:=HA.out;omega
    rcases aI (show a<=s by omega)with has |has
    .rcases aI (show e<=b by omega)with heb |heb
     .exact qv0
     .exact oh3
    .rcases aI (show e<=b by omega)with heb |heb
     .have HAS:=a8 has;have HEB:=a8 heb;clear has heb;have hq0:(s:Int)<m:=by have:=HA.out;have:=HB.out;have:=HAS.out;have:=HEB.out;omega
      have hq1:(m:Int)<e:=by have:=HA.out;have:=HB.out;have:=HAS.out;have:=HEB.out;omega
      have hq2:(a:Int)<s:=by have:=HA.out;have:=HB.out;have:=HAS.out;have:=HEB.out;omega
      have hq3:(s:Int)<mid:=by have:=HA.out;have:=HB.out;have:=HAS.out;have:=HEB.out;omega
      have hq4:(mid:Int)<e:=by have:=HA.out;have:=HB.out;have:=HAS.out;have:=HEB.out;omega
      have hq5:¬(e:Int)<b:=by have:=HA.out;have:=HB.out;have:=HAS.out;have:=HEB.out;omega
      go_wp2_with fail;refine(rZ _ n cap g rest (A++L1) L2 R1 (R2++S) wr s m e (by have:=HA.out;have:=HB.out;have:=HAS.out;have:=HEB.out;simp only[aB];omega) hN (by have:=HA.out;have:=HB.out;have:=HAS.out;have:=HEB.out;simp only[aB];omega) (by have:=HA.out;have:=HB.out;have:=HAS.out;have:=HEB.out;omega) (by have:=HA.out;have:=HB.out;have:=HAS.out;have:=HEB.out;omega) (by have:=HA.out;have:=HB.out;have:=HAS.out;have:=HEB.out;omega) (by have:=HA.out;have:=HB.out;have:=HAS.out;have:=HEB.out;omega) (by simpa[aG]using H0.out)).mono ?_;rintro ee w2 ⟨rfl,hc2,hH2⟩;have H1:=a8 (show kY g rest w2 (A++(L1++R1)++(L2++R2++S))by simpa[aG]using hH2);have hC1:Chg g w w2:=(hex.chg g).trans hc2;clear hH2 hc2;go_wp2_with fail;refine(HIH.out A L1 R1 (L2++R2++S) w2 a s mid (by have:=HA.out;have:=HB.out;have:=HAS.out;have:=HEB.out;omega) (by have:=HA.out;have:=HB.out;have:=HAS.out;have:=HEB.out;simp only[aB];omega) (by have:=HA.out;omega) (by have:=HA.out;have:=HB.out;have:=HAS.out;have:=HEB.out;omega) (by have:=HA.out;have:=HB.out;have:=HAS.out;have:=HEB.out;omega) (by have:=HA.out;have:=HB.out;have:=HAS.out;have:=HEB.out;omega) (by have:=HA.out;have:=HB.out;have:=HAS.out;have:=HEB.out;omega) HR.out.1 HR.out.2.2.1 (by simpa[aG]using H1.out)).mono ?_;rintro ee w3 ⟨rfl,hc3,M1,hp1,hs1,hH3⟩;have HM1:=a8 (aD hp1 (aD hs1 hH3));have hC3:Chg g w w3:=hC1.trans hc3;clear hp1 hs1 hH3 hc3;obtain⟨M2,HM2⟩:∃M2,Hid (M2.Perm (L2++R2)/\Ris lU M2/\kY g rest w3 (A++(M1++M2)++S)):=⟨L2++R2,a8 ⟨dU _,oH HR.out.2.1 HR.out.2.2.2 (by have:=HA.out;have:=HB.out;have:=HAS.out;have:=HEB.out;omega),by simpa[aG]using HM1.out.2.2⟩⟩;exact oB9
     .have HAS:=a8 has;have HEB:=a8 heb;clear has heb;have hq0:(s:Int)<m:=by have:=HA.out;have:=HB.out;have:=HAS.out;have:=HEB.out;omega
      have hq1:(m:Int)<e:=by have:=HA.out;have:=HB.out;have:=HAS.out;have:=HEB.out;omega
      have hq2:(a:Int)<s:=by have:=HA.out;have:=HB.out;have:=HAS.out;have:=HEB.out;omega
      have hq3:(s:Int)<mid:=by have:=HA.out;have:=HB.out;have:=HAS.out;have:=HEB.out;omega
      have hq4:(mid:Int)<e:=by have:=HA.out;have:=HB.out;have:=HAS.out;have:=HEB.out;omega
      exact WH5
  .obtain⟨c,V⟩:=ex ((s+r) / 2);obtain⟨q,X⟩:∃q,q+c=o:=⟨o - c,by have:=HA.out;omega⟩;obtain⟨L1,x,L2,HX⟩:∃L1 x L2,Hid (L=L1++x::L2/\L1.length=c - a/\L[c - a]? =some x):=tv0;obtain⟨R1,y,R2,HY⟩:∃R1 y R2,Hid (R=R1++y::R2/\R1.length=q - m/\R[q - m]? =some y):=Dv2;have Y:Hid (kY g rest wr ((A++L1)++x::((L2++R1)++y::(R2++S)))):=ij3;have Z:Hid (c=(A++L1).length/\q=(A++L1).length+1+(L2++R1).length):=xS0;have HCc:=a8 (Y.out.at (wY Z.out.1));have HCq:=a8 (Y.out.at (uV Z.out.2));obtain⟨v,a0⟩:=ex (decide (y.c<x.c):Bool);have HR:=a8 a0;have HCQ:=a8 (aD V X);have e1:(s:Int)<r:=om;have e2:q<n:=by have:=HA.out;omega
   have e3:c<n:=by have:=HA.out;omega
   have e4:(q:Int)<n:=om;have e5:(c:Int)<n:=om;have hc2:((s:Int)+r) / 2=(c:Int):=om;have hq2:(o:Int) - (c:Int)=q:=om;have e6:c<r:=om;have hsc:s<=c:=om;have e7:r<=n:=om;clear a0 V X;go_wp2_with fail;refine wpQ [kL (.func (.func 96) #[] #[]),(g,n,cap),o,c,q,(g,q*4),kL (.agg #[y.c,y.b,(y.a1,y.n1,y.c1),(y.a2,y.n2,y.c2)]),(g,n,cap),c,(g,c*4),kL (.agg #[x.c,x.b,(x.a1,x.n1,x.c1),(x.a2,x.n2,x.c2)]),zO (λv=>∃z:Int,v=z/\(z<0↔y.c<x.c)),kL (.bool v),kL (.bool (!v))] [] [0,1,2,3,4,5,6,7,8,9,10,11,12,13] ?_ ?_
   .exact Xr7
   .exact vd3
theorem PV(n cap g:Nat)(rest:List Value)(E:Nat)(J:∀(A L R S:List TmC) (w:World) (a m b:Nat),L.length+R.length<=E->n=(A++L++R++S).length->a=A.length->m=a+L.length->b=m+R.length->0<L.length->0<R.length->Ris lU L->Ris lU R->kY g rest w (A++L++R++S)->
   Calls prog 201 #[(g,n,cap),a,m,b,.func (.func 96) #[] #[]] w λe w'=>e= .returned (.tuple #[])/\Chg g w w'/\∃t,t.Perm (L++R)/\Ris lU t/\kY g rest w' (A++t++S))
  (A L R S:List TmC) (w:World) (a m b mid:Nat) (a3:L.length+R.length<=E+1) (K:n=(A++L++R++S).length) (hN:n<=35184372088832) (a4:a=A.length) (a5:m=a+L.length) (a6:b=m+R.length) (a7:1<L.length) (a9:1<R.length) (M:Ris lU L) (N:Ris lU R) (O:kY g rest w (A++L++R++S))
  (b0:mid=(a+b) / 2) (b1:m<=mid):
  Calls prog 201 #[(g,n,cap),a,m,b,.func (.func 96) #[] #[]] w λe w'=>e= .returned (.tuple #[])/\Chg g w w'/\∃t,t.Perm (L++R)/\Ris lU t/\kY g rest w' (A++t++S):=by
 simp only[aB]at K;have bE:b<=n:=om;have bG:m<n:=om;have bO:¬(m:Int) - (a:Int)=1:=om;have bP:¬(b:Int) - (m:Int)=1:=om;obtain⟨k,b2⟩:=ex (mid+m);obtain⟨p,hp⟩:∃p,p+1=k:=⟨k - 1,om⟩;obtain⟨l,b3⟩:=ex a;obtain⟨o,b4⟩:=ex m;have HA:=a8 (show n=A.length+L.length+R.length+S.length/\a=A.length/\m=a+L.length/\b=m+R.length/\mid=(a+b) / 2/\k=mid+m/\p+1=k/\(l=a)/\o=m/\a<=l/\l<o/\o<=m/\o<=mid/\k<=l+b/\1<L.length/\1<R.length/\L.length+R.length<=E+1/\(m<=mid)by omega);have bR:((a:Int)+b) / 2=(mid:Int):=om;have bS:(mid:Int)+m=(k:Int):=om;have hp1:(k:Int) - 1=(p:Int):=om;have bT:¬(mid:Int)<m:=om;skip;have c0:a<=b:=om;have c2:m<=b:=om;have c3:a<=m:=om;have c4:mid<n:=om;have c5:k<=70368744177664:=om;have c6:a<=l:=om;have c7:l<=o:=om;have c8:o<=m:=om;have HIH:=a8 J;have Q:=a8 (aD M N);have Hd:=a8 O;clear K a4 a5 a6 a7 a9 M N O b0 b2 hp b3 b4 J a3 b1;go_enter func201,ntmps201;go_wp2_with fail;go_loopw [20,21] (λF I wr=>∃(s r:Nat),F= .int .i64 (s:Int)/\I= .int .i64 (r:Int)/\l<=s/\s<=r/\r<=o/\Hid ((s=l∨∃x y,L[s - 1 - a]? =some x/\R[mid - s]? =some y/\lU x<=lU y)/\(r=o∨∃x y,R[mid - 1 - r]? =some x/\L[r - a]? =some y/\lU x<=lU y))/\Ext w wr) (λF I _=>(intOf I - intOf F).toNat)
 case atStart=>exact ⟨a,m,rfl,rfl,by have:=HA.out;omega,by have:=HA.out;omega,by have:=HA.out;omega,a8 ⟨.inl (by have:=HA.out;omega),.inl (by have:=HA.out;omega)⟩,rE⟩
 case round=>
  obtain⟨s,r,rfl,rfl,hs,b5,hr,hF,hex⟩:=hrel;rcases aI b5 with B |_
  .subst B;obtain⟨e,B⟩:∃e,e+s=k:=⟨k - s,by have:=HA.out;omega⟩;obtain⟨L1,L2,R1,R2,C,T,U⟩:∃L1 L2 R1 R2,Hid (L.length=L1.length+L2.length/\R.length=R1.length+R2.length/\L1.length+a=s/\R1.length+m=e/\L2.length+s=m/\R2.length+e=b/\e+s=k/\s<=mid/\s<=m/\a<=s/\e<=b/\L=L1++L2/\R=R1++R2)/\Hid (Ris lU L1/\Ris lU L2/\Ris lU R1/\Ris lU R2)/\
     Hid (∀M1 M2:List TmC,M1.Perm (L1++R1)->M2.Perm (L2++R2)->Ris lU M1->Ris lU M2->(M1++M2).Perm (L++R)/\Ris lU (M1++M2)):=by
    have h0:=HA.out;obtain⟨h1,h2⟩:=hF.out;obtain⟨L1,L2,R1,R2,k1,k2,k3,k4,k5,b6,b7,b8,b9,bA,bB⟩:=Y7 (L:=L) (R:=R) (a:=a) (m:=m) (b:=b) (s:=s) (e:=e) (mid:=mid) (nn:=k) (s0:=l) (r0:=o) Q.out.1 Q.out.2 om om om om B om om om om om om h1 h2;have V:=congrArg List.length k1;have X:=congrArg List.length k2;rw[aB]at V X;exact⟨L1,L2,R1,R2,a8 ⟨V,X,k3,k4,k5,b6,B,om,om,om,om,k1,k2⟩,a8 ⟨b7,b8,b9,bA⟩,a8 bB⟩
   have HB:=a8 (show L.length=L1.length+L2.length/\R.length=R1.length+R2.length/\L1.length+a=s/\R1.length+m=e/\L2.length+s=m/\R2.length+e=b/\e+s=k/\s<=mid/\s<=m/\a<=s/\e<=b by have:=C.out;omega);have HR:=T;have HMG:=U;have H0:=a8 (show kY g rest wr (A++L1++L2++R1++R2++S)by
    have:=Hd.out.ext hex;rw[C.out.2.2.2.2.2.2.2.2.2.2.2.1,C.out.2.2.2.2.2.2.2.2.2.2.2.2]at this;simpa[aG]using this)
   have c9:(k:Int) - (s:Int)=e:=om;have bC:s<=m:=by have:=HB.out;omega
   have bD:s<=mid:=by have:=HB.out;omega
   have e0:a<=s:=by have:=HB.out;omega
   have e1:e<=b:=by have:=HB.out;omega
   clear B hF C T U;rcases aI bC with D |D
   .have d:=a8 D;clear D;rcases aI bD with u |u
    .have i:=a8 u;clear u;have hq0:¬(s:Int)<m:=by have:=HA.out;have:=HB.out;have:=d.out;have:=i.out;omega
     have hq1:¬(m:Int)<e:=by have:=HA.out;have:=HB.out;have:=d.out;have:=i.out;omega
     have hq2:(a:Int)<s:=by have:=HA.out;have:=HB.out;have:=d.out;have:=i.out;omega
     have hq3:¬(s:Int)<mid:=by have:=HA.out;have:=HB.out;have:=d.out;have:=i.out;omega
     have hq4:¬(mid:Int)<e:=by have:=HA.out;have:=HB.out;have:=d.out;have:=i.out;omega
     have hq5:(e:Int)<b:=by have:=HA.out;have:=HB.out;have:=d.out;have:=i.out;omega
     have H1:=a8 (show kY g rest wr (A++(L1++R1)++(L2++R2++S))by
      have h0:=H0.out;have:L2.length=0∨R1.length=0:=by have:=HA.out;have:=HB.out;have:=d.out;have:=i.out;omega
      rcases this with h |h
      .rw[aL h]at h0 ⊢;simpa[aG]using h0
      .rw[aL h]at h0 ⊢;simpa[aG]using h0)
     have hC1:Chg g w wr:=(hex.chg g);obtain⟨M1,HM1⟩:∃M1,Hid (M1.Perm (L1++R1)/\Ris lU M1/\kY g rest wr (A++M1++(L2++R2++S))):=⟨L1++R1,a8 ⟨dU _,oH HR.out.1 HR.out.2.2.1 (by have:=HA.out;have:=HB.out;have:=d.out;have:=i.out;omega),H1.out⟩⟩;have hC3:Chg g w wr:=hC1;obtain⟨M2,HM2⟩:∃M2,Hid (M2.Perm (L2++R2)/\Ris lU M2/\kY g rest wr (A++(M1++M2)++S)):=⟨L2++R2,a8 ⟨dU _,oH HR.out.2.1 HR.out.2.2.2 (by have:=HA.out;have:=HB.out;have:=d.out;have:=i.out;omega),by simpa[aG]using HM1.out.2.2⟩⟩;have hC4:Chg g w wr:=hC3;have HFN:=a8 (HMG.out M1 M2 HM1.out.1 HM2.out.1 HM1.out.2.1 HM2.out.2.1);have HF2:=a8 HM2.out.2.2;clear HMG HM1 HM2 HIH H1;go_wp2;go_end0;exact⟨rfl,hC4,M1++M2,HFN.out.1,HFN.out.2,by simpa only[aG]using HF2.out⟩
    .have i:=a8 u;clear u;have hq0:¬(s:Int)<m:=by have:=HA.out;have:=HB.out;have:=d.out;have:=i.out;omega
     have hq1:(m:Int)<e:=by have:=HA.out;have:=HB.out;have:=d.out;have:=i.out;omega
     have hq2:(a:Int)<s:=by have:=HA.out;have:=HB.out;have:=d.out;have:=i.out;omega
     have hq3:(s:Int)<mid:=by have:=HA.out;have:=HB.out;have:=d.out;have:=i.out;omega
     have hq4:¬(mid:Int)<e:=by have:=HA.out;have:=HB.out;have:=d.out;have:=i.out;omega
     have hq5:(e:Int)<b:=by have:=HA.out;have:=HB.out;have:=d.out;have:=i.out;omega
     have H1:=a8 (show kY g rest wr (A++(L1++R1)++(L2++R2++S))by
      have h0:=H0.out;have:L2.length=0∨R1.length=0:=by have:=HA.out;have:=HB.out;have:=d.out;have:=i.out;omega
      rcases this with h |h
      .rw[aL h]at h0 ⊢;simpa[aG]using h0
      .rw[aL h]at h0 ⊢;simpa[aG]using h0)
     have hC1:Chg g w wr:=(hex.chg g);go_wp2_with fail;refine(HIH.out A L1 R1 (L2++R2++S) wr a s mid (by have:=HA.out;have:=HB.out;have:=d.out;have:=i.out;omega) (by have:=HA.out;have:=HB.out;have:=d.out;have:=i.out;simp only[aB];omega) (by have:=HA.out;omega) (by have:=HA.out;have:=HB.out;have:=d.out;have:=i.out;omega) (by have:=HA.out;have:=HB.out;have:=d.out;have:=i.out;omega) (by have:=HA.out;have:=HB.out;have:=d.out;have:=i.out;omega) (by have:=HA.out;have:=HB.out;have:=d.out;have:=i.out;omega) HR.out.1 HR.out.2.2.1 (by simpa[aG]using H1.out)).mono ?_;rintro ee w3 ⟨rfl,hc3,M1,hp1,hs1,hH3⟩;have HM1:=a8 (aD hp1 (aD hs1 hH3));have hC3:Chg g w w3:=hC1.trans hc3;clear hp1 hs1 hH3 hc3;obtain⟨M2,HM2⟩:∃M2,Hid (M2.Perm (L2++R2)/\Ris lU M2/\kY g rest w3 (A++(M1++M2)++S)):=⟨L2++R2,a8 ⟨dU _,oH HR.out.2.1 HR.out.2.2.2 (by have:=HA.out;have:=HB.out;have:=d.out;have:=i.out;omega),by simpa[aG]using HM1.out.2.2⟩⟩;exact oB9
   .have d:=a8 D;have u:s<mid:=by have:=HA.out;omega
    rcases aI (show a<=s by omega)with has |has
    .rcases aI (show e<=b by omega)with heb |heb
     .exact qv0
     .have HAS:=a8 has;have HEB:=a8 heb;clear has heb;have hq0:(s:Int)<m:=by have:=HA.out;have:=HB.out;have:=HAS.out;have:=HEB.out;omega
      have hq1:(m:Int)<e:=by have:=HA.out;have:=HB.out;have:=HAS.out;have:=HEB.out;omega
      have hq2:¬(a:Int)<s:=by have:=HA.out;have:=HB.out;have:=HAS.out;have:=HEB.out;omega
      have hq3:(s:Int)<mid:=by have:=HA.out;have:=HB.out;have:=HAS.out;have:=HEB.out;omega
      have hq4:(mid:Int)<e:=by have:=HA.out;have:=HB.out;have:=HAS.out;have:=HEB.out;omega
      have hq5:(e:Int)<b:=by have:=HA.out;have:=HB.out;have:=HAS.out;have:=HEB.out;omega
      go_wp2_with fail;refine(rZ _ n cap g rest (A++L1) L2 R1 (R2++S) wr s m e (by have:=HA.out;have:=HB.out;have:=HAS.out;have:=HEB.out;simp only[aB];omega) hN (by have:=HA.out;have:=HB.out;have:=HAS.out;have:=HEB.out;simp only[aB];omega) (by have:=HA.out;have:=HB.out;have:=HAS.out;have:=HEB.out;omega) (by have:=HA.out;have:=HB.out;have:=HAS.out;have:=HEB.out;omega) (by have:=HA.out;have:=HB.out;have:=HAS.out;have:=HEB.out;omega) (by have:=HA.out;have:=HB.out;have:=HAS.out;have:=HEB.out;omega) (by simpa[aG]using H0.out)).mono ?_;rintro ee w2 ⟨rfl,hc2,hH2⟩;have H1:=a8 (show kY g rest w2 (A++(L1++R1)++(L2++R2++S))by simpa[aG]using hH2);have hC1:Chg g w w2:=(hex.chg g).trans hc2;clear hH2 hc2;obtain⟨M1,HM1⟩:∃M1,Hid (M1.Perm (L1++R1)/\Ris lU M1/\kY g rest w2 (A++M1++(L2++R2++S))):=⟨L1++R1,a8 ⟨dU _,oH HR.out.1 HR.out.2.2.1 (by have:=HA.out;have:=HB.out;have:=HAS.out;have:=HEB.out;omega),H1.out⟩⟩;have hC3:Chg g w w2:=hC1;go_wp2_with fail;refine(HIH.out (A++M1) L2 R2 S w2 mid e b (by have:=HA.out;have:=HB.out;have:=HAS.out;have:=HEB.out;omega) (by have:=HA.out;have:=HB.out;have:=HAS.out;have:=HEB.out;have:=HM1.out.1.length_eq;simp only[aB]at this ⊢;omega) (by have:=HA.out;have:=HB.out;have:=HAS.out;have:=HEB.out;have:=HM1.out.1.length_eq;simp only[aB]at this ⊢;omega) (by have:=HA.out;have:=HB.out;have:=HAS.out;have:=HEB.out;omega) (by have:=HA.out;have:=HB.out;have:=HAS.out;have:=HEB.out;omega) (by have:=HA.out;have:=HB.out;have:=HAS.out;have:=HEB.out;omega) (by have:=HA.out;have:=HB.out;have:=HAS.out;have:=HEB.out;omega) HR.out.2.1 HR.out.2.2.2 (by simpa[aG]using HM1.out.2.2)).mono ?_;exact Qi2
    .rcases aI (show e<=b by omega)with heb |heb
     .exact oh3
     .have HAS:=a8 has;have HEB:=a8 heb;clear has heb;have hq0:(s:Int)<m:=by have:=HA.out;have:=HB.out;have:=HAS.out;have:=HEB.out;omega
      have hq1:(m:Int)<e:=by have:=HA.out;have:=HB.out;have:=HAS.out;have:=HEB.out;omega
      have hq2:(a:Int)<s:=by have:=HA.out;have:=HB.out;have:=HAS.out;have:=HEB.out;omega
      have hq3:(s:Int)<mid:=by have:=HA.out;have:=HB.out;have:=HAS.out;have:=HEB.out;omega
      have hq4:(mid:Int)<e:=by have:=HA.out;have:=HB.out;have:=HAS.out;have:=HEB.out;omega
      exact WH5
  .obtain⟨c,Y⟩:=ex ((s+r) / 2);obtain⟨q,Z⟩:∃q,q+c=p:=⟨p - c,by have:=HA.out;omega⟩;obtain⟨L1,x,L2,HX⟩:∃L1 x L2,Hid (L=L1++x::L2/\L1.length=c - a/\L[c - a]? =some x):=tv0;obtain⟨R1,y,R2,HY⟩:∃R1 y R2,Hid (R=R1++y::R2/\R1.length=q - m/\R[q - m]? =some y):=Dv2;have a0:Hid (kY g rest wr ((A++L1)++x::((L2++R1)++y::(R2++S)))):=ij3;have a1:Hid (c=(A++L1).length/\q=(A++L1).length+1+(L2++R1).length):=xS0;have HCc:=a8 (a0.out.at (wY a1.out.1));have HCq:=a8 (a0.out.at (uV a1.out.2));obtain⟨v,a2⟩:=ex (decide (y.c<x.c):Bool);have HR:=a8 a2;have HCQ:=a8 (aD Y Z);have e2:(s:Int)<r:=om;have e3:q<n:=by have:=HA.out;omega
   have e4:c<n:=by have:=HA.out;omega
   have e5:(q:Int)<n:=om;have e6:(c:Int)<n:=om;have hc2:((s:Int)+r) / 2=(c:Int):=om;have hq2:(p:Int) - (c:Int)=q:=om;have e7:c<r:=om;have hsc:s<=c:=om;have e8:r<=n:=om;clear a2 Y Z;go_wp2_with fail;refine wpQ [kL (.func (.func 96) #[] #[]),(g,n,cap),p,c,q,(g,q*4),kL (.agg #[y.c,y.b,(y.a1,y.n1,y.c1),(y.a2,y.n2,y.c2)]),(g,n,cap),c,(g,c*4),kL (.agg #[x.c,x.b,(x.a1,x.n1,x.c1),(x.a2,x.n2,x.c2)]),zO (λv=>∃z:Int,v=z/\(z<0↔y.c<x.c)),kL (.bool v),kL (.bool (!v))] [] [0,1,2,3,4,5,6,7,8,9,10,11,12,13] ?_ ?_
   .exact Xr7
   .exact vd3
theorem A8(i k h:Nat)(rest:List Value)(m:i<=35184372088832):∀(j:Nat) (c a b f:List TmC) (w:World) (d e g:Nat),a.length+b.length<=j->i=(c++a++b++f).length->d=c.length->e=d+a.length->g=e+b.length->0<a.length->0<b.length->Ris lU a->Ris lU b->kY h rest w (c++a++b++f)->
   Calls prog 201 #[(h,i,k),d,e,g,.func (.func 96) #[] #[]] w λC z=>C= .returned (.tuple #[])/\Chg h w z/\∃t,t.Perm (a++b)/\Ris lU t/\kY h rest z (c++t++f):=by
 intro j
 induction j with
 |zero=>intro c a b f w d e g u;omega
 |succ j A=>
  intro c a b f w d e g u n o p q D B v x r;rcases aI (show 1<=a.length from D)with l |l
  .match a,l with
   | [y],_=>exact N3 i k h rest c b f y w d e g n m o p q B x r
  .rcases aI (show 1<=b.length from B)with s |s
   .match b,s with
    | [y],_=>exact JU i k h rest c a f y w d e g n m o p q l v r
   .rcases dH ((d+g) / 2) e with E |F
    .exact PU i k h rest j A c a b f w d e g _ u n m o p q l s v x r rfl E
    .exact PV i k h rest j A c a b f w d e g _ u n m o p q l s v x r rfl F
theorem WH{T:List TmC}(c:k<=T.length):∃a b,T=a++b/\a.length=k:=⟨T.take k,T.drop k,(bQ _ _).symm,by rw[aP];omega⟩
theorem MZ(d N h:Nat)(rest:List Value)(o:List TmC)(w:World)(a7:d=o.length)(X:d<=35184372088832)(t:kY h rest w o):
  Calls prog 144 #[(h,d,N),d,.func (.func 96) #[] #[]] w λb9 a9=>b9= .returned (.tuple #[])/\Chg h w a9/\∃f,f.Perm o/\Ris lU f/\kY h rest a9 f:=by
 have K:=a8 a7;have bA:=a8 t;clear a7 t;go_enter func144,ntmps144;go_wp2_with fail;go_loopw [7,8] (λO D wr=>∃(k i:Nat),O= .int .i64 (k:Int)/\D= .int .i64 (i:Int)/\i=k+20/\k<=d/\Hid (∃a b,Ful lU 20 a/\(a++b).Perm o/\a.length=k/\kY h rest wr (a++b))/\Chg h w wr) (λO D _=>((d:Int)+20 - intOf D).toNat)
 case atStart=>exact ⟨0,20,rfl,rfl,rfl,om,a8 ⟨[],o,.nil,dU _,rfl,by simpa using bA.out⟩,Chg.refl _ _⟩
 case round=>
  obtain⟨k,i,rfl,rfl,b0,b1,t,E⟩:=hrel;have r:=a8 b0;clear b0;by_cases Y:i<=d
  .obtain⟨a,e,b,c⟩:∃a e b,Hid (Ful lU 20 a/\(a++e++b).Perm o/\a.length=k/\kY h rest wr (a++e++b)/\e.length=20/\d=a.length+e.length+b.length):=by
    obtain⟨a,b,j,g,l,s⟩:=t.out;have p:=g.length_eq;rw[aB,<-K.out]at p;obtain⟨e,F,u,A⟩:=WH (T:=b) (k:=20) (by have:=r.out;omega);subst u;rw[aB]at p;exact⟨a,e,F,a8 ⟨j,by simpa[aG]using g,l,by simpa[aG]using s,A,om⟩⟩
   have Z:(i:Int)<=d:=om;obtain⟨L,x⟩:=ex (i+20:Nat);have bB:(i:Int)+20=(L:Int):=om;have P:=a8 x;clear x t;go_wp2_with fail;refine(zE d N h rest a e b wr k i (by have:=c.out.2.2.2.2;simp only[aB];omega) X c.out.2.2.1.symm (by have:=c.out.2.2.2.2.1;have:=r.out;omega) c.out.2.2.2.1).mono ?_;rintro a2 Q ⟨rfl,B,b2,hp2,v,q⟩;have HC:=a8 (aD hp2 (aD v q));clear hp2 v q;go_wp2;go_roundw
   case rel=>
    obtain⟨j,g,l,s,u,A⟩:=c.out;obtain⟨C,R,S⟩:=HC.out;have a0:=C.length_eq;refine⟨i,L,rfl,rfl,P.out,Y,a8 ⟨a++b2,b,.snoc a b2 om R j,?_,by rw[aB];have:=r.out;omega,S⟩,E.trans B⟩;exact((C.append_left a).append_right b).trans g
   case measure=>have:=P.out;simp[intOf];omega
  .have Z:¬(i:Int)<=d:=om;obtain⟨a,b,c⟩:∃a b,Hid (Ful lU 20 a/\(a++b).Perm o/\a.length=k/\kY h rest wr (a++b)/\d=a.length+b.length):=by
    obtain⟨a,b,j,g,l,s⟩:=t.out;have p:=g.length_eq;rw[aB,<-K.out]at p;exact⟨a,b,a8 ⟨j,g,l,s,om⟩⟩
   clear t;go_wp2_with fail;refine(zE d N h rest a b [] wr k d (by have:=c.out.2.2.2.2;simp only[aB,cQ];omega) X c.out.2.2.1.symm (by have:=c.out.2.2.2.2;have:=c.out.2.2.1;omega) (by rw[cF];exact c.out.2.2.2.1)).mono ?_;rintro a2 Q ⟨rfl,B,F,hp2,v,q⟩;rw[cF]at q;have a3:Hid (∃f,f.Perm o/\Blk lU 20 f/\kY h rest Q f):=by
    obtain⟨j,g,l,s,u⟩:=c.out;have:=hp2.length_eq;exact a8 ⟨a++F,(hp2.append_left a).trans g,j.blk (.short F (by have:=r.out;omega) v),q⟩
   have bC:Chg h w Q:=E.trans B;clear hp2 v q c r E B Y Z b1;go_wp2_with fail;go_loopw [6] (λa4 wr=>∃(m:Nat),a4= .int .i64 (m:Int)/\20<=m/\m<=70368744177664/\Hid (∃f,f.Perm o/\Blk lU m f/\kY h rest wr f)/\Chg h w wr) (λa4 _=>((d:Int) - intOf a4).toNat)
   case atStart=>exact ⟨20,rfl,lr,om,a3,bC⟩
   case round=>
    obtain⟨m,rfl,_,_,t,E⟩:=hrel;by_cases c0:m<d
    case neg=>
     have bD:¬(m:Int)<d:=om;have bE:Hid (∃f,f.Perm o/\Ris lU f/\kY h rest wr f):=by
      obtain⟨f,j,g,l⟩:=t.out;exact a8 ⟨f,j,g.all om (by rw[j.length_eq,<-K.out];omega),l⟩
     clear t a3;go_wp2;go_end0;exact⟨rfl,E,bE.out⟩
    case pos=>
     have bD:(m:Int)<d:=om;obtain⟨n,b3⟩:=ex (2*m:Nat);have:2*(m:Int)=n:=om;have:(m:Int)*2=(n:Int):=om;have b4:n<=70368744177664:=om;have y:=a8 b3;obtain⟨a5,bG⟩:∃a5,a5=wr:=⟨wr,rfl⟩;subst bG;clear b3 a3;go_wp2_with fail;go_loopw [7,8] (λO D b5=>∃(k i:Nat),O= .int .i64 (k:Int)/\D= .int .i64 (i:Int)/\Hid (i=k+n)/\k<=d/\i<=d+n/\Hid (∃a b,Ful lU n a/\Blk lU m b/\(a++b).Perm o/\a.length=k/\kY h rest b5 (a++b))/\Chg h a5 b5) (λO D _=>((d:Int)+n - intOf D).toNat)
     case atStart=>
      obtain⟨f,j,g,l⟩:=t.out;exact⟨0,n,rfl,rfl,a8 om,om,om,a8 ⟨[],f,.nil,g,j,rfl,l⟩,Chg.refl _ _⟩
     case round=>
      obtain⟨k,i,rfl,rfl,r,b1,_,M,a6⟩:=hrel;obtain⟨I,b6⟩:=ex (k+m:Nat);have:(k:Int)+m=(I:Int):=om;have:I<=d+m:=om;have J:=a8 b6;clear b6;by_cases Y:i<=d
      .obtain⟨a,e,z,b,c⟩:∃a e z b,Hid (Ful lU n a/\Blk lU m b/\(a++e++z++b).Perm o/\a.length=k/\kY h rest wr (a++e++z++b)/\e.length=m/\z.length=m/\Ris lU e/\Ris lU z/\d=a.length+e.length+z.length+b.length):=by
        obtain⟨a,b,j,g,l,s,u⟩:=M.out;have p:=l.length_eq;rw[aB,<-K.out]at p;have a1:=r.out;have x:=y.out;obtain⟨e,F,rfl,A,T,U⟩:=g.first om om;rw[aB]at p;obtain⟨z,bO,rfl,b7,b8,bP⟩:=U.first om om;rw[aB]at p;exact⟨a,e,z,bO,a8 ⟨j,bP,by simpa[aG]using l,s,by simpa[aG]using u,A,b7,T,b8,om⟩⟩
       have Z:(i:Int)<=d:=om;obtain⟨L,x⟩:=ex (i+n:Nat);have bB:(i:Int)+n=(L:Int):=om;have bR:L<=d+n:=om;have P:=a8 x;clear x M;go_wp2_with fail;refine(A8 d N h rest X _ a e z b wr k I i lr (by have:=c.out.2.2.2.2.2;simp only[aB];omega) c.out.2.2.2.1.symm (by have:=c.out.2.2.2.2.2.1;have:=J.out;omega) (by have:=c.out.2.2.2.2.2.2.1;have:=J.out;have:=r.out;have:=y.out;omega) (by have:=c.out.2.2.2.2.2.1;omega) (by have:=c.out.2.2.2.2.2.2.1;omega) c.out.2.2.2.2.2.2.2.1 c.out.2.2.2.2.2.2.2.2.1 c.out.2.2.2.2.1).mono ?_;rintro a2 Q ⟨rfl,B,V,hp2,v,q⟩;have HC:=a8 (aD hp2 (aD v q));clear hp2 v q;go_wp2;go_roundw
       case rel=>
        obtain⟨j,g,l,s,u,A,T,U,b7,b8⟩:=c.out;obtain⟨C,R,S⟩:=HC.out;have a0:=C.length_eq;rw[aB]at a0;have a1:=r.out;have x:=y.out;refine⟨i,L,rfl,rfl,P,Y,bR,a8 ⟨a++V,b,.snoc a V om R j,g,?_,by rw[aB];omega,S⟩,a6.trans B⟩;refine((C.append_left a).append_right b).trans ?_;simpa[aG]using l
       case measure=>have:=P.out;have:=y.out;simp[intOf];omega
      .have Z:¬(i:Int)<=d:=om;by_cases c1:I<d
       .obtain⟨a,e,b,c⟩:∃a e b,Hid (Ful lU n a/\(a++e++b).Perm o/\a.length=k/\kY h rest wr (a++e++b)/\e.length=m/\Ris lU e/\Ris lU b/\d=a.length+e.length+b.length):=by
         obtain⟨a,b,j,g,l,s,u⟩:=M.out;have p:=l.length_eq;rw[aB,<-K.out]at p;have a1:=r.out;have x:=y.out;have bS:=J.out;obtain⟨e,F,rfl,A,T,U⟩:=g.first om om;rw[aB]at p;exact⟨a,e,F,a8 ⟨j,by simpa[aG]using l,s,by simpa[aG]using u,A,T,U.all om om,om⟩⟩
        have bT:(I:Int)<d:=om;clear M;go_wp2_with fail;refine(A8 d N h rest X _ a e b [] wr k I d lr (by have:=c.out.2.2.2.2;simp only[aB,cQ];omega) c.out.2.2.1.symm (by have:=c.out.2.2.2.2.1;have:=J.out;omega) (by have:=c.out.2.2.2.2;have:=c.out.2.2.1;have:=J.out;omega) (by have:=c.out.2.2.2.2.1;omega) (by have:=c.out.2.2.2.2;have:=c.out.2.2.1;have:=J.out;omega) c.out.2.2.2.2.2.1 c.out.2.2.2.2.2.2.1 (by rw[cF];exact c.out.2.2.2.1)).mono ?_;rintro a2 Q ⟨rfl,B,V,hp2,v,q⟩;rw[cF]at q;have HC:=a8 (aD hp2 (aD v q));clear hp2 v q;go_wp2;go_roundw
        case rel=>
         obtain⟨j,g,l,s,u,A,T,U⟩:=c.out;obtain⟨C,R,S⟩:=HC.out;have a0:=C.length_eq;rw[aB]at a0;have a1:=r.out;have x:=y.out;refine⟨n,rfl,om,b4,a8 ⟨a++V,(C.append_left a).trans (by simpa[aG]using g),j.blk (.short V om R),S⟩,(E.trans a6).trans B⟩
        case measure=>have:=y.out;simp[intOf];omega
       .have bT:¬(I:Int)<d:=om;have HC:Hid (∃f,f.Perm o/\Blk lU n f/\kY h rest wr f):=by
         obtain⟨a,b,j,g,l,s,u⟩:=M.out;have p:=l.length_eq;rw[aB,<-K.out]at p;have a1:=r.out;have x:=y.out;have bS:=J.out;exact a8 ⟨a++b,l,j.blk (.short b om (g.all om om)),u⟩
        clear M;go_wp2;go_roundw
        case rel=>exact ⟨n,rfl,by have:=y.out;omega,b4,HC,E.trans a6⟩
        case measure=>have:=y.out;simp[intOf];omega
theorem PO(b e a:Nat)(rest:List Value)(c:List TmC)(w:World)(f:b=c.length)(k:b<=35184372088832)(g:kY a rest w c):
  Calls prog 95 #[(a,b,e),.func (.func 96) #[] #[]] w λl h=>l= .returned (.tuple #[])/\Chg a w h/\∃d,d.Perm c/\Ris lU d/\kY a rest h d:=by
 have i:=a8 (MZ b e a rest c w f k g);clear f g;go_enter func95,ntmps95;go_wp2_with fail;refine i.out.mono ?_;rintro _ _ ⟨rfl,m,j⟩;have n:=a8 j;clear j i;go_wp2;go_end0;exact⟨rfl,m,n.out⟩
def sumAt:List (Int×Rat)->Int->Rat
 | [],_=>0
 |x::l,c=>(if x.1=c then x.2 else 0)+sumAt l c
def getV(l:List (Int×Rat))(c:Int):Rat:=if 0<=c then sumAt l c else 0
theorem N1(a c:List (Int×Rat))(b:Int):sumAt (a++c) b=sumAt a b+sumAt c b:=by
 induction a with
 |nil=>simp [sumAt,gF]
 |cons e a d=>simp only[eR,sumAt,d,Rat.add_assoc]
theorem SF(c:b.Perm p)(a:Int):sumAt b a=sumAt p a:=by
 induction c with
 |nil=>rfl
 |cons d _ e=>simp only[sumAt,e]
 |swap d h b=>simp only[sumAt];grind
 |trans _ _ f g=>exact f.trans g
theorem VI(c:b.Perm p)(a:Int):getV b a=getV p a:=by
 unfold getV;rw[SF c]
theorem sS(b c:List (Int×Rat))(a:Int):getV (b++c) a=getV b a+getV c a:=by
 unfold getV;rw[N1];split
 .rfl
 .rw[dY]
theorem sJ(a:Int):getV [] a=0:=by unfold getV sumAt;split<;>rfl
theorem XL(b:Int)(c:Rat)(a:Int):getV [(b,c)] a=if b=a/\0<=a then c else 0:=by
 unfold getV sumAt sumAt;by_cases d:0<=a<;>by_cases e:b=a<;>simp [d,e,dY]
theorem rW(b:List (Int×Rat))(c:Int)(d:Rat)(a:Int):getV (b++ [(c,d)]) a=getV b a+if c=a/\0<=a then d else 0:=by
 rw[sS,XL]
theorem C0(c:∀a∈b,a.1≠e):sumAt b e=0:=by
 induction b with
 |nil=>rfl
 |cons a b d=>
  simp only[sumAt];rw[if_neg (c a (aT ..)),d λf g=>c f (aN _ g),gF]
theorem tT(a:∀c∈b,c.1≠e):getV b e=0:=by
 unfold getV;rw[C0 a];split<;>rfl
def Up(l:List (Int×Rat)):Prop:=l.Pairwise (λx y=>x.1<y.1)/\∀x∈l,0<=x.1
def Nf(l:List (Int×Rat)):Prop:=Up l/\∀x∈l,x.2≠0
theorem Up.nil:Up []:=⟨List.Pairwise.nil,λ_ a=>by cases a⟩
theorem Nf.nil:Nf []:=⟨Up.nil,λ_ a=>by cases a⟩
theorem Up.tail{a:Int×Rat}(f:Up (a::b)):Up b/\0<=a.1/\∀c∈b,a.1<c.1:=by
 obtain⟨d,e⟩:=f;rw[dD]at d;exact⟨⟨d.2,λc g=>e c (aN _ g)⟩,e a (aT ..),d.1⟩
theorem Up.getV_cons{a:Int×Rat}(e:Up (a::b))(c:Int):getV (a::b) c=if c=a.1 then a.2 else getV b c:=by
 obtain⟨_,f,g⟩:=e.tail;by_cases d:c=a.1
 .subst d;rw[if_pos rfl];unfold getV;rw[if_pos f];unfold sumAt;rw[if_pos rfl,C0 λh i=>by have:=g h i;omega,dY]
 .rw[if_neg d];unfold getV;simp only[sumAt];rw[if_neg (Ne.symm d),gF]
theorem XX:∀{l m:List (Int×Rat)},Nf l->Nf m->(∀c,getV l c=getV m c)->l=m
 | [],[],_,_,_=>rfl
 | [],y::m,_,hm,h=>by
  have:=h y.1;rw[sJ,hm.1.getV_cons,if_pos rfl]at this;exact absurd this.symm (hm.2 y (aT ..))
 |x::l,[],hl,_,h=>by
  have:=h x.1;rw[sJ,hl.1.getV_cons,if_pos rfl]at this;exact absurd this (hl.2 x (aT ..))
 |x::l,y::m,hl,hm,h=>by
  obtain⟨n,_,i⟩:=hl.1.tail;obtain⟨o,_,j⟩:=hm.1.tail;have d:=h x.1;have e:=h y.1;rw[hl.1.getV_cons,if_pos rfl,hm.1.getV_cons]at d;rw[hl.1.getV_cons,hm.1.getV_cons,if_pos rfl]at e;have p:=hl.2 x (aT ..);have q:=hm.2 y (aT ..)
  have k:x.1=y.1:=by
   rcases Int.lt_trichotomy x.1 y.1 with f |f |f
   .rw[if_neg om,tT λa b=>by have:=j a b;omega]at d;exact absurd d p
   .exact f
   .rw[if_neg om,tT λa b=>by have:=i a b;omega]at e;exact absurd e.symm q
  rw[if_pos k]at d;have r:x=y:=Prod.ext k d;subst r;rw[XX (l:=l) (m:=m) ⟨n,λa b=>hl.2 a (aN _ b)⟩ ⟨o,λa b=>hm.2 a (aN _ b)⟩ λc=> ?_];have:=h c;rw[hl.1.getV_cons,hm.1.getV_cons]at this
  by_cases g:c=x.1
  .subst g;rw[tT λa b=>by have:=i a b;omega,tT λa b=>by have:=j a b;omega]
  .rw[if_neg g,if_neg g]at this;exact this
def nz(l:List (Int×Rat)):List (Int×Rat):=l.filter λx=> !decide (x.2=0)
theorem Up.nz(c:Up b):Nf (nz b):=
 ⟨⟨c.1.sublist List.filter_sublist,λd a=>c.2 d (dV.1 a).1⟩,λd a=>by have:=(dV.1 a).2;simpa using this⟩
theorem YS(a:List (Int×Rat))(d:Int):sumAt (nz a) d=sumAt a d:=by
 induction a with
 |nil=>rfl
 |cons e a b=>
  unfold nz at b ⊢;by_cases c:e.2=0
  .rw[List.filter_cons_of_neg (by simp[c]),b];simp only[sumAt,c];split<;>rw [gF]
  .rw[List.filter_cons_of_pos (by simp[c])];simp only[sumAt,b]
theorem MA(a:List (Int×Rat))(b:Int):getV (nz a) b=getV a b:=by
 unfold getV;rw[YS]
theorem Up.snoc(d:Up b)(h:0<=e)(i:∀c∈b,c.1<e):Up (b++ [(e,g)]):=by
 refine⟨eI.2 ⟨d.1,fZ _ _,λc a _ f=> ?_⟩,λc a=> ?_⟩
 .rw[aC]at f;subst f;exact i c a
 .rcases aW.1 a with a |a
  .exact d.2 c a
  .rw[aC]at a;subst a;exact h
theorem Up.last{r:Rat}(j:Up (b++ [(e,g)])):Up (b++ [(e,r)])/\∀c,getV (b++ [(e,r)]) c=getV (b++ [(e,g)]) c+if e=c/\0<=c then r - g else 0:=by
 obtain⟨d,h⟩:=j;rw[eI]at d;refine⟨⟨eI.2 ⟨d.1,fZ _ _,λf a _ i=> ?_⟩,λf a=> ?_⟩,λc=> ?_⟩
 .rw[aC]at i;subst i;exact d.2.2 f a (e,g) (aC.2 rfl)
 .rcases aW.1 a with a |a
  .exact h f (cO _ a)
  .rw[aC]at a;subst a;exact h (e,g) (dF _ (aC.2 rfl))
 .rw[rW,rW];split<;>grind
def DY(c:Int)(q:Rat):List (Int×Rat)->List (Int×Rat)
 | []=> [(c,q)]
 |x::l=>if c<x.1 then(c,q)::x::l else if c=x.1 then(c,q+x.2)::l else x::DY c q l
theorem P5(d:Int)(f:Rat):∀(c:List (Int×Rat)) (b:Int×Rat),b∈DY d f c->b.1=d∨∃e∈c,b.1=e.1
 | [],b,a=>by
  simp only[DY,aC]at a;subst a;exact .inl rfl
 |x::c,b,a=>by
  simp only[DY]at a
  split at a
  .rcases aS.1 a with rfl |a
   .exact .inl rfl
   .exact .inr ⟨b,a,rfl⟩
  .split at a
   .rcases aS.1 a with rfl |a
    .exact .inl rfl
    .exact .inr ⟨b,aN _ a,rfl⟩
   .rcases aS.1 a with rfl |a
    .exact .inr ⟨b,aT ..,rfl⟩
    .rcases P5 d f c b a with a |⟨e,g,a⟩
     .exact .inl a
     .exact .inr ⟨e,aN _ g,a⟩
theorem U4{e:Int}(f:Rat)(g:0<=e):∀{d:List (Int×Rat)},Up d->Up (DY e f d)/\∀c,sumAt (DY e f d) c=(if e=c then f else 0)+sumAt d c
 | [],_=>⟨⟨fZ _ _,λn k=>by simp only[DY,aC]at k;subst k;exact g⟩,λc=>by simp only[DY,sumAt]⟩
 |n::d,h=>by
  obtain⟨i,l,j⟩:=h.tail;simp only[DY]
  split
  .refine⟨⟨dD.2 ⟨λb a=> ?_,h.1⟩,λb a=> ?_⟩,λc=>by simp only[sumAt]⟩
   .rcases aS.1 a with rfl |a
    .assumption
    .have:=j b a;simp only;omega
   .rcases aS.1 a with rfl |a
    .exact g
    .exact h.2 b a
  .split
   .rename_i _ o
    subst o;refine⟨⟨dD.2 ⟨λb a=>j b a,i.1⟩,λb a=> ?_⟩,λc=> ?_⟩
    .rcases aS.1 a with rfl |a
     .exact l
     .exact i.2 b a
    .simp only[sumAt]
     split<;>grind
   .obtain⟨m,p⟩:=U4 f g i;refine⟨⟨dD.2 ⟨λb a=> ?_,m.1⟩,λb a=> ?_⟩,λc=> ?_⟩
    .rcases P5 e f d b a with q |⟨r,s,q⟩
     .omega
     .have:=j r s;omega
    .rcases aS.1 a with rfl |a
     .exact l
     .exact m.2 b a
    .simp only[sumAt,p]
     grind
def upV:List (Int×Rat)->List (Int×Rat)
 | []=> []
 |x::l=>if 0<=x.1 then DY x.1 x.2 (upV l)else upV l
theorem SJ:∀b:List (Int×Rat),Up (upV b)/\∀a,getV (upV b) a=getV b a
 | []=>⟨Up.nil,λa=>rfl⟩
 |x::b=>by
  obtain⟨c,d⟩:=SJ b;unfold upV
  split
  .rename_i e
   obtain⟨g,h⟩:=U4 x.2 e c;refine⟨g,λa=> ?_⟩;have:=d a;unfold getV at this ⊢
   split
   .rename_i f
    rw[if_pos f,if_pos f]at this;rw[h,this];rfl
   .rfl
  .rename_i e
   refine⟨c,λa=> ?_⟩;rw[d a];unfold getV
   split
   .simp only[sumAt];rw[if_neg om,gF]
   .rfl
def mkV(l:List (Int×Rat)):List (Int×Rat):=nz (upV l)
theorem tK(a:List (Int×Rat)):Nf (mkV a):=(SJ a).1.nz
theorem sM(a:List (Int×Rat))(b:Int):getV (mkV a) b=getV a b:=by
 unfold mkV;rw[MA,(SJ a).2]
theorem MI(c:Nf p)(d:∀a,getV p a=getV b a):p=mkV b:=XX c (tK b) λa=>by rw[d,sM]
theorem AJ(c:∀a,getV b a=getV p a):mkV b=mkV p:=MI (tK b) λa=>by rw[sM,c]
def scV(a:Rat)(l:List (Int×Rat)):List (Int×Rat):=l.map λx=>(x.1,a*x.2)
theorem ab5(b:Rat)(a:List (Int×Rat))(c:Int):sumAt (scV b a) c=b*sumAt a c:=by
 induction a with
 |nil=>simp [scV,sumAt,Rat.mul_zero]
 |cons e a d=>
  unfold scV at d ⊢;simp only[dQ,sumAt,d];split<;>grind
theorem MV(a:Rat)(b:List (Int×Rat))(c:Int):getV (scV a b) c=a*getV b c:=by
 unfold getV;rw[ab5];split<;>grind
def tF:List (Int×Rat)->List Rat->Rat
 | [],_=>0
 |x::l,y=>(if 0<=x.1/\x.1<(y.length:Int)then x.2*y.getD x.1.toNat 0 else 0)+tF l y
theorem zR(a c:List (Int×Rat))(b:List Rat):tF (a++c) b=tF a b+tF c b:=by
 induction a with
 |nil=>simp [tF,gF]
 |cons e a d=>simp only[eR,tF,d,Rat.add_assoc]
def TmR(k:Nat)(w:World)(v:Value)(x:Int×Rat):Prop:=∃b a1 n1 c1 a2 n2 c2,v= .agg #[x.1,.bool b,.slice a1 n1 c1,.slice a2 n2 c2]/\IsR w (.agg #[.bool b,.slice a1 n1 c1,.slice a2 n2 c2]) x.2 k
theorem TmR.ext{w:World}{d:Int×Rat}(h:TmR a w c d)(he:Ext w f):TmR a f c d:=by
 exact pP6
def TL(k:Nat)(w:World)(u:Value)(l:List (Int×Rat)):Prop:=SL 4 (TmR k) w u l
theorem TL.ext{b:Nat}{w c:World}{d:Value}{e:List (Int×Rat)}(a:TL b w d e)(f:Ext w c):TL b c d e:=SL.ext (λ_ _ a=>a.ext f) a f
theorem TL.at{w:World}(t:TL a w u b):∃h f r,f=b.length/\u= .slice h f r/\f<=9223372036854775807/\∀(i:Nat) (s:Int×Rat),b[i]? =some s->∃d e,h=some ⟨d,e,none⟩/\∃j k l m n o p,
  ∀c,Ext w c->c.cell? ⟨d,e+i*4,none⟩=some (.int .i64 s.1)/\c.cell? ⟨d,e+i*4+1,none⟩=some (.bool j)/\c.cell? ⟨d,e+i*4+2,none⟩=some (.slice k l m)/\c.cell? ⟨d,e+i*4+3,none⟩=some (.slice n o p)/\IsR c (.agg #[.bool j,.slice k l m,.slice n o p]) s.2 a:=by
 obtain⟨h,f,r,v,x,y,z⟩:=t.opn;refine⟨h,f,r,v,x,y,λi A B=> ?_⟩;obtain⟨d,e,C,_,_,q,j,k,l,m,n,o,p,D,E⟩:=z i A B
 cases D
 exact⟨d,e,C,j,k,l,m,n,o,p,λc g=>⟨q c g 0 _ rfl,q c g 1 _ rfl,q c g 2 _ rfl,q c g 3 _ rfl,E.ext g⟩⟩
def xP(t:TmC):Value:= .agg #[t.b,(t.a1,t.n1,t.c1),(t.a2,t.n2,t.c2)]
def TO(B k:Nat)(w:World)(v:Value)(m:List (Int×Rat)):Prop:=∃ts:List TmC,ts.length=m.length/\LS 67 4 B w v (ts.map tmv)/\∀(i:Nat) (t:TmC) (x:Int×Rat),ts[i]? =some t->m[i]? =some x->t.c=x.1/\FrQ B w (xP t) x.2/\szQ x.2<=k
theorem FrQ.chgN{w:World}(b:FrQ d w c g)(e:Chg a w f)(h:Bx o w a v)(i:Bx o f a D)(j:o≠165)(k:o≠3):FrQ d f c g:=b.tchg (S:=0) ⟨a,o,v,D,zl,j,k,rfl,h,i,e⟩
theorem TO.ext{a b:Nat}{w c:World}{d:Value}{e:List (Int×Rat)}(g:TO a b w d e)(f:Ext w c):TO a b c d e:=by
 obtain⟨h,i,j,k⟩:=g;exact⟨h,i,j.ext f,λl m n o p=>(let ⟨q,r,s⟩:=k l m n o p;⟨q,r.ext f,s⟩)⟩
theorem TO.mono{a b c:Nat}{w:World}{d:Value}{e:List (Int×Rat)}(g:TO a c w d e)(f:b<=a):TO b c w d e:=by
 obtain⟨h,i,j,k⟩:=g;exact⟨h,i,j.mono f,λl m n o p=>(let ⟨q,r,s⟩:=k l m n o p;⟨q,r.mono f,s⟩)⟩
theorem TO.tl{w:World}(o:TO B k w c b)(p:k<=LIM):TL k w c b:=by
 obtain⟨q,r,e,s⟩:=o;obtain⟨t,v,a,h,x, -⟩:=e.opn;rw[aF,r]at a h;refine⟨t,v,a,h,x,?_⟩;rcases aR b.length with i |i
 .exact .inl (aL i)
 .obtain⟨y,_,rest,f1,f2, -⟩:=e.hold (by rw[aF];omega);rw[a]at f1;simp only[Value.slice.injEq]at f1;obtain⟨f1, -, -⟩:=f1;refine .inr ⟨y,0,f1,λf z l=> ?_⟩;obtain⟨d,m⟩:∃d,q[f]? =some d:=⟨_,aA (by have:=(aH.1 l).1;omega)⟩;obtain⟨A,C,D⟩:=s f d z m l;obtain⟨_,_,g,_,E,n,F,_,j6⟩:=e.at om (i:=f) (u:=tmv d) (by rw[aX,m];rfl);rw[a]at g;simp only[Value.slice.injEq,f1,Option.some.injEq,Addr.mk.injEq]at g;obtain⟨⟨rfl, -⟩, -⟩:=g;refine⟨E,F,λj u hj=> ?_,?_⟩
  .exact Tk6
  .unfold tmv at n
   cases n
   exact⟨_,_,_,_,_,_,_,by rw[A],C.isR D p⟩
def GetJ(w wr:World)(g k i:Nat)(q:Rat):Prop:=Ext w wr/\∃b a1 n1 c1 a2 n2 c2,Bx 37 wr g #[.bool b,.slice a1 n1 c1,.slice a2 n2 c2]/\FrQ w wr (.agg #[.bool b,.slice a1 n1 c1,.slice a2 n2 c2]) q/\szQ q<=i*(k+1)+1
theorem O7(a:List Rat):tF [] a=0:=rfl
def QL(k:Nat)(w:World)(u:Value)(l:List Rat):Prop:=SL 3 (λw v q=>IsR w v q k) w u l
theorem QL.ext{b:Nat}{w c:World}{d:Value}{e:List Rat}(a:QL b w d e)(f:Ext w c):QL b c d e:=SL.ext (λ_ _ a=>a.ext f) a f
theorem QL.at{w:World}(t:QL a w u C):∃c b n,b=C.length/\u= .slice c b n/\b<=9223372036854775807/\∀(i:Nat) (o:Rat),C[i]? =some o->∃d e,c=some ⟨d,e,none⟩/\∃f g h j k l m,
  (∀p,Ext w p->∀(q:Nat) (r:Value),(#[.bool f,.slice g h j,.slice k l m]:Array Value)[q]? =some r->p.cell? ⟨d,e+i*3+q,none⟩=some r)/\IsR w (.agg #[.bool f,.slice g h j,.slice k l m]) o a:=by
 obtain⟨c,b,n,v,x,y,z⟩:=t.opn;refine⟨c,b,n,v,x,y,λi A B=> ?_⟩;obtain⟨d,e,D,_,_,E,s⟩:=z i A B;obtain⟨f,g,h,j,k,l,m,F⟩:=s.parts
 cases F
 exact⟨d,e,D,f,g,h,j,k,l,m,E,s⟩
theorem IZ(b c:Nat)(s R:Value)(l:List (Int×Rat))(xs:List Rat)(w:World)(m:TL b w s l)(hx:QL c w R xs)(bS:(l.length+1)*(b+c+1)<=34359738000):
  Calls prog 123 #[s,R] w λe w'=>∃v',e= .returned v'/\FrQ w w' v' (tF l xs)/\szQ (tF l xs)<=l.length*(b+c+1)+1/\Ext w w':=by
 obtain⟨_,t,_,q,rfl,_,S⟩:=m.at;rw[<-q]at bS ⊢;have T:=a8 q;have bT:=a8 S;obtain⟨_,r,c0,U,rfl,_,V⟩:=hx.at;have Hnx:=a8 U;have c1:=a8 V;clear q m S U hx V;go_enter func123,ntmps123;obtain⟨_,X,u,E,Y⟩:=kR w #[false,(),()] 37;go_wp2_with fail;rw[<-X];refine(mT 0 _ om om).mono ?_;rintro e v ⟨_,rfl,z,A⟩;obtain⟨c2,c3,c4,c5,c6,c7,c8,rfl,z⟩:=z.opn;have Z:=a8 z;obtain⟨a0,a1,B,a2,c9⟩:=kR v #[c2,(c3,c4,c5),(c6,c7,c8)] 37;clear z;go_wp2_with fail;rw[<-a1];have a3:GetJ w a0 v (b+c) 0 (tF (l.take 0) xs):=⟨(u.trans A).trans B,_,_,_,_,_,_,_,a2,by rw[g8,O7];exact(Z.out.ext B).mono u.size,by rw[g8,O7,i8];decide⟩;have F:=a8 a3;have e0:w.heap.size<v.heap.size:=by have:=u.size;have:=A.size;have:=E.lt;have:=Y;omega
 obtain⟨o,a4⟩:=ex v.heap.size;rw[<-a4]at F e0 ⊢;have a5:Bx 37 a0 w #[false,(),()]:=(E.ext A).ext B;clear a3 X a1 a4 Z;go_loopw [11] (λI wr=>∃i:Nat,i<=t/\I= .int .i64 (i:Int)/\Hid (GetJ w wr o (b+c) i (tF (l.take i) xs)/\Bx 37 wr w #[false,(),()])) (λI _=>((t:Int) - intOf I).toNat)
 case atStart=>exact ⟨0,zl,rfl,a8 ⟨F.out,a5⟩⟩
 case round=>
  obtain⟨i,e1,rfl,a6⟩:=hrel;obtain⟨⟨hE0,e2,e3,e4,d1,e6,e7,d2,hbx,a7,C⟩,hB0⟩:=a6.out;have HQ:=a8 a7;have HSZ:=a8 C;clear a7 C a6 F a5 E a2 u A B Y c9;rcases aI e1 with J |J
  .subst J;have e8:¬((i:Int)<i):=om;obtain⟨_,_,_,-⟩:=hbx.cl [0,1,2];have hb:=hB0;obtain⟨K,L,M,-⟩:=hb.cl [0,1,2];obtain⟨_,_,_,-⟩:=hb.fl [0,1,2];clear hbx;have gL:=hE0.size;go_wp2;have HQ2:=HQ.out;rw[show l.take i=l by rw[T.out,bN]]at HQ2 HSZ;refine l8 4 37 w 37 _ _ kr rfl (((hb.set 0 _).set 1 _).set 2 _) underlying37 rfl kr rfl ?_;exact tH8
  .have e8:(i:Int)<t:=om;obtain⟨x,hx⟩:∃x,l[i]? =some x:=⟨_,aA (by rw[<-T.out];exact J)⟩;obtain⟨_,_,rfl,a9,b0,b1,b2,b3,b4,b6,hcell⟩:=bT.out i x hx;obtain⟨K,L,M,b7,b8⟩:=hcell wr (((Ext.refl w).trans hE0));have b9:=a8 (aD hx b8);have N:l.take (i+1)=l.take i++ [x]:=by rw[cE,hx];rfl
   obtain⟨n,p⟩:=x;simp only at K L M b7 b9 N;have HTK:=a8 N;obtain⟨k,hw5,e5,b5,_⟩:=kR wr #[n,a9,(b0,b1,b2),(b3,b4,b6)] 67;obtain⟨bA,bB,bC,-⟩:=(hbx.ext e5).cl [0,1,2];rw[hw5]at bA bB bC;clear hx b8 N hcell;have E5:=hE0.trans e5;have gT:i*(b+c+1)+(b+c+1)=(i+1)*(b+c+1):=by rw[dT]
   have h0:(i+1)*(b+c+1)<=(t+1)*(b+c+1):=aJ _ om;by_cases hcc:0<=n/\n<(r:Int)
   .obtain⟨j,rfl⟩:∃j:Nat,n=(j:Int):=⟨n.toNat,om⟩;have e9:j<r:=om;have eA:(j:Int)<r:=om;have eB:(0:Int)<=(j:Int):=om;obtain⟨y,hy⟩:∃y,xs[j]? =some y:=⟨_,aA (by rw[<-Hnx.out];exact e9)⟩;obtain⟨O,P,rfl,eC,eD,eE,eG,eN,fA,fB,bD,bE⟩:=c1.out j y hy;have fC:=a8 bD;have fD:=a8 bE;have hgv:tF (l.take (i+1)) xs=tF (l.take i) xs+p*y:=by
     rw[HTK.out,zR];simp only[tF,dY];rw[if_pos ⟨eB,by rw[<-Hnx.out];exact eA⟩];have:xs.getD (j:Int).toNat 0=y:=by simp[List.getD,hy]
     rw[this]
    have HGV:=a8 hgv;clear hcc hy bD bE hgv;go_wp2_with fail;rw[<-hw5];clear hw5 bA bB bC K L M b7;have Q:=hbx.ext e5;have h4:o<k.heap.size:=Q.lt;refine wpP [⟨10,o,37,lV (tF (l.take i) xs+p*y) ((i+1)*(b+c+1)+1)⟩] [kL (.agg #[e2,(e3,e4,d1),(e6,e7,d2)]),(wr,1),kL (.agg #[a9,(b0,b1,b2),(b3,b4,b6)]),(O,P,r,c0),(wr,0),j,(O,P+j*3),kL (.agg #[eC,(eD,eE,eG),(eN,fA,fB)]),lV (p*y) (b+c),lV (tF (l.take i) xs+p*y) ((i+1)*(b+c+1)+1),kP] [] [10,9,8,7,6,5,4,3,2,1,0] ?_ ?_ ?_ ?_ ?_
    .intro x hx;simp only[aC]at hx;subst hx;exact⟨by show o<k.heap.size;omega,rfl⟩
    .exact DL8
    .exact sz1
    .refine⟨?_,oL,?_,oL,oL,?_,oL,?_,?_,?_,?_,trivial⟩
     .intro f a g d m;have hE:Ext k a:=g;change kM _ _ _ f a Ext _;exact kZ (P:=prog) _ _ o _ _ _ rfl rfl rfl (Q.ext hE) underlying37 rfl kr rfl
     .intro f a g d m;have hE:Ext k a:=g;have h5:=tE d 0 1 rfl rfl rfl;exact Ym1
     .intro f a g d m;have hE:Ext k a:=g;have h6:=tE d 0 4 rfl rfl rfl;exact mM4
     .intro f a g d m;have hE:Ext k a:=g;have fE:=tE d 0 6 rfl rfl rfl;change kM _ _ _ f a Ext _;exact kW (P:=prog) _ _ O (P+j*3) _ _ rfl rfl fE (λfG s h=>fC.out _ (E5.trans hE) fG s h) underlying37 rfl kr rfl
     .intro f a g d m;have hE:Ext k a:=g;have hS:=hE.size;have g0:=tE d 0 2 rfl rfl rfl;have g1:=tE d 1 7 rfl rfl rfl;change kM _ _ _ f a Ext _;refine oC #[f 2,f 7] func152 rfl rfl ?_;rw[g0,g1];refine(vQ _ _ p y b c _ (b9.out.2.ext (e5.trans hE)) (fD.out.ext (E5.trans hE)) om).mono ?_;exact pF5
     .intro f a g d m;have hE:Ext k a:=g;have hS:=hE.size;have g2:=tE d 0 0 rfl rfl rfl;have bG:=kO d 1 8 rfl rfl (λ_=>hE);change kM _ _ _ f a Ext _;refine oC #[f 0,f 8] func98 rfl rfl ?_;rw[g2];refine(rP _ _ (tF (l.take i) xs) (p*y) (i*(b+c+1)+1) (b+c) _ ((HQ.out.ext (e5.trans hE)).isR HSZ.out lq) (bG.1.isR bG.2 lq) om).mono ?_;exact ON4
     .intro f a g d m;have hE:Ext k a:=g;have hS:=hE.size;have g3:=kO d 0 9 rfl rfl (λ_=>hE);intro g4;change kM _ _ _ f a (Chg _) _;obtain⟨⟨g5,g6,g7,q,bO⟩,C⟩:=g3;exact mN (P:=prog) _ _ _ o _ _ _ (lV _ _:PP _).p rfl rfl rfl g7 (show Bx 37 a _ _ from g4.trans Q) kr rfl (yA rfl q.oneCell bO.oneCell) (λw' h=>⟨⟨g5,g6,rfl,q.chg h om,bO.chg h om⟩,C⟩)
    .intro f a g d;obtain⟨_,hbx0,g9⟩:∃bP,Bx 37 a o bP/\(lV (tF (l.take i) xs+p*y) ((i+1)*(b+c+1)+1):PP k).p (.agg bP) a:=sP d 10 de;clear d;obtain⟨D,bR⟩:=g9;obtain⟨_,_,_,_,_,_,_,gA,D⟩:=D.opn
     cases gA
     have Hq6:=a8 D;have Z6:=a8 bR;have hsz6:=E5.size;have E6:Ext w a:=E5.stepS g (by simp;omega);have B06:Bx 37 a w #[false,(),()]:=(hB0.ext e5).chgS g (by simp;omega);clear D bR;exact Bb1
   .by_cases h7:n<0
    .have h8:¬0<=n:=om;exact rr1
    .have gG:0<=n:=om;have h9:¬n<(r:Int):=λh=>hcc ⟨gG,h⟩
     exact rr1
theorem O8{n:Nat}(h:0<n)(d:pW n j){p:Nat->Value->Prop}(o:∀(i:Nat) (c:Array Value),j[i]? =some (.agg c)->∀(k:Nat) (b:Value),c[k]? =some b->p (i*n+k) b):∀(a:Nat) (b:Value),(kX j)[a]? =some b->p a b:=by
 intro a b e;have l:=(aH.1 e).1;rw[mU d.size]at l;have m:a / n*n+a % n=a:=by rw[bF];exact dI a n
 have q:a / n<j.length:=cS (by rw[bF];exact l);obtain⟨f,g⟩:∃f,j[a / n]? =some f:=⟨_,aA q⟩;obtain⟨c,rfl,_, -⟩:=d f (aM g);rw[<-m];refine o _ c g _ b ?_;rw[<-m,xL h d.size g _ (cH _ h)]at e;exact e
abbrev Ps:=List (TmC×Rat)
def tsP(ps:Ps):List TmC:=ps.map Prod.fst
def lP(ps:Ps):List (Int×Rat):=ps.map λp=>(p.1.c,p.2)
theorem L8:∀{a:List TmC} {ps:Ps},a.Perm (tsP ps)->∃b:Ps,b.Perm ps/\tsP b=a
 | [],ps,h=>by
  have:=h.length_eq;unfold tsP at this;rw[aF,cQ]at this;have:ps=[]:=aL this.symm;exact⟨[],by rw[this],rfl⟩
 |t::a,ps,h=>by
  have g:t∈tsP ps:=h.mem_iff.1 (aT ..);obtain⟨c,i,rfl⟩:=bJ.1 g;obtain⟨d,e,rfl⟩:=List.append_of_mem i
  have j:(c.1::a).Perm (c.1::tsP (d++e)):=h.trans (by
   unfold tsP;rw[bY,bY,dQ];exact List.perm_middle)
  obtain⟨b,k,f⟩:=L8 (ps:=d++e) j.cons_inv;exact⟨c::b,(k.cons c).trans List.perm_middle.symm,by unfold tsP at f ⊢;rw[dQ,f]⟩
variable{h:Ps}
theorem ZU{a:Ps}(b:a.Perm h):(lP a).Perm (lP h):=b.map _
theorem ai5:∃i0 z,prog.info? 67=some i0/\i0.size=4/\i0.bytes=64/\i0.zero=some z/\z.cells.size=4:=by
 have h:(prog.info? 67).map (λi=>(i.size,i.bytes,i.zero.map λz=>z.cells.size))=some (4,64,some 4):=kr
 cases hi:prog.info? 67 with
 |none=>rw [hi]at h;cases h
 |some i=>
  rw[hi]at h;simp only[Option.map_some,Option.some.injEq,Prod.mk.injEq]at h;obtain⟨h1,h2,h3⟩:=h
  cases hz:i.zero with
  |none=>rw [hz]at h3;cases h3
  |some z=>rw [hz]at h3;exact⟨i,z,rfl,h1,h2,hz,by simpa using h3⟩
theorem yZ(t:Nat)(u:Value)(i:List (Int×Rat))(w:World)(z:TL t w u i)(a4:i.length<=34359738368):
  Calls prog 83 #[u] w λa5 N=>∃(v:Value) (d:Ps),a5= .returned v/\LS 67 4 w N v ((tsP d).map tmv)/\lP d=i/\(∀j∈d,IsR w (xP j.1) j.2 t)/\Ext w N:=by
 obtain⟨a6,k,a7,A,rfl,_,l⟩:=z.at;have c9:∀(w:World) (m:Option Addr) (B C D E:Nat),(binOp .eql 32 (.slice m B C) (.slice none D E)).run prog w= .ok m.isNone w:=λw m B C D E=>Lib.run_eql_slice_nil w _ _ m B C D E underlying32
 cases a6 with
 |none=>
  have x:i=[]:=by
   match i,l with
   | [],_=>rfl
   |e::i,l=>
    obtain⟨n,o,a9, -⟩:=l 0 e rfl
    cases a9
  subst x;have b0:k=0:=A;subst b0;clear l z A;go_enter func83,ntmps83;go_wp2;go_ret;exact⟨_,[],rfl,LS.nil _ _ _ _,rfl,(λj F=>by cases F),rE⟩
 |some m=>
  obtain⟨n,o,y⟩:=m;obtain⟨d,q,r⟩:=zS (p:=λh (b:TmC×Rat)=>∃e,i[h]? =some e/\b.1.c=e.1/\b.2=e.2/\IsR w (xP b.1) b.2 t/\y=none/\∀(c:Nat) (a:Value),(#[.int .i64 b.1.c,.bool b.1.b,.slice b.1.a1 b.1.n1 b.1.c1,.slice b.1.a2 b.1.n2 b.1.c2]:Array Value)[c]? =some a->w.cell? ⟨n,o+(h*4+c),none⟩=some a) k (λh g=>by
   obtain⟨e,O⟩:∃e,i[h]? =some e:=⟨_,aA om⟩;obtain⟨_,_,p,b1,b2,b3,b4,b5,b6,b7,b8⟩:=l h e O
   cases p
   obtain⟨b9,bA,bB,bC,bD⟩:=b8 w (Ext.refl w);refine⟨(⟨e.1,b1,b2,b3,b4,b5,b6,b7⟩,e.2),e,O,rfl,rfl,bD,rfl,λc a f=> ?_⟩
   match c,f with
   |0,f=>cases f;exact b9
   |1,f=>cases f;exact bA
   |2,f=>cases f;exact bB
   |3,f=>cases f;exact bC
   |c+4,f=>simp at f)
  have P:lP d=i:=by
   apply fT;intro h;unfold lP;rw[aX]
   cases g:d[h]? with
   |none=>
    rw[Option.map_none];have:=gR.1 g;exact(cM om).symm
   |some b=>
    obtain⟨e,p,Q,R, -⟩:=r h b g;rw[Option.map_some,p,Q,R]
  have S:∀j∈d,IsR w (xP j.1) j.2 t:=λj F=>by
   obtain⟨h,g,rfl⟩:=i9.1 F;obtain⟨e,p,Q,R,bE, -⟩:=r h _ (aA g);exact bE
  have T:∀(c:Nat) (a:Value),(kX ((tsP d).map tmv))[c]? =some a->w.cell? (n,o+c)=some a:=by
   refine O8 (n:=4) om (nK _) (p:=λc a=>w.cell? ⟨n,o+c,none⟩=some a) λh bG g bO a bP=> ?_
   unfold tsP at g;rw[aX,aX]at g
   cases I:d[h]? with
   |none=>rw [I]at g;cases g
   |some b=>
    rw[I]at g;simp only[Option.map_some,Option.some.injEq]at g;unfold tmv at g
    cases g
    obtain⟨e, -, -, -, -, -,J⟩:=r h b I;exact J bO a bP
  have U:(kX ((tsP d).map tmv)).length=k*4:=by
   rw[mU (nK _).size,aF];unfold tsP;rw[aF,q]
  have V:∀a∈kX ((tsP d).map tmv),a.oneCell'=true:=λa K=>by
   obtain⟨u,bR,K⟩:=dL.1 K;obtain⟨bG,rfl, -,p⟩:=nK (tsP d) u bR;exact gB.1 p a (bU.1 K)
  have bS:=a8 P;have bT:=a8 S;have HC:=a8 T;have L:=a8 U;have X:=a8 V;have c0:=a8 q;have c1:Hid (0<k->y=none):=a8 λx=>by
   obtain⟨b,c2⟩:∃b,d[0]? =some b:=⟨_,aA om⟩;obtain⟨e, -, -, -, -,J, -⟩:=r 0 b c2;exact J
  have e0:k<=34359738368:=om;clear P S T U V q r l z A a4;obtain⟨c3,c4,Y,Z,a0,a1,a2⟩:=ai5;have s:=a8 (aD Y (aD Z (aD a0 (aD a1 a2))));clear Y Z a0 a1 a2;have a3:Hid (∀(c:Nat) (a:Value),(kX ((tsP d).map tmv))[c]? =some a->w.cell? ((⟨n,o,y⟩:Addr).add c)=some a):=a8 λc a f=>by
   have x:0<k:=by
    have:=(aH.1 f).1;rw[L.out]at this;omega
   have:=HC.out c a f;rw[c1.out x,Addr.add_lit];exact this
  clear HC;obtain⟨c5,M⟩:=ex (kX ((tsP d).map tmv));rw[<-M]at a3 X L;have c6:=a8 M;clear M;go_enter func83,ntmps83;go_wp2_with (at_builtin;refine wpList_append_own _ rfl _ _ 32 rfl w 67 c3 c4 4 64 underlying32 s.out.1 s.out.2.2.2.1 s.out.2.1 s.out.2.2.1 s.out.2.2.2.2 om _ _ _ rfl (jY w #[] 0 lr zl sm) ⟨n,o,y⟩ k a7 c5 rfl ?qc1 ?qc2 ?qc3 ?qc4 ?qc5 ?qc6 ?_)
  case qc1=>exact L.out
  case qc2=>
   intro c a f;exact Lib.cell?_alloc_some _ (a3.out c a f)
  case qc3=>exact X.out
  case qc4=>rw [aY];unfold maxLen;omega
  case qc5=>rw [aY];omega
  case qc6=>simp
  intro v _ c7 c8 _;go_wp2;go_ret;have q:=c0.out;refine⟨v,d,rfl,⟨nK _,?_⟩,bS.out,bT.out,?_⟩
  .rw[<-c6.out,aF];unfold tsP;rw[aF,q];simpa using c7
  .exact Ext.step ((Ext.refl w).alloc _) (g:=w.heap.size) c8 lr
theorem DT(b:Option Addr)(c:Nat)(d:Value)(w:World):
  Calls prog 200 #[(b,0,c),(0:Int),(0:Int),d] w λe f=>e= .returned (.tuple #[])/\Ext w f:=by
 go_enter func200,ntmps200;go_wp2_with fail
 go_loopw [8] (λa wr=>a= .int .i64 1/\w=wr) (λa _=>0)
 case atStart=>exact ⟨rfl,rfl⟩
 case round=>
  obtain⟨rfl,rfl⟩:=hrel;go_wp2;go_end0;exact⟨rfl,rE⟩
theorem JR(a:Option Addr)(b:Nat)(c:Value)(w:World):
  Calls prog 144 #[(a,0,b),(0:Int),c] w λg h=>g= .returned (.tuple #[])/\Ext w h:=by
 go_enter func144,ntmps144;go_wp2_with fail
 go_loopw [7,8] (λd e wr=>d= .int .i64 0/\e= .int .i64 20/\w=wr) (λd e _=>0)
 case atStart=>exact ⟨rfl,rfl,rfl⟩
 case round=>
  obtain⟨rfl,rfl,rfl⟩:=hrel;go_wp2_with fail;refine(DT a b c w).mono ?_;rintro _ i ⟨rfl,j⟩;go_wp2_with fail;go_loopw [6] (λf wr=>f= .int .i64 20/\i=wr) (λf _=>0)
  case atStart=>exact ⟨rfl,rfl⟩
  case round=>
   obtain⟨rfl,rfl⟩:=hrel;go_wp2;go_end0;exact⟨rfl,j⟩
theorem QA(i:Nat)(e:Value)(a:List TmC)(w:World)(f:LS 67 4 i w e (a.map tmv))(q:a.length<=35184372088832):
  Calls prog 95 #[e,.func (.func 96) #[] #[]] w λr k=>r= .returned (.tuple #[])/\w.grownBy k e.ownBlock/\∃b,b.Perm a/\Ris lU b/\LS 67 4 i k e (b.map tmv):=by
 rcases aR a.length with j |j
 .obtain rfl:=aL j;obtain⟨l,g,d, -⟩:=f.opn;rw[eT,cQ]at d;have s:=a8 f;subst d;clear f;go_enter func95,ntmps95;go_wp2_with fail;refine(JR l g _ w).mono ?_;rintro t m ⟨rfl,c⟩;go_wp2;go_end0;refine⟨rfl,?_,[],dU _,.nil,s.out.ext c⟩
  cases l with
  |none=>exact c
  |some u=>exact c.chg u.block
 .obtain⟨n,g,rest,d,v,c,x,o,y⟩:=f.hold (by rw[aF];exact j);rw[aF]at d c o;subst d;refine(PO a.length g n rest a w rfl q ⟨nK _,y⟩).mono ?_;rintro t m ⟨rfl,z,b,h,A,p⟩;refine⟨rfl,z,b,h,A,?_⟩;have:=LS.of_hold (e:=67) (n:=4) (B:=i) (w:=m) (vs:=b.map tmv) (g:=n) (cap:=g) (rest:=rest) p.1 v (by rw[aF,h.length_eq];exact c) x (by rw[aF,h.length_eq];exact o) p.2;rw[aF,h.length_eq]at this;exact this
theorem KT(a:TmC)(b:Rat)(g:Nat)(w:World)(c:IsR w (xP a) b g):Calls prog 99 #[.agg #[a.c,a.b,(a.a1,a.n1,a.c1),(a.a2,a.n2,a.c2)]] w λl m=>l= .returned (.bool (decide (b=0)))/\Ext w m:=by
 have h:(b.num.sign==0)=decide (b=0):=by
  by_cases d:b=0
  .subst d;rfl
  .have:b.num≠0:=λc=>d (iA.1 c)
   rw[decide_eq_false d];simp[iM,this]
 obtain⟨n,o,p,q,r,s,t,u⟩:=a;have e:=a8 c;have i:=a8 h;unfold xP at e;simp only at e ⊢;clear c h;obtain⟨_,j,k,v,_⟩:=kR w #[n,o,(p,q,r),(s,t,u)] 67;obtain⟨_,f⟩:=ex b.num.sign;rw[<-f]at i;have x:=a8 f.symm;clear f;go_enter func99,ntmps99;obtain⟨_,_,_,-⟩:=v.cl [1,2,3];go_wp2_with fail;rw[<-j];clear j;refine(wO _ b g _ (e.out.ext k)).mono ?_;rw[x.out];rintro _ _ ⟨rfl,y⟩;go_wp2;go_ret;exact⟨by rw[<-i.out];rfl,k.trans y⟩
def XI(m:List (Int×Rat))(r:Int):Prop:=(r= -1/\∀x∈m,x.2≠0)∨∃i:Nat,r=(i:Int)/\(∃x,m[i]? =some x/\x.2=0)/\∀x∈m.take i,x.2≠0
theorem NB(u e:Nat)(k:Value)(c:List (Int×Rat))(w:World)(l:TO u e w k c)(v:e<=LIM):
  Calls prog 136 #[k,.func (.func 99) #[] #[]] w λx y=>∃d,x= .returned (.int .i64 d)/\XI c d/\Ext w y:=by
 obtain⟨_,f,_,m,rfl,_,n⟩:=(l.tl v).at;have o:=a8 m;have z:=a8 n;clear m n l;go_enter func136,ntmps136;go_wp2_with fail;go_loopw [8] (λg wr=>∃i:Nat,i<=f/\g= .int .i64 (i:Int)/\Hid (∀a∈c.take i,a.2≠0)/\Ext w wr) (λg _=>((f:Int) - intOf g).toNat)
 case atStart=>exact ⟨0,zl,rfl,a8 sm,rE⟩
 case round=>
  obtain⟨i,A,rfl,hH,hex⟩:=hrel;rcases aI A with h |h
  .subst h;have B:¬((i:Int)<i):=om;have HF:Hid (∀a∈c,a.2≠0):=by
    have:=hH.out;rw[o.out,bN]at this;exact a8 this
   clear hH;go_wp2;go_ret;exact⟨-1,rfl,.inl ⟨rfl,HF.out⟩,hex⟩
  .have B:(i:Int)<f:=om;obtain⟨a,b⟩:∃a,c[i]? =some a:=⟨_,aA (by rw[<-o.out];exact h)⟩;obtain⟨_,_,rfl,C,D,E,F,I,J,K,p⟩:=z.out i a b;obtain⟨L,M,N,O,q⟩:=p wr hex;have r:=a8 b;have P:=a8 q;obtain⟨Q,s⟩:=a;simp only at L M N O;obtain⟨d,t⟩:=ex (decide (s=0):Bool);have j:=a8 t.symm;clear t b q p;go_wp2_with fail;refine(KT ⟨Q,C,D,E,F,I,J,K⟩ s e wr P.out).mono ?_;rw[j.out];rintro _ _ ⟨rfl,e2⟩
   cases d with
   |true=>
    have HF:Hid (XI c (i:Int)):=a8 (.inr ⟨i,rfl,⟨_,r.out,of_decide_eq_true j.out⟩,hH.out⟩);clear hH;go_wp2;go_ret;exact⟨_,rfl,HF.out,hex.trans e2⟩
   |false=>
    have HF:Hid (∀a∈c.take (i+1),a.2≠0):=a8 λa b=>by
     rw[cE,r.out]at b;rcases aW.1 b with b |b
     .exact hH.out a b
     .simp only[Option.toList_some,aC]at b;subst b;exact of_decide_eq_false j.out
    exact oo8
theorem tM(w:World)(h c n:TypeId)(a:Value)(o:P.underlying h=some (.slice c))(p:∀w,(zeroValue c).run P w= .ok a w)(q:∀d∈a.cells.toList,d.oneCell'=true)(e f b r:Nat)(g:List Value)(s:w.heap[e]? =some (.cells g.toArray c (0,0)))(t:f+b*a.cells.size<=g.length)(y:0<b)(u:0<a.cells.size):
  (Builtin.clear_ #[h] n #[(e,f,b,r)]).run P w= .ok (.tuple #[]) (w.setRow e (pR g f (Builtin.zeroCells a.cells b).toList).toArray):=by
 have v:(Builtin.zeroCells a.cells b).toList.length=b*a.cells.size:=by simp[Builtin.zeroCells]
 have x:∀d∈(Builtin.zeroCells a.cells b).toList,d.oneCell'=true:=λd i=>by
  simp only[Builtin.zeroCells,Array.toList_map,bJ]at i;obtain⟨j, -,rfl⟩:=i;have k:=cH j u;rw[getElem!_pos a.cells (j % a.cells.size) k];exact q _ (Array.getElem_mem_toList k)
 have l:=run_storeCells_at P e f c (Builtin.zeroCells a.cells b).toList 0 g.toArray w s (by rw[v];simpa using t) x;simp only[bZ]at l;obtain⟨m,rfl⟩:∃m,b=m+1:=⟨b - 1,om⟩;simp[Builtin.clear_,run_underlying o,p,l,pR]
theorem set4(c d e f:Value):∀(a:Nat) (b:List Value),a+4<=b.length->(((b.set a c).set (a+1) d).set (a+2) e).set (a+3) f=pR b a [c,d,e,f]
 |0,x1::x2::x3::x4::b,_=>rfl
 |a+1,x::b,h=>by
  have:=set4 c d e f a b (by simpa using h);unfold pR at this ⊢;rw[show a+1+1=(a+1)+1 from rfl,show a+1+2=(a+2)+1 by omega,show a+1+3=(a+3)+1 by omega,aV,aV,aV,aV,this];simp[show a+1+4=(a+4)+1 by omega]
theorem kY.store{rest:List Value}{w:World}(e:kY d rest w x)(h:a<x.length)(b:TmC):
  kY d rest ((((w.setCell (d,a*4) b.c).setCell (d,a*4+1) b.b).setCell (d,a*4+2) (b.a1,b.n1,b.c1)).setCell (d,a*4+3) (b.a2,b.n2,b.c2)) (x.set a b):=by
 have c:=((((e.2.set (a*4) b.c).set (a*4+1) b.b).set (a*4+2) (b.a1,b.n1,b.c1)).set (a*4+3) (b.a2,b.n2,b.c2));have f:=mU e.1.size;rw[aF]at f;simp only[aQ]at c;rw[set4 _ _ _ _ _ _ (by rw[aB,f];omega)]at c;have g:=yK (rest:=rest) (v:=tmv b) e.1.size (by rw[aF];exact h) rfl;have i:(tmv b).cells.toList=[.int .i64 b.c,.bool b.b,.slice b.a1 b.n1 b.c1,.slice b.a2 b.n2 b.c2]:=rfl;rw[i]at g;rw[g,<-iX]at c;exact⟨nK _,c⟩
theorem RI{b:TmC×Rat}(c:h[a]? =some b):(lP h)[a]? =some (b.1.c,b.2):=by
 unfold lP;rw[aX,c];rfl
theorem TO.ps{w:World}(r:TO a d w c b):∃l:Ps,lP l=b/\LS 67 4 a w c ((tsP l).map tmv)/\∀e∈l,FrQ a w (xP e.1) e.2/\szQ e.2<=d:=by
 obtain⟨h,s,t,o⟩:=r;have:(h.zip (b.map Prod.snd)).length=b.length:=by rw[List.length_zip,aF,s];omega
 have p:∀(f:Nat) (e:TmC×Rat),(h.zip (b.map Prod.snd))[f]? =some e->∃g:Int×Rat,b[f]? =some g/\h[f]? =some e.1/\e.2=g.2:=λf e i=>by
  have j:=(aH.1 i).1;obtain⟨g,q⟩:∃g,b[f]? =some g:=⟨_,aA om⟩;rw[List.getElem?_zip_eq_some,aX,q]at i;exact⟨g,q,i.1,by simpa using i.2.symm⟩
 have u:tsP (h.zip (b.map Prod.snd))=h:=by
  unfold tsP;rw[List.map_fst_zip (by rw[aF];omega)]
 refine⟨h.zip (b.map Prod.snd),?_,by rw[u];exact t,λe i=> ?_⟩
 .apply fT;intro f;unfold lP;rw[aX]
  cases j:(h.zip (b.map Prod.snd))[f]? with
  |none=>
   have:=gR.1 j;rw[Option.map_none,cM om]
  |some e=>
   obtain⟨g,k,m,n⟩:=p f e j;rw[Option.map_some,k,(o f e.1 g m k).1,n]
 .obtain⟨f,j,rfl⟩:=i9.1 i;obtain⟨g,k,m,n⟩:=p f _ (aA j);rw[n];exact(o f _ g m k).2
theorem TO.of_ps{w:World}(g:LS 67 4 a w c ((tsP h).map tmv))(i:∀d∈h,FrQ a w (xP d.1) d.2/\szQ d.2<=k):TO a k w c (lP h):=by
 refine⟨tsP h,by unfold tsP lP;rw[aF,aF],g,λj _ _ b f=> ?_⟩;unfold tsP at b;rw[aX]at b
 cases e:h[j]? with
 |none=>rw [e]at b;cases b
 |some d=>
  rw[e]at b;rw[RI e]at f;simp only[Option.map_some,Option.some.injEq]at b f;subst b f;exact⟨rfl,i d (aM e)⟩
def nzP(ps:Ps):Ps:=ps.filter λp=> !decide (p.2=0)
theorem ag0(a:Ps):lP (nzP a)=nz (lP a):=by
 unfold lP nzP nz;rw[List.filter_map];rfl
theorem I3(b:Ps)(a:TmC×Rat):nzP (b++ [a])=if a.2=0 then nzP b else nzP b++ [a]:=by
 unfold nzP;rw[iJ];by_cases c:a.2=0<;>simp [c]
theorem aa9(b:∀a∈h,a.2≠0):nzP h=h:=by
 unfold nzP;rw[jP];intro a c;simp[b a c]
theorem SN(l k:Nat)(A:Value)(h:List (Int×Rat))(w:World)(n:TO l k w A h)(a1:k<=LIM)(e0:h.length<=34359738368):
  Calls prog 82 #[A,.func (.func 99) #[] #[]] w λe a2=>∃a3,e= .returned a3/\TO l k a2 a3 (nz h)/\w.grownBy a2 A.ownBlock:=by
 obtain⟨a,B,C,a4⟩:=n.ps;obtain⟨e1,cap,a5, -, -, -⟩:=C.opn;have D:((tsP a).map tmv).length=h.length:=by rw[<-B];unfold tsP lP;simp
 rw[D]at a5;subst a5;have E:=a8 n;have a6:=a8 C;have F:=a8 B;have I:=a8 a4;have e3:=a8 D;obtain⟨f,J⟩:=ex h.length;rw[<-J]at e0 a6 E ⊢;have a7:=a8 J;clear n B C a4 D J;go_enter func82,ntmps82;go_wp2_with fail;refine(NB l k _ h w E.out a1).mono ?_;rintro e4 a9 ⟨b0,rfl,t,e2⟩;rcases t with⟨rfl,b1⟩ |⟨b,rfl,⟨b2,o,K⟩,b3⟩
 .have e5:Hid (nz h=h):=a8 (by unfold nz;rw[jP];intro b2 o;simp[b1 b2 o]);clear b1;go_wp2;go_ret;refine⟨_,rfl,by rw[e5.out];exact E.out.ext e2,?_⟩
  cases e1 with
  |none=>exact e2
  |some L=>exact e2.chg L.block
 .have hpl:(tsP a).length=f:=by have:=e3.out;rw[aF]at this;rw[this,a7.out]
  have b4:a.length=f:=by unfold tsP at hpl;rw[aF]at hpl;exact hpl
  have g1:b<f:=by have:=(aH.1 o).1;rw[a7.out];exact this
  obtain⟨g,_,rest,f1,f2,f3,f4,f5,f6⟩:=a6.out.hold (by rw[aF,hpl];omega);rw[aF,hpl]at f1 f3 f5
  cases f1
  obtain⟨u,M⟩:∃u,a[b]? =some u:=⟨_,aA om⟩;have b5:u.2=0:=by
   have:=RI M;rw[F.out,o]at this;simp only[Option.some.injEq]at this;rw[this]at K;exact K
  have b6:nzP (a.take b)=a.take b:=aa9 λc hp=>by
   refine b3 (c.1.c,c.2) ?_;rw[<-F.out];unfold lP;rw[<-gU];exact bJ.2 ⟨c,hp,rfl⟩
  have N:Hid ((tsP a).length=f/\kY g rest a9 (tsP a)/\(tsP a).take b=tsP (nzP (a.take (b+1)))/\b=(nzP (a.take (b+1))).length/\(tsP a).drop (b+1)=(tsP a).drop (b+1)):=by
   have e:nzP (a.take (b+1))=a.take b:=by
    rw[cE,M];show nzP (a.take b++ [u])=_;rw[I3,if_pos b5,b6]
   exact YK7
  have b7:=a8 f6;have b8:=a8 b4;have e6:=a8 (aD f2 (aD f3 (aD f4 f5)));have b9:Chg g w a9:=e2.chg g;have g2:f<=cap:=f3;have g3:cap<=9223372036854775807:=f4;clear o K b3 hpl b4 f2 f3 f4 f5 f6 M b5 b6;obtain⟨v,bA⟩:=ex (b+1);rw[<-bA]at N;have e7:(b:Int)+1=(v:Int):=om;have bB:b<v:=om;have bC:v<=f:=om;have x:¬(b:Int)= -1:=om;clear bA;have bD:((b:Int)== -1)=false:=sm;go_wp2_with fail;(try rw[bD]);clear x bD;go_loopw [5,6] (λO P wr=>∃(i j:Nat),O= .int .i64 (i:Int)/\P= .int .i64 (j:Int)/\i<j/\j<=f/\Hid (∃us:List TmC,us.length=f/\kY g rest wr us/\us.take i=tsP (nzP (a.take j))/\i=(nzP (a.take j)).length/\us.drop j=(tsP a).drop j)/\Chg g w wr) (λO P _=>((f:Int) - intOf P).toNat)
  case atStart=>exact ⟨b,v,rfl,rfl,bB,bC,a8 (let ⟨L,e8,e9,eA,_⟩:=N.out;⟨_,L,e8,e9,eA,rfl⟩),b9⟩
  case round=>
   obtain⟨i,j,rfl,rfl,_,eB,hH,hch⟩:=hrel;obtain⟨us,hH⟩:∃us:List TmC,Hid (us.length=f/\kY g rest wr us/\us.take i=tsP (nzP (a.take j))/\i=(nzP (a.take j)).length/\us.drop j=(tsP a).drop j):=by
    obtain⟨us,n⟩:=hH.out;exact⟨us,a8 n⟩
   clear b9 N e7 bB bC;rcases aI eB with eC |eD
   .subst eC;have eE:¬(j:Int)<j:=om;have hzv:∀w,(zeroValue 67).run prog w= .ok (.agg #[(0:Int),false,(),()]) w:=λw=>kr
    have hmul:i*4+(j - i)*4=j*4:=om;have bE:=λeG=>tM (P:=prog) wr 32 67 eG _ underlying32 hzv (λ_ bG=>by
     simp only[Value.cells,aS,bI,or_false]at bG
     rcases bG with rfl |rfl |rfl |rfl<;>rfl) g (i*4) (j - i) (cap - i) _ hH.out.2.1.2 (by
      rw[aB,mU hH.out.2.1.1.size,aF,hH.out.1];show i*4+(j - i)*4<=_;omega) om de
    obtain⟨m,hzs⟩:=ex ((Builtin.zeroCells (Value.agg #[(0:Int),false,(),()]).cells (j - i)).toList);rw[<-hzs]at bE;have hzl:m.length=(j - i)*4:=by rw[hzs];simp[Builtin.zeroCells,Value.cells]
    obtain⟨p,hw7⟩:=ex (wr.setRow g (pR (kX (us.map tmv)++rest) (i*4) m).toArray);rw[<-hw7]at bE;have hB7:Bx 67 p g (pR (kX (us.map tmv)++rest) (i*4) m).toArray:=by rw[hw7];exact hH.out.2.1.2.setRow _
    have hC7:Chg g wr p:=by rw[hw7];exact Chg.setRow _ _ _
    have hlay:pR (kX (us.map tmv)++rest) (i*4) m=kX ((us.take i).map tmv)++(m++rest):=ay8;have HF7:Hid (TO l k p (g,i,cap) (nz h)/\Chg g w p):=by
     obtain⟨h1,h2,h3,h4,h5⟩:=hH.out;obtain⟨eN,_,fA,fB⟩:=e6.out;rw[hlay]at hB7;have Q:(us.take i).length=i:=by rw[aP];omega
     have bO:=hch.trans hC7;have fC:=b7.out;have fD:a.take j=a:=by rw[aK];have:=b8.out;omega
     rw[fD]at h3 h4;have bP:=LS.of_hold (e:=67) (n:=4) (B:=l) (w:=p) (vs:=(us.take i).map tmv) (g:=g) (cap:=cap) (rest:=m++rest) (nK _) eN (by rw[aF,Q];omega) fA (by
      rw[aF,Q,aB,hzl];have g4:j*4+rest.length=cap*4:=fB;omega) hB7
     rw[aF,Q,h3]at bP;have bR:=TO.of_ps (k:=k) bP (λc hp=>(let ⟨f1,f2⟩:=I.out c (dV.1 hp).1;⟨f1.chgN bO fC hB7 de de,f2⟩));rw[ag0,F.out]at bR;exact a8 ⟨bR,bO⟩
    exact KX4
   .have eE:(j:Int)<f:=om;have g5:(i:Int)<f:=om;obtain⟨c,hp⟩:∃c,a[j]? =some c:=⟨_,aA (by rw[b8.out];exact eD)⟩;have R:us[j]? =some c.1:=cj8;obtain⟨S,bS⟩:∃S,us[i]? =some S:=⟨_,aA (by rw[hH.out.1];omega)⟩;have q:=hH.out.2.1.at R wr (Ext.refl wr);have T:wr.cell? (g,j*4)=some (.int .i64 c.1.c):=q 0 _ rfl;have U:=q 1 _ rfl;have V:=q 2 _ rfl;have X:=q 3 _ rfl;have bT:FrQ l wr (xP c.1) c.2:=(I.out c (aM hp)).1.chgN hch b7.out hH.out.2.1.2 de de;have c0:=bT.isR (I.out c (aM hp)).2 a1;have c1:=a8 c0;have c2:a.take (j+1)=a.take j++ [c]:=by rw[cE,hp];rfl
    have y:=a8 c2;have c3:=a8 (aD R bS);obtain⟨b0,t⟩:=ex (decide (c.2=0):Bool);have z:=a8 t.symm;obtain⟨d,r⟩:=c;simp only at T U V X c1 y c3 z;obtain⟨fE,c4,c5,c6,O⟩:=kR wr #[d.c,d.b,(d.a1,d.n1,d.c1),(d.a2,d.n2,d.c2)] 67;clear hp R bS q bT c0 c2 t;go_wp2_with fail;rw[<-c4];refine(KT d r k fE (c1.out.ext c5)).mono ?_;rw[z.out];rintro e4 Y ⟨rfl,c7⟩;have E6:=c5.trans c7;have fG:=c6.ext c7;obtain⟨_,_,_,_,-⟩:=fG.cl [0,1,2,3];obtain⟨j1,Z⟩:=ex (j+1);have g6:(j:Int)+1=(j1:Int):=om;rw[<-Z]at y;have HJ1:=a8 Z;have H6:=a8 (hH.out.2.1.ext E6);clear Z T U V X c4 c6
    cases b0 with
    |true=>
     go_wp2;go_roundw
     case rel=>
      obtain⟨h1,h2,h3,h4,h5⟩:=hH.out;have a0:r=0:=of_decide_eq_true z.out;have e:nzP (a.take j1)=nzP (a.take j):=by rw[y.out,I3,if_pos a0]
      exact SS1
     case measure=>have:=HJ1.out;simp[intOf];omega
    |false=>
     have s:=H6.out.at c3.out.2 Y (Ext.refl Y);have T:Y.cell? (g,i*4)=some (.int .i64 S.c):=s 0 _ rfl;have U:=s 1 _ rfl;have V:=s 2 _ rfl;have X:=s 3 _ rfl;have g7:=H6.out.2.free (i*4);have g9:=H6.out.2.free (i*4+1);have gA:=H6.out.2.free (i*4+2);have gG:=H6.out.2.free (i*4+3);obtain⟨c8,x⟩:=ex (i+1);have gL:(i:Int)+1=(c8:Int):=om;have g0:=a8 x;clear x s;go_wp2;go_roundw
     case rel=>
      obtain⟨h1,h2,h3,h4,h5⟩:=hH.out;have a0:r≠0:=of_decide_eq_false z.out;have e:nzP (a.take j1)=nzP (a.take j)++ [(d,r)]:=by rw[y.out,I3,if_neg a0]
      have hj:=HJ1.out;have c9:=g0.out;refine⟨c8,j1,rfl,rfl,om,om,a8 ⟨us.set i d,by rw[cI];exact h1,H6.out.store (by rw[h1];omega) d,?_,by rw[e,aB,<-h4];exact c9,?_⟩,(hch.trans (E6.chg g)).trans (Chg.trans (Chg.trans (Chg.trans (Chg.setCell _ g (i*4) _) (Chg.setCell _ g (i*4+1) _)) (Chg.setCell _ g (i*4+2) _)) (Chg.setCell _ g (i*4+3) _))⟩
      .rw[e];have e2:tsP (nzP (a.take j)++ [(d,r)])=tsP (nzP (a.take j))++ [d]:=by unfold tsP;simp
       rw[e2,<-h3,c9,cE,dR lr,fK om];rfl
      .rw[eK om,hj,<-dK,h5,dK]
     case measure=>have:=HJ1.out;simp[intOf];omega
theorem TO.le{w:World}(e:TO a d w c b)(r:d<=m):TO a m w c b:=by
 obtain⟨f,g,h,k⟩:=e;exact⟨f,g,h,λi l x n o=>(let ⟨p,q,s⟩:=k i l x n o;⟨p,q,om⟩)⟩
theorem LS.tl{w:World}{ps:Ps}(e:LS 67 4 B w c ((tsP ps).map tmv))(n:∀a∈ps,IsR w (xP a.1) a.2 k):TL k w c (lP ps):=by
 obtain⟨o,p,b,h,q, -⟩:=e.opn;have r:((tsP ps).map tmv).length=(lP ps).length:=by unfold tsP lP;simp
 rw[r]at b h;refine⟨o,p,b,h,q,?_⟩;rcases aR (lP ps).length with i |i
 .exact .inl (aL i)
 .obtain⟨s,_,rest,f1,f2, -⟩:=e.hold om;rw[b]at f1;simp only[Value.slice.injEq]at f1;obtain⟨f1, -, -⟩:=f1;refine .inr ⟨s,0,f1,λl _ d=> ?_⟩;obtain⟨a,f⟩:∃a,ps[l]? =some a:=⟨_,aA (by have:=(aH.1 d).1;unfold lP at this;simpa using this)⟩;rw[RI f]at d;simp only[Option.some.injEq]at d;subst d;obtain⟨_,_,g,_,t,m,v,_,j6⟩:=e.at om (i:=l) (u:=tmv a.1) (by unfold tsP;rw[aX,aX,f];rfl);rw[b]at g;simp only[Value.slice.injEq,f1,Option.some.injEq,Addr.mk.injEq]at g;obtain⟨⟨rfl, -⟩, -⟩:=g;refine⟨t,v,λj u hj=> ?_,?_⟩
  .exact Tk6
  .unfold tmv at m
   cases m
   exact⟨_,_,_,_,_,_,_,rfl,n a (aM f)⟩
theorem FrL.chgB{g:IntKind}{w:World}{h:List Nat}{i:TypeId}(k:FrL o g a w c h)(l:Chg d w f)(e:Bx i w d v)(m:i≠o):FrL o g a f c h:=by
 obtain⟨n,p,q,r,s,b⟩:=k;refine⟨n,p,q,r,s,?_⟩;rcases b with b |⟨t,u,b,x,j,y⟩
 .exact .inl b
 .refine .inr ⟨t,u,b,x,l.blk j ?_,y⟩;rintro rfl;unfold Bx at e;rw[j]at e;simp only[Option.some.injEq,Obj.cells.injEq]at e;exact m e.2.1.symm
theorem FrQ.chgB{b:Nat}{w c:World}{d:Value}{e:Rat}{f:Nat}{a:TypeId}{j:Array Value}(k:FrQ b w d e)(g:Chg f w c)(h:Bx a w f j)(i:a≠165):FrQ b c d e:=by
 obtain⟨l,a,m,n,o⟩:=k;exact⟨l,a,m,FrL.chgB n g h i,FrL.chgB o g h i⟩
def zN{S:Nat}(c:Int)(q:Rat):PP S:=⟨false,λu w=>∃t:TmC,u=tmv t/\t.c=c/\FrQ S w (xP t) q,λ_ _ _ h hp=>(let ⟨t,h1,h2,h3⟩:=hp;⟨t,h1,h2,h3.ext h⟩),λ_ _ hg _ _ _ h hp=>(let ⟨t,h1,h2,h3⟩:=hp;⟨t,h1,h2,h3.chg h hg⟩)⟩
def xF{S:Nat}(c:Int)(q:Rat):PP S:=⟨false,λu w=>∃(g:Nat) (t:TmC),S<=g/\u= .slice g 1 1/\Bx 67 w g (tmv t).cells/\t.c=c/\FrQ S w (xP t) q,λ_ _ _ h hp=>(let ⟨g,t,h0,h1,h2,h3,h4⟩:=hp;⟨g,t,h0,h1,h2.ext h,h3,h4.ext h⟩),λ_ _ hg _ _ _ h hp=>(let ⟨g,t,h0,h1,h2,h3,h4⟩:=hp;⟨g,t,h0,h1,h2.chg h om,h3,h4.chg h hg⟩)⟩
def ApT(B S n:Nat)(c:Int)(q:Rat)(ts:List TmC)(hv v:Value)(b:World):Prop:=
 ∃(t:TmC) (g cap:Nat),v=(g,n+1,cap)/\LS 67 4 B b v ((ts++ [t]).map tmv)/\t.c=c/\FrQ S b (xP t) q/\(hv.ownBlock=some g∨S<=g)
theorem ApT.ext{a b c:Nat}{d:Int}{e:Rat}{f:List TmC}{g h:Value}{i j:World}(l:ApT a b c d e f g h i)(k:Ext i j):ApT a b c d e f g h j:=by
 obtain⟨m,n,o,p,q,r,s,t⟩:=l;exact⟨m,n,o,p,q.ext k,r,s.ext k,t⟩
theorem LU{b:TmC}(j:x.length=m)(n:f.ownsRow a 67 4 c (m+1) (kX (x.map tmv)++ [.int .i64 b.c,.bool b.b,.slice b.a1 b.n1 b.c1,.slice b.a2 b.n2 b.c2]))(o:∀h,c.ownBlock=some h->s.ownBlock=some h∨r<=h)(v:d<=r)(p:b.c=e)(q:FrQ d f (xP b) g):ApT a d m e g x s c f:=by
 have k:LS 67 4 a f c ((x++ [b]).map tmv):=by
  refine⟨nK _,?_⟩;have t:kX ((x++ [b]).map tmv)=kX (x.map tmv)++ [.int .i64 b.c,.bool b.b,.slice b.a1 b.n1 b.c1,.slice b.a2 b.n2 b.c2]:=by
   rw[bY,pF];rfl
  rw[t,aF,aB,j];exact n
 obtain⟨h,u,rest,i, -⟩:=k.hold (by rw[aF,aB];show 0<_+1;omega);rw[aF,aB,j]at i;refine⟨b,h,u,i,k,p,q,?_⟩;rcases o h (by rw[i];rfl)with l |l
 .exact .inl l
 .exact .inr om
theorem M8{w:World}{c:Array Value}(l:LS 67 4 r w (A,a,m) j)(n:Ext w f)(o:Bx 67 f d c):
  ∃b,(∃c,Bx 67 f b c)/\(∀e g:World,e.grownBy g (Value.slice A a m).ownBlock->Chg b e g)/\(((Value.slice A a m).ownBlock=some b/\r<=b)∨((Value.slice A a m).ownBlock=none/\b=d)):=by
 rcases l.2.2 with⟨h,k⟩ |⟨p,_,q,h,k,s,_⟩
 .cases h
  exact⟨d,⟨c,o⟩,λe g i=>Ext.chg d i,.inr ⟨rfl,rfl⟩⟩
 .cases h
  exact⟨p,⟨q,n.blk s⟩,λe g i=>i,.inl ⟨rfl,k⟩⟩
def StT(S g N i:Nat)(rest:List Value)(l:List TmC)(c:Int)(q:Rat)(k:Nat)(b:World):Prop:=∃t:TmC,t.c=c/\kY g rest b (l.set i t)/\FrQ S b (xP t) q/\szQ q<=k
theorem StT.ext{a b c d:Nat}{rest:List Value}{e:List TmC}{f:Int}{g:Rat}{h:Nat}{i j:World}(l:StT a b c d rest e f g h i)(k:Ext i j):StT a b c d rest e f g h j:=by
 obtain⟨m,n,o,p,q⟩:=l;exact⟨m,n,o.ext k,p.ext k,q⟩
theorem set3(c d e:Value):∀(a:Nat) (b:List Value),a+3<=b.length->((b.set a c).set (a+1) d).set (a+2) e=pR b a [c,d,e]
 |0,x1::x2::x3::b,_=>rfl
 |a+1,x::b,h=>by
  have:=set3 c d e a b (by simpa using h);unfold pR at this ⊢;rw[show a+1+1=(a+1)+1 from rfl,show a+1+2=(a+2)+1 by omega,aV,aV,aV,this];simp[show a+1+3=(a+3)+1 by omega]
theorem ag6{n:Oper}{o:Act}{C:Nat->Value}{w:World}(p l D a:Nat)(rest:List Value)(c:List TmC)(d:Int)(q:Rat)(v:Nat)(x y:Operand)(r:TypeId)(z:Value)(E:n.guard=none)(F:n.op= .store r x y)(I:o.eval x=(l,a*4+1))(J:o.eval y=z)(s:FrQ p w z q)(K:szQ q<=v)
  (L:(P.info? r).map (·.size)=some 3) (m:kY l rest w c) (b:TmC) (A:c[a]? =some b) (M:b.c=d) (N:l<p):kM P n o C w (Chg l) (λ_ O=>StT p l D a rest c d q v O):=by
 obtain⟨e,f,g,h,i,j,k,rfl,s⟩:=s.opn;have Q:=(aH.1 A).1;have t:=mU m.1.size;rw[aF]at t;have B:=uO (P:=P) w l (a*4+1) 67 r _ #[e,(f,g,h),(i,j,k)] m.2 L (by rw[aB,t];show a*4+1+3<=_;omega) (yA rfl rfl rfl);have R:a*4+4<=(kX (c.map tmv)++rest).length:=by rw[aB,t];omega
 have S:(kX (c.map tmv)++rest)[a*4]? =some (.int .i64 d):=by
  rw[bM om];have:=xL (n:=4) om m.1.size (i:=a) (cs:=#[b.c,b.b,(b.a1,b.n1,b.c1),(b.a2,b.n2,b.c2)]) (by rw[aX,A];rfl) 0 om;rw[bZ]at this;rw[this,<-M];rfl
 have T:pR (kX (c.map tmv)++rest) (a*4+1) [.bool e,.slice f g h,.slice i j k]=kX ((c.set a ⟨d,e,f,g,h,i,j,k⟩).map tmv)++rest:=by
  rw[<-set3 _ _ _ _ _ om];have u:=yK (rest:=rest) (v:=tmv ⟨d,e,f,g,h,i,j,k⟩) m.1.size (by rw[aF];exact Q) rfl;have U:(tmv ⟨d,e,f,g,h,i,j,k⟩).cells.toList=[.int .i64 d,.bool e,.slice f g h,.slice i j k]:=rfl;rw[U,<-set4 _ _ _ _ _ _ R]at u;have V:(kX (c.map tmv)++rest).set (a*4) d=kX (c.map tmv)++rest:=by
   obtain⟨_,X⟩:=aH.1 S;rw[<-X,List.set_getElem_self]
  rw[V,show a*4+2=a*4+1+1 from rfl,show a*4+3=a*4+1+2 from rfl,<-iX]at u;exact u
 have Y:(#[e,(f,g,h),(i,j,k)]:Array Value).toList=[.bool e,.slice f g h,.slice i j k]:=rfl;rw[Y,T]at B;unfold kM;rw[E];unfold Oper.wp execOp;simp only[F,I,J,Instr.storeAt,Instr.sureAddr,Sem.run_bind,Sem.run_pure,Result.andThen_ok,B];exact⟨_,rfl,Chg.setRow w l _,⟨d,e,f,g,h,i,j,k⟩,rfl,⟨nK _,m.2.setRow _⟩,s.chg (Chg.setRow w l _) N,K⟩
theorem vR(a:Ps)(b:TmC×Rat):tsP (a++ [b])=tsP a++ [b.1]:=by unfold tsP;simp
theorem FN(b:Ps)(a:TmC×Rat):lP (b++ [a])=lP b++ [(a.1.c,a.2)]:=by unfold lP;simp
theorem SG{wr:World}(l:lP h=b)(n:∀j∈h,FrQ a wr (xP j.1) j.2/\szQ j.2<=r)(o:Ext wr f)(p:Chg E f q)(t:∃k,Bx 67 f E k)(u:ApT a m F e g (tsP h) s c q)(v:a<=m)(I:r<=d)(x:szQ g<=d):TO a d q c (b++ [(e,g)]):=by
 obtain⟨y,_,_,_,z,A,B,_⟩:=u;obtain⟨k,C⟩:=t;have D:b++ [(e,g)]=lP (h++ [(y,g)]):=by rw[FN,l,A]
 rw[D];refine TO.of_ps (by rw[vR];exact z) λj i=> ?_
 rcases aW.1 i with i |i
 .obtain⟨f1,f2⟩:=n j i;exact⟨(f1.ext o).chgB p C de,om⟩
 .rw[aC]at i;subst i;exact⟨B.mono v,x⟩
theorem TP(d:lP h=b++ [(e,g)]):∃(f:Ps) (a:TmC×Rat),h=f++ [a]/\lP f=b/\a.1.c=e/\a.2=g:=by
 unfold lP at d ⊢;obtain⟨i,_,j,k,l⟩:=List.map_eq_append_iff.1 d;obtain⟨a,m,n,c,o⟩:=List.map_eq_cons_iff.1 l;have:m=[]:=by simpa using o
 subst this;simp only[Prod.mk.injEq]at c;exact⟨i,a,by rw[j,n],k,c.1,c.2⟩
theorem YY{go u:Nat}{rest:List Value}{c:Rat}{wr:World}(v:lP h=b++ [(e,y)])(x:∀j∈h,FrQ d wr (xP j.1) j.2/\szQ j.2<=F)(z:Ext wr q)(A:Chg go q f)(B:∃o,Bx 67 q go o)(C:a=b.length)(D:StT E go u a rest (tsP h) e c r f)(I:d<=E)(J:d<=go)(U:F<=r)
  (K:a+1<=m) (L:m<=9223372036854775807) (M:(a+1)*4+rest.length=m*4):TO d r f (go,a+1,m) (b++ [(e,c)]):=by
 obtain⟨k,N,l,O,P⟩:=D;obtain⟨g,Q,rfl,p,_,_⟩:=TP v;obtain⟨o,R⟩:=B;have s:(tsP g).length=a:=by rw[C,<-p];unfold tsP lP;simp
 have S:(tsP (g++ [Q])).set a k=tsP (g++ [(k,c)]):=by
  rw[vR,vR,gJ _ _ om,s,gE,aZ]
 rw[S]at l;have T:b++ [(e,c)]=lP (g++ [(k,c)]):=by rw[FN,p,N]
 have n:((tsP (g++ [(k,c)])).map tmv).length=a+1:=by rw[vR,aF,aB,s];rfl
 have t:=LS.of_hold (e:=67) (n:=4) (B:=d) (w:=f) (vs:=(tsP (g++ [(k,c)])).map tmv) (g:=go) (cap:=m) (rest:=rest) l.1 J (by rw[n];exact K) L (by rw[n];exact M) l.2;rw[n]at t;rw[T];refine TO.of_ps t λj i=> ?_
 rcases aW.1 i with i |i
 .obtain⟨f1,f2⟩:=x j (cO _ i);exact⟨(f1.ext z).chgB A R de,om⟩
 .rw[aC]at i;subst i;exact⟨O.mono I,P⟩
def MkJ(w3 wr:World)(k i:Nat)(l:List (Int×Rat))(ov:Value)(m:List (Int×Rat)):Prop:=
 Ext w3 wr/\Up m/\(∀c,getV m c=getV (l.take i) c)/\(∀x∈m,∀y∈l.drop i,x.1<=y.1)/\TO w3 (i*(k+1)) wr ov m/\m.length<=i
theorem EP(a:List t):a=[]∨∃b c,a=b++ [c]:=by
 rcases List.eq_nil_or_concat a with d |⟨b,c,d⟩
 .exact .inl d
 .exact .inr ⟨b,c,by rw[d,List.concat_eq_append]⟩
theorem vJ(c:b[a]? =some (e,g)):b.take (a+1)=b.take a++ [(e,g)]/\b.drop a=(e,g)::b.drop (a+1):=by
 constructor
 .rw[cE,c];rfl
 .obtain⟨d,f⟩:=aH.1 c;rw[dO d,f]
theorem MkJ.out{wr:World}(i:MkJ f wr d a b c p)(j:b[a]? =some (e,g))(v:e<0)(h:Ext wr q):MkJ f q d (a+1) b c p:=by
 obtain⟨k,l,m,n,o,_⟩:=i;obtain⟨t1,t2⟩:=vJ j;refine⟨k.trans h,l,λ_=> ?_,λr s t u=>n r s t (by rw[t2];exact aN _ u),(o.ext h).le (aJ _ om),om⟩;rw[t1,rW,if_neg om,dY,m]
theorem PB(f:b.Pairwise λh c=>h.1<=c.1)(i:b[a]? =some (e,g)):∀c∈b.drop (a+1),e<=c.1:=by
 intro c j;have d:=f.sublist (List.drop_sublist a b);rw[(vJ i).2,dD]at d;exact d.1 c j
theorem MkJ.new{wr:World}(m:MkJ f wr d a p s b)(n:p.Pairwise λh j=>h.1<=j.1)(k:p[a]? =some (e,g))(o:0<=e)(r:∀h∈b,h.1≠e)(t:Ext f q)(u:TO f ((a+1)*(d+1)) q c (b++ [(e,g)])):MkJ f q d (a+1) p c (b++ [(e,g)]):=by
 obtain⟨_,v,x,y,_,_⟩:=m;obtain⟨t1,t2⟩:=vJ k;have l:∀h∈b,h.1<e:=λh i=>by
  have z:=y h i (e,g) (by rw[t2];exact aT ..);have:=r h i;simp only at z;omega
 refine⟨t,v.snoc o l,λ_=> ?_,λh i j A=> ?_,u,by rw[aB];simp;omega⟩
 .rw[t1,rW,rW,x]
 .have B:=PB n k j A;rcases aW.1 i with i |i
  .have:=l h i;omega
  .rw[aC]at i;subst i;exact B
theorem MkJ.more{wr:World}(m:MkJ f wr d a b s (p++ [(e,g)]))(n:b.Pairwise λj i=>j.1<=i.1)(k:b[a]? =some (e,y))(o:Ext f q)(r:TO f ((a+1)*(d+1)) q c (p++ [(e,g+y)])):MkJ f q d (a+1) b c (p++ [(e,g+y)]):=by
 obtain⟨_,t,u,v,_,x⟩:=m;obtain⟨t1,t2⟩:=vJ k;obtain⟨z,A⟩:=t.last (r:=g+y);refine⟨o,z,λ_=> ?_,λj h i l=> ?_,r,by simp at x ⊢;omega⟩
 .rw[A,u,t1,rW,show g+y - g=y by grind]
 .have B:=PB n k i l;rcases aW.1 h with h |h
  .exact v j (cO _ h) i (by rw[t2];exact aN _ l)
  .rw[aC]at h;subst h;exact B
theorem MkJ.ne{wr:World}{h:Int}(k:MkJ f wr d a b c (p++ [(e,g)]))(l:b[a]? =some (h,y))(m:e≠h):∀j∈p++ [(e,g)],j.1≠h:=by
 obtain⟨_,n,_,o,_,_⟩:=k;obtain⟨t1,t2⟩:=vJ l;intro j q;rcases aW.1 q with i |i
 .have r:=o (e,g) sm (h,y) (by rw[t2];exact aT ..);have s:=(eI.1 n.1).2.2 j i (e,g) (aC.2 rfl);simp only at r s;omega
 .rw[aC]at i;subst i;exact m
theorem ag9(a:Ris lU (tsP h)):(lP h).Pairwise λb c=>b.1<=c.1:=by
 unfold Ris tsP at a;unfold lP;rw[List.pairwise_map]at a ⊢;exact a
theorem nF(k:Nat)(i:Value)(s:List (Int×Rat))(w:World)(hl:TL k w i s)(i0:s.length<=1073741824)(i1:(s.length+1)*(k+1)<=34359738000):
  Calls prog 50 #[i] w λe w'=>∃v',e= .returned v'/\TO w (s.length*(k+1)) w' v' (mkV s)/\Ext w w':=by
 obtain⟨_,t,i2,c3,rfl,_, -⟩:=hl.at;have gT:=a8 hl;have b9:=a8 c3;rw[<-c3]at i0 i1;have l5:k<=34359738000:=by
  have:1*(k+1)<=(t+1)*(k+1):=aJ _ om;omega
 have h0:∀(l:List (Int×Rat)),Up l->(∀V,getV l V=getV s V)->nz l=mkV s:=λl h1 h2=>MI h1.nz λV=>by rw[MA,h2]
 have i3:=a8 h0;clear hl c3 h0;rw[<-b9.out];go_enter func50,ntmps50;go_wp2_with fail;refine(yZ k _ s w gT.out (by rw[<-b9.out];omega)).mono ?_;rintro e bA ⟨_,c4,rfl,bB,c5,h3,h4⟩;have c6:c4.length=t:=by rw[b9.out,<-c5];unfold lP;simp
 obtain⟨i4,i5,rfl, -⟩:=bB.opn;have h5:((tsP c4).map tmv).length=t:=by unfold tsP;simp[c6]
 rw[h5]at bB ⊢;have c7:=a8 bB;clear bB;go_wp2_with fail;refine(QA w _ (tsP c4) bA c7.out (by unfold tsP;rw[aF,c6];omega)).mono ?_;rintro e m ⟨rfl,h6,_,h7,h8,h9⟩;obtain⟨c8,c9,rfl⟩:=L8 h7;have e0:Ext w m:=h4.stepG h6 λhA hg=>by
  rcases c7.out.2.2 with⟨h1,h2⟩ |⟨i6,i2,i7,h1,h2,K,j0⟩
  .rw[h1]at hg
   cases hg
  .exact LA6
 have e1:=ag9 h8;have e2:TL k m (i4,t,i5) (lP c8):=LS.tl h9 λbC hp=>(h3 bC (c9.mem_iff.1 hp)).ext e0
 have bD:(lP c8).Perm s:=by rw[<-c5];exact ZU c9
 obtain⟨e3,hB⟩:=ex (lP c8);rw[<-hB]at e1 e2 bD;have hC:e3.length=t:=by rw[bD.length_eq,b9.out]
 obtain⟨_,_,_,j1,j2,_,hD⟩:=e2.at
 cases j2
 have j3:=a8 hD;have e4:=a8 e1;have j4:=a8 bD;have hH:=a8 hC;have e5:=a8 e0;clear h7 c9 h8 h9 hB h3 c5 h6 h4 c6 h5 e1 e2 bD hC j1 hD e0 c7 gT;go_wp2_with fail;go_loopw [2,13] (λj5 e6 wr=>∃(a:Nat) (l:List (Int×Rat)) (u:Option Addr) (g:Nat),a<=t/\e6= .int .i64 (a:Int)/\j5= .slice u l.length g/\Hid (MkJ m wr k a e3 (u,l.length,g) l)) (λ_ e6 _=>((t:Int) - intOf e6).toNat)
 case atStart=>exact ⟨0,[],none,0,zl,rfl,rfl,a8 ⟨rE,Up.nil,λV=>sm,(λL M=>by cases M),⟨[],rfl,LS.nil _ _ _ _,λa _ L h=>by simp at h⟩,lr⟩⟩
 case round=>
  obtain⟨a,l,u,g,j6,rfl,rfl,n⟩:=hrel;have E:=n.out.1;rcases aI j6 with e7 |e7
  .subst e7;have jA:¬((a:Int)<a):=om;have hF:Hid (nz l=mkV s):=by
    obtain⟨h1,h2,K, -⟩:=n.out;refine a8 (i3.out l h2 λV=> ?_);rw[K,<-hH.out,bN];exact VI j4.out V
   have hI:=n.out.2.2.2.2.2;go_wp2_with fail;refine(SN m (a*(k+1)) _ l wr n.out.2.2.2.2.1 (by rw[mR];have:a*(k+1)<=(a+1)*(k+1):=aJ _ om;omega) om).mono ?_;rintro e jB ⟨_,rfl,e8,hJ⟩;rw[hF.out]at e8;have jC:=a8 e8;have jD:Ext w jB:=(e5.out.trans E).stepG hJ λhA hg=>by
    obtain⟨_,h1,h2, -⟩:=n.out.2.2.2.2.1;have j0:=e5.out.size;rcases h2.2.2 with⟨e9,jE⟩ |⟨i6,_,i7,e9,jE,_⟩
    .rw[e9]at hg
     cases hg
    .rw[e9]at hg;simp only[Value.ownBlock,Option.some.injEq]at hg;subst hg;omega
   have jG:=e5.out.size;clear e8 hJ hF;go_wp2;go_ret;exact⟨_,rfl,jC.out.mono jG,jD⟩
  .have jA:(a:Int)<t:=om;obtain⟨L,M⟩:∃L,e3[a]? =some L:=⟨_,aA (by rw[hH.out];exact e7)⟩;obtain⟨hA,_,rfl,b',a1,n1,c1,a2,n2,c2,hcell⟩:=j3.out a L M;obtain⟨k0,k1,k2,k3,eA⟩:=hcell wr E;obtain⟨xc,xq⟩:=L;simp only at k0 k1 k2 k3 eA;have HX:=a8 (aD M eA);obtain⟨X,eB,bE,b5,_⟩:=kR wr #[xc,b',(a1,n1,c1),(a2,n2,c2)] 67;have hK:a*(k+1)+(k+1)=(a+1)*(k+1):=by rw[dT]
   have hL:(a+1)*(k+1)<=(t+1)*(k+1):=aJ _ om;have F:=a8 (aD hK hL);obtain⟨Y,hM⟩:=ex (a+1);have l6:(a:Int)+1=(Y:Int):=om;have I:=a8 hM;have bG:Y<=t:=om;clear M eA hcell hM hK hL;by_cases k4:xc<0
   .go_wp2;go_roundw
    case rel=>
     rw[<-eB];refine⟨Y,l,u,g,bG,rfl,rfl,a8 ?_⟩;rw[I.out];exact n.out.out HX.out.1 k4 bE
    case measure=>have:=I.out;simp[intOf];omega
   .have hI:=n.out.2.2.2.2.2;rcases EP l with rfl |⟨N,⟨v,A⟩,rfl⟩
    .go_wp2_with fail;rw[<-eB];refine wpQ [(0:Int),false,false,kP,kP,kP,kP,kP,kP,kP,kP,kP,false] [] [0,1,2,3,4,5,6,7,8,9,10,11,12] ?_ ?_
     .refine⟨oL,oL,oL,?_,?_,?_,?_,?_,?_,?_,?_,?_,oL,trivial⟩
      .exact qH3
      .exact qH3
      .exact Mh1
      .exact Kx0
      .exact Mh1
      .exact Mh1
      .exact qH3
      .exact Mh1
      .exact Kx0
     .intro f w6 hG hp;have hE:Ext X w6:=mV.nil hG;have eC:f 12=false:=rM hp 12 de rfl (λh=>by cases h);try simp only[eC]
      clear hp;have b6:=b5.ext hE;have E56:=bE.trans hE;obtain⟨o,hpso,x,B⟩:=n.out.2.2.2.2.1.ps;have C:((tsP o).map tmv).length=0:=KE7;have a0:=a8 hpso;have eD:=a8 x;have eE:=a8 B;have O:=a8 C;obtain⟨Q,R,a3,a4⟩:=M8 x E56 b6;have a5:Q<w6.heap.size:=by obtain⟨k5,h1⟩:=R;exact qJ h1
      have eG:=a8 R;have a6:=a8 a3;have eN:=a8 a4;clear hpso x B C R a3 a4;have k6:=E.size;have k7:=E56.size;go_wp2_with fail;refine qZ Q 8 9 (λi a7=>ApT m w6 (0) (xc) (xq) (tsP o) (.slice u (0) g) i a7) [kL (.slice u (0) g),(wr,0),xc,(wr,1),kL (.agg #[b',(a1,n1,c1),(a2,n2,c2)]),nC xq,zN (xc) (xq),xF (xc) (xq),kP,kP] [(0,9,2)] [8,7,6,5,4,3,2,1,0] kr kr (λf=>(by simp only[mJ,mO,aQ,aV,aZ,Nat.reduceAdd];rfl)) de (a5) (λZ hN bA h hp=>hp.ext h) (by intro bC hp;simp only[aS,bI,or_false]at hp;rcases hp with rfl |rfl |rfl |rfl |rfl |rfl |rfl |rfl |rfl |rfl<;>rfl) (λ_ _=>trivial) ?_ ?_ de
      .refine⟨?_,oL,?_,oL,?_,?_,?_,?_,?_,?_,trivial⟩
       .intro f w7 hG hp hl;have k8:f 9= .slice u (0) g:=hl.1 rfl;exact DG6
       .exact LF2
       .exact aw6
       .exact JU9
       .exact aX1
       .exact Kz6
       .intro f w7 hG hp hl;have hE:Ext w6 w7:=hG;have hS:=hE.size;have k9:f 0= .slice u (0) g:=lO hp 0 0 rfl rfl;have kA:=lO hp 1 7 rfl rfl;have fA:f 0= .slice u (0) g:=lO hp 0 0 rfl rfl;obtain⟨fB,tt,kB,fC,hbx,fD,fE⟩:=lO hp 1 7 rfl rfl;change kM _ _ _ f w7 (Chg Q) _;refine oI (P:=prog) _ _ 32 rfl rfl m 67 4 64 underlying32 kr kr om (.slice u (0) g) (0) (kX ((tsP o).map tmv)) fA (by have:=(eD.out.ext (E56.trans hE)).2;rw[O.out]at this;exact this) ⟨fB,0,none⟩ 1 1 [tt.c,tt.b,(tt.a1,tt.n1,tt.c1),(tt.a2,tt.n2,tt.c2)] fC rfl (λj Z p=>by rw[nO,aY,hbx.cell];unfold tmv;simpa[Value.cells]using p) (by intro Z a9;simp at a9;rcases a9 with rfl |rfl |rfl |rfl<;>rfl) om (by unfold maxLen;omega) om (by have:=hE.size;omega) (λv' w' h1 h2 K=>⟨a6.out _ _ h2,LU (by have:=O.out;rw[aF]at this;exact this) h1 K hE.size fD (fE.chg (a6.out _ _ h2) a5)⟩)
       .exact QF5
      .intro f w7 J y S hp;clear hp;obtain⟨tt,go,fG,T,g0,g1,g2,g3⟩:=id y;have b0:=(S de).trans T;have D:=SG a0.out eE.out E56 J eG.out (T▸y) (show m.heap.size<=w6.heap.size by omega) (show a*(k+1)<=(a+1)*(k+1)by have:=F.out;omega) (show szQ xq<=(a+1)*(k+1)by have:=HX.out.2.sz;have:=F.out;omega);have b1:Ext m w7:=(E.trans E56).step J (by rcases eN.out with⟨-,h⟩ |⟨-,h⟩<;>omega)
       have b2:=a8 (n.out.new e4.out HX.out.1 om (λL M=>by cases M) b1 D);have b3:Hid ((([])++ [(xc,xq)]).length=0+1):=a8 (by have:=O.out;have b4:=congrArg List.length a0.out;unfold tsP at this;unfold lP at b4;simp at this b4 ⊢ <;>omega)
       rw[b0];clear y S T g0 g1 g2 g3 D b0;go_wp2;go_roundw
       case rel=>exact ⟨Y,([])++ [(xc,xq)],some ⟨go,0,none⟩,fG,bG,rfl,by first |rfl |rw [b3.out],a8 (by have:=b2.out;rw[<-I.out]at this;rw[b3.out];exact this)⟩
       case measure=>have:=I.out;simp[intOf];omega
    .obtain⟨c,bO⟩:=ex N.length;obtain⟨b,g4⟩:=ex (c+1);have g5:(N++ [(v,A)]).length=b:=by rw[aB,g4,bO];rfl
     have bP:=n.out;rw[g5]at bP hI ⊢;obtain⟨o,hpso,x,B⟩:=bP.2.2.2.2.1.ps;have C:((tsP o).map tmv).length=b:=by
      have:=congrArg List.length hpso;rw[g5]at this;unfold lP at this;unfold tsP;simpa using this
     obtain⟨go,_,rest,f1,f2,f3,f4,f5,f6⟩:=x.hold (by rw[C];omega);rw[C]at f1 f3 f5
     cases f1
     obtain⟨kC,d,g6,hO,g7,hP⟩:=TP hpso;have hR:(tsP kC).length=c:=by rw[bO,<-hO];unfold tsP lP;simp
     have g9:(tsP o)[c]? =some d.1:=by rw[g6,vR];exact wY hR.symm
     have gA:kY go rest wr (tsP o):=⟨nK _,f6⟩;have bR:=a8 (gA.at g9);have kD:Hid (∀q,Ext wr q->q.cell? (go,c*4)=some (.int .i64 v)):=a8 λq b7=>by rw[<-g7];exact bR.out q b7 0 _ rfl
     have kE:Hid (∀q,Ext wr q->∀(j:Nat) (i:Value),(#[d.1.b,(d.1.a1,d.1.n1,d.1.c1),(d.1.a2,d.1.n2,d.1.c2)]:Array Value)[j]? =some i->q.cell? (go,c*4+1+j)=some i):=a8 λq b7 j i p=>by
      match j,p with
      |0,p=>exact bR.out q b7 1 i p
      |1,p=>exact bR.out q b7 2 i p
      |2,p=>exact bR.out q b7 3 i p
      |j+3,p=>simp at p
     have gG:=B d (by rw[g6];simp);rw[hP]at gG;have hT:=a8 gG;have r:=a8 (aD hpso (aD B (aD bO (aD g4 (aD g9 g7)))));have U:=a8 (aD f2 (aD f3 (aD f4 (aD f5 gA))));have l7:go<wr.heap.size:=qJ f6;have hU:=a8 bP;have l9:(b:Int) - 1=(c:Int):=om;have lA:(0:Int)<(b:Int):=om;have lB:c<b:=om;have lC:(c:Int)<b:=om;obtain⟨bS,hV⟩:=ex ((v==xc):Bool);have bT:=a8 hV;clear hV bO g4 g5 bP hpso x B C f2 f3 f4 f5 f6 g6 hO g7 hP hR g9 gA gG;go_wp2_with fail;rw[<-eB];refine wpQ [b,true,true,(go,b,g),b,c,(go,c*4),(go,c*4),v,(wr,0),xc,bS,bS] [] [0,1,2,3,4,5,6,7,8,9,10,11,12] ?_ ?_
     .refine⟨oL,?_,oL,?_,?_,?_,?_,?_,?_,?_,?_,?_,oL,trivial⟩
      .intro f w6 hG hp hl;have hE:Ext X w6:=hG;have hS:=hE.size;have lD:=tE hp 0 0 rfl rfl rfl;simp only[kM];go_simp;first
       |exact ⟨_,rfl,rE,rfl⟩
       |exact ⟨_,rfl,rE,congrArg Value.bool (decide_eq_true om)⟩
      .exact zB7
      .exact zB7
      .intro f w6 hG hp hl;have hE:Ext X w6:=hG;have hS:=hE.size;have lE:=tE hp 0 4 rfl rfl rfl;have qg:=tE hp 1 2 rfl rfl rfl;change kM _ _ _ f w6 Ext _;refine m9 (j:=2) (want:=true) rfl qg ?_;exact mi3
      .intro f w6 hG hp hl;have lG:=tE hp 0 3 rfl rfl rfl;have m0:=tE hp 1 5 rfl rfl rfl;have qg:=tE hp 2 2 rfl rfl rfl;exact KR0
      .intro f w6 hG hp hl;have m1:=tE hp 0 6 rfl rfl rfl;have qg:=tE hp 1 2 rfl rfl rfl;exact KR0
      .intro f w6 hG hp hl;have hE:Ext X w6:=hG;have m2:=tE hp 0 7 rfl rfl rfl;have qg:=tE hp 1 2 rfl rfl rfl;change kM _ _ _ f w6 Ext _;refine m9 (j:=2) (want:=true) rfl qg ?_;have hcell:=kD.out _ (bE.trans hE);exact DG6
      .exact zB7
      .intro f w6 hG hp hl;have hE:Ext X w6:=hG;have m3:=tE hp 0 9 rfl rfl rfl;have qg:=tE hp 1 2 rfl rfl rfl;change kM _ _ _ f w6 Ext _;refine m9 (j:=2) (want:=true) rfl qg ?_;exact mM4
      .intro f w6 hG hp hl;have m4:=tE hp 0 8 rfl rfl rfl;have m5:=tE hp 1 10 rfl rfl rfl;have qg:=tE hp 2 2 rfl rfl rfl;change kM _ _ _ f w6 Ext _;refine m9 (j:=2) (want:=true) rfl qg ?_;simp only[kM];go_simp;first
       |exact ⟨_,rfl,rE,congrArg Value.bool bT.out.symm⟩
       |exact ⟨_,rfl,rE,congrArg Value.bool (by rw[bT.out];rfl)⟩
     .intro f w6 hG hp;have hE:Ext X w6:=mV.nil hG;have eC:f 12=bS:=rM hp 12 de rfl (λh=>by cases h);try simp only[eC]
      clear hp;have b6:=b5.ext hE;have E56:=bE.trans hE
      cases bS with
      |true=>
       have b8:v=xc:=by have:=bT.out;simpa using this.symm
       have c0:=a8 b8;have hW:go<w6.heap.size:=by have:=E56.size;omega
       clear b8;go_wp2_with fail;refine qZ go 14 99 (λ_ a7=>StT w6 go 0 c rest (tsP o) v (A+xq) ((a+1)*(k+1)) a7) [(go,b,g),b,c,(go,b,g),b,c,(go,c*4),(go,c*4+1),kL (.agg #[d.1.b,(d.1.a1,d.1.n1,d.1.c1),(d.1.a2,d.1.n2,d.1.c2)]),(wr,1),kL (.agg #[b',(a1,n1,c1),(a2,n2,c2)]),lV (A+xq) ((a+1)*(k+1)),(go,c*4),(go,c*4+1),kP] [] [14,13,12,11,10,9,8,7,6,5,4,3,2,1,0] kr kr (λf=>(by simp only[mJ,mO,aQ,aV,aZ,Nat.reduceAdd];rfl)) de (hW) (λZ hN bA h hp=>hp.ext h) (by intro bC hp;simp only[aS,bI,or_false]at hp;rcases hp with rfl |rfl |rfl |rfl |rfl |rfl |rfl |rfl |rfl |rfl |rfl |rfl |rfl |rfl |rfl<;>rfl) (λ_ _=>trivial) ?_ ?_ de
       .refine⟨oL,oL,?_,oL,oL,?_,?_,?_,?_,oL,?_,?_,?_,?_,?_,trivial⟩
        .intro f w7 hG hp hl;have hE:Ext w6 w7:=hG;have hS:=hE.size;have m6:f 1=b:=lO hp 0 1 rfl rfl;exact mi3
        .intro f w7 hG hp hl;have hE:Ext w6 w7:=hG;have hS:=hE.size;have m7:f 4=b:=lO hp 0 4 rfl rfl;exact mi3
        .intro f w7 hG hp hl;have m8:f 3=(go,b,g):=lO hp 0 3 rfl rfl;have mA:f 5=c:=lO hp 1 5 rfl rfl;exact DG6
        .intro f w7 hG hp hl;have mB:f 6=(go,c*4):=lO hp 0 6 rfl rfl;exact DG6
        .intro f w7 hG hp hl;have hE:Ext w6 w7:=hG;have kG:f 7=(go,c*4+1):=lO hp 0 7 rfl rfl;change kM _ _ _ f w7 Ext _;exact kW (P:=prog) _ _ go (c*4+1) _ _ rfl rfl kG (λj i h=>kE.out _ (E56.trans hE) j i h) underlying37 rfl kr rfl
        .intro f w7 hG hp hl;have hE:Ext w6 w7:=hG;have mC:f 9= .pointer (wr,1):=lO hp 0 9 rfl rfl;have hbx:=b6.ext hE;obtain⟨hcell0,hcell1,hcell2,hcell3,-⟩:=hbx.cl [0,1,2,3];exact DG6
        .intro f w7 hG hp hl;have hE:Ext w6 w7:=hG;have hS:=hE.size;have l0:f 8= .agg #[d.1.b,(d.1.a1,d.1.n1,d.1.c1),(d.1.a2,d.1.n2,d.1.c2)]:=lO hp 0 8 rfl rfl;have l1:f 10= .agg #[b',(a1,n1,c1),(a2,n2,c2)]:=lO hp 1 10 rfl rfl;change kM _ _ _ f w7 Ext _;refine oC #[f 8,f 10] func98 rfl rfl ?_;rw[l0,l1];refine(rP _ _ A xq (a*(k+1)) k _ ((hT.out.1.ext (E56.trans hE)).isR hT.out.2 (by have:=F.out;rw[mR];omega)) (HX.out.2.ext (E56.trans hE)) (by have:=F.out;omega)).mono ?_;rintro e w' ⟨v',rfl,h1,K,h2⟩;exact⟨v',rfl,h2,h1.mono hS,by have:=F.out;omega⟩
        .intro f w7 hG hp hl;have mD:f 0=(go,b,g):=lO hp 0 0 rfl rfl;have mE:f 2=c:=lO hp 1 2 rfl rfl;exact DG6
        .intro f w7 hG hp hl;have mG:f 12=(go,c*4):=lO hp 0 12 rfl rfl;exact DG6
        .intro f w7 hG hp hl;have hE:Ext w6 w7:=hG;have l2:f 13=(go,c*4+1):=lO hp 0 13 rfl rfl;have hX:=lO hp 1 11 rfl rfl;exact ag6 (P:=prog) w6 go 0 c rest (tsP o) v (A+xq) _ _ _ _ _ rfl rfl l2 rfl hX.1 hX.2 kr (U.out.2.2.2.2.ext (E56.trans hE)) d.1 r.out.2.2.2.2.1 r.out.2.2.2.2.2 hW
       .intro f w7 J y S hp;clear hp;have D:=YY r.out.1 r.out.2.1 E56 J ⟨_,(U.out.2.2.2.2.ext E56).2⟩ r.out.2.2.1 y (show m.heap.size<=w6.heap.size by have:=E.size;have:=E56.size;omega) U.out.1 (show a*(k+1)<=(a+1)*(k+1)by have:=F.out;omega) (by have:=U.out.2.1;omega) U.out.2.2.1 (by have:=U.out.2.2.2.1;have:=r.out.2.2.2.1;omega);have b1:Ext m w7:=(E.trans E56).step J U.out.1;rw[<-r.out.2.2.2.1,c0.out]at D;have gL:=hU.out;rw[c0.out]at gL;have b2:=a8 (gL.more e4.out HX.out.1 b1 D);have hY:(N++ [(xc,A+xq)]).length=b:=by rw[aB,r.out.2.2.2.1,r.out.2.2.1];rfl
        have hZ:=a8 hY;clear y S D gL hY;go_wp2;go_roundw
        case rel=>exact ⟨Y,N++ [(xc,A+xq)],some ⟨go,0,none⟩,g,bG,rfl,by rw[hZ.out],a8 (by have:=b2.out;rw[<-I.out]at this;rw[hZ.out];exact this)⟩
        case measure=>have:=I.out;simp[intOf];omega
      |false=>
       have b8:v≠xc:=by have:=bT.out;simpa using this.symm
       have c0:=a8 b8;have n:=hU;have l3:b=N.length+1:=by rw[r.out.2.2.2.1,r.out.2.2.1]
       clear b8;obtain⟨o,hpso,x,B⟩:=n.out.2.2.2.2.1.ps;have C:((tsP o).map tmv).length=b:=KE7;have a0:=a8 hpso;have eD:=a8 x;have eE:=a8 B;have O:=a8 C;obtain⟨Q,R,a3,a4⟩:=M8 x E56 b6;have a5:Q<w6.heap.size:=by obtain⟨k5,h1⟩:=R;exact qJ h1
       have eG:=a8 R;have a6:=a8 a3;have eN:=a8 a4;clear l3 hpso x B C R a3 a4;have k6:=E.size;have k7:=E56.size;go_wp2_with fail;refine qZ Q 8 9 (λi a7=>ApT m w6 (b) (xc) (xq) (tsP o) (go,b,g) i a7) [(go,b,g),(wr,0),xc,(wr,1),kL (.agg #[b',(a1,n1,c1),(a2,n2,c2)]),nC xq,zN (xc) (xq),xF (xc) (xq),kP,kP] [(0,9,2)] [8,7,6,5,4,3,2,1,0] kr kr (λf=>(by simp only[mJ,mO,aQ,aV,aZ,Nat.reduceAdd];rfl)) de (a5) (λZ hN bA h hp=>hp.ext h) (by intro bC hp;simp only[aS,bI,or_false]at hp;rcases hp with rfl |rfl |rfl |rfl |rfl |rfl |rfl |rfl |rfl |rfl<;>rfl) (λ_ _=>trivial) ?_ ?_ de
       .refine⟨?_,oL,?_,oL,?_,?_,?_,?_,?_,?_,trivial⟩
        .intro f w7 hG hp hl;have k8:f 9=(go,b,g):=hl.1 rfl;exact DG6
        .exact LF2
        .exact aw6
        .exact JU9
        .exact aX1
        .exact Kz6
        .intro f w7 hG hp hl;have hE:Ext w6 w7:=hG;have hS:=hE.size;have k9:f 0=(go,b,g):=lO hp 0 0 rfl rfl;have kA:=lO hp 1 7 rfl rfl;have fA:f 0=(go,b,g):=lO hp 0 0 rfl rfl;obtain⟨fB,tt,kB,fC,hbx,fD,fE⟩:=lO hp 1 7 rfl rfl;change kM _ _ _ f w7 (Chg Q) _;refine oI (P:=prog) _ _ 32 rfl rfl m 67 4 64 underlying32 kr kr om (go,b,g) (b) (kX ((tsP o).map tmv)) fA (by have:=(eD.out.ext (E56.trans hE)).2;rw[O.out]at this;exact this) ⟨fB,0,none⟩ 1 1 [tt.c,tt.b,(tt.a1,tt.n1,tt.c1),(tt.a2,tt.n2,tt.c2)] fC rfl (λj Z p=>by rw[nO,aY,hbx.cell];unfold tmv;simpa[Value.cells]using p) (by intro Z a9;simp at a9;rcases a9 with rfl |rfl |rfl |rfl<;>rfl) om (by unfold maxLen;omega) om (by have:=hE.size;omega) (λv' w' h1 h2 K=>⟨a6.out _ _ h2,LU (by have:=O.out;rw[aF]at this;exact this) h1 K hE.size fD (fE.chg (a6.out _ _ h2) a5)⟩)
        .exact QF5
       .intro f w7 J y S hp;clear hp;obtain⟨tt,l4,fG,T,g0,g1,g2,g3⟩:=id y;have b0:=(S de).trans T;have D:=SG a0.out eE.out E56 J eG.out (T▸y) (show m.heap.size<=w6.heap.size by omega) (show a*(k+1)<=(a+1)*(k+1)by have:=F.out;omega) (show szQ xq<=(a+1)*(k+1)by have:=HX.out.2.sz;have:=F.out;omega);have b1:Ext m w7:=(E.trans E56).step J (by rcases eN.out with⟨-,h⟩ |⟨-,h⟩<;>omega)
        have b2:=a8 (n.out.new e4.out HX.out.1 om (n.out.ne HX.out.1 c0.out) b1 D);have b3:Hid (((N++ [(v,A)])++ [(xc,xq)]).length=b+1):=a8 (by have:=O.out;have b4:=congrArg List.length a0.out;unfold tsP at this;unfold lP at b4;simp at this b4 ⊢ <;>omega)
        rw[b0];clear y S T g0 g1 g2 g3 D b0;go_wp2;go_roundw
        case rel=>exact ⟨Y,(N++ [(v,A)])++ [(xc,xq)],some ⟨l4,0,none⟩,fG,bG,rfl,by first |rfl |rw [b3.out],a8 (by have:=b2.out;rw[<-I.out]at this;rw[b3.out];exact this)⟩
        case measure=>have:=I.out;simp[intOf];omega
open Go.ChangeShapes Go.WideShapes Go.ChangeAt
theorem D4:szQ 0<=1:=by decide+kernel
theorem P4(b:Int)(c:Rat):∀a:List (Int×Rat),(DY b c a).length<=a.length+1
 | []=>by simp[DY]
 |x::a=>by
  unfold DY
  split
  .simp
  .split
   .simp
   .have:=P4 b c a;simp;omega
theorem AK(a:List (Int×Rat)):(mkV a).length<=a.length:=by
 have c:∀a:List (Int×Rat),(upV a).length<=a.length:=λa=>by
  induction a with
  |nil=>simp [upV]
  |cons b a d=>
   unfold upV;split
   .have:=P4 b.1 b.2 (upV a);simp;omega
   .simp;omega
 unfold mkV nz;exact aE (j9 ..) (c a)
theorem ah5(d:∀c∈b,szQ c.2<=a)(e:Int):szQ (sumAt b e)<=b.length*(a+1)+1:=by
 induction b with
 |nil=>simpa [sumAt]using D4
 |cons c b f=>
  have g:=f λh i=>d h (aN _ i)
  have j:=d c (aT ..);rw[bH,dT];unfold sumAt;split
  .have:=UO j g;omega
  .rw[gF];omega
theorem YV(d:∀e∈b,szQ e.2<=a)(c:Int):szQ (getV b c)<=b.length*(a+1)+1:=by
 unfold getV;split
 .exact ah5 d c
 .have:=D4;omega
theorem TL.szs{w:World}(e:TL a w c b):∀d∈b,szQ d.2<=a:=by
 intro d f;obtain⟨g,h,rfl⟩:=jQ f;obtain⟨_,_,_, -, -, -,i⟩:=e.at;obtain⟨_,_, -,_,_,_,_,_,_,_,j⟩:=i g _ (aA h);exact(j w (Ext.refl w)).2.2.2.2.sz
theorem QL.szs{w:World}(d:QL a w c C):∀b∈C,szQ b<=a:=by
 intro b e;obtain⟨f,g,rfl⟩:=jQ e;obtain⟨_,_,_, -, -, -,h⟩:=d.at;obtain⟨_,_, -,_,_,_,_,_,_,_, -,i⟩:=h f _ (aA g);exact i.sz
def AxF(w wr:World)(K:Nat)(ps:Ps):Prop:=∀p∈ps,IsR w (xP p.1) p.2 K∨(FrQ w wr (xP p.1) p.2/\szQ p.2<=K)
def AxJ(w wr:World)(K:Nat)(lv:Value)(m:List (Int×Rat)):Prop:=Ext w wr/\∃ps:Ps,LS 67 4 w wr lv ((tsP ps).map tmv)/\lP ps=m/\AxF w wr K ps
theorem AxJ.tl{w wr:World}{a:Nat}{c:Value}{d:List (Int×Rat)}(b:AxJ w wr a c d)(e:a<=LIM):TL a wr c d:=by
 obtain⟨f,ps,g,h,i⟩:=b;rw[<-h];refine LS.tl g λj l=> ?_
 rcases i j l with b |⟨m,n⟩
 .exact b.ext f
 .exact m.isR n e
theorem AxJ.app{w wr:World}(n:Ext w wr)(o:lP h=b)(p:AxF w wr a h)(j:Ext wr f)(k:Chg d f q)(t:∃l,Bx 67 f d l)(u:ApT w m r e g (tsP h) s c q)(v:w.heap.size<=m)(x:w.heap.size<=d)(y:szQ g<=a):AxJ w q a c (b++ [(e,g)]):=by
 obtain⟨z,_,_,_,A,B,C,_⟩:=u;obtain⟨l,D⟩:=t;refine⟨(n.trans j).step k x,h++ [(z,g)],by rw[vR];exact A,by rw[FN,o,B],λE i=> ?_⟩;rcases aW.1 i with i |i
 .rcases p E i with F |⟨f1,f2⟩
  .exact .inl F
  .exact .inr ⟨(f1.ext j).chgB k D de,f2⟩
 .rw[aC]at i;subst i;exact .inr ⟨C.mono v,y⟩
theorem wS(J K V k:Nat)(bP L u:Value)(g:Rat)(h i:List (Int×Rat))(w:World)(X:IsR w bP g J)(j:TL K w L h)(bR:TL V w u i)(h1:J+K<=k)(h2:V<=k)(bS:i.length+h.length<=1073741824)(bT:(i.length+h.length+1)*(k+1)<=34359738000):
  Calls prog 151 #[bP,L,u] w λe w'=>∃v',e= .returned v'/\TO w ((i.length+h.length)*(k+1)) w' v' (mkV (i++scV g h))/\Ext w w':=by
 obtain⟨_,v,_,Y,rfl,_,c0⟩:=j.at;obtain⟨o,Z⟩:=ex i.length;rw[<-Y,<-Z]at bS bT;have i4:k<=34359738000:=by
  have:1*(k+1)<=(o+v+1)*(k+1):=aJ _ om;omega
 obtain⟨x,y,A,d1,B,C,d2,rfl⟩:=X.parts;have c1:=a8 X;have g0:=a8 c0;have M:=a8 Y;have D:=a8 Z;have g1:=a8 bR;rw[<-M.out,<-D.out];clear X j bR c0 Y Z;obtain⟨q,c2,a0,c3,c4⟩:=kR w #[x,(y,A,d1),(B,C,d2)] 37;go_enter func151,ntmps151;go_wp2_with fail;rw[<-c2];refine(yZ V _ i q (g1.out.ext a0) (by rw[<-D.out];omega)).mono ?_;rintro e c5 ⟨_,a1,rfl,N,a2,c6,a3⟩;have c7:a1.length=o:=by rw[D.out,<-a2];unfold lP;simp
 have c8:((tsP a1).map tmv).length=o:=by unfold tsP;simp[c7]
 obtain⟨c9,e0,rfl, -⟩:=N.opn;rw[c8]at N ⊢;have e1:AxJ q c5 k (c9,o,e0) (i++scV g (h.take 0)):=⟨a3,a1,N,by rw[a2];simp[scV],λb a=> .inl ((c6 b a).mono h2)⟩;have a4:=a8 (aD e1 (c3.ext a3));have a5:=a8 a0;have i5:q.heap.size=w.heap.size+1:=c4;clear N a2 c6 c7 c8 e1 a3 c3 c2 c4 a0;go_wp2_with fail;go_loopw [7,14] (λg2 a6 wr=>∃(c b:Nat) (l:Option Addr) (m:Nat),c<=v/\a6= .int .i64 (c:Int)/\g2= .slice l b m/\Hid (b=o+c/\AxJ q wr k (.slice l b m) (i++scV g (h.take c))/\Bx 37 wr w #[x,(y,A,d1),(B,C,d2)])) (λ_ a6 _=>((v:Int) - intOf a6).toNat)
 case atStart=>exact ⟨0,o,c9,e0,zl,rfl,rfl,a8 ⟨rfl,a4.out⟩⟩
 case round=>
  obtain⟨c,b,l,m,g3,rfl,rfl,O⟩:=hrel;obtain⟨a7,⟨t,a9,Q,R,b0⟩,hbx⟩:=O.out;rcases aI g3 with b1 |b1
  .subst b1;have g4:¬((c:Int)<c):=om;have b2:=O.out.2.1;rw[show h.take c=h by rw[M.out,bN]]at b2;have e2:(i++scV g h).length=o+c:=by rw[aB,D.out,M.out];unfold scV;rw[aF]
   have b3:=a8 e2;have g5:=a8 b2;clear b2 e2 a7 R Q b0 O a4;go_wp2_with fail;refine(nF k _ _ wr (g5.out.tl lq) (by rw[b3.out];exact bS) (by rw[b3.out];exact bT)).mono ?_;rintro e _ ⟨_,rfl,b4,g6⟩;rw[b3.out]at b4;have g7:=a8 b4;clear b4;go_wp2;go_ret;exact⟨_,rfl,g7.out.mono (by have:=t.size;omega),(a5.out.trans t).trans g6⟩
  .have g4:(c:Int)<v:=om;obtain⟨S,T⟩:∃S,h[c]? =some S:=⟨_,aA (by rw[<-M.out];exact b1)⟩;obtain⟨_,_,rfl,b6,b7,b8,b9,bA,bB,bC,hcell⟩:=g0.out c S T;obtain⟨g9,gA,gG,gL,U⟩:=hcell wr (a5.out.trans t);obtain⟨p,r⟩:=S;simp only at g9 gA gG gL U;have e3:=a8 (aD T U);have e4:szQ (g*r)<=k:=by have:=N4 c1.out.sz U.sz;omega
   have gT:=a8 e4;obtain⟨n,e5,s,b5,_⟩:=kR wr #[p,b6,(b7,b8,b9),(bA,bB,bC)] 67;have h0:=(a5.out.trans t).trans s;have e6:((tsP a9).map tmv).length=b:=by
    have:=congrArg List.length R;have h2:=(aH.1 T).1;rw[aB]at this;unfold lP scV at this;unfold tsP;simp at this ⊢;have:=D.out;omega
   obtain⟨E,e7⟩:=ex (c+1);have i6:(c:Int)+1=(E:Int):=om;have h4:E<=v:=om;obtain⟨e8,e9⟩:=ex (b+1);have F:=a8 (aD e7 (aD e9 a7));have i7:b<=1073741824:=om;have h5:=a8 R;have h6:=a8 b0;have j0:=t.size;have j1:=s.size;have eA:=hbx.ext s;clear T U hcell e7 e9 a7 R e4 b0 a4 hbx;have h7:=a8 Q;have eB:=a8 e6;obtain⟨bD,bE,eC,eD⟩:=M8 Q s b5;have eE:bD<n.heap.size:=by obtain⟨_,h1⟩:=bE;exact qJ h1
   have h8:=a8 bE;have eG:=a8 eC;have eN:=a8 eD;clear e6 bE eC eD;clear Q O;go_wp2_with fail;rw[<-e5];clear e5;refine qZ bD 9 10 (λL h9=>ApT q n b (p) (g*r) (tsP a9) (l,b,m) L h9) [(l,b,m),(wr,0),p,kL (.agg #[x,(y,A,d1),(B,C,d2)]),(wr,1),kL (.agg #[b6,(b7,b8,b9),(bA,bB,bC)]),lV (g*r) (J+K),zN (p) (g*r),xF (p) (g*r),kP,kP] [(0,10,7)] [9,8,7,6,5,4,3,2,1,0] kr kr (λf=>(by simp only[mJ,mO,aQ,aV,aZ,Nat.reduceAdd];rfl)) de (eE) (λu q c5 I a=>a.ext I) (by intro b a;simp only[aS,bI,or_false]at a;rcases a with rfl |rfl |rfl |rfl |rfl |rfl |rfl |rfl |rfl |rfl |rfl<;>rfl) (λ_ _=>trivial) ?_ ?_ de
   .refine⟨?_,oL,?_,?_,oL,?_,?_,?_,?_,?_,?_,trivial⟩
    .intro f w7 d a j;have j2:f 10=(l,b,m):=j.1 rfl;exact DG6
    .intro f w7 d a j;have hE:Ext n w7:=d;have j3:f 1= .pointer wr.heap.size:=lO a 0 1 rfl rfl;exact mM4
    .intro f w7 d a j;have hE:Ext n w7:=d;change kM _ _ _ f w7 Ext _;exact kZ (P:=prog) _ _ w _ _ _ rfl rfl rfl (eA.ext hE) underlying37 rfl kr rfl
    .intro f w7 d a j;have hE:Ext n w7:=d;have j4:f 4= .pointer (wr,1):=lO a 0 4 rfl rfl;exact Ym1
    .intro f w7 d a j;have hE:Ext n w7:=d;have hS:=hE.size;have hA:f 3= .agg #[x,(y,A,d1),(B,C,d2)]:=lO a 0 3 rfl rfl;have hB:f 5= .agg #[b6,(b7,b8,b9),(bA,bB,bC)]:=lO a 1 5 rfl rfl;change kM _ _ _ f w7 Ext _;refine oC #[f 3,f 5] func152 rfl rfl ?_;rw[hA,hB];refine(vQ _ _ g r J K _ (c1.out.ext (h0.trans hE)) (e3.out.2.ext (s.trans hE)) om).mono ?_;exact pF5
    .intro f w7 d a j;have j5:f 2=p:=lO a 0 2 rfl rfl;have hC:=lO a 1 6 rfl rfl;obtain⟨hD,hG,hH,hI,hJ,hK,hL,tv,tq⟩:=FrQ.opn (hC.1);change kM _ _ _ f w7 Ext _;simp only[kM];go_simp;exact⟨_,rfl,rE,⟨p,hD,hG,hH,hI,hJ,hK,hL⟩,rfl,rfl,tq⟩
    .intro f w7 d a j;have hE:Ext n w7:=d;have hS:=hE.size;have hM:=lO a 0 7 rfl rfl;obtain⟨tt,tv,tc,tq⟩:=hM;exact CO8
    .intro f w7 d a j;have hE:Ext n w7:=d;have hS:=hE.size;have j6:f 0=(l,b,m):=lO a 0 0 rfl rfl;have jA:=lO a 1 8 rfl rfl;have hN:f 0=(l,b,m):=lO a 0 0 rfl rfl;obtain⟨hO,tt,_,hP,hbx,hR,hT⟩:=lO a 1 8 rfl rfl;change kM _ _ _ f w7 (Chg bD) _;refine oI (P:=prog) _ _ 32 rfl rfl q 67 4 64 underlying32 kr kr om (l,b,m) b (kX ((tsP a9).map tmv)) hN (by have:=(h7.out.ext (s.trans hE)).2;rw[eB.out]at this;exact this) ⟨hO,0,none⟩ 1 1 [tt.c,tt.b,(tt.a1,tt.n1,tt.c1),(tt.a2,tt.n2,tt.c2)] hP rfl (λ_ u hU=>by rw[nO,aY,hbx.cell];unfold tmv;simpa[Value.cells]using hU) (by intro u fA;simp at fA;rcases fA with rfl |rfl |rfl |rfl<;>rfl) om (by unfold maxLen;omega) om (by have:=hE.size;omega) (λv' w' h1 h2 h3=>⟨eG.out _ _ h2,LU (by have:=eB.out;rw[aF]at this;exact this) h1 h3 hE.size hR (hT.chg (eG.out _ _ h2) eE)⟩)
    .intro f w7 d a j;have hS:n.heap.size<=w7.heap.size:=Chg.size d;exact jw6
   .intro f w7 fB bG fC a;clear a;obtain⟨tt,go,hV,bO,hW,hX,hY,hZ⟩:=id bG;have fD:=(fC de).trans bO;have fE:=AxJ.app t h5.out h6.out s fB h8.out (bO▸bG) om (by rcases eN.out with⟨-,I⟩ |⟨-,I⟩<;>omega) gT.out
    have i0:=a8 fE;have i1:Bx 37 w7 w #[x,(y,A,d1),(B,C,d2)]:=fB.blk eA (by rcases eN.out with⟨-,I⟩ |⟨-,I⟩<;>omega)
    have fG:i++scV g (h.take E)=i++scV g (h.take c)++ [(p,g*r)]:=by
     rw[F.out.1,(vJ e3.out.1).1];unfold scV;rw[bY,aG];rfl
    have i2:=a8 fG;have i3:e8=o+E:=by have:=F.out;omega
    rw[fD];clear bG fC bO hW hX hY hZ fE fD fG;rw[<-F.out.2.1];go_wp2;go_roundw
    case rel=>exact ⟨E,e8,some ⟨go,0,none⟩,hV,h4,rfl,rfl,a8 ⟨i3,by rw[i2.out,F.out.2.1];exact i0.out,i1⟩⟩
    case measure=>have:=F.out;simp[intOf];omega
abbrev RE:=Bool×List Nat×List Nat
abbrev TE:=Int×RE
def TmE(w:World)(v:Value)(e:TE):Prop:=∃b a1 n1 c1 a2 n2 c2,v= .agg #[e.1,.bool b,.slice a1 n1 c1,.slice a2 n2 c2]/\o9 w (.agg #[.bool b,.slice a1 n1 c1,.slice a2 n2 c2]) e.2
theorem TmE.ext{w:World}{a:TE}(h:TmE w c a)(he:Ext w f):TmE f c a:=by
 exact pP6
def TLE(w:World)(u:Value)(l:List TE):Prop:=SL 4 TmE w u l
theorem TLE.ext{w b:World}{c:Value}{d:List TE}(a:TLE w c d)(e:Ext w b):TLE b c d:=SL.ext (λ_ _ a=>a.ext e) a e
variable{z:List TE}
theorem TLE.at{w:World}(s:TLE w u z):∃c b h,b=z.length/\u= .slice c b h/\b<=9223372036854775807/\∀(i:Nat) (a:TE),z[i]? =some a->∃d e,c=some ⟨d,e,none⟩/\∃j k f l m g n,f=a.2.2.1.length/\g=a.2.2.2.length/\
  (∀o,Ext w o->∀(p:Nat) (q:Value),(#[a.1,.bool j,.slice k f l,.slice m g n]:Array Value)[p]? =some q->o.cell? ⟨d,e+i*4+p,none⟩=some q)/\o9 w (.agg #[.bool j,.slice k f l,.slice m g n]) a.2:=by
 obtain⟨c,b,h,t,v,x,y⟩:=s.opn;refine⟨c,b,h,t,v,x,λi a A=> ?_⟩;obtain⟨d,e,B,_,_,C,j,k,f,l,m,g,n,D,r⟩:=y i a A
 cases D
 obtain⟨_,_,d1,_,_,d2,E,F,I⟩:=xH.opn2 r.1
 cases I
 exact⟨d,e,B,_,_,_,_,_,_,_,E,F,C,r⟩
theorem GB{w:World}{i h:Value}(j:∀f,Ext w f->∀(b:Nat) (g:Value),(#[i,c,s,h]:Array Value)[b]? =some g->f.cell? (a,d+b)=some g):∀f,Ext w f->∀(b:Nat) (g:Value),(#[c,s,h]:Array Value)[b]? =some g->f.cell? (a,d+1+b)=some g:=by
 intro f k b g e;have:=j f k (1+b) g (by
  match b,e with
  |0,e=>exact e
  |1,e=>exact e
  |2,e=>exact e
  |b+3,e=>simp at e)
 rwa [<-gH]at this
theorem TLE.tl{w:World}(h:TLE w c z)(k:Nat)(i:1<=k)(j:k<=LIM)(l:∀a∈z,a.2.2.1.length+a.2.2.2.length<=k):TL k w c (z.map λa=>(a.1,pX a.2)):=by
 obtain⟨m,n,o,p,q,d⟩:=h;refine⟨m,n,by rw[aF];exact o,by rw[aF];exact p,q,?_⟩;rcases d with d |⟨r,s,d,t⟩
 .exact .inl (by rw[d];rfl)
 .refine .inr ⟨r,s,d,λg _ b=> ?_⟩;rw[aX]at b
  cases e:z[g]? with
  |none=>rw [e]at b;cases b
  |some a=>
   rw[e]at b;simp only[Option.map_some,Option.some.injEq]at b;subst b;obtain⟨u,v,x,y,A,C,D,E,F,I,J,f⟩:=t g a e;have:=l a (aM e);exact⟨u,v,x,y,A,C,D,E,F,I,J,f.1.isR f.2.1 f.2.2.1 k om om i j⟩
def fmQ(q:Rat):RE:=(decide (q.num<0),dg W q.num.natAbs,dg W q.den)
def fmV(m:List (Int×Rat)):List TE:=m.map λx=>(x.1,fmQ x.2)
theorem FrQ.rawE{w:World}(d:FrQ a w c g)(e:szQ g<=LIM):o9 w c (fmQ g):=by
 refine⟨d.raw,(nQ lF _).1,(nQ lF _).1,?_⟩;have b:=fH.1 e;have f:(dg W g.num.natAbs).length<=LIM:=b.1;have h:(dg W g.den).length<=LIM:=b.2;rw[mR]at f h;show(dg W g.num.natAbs).length+(dg W g.den).length<=_;omega
theorem TO.tle{w:World}(r:TO d a w c b)(I:a<=LIM):TLE w c (fmV b):=by
 obtain⟨m,s,k,t⟩:=r;obtain⟨v,x,f,n,y, -⟩:=k.opn;have z:(m.map tmv).length=(fmV b).length:=by unfold fmV;simp[s]
 rw[z]at f n;refine⟨v,x,f,n,y,?_⟩;rcases aR (fmV b).length with o |o
 .exact .inl (aL o)
 .obtain⟨A,_,rest,f1,f2, -⟩:=k.hold om;rw[f]at f1;simp only[Value.slice.injEq]at f1;obtain⟨f1, -, -⟩:=f1;refine .inr ⟨A,0,f1,λg _ e=> ?_⟩;unfold fmV at e;rw[aX]at e
  cases h:b[g]? with
  |none=>rw [h]at e;cases e
  |some B=>
   rw[h]at e;simp only[Option.map_some,Option.some.injEq]at e;subst e;obtain⟨i,p⟩:∃i,m[g]? =some i:=⟨_,aA (by have:=(aH.1 h).1;omega)⟩;obtain⟨C,D,_⟩:=t g i B p h;obtain⟨_,_,l,_,E,q,F,_,j6⟩:=k.at om (i:=g) (u:=tmv i) (by rw[aX,p];rfl);rw[f]at l;simp only[Value.slice.injEq,f1,Option.some.injEq,Addr.mk.injEq]at l;obtain⟨⟨rfl, -⟩, -⟩:=l;refine⟨E,F,λj u hj=> ?_,?_⟩
   .exact Tk6
   .unfold tmv at q
    cases q
    exact⟨_,_,_,_,_,_,_,by rw[C],D.rawE om⟩
def OL{α:Type}(t:TypeId)(n B:Nat)(R:World->Value->α->Prop)(w:World)(v:Value)(ys:List α):Prop:=∃vs,LS t n B w v vs/\vs.length=ys.length/\∀(i:Nat) (u:Value) (y:α),vs[i]? =some u->ys[i]? =some y->R w u y
theorem LS.ge{w:World}(e:LS o d a w c j):∀b,c.ownBlock=some b->a<=b:=by
 intro b hg;rcases e.2.2 with⟨h1,h2⟩ |⟨_,_,_,h1,h2,_,_⟩
 .rw[h1]at hg
  cases hg
 .exact LA6
theorem OL.nil{a:Type}(b:TypeId)(c d:Nat)(e:World->Value->a->Prop)(w:World):OL b c d e w () []:=⟨[],LS.nil _ _ _ _,rfl,λ_ _ _ f=>by simp at f⟩
theorem OL.ext{d:Type}{e:TypeId}{f g:Nat}{R:World->Value->d->Prop}{w c:World}{h:Value}{i:List d}(j:OL e f g R w h i)(k:Ext w c)(l:∀a b,R w a b->R c a b):OL e f g R c h i:=by
 obtain⟨m,n,o,p⟩:=j;exact⟨m,n.ext k,o,λq a b r s=>l a b (p q a b r s)⟩
theorem OL.app{k:World->Value->t->Prop}{w:World}{l:List t}{b:Value}{e:t}(n:j.length=l.length)(q:∀(h:Nat) (b:Value) (e:t),j[h]? =some b->l[h]? =some e->k w b e)(r:LS o a d f c (j++ [b]))(s:∀b e,k w b e->k f b e)(u:k f b e):OL o a d k f c (l++ [e]):=by
 refine⟨_,r,by simp[n],λh v x g i=> ?_⟩;rcases dH h j.length with m |m
 .rw[bM m]at g;rw[bM om]at i;exact s _ _ (q h v x g i)
 .rw[cB m]at g;rw[cB om,<-n]at i
  cases p:h - j.length with
  |zero=>
   rw[p]at g i;simp at g i;subst g i;exact u
  |succ y=>rw [p]at g;simp at g
theorem OL.sl{R:World->Value->t->Prop}{w:World}{e:List t}(n:OL o a d R w c e)(p:0<a):SL a R w c e:=by
 obtain⟨q,f,r,s⟩:=n;obtain⟨u,v,b,i,x, -⟩:=f.opn;rw[r]at b i;refine⟨u,v,b,i,x,?_⟩;rcases aR e.length with j |j
 .exact .inl (aL j)
 .obtain⟨y,_,rest,f1,f2, -⟩:=f.hold om;rw[b]at f1;simp only[Value.slice.injEq]at f1;obtain⟨f1, -, -⟩:=f1;refine .inr ⟨y,0,f1,λk z l=> ?_⟩;obtain⟨g,m⟩:∃g,q[k]? =some g:=⟨_,aA (by have:=(aH.1 l).1;omega)⟩;obtain⟨_,_,h,_,A,B,C,_,D⟩:=f.at p m;rw[b]at h;simp only[Value.slice.injEq,f1,Option.some.injEq,Addr.mk.injEq]at h;obtain⟨⟨rfl, -⟩, -⟩:=h;refine⟨A,C,λE F I=> ?_,B▸s k g z m l⟩;rw[aY];exact(D w (Ext.refl w) E F I).1
theorem SL.map{e f:World->Value->t->Prop}{w:World}{g:List t}(i:SL a e w c g)(j:∀h d,e w h d->f w h d):SL a f w c g:=by
 obtain⟨k,l,m,n,o,b⟩:=i;refine⟨k,l,m,n,o,?_⟩;rcases b with b |⟨p,q,b,r⟩
 .exact .inl b
 .exact .inr ⟨p,q,b,λs d u=>(let ⟨v,x,y,z⟩:=r s d u;⟨v,x,y,j _ _ z⟩)⟩
theorem F5(p P:Value)(l m:List TE)(w:World)(Q:TLE w p l)(R:TLE w P m):
  Calls prog 35 #[p,P] w λS T=>S= .returned (.bool (decide (l=m)))/\Ext w T:=by
 obtain⟨_,b,A,U,rfl,_,V⟩:=Q.at;obtain⟨_,t,B,X,rfl,_,Y⟩:=R.at;have u:=a8 U;have C:=a8 X;have b1:=a8 V;have b2:=a8 Y;clear U X V Y Q R;go_enter func35,ntmps35;by_cases Z:b=t
 .subst Z;have r:¬((b:Int)≠b):=sm;go_wp2_with fail;go_loopw [5] (λn wr=>∃a:Nat,a<=b/\n= .int .i64 (a:Int)/\Hid (l.take a=m.take a)/\Ext w wr) (λn _=>((b:Int) - intOf n).toNat)
  case atStart=>exact ⟨0,zl,rfl,a8 rfl,rE⟩
  case round=>
   obtain⟨a,b3,rfl,a0,hE0⟩:=hrel;rcases aI b3 with v |v
   .subst v;have b4:¬((a:Int)<a):=om;have e:l=m:=by have:=a0.out;rwa [u.out,bN,<-u.out,C.out,bN]at this
    have HR:=a8 (decide_eq_true e);clear e;exact Dp3
   .have b4:(a:Int)<b:=om;obtain⟨⟨s,b5⟩,D⟩:∃E,l[a]? =some E:=⟨_,aA (by rw[<-u.out];exact v)⟩;obtain⟨⟨F,b6⟩,I⟩:∃E,m[a]? =some E:=⟨_,aA (by rw[<-C.out];exact v)⟩;obtain⟨g,h,rfl,b7,b8,b9,bA,bB,t,bC, -, -,x,J⟩:=b1.out a _ D;obtain⟨i,k,rfl,bD,bE,bG,bO,bP,bR,bS, -, -,y,K⟩:=b2.out a _ I;simp only at x J y K;have bT:=a8 (GB x);have c0:=a8 (GB y);have HC0:Hid (∀o,Ext w o->o.cell? (g,h+a*4)=some (.int .i64 s)):=a8 λo r=>x o r 0 _ rfl
    have HC0':Hid (∀o,Ext w o->o.cell? (i,k+a*4)=some (.int .i64 F)):=a8 λo r=>y o r 0 _ rfl
    have HR:=a8 J;have c1:=a8 K;have q:=a8 (aD D I);obtain⟨a1,a2,a3⟩:=b5;obtain⟨a4,a5,a6⟩:=b6;clear x y J K D I;by_cases z:s=F
    .subst z;obtain⟨n,a7⟩:=ex (decide ((a1=a4/\a2=a5)/\a3=a6):Bool);have L:=a8 a7;clear a7;go_wp2_with fail;refine wpQ [(g,h,b,A),a,(g,h+a*4),(g,h+a*4),s,(i,k,b,B),a,(i,k+a*4),(i,k+a*4),s,false,false,(g,h,b,A),a,(g,h+a*4),(g,h+a*4+1),kL (.agg #[b7,(b8,b9,bA),(bB,t,bC)]),(i,k,b,B),a,(i,k+a*4),(i,k+a*4+1),kL (.agg #[bD,(bE,bG,bO),(bP,bR,bS)]),n,kL (.bool (!n)),kL (.bool (!n))] [] [0,1,2,3,4,5,6,7,8,9,10,11,12,13,14,15,16,17,18,19,20,21,22,23,24] ?_ ?_
     .refine⟨oL,oL,oL,oL,?_,oL,oL,oL,oL,?_,?_,oL,?_,?_,?_,?_,?_,?_,?_,?_,?_,?_,?_,?_,oL,trivial⟩
      .exact yG2
      .exact zf1
      .intro f w6 hG hp hl;have c2:=tE hp 0 4 rfl rfl rfl;have c3:=tE hp 1 9 rfl rfl rfl;simp only[kM];go_simp;first
       |exact ⟨_,rfl,rE,rfl⟩
       |exact ⟨_,rfl,rE,congrArg Value.bool sm⟩
      .exact Sy5
      .exact Sy5
      .intro f w6 hG hp hl;have c9:=tE hp 0 12 rfl rfl rfl;have e0:=tE hp 1 13 rfl rfl rfl;exact cI0
      .intro f w6 hG hp hl;have e1:=tE hp 0 14 rfl rfl rfl;exact qy3
      .intro f w6 hG hp hl;have hE:Ext wr w6:=hG;have c4:=tE hp 0 15 rfl rfl rfl;have qg:=tE hp 1 11 rfl rfl rfl;change kM _ _ _ f w6 Ext _;refine m9 (j:=11) (want:=false) rfl qg ?_;exact kW (P:=prog) _ _ g (h+a*4+1) _ _ rfl rfl c4 (λj p c=>bT.out _ (hE0.trans hE) j p c) underlying37 rfl kr rfl
      .exact Sy5
      .exact Sy5
      .intro f w6 hG hp hl;have e2:=tE hp 0 17 rfl rfl rfl;have e3:=tE hp 1 18 rfl rfl rfl;exact cI0
      .intro f w6 hG hp hl;have e4:=tE hp 0 19 rfl rfl rfl;exact qy3
      .intro f w6 hG hp hl;have hE:Ext wr w6:=hG;have c5:=tE hp 0 20 rfl rfl rfl;have qg:=tE hp 1 11 rfl rfl rfl;change kM _ _ _ f w6 Ext _;refine m9 (j:=11) (want:=false) rfl qg ?_;exact kW (P:=prog) _ _ i (k+a*4+1) _ _ rfl rfl c5 (λj p c=>c0.out _ (hE0.trans hE) j p c) underlying37 rfl kr rfl
      .intro f w6 hG hp hl;have hE:Ext wr w6:=hG;have c6:=tE hp 0 16 rfl rfl rfl;have c7:=tE hp 1 21 rfl rfl rfl;have qg:=tE hp 2 11 rfl rfl rfl;change kM _ _ _ f w6 Ext _;refine m9 (j:=11) (want:=false) rfl qg ?_;change kM _ _ _ f w6 Ext _;refine oC #[f 16,f 21] func24 rfl rfl ?_;rw[c6,c7];refine(sK _ _ a1 a4 a2 a3 a5 a6 _ ((HR.out.1).ext (hE0.trans hE)) ((c1.out.1).ext (hE0.trans hE))).mono ?_;rintro S T ⟨rfl,d⟩;exact⟨_,rfl,d,congrArg Value.bool L.out.symm⟩
      .intro f w6 hG hp hl;have e5:=tE hp 0 22 rfl rfl rfl;exact qy3
     .intro f w6 hG hp;have hE:Ext wr w6:=mV.nil hG;have M:f 24= .bool (!n):=rM hp 24 de rfl (λc=>by cases c);try simp only[M]
      clear hp
      cases n with
      |true=>
       have a9:l.take (a+1)=m.take (a+1):=by
        have N:=L.out;have d:=of_decide_eq_true N.symm;rw[cE,cE,q.out.1,q.out.2,a0.out,d.1.1,d.1.2,d.2]
       have c8:=a8 a9;clear a9;go_wp2;go_roundw
       case rel=>exact ⟨a+1,om,ci om,c8,hE0.trans hE⟩
       case measure=>simp [intOf];omega
      |false=>
       have e:l≠m:=λc=>by
        have N:=of_decide_eq_false L.out.symm;have d:=q.out.1.symm.trans ((congrArg (λO=>O[a]?) c).trans q.out.2);simp only[Option.some.injEq,Prod.mk.injEq,true_and]at d;exact N ⟨⟨d.1,d.2.1⟩,d.2.2⟩
       have HR:=a8 (decide_eq_false e);clear e;go_wp2;go_ret;exact⟨by rw[HR.out]<;>rfl,hE0.trans hE⟩
    .have e:l≠m:=λc=>by
      have d:=q.out.1.symm.trans ((congrArg (λO=>O[a]?) c).trans q.out.2);simp only[Option.some.injEq,Prod.mk.injEq]at d;exact z d.1
     have HR:=a8 (decide_eq_false e);have b0:=a8 z;clear e z;go_wp2_with fail;refine wpQ [(g,h,b,A),a,(g,h+a*4),(g,h+a*4),s,(i,k,b,B),a,(i,k+a*4),(i,k+a*4),F,true,true,kP,kP,kP,kP,kP,kP,kP,kP,kP,kP,kP,kP,true] [] [0,1,2,3,4,5,6,7,8,9,10,11,12,13,14,15,16,17,18,19,20,21,22,23,24] ?_ ?_
     .refine⟨oL,oL,oL,oL,?_,oL,oL,oL,oL,?_,?_,oL,?_,?_,?_,?_,?_,?_,?_,?_,?_,?_,?_,?_,oL,trivial⟩
      .exact yG2
      .exact zf1
      .intro f w6 hG hp hl;have c2:=tE hp 0 4 rfl rfl rfl;have c3:=tE hp 1 9 rfl rfl rfl;have e6:=b0.out;simp only[kM];go_simp;first
       |exact ⟨_,rfl,rE,rfl⟩
       |exact ⟨_,rfl,rE,congrArg Value.bool (by simp[b0.out])⟩
      .exact Op8
      .exact Op8
      .exact jZ0
      .exact BZ3
      .exact BZ3
      .exact Op8
      .exact Op8
      .exact jZ0
      .exact BZ3
      .exact BZ3
      .exact jZ0
      .exact BZ3
     .intro f w6 hG hp;have hE:Ext wr w6:=mV.nil hG;have M:f 24=true:=rM hp 24 de rfl (λc=>by cases c);try simp only[M]
      clear hp;go_wp2;go_ret;exact⟨by rw[HR.out]<;>rfl,hE0.trans hE⟩
 .have e:l≠m:=λc=>Z (by rw[u.out,C.out,c])
  have r:(b:Int)≠t:=om;have HR:=a8 (decide_eq_false e);clear e;exact LY0
def sF:List Nat->Bool
 | []=>true
 | [x]=>decide (x<65536)
 |_=>false
def mH(e:RE):Nat:=e.2.1.length+e.2.2.length
def uL(e:RE):Nat:=if sF e.2.1&&sF e.2.2 then 0 else mH e
def lQ:List RE->Nat
 | []=>0
 |e::l=>uL e+lQ l
theorem ND(a:List RE)(b:RE):lQ (a++ [b])=lQ a+uL b:=by
 induction a with
 |nil=>simp [lQ]
 |cons d a c=>simp only[eR,lQ,c];omega
theorem VM(a:RE):uL a<=mH a:=by unfold uL;split<;>omega
def oU(l:List RE):Bool:=l.any (λe=>decide (6<mH e)) || (decide (30<l.length) || decide (18<lQ l))
variable{l:List RE}
theorem tU(a:oU l=false):l.length<=30/\∀b∈l,mH b<=6:=by
 unfold oU at a;simp only[eH,decide_eq_false_iff_not,fS,decide_eq_true_eq]at a;exact⟨om,λb c=>by have:=a.1 b c;omega⟩
theorem CN{e:RE}(a:l[i]? =some e)(b:6<mH e):oU l=true:=by
 unfold oU;have:l.any (λe=>decide (6<mH e))=true:=fM.2 ⟨e,aM a,by simpa using b⟩;rw[this];rfl
theorem EH{a:List RE}(c:∀b∈a,mH b<=6):oU a=(decide (30<a.length) || decide (18<lQ a)):=by
 unfold oU;have:a.any (λb=>decide (6<mH b))=false:=fS.2 λb d=>by have:=c b d;simp;omega
 rw[this];rfl
def nU(l:List TE):Bool:=oU (l.map Prod.snd)
theorem wJ(i:Value)(d:List Nat)(w:World)(l:IsL .u64 w i d)(c:Dig W d):
  Calls prog 74 #[i] w λm n=>m= .returned (.bool (sF d))/\Ext w n:=by
 obtain⟨_,_,rfl,e,_,b⟩:=l;match d,e,b,c with
 | [],e,b,c=>
  simp only[cQ];go_enter func74,ntmps74;go_wp2;go_ret;exact⟨rfl,rE⟩
 | [a],e,b,c=>
  obtain⟨_,_,rfl,j⟩:=b.at (by simp[mK]);have o:=j 0 _ (mM .u64 [a] 0 sm);simp only[bH,cQ,aY];have p:a<W:=c a sm;rw[lX]at p;clear j b c;simp at o;go_enter func74,ntmps74;by_cases k:a<65536
  .have h:(a:Int)<65536:=om;have HR:Hid (sF [a]=true):=a8 (decide_eq_true k);exact LY0
  .have h:¬(a:Int)<65536:=om;have HR:Hid (sF [a]=false):=a8 (decide_eq_false k);exact LY0
 |a::y::r,e,b,c=>
  obtain⟨f,g⟩:=ex ((a::y::r).length);have q:(f:Int)≠0:=by rw[g];simp only[bH];omega
  have h:(f:Int)≠1:=by rw[g];simp only[bH];omega
  have HR:Hid (sF (a::y::r)=false):=a8 rfl;have:((f:Int)==0)=false:=by simpa using q
  have:((f:Int)==1)=false:=by simpa using h
  rw[<-g];clear g b;go_enter func74,ntmps74;exact LY0
theorem tO(O:Value)(b:List RE)(w:World)(p:SLQ w O b)(a6:b.length<=30)(a7:∀i∈b,mH i<=6):
  Calls prog 27 #[O] w λi a9=>i= .returned (lQ b:Int)/\Ext w a9:=by
 obtain⟨_,q,_,x,rfl,_,P⟩:=p.at;rw[<-x]at a6;have Q:=a8 x;have b0:=a8 P;clear x P p;go_enter func27,ntmps27;go_wp2_with fail;go_loopw [3,4] (λb1 y wr=>∃a c:Nat,a<=q/\y= .int .i64 (a:Int)/\b1= .int .i64 (c:Int)/\c<=6*a/\Hid (c=lQ (b.take a))/\Ext w wr) (λ_ y _=>((q:Int) - intOf y).toNat)
 case atStart=>exact ⟨0,0,zl,rfl,rfl,zl,a8 rfl,rE⟩
 case round=>
  obtain⟨a,c,b2,rfl,rfl,_,R,r⟩:=hrel;rcases aI b2 with z |z
  .subst z;have b3:¬((a:Int)<a):=om;have S:c=lQ b:=by have:=R.out;rwa [Q.out,bN]at this
   have b4:=a8 S;clear S;go_wp2;go_ret;exact⟨by rw[b4.out]<;>rfl,r⟩
  .have b3:(a:Int)<q:=om;obtain⟨⟨s,d,e⟩,t⟩:∃b5,b[a]? =some b5:=⟨_,aA (by rw[<-Q.out];exact z)⟩;obtain⟨_,_,rfl,_,_,_,_,_,_,_, -, -,A⟩:=b0.out a _ t;have T:d.length+e.length<=6:=a7 _ (aM t);have B:lQ (b.take (a+1))=lQ (b.take a)+uL (s,d,e):=by rw[cE,t];exact ND _ _
   rw[<-R.out]at B;have C:=a8 B;obtain⟨_,_,_,b6⟩:=A wr r;have HC:=a8 A;have D:=a8 T;obtain⟨⟨_,_,p,U,V⟩,X,Y, -⟩:=b6
   cases p
   have u:=a8 (aD U (aD V (aD X Y)));clear t A B U V X Y T;have Z:(uL (s,d,e))=if sF d&&sF e then 0 else d.length+e.length:=rfl
   have E:=a8 Z;clear Z;obtain⟨b7,a0⟩:=ex (sF d);obtain⟨b8,a1⟩:=ex (sF e);have j:=a8 (aD a0 a1);obtain⟨f,a2⟩:=ex (a+1);have bE:(a:Int)+1=(f:Int):=om;have F:f<=q:=om;have k:=a8 a2;obtain⟨I,J⟩:=ex (d.length+e.length);obtain⟨g,a3⟩:=ex (c+I);have bG:I<=6:=by rw[J];exact D.out
   have bO:(c:Int)+I=(g:Int):=om;have a4:g<=6*f:=om;have b9:c<=6*f:=om;have bP:IntKind.i64.wrap (g:Int)=g:=cC _ ⟨om,om⟩;have l:=a8 (aD J a3);clear a0 a1 a2 J a3;go_wp2_with fail;refine(wJ _ d wr u.out.1 u.out.2.2.1).mono ?_;rintro i v ⟨rfl,K⟩;rw[<-j.out.1];obtain⟨_,_,_, -⟩:=HC.out v (r.trans K);have m:=r.trans K
   cases b7 with
   |true=>
    go_wp2_with fail;refine(wJ _ e v (u.out.2.1.ext K) u.out.2.2.2).mono ?_;rintro i a5 ⟨rfl,L⟩;rw[<-j.out.2];obtain⟨bA,bB,bC,n⟩:=HC.out a5 (m.trans L);have M:=a8 n;clear n
    cases b8 with
    |true=>
     have h:c=lQ (b.take f):=by
      rw[k.out,C.out,E.out,<-j.out.1,<-j.out.2];rfl
     have o:=a8 h;clear h;go_wp2;go_roundw
     case rel=>exact ⟨f,c,F,rfl,rfl,b9,o,m.trans L⟩
     case measure=>have:=k.out;simp[intOf];omega
    |false=>
     have h:g=lQ (b.take f):=by
      rw[k.out,C.out,E.out,<-j.out.1,<-j.out.2,l.out.2,l.out.1];rfl
     have o:=a8 h;clear h;go_wp2_with fail;refine(oO _ s d e a5 M.out.1 (by have:=D.out;omega)).mono ?_;rintro i bD ⟨rfl,N⟩;rw[<-l.out.1];go_wp2;go_roundw
     case rel=>exact ⟨f,g,F,rfl,rfl,a4,o,(m.trans L).trans N⟩
     case measure=>have:=k.out;simp[intOf];omega
   |false=>
    obtain⟨bA,bB,bC,n⟩:=HC.out v m;have M:=a8 n;clear n;have h:g=lQ (b.take f):=by
     rw[k.out,C.out,E.out,<-j.out.1,l.out.2,l.out.1];rfl
    have o:=a8 h;clear h;go_wp2_with fail;refine(oO _ s d e v M.out.1 (by have:=D.out;omega)).mono ?_;rintro i bD ⟨rfl,N⟩;rw[<-l.out.1];go_wp2;go_roundw
    case rel=>exact ⟨f,g,F,rfl,rfl,a4,o,m.trans N⟩
    case measure=>have:=k.out;simp[intOf];omega
theorem xE(q:Value)(l:List TE)(w:World)(r:TLE w q l)(s:l.length<=30)(C:∀a∈l,mH a.2<=6):
  Calls prog 28 #[q] w λa D=>a= .returned (lQ (l.map Prod.snd):Int)/\Ext w D:=by
 obtain⟨_,f,_,g,rfl,_,t⟩:=r.at;rw[<-g]at s;have HN:=a8 g;have E:=a8 t;clear g t r;go_enter func28,ntmps28;go_wp2_with fail;go_loopw [3,4] (λF j wr=>∃(i:Nat) (c:Option Addr) (d:Nat),i<=f/\j= .int .i64 (i:Int)/\F= .slice c i d/\Hid (OL 37 3 w (λ_ u a=>o9 w u a) wr (c,i,d) ((l.map Prod.snd).take i))/\Ext w wr) (λ_ j _=>((f:Int) - intOf j).toNat)
 case atStart=>exact ⟨0,none,0,zl,rfl,rfl,a8 (OL.nil _ _ _ _ _),rE⟩
 case round=>
  obtain⟨i,c,d,I,rfl,rfl,hS,hE0⟩:=hrel;rcases aI I with k |k
  .subst k;have J:¬((i:Int)<i):=om;have v:SLQ wr (c,i,d) (l.map Prod.snd):=Qb6;have K:=a8 v;clear v;go_wp2_with fail;refine(tO _ (l.map Prod.snd) wr K.out (by rw[aF,<-HN.out];exact s) (λa L=>by obtain⟨m,M,rfl⟩:=bJ.1 L;exact C m M)).mono ?_;rintro a _ ⟨rfl,N⟩;go_wp2;go_ret;exact⟨rfl,hE0.trans N⟩
  .have J:(i:Int)<f:=om;obtain⟨⟨_,O⟩,n⟩:∃m,l[i]? =some m:=⟨_,aA (by rw[<-HN.out];exact k)⟩;obtain⟨_,_,rfl,b,a1,n1,c1,a2,n2,c2, -, -,x,o⟩:=E.out i _ n;have e:=GB x;have P:=e wr hE0 0 _ rfl;have:=e wr hE0 1 _ rfl;have:=e wr hE0 2 _ rfl;simp only[bZ]at P;obtain⟨vs,z,p,A⟩:=hS.out;have Q:vs.length=i:=by rw[p,aP,aF,<-HN.out];omega
   have B:(l.map Prod.snd).take (i+1)=(l.map Prod.snd).take i++ [O]:=by rw[cE,aX,n];rfl
   subst Q;have HTK:=a8 B;have HLS:=a8 z;have HV:=a8 (aD p A);have HRX:=a8 o;have:=hE0.size;simp only at o;clear x n z p A B e o hS;go_wp2_with (first
    | (at_builtin;go_loud (refine nR rfl _ _ 41 rfl 37 3 56 w underlying41 kr kr om _ vs rfl (HLS.out.ext (rE.alloc _)) ⟨wr.heap.size,0,none⟩ #[b,(a1,n1,c1),(a2,n2,c2)] rfl rfl (vP _ _ _) kr om om (by rw[nD];omega) ?_);intro g' cap2' _ hls7 hg7 _ _)
    |fail)
   exact IZ4
theorem zU(o:Value)(a:List TE)(w:World)(i:TLE w o a):
  Calls prog 26 #[o] w λe C=>e= .returned (.bool (nU a))/\Ext w C:=by
 obtain⟨_,f,_,p,rfl,_,q⟩:=i.at;have D:=a8 i;have g:=a8 p;have E:=a8 q;clear p q i;go_enter func26,ntmps26;go_wp2_with fail;go_loopw [3] (λj wr=>∃b:Nat,b<=f/\j= .int .i64 (b:Int)/\Hid (∀e∈a.take b,mH e.2<=6)/\Ext w wr) (λj _=>((f:Int) - intOf j).toNat)
 case atStart=>exact ⟨0,zl,rfl,a8 (λe he=>by simp at he),rE⟩
 case round=>
  obtain⟨b,F,rfl,hS,hE0⟩:=hrel;rcases aI F with k |k
  .subst k;have I:¬((b:Int)<b):=om;have l:∀e∈a,mH e.2<=6:=by have:=hS.out;rwa [g.out,bN]at this
   have r:nU a=(decide (30<b) || decide (18<lQ (a.map Prod.snd))):=by
    unfold nU;rw[EH (λe he=>by obtain⟨m,J,rfl⟩:=bJ.1 he;exact l m J),aF,<-g.out]
   have s:=a8 r;have K:=a8 l;clear r l;by_cases t:30<b
   .have L:(30:Int)<(b:Int):=om;have HR:Hid (nU a=true):=a8 (by rw[s.out,decide_eq_true t];rfl);exact Dp3
   .have L:¬(30:Int)<(b:Int):=om;have HR:Hid (nU a=decide (18<lQ (a.map Prod.snd))):=a8 (by rw[s.out,decide_eq_false t];rfl);go_wp2_with fail;refine(xE _ a wr (D.out.ext hE0) (by rw[<-g.out];omega) K.out).mono ?_;rintro e M ⟨rfl,e2⟩;obtain⟨c,d⟩:=ex (lQ (a.map Prod.snd));rw[<-d]at HR ⊢;clear d;by_cases u:18<c
    .have v:(18:Int)<(c:Int):=om;have HR2:Hid (nU a=true):=a8 (by rw[HR.out,decide_eq_true u]);exact MI8
    .have v:¬(18:Int)<(c:Int):=om;have Q:decide ((18:Int)<(c:Int))=false:=decide_eq_false v;have HR2:Hid (nU a=false):=a8 (by rw[HR.out,decide_eq_false u]);exact MI8
  .have I:(b:Int)<f:=om;obtain⟨⟨_,x,xs,xt⟩,n⟩:∃m,a[b]? =some m:=⟨_,aA (by rw[<-g.out];exact k)⟩;obtain⟨_,_,rfl,_,_,_,_,_,_,_, -, -,y,z⟩:=E.out b _ n;have h:=GB y;have N:=h wr hE0 0 _ rfl;have R:=h wr hE0 1 _ rfl;have S:=h wr hE0 2 _ rfl;simp only[bZ]at N;have A:=a8 z;have HX:=a8 n;obtain⟨c,d⟩:=ex (xs.length+xt.length);have HP:=a8 d;obtain⟨i1,B⟩:=ex (b+1);have T:(b:Int)+1=(i1:Int):=om;have hi1n:i1<=f:=om;have HI1:=a8 B;clear y n h z d B;go_wp2_with fail;refine(oO _ x xs xt wr (A.out.1.ext hE0) A.out.2.2.2).mono ?_;rintro e M ⟨rfl,e2⟩;rw[<-HP.out];by_cases O:6<c
   .have P:(6:Int)<(c:Int):=om;have HR:Hid (nU a=true):=a8 (CN (l:=a.map Prod.snd) (i:=b) (e:=(x,xs,xt)) (by rw[aX,HX.out];rfl) (by show 6<xs.length+xt.length;rw[<-HP.out];exact O));go_wp2;go_ret;exact⟨by rw[HR.out]<;>rfl,hE0.trans e2⟩
   .have P:¬(6:Int)<(c:Int):=om;have hs:∀e∈a.take i1,mH e.2<=6:=Aj3;exact QJ2
theorem LS.chg{g:Nat}{w:World}(b:LS o d a w c j)(h:Chg g w f)(q:g<a):LS o d a f c j:=by
 refine⟨b.1,b.2.1,?_⟩;rcases b.2.2 with e |⟨i,k,l,m,e,n,p⟩
 .exact .inl e
 .exact .inr ⟨i,k,l,m,e,h.blk n om,p⟩
theorem TO.chg{a b g:Nat}{w c:World}{d:Value}{e:List (Int×Rat)}(i:TO a b w d e)(f:Chg g w c)(h:g<a):TO a b c d e:=by
 obtain⟨j,k,l,m⟩:=i;exact⟨j,k,l.chg f h,λn t o p q=>(let ⟨r,s,u⟩:=m n t o p q;⟨r,s.chg f h,u⟩)⟩
def tA{S:Nat}(k:Nat)(m:List (Int×Rat)):PP S:=⟨false,λu w=>TO S k w u m,λ_ _ _ h hp=>hp.ext h,λ_ _ hg _ _ _ h hp=>hp.chg h hg⟩
theorem TC:prog.cellsOf 67=4:=kr
theorem X0:prog.cellsOf 3=1:=kr
section
variable {H:Type} {enc:TypeId×Value->H} {w:World} {base:Nat} {spare:Nat->Bool} {held:Bool}
theorem sU{d:DataW H×List MemPlace}(b:DataW.trod enc prog w base spare held a 3 j=some d):∃c,j=[.int .i64 c]/\(Lit.int .i64 c).wf=true/\d.1= .lit (.int .i64 c):=by
 cases a with
 |zero=>simp [DataW.trod]at b
 |succ h=>
  unfold DataW.trod at b;rw[underlying3]at b;rcases j with _ |⟨e,_ |⟨_,j⟩⟩<;>(try cases e)<;>simp at b
  obtain⟨⟨rfl,f⟩,g⟩:=b;exact⟨_,rfl,f,by rw[<-g]⟩
theorem RW{p:DataW H×List MemPlace}(o:DataW.trod enc prog w base spare held a 67 j=some p):∃f k l m g h,j=[.int .i64 f,.bool k,l,m]/\(Lit.int .i64 f).wf=true/\IsL .u64 w l g/\Dig W g/\IsL .u64 w m h/\Dig W h/\(∀i,(∀n∈p.1.weights prog 67,n<=i)->g.length<=i/\h.length<=i):=by
 obtain⟨_,_,n,u,q,v,x⟩:=trod_struct2 underlying67 o;rw[TC]at q;obtain⟨b,c,d,e,rfl⟩:∃b c d e,j=[b,c,d,e]:=by
  rcases j with _ |⟨b,_ |⟨c,_ |⟨d,_ |⟨e,_ |⟨_,j⟩⟩⟩⟩⟩<;>simp at q
  exact⟨_,_,_,_,rfl⟩
 obtain⟨f,y,z, -⟩:=sU v;obtain⟨k,l,m,g,h,A,B,C,D,E,F,_⟩:=sV x;have I:List.take (prog.cellsOf 3) (List.drop 0 [b,c,d,e])=[b]:=by rw[X0];rfl
 have J:List.take (prog.cellsOf 37) (List.drop 1 [b,c,d,e])=[c,d,e]:=by rw[yE];rfl
 have r: [b]=[.int .i64 f]:=I▸y;have s: [c,d,e]=[.bool k,l,m]:=J▸A;simp only[List.cons.injEq,and_true]at r s;obtain⟨rfl,rfl,rfl⟩:=s;subst r;refine⟨f,k,_,_,g,h,rfl,z,B,C,D,E,λi o=>F i λn t=>o n ?_⟩;rw[u];simp only[DataW.weights,underlying67];first
  |exact dF _ (cO _ t)
  | (simp only[aW];exact .inr (.inl t))
end
theorem ZA:prog.bytesOf 67=64:=kr
theorem wN(c:Value)(d:Rat)(a:Nat)(w:World)(g:IsR w c d a)(l:a<=1000000):
  Calls prog 34 #[c] w λh e=>∃f,h= .returned f/\qO w e f d/\Ext w e:=by
 obtain⟨b,i,j,rfl,k,_⟩:=g;have:=AP b.natAbs;have:=AP i;have:sz W b.natAbs<=a:=k;exact PG _ _ _ _ j (by show sz TK b.natAbs<=_;omega) om
theorem ah3(b:szQ g<=a):szD g<=5*a:=by
 have:=AP g.num.natAbs;have:=AP g.den;unfold szQ szZ at b;unfold szD szT;omega
theorem qO.chgN{w:World}(b:qO d w c g)(e:Chg a w f)(h:Bx o w a v)(i:Bx o f a D)(j:o≠165)(k:o≠3):qO d f c g:=b.tchg (S:=0) ⟨a,o,v,D,zl,j,k,rfl,h,i,e⟩
def DtJ(w wr:World)(g K:Nat)(q:Rat):Prop:=Ext w wr/\∃b a1 n1 c1 a2 n2 c2,Bx 63 wr g #[.bool b,.slice a1 n1 c1,.slice a2 n2 c2]/\qO w wr (.agg #[.bool b,.slice a1 n1 c1,.slice a2 n2 c2]) q/\szD q<=K
theorem R7(c:Nat)(n:Value)(k:Int)(a:List (Int×Rat))(w:World)(o:TL c w n a)(bE:c<=1000000)(v:a.length<=6000):
  Calls prog 80 #[n,k] w λe w'=>∃v',e= .returned v'/\qO w w' v' (getV a k)/\szD (getV a k)<=a.length*(5*c+1)+1/\Ext w w':=by
 obtain⟨_,z,bG,K,rfl,_,V⟩:=o.at;rw[<-K]at v ⊢;have X:=a8 K;have bO:=a8 V;clear K o V;go_enter func80,ntmps80;obtain⟨_,Y,A,L,Z⟩:=kR w #[false,(),()] 63;go_wp2_with fail;rw[<-Y];refine(rS 0 _ om om).mono ?_;rintro e B ⟨_,rfl,C,D⟩;obtain⟨bP,bR,bS,bT,c0,c1,c2,rfl,C⟩:=C.opn;have a0:=a8 C;obtain⟨a1,a2,E,a3,c3⟩:=kR B #[bP,(bR,bS,bT),(c0,c1,c2)] 63;clear C;go_wp2_with fail;rw[<-a2];have a4:DtJ w a1 B (0*(5*c+1)+1) (getV (a.take 0) k):=⟨(A.trans D).trans E,_,_,_,_,_,_,_,a3,by rw[g8,sJ];exact(a0.out.ext E).mono A.size,by rw[g8,sJ,i8];decide⟩;have M:=a8 a4;have c4:w.heap.size<B.heap.size:=by have:=A.size;have:=D.size;have:=L.lt;have:=Z;omega
 obtain⟨p,a5⟩:=ex B.heap.size;rw[<-a5]at M c4 ⊢;have a6:Bx 63 a1 w #[false,(),()]:=(L.ext D).ext E;clear a4 Y a2 a5 a0;go_loopw [6] (λN wr=>∃i:Nat,i<=z/\N= .int .i64 (i:Int)/\Hid (DtJ w wr p (i*(5*c+1)+1) (getV (a.take i) k)/\Bx 63 wr w #[false,(),()])) (λN _=>((z:Int) - intOf N).toNat)
 case atStart=>exact ⟨0,zl,rfl,a8 ⟨M.out,a6⟩⟩
 case round=>
  obtain⟨i,c5,rfl,a7⟩:=hrel;obtain⟨⟨hE0,c6,c7,c8,d1,c9,e0,d2,hbx,a9,F⟩,hB0⟩:=a7.out;have HQ:=a8 a9;have HSZ:=a8 F;clear a9 F a7 M a6 L a3 A D E Z c3;rcases aI c5 with O |O
  .subst O;have e1:¬((i:Int)<i):=om;obtain⟨_,_,_,-⟩:=hbx.cl [0,1,2];have hb:=hB0;obtain⟨P,Q,R,-⟩:=hb.cl [0,1,2];obtain⟨_,_,_,-⟩:=hb.fl [0,1,2];clear hbx;have:=hE0.size;go_wp2;have HQ2:=HQ.out;rw[show a.take i=a by rw[X.out,bN]]at HQ2 HSZ;refine l8 4 63 w 63 _ _ kr rfl (((hb.set 0 _).set 1 _).set 2 _) underlying63 rfl kr rfl ?_;exact tH8
  .have e1:(i:Int)<z:=om;obtain⟨x,hx⟩:∃x,a[i]? =some x:=⟨_,aA (by rw[<-X.out];exact O)⟩;obtain⟨s,t,rfl,b0,b1,b2,b3,b4,b5,b6,S⟩:=bO.out i x hx;obtain⟨P,Q,R,b7,b8⟩:=S wr hE0;have HC:=a8 S;have T:=a8 (aD hx b8);have U:a.take (i+1)=a.take i++ [x]:=by rw[cE,hx];rfl
   obtain⟨l,q⟩:=x;simp only at P Q R b7 T U;have b9:=a8 U;clear hx b8 U S;have:i*(5*c+1)+(5*c+1)=(i+1)*(5*c+1):=(dT i (5*c+1)).symm;have:i*(5*c+1)<=6000*5000001:=cW om om;by_cases hcc:l=k/\0<=k
   .obtain⟨rfl,bA⟩:=hcc;go_wp2_with fail;clear P Q R b7;have:p<wr.heap.size:=hbx.lt;have e2:Hid (∀I,Ext wr I->∀(r:Nat) (n:Value),(#[b0,(b1,b2,b3),(b4,b5,b6)]:Array Value)[r]? =some n->I.cell? (s,t+i*4+1+r)=some n):=a8 λI e3 r n m=>by
     obtain⟨_,e4,e5,e6, -⟩:=HC.out I (hE0.trans e3);match r,m with
     |0,m=>cases m;exact e4
     |1,m=>cases m;exact e5
     |2,m=>cases m;exact e6
     |r+3,m=>simp at m
    refine wpP [⟨8,p,63,AE (getV (a.take i) l+q) ((i+1)*(5*c+1)+1)⟩] [kL (.agg #[c6,(c7,c8,d1),(c9,e0,d2)]),(s,t,z,bG),i,(s,t+i*4),(s,t+i*4+1),kL (.agg #[b0,(b1,b2,b3),(b4,b5,b6)]),sZ q,AE (getV (a.take i) l+q) ((i+1)*(5*c+1)+1),kP] [] [8,7,6,5,4,3,2,1,0] ?_ ?_ ?_ ?_ ?_
    .intro x hx;simp only[aC]at hx;subst hx;exact⟨by show p<wr.heap.size;omega,rfl⟩
    .exact DL8
    .exact sz1
    .refine⟨?_,oL,oL,oL,oL,?_,?_,?_,?_,trivial⟩
     .intro d b g j o;have f:Ext wr b:=g;change kM _ _ _ d b Ext _;exact kZ (P:=prog) _ _ p _ _ _ rfl rfl rfl (hbx.ext f) underlying63 rfl kr rfl
     .intro d b g j o;have f:Ext wr b:=g;have e7:=tE j 0 4 rfl rfl rfl;change kM _ _ _ d b Ext _;exact kW (P:=prog) _ _ s (t+i*4+1) _ _ rfl rfl e7 (λr n h=>e2.out _ f r n h) underlying37 rfl kr rfl
     .intro d b g j o;have f:Ext wr b:=g;have hS:=f.size;have e8:=tE j 0 5 rfl rfl rfl;change kM _ _ _ d b Ext _;refine oC #[d 5] func34 rfl rfl ?_;rw[e8];refine(wN _ q c _ (T.out.2.ext f) bE).mono ?_;exact EL7
     .intro d b g j o;have f:Ext wr b:=g;have hS:=f.size;have e9:=tE j 0 0 rfl rfl rfl;have eA:=kO j 1 6 rfl rfl (λ_=>f);change kM _ _ _ d b Ext _;refine oC #[d 0,d 6] func135 rfl rfl ?_;rw[e9];refine(MS _ _ (getV (a.take i) l) q (i*(5*c+1)+1) (5*c) _ (HQ.out.ext f).cq eA.cq HSZ.out (ah3 T.out.2.sz) om).mono ?_;exact ON4
     .intro d b g j o;have f:Ext wr b:=g;have hS:=f.size;have eB:=kO j 0 7 rfl rfl (λ_=>f);intro eC;change kM _ _ _ d b (Chg _) _;obtain⟨⟨eD,eE,eG,v,bB⟩,F⟩:=eB;exact mN (P:=prog) _ _ _ p _ _ _ (AE _ _:PP _).p rfl rfl rfl eG (show Bx 63 b _ _ from eC.trans hbx) kr rfl (yA rfl v.oneCell bB.oneCell) (λw' h=>⟨⟨eD,eE,rfl,v.chg h om,bB.chg h om⟩,F⟩)
    .intro d b g j;obtain⟨_,hbx0,eN⟩:∃bC,Bx 63 b p bC/\(AE (getV (a.take i) l+q) ((i+1)*(5*c+1)+1):PP wr).p (.agg bC) b:=sP j 8 de;clear j;obtain⟨J,bD⟩:=eN;obtain⟨_,_,_,_,_,_,_,fA,J⟩:=J.opn
     cases fA
     have Hq6:=a8 J;have Z6:=a8 bD;have hsz6:=hE0.size;have E6:Ext w b:=hE0.stepS g (by simp;omega);have B06:Bx 63 b w #[false,(),()]:=hB0.chgS g (by simp;omega);have u:getV (a.take (i+1)) l=getV (a.take i) l+q:=by rw[b9.out,rW,if_pos ⟨rfl,bA⟩]
     have HGV:=a8 u;clear J bD u;exact Bb1
   .have u:getV (a.take (i+1)) k=getV (a.take i) k:=by rw[b9.out,rW,if_neg hcc,dY]
    have HGV:=a8 u;clear u;by_cases fB:l=k
    .subst fB;have bA:¬0<=l:=λh=>hcc ⟨rfl,h⟩
     exact Oy4
    .exact Oy4
def tI(x:Int):List Int->List Int
 | []=> [x]
 |y::l=>if x<y then x::y::l else if x=y then y::l else y::tI x l
theorem OG{b:Int}:∀{a:List Int},(∀c∈a,c<b)->tI b a=a++ [b]
 | [],_=>rfl
 |c::a,h=>by
  have:=h c (aT ..);unfold tI;rw[if_neg om,if_neg om,OG λd e=>h d (aN _ e)];rfl
theorem OI{b d:Int}(e:b<d):∀{c:List Int},(∀a∈c,a<b)->tI b (c++ [d])=c++ [b]++ [d]
 | [],_=>by simp[tI,e]
 |a::c,h=>by
  have:=h a (aT ..);rw[eR];unfold tI;rw[if_neg om,if_neg om,OI e λa f=>h a (aN _ f)];rfl
theorem KR{b i:Int}:∀{e:List Int},(∃f∈e,b<f)->tI b (e++ [i])=tI b e++ [i]
 | [],h=>by obtain⟨f,c, -⟩:=h;cases c
 |a::e,h=>by
  rw[eR];unfold tI
  by_cases d:b<a
  .rw[if_pos d,if_pos d];rfl
  .rw[if_neg d,if_neg d]
   by_cases g:b=a
   .rw[if_pos g,if_pos g];rfl
   .rw[if_neg g,if_neg g];obtain⟨f,c,j⟩:=h
    rcases aS.1 c with rfl |c
    .exact absurd j d
    .rw[KR ⟨f,c,j⟩];rfl
theorem TN{c:Int}:∀{b:List Int},b.Pairwise (· < ·)->c∈b->tI c b=b
 | [],_,a=>by cases a
 |y::b,hp,a=>by
  rw[dD]at hp;unfold tI
  rcases aS.1 a with rfl |a
  .rw[if_neg om,if_pos rfl]
  .have:=hp.1 c a;rw[if_neg om,if_neg om,TN hp.2 a]
theorem GU(b:Int):∀a:List Int,(tI b a).length<=a.length+1
 | []=>by simp[tI]
 |y::a=>by
  have:=GU b a;unfold tI
  split
  .simp
  .split
   .simp
   .simp;omega
theorem GV(d b:Int):∀c:List Int,b∈tI d c↔b=d∨b∈c
 | []=>by simp[tI]
 |z::c=>by
  have:=GV d b c;unfold tI
  split
  .simp
  .split
   .rename_i _ e
    subst e;simp
   .rw[aS,this,aS]
    constructor
    .rintro(a |a |a)
     .exact .inr (.inl a)
     .exact .inl a
     .exact .inr (.inr a)
    .rintro(a |a |a)
     .exact .inr (.inl a)
     .exact .inl a
     .exact .inr (.inr a)
theorem OH(d:Int):∀{b:List Int},b.Pairwise (· < ·)->(tI d b).Pairwise (· < ·)
 | [],_=>by simp[tI]
 |y::b,h=>by
  have e:=h;rw[dD]at h;unfold tI
  split
  .rename_i f
   refine dD.2 ⟨λc a=> ?_,e⟩
   rcases aS.1 a with rfl |a
   .exact f
   .have:=h.1 c a;omega
  .split
   .exact e
   .refine dD.2 ⟨λc a=> ?_,OH d h.2⟩
    rcases(GV d c b).1 a with rfl |a
    .omega
    .exact h.1 c a
def plF(out:List Int)(p:Int×Rat):List Int:=if 0<=p.1 then tI p.1 out else out
def oE(l:List (Int×Rat)):List Int:=l.foldl plF []
theorem BS(f:List (Int×Rat)):∀a:List Int,a.Pairwise (· < ·)->(f.foldl plF a).Pairwise (· < ·)/\(∀g,g∈f.foldl plF a↔g∈a∨(0<=g/\∃d∈f,d.1=g))/\(f.foldl plF a).length<=a.length+f.length:=by
 induction f with
 |nil=>intro a b;exact⟨b,λg=>sm,sm⟩
 |cons h f n=>
  intro a b;rw[List.foldl_cons];by_cases j:0<=h.1
  .have k:plF a h=tI h.1 a:=if_pos j;rw[k];obtain⟨l,m,o⟩:=n (tI h.1 a) (OH _ b);have:=GU h.1 a;refine⟨l,λg=> ?_,by rw[bH];omega⟩;rw[m,GV];constructor
   .rintro((rfl |b) |⟨i,d,c,e⟩)
    .exact .inr ⟨j,h,aT ..,rfl⟩
    .exact .inl b
    .exact .inr ⟨i,d,aN _ c,e⟩
   .rintro(b |⟨i,d,c,e⟩)
    .exact .inl (.inr b)
    .rcases aS.1 c with rfl |c
     .exact .inl (.inl e.symm)
     .exact .inr ⟨i,d,c,e⟩
  .have k:plF a h=a:=if_neg j;rw[k];obtain⟨l,m,o⟩:=n a b;refine⟨l,λg=> ?_,by rw[bH];omega⟩;rw[m];constructor
   .rintro(b |⟨i,d,c,e⟩)
    .exact .inl b
    .exact .inr ⟨i,d,aN _ c,e⟩
   .rintro(b |⟨i,d,c,e⟩)
    .exact .inl b
    .rcases aS.1 c with rfl |c
     .omega
     .exact .inr ⟨i,d,c,e⟩
theorem I8(a:List (Int×Rat)):(oE a).Pairwise (· < ·):=(BS a [] List.Pairwise.nil).1
theorem IC(a:List (Int×Rat))(b:Int):b∈oE a↔0<=b/\∃c∈a,c.1=b:=by
 rw[oE,(BS a [] List.Pairwise.nil).2.1];simp
theorem I9(a:List (Int×Rat)):(oE a).length<=a.length:=by
 have:=(BS a [] List.Pairwise.nil).2.2;unfold oE;simpa using this
theorem P1(a:List (Int×Rat))(b:Int×Rat):oE (a++ [b])=plF (oE a) b:=by
 unfold oE;rw[List.foldl_append];rfl
theorem OB(d:Int->Rat):∀{c:List Int},c.Pairwise (· < ·)->(∀a∈c,0<=a)->Up (c.map λa=>(a,d a))/\∀a,getV (c.map λa=>(a,d a)) a=if a∈c then d a else 0
 | [],_,_=>⟨Up.nil,λa=>by simp[sJ]⟩
 |h::c,e,h0=>by
  rw[dD]at e;obtain⟨i,j⟩:=OB d e.2 λa b=>h0 a (aN _ b)
  have g:Up ((h::c).map λa=>(a,d a)):=by
   refine⟨dD.2 ⟨λ_ k=> ?_,i.1⟩,λ_ l=> ?_⟩
   .obtain⟨a,b,rfl⟩:=bJ.1 k;exact e.1 a b
   .obtain⟨a,b,rfl⟩:=bJ.1 l;exact h0 a b
  refine⟨g,λa=> ?_⟩;rw[dQ]at g ⊢;rw[g.getV_cons,j];simp only
  by_cases b:a=h
  .rw[if_pos b,if_pos (by rw[b];exact aT ..),b]
  .rw[if_neg b]
   by_cases f:a∈c
   .rw[if_pos f,if_pos (aN _ f)]
   .rw[if_neg f,if_neg λe=>(aS.1 e).elim b f]
theorem ag3(a:List (Int×Rat)):nz ((oE a).map λb=>(b,getV a b))=mkV a:=by
 obtain⟨d,e⟩:=OB (getV a) (I8 a) λb c=>((IC a b).1 c).1
 refine MI d.nz λb=> ?_
 rw[MA,e];split
 .rfl
 .rename_i c;rw[IC]at c;unfold getV;split
  .rename_i f;exact(C0 λg h i=>c ⟨f,g,h,i⟩).symm
  .rfl
def IL(B:Nat)(w:World)(v:Value)(xs:List Int):Prop:=w.ownsRow B 3 1 v xs.length (xs.map (Value.int .i64))
theorem IL.ext{w:World}(h:IL a w c n)(he:Ext w f):IL a f c n:=by
 exact ps3
theorem IL.mono{w:World}(h:IL a w c n)(hB:d<=a):IL d w c n:=by
 exact Ks0
theorem IL.ge{w:World}(h:IL a w c n):∀g,c.ownBlock=some g->a<=g:=by
 exact BB0
theorem IL.opn{w:World}(m:IL a w c n):∃l h,c= .slice l n.length h/\∀(b:Nat) (f:Int),n[b]? =some f->∃d,l=some ⟨d,0,none⟩/\∀g,Ext w g->g.cell? ⟨d,b,none⟩=some (.int .i64 f):=by
 rcases m.2 with⟨i,j⟩ |⟨d,h,o,i,j,p,_,_,_,q⟩
 .exact⟨none,0,by rw[i,j],λb f e=>by rw[aL j]at e;simp at e⟩
 .refine⟨_,h,i,λb f e=>⟨d,rfl,λg r=> ?_⟩⟩;have s:Bx 3 g d o:=r.blk p;rw[s.cell b];have k:=congrArg (λt=>t[b]?) q;simp only[dG]at k;rw[eS,if_pos (aH.1 e).1,aX,e,dX]at k;exact k
theorem IL.at{w:World}(g:IL a w (A,d,m) n)(h:n[i]? =some e):∃b,A=some ⟨b,0,none⟩/\∀c,Ext w c->c.cell? ⟨b,i,none⟩=some (.int .i64 e):=by
 obtain⟨_,_,f,j⟩:=g.opn;simp only[Value.slice.injEq]at f;obtain⟨rfl, -, -⟩:=f;exact j i e h
theorem IL.chgT{w:World}(b:IL a w c n)(he:Chg d w f)(hp:Bx o w d v)(ht:o≠3):IL a f c n:=by
 refine⟨b.1,?_⟩;rcases b.2 with h2 |⟨g,cap,cur,h1,h2,h3,h4⟩
 .exact .inl h2
 .exact OB0
theorem IL.empty(a:Nat)(w:World)(b:a<=w.heap.size):IL a (w.alloc (.cells #[] 3)) (.slice w 0 0) []:=
 ⟨rfl,.inr ⟨w.heap.size,0,#[],rfl,b,Bx.new w _ #[],lr,by unfold maxLen;omega,rfl,rfl⟩⟩
theorem XH(w:World):(Instr.buildSlice 55 0 #[]).run prog w= .ok (.slice w 0 0) (w.alloc (.cells #[] 3)):=kr
theorem lL{size:Nat}{w:World}(h:w.ownsRow a d size c m j)(he:Ext w f):f.ownsRow a d size c m j:=by
 exact ps3
def InJ(d:Bool)(x:Int)(L:List Int)(i:Nat)(out:List Int):Prop:=
 (d=false/\out=L.take i/\∀y∈L.take i,y<x)∨(d=true/\out=tI x (L.take i)/\x∉L/\∃z∈L.take i,x<z)
theorem InJ.len{c:Bool}{b:List Int}(d:InJ c e n a b):b.length<=a+1:=by
 have:=List.length_take_le a n;rcases d with⟨-,rfl, -⟩ |⟨-,rfl, -⟩
 .omega
 .have:=GU e (n.take a);omega
theorem mP{b:List t}{c:t}(d:b[a]? =some c):b.take (a+1)=b.take a++ [c]:=by rw[cE,d];rfl
theorem ME(z:Nat)(N:Value)(e:List Int)(c:Int)(w:World)(x:IL z w N e)(O:e.Pairwise (· < ·))(a4:e.length<=1000000)(P:z<=w.heap.size):
  Calls prog 134 #[N,c] w λa5 Q=>∃R,a5= .returned R/\IL z Q R (tI c e)/\Ext w Q:=by
 obtain⟨_,_,rfl,S⟩:=x.opn;obtain⟨A,B⟩:=ex e.length;rw[<-B]at a4 x ⊢;have T:=a8 B;have H:=a8 x;have a6:=a8 S;have U:=a8 O;have bC:=XH;clear x B S O;go_enter func134,ntmps134;go_wp2_with fail;go_loopw [5,6,7] (λa7 a9 C wr=>∃(d:Nat) (t:Bool) (a:List Int) (D:Option Addr) (E:Nat),d<=A/\C= .int .i64 (d:Int)/\a9= .bool t/\a7= .slice D a.length E/\Hid (InJ t c e d a/\IL w wr (D,a.length,E) a)/\Ext w wr) (λ_ _ C _=>((A:Int) - intOf C).toNat)
 case atStart=>exact ⟨0,false,[],some ⟨w.heap.size,0,none⟩,0,zl,rfl,rfl,rfl,a8 ⟨.inl ⟨rfl,rfl,λb n=>by simp at n⟩,IL.empty _ _ lr⟩,rE.alloc _⟩
 case round=>
  obtain⟨d,t,a,D,E,b0,rfl,rfl,rfl,g,i⟩:=hrel;have bD:=i.size;have bE:=g.out.1.len;rcases aI b0 with F |F
  .subst F;have b1:¬((d:Int)<d):=om;have V:e.take d=e:=by rw[T.out,bN]
   have j:=a8 V;clear V
   cases t with
   |true=>
    have hF:Hid (a=tI c e):=by
     rcases g.out.1 with⟨f, -⟩ |⟨-,f, -⟩
     .cases f
     .rw[j.out]at f;exact a8 f
    go_wp2;go_ret;exact⟨_,rfl,by rw[<-hF.out];exact g.out.2.mono P,i⟩
   |false=>
    have hF:Hid (tI c e=a++ [c]):=by
     rcases g.out.1 with⟨-,f,q⟩ |⟨f, -⟩
     .rw[j.out]at f q;rw[f];exact a8 (OG q)
     .cases f
    go_wp2_with (first
     | (at_builtin;go_loud (refine oY rfl _ _ 55 rfl 3 8 w underlying55 kr kr _ a.length (a.map (Value.int .i64)) rfl (g.out.2.ext (rE.alloc _)) ⟨wr.heap.size,0,none⟩ c rfl (cell_one_new _ _ _) rfl om om (by rw[nD];omega) ?_);intro k l h hls7 o I J)
     |fail)
    go_wp2;go_ret;have p:=(Ext.refl wr).alloc (.cells #[c] 3);refine⟨_,rfl,?_,(i.trans p).stepG o g.out.2.ge⟩;rw[hF.out];have:IL w h (k,a.length+1,l) (a++ [c]):=tC0;exact this.mono P
  .have b1:(d:Int)<A:=om;obtain⟨b,n⟩:∃b,e[d]? =some b:=⟨_,aA (by rw[<-T.out];exact F)⟩;obtain⟨_,rfl,K⟩:=a6.out d b n;have bG:=K wr i;have X:=a8 n;have j:=a8 (mP n);have Y:b∈e:=aM n;have b2:=a8 Y;have b3:=a8 K;clear K n Y;by_cases b4:b=c
   .subst b4;have hF:Hid (tI b e=e):=a8 (TN U.out b2.out);go_wp2;go_ret;rw[hF.out];exact⟨_,rfl,H.out.ext i,i⟩
   .cases t with
    |true=>
     have u:Hid (InJ true c e (d+1) (a++ [b])):=by
      rcases g.out.1 with⟨f, -⟩ |⟨-,f,q,r,m,Z⟩
      .cases f
      .refine a8 (.inr ⟨rfl,?_,q,r,by rw[j.out];exact cO _ m,Z⟩);rw[j.out,KR ⟨r,m,Z⟩,f]
     go_wp2_with (first
      | (at_builtin;go_loud (refine oY rfl _ _ 55 rfl 3 8 w underlying55 kr kr _ a.length (a.map (Value.int .i64)) rfl (g.out.2.ext (rE.alloc _)) ⟨wr.heap.size,0,none⟩ b rfl (cell_one_new _ _ _) rfl om om (by rw[nD];omega) ?_);intro k l h hls7 o I J)
      |fail)
     go_roundw
     case rel=>
      have p:=(Ext.refl wr).alloc (.cells #[b] 3);have:IL w h (k,(a++ [b]).length,l) (a++ [b]):=tC0;exact⟨d+1,true,a++ [b],some ⟨k,0,none⟩,l,om,sm,rfl,sm,a8 ⟨u.out,this⟩,(i.trans p).stepG o g.out.2.ge⟩
     case measure=>simp [intOf];omega
    |false=>
     have v:Hid (a=e.take d/\∀r∈e.take d,r<c):=by
      rcases g.out.1 with⟨-,f⟩ |⟨f, -⟩
      .exact a8 f
      .cases f
     by_cases a0:c<b
     .have u:Hid (InJ true c e (d+1) (a++ [c]++ [b])):=by
       refine a8 (.inr ⟨rfl,?_,?_,b,by rw[j.out];simp,a0⟩)
       .rw[j.out,OI a0 v.out.2,v.out.1]
       .intro b5;obtain⟨L,y⟩:=gN b5;have q:=iN.1 U.out;obtain⟨b6,a1⟩:=aH.1 y;obtain⟨b7,_⟩:=aH.1 X.out;rcases eZ L d with m |m |m
        .have:=v.out.2 c (by
          rw[<-a1];exact aM (i:=L) (by rw[eS,if_pos m,y,a1]))
         omega
        .subst m;rw[X.out]at y;simp only[Option.some.injEq]at y;omega
        .have:=q d L b7 b6 m;omega
      go_wp2_with (first
       | (at_builtin;go_loud (refine oY rfl _ _ 55 rfl 3 8 w underlying55 kr kr _ a.length (a.map (Value.int .i64)) rfl (g.out.2.ext (rE.alloc _)) ⟨wr.heap.size,0,none⟩ c rfl (cell_one_new _ _ _) rfl om om (by rw[nD];omega) ?_);intro k l h hls7 o I J;have M:Ext w h:=(i.trans ((Ext.refl wr).alloc (.cells #[c] 3))).stepG o g.out.2.ge;have bO:=M.size;have bP:=b3.out h M)
       | (at_builtin;go_loud (refine oY rfl _ _ 55 rfl 3 8 w underlying55 kr kr _ (a.length+1) (a.map (Value.int .i64)++ [.int .i64 c]) rfl (lL hls7 (rE.alloc _)) ⟨h.heap.size,0,none⟩ b rfl (cell_one_new _ _ _) rfl om om (by rw[nD];omega) ?_);intro a2 a3 b8 b9 bA _ _)
       |fail)
      go_roundw
      case rel=>
       have p:=(Ext.refl h).alloc (.cells #[b] 3);have bB:IL w h (k,a.length+1,l) (a++ [c]):=tC0;have:IL w b8 (a2,(a++ [c]++ [b]).length,a3) (a++ [c]++ [b]):=by
        unfold IL;rw[bY,bY,aB,aB];exact b9
       exact⟨d+1,true,a++ [c]++ [b],some ⟨a2,0,none⟩,a3,om,sm,rfl,sm,a8 ⟨u.out,this⟩,(M.trans p).stepG bA bB.ge⟩
      case measure=>simp [intOf];omega
     .have u:Hid (InJ false c e (d+1) (a++ [b])):=by
       refine a8 (.inl ⟨rfl,by rw[j.out,v.out.1],λr s=> ?_⟩);rw[j.out]at s;rcases aW.1 s with s |s
       .exact v.out.2 r s
       .rw[aC]at s;omega
      go_wp2_with (first
       | (at_builtin;go_loud (refine oY rfl _ _ 55 rfl 3 8 w underlying55 kr kr _ a.length (a.map (Value.int .i64)) rfl (g.out.2.ext (rE.alloc _)) ⟨wr.heap.size,0,none⟩ b rfl (cell_one_new _ _ _) rfl om om (by rw[nD];omega) ?_);intro k l h hls7 o I J)
       |fail)
      go_roundw
      case rel=>
       have p:=(Ext.refl wr).alloc (.cells #[b] 3);have:IL w h (k,(a++ [b]).length,l) (a++ [b]):=tC0;exact⟨d+1,false,a++ [b],some ⟨k,0,none⟩,l,om,sm,rfl,sm,a8 ⟨u.out,this⟩,(i.trans p).stepG o g.out.2.ge⟩
      case measure=>simp [intOf];omega
theorem MN(A:Nat)(m:Value)(b:List (Int×Rat))(w:World)(n:TL A w m b)(B:b.length<=1000000):
  Calls prog 79 #[m] w λo p=>∃q,o= .returned q/\IL w p q (oE b)/\Ext w p:=by
 obtain⟨_,f,_,g,rfl,_,r⟩:=n.at;rw[<-g]at B;have s:=a8 g;have C:=a8 r;have O:=XH;clear g n r;go_enter func79,ntmps79;go_wp2_with fail;go_loopw [3,4] (λD h wr=>∃a:Nat,a<=f/\h= .int .i64 (a:Int)/\Hid (IL w wr D (oE (b.take a)))/\Ext w wr) (λ_ h _=>((f:Int) - intOf h).toNat)
 case atStart=>exact ⟨0,zl,rfl,a8 (IL.empty _ _ lr),rE.alloc _⟩
 case round=>
  obtain⟨a,E,rfl,i,c⟩:=hrel;rcases aI E with j |j
  .subst j;have F:¬((a:Int)<a):=om;have t:b.take a=b:=by rw[s.out,bN]
   have I:=a8 t;clear t;go_wp2;go_ret;exact⟨_,rfl,by have:=i.out;rwa [I.out]at this,c⟩
  .have F:(a:Int)<f:=om;obtain⟨d,k⟩:∃d,b[a]? =some d:=⟨_,aA (by rw[<-s.out];exact j)⟩;obtain⟨_,_,rfl,_,_,_,_,_,_,_,u⟩:=C.out a d k;obtain⟨J, -, -, -, -⟩:=u wr c;obtain⟨e,K⟩:=d;have v:oE (b.take (a+1))=plF (oE (b.take a)) (e,K):=by rw[mP k,P1]
   have x:=a8 v;have L:=c.size;simp only at J;clear k u v;by_cases y:0<=e
   .have l:Hid (oE (b.take (a+1))=tI e (oE (b.take a))):=a8 (by rw[x.out];exact if_pos y);go_wp2_with fail;refine(ME w _ (oE (b.take a)) e wr i.out (I8 _) (by have P:=I9 (b.take a);have Q:=List.length_take_le a b;omega) L).mono ?_;rintro o _ ⟨_,rfl,z,M⟩;have N:=a8 z;clear z;go_wp2;go_roundw
    case rel=>exact ⟨a+1,om,sm,a8 (by rw[l.out];exact N.out),c.trans M⟩
    case measure=>simp [intOf];omega
   .have l:Hid (oE (b.take (a+1))=oE (b.take a)):=a8 (by rw[x.out];exact if_neg y);go_wp2;go_roundw
    case rel=>exact ⟨a+1,om,sm,a8 (by rw[l.out];exact i.out),c⟩
    case measure=>simp [intOf];omega
theorem af3{w:World}(h:LS 67 4 d w (a,m,r) j)(i:Ext w f):
  (∃k,Bx 67 f a k)/\(∀b c:World,b.grownBy c (Value.slice a m r).ownBlock->Chg a b c)/\d<=a:=by
 rcases h.2.2 with⟨e,g⟩ |⟨_,_,l,e,g,n,_⟩
 .cases e
 .cases e
  exact⟨⟨l,i.blk n⟩,λb c o=>o,g⟩
theorem af1(w:World):(Instr.buildSlice 32 0 #[]).run prog w= .ok (.slice w 0 0) (w.alloc (.cells #[] 67)):=kr
theorem LS.empty(a:TypeId)(b c:Nat)(w:World)(d:c<=w.heap.size):LS a b c (w.alloc (.cells #[] a)) (.slice w 0 0) []:=
 LS.of_hold (vs:=[]) (rest:=[]) (.nil b) d lr de sm (Bx.new w a #[])
theorem TO.empty(a b:Nat)(w:World)(c:a<=w.heap.size):TO a b (w.alloc (.cells #[] 67)) (.slice w 0 0) []:=⟨[],rfl,LS.empty _ _ _ _ c,λ_ _ _ d=>by simp at d⟩
def mkP(l:List (Int×Rat))(ps:List Int)(i:Nat):List (Int×Rat):=nz ((ps.take i).map λc=>(c,getV l c))
theorem aa2(c:n[a]? =some e)(d:getV b e=0):mkP b n (a+1)=mkP b n a:=by
 unfold mkP;rw[mP c,bY];unfold nz;rw[iJ];simp[d]
theorem ag4(c:n[a]? =some e)(d:getV b e≠0):mkP b n (a+1)=mkP b n a++ [(e,getV b e)]:=by
 unfold mkP;rw[mP c,bY];unfold nz;rw[iJ];simp[d]
theorem EQ{q:Rat}:q.num.sign=0↔q=0:=by
 rw[iM,iA]
theorem ON(n:Nat)(x:Value)(a:List (Int×Rat))(w:World)(hl:TL n w x a)(e4:n<=1000000)(L:a.length<=1000):
  Calls prog 36 #[x] w λe w'=>∃v',e= .returned v'/\TO w (a.length*(n+1)+1) w' v' (mkV a)/\Ext w w':=by
 obtain⟨q,M⟩:=ex (a.length*(n+1)+1);have hT:q<=1000001001:=by
  have:a.length*(n+1)<=1000*1000001:=cW L om;omega
 have bA:∀c,szQ (getV a c)<=q:=λc=>by rw[M];exact YV hl.szs c
 rw[<-M];have bB:=a8 hl;have e5:=a8 bA;have N:=a8 L;obtain⟨i,O⟩:=ex (oE a);obtain⟨m,Q⟩:=ex i.length;have hU:m<=1000:=by have:=I9 a;rw[Q,O];omega
 have bC:=a8 O;have R:=a8 Q;have hV:=af1;clear M hl bA L O Q;go_enter func36,ntmps36;obtain⟨y,A⟩:=ex (w.alloc (.cells #[] 67));have B:Ext w y:=A▸rE.alloc _;have bD:TO w q y (.slice w 0 0) []:=A▸TO.empty _ _ _ lr;go_wp2_with fail;rw[<-A];refine(MN n _ a y (bB.out.ext B) (by have:=N.out;omega)).mono ?_;rintro e e6 ⟨_,rfl,C,S⟩;rw[<-bC.out]at C;have T:=C.mono B.size;obtain⟨e7,D,rfl, -⟩:=C.opn;rw[<-R.out]at T ⊢;have e8:=bD.ext S;have e9:=B.trans S;have eA:=a8 T;clear C T A bD B S;go_wp2_with fail;go_loopw [3,5] (λeB r wr=>∃(b d g j:Nat),b<=m/\r= .int .i64 (b:Int)/\eB= .slice g d j/\d<=b/\Hid (d=(mkP a i b).length/\TO w q wr (g,d,j) (mkP a i b)/\Ext w wr/\IL w wr (e7,m,D) i)) (λ_ r _=>((m:Int) - intOf r).toNat)
 case atStart=>exact ⟨0,0,w.heap.size,0,zl,rfl,rfl,lr,a8 ⟨by simp[mkP,nz],by simpa[mkP,nz]using e8,e9,eA.out⟩⟩
 case round=>
  obtain⟨b,d,g,j,eC,rfl,rfl,_,o⟩:=hrel;have s:=o.out.2.2.1;have U:=a8 o.out.2.2.2;have hW:=s.size;rcases aI eC with V |V
  .subst V;have eD:¬((b:Int)<b):=om;have hF:Hid (mkP a i b=mkV a):=a8 (by
    unfold mkP;rw[R.out,bN,bC.out];exact ag3 a)
   go_wp2;go_ret;exact⟨_,rfl,by have:=o.out.2.1;rwa [hF.out]at this,s⟩
  .have eD:(b:Int)<m:=om;obtain⟨c,X⟩:∃c,i[b]? =some c:=⟨_,aA (by rw[<-R.out];exact V)⟩;obtain⟨p,rfl,E⟩:=U.out.at X;have hX:=E wr rE;have eE:=a8 E;have HC:=a8 X;obtain⟨k,bE⟩:=ex (getV a c);have t:=a8 bE;clear X E bE;go_wp2_with fail;refine(R7 n _ c a wr (bB.out.ext s) e4 (by have:=N.out;omega)).mono ?_;rw[<-t.out];rintro e bG ⟨_,rfl,F,eG,bO⟩;obtain⟨Y,Z,a0,a1,a2,a3,a4,rfl,F⟩:=F.opn;obtain⟨eN,a5,a6,a7,r⟩:=kR bG #[Y,(Z,a0,a1),(a2,a3,a4)] 63;have a9:=a8 (F.ext a6);obtain⟨bP,bR,bS,-⟩:=a7.cl [0,1,2];rw[a5]at bP bR bS;have bT:=bO.trans a6;have fA:szD k<=68719476736:=by have:=N.out;have h1:a.length*(5*n+1)<=1000*5000001:=cW om om;omega
   clear F eG;go_wp2_with fail;rw[<-a5];refine(JM _ k eN a9.out.cq).mono ?_;rintro e w6 ⟨rfl,I⟩;obtain⟨fB,b0⟩:=ex k.num.sign;rw[<-b0];have c0:=a8 b0;have l:=bT.trans I;have fC:=a7.ext I;have fD:=a8 (a9.out.ext I);clear b0 a5 bP bR bS a9 a7 r bO a6 I bT;by_cases b1:fB=0
   .have u:getV a c=0:=by rw[<-t.out];exact EQ.1 (by rw[<-c0.out];exact b1)
    have v:Hid (mkP a i (b+1)=mkP a i b):=a8 (aa2 HC.out u);subst b1;clear u;go_wp2;go_roundw
    case rel=>exact ⟨b+1,d,g,j,om,sm,rfl,om,a8 ⟨by rw[v.out];exact o.out.1,by rw[v.out];exact o.out.2.1.ext l,s.trans l,U.out.ext l⟩⟩
    case measure=>simp [intOf];omega
   .have u:getV a c≠0:=by rw[<-t.out];exactλb2=>b1 (by rw[c0.out];exact EQ.2 b2)
    have v:Hid (mkP a i (b+1)=mkP a i b++ [(c,k)]):=a8 (by rw[ag4 HC.out u,t.out]);have fE:szQ k<=q:=by rw[t.out];exact e5.out c
    have fG:=o.out.1;have g0:Hid (∀J,Ext w6 J->J.cell? (p,b)=some (.int .i64 c)):=a8 λJ g1=>eE.out J (l.trans g1)
    obtain⟨b3,hpso,b4,c1⟩:=o.out.2.1.ps;have c2:((tsP b3).map tmv).length=d:=KE7;obtain⟨b5,c3,g2⟩:=af3 b4 l;have g3:=a8 hpso;have g4:=a8 b4;have g5:=a8 c1;have c4:=a8 c2;have c5:g<w6.heap.size:=by obtain⟨g6,h1⟩:=b5;exact qJ h1
    have c6:=a8 b5;have c7:=a8 c3;have hY:=l.size;obtain⟨b6,c8⟩:=ex (b+1);have hZ:(b:Int)+1=(b6:Int):=om;have g7:b6<=m:=om;have K:=a8 c8;clear hpso b4 c1 c2 b5 c3 u fG c8;go_wp2_with fail;refine qZ g 9 10 (λx g9=>ApT w w6 d (c) (k) (tsP b3) (g,d,j) x g9) [(g,d,j),(p,m,D),b,(p,b),c,kL (.agg #[Y,(Z,a0,a1),(a2,a3,a4)]),nC k,zN (c) (k),xF (c) (k),kP,kP] [(0,10,3)] [9,8,7,6,5,4,3,2,1,0] kr kr (λf=>(by simp only[mJ,mO,aQ,aV,aZ,Nat.reduceAdd];rfl)) de (c5) (λc9 y e6 b2 hp=>hp.ext b2) (by intro d hp;simp only[aS,bI,or_false]at hp;rcases hp with rfl |rfl |rfl |rfl |rfl |rfl |rfl |rfl |rfl |rfl |rfl<;>rfl) (λ_ _=>trivial) ?_ ?_ de
    .refine⟨?_,oL,oL,?_,?_,?_,?_,?_,?_,?_,?_,trivial⟩
     .intro f w7 hG hp hl;have i0:f 10=(g,d,j):=hl.1 rfl;exact DG6
     .intro f w7 hG hp hl;have i1:f 1=(p,m,D):=lO hp 0 1 rfl rfl;have i2:f 2=b:=lO hp 1 2 rfl rfl;exact DG6
     .intro f w7 hG hp hl;have h:Ext w6 w7:=hG;have i3:f 3=(p,b):=lO hp 0 3 rfl rfl;have E:=g0.out _ h;exact DG6
     .intro f w7 hG hp hl;have h:Ext w6 w7:=hG;change kM _ _ _ f w7 Ext _;exact kZ (P:=prog) _ _ bG _ _ _ rfl rfl rfl (fC.ext h) underlying63 rfl kr rfl
     .intro f w7 hG hp hl;have h:Ext w6 w7:=hG;have hS:=h.size;have gA:f 5= .agg #[Y,(Z,a0,a1),(a2,a3,a4)]:=lO hp 0 5 rfl rfl;change kM _ _ _ f w7 Ext _;refine oC #[f 5] func19 rfl rfl ?_;rw[gA];refine(uI _ k _ (fD.out.ext h).cq fA).mono ?_;exact EL7
     .intro f w7 hG hp hl;have i4:f 4=c:=lO hp 0 4 rfl rfl;have gG:=lO hp 1 6 rfl rfl;obtain⟨gL,gT,h0,h3,h4,h5,h6,tv,tq⟩:=FrQ.opn (gG);change kM _ _ _ f w7 Ext _;simp only[kM];go_simp;exact⟨_,rfl,rE,⟨c,gL,gT,h0,h3,h4,h5,h6⟩,rfl,rfl,tq⟩
     .intro f w7 hG hp hl;have h:Ext w6 w7:=hG;have hS:=h.size;have h7:=lO hp 0 7 rfl rfl;obtain⟨tt,tv,tc,tq⟩:=h7;exact CO8
     .intro f w7 hG hp hl;have h:Ext w6 w7:=hG;have hS:=h.size;have i5:f 0=(g,d,j):=lO hp 0 0 rfl rfl;have i6:=lO hp 1 8 rfl rfl;have h8:f 0=(g,d,j):=lO hp 0 0 rfl rfl;obtain⟨h9,tt,_,hA,hB,hC,hD⟩:=lO hp 1 8 rfl rfl;change kM _ _ _ f w7 (Chg g) _;refine oI (P:=prog) _ _ 32 rfl rfl w 67 4 64 underlying32 kr kr om (g,d,j) d (kX ((tsP b3).map tmv)) h8 (by have:=(g4.out.ext (l.trans h)).2;rw[c4.out]at this;exact this) ⟨h9,0,none⟩ 1 1 [tt.c,tt.b,(tt.a1,tt.n1,tt.c1),(tt.a2,tt.n2,tt.c2)] hA rfl (λ_ c9 hE=>by rw[nO,aY,hB.cell];unfold tmv;simpa[Value.cells]using hE) (by intro c9 e0;simp at e0;rcases e0 with rfl |rfl |rfl |rfl<;>rfl) om (by unfold maxLen;omega) om (by have:=h.size;omega) (λv' w' h1 h2 hH=>⟨c7.out _ _ h2,LU (by have:=c4.out;rw[aF]at this;exact this) h1 hH h.size hC (hD.chg (c7.out _ _ h2) c5)⟩)
     .exact QF5
    .intro f w7 b7 b8 e1 hp;clear hp;obtain⟨tt,go,hI,b9,hJ,hK,hL,hM⟩:=id b8;have e2:=(e1 de).trans b9;have e3:=SG g3.out g5.out l b7 c6.out (b9▸b8) om lr fE;have hN:=a8 e3;have hO:=a8 ((s.trans l).step b7 g2);have hP:=a8 (by obtain⟨g6,hR⟩:=c6.out;exact(U.out.ext l).chgT b7 hR de:IL w w7 (p,m,D) i);rw[e2];clear b8 e1 b9 hJ hK hL hM e3 e2;go_wp2;go_roundw
     case rel=>exact ⟨b6,d+1,go,hI,g7,rfl,sm,by have:=K.out;omega,a8 ⟨by rw[K.out,v.out,aB,<-o.out.1];rfl,by rw[K.out,v.out];exact hN.out,hO.out,hP.out⟩⟩
     case measure=>have:=K.out;simp[intOf];omega
end Go.Proofs.YtjlcilmjfejimaaGreat
