/- A problem's constraints. -/
import Derived.Test.YtjlcilmjfejimaaGreatE
import Derived.Sort.OwnSortedInts
import Derived.Lib.RowBridge
namespace Go.Proofs.YtjlcilmjfejimaaGreat
set_option maxRecDepth 100000
set_option maxHeartbeats 32000000
set_option linter.unusedVariables false
set_option linter.unusedSimpArgs false
open Go.RowKit Tryz
variable{d E u:Value}{q C:Nat}{r a5:World}{y a1:Array Value}{z a3:TypeId}{A:List Oper}{H:(Nat->Value)->Array Value}{J:List (List Int)}{K:List Deferred}{M:Exit->Act->World->Prop}{N:List Int}{T:Value->World->Prop}{U:List Value}{V:CR}{X:Type}{Z a0:Operand}{a2:Bool}{a4:Int}{a6:World->World->Prop}
def BG(N:Nat)(rows:List RwR)(i:Nat):List CR:=(rows.take i).flatMap λr=>oT r.1 true (ltV N r.2)
theorem KI{N:Nat}{b:List RwR}{c:RwR}(d:b[q]? =some c):BG N b (q+1)=BG N b q++oT c.1 true (ltV N c.2):=by
 unfold BG;rw[mP d,fI];simp
def F9(i:Nat):List (Int×Rat):=[((i:Int),((1:Int):Rat))]
def vrD:VrR:=(false,(false,false,0,0),0)
def BH(vs:List VrR)(i:Nat):List CR:=(List.range i).flatMap λj=>oT (vs.getD j vrD).2.1 false (F9 j)
theorem V5{b:List VrR}{c:VrR}(d:b[q]? =some c):BH b (q+1)=BH b q++oT c.2.1 false (F9 q):=by
 unfold BH;rw[gV,fI,List.flatMap_singleton,aO,d];rfl
def rJ(p:PbR):List CR:=BG p.2.length p.1 p.1.length++BH p.2 p.2.length
theorem xU(b:SpR)(c:Bool)(d:List (Int×Rat)):(oT b c d).length<=2:=by
 unfold oT;split
 .simp
 .rw[aB];split<;>split<;>simp
theorem NX(d:Nat)(c:List RwR):∀b,(BG d c b).length<=2*b:=by
 intro b
 induction b with
 |zero=>simp [BG]
 |succ b h=>
  cases i:c[b]? with
  |none=>
   have:c.length<=b:=gR.1 i;unfold BG at h ⊢;rw[aK om];rw[aK this]at h;omega
  |some j=>
   rw[KI i,aB];have:=xU j.1 true (ltV d j.2);omega
theorem XD(c:List VrR):∀b,(BH c b).length<=2*b:=by
 intro b
 induction b with
 |zero=>simp [BH]
 |succ b d=>
  unfold BH at d ⊢;rw[gV,fI,List.flatMap_singleton,aB];have:=xU (c.getD b vrD).2.1 false (F9 b);omega
theorem aa1(c:Nat)(b:List (Int×Rat)):(ltV c b).length<=b.length:=j9 _ _
def CoJ(B K:Nat)(w:World)(u:Value)(n:Nat)(cs:List CR):Prop:=n=cs.length/\CoL B K w u cs
theorem CoL.ge{B c:Nat}{w:World}{b:Value}{d:List CR}(h:CoL B c w b d):∀g,b.ownBlock=some g->B<=g:=by
 obtain⟨_,i, -⟩:=h;exact i.ge
theorem EM(s i Q:Nat)(fD:Value)(x:PbR)(w:World)(d:PbV s w fD x)(bO:∀hX∈x.1,hX.2.length<=Q)(hY:1<=Q)(mA:Q<=1000000)(bP:(Q+1)*(s+1)<=i)(hZ:i<=34359738000)(i0:1<=s)(fE:x.1.length<=100000)(fG:x.2.length<=100000):
  Calls prog 40 #[fD] w λe w'=>∃v',e= .returned v'/\CoL (w.heap.size+1) i w' v' (rJ x)/\Ext w w':=by
 obtain⟨A,E⟩:=x;obtain⟨i1,i2,i3,F,i4,i5,j,i6,rfl,g0,g1⟩:=d;obtain⟨_,n,_,b1,g2, -,bR⟩:=g0.at;simp only[Value.slice.injEq]at g2;obtain⟨rfl,rfl,rfl⟩:=g2;obtain⟨_,n,_,b2,g3,i7,bS⟩:=g1.at;simp only[Value.slice.injEq]at g3;obtain⟨rfl,rfl,rfl⟩:=g3;simp only at b1 b2 bR bS bO fE fG;have g4:=a8 b2;have g5:=a8 b1;have j0:=a8 bS;have j1:=a8 bR;have j2:=a8 bO;rw[<-b1]at fE;rw[<-b2]at fG;have:s+1<=i:=aE (cX _ om) bP;have g6:Hid (∀m:Nat,m<=Q->(m+1)*(s+1)<=i):=a8 λm _=>aE (aJ _ om) bP
 clear g0 g1 b1 b2 bR bS bO bP i7;obtain⟨w1,bT,a1,g7,j3⟩:=kR w #[i1,i2,(i3,F,i4),(i5,j,i6)] 25;have j4:w1.heap.size=w.heap.size+1:=j3;have:∀(g9:Fn) (first L:Array Value) (w:World),(Instr.makeFunc g9 first L).run prog w= .ok (.func g9 first L) w:=λ_ _ _ _=>rfl
 go_enter func40,ntmps40;go_wp2_with fail;rw[<-bT]
 go_loopw [2,11] (λc0 c1 wr=>∃(b n:Nat) (k:Option Addr) (p:Nat),b<=F/\c1= .int .i64 (b:Int)/\c0= .slice k n p/\Hid (CoJ w1 i wr (k,n,p) n (BG j A b))/\Ext w1 wr) (λ_ c1 _=>((F:Int) - intOf c1).toNat)
 case atStart=>exact ⟨0,0,none,0,zl,rfl,rfl,a8 ⟨rfl,OL.nil _ _ _ _ _⟩,rE⟩
 case round=>
  obtain⟨b,n,k,p,b3,rfl,rfl,t,v⟩:=hrel;rcases aI b3 with H |H
  .have c2:¬((b:Int)<F):=om;have hb:=g7.ext v;obtain⟨R,T,U,V,-⟩:=hb.cl [0,1,2,3];have gA:=t.out.1;have c3:=a8 t.out.2;obtain⟨b4,I⟩:=ex (BG j A F);rw[H,<-I]at c3 gA;have j5:=a8 I;have:b4.length<=2*F:=by rw[I];exact NX _ _ _
   have gG:=a8 v;subst gA;clear hb t H b3 v I bT;go_wp2_with fail;go_loopw [2,30] (λc0 c4 wr=>∃(b n:Nat) (k:Option Addr) (p:Nat),b<=j/\c4= .int .i64 (b:Int)/\c0= .slice k n p/\Hid (CoJ w1 i wr (k,n,p) n (b4++BH E b))/\Ext w1 wr) (λ_ c4 _=>((j:Int) - intOf c4).toNat)
   case atStart=>exact ⟨0,b4.length,k,p,zl,rfl,rfl,a8 ⟨by simp[BH],by simpa[BH]using c3.out⟩,gG.out⟩
   clear c3 R T U V gG
   case round=>
    obtain⟨b,n,k,p,b3,rfl,rfl,t,v⟩:=hrel;rcases aI b3 with H |H
    .have c2:¬((b:Int)<j):=om;have j6:=a8 (show CoL (w.heap.size+1) i wr (k,n,p) (rJ (A,E))from by
      have h1:=t.out.2;rw[j4,H,j5.out]at h1;unfold rJ;show CoL _ _ _ _ (BG E.length A A.length++BH E E.length);rw[<-g4.out,<-g5.out];exact h1)
     clear t;go_wp2;go_ret;exact⟨_,rfl,j6.out,a1.trans v⟩
    .have c2:(b:Int)<j:=om;obtain⟨y,J⟩:∃y,E[b]? =some y:=⟨_,aA (by rw[<-g4.out];exact H)⟩;obtain⟨jA,off,rfl,nm,l,h,c,a2,hS, -⟩:=j0.out b y J;obtain⟨I,c5,c6,c7,c8,c9,e0,e1,e2,e3,jB,jC,jD⟩:=a2 wr (a1.trans v);have a3:=a8 (V5 J);obtain⟨u,X,Z,BV,jE⟩:=kR wr #[nm,y.1,y.2.1.1,y.2.1.2.1,l.b,(l.a1,l.n1,l.c1),(l.a2,l.n2,l.c2),h.b,(h.a1,h.n1,h.c1),(h.a2,h.n2,h.c2),c.b,(c.a1,c.n1,c.c1),(c.a2,c.n2,c.c2)] 86;have M:=v.trans Z;have e4:=a8 (hS.ext (a1.trans M));obtain⟨gv,e5⟩:=ex wr.heap.size;rw[<-e5]at BV;have jG:=v.size;have k0:=BV.lt;have:=Z.size;have a4:=t.out.1;have e6:=XD E b;have e7:=xU y.2.1 false (F9 b);obtain⟨K,N⟩:=ex (oT y.2.1 false (F9 b));rw[<-N]at e7;have O:=a8 N;obtain⟨q,C⟩:=ex (b4++BH E b);have:q.length<=2*F+2*b:=by rw[C,aB];omega
     have gL:Hid (CoL w1 i u (k,n,p) q):=a8 (by rw[C];exact t.out.2.ext Z);rw[<-C]at a4;have a5:=a8 C;subst a4;have k1:szQ ((1:Int):Rat)<=s:=aE D3 i0;have k2:=a8 k1;have a6:Hid (((F9 b).length+1)*(s+1)<=i):=a8 (g6.out (F9 b).length hY);have:68719476736<=LIM:=lq;obtain⟨a0,k3,k4,a7,k5⟩:∃a0,a0<u.heap.size/\w1.heap.size<=a0/\(∀b5 a9:World,b5.grownBy a9 (Value.slice k q.length p).ownBlock->Chg a0 b5 a9)/\True:=by
      cases k6:(Value.slice k q.length p).ownBlock with
      |none=>exact ⟨gv,k0,om,λb5 a9 h=>Ext.chg gv h,trivial⟩
      |some g=>
       obtain⟨k7,e8, -⟩:=gL.out;obtain⟨_,_, -, -, -,k8⟩:=e8.opn;obtain⟨-,k9,kA, -⟩:=k8 g k6;exact⟨g,kA,k9,λb5 a9 h=>h,trivial⟩
     have kB:=a8 a7;clear a2 hS J N C t a7 k5 e6;go_wp2_with fail;rw[<-X,<-e5];clear I c5 c6 c7 c8 c9 e0 e1 e2 e3 jB jC jD X e5;refine qZ a0 8 9 (λgT kC=>CoL w1 i kC gT (q++K)) [(k,q.length,p),b,nC ((1:Int):Rat),zN (b:Int) ((1:Int):Rat),xF (b:Int) ((1:Int):Rat),kL (.agg #[nm,y.1,y.2.1.1,y.2.1.2.1,l.b,(l.a1,l.n1,l.c1),(l.a2,l.n2,l.c2),h.b,(h.a1,h.n1,h.c1),(h.a2,h.n2,h.c2),c.b,(c.a1,c.n1,c.c1),(c.a2,c.n2,c.c2)]),kL (.agg #[y.2.1.1,y.2.1.2.1,l.b,(l.a1,l.n1,l.c1),(l.a2,l.n2,l.c2),h.b,(h.a1,h.n1,h.c1),(h.a2,h.n2,h.c2)]),PP.toldP i K,kP,kP] [(0,9,2)] [8,7,6,5,4,3,2,1,0] kr kr (λf=>(by simp only[mJ,mO,aQ,aV,aZ,Nat.reduceAdd];rfl)) de (k3) (λgT w1 h0 h d=>d.ext h) (by intro x d;simp only[aS,bI,or_false]at d;rcases d with rfl |rfl |rfl |rfl |rfl |rfl |rfl |rfl |rfl |rfl<;>rfl) (λ_ _=>trivial) ?_ ?_ de
     .refine⟨?_,oL,?_,?_,?_,?_,?_,?_,?_,?_,trivial⟩
      .intro f w7 r d D;have:f 9=(k,q.length,p):=D.1 rfl;exact DG6
      .intro f w7 r d D;have hE:Ext u w7:=r;have hS:=hE.size;change kM _ _ _ f w7 Ext _;refine oC #[(1:Int)] func41 rfl rfl ?_;refine(mT 1 _ om om).mono ?_;exact EL7
      .intro f w7 r d D;have:f 1=b:=lO d 0 1 rfl rfl;have kD:=lO d 1 2 rfl rfl;obtain⟨kE,kG,l0,l1,l2,l3,l4,tv,tq⟩:=FrQ.opn kD;change kM _ _ _ f w7 Ext _;simp only[kM];go_simp;exact⟨_,rfl,rE,⟨(b:Int),kE,kG,l0,l1,l2,l3,l4⟩,rfl,rfl,tq⟩
      .intro f w7 r d D;have hE:Ext u w7:=r;have hS:=hE.size;have l5:=lO d 0 3 rfl rfl;obtain⟨tt,tv,tc,tq⟩:=l5;exact CO8
      .intro f w7 r d D;have hE:Ext u w7:=r;change kM _ _ _ f w7 Ext _;exact eb1
      .intro f w7 r d D;have l6:f 5= .agg #[nm,y.1,y.2.1.1,y.2.1.2.1,l.b,(l.a1,l.n1,l.c1),(l.a2,l.n2,l.c2),h.b,(h.a1,h.n1,h.c1),(h.a2,h.n2,h.c2),c.b,(c.a1,c.n1,c.c1),(c.a2,c.n2,c.c2)]:=lO d 0 5 rfl rfl;change kM _ _ _ f w7 Ext _;refine oC #[f 5] func87 rfl rfl ?_;rw[l6];exact fu3
      .intro f w7 r d D;have hE:Ext u w7:=r;have hS:=hE.size;have h3:=lO d 0 4 rfl rfl;have l7:f 6= .agg #[y.2.1.1,y.2.1.2.1,l.b,(l.a1,l.n1,l.c1),(l.a2,l.n2,l.c2),h.b,(h.a1,h.n1,h.c1),(h.a2,h.n2,h.c2)]:=lO d 1 6 rfl rfl;change kM _ _ _ f w7 Ext _;refine oC #[f 4,f 6,false] func85 rfl rfl ?_;rw[l7];have h4:=ab1 (k:=s) h3 k2.out om;obtain⟨_,tq, -,l9, -⟩:=h3;rw[l9]at h4 ⊢;refine(IU s i l h y.2.1 false (F9 b) _ (e4.out.ext hE) h4 (by simp[F9]) (aE a6.out hZ) a6.out).mono ?_;rintro e w' ⟨v',rfl,h1,h2,lA⟩;exact⟨v',rfl,lA,w7.heap.size+3,om,by rw[O.out];exact h1,by rw[O.out];exact h2⟩
      .intro f w7 r d D;have hE:Ext u w7:=r;have hS:=hE.size;have:f 0=(k,q.length,p):=lO d 0 0 rfl rfl;have:=lO d 1 7 rfl rfl;have lB:f 0=(k,q.length,p):=lO d 0 0 rfl rfl;obtain⟨lC,_,lD,lE⟩:=lO d 1 7 rfl rfl;change kM _ _ _ f w7 (Chg a0) _;exact MJ rfl _ _ rfl w1 lC i _ _ q K lB (gL.out.ext hE) rfl lD lE om om om (λa9 h=>kB.out _ _ h) (λv' w' h=>h)
      .intro f w7 r d D;have hS:u.heap.size<=w7.heap.size:=Chg.size r;exact jw6
     .intro f w7 h5 b6 h6 d;clear d;have e9:Ext w1 w7:=M.step h5 k4;have lG:∃b7 L,f 8= .slice b7 (q.length+K.length) L:=by
       obtain⟨k7,e8,m0, -⟩:=b6;obtain⟨b7,L,h⟩:=lI e8.2;exact⟨b7,L,by rw[h,m0,aB]⟩
      obtain⟨eA,eB,h7⟩:=lG;have eC:=h6 de;rw[h7]at b6 eC;have m1:=a8 b6;(try rw[eC]);(try rw[h7]);clear b6 h6 h5;go_wp2;go_roundw
      case rel=>
       refine⟨b+1,q.length+K.length,eA,eB,om,ci om,(by first |rfl |exact eC |simp_all),a8 ⟨?_,?_⟩,e9⟩
       .rw[a3.out,<-aG,<-a5.out,<-O.out,aB]
       .rw[a3.out,<-aG,<-a5.out,<-O.out];exact m1.out
      case measure=>simp [intOf];omega
  .have c2:(b:Int)<F:=om;obtain⟨y,J⟩:∃y,A[b]? =some y:=⟨_,aA (by rw[<-g5.out];exact H)⟩;obtain⟨jA,off,rfl,nm,l,h,h8,h9,tc,a2,hS,hA⟩:=j1.out b y J;obtain⟨I,c5,c6,c7,c8,c9,e0,e1,e2,e3⟩:=a2 wr (a1.trans v);have e4:=a8 hS;have m2:=a8 hA;have a3:=a8 (KI (N:=j) J);have eD:=a8 (j2.out y (aM J));obtain⟨u,X,Z,eE,jE⟩:=kR wr #[nm,y.1.1,y.1.2.1,l.b,(l.a1,l.n1,l.c1),(l.a2,l.n2,l.c2),h.b,(h.a1,h.n1,h.c1),(h.a2,h.n2,h.c2),(h8,h9,tc)] 81;have M:=v.trans Z;have b0:=eE;obtain⟨R,T,U,V,b8,b9,bA,bB,bC,bD,-⟩:=b0.cl [0,1,2,3,4,5,6,7,8,9];rw[X]at R T U V b8 b9 bA bB bC bD;clear a2 hS hA J b0;go_wp2_with fail;rw[<-X];have jG:=v.size;obtain⟨_,a7⟩:=ex wr.heap.size;rw[<-a7]at eE ⊢;clear I c5 c6 c7 c8 c9 e0 e1 e2 e3 R T U V b8 b9 bA bB bC bD X a7 bT;have hB:=a1.trans M;refine(yZ s _ y.2 u (m2.out.ext hB) (by have:=eD.out;omega)).mono ?_;rintro e h0 ⟨_,bE,rfl,hC,eG,hD,hG⟩;have hH:=a8 hC;have hI:=a8 (aD eG hD);have hJ:=g7.ext (M.trans hG);have hK:bE.length<=34359738368:=by
    have h1:(lP bE).length=bE.length:=by unfold lP;simp
    rw[eG]at h1;have:=eD.out;omega
   clear hC eG hD;go_wp2_with fail;refine(RN u w j _ bE h0 hH.out hK hJ).mono ?_;rintro e eN ⟨hL,rfl,fA,hM⟩;have fB:Ext u eN:=hG.stepG hM hH.out.ge;have m3:Hid (TL s eN hL (ltV j y.2)):=a8 (by
    have h1:=LS.tl (k:=s) fA (λx d=>((hI.out.2 x (dV.1 d).1)).ext fB);rw[af9,hI.out.1]at h1;exact h1)
   clear hM hJ hK;obtain⟨_,_,_,rfl⟩:∃a n c,hL= .slice a n c:=by
    obtain⟨b7,L,h1, -⟩:=fA.opn;exact⟨_,_,_,h1⟩
   have b0:=eE.ext fB;obtain⟨R,T,U,V,b8,b9,bA,bB,bC,bD,-⟩:=b0.cl [0,1,2,3,4,5,6,7,8,9];clear fA b0;go_wp2_with fail;refine(ET nm l h h8 h9 tc y.1.1 y.1.2.1 eN).mono ?_;rintro e hN ⟨rfl,hO⟩;have bG:=fB.trans hO;have m4:=hB.trans bG;have m5:(ltV j y.2).length<=Q:=aE (aa1 _ _) eD.out;have a6:=a8 (g6.out _ m5);clear R T U V b8 b9 bA bB bC bD;go_wp2_with fail;refine(IU s i l h y.1 true (ltV j y.2) hN (e4.out.ext m4) (m3.out.ext hO) om (by have:=a6.out;omega) a6.out).mono ?_;rintro e m6 ⟨_,rfl,hP,hR,hT⟩;have hU:=M.trans (bG.trans hT);have hV:=a8 hP;have hW:=a8 hR;have fC:Hid (CoL w1 i m6 (k,n,p) (BG j A b)):=a8 (t.out.2.ext (Z.trans (bG.trans hT)));have a4:=t.out.1;have e6:=NX j A b;have e7:=xU y.1 true (ltV j y.2);have:=hU.size;have:=(M.trans bG).size;obtain⟨K,N⟩:=ex (oT y.1 true (ltV j y.2));rw[<-N]at hV hW e7;have O:=a8 N;obtain⟨q,C⟩:=ex (BG j A b);rw[<-C]at fC a4 e6;have a5:=a8 C;subst a4;clear hP hR N C t;go_wp2_with (first
    | (at_builtin;go_loud (refine ED rfl _ _ rfl w1 (hN.heap.size+3) i _ _ q K rfl fC.out rfl hV.out hW.out om om om ?_);intro eA eB w7 m7 m8)
    |fail)
   go_roundw
   case rel=>
    have e9:Ext w1 w7:=hU.stepG m8 fC.out.ge;refine⟨b+1,q.length+K.length,eA,eB,om,ci om,rfl,a8 ⟨?_,?_⟩,e9⟩
    .rw[a3.out,<-a5.out,<-O.out,aB]
    .rw[a3.out,<-a5.out,<-O.out];exact m7
   case measure=>simp [intOf];omega
abbrev RwE:=ByteArray×(Bool×Bool)×(RE×RE)×List TE
abbrev VrE:=ByteArray×(Bool×Bool×Bool)×(RE×RE×RE)
abbrev PbE:=(ByteArray×ByteArray)×List RwE×List VrE
def LA(r:RwE):RwR:=((r.2.1.1,r.2.1.2,pX r.2.2.1.1,pX r.2.2.1.2),sY r.2.2.2)
def EX(v:VrE):VrR:=(v.2.1.1,(v.2.1.2.1,v.2.1.2.2,pX v.2.2.1,pX v.2.2.2.1),pX v.2.2.2.2)
def pP(p:PbE):PbR:=(p.2.1.map LA,p.2.2.map EX)
def W1(r:RwE):Prop:=mH r.2.2.1.1<=6/\mH r.2.2.1.2<=6/\r.2.2.2.length<=30/\∀e∈r.2.2.2,mH e.2<=6
def Y0(v:VrE):Prop:=mH v.2.2.1<=6/\mH v.2.2.2.1<=6/\mH v.2.2.2.2<=6
def RQ(p:PbE):Prop:=p.2.1.length<=70/\p.2.2.length<=50/\(∀r∈p.2.1,W1 r)/\∀v∈p.2.2,Y0 v
def RwH(w:World)(v:Value)(r:RwE):Prop:=∃(l h:QC) (ta:Option Addr) (tn tc:Nat),v= .agg #[r.1,r.2.1.1,r.2.1.2,l.b,(l.a1,l.n1,l.c1),(l.a2,l.n2,l.c2),h.b,(h.a1,h.n1,h.c1),(h.a2,h.n2,h.c2),(ta,tn,tc)]/\o9 w (.agg #[l.b,(l.a1,l.n1,l.c1),(l.a2,l.n2,l.c2)]) r.2.2.1.1/\o9 w (.agg #[h.b,(h.a1,h.n1,h.c1),(h.a2,h.n2,h.c2)]) r.2.2.1.2/\TLE w (ta,tn,tc) r.2.2.2
def VrH(w:World)(v:Value)(r:VrE):Prop:=∃(l h c:QC),v= .agg #[r.1,r.2.1.1,r.2.1.2.1,r.2.1.2.2,l.b,(l.a1,l.n1,l.c1),(l.a2,l.n2,l.c2),h.b,(h.a1,h.n1,h.c1),(h.a2,h.n2,h.c2),c.b,(c.a1,c.n1,c.c1),(c.a2,c.n2,c.c2)]/\o9 w (.agg #[l.b,(l.a1,l.n1,l.c1),(l.a2,l.n2,l.c2)]) r.2.2.1/\o9 w (.agg #[h.b,(h.a1,h.n1,h.c1),(h.a2,h.n2,h.c2)]) r.2.2.2.1/\o9 w (.agg #[c.b,(c.a1,c.n1,c.c1),(c.a2,c.n2,c.c2)]) r.2.2.2.2
theorem RwH.ext{w d:World}{h:Value}{i:RwE}(b:RwH w h i)(c:Ext w d):RwH d h i:=by
 obtain⟨j,b,k,l,p,q,r,s,t⟩:=b;exact⟨j,b,k,l,p,q,r.ext c,s.ext c,t.ext c⟩
theorem VrH.ext{w d:World}{h:Value}{i:VrE}(b:VrH w h i)(c:Ext w d):VrH d h i:=by
 obtain⟨j,b,k,l,p,q,r⟩:=b;exact⟨j,b,k,l,p.ext c,q.ext c,r.ext c⟩
def LO(w:World)(u:Value)(l:List RwE):Prop:=SL 10 RwH w u l
def FW(w:World)(u:Value)(l:List VrE):Prop:=SL 13 VrH w u l
theorem LO.ext{w c:World}{d:Value}{h:List RwE}(b:LO w d h)(i:Ext w c):LO c d h:=SL.ext (λ_ _ b=>b.ext i) b i
theorem FW.ext{w c:World}{d:Value}{h:List VrE}(b:FW w d h)(i:Ext w c):FW c d h:=SL.ext (λ_ _ b=>b.ext i) b i
def PbH(w:World)(v:Value)(p:PbE):Prop:=∃(ra:Option Addr) (rn rc:Nat) (va:Option Addr) (vn vc:Nat),v= .agg #[p.1.1,p.1.2,(ra,rn,rc),(va,vn,vc)]/\LO w (ra,rn,rc) p.2.1/\FW w (va,vn,vc) p.2.2
theorem PbH.ext{w b:World}{c:Value}{d:PbE}(i:PbH w c d)(h:Ext w b):PbH b c d:=by
 obtain⟨j,k,l,p,q,r,s,t,u⟩:=i;exact⟨j,k,l,p,q,r,s,t.ext h,u.ext h⟩
theorem o9.is6{w:World}{e:RE}(b:o9 w d e)(c:mH e<=6):IsR w d (pX e) 6:=by
 unfold mH at c;exact b.1.isR b.2.1 b.2.2.1 6 om om om lq
theorem RwH.rwv{w:World}{b:RwE}(c:RwH w d b)(h:W1 b):RwV 6 w d (LA b):=by
 obtain⟨i,c,j,k,l,p,q,r,s⟩:=c;exact⟨_,i,c,j,k,l,p,⟨q.is6 h.1,r.is6 h.2.1⟩,s.tl 6 om lq h.2.2.2⟩
theorem LO.at{w:World}{c:List RwE}(d:LO w u c):∃l m s,m=c.length/\u= .slice l m s/\m<=9223372036854775807/\∀(i:Nat) (k:RwE),c[i]? =some k->∃g off,l=some ⟨g,off,none⟩/\∃(c d:QC) (p:Option Addr) (q r:Nat),
  (∀b,Ext w b->b.cell? ⟨g,off+i*10,none⟩=some (.string k.1)/\b.cell? ⟨g,off+i*10+1,none⟩=some (.bool k.2.1.1)/\b.cell? ⟨g,off+i*10+2,none⟩=some (.bool k.2.1.2)/\b.cell? ⟨g,off+i*10+3,none⟩=some (.bool c.b)/\b.cell? ⟨g,off+i*10+4,none⟩=some (.slice c.a1 c.n1 c.c1)/\b.cell? ⟨g,off+i*10+5,none⟩=some (.slice c.a2 c.n2 c.c2)/\b.cell? ⟨g,off+i*10+6,none⟩=some (.bool d.b)/\b.cell? ⟨g,off+i*10+7,none⟩=some (.slice d.a1 d.n1 d.c1)/\b.cell? ⟨g,off+i*10+8,none⟩=some (.slice d.a2 d.n2 d.c2)/\b.cell? ⟨g,off+i*10+9,none⟩=some (.slice p q r))/\
  o9 w (.agg #[c.b,(c.a1,c.n1,c.c1),(c.a2,c.n2,c.c2)]) k.2.2.1.1/\o9 w (.agg #[d.b,(d.a1,d.n1,d.c1),(d.a2,d.n2,d.c2)]) k.2.2.1.2/\TLE w (p,q,r) k.2.2.2:=by
 obtain⟨l,m,s,t,v,x,y⟩:=d.opn;refine⟨l,m,s,t,v,x,λi z A=> ?_⟩;obtain⟨g,off,C,xs,_,h,c,d,p,q,r,D,E,F,H⟩:=y i z A
 cases D
 exact⟨g,off,C,c,d,p,q,r,λb j=>⟨h b j 0 _ rfl,h b j 1 _ rfl,h b j 2 _ rfl,h b j 3 _ rfl,h b j 4 _ rfl,h b j 5 _ rfl,h b j 6 _ rfl,h b j 7 _ rfl,h b j 8 _ rfl,h b j 9 _ rfl⟩,E,F,H⟩
theorem FW.at{w:World}{c:List VrE}(d:FW w u c):∃p m q,m=c.length/\u= .slice p m q/\m<=9223372036854775807/\∀(i:Nat) (l:VrE),c[i]? =some l->∃g off,p=some ⟨g,off,none⟩/\∃(c d h:QC),
  (∀b,Ext w b->b.cell? ⟨g,off+i*13,none⟩=some (.string l.1)/\b.cell? ⟨g,off+i*13+1,none⟩=some (.bool l.2.1.1)/\b.cell? ⟨g,off+i*13+2,none⟩=some (.bool l.2.1.2.1)/\b.cell? ⟨g,off+i*13+3,none⟩=some (.bool l.2.1.2.2)/\b.cell? ⟨g,off+i*13+4,none⟩=some (.bool c.b)/\b.cell? ⟨g,off+i*13+5,none⟩=some (.slice c.a1 c.n1 c.c1)/\b.cell? ⟨g,off+i*13+6,none⟩=some (.slice c.a2 c.n2 c.c2)/\b.cell? ⟨g,off+i*13+7,none⟩=some (.bool d.b)/\b.cell? ⟨g,off+i*13+8,none⟩=some (.slice d.a1 d.n1 d.c1)/\b.cell? ⟨g,off+i*13+9,none⟩=some (.slice d.a2 d.n2 d.c2)/\b.cell? ⟨g,off+i*13+10,none⟩=some (.bool h.b)/\b.cell? ⟨g,off+i*13+11,none⟩=some (.slice h.a1 h.n1 h.c1)/\b.cell? ⟨g,off+i*13+12,none⟩=some (.slice h.a2 h.n2 h.c2))/\
  o9 w (.agg #[c.b,(c.a1,c.n1,c.c1),(c.a2,c.n2,c.c2)]) l.2.2.1/\o9 w (.agg #[d.b,(d.a1,d.n1,d.c1),(d.a2,d.n2,d.c2)]) l.2.2.2.1/\o9 w (.agg #[h.b,(h.a1,h.n1,h.c1),(h.a2,h.n2,h.c2)]) l.2.2.2.2:=by
 obtain⟨p,m,q,r,s,t,v⟩:=d.opn;refine⟨p,m,q,r,s,t,λi h x=> ?_⟩;obtain⟨g,off,y,xs,_,j,c,d,z,A,C,D,E⟩:=v i h x
 cases A
 exact⟨g,off,y,c,d,z,λb k=>⟨j b k 0 _ rfl,j b k 1 _ rfl,j b k 2 _ rfl,j b k 3 _ rfl,j b k 4 _ rfl,j b k 5 _ rfl,j b k 6 _ rfl,j b k 7 _ rfl,j b k 8 _ rfl,j b k 9 _ rfl,j b k 10 _ rfl,j b k 11 _ rfl,j b k 12 _ rfl⟩,C,D,E⟩
def vU(e:RE):Prop:=Dig W e.2.1/\Dig W e.2.2/\e.2.1.length+e.2.2.length<=9223372036854775807
theorem qW{g o:Nat}{a:Value}(i:r.cell? (g,o)=some a)(j:r.cell? (g,o+1)=some d)(k:r.cell? (g,o+2)=some E):∀(c:Nat) (h:Value),(#[a,d,E]:Array Value)[c]? =some h->r.cell? (g,o+c)=some h:=by
 intro c h b;match c,b with
 |0,b=>cases b;exact i
 |1,b=>cases b;exact j
 |2,b=>cases b;exact k
 |c+3,b=>simp at b
def CB{S:Nat}(vs:List Value):PP S:=⟨false,λu w=>∃(g:Nat),S<=g/\u=(g,vs.length,vs.length)/\Bx 37 w g (kX vs).toArray,λ_ _ _ h hp=>(let ⟨g,h0,h1,h2⟩:=hp;⟨g,h0,h1,h2.ext h⟩),λ_ _ hg _ _ _ h hp=>(let ⟨g,h0,h1,h2⟩:=hp;⟨g,h0,h1,h2.chg h om⟩)⟩
theorem UK{g:Nat}{w:World}(b:List Value)(h:List RE)(k:pW 3 b)(l:Bx 37 w g (kX b).toArray)(i:q=b.length)(s:q=h.length)(p:q<=9223372036854775807)(r:∀(j:Nat) (c:Value) (d:RE),b[j]? =some c->h[j]? =some d->o9 w c d):SLQ w (.slice (some ⟨g,0,Option.none⟩) q q) h:=by
 have:=LS.of_hold (e:=37) (n:=3) (B:=0) (w:=w) (vs:=b) (g:=g) (cap:=q) (rest:=[]) k zl om p (by rw[i];simp) (by rw[cF];exact l);rw[<-i]at this;exact OL.sl (R:=λw c d=>o9 w c d) ⟨b,this,om,r⟩ om
theorem qcN(b:List QC):pW 3 (b.map qv):=by
 intro _ c;obtain⟨_, -,rfl⟩:=bJ.1 c;exact⟨_,rfl,rfl,yA rfl rfl rfl⟩
theorem UL{g:Nat}{w:World}{d h:QC}{i j:RE}(l:Bx 37 w g (kX [qv d,qv h]).toArray)(p:o9 w (qv d) i)(q:o9 w (qv h) j):SLQ w (.slice g 2 2) [i,j]:=
 UK [qv d,qv h] _ (qcN [d,h]) l rfl rfl om λk _ _ b c=>by
  match k,b,c with
  |0,b,c=>cases b;cases c;exact p
  |1,b,c=>cases b;cases c;exact q
  |k+2,b,c=>simp at b
theorem LF{g:Nat}{w:World}{d h i:QC}{j k l:RE}(q:Bx 37 w g (kX [qv d,qv h,qv i]).toArray)(r:o9 w (qv d) j)(s:o9 w (qv h) k)(t:o9 w (qv i) l):SLQ w (.slice g 3 3) [j,k,l]:=
 UK [qv d,qv h,qv i] _ (qcN [d,h,i]) q rfl rfl om λp _ _ b c=>by
  match p,b,c with
  |0,b,c=>cases b;cases c;exact r
  |1,b,c=>cases b;cases c;exact s
  |2,b,c=>cases b;cases c;exact t
  |p+3,b,c=>simp at b
def GrP(p:PbE)(w:World)(e:Ending)(w':World):Prop:=∃b,e= .returned (.bool b)/\(b=false->RQ p)/\Ext w w'
theorem GrP.mk{c:PbE}{w:World}{e:Ending}(b:Bool)(d:e= .returned b)(h:b=false->RQ c)(i:Ext w r):GrP c w e r:=⟨b,d,h,i⟩
theorem JG(e4:Value)(b6:PbE)(w:World)(fB:PbH w e4 b6):
  Calls prog 5 #[e4] w λe w'=>GrP b6 w e w':=by
 obtain⟨⟨e5,e6⟩,V,X⟩:=b6;obtain⟨fC,q,A,fD,t,F,rfl,l,e7⟩:=fB;obtain⟨_,n,_,b7,e8,_,b8⟩:=l.at;simp only[Value.slice.injEq]at e8;obtain⟨rfl,rfl,rfl⟩:=e8;obtain⟨_,n,_,b9,e9,_,bA⟩:=e7.at;simp only[Value.slice.injEq]at e9;obtain⟨rfl,rfl,rfl⟩:=e9;simp only at b7 b9 b8 bA;have bB:=a8 b9;have bC:=a8 b7;have fE:=a8 bA;have fG:=a8 b8;clear l e7 b7 b9 b8 bA;obtain⟨w1,bD,e1,a0,_⟩:=kR w #[e5,e6,(fC,q,A),(fD,t,F)] 25;go_enter func5,ntmps5;go_wp2_with fail;rw[<-bD];go_loopw [3,4] (λbE bG wr=>∃(i:Nat) (u:Int),i<=q/\bG= .int .i64 (i:Int)/\bE= .int .i64 u/\Hid (∀r∈V.take i,W1 r)/\Ext w1 wr) (λ_ bG _=>((q:Int) - intOf bG).toNat)
 case atStart=>exact ⟨0,0,zl,rfl,rfl,a8 (λr l=>by simp at l),rE⟩
 case round=>
  obtain⟨i,u,b2,rfl,rfl,C,hE0⟩:=hrel;rcases aI b2 with Z |Z
  .have bO:¬((i:Int)<q):=om;have g0:Hid (∀r∈V,W1 r):=a8 (by
    have a1:=C.out;rw[aK (by rw[<-bC.out];omega)]at a1;exact a1)
   have v:=a0.ext hE0;obtain⟨x,y,hp2,z,-⟩:=v.cl [0,1,2,3];have E0:=a8 hE0;clear v C Z b2 hE0 bD;go_wp2_with fail;go_loopw [3,5] (λbE bP wr=>∃(i:Nat) (u:Int),i<=t/\bP= .int .i64 (i:Int)/\bE= .int .i64 u/\Hid (∀r∈X.take i,Y0 r)/\Ext w1 wr) (λ_ bP _=>((t:Int) - intOf bP).toNat)
   case atStart=>exact ⟨0,u,zl,rfl,rfl,a8 (λr l=>by simp at l),E0.out⟩
   clear x y hp2 z E0
   case round=>
    obtain⟨i,u,b2,rfl,rfl,C,hE0⟩:=hrel;have BPj:=a0.ext hE0;rcases aI b2 with Z |Z
    .have bO:¬((i:Int)<t):=om;have g1:Hid (∀r∈X,Y0 r):=a8 (by
      have a1:=C.out;rw[aK (by rw[<-bB.out];omega)]at a1;exact a1)
     obtain⟨x,y,hp2,z,-⟩:=BPj.cl [0,1,2,3];have g2:Hid (q<=70->t<=50->RQ ((e5,e6),V,X)):=a8 λeA h2=>⟨by show V.length<=70;rw[<-bC.out];exact eA,by show X.length<=50;rw[<-bB.out];exact h2,g0.out,g1.out⟩
     have E0:=e1.trans hE0;clear C BPj hE0;by_cases eA:70<q
     .have g3:(70:Int)<(q:Int):=om;exact AC7
     .have g3:¬(70:Int)<(q:Int):=om;by_cases h2:50<t
      .have g4:(50:Int)<(t:Int):=om;exact AC7
      .have g4:¬(50:Int)<(t:Int):=om;have bR:=a8 (g2.out om om);by_cases g5:18<u
       .exact AC7
       .have hV:decide (18<u)=false:=decide_eq_false g5;go_wp2;go_ret;exact GrP.mk false sm (λ_=>bR.out) E0
    .have bO:(i:Int)<t:=om;obtain⟨k,H⟩:∃k,X[i]? =some k:=⟨_,aA (by rw[<-bB.out];exact Z)⟩;obtain⟨g,off,rfl,s,h,D,hcell,a2,a3,eB⟩:=fE.out i k H;have HCL:=a8 hcell;have a4:=a8 a2;have a5:=a8 a3;have HC:=a8 eB;have bS:=a8 (mP H);obtain⟨d1,a6⟩:=ex (oU [k.2.2.1,k.2.2.2.1,k.2.2.2.2]);have HD1:=a8 a6;obtain⟨a7,a9⟩:=ex (lQ [k.2.2.1,k.2.2.2.1,k.2.2.2.2]);have HQ:=a8 a9;obtain⟨t1,b0⟩:=ex (IntKind.i64.wrap (u+(a7:Int)));have bT:=a8 b0.symm;clear hcell a2 a3 eB H a6 a9 b0;obtain⟨x,y,hp2,z,-⟩:=BPj.cl [0,1,2,3];go_wp2_with fail;clear x y hp2 z;refine wpQ [(w,3),(g,off,t,F),i,(g,off+i*13),(g,off+i*13+4),(qv s),(w,3),(g,off,t,F),i,(g,off+i*13),(g,off+i*13+7),(qv h),(w,3),(g,off,t,F),i,(g,off+i*13),(g,off+i*13+10),(qv D),CB [qv s,qv h,qv D],d1] [] [0,1,2,3,4,5,6,7,8,9,10,11,12,13,14,15,16,17,18,19] ?_ ?_
     .refine⟨oL,?_,oL,oL,oL,?_,oL,?_,oL,oL,oL,?_,oL,?_,oL,oL,oL,?_,?_,?_,trivial⟩
      .intro f c d b j;have hE:Ext wr c:=d;have hW:=tE b 0 0 rfl rfl rfl;exact RF7
      .intro f c d b j;have hE:Ext wr c:=d;have g6:=tE b 0 4 rfl rfl rfl;change kM _ _ _ f c Ext _;obtain⟨-, -, -, -,I,J,K, -⟩:=HCL.out _ (e1.trans (hE0.trans hE));exact kW (P:=prog) _ _ g (off+i*13+4) _ _ rfl rfl g6 (qW I J K) underlying37 rfl kr rfl
      .intro f c d b j;have hE:Ext wr c:=d;have hX:=tE b 0 6 rfl rfl rfl;exact RF7
      .intro f c d b j;have hE:Ext wr c:=d;have g7:=tE b 0 10 rfl rfl rfl;change kM _ _ _ f c Ext _;obtain⟨-, -, -, -, -, -, -,L,M,c0, -⟩:=HCL.out _ (e1.trans (hE0.trans hE));exact kW (P:=prog) _ _ g (off+i*13+7) _ _ rfl rfl g7 (qW L M c0) underlying37 rfl kr rfl
      .intro f c d b j;have hE:Ext wr c:=d;have hY:=tE b 0 12 rfl rfl rfl;exact RF7
      .intro f c d b j;have hE:Ext wr c:=d;have g9:=tE b 0 16 rfl rfl rfl;change kM _ _ _ f c Ext _;obtain⟨-, -, -, -, -, -, -, -, -, -,c1,c2,c3⟩:=HCL.out _ (e1.trans (hE0.trans hE));exact kW (P:=prog) _ _ g (off+i*13+10) _ _ rfl rfl g9 (qW c1 c2 c3) underlying37 rfl kr rfl
      .intro f c d b j;have hE:Ext wr c:=d;have N:=hE.size;have gA:=tE b 0 5 rfl rfl rfl;have gG:=tE b 1 11 rfl rfl rfl;have gL:=tE b 2 17 rfl rfl rfl;change kM _ _ _ f c Ext _;exact lH (P:=prog) 41 37 3 3 _ [qv s,qv h,qv D] rfl rfl underlying41 kr kr (by simp only[Act.eval];exact congr (congr (congrArg (λO Q c4=> [(0,O),(1,Q),(2,c4)]) gA) gG) gL) rfl om om om (qcN [s,h,D]).size (λw' b1 v=>⟨_,N,rfl,v⟩)
      .intro f c d b j;have hE:Ext wr c:=d;have gT:=kO b 0 18 rfl rfl (λ_=>hE);change kM _ _ _ f c Ext _;refine oC #[f 18] func25 rfl rfl ?_;obtain⟨c5, -,R,T⟩:=gT;rw[R];have U:=LF T (a4.out.ext (e1.trans (hE0.trans hE))) (a5.out.ext (e1.trans (hE0.trans hE))) (HC.out.ext (e1.trans (hE0.trans hE)));refine(vN _ [k.2.2.1,k.2.2.2.1,k.2.2.2.2] _ U).mono ?_;exact fX4
     .intro f p d b;have hE:Ext wr p:=mV.nil d;have h0:f 19=d1:=rM b 19 de rfl (λh=>by cases h);try simp only[h0]
      clear b;have hEq:=hE0.trans hE
      cases d1 with
      |true=>
       exact xd3
      |false=>
       have E:=a8 (tU HD1.out.symm).2;have c6:Hid (∀r∈X.take (i+1),Y0 r):=a8 λr l=>by
        rw[bS.out]at l;rcases aW.1 l with l |l
        .exact C.out r l
        .rw[aC]at l;subst l;exact⟨E.out _ sm,E.out _ sm,E.out _ sm⟩
       clear C;clear hE0;have hE0:=hEq;have BPj:=a0.ext hE0;clear hE hEq;obtain⟨x,y,hp2,z,-⟩:=BPj.cl [0,1,2,3];go_wp2_with fail;clear x y hp2 z;refine wpQ [u,(w,3),(g,off,t,F),i,(g,off+i*13),(g,off+i*13+4),(qv s),(w,3),(g,off,t,F),i,(g,off+i*13),(g,off+i*13+7),(qv h),(w,3),(g,off,t,F),i,(g,off+i*13),(g,off+i*13+10),(qv D),CB [qv s,qv h,qv D],a7,t1,t1] [(0,22,3)] [0,1,2,3,4,5,6,7,8,9,10,11,12,13,14,15,16,17,18,19,20,21,22] ?_ ?_
       .refine⟨?_,oL,?_,oL,oL,oL,?_,oL,?_,oL,oL,oL,?_,oL,?_,oL,oL,oL,?_,?_,?_,?_,oL,trivial⟩
        .intro f c d b j;have h1:f 22=u:=j.1 rfl;exact DG6
        .intro f c d b j;have hE:Ext p c:=d;have hZ:=tE b 0 1 rfl rfl rfl;exact RF7
        .intro f c d b j;have hE:Ext p c:=d;have h3:=tE b 0 5 rfl rfl rfl;change kM _ _ _ f c Ext _;obtain⟨-, -, -, -,I,J,K, -⟩:=HCL.out _ (e1.trans (hE0.trans hE));exact kW (P:=prog) _ _ g (off+i*13+4) _ _ rfl rfl h3 (qW I J K) underlying37 rfl kr rfl
        .intro f c d b j;have hE:Ext p c:=d;have i0:=tE b 0 7 rfl rfl rfl;exact RF7
        .intro f c d b j;have hE:Ext p c:=d;have h4:=tE b 0 11 rfl rfl rfl;change kM _ _ _ f c Ext _;obtain⟨-, -, -, -, -, -, -,L,M,c0, -⟩:=HCL.out _ (e1.trans (hE0.trans hE));exact kW (P:=prog) _ _ g (off+i*13+7) _ _ rfl rfl h4 (qW L M c0) underlying37 rfl kr rfl
        .intro f c d b j;have hE:Ext p c:=d;have i1:=tE b 0 13 rfl rfl rfl;exact RF7
        .intro f c d b j;have hE:Ext p c:=d;have h5:=tE b 0 17 rfl rfl rfl;change kM _ _ _ f c Ext _;obtain⟨-, -, -, -, -, -, -, -, -, -,c1,c2,c3⟩:=HCL.out _ (e1.trans (hE0.trans hE));exact kW (P:=prog) _ _ g (off+i*13+10) _ _ rfl rfl h5 (qW c1 c2 c3) underlying37 rfl kr rfl
        .intro f c d b j;have hE:Ext p c:=d;have N:=hE.size;have h6:=tE b 0 6 rfl rfl rfl;have h7:=tE b 1 12 rfl rfl rfl;have h8:=tE b 2 18 rfl rfl rfl;change kM _ _ _ f c Ext _;exact lH (P:=prog) 41 37 3 3 _ [qv s,qv h,qv D] rfl rfl underlying41 kr kr (by simp only[Act.eval];exact congr (congr (congrArg (λO Q c4=> [(0,O),(1,Q),(2,c4)]) h6) h7) h8) rfl om om om (qcN [s,h,D]).size (λw' b1 v=>⟨_,N,rfl,v⟩)
        .intro f c d b j;have hE:Ext p c:=d;have h9:=kO b 0 19 rfl rfl (λ_=>hE);change kM _ _ _ f c Ext _;refine oC #[f 19] func27 rfl rfl ?_;obtain⟨c5, -,R,T⟩:=h9;rw[R];have U:=LF T (a4.out.ext (e1.trans (hE0.trans hE))) (a5.out.ext (e1.trans (hE0.trans hE))) (HC.out.ext (e1.trans (hE0.trans hE)));refine(tO _ [k.2.2.1,k.2.2.2.1,k.2.2.2.2] _ U sm E.out).mono ?_;rintro e w' ⟨rfl,h2⟩;exact⟨_,rfl,h2,by rw[HQ.out]<;>rfl⟩
        .intro f c d b j;have i2:=tE b 0 0 rfl rfl rfl;have i3:=tE b 1 20 rfl rfl rfl;simp only[kM];go_simp;exact⟨_,rfl,rE,ci bT.out⟩
       .intro f c d b;have hE:Ext p c:=mV.nil d;have c7:f 22=t1:=rM b 22 de rfl (λh=>by cases h);try simp only[c7]
        clear b;have c8:=hE0.trans hE;go_wp2;go_roundw
        case rel=>exact ⟨i+1,t1,om,ci om,rfl,c6,c8⟩
        case measure=>simp [intOf];omega
  .have bO:(i:Int)<q:=om;obtain⟨k,H⟩:∃k,V[i]? =some k:=⟨_,aA (by rw[<-bC.out];exact Z)⟩;obtain⟨g,off,rfl,s,h,b3,b4,b5,hcell,a2,a3,eC⟩:=fG.out i k H;have HCL:=a8 hcell;have a4:=a8 a2;have a5:=a8 a3;have eD:=a8 eC;have bS:=a8 (mP H);obtain⟨d1,a6⟩:=ex (oU [k.2.2.1.1,k.2.2.1.2]);obtain⟨d2,eE⟩:=ex (nU k.2.2.2);have HD1:=a8 a6;have HD2:=a8 eE;obtain⟨a7,a9⟩:=ex (lQ [k.2.2.1.1,k.2.2.1.2]);obtain⟨eG,eN⟩:=ex (lQ (k.2.2.2.map Prod.snd));have HQ:=a8 (aD a9 eN);obtain⟨t1,b0⟩:=ex (IntKind.i64.wrap (u+(a7:Int)));obtain⟨t2,fA⟩:=ex (IntKind.i64.wrap (t1+(eG:Int)));have bT:=a8 b0.symm;have hA:=a8 fA.symm;have BPj:=a0.ext hE0;clear hcell a2 a3 eC H a6 eE a9 eN b0 fA bD;obtain⟨x,y,hp2,z,-⟩:=BPj.cl [0,1,2,3];go_wp2_with fail;clear x y hp2 z;refine wpQ [(w,2),(g,off,q,A),i,(g,off+i*10),(g,off+i*10+3),(qv s),(w,2),(g,off,q,A),i,(g,off+i*10),(g,off+i*10+6),(qv h),CB [qv s,qv h],d1,d1,kT (!d1) (kL (w,2)),kT (!d1) (kL (g,off,q,A)),kT (!d1) (kL i),kT (!d1) (kL (g,off+i*10)),kT (!d1) (kL (g,off+i*10+9)),kT (!d1) (kL (b3,b4,b5)),kT (!d1) (kL d2),kL (.bool (d1 || d2))] [] [0,1,2,3,4,5,6,7,8,9,10,11,12,13,14,15,16,17,18,19,20,21,22] ?_ ?_
   .refine⟨oL,?_,oL,oL,oL,?_,oL,?_,oL,oL,oL,?_,?_,?_,?_,?_,?_,?_,?_,?_,?_,?_,?_,trivial⟩
    .intro f c d b j;have hE:Ext wr c:=d;have i4:=tE b 0 0 rfl rfl rfl;exact ar2
    .intro f c d b j;have hE:Ext wr c:=d;have hB:=tE b 0 4 rfl rfl rfl;change kM _ _ _ f c Ext _;obtain⟨-, -, -,c9,I,J, -⟩:=HCL.out _ (e1.trans (hE0.trans hE));exact kW (P:=prog) _ _ g (off+i*10+3) _ _ rfl rfl hB (qW c9 I J) underlying37 rfl kr rfl
    .intro f c d b j;have hE:Ext wr c:=d;have i5:=tE b 0 6 rfl rfl rfl;exact ar2
    .intro f c d b j;have hE:Ext wr c:=d;have hC:=tE b 0 10 rfl rfl rfl;change kM _ _ _ f c Ext _;obtain⟨-, -, -, -, -, -,K,L,M, -⟩:=HCL.out _ (e1.trans (hE0.trans hE));exact kW (P:=prog) _ _ g (off+i*10+6) _ _ rfl rfl hC (qW K L M) underlying37 rfl kr rfl
    .intro f c d b j;have hE:Ext wr c:=d;have N:=hE.size;have hD:=tE b 0 5 rfl rfl rfl;have hG:=tE b 1 11 rfl rfl rfl;change kM _ _ _ f c Ext _;exact lH (P:=prog) 41 37 2 3 _ [qv s,qv h] rfl rfl underlying41 kr kr (by simp only[Act.eval];exact congr (congrArg (λO Q=> [(0,O),(1,Q)]) hD) hG) rfl om om om (qcN [s,h]).size (λw' b1 v=>⟨_,N,rfl,v⟩)
    .intro f c d b j;have hE:Ext wr c:=d;have hH:=kO b 0 12 rfl rfl (λ_=>hE);change kM _ _ _ f c Ext _;refine oC #[f 12] func25 rfl rfl ?_;obtain⟨c5, -,R,T⟩:=hH;rw[R];have U:=UL T (a4.out.ext (e1.trans (hE0.trans hE))) (a5.out.ext (e1.trans (hE0.trans hE)));refine(vN _ [k.2.2.1.1,k.2.2.1.2] _ U).mono ?_;exact fX4
    .intro f c d b j;have hI:=tE b 0 13 rfl rfl rfl;exact⟨_,rfl,rE,hI⟩
    .intro f c d b j;have qg:=kO b 0 14 rfl rfl (λh=>by cases h);refine kS (p:=(kL (.pointer (some ⟨w.heap.size,2,none⟩)):PP _).p) rfl (rH qg) ?_;exact zO3
    .intro f c d b j;have hE:Ext wr c:=d;have qg:=kO b 1 14 rfl rfl (λh=>by cases h);refine kS (p:=(kL (.slice (some ⟨g,off,none⟩) q A):PP _).p) rfl (rH qg) ?_;intro hg0;clear qg;have i6:f 15= .pointer (w,2):=(kO b 0 15 rfl rfl (λh=>by cases h)).1 hg0;exact ar2
    .intro f c d b j;have qg:=kO b 0 14 rfl rfl (λh=>by cases h);refine kS (p:=(kL (.int .i64 (i:Int)):PP _).p) rfl (rH qg) ?_;exact zO3
    .intro f c d b j;have qg:=kO b 2 14 rfl rfl (λh=>by cases h);refine kS (p:=(kL (.pointer (some ⟨g,off+i*10,none⟩)):PP _).p) rfl (rH qg) ?_;intro hg0;clear qg;have i7:f 16=(g,off,q,A):=(kO b 0 16 rfl rfl (λh=>by cases h)).1 hg0;have j0:f 17=i:=(kO b 1 17 rfl rfl (λh=>by cases h)).1 hg0;exact DG6
    .intro f c d b j;have qg:=kO b 1 14 rfl rfl (λh=>by cases h);refine kS (p:=(kL (.pointer (some ⟨g,off+i*10+9,none⟩)):PP _).p) rfl (rH qg) ?_;intro hg0;clear qg;have j1:f 18=(g,off+i*10):=(kO b 0 18 rfl rfl (λh=>by cases h)).1 hg0;exact DG6
    .intro f c d b j;have hE:Ext wr c:=d;have qg:=kO b 1 14 rfl rfl (λh=>by cases h);refine kS (p:=(kL (.slice b3 b4 b5):PP _).p) rfl (rH qg) ?_;intro hg0;clear qg;have j2:f 19=(g,off+i*10+9):=(kO b 0 19 rfl rfl (λh=>by cases h)).1 hg0;exact bz2
    .intro f c d b j;have hE:Ext wr c:=d;have qg:=kO b 1 14 rfl rfl (λh=>by cases h);refine kS (p:=(kL (.bool d2):PP _).p) rfl (rH qg) ?_;intro hg0;clear qg;have hJ:f 20=(b3,b4,b5):=(kO b 0 20 rfl rfl (λh=>by cases h)).1 hg0;change kM _ _ _ f c Ext _;refine oC #[f 20] func26 rfl rfl ?_;rw[hJ];refine(zU _ k.2.2.2 _ (eD.out.ext (e1.trans (hE0.trans hE)))).mono ?_;exact vz6
    .intro f c d b j;have hK:=tE b 0 14 rfl rfl rfl;have hL:=kO b 1 21 rfl rfl (λh=>by cases h);change kM _ _ _ f c Ext _;exact CW (P:=prog) _ _ rfl rfl hK (λh=>hL.1 (by rw[h];rfl)) rfl
   .intro f p d b;have hE:Ext wr p:=mV.nil d;have hM:f 22= .bool (d1 || d2):=rM b 22 de rfl (λh=>by cases h);try simp only[hM]
    clear b;have hEq:=hE0.trans hE;obtain⟨hN,hg0⟩:=ex (d1 || d2);rw[<-hg0];have bR:=a8 hg0;clear hg0
    cases hN with
    |true=>
     exact xd3
    |false=>
     have e0:=eH.1 bR.out.symm;have E:=a8 (tU (HD1.out.symm.trans e0.1)).2;have e2:=tU (l:=k.2.2.2.map Prod.snd) (HD2.out.symm.trans e0.2);have e3:Hid (W1 k):=a8 ⟨E.out _ sm,E.out _ sm,by have:=e2.1;rwa [aF]at this,λe b1=>e2.2 e.2 (iD b1)⟩;have c6:Hid (∀r∈V.take (i+1),W1 r):=a8 λr l=>by
      rw[bS.out]at l;rcases aW.1 l with l |l
      .exact C.out r l
      .rw[aC]at l;subst l;exact e3.out
     clear C e0 e2;clear hE0;have hE0:=hEq;have BPj:=a0.ext hE0;clear hE hEq;obtain⟨x,y,hp2,z,-⟩:=BPj.cl [0,1,2,3];go_wp2_with fail;clear x y hp2 z;refine wpQ [u,(w,2),(g,off,q,A),i,(g,off+i*10),(g,off+i*10+3),(qv s),(w,2),(g,off,q,A),i,(g,off+i*10),(g,off+i*10+6),(qv h),CB [qv s,qv h],a7,t1,(w,2),(g,off,q,A),i,(g,off+i*10),(g,off+i*10+9),(b3,b4,b5),eG,t2,t2] [(0,24,3)] [0,1,2,3,4,5,6,7,8,9,10,11,12,13,14,15,16,17,18,19,20,21,22,23,24] ?_ ?_
     .refine⟨?_,oL,?_,oL,oL,oL,?_,oL,?_,oL,oL,oL,?_,?_,?_,?_,oL,?_,oL,oL,oL,?_,?_,?_,oL,trivial⟩
      .intro f c d b j;have h1:f 24=u:=j.1 rfl;exact DG6
      .intro f c d b j;have hE:Ext p c:=d;have j3:=tE b 0 1 rfl rfl rfl;exact ar2
      .intro f c d b j;have hE:Ext p c:=d;have hO:=tE b 0 5 rfl rfl rfl;change kM _ _ _ f c Ext _;obtain⟨-, -, -,c9,I,J, -⟩:=HCL.out _ (e1.trans (hE0.trans hE));exact kW (P:=prog) _ _ g (off+i*10+3) _ _ rfl rfl hO (qW c9 I J) underlying37 rfl kr rfl
      .intro f c d b j;have hE:Ext p c:=d;have j4:=tE b 0 7 rfl rfl rfl;exact ar2
      .intro f c d b j;have hE:Ext p c:=d;have hP:=tE b 0 11 rfl rfl rfl;change kM _ _ _ f c Ext _;obtain⟨-, -, -, -, -, -,K,L,M, -⟩:=HCL.out _ (e1.trans (hE0.trans hE));exact kW (P:=prog) _ _ g (off+i*10+6) _ _ rfl rfl hP (qW K L M) underlying37 rfl kr rfl
      .intro f c d b j;have hE:Ext p c:=d;have N:=hE.size;have hR:=tE b 0 6 rfl rfl rfl;have hS:=tE b 1 12 rfl rfl rfl;change kM _ _ _ f c Ext _;exact lH (P:=prog) 41 37 2 3 _ [qv s,qv h] rfl rfl underlying41 kr kr (by simp only[Act.eval];exact congr (congrArg (λO Q=> [(0,O),(1,Q)]) hR) hS) rfl om om om (qcN [s,h]).size (λw' b1 v=>⟨_,N,rfl,v⟩)
      .intro f c d b j;have hE:Ext p c:=d;have hT:=kO b 0 13 rfl rfl (λ_=>hE);change kM _ _ _ f c Ext _;refine oC #[f 13] func27 rfl rfl ?_;obtain⟨c5, -,R,T⟩:=hT;rw[R];have U:=UL T (a4.out.ext (e1.trans (hE0.trans hE))) (a5.out.ext (e1.trans (hE0.trans hE)));refine(tO _ [k.2.2.1.1,k.2.2.1.2] _ U sm E.out).mono ?_;exact cv9
      .intro f c d b j;have j5:=tE b 0 0 rfl rfl rfl;have j6:=tE b 1 14 rfl rfl rfl;simp only[kM];go_simp;exact⟨_,rfl,rE,ci bT.out⟩
      .intro f c d b j;have hE:Ext p c:=d;have jA:=tE b 0 16 rfl rfl rfl;exact ar2
      .intro f c d b j;have hE:Ext p c:=d;have jB:=tE b 0 20 rfl rfl rfl;exact bz2
      .intro f c d b j;have hE:Ext p c:=d;have hU:=tE b 0 21 rfl rfl rfl;change kM _ _ _ f c Ext _;refine oC #[f 21] func28 rfl rfl ?_;rw[hU];refine(xE _ k.2.2.2 _ (eD.out.ext (e1.trans (hE0.trans hE))) e3.out.2.2.1 e3.out.2.2.2).mono ?_;exact YR2
      .intro f c d b j;have jC:=tE b 0 15 rfl rfl rfl;have jD:=tE b 1 22 rfl rfl rfl;simp only[kM];go_simp;exact⟨_,rfl,rE,ci hA.out⟩
     .intro f c d b;have hE:Ext p c:=mV.nil d;have c7:f 24=t2:=rM b 24 de rfl (λh=>by cases h);try simp only[c7]
      clear b;have c8:=hE0.trans hE;go_wp2;go_roundw
      case rel=>exact ⟨i+1,t2,om,ci om,rfl,c6,c8⟩
      case measure=>simp [intOf];omega
structure Pk where
 s:Nat
 o:Nat
 n:Nat
 F:List Value->World->Prop
def apart(p q:Pk):Prop:=p.o+p.n<=q.o∨q.o+q.n<=p.o
section
variable {P:Program} {o:Oper} {a:Act} {f:Nat->Value} {w:World}
end
def ancN(acc:List (List Nat))(es:List Edge):List Nat:=es.foldl (λs e=>if Region.binds .any e then e.on::(acc.getD e.on []++s)else s) []
def xJ:List Oper->List (List Nat)->List (List Nat)
 | [],acc=>acc
 |o::l,acc=>xJ l (acc++ [ancN acc o.after.toList])
theorem Z9{h:Array Oper}{l:List (List Nat)}(q:∀d a,a∈l.getD d []->Anc h a d){d:Nat}{o:Oper}(s:h[d]? =some o):∀a∈ancN l o.after.toList,Anc h a d:=by
 have u:∀(i:List Edge) (c:List Nat),(∀e∈i,e∈o.after)->(∀a∈c,Anc h a d)->∀a∈i.foldl (λc e=>if Region.binds .any e then e.on::(l.getD e.on []++c)else c) c,Anc h a d:=by
  intro i
  induction i with
  |nil=>intro c _ p a j;exact p a j
  |cons e i v=>
   intro c k p a j;refine v _ (λx y=>k x (aN _ y)) ?_ a j;intro r b;have b:r∈(if Region.binds .any e then e.on::(l.getD e.on []++c)else c):=b;split at b
   .rename_i t;rcases aS.1 b with rfl |b
    .exact .edge s (k e (aT ..)) t .self
    .rcases aW.1 b with b |b
     .exact .edge s (k e (aT ..)) t (q _ _ b)
     .exact p r b
   .exact p r b
 intro a j;exact u o.after.toList [] (λe k=>bU.1 k) (λa q=>by cases q) a j
theorem T0{j:Array Oper}:∀(k:List Oper) (c:List (List Nat)),(∀i o,k[i]? =some o->j[c.length+i]? =some o)->(∀b a,a∈c.getD b []->Anc j a b)->∀b a,a∈(xJ k c).getD b []->Anc j a b
 | [],c,_,h=>h
 |o::k,c,hl,h=>by
  refine T0 k _ (λi l p=> ?_) ?_
  .rw[aB,fO,gH,fL 1 i];exact hl (i+1) l (by simpa using p)
  .intro b a d;have q:j[c.length]? =some o:=by have:=hl 0 o rfl;simpa using this
   rw[aO]at d
   by_cases r:b<c.length
   .rw[bM r,<-aO]at d;exact h b a d
   .by_cases s:b=c.length
    .subst s;rw[cB lr,gE]at d;exact Z9 h q a d
    .rw[cM (by simp;omega)]at d
     cases d
theorem T5{h:List (List Nat)}{n:Nat}(j:∀k a,a∈h.getD k []->a<k):∀(d:List Edge) (c:List Nat),(∀e∈d,Region.binds .any e=true->e.on<n)->(∀a∈c,a<n)->∀a∈d.foldl (λc e=>if Region.binds .any e then e.on::(h.getD e.on []++c)else c) c,a<n
 | [],c,_,hs,a,ha=>hs a ha
 |e::d,c,he,hs,a,ha=>by
  refine T5 j d _ (λp q=>he p (aN _ q)) ?_ a ha;intro i b;have b:i∈(if Region.binds .any e then e.on::(h.getD e.on []++c)else c):=b
  split at b
  .rename_i r
   have l:=he e (aT ..) r
   rcases aS.1 b with rfl |b
   .exact l
   .rcases aW.1 b with b |b
    .exact kI (j _ _ b) l
    .exact hs i b
  .exact hs i b
theorem SZ:∀(i:List Oper) (c:List (List Nat)),(∀b a,a∈c.getD b []->a<b)->xK i c.length=true->∀b a,a∈(xJ i c).getD b []->a<b
 | [],c,h,_=>h
 |o::i,c,h,hok=>by
  simp only[xK,aU]at hok;refine SZ i _ ?_ (by rw[aB,fO];exact hok.2);intro b a d;rw[aO]at d
  by_cases j:b<c.length
  .rw[bM j,<-aO]at d;exact h b a d
  .by_cases k:b=c.length
   .subst k;rw[cB lr,gE]at d;refine T5 h o.after.toList [] (λe l p=> ?_) (λa h=>by cases h) a d;have:=cA.1 hok.1 e l;simpa[p]using this
   .rw[cM (by simp;omega)]at d
    cases d
structure PX (R:Nat->World->World->Prop) where
 p:Value->World->Prop
 c:Nat->Bool
 m:∀v a b,Ext a b->p v a->p v b
 s:∀i,c i=false->∀v a b,R i a b->p v a->p v b
def kN{R:Nat->World->World->Prop}(v:Value):PX R:=⟨λu _=>u=v,λ_=>false,λ_ _ _ _ h=>h,λ_ _ _ _ _ _ h=>h⟩
def kV{R:Nat->World->World->Prop}:PX R:=⟨λ_ _=>True,λ_=>false,λ_ _ _ _ h=>h,λ_ _ _ _ _ _ h=>h⟩
def hAt:List Nat->Nat->Nat->Option Nat
 | [],_,_=>none
 |h::t,i,k=>if k=h then some i else hAt t (i+1) k
theorem GQ:∀{d:List Nat} {b c a:Nat},hAt d b c=some a->b<=a/\d[a - b]? =some c
 | [],_,_,_,h=>by cases h
 |x::t,b,c,a,h=>by
  unfold hAt at h
  split at h
  .rename_i e
   cases h
   exact⟨lr,by rw[gE,e];rfl⟩
  .obtain⟨_,i⟩:=GQ h;refine⟨om,?_⟩;rw[show a - b=(a - (b+1))+1 by omega];exact i
def P0(A:List (List Nat))(hv:List Nat)(cs:List (List Nat))(tb:List (Nat×Nat×Bool))(n:Nat):Bool:=
 ((List.range hv.length).all λa=>decide (hv.getD a 0<n)&&hAt hv 0 (hv.getD a 0)==some a)&&
 ((List.range n).all λk=>(cs.getD k []).all λa=>decide (a<hv.length)&&(hv.getD a 0==k || (A.getD k []).contains (hv.getD a 0)))&&
 tb.all λx=>decide (x.2.1<hv.length)&&match x.2.2 with
  |true=>(A.getD x.1 []).contains (hv.getD x.2.1 0)
  |false=>(A.getD (hv.getD x.2.1 0) []).contains x.1
def JW(A:List (List Nat))(hv:List Nat)(us:List (List Nat))(dr:List (Nat×Nat)):List Oper->Nat->Bool
 | [],_=>true
 |o::l,k=>(o.after.toList.all λe=> !(Region.binds .any e&& !dr.contains (k,e.on)) || (us.getD e.on []).all λa=>decide (a<hv.length)&&(hv.getD a 0==k || (A.getD (hv.getD a 0) []).contains k))&&JW A hv us dr l (k+1)
theorem UU{k:List (List Nat)}{d:List Nat}{l:List (List Nat)}{p:List (Nat×Nat)}:∀(i:List Oper) (c:Nat),JW k d l p i c=true->∀b o,i[b]? =some o->∀e∈o.after.toList,(Region.binds .any e&& !p.contains (c+b,e.on))=true->∀a∈l.getD e.on [],a<d.length/\(d.getD a 0=c+b∨(k.getD (d.getD a 0) []).contains (c+b)=true)
 | [],_,_,b,o,h=>by simp at h
 |x::i,c,hok,b,o,h=>by
  simp only[JW,aU]at hok
  cases b with
  |zero=>
   simp only[bL,Option.some.injEq]at h;subst h;intro e r q a s;have j:=cA.1 hok.1 e r;rw[bZ]at q;rw[q]at j;simp only[Bool.not_true,Bool.false_or]at j;have t:=cA.1 j a s;rw[bZ];simpa only[aU,decide_eq_true_eq,fQ,beq_iff_eq]using t
  |succ b=>
   have:=UU i (c+1) hok.2 b o (by simpa using h)
   rwa [show c+1+b=c+(b+1)by omega]at this
def xY(S:Nat->Bool)(k:Nat):List (Nat×Nat×Bool)->Prop
 | []=>True
 | (k',a,b)::l=>(k'=k->S a=b)/\xY S k l
theorem IS{S:Nat->Bool}{d:Nat}:∀(c:List (Nat×Nat×Bool)),(∀b∈c,b.1=d->S b.2.1=b.2.2)->xY S d c
 | [],_=>trivial
 |b::c,h=>⟨h b (aT ..),IS c λi j=>h i (aN _ j)⟩
def sI{R:Nat->World->World->Prop}(L:List (PX R))(dr:List (Nat×Nat))(k:Nat)(f:Nat->Value)(w:World):List Edge->Prop
 | []=>True
 |e::l=>((Region.binds .any e&& !dr.contains (k,e.on))=true->(L.getD e.on kV).p (f e.on) w)/\sI L dr k f w l
theorem P3{j:Nat->World->World->Prop}{c:List (PX j)}{d:List (Nat×Nat)}{i:Nat}{f:Nat->Value}{w:World}:∀(b:List Edge),(∀e∈b,(Region.binds .any e&& !d.contains (i,e.on))=true->(c.getD e.on kV).p (f e.on) w)->sI c d i f w b
 | [],_=>trivial
 |e::b,h=>⟨h e (aT ..),P3 b λk l=>h k (aN _ l)⟩
def NI{R:Nat->World->World->Prop}(us:List (List Nat))(f:Nat->Value)(w:World)(k:Nat):List (PX R)->Prop
 | []=>True
 |p::l=>(us.getD k []=[]->p.p (f k) w)/\NI us f w (k+1) l
theorem SY{i:Nat->World->World->Prop}{j:List (List Nat)}{f:Nat->Value}{w:World}:∀(k:List (PX i)) (b:Nat),(∀(c:Nat) (d:PX i),k[c]? =some d->j.getD (b+c) []=[]->d.p (f (b+c)) w)->NI j f w b k
 | [],_,_=>trivial
 |d::l,b,h=>⟨h 0 d rfl,SY l (b+1) λc p q=>by
  have:=h (c+1) p (by simpa using q)
  rwa [show b+1+c=b+(c+1)by omega]⟩
def onS(S:Nat->Bool)(a:Nat):Nat->Bool:=λb=>if b=a then true else S b
def upF(f:Nat->Value)(k:Nat)(v:Value):Nat->Value:=λj=>if j=k then v else f j
def OweX(P:Program)(fr:(Nat->Value)->Array Value)(df:List Deferred)(hv:List Nat)(R:Nat->World->World->Prop)(I:(Nat->Bool)->(Nat->Value)->World->Prop)(L:List (PX R))(dr:List (Nat×Nat))(tb:List (Nat×Nat×Bool))(la:List (Nat×Nat×Nat))(tmps:Array Value)(k:Nat)(o:Oper):Prop:=
 match hAt hv 0 k with
 |some a=>∀S f w1,I S f w1->sI L dr k f w1 o.after.toList->oV tmps f k la->S a=false->xY S k tb->kM P o ⟨fr f,df⟩ f w1 (R a) (λv w2=>I (onS S a) (upF f k v) w2/\(L.getD k kV).p v w2)
 |none=>∀S f w1,I S f w1->sI L dr k f w1 o.after.toList->oV tmps f k la->xY S k tb->kM P o ⟨fr f,df⟩ f w1 Ext (L.getD k kV).p
def KC(P:Program)(fr:(Nat->Value)->Array Value)(df:List Deferred)(hv:List Nat)(R:Nat->World->World->Prop)(I:(Nat->Bool)->(Nat->Value)->World->Prop)(L:List (PX R))(dr:List (Nat×Nat))(tb:List (Nat×Nat×Bool))(la:List (Nat×Nat×Nat))(tmps:Array Value):List Oper->Nat->Prop
 | [],_=>True
 |o::l,k=>OweX P fr df hv R I L dr tb la tmps k o/\KC P fr df hv R I L dr tb la tmps l (k+1)
abbrev SW (P:Program) (fr:(Nat->Value)->Array Value) (df:List Deferred) (hv:List Nat) (R:Nat->World->World->Prop) (I:(Nat->Bool)->World->Prop) (L:List (PX R)) (dr:List (Nat×Nat)) (tb:List (Nat×Nat×Bool)) (la:List (Nat×Nat×Nat)) (tmps:Array Value) (l:List Oper) (k:Nat):Prop:=KC P fr df hv R (λS _ w=>I S w) L dr tb la tmps l k
theorem OZ{P:Program}{j:(Nat->Value)->Array Value}{k:List Deferred}{l:List Nat}{i:Nat->World->World->Prop}{p:(Nat->Bool)->(Nat->Value)->World->Prop}{q:List (PX i)}{r:List (Nat×Nat)}{s:List (Nat×Nat×Bool)}{t:List (Nat×Nat×Nat)}{u:Array Value}:
  ∀(d:List Oper) (c:Nat),KC P j k l i p q r s t u d c->∀b o,d[b]? =some o->OweX P j k l i p q r s t u (c+b) o
 | [],_,_,b,o,h=>by simp at h
 |x::d,c,hs,b,o,h=>by
  cases b with
  |zero=>
   simp only[bL,Option.some.injEq]at h;subst h;exact hs.1
  |succ b=>
   have:=OZ d (c+1) hs.2 b o (by simpa using h)
   rwa [show c+1+b=c+(b+1)by omega]at this
structure DX {R:Nat->World->World->Prop} (ops:Array Oper) (hv:List Nat) (us:List (List Nat)) (I:(Nat->Bool)->(Nat->Value)->World->Prop) (L:List (PX R)) (listed:Nat->Bool) (f:Nat->Value) (b:World):Prop where
 ph:∃S:Nat->Bool,(∀a h,hv[a]? =some h->S a=listed h)/\(∀a,hv.length<=a->S a=false)/\I S f b
 up:∀j,listed j=true->∀a,Anc ops a j->listed a=true
 ps:∀j,listed j=true->(∀a∈us.getD j [],∀h,hv[a]? =some h->listed h=false)->(L.getD j kV).p (f j) b
def allS(n:Nat):Nat->Bool:=λa=>decide (a<n)
theorem zA{P:Program}{id:Nat}{w:World}
  (h:List Nat) (a7:Nat->World->World->Prop) (u:(Nat->Bool)->(Nat->Value)->World->Prop) (q:List (PX a7)) (bC x:List (List Nat)) (a9:List (Nat×Nat)) (a2:List (Nat×Nat×Bool)) (b0:List (Nat×Nat×Nat))
  (bD:∀S f a i,Ext a i->u S f a->u S f i) (e0:∀f,u (λ_=>false) f w) (e1:∀S f b1 i,(∀a c,h[a]? =some c->S a=true->f c=b1 c/\∀b∈(xJ A []).getD c [],f b=b1 b)->u S f i->u S b1 i)
  (e2:KC P H K h a7 u q a9 a2 b0 y A 0)
  (e3:∀f w1,u (allS h.length) f w1->NI x f w1 0 q->M .normal ⟨H f,K⟩ w1)
  (e4:∀d a,a<h.length->a∉bC.getD d []->a∉x.getD d []->(q.getD d kV).c a=false) (fG:q.length<=A.length)
  (e5:P.follows .mixedOrders=true:=by kernel_rfl)
  (bE:(oQ A.toArray y.size&&pN A.toArray b0&&P0 (xJ A []) h bC a2 A.length&&JW (xJ A []) h x a9 A 0)=true:=by kernel_rfl)
  (bG:∀f,mJ A.toArray y f=H f:=by intro f;simp only[mJ,mO,aQ,aV,aZ,Nat.reduceAdd];rfl):
  (Code.region id A.toArray true).wp P M ⟨y,K⟩ w:=by
 simp only[aU]at bE;obtain⟨⟨⟨T,e6⟩,b2⟩,e7⟩:=bE;unfold P0 at b2;rw[aU,aU]at b2;obtain⟨⟨e8,e9⟩,eA⟩:=b2;have U:∀d a,a∈(xJ A []).getD d []->Anc A.toArray a d:=T0 A [] (λ_ o c=>by simpa using c) (λd a c=>by simp at c);have b3:∀{a c},h[a]? =some c->h.getD a 0=c:=λp=>by rw[aO,p];rfl
 have bO:∀{a},a<h.length->h[a]? =some (h.getD a 0):=λp=>by rw[aO,aA p];rfl
 have bP:∀a c,h[a]? =some c->c<A.length/\hAt h 0 c=some a:=by
  intro a c p;have:=cA.1 e8 a (gO.2 (aH.1 p).1);simpa only[b3 p,aU,decide_eq_true_eq,beq_iff_eq]using this
 let V:Nat->World->World->Prop:=λb w1 bR=>match hAt h 0 b with |some a=>a7 a w1 bR |none=>Ext w1 bR
 refine nN (D:=DX A.toArray h x u q) (G:=λ_ _=>True) (G0:=λ_ _ _=>True) (R:=V) (post:=λ_ _ _=>True) e5 T ?_ trivial (λ_=>trivial) (λ_ _ _ _ _=>trivial) (λ_ _ _ _ _ _ _=>trivial) (λ_ _ _ _ _ _ _ _ _=>trivial) ?_ ?_
 .intro f;exact⟨⟨λ_=>false,λa c _=>rfl,λ_ _=>rfl,bD _ _ _ _ (Ext.refl w).drew (e0 f)⟩,λb c=>(by cases c),λb c _=>(by cases c)⟩
 .intro d o X v f w1 C b4 eB _ _ _ eC;have L:=OZ A 0 e2 d o (by simpa using X);rw[aY]at L;rw[bG];have g0:d<A.length:=by have:=(cN.1 X).1;simpa using this
  obtain⟨⟨S,F,a3,N⟩,O,Q⟩:=eB;have bS:sI q a9 d f w1 o.after.toList:=P3 _ λe I bT=>by
   have k:Region.binds .any e=true:=(cR.1 bT).1;exact Q _ (by
    have b5:Anc A.toArray e.on d:= .edge X (bU.1 I) k .self
    by_cases eD:e.on=d
    .exfalso;simp only[oQ,aU]at T;have:=sQ A 0 T.1.2 d o (by simpa using X) e (bU.1 I) k;omega
    .exact b4 _ b5 eD) (λa p c eE=>by
    have l:=UU A 0 e7 d o (by simpa using X) e I (by rw[aY];exact bT) a p;rw[aY,b3 eE]at l
    rcases l.2 with s |s
    .rw[s];exact C
    .cases b6:v c with
     |false=>rfl
     |true=>
      have:=O _ b6 _ (U _ _ (gI.1 s));rw[C]at this
      cases this)
  have c0:=pH eC b0 e6;have b7:∀{c a},h[a]? =some c->c=d->hAt h 0 d=some a:=λl s=>by rw[<-s];exact(bP _ _ l).2
  have c1:xY S d a2:=IS a2 λc2 b5 c3=>by
   have:=cA.1 eA c2 b5;obtain⟨a4,a,i⟩:=c2;simp only at c3;subst c3;simp only[aU,decide_eq_true_eq]at this;obtain⟨l,s⟩:=this;rw[F a _ (bO l)]
   cases i with
   |true=>
    have a5:=U _ _ (gI.1 s);by_cases I:h.getD a 0=a4
    .exfalso;rw[I]at a5;have g1:∀b∈(xJ A []).getD a4 [],True:=λ_ _=>trivial
     rw[I]at s;have:=SZ A [] (λd a c=>by simp at c) (by simp only[oQ,aU]at T;exact T.1.2) a4 a4 (gI.1 s);omega
    .exact b4 _ a5 I
   |false=>
    have a5:=U _ _ (gI.1 s)
    cases b6:v (h.getD a 0)with
    |false=>rfl
    |true=>
     have:=O _ b6 _ a5;rw[C]at this
     cases this
  have c4:∀b,(if b=d then true else v b)=true->∀a,Anc A.toArray a b->(if a=d then true else v a)=true:=by
   intro b j a p;by_cases b8:a=d
   .rw[if_pos b8]
   .rw[if_neg b8];by_cases D:b=d
    .subst D;exact b4 a p b8
    .rw[if_neg D]at j;exact O b j a p
  have eG:∀b,v b=true->∀a,hAt h 0 d=some a->a∉x.getD b []->(q.getD b kV).c a=false:=by
   intro b j a eN a6;have l:=(GQ eN).2;rw[Nat.sub_zero]at l;have c5:=(aH.1 l).1;by_cases c6:b<A.length
   .refine e4 b a c5 (λb9=> ?_) a6;have:=cA.1 (cA.1 e9 b (gO.2 c6)) a b9;simp only[aU,decide_eq_true_eq,fQ,beq_iff_eq,b3 l]at this;rcases this.2 with s |s
    .rw[s,j]at C
     cases C
    .have:=O _ j _ (U _ _ (gI.1 s));rw[C]at this
     cases this
   .rw[aO,cM om];rfl
  unfold OweX at L
  cases z:hAt h 0 d with
  |some a=>
   have l:=(GQ z).2;rw[Nat.sub_zero]at l;simp only[z]at L;have Z:∀t r,(∀b,v b=true->a∉x.getD b []->(∀i∈x.getD b [],∀c,h[i]? =some c->v c=false)->(q.getD b kV).p (f b) r)->u (onS S a) (upF f d t) r/\(q.getD d kV).p t r->DX A.toArray h x u q (λb=>if b=d then true else v b) (λb=>if b=d then t else f b) r:=by
    rintro t r fA ⟨fB,bA⟩;refine⟨⟨onS S a,λi c k=> ?_,λi k=> ?_,fB⟩,c4,λb j E=> ?_⟩
    .unfold onS;by_cases R:c=d
     .have:i=a:=by
       have:=b7 k R;rw[z]at this;exact(Option.some.inj this).symm
      rw[if_pos this,if_pos R]
     .have:i≠a:=λe=>by
       subst e;rw[l]at k;exact R (Option.some.inj k).symm
      rw[if_neg this,if_neg R];exact F i c k
    .unfold onS;have c5:=(aH.1 l).1;rw[if_neg om];exact a3 i k
    .by_cases D:b=d
     .subst D;simp only[if_true];exact bA
     .simp only[D,if_false]at j ⊢;refine fA b j (λb9=> ?_) (λi k c bB=> ?_)
      .have:=E a b9 d l;simp at this
      .have:=E i k c bB;by_cases a0:c=d
       .rw[if_pos a0]at this
        cases this
       .rwa [if_neg a0]at this
   exact kM.mono2 (λt r a1 J=>⟨by show V d w1 r;simp only[V,z];exact a1,trivial,Z t r (λb j fC E=>(q.getD b kV).s a (eG b j a z fC) _ _ _ a1 (Q b j E)) J⟩) (λJ=>⟨trivial,Z undef w1 (λb j _ E=>Q b j E) J⟩) (L S f w1 N bS c0 ((F a d l).trans C) c1)
  |none=>
   simp only[z]at L;have Z:∀t r,Ext w1 r->(q.getD d kV).p t r->DX A.toArray h x u q (λb=>if b=d then true else v b) (λb=>if b=d then t else f b) r:=by
    intro t r c7 bA;refine⟨⟨S,λi c k=> ?_,a3,e1 _ f _ _ (λi c k c8=>⟨(if_neg λe=>by have:=b7 k e;rw[z]at this;cases this).symm,λb j=>(if_neg λe=>by
     rw[F i c k]at c8;have:=O _ c8 _ (U _ _ j);rw[e,C]at this
     cases this).symm⟩) (bD _ _ _ _ c7 N)⟩,c4,λb j E=> ?_⟩
    .have R:c≠d:=λe=>by
      have:=b7 k e;rw[z]at this
      cases this
     simp only[R,if_false];exact F i c k
    .by_cases D:b=d
     .subst D;simp only[if_true];exact bA
     .simp only[D,if_false]at j ⊢;exact(q.getD b kV).m _ _ _ c7 (Q b j λi k c bB=>by
       have:=E i k c bB
       by_cases a0:c=d
       .rw[if_pos a0]at this;cases this
       .rwa [if_neg a0]at this)
   exact kM.mono2 (λt r a1 J=>⟨by show V d w1 r;simp only[V,z];exact a1,trivial,Z t r a1 J⟩) (λJ=>⟨trivial,Z undef w1 rE J⟩) (L S f w1 N bS c0 c1)
 .intro f w1 _ _ fD;obtain⟨v,c9,⟨S,F,a3,N⟩,O,Q⟩:=fD;rw[bG];have fE:S=allS h.length:=by
   funext a;by_cases p:a<h.length
   .have l:=bO p;rw[F a _ l,c9 _ (by simpa using(bP _ _ l).1)];exact(decide_eq_true p).symm
   .rw[a3 a om];exact(decide_eq_false p).symm
  rw[fE]at N;refine e3 f w1 N (SY q 0 λb _ j a6=> ?_);rw[aY]at a6;have c6:b<q.length:=(aH.1 j).1;have:=Q b (c9 b (by simp;omega)) (by rw[a6];intro a p;cases p);rw[aO,j]at this;rw[aY];exact this
theorem mQ{P:Program}{id:Nat}{w:World}
  (b:List Nat) (k:Nat->World->World->Prop) (c:(Nat->Bool)->World->Prop) (d:List (PX k)) (l i:List (List Nat)) (p:List (Nat×Nat)) (q:List (Nat×Nat×Bool)) (r:List (Nat×Nat×Nat))
  (t:∀S a j,Ext a j->c S a->c S j) (u:c (λ_=>false) w)
  (v:SW P H K b k c d p q r y A 0)
  (x:∀f w1,c (allS b.length) w1->NI i f w1 0 d->M .normal ⟨H f,K⟩ w1)
  (z:∀h a,a<b.length->a∉l.getD h []->a∉i.getD h []->(d.getD h kV).c a=false) (C:d.length<=A.length)
  (D:P.follows .mixedOrders=true:=by kernel_rfl)
  (E:(oQ A.toArray y.size&&pN A.toArray r&&P0 (xJ A []) b l q A.length&&JW (xJ A []) b i p A 0)=true:=by kernel_rfl)
  (F:∀f,mJ A.toArray y f=H f:=by intro f;simp only[mJ,mO,aQ,aV,aZ,Nat.reduceAdd];rfl):
  (Code.region id A.toArray true).wp P M ⟨y,K⟩ w:=
 zA b k (λS _ w=>c S w) d l i p q r (λS _ a j s h=>t S a j s h) (λ_=>u) (λ_ _ _ _ _ s=>s) v x z C D E F
theorem mY{b:Nat->World->World->Prop}{w:World}:(kN (R:=b) d).p E w=(E=d):=rfl
theorem mX{b:Nat->World->World->Prop}{w:World}:(kV (R:=b)).p d w=True:=rfl
theorem oX{G:Prop}(h:G:=by
  intro S f w1 hI hp hl hS;simp[sI,mY,mX,Region.binds]at hp
  first
   | (simp only[kM];go_simp;exact⟨_,rfl,rE,rfl⟩)
   | (have hc:=HC.out _ hI;simp only[kM];go_simp;exact⟨_,rfl,rE,rfl⟩)
   | (have hc:=HC.out _ hI.1;simp only[kM];go_simp;exact⟨_,rfl,rE,rfl⟩)
   | (simp only[kM];go_simp;exact rfl)):G:=h
theorem FY{i:Nat->World->World->Prop}{f:Nat->Value}{w:World}:∀(d:List Value) (c:Nat),NI [] f w c (d.map (kN (R:=i)))->∀b,b<d.length->f (c+b)=d.getD b undef
 | [],_,_,b,hj=>by cases hj
 |v::l,c,h,b,hj=>by
  cases b with
  |zero=>exact h.1 rfl
  |succ b=>
   have:=FY l (c+1) h.2 b (by simpa using hj);rw[show c+(b+1)=c+1+b by omega,this];rfl
theorem wpX{P:Program}{id:Nat}{l:List Oper}{w:World}(vs:List Value)
  (j:∀w1,Ext w w1->M .normal ⟨H λb=>vs.getD b undef,K⟩ w1)
  (hfr:∀f,mJ l.toArray y f=H f:=by intro f;simp only[mJ,mO,aQ,aV,aZ,Nat.reduceAdd];rfl)
  (k:SW P H K [] (λ_=>Ext) (λ_ c=>Ext w c) (vs.map kN) [] [] [] y l 0:=by repeat' (first |exact trivial |apply aD |exact oX))
  (p:P.follows .mixedOrders=true:=by kernel_rfl)
  (s:l.length=vs.length:=by rfl)
  (q:(oQ l.toArray y.size&&pN l.toArray []&&P0 (xJ l []) [] [] [] l.length&&JW (xJ l []) [] [] [] l 0)=true:=by kernel_rfl):
  (Code.region id l.toArray true).wp P M ⟨y,K⟩ w:=by
 refine mQ [] (λ_=>Ext) (λ_ c=>Ext w c) (vs.map kN) [] [] [] [] [] (λ_ _ _ d h=>h.trans d) rE k ?_ (λh a d=>by cases d) (by rw[aF];omega) p q hfr;intro f w1 r hp;have e:H f=H λb=>vs.getD b undef:=SD0
 rw[e];exact j w1 r
theorem I6{P:Program}{o:Oper}{a:Act}{f:Nat->Value}{w:World}{fn:Func}(F:FuncId)(xs:Array Operand)(b:Array TypeId)(args:Array Value)(hf:P.funcs[F]? =some fn)(hgd:o.guard=none)(ho:o.op= .call {callee:= .value (.func F),args:=xs,argTypes:=b})
  (hc:Calls P F args w λe w'=>∃v,e= .returned v/\a6 w w'/\T v w') (hn:(fn.name== "runtime.NumGoroutine")=false:=by kernel_rfl) (hb:fn.body.isNone=false:=by kernel_rfl) (ha:xs.map a.eval=args:=by kernel_rfl):kM P o a f w a6 T:=by
 exact TK0
theorem AM{P:Program}{o:Oper}{a:Act}{f:Nat->Value}{w:World}(c:TypeId)(d h:Operand)(g:Nat)(i:TypeId)(j b:Array Value)(p:o.guard=none)(q:o.op= .store c d h)(r:a.eval d= .pointer g)(s:a.eval h= .agg b)
  (l:Bx i w g j) (t:(P.info? c).map (·.size)=some b.size) (u:j.size=b.size) (v:b.all (·.oneCell')=true) (x:∀k,Chg g w k->Bx i k g b->T undef k):kM P o a f w (Chg g) T:=by
 unfold kM;rw[p];exact wp_store_row c d h q g b r s i j l t u v ⟨_,rfl,Chg.setRow w g b,x _ (Chg.setRow w g b) (l.setRow b)⟩
theorem VZ{P:Program}{o:Oper}{a:Act}{f:Nat->Value}{w w1:World}{S:Nat->Bool}{g:Nat}(b:Chg g w w1/\Bx a3 w1 g (if S 0 then y else a1))(d:S 0=false)(h:o.guard=none)(i:o.op= .store z Z a0)(j:a.eval Z= .pointer g)(k:a.eval a0= .agg y)
  (l:(P.info? z).map (·.size)=some y.size) (p:a1.size=y.size) (q:y.all (·.oneCell')=true):kM P o a f w1 (Chg g) (λr c=>(Chg g w c/\Bx a3 c g (if onS S 0 0 then y else a1))/\(kN (R:=λ_=>Chg g) undef).p r c):=by
 rw[d]at b;exact AM z Z a0 g a3 a1 y h i j k b.2 l p q λ_ s t=>⟨⟨b.1.trans s,t⟩,rfl⟩
theorem oS{G:Prop}(h:G:=by
  intro S f w1 hI hp hl hS0 hS;simp[sI,mY,mX,Region.binds]at hp;exact VZ hI hS0 rfl rfl (by first |rfl | (simp[Act.eval,hp];done)) (by first |rfl | (simp[Act.eval,hp];done)) kr rfl (by first |kernel_rfl | (simp[Value.oneCell'];done))):G:=h
theorem wpXs{P:Program}{id:Nat}{l:List Oper}{w:World}(d g:Nat)(h:TypeId)(j k:Array Value)(vs:List Value)(t:Bx h w g j)
  (u:∀w1,Chg g w w1->Bx h w1 g k->M .normal ⟨H λp=>vs.getD p undef,K⟩ w1)
  (hfr:∀f,mJ l.toArray y f=H f:=by intro f;simp only[mJ,mO,aQ,aV,aZ,Nat.reduceAdd];rfl)
  (v:SW P H K [d] (λ_=>Chg g) (λS c=>Chg g w c/\Bx h c g (if S 0 then k else j)) (vs.map kN) [] [] [] y l 0:=by repeat' (first |exact trivial |apply aD |exact oX |exact oS))
  (x:P.follows .mixedOrders=true:=by kernel_rfl)
  (C:l.length=vs.length:=by rfl)
  (z:(oQ l.toArray y.size&&pN l.toArray []&&P0 (xJ l []) [d] [] [] l.length&&JW (xJ l []) [d] [] [] l 0)=true:=by kernel_rfl):
  (Code.region id l.toArray true).wp P M ⟨y,K⟩ w:=by
 have A:∀(q:List Value) (b a:Nat),((q.map (kN (R:=λ_=>Chg g))).getD b kV).c a=false:=λq b a=>by
  rw[aO,aX]
  cases q[b]? <;>rfl
 refine mQ [d] (λ_=>Chg g) (λS c=>Chg g w c/\Bx h c g (if S 0 then k else j)) (vs.map kN) [] [] [] [] [] (λ_ _ _ r b=>⟨b.1.trans (r.chg g),b.2.ext r⟩) ⟨Chg.refl g w,t⟩ v ?_ (λb a _ _ _=>A vs b a) (by rw[aF];omega) x z hfr;intro f w1 s hp;have e:H f=H λp=>vs.getD p undef:=SD0
 rw[e];exact u w1 s.1 s.2
def mZ{R:Nat->World->World->Prop}(g:Bool)(q:PX R):PX R:=⟨λu w=>(g=true->q.p u w)/\(g=false->u=undef),q.c,λu a b h k=>⟨λhg=>q.m u a b h (k.1 hg),k.2⟩,λi hi u a b h k=>⟨λhg=>q.s i hi u a b h (k.1 hg),k.2⟩⟩
theorem PX.whn_p{c:Nat->World->World->Prop}{g:Bool}{b:PX c}{w:World}:(mZ g b).p d w=((g=true->b.p d w)/\(g=false->d=undef)):=rfl
abbrev PE:Type:=PX λ_=>Ext
def nL(p:Value->World->Prop)(h:∀u a b,Ext a b->p u a->p u b):PE:=⟨p,λ_=>false,λu a b he hp=>h u a b he hp,λ_ _ u a b he hp=>h u a b he hp⟩
theorem JY{P:Program}{id:Nat}{w:World}(b:List PE)
  (i:SW P H K [] (λ_=>Ext) (λ_ c=>Ext w c) b [] [] [] y A 0)
  (j:∀f w1,Ext w w1->NI [] f w1 0 b->M .normal ⟨H f,K⟩ w1)
  (k:∀f,mJ A.toArray y f=H f:=by intro f;simp only[mJ,mO,aQ,aV,aZ,Nat.reduceAdd];rfl)
  (l:P.follows .mixedOrders=true:=by kernel_rfl)
  (s:b.length=A.length:=by rfl)
  (p:(oQ A.toArray y.size&&pN A.toArray []&&P0 (xJ A []) [] [] [] A.length&&JW (xJ A []) [] [] [] A 0)=true:=by kernel_rfl):
  (Code.region id A.toArray true).wp P M ⟨y,K⟩ w:=
 mQ [] (λ_=>Ext) (λ_ c=>Ext w c) b [] [] [] [] [] (λ_ _ _ d h=>h.trans d) rE i (λf w1 q r=>j f w1 q r) (λh a d=>by cases d) om l p k
theorem oW{G:Prop}(h:G:=by
  intro S f w1 hI hp hl hS;simp[sI,mY,mX,PX.whn_p,Region.binds]at hp;refine kS rfl (by simp[hp]) λhc=> ?_
  simp[hc]at hp
  first
   | (simp only[kM];go_simp;exact⟨_,rfl,rE,rfl⟩)
   | (have hc:=HC.out _ hI;simp only[kM];go_simp;exact⟨_,rfl,rE,rfl⟩)):G:=h
theorem oPk{P:Program}{o:Oper}{a:Act}{f:Nat->Value}{w:World}{c b:Nat}{g d:Bool}(h:f c= .bool (!g))(i:(g=true->f q= .bool (!a2))/\(g=false->f q=undef))(e:d=(g&&a2))(j:o.guard=none)(k:o.op= .pick (.tmp C) (.const true) (.tmp b))(l:a.eval (.tmp C)=f c)(p:a.eval (.tmp b)=f q):
  kM P o a f w Ext λr _=>r= .bool (!d):=
 CW (.tmp C) (.tmp b) (c:=!g) (d:=!a2) j k (l.trans h) (λs=>p.trans (i.1 (by simpa using s))) (by rw[e];simp)
theorem oGd{P:Program}{o:Oper}{a:Act}{f:Nat->Value}{w:World}(c:o.guard=some (q,a2))(d:f q=a2)(b:kM P {o with guard:=none} a f w a6 T):kM P o a f w a6 T:=by
 unfold kM;rw[c];refine⟨λ_=> ?_,λh=>absurd d h⟩;unfold kM at b;simp only at b;exact Oper.wp_mono (λe w1 i=>i) b
theorem OQ{P:Program}{o:Oper}{a:Act}{f:Nat->Value}{w:World}{b:Func}(c:FuncId)(d:Operand)(xs:Array Operand)(h:Array TypeId)(args:Array Value)(i:P.funcs[c]? =some b)(j:o.guard=none)(k:o.op= .call {callee:= .value d,args:=xs,argTypes:=h})
  (l:a.eval d= .func (.func c) #[] #[]) (p:xs.map a.eval=args) (hc:Calls P c args w λe w'=>∃v,e= .returned v/\Ext w w'/\T v w') (q:(b.name== "runtime.NumGoroutine")=false:=by kernel_rfl) (r:b.body.isNone=false:=by kernel_rfl):kM P o a f w Ext T:=by
 unfold kM;rw[j];unfold Oper.wp;have hrun:(execOp a.eval o).run P w= .ok (.enter c args) w:=by
  subst p;have h1:b.name≠ "runtime.NumGoroutine" :=by simpa using q
  have h2:¬b.body=none:=by intro s;simp[s]at r
  simp[execOp,k,resolve,Deferred.ofValue,l,invoke,callFunc,i,h1,h2]
 exact sK7
def RA(S:Nat)(t:TypeId)(i:Nat)(a b:World):Prop:=if i=0 then Ext a b else∃g cs,S<=g/\Bx t a g cs/\Chg g a b
def IA(w:World)(t:TypeId)(ka:Nat)(zs:Array Value)(Fc:Array Value->World->Prop)(S:Nat->Bool)(f:Nat->Value)(wz:World):Prop:=
 Ext w wz/\(S 0=true->∃g cs,f ka= .pointer (some ⟨g,0,none⟩)/\w.heap.size<=g/\Bx t wz g cs/\(S 1=false->cs=zs)/\(S 1=true->Fc cs wz))
theorem VX{P:Program}{o:Oper}{a:Act}{f:Nat->Value}{w w1:World}{S:Nat->Bool}{ka:Nat}{h:Array Value->World->Prop}(i:IA w z ka y h S f w1)(l:S 1=false)(p:o.guard=none)(q:o.op= .alloc z)(r:((P.info? z).bind (·.zero))=some (.agg y)):
  kM P o a f w1 (RA w z 0) (λb c=>IA w z ka y h (onS S 0) (upF f ka b) c/\(kV (R:=RA w z)).p b c):=by
 refine kM.mono2 (λb c s d=> ?_) (λd=> ?_) (I4 (P:=P) z y (.agg y) p q r rfl)
 .subst s;subst d;have j:Ext w1 (w1.alloc (.cells y z)):=(Ext.refl w1).alloc _;refine⟨j,⟨i.1.trans j,λ_=>⟨w1.heap.size,y,by simp[upF],i.1.size,Bx.new w1 _ _,λ_=>rfl,λk=> ?_⟩⟩,trivial⟩;have:onS S 0 1=S 1:=rfl;rw[this,l]at k
  cases k
 .cases d
theorem L0{P:Program}{o:Oper}{a:Act}{f:Nat->Value}{w w1:World}{S:Nat->Bool}{ka ks:Nat}{i:Array Value->World->Prop}(t:IA w z ka a1 i S f w1)(u:S 0=true)(v:S 1=false)(x:o.guard=none)(A:o.op= .store a3 Z a0)(C:a.eval Z=f ka)(D:a.eval a0= .agg y)
  (E:(P.info? a3).map (·.size)=some y.size) (F:a1.size=y.size) (H:y.all (·.oneCell')=true) (q:ka≠ks) (hF:∀g b,w.heap.size<=g->Bx z w1 g a1->Chg g w1 b->i y b):
  kM P o a f w1 (RA w z 1) (λj b=>IA w z ka a1 i (onS S 1) (upF f ks j) b/\(kV (R:=RA w z)).p j b):=by
 obtain⟨r,I⟩:=t;obtain⟨g,s,k,c,h,J, -⟩:=I u;obtain rfl:=J v;refine kM.mono2 (R:=Chg g) (p:=λ_ b=>Bx z b g y/\Chg g w1 b) (λj b l d=> ?_) (λd=> ?_) (AM (P:=P) a3 Z a0 g z s y x A (C.trans k) D h E F H λb K L=>⟨L,K⟩)
 .exact⟨⟨g,s,c,h,l⟩,⟨r.step l c,λ_=>⟨g,y,by simp[upF,q,k],c,d.1,λp=>(by simp[onS]at p),λ_=>hF g b c h l⟩⟩,trivial⟩
 .exact⟨⟨r.step d.2 c,λ_=>⟨g,y,by simp[upF,q,k],c,d.1,λp=>(by simp[onS]at p),λ_=>hF g w1 c h d.2⟩⟩,trivial⟩
theorem oA{G:Prop}(h:G:=by
  intro S f w1 hI hp hl hS0 hS;exact VX hI (hS.2.1 rfl) rfl rfl kr):G:=h
theorem oB{G:Prop}(h:G:=by
  intro S f w1 hI hp hl hS1 hS;simp[sI,mY,mX,Region.binds]at hp;exact L0 hI (hS.1 rfl) hS1 rfl rfl rfl (by first |rfl | (simp[Act.eval,hp];done)) kr (by rfl) (by first |kernel_rfl | (simp[Value.oneCell'];done)) de (λ_ _ _ _ _=>rfl)):G:=h
theorem wpXA{P:Program}{id:Nat}{w:World}(ka ks:Nat)(d:TypeId)(u:Array Value)(j:Array Value->World->Prop)(k:List (PX (RA w d)))(hF:∀b a q,Ext a q->j b a->j b q)
  (v:KC P H K [ka,ks] (RA w d) (IA w d ka u j) k [] [(ks,0,true),(ka,1,false)] [] y A 0)
  (x:∀f w1,Ext w w1->(∃g b,f ka= .pointer (some ⟨g,0,none⟩)/\w.heap.size<=g/\Bx d w1 g b/\j b w1)->NI [] f w1 0 k->M .normal ⟨H f,K⟩ w1)
  (z:∀f,mJ A.toArray y f=H f:=by intro f;simp only[mJ,mO,aQ,aV,aZ,Nat.reduceAdd];rfl)
  (C:P.follows .mixedOrders=true:=by kernel_rfl)
  (Q:k.length=A.length:=by rfl)
  (D:(oQ A.toArray y.size&&pN A.toArray []&&P0 (xJ A []) [ka,ks] [] [(ks,0,true),(ka,1,false)] A.length&&JW (xJ A []) [ka,ks] [] [] A 0)=true:=by kernel_rfl)
  (E:∀h a,(k.getD h kV).c a=false:=by intro h a;repeat (first |rfl | (rcases h with _ |h; · rfl))):
  (Code.region id A.toArray true).wp P M ⟨y,K⟩ w:=by
 refine zA [ka,ks] (RA w d) (IA w d ka u j) k [] [] [] [(ks,0,true),(ka,1,false)] [] (λS f a q r c=> ?_) (λf=>⟨Ext.refl w,λc=>(by cases c)⟩) (λS f _ q F c=>⟨c.1,λi=> ?_⟩) v (λf w1 I J=> ?_) (λh a _ _ _=>E h a) om C D z
 .refine⟨c.1.trans r,λi=> ?_⟩;obtain⟨g,b,l,p,s,L,t⟩:=c.2 i;exact⟨g,b,l,p,s.ext r,L,λN=>hF _ _ _ r (t N)⟩
 .obtain⟨g,b,l,p⟩:=c.2 i;exact⟨g,b,(F 0 ka rfl i).1.symm.trans l,p⟩
 .obtain⟨O,i⟩:=I;obtain⟨g,b,l,p,s, -,t⟩:=i rfl;exact x f w1 O ⟨g,b,l,p,s,t rfl⟩ J
open Go.Sort
theorem bxT{w:World}{g:Nat}(c:Bx z w g y)(b:Bx a3 w g a1):z=a3:=by
 unfold Bx at c b;rw[c]at b
 cases b
 rfl
theorem Bx.q5{w:World}{g:Nat}{a c e:Value}(b:Bx z w g #[a,d,E,c,e]):(w.cell? g=some a/\w.cell? (g,1)=some d/\w.cell? (g,2)=some E/\w.cell? (g,3)=some c/\w.cell? (g,4)=some e)/\w.frozen? g=false/\w.frozen? (g,1)=false/\w.frozen? (g,2)=false/\w.frozen? (g,3)=false/\w.frozen? (g,4)=false:=
 ⟨⟨b.cell 0,b.cell 1,b.cell 2,b.cell 3,b.cell 4⟩,b.free 0,b.free 1,b.free 2,b.free 3,b.free 4⟩
def LgT(t:TypeId):Bool:=t==99 || t==110 || t==55
structure Kp (B:Nat) (w w':World):Prop where
 keep:∀t g cs,LgT t=false->Bx t w g cs->Bx t w' g cs
 maps:∀(g:Nat) (es:Array MapEntry) (c:Nat),w.heap[g]? =some (Obj.map es c)->w'.heap[g]? =some (Obj.map es c)
 ext:∀a:World,a.heap.size<=B->Ext a w->Ext a w'
 size:w.heap.size<=w'.heap.size
theorem Ext.kp{B:Nat}{w:World}(b:Ext w r):Kp B w r:=⟨λ_ _ _ _ d=>d.ext b,λg _ _ c=>(b.heap (qJ c)).trans c,λ_ _ h=>h.trans b,b.size⟩
theorem Kp.trans{B:Nat}{a:World}(b:Kp B a a5)(c:Kp B a5 r):Kp B a r:=
 ⟨λh g i j d=>c.keep h g i j (b.keep h g i j d),λg k r p=>c.maps g k r (b.maps g k r p),λl d q=>c.ext l d (b.ext l d q),aE b.size c.size⟩
theorem Chg.kp{B g:Nat}{w:World}{t:TypeId}{cs:Array Value}(b:Chg g w r)(c:Bx t w g cs)(j:LgT t=true)(p:B<=g):Kp B w r:=by
 refine⟨λ_ k _ h i=>i.chg b ?_,λk _ _ d=>(Chg.heap b (qJ d) ?_).trans d,λa _ l=>l.step b om,b.size⟩
 .rintro rfl;rw[bxT i c,j]at h
  cases h
 .rintro rfl;unfold Bx at c;rw[d]at c
  cases c
theorem xN{B e n m:Nat}{w:World}{xs:List Value}(b:w.grownBy r d.ownBlock)(h:w.ownsRow q e n d m xs)(i:LgT e=true)(k:B<=q):Kp B w r:=by
 rcases h.2 with⟨c, -⟩ |⟨g,_,cur,c,_,j,_⟩
 .rw[c]at b;exact Ext.kp b
 .rw[c]at b;exact Chg.kp (g:=g) b (t:=e) (cs:=cur) j i om
theorem Kp.keepT{B:Nat}{w:World}(b:Kp B w r):rI w r:=λc g d h i=>b.keep c g d (by rcases h with rfl |rfl<;>decide) i
theorem yO{B e size n:Nat}{w:World}{xs:List Value}(c:w.ownsRow B e size d n xs)(h:Kp q w r)(i:LgT e=false):r.ownsRow B e size d n xs:=by
 refine⟨c.1,?_⟩;rcases c.2 with b |⟨g,j,cur,k,b,l,p⟩
 .exact .inl b
 .exact .inr ⟨g,j,cur,k,b,h.keep e g cur i l,p⟩
theorem OL.kp{t:TypeId}{n B:Nat}{h:World->Value->X->Prop}{w:World}{i:List X}(k:OL t n B h w d i)(l:Kp q w r)(p:LgT t=false)(s:∀b c,h w b c->h r b c):OL t n B h r d i:=by
 obtain⟨u,j,v,x⟩:=k;exact⟨u,⟨j.1,yO j.2 l p⟩,v,λy b c a z=>s b c (x y b c a z)⟩
theorem CnO.kp{B:Nat}{w:World}(b:CnO B q w d V)(c:Kp C w r):CnO B q r d V:=b.keepT c.keepT
theorem CoL.kp{B j c:Nat}{w d:World}{h:Value}{cs:List CR}(b:CoL B c w h cs)(i:Kp j w d):CoL B c d h cs:=OL.kp b i de λ_ _ b=>b.kp i
theorem IL.kp{B:Nat}{w:World}{xs:List Int}(b:IL B w d xs)(c:Kp q w r):IL B r d xs:=yO b c de
structure DR where
 c:CR
 rs:Int
 us:List (Int×Rat)
 p1:Int
 p2:Int
 p3:Int
 p4:Int
def vT(B K:Nat)(w:World)(v:Value)(d:DR):Prop:=∃a n cp b a1 n1 c1 a2 n2 c2 ua un uc,v= .agg #[d.c.1,.slice a n cp,.bool b,.slice a1 n1 c1,.slice a2 n2 c2,d.rs,.slice ua un uc,d.p1,d.p2,d.p3,d.p4]/\
 CnO B K w (.agg #[d.c.1,.slice a n cp,.bool b,.slice a1 n1 c1,.slice a2 n2 c2]) d.c/\TO B K w (.slice ua un uc) d.us
theorem vT.keepT{B b:Nat}{w c:World}{d:Value}{h:DR}(j:vT B b w d h)(i:rI w c):vT B b c d h:=by
 obtain⟨a,n,k,l,p,q,r,s,t,u,v,x,y,z,A,C⟩:=j;exact⟨a,n,k,l,p,q,r,s,t,u,v,x,y,z,A.keepT i,C.keepT i⟩
variable{a7:DR}
theorem vT.ext{B:Nat}{w:World}(b:vT B q w d a7)(c:Ext w r):vT B q r d a7:=b.keepT c.keepT
theorem vT.mono{B b c d:Nat}{w:World}{h:Value}{i:DR}(l:vT B c w h i)(j:b<=B)(k:c<=d):vT b d w h i:=by
 obtain⟨a,n,p,q,r,s,t,u,v,x,y,z,A,C,D,E⟩:=l;exact⟨a,n,p,q,r,s,t,u,v,x,y,z,A,C,(D.mono j).le k,(E.mono j).le k⟩
def DeL(B K:Nat)(w:World)(v:Value)(ds:List DR):Prop:=OL 110 11 B (vT B K) w v ds
def NeL(B:Nat)(w:World)(v:Value)(ns:List (List Int)):Prop:=OV 55 B (IL B) w v ns
theorem DeL.ext{B c:Nat}{w d:World}{h:Value}{i:List DR}(b:DeL B c w h i)(j:Ext w d):DeL B c d h i:=OL.ext b j λ_ _ b=>b.ext j
theorem NeL.ext{B:Nat}{w c:World}{d:Value}{h:List (List Int)}(b:NeL B w d h)(i:Ext w c):NeL B c d h:=OV.ext b i λ_ _ b=>b.ext i
variable{O:List DR}
theorem DeL.chg{B B' g:Nat}{w:World}{t:TypeId}{cs:Array Value}(i:DeL B q w d O)(b:Chg g w r)(c:Bx t w g cs)(j:LgT t=true)(k:t≠110):DeL B q r d O:=by
 obtain⟨l,h,p,s⟩:=i;have u:rI w r:=(b.kp (B:=0) c j zl).keepT;exact⟨l,⟨h.1,mF h.2 b c k⟩,p,λv x y a z=>(s v x y a z).keepT u⟩
theorem NeL.chg{B B' g:Nat}{w:World}{t:TypeId}{cs:Array Value}(h:NeL B w d J)(b:Chg g w r)(c:Bx t w g cs)(i:LgT t=true)(j:t≠55):NeL B r d J:=by
 obtain⟨k,l,p,q⟩:=h;exact⟨k,mF l b c j,p,λs u v a x=>(q s u v a x).kp (b.kp (B:=0) c i zl)⟩
theorem DeL.grow{B e n m:Nat}{w:World}{xs:List Value}(h:DeL B C w d O)(hg:w.grownBy r E.ownBlock)(b:w.ownsRow q e n E m xs)(c:LgT e=true)(i:e≠110):DeL B C r d O:=by
 rcases b.2 with⟨h1, -⟩ |⟨g,_,cur,h1,_,j,_⟩
 .exact SV7
 .rw[h1]at hg;exact h.chg (B':=0) (g:=g) hg (t:=e) (cs:=cur) j c i
structure LgS where
 n0:ByteArray
 n1:ByteArray
 ra:Option Addr
 rn:Nat
 rc:Nat
 va:Option Addr
 vn:Nat
 vc:Nat
 na:Option Addr
 nn:Nat
 nc:Nat
 wa:Option Addr
 wn:Nat
 wc:Nat
 oa:Option Addr
 on:Nat
 oc:Nat
 ca:Option Addr
 cn:Nat
 cc:Nat
 lo:QC
 hi:QC
def lgC(s:LgS)(da:Option Addr)(dn dc:Nat)(ea:Option Addr)(en ec:Nat):Array Value:=
 #[s.n0,s.n1,(s.ra,s.rn,s.rc),(s.va,s.vn,s.vc),(s.na,s.nn,s.nc),(s.wa,s.wn,s.wc),(s.oa,s.on,s.oc),(s.ca,s.cn,s.cc),(0:Int),false,false,
  .bool s.lo.b,(s.lo.a1,s.lo.n1,s.lo.c1),(s.lo.a2,s.lo.n2,s.lo.c2),s.hi.b,(s.hi.a1,s.hi.n1,s.hi.c1),(s.hi.a2,s.hi.n2,s.hi.c2),(),(da,dn,dc),(ea,en,ec)]
def nX(B K:Nat)(w:World)(g:Nat)(s:LgS)(ds:List DR)(ns:List (List Int)):Prop:=∃da dn dc ea en ec,Bx 99 w g (lgC s da dn dc ea en ec)/\B<=g/\dn=ds.length/\en=ns.length/\DeL B K w (.slice da dn dc) ds/\NeL B w (.slice ea en ec) ns
theorem nX.ext{B c g:Nat}{w d:World}{h:LgS}{i:List DR}{j:List (List Int)}(k:nX B c w g h i j)(b:Ext w d):nX B c d g h i j:=by
 obtain⟨l,p,q,r,s,t,u,v,x,y,z,A⟩:=k;exact⟨l,p,q,r,s,t,u.ext b,v,x,y,z.ext b,A.ext b⟩
theorem DeL.at{B z:Nat}{w:World}{A:Option Addr}{I J:Nat}{C:List DR}(K:DeL B z w (A,I,J) C){i:Nat}{b:DR}(D:C[i]? =some b):∃E,A=some ⟨E,0,none⟩/\∃a n c d h j k l p q r s t,
  (∀v,Ext w v->∀(x:Nat) (y:Value),(#[b.c.1,.slice a n c,.bool d,.slice h j k,.slice l p q,b.rs,.slice r s t,b.p1,b.p2,b.p3,b.p4]:Array Value)[x]? =some y->v.cell? ⟨E,i*11+x,none⟩=some y)/\
  CnO B z w (.agg #[b.c.1,.slice a n c,.bool d,.slice h j k,.slice l p q]) b.c/\TO B z w (.slice r s t) b.us:=by
 obtain⟨L,M,N,O⟩:=K;have F:i<L.length:=by rw[N];exact(aH.1 D).1
 obtain⟨g,_,Q,_,_,R,_,_,T⟩:=LS.at om M (aA F);obtain⟨a,n,c,d,h,j,k,l,p,q,r,s,t,H,U,V⟩:=O i _ b (aA F) D;rw[R]at H
 cases H
 cases Q
 exact⟨g,rfl,a,n,c,d,h,j,k,l,p,q,r,s,t,λv X x y Z=>(T v X x y Z).1,U,V⟩
theorem NeL.at{B:Nat}{w:World}{c:Option Addr}(j:NeL B w (c,q,C) J){i:Nat}(k:J[i]? =some N):∃d,c=some ⟨d,0,none⟩/\∃b,(∀h,Ext w h->h.cell? ⟨d,i,none⟩=some b)/\IL B w b N:=by
 obtain⟨_,_,l,_,_,p⟩:=OV.opn j
 cases l
 obtain⟨g,r, -,b,s,t⟩:=p i N k;exact⟨g,r,b,s,t⟩
def nA(cs:List CR)(ds:List DR)(i:Nat):CR:=(cs++ds.map (·.c)).getD i (0,[],0)
theorem RK{b:List CR}{ds:List DR}(c:b[q]? =some V):nA b ds q=V:=by
 unfold nA;rw[aO,bM (aH.1 c).1,c];rfl
theorem OK{b:List CR}(c:b.length<=q)(d:O[q - b.length]? =some a7):nA b O q=a7.c:=by
 unfold nA;rw[aO,cB c,aX,d];rfl
theorem nV(B h g:Nat)(i:LgS)(j:List DR)(b:List (List Int))(w:World)(k:nX B h w g i j b):
  Calls prog 10 #[(g,0)] w λe l=>e= .returned b.length/\Ext w l:=by
 obtain⟨_,_,_,p,q,r,c,_,s,d,t,u⟩:=k;have:w.cell? (g,19)=some (.slice p q r):=c.cell 19;have v:=a8 d;clear c t u d s;go_enter func10,ntmps10;go_wp2;go_ret;exact⟨by rw[v.out]<;>rfl,rE⟩
def pM(i:Int)(n:Nat):Bool:=decide (0<=i)&&decide (i<(n:Int))
theorem sT(B d g:Nat)(h:LgS)(i:List DR)(b:List (List Int))(c:Int)(w:World)(j:nX B d w g h i b):
  Calls prog 45 #[(g,0),c] w λe l=>e= .returned (.bool (pM c b.length))/\Ext w l:=by
 have p:=a8 j;clear j;go_enter func45,ntmps45;by_cases k:0<=c
 .go_wp2_with fail;refine(nV B d g h i b _ p.out).mono ?_;rintro e _ ⟨rfl,q⟩;go_wp2;go_ret;exact⟨by unfold pM;simp[k],q⟩
 .have r:Hid (pM c b.length=false):=a8 (by unfold pM;rw[decide_eq_false k];rfl);go_wp2;go_ret;exact⟨by rw[r.out]<;>rfl,rE⟩
theorem EK(B N g C:Nat)(b:LgS)(l:List CR)(j:List DR)(a4:List (List Int))(d:Nat)(w0 w:World)(a5:nX B N w0 g b j a4)(a6:CL C w0 (b.ca,b.cn,b.cc) l)(D:Ext w0 w)(a7:N<=C)(a9:C<=LIM)(bS:d<l.length+j.length)(bT:l.length+j.length<=1000000):
  Calls prog 47 #[(g,0),d] w λe b0=>∃O,e= .returned O/\CnR C w0 O (nA l j d)/\Ext w b0:=by
 obtain⟨b1,E,Q,_,_,_,K,_,R,b2,T,b3⟩:=a5;obtain⟨_,m,_,U,b4,_,V⟩:=a6.at
 cases b4
 have F:Hid (∀c,Ext w c->c.cell? (g,7)=some (.slice b.ca b.cn b.cc)/\c.cell? (g,18)=some (.slice b1 E Q)):=a8 λc H=>⟨((K.ext D).ext H).cell 7,((K.ext D).ext H).cell 18⟩
 have q:=a8 U;have b5:=a8 R;have b6:=a8 T;have b7:=a8 V;clear V U R b2 T b3 K;obtain⟨w1,b8,r,b9,_⟩:=kR w #[(0:Int),(),false,(),()] 39;subst b8;go_enter func47,ntmps47;by_cases bA:d<b.cn
 .have bB:(d:Int)<b.cn:=om;obtain⟨I,L⟩:∃I,l[d]? =some I:=⟨_,aA (by rw[<-q.out];exact bA)⟩;obtain⟨_,off,X,a,n,s,t,u,v,x,y,z,A,h,Z,a0⟩:=b7.out d I L;have bC:=a8 Z;have bD:=a8 a0;have HC:=a8 (RK (ds:=j) L);have:=h _ (D.trans r);have a1:=F.out _ r;rw[X]at a1;clear h Z a0 L X;go_wp2;have k:Ext w (w.alloc (.cells #[I.1,(a,n,s),t,(u,v,x),(y,z,A)] 39)):=(Ext.refl w).alloc _;refine l8 4 39 w 39 _ _ kr rfl (Bx.new w _ _) underlying39 rfl kr rfl ?_;exact⟨_,rfl,by rw[HC.out];exact⟨a,n,s,t,u,v,x,y,z,A,rfl,bC.out,bD.out⟩,k⟩
 .have bB:¬(d:Int)<b.cn:=om;have bE:d - b.cn<j.length:=by have:=q.out;omega
  obtain⟨J,M⟩:∃J,j[d - l.length]? =some J:=⟨_,aA (by rw[<-q.out];exact bE)⟩;obtain⟨p,rfl,a,n,s,t,u,v,x,y,z,A,_,_,_,h,a2, -⟩:=b6.out.at M;have bG:=a8 a2;have bO:=a8 (OK (by have:=q.out;omega) M);obtain⟨i,a3⟩:=ex (d - b.cn);have:(d:Int) - (b.cn:Int)=i:=om;have:i<E:=by have:=b5.out;omega
  have:IntKind.i64.wrap (i:Int)=i:=cC _ ⟨om,om⟩;have:(i:Int)<E:=om;rw[<-q.out,<-a3]at h;have a1:=F.out _ r;clear a3;have HC:Hid (∀c,Chg w (w.alloc (.cells #[(0:Int),(),false,(),()] 39)) c->c.cell? (g,7)=some (.slice b.ca b.cn b.cc)/\c.cell? (g,18)=some (.slice p E Q)/\
    c.cell? (p,i*11)=some (.int .i64 J.c.1)/\c.cell? (p,i*11+1)=some (.slice a n s)/\c.cell? (p,i*11+2)=some (.bool t)/\c.cell? (p,i*11+3)=some (.slice u v x)/\c.cell? (p,i*11+4)=some (.slice y z A)):=a8 λc H=>
   have k:=r.step H lr;have hF:=D.trans k
   ⟨(F.out _ k).1,(F.out _ k).2,h _ hF 0 _ rfl,h _ hF 1 _ rfl,h _ hF 2 _ rfl,h _ hF 3 _ rfl,h _ hF 4 _ rfl⟩
  clear h a2 M;go_upto_region 3 with(fail);refine wpXs 16 w 39 _ #[J.c.1,(a,n,s),t,(u,v,x),(y,z,A)] [_,_,_,_,_,_,_,_,_,_,_,_,_,_,_,_,undef] b9 ?_;intro _ bP bR;go_wp2;have k:=r.step bP lr;refine l8 4 39 w 39 _ _ kr rfl bR underlying39 rfl kr rfl ?_;exact⟨_,rfl,by rw[bO.out];exact(bG.out.le a7).cnR a9,k⟩
theorem GZ(B k g b:Nat)(c:LgS)(d:List CR)(h:List DR)(p:List (List Int))(i:Nat)(w:World)(r:nX B k w g c h p)(s:CL b w (c.ca,c.cn,c.cc) d)(t:k<=b)(u:b<=LIM)(v:i<d.length+h.length)(x:d.length+h.length<=1000000):
  Calls prog 47 #[(g,0),i] w λe l=>∃j,e= .returned j/\CnR b l j (nA d h i)/\Ext w l:=
 (EK B k g b c d h p i w w r s rE t u v x).mono λe l ⟨j,y,z,q⟩=>⟨j,y,z.ext q,q⟩
def LW(cs:List CR)(ds:List DR)(i:Nat):Bool:=decide (cs.length<=i)&&match ds[i - cs.length]? with |some d=>decide (d.rs=1) |none=>false
theorem zF(B D g E:Nat)(b:LgS)(i:List CR)(h:List DR)(F:List (List Int))(c:Nat)(w:World)(H:nX B D w g b h F)(I:CL E w (b.ca,b.cn,b.cc) i)(U:c<i.length+h.length)(V:i.length+h.length<=1000000):
  Calls prog 53 #[(g,0),c] w λe J=>e= .returned (.bool (LW i h c))/\Ext w J:=by
 obtain⟨K,q,v,_,_,_,r,_,x,L,y,M⟩:=H;obtain⟨_,m,_,z,N,_, -⟩:=I.at
 cases N
 have s:Hid (∀d,Ext w d->d.cell? (g,7)=some (.slice b.ca b.cn b.cc)/\d.cell? (g,18)=some (.slice K q v)):=a8 λd j=>⟨(r.ext j).cell 7,(r.ext j).cell 18⟩
 have k:=a8 z;have O:=a8 x;have Q:=a8 y;clear z x L y M r;go_enter func53,ntmps53;by_cases X:c<b.cn
 .have R:¬(b.cn:Int)<=c:=om;have HA:Hid (LW i h c=false):=a8 (by unfold LW;rw[decide_eq_false (by have:=k.out;omega)];rfl);have HC:=s;go_upto_region 1 with(fail);exact Cc6
 .have R:(b.cn:Int)<=c:=om;have T:c - b.cn<h.length:=by have:=k.out;omega
  obtain⟨p,t⟩:∃p,h[c - i.length]? =some p:=⟨_,aA (by rw[<-k.out];exact T)⟩;have HA:Hid (LW i h c=(p.rs==1)):=a8 (by
   unfold LW;rw[decide_eq_true (by have:=k.out;omega),t,gS];rfl)
  obtain⟨A,rfl,a,n,_,_,_,_,_,_,_,_,_,_,_,u, -, -⟩:=Q.out.at t;obtain⟨l,C⟩:=ex (c - b.cn);have:(c:Int) - (b.cn:Int)=l:=om;have:IntKind.i64.wrap (l:Int)=l:=cC _ ⟨om,om⟩;have:(l:Int)<q:=by have:=O.out;omega
  rw[<-k.out,<-C]at u;clear C;have HC:Hid (∀d,Ext w d->d.cell? (g,7)=some (.slice b.ca b.cn b.cc)/\d.cell? (g,18)=some (.slice A q v)/\d.cell? (A,l*11+5)=some (.int .i64 p.rs)):=a8 λd j=>⟨(s.out _ j).1,(s.out _ j).2,u _ j 5 _ rfl⟩
  clear u t;go_upto_region 1 with(fail);exact Cc6
theorem QZ(l:N.Pairwise (· <= ·))(m:Nat)(r:m<=N.length):(Lib.compactUpTo N.toArray m).Pairwise (· < ·)/\∀c∈Lib.compactUpTo N.toArray m,c<=N.toArray[m - 1]! :=by
 induction m with
 |zero=>exact ⟨List.Pairwise.nil,λc b=>by simp[Lib.compactUpTo]at b⟩
 |succ m p=>
  obtain⟨i,h⟩:=p om;have j:N.toArray[m - 1]! <=N.toArray[m]! :=by
   rcases aR m with rfl |_
   .exact iP _
   .have a:m - 1<N.length:=om;have k:m<N.length:=om;simp only[fV,a,k,getElem!_pos,List.getElem_toArray];exact iN.1 l (m - 1) m a k om
  rw[Lib.compactUpTo_succ];by_cases d:Lib.keeps N.toArray m=true
  .rw[if_pos d];refine⟨eI.2 ⟨i,fZ _ _,λc b _ q=> ?_⟩,λc b=> ?_⟩
   .rw[aC.1 q];have:=h c b;simp only[Lib.keeps,decide_eq_true_eq]at d;rcases d with rfl |d
    .simp[Lib.compactUpTo]at b
    .omega
   .rw[gC];rcases aW.1 b with b |b
    .exact Int.le_trans (h c b) j
    .rw[aC.1 b];exact iP _
  .rw[if_neg d,cF];exact⟨i,λc b=>by rw[gC];exact Int.le_trans (h c b) j⟩
theorem R3(b:N.Pairwise (· <= ·)):(Lib.compact N).Pairwise (· < ·):=
 (QZ b N.length lr).1
theorem WF(d:List Int):(d.mergeSort λb c=>decide (b<=c)).Pairwise (· <= ·):=(List.pairwise_mergeSort (le:=λb c:Int=>decide (b<=c)) (λa i _ h _=>by simp at*;omega) (λa i=>by simp;omega) d).imp λh=>by simpa using h
theorem PN(B:Nat)(c:Value)(b:List Int)(w:World)(h:IL B w c b)(t:b.length<4611686018427387904):
  Calls prog 93 #[c] w λe d=>e= .returned (.tuple #[])/\(∃i:List Int,IL B d c i/\i.Perm b/\i.Pairwise (· <= ·))/\w.grownBy d c.ownBlock:=by
 by_cases q:b=[]
 .subst q;obtain⟨u,j,rfl⟩:=lI h;refine(slices_Sort_int_none u j w).mono ?_;rintro e d ⟨rfl,rfl⟩;exact⟨rfl,⟨[],h,dU _,List.Pairwise.nil⟩,jX _ _⟩
 .have:0<b.length:=fJ.2 q;rcases h.2 with⟨_,r⟩ |⟨g,j,cur,rfl,v,k,x,r,y,z⟩
  .omega
  .refine(slices_Sort_int g 0 j b w (holds_of_blockI k (by simpa using z)) (qJ k) t).mono ?_;rintro e d ⟨rfl,_,_,rfl⟩;refine⟨rfl,⟨b.mergeSort λl p=>decide (l<=p),?_,List.mergeSort_perm _ _,WF b⟩,grownBy_sortedI _⟩;have s:(b.mergeSort λl p=>decide (l<=p)).length=b.length:=sm;unfold IL;rw[s];exact ownsRow_sortedI s v k x r y
theorem MM{B e n m g:Nat}{w:World}{xs:List Value}(b:w.ownsRow B e 1 (g,n,q) n xs)(h:m<=n)(p:0<n):w.ownsRow B e 1 (g,m,q) m (xs.take m):=by
 have:=b.1;rcases b.2 with⟨c,d⟩ |⟨_,_,cur,c,d,i,_,j,k,l⟩
 .omega
 .cases c
  refine⟨by rw[aP];omega,.inr ⟨g,q,cur,rfl,d,i,om,j,k,?_⟩⟩;rw[<-l,List.take_take,dG,dG,eL h]
theorem EE(b:List Int):(Lib.compact b).length<=b.length:=Lib.compact_length_le b
theorem NW(c:a4∈Lib.compact N):a4∈N:=by
 unfold Lib.compact Lib.compactUpTo at c;obtain⟨d,b,rfl⟩:=bJ.1 c;have b:=gO.1 (dV.1 b).1;have e:N.toArray[d]! =N[d]:=by simp[b]
 rw[e];exact dC b
theorem GD(B:Nat)(c:Value)(b:List Int)(w:World)(h:IL B w c b)(E:b.length<4611686018427387904):
  Calls prog 94 #[c] w λe d=>∃i,e= .returned i/\IL B d i (Lib.compact b)/\w.grownBy d c.ownBlock/\i.ownBlock=c.ownBlock:=by
 by_cases k:b=[]
 .subst k;obtain⟨v,j,rfl⟩:=lI h;refine(slices_Compact_int_empty v j w).mono ?_;rintro e d ⟨rfl,rfl⟩;exact⟨_,rfl,h,jX _ _,rfl⟩
 .have x:0<b.length:=fJ.2 k;rcases h.2 with⟨_,l⟩ |⟨g,j,cur,rfl,y,p,q,l,z,A⟩
  .omega
  .refine(slices_Compact_int g 0 j b w (holds_of_blockI p (by simpa using A)) om q).mono ?_;rintro e d ⟨rfl,r,rfl⟩;have C:(Lib.compact b++List.replicate (b.length - (Lib.compact b).length) 0).length=b.length:=by
    rw[aB,bW];have:=EE b;omega
   have D:∀w:World,grow w #[]=w:=λw=>by simp[grow]
   have s:=ownsRow_sortedI (n:=r) (os:=#[]) C y p q l z;have t:=grownBy_sortedI (w:=w) (g:=g) (n:=r) (os:=#[]) (Lib.compact b++List.replicate (b.length - (Lib.compact b).length) (0:Int)).toArray;rw[D]at s t;refine⟨_,rfl,?_,t,rfl⟩;have u:=MM s (EE b) x;rw[bY,dN (by rw[aF];omega),aK (by rw[aF];omega)]at u;exact u
theorem CG(B:Nat)(j:Value)(b:List Int)(w:World)(k:IL B w j b)(y:b.length<=17592186044416):
  Calls prog 58 #[j] w λe d=>∃h,e= .returned h/\IL w d h b/\Ext w d:=by
 obtain⟨s,l,rfl,p⟩:=k.opn
 cases s with
 |none=>
  have t:b=[]:=by
   cases b with
   |nil=>rfl
   |cons u z=>obtain ⟨g,i, -⟩:=p 0 u rfl;cases i
  subst t;refine(slices_Clone_int_nil 0 l w).mono ?_;rintro e d ⟨rfl,rfl⟩;exact⟨_,rfl,gM _ _ _ _,rE⟩
 |some a=>
  obtain⟨g,rfl⟩:∃g,a=⟨g,0,none⟩:=by
   rcases k.2 with⟨c, -⟩ |⟨g,_,cur,c, -⟩
   .cases c
   .cases c
    exact⟨g,rfl⟩
  refine(slices_Clone_int g 0 b.length l b w lr om (λq r=> ?_)).mono ?_
  .obtain⟨_,i,v⟩:=p q b[q] (aA r)
   cases i
   rw[aY,v w (Ext.refl w)];simp[r]
  .rintro e d ⟨h,rfl,c, -,x⟩;rw[bN]at c;exact⟨h,rfl,c,Ext.of_below x⟩
theorem VR(B d g:Nat)(h:LgS)(i:List DR)(b:List (List Int))(c:Int)(w:World)(j:nX B d w g h i b)(k:pM c b.length=false):
  Calls prog 11 #[(g,0),c] w λe t=>e= .returned (.tuple #[sE,false])/\Ext w t:=by
 obtain⟨w1,l,p,q,_⟩:=kR w #[(0:Int),(),false,(),()] 39;have u:=a8 (j.ext p);have v:=a8 k;clear j k;go_enter func11,ntmps11;go_wp2_with fail;rw[<-l];clear l;refine(sT B d g h i b c w1 u.out).mono ?_;rw[v.out];rintro e _ ⟨rfl,r⟩;have s:=q.ext r;have:=s.q5;clear q;go_wp2;refine nP 4 5 39 w 39 _ _ _ kr rfl rfl (((((s.set 0 _).set 1 _).set 2 _).set 3 _).set 4 _) underlying39 rfl kr rfl ?_;exact⟨rfl,(p.trans r).step (((((Chg.setCell _ w 0 _).trans (Chg.setCell _ w 1 _)).trans (Chg.setCell _ w 2 _)).trans (Chg.setCell _ w 3 _)).trans (Chg.setCell _ w 4 _)) lr⟩
theorem H4(B l p g d:Nat)(j:LgS)(h:List CR)(c:List DR)(i:List (List Int))(b:Nat)(w:World)(t:nX B l w g j c i)(u:CL d w (j.ca,j.cn,j.cc) h)(H:l<=d)(I:d<=LIM)(b0:i.length=h.length+c.length)(b1:b<i.length)(b2:i.length<=1000000)
  (J:(nA h c b).2.1.length<=1073741824) (K:((nA h c b).2.1.length+1)*(d+1)<=34359738000) (L:(nA h c b).2.1.length*(d+1)<=p) (M:d<=p):
  Calls prog 11 #[(g,0),b] w λe v=>∃x,e= .returned (.tuple #[x,true])/\CnO w p v x (mW (nA h c b))/\Ext w v:=by
 obtain⟨w1,y,q,z,_⟩:=kR w #[(0:Int),(),false,(),()] 39;have A:=a8 (t.ext q);have HC:=a8 (u.ext q);have N:Hid (pM (b:Int) i.length=true):=a8 (by unfold pM;rw[decide_eq_true om,decide_eq_true om];rfl);clear t u;go_enter func11,ntmps11;go_wp2_with fail;rw[<-y];clear y;refine(sT B l g j c i b w1 A.out).mono ?_;rw[N.out];rintro e O ⟨rfl,k⟩;go_wp2_with fail;refine(GZ B l g d j h c i b O (A.out.ext k) (HC.out.ext k) H I om om).mono ?_;rintro e Q ⟨R,rfl,C,r⟩;have T:=a8 C;clear C;go_wp2_with fail;refine(uE d p R _ Q T.out J K L M).mono ?_;rintro e U ⟨_,rfl,s,D⟩;obtain⟨a,n,V,X,Z,a0,a1,a2,a3,a4,rfl,a5,a6,a7⟩:=s.op;have:=k.size;have:=r.size;have a9:=a8 s;have E:=((z.ext k).ext r).ext D;have:=E.q5;clear z a5 a6 a7 s;go_wp2;have F:=((((Chg.setCell U w 0 (.int .i64 (mW (nA h c b)).1)).trans (Chg.setCell _ w 1 (a,n,V))).trans (Chg.setCell _ w 2 X)).trans (Chg.setCell _ w 3 (Z,a0,a1))).trans (Chg.setCell _ w 4 (a2,a3,a4));refine nP 4 5 39 w 39 _ _ _ kr rfl rfl (((((E.set 0 _).set 1 _).set 2 _).set 3 _).set 4 _) underlying39 rfl kr rfl ?_;exact⟨_,rfl,(a9.out.chg F om).mono om,(((q.trans k).trans r).trans D).step F lr⟩
theorem RJ(B d g:Nat)(h:LgS)(i:List DR)(b:List (List Int))(c:Int)(w:World)(j:nX B d w g h i b)(k:pM c b.length=false):
  Calls prog 17 #[(g,0),c] w λe l=>e= .returned ()/\Ext w l:=by
 have p:=a8 j;have q:=a8 k;clear j k;go_enter func17,ntmps17;go_wp2_with fail;refine(sT B d g h i b c w p.out).mono ?_;rw[q.out];exact Jh0
theorem OJ(B u g:Nat)(v:LgS)(x:List DR)(b:List (List Int))(d:Nat)(l:List Int)(w:World)(h:nX B u w g v x b)(r:b[d]? =some l)(T:b.length<=1000000)(H:l.length<=17592186044416):
  Calls prog 17 #[(g,0),d] w λe y=>∃p,e= .returned p/\IL w y p l/\Ext w y:=by
 have:=(aH.1 r).1;have I:Hid (pM (d:Int) b.length=true):=a8 (by unfold pM;rw[decide_eq_true om,decide_eq_true om];rfl);have J:=a8 h;have z:Hid (∃i c j,c=b.length/\(∀s,Ext w s->s.cell? (g,19)=some (.slice i c j))/\NeL B w (.slice i c j) b):=a8 (by
  obtain⟨_,_,_,i,c,j,K,_,_,t,_,q⟩:=h;exact⟨i,c,j,t,λs L=>(K.ext L).cell 19,q⟩)
 obtain⟨i,c,j,t,A,q⟩:=z.out;obtain⟨_,rfl,p,C,D⟩:=q.at r;have HC:=a8 (aD A C);have E:=a8 D;have:(d:Int)<c:=om;clear h r z A C D q t;go_enter func17,ntmps17;go_wp2_with fail;refine(sT B u g v x b d w J.out).mono ?_;rw[I.out];rintro e M ⟨rfl,k⟩;have:=HC.out.1 _ k;have:=HC.out.2 _ k;have N:=k.size;obtain⟨_,_,_,rfl⟩:∃a n O,p= .slice a n O:=by
  obtain⟨_,_,h, -⟩:=E.out.opn;exact⟨_,_,_,h⟩
 go_wp2_with fail;refine(CG B _ l M (E.out.ext k) H).mono ?_;rintro e _ ⟨_,rfl,F,Q⟩;have R:=a8 F;clear F;go_wp2;go_ret;exact⟨_,rfl,R.out.mono N,k.trans Q⟩
theorem JF(b:TmC)(g d:Nat)(k:Option Addr)(h l:Nat)(w:World)(p:Bx 29 w d #[(g,0)])(q:∀c,Ext w c->c.cell? (g,4)=some (.slice k h l)):
  Calls prog 92 #[.agg #[b.c,b.b,(b.a1,b.n1,b.c1),(b.a2,b.n2,b.c2)],(d,0)] w λe t=>e= .returned (.bool (decide ((h:Int)<=b.c)))/\Ext w t:=by
 obtain⟨w1,r,i,s,_⟩:=kR w #[b.c,b.b,(b.a1,b.n1,b.c1),(b.a2,b.n2,b.c2)] 67;have HC:Hid (∀c,Ext w1 c->c.cell? w.heap.size=some (.int .i64 b.c)/\c.cell? d=some (.pointer g)/\c.cell? (g,4)=some (.slice k h l)):=a8 λc j=>⟨(s.ext j).cell 0,(p.ext (i.trans j)).cell 0,q _ (i.trans j)⟩
 clear p q;go_enter func92,ntmps92;go_wp2_with fail;rw[<-r];clear r s;refine wpX [_,_,_,_,_,_,_,_,_,_] ?_;intro _ u;go_wp2;go_ret;exact⟨by simp[*],i.trans u⟩
theorem OA(B g j:Nat)(k:Option Addr)(c l:Nat)(s:Value)(d:List TmC)(w:World)(t:LS 67 4 B w s (d.map tmv))(C:Bx 29 w j #[(g,0)])(u:∀h,Ext w h->h.cell? (g,4)=some (.slice k c l)):
  Calls prog 136 #[s,.func (.func 92) #[] #[(j,0)]] w λe D=>e= .returned (.int .i64 (tG (λb:TmC=>decide ((c:Int)<=b.c)) d))/\Ext w D:=by
 have E:=LsT.at t;clear t;obtain⟨_,n,_,v,rfl,_,y⟩:=E;have Hn:=a8 v;have F:=a8 y;have H:=a8 u;clear v y u;go_enter func136,ntmps136;go_wp2_with fail;go_loopw [8] (λp wr=>∃i:Nat,i<=n/\p= .int .i64 (i:Int)/\Hid (∀x∈d.take i,(λb:TmC=>decide ((c:Int)<=b.c)) x=false)/\Ext w wr) (λp _=>((n:Int) - intOf p).toNat)
 case atStart=>exact ⟨0,zl,rfl,a8 (λx hx=>by simp at hx),rE⟩
 case round=>
  obtain⟨i,I,rfl,hH,hex⟩:=hrel;rcases aI I with q |q
  .subst q;have J:¬((i:Int)<i):=om;have HF:Hid (tG (λb:TmC=>decide ((c:Int)<=b.c)) d= -1):=vp3;exact pM4
  .have J:(i:Int)<n:=om;obtain⟨r,hx⟩:∃x,d[i]? =some x:=⟨_,aA (by rw[<-Hn.out];exact q)⟩;obtain⟨_,rfl,z⟩:=F.out i r hx;obtain⟨_,_,_,_⟩:=z wr hex;have K:=a8 (C.ext hex);have L:Hid (∀h,Ext wr h->h.cell? (g,4)=some (.slice k c l)):=a8 λh M=>H.out h (hex.trans M)
   clear z;have HX:=a8 (aD hx (mP hx));obtain⟨N,A⟩:=ex ((λb:TmC=>decide ((c:Int)<=b.c)) r:Bool);have Hr:=a8 A.symm;clear hx A;go_wp2_with fail;refine(JF r g j k c l wr K.out L.out).mono ?_;rw[Hr.out];rintro _ _ ⟨rfl,e2⟩
   cases N with
   |true=>
    have HF:Hid (tG (λb:TmC=>decide ((c:Int)<=b.c)) d=(i:Int)):=a8 (CO hH.out HX.out.1 Hr.out);exact Vf9
   |false=>
    have HF:Hid (∀x∈d.take (i+1),(λb:TmC=>decide ((c:Int)<=b.c)) x=false):=a8 λx hx=>Gq5
    exact oo8
theorem O9(B C g i:Nat)(s:Option Addr)(c t:Nat)(j:Value)(m:List (Int×Rat))(w:World)(h0:TO B C w j m)(D:Bx 29 w i #[(g,0)])(E:∀u,Ext w u->u.cell? (g,4)=some (.slice s c t)):
  Calls prog 91 #[j,.func (.func 92) #[] #[(i,0)]] w λe F=>e= .returned (.bool (m.any λh=>decide ((c:Int)<=h.1)))/\Ext w F:=by
 obtain⟨d,k,H,v⟩:=h0;have x:(d.any λb:TmC=>decide ((c:Int)<=b.c))=m.any λh=>decide ((c:Int)<=h.1):=by
  have e:d.map (·.c)=m.map Prod.fst:=by
   refine fT λl=> ?_
   rw[aX,aX]
   cases p:d[l]? with
   |none=>rw [cM (by rw[<-k];exact gR.1 p)];rfl
   |some b=>
    obtain⟨h,y⟩:∃h,m[l]? =some h:=⟨_,aA (by rw[<-k];exact(aH.1 p).1)⟩;rw[y];exact congrArg some (v l b h p y).1
  have:=congrArg (λI=>I.any λJ:Int=>decide ((c:Int)<=J)) e;simpa[List.any_map,Function.comp_def]using this
 rw[<-x];clear x k v;go_enter func91,ntmps91;go_wp2_with fail;refine(OA B g i s c t j d w H D E).mono ?_;rintro e _ ⟨rfl,e2⟩;have q:=GR (p:=λb:TmC=>decide ((c:Int)<=b.c)) (cs:=d);obtain⟨r,z⟩:=ex (tG (λb:TmC=>decide ((c:Int)<=b.c)) d);rw[<-z]at q ⊢;have A:=a8 q;clear q z;by_cases h0:0<=r
 .have HB:Hid ((d.any λb:TmC=>decide ((c:Int)<=b.c))=true):=a8 (by rw[<-A.out,decide_eq_true h0]);go_wp2;go_ret;exact⟨by rw[HB.out]<;>rfl,e2⟩
 .have HB:Hid ((d.any λb:TmC=>decide ((c:Int)<=b.c))=false):=a8 (by rw[<-A.out,decide_eq_false h0]);exact oZ5
def yH(c:CR)(n:Nat):Bool:=qR c.1&& !(mkV c.2.1).any λx=>decide ((n:Int)<=x.1)
def FmP(w:World)(K:Nat)(c:CR)(n:Nat)(e:Ending)(w':World):Prop:=∃v,e= .returned (.tuple #[v,.int .i64 (if yH c n then 0 else 2)])/\Ext w w'/\(yH c n=true->CnO w K w' v (mW c))/\(yH c n=false->v=sE)
theorem CM(B X k h g:Nat)(s:LgS)(Z:List DR)(a0:List (List Int))(A:Value)(c:CR)(w:World)(b:nX B X w g s Z a0)(p:CnR k w A c)(a1:c.2.1.length<=1073741824)(a2:(c.2.1.length+1)*(k+1)<=34359738000)(a3:c.2.1.length*(k+1)<=h)(a4:k<=h):
  Calls prog 48 #[(g,0),A] w λe a5=>FmP w h c s.nn e a5:=by
 have a6:Hid (∀l,Ext w l->l.cell? (g,4)=some (.slice s.na s.nn s.nc)):=a8 (by
  obtain⟨_,_,_,_,_,_,a7,_,_,_,_,_⟩:=b;exactλl q=>(a7.ext q).cell 4)
 have a9:=p;obtain⟨a,n,b0,b1,b2,b3,b4,b5,b6,b7,rfl, -, -⟩:=a9;have C:=a8 p;clear b p;obtain⟨w1,D,E,F,r,H,_⟩:=qI w #[(g,0)] #[c.1,(a,n,b0),b1,(b2,b3,b4),(b5,b6,b7)] #[(0:Int),(),false,(),()] 29 39 39;go_enter func48,ntmps48;go_wp2_with fail;rw[<-D];refine(uE k h _ c w1 (C.out.ext E) a1 a2 a3 a4).mono ?_;rintro e _ ⟨_,rfl,t,i⟩;obtain⟨I,m,J,f,d1,K,f1,d2,L,f2,rfl,M,b8,b9⟩:=t.op;have bA:=(r.ext i).q5;have:=i.size;obtain⟨u,N,d,bB⟩:=DW (r.ext i) c.1 (I,m,J) f (d1,K,f1) (d2,L,f2);have:=d.size;have bC:=a8 ((F.ext i).chg d om);have B3:Hid (Bx 39 u (w.heap.size+1+1) #[(0:Int),(),false,(),()]):=a8 ((H.ext i).chg d om);have bD:=a8 (M.chg d om);have bE:=a8 (t.chg d om);have v:=a8 ((E.trans i).step d om);have O:=a8 bB;clear F r H t M b8 b9 C;go_upto_region 2 with(fail);rw[<-N];clear N D bA d;obtain⟨t0,t1,-⟩:=O.out.cl [0,1];have Q:∀(x:World),Ext u x->yH c s.nn=false->FmP w h c s.nn (.returned (.tuple #[sE,(2:Int)])) (((((x.setCell (w.heap.size+1+1,0) (0:Int)).setCell (w.heap.size+1+1,1) ()).setCell (w.heap.size+1+1,2) false).setCell (w.heap.size+1+1,3) ()).setCell (w.heap.size+1+1,4) ()):=λx bG R=>
  ⟨sE,by rw[R];rfl,(v.out.trans bG).step (((((Chg.setCell _ (w.heap.size+1+1) 0 _).trans (Chg.setCell _ (w.heap.size+1+1) 1 _)).trans (Chg.setCell _ (w.heap.size+1+1) 2 _)).trans (Chg.setCell _ (w.heap.size+1+1) 3 _)).trans (Chg.setCell _ (w.heap.size+1+1) 4 _)) om,λb=>(by rw[R]at b;cases b),λ_=>rfl⟩
 have FIN:=a8 Q;clear Q;by_cases bS:c.1<1
 .exact rD8
 .by_cases bT:3<c.1
  .exact rD8
  .have T:Hid (qR c.1=true):=a8 (by unfold qR;rw[decide_eq_true om]);go_wp2_with fail;refine(O9 w1 h g w s.na s.nn s.nc _ (mkV c.2.1) u bD.out bC.out λl q=>a6.out l (v.out.trans q)).mono ?_;obtain⟨bO,y⟩:=ex ((mkV c.2.1).any λbP=>decide ((s.nn:Int)<=bP.1):Bool);rw[<-y];have U:=a8 y;clear y;rintro e bR ⟨rfl,j⟩;have:=j.size;have z:=B3.out.ext j;have:=z.q5
   cases bO with
   |true=>
    have HF:Hid (yH c s.nn=false):=a8 (by unfold yH;rw[<-U.out,T.out];rfl);go_wp2;refine nP 4 5 39 (w.heap.size+1+1) 39 _ _ _ kr rfl rfl (((((z.set 0 _).set 1 _).set 2 _).set 3 _).set 4 _) underlying39 rfl kr rfl ?_;exact FIN.out _ j HF.out
   |false=>
    have HF:Hid (yH c s.nn=true):=a8 (by unfold yH;rw[<-U.out,T.out];rfl);have:=(O.out.ext j).q5;clear t0 t1;go_wp2;have V:=((((Chg.setCell bR (w.heap.size+1+1) 0 c.1).trans (Chg.setCell _ (w.heap.size+1+1) 1 (I,m,J))).trans (Chg.setCell _ (w.heap.size+1+1) 2 f)).trans (Chg.setCell _ (w.heap.size+1+1) 3 (d1,K,f1))).trans (Chg.setCell _ (w.heap.size+1+1) 4 (d2,L,f2));refine nP 4 5 39 (w.heap.size+1+1) 39 _ _ _ kr rfl rfl (((((z.set 0 _).set 1 _).set 2 _).set 3 _).set 4 _) underlying39 rfl kr rfl ?_;exact⟨_,by rw[HF.out];rfl,(v.out.trans j).step V om,λ_=>((bE.out.ext j).chg V om).mono om,λb=>(by rw[HF.out]at b;cases b)⟩
theorem OL.fin{n B:Nat}{R:World->Value->X->Prop}{w':World}{c:List X}{b:X}(j:pW n U)(k:U.length=c.length)(l:∀(h:Nat) (i:Value) (b:X),U[h]? =some i->c[h]? =some b->R w' i b)(p:R w' (.agg y) b)
  (q:w'.ownsRow B z n d (U.length+1) (kX U++y.toList)) (r:y.size=n) (s:y.all (·.oneCell')=true):OL z n B R w' d (c++ [b]):=by
 refine OL.app (w:=w') k l ⟨j.app (.one r s),?_⟩ (λ_ _ t=>t) p;have e:kX (U++ [.agg y])=kX U++y.toList:=by
  rw[pF];show kX U++(y.toList++ [])=_;rw[cF]
 rw[e,aB];exact q
theorem Kp.stepG{B:Nat}{a:World}{h:Option Nat}(b:Kp B a r)(c:r.grownBy a5 h)(l:∀g,h=some g->a.heap.size<=g):Kp B a a5:=by
 cases h with
 |none=>exact b.trans (Ext.kp c)
 |some g=>
  have:=l g rfl;refine⟨λp i q s d=> ?_,λi t u j=> ?_,λv d k=> ?_,aE b.size (Chg.size c)⟩
  .exact(b.keep p i q s d).chg c (λe=>by have:=d.lt;omega)
  .have:=qJ j;exact(Chg.heap c (by have:=b.size;omega) om).trans (b.maps i t u j)
  .exact(b.ext v d k).step c (by have:=k.size;omega)
theorem Bx.growO{e n m B g:Nat}{w:World}{xs:Array Value}(h:Bx q w g xs)(hg:w.grownBy r d.ownBlock)(b:w.ownsRow B e n d m U)(c:q≠e):Bx q r g xs:=by
 rcases b.2 with⟨h1, -⟩ |⟨i,_,cur,h1,_,j,_⟩
 .exact SV7
 .rw[h1]at hg;exact h.chg (show Chg i w r from hg) (by rintro rfl;exact c (bxT h j))
theorem yJ{B e n m:Nat}{w:World}(c:w.grownBy r d.ownBlock)(h:w.ownsRow B e n d m U)(i:e≠165)(j:e≠67):rI w r:=λ_ g _ k l=>l.growO c h (by rcases k with rfl |rfl<;>exactλb=>(by first |exact i b.symm |exact j b.symm))
def NeM(B M:Nat)(w:World)(v:Value)(ns:List (List Int)):Prop:=OV 55 B (λw v l=>IL B w v l/\∀g,v.ownBlock=some g->g<M) w v ns
theorem NeL.bound{B:Nat}{w:World}(i:NeL B w d J):NeM B w w d J:=OV.mono i lr λ_ _ _ h=>⟨h,λg b=>by
 rcases h.2 with⟨c, -⟩ |⟨_,_,cur,c,_,j,_⟩
 .rw[c]at b;cases b
 .rw[c]at b
  cases b
  exact qJ j⟩
theorem NeM.ext{B c:Nat}{w d:World}{h:Value}{i:List (List Int)}(b:NeM B c w h i)(j:Ext w d):NeM B c d h i:=OV.ext b j λ_ _ b=>⟨b.1.ext j,b.2⟩
theorem NeM.chg{B g:Nat}{w:World}{t:TypeId}{cs:Array Value}(p:NeM B q w d J)(b:Chg g w r)(c:Bx t w g cs)(s:LgT t=true)(u:t≠55):NeM B q r d J:=by
 obtain⟨v,x,y,h⟩:=p;exact⟨v,mF x b c u,y,λi j k a l=>⟨(h i j k a l).1.kp (b.kp (B:=0) c s zl),(h i j k a l).2⟩⟩
theorem NeM.grow{B e n m:Nat}{w:World}{xs:List Value}(h:NeM B q w d J)(hg:w.grownBy r E.ownBlock)(b:w.ownsRow C e n E m xs)(c:LgT e=true)(i:e≠55):NeM B q r d J:=by
 rcases b.2 with⟨h1, -⟩ |⟨g,_,cur,h1,_,j,_⟩
 .exact SV7
 .rw[h1]at hg;exact h.chg (g:=g) hg (t:=e) (cs:=cur) j c i
theorem NeM.growI{B n m:Nat}{w:World}{xs:List Value}(h:NeM B q w E J)(hg:w.grownBy r d.ownBlock)(s:w.ownsRow C 3 n d m xs)(t:∀g,d.ownBlock=some g->q<=g):NeM B q r E J:=by
 rcases s.2 with⟨h1, -⟩ |⟨g,_,cur,h1,_,u,_⟩
 .exact SV7
 .have:=t g (by rw[h1];rfl);rw[h1]at hg;obtain⟨v,x,y,b⟩:=h;refine⟨v,mF x (show Chg g w r from hg) (show Bx 3 w g cur from u) de,y,λc i j a k=>⟨?_,(b c i j a k).2⟩⟩;obtain⟨l,z⟩:=b c i j a k;refine⟨l.1,?_⟩;rcases l.2 with A |⟨p,D,F,f1,f2,f3,f4⟩
  .exact .inl A
  .have:=z p (by rw[f1];rfl);exact .inr ⟨p,D,F,f1,f2,(Chg.heap (show Chg g w r from hg) (qJ f3) om).trans f3,f4⟩
theorem DeL.growI{B n m:Nat}{w:World}{xs:List Value}(h:DeL B q w d O)(hg:w.grownBy r E.ownBlock)(b:w.ownsRow C 3 n E m xs):DeL B q r d O:=by
 have i:=yJ hg b de de;rcases b.2 with⟨h1, -⟩ |⟨g,_,cur,h1,_,j,_⟩
 .exact SV7
 .rw[h1]at hg;obtain⟨k,c,l,p⟩:=h;exact⟨k,⟨c.1,mF c.2 (show Chg g w r from hg) (show Bx 3 w g cur from j) de⟩,l,λs t u a v=>(p s t u a v).keepT i⟩
def DerC(B K:Nat)(w:World)(box:Array Value)(d:DR):Prop:=vT B K w (.agg box) d/\box.size=11/\box.all (·.oneCell')=true
theorem vT.c{B:Nat}{w:World}(c:vT B q w d a7):∃b,d= .agg b/\DerC B q w b a7:=by
 obtain⟨a,n,h,i,j,k,l,p,r,s,t,u,v,rfl,x,y⟩:=c;exact⟨_,rfl,⟨a,n,h,i,j,k,l,p,r,s,t,u,v,rfl,x,y⟩,rfl,by simp[Value.oneCell']⟩
def AdI(B K M:Nat)(w w1:World)(g gb:Nat)(s:LgS)(da:Option Addr)(dn dc:Nat)(ea:Option Addr)(en ec:Nat)(ds:List DR)(d:DR)(ns:List (List Int))(box:Array Value)(S:Nat->Bool)(wz:World):Prop:=
 Kp B w wz/\NeM B M wz (ea,en,ec) ns/\Bx 110 wz gb box/\(S 0=false->DeL B K wz (da,dn,dc) ds)/\(S 1=false->Bx 99 wz g (lgC s da dn dc ea en ec))/\
 (S 1=true->∃da' dc',DeL B K wz (.slice da' (dn+1) dc') (ds++ [d])/\Bx 99 wz g (lgC s da' (dn+1) dc' ea en ec))/\w1.heap.size<=wz.heap.size
def AdJ(B K M:Nat)(w w3:World)(g:Nat)(s:LgS)(da:Option Addr)(dn dc:Nat)(ea:Option Addr)(en ec:Nat)(ds:List DR)(ns:List (List Int))(nv:Value)(l1 l2:List Int)(S:Nat->Bool)(wz:World):Prop:=
 (∀wa,Kp B wa w->(∀g',nv.ownBlock=some g'->wa.heap.size<=g')->Kp B wa wz)/\DeL B K wz (da,dn,dc) ds/\(S 0=false->IL B wz nv l1)/\(S 1=false->NeM B M wz (ea,en,ec) ns)/\(S 2=false->Bx 99 wz g (lgC s da dn dc ea en ec))/\
 (S 2=true->∃ea' ec',NeL B wz (.slice ea' (en+1) ec') (ns++ [l2])/\Bx 99 wz g (lgC s da dn dc ea' (en+1) ec'))/\w3.heap.size<=wz.heap.size
theorem wI(B O g:Nat)(H:LgS)(U:List DR)(I:List (List Int))(c3 J:Value)(a1:DR)(c4:List Int)(c5 w:World)(b:nX B O c5 g H U I)(e2:Ext c5 w)(e3:∀s,J.ownBlock=some s->c5.heap.size<=s)(i6:vT B O w c3 a1)(Q:IL B w J c4)(kA:U.length<=1000000)(kB:I.length<=1000000)(kC:c4.length<=1000000000):
  Calls prog 49 #[(g,0),c3,J] w λe a2=>e= .returned I.length/\(∃e4,nX B O a2 g H (U++ [a1]) (I++ [e4])/\e4.Pairwise (· < ·)/\∀v∈e4,v∈c4)/\∀w0,Kp B w0 w->(∀s,J.ownBlock=some s->w0.heap.size<=s)->Kp B w0 a2:=by
 obtain⟨V,y,X,D,en,E,gT,e5,h0,h1,h2,h3⟩:=b;have R:=gT.ext e2;have i7:=h2.ext e2;obtain⟨b5,h4⟩:=ex c5.heap.size;have h5:=h3.bound.ext e2;rw[<-h4]at h5 e3;have h6:=a8 e3;clear gT h2 h3 h4 e3;obtain⟨a9,rfl,h7,c6,e6⟩:=i6.c;obtain⟨w1,j0,c7,h8,_⟩:=kR w a9 110;obtain⟨c8,e7,j1,h9⟩:=i7;have j2:=e7.opn;obtain⟨_,_,j3,j4,j5,hA⟩:=j2;have hB:=a8 h0;have bE:=a8 h1;have e8:y<=1000000:=om;clear h0 h1 j3 j4 j5;have:g<w.heap.size:=R.lt;have hC:AdI B O b5 w w1 g w H V y X D en E U a1 I a9 (λ_=>false) w1:=⟨Ext.kp c7,h5.ext c7,h8,λ_=>DeL.ext ⟨c8,e7,j1,h9⟩ c7,λ_=>R.ext c7,λb=>(by cases b),lr⟩;go_enter func49,ntmps49;go_upto_region 1 with(fail);rw[<-j0];have j6:=a8 h7;have hD:=a8 Q;have bG:Hid (∀s,(Value.slice V y X).ownBlock=some s->s<w.heap.size/\∃a4,Bx 110 w s a4):=a8 λs bD=>by
  obtain⟨-, -,b6,hE⟩:=hA s bD;exact⟨b6,hE⟩
 clear e7 h9 hA h7 Q R h8;apply mQ [8,12] (λq a j=>if q=0 then a.grownBy j (Value.slice V y X).ownBlock else Chg g a j/\∃a4,Bx 99 a g a4) (AdI B O b5 w w1 g w H V y X D en E U a1 I a9)
  [kN _,kN _,kN _,kN _,kN _,kN (V,y,X),kN (.agg a9),⟨λr j=>∃x,r= .slice (some ⟨x,0,none⟩) 1 1/\w1.heap.size<=x/\Bx 110 j x a9,λ_=>false,?m7,?s7⟩,
   ⟨λr j=>∃z A,r= .slice z (y+1) A/\DeL B O j r (U++ [a1]),λq=>decide (q=0),?m8,?s8⟩,kN _,kN _,kN _,kV] [[],[],[],[],[],[],[],[],[0],[],[],[],[]] [] [] [(5,1,false),(8,1,false)] [] ?ie hC ?st ?en ?hcs sm kr kr hF
 case m7=>exactλr a j l ⟨x,k,d,K⟩=>⟨x,k,d,K.ext l⟩
 case m8=>exactλr a j l ⟨z,A,k,d⟩=>⟨z,A,k,d.ext l⟩
 case s7=>
  intro q b0 r a j p h;obtain⟨x,k,d,K⟩:=h;refine⟨x,k,d,?_⟩;by_cases Z:q=0
  .simp only[Z,if_true]at p
   cases a0:(Value.slice V y X).ownBlock with
   |none=>rw [a0]at p;exact K.ext p
   |some s=>
    rw[a0]at p;have:=(bG.out s a0).1;exact K.chg p om
  .simp only[Z,if_false]at p;exact K.chg p.1 om
 case s8=>
  intro q b0 r a j p h;have Z:q≠0:=of_decide_eq_false b0;simp only[Z,if_false]at p;obtain⟨i,a4,b7⟩:=p;obtain⟨z,A,k,d⟩:=h;exact⟨z,A,k,d.chg (B':=0) i b7 de de⟩
 case ie=>exactλS a j l ⟨k,d,K,bO,e9,eA,eB⟩=>⟨k.trans (Ext.kp l),d.ext l,K.ext l,λb=>(bO b).ext l,λb=>(e9 b).ext l,λb=>(let ⟨v,t,eC,b1⟩:=eA b;⟨v,t,eC.ext l,b1.ext l⟩),aE eB l.size⟩
 case hcs=>
  intro bP a bR N _;have bR:a<2:=bR;rcases bP with _ |_ |_ |_ |_ |_ |_ |_ |_ |_ |_ |_ |_ |bP<;>first |rfl |skip
  all_goals
   simp only[iB,iC,aC]at N ⊢;exact decide_eq_false N
 case st=>
  refine⟨?_,?_,?_,?_,?_,?_,?_,?_,?_,?_,?_,?_,?_,trivial⟩
  .exact oX
  .exact oX
  .exact oX
  .exact oX
  .exact oX
  .intro S f C c h Q L;simp[sI,mY,mX,Region.binds]at h;have i:=(c.2.2.2.2.1 (L.1 rfl)).cell 18;exact DG6
  .intro S f C c h Q L;exact kZ _ _ w _ _ _ rfl rfl rfl c.2.2.1 underlying110 rfl (by rw[c6];kernel_rfl) rfl
  .intro S f C c h Q L;simp[sI,mY,mX,Region.binds]at h;exact lH (P:=prog) 73 110 1 11 _ [.agg a9] rfl rfl underlying73 kr kr (by simp only[Act.eval];exact congrArg (λjA=> [(0,jA)]) h) rfl om om om (by simp only[aS,bI,or_false,forall_eq];exact c6) (λa2 l R=>⟨_,rfl,c.2.2.2.2.2.2,by simpa[Value.cells]using R⟩)
  .intro S f C c h Q eD L;have b8:S 1=false:=L.2.1 rfl;have eE:f 5=(V,y,X):=h.1 rfl;obtain⟨x,eG,jB,eN⟩:=h.2.1 rfl;obtain⟨b9,T,fA,fB⟩:=c.2.2.2.1 eD;have jC:b9.length=y:=by have:=hB.out;omega
   have:=c.1.size;refine oI (P:=prog) _ _ 73 rfl rfl B 110 11 152 underlying73 kr kr om (V,y,X) b9.length (kX b9) eE T.2 ⟨x,0,none⟩ 1 1 a9.toList eG (by simpa using c6) (λjD r fC=>by rw[nO,aY,eN.cell];simpa using fC) (λr c9=> ?_) om (by unfold maxLen;omega) om om (λfD a2 k d K=> ?_)
   .rw[gB]at e6;exact e6 r (bU.1 c9)
   .have N:=(xN (B:=0) d T.2 de zl).keepT;obtain⟨fE,fG,g0⟩:=lI k;refine⟨d,⟨c.1.trans (xN d T.2 de (jO B)),c.2.1.grow d T.2 de de,?_,λb=>(by simp[onS]at b),λb=>(c.2.2.2.2.1 b8).growO d T.2 de,λb=>(by simp[onS,b8]at b),aE c.2.2.2.2.2.2 (World.grownBy.size d)⟩,fE,fG,by rw[g0,jC],?_⟩
    .have hG:=c.2.2.1
     cases a0:(Value.slice V y X).ownBlock with
     |none=>rw [a0]at d;exact hG.ext d
     |some s=>
      rw[a0]at d;have:=(bG.out s a0).1;exact hG.chg d om
    .exact OL.fin T.1 fA (λq r t a j=>(fB q r t a j).keepT N) ((j6.out.keepT (c.1.keepT)).keepT N) k c6 e6
  .exact oX
  .exact oX
  .exact oX
  .intro S f C c h Q b8 L;have jE:f 11= .pointer (g,18):=h.1 rfl;obtain⟨z,A,bS,hH⟩:=h.2.1 rfl;have F:=c.2.2.2.2.1 b8;have bT:∀u,Chg g C u->Bx 99 u g (lgC H z (y+1) A D en E)->AdI B O b5 w w1 g w H V y X D en E U a1 I a9 (onS S 1) u:=λu i g1=>by
    have c0:=i.kp F (B:=B) de e5;refine⟨c.1.trans c0,c.2.1.chg i F de de,c.2.2.1.chg i om,λb=> ?_,λb=>(by simp[onS]at b),λ_=>⟨z,A,?_,g1⟩,aE c.2.2.2.2.2.2 i.size⟩
    .have Z:S 0=false:=by simpa[onS]using b
     exact(c.2.2.2.1 Z).chg (B':=0) i F de de
    .rw[bS]at hH;exact hH.chg (B':=0) i F de de
   refine kM.mono2 (R:=Chg g) (p:=λ_ u=>Bx 99 u g (lgC H z (y+1) A D en E)/\Chg g C u) (λc3 u i hp2=>⟨⟨i,_,F⟩,bT u i hp2.1,trivial⟩) (λhp2=>⟨bT C hp2.2 hp2.1,trivial⟩) (qV (P:=prog) g 18 99 _ (lgC H V y X D en E).toList z (y+1) A _ _ rfl rfl jE bS kr F (by show 18<20;omega) (λa2 i R _=>⟨R,i⟩))
 case en=>
  intro f u c h;obtain⟨c0,hI, -, -, -,c1,_⟩:=c;obtain⟨z,A,e8,F⟩:=c1 rfl;clear h c1 hC bG;have g2:=a8 c0;have hJ:=a8 hI;have hK:=a8 e8;have hL:=a8 F;have:=c0.size;clear c0 hI e8 F;go_wp2_with fail;refine(PN B J c4 u (hD.out.kp g2.out) om).mono ?_;rintro e a5 ⟨rfl,⟨b2,hM,hN,hO⟩,bA⟩;have a3:=hD.out.kp g2.out;have:u.heap.size<=a5.heap.size:=World.grownBy.size bA;have jG:Hid (∀M,Kp B M w->(∀s,J.ownBlock=some s->M.heap.size<=s)->Kp B M a5):=a8 λM b i=>(b.trans g2.out).stepG bA i
  have hP:=a8 (hJ.out.growI bA a3 h6.out);have hR:=a8 (hK.out.growI bA a3);have g3:=a8 (hL.out.growO bA a3 de);have k0:=a8 hM;have hS:=a8 hN;have k1:=a8 (R3 hO);clear hO hM hN bA a3 hJ hK hL;obtain⟨bB,g4⟩:=ex (y+1);rw[<-g4]at hR g3;have k2:=a8 g4;have bA:g<a5.heap.size:=g3.out.lt;have:en<=1000000:=by have:=bE.out;omega
  have bG:Hid (∀s,(Value.slice D en E).ownBlock=some s->s<a5.heap.size):=a8 λs bD=>by
   obtain⟨c8,k, -, -⟩:=hP.out;rcases k.2 with⟨b1, -⟩ |⟨_,g5,cur,b6,hE,k3,hT⟩
   .rw[b1]at bD
    cases bD
   .rw[b6]at bD
    cases bD
    exact qJ k3
  have g6:AdJ B O b5 w a5 g H z bB A D en E (U++ [a1]) I J b2 (Lib.compact b2) (λ_=>false) a5:=⟨jG.out,hR.out,λ_=>k0.out,λ_=>hP.out,λ_=>g3.out,λb=>(by cases b),lr⟩;have k4:Hid (b2.length<=1000000000):=a8 (by rw[hS.out.length_eq];omega);clear g4;obtain⟨a6,g7⟩:=ex (Lib.compact b2);rw[<-g7]at g6;have g9:=a8 g7;clear g7;go_upto_region 3 with(fail);apply mQ [6,8,11] (λq a j=>if q=0 then a.grownBy j J.ownBlock/\IL B a J b2 else if q=1 then a.grownBy j (Value.slice D en E).ownBlock/\NeM B b5 a (D,en,E) I else Chg g a j/\∃a4,Bx 99 a g a4) (AdJ B O b5 w a5 g H z bB A D en E (U++ [a1]) I J b2 a6)
   [kN _,kN _,kN _,kN _,kN (D,en,E),kN J,⟨λr j=>IL B j r a6,λq=>decide (q=0),?m6,?s6⟩,⟨λr j=>∃x a7,r= .slice (some ⟨x,0,none⟩) 1 1/\a5.heap.size<=x/\Bx 55 j x #[a7]/\IL B j a7 a6,λq=>decide (q=0),?m7,?s7⟩,
    ⟨λr j=>∃b3 b4,r= .slice b3 (en+1) b4/\NeL B j r (I++ [a6]),λq=>decide (q<2),?m8,?s8⟩,kN _,kN _,kV] [[],[],[],[],[],[],[0],[0],[0,1],[],[],[]] [] [] [(4,2,false),(6,2,false),(8,2,false)] [] ?ie g6 ?st ?en ?hcs sm kr kr hF
  case m6=>exactλr a j l b=>b.ext l
  case m7=>exactλr a j l ⟨x,a7,k,d,K,bO⟩=>⟨x,a7,k,d,K.ext l,bO.ext l⟩
  case m8=>exactλr a j l ⟨v,t,k,d⟩=>⟨v,t,k,d.ext l⟩
  case s6=>
   intro q b0 r a j p h;have Z:q≠0:=of_decide_eq_false b0;simp only[Z,if_false]at p;by_cases k:q=1
   .simp only[k,if_true]at p;obtain⟨c8,b6, -, -⟩:=p.2;exact h.kp (xN (B:=0) p.1 b6 de zl)
   .simp only[k,if_false]at p;obtain⟨i,a4,b7⟩:=p;exact h.kp (i.kp (B:=0) b7 de zl)
  case s7=>
   intro q b0 r a j p h;have Z:q≠0:=of_decide_eq_false b0;obtain⟨x,a7,e0,e1,gA,hU⟩:=h;simp only[Z,if_false]at p;by_cases k:q=1
   .simp only[k,if_true]at p;obtain⟨c8,b6, -, -⟩:=p.2;refine⟨x,a7,e0,e1,?_,hU.kp (xN (B:=0) p.1 b6 de zl)⟩
    cases a0:(Value.slice D en E).ownBlock with
    |none=>rw [a0]at p;exact gA.ext p.1
    |some s=>
     rw[a0]at p;have:=bG.out s a0;exact gA.chg p.1 om
   .simp only[k,if_false]at p;obtain⟨i,a4,b7⟩:=p;exact⟨x,a7,e0,e1,gA.chg i om,hU.kp (i.kp (B:=0) b7 de zl)⟩
  case s8=>
   intro q b0 r a j p h;have Z:¬q<2:=of_decide_eq_false b0;have k:q≠0:=om;have d:q≠1:=om;simp only[k,d,if_false]at p;obtain⟨i,a4,b7⟩:=p;obtain⟨v,t,e0,e1⟩:=h;exact⟨v,t,e0,e1.chg (B':=0) i b7 de de⟩
  case ie=>exactλS a j l ⟨k,d,K,bO,e9,eA,eB⟩=>⟨λM v t=>(k M v t).trans (Ext.kp l),d.ext l,λb=>(K b).ext l,λb=>(bO b).ext l,λb=>(e9 b).ext l,λb=>(let ⟨v,t,eC,b1⟩:=eA b;⟨v,t,eC.ext l,b1.ext l⟩),aE eB l.size⟩
  case hcs=>
   intro bP a bR N _;have bR:a<3:=bR;rcases bP with _ |_ |_ |_ |_ |_ |_ |_ |_ |_ |_ |_ |bP<;>first |rfl |skip
   all_goals
    simp only[iB,iC,aC,aS,bI,or_false]at N ⊢;exact decide_eq_false om
  case st=>
   refine⟨?_,?_,?_,?_,?_,?_,?_,?_,?_,?_,?_,?_,trivial⟩
   .exact oX
   .exact oX
   .exact oX
   .exact oX
   .intro S f C c h Q L;simp[sI,mY,mX,Region.binds]at h;have i:=(c.2.2.2.2.1 (L.1 rfl)).cell 19;exact DG6
   .exact oX
   .intro S f C c h Q eD L;have bC:S 2=false:=L.2.1 rfl;have eE:f 5=J:=h.1 rfl;have a3:=c.2.2.1 eD;refine I6 (P:=prog) _ _ _ #[f 5] func94 rfl rfl ?_;rw[eE];refine(GD B J b2 C a3 (by have:=k4.out;omega)).mono ?_;rintro e a2 ⟨fD,rfl,k,d,K⟩;refine⟨fD,rfl,⟨d,a3⟩,⟨λM v t=>(c.1 M v t).stepG d t,c.2.1.growI d a3,λb=>(by simp[onS]at b),λb=>(c.2.2.2.1 (by simpa[onS]using b)).growI d a3 h6.out,λb=>(c.2.2.2.2.1 bC).growO d a3 de,λb=>(by simp[onS,bC]at b),aE c.2.2.2.2.2.2 (World.grownBy.size d)⟩,?_⟩;rw[g9.out];exact k
   .intro S f C c h Q L;have gG:IL B C (f 6) a6:=h.1 rfl;exact lH (P:=prog) 97 55 1 1 _ [f 6] rfl rfl underlying97 kr kr rfl rfl om om om (by
     obtain⟨hV,g5,c2⟩:=lI gG;simp[c2,Value.cells]) (λa2 l R=>⟨_,f 6,rfl,c.2.2.2.2.2.2,by
     obtain⟨hV,g5,c2⟩:=lI gG;rw[c2]at R ⊢;exact R,gG.ext l⟩)
   .intro S f C c h Q b8 L;have bC:S 2=false:=L.2.2.1 rfl;have hT:f 4=(D,en,E):=h.1 rfl;obtain⟨x,a7,eG,jB,eN,hW⟩:=h.2.1 rfl;have k5:=c.2.2.2.1 b8;obtain⟨b9,T,fA,fB⟩:=k5;have k6:b9.length=en:=by have:=bE.out;omega
    have:B<=C.heap.size:=by have:=c.2.2.2.2.2.2;omega
    refine oI (P:=prog) _ _ 97 rfl rfl B 55 1 24 underlying97 kr kr om (D,en,E) b9.length b9 hT T ⟨x,0,none⟩ 1 1 [a7] eG rfl (λjD r fC=>by rw[nO,aY,eN.cell];simpa using fC) (λr c9=> ?_) om (by unfold maxLen;omega) om om (λfD a2 k d K=> ?_)
    .obtain⟨hV,g5,c2⟩:=lI hW;rw[aC]at c9;rw[c9,c2];rfl
    .have N:=xN (B:=0) d T de zl;obtain⟨fE,fG,g0⟩:=lI k;refine⟨⟨d,c.2.2.2.1 b8⟩,⟨λM v t=>(c.1 M v t).trans (xN d T de (jO B)),c.2.1.grow d T de de,λb=>(c.2.2.1 (by simpa[onS]using b)).kp N,λb=>(by simp[onS]at b),λb=>(c.2.2.2.2.1 bC).growO d T de,λb=>(by simp[onS,bC]at b),aE c.2.2.2.2.2.2 (World.grownBy.size d)⟩,fE,fG,by rw[g0,k6],?_⟩;exact OV.app (w:=a2) fA (λq r t a j=>(fB q r t a j).1.kp N) rfl k (λ_ _ b=>b) (hW.kp N)
   .exact oX
   .exact oX
   .intro S f C c h Q bC L;have k7:f 10= .pointer (g,19):=h.1 rfl;obtain⟨b3,b4,bS,hX⟩:=h.2.1 rfl;have F:=c.2.2.2.2.1 bC;have bT:∀u,Chg g C u->Bx 99 u g (lgC H z bB A b3 (en+1) b4)->AdJ B O b5 w a5 g H z bB A D en E (U++ [a1]) I J b2 a6 (onS S 2) u:=λu i g1=>by
     have N:=i.kp F (B:=0) de zl;refine⟨λM v t=>(c.1 M v t).trans (i.kp F de e5),c.2.1.chg (B':=0) i F de de,λb=>(c.2.2.1 (by simpa[onS]using b)).kp N,λb=>(c.2.2.2.1 (by simpa[onS]using b)).chg i F de de,λb=>(by simp[onS]at b),λ_=>⟨b3,b4,?_,g1⟩,aE c.2.2.2.2.2.2 i.size⟩;rw[bS]at hX;exact hX.chg (B':=0) i F de de
    refine kM.mono2 (R:=Chg g) (p:=λ_ u=>Bx 99 u g (lgC H z bB A b3 (en+1) b4)/\Chg g C u) (λc3 u i hp2=>⟨⟨i,_,F⟩,bT u i hp2.1,trivial⟩) (λhp2=>⟨bT C hp2.2 hp2.1,trivial⟩) (qV (P:=prog) g 19 99 _ (lgC H z bB A D en E).toList b3 (en+1) b4 _ _ rfl rfl k7 bS kr F (by show 19<20;omega) (λa2 i R _=>⟨R,i⟩))
  case en=>
   intro f hY c h;obtain⟨hZ,i0, -, -, -,c1,_⟩:=c;obtain⟨b3,b4,i1,i2⟩:=c1 rfl;have k8:=a8 hZ;have i3:Hid (nX B O hY g H (U++ [a1]) (I++ [a6])):=a8 ⟨z,bB,A,b3,en+1,b4,i2,e5,by rw[aB,k2.out,hB.out];rfl,by rw[aB,bE.out];rfl,i0,i1⟩;clear h hZ i0 c1 i1 i2 g6;go_wp2_with fail;refine(nV B O g H _ _ hY i3.out).mono ?_;obtain⟨b1,gL⟩:=ex ((I++ [a6]).length);rw[<-gL];have k9:b1=en+1:=by rw[gL,aB,bE.out];rfl
   have:(b1:Int) - 1=(en:Int):=om;rintro e _ ⟨rfl,i4⟩;clear gL k9;have:IntKind.i64.wrap (en:Int)=en:=cC _ ⟨om,om⟩;go_wp2;go_ret;refine⟨by rw[<-bE.out]<;>rfl,⟨a6,i3.out.ext i4,?_,λv i5=> ?_⟩,λM v t=>(k8.out M v t).trans (Ext.kp i4)⟩
   .rw[g9.out];exact k1.out
   .rw[g9.out]at i5;exact hS.out.mem_iff.1 (NW i5)
theorem nX.le{B K' g:Nat}{w:World}{b:LgS}(c:nX B q w g b O J)(d:q<=K'):nX B K' w g b O J:=by
 obtain⟨h,k,l,p,r,s,t,u,v,z,⟨A,C,D,E⟩,F⟩:=c;exact⟨h,k,l,p,r,s,t,u,v,z,⟨A,C,D,λi H y a I=>(E i H y a I).mono lr d⟩,F⟩
theorem nX.chgC{B g:Nat}{w:World}{l:LgS}(v:nX B q w g l O J)(c:Chg C w r)(d:Bx z w C y)(p:LgT z=false)(x:z≠3)(A:z≠165)(D:z≠67):nX B q r g l O J:=by
 obtain⟨E,F,H,I,K,L,s,M,N,Q,⟨R,t,T,U⟩,⟨V,X,Z,a0⟩⟩:=v;have h:∀b:TypeId,LgT b=true->z≠b:=λb a1 e=>by rw[e,a1]at p;cases p
 have a2:rI w r:=λ_ _ _ a3 u=>u.chg c (by
  rintro rfl;have:=bxT u d
  rcases a3 with e |e<;>rw [e]at this
  .exact A this.symm
  .exact D this.symm)
 refine⟨E,F,H,I,K,L,s.chg c (by rintro rfl;exact h _ de (bxT d s)),M,N,Q,⟨R,⟨t.1,mF t.2 c d (h _ de)⟩,T,λi b j a k=>(U i b j a k).keepT a2⟩,⟨V,mF X c d (h _ de),Z,λi b j a k=>mF (a0 i b j a k) c d x⟩⟩
theorem YX(B b:Nat)(w:World):TO B b w () []:=⟨[],rfl,LS.nil _ _ _ _,λ_ _ _ c=>by simp at c⟩
def OpP(B K g:Nat)(s:LgS)(ds:List DR)(ns:List (List Int))(w:World)(r:Option DR)(N:Int->Prop)(e:Ending)(w':World):Prop:=
 Kp B w w'/\match r with
  |some d=>e= .returned (.tuple #[ns.length,(0:Int)])/\∃l',nX B K w' g s (ds++ [d]) (ns++ [l'])/\l'.Pairwise (· < ·)/\∀x∈l',N x
  |none=>∃code:Int,code≠0/\e= .returned (.tuple #[(0:Int),code])/\nX B K w' g s ds ns
def WV(c:CR):DR:=⟨mW c,1,[],0,0,0,0⟩
def V3(c:CR)(n:Nat):Option DR:=if yH c n then some (WV c)else none
theorem GY(B M q l g:Nat)(j:LgS)(t:List DR)(d:List (List Int))(a3:Value)(c:CR)(w:World)(h:nX B M w g j t d)(N:CnR q w a3 c)(b4:c.2.1.length<=1073741824)(b5:(c.2.1.length+1)*(q+1)<=34359738000)(b6:c.2.1.length*(q+1)<=l)(b7:q<=l)(b8:M<=l)(b9:t.length<=1000000)(bA:d.length<=1000000):
  Calls prog 12 #[(g,0),a3] w λe w'=>OpP B l g j t d w (V3 c j.nn) (λA=>A=(d.length:Int)) e w':=by
 have bB:=N;obtain⟨a,n,bC,b,bD,bE,bG,bO,bP,bR,rfl, -, -⟩:=bB;obtain⟨w1,O,K,Q,_⟩:=kR w #[c.1,(a,n,bC),b,(bD,bE,bG),(bO,bP,bR)] 39;have a4:=a8 (N.ext K);have R:=a8 (h.ext K);have:B<=w.heap.size:=Pj6;clear h N;go_enter func12,ntmps12;have a5:=Q.q5.1;rw[O]at a5;go_wp2_with fail;rw[<-O];clear O a5;refine(CM B M q l g j t d _ c w1 R.out a4.out b4 b5 b6 b7).mono ?_;rintro e _ ⟨_,rfl,C,v,h2⟩;have:=C.size;have T:=a8 ((R.out.ext C).le b8);have u:=Q.ext C
 cases x:yH c j.nn with
 |false=>
  have bS:=h2 x;subst bS;unfold sE;obtain⟨r,L,s,U⟩:=DW u (0:Int) () false () ();have a6:=u.q5;have V:Hid (V3 c j.nn=none):=a8 (by unfold V3;rw[x];rfl);clear v h2 x;go_wp2;rw[<-L];go_ret2;have D:=(K.trans C).step s lr;rw[V.out];exact⟨Ext.kp D,2,de,rfl,T.out.chgC s u de de de de⟩
 |true=>
  have X:=v x;obtain⟨E,m,F,H,d1,I,f1,d2,J,f2,rfl,bT,c0,Z⟩:=X.op;have a6:=u.q5;obtain⟨r,L,s,U⟩:=DW u c.1 (E,m,F) H (d1,I,f1) (d2,J,f2);have:=s.size;have c1:=a8 ((K.trans C).step s lr);have c2:=a8 (X.chg s om);have a7:=a8 (T.out.chgC s u de de de de);have c3:=a8 U;have V:Hid (V3 c j.nn=some (WV c)):=a8 (by unfold V3;rw[x];rfl);clear v h2 x bT c0 Z X R T a4 Q u U;go_upto_region 4 with(fail);rw[<-L];clear L a6 s;have c4:B<=r.heap.size:=om;apply mQ [6] (λ_ _ _=>True) (λS p=>(S 0=false->Ext r p)/\(S 0=true->OpP B l g j t d w (some (WV c)) (λA=>A=(d.length:Int)) (.returned (.tuple #[d.length,(0:Int)])) p))
   [kN _,kN (.agg #[c.1,(E,m,F),H,(d1,I,f1),(d2,J,f2)]),kN _,kN _,kN d.length,⟨λa0 b=>∃y,a0= .slice (some ⟨y,0,none⟩) 1 1/\r.heap.size<=y/\IL r b a0 [(d.length:Int)],λ_=>true,?m5,λ_ c5=>(by cases c5)⟩,kN d.length,kN _,kN _] [] [[],[],[],[],[],[0],[],[],[]] [(7,5),(8,5)] [(1,0,false),(4,0,false),(5,0,false)] [] ?ie ⟨λ_=>rE,λh=>(by cases h)⟩ ?st ?en ?hcs sm kr kr hF
  case m5=>exactλa0 a b he ⟨y,v,h2,c6⟩=>⟨y,v,h2,c6.ext he⟩
  case ie=>
   exact dy6
  case hcs=>
   intro q a a9 v h2;have a9:a<1:=a9;rcases q with _ |_ |_ |_ |_ |_ |_ |_ |_ |q<;>first |rfl |skip
   all_goals
    simp at h2;omega
  case st=>
   refine⟨?_,?_,?_,?_,?_,?_,?_,?_,?_,trivial⟩
   .exact oX
   .intro S f p k i a1 z;exact kZ _ _ w _ _ _ rfl rfl rfl (c3.out.ext (k.1 (z.1 rfl))) underlying39 rfl kr rfl
   .exact oX
   .exact oX
   .intro S f p k i a1 z;have q3:f 3= .pointer g:=i.1 rfl;refine oC (P:=prog) #[f 3] func10 rfl rfl ?_;rw[q3];refine(nV B l g j t d p (a7.out.ext (k.1 (z.2.1 rfl)))).mono ?_;exact DR3
   .intro S f p k i a1 z;have q4:f 4=d.length:=i.1 rfl;have b0:=(k.1 (z.2.2.1 rfl)).size;exact lH (P:=prog) 55 3 1 1 _ [d.length] rfl rfl underlying55 kr kr (by simp only[Act.eval];exact congrArg (λc7=> [(0,c7)]) q4) rfl om om om (by simp[Value.cells]) (λw' he hb=>⟨_,rfl,b0,rfl,.inr ⟨_,1,_,rfl,b0,hb,lr,de,rfl,rfl⟩⟩)
   .intro S f p k i a1 c8 z;have D:=k.1 c8;have c9:f 0= .pointer g:=i.1 rfl;have q2:f 2= .agg #[c.1,(E,m,F),H,(d1,I,f1),(d2,J,f2),(1:Int),(),(0:Int),(0:Int),(0:Int),(0:Int)]:=i.2.1 rfl;obtain⟨y,e0,e1,e2⟩:=i.2.2.1 rfl;have b1:∀a2,(f 5).ownBlock=some a2->r.heap.size<=a2:=λa2 b2=>by
     have e3:f 5= .slice y 1 1:=e0;rw[e3]at b2
     cases b2
     exact e1
    have e4:vT B l p (.agg #[c.1,(E,m,F),H,(d1,I,f1),(d2,J,f2),(1:Int),(),(0:Int),(0:Int),(0:Int),(0:Int)]) (WV c):=⟨E,m,F,H,d1,I,f1,d2,J,f2,none,0,0,rfl,(c2.out.ext D).mono om,YX _ _ _⟩;refine I6 (P:=prog) _ _ _ #[f 0,f 2,f 5] func49 rfl rfl ?_;rw[c9,q2];refine(wI B l g j t d _ (f 5) (WV c) [(d.length:Int)] r p a7.out D b1 e4 (IL.mono e2 c4) b9 bA sm).mono ?_;rintro e w' ⟨rfl,⟨l',Z,e5,e6⟩,e7⟩;exact⟨_,rfl,trivial,⟨λh=>(by simp[onS]at h),λ_=>⟨(Ext.kp c1.out).trans (e7 r (Ext.kp D) b1),rfl,l',Z,e5,λA e8=>by simpa using e6 A e8⟩⟩,rfl⟩
   .exact oX
   .exact oX
  case en=>
   intro f _ k i;have b3:=k.2 rfl;have e9:f 7=d.length:=i.2.2.2.2.2.2.2.1 rfl;have eA:f 8=(0:Int):=i.2.2.2.2.2.2.2.2.1 rfl;have eB:=a8 b3;clear k b3 i;simp only[e9,eA];go_wp2;go_ret2;rw[V.out];exact eB.out
def Grw(B:Nat)(e:TypeId)(n:Nat)(v:Value)(a b:World):Prop:=a.grownBy b v.ownBlock/\∃m xs,a.ownsRow B e n v m xs
theorem Grw.row{B e n h m:Nat}{a:World}{xs:List Value}(j:Grw B e n E a r)(i:a.ownsRow C q h d m xs)(k:q≠e):r.ownsRow C q h d m xs:=by
 obtain⟨b,_,_,l⟩:=j;rcases l.2 with⟨c, -⟩ |⟨g,_,cur,c,_,p,_⟩
 .rw[c]at b;exact lL i b
 .rw[c]at b;exact mF i (show Chg g a r from b) (show Bx e a g cur from p) (Ne.symm k)
theorem Grw.ext{B e n:Nat}{w a:World}(i:Grw B e n d a r)(h:Ext w a)(k:w.heap.size<=B):Ext w r:=by
 obtain⟨b,_,_,j⟩:=i;rcases j.2 with⟨c, -⟩ |⟨g,_,cur,c,_,_,_⟩
 .rw[c]at b;exact h.trans b
 .rw[c]at b;exact h.step (show Chg g a r from b) om
theorem Grw.bx{B e n g:Nat}{a:World}{xs:Array Value}(b:Grw B e n d a r)(c:Bx q a g xs)(h:q≠e):Bx q r g xs:=by
 obtain⟨i,_,_,j⟩:=b;exact c.growO i j h
theorem Grw.ol{B e n m:Nat}{a:World}{R:Value->X->Prop}{b:List X}(h:Grw B e n E a r)(i:OL q m C (λ_=>R) a d b)(j:q≠e):OL q m C (λ_=>R) r d b:=by
 obtain⟨k,c,l,p⟩:=i;exact⟨k,⟨c.1,h.row c.2 j⟩,l,p⟩
theorem I5{o:Oper}{a:Act}{f:Nat->Value}{w:World}(r s:Operand)(C:o.guard=none)(t:o.op= .call {callee:= .builtin .append,args:=#[r,s],argTypes:=#[55,55]})
  (B D:Nat) (b u:Value) (xs c:List Int) (v:a.eval r=b) (p:IL B w b xs) (x:a.eval s=u) (y:IL D w u c) (V:xs.length+c.length<=1000000000000) (E:B<=w.heap.size)
  (z:∀i d,IL B d i (xs++c)->w.grownBy d b.ownBlock->a6 w d/\T i d):kM prog o a f w a6 T:=by
 have k:(prog.info? 3).map (λh=>(h.size,h.bytes))=some (1,8):=kr;have j:((prog.info? 3).bind (·.zero)).map (·.cells.size)=some 1:=kr
 cases l:prog.info? 3 with
 |none=>simp [l]at k
 |some h=>
  simp only[l,Option.map_some,Option.some.injEq,Prod.mk.injEq,Option.bind_some]at k j
  cases q:h.zero with
  |none=>rw [q]at j;cases j
  |some F=>
   rw[q]at j;unfold kM;rw[C];unfold Oper.wp;rcases y.2 with⟨H,I⟩ |⟨g,J,cur,f1,f2,f3,f4,f5,f6,f7⟩
   .have K:=run_append_owned_none (P:=prog) (w:=w) B 55 o.type 3 h 1 underlying55 l b xs.length (xs.map (Value.int .i64)) p;have L:c=[]:=aL I;simp[execOp,t,resolve,invoke,builtin,v,x.trans H,K,Result.andThen];exact⟨b,rfl,z b w (by rw[L,cF];exact p) (jX _ _)⟩
   .obtain⟨i,d,M,N,O, -⟩:=run_append_own (P:=prog) w B 55 o.type 3 h F 1 8 underlying55 l q k.1 k.2 (by simpa using j) om b xs.length (xs.map (Value.int .i64)) p ⟨g,0,none⟩ c.length J (c.map (Value.int .i64)) sm (λQ A R=>(World.ownsRow.cells y (g:=g) (by rw[f1]<;>rfl)) Q A R) (λA U=>by
     obtain⟨_, -,rfl⟩:=bJ.1 U;rfl) (by unfold maxLen;omega) om E
    simp[execOp,t,resolve,invoke,builtin,v,x.trans f1,M,Result.andThen];refine⟨i,rfl,z i d ?_ O⟩;unfold IL;rw[aB,bY];exact N
theorem IF{P:Program}{i:Func}{j:Ending->World->Prop}{a:Act}{w:World}(p b c:Tmp)(ty:TypeId)(g:Nat)(t:TypeId)(cs:Array Value)(d:TypeDesc)(k l:Value)(h:i.results=#[.cell p ty,.tmp b,.tmp c])(hp:a.tmps.getD p undef= .pointer g)(q:a.tmps.getD b undef=k)(r:a.tmps.getD c undef=l)(hg:Bx t w g cs)
  (hu:P.underlying ty=some d) (hd:(match d with | .struct _ | .array _ _=>true |_=>false)=true) (hi:(P.info? ty).map (·.size)=some cs.size) (s:a.defers=[]) (u:j (.returned (.tuple #[.agg cs,k,l])) w):bodyPost P i j .ret a w:=by
 subst q;subst r;refine bodyPost_ret (v:= .tuple #[.agg cs,a.tmps.getD b undef,a.tmps.getD c undef]) ?_ s u;exact rY7
def RB(B:Nat)(e:TypeId)(n:Nat)(v:Value)(tg:TypeId)(g:Nat)(cur:List Value)(i:Nat)(a b:World):Prop:=if i=0 then Grw B e n v a b else Chg g a b/\Bx tg a g cur.toArray
def IB(w0 w:World)(B:Nat)(e:TypeId)(n m:Nat)(xs:List Value)(Y:List Value->World->Prop)(tg:TypeId)(g off:Nat)(cur:List Value)(ka:Nat)(S:Nat->Bool)(f:Nat->Value)(wz:World):Prop:=
 Ext w0 wz/\(S 0=false->Ext w wz)/\(∀t g' cs,t≠e->g'≠g->Bx t w g' cs->Bx t wz g' cs)/\(S 0=true->∃ad cap news,f ka= .slice ad m cap/\wz.ownsRow B e n (.slice ad m cap) m (xs++news)/\Y news wz)/\(S 1=false->Bx tg wz g cur.toArray)/\(S 1=true->S 0=true/\∃ad cap,f ka= .slice ad m cap/\Bx tg wz g (cur.set off (.slice ad m cap)).toArray)
def LN{R:Nat->World->World->Prop}(e:TypeId)(Y:List Value->World->Prop)(hY:∀n a b,Ext a b->Y n a->Y n b):PX R:=⟨λu b=>∃gx news,u= .slice (some ⟨gx,0,none⟩) 1 1/\Bx e b gx news.toArray/\Y news b,λ_=>true,by
 rintro u a b he ⟨gx,n,h1,h2,h3⟩;exact⟨gx,n,h1,h2.ext he,hY _ _ _ he h3⟩,λi hi=>by cases hi⟩
def isN(cells news:List Value)(_:World):Prop:=news=cells
theorem KS:∀n (a b:World),Ext a b->isN U n a->isN U n b:=λ_ _ _ _ c=>c
section
variable {P:Program} {o:Oper} {a:Act} {f:Nat->Value} {w0 w w1:World} {B n m g off ka ks:Nat} {e tg:TypeId} {xs:List Value} {Y:List Value->World->Prop} {cur:List Value} {S:Nat->Bool}
theorem FP(l p:Operand)(i:TypeId)(b bytes:Nat)(c:List Value)(q:Nat)(D:IB w0 w B e n m xs Y tg g off cur ka S f w1)(E:S 0=false)(t:S 1=false)(F:o.guard=none)(H:o.op= .call {callee:= .builtin .append,args:=#[l,p],argTypes:=#[i,i]})
  (I:P.underlying i=some (.slice e)) (J:(P.info? e).map (λu=>(u.size,u.bytes))=some (n,bytes)) (K:((P.info? e).bind (·.zero)).map (·.cells.size)=some n) (L:0<n) (M:a.eval l=d) (v:w.ownsRow B e n d b xs) (N:a.eval p= .slice q 1 1) (O:Bx e w1 q c.toArray) (Q:c.length=n) (R:∀x∈c,x.oneCell'=true)
  (b6:b<=1000000) (T:bytes<=1000) (b7:B<=w.heap.size) (U:w0.heap.size<=B) (V:tg≠e) (y:m=b+1) (X:∀j,Grw B e n d w1 j->Y c j):
  kM P o a f w1 (RB B e n d tg g cur 0) (λr z=>IB w0 w B e n m xs Y tg g off cur ka (onS S 0) (upF f ka r) z/\(kV (R:=RB B e n d tg g cur)).p r z):=by
 obtain⟨Z,a0,a1, -,a2, -⟩:=D;have s:=a0 E;have:=s.size;have a3:(b+1)*bytes<=140737488355328:=aE (cW (show b+1<=1000001 by omega) T) de;refine oI l p i F H B e n bytes I J K L d b xs M (lL v s) ⟨q,0,none⟩ 1 1 c N (by rw[Q,fW]) (λ_ x a4=>by rw[nO,aY,O.cell];simpa using a4) R om (by unfold maxLen;omega) a3 om (λr j A a5 _=> ?_);have h:Grw B e n d w1 j:=⟨a5,_,_,lL v s⟩;obtain⟨a6,a7,a9⟩:=lI A;subst a9;have b0:onS S 0 1=false:=t;refine⟨h,⟨h.ext Z U,λk=>(by simp[onS]at k),λb1 b2 b3 C b4 b5=>h.bx (a1 b1 b2 b3 C b4 b5) C,λ_=>⟨a6,a7,c,by rw[y];simp[upF],by rw[y];exact A,X _ h⟩,λ_=>h.bx (a2 t) V,λk=>(by rw[b0]at k;cases k)⟩,trivial⟩
theorem FQ(C:IB w0 w B e n m xs Y tg g off cur ka S f w1)(r:S 0=true)(D:S 1=false)(E:o.guard=none)(F:o.op= .store z Z a0)(H:a.eval Z=(g,off))(I:a.eval a0=f ka)(J:(P.info? z).map (·.size)=some 1)(q:off<cur.length)(K:tg≠e)(L:w0.heap.size<=g)(M:ka≠ks)(N:∀n a s,Chg g a s->Bx tg a g cur.toArray->Y n a->Y n s):
  kM P o a f w1 (RB B e n d tg g cur 1) (λc b=>IB w0 w B e n m xs Y tg g off cur ka (onS S 1) (upF f ks c) b/\(kV (R:=RB B e n d tg g cur)).p c b):=by
 obtain⟨O,_,Q,R,T, -⟩:=C;obtain⟨h,i,U,t,V,X⟩:=R r;have j:=T D;have u:∀b,Chg g w1 b->Bx tg b g (cur.set off (h,m,i)).toArray->∀c,IB w0 w B e n m xs Y tg g off cur ka (onS S 1) (upF f ks c) b:=λb k a1 c=>
  have v:upF f ks c ka=(h,m,i):=by simp[upF,M,t]
  have x:onS S 1 0=true:=r;⟨O.step k L,λl=>(by rw[x]at l;cases l),λa2 a3 a4 a5 y a6=>(Q a2 a3 a4 a5 y a6).chg k y,λ_=>⟨h,i,U,v,mF V k j K,N _ _ _ k j X⟩,λl=>(by simp[onS]at l),λ_=>⟨x,h,i,v,a1⟩⟩
 refine kM.mono2 (R:=Chg g) (p:=λ_ b=>Bx tg b g (cur.set off (.slice h m i)).toArray/\Chg g w1 b) (λc b A p=>⟨⟨A,j⟩,u b A p.1 c,trivial⟩) (λp=>⟨u w1 p.2 p.1 undef,trivial⟩) (qV (P:=P) g off tg z cur h m i Z a0 E F H (I.trans t) J j q (λ_ q a7 _=>⟨a7,q⟩))
end
theorem oXb{G:Prop}(h:G:=by
  intro S f w1 hI hp hl hS;simp[sI,mY,mX,Region.binds]at hp
  first
   | (simp only[kM];go_simp;exact⟨_,rfl,rE,rfl⟩)
   | (simp[xY,tbB]at hS;have hc:=HC.out _ (hI.2.1 hS);simp only[kM];go_simp;exact⟨_,rfl,rE,rfl⟩)):G:=h
def tbB(ka ks:Nat)(tbl:List Nat):List (Nat×Nat×Bool):=(ks,0,true)::(ka,1,false)::tbl.map λk=>(k,0,false)
theorem wpXB{P:Program}{id:Nat}{w:World}(w0:World)(l ka ks B n m:Nat)(e:TypeId)(I:Value)(xs:List Value)(Y:List Value->World->Prop)(tg:TypeId)(g off:Nat)(cur:List Value)(p:List (PX (RB B e n I tg g cur)))(J:List Nat)(L:List (Nat×Nat))
  (U:Ext w0 w) (V:Bx tg w g cur.toArray)
  (X:KC P H K [ka,ks] (RB B e n I tg g cur) (IB w0 w B e n m xs Y tg g off cur ka) p L (tbB ka ks J) [] y A 0)
  (Z:∀f w1,Ext w0 w1->(∀q r z,q≠e->r≠g->Bx q w r z->Bx q w1 r z)->(∃c d j,f ka= .slice c m d/\w1.ownsRow B e n (.slice c m d) m (xs++j)/\Y j w1/\Bx tg w1 g (cur.set off (.slice c m d)).toArray)->NI (List.replicate l []++ [[0,1]]) f w1 0 p->M .normal ⟨H f,K⟩ w1)
  (a0:∀f,mJ A.toArray y f=H f) (a1:P.follows .mixedOrders=true) (b3:p.length=A.length)
  (a2:(oQ A.toArray y.size&&pN A.toArray []&&P0 (xJ A []) [ka,ks] [] (tbB ka ks J) A.length&&JW (xJ A []) [ka,ks] (List.replicate l []++ [[0,1]]) L A 0)=true)
  (a3:∀s a,s≠l->(p.getD s kV).c a=false) (a4:∀n a C,Ext a C->Y n a->Y n C):
  (Code.region id A.toArray true).wp P M ⟨y,K⟩ w:=by
 refine zA [ka,ks] (RB B e n I tg g cur) (IB w0 w B e n m xs Y tg g off cur ka) p [] (List.replicate l []++ [[0,1]]) L (tbB ka ks J) [] (λS f a C k ⟨t,D,u,v,E,x⟩=> ?_) (λf=>⟨U,λ_=>Ext.refl w,λ_ _ _ _ _ b=>b,λb=>(by cases b),λ_=>V,λb=>(by cases b)⟩) (λS f _ C O ⟨t,D,u,v,E,x⟩=> ?_) X (λf w1 a5 a6=> ?_) (λs a Q _ a7=> ?_) om a1 a2 a0
 .refine⟨t.trans k,λb=>(D b).trans k,λq r z a9 b0 b1=>(u q r z a9 b0 b1).ext k,λb=> ?_,λb=>(E b).ext k,λb=> ?_⟩
  .obtain⟨c,d,j,h,i,N⟩:=v b;exact⟨c,d,j,h,lL i k,a4 _ _ _ k N⟩
  .obtain⟨F,c,d,h,i⟩:=x b;exact⟨F,c,d,h,i.ext k⟩
 .refine⟨t,D,u,λb=> ?_,E,λb=> ?_⟩
  .obtain⟨c,d,j,h,i⟩:=v b;exact⟨c,d,j,(O 0 ka rfl b).1.symm.trans h,i⟩
  .obtain⟨F,c,d,h,i⟩:=x b;exact⟨F,c,d,(O 0 ka rfl F).1.symm.trans h,i⟩
 .obtain⟨t,D,u,v,E,x⟩:=a5;obtain⟨c,d,j,h,i,b2⟩:=v rfl;obtain⟨-,_,_,R,N⟩:=x rfl;rw[h]at R
  cases R
  exact Z f w1 t u ⟨c,d,j,h,i,b2,N⟩ a6
 .by_cases T:s=l
  .exfalso;subst T;have Q:a<2:=Q;apply a7;rw[aO,cB sm];have:a=0∨a=1:=om;rcases this with rfl |rfl<;>simp
  .exact a3 s a T
def usC(cs:List CR)(ds:List DR)(us:List (Int×Rat)):List CR:=us.map λu=>nA cs ds u.1.toNat
def usN(ns:List (List Int))(us:List (Int×Rat)):List Int:=us.flatMap λu=>ns.getD u.1.toNat []
theorem N9(b:List (List Int))(a c:List (Int×Rat)):usN b (a++c)=usN b a++usN b c:=fI
theorem UT(b:List (List Int))(c:Nat)(h:Rat)(d:List Int)(i:b[c]? =some d):usN b [((c:Int),h)]=d:=by simp[usN,i]
theorem ac5(b:List CR)(c:List DR)(a:List (Int×Rat))(d:Nat)(h:Rat):usC b c (a++ [((d:Int),h)])=usC b c a++ [nA b c d]:=by simp[usC]
theorem ah9(b:List (List Int))(c:List (Int×Rat))(d:Nat):(usN b (c.take d)).length<=(usN b c).length:=by
 have:=congrArg (λh=>(usN b h).length) (bQ d c);simp only[N9,aB]at this;omega
def CbJ(B K g k ky:Nat)(s:LgS)(cs:List CR)(ds:List DR)(ns:List (List Int))(us:List (Int×Rat))(w1:World)(j:Nat)(nv l1 l2:Value)(wz:World):Prop:=
 Ext w1 wz/\IL w1 wz nv (usN ns (us.take j))/\OL 39 5 w1 (λ_=>CnR k w1) wz l1 (usC cs ds (us.take j))/\OL 37 3 w1 (λ_ u q=>IsR w1 u q ky) wz l2 ((us.take j).map (·.2))/\∀u∈us.take j,pM u.1 ns.length=true
def CbI(w1 w3:World)(B g gt:Nat)(nv l1 l2:Value)(tc:Array Value)(nn:List Int)(lc:List CR)(lq:List Rat)(k ky:Nat)(S:Nat->Bool)(wz:World):Prop:=
 Ext w1 wz/\IL w1 wz nv nn/\Bx 67 wz gt tc/\w3.heap.size<=wz.heap.size/\(S 0=false->OL 39 5 w1 (λ_=>CnR k w1) wz l1 lc)/\(S 1=false->OL 37 3 w1 (λ_ u q=>IsR w1 u q ky) wz l2 lq)
theorem nZ{n B:Nat}{c:Value->X->Prop}{a:World}{h:List X}(b:OL z n B (λ_=>c) a d h)(i:Ext a r):OL z n B (λ_=>c) r d h:=OL.ext b i λ_ _ b=>b
theorem CnR.c{w:World}(c:CnR q w d V):∃b,d= .agg b/\b.size=5/\b.all (·.oneCell')=true:=by
 obtain⟨a,n,_,_,_,_,_,_,_,_,rfl, -, -⟩:=c;exact⟨_,rfl,rfl,by simp[Value.oneCell']⟩
def CbP(w:World)(K:Nat)(cs:List CR)(ds:List DR)(ns:List (List Int))(us:List (Int×Rat))(sn:Int)(e:Ending)(w':World):Prop:=
 Ext w w'/\match us.all λu=>pM u.1 ns.length with
  |true=>∃v nv,e= .returned (.tuple #[v,nv,(rK (usC cs ds us) (us.map (·.2)) sn:Int)])/\IL w w' nv (usN ns us)/\(rK (usC cs ds us) (us.map (·.2)) sn=0->CnO w K w' v (oD (usC cs ds us) (us.map (·.2)) sn))/\(rK (usC cs ds us) (us.map (·.2)) sn≠0->v=sE)
  |false=>∃code:Int,code≠0/\e= .returned (.tuple #[sE,(),code])
theorem zG(B a0 g d ky U a3 bR R bS:Nat)(K:LgS)(p:List CR)(k:List DR)(r:List (List Int))(gL:Value)(j:List (Int×Rat))(a4:Int)(w:World)(h:nX B a0 w g K k r)(a5:CL d w (K.ca,K.cn,K.cc) p)(t:TL ky w gL j)(i5:a0<=d)(i6:d<=LIM)(hl:r.length=p.length+k.length)(lG:r.length<=1000000)(m0:j.length<=1000000)(i7:(usN r j).length<=1000000000)
  (bT:∀j0∈usC p k j,j0.2.1.length<=U) (j1:j.length<=a3) (j2:a3*U+U<=1073741824) (j3:a3*U*(ky+d+1)+1<=bR) (hR:a3*(ky+d+1)+1<=R) (j4:R<=34359738000) (j5:(a3*U+U+1)*(bR+ky+d+1)<=34359738000) (h1:1<=R) (j6:max bR R=bS):
  Calls prog 51 #[(g,0),gL,a4] w λe y=>CbP w bS p k r j a4 e y:=by
 obtain⟨_,m,_,gT,rfl,_,h3⟩:=t.at;obtain⟨w1,h4,F,c0,jA⟩:=kR w #[(0:Int),(),false,(),()] 39;have e5:=a8 (h.ext F);have HC:=a8 (a5.ext F);have jB:=a8 h3;have h5:=a8 gT;have m1:B<=w.heap.size:=Pj6;clear h a5 t h3 gT;go_enter func51,ntmps51;go_wp2_with fail;rw[<-h4];have h6:Hid (CbJ B a0 g d ky K p k r j w1 0 () () () w1):=a8 ⟨rE,gM _ _ _ _,OL.nil _ _ _ _ _,OL.nil _ _ _ _ _,λu t=>by simp at t⟩;clear h4;go_loopw [7,9,10,15] (λjC jD jE i wr=>∃l:Nat,i= .int .i64 (l:Int)/\l<=m/\Hid (CbJ B a0 g d ky K p k r j w1 l jC jD jE wr)) (λ_ _ _ i _=>((m:Int) - intOf i).toNat)
 case atStart=>exact ⟨0,rfl,zl,h6⟩
 case round=>
  obtain⟨l,rfl,E,c3⟩:=hrel;rcases aI E with e6 |e6
  .subst e6;have jG:¬((l:Int)<l):=om;obtain⟨L,e7,a6,a7,a9⟩:=c3.out;have h7:j.take l=j:=by rw[h5.out];exact bN
   rw[h7]at e7 a6 a7 a9;have k0:Hid ((j.all λu=>pM u.1 r.length)=true):=a8 (cA.2 a9);have h8:Hid (CL d wr u9 (usC p k j)):=a8 ((OL.sl a6 om).map λu k1 h=>h.ext L);have h9:Hid (QL ky wr u10 (j.map (·.2))):=a8 ((OL.sl a7 om).map λu k1 h=>h.ext L);have k2:=a8 e7;have M:=a8 L;clear L e7 a6 a7 a9 c3 h6 h7;go_wp2_with fail;refine(AV d ky U a3 bR R u9 u10 _ _ a4 wr h8.out h9.out bT (by unfold usC;rw[aF];exact j1) j2 j3 hR j4 j5 h1).mono ?_;rintro e hA ⟨c4,rfl,z,hz,hnz⟩;obtain⟨cd,e8⟩:=ex (rK (usC p k j) (j.map (·.2)) a4);rw[<-e8]at hz hnz ⊢;have e9:=a8 e8;have eA:=F.trans M.out;have k3:∃b0 A v N b1 b2 b3 b4 b5 b6 b7,c4= .agg #[.int .i64 b0,.slice A v N,.bool b1,.slice b2 b3 b4,.slice b5 b6 b7]:=BP1;obtain⟨b0,A,v,N,b1,b2,b3,b4,b5,b6,b7,rfl⟩:=k3;have O:=c0.ext (M.out.trans z);obtain⟨Q,hC,eB,c5⟩:=DW O (.int .i64 b0) (.slice A v N) (.bool b1) (.slice b2 b3 b4) (.slice b5 b6 b7);have k4:=eA.size;have k5:Hid (cd=0->CnO w bS Q (.agg #[.int .i64 b0,.slice A v N,.bool b1,.slice b2 b3 b4,.slice b5 b6 b7]) (oD (usC p k j) (j.map (·.2)) a4)):=a8 λh0=>by
    rw[<-j6];exact((hz h0).chgB eB O).mono k4
   have k6:=a8 hnz;have k7:Hid (IL w Q u7 (usN r j)):=a8 (((k2.out.ext z).chgT eB O de).mono F.size);have c6:Ext w Q:=(eA.trans z).step eB lr;obtain⟨x,eC,bA,c7⟩:=DW c5 b0 (A,v,N) b1 (b2,b3,b4) (b5,b6,b7);have k8:Hid (cd=0->CnO w bS x (.agg #[b0,(A,v,N),b1,(b2,b3,b4),(b5,b6,b7)]) (oD (usC p k j) (j.map (·.2)) a4)):=a8 λh0=>(k5.out h0).chgB bA c5
   have k9:Hid (IL w x u7 (usN r j)):=a8 (k7.out.chgT bA c5 de);have kA:=a8 (c6.step bA lr);have c8:=O.q5;have m2:=c5.q5;clear hz hnz c6 eA z e8 h8 h9;go_upto_region 12 with(fail);rw[<-hC];clear hC c8;go_wp2;rw[<-eC];refine IF 6 7 8 39 w 39 _ _ _ _ kr rfl rfl rfl c7 underlying39 rfl kr rfl ?_;refine⟨kA.out,?_⟩;rw[k0.out];exact⟨_,_,by rw[<-e9.out]<;>rfl,k9.out,λh=>k8.out (by rw[e9.out];exact h),λh=>k6.out (by rw[e9.out];exact h)⟩
  .have jG:(l:Int)<m:=om;obtain⟨⟨V,q⟩,T⟩:∃V,j[l]? =some V:=⟨_,aA (by rw[<-h5.out];exact e6)⟩;obtain⟨_,off,rfl,b,a1,n1,c1,a2,n2,c2,eD⟩:=jB.out l _ T;obtain⟨L,bT,a6,a7,a9⟩:=c3.out;have kB:=a8 a9;clear a9;obtain⟨hD,hE,hG,hH, -⟩:=eD wr (F.trans L);have kC:=a8 (eD w1 F).2.2.2.2;have b8:=a8 (aD T (mP T));have M:=a8 L;have eE:=a8 (aD bT (aD a6 a7));obtain⟨hA,hJ,z,c9,kD⟩:=kR wr #[.int .i64 V,b,(a1,n1,c1),(a2,n2,c2)] 67;clear eD T L bT a6 a7 c3;have hK:=c9.cell 0;go_wp2_with fail;rw[<-hJ];refine(sT B a0 g K k r V hA (e5.out.ext (M.out.trans z))).mono ?_;rintro e Q ⟨rfl,b9⟩
   cases H:pM V r.length with
   |false=>
    have kE:Hid ((j.all λu=>pM u.1 r.length)=false):=a8 (by
     rw[List.all_eq_false];exact⟨_,aM b8.out.1,by rw[H];simp⟩)
    have O:=c0.ext (M.out.trans (z.trans b9));obtain⟨x,eC,bA,c7⟩:=DW O (0:Int) () false () ();have c8:=O.q5;have c6:Ext w x:=(F.trans (M.out.trans (z.trans b9))).step bA lr;have kG:=c7.q5;clear H hK hD hE hG hH F z b9 c0 c9;clear kG c8;have c8:=O.q5;go_wp2;rw[<-eC];refine IF 6 7 8 39 w 39 _ _ _ _ kr rfl rfl rfl c7 underlying39 rfl kr rfl ?_;refine⟨c6,?_⟩;rw[kE.out];exact⟨_,de,rfl⟩
   |true=>
    obtain⟨i,rfl⟩:∃i:Nat,V=(i:Int):=by
     unfold pM at H;simp at H;exact⟨V.toNat,om⟩
    have l0:i<r.length:=by
     unfold pM at H;simp at H;exact H
    have l1:=a8 H;have m3:wr.heap.size<=Q.heap.size:=(z.trans b9).size;have m4:w1.heap.size<=wr.heap.size:=M.out.size;have hL:=c9.ext b9;have eG:CbI w1 Q B g wr u7 u9 u10 #[i,b,(a1,n1,c1),(a2,n2,c2)] (usN r (j.take l)) (usC p k (j.take l)) ((j.take l).map (·.2)) d ky (λ_=>false) Q:=
     have c:=z.trans b9
     ⟨M.out.trans c,eE.out.1.ext c,hL,lr,λ_=>nZ eE.out.2.1 c,λ_=>nZ eE.out.2.2 c⟩
    clear hK c9 hD hE hG hH H F z c0 hL;clear hJ jA kD;go_upto_region 8 with(fail);obtain⟨I,e0⟩:=ex (usC p k (j.take l));obtain⟨lq,e1⟩:=ex ((j.take l).map (·.2));obtain⟨C,eN⟩:=ex (usN r (j.take l));rw[<-e0,<-e1,<-eN]at eG;have hM:Hid (I.length<=1000000/\lq.length<=1000000):=a8 (by
     rw[e0,e1];unfold usC;rw[aF,aF,aP];omega)
    have e2:=a8 (aD e0 (aD e1 eN));clear e0 e1 eN;apply mQ [6,11] (λi a b=>if i=0 then Grw w1 39 5 u9 a b else Grw w1 37 3 u10 a b) (CbI w1 Q B g wr u7 u9 u10 #[.int .i64 (i:Int),.bool b,(a1,n1,c1),(a2,n2,c2)] C I lq d ky)
     [kN u9,kN _,kN _,kN (.int .i64 (i:Int)),⟨λu _=>CnR d w1 u (nA p k i),λ_=>false,λu a b _ h=>h,λi _ u a b _ h=>h⟩,
      ⟨λu b=>∃gx hN,u= .slice (some ⟨gx,0,none⟩) 1 1/\Bx 39 b gx hN/\CnR d w1 (.agg hN) (nA p k i),λi=>decide (i=0),?m5,?s5⟩,
      ⟨λu b=>OL 39 5 w1 (λ_=>CnR d w1) b u (I++ [nA p k i]),λi=>decide (i=0),λu a b c h=>nZ h c,?s6⟩,kN u10,kN _,kN (.agg #[.bool b,(a1,n1,c1),(a2,n2,c2)]),
      ⟨λu l2=>∃gx,u= .slice (some ⟨gx,0,none⟩) 1 1/\Bx 37 l2 gx #[b,(a1,n1,c1),(a2,n2,c2)],λi=>decide (i≠0),?m10,?s10⟩,
      ⟨λu b=>OL 37 3 w1 (λ_ u q=>IsR w1 u q ky) b u (lq++ [q]),λi=>decide (i≠0),λu a b c h=>nZ h c,?s11⟩,
      ⟨λu b=>OL 39 5 w1 (λ_=>CnR d w1) b u (I++ [nA p k i]),λi=>decide (i=0),λu a b c h=>nZ h c,?s12⟩,
      ⟨λu b=>OL 37 3 w1 (λ_ u q=>IsR w1 u q ky) b u (lq++ [q]),λi=>decide (i≠0),λu a b c h=>nZ h c,?s13⟩]
     [[],[],[],[],[],[],[0],[],[],[],[],[1],[0],[1]] [[],[],[],[],[],[0],[],[],[],[],[1],[],[],[]] [(12,5),(13,5),(13,10)] [(6,1,false),(11,0,true)] [(0,12,9),(7,13,10)] ?ie eG ?st ?en ?hcs sm kr kr hF
    case m5=>exactλu a b c ⟨gx,X,h1,h2,Z⟩=>⟨gx,X,h1,h2.ext c,Z⟩
    case m10=>exactλu a b c ⟨gx,h1,h2⟩=>⟨gx,h1,h2.ext c⟩
    case s5=>
     intro i hi u a b hR hp;have h0:i≠0:=of_decide_eq_false hi;simp only[h0,if_false]at hR;obtain⟨gx,X,h1,h2,Z⟩:=hp;exact⟨gx,X,h1,hR.bx h2 de,Z⟩
    case s10=>
     exact IE0
    case s6 |s12=>
     exact mf7
    case s11 |s13=>
     exact gj2
    case ie=>exactλS a b c ⟨h1,h2,Z,fA,fB,fC⟩=>⟨h1.trans c,h2.ext c,Z.ext c,aE fA c.size,λh=>nZ (fB h) c,λh=>nZ (fC h) c⟩
    case hcs=>
     intro d a bB h1 h2;have bB:a<2:=bB;have T:a=0∨a=1:=om;rcases d with _ |_ |_ |_ |_ |_ |_ |_ |_ |_ |_ |_ |_ |_ |d<;>rcases T with rfl |rfl<;>first |rfl | (simp at h1;done) | (simp at h2;done)
    case st=>
     refine⟨?_,?_,?_,?_,?_,?_,?_,?_,?_,?_,?_,?_,?_,?_,trivial⟩
     .intro S f wz hI hp hl hS;have m6:f 12=u9:=hl.1 rfl;exact DG6
     .exact oX
     .exact oX
     .intro S f wz hI hp hl hS;simp[sI,mY,mX,Region.binds]at hp;have a5:=hI.2.2.1.cell 0;exact DG6
     .intro S f wz hI hp hl hS;have l3:f 1= .pointer g:=hp.1 rfl;have l4:f 3=i:=hp.2.1 rfl;refine oC (P:=prog) #[f 1,f 3] func47 rfl rfl ?_;rw[l3,l4];refine(EK B a0 g d K p k r i w1 wz e5.out HC.out hI.1 i5 i6 om om).mono ?_;rintro e y ⟨l5,rfl,h1,h2⟩;exact⟨_,rfl,h2,h1⟩
     .intro S f wz hI hp hl hS;have hO:CnR d w1 (f 4) (nA p k i):=hp.1 rfl;obtain⟨X,fD,fE,hP⟩:=hO.c;exact lH (P:=prog) 71 39 1 5 _ [f 4] rfl rfl underlying71 kr kr rfl rfl om om om (by
       simp only[aS,bI,or_false,forall_eq];rw[fD];exact fE) (λy c hb=>⟨_,X,rfl,by
       rw[fD]at hb;simpa[Value.cells]using hb,fD▸hO⟩)
     .intro S f wz hI hp hl bC hS;have fG:f 0=u9:=hp.1 rfl;obtain⟨gx,X,g0,g1,hT⟩:=hp.2.1 rfl;obtain⟨_,l6,hU,g2⟩:=hT.c
      cases l6
      have g3:=hI.2.2.2.2.1 bC;obtain⟨bD,bE,g4,g5⟩:=g3;have bG:=bE.2;have g6:=hI.1.size;have l7:=hM.out.1;refine oI (P:=prog) _ _ 71 rfl rfl w1 39 5 88 underlying71 kr kr om u9 bD.length (kX bD) fG bG ⟨gx,0,none⟩ 1 1 X.toList g0 (by simpa using hU) (λl u E=>by rw[nO,aY,g1.cell];simpa using E) (λu t=> ?_) om (by unfold maxLen;omega) om g6 (λc4 y A v N=> ?_)
      .rw[gB]at g2;exact g2 u (bU.1 t)
      .have s:Grw w1 39 5 u9 wz y:=⟨v,_,_,bG⟩;exact⟨s,⟨s.ext hI.1 lr,s.row hI.2.1 de,s.bx hI.2.2.1 de,aE hI.2.2.2.1 (World.grownBy.size v),λh=>(by simp[onS]at h),λh=>s.ol (R:=λu q=>IsR w1 u q ky) (hI.2.2.2.2.2 (by simpa[onS]using h)) de⟩,OL.fin (R:=λ_=>CnR d w1) (w':=y) bE.1 g4 g5 hT A hU g2⟩
     .intro S f wz hI hp hl hS;have m7:f 13=u10:=hl.2.1 rfl;exact DG6
     .exact oX
     .intro S f wz hI hp hl hS;have g7:f 8= .pointer (wr,1):=hp.1 rfl;exact kW (P:=prog) _ _ wr 1 #[b,(a1,n1,c1),(a2,n2,c2)] _ rfl rfl g7 (λl l5 E=>hI.2.2.1.cell (1+l) |>.trans (by
       rcases l with _ |_ |_ |l
       .exact E
       .exact E
       .exact E
       .simp at E)) underlying37 rfl kr rfl
     .intro S f wz hI hp hl hS;have g9:f 9= .agg #[b,(a1,n1,c1),(a2,n2,c2)]:=hp.1 rfl;exact lH (P:=prog) 41 37 1 3 _ [.agg #[b,(a1,n1,c1),(a2,n2,c2)]] rfl rfl underlying41 kr kr (by simp only[Act.eval];exact congrArg (λl9=> [(0,l9)]) g9) rfl om om om (by simp[Value.cells]) (λy c hb=>⟨_,rfl,by simpa[Value.cells]using hb⟩)
     .intro S f wz hI hp hl bC hS;have hP:f 7=u10:=hp.1 rfl;obtain⟨gx,g0,g1⟩:=hp.2.1 rfl;have g3:=hI.2.2.2.2.2 bC;obtain⟨bD,bE,g4,g5⟩:=g3;have bG:=bE.2;have g6:=hI.1.size;have l7:=hM.out.2;refine oI (P:=prog) _ _ 41 rfl rfl w1 37 3 56 underlying41 kr kr om u10 bD.length (kX bD) hP bG ⟨gx,0,none⟩ 1 1 [b,(a1,n1,c1),(a2,n2,c2)] g0 rfl (λl u E=>by rw[nO,aY,g1.cell];simpa using E) (by intro u t;simp at t;rcases t with rfl |rfl |rfl<;>rfl) om (by unfold maxLen;omega) om g6 (λc4 y A v N=> ?_)
      have s:Grw w1 37 3 u10 wz y:=⟨v,_,_,bG⟩;exact⟨s,⟨s.ext hI.1 lr,s.row hI.2.1 de,s.bx hI.2.2.1 de,aE hI.2.2.2.1 (World.grownBy.size v),λh=>s.ol (R:=CnR d w1) (hI.2.2.2.2.1 (by simpa[onS]using h)) de,λh=>(by simp[onS]at h)⟩,OL.fin (R:=λ_ u q=>IsR w1 u q ky) (w':=y) bE.1 g4 g5 kC.out A rfl (by simp[Value.oneCell'])⟩
     .intro S f wz hI hp hl hS;have fE:OL 39 5 w1 (λ_=>CnR d w1) wz (f 6) (I++ [nA p k i]):=hp.1 rfl;clear hp;simp only[kM];go_simp;exact⟨_,rfl,rE,fE⟩
     .intro S f wz hI hp hl hS;have lA:OL 37 3 w1 (λ_ u q=>IsR w1 u q ky) wz (f 11) (lq++ [q]):=hp.1 rfl;clear hp;simp only[kM];go_simp;exact⟨_,rfl,rE,lA⟩
    case en=>
     intro f x hI hp;have hV:OL 39 5 w1 (λ_=>CnR d w1) x (f 12) (I++ [nA p k i]):=hp.2.2.2.2.2.2.2.2.2.2.2.2.1 rfl;have hW:OL 37 3 w1 (λ_ u q=>IsR w1 u q ky) x (f 13) (lq++ [q]):=hp.2.2.2.2.2.2.2.2.2.2.2.2.2.1 rfl;have J:Hid (Ext w1 x/\IL w1 x u7 C/\Bx 67 x wr #[i,b,(a1,n1,c1),(a2,n2,c2)]):=a8 ⟨hI.1,hI.2.1,hI.2.2.1⟩;have gA:=a8 (aD hV hW);clear hI hp hV hW;obtain⟨_,_,_,_,en,hX,hb,hB,lB,lC,lD,hY⟩:=e5.out;obtain⟨D,e3⟩:∃D,r[i]? =some D:=⟨_,aA l0⟩;obtain⟨gG,rfl,e4,hZ,bO⟩:=hY.at e3;have m8:(i:Int)<en:=om;have i0:=a8 (aD e3 bO);have i1:Hid (∀wz,Ext w1 wz->wz.cell? (g,19)=some (.slice gG en hX)/\wz.cell? (gG,i)=some e4):=a8 λwz hz=>⟨(hb.ext hz).cell 19,hZ wz hz⟩
     have lE:Hid (C.length+D.length<=1000000000):=a8 (by
      have:=ah9 r j (l+1);rw[b8.out.2,N9,UT r i q D e3,aB,<-e2.out.2.2]at this;omega)
     have i2:(λ(S:Nat->Bool) (wz:World)=>Ext w1 wz/\Bx 67 wz wr #[i,.bool b,(a1,n1,c1),(a2,n2,c2)]/\(S 0=false->IL w1 wz u7 C)/\x.heap.size<=wz.heap.size/\OL 39 5 w1 (λ_=>CnR d w1) wz (f 12) (I++ [nA p k i])/\OL 37 3 w1 (λ_ u q=>IsR w1 u q ky) wz (f 13) (lq++ [q])) (λ_=>false) x:=⟨J.out.1,J.out.2.2,λ_=>J.out.2.1,lr,gA.out.1,gA.out.2⟩;clear e3 hZ bO hb lB lC lD hY J gA;go_upto_region 9 with(fail);apply mQ [9] (λ_ a b=>Grw w1 3 1 u7 a b) (λ(S:Nat->Bool) (wz:World)=>Ext w1 wz/\Bx 67 wz wr #[i,.bool b,(a1,n1,c1),(a2,n2,c2)]/\(S 0=false->IL w1 wz u7 C)/\x.heap.size<=wz.heap.size/\OL 39 5 w1 (λ_=>CnR d w1) wz (f 12) (I++ [nA p k i])/\OL 37 3 w1 (λ_ u q=>IsR w1 u q ky) wz (f 13) (lq++ [q]))
      [kN u7,kN _,kN _,kN _,kN (gG,en,hX),kN _,kN (.int .i64 (i:Int)),kN _,kN e4,⟨λu b=>IL w1 b u (C++D),λ_=>true,λu a b c h=>h.ext c,λi hi=>(by cases hi)⟩,⟨λu b=>IL w1 b u (C++D),λ_=>true,λu a b c h=>h.ext c,λi hi=>(by cases hi)⟩]
      [[],[],[],[],[],[],[],[],[],[0],[0]] [] [] [] [(0,10,7)] ?ie i2 ?st ?en ?hcs sm kr kr hF
     case ie=>exactλS a b c ⟨h1,h2,Z,fA,fB,fC⟩=>⟨h1.trans c,h2.ext c,λh=>(Z h).ext c,aE fA c.size,nZ fB c,nZ fC c⟩
     case hcs=>
      intro d a bB h1 h2;have bB:a<1:=bB;have T:a=0:=om;subst T;rcases d with _ |_ |_ |_ |_ |_ |_ |_ |_ |_ |_ |d<;>first |rfl | (simp at h1;done) | (simp at h2;done)
     case st=>
      refine⟨?_,?_,?_,?_,?_,?_,?_,?_,?_,?_,?_,trivial⟩
      .exact Ui1
      .exact oX
      .exact oX
      .exact oX
      .intro S f wz hI hp hl hS;simp[sI,mY,mX,Region.binds]at hp;have a5:=(i1.out wz hI.1).1;exact DG6
      .exact oX
      .intro S f wz hI hp hl hS;simp[sI,mY,mX,Region.binds]at hp;have a5:=hI.2.1.cell 0;exact DG6
      .exact oX
      .intro S f wz hI hp hl hS;simp[sI,mY,mX,Region.binds]at hp;have a5:=(i1.out wz hI.1).2;exact DG6
      .intro S f wz hI hp hl bC hS;have fG:f 0=u7:=hp.1 rfl;have g7:f 8=e4:=hp.2.1 rfl;have bO:=hI.2.2.1 bC;have i7:=lE.out;refine I5 _ _ rfl rfl w1 B u7 e4 C D fG bO g7 (i0.out.2.ext hI.1) om hI.1.size (λc4 y A v=> ?_);have s:Grw w1 3 1 u7 wz y:=⟨v,_,_,bO⟩;exact⟨s,⟨s.ext hI.1 lr,s.bx hI.2.1 de,λh=>(by simp[onS]at h),aE hI.2.2.2.1 (World.grownBy.size v),s.ol (R:=CnR d w1) hI.2.2.2.2.1 de,s.ol (R:=λu q=>IsR w1 u q ky) hI.2.2.2.2.2 de⟩,A⟩
      .intro S f wz hI hp hl hS;have g9:IL w1 wz (f 9) (C++D):=hp.1 rfl;clear hp;simp only[kM];go_simp;exact⟨_,rfl,rE,g9⟩
     case en=>
      intro i3 bP hI hp;have i4:IL w1 bP (i3 10) (C++D):=hp.2.2.2.2.2.2.2.2.2.2.1 rfl;have J:Hid (Ext w1 bP/\OL 39 5 w1 (λ_=>CnR d w1) bP (f 12) (I++ [nA p k i])/\OL 37 3 w1 (λ_ u q=>IsR w1 u q ky) bP (f 13) (lq++ [q])/\IL w1 bP (i3 10) (C++D)):=a8 ⟨hI.1,hI.2.2.2.2.1,hI.2.2.2.2.2,i4⟩;clear hI hp i4 i2 eG;go_wp2;go_roundw
      case rel=>
       refine⟨l+1,ci om,om,a8 ⟨J.out.1,?_,?_,?_,λu t=> ?_⟩⟩
       .rw[b8.out.2,N9,UT r i q D i0.out.1,<-e2.out.2.2];exact J.out.2.2.2
       .rw[b8.out.2,ac5,<-e2.out.1];exact J.out.2.1
       .rw[b8.out.2,bY,<-e2.out.2.1];exact J.out.2.2.1
       .rw[b8.out.2]at t;rcases aW.1 t with t |t
        .exact kB.out u t
        .rw[aC.1 t];exact l1.out
      case measure=>simp [intOf];omega
theorem IL.own{B:Nat}{w:World}{xs:List Int}(h:IL B w d xs):∀g,d.ownBlock=some g->B<=g:=by
 intro g b;rcases h.2 with⟨c, -⟩ |⟨_,_,cur,c,i, -⟩
 .rw[c]at b
  cases b
 .rw[c]at b
  cases b
  exact i
def PS(cs:List CR)(ds:List DR)(us:List (Int×Rat))(sn:Int):DR:=⟨oD (usC cs ds us) (us.map (·.2)) sn,2,us,0,0,0,0⟩
def JS(cs:List CR)(ds:List DR)(ns:List (List Int))(us:List (Int×Rat))(sn:Int):Option DR:=
 match us.all λu=>pM u.1 ns.length with
 |true=>if rK (usC cs ds us) (us.map (·.2)) sn=0 then some (PS cs ds us sn)else none
 |false=>none
theorem EL(B H s g l I p q t J u K:Nat)(r:LgS)(d:List CR)(b:List DR)(c:List (List Int))(V:Value)(i:List (Int×Rat))(j:Int)(w:World)(h:nX B H w g r b c)(a7:CL l w (r.ca,r.cn,r.cc) d)(bD:TL I w V i)(hK0:H<=s)(bE:H<=l)(bG:l<=LIM)(hl:c.length=d.length+b.length)(bO:c.length<=1000000)(eC:i.length<=1000000)(bP:(i.length+1)*(I+1)<=34359738000)(bR:i.length*(I+1)=p)(bS:p<=LIM)(bT:p<=s)
  (a9:(mkV i).length<=1000000) (X:(usN c (mkV i)).length<=1000000000)
  (b0:∀c0∈usC d b (mkV i),c0.2.1.length<=q) (b1:(mkV i).length<=t) (c1:t*q+q<=1073741824) (c2:t*q*(p+l+1)+1<=J) (c3:t*(p+l+1)+1<=u) (c4:u<=34359738000) (c5:(t*q+q+1)*(J+p+l+1)<=34359738000) (c6:1<=u) (c7:max J u=K) (c8:K<=s):
  Calls prog 13 #[(g,0),V,j] w λe c9=>OpP B s g r b c w (JS d b c (mkV i) j) (λe0=>e0∈usN c (mkV i)) e c9:=by
 have eD:B<=w.heap.size:=Pj6;have HL:=a8 h;have HC:=a8 a7;clear h a7;obtain⟨m,Z⟩:=ex (mkV i);rw[<-Z]at a9 X b0 b1 ⊢;have e1:=a8 Z;clear Z;go_enter func13,ntmps13;go_wp2_with fail;refine(nF I V i w bD om bP).mono ?_;rintro e w1 ⟨e2,rfl,a0,L⟩;rw[bR,<-e1.out]at a0;have a1:=a8 a0;clear a0;go_wp2_with fail;refine(zG B H g l p q t J u K r d b c e2 m j w1 (HL.out.ext L) (HC.out.ext L) (a1.out.tl bS) bE bG hl bO a9 X b0 b1 c1 c2 c3 c4 c5 c6 c7).mono ?_;rintro e b2 ⟨b3,M⟩;have e3:=L.size;have a2:=L.trans b3
 cases k:m.all λe4=>pM e4.1 c.length with
 |false=>
  rw[k]at M;obtain⟨code,hcode,rfl⟩:=M;have HR:Hid (JS d b c m j=none):=a8 (by unfold JS;rw[k]);have e5:(code !=0)=true:=by simpa using hcode
  have HE:=a8 (a2.alloc (.cells #[(0:Int),(),false,(),()] 39));unfold sE;clear k;exact TE5
 |true=>
  rw[k]at M;obtain⟨_,b4,rfl,a3,N,O⟩:=M;obtain⟨cd,v⟩:=ex (rK (usC d b m) (m.map (·.2)) j);rw[<-v]at N O ⊢;by_cases h0:cd=0
  .subst h0;have HR:Hid (JS d b c m j=some (PS d b m j)):=a8 (by unfold JS;rw[k];exact if_pos v.symm);obtain⟨a,n,x,y,z,A,C,D,E,F,rfl,a4,a5,a6⟩:=N rfl;obtain⟨b5,b6,b7⟩:=a1.out.val;obtain⟨b8,b9⟩:=ex m.length;rw[<-b9]at b7;subst b7;clear b9;obtain⟨Q,R⟩:=ex (oD (usC d b m) (m.map (·.2)) j);rw[<-R]at a4 a5 a6 ⊢;obtain⟨bA,e6,T,e7,_⟩:=kR b2 #[Q.1,(a,n,x),y,(z,A,C),(D,E,F)] 39;have e8:Hid (vT B s bA (.agg #[Q.1,(a,n,x),y,(z,A,C),(D,E,F),(2:Int),(b5,b8,b6),(0:Int),(0:Int),(0:Int),(0:Int)]) (PS d b m j)):=a8 ⟨a,n,x,y,z,A,C,D,E,F,b5,b8,b6,by unfold PS;rw[<-R],by
    have:CnO w1 K b2 (.agg #[Q.1,(a,n,x),y,(z,A,C),(D,E,F)]) Q:=⟨a,n,x,y,z,A,C,D,E,F,rfl,a4,a5,a6⟩;unfold PS;rw[<-R];exact((this.ext T).mono om).le c8,((a1.out.ext (b3.trans T)).mono om).le bT⟩
   have e9:=a8 (a3.ext T);have bB:=a2.trans T;have bC:Hid (∀U,b4.ownBlock=some U->w.heap.size<=U):=a8 λU eA=>aE e3 (a3.own U eA)
   have eE:=e7.q5;clear N O a4 a5 a6 a3 k v R;go_wp2_with fail;rw[<-e6];refine(wI B s g r b c _ b4 (PS d b m j) (usN c m) w bA (HL.out.le hK0) bB bC.out e8.out (e9.out.mono om) om om X).mono ?_;rintro e _ ⟨rfl,⟨l',k3,k4,k5⟩,k6⟩;have HK:=a8 (aD k3 (aD (aD k4 k5) (k6 w (Ext.kp bB) bC.out)));exact uz3
  .have HR:Hid (JS d b c m j=none):=a8 (by unfold JS;rw[k];exact if_neg (by rw[<-v];exact h0));have eB:=O h0;subst eB;have e5:(cd !=0)=true:=by simpa using h0
   have HE:=a8 (a2.alloc (.cells #[(0:Int),(),false,(),()] 39));unfold sE;clear k v N O;exact PY0
theorem GI(b c:Int)(d:Nat)(w:World)(h:Bx 3 w d #[b]):
  Calls prog 59 #[c,(d,0)] w λe i=>e= .returned (.bool (decide (c=b)))/\Ext w i:=by
 have:w.cell? d=some (.int .i64 b):=h.cell 0;have j:Hid (decide (c=b)=(c==b)):=a8 rfl;clear h;go_enter func59,ntmps59;go_wp2;go_ret;exact⟨by simp[j.out],rE⟩
theorem R5(k:Value)(c:List Int)(B l:Nat)(d:Int)(w:World)(p:IL B w k c)(C:Bx 3 w l #[d]):
  Calls prog 111 #[k,.func (.func 59) #[] #[(l,0)]] w λe D=>e= .returned (.int .i64 (tG (λb:Int=>decide (b=d)) c))/\Ext w D:=by
 have E:∃h n j,n=c.length/\k= .slice h n j/\n<=9223372036854775807/\∀(i:Nat) (b:Int),c[i]? =some b->∃g,h=some ⟨g,0,none⟩/\∀t,Ext w t->t.cell? ⟨g,i,none⟩=some (.int .i64 b):=by
  obtain⟨h,j,e,f⟩:=p.opn;refine⟨h,_,j,rfl,e,?_,f⟩;rcases p.2 with⟨_,u⟩ |⟨g,j,cur,_,_,_,_,u,_⟩
  .omega
  .unfold maxLen at u;omega
 clear p;obtain⟨h,n,j,v,rfl,_,y⟩:=E;have Hn:=a8 v;have F:=a8 y;clear v y;go_enter func111,ntmps111;go_wp2_with fail;go_loopw [8] (λq wr=>∃i:Nat,i<=n/\q= .int .i64 (i:Int)/\Hid (∀x∈c.take i,(λb:Int=>decide (b=d)) x=false)/\Ext w wr) (λq _=>((n:Int) - intOf q).toNat)
 case atStart=>exact ⟨0,zl,rfl,a8 (λx hx=>by simp at hx),rE⟩
 case round=>
  obtain⟨i,H,rfl,hH,hex⟩:=hrel;rcases aI H with r |r
  .subst r;have I:¬((i:Int)<i):=om;have HF:Hid (tG (λb:Int=>decide (b=d)) c= -1):=vp3;exact pM4
  .have I:(i:Int)<n:=om;obtain⟨s,hx⟩:∃x,c[i]? =some x:=⟨_,aA (by rw[<-Hn.out];exact r)⟩;obtain⟨g,rfl,z⟩:=F.out i s hx;have:=z wr hex;have J:=a8 (C.ext hex);clear z;have HX:=a8 (aD hx (mP hx));obtain⟨K,A⟩:=ex ((λb:Int=>decide (b=d)) s:Bool);have Hr:=a8 A.symm;clear hx A;go_wp2_with fail;refine(GI d s l wr J.out).mono ?_;rw[Hr.out];rintro _ _ ⟨rfl,e2⟩
   cases K with
   |true=>
    have HF:Hid (tG (λb:Int=>decide (b=d)) c=(i:Int)):=a8 (CO hH.out HX.out.1 Hr.out);exact Vf9
   |false=>
    have HF:Hid (∀x∈c.take (i+1),(λb:Int=>decide (b=d)) x=false):=a8 λx hx=>Gq5
    exact oo8
def OfL(n:Nat)(ids:List Int)(cur:List Value):Prop:=∀j,j<n->∃x∈ids,cur[j]? =some (.int .i64 x)
theorem OfL.list{ids:List Int}{cur:List Value}:∀{n:Nat},OfL n ids cur->∃xs:List Int,xs.length=n/\cur.take n=xs.map (Value.int .i64)/\∀c∈xs,c∈ids
 |0,_=>⟨[],rfl,sm,λc d=>by cases d⟩
 |n+1,h=>by
  obtain⟨xs,i,j,k⟩:=OfL.list (n:=n) (ids:=ids) (cur:=cur) λl _=>h l om
  obtain⟨c,d,p⟩:=h n om;refine⟨xs++ [c],by rw[aB,i];rfl,by rw[cE,p,j,bY];rfl,λq b=> ?_⟩
  rcases aW.1 b with b |b
  .exact k q b
  .rw[aC.1 b];exact d
theorem OfL.set{n:Nat}{cur:List Value}(b:OfL n N cur)(i:a4∈N):OfL n N (cur.set q a4):=by
 intro c d;by_cases h:q=c
 .subst h;obtain⟨_, -,j⟩:=b q d;have:=(aH.1 j).1;exact⟨a4,i,by rw[fK this]⟩
 .rw[jM h];exact b c d
def DelP(B:Nat)(v:Value)(ids:List Int)(w:World)(v':Value)(w':World):Prop:=(∃xs:List Int,IL B w' v' xs/\xs.length<=ids.length/\∀x∈xs,x∈ids)/\w.grownBy w' v.ownBlock/\v'.ownBlock=v.ownBlock
theorem R4(B q:Nat)(r:Int)(y:Value)(d:List Int)(w:World)(l:IL B w y d)(bR:d.length<=34359738368)(R:Bx 3 w q #[r])(T:∀g,y.ownBlock=some g->q≠g):
  Calls prog 57 #[y,.func (.func 59) #[] #[(q,0)]] w λe bS=>∃U,e= .returned U/\DelP B y d w U bS:=by
 obtain⟨V,i,bT,c0⟩:=l.opn;subst bT;have z:=a8 l;obtain⟨n,J⟩:=ex d.length;have A:=a8 J;rw[<-J]at bR z ⊢;have c1:=BI (p:=λs:Int=>decide (s=r)) (cs:=d);have c2:=a8 T;have X:=a8 R;clear l c0 J T R;go_enter func57,ntmps57;go_wp2_with fail;refine(R5 _ d B q r w z.out X.out).mono ?_;rintro c3 Z ⟨rfl,t⟩;rcases c1 with⟨k,c4⟩ |⟨p,_,k,a0,c5,c6⟩
 .rw[k];clear c4 k;go_wp2;go_ret;refine⟨_,rfl,⟨d,z.out.ext t,lr,λr l=>l⟩,?_,rfl⟩
  cases V with
  |none=>exact t
  |some a=>exact t.chg a.block
 .have fE:p<n:=by have:=(aH.1 a0).1;have:=A.out;omega
  rw[k];clear k a0 c5 c6;obtain⟨g,u,cur,f1,f2,f3,f4,f5,f6,f7⟩:∃g u cur,Value.slice V n i= .slice (some ⟨g,0,none⟩) n u/\B<=g/\w.heap[g]? =some (.cells cur 3 (0,0))/\n<=u/\u<=maxLen/\cur.size=u*1/\cur.toList.take (n*1)=d.map (Value.int .i64):=by
   have:=z.out.2;rw[<-A.out]at this;rcases this with⟨_,_⟩ |l
   .omega
   .exact l
  cases f1
  have c7:Hid (OfL n d cur.toList):=a8 λc a1=>by
   have a2:c<d.length:=by have:=A.out;omega
   refine⟨d[c],dC a2,?_⟩;have:(cur.toList.take (n*1))[c]? =some (.int .i64 d[c]):=by rw[f7,aX,aA a2];rfl
   rw[eS]at this;split at this
   .exact this
   .cases this
  have c8:Hid (Bx 3 Z g cur):=a8 ((show Bx 3 w g cur from f3).ext t);have a3:Chg g w Z:=t.chg g;have a4:cur.size=i:=om;have c9:q≠g:=c2.out g rfl;have e0:=a8 (aD f2 (aD f4 f5));have fG:i<=9223372036854775807:=by unfold maxLen at f5;omega
  have g0:n<=i:=f4;clear f2 f3 f4 f5 f6 f7;obtain⟨C,e1⟩:=ex (p+1);have e2:(p:Int)+1=(C:Int):=om;have a5:p<C:=om;have a6:C<=n:=om;clear e1;have D:¬(p:Int)= -1:=om;have a7:((p:Int)== -1)=false:=sm;go_wp2_with fail;(try rw[a7]);clear D a7;go_loopw [5,6] (λa9 K wr=>∃(b c:Nat),a9= .int .i64 (b:Int)/\K= .int .i64 (c:Int)/\b<c/\c<=n/\Hid (∃h:Array Value,h.size=i/\Bx 3 wr g h/\OfL n d h.toList)/\Chg g w wr) (λa9 K _=>((n:Int) - intOf K).toNat)
  case atStart=>exact ⟨p,C,rfl,rfl,a5,a6,a8 ⟨cur,a4,c8.out,c7.out⟩,a3⟩
  case round=>
   obtain⟨b,c,rfl,rfl,_,e3,b0,E⟩:=hrel;obtain⟨h,L,b1,v⟩:=b0.out;have j:=a8 (aD b1 v);clear a3 e2 a5 a6 b0 b1 v a4;rcases aI e3 with e4 |e5
   .subst e4;have e6:¬(c:Int)<c:=om;have b2:∀w,(zeroValue 3).run prog w= .ok (0:Int) w:=λw=>kr
    have b3:=λe7=>tM (P:=prog) wr 55 3 e7 _ underlying55 b2 (λ_ b4=>by
     simp only[Value.cells,aS,bI,or_false]at b4
     rw[b4];rfl) g b (c - b) (i - b) h.toList j.out.1 (by
      show b+(c - b)*1<=_;rw[cJ];omega) om de
    obtain⟨x,M⟩:=ex ((Builtin.zeroCells (Value.int .i64 0).cells (c - b)).toList);rw[<-M]at b3;have b5:x.length=c - b:=by rw[M];simp[Builtin.zeroCells,Value.cells]
    obtain⟨N,F⟩:=ex (wr.setRow g (pR h.toList b x).toArray);rw[<-F]at b3;have b6:Bx 3 N g (pR h.toList b x).toArray:=by rw[F];exact j.out.1.setRow _
    have b7:Chg g wr N:=by rw[F];exact Chg.setRow _ _ _
    have b8:(h.toList.take b).length=b:=by rw[aP,cJ];omega
    have v:OfL b d h.toList:=λe8 _=>j.out.2 e8 om
    have e9:Hid (DelP B (g,c,i) d w (g,b,i) N):=by
     obtain⟨xs,b9,eA,eB⟩:=v.list;obtain⟨eC,_,eD⟩:=e0.out;refine a8 ⟨⟨xs,⟨by rw[aF,dG],.inr ⟨g,i,_,by rw[b9],eC,b6,om,eD,?_,?_⟩⟩,by have:=A.out;omega,eB⟩,E.trans b7,rfl⟩
     .show(pR h.toList b x).length=i*1;unfold pR;rw[aB,aB,b8,b5,cK,cJ,L];omega
     .show(pR h.toList b x).take (xs.length*1)=_;unfold pR;rw[dG,b9,aG,dN om,aK om,eA]
    have g1:c - b>0:=om;have g2:b<=c:=om;have g3:b<=i:=om;clear b6 b7 b5 M b2 F v b8;go_wp2;go_ret;exact⟨_,rfl,e9.out⟩
   .have e6:(c:Int)<n:=om;have g4:(b:Int)<n:=om;obtain⟨s,bA,bB⟩:=j.out.2 c e5;obtain⟨bC,eE,bD⟩:=j.out.2 b om;have eG:=a8 bA;have eN:wr.cell? (g,c)=some (.int .i64 s):=by rw[j.out.1.cell c,<-dX];exact bB
    have bE:wr.cell? (g,b)=some (.int .i64 bC):=by rw[j.out.1.cell b,<-dX];exact bD
    have fA:=a8 (X.out.chg E c9);clear bA eE bB bD;go_wp2_with fail;refine(GI r s q wr fA.out).mono ?_;obtain⟨fB,k⟩:=ex (decide (s=r));rw[<-k];clear k;rintro c3 fC ⟨rfl,O⟩;have H:=j.out.1.ext O;have g5:=H.free b;have g6:fC.cell? (g,b)=some (.int .i64 bC):=by
     rw[H.cell b,<-j.out.1.cell b];exact bE
    obtain⟨Q,bG⟩:=ex (c+1);have g7:(c:Int)+1=(Q:Int):=om;have I:=a8 bG;have bO:=a8 H;clear bG eN bE H
    cases fB with
    |true=>
     go_wp2;go_roundw
     case rel=>
      have a1:=I.out;exact⟨b,Q,rfl,rfl,om,om,a8 ⟨h,L,bO.out,j.out.2⟩,E.trans (O.chg g)⟩
     case measure=>have:=I.out;simp[intOf];omega
    |false=>
     obtain⟨bP,D⟩:=ex (b+1);have g9:(b:Int)+1=(bP:Int):=om;have fD:=a8 D;clear D;go_wp2;go_roundw
     case rel=>
      have a1:=I.out;have gA:=fD.out;refine⟨bP,Q,rfl,rfl,om,om,a8 ⟨_,by rw[Array.size_setIfInBounds];exact L,bO.out.set b s,?_⟩,(E.trans (O.chg g)).trans (Chg.setCell _ g b _)⟩;rw[Array.toList_setIfInBounds];exact j.out.2.set eG.out
     case measure=>have:=I.out;simp[intOf];omega
theorem GH(B:Nat)(c:Int)(p:Value)(b:List Int)(w:World)(i:IL B w p b)(A:b.length<=34359738368):
  Calls prog 56 #[p,c] w λe q=>∃r,e= .returned r/\(∃xs:List Int,IL w q r xs/\xs.length<=b.length/\∀c∈xs,c∈b)/\Ext w q:=by
 obtain⟨_,_,d, -⟩:=i.opn;subst d;obtain⟨w1,s,d,C,_⟩:=kR w #[c] 3;have D:=a8 (i.ext d);clear i;go_enter func56,ntmps56;go_wp2_with fail;rw[<-s];clear s;refine(CG B _ b w1 D.out om).mono ?_;rintro e E ⟨t,rfl,j,k⟩;have F:=a8 j;have u:=j.ge;have H:=a8 (C.ext k);clear j;go_wp2_with fail;refine(R4 w1 w c t b E F.out A H.out (λg I e=>by have:=u g I;omega)).mono ?_;rintro e J ⟨_,rfl,⟨xs,v,x,y⟩,h,K⟩;have z:=a8 (aD v (aD x y));have L:Hid (Ext w J):=a8 (by
  cases l:t.ownBlock with
  |none=>rw [l]at h;exact(d.trans k).trans h
  |some g=>rw [l]at h;exact(d.trans k).step h (by have:=u g l;omega))
 clear v x y h K;go_wp2;go_ret;exact⟨_,rfl,⟨xs,z.out.1.mono om,z.out.2⟩,L.out⟩
def PD(cs:List CR)(ds:List DR)(bs:List Bool)(us:List (Int×Rat))(sn:Int):DR:=⟨(sn,(n7 (oD (usC cs ds us) (us.map (·.2)) sn)).2),3,us,0,0,0,0⟩
def FB(cs:List CR)(ds:List DR)(ns:List (List Int))(bs:List Bool)(us:List (Int×Rat))(sn:Int):Option DR:=
 match us.all λu=>pM u.1 ns.length with
 |true=>if rK (usC cs ds us) (us.map (·.2)) sn=0 then(if rR (oD (usC cs ds us) (us.map (·.2)) sn) bs=0 then some (PD cs ds bs us sn)else none)else none
 |false=>none
def RvP(B K:Nat)(E:Int)(c:CR)(w:World)(v:Value):Prop:=∃p0 p1 p2 p3 p4 p5 p6 p7 p8 p9 p10,v= .agg #[.int .i64 p0,.slice p1 p2 p3,.bool p4,.slice p5 p6 p7,.slice p8 p9 p10]/\(E=0->CnO B K w v c)
theorem RvP.ext{B c:Nat}{d:Int}{h:CR}{w i:World}{j:Value}(b:RvP B c d h w j)(k:Ext w i):RvP B c d h i j:=by
 obtain⟨l,p,q,r,s,t,u,v,x,y,z,A,C⟩:=b;exact⟨l,p,q,r,s,t,u,v,x,y,z,A,λb=>(C b).ext k⟩
theorem RvP.chg{B c g:Nat}{d:Int}{h:CR}{w i:World}{j:Value}(b:RvP B c d h w j)(k:Chg g w i)(l:g<B):RvP B c d h i j:=by
 obtain⟨p,q,r,s,u,v,x,y,z,A,C,D,E⟩:=b;exact⟨p,q,r,s,u,v,x,y,z,A,C,D,λb=>(E b).chg k l⟩
theorem RvP.of{w:World}{b:List Bool}{e:Ending}(h:WS w q V b e r):∃c,e= .returned (.tuple #[c,(rR V b:Int)])/\Ext w r/\RvP w q (rR V b) (n7 V) r c:=by
 obtain⟨c,j,k,i,l⟩:=h;refine⟨c,j,k,?_⟩;by_cases d:rR V b=0
 .obtain⟨a,n,_,_,_,_,_,_,_,_,rfl,_⟩:=i d;exact⟨_,_,_,_,_,_,_,_,_,_,_,rfl,λ_=>i d⟩
 .exact⟨0,none,0,0,false,none,0,0,none,0,0,l d,λh=>absurd h d⟩
def RnI(gc:Nat)(old:Array Value)(B K:Nat)(E:Int)(c:CR)(w3:World)(S:Nat->Bool)(wz:World):Prop:=
 Chg gc w3 wz/\(S 0=false->Ext w3 wz)/\(S 0=true->∃cells,Bx 39 wz gc cells/\RvP B K E c wz (.agg cells))
theorem AX(B bG b0 g k bO U V b1 bP b5 M u:Nat)(d:LgS)(q:List CR)(l:List DR)(s:List (List Int))(x:List Bool)(e1:Value)(r:List (Int×Rat))(i:Int)(w:World)(h:nX B bG w g d l s)(b6:CL k w (d.ca,d.cn,d.cc) q)(eE:BL w (d.wa,d.wn,d.wc) x)(gT:TL bO w e1 r)(hK0:bG<=b0)(h1:bG<=k)(h2:k<=LIM)(hl:s.length=q.length+l.length)(h3:s.length<=1000000)(jB:r.length<=1000000)(h4:(r.length+1)*(bO+1)<=34359738000)(h5:r.length*(bO+1)=U)(h6:U<=LIM)(h7:U<=b0)
  (eG:(mkV r).length<=1000000) (e2:(usN s (mkV r)).length<=1000000000)
  (eN:∀h8∈usC q l (mkV r),h8.2.1.length<=V) (fA:(mkV r).length<=b1) (h9:b1*V+V<=1073741824) (hA:b1*V*(U+k+1)+1<=bP) (X:b1*(U+k+1)+1<=b5) (hC:b5<=34359738000) (hD:(b1*V+V+1)*(bP+U+k+1)<=34359738000) (Z:1<=b5) (hE:max bP b5=M) (hG:M<=LIM)
  (b7:(oD (usC q l (mkV r)) ((mkV r).map (·.2)) i).2.1.length<=1073741824) (b8:((oD (usC q l (mkV r)) ((mkV r).map (·.2)) i).2.1.length+1)*(M+1)<=17179869180) (b9:(oD (usC q l (mkV r)) ((mkV r).map (·.2)) i).2.1.length*(M+1)<=u) (hH:M<=u) (hI:u<=17179869180) (hJ:u+1<=b0):
  Calls prog 14 #[(g,0),e1,i] w λe e3=>OpP B b0 g d l s w (FB q l s x (mkV r) i) (λb2=>b2∈usN s (mkV r)) e e3:=by
 have jC:B<=w.heap.size:=Pj6;have HL:=a8 h;have HC:=a8 b6;have hK:=a8 eE;clear h b6 eE;obtain⟨m,e4⟩:=ex (mkV r);rw[<-e4]at eG e2 eN fA b7 b8 b9 ⊢;have hL:=a8 e4;clear e4;go_enter func14,ntmps14;go_wp2_with fail;refine(nF bO e1 r w gT om h4).mono ?_;rintro e w1 ⟨hM,rfl,e5,bR⟩;rw[h5,<-hL.out]at e5;have e6:=a8 e5;clear e5;go_wp2_with fail;refine(zG B bG g k U V b1 bP b5 M d q l s hM m i w1 (HL.out.ext bR) (HC.out.ext bR) (e6.out.tl h6) h1 h2 hl h3 eG e2 eN fA h9 hA X hC hD Z hE).mono ?_;rintro e y ⟨e7,bS⟩;have hN:=bR.size;have bA:=bR.trans e7
 cases Q:m.all λz=>pM z.1 s.length with
 |false=>
  rw[Q]at bS;obtain⟨code,hcode,rfl⟩:=bS;have HR:Hid (FB q l s x m i=none):=a8 (by unfold FB;rw[Q]);have fB:(code !=0)=true:=by simpa using hcode
  have HE:=a8 (bA.alloc (.cells #[(0:Int),(),false,(),()] 39));unfold sE;clear Q b7 b8 b9;exact TE5
 |true=>
  rw[Q]at bS;obtain⟨c,fC,rfl,e8,R,bT⟩:=bS;obtain⟨cd,bB⟩:=ex (rK (usC q l m) (m.map (·.2)) i);rw[<-bB]at R bT ⊢;by_cases h0:cd=0
  .subst h0;obtain⟨a,n,a0,N,a1,a2,a3,a4,a5,a6,rfl,e9,eA,eB⟩:=R rfl;obtain⟨fD,fE,fG⟩:=e6.out.val;obtain⟨g0,g1⟩:=ex m.length;rw[<-g1]at fG;subst fG;clear g1;obtain⟨p,c0⟩:=ex (oD (usC q l m) (m.map (·.2)) i);rw[<-c0]at e9 eA eB b7 b8 b9 ⊢;obtain⟨j,eC⟩:=ex (rR p x);have g2:Hid (FB q l s x m i=if j=0 then some (PD q l x m i)else none):=a8 (by unfold FB;rw[Q,eC,c0];exact if_pos bB.symm);obtain⟨v,g3,c1,hO,hP⟩:=kR y #[p.1,(a,n,a0),N,(a1,a2,a3),(a4,a5,a6)] 39;have hR:Hid (CnO w1 M v (.agg #[p.1,(a,n,a0),N,(a1,a2,a3),(a4,a5,a6)]) p):=a8 (by
    have:CnO w1 M y (.agg #[p.1,(a,n,a0),N,(a1,a2,a3),(a4,a5,a6)]) p:=⟨a,n,a0,N,a1,a2,a3,a4,a5,a6,rfl,e9,eA,eB⟩;exact this.ext c1)
   have hS:=a8 (e8.ext c1);have jD:=e7.size;have bC:=a8 (bA.trans c1);have g4:Hid (∀c2,fC.ownBlock=some c2->w.heap.size<=c2):=a8 λc2 hT=>aE hN (e8.own c2 hT)
   have g5:=a8 eC;have hU:=a8 c0;have c3:y.heap.size<v.heap.size:=om;have c4:=a8 hO;have HC:Hid (∀b,Chg y v b->b.cell? (g,5)=some (.slice d.wa d.wn d.wc)):=a8 λb R=>by
    obtain⟨_,_,_,_,_,_,hb,hB, -⟩:=HL.out;have:=hb.lt;have:=bA.size;exact((hb.ext bC.out).chg R om).cell 5
   have hV:Hid (∀b,Chg y v b->BL b (d.wa,d.wn,d.wc) x):=a8 λb R=>hK.out.ext (bC.out.step R bA.size)
   clear R bT e9 eA eB e8 Q bB eC c0;go_upto_region 5 with(fail);rw[<-g3];clear g3 hP;apply mQ [10] (λ_ a N=>Chg y a N) (RnI y #[p.1,.slice a n a0,.bool N,(a1,a2,a3),(a4,a5,a6)] v (u+1) j (n7 p) v)
    [kN (.agg #[p.1,(a,n,a0),N,(a1,a2,a3),(a4,a5,a6)]),kN _,kN _,kN _,kN _,kN (d.wa,d.wn,d.wc),
     ⟨λz b=>∃c,z= .tuple #[c,j]/\RvP v (u+1) j (n7 p) b c,λ_=>false,?m6,?s6⟩,⟨λz b=>∃c,z= .tuple #[c,j]/\RvP v (u+1) j (n7 p) b c,λ_=>false,?m7,?s7⟩,
     ⟨λz b=>RvP v (u+1) j (n7 p) b z,λ_=>false,λz b2 c5 T h=>h.ext T,λhW _ z b2 c5 X h=>h.chg X c3⟩,kN j,kV,kN j] [] [] [] [(0,0,false),(6,0,false)] [] ?ie ⟨Chg.refl _ _,λ_=>rE,λh=>(by cases h)⟩ ?st ?en ?hcs sm kr kr hF
   case m6 |m7=>exactλz b2 c5 T ⟨c,Z,a7⟩=>⟨c,Z,a7.ext T⟩
   case s6 |s7=>exactλhW _ z b2 c5 X ⟨c,Z,a7⟩=>⟨c,Z,a7.chg X c3⟩
   case ie=>exactλS b2 c5 T ⟨Z,a7,c6⟩=>⟨Z.trans (T.chg _),λh=>(a7 h).trans T,λh=>(let ⟨hX,hY,hZ⟩:=c6 h;⟨hX,hY.ext T,hZ.ext T⟩)⟩
   case hcs=>
    exact Bl5
   case st=>
    refine⟨?_,?_,?_,?_,?_,?_,?_,?_,?_,?_,?_,?_,trivial⟩
    .intro S f b t hp hl O;exact kZ _ _ y _ _ _ rfl rfl rfl (c4.out.ext (t.2.1 (O.1 rfl))) underlying39 rfl kr rfl
    .exact oX
    .exact oX
    .exact oX
    .exact oX
    .exact oX
    .intro S f b t hp hl O;have i0:f 0= .agg #[p.1,(a,n,a0),N,(a1,a2,a3),(a4,a5,a6)]:=hp.1 rfl;have i1:f 5=(d.wa,d.wn,d.wc):=hp.2.1 rfl;refine oC (P:=prog) #[f 0,f 5] func52 rfl rfl ?_;rw[i0,i1];refine(CI M u _ _ p x b (((hR.out.ext (t.2.1 (O.2.1 rfl)))).cnR hG) (hV.out b t.1) b7 b8 b9 hH hI).mono ?_;rintro e e3 X;obtain⟨c,rfl,a7,c6⟩:=RvP.of X;have i2:=(t.2.1 (O.2.1 rfl)).size;rw[<-g5.out]at c6;obtain⟨b3,A,C,D,E,F,H,I,J,K,L,b4,a9⟩:=c6;exact⟨_,rfl,a7,c,by rw[g5.out],b3,A,C,D,E,F,H,I,J,K,L,b4,λh=>(a9 h).mono i2⟩
    .intro S f b t hp hl O;have i3:∃c,f 6= .tuple #[c,j]/\RvP v (u+1) j (n7 p) b c:=hp.1 rfl;clear hp;simp only[kM];go_simp;exact⟨_,rfl,rE,i3⟩
    .intro S f b t hp hl O;obtain⟨c,i4,c7⟩:∃c,f 7= .tuple #[c,j]/\RvP v (u+1) j (n7 p) b c:=hp.1 rfl;clear hp;simp only[kM];go_simp;exact⟨_,rfl,rE,c7⟩
    .intro S f b t hp hl O;obtain⟨c,i4,c7⟩:∃c,f 7= .tuple #[c,j]/\RvP v (u+1) j (n7 p) b c:=hp.1 rfl;exact rm4
    .intro S f b t hp hl i5 O;have c7:RvP v (u+1) j (n7 p) b (f 8):=hp.1 rfl;obtain⟨b3,A,C,D,E,F,H,I,J,K,L,b4,a9⟩:=c7;have i6:RvP v (u+1) j (n7 p) b (.agg #[b3,(A,C,D),E,(F,H,I),(J,K,L)]):=⟨b3,A,C,D,E,F,H,I,J,K,L,rfl,by rw[<-b4];exact a9⟩;exact AM (P:=prog) _ _ _ y 39 _ #[b3,(A,C,D),E,(F,H,I),(J,K,L)] rfl rfl rfl b4 (c4.out.ext (t.2.1 i5)) kr rfl (by simp[Value.oneCell']) λe3 b6 hb=>⟨⟨t.1.trans b6,λh=>(by simp[onS]at h),λ_=>⟨_,hb,i6.chg b6 c3⟩⟩,trivial⟩
    .intro S f b t hp hl O;have jE:f 9=j:=hp.1 rfl;exact rm4
   case en=>
    intro f g6 t hp;have g7:f 11=j:=hp.2.2.2.2.2.2.2.2.2.2.2.1 rfl;obtain⟨_,c8,b3,A,C,D,E,F,H,I,J,K,L,b4,a9⟩:=t.2.2 rfl
    cases b4
    have bD:=t.1;simp only[g7];clear hp t g7;by_cases c9:j=0
    .subst c9;have g9:=a9 rfl;clear a9;have HR:Hid (FB q l s x m i=some (PD q l x m i)):=a8 g2.out;have jG:=c8.q5;have i7:=bC.out.step bD om;obtain⟨bE,eD⟩:=ex (g6.setCell y i);have e0:Chg y g6 bE:=by rw[eD];exact Chg.setCell _ _ _ _
     have j0:Bx 39 bE y #[i,(A,C,D),E,(F,H,I),(J,K,L)]:=by rw[eD];exact c8.set 0 _
     have gA:=a8 (i7.step e0 om);have gG:=g9.chg e0 c3;have j1:Hid (vT B b0 bE (.agg #[i,(A,C,D),E,(F,H,I),(J,K,L),(3:Int),(fD,g0,fE),(0:Int),(0:Int),(0:Int),(0:Int)]) (PD q l x m i)):=a8 ⟨A,C,D,E,F,H,I,J,K,L,fD,g0,fE,rfl,by
      obtain⟨_,_,_,_,_,_,_,_,_,_,j2,j3,j4,j5⟩:=gG
      cases j2
      have k0:=bC.out.size;have:CnO v (u+1) bE (.agg #[i,(A,C,D),E,(F,H,I),(J,K,L)]) (i,(n7 p).2):=⟨_,_,_,_,_,_,_,_,_,_,rfl,j3,j4,j5⟩;unfold PD;rw[<-hU.out];exact(this.mono om).le hJ,(((e6.out.ext (e7.trans c1)).chgB bD c4.out de de).chgB e0 c8 de de).mono om |>.le h7⟩
     have j6:=a8 ((hS.out.chgT bD c4.out de).chgT e0 c8 de);have k1:=j0.q5;clear g9 gG bD;go_wp2_with fail;rw[<-eD];refine(wI B b0 g d l s _ fC (PD q l x m i) (usN s m) w bE (HL.out.le hK0) gA.out g4.out j1.out (j6.out.mono om) om om e2).mono ?_;rintro e _ ⟨rfl,⟨l',k3,k4,k5⟩,k6⟩;have HK:=a8 (aD k3 (aD (aD k4 k5) (k6 w (Ext.kp gA.out) g4.out)));exact uz3
    .have HR:Hid (FB q l s x m i=none):=a8 (by rw[g2.out];exact if_neg c9);have fB:(j !=0)=true:=by simpa using c9
     have gL:=a8 (bC.out.step bD om);clear a9;go_wp2;go_ret2;rw[HR.out];exact⟨Ext.kp gL.out,j,c9,rfl,(HL.out.ext gL.out).le hK0⟩
  .have HR:Hid (FB q l s x m i=none):=a8 (by unfold FB;rw[Q];exact if_neg (by rw[<-bB];exact h0));have jA:=bT h0;subst jA;have fB:(cd !=0)=true:=by simpa using h0
   have HE:=a8 (bA.alloc (.cells #[(0:Int),(),false,(),()] 39));unfold sE;clear Q bB R bT b7 b8 b9;exact PY0
def splB(cs:List CR)(ds:List DR)(bs:List Bool)(c:CR)(l lf r rf:Nat):Bool:=
 ((((LW cs ds lf&&LW cs ds rf)&&yS (nA cs ds lf) (nA cs ds rf) bs)&&vX (nA cs ds l) (mW c))&&vX (nA cs ds r) (mW c))
def SE(c:CR)(l lf r rf:Nat):DR:=⟨mW c,4,[],l,lf,r,rf⟩
def JQ(cs:List CR)(ds:List DR)(ns:List (List Int))(vn:Nat)(bs:List Bool)(c:CR)(l lf r rf:Int):Option DR:=
 if yH c vn&& [l,lf,r,rf].all (λi=>pM i ns.length)&&splB cs ds bs c l.toNat lf.toNat r.toNat rf.toNat then some (SE c l.toNat lf.toNat r.toNat rf.toNat)else none
def WG(ns:List (List Int))(l r x:Int):Prop:=x∈ns.getD l.toNat []++ns.getD r.toNat []
theorem zW{n:Nat}(b:pM a4 n=true):∃c:Nat,a4=(c:Int)/\c<n:=by
 unfold pM at b;simp at b;exact⟨a4.toNat,om,om⟩
def FU(k:Nat)(c:CR):PE:=nL (λu w=>CnR k w u c) λu a b he h=>h.ext he
theorem TS(g b j B:Nat)(c:LgS)(d:List CR)(h:List DR)(p:List (List Int))(i:Nat){o:Oper}{a:Act}{f:Nat->Value}(k l q:Nat){s:Array TypeId}(v:nX B j r g c h p)(HC:CL b r (c.ca,c.cn,c.cc) d)(x:j<=b)(y:b<=LIM)(z:i<d.length+h.length)(A:d.length+h.length<=1000000)(t:Ext r a5)
  (C:o.guard=some (q,false)) (D:f q= .bool (!a2)) (E:o.op= .call {callee:= .value (.func 47),args:=#[.tmp k,.tmp l],argTypes:=s})
  (F:a2=true->a.eval (.tmp k)= .pointer g) (H:a2=true->a.eval (.tmp l)=i):
  kM prog o a f a5 Ext (mZ a2 (FU b (nA d h i))).p:=by
 refine kS C (by rw[D];simp) λu=> ?_
 refine oC (P:=prog) (F:=47) (xs:=#[.tmp k,.tmp l]) (ts:=s) #[(g,0),i] func47 rfl E ?_ kr kr (by simp only[List.map_toArray,dQ,eT,F u,H u]);refine(GZ B j g b c d h p i a5 (v.ext t) (HC.ext t) x y z A).mono ?_;rintro e _ ⟨_,rfl,I,J⟩;exact⟨_,rfl,J,I⟩
theorem JH(B e3 t bG E a9 g:Nat)(p:LgS)(q:List CR)(k:List DR)(j:List (List Int))(V:List Bool)(h4:Value)(l:CR)(pl J I K:Int)(w:World)(h:nX B e3 w g p k j)(D:CL t w (p.ca,p.cn,p.cc) q)(h5:BL w (p.wa,p.wn,p.wc) V)(e4:CnR bG w h4 l)(jB:l.2.1.length<=1073741824)(jC:(l.2.1.length+1)*(bG+1)<=34359738000)(jD:l.2.1.length*(bG+1)<=E)(jE:bG<=E)(h6:e3<=E)(h7:E<=LIM)(b4:E<=t)(c1:t<=LIM)(x:j.length=q.length+k.length)(n0:j.length<=1000000)
  (c2:∀s,s<j.length->(nA q k s).2.1.length<=a9) (h8:(mW l).2.1.length<=a9) (e5:2*a9<=1073741824) (jG:(2*a9+1)*(2*t+2)<=17179869180) (h9:∀u∈j,u.length<=1000000):
  Calls prog 15 #[(g,0),h4,pl,J,I,K] w λe X=>OpP B E g p k j w (JQ q k j p.nn V l pl J I K) (WG j pl I) e X:=by
 have k0:=e4;obtain⟨a,n,k1,b,k2,k3,k4,k5,k6,k7,rfl, -, -⟩:=k0;obtain⟨w1,e6,b5,e7,k8⟩:=kR w #[l.1,(a,n,k1),b,(k2,k3,k4),(k5,k6,k7)] 39;have hA:=a8 (e4.ext b5);have hC:=a8 (h.ext b5);have e8:=a8 h;have hD:=a8 D;have hE:=a8 h5;have:B<=w.heap.size:=Pj6;clear h e4 D h5;go_enter func15,ntmps15;have hG:=e7.q5.1;rw[e6]at hG;go_wp2_with fail;rw[<-e6];clear e6 hG;refine(CM B e3 bG E g p k j _ l w1 hC.out hA.out jB jC jD jE).mono ?_;rintro e _ ⟨_,rfl,bO,M,y⟩;have k9:=bO.size;have bP:=e7.ext bO
 cases b6:yH l p.nn with
 |false=>
  have b0:=y b6;subst b0;unfold sE;obtain⟨e9,c3,b7,eA⟩:=DW bP (0:Int) () false () ();have hH:=bP.q5;have b8:Hid (JQ q k j p.nn V l pl J I K=none):=a8 (by unfold JQ;rw[b6];rfl);clear M y b6;go_wp2;rw[<-c3];go_ret2;have a2:=(b5.trans bO).step b7 lr;rw[b8.out];exact⟨Ext.kp a2,2,de,rfl,(e8.out.ext a2).le h6⟩
 |true=>
  have eB:=M b6;obtain⟨N,m,O,Q,d1,R,f1,d2,T,f2,rfl,kA,kB,eC⟩:=eB.op;have hH:=bP.q5;obtain⟨e9,c3,b7,eA⟩:=DW bP l.1 (N,m,O) Q (d1,R,f1) (d2,T,f2);have kC:=b7.size;have bR:=(b5.trans bO).step b7 lr;have eD:=a8 bR;have eE:=a8 (eB.chg b7 om);have Z:=a8 ((e8.out.ext bR).le h6);have bS:=a8 eA;have hI:JQ q k j p.nn V l pl J I K=if [pl,J,I,K].all (λs=>pM s j.length)&&splB q k V l pl.toNat J.toNat I.toNat K.toNat then some (SE l pl.toNat J.toNat I.toNat K.toNat)else none:=by unfold JQ;rw[b6];rfl
  have eG:=a8 hI;have b9:=a8 (hD.out.ext bR);have kD:=a8 (hE.out.ext bR);have:w.heap.size<e9.heap.size:=om;have:w.heap.size<=w1.heap.size:=b5.size;clear M y b6 kA kB eC eB hC hA e7 bP eA hD hE hI bR k9 kC e8 b7 b5 bO k8;go_wp2_with fail;rw[<-c3];clear c3 hH;go_loopw [33] (λeN wr=>∃s:Nat,s<=4/\eN= .int .i64 (s:Int)/\Hid (∀bA,bA<s->pM ([pl,J,I,K].getD bA 0) j.length=true)/\Ext e9 wr) (λeN _=>((4:Int) - intOf eN).toNat)
  case atStart=>exact ⟨0,om,rfl,a8 λbA hJ=>absurd hJ (Nat.not_lt_zero _),rE⟩
  case round=>
   obtain⟨s,b1,rfl,a3,F⟩:=hrel;rcases aI b1 with fA |fA
   .subst fA;obtain⟨u,rfl,hK⟩:=zW (show pM pl j.length=true from a3.out 0 om);obtain⟨z,rfl,kE⟩:=zW (show pM J j.length=true from a3.out 1 om);obtain⟨v,rfl,hL⟩:=zW (show pM I j.length=true from a3.out 2 om);obtain⟨A,rfl,kG⟩:=zW (show pM K j.length=true from a3.out 3 om);have hM: [(u:Int),(z:Int),(v:Int),(A:Int)].all (λs=>pM s j.length)=true:=by
     have h0:=a3.out 0 om;have M:=a3.out 1 om;have y:=a3.out 2 om;have bB:=a3.out 3 om;simp only[iC,iB]at h0 M y bB;simp only[List.all_cons,List.all_nil,h0,M,y,bB,Bool.and_self]
    obtain⟨a4,fB⟩:=ex (LW q k z);obtain⟨fC,fD⟩:=ex (LW q k A);obtain⟨fE,a6⟩:=ex (yS (nA q k z) (nA q k A) V);obtain⟨D1,fG⟩:=ex (vX (nA q k u) (mW l));obtain⟨g0,g1⟩:=ex (vX (nA q k v) (mW l));obtain⟨H,g2⟩:=ex (a4&&fC);obtain⟨a0,g3⟩:=ex (H&&fE);obtain⟨a1,g4⟩:=ex (a0&&D1);obtain⟨c4,g5⟩:=ex (a1&&g0);have b8:Hid (JQ q k j p.nn V l u z v A=if c4=true then some (SE l u z v A)else none):=a8 (by
     rw[eG.out,hM,g5,g4,g3,g2,fB,fD,a6,fG,g1];rfl)
    have hN:=a8 fB;have hO:=a8 fD;have hP:=a8 a6;have hR:=a8 fG;have hS:=a8 g1;have hT:=a8 g2;have hU:=a8 g3;have hV:=a8 g4;have hW:=a8 g5;have HC:Hid (∀d,Ext wr d->d.cell? (g,5)=some (.slice p.wa p.wn p.wc)/\d.cell? w.heap.size=some (.int .i64 l.1)/\d.cell? (w,1)=some (.slice N m O)/\d.cell? (w,2)=some (.bool Q)/\d.cell? (w,3)=some (.slice d1 R f1)/\d.cell? (w,4)=some (.slice d2 T f2)):=a8 λd b0=>by
     obtain⟨_,_,_,_,_,_,hb,hB, -⟩:=Z.out;have a2:=F.trans b0;exact⟨(hb.ext a2).cell 5,(bS.out.ext a2).cell 0,(bS.out.ext a2).cell 1,(bS.out.ext a2).cell 2,(bS.out.ext a2).cell 3,(bS.out.ext a2).cell 4⟩
    clear fB fD a6 fG g1 g2 g3 g4 g5 hM eG;go_upto_region 10 with(fail);apply JY [kN _,kN _,kN a4,kN (.bool (!a4)),kN (.bool (!a4)),mZ a4 (kN _),mZ a4 (kN _),mZ a4 (kN fC),mZ a4 (kN (.bool (!fC))),kN (.bool (!H)),kN (.bool (!H)),
     mZ H (kN _),mZ H (kN _),mZ H (FU t (nA q k z)),mZ H (kN _),mZ H (kN _),mZ H (FU t (nA q k A)),mZ H (kN _),mZ H (kN _),mZ H (kN _),mZ H (kN _),mZ H (kN (p.wa,p.wn,p.wc)),mZ H (kN fE),mZ H (kN (.bool (!fE))),kN (.bool (!a0)),kN (.bool (!a0)),
     mZ a0 (kN _),mZ a0 (kN _),mZ a0 (FU t (nA q k u)),mZ a0 (kN (.agg #[l.1,(N,m,O),Q,(d1,R,f1),(d2,T,f2)])),mZ a0 (kN D1),mZ a0 (kN (.bool (!D1))),kN (.bool (!a1)),kN (.bool (!a1)),
     mZ a1 (kN _),mZ a1 (kN _),mZ a1 (FU t (nA q k v)),mZ a1 (kN (.agg #[l.1,(N,m,O),Q,(d1,R,f1),(d2,T,f2)])),mZ a1 (kN g0),mZ a1 (kN (.bool (!g0))),kN (.bool (!c4))] ?st ?en hF kr rfl kr
    case st=>
     refine⟨oX,oX,?_,oX,oX,oW,oW,?_,oW,?_,oX,oW,oW,?_,oW,oW,?_,oW,oW,oW,oW,oW,?_,oW,?_,oX,oW,oW,?_,oW,?_,oW,?_,oX,oW,oW,?_,oW,?_,oW,?_,trivial⟩
     .intro S f d i c x r;have g6:f 0= .pointer g:=(c.1 rfl);have q1:f 1=z:=(c.2.1 rfl);refine oC (P:=prog) #[f 0,f 1] func53 rfl rfl ?_;rw[g6,q1];refine(zF B E g t p q k j z d (Z.out.ext (F.trans i)) (b9.out.ext (F.trans i)) om om).mono ?_;rintro e X ⟨rfl,y⟩;exact⟨_,rfl,y,congrArg Value.bool hN.out.symm⟩
     .intro S f d i c x r;refine kS rfl (by rw[show f 4= .bool (!a4)from(c.2.2.1 rfl)];simp) λD=> ?_
      have l0:f 5= .pointer g:=(c.1 rfl).1 D;have l1:f 6=A:=(c.2.1 rfl).1 D;refine oC (P:=prog) #[f 5,f 6] func53 rfl rfl ?_;rw[l0,l1];refine(zF B E g t p q k j A d (Z.out.ext (F.trans i)) (b9.out.ext (F.trans i)) om om).mono ?_;rintro e X ⟨rfl,y⟩;exact⟨_,rfl,y,congrArg Value.bool hO.out.symm⟩
     .intro S f d i c x r;exact oPk (c.1 rfl) (c.2.1 rfl) hT.out rfl rfl rfl rfl
     .intro S f d i c x r;exact TS g t E B p q k j z 52 53 10 Z.out b9.out b4 c1 om om (F.trans i) rfl (c.2.2.1 rfl) rfl (λh=>(c.1 rfl).1 h) (λh=>(c.2.1 rfl).1 h)
     .intro S f d i c x r;exact TS g t E B p q k j A 55 56 10 Z.out b9.out b4 c1 om om (F.trans i) rfl (c.2.2.2.1 rfl) rfl (λh=>(c.1 rfl).1 h) (λh=>(c.2.1 rfl).1 h)
     .intro S f d i c x r;refine kS rfl (by rw[show f 10= .bool (!H)from(c.2.2.2.2.1 rfl)];simp) λD=> ?_
      have l2:CnR t d (f 13) (nA q k z):=(c.1 rfl).1 D;have l3:CnR t d (f 16) (nA q k A):=(c.2.1 rfl).1 D;have l4:f 21=(p.wa,p.wn,p.wc):=(c.2.2.1 rfl).1 D;refine oC (P:=prog) #[f 13,f 16,f 21] func54 rfl rfl ?_;rw[l4];refine(PQ t a9 _ _ _ _ _ V d l2 l3 (kD.out.ext (F.trans i)) (c2 _ kE) (c2 _ kG) e5 jG).mono ?_;rintro e X ⟨rfl,y⟩;exact⟨_,rfl,y,congrArg Value.bool hP.out.symm⟩
     .intro S f d i c x r;exact oPk (c.1 rfl) (c.2.1 rfl) hU.out rfl rfl rfl rfl
     .intro S f d i c x r;exact TS g t E B p q k j u 67 68 25 Z.out b9.out b4 c1 om om (F.trans i) rfl (c.2.2.1 rfl) rfl (λh=>(c.1 rfl).1 h) (λh=>(c.2.1 rfl).1 h)
     .intro S f d i c x r;refine kS rfl (by rw[show f 25= .bool (!a0)from(c.2.2.2.1 rfl)];simp) λD=> ?_
      have l5:CnR t d (f 28) (nA q k u):=(c.1 rfl).1 D;have l6:f 29= .agg #[l.1,(N,m,O),Q,(d1,R,f1),(d2,T,f2)]:=(c.2.1 rfl).1 D;refine oC (P:=prog) #[f 28,f 29] func55 rfl rfl ?_;rw[l6];refine(qQ t a9 _ _ _ _ d l5 (((eE.out.ext (F.trans i)).cnR h7).le b4) (c2 _ hK) h8 e5 om).mono ?_;rintro e X ⟨rfl,y⟩;exact⟨_,rfl,y,congrArg Value.bool hR.out.symm⟩
     .intro S f d i c x r;exact oPk (c.1 rfl) (c.2.1 rfl) hV.out rfl rfl rfl rfl
     .intro S f d i c x r;exact TS g t E B p q k j v 75 76 33 Z.out b9.out b4 c1 om om (F.trans i) rfl (c.2.2.1 rfl) rfl (λh=>(c.1 rfl).1 h) (λh=>(c.2.1 rfl).1 h)
     .intro S f d i c x r;refine kS rfl (by rw[show f 33= .bool (!a1)from(c.2.2.2.1 rfl)];simp) λD=> ?_
      have l7:CnR t d (f 36) (nA q k v):=(c.1 rfl).1 D;have l9:f 37= .agg #[l.1,(N,m,O),Q,(d1,R,f1),(d2,T,f2)]:=(c.2.1 rfl).1 D;refine oC (P:=prog) #[f 36,f 37] func55 rfl rfl ?_;rw[l9];refine(qQ t a9 _ _ _ _ d l7 (((eE.out.ext (F.trans i)).cnR h7).le b4) (c2 _ hL) h8 e5 om).mono ?_;rintro e X ⟨rfl,y⟩;exact⟨_,rfl,y,congrArg Value.bool hS.out.symm⟩
     .intro S f d i c x r;exact oPk (c.1 rfl) (c.2.1 rfl) hW.out rfl rfl rfl rfl
    case en=>
     intro f hX i c;have hY:f 40= .bool (!c4):=c.2.2.2.2.2.2.2.2.2.2.2.2.2.2.2.2.2.2.2.2.2.2.2.2.2.2.2.2.2.2.2.2.2.2.2.2.2.2.2.2.1 rfl;simp only[hY];have bC:=F.trans i;clear c hY
     cases c4 with
     |false=>
      have g7:Hid (JQ q k j p.nn V l u z v A=none):=a8 b8.out;go_wp2;go_ret2;rw[g7.out];exact⟨Ext.kp (eD.out.trans bC),241,de,rfl,Z.out.ext bC⟩
     |true=>
      have g7:Hid (JQ q k j p.nn V l u z v A=some (SE l u z v A)):=a8 b8.out;have lA:=(HC.out _ i).2;obtain⟨L,hZ,c5,i0,lB⟩:=kR hX #[l.1,(N,m,O),Q,(d1,R,f1),(d2,T,f2),(4:Int),(),u,z,v,A] 110;have c6:=bC.trans c5;have i1:=a8 (Z.out.ext c6);have i2:=a8 (eD.out.trans c6);obtain⟨_,_,_,_,en,g9,hb,hB,lC,lD,lE,gA⟩:=i1.out;obtain⟨b2,c7⟩:∃C,j[u]? =some C:=⟨_,aA hK⟩;obtain⟨b3,c8⟩:∃C,j[v]? =some C:=⟨_,aA hL⟩;obtain⟨bT,rfl,c9,i3,i4⟩:=gA.at c7;obtain⟨_,lG,e0,i5,i6⟩:=gA.at c8
      cases lG
      have bD:Hid (b2.length<=1000000/\b3.length<=1000000/\j.getD ((u:Int)).toNat []=b2/\j.getD ((v:Int)).toNat []=b3):=a8 ⟨h9 _ (aM c7),h9 _ (aM c8),by simp[aO,c7],by simp[aO,c8]⟩;have:(u:Int)<en:=om;have:(v:Int)<en:=om;have i7:=a8 (aD i4 i6);have m0:Hid (CnO B E L (.agg #[l.1,(N,m,O),Q,(d1,R,f1),(d2,T,f2)]) (mW l)):=a8 ((eE.out.ext c6).mono (by have:=c5.size;have:=bC.size;omega));have m1:=a8 i0;have e1:Hid (∀d,Ext L d->d.cell? (g,19)=some (.slice bT en g9)/\d.cell? (bT,u)=some c9/\d.cell? (bT,v)=some e0):=a8 λd b0=>⟨(hb.ext b0).cell 19,i3 _ b0,i5 _ b0⟩
      have m2:B<=L.heap.size:=by have:=c5.size;have:=bC.size;omega
      have:k.length<=1000000:=om;clear x hb lE gA i3 i5 i4 i6 c7 c8 lC lD c5 bC c6 i HC hN hO hP hR hS hT hU hV hW;go_upto_region 14 with(fail);rw[<-hZ];clear hZ lA;clear i0 lB;apply mQ [22,23] (λs a b=>if s=0 then∃a7,Grw L 3 1 a7 a b else True) (λS d=>(S 1=false->Ext L d)/\(S 1=true->OpP B E g p k j w (some (SE l u z v A)) (WG j u v) (.returned (.tuple #[j.length,(0:Int)])) d))
       [kN _,kN (.agg #[l.1,(N,m,O),Q,(d1,R,f1),(d2,T,f2),(4:Int),(),u,z,v,A]),kN _,kN _,kN _,kN _,kN (bT,en,g9),kN _,kN _,kN c9,kN _,
        ⟨λa7 b=>∃xs,IL L b a7 xs/\xs.length<=1000000/\∀C∈xs,C∈b2,λ_=>true,?m11,λs b1=>(by cases b1)⟩,
        kN _,kN _,kN _,kN _,kN (bT,en,g9),kN _,kN _,kN e0,kN _,
        ⟨λa7 b=>∃xs,IL L b a7 xs/\xs.length<=1000000/\∀C∈xs,C∈b3,λ_=>true,?m21,λs b1=>(by cases b1)⟩,
        ⟨λa7 b=>∃xs,IL L b a7 xs/\xs.length<=2000000/\∀C∈xs,C∈b2++b3,λ_=>true,?m22,λs b1=>(by cases b1)⟩,
        kN j.length,kN _,kN _]
       [[],[],[],[],[],[],[],[],[],[],[],[],[],[],[],[],[],[],[],[],[],[],[0],[],[],[]] [[],[],[],[],[],[],[],[],[],[],[],[0,1],[],[],[],[],[],[],[],[],[],[0,1],[1],[],[],[]] [(24,11),(24,21),(24,22),(25,11),(25,21),(25,22)] [(1,1,false),(6,1,false),(9,1,false),(11,1,false),(16,1,false),(19,1,false),(21,1,false),(22,1,false)] [] ?ie ⟨λ_=>rE,λh=>(by cases h)⟩ ?st ?en ?hcs sm kr kr hF
      case m11 |m21 |m22=>exactλa7 a b he ⟨xs,M,y⟩=>⟨xs,M.ext he,y⟩
      case ie=>
       exact dy6
      case hcs=>
       intro t a j0 M y;have j0:a<2:=j0;have a5:a=0∨a=1:=om;rcases t with _ |_ |_ |_ |_ |_ |_ |_ |_ |_ |_ |_ |_ |_ |_ |_ |_ |_ |_ |_ |_ |_ |_ |_ |_ |_ |t<;>rcases a5 with rfl |rfl<;>first |rfl | (simp at M;done) | (simp at y;done)
      case st=>
       refine⟨oX,?_,oX,oX,oX,oX,?_,oX,oX,?_,oX,?_,oX,oX,oX,oX,?_,oX,oX,?_,oX,?_,?_,?_,oX,oX,trivial⟩
       .intro S f d i c x r;exact kZ _ _ hX _ _ _ rfl rfl rfl (m1.out.ext (i.1 (r.1 rfl))) underlying110 rfl kr rfl
       .intro S f d i c x r;simp[sI,mY,mX,Region.binds]at c;have D:=(e1.out d (i.1 (r.2.1 rfl))).1;exact DG6
       .intro S f d i c x r;simp[sI,mY,mX,Region.binds]at c;have D:=(e1.out d (i.1 (r.2.2.1 rfl))).2.1;exact DG6
       .intro S f d i c x r;have q2:f 2= .func (.func 56) #[] #[]:=c.1 rfl;have gG:f 9=c9:=c.2.1 rfl;have gL:f 10=z:=c.2.2.1 rfl;have U:=i.1 (r.2.2.2.1 rfl);refine OQ (P:=prog) _ _ _ _ #[f 9,f 10] func56 rfl rfl q2 kr ?_;rw[gG,gL];refine(GH B (z:Int) c9 b2 d (i7.out.1.ext U) (by have:=bD.out.1;omega)).mono ?_;rintro e X ⟨j1,rfl,⟨xs,M,y,bB⟩,gT⟩;exact⟨_,rfl,gT,xs,M.mono U.size,by have:=bD.out.1;omega,bB⟩
       .intro S f d i c x r;simp[sI,mY,mX,Region.binds]at c;have D:=(e1.out d (i.1 (r.2.2.2.2.1 rfl))).1;exact DG6
       .intro S f d i c x r;simp[sI,mY,mX,Region.binds]at c;have D:=(e1.out d (i.1 (r.2.2.2.2.2.1 rfl))).2.2;exact DG6
       .intro S f d i c x r;have q2:f 12= .func (.func 56) #[] #[]:=c.1 rfl;have gG:f 19=e0:=c.2.1 rfl;have gL:f 20=A:=c.2.2.1 rfl;have U:=i.1 (r.2.2.2.2.2.2.1 rfl);refine OQ (P:=prog) _ _ _ _ #[f 19,f 20] func56 rfl rfl q2 kr ?_;rw[gG,gL];refine(GH B (A:Int) e0 b3 d (i7.out.2.ext U) (by have:=bD.out.2.1;omega)).mono ?_;rintro e X ⟨j1,rfl,⟨xs,M,y,bB⟩,gT⟩;exact⟨_,rfl,gT,xs,M.mono U.size,by have:=bD.out.2.1;omega,bB⟩
       .intro S f d i c x _ r;have a6:S 1=false:=r.2.2.2.2.2.2.2.1 rfl;have U:=i.1 a6;obtain⟨xs,bE,m3,h1⟩:∃xs,IL L d (f 11) xs/\xs.length<=1000000/\∀C∈xs,C∈b2:=c.1 rfl;obtain⟨j2,q1,q2,q3⟩:∃xs,IL L d (f 21) xs/\xs.length<=1000000/\∀C∈xs,C∈b3:=c.2.1 rfl;refine I5 _ _ rfl rfl L L (f 11) (f 21) xs j2 rfl bE rfl q1 om U.size (λj1 X m4 m5=> ?_);have j3:Grw L 3 1 (f 11) d X:=⟨m5,_,_,bE⟩;refine⟨⟨_,j3⟩,⟨λ_=>j3.ext U lr,λh=>(by simp[onS,a6]at h)⟩,xs++j2,m4,by rw[aB];omega,λC a5=> ?_⟩;rcases aW.1 a5 with a5 |a5
        .exact cO _ (h1 C a5)
        .exact dF _ (q3 C a5)
       .intro S f d i c x a6 r;have U:=i.1 a6;have g6:f 0= .pointer g:=c.1 rfl;have q1:f 1= .agg #[l.1,(N,m,O),Q,(d1,R,f1),(d2,T,f2),(4:Int),(),u,z,v,A]:=c.2.1 rfl;obtain⟨xs,bE,m3,h1⟩:∃xs,IL L d (f 22) xs/\xs.length<=2000000/\∀C∈xs,C∈b2++b3:=c.2.2.1 rfl;have m6:vT B E d (.agg #[l.1,(N,m,O),Q,(d1,R,f1),(d2,T,f2),(4:Int),(),u,z,v,A]) (SE l u z v A):=⟨N,m,O,Q,d1,R,f1,d2,T,f2,none,0,0,rfl,m0.out.ext U,YX _ _ _⟩;refine I6 (P:=prog) _ _ _ #[f 0,f 1,f 22] func49 rfl rfl ?_;rw[g6,q1];refine(wI B E g p k j _ (f 22) (SE l u z v A) xs L d i1.out U bE.own m6 (bE.mono m2) om om om).mono ?_;rintro e X ⟨rfl,⟨l',eC,m7,m8⟩,mA⟩;exact⟨_,rfl,trivial,⟨λh=>(by simp[onS]at h),λ_=>⟨mA w (Ext.kp (i2.out.trans U)) λmB mC=>aE i2.out.size (bE.own mB mC),rfl,l',eC,m7,λC a5=>by unfold WG;rw[bD.out.2.2.1,bD.out.2.2.2];exact h1 C (m8 C a5)⟩⟩,rfl⟩
      case en=>
       intro j4 _ i c;have j5:=i.2 rfl;have mD:j4 24=j.length:=c.2.2.2.2.2.2.2.2.2.2.2.2.2.2.2.2.2.2.2.2.2.2.2.2.1 rfl;have mE:j4 25=(0:Int):=c.2.2.2.2.2.2.2.2.2.2.2.2.2.2.2.2.2.2.2.2.2.2.2.2.2.1 rfl;have e2:=a8 j5;clear i j5 c;simp only[mD,mE];go_wp2;go_ret2;rw[g7.out];exact e2.out
   .obtain⟨c0,c⟩:=ex ([pl,J,I,K].getD s 0);have e2:Hid (c0=[pl,J,I,K].getD s 0):=a8 c;have:(s:Int)<4:=om;have j6:∀w:World,(Instr.index 40 (.agg #[pl,J,I,K]) s).run prog w= .ok c0 w:=by
     subst c;rcases s with _ |_ |_ |_ |s
     .exactλ_=>kr
     .exactλ_=>kr
     .exactλ_=>kr
     .exactλ_=>kr
     .omega
    clear c;go_wp2_with fail;refine(sT B E g p k j c0 wr (Z.out.ext F)).mono ?_;obtain⟨v,h2⟩:=ex (pM c0 j.length);rw[<-h2];have jA:=a8 h2;clear h2;rintro e _ ⟨rfl,h3⟩
    cases v with
    |true=>
     clear j6;go_wp2;go_roundw
     case rel=>
      refine⟨s+1,om,ci om,a8 λbA hJ=> ?_,F.trans h3⟩;by_cases mG:bA=s
      .subst mG;rw[<-e2.out];exact jA.out.symm
      .exact a3.out bA om
     case measure=>simp [intOf];omega
    |false=>
     have b8:Hid (JQ q k j p.nn V l pl J I K=none):=a8 (by
      have h0: [pl,J,I,K].all (λs=>pM s j.length)=false:=by
       rw[List.all_eq_false];refine⟨c0,?_,by rw[<-jA.out];simp⟩;rw[e2.out];rw[aO,aA (show s< [pl,J,I,K].length from fA)];exact dC _
      rw[eG.out,h0];rfl)
     clear j6;go_wp2;go_ret2;rw[b8.out];exact⟨Ext.kp (eD.out.trans (F.trans h3)),232,de,rfl,Z.out.ext (F.trans h3)⟩
end Go.Proofs.YtjlcilmjfejimaaGreat
