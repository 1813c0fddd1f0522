/- The documents' vectors: a times one, and another one. -/
import Derived.Test.YtjlcilmjfejimaaGreatD
import Derived.Laws.MakeOwn
import Derived.Deep.AppendSrc
import Derived.Laws.AppendOwnNone
namespace Go.Proofs.YtjlcilmjfejimaaGreat
set_option maxRecDepth 100000
set_option maxHeartbeats 32000000
set_option linter.unusedVariables false
set_option linter.unusedSimpArgs false
open Go.RowKit Tryz
variable{d h m C F N B k:Nat}{e O u:Value}{i:List (Int×Rat)}{j X:World}{l:Rat}{n s:Int}{p A:Option Addr}{v:List Value}{x:Bool}{y U:Type}{z qs:List Rat}{D:Option Nat}{H bs:List Bool}{L Q:ByteArray}{M:Array Value}{R:List (List (Int×Rat))}{S:Int×Rat}{T:RE}{V:List Nat}{Y:Exit->Act->World->Prop}
theorem vN(q:Value)(b:List RE)(w:World)(k:SLQ w q b):
  Calls prog 25 #[q] w λe F=>e= .returned (.bool (oU b))/\Ext w F:=by
 obtain⟨_,i,_,r,rfl,_,s⟩:=k.at;have H:=a8 k;have j:=a8 r;have I:=a8 s;clear r s k;go_enter func25,ntmps25;go_wp2_with fail;go_loopw [3] (λl wr=>∃c:Nat,c<=i/\l= .int .i64 (c:Int)/\Hid (∀e∈b.take c,mH e<=6)/\Ext w wr) (λl _=>((i:Int) - intOf l).toNat)
 case atStart=>exact ⟨0,zl,rfl,a8 (λe he=>by simp at he),rE⟩
 case round=>
  obtain⟨c,J,rfl,hS,hE0⟩:=hrel;rcases aI J with m |m
  .subst m;have K:¬((c:Int)<c):=om;have n:∀e∈b,mH e<=6:=by have:=hS.out;rwa [j.out,bN]at this
   have u:oU b=(decide (30<c) || decide (18<lQ b)):=by
    rw[EH n,<-j.out]
   have v:=a8 u;have L:=a8 n;clear u n;by_cases x:30<c
   .have M:(30:Int)<(c:Int):=om;have HR:Hid (oU b=true):=a8 (by rw[v.out,decide_eq_true x];rfl);exact Dp3
   .have M:¬(30:Int)<(c:Int):=om;have HR:Hid (oU b=decide (18<lQ b)):=a8 (by rw[v.out,decide_eq_false x];rfl);go_wp2_with fail;refine(tO _ b wr (H.out.ext hE0) (by rw[<-j.out];omega) L.out).mono ?_;rintro e N ⟨rfl,e2⟩;obtain⟨d,h⟩:=ex (lQ b);rw[<-h]at HR ⊢;clear h;by_cases y:18<d
    .have z:(18:Int)<(d:Int):=om;have HR2:Hid (oU b=true):=a8 (by rw[HR.out,decide_eq_true y]);exact MI8
    .have z:¬(18:Int)<(d:Int):=om;have S:decide ((18:Int)<(d:Int))=false:=decide_eq_false z;have HR2:Hid (oU b=false):=a8 (by rw[HR.out,decide_eq_false y]);exact MI8
  .have K:(c:Int)<i:=om;obtain⟨⟨A,xs,xt⟩,p⟩:∃O,b[c]? =some O:=⟨_,aA (by rw[<-j.out];exact m)⟩;obtain⟨g,_,rfl,_,_,_,_,_,_,_, -, -,B⟩:=I.out c _ p;obtain⟨_,_,_,C⟩:=B wr hE0;have D:=a8 C;have HX:=a8 p;obtain⟨d,h⟩:=ex (xs.length+xt.length);have HP:=a8 h;obtain⟨i1,E⟩:=ex (c+1);have T:(c:Int)+1=(i1:Int):=om;have hi1n:i1<=i:=om;have HI1:=a8 E;clear B p C h E;go_wp2_with fail;refine(oO _ A xs xt wr D.out.1 D.out.2.2.2).mono ?_;rintro e N ⟨rfl,e2⟩;rw[<-HP.out];by_cases Q:6<d
   .have R:(6:Int)<(d:Int):=om;have HR:Hid (oU b=true):=a8 (CN (i:=c) (e:=(A,xs,xt)) HX.out (by show 6<xs.length+xt.length;rw[<-HP.out];exact Q));go_wp2;go_ret;exact⟨by rw[HR.out]<;>rfl,hE0.trans e2⟩
   .have R:¬(6:Int)<(d:Int):=om;have hs:∀e∈b.take i1,mH e<=6:=Aj3;exact QJ2
def gaN(xs:List Rat)(i:Nat):List (Int×Rat):=(List.range i).map λ(j:Nat)=>((j:Int),xs.getD j 0)
theorem XJ{b:Nat}(c:z[b]? =some l):gaN z (b+1)=gaN z b++ [((b:Int),l)]:=by
 unfold gaN;rw[gV,bY,List.map_singleton,aO,c];rfl
theorem yI(c:List Rat)(b:Nat):(gaN c b).length=b:=by unfold gaN;simp
def GaJ(w wr:World)(k i:Nat)(xs:List Rat)(lv:Value)(vs:List Value):Prop:=Ext w wr/\LS 67 4 w wr lv vs/\vs.length=i/\∃ps:Ps,vs=(tsP ps).map tmv/\lP ps=gaN xs i/\∀p∈ps,IsR w (xP p.1) p.2 k
theorem GaJ.tl{w wr:World}{k b:Nat}{c:List Rat}{d:Value}{e:List Value}(h:GaJ w wr k b c d e):TL k wr d (gaN c b):=by
 obtain⟨i,j,_,ps,rfl,l,m⟩:=h;rw[<-l];exact LS.tl j λn p=>(m n p).ext i
theorem GaJ.app{w wr:World}{b:Nat}(i:GaJ w wr F b z O v)(k:Ext w j)(n:LS 67 4 w j e (v++ [.agg #[b,x,(p,d,h),(A,m,C)]]))(q:z[b]? =some l)(r:IsR w (.agg #[x,(p,d,h),(A,m,C)]) l F):GaJ w j F (b+1) z e (v++ [.agg #[b,x,(p,d,h),(A,m,C)]]):=by
 obtain⟨_,_,s,u,rfl,y,B⟩:=i;refine⟨k,n,by rw[aB,s];rfl,u++ [(⟨b,x,p,d,h,A,m,C⟩,l)],?_,?_,λD c=> ?_⟩
 .rw[vR,bY];rfl
 .rw[FN,y,XJ q]
 .rcases aW.1 c with c |c
  .exact B D c
  .rw[aC]at c;subst c;exact r
theorem M9(h:Nat)(E:Value)(c:List Rat)(w:World)(e:QL h w E c)(F:c.length<=1073741824)(m:(c.length+1)*(h+1)<=34359738000):
  Calls prog 69 #[E] w λH I=>∃J,H= .returned J/\TO w (c.length*(h+1)) I J (mkV (gaN c c.length))/\Ext w I:=by
 obtain⟨_,n,_,p,rfl,_,K⟩:=e.at;rw[<-p]at F m ⊢;have Q:=a8 p;have R:=a8 K;have S:=a8 m;clear p e K m;go_enter func69,ntmps69;go_wp2_with fail;go_loopw [3,8] (λT q wr=>∃(b:Nat) (vs:List Value) (i:Option Addr) (j:Nat),b<=n/\q= .int .i64 (b:Int)/\T= .slice i b j/\Hid (GaJ w wr h b c (i,b,j) vs)) (λ_ q _=>((n:Int) - intOf q).toNat)
 case atStart=>exact ⟨0,[],none,0,zl,rfl,rfl,a8 ⟨rE,LS.nil _ _ _ _,rfl,[],rfl,rfl,λ_ U=>by cases U⟩⟩
 case round=>
  obtain⟨b,vs,i,j,V,rfl,rfl,hH⟩:=hrel;have d:=hH.out.1;rcases aI V with r |r
  .subst r;have X:¬((b:Int)<b):=om;have Y:=a8 hH.out.tl;go_wp2_with fail;refine(nF h _ _ wr Y.out (by rw[yI];exact F) (by rw[yI];exact S.out)).mono ?_;rw[yI];rintro H _ ⟨_,rfl,t2,Z⟩;have a0:=a8 (t2.mono d.size);clear t2;go_wp2;go_ret;exact⟨_,rfl,a0.out,d.trans Z⟩
  .have X:(b:Int)<n:=om;obtain⟨s,e⟩:∃s,c[b]? =some s:=⟨_,aA (by rw[<-Q.out];exact r)⟩;obtain⟨g,_,rfl,u,v,x,y,z,A,B,k,L⟩:=R.out b s e;have a1:=k wr d 0 _ rfl;have:=k wr d 1 _ rfl;have:=k wr d 2 _ rfl;simp only[bZ]at a1;have HX:=a8 (aD e L);have a2:vs.length=b:=hH.out.2.2.1;subst a2;have:=d.size;obtain⟨C,D,M,a3,a4⟩:=kR wr #[u,(v,x,y),(z,A,B)] 37;obtain⟨a5,a6,a7,-⟩:=a3.cl [0,1,2];have N:Hid (LS 67 4 w C (i,vs.length,j) vs):=a8 (hH.out.2.1.ext M);rw[D]at a5 a6 a7;have l:=a8 D;clear k e L D;have a9:C.heap.size=wr.heap.size+1:=a4;go_wp2_with (first
    | (at_builtin;go_loud (refine nR rfl _ _ 32 rfl 67 4 64 w underlying32 kr kr om _ vs rfl (by rw[<-l.out];exact N.out.ext (rE.alloc _)) ⟨wr.heap.size+1,0,none⟩ #[vs.length,u,(v,x,y),(z,A,B)] rfl rfl (by rw[<-l.out,<-a9];exact vP _ _ _) kr om om (by rw[nD,<-l.out];omega) ?_);intro g' cap2' b0 hls7 O _ _)
    |fail)
   go_roundw
   case rel=>
    rw[<-l.out]at O;have b1:=(Ext.refl C).alloc (.cells #[vs.length,u,(v,x,y),(z,A,B)] 67);have hE7:Ext w b0:=((d.trans M).trans b1).stepG O N.out.ge;exact cB0
   case measure=>simp [intOf];omega
def uP(l:List (Int×Rat))(n:Int):Bool:=(decide (0<=n)&&decide (n<=65536))&&(mkV l).all (λx=>decide (x.1<n))
def scL(l:List (Int×Rat))(n:Nat):List Rat:=(List.range n).map λ(c:Nat)=>getV l (c:Int)
theorem UA(c:List (Int×Rat))(b:Nat):(scL c b).length=b:=by unfold scL;simp
theorem U9(c:List (Int×Rat)){b:Nat}(e:b<d):(scL c d)[b]? =some (getV c (b:Int)):=by
 unfold scL;rw[aX,List.getElem?_range e];rfl
theorem ah8(b:Up (i++ [(n,l)]))(c:Int):getV (i++ [(n,l)]) c=if n=c then l else getV i c:=by
 have e:0<=n:=b.2 (n,l) sm;rw[rW];by_cases d:n=c
 .subst d;rw[if_pos rfl,if_pos ⟨rfl,e⟩,tT λh j _=> ?_,gF];have:=(eI.1 b.1).2.2 h j (n,l) (aC.2 rfl);simp only at this;omega
 .rw[if_neg d,if_neg λb=>d b.1,dY]
theorem Up.take(b:Up i)(c:Nat):Up (i.take c):=⟨b.1.sublist (List.take_sublist c i),λd e=>b.2 d (fU e)⟩
def K8:Value:= .agg #[false,(),()]
theorem ZT:∃i,prog.info? 37=some i/\i.size=3/\i.bytes=56/\i.zero=some K8:=by
 have h:(prog.info? 37).map (λi=>(i.size,i.bytes,i.zero))=some (3,56,some K8):=kr
 cases hi:prog.info? 37 with
 |none=>rw [hi]at h;cases h
 |some i=>
  rw[hi]at h;simp only[Option.map_some,Option.some.injEq,Prod.mk.injEq]at h;exact⟨i,rfl,h.1,h.2.1,h.2.2⟩
theorem AO(b:Nat):pW 3 (List.replicate b K8):=λ_ c=>by
 obtain⟨-,rfl⟩:=jW.1 c;exact⟨_,rfl,rfl,yA rfl rfl rfl⟩
theorem VT(c:Nat):(madeCells #[false,(),()] (c*3)).toList=kX (List.replicate c K8):=by
 have i:=mU (AO c).size;rw[bW]at i;apply fT;intro b;rcases dH b (c*3)with d |d
 .have j:b / 3<c:=cS om;have k:b % 3<3:=cH _ om;have l:(List.replicate c K8)[b / 3]? =some (.agg #[false,(),()]):=by
   rw[fY,if_pos j];rfl
  have h:=xL (n:=3) om (AO c).size l (b % 3) k;have m:b / 3*3+b % 3=b:=om;rw[m]at h;rw[h,dX];unfold madeCells;rw[Array.getElem?_map,Array.getElem?_range,if_pos d];have:b % 3=0∨b % 3=1∨b % 3=2:=om;rcases this with e |e |e<;>simp [e]
 .rw[cM (by rw[cJ,size_madeCells];exact d),cM om]
theorem VU(b:Nat)(l:b<=65536):∃c:Array Value,c=(kX (List.replicate b K8)).toArray/\∀w:World,(Instr.makeSlice 41 b b).run prog w= .ok (w,b,b) (w.alloc (.cells c 37)):=by
 obtain⟨e,h,i,j,k⟩:=ZT;refine⟨_,rfl,λw=> ?_⟩;have d:=run_make (P:=prog) w 41 37 e K8 underlying41 h k .i64 .i64 b b om (iP _) (by rw[j];omega) om;simp only[dS]at d;rw[d,i,show K8.cells=#[.bool false,.slice none 0 0,.slice none 0 0]from rfl,<-VT]
theorem ai9(d e h:Value)(b:Nat)(c:List Value)(i:b+3<=c.length):(((c.toArray.setIfInBounds b d).setIfInBounds (b+1) e).setIfInBounds (b+2) h).toList=pR c b [d,e,h]:=by
 rw[<-set3 d e h b c i];simp
theorem VN{w:World}{g e:Nat}{h:List Value}{b c d:Value}(l:Bx 37 w g (kX h).toArray)(i:pW 3 h)(m:e<h.length):Bx 37 (((w.setCell (g,e*3) b).setCell (g,e*3+1) c).setCell (g,e*3+2) d) g (kX (h.set e (.agg #[b,c,d]))).toArray:=by
 have j:=((l.set (e*3) b).set (e*3+1) c).set (e*3+2) d;have n:=mU i.size;have p:=ai9 b c d (e*3) (kX h) (by rw[n];omega);have k:=yK (rest:=[]) (v:= .agg #[b,c,d]) i.size m rfl;rw[cF,cF]at k;have q:(((kX h).toArray.setIfInBounds (e*3) b).setIfInBounds (e*3+1) c).setIfInBounds (e*3+2) d=(kX (h.set e (.agg #[b,c,d]))).toArray:=by
  apply Array.ext';rw[p,List.toList_toArray,<-k];rfl
 rw[q]at j;exact j
def FrK(B k:Nat)(w:World)(v:Value)(q:Rat):Prop:=FrQ B w v q/\szQ q<=k
def ScJ(w wr:World)(g K N:Nat)(q:Nat->Option Rat):Prop:=Ext w wr/\∃vs,Bx 37 wr g (kX vs).toArray/\pW 3 vs/\vs.length=N/\∀(j:Nat) (u:Value) (x:Rat),vs[j]? =some u->q j=some x->FrK w K wr u x
theorem ScJ.set{w wr d:World}{g h u b:Nat}{z A:Nat->Option Rat}{l:Bool}{m n:Option Addr}{p q r s:Nat}{B:Rat}(K:ScJ w wr g h u z)(v:Ext wr d)(L:w.heap.size<=g)(C:b<u)(M:FrK w h d (.agg #[l,(m,p,q),(n,r,s)]) B)(N:∀c,A c=if c=b then some B else z c):ScJ w (((d.setCell (g,b*3) l).setCell (g,b*3+1) (m,p,q)).setCell (g,b*3+2) (n,r,s)) g h u A:=by
 obtain⟨O,_,Q,D,x,R⟩:=K;have E:=Q.ext v;have F:=VN (b:= .bool l) (c:= .slice m p q) (d:= .slice n r s) E D (by rw[x];exact C);have H:Chg g d (((d.setCell (g,b*3) l).setCell (g,b*3+1) (m,p,q)).setCell (g,b*3+2) (n,r,s)):=(Chg.trans (Chg.trans (Chg.setCell _ g _ _) (Chg.setCell _ g _ _)) (Chg.setCell _ g _ _));have I:∀i j,FrK w h d i j->FrK w h _ i j:=λi j J=>⟨J.1.chgN H E F de de,J.2⟩
 refine⟨(O.trans v).step H L,_,F,D.set (pW.one rfl (yA rfl rfl rfl)) b,by rw[cI];exact x,λc i j e k=> ?_⟩;rw[List.getElem?_set]at e;rw[N c]at k;by_cases y:b=c
 .subst y;rw[if_pos rfl]at e k;rw[if_pos (by rw[x];exact C)]at e
  cases e
  cases k
  exact I _ _ M
 .rw[if_neg y]at e;rw[if_neg (λS=>y S.symm)]at k;have:=R c i j e k;exact I _ _ ⟨this.1.ext v,this.2⟩
theorem TO.at{n p:Nat}{w:World}{q:Value}{d:List (Int×Rat)}(F:TO n p w q d):∃e k,q= .slice e d.length k/\d.length<=9223372036854775807/\∀(i:Nat) (c:Int×Rat),d[i]? =some c->∃g,e=some ⟨g,0,none⟩/\∃r s v x y z A,
  (∀b,Ext w b->b.cell? ⟨g,i*4,none⟩=some (.int .i64 c.1)/\b.cell? ⟨g,i*4+1,none⟩=some (.bool r)/\b.cell? ⟨g,i*4+2,none⟩=some (.slice s v x)/\b.cell? ⟨g,i*4+3,none⟩=some (.slice y z A))/\FrQ n w (.agg #[.bool r,.slice s v x,.slice y z A]) c.2/\szQ c.2<=p:=by
 obtain⟨H,I,B,J⟩:=F;obtain⟨e,k,l,K,_, -⟩:=B.opn;rw[aF,I]at l K;refine⟨e,k,l,om,λi c C=> ?_⟩;obtain⟨t,D⟩:∃t,H[i]? =some t:=⟨_,aA (by have:=(aH.1 C).1;omega)⟩;obtain⟨L,M,N⟩:=J i t c D C;obtain⟨O,_,m,_,_,E,_,_,h⟩:=B.at om (i:=i) (u:=tmv t) (by rw[aX,D];rfl);rw[l]at m;simp only[Value.slice.injEq]at m;unfold tmv at E
 cases E
 refine⟨O,m.1,t.b,t.a1,t.n1,t.c1,t.a2,t.n2,t.c2,λb j=>⟨?_,?_,?_,?_⟩,M,N⟩
 .rw[<-L];exact(h b j 0 _ rfl).1
 .exact(h b j 1 _ rfl).1
 .exact(h b j 2 _ rfl).1
 .exact(h b j 3 _ rfl).1
def scE:Bool->Int
 |true=>0
 |false=>2
def ScR(B K:Nat)(w:World)(v:Value)(l:List (Int×Rat))(n:Int):Prop:=(uP l n=true->OL 37 3 B (FrK B K) w v (scL l n.toNat))/\(uP l n=false->v=())
theorem YK(b:n<0):uP i n=false:=by
 unfold uP;rw[decide_eq_false om];rfl
theorem YJ(b:65536<n):uP i n=false:=by
 unfold uP;rw[show decide (n<=65536)=false from decide_eq_false om,gZ];rfl
theorem WC{l:List (Int×Rat)}{n c:Int}{e:Rat}(h:mkV l=i++ [(c,e)])(k:0<=n)(m:n<=65536):uP l n=decide (c<n):=by
 have j:=(tK l).1;rw[h]at j;unfold uP;rw[decide_eq_true k,decide_eq_true m,h];by_cases d:c<n
 .rw[decide_eq_true d];simp only[Bool.and_self,gS,cA,decide_eq_true_eq];intro p b;rcases aW.1 b with b |b
  .have:=(eI.1 j.1).2.2 p b (c,e) (aC.2 rfl);simp only at this;omega
  .rw[aC]at b;subst b;exact d
 .rw[decide_eq_false d];simp[d]
theorem YL(b:mkV i=[])(c:0<=n)(d:n<=65536):uP i n=true:=by
 unfold uP;rw[decide_eq_true c,decide_eq_true d,b];rfl
theorem szQ0:szQ ((0:Int):Rat)<=1:=by decide+kernel
theorem JO(D:Nat)(a2:Value)(k:Int)(l:List (Int×Rat))(w:World)(a3:TL D w a2 l)(a4:l.length<=1073741824)(a5:(l.length+1)*(D+1)<=34359738000)(c3:k<=300∨65536<k):
  Calls prog 181 #[a2,k] w λe a7=>∃a9,e= .returned (.tuple #[a9,(scE (uP l k):Int)])/\ScR w (l.length*(D+1)+1) a7 a9 l k/\Ext w a7:=by
 obtain⟨K,T⟩:=ex (l.length*(D+1)+1);rw[<-T];have HK:=a8 T;have c4:=a8 a3;have b0:=a8 (aD a4 a5);clear T a3 a4 a5;go_enter func181,ntmps181;go_wp2_with fail;refine(nF D _ l w c4.out b0.out.1 b0.out.2).mono ?_;rintro e b ⟨_,rfl,t2,e2⟩;obtain⟨c,H⟩:=ex (mkV l);rw[<-H]at t2;obtain⟨_,cap,rfl,c5,b1⟩:=t2.at;have b2:Up c:=by rw[H];exact(tK l).1
 obtain⟨q,hmn⟩:=ex c.length;rw[<-hmn]at c5 ⊢;have HM:=a8 H;have b3:=a8 b1;have b4:=a8 b2;clear H b1 t2 b2;by_cases c6:k<0
 .have hS:Hid (uP l k=false):=a8 (YK c6);exact lL5
 by_cases c7:65536<k
 .have hS:Hid (uP l k=false):=a8 (YJ c7);exact lL5
 obtain⟨N,rfl⟩:∃N:Nat,k=(N:Int):=⟨k.toNat,om⟩;have eE:N<=300:=om;obtain⟨I,b5,hmk⟩:=VU N om;have HCS:=a8 b5;clear b5 c3;rcases EP c with p |⟨c8,⟨b7,c9⟩,p⟩
 .have J:q=0:=by rw[hmn,p];rfl
  have hOK:Hid (uP l (N:Int)=true):=a8 (YL (by rw[<-HM.out];exact p) om om);have e0:Hid (0=c.length):=a8 (by rw[p];rfl);subst J;clear hmn p;have e1:(N:Int)<=300:=om;obtain⟨E,r⟩:=ex (b.alloc (.cells I 37));have s:Ext b E:=r▸rE.alloc _;have m:ScJ w E b K N (λj=>if j<0 then some 0 else none):=⟨e2.trans s,List.replicate N K8,by rw[<-HCS.out];exact r▸Bx.new b _ I,AO N,bW ..,λj u x _ h=>by simp at h⟩;have v:=a8 m;have U:=e2.size;go_wp2_with fail;rw[<-r];obtain⟨g7,F⟩:=ex b.heap.size;rw[<-F]at v U ⊢;have hgw:b.heap.size<=g7:=om;clear m r F;go_loopw [39] (λz wr=>∃i:Nat,i<=N/\z= .int .i64 (i:Int)/\Hid (ScJ w wr g7 K N (λj=>if j<i then some 0 else none))/\Ext b wr) (λz _=>((N:Int) - intOf z).toNat)
  case atStart=>exact ⟨0,zl,rfl,v,s⟩
  case round=>
   obtain⟨i,V,rfl,hH,hE0⟩:=hrel;clear v s;rcases aI V with hin |hin
   .subst hin;have hlt:¬((i:Int)<i):=om;have m:Hid (ScJ w wr g7 K i (λj=>if j<i then some (getV (c.take 0) (j:Int))else none)):=a8 (by
     have:=hH.out;rw[show (λj:Nat=>if j<i then some (getV (c.take 0) (j:Int))else none)=(λj=>if j<i then some 0 else none)from funext λj=>by rw[g8,sJ]];exact this)
    clear hH;go_wp2_with fail;go_loopw [49] (λA wr=>∃t:Nat,t<=0/\A= .int .i64 (t:Int)/\Hid (ScJ w wr g7 K i (λj=>if j<i then some (getV (c.take t) (j:Int))else none))/\Ext b wr) (λA _=>((0:Int) - intOf A).toNat)
    case atStart=>exact ⟨0,zl,rfl,m,hE0⟩
    case round=>
     obtain⟨t,X,rfl,hH,hE1⟩:=hrel;clear m hE0;rcases aI X with C |C
     .have htm:c.take t=c:=by rw[C,e0.out,bN]
      have hR:ScR w K wr (g7,i,i) l (i:Int):=YB3;have HR:=a8 hR;have HEE:=a8 (e2.trans hE1);have b8:¬((t:Int)<(0:Int)):=om;exact VG2
     .exact absurd C (Nat.not_lt_zero _)
   .exact kE0
 .obtain⟨L,M⟩:=ex c8.length;have e3:q=L+1:=by rw[hmn,p,aB,M];rfl
  have eG:(q:Int) - 1=(L:Int):=om;have eN:(0:Int)<(q:Int):=om;have fA:L<q:=om;obtain⟨_,rfl,_,_,_,_,_,_,_,Y, -, -⟩:=b3.out L (b7,c9) (by rw[p,cB om,M];simp);obtain⟨e4, -, -, -⟩:=Y b rE;have O:=WC (l:=l) (n:=(N:Int)) (by rw[<-HM.out];exact p) om om;have b9:=a8 hmn;simp only at e4;by_cases fB:(N:Int)<=b7
  .have hS:Hid (uP l (N:Int)=false):=a8 (by rw[O];exact decide_eq_false om);clear O p M hmn Y;go_wp2;go_ret2;exact⟨_,by rw[hS.out]<;>rfl,⟨λh=>(by rw[hS.out]at h;cases h),λ_=>rfl⟩,e2⟩
  .have hOK:Hid (uP l (N:Int)=true):=a8 (by rw[O];exact decide_eq_true om);clear O p M hmn Y e3;have e1:(N:Int)<=300:=om;obtain⟨E,r⟩:=ex (b.alloc (.cells I 37));have s:Ext b E:=r▸rE.alloc _;have m:ScJ w E b K N (λj=>if j<0 then some 0 else none):=⟨e2.trans s,List.replicate N K8,by rw[<-HCS.out];exact r▸Bx.new b _ I,AO N,bW ..,λj u x _ h=>by simp at h⟩;have v:=a8 m;have U:=e2.size;go_wp2_with fail;rw[<-r];obtain⟨g7,F⟩:=ex b.heap.size;rw[<-F]at v U ⊢;have hgw:b.heap.size<=g7:=om;clear m r F;go_loopw [39] (λz wr=>∃i:Nat,i<=N/\z= .int .i64 (i:Int)/\Hid (ScJ w wr g7 K N (λj=>if j<i then some 0 else none))/\Ext b wr) (λz _=>((N:Int) - intOf z).toNat)
   case atStart=>exact ⟨0,zl,rfl,v,s⟩
   case round=>
    obtain⟨i,V,rfl,hH,hE0⟩:=hrel;clear v s;rcases aI V with hin |hin
    .subst hin;have hlt:¬((i:Int)<i):=om;have m:Hid (ScJ w wr g7 K i (λj=>if j<i then some (getV (c.take 0) (j:Int))else none)):=a8 (by
      have:=hH.out;rw[show (λj:Nat=>if j<i then some (getV (c.take 0) (j:Int))else none)=(λj=>if j<i then some 0 else none)from funext λj=>by rw[g8,sJ]];exact this)
     clear hH;go_wp2_with fail;go_loopw [49] (λA wr=>∃t:Nat,t<=q/\A= .int .i64 (t:Int)/\Hid (ScJ w wr g7 K i (λj=>if j<i then some (getV (c.take t) (j:Int))else none))/\Ext b wr) (λA _=>((q:Int) - intOf A).toNat)
     case atStart=>exact ⟨0,zl,rfl,m,hE0⟩
     case round=>
      obtain⟨t,X,rfl,hH,hE1⟩:=hrel;clear m hE0;rcases aI X with C |C
      .have htm:c.take t=c:=by rw[C,b9.out,bN]
       have hR:ScR w K wr (g7,i,i) l (i:Int):=YB3;have HR:=a8 hR;have HEE:=a8 (e2.trans hE1);have b8:¬((t:Int)<q):=om;exact VG2
      .have b8:(t:Int)<q:=om;obtain⟨⟨Z,bA⟩,hx⟩:∃x,c[t]? =some x:=⟨_,aA (by rw[<-b9.out];exact C)⟩;obtain⟨g,bB,bC,bD,bE,bG,bO,bP,bR,bS,a0,J⟩:=b3.out t _ hx;simp only[Option.some.injEq,Addr.mk.injEq]at bB;obtain⟨rfl, -⟩:=bB;obtain⟨e5,_,_,_⟩:=bS wr hE1;have a1:=aM hx;have e7:=b4.out.2 _ a1;have fC:Z<(i:Int):=by
        have:=hOK.out;unfold uP at this;simp only[aU,cA,decide_eq_true_eq]at this;exact this.2 _ (by rw[<-HM.out];exact a1)
       simp only at e7 e5 a0 J;obtain⟨d,rfl⟩:∃d:Nat,Z=(d:Int):=⟨Z.toNat,om⟩;have bT:d<i:=om;have c0:=mP hx;have hqq:Hid (∀j:Nat,(if j<i then some (getV (c.take (t+1)) (j:Int))else none)=if j=d then some bA else(if j<i then some (getV (c.take t) (j:Int))else none)):=a8 λj=>by
        have c1:=b4.out.take (t+1);rw[c0]at c1 ⊢;rw[ah8 c1];by_cases hj:j=d
        .subst hj;rw[if_pos bT,if_pos rfl,if_pos rfl]
        .rw[if_neg hj,if_neg (show¬(d:Int)=j by omega)]
       obtain⟨Q,R,S,c2,e8⟩:=kR wr #[d,bC,(bD,bE,bG),(bO,bP,bR)] 67;obtain⟨e9,eA,eB,eC,-⟩:=c2.cl [0,1,2,3];rw[R]at e9 eA eB eC;have hF:Hid (FrK w K Q (.agg #[bC,(bD,bE,bG),(bO,bP,bR)]) bA):=a8 ⟨a0.ext (hE1.trans S),by have:=HK.out;omega⟩;obtain⟨-,vs,j1,j2,j3, -⟩:=hH.out;have hsz:(kX vs).toArray.size=i*3:=by rw[fV,mU j2.size,j3]
       have hb5:=j1.ext S;obtain⟨y0,hk0⟩:∃y,Q.cell? (g7,d*3)=some y:=⟨_,by rw[hb5.cell];exact cV om⟩;obtain⟨y1,hk1⟩:∃y,Q.cell? (g7,d*3+1)=some y:=⟨_,by rw[hb5.cell];exact cV om⟩;obtain⟨y2,hk2⟩:∃y,Q.cell? (g7,d*3+2)=some y:=⟨_,by rw[hb5.cell];exact cV om⟩;have hf0:=hb5.free (d*3);have hf1:=hb5.free (d*3+1);have hf2:=hb5.free (d*3+2);rw[R]at hk0 hk1 hk2 hf0 hf1 hf2;have eD:=a8 R;clear hx bS a0 J a1 c0 j1 j2 j3 hb5 R c2 e8 hsz;go_wp2;go_roundw
       case rel=>
        rw[<-eD.out];refine⟨t+1,om,sm,a8 (hH.out.set S om bT hF.out hqq.out),?_⟩;exact(hE1.trans S).step (Chg.trans (Chg.trans (Chg.setCell _ g7 _ _) (Chg.setCell _ g7 _ _)) (Chg.setCell _ g7 _ _)) hgw
       case measure=>simp [intOf];omega
    .exact kE0
def sumN(f:Nat->Rat):Nat->Rat
 |0=>0
 |n+1=>sumN f n+f n
theorem WJ:∀b,sumN (λ_=>0) b=0
 |0=>rfl
 |b+1=>by unfold sumN;rw[WJ b,dY]
def rF(ys:List Rat)(rows:List (List (Int×Rat)))(i:Nat):List (Int×Rat):=(List.range i).flatMap λj=>scV (ys.getD j 0) (rows.getD j [])
theorem KE(b:List Rat)(c:List (List (Int×Rat))):rF b c 0=[]:=rfl
theorem KD(b:z[d]? =some l)(c:R[d]? =some i):rF z R (d+1)=rF z R d++scV l i:=by
 unfold rF;rw[gV,fI];simp[List.getD,b,c]
theorem NQ(c:List Rat)(d:List (List (Int×Rat)))(e:Int):∀b,getV (rF c d b) e=sumN (λh=>c.getD h 0*getV (d.getD h []) e) b
 |0=>by rw[KE,sJ];rfl
 |b+1=>by
  have:rF c d (b+1)=rF c d b++scV (c.getD b 0) (d.getD b []):=by
   unfold rF;rw[gV,fI];simp
  rw[this,sS,NQ c d e b,MV];rfl
theorem XK{p:y->Prop}{b:List y}{d:y}(h:∀c∈b,p c)(i:p d)(e:Nat):p (b.getD e d):=by
 rw[aO]
 cases j:b[e]? with
 |none=>exact i
 |some c=>exact h c (aM j)
theorem G9{ys:List Rat}{rows:List (List (Int×Rat))}{N:Nat}(d:∀c∈rows,c.length<=N):∀b,(rF ys rows b).length<=b*N
 |0=>by simp[KE]
 |b+1=>by
  have e:rF ys rows (b+1)=rF ys rows b++scV (ys.getD b 0) (rows.getD b []):=by
   unfold rF;rw[gV,fI];simp
  have:=G9 (ys:=ys) d b;have:(rows.getD b []).length<=N:=XK (p:=λ(c:List (Int×Rat))=>c.length<=N) d sm b;rw[e,aB,dT];unfold scV;rw[aF];omega
theorem TO.val{w:World}(k:TO d h w e i):∃b c,e= .slice b i.length c:=by
 obtain⟨_,l,m, -⟩:=k;obtain⟨b,c,j, -⟩:=m.opn;rw[aF,l]at j;exact⟨b,c,j⟩
theorem TL.le{w:World}(b:TL d w e i)(c:d<=h):TL h w e i:=
 SL.map b λ_ y ⟨k,l,m,n,p,q,r,s,u⟩=>⟨k,l,m,n,p,q,r,s,u.mono c⟩
theorem TO.to{w:World}(n:TO d m w e i)(p:∀b∈i,szQ b.2<=h):TO d h w e i:=by
 obtain⟨q,r,s,j⟩:=n;exact⟨q,r,s,λk t b l c=>⟨(j k t b l c).1,(j k t b l c).2.1,p b (aM c)⟩⟩
def sY(l:List TE):List (Int×Rat):=l.map λe=>(e.1,pX e.2)
def OV{α:Type}(t:TypeId)(B:Nat)(R:World->Value->α->Prop)(w:World)(v:Value)(ys:List α):Prop:=∃vs,w.ownsRow B t 1 v vs.length vs/\vs.length=ys.length/\∀(i:Nat) (u:Value) (y:α),vs[i]? =some u->ys[i]? =some y->R w u y
theorem OV.ext{t:TypeId}{R:World->Value->y->Prop}{w:World}{h:List y}(i:OV t d R w e h)(k:Ext w j)(l:∀b c,R w b c->R j b c):OV t d R j e h:=by
 obtain⟨m,n,p,q⟩:=i;exact⟨m,lL n k,p,λr b c a s=>l b c (q r b c a s)⟩
theorem B8{b size:Nat}{w:World}(h:w.ownsRow d m size e C v)(hB:b<=d):w.ownsRow b m size e C v:=by
 exact Ks0
theorem OV.mono{t:TypeId}{j k:World->Value->y->Prop}{w:World}{i:List y}(m:OV t d j w e i)(n:h<=d)(p:∀c b,b∈i->j w c b->k w c b):OV t h k w e i:=by
 obtain⟨q,r,s,u⟩:=m;exact⟨q,B8 r n,s,λv c b a l=>p c b (aM l) (u v c b a l)⟩
theorem BQ{b size:Nat}{w:World}(h:w.ownsRow d b size e m v):∀g,e.ownBlock=some g->d<=g:=by
 exact BB0
theorem OV.app{t:TypeId}{m:World->Value->y->Prop}{w:World}{p:List y}{b:Value}{c:y}(r:v.length=p.length)(s:∀(k:Nat) (b:Value) (c:y),v[k]? =some b->p[k]? =some c->m w b c)(u:h=v.length)(x:j.ownsRow d t 1 e (h+1) (v++ [b]))(z:∀b c,m w b c->m j b c)(A:m j b c):OV t d m j e (p++ [c]):=by
 subst u;refine⟨v++ [b],by rw[aB];exact x,by rw[aB,aB,r];rfl,λk a B i l=> ?_⟩;rcases dH k v.length with q |q
 .rw[bM q]at i;rw[bM om]at l;exact z _ _ (s k a B i l)
 .rw[cB q]at i;rw[cB om]at l;rw[<-r]at l;have n:k - v.length=0:=by
   rcases aR (k - v.length)with n |n
   .exact n
   .rw[cM (by simp;omega)]at i
    cases i
  rw[n]at i l;simp only[bL,Option.some.injEq]at i l;subst i l;exact A
theorem OV.opn{t:TypeId}{p:World->Value->y->Prop}{w:World}{h:List y}(u:OV t d p w e h):∃q c,e= .slice q h.length c/\h.length<=c/\c<=9223372036854775807/\∀(b:Nat) (i:y),h[b]? =some i->∃g,q=some ⟨g,0,none⟩/\d<=g/\∃r,(∀j,Ext w j->j.cell? ⟨g,b,none⟩=some r)/\p w r i:=by
 obtain⟨v,x,s,z⟩:=u;rcases x.2 with⟨l,m⟩ |⟨g,c,A,l,m,B,_,C,_,D⟩
 .refine⟨none,0,by rw[l,<-s,m],om,om,λb _ k=> ?_⟩;have:=(aH.1 k).1;omega
 .refine⟨_,c,by rw[l,s],om,by unfold maxLen at C;omega,λb i k=> ?_⟩;have:=(aH.1 k).1;refine⟨g,rfl,m,v[b],λj E=> ?_,z b _ i (aA om) k⟩;have F:Bx t j g A:=E.blk B;rw[F.cell b];have n:=congrArg (λH=>H[b]?) D;simp only[dG]at n;rw[eS,if_pos om,dX]at n;rw[n];exact aA om
theorem OV.sv{d:Type}{t:TypeId}{h:World->Value->d->Prop}{w:World}{b:List d}(i:OV t B h w e b):SV h w e b:=by
 obtain⟨j,k,l,m,n,c⟩:=i.opn;refine⟨j,k,l,m,n,?_⟩;match b,c with
 | [],_=>exact .inl rfl
 |y::b,c=>
  obtain⟨g,rfl, -⟩:=c 0 y rfl;refine .inr ⟨g,0,rfl,λp q r=> ?_⟩;obtain⟨_,s, -,u,v,x⟩:=c p q r
  cases s
  exact⟨u,by rw[aY];exact v w (Ext.refl w),x⟩
theorem TO.chgB{h i g:Nat}{w j:World}{k:Value}{l:List (Int×Rat)}{t:TypeId}{p:Array Value}(q:TO h i w k l)(m:Chg g w j)(n:Bx t w g p)(r:t≠165)(s:t≠67):TO h i j k l:=by
 obtain⟨u,v,x,b⟩:=q;exact⟨u,v,x.chgT m n s,λc t d a e=>⟨(b c t d a e).1,(b c t d a e).2.1.chgB m n r,(b c t d a e).2.2⟩⟩
theorem Up.mem_get(d:Up i):∀b∈i,getV i b.1=b.2:=by
 induction i with
 |nil=>intro b c;cases c
 |cons h i e=>
  intro b c;rw[d.getV_cons];rcases aS.1 c with rfl |c
  .rw[if_pos rfl]
  .rw[if_neg (by have:=d.tail.2.2 b c;omega)];exact e d.tail.1 b c
theorem aj1(c:∀b∈i,szQ b.2<=d):∀b∈mkV i,szQ b.2<=i.length*(d+1)+1:=by
 intro b e;rw[<-(tK i).1.mem_get b e,sM];exact YV c _
theorem aj0(c:∀b∈i,szQ b.2<=d)(e:i.length<=h)(k:h*(d+1)+1<=m):∀b∈mkV i,szQ b.2<=m:=λb j=>by
 have:=aj1 c b j;have:i.length*(d+1)<=h*(d+1):=aJ _ e;omega
theorem ab6{a:Rat}(e:szQ a<=d)(j:∀b∈i,szQ b.2<=h):∀b∈scV a i,szQ b.2<=d+h:=by
 intro b c;unfold scV at c;obtain⟨k,l,rfl⟩:=bJ.1 c;exact N4 e (j k l)
theorem WY(i:∀j∈z,szQ j<=h)(k:∀l∈R,∀b∈l,szQ b.2<=m)(r:d<=z.length)(s:d<=R.length):∀b∈rF z R d,szQ b.2<=h+m:=by
 intro b c;unfold rF at c;obtain⟨e,n,c⟩:=dL.1 c;have:=gO.1 n;have p:z.getD e 0=z[e]'(by omega):=by rw[aO,aA om];rfl
 have q:R.getD e []=R[e]'(by omega):=by rw[aO,aA om];rfl
 rw[p,q]at c;exact ab6 (i _ (dC _)) (k _ (dC _)) b c
theorem TO.nil0(b c:Nat)(w:World):TO b c w () []:=⟨[],rfl,LS.nil _ _ _ _,λ_ t _ d=>by simp at d⟩
theorem aa4(b c:List (Int×Rat)):mkV (mkV b++c)=mkV (b++c):=AJ λ_=>by rw[sS,sS,sM]
def UY:List (List TE)->Nat
 | []=>0
 |l::ms=>lQ (l.map Prod.snd)+UY ms
def XM(ms:List (List TE)):Bool:=ms.any nU || (decide (12<ms.length) || decide (18<UY ms))
theorem af4{c:List (List TE)}(d:XM c=false):c.length<=12/\∀b∈c,b.length<=30/\∀e∈b,mH e.2<=6:=by
 unfold XM at d;simp only[eH,fS,decide_eq_false_iff_not]at d;refine⟨om,λb i=> ?_⟩;have j:nU b=false:=by simpa using d.1 b i
 obtain⟨h,k⟩:=tU j;rw[aF]at h;exact⟨h,λe l=>k e.2 (iD l)⟩
theorem SO{l:List RE}(b:oU l=false):lQ l<=18:=by
 unfold oU at b;simp only[eH,decide_eq_false_iff_not]at b;omega
abbrev CR:=Int×List (Int×Rat)×Rat
def qR(s:Int):Bool:=decide (1<=s/\s<=3)
def rN(s:Int)(a r:Rat):Bool:=decide ((s=1/\a<=r)∨(s=2/\r<=a)∨(s=3/\a=r))
def mW(c:CR):CR:=(c.1,mkV c.2.1,c.2.2)
def T8(c:CR):Bool:=(mkV c.2.1).isEmpty
def GJ(c:CR):Bool:=qR c.1&&(T8 c&& !rN c.1 0 c.2.2)
def wK(a b:CR):Bool:=decide (mkV a.2.1=mkV b.2.1)
def vX(a b:CR):Bool:=(qR a.1&&qR b.1)&&(GJ a || (T8 b&&rN b.1 0 b.2.2) || (wK a b&&decide (a.1=b.1∨a.1=3)&&rN b.1 a.2.2 b.2.2))
def isW(x:Rat):Bool:=decide (x=(x.floor:Rat))
def sG(ts:List (Int×Rat))(bs:List Bool):Bool:=ts.all λt=>decide (t.1<(bs.length:Int))&&(bs.getD t.1.toNat false&&isW t.2)
def rR(c:CR)(bs:List Bool):Int:=if qR c.1 then(if sG (mkV c.2.1) bs then 0 else 241)else 2
def n7(c:CR):CR:=if c.1=1 then(1,mkV c.2.1,(c.2.2.floor:Rat))else if c.1=2 then(2,mkV c.2.1,(c.2.2.ceil:Rat))else if isW c.2.2 then mW c else(2,[],((1:Int):Rat))
def wR(a b:CR)(bs:List Bool):Bool:=wK a b&&(sG (mkV a.2.1) bs&&(isW a.2.2&&decide (b.2.2=a.2.2+((1:Int):Rat))))
def yS(a b:CR)(bs:List Bool):Bool:=if a.1=1/\b.1=2 then wR a b bs else if a.1=2/\b.1=1 then wR b a bs else false
def LB(s:Int)(q:Rat)(c:CR):Bool:=decide (q=0∨c.1=3∨(s≠3/\((c.1=s/\0<q)∨(c.1≠s/\q<0))))
def crD:CR:=(0,[],0)
def uN(s:Int)(qs:List Rat)(cs:List CR):Nat->Bool
 |0=>true
 |i+1=>uN s qs cs i&&LB s (qs.getD i 0) (cs.getD i crD)
def rK(cs:List CR)(qs:List Rat)(s:Int):Int:=if qR s&&decide (cs.length=qs.length)&&cs.all λc=>qR c.1 then(if uN s qs cs cs.length then 0 else 241)else 2
def nH(cs:List CR):List (List (Int×Rat)):=cs.map λc=>c.2.1
def vY(qs:List Rat)(cs:List CR)(i:Nat):Rat:=sumN (λj=>qs.getD j 0*(cs.getD j crD).2.2) i
def oD(cs:List CR)(qs:List Rat)(s:Int):CR:=(s,mkV (rF qs (nH cs) cs.length),vY qs cs cs.length)
theorem PJ{s:Int}:qR s=true↔1<=s/\s<=3:=by unfold qR;exact decide_eq_true_iff
variable{q:CR}
theorem VS{a b:CR}:wK a b=true↔mkV a.2.1=mkV b.2.1:=by unfold wK;exact decide_eq_true_iff
theorem LC:LB n l q=true↔l=0∨q.1=3∨(n≠3/\((q.1=n/\0<l)∨(q.1≠n/\l<0))):=by unfold LB;exact decide_eq_true_iff
abbrev CE:=Int×List TE×RE
def FA(c:CE):CR:=(c.1,sY c.2.1,pX c.2.2)
def fmC(c:CR):CE:=(c.1,fmV c.2.1,fmQ c.2.2)
def CnR(k:Nat)(w:World)(v:Value)(c:CR):Prop:=∃a n cp b a1 n1 c1 a2 n2 c2,v= .agg #[c.1,.slice a n cp,.bool b,.slice a1 n1 c1,.slice a2 n2 c2]/\TL k w (.slice a n cp) c.2.1/\IsR w (.agg #[.bool b,.slice a1 n1 c1,.slice a2 n2 c2]) c.2.2 k
def CnE(w:World)(v:Value)(c:CE):Prop:=∃a n cp b a1 n1 c1 a2 n2 c2,v= .agg #[c.1,.slice a n cp,.bool b,.slice a1 n1 c1,.slice a2 n2 c2]/\TLE w (.slice a n cp) c.2.1/\o9 w (.agg #[.bool b,.slice a1 n1 c1,.slice a2 n2 c2]) c.2.2
def CnO(B k:Nat)(w:World)(v:Value)(c:CR):Prop:=∃a n cp b a1 n1 c1 a2 n2 c2,v= .agg #[c.1,.slice a n cp,.bool b,.slice a1 n1 c1,.slice a2 n2 c2]/\TO B k w (.slice a n cp) c.2.1/\FrQ B w (.agg #[.bool b,.slice a1 n1 c1,.slice a2 n2 c2]) c.2.2/\szQ c.2.2<=k
theorem CnR.op{w:World}(s:CnR d w e (n,i,l)):∃a b c h j k m p q r,e= .agg #[n,.slice a b c,.bool h,.slice j k m,.slice p q r]/\TL d w (.slice a b c) i/\IsR w (.agg #[.bool h,.slice j k m,.slice p q r]) l d:=s
theorem CnE.op{w:World}{b:List TE}(q:CnE w e (n,b,T)):∃a c d h i j k l m p,e= .agg #[n,.slice a c d,.bool h,.slice i j k,.slice l m p]/\TLE w (.slice a c d) b/\o9 w (.agg #[.bool h,.slice i j k,.slice l m p]) T:=q
theorem CnO.op{w:World}(u:CnO d h w e (n,i,l)):∃a b c j k m p q r s,e= .agg #[n,.slice a b c,.bool j,.slice k m p,.slice q r s]/\TO d h w (.slice a b c) i/\FrQ d w (.agg #[.bool j,.slice k m p,.slice q r s]) l/\szQ l<=h:=u
theorem CnR.ext{w:World}(h:CnR d w e q)(he:Ext w j):CnR d j e q:=by
 exact IP5
variable{K:CE}
theorem CnE.ext{w:World}(h:CnE w e K)(he:Ext w j):CnE j e K:=by
 exact IP5
theorem CnO.ext{b c:Nat}{w d:World}{e:Value}{h:CR}(j:CnO b c w e h)(i:Ext w d):CnO b c d e h:=by
 obtain⟨a,k,l,m,n,p,q,r,s,u,v,x,y,z⟩:=j;exact⟨a,k,l,m,n,p,q,r,s,u,v,x.ext i,y.ext i,z⟩
theorem CnO.chg{b c g:Nat}{w d:World}{e:Value}{h:CR}(k:CnO b c w e h)(i:Chg g w d)(j:g<b):CnO b c d e h:=by
 obtain⟨a,l,m,n,p,q,r,s,u,v,x,y,z,A⟩:=k;exact⟨a,l,m,n,p,q,r,s,u,v,x,y.chg i j,z.chg i j,A⟩
theorem CnO.mono{b c d:Nat}{w:World}{e:Value}{h:CR}(j:CnO b d w e h)(i:c<=b):CnO c d w e h:=by
 obtain⟨a,k,l,m,n,p,q,r,s,u,v,x,y,z⟩:=j;exact⟨a,k,l,m,n,p,q,r,s,u,v,x.mono i,y.mono i,z⟩
theorem CnO.le{b c d:Nat}{w:World}{e:Value}{h:CR}(k:CnO b c w e h)(l:c<=d):CnO b d w e h:=by
 obtain⟨a,m,n,p,q,r,s,u,v,z,A,B,C,_⟩:=k;exact⟨a,m,n,p,q,r,s,u,v,z,A,B.le l,C,om⟩
theorem CnO.cnR{w:World}(c:CnO h d w e q)(b:d<=LIM):CnR d w e q:=by
 obtain⟨a,i,j,k,l,m,n,p,r,s,u,v,x,y⟩:=c;exact⟨a,i,j,k,l,m,n,p,r,s,u,v.tl b,x.isR y b⟩
theorem CnO.cnE{w:World}(b:CnO h d w e q)(c:d<=LIM):CnE w e (fmC q):=by
 obtain⟨a,i,j,k,l,m,n,p,r,s,u,v,x,_⟩:=b;exact⟨a,i,j,k,l,m,n,p,r,s,u,v.tle c,x.rawE om⟩
theorem CnR.le{b c:Nat}{w:World}{d:Value}{e:CR}(k:CnR b w d e)(h:b<=c):CnR c w d e:=by
 obtain⟨a,l,m,n,p,q,r,s,u,v,z,A,B⟩:=k;exact⟨a,l,m,n,p,q,r,s,u,v,z,A.le h,B.mono h⟩
theorem CnR.szs{b:Nat}{w:World}{d:Value}{c:CR}(e:CnR b w d c):(∀h∈c.2.1,szQ h.2<=b)/\szQ c.2.2<=b:=by
 obtain⟨a,_,_,_,_,_,_,_,_,_,_,i,j⟩:=e;exact⟨i.szs,j.sz⟩
theorem CnE.cnR{w:World}(i:CnE w e K)(b:Nat)(d:1<=b)(h:b<=LIM)(j:∀k∈K.2.1,mH k.2<=b)(l:mH K.2.2<=b):CnR b w e (FA K):=by
 obtain⟨a,m,n,p,q,r,s,u,v,x,y,z,c⟩:=i;unfold mH at l;exact⟨a,m,n,p,q,r,s,u,v,x,y,z.tl b d h j,c.1.isR c.2.1 c.2.2.1 b om om d h⟩
def CA{S:Nat}(k:Nat)(c:CR):PP S:=⟨false,λu w=>CnO S k w u c,λ_ _ _ h hp=>hp.ext h,λ_ _ hg _ _ _ h hp=>hp.chg h hg⟩
def CL(k:Nat)(w:World)(u:Value)(cs:List CR):Prop:=SL 5 (CnR k) w u cs
def CLE(w:World)(u:Value)(l:List CE):Prop:=SL 5 CnE w u l
theorem CL.ext{c:Nat}{w d:World}{e:Value}{h:List CR}(b:CL c w e h)(i:Ext w d):CL c d e h:=SL.ext (λ_ _ b=>b.ext i) b i
theorem SL.mapL{k:World->Value->y->Prop}{l:World->Value->U->Prop}{f:y->U}{w:World}{i:List y}(p:SL d k w e i)(q:∀m c,c∈i->k w m c->l w m (f c)):SL d l w e (i.map f):=by
 obtain⟨r,s,u,v,x,h⟩:=p;refine⟨r,s,by rw[aF];exact u,by rw[aF];exact v,x,?_⟩;rcases h with h |⟨g,z,h,A⟩
 .exact .inl (by rw[h];rfl)
 .refine .inr ⟨g,z,h,λn _ b=> ?_⟩;rw[aX]at b
  cases j:i[n]? with
  |none=>rw [j]at b;cases b
  |some c=>
   rw[j]at b;simp only[Option.map_some,Option.some.injEq]at b;subst b;obtain⟨B,C,D,E⟩:=A n c j;exact⟨B,C,D,q _ _ (aM j) E⟩
variable{r:List CR}
theorem CL.at{w:World}(B:CL d w u r):∃l h A,h=r.length/\u= .slice l h A/\h<=9223372036854775807/\∀(i:Nat) (e:CR),r[i]? =some e->∃g c,l=some ⟨g,c,none⟩/\∃a m n p q s v x y z,
  (∀b,Ext w b->b.cell? ⟨g,c+i*5,none⟩=some (.int .i64 e.1)/\b.cell? ⟨g,c+i*5+1,none⟩=some (.slice a m n)/\b.cell? ⟨g,c+i*5+2,none⟩=some (.bool p)/\b.cell? ⟨g,c+i*5+3,none⟩=some (.slice q s v)/\b.cell? ⟨g,c+i*5+4,none⟩=some (.slice x y z))/\
  TL d w (.slice a m n) e.2.1/\IsR w (.agg #[.bool p,.slice q s v,.slice x y z]) e.2.2 d:=by
 obtain⟨l,h,A,C,D,E,F⟩:=B.opn;refine⟨l,h,A,C,D,E,λi e H=> ?_⟩;obtain⟨g,c,I,_,_,j,a,m,n,p,q,s,v,x,y,z,J,K,L⟩:=F i e H
 cases J
 exact⟨g,c,I,a,m,n,p,q,s,v,x,y,z,λb k=>⟨j b k 0 _ rfl,j b k 1 _ rfl,j b k 2 _ rfl,j b k 3 _ rfl,j b k 4 _ rfl⟩,K,L⟩
variable{E:List CE}
theorem CLE.at{w:World}(A:CLE w u E):∃k e q,e=E.length/\u= .slice k e q/\e<=9223372036854775807/\∀(i:Nat) (c:CE),E[i]? =some c->∃g d,k=some ⟨g,d,none⟩/\∃a l m r s n v x p y,n=c.2.2.2.1.length/\p=c.2.2.2.2.length/\
  (∀b,Ext w b->b.cell? ⟨g,d+i*5,none⟩=some (.int .i64 c.1)/\b.cell? ⟨g,d+i*5+1,none⟩=some (.slice a l m)/\b.cell? ⟨g,d+i*5+2,none⟩=some (.bool r)/\b.cell? ⟨g,d+i*5+3,none⟩=some (.slice s n v)/\b.cell? ⟨g,d+i*5+4,none⟩=some (.slice x p y))/\
  TLE w (.slice a l m) c.2.1/\o9 w (.agg #[.bool r,.slice s n v,.slice x p y]) c.2.2:=by
 obtain⟨k,e,q,B,C,D,F⟩:=A.opn;refine⟨k,e,q,B,C,D,λi c H=> ?_⟩;obtain⟨g,d,I,_,_,h,a,l,m,r,s,n,v,x,p,y,J,K,z⟩:=F i c H
 cases J
 obtain⟨_,_,d1,_,_,d2,L,M,N⟩:=xH.opn2 z.1
 cases N
 exact⟨g,d,I,a,l,m,_,_,_,_,_,_,_,L,M,λb j=>⟨h b j 0 _ rfl,h b j 1 _ rfl,h b j 2 _ rfl,h b j 3 _ rfl,h b j 4 _ rfl⟩,K,z⟩
theorem CL.szs{b:Nat}{w:World}{e:Value}{c:List CR}(h:CL b w e c):∀d∈c,(∀i∈d.2.1,szQ i.2<=b)/\szQ d.2.2<=b:=by
 intro _ j;obtain⟨k,l,rfl⟩:=jQ j;obtain⟨_,_,_,_,_,_,m⟩:=h.opn;obtain⟨g,_,_,_,_,_,n⟩:=m k _ (aA l);exact n.szs
def BL(w:World)(u:Value)(bs:List Bool):Prop:=SV (λ_ v b=>v= .bool b) w u bs
theorem BL.ext{w c:World}{d:Value}{e:List Bool}(b:BL w d e)(h:Ext w c):BL c d e:=SV.ext (λ_ _ b=>b) b h
theorem BL.at{w:World}(k:BL w u H):∃c b h,b=H.length/\u= .slice c b h/\b<=9223372036854775807/\∀(i:Nat) (d:Bool),H[i]? =some d->∃g e,c=some ⟨g,e,none⟩/\∀j,Ext w j->j.cell? ⟨g,e+i,none⟩=some (.bool d):=by
 obtain⟨c,b,h,l,m,n,p⟩:=k.opn;refine⟨c,b,h,l,m,n,λi d q=> ?_⟩;obtain⟨g,e,r,_,s,rfl⟩:=p i d q;exact⟨g,e,r,s⟩
def kT{S:Nat}(g:Bool)(q:PP S):PP S:=⟨q.c,λu w=>(g=true->q.p u w)/\(g=false->u=undef),λa b c h hp=>⟨λhg=>q.m a b c h (hp.1 hg),hp.2⟩,λhc x hx a b c h hp=>⟨λhg=>q.m2 hc x hx a b c h (hp.1 hg),hp.2⟩⟩
theorem lS(b:e=x):e= .bool true↔x=true:=by
 subst b;exact⟨λb=>(by injection b),λb=>(by rw[b])⟩
theorem rH(b:e=x):e= .bool false↔(!x)=true:=by
 subst b;exact⟨λb=>(by injection b with b;rw[b];rfl),λb=>by (cases x<;>first |rfl |cases b)⟩
theorem sO{g:Bool}(b:(g=true->e=x)/\(g=false->e=undef)):e= .bool true↔(g&&x)=true:=by
 cases g
 .rw[b.2 rfl];exact⟨λb=>(by cases b),λb=>(by cases b)⟩
 .rw[b.1 rfl];exact⟨λb=>(by injection b),λb=>(by rw[show x=true from b])⟩
theorem kS{P:Program}{o:Oper}{a:Act}{f:Nat->Value}{w:World}{e:World->World->Prop}{p:Value->World->Prop}{g:Bool}(l:o.guard=some (d,x))(h:f d= .bool x↔g=true)(m:g=true->kM P {o with guard:=none} a f w e p):
  kM P o a f w e (λi w=>(g=true->p i w)/\(g=false->i=undef)):=by
 unfold kM;rw[l];refine⟨λb=> ?_,λb=>⟨λc=>absurd (h.2 c) b,λ_=>rfl⟩⟩;have j:=h.1 b;have:=m j;unfold kM at this;simp only at this;refine Oper.wp_mono (λ_ _ n=> ?_) this;obtain⟨q,c,r,s⟩:=n;exact⟨q,c,r,λ_=>s,λk=>by rw[j]at k;cases k⟩
section
variable {P:Program} {o:Oper} {a:Act} {f:Nat->Value} {w:World} {post:Value->World->Prop}
theorem pI(b c:Operand){d:Bool}(e:o.guard=none)(ho:o.op= .pick b c (.const false))(hx:a.eval b=x)(hy:x=true->a.eval c=d)(hp:post (.bool (x&&d)) w):kM P o a f w Ext post:=by
 unfold kM;rw[e];unfold Oper.wp execOp
 cases x
 .exact Tm6
 .exact qv3
theorem CW(b e:Operand){c d:Bool}(h:o.guard=none)(ho:o.op= .pick b (.const true) e)(hx:a.eval b=c)(hy:c=false->a.eval e=d)(hp:post (.bool (c || d)) w):kM P o a f w Ext post:=by
 unfold kM;rw[h];unfold Oper.wp execOp
 cases c
 .exact qv3
 .exact Tm6
theorem MK(t:TypeId)(b:Operand)(c:o.guard=none)(ho:o.op= .unOp .not t b)(hx:a.eval b=x)(hp:post (.bool (!x)) w):kM P o a f w Ext post:=by
 unfold kM;rw[c];unfold Oper.wp execOp;exact Tm6
end
theorem UC(b:¬(1<=n/\n<=3)):qR n=false:=by unfold qR;exact decide_eq_false b
theorem pT(b:Int)(w:World):
  Calls prog 102 #[b] w λh i=>h= .returned (.bool (qR b))/\Ext w i:=by
 by_cases d:1<=b
 .by_cases e:b<=3
  .have HS:=a8 (show qR b=true from PJ.2 ⟨d,e⟩);exact jc5
  .have HS:=a8 (UC λc=>e c.2);exact jc5
 .have HS:=a8 (UC λc=>d c.1);exact jc5
theorem af7(a c:Rat):rN 1 a c=decide (qP a c<=0):=by
 unfold rN;rw[decide_eq_decide,FJ];constructor
 .rintro(⟨-,b⟩ |⟨b, -⟩ |⟨b, -⟩)
  .exact b
  .omega
  .omega
 .exactλb=> .inl ⟨rfl,b⟩
theorem af8(a b:Rat):rN 2 a b=decide (0<=qP a b):=by
 unfold rN;have:=DM b a;rw[decide_eq_decide,show(0<=qP a b)↔(qP b a<=0)by omega,FJ];constructor
 .rintro(⟨c, -⟩ |⟨-,c⟩ |⟨c, -⟩)
  .omega
  .exact c
  .omega
 .exactλc=> .inr (.inl ⟨rfl,c⟩)
theorem XQ(a b:Rat):rN 3 a b=(qP a b==0):=by
 unfold rN;rw[Bool.eq_iff_iff,decide_eq_true_iff,beq_iff_eq];have:=DM b a;constructor
 .rintro(⟨c, -⟩ |⟨c, -⟩ |⟨-,c⟩)
  .omega
  .omega
  .subst c;unfold qP;rw[if_neg Rat.lt_irrefl,if_pos rfl]
 .intro c;have d:a<=b:=FJ.1 om;have e:b<=a:=FJ.1 om;exact .inr (.inr ⟨rfl,Rat.le_antisymm d e⟩)
theorem VO(d:n≠1)(e:n≠2)(h:n≠3)(a c:Rat):rN n a c=false:=by
 unfold rN;exact decide_eq_false (by rintro(⟨b, -⟩ |⟨b, -⟩ |⟨b, -⟩)<;>omega)
def GW(s o:Int):Bool:=if s=1 then decide (o<=0)else if s=2 then decide (0<=o)else if s=3 then o==0 else false
theorem XP(c:Int)(a d:Rat):GW c (qP a d)=rN c a d:=by
 unfold GW;split
 .rename_i b;rw[b,af7]
 .split
  .rename_i b;rw[b,af8]
  .split
   .rename_i b;rw[b,XQ]
   .rename_i e h i;rw[VO e h i]
theorem BJ(b:Int)(n p:Value)(a c:Rat)(d e:Nat)(w:World)(h:IsR w n a d)(i:IsR w p c e)(v:d+e<=68719476736):
  Calls prog 110 #[b,n,p] w λq x=>q= .returned (.bool (rN b a c))/\Ext w x:=by
 obtain⟨y,z,A,B,C,D,E,rfl⟩:=h.parts;obtain⟨F,d1,H,I,d2,J,K,rfl⟩:=i.parts;have r:=a8 h;have s:=a8 i;clear h i;obtain⟨L,M,j,_,_,_⟩:=lZ w #[y,(z,A,B),(C,D,E)] #[F,(d1,H,I),(d2,J,K)] 37 37;go_enter func110,ntmps110;go_wp2_with fail;rw[<-M];refine(pO _ _ a c d e L (r.out.ext j) (s.out.ext j) v).mono ?_;rintro q _ ⟨rfl,N⟩;have HK:=a8 (XP b a c);obtain⟨o,u⟩:=ex (qP a c);rw[<-u]at HK ⊢;have X:=j.trans N;clear u r s;by_cases k:b=1
 .subst k;have HI:=a8 (show GW 1 o=decide (o<=0)from rfl);exact dL7
 by_cases l:b=2
 .subst l;have HI:=a8 (show GW 2 o=decide (0<=o)from rfl);exact dL7
 by_cases m:b=3
 .subst m;have HI:=a8 (show GW 3 o=(o==0)from rfl);exact dL7
 have HI:=a8 (show GW b o=false by unfold GW;rw[if_neg k,if_neg l,if_neg m]);have:(b==1)=false:=by simpa using k
 have:(b==2)=false:=by simpa using l
 have:(b==3)=false:=by simpa using m
 exact dL7
theorem uE(b c:Nat)(m:Value)(i:CR)(w:World)(k:CnR b w m i)(n:i.2.1.length<=1073741824)(p:(i.2.1.length+1)*(b+1)<=34359738000)(q:i.2.1.length*(b+1)<=c)(Z:b<=c):
  Calls prog 46 #[m] w λe w'=>∃v',e= .returned v'/\CnO w c w' v' (mW i)/\Ext w w':=by
 obtain⟨j,d,x⟩:=i;have:b+1<=(d.length+1)*(b+1):=cX _ om;simp only at n p q;unfold mW;simp only;obtain⟨a,r,s,u,v,z,A,B,C,D,rfl,l,E⟩:=k.op;have a0:=a8 l;have F:=a8 E;clear l E;go_enter func46,ntmps46;go_wp2_with fail;obtain⟨w1,H,e1,b1,a1,_⟩:=lZ w #[j,(a,r,s),u,(v,z,A),(B,C,D)] #[(0:Int),(),false,(),()] 39 39;rw[<-H];clear H;refine wpP [⟨9,(w.heap.size+1),39,CA c (j,mkV d,x)⟩] [(w,0),j,(w,1),(a,r,s),tA c (mkV d),(w,2),kL (.agg #[u,(v,z,A),(B,C,D)]),nC x,CA c (j,mkV d,x),kP] [] [9,8,7,6,5,4,3,2,1,0] ?_ ?_ ?_ ?_ ?_
 .exact UZ7
 .exact DL8
 .exact sz1
 .refine⟨oL,?_,oL,?_,?_,oL,?_,?_,?_,?_,trivial⟩
  .exact YQ1
  .exact sH4
  .intro f w2 hG hp hl;have hE:Ext w1 w2:=hG;have hS:=hE.size;have a2:=tE hp 0 3 rfl rfl rfl;change kM _ _ _ f w2 Ext _;refine oC #[f 3] func50 rfl rfl ?_;rw[a2];refine(nF b _ d _ (a0.out.ext (e1.trans hE)) n p).mono ?_;rintro e w' ⟨v',rfl,h1,h2⟩;exact⟨v',rfl,h2,(h1.le q).mono hS⟩
  .intro f w2 hG hp hl;have hE:Ext w1 w2:=hG;have:=tE hp 0 5 rfl rfl rfl;have hbx:=b1.ext hE;exact Ur1
  .intro f w2 hG hp hl;have hE:Ext w1 w2:=hG;have hS:=hE.size;have a3:=tE hp 0 6 rfl rfl rfl;change kM _ _ _ f w2 Ext _;refine oC #[f 6] func90 rfl rfl ?_;rw[a3];refine(pL _ x b _ (F.out.ext (e1.trans hE)) om).mono ?_;exact EL7
  .intro f w2 hG hp hl;have hE:Ext w1 w2:=hG;have:=tE hp 0 1 rfl rfl rfl;have I:=kO hp 1 4 rfl rfl (λ_=>hE);have a4:=kO hp 2 7 rfl rfl (λ_=>hE);obtain⟨_,_,k⟩:=TO.val I;obtain⟨_,_,_,J,K⟩:=a4;obtain⟨_,_,a5⟩:=FrN.slice J;obtain⟨_,_,a6⟩:=FrN.slice K;subst a5 a6;simp only[kM];go_simp;exact⟨_,rfl,rE,_,_,_,_,_,_,_,_,_,_,rfl,k▸I,⟨_,_,rfl,J,K⟩,aE F.out.sz Z⟩
  .intro f w2 hG hp hl;have hE:Ext w1 w2:=hG;have hS:=hE.size;have a7:=kO hp 0 8 rfl rfl (λ_=>hE);intro a9;change kM _ _ _ f w2 (Chg _) _;obtain⟨L,M,N,O,Q,R,S,T,U,V,k,l,b0,b2⟩:=a7;exact mN (P:=prog) _ _ _ (w.heap.size+1) _ _ _ (CA c (j,mkV d,x):PP _).p rfl rfl rfl k (show Bx 39 w2 _ _ from a9.trans a1) kr rfl (Z8 rfl rfl rfl rfl rfl) (λw' h=>⟨L,M,N,O,Q,R,S,T,U,V,rfl,l.chg h om,b0.chg h om,b2⟩)
 .intro f w2 hG hp;obtain⟨_,b3,X⟩:∃Y,Bx 39 w2 (w.heap.size+1) Y/\(CA c (j,mkV d,x):PP w1).p (.agg Y) w2:=sP hp 9 de;clear hp;have hz1:=X.mono (show w.heap.size<=_ by omega);obtain⟨L,M,N,O,Q,R,S,T,U,V,b4,_,_,_⟩:=X
  cases b4
  go_wp2;refine l8 2 39 (w.heap.size+1) 39 _ _ kr rfl b3 underlying39 rfl kr rfl ?_;exact Ku6
theorem PW:szQ ((0:Int):Rat)<=1:=by decide+kernel
theorem D3:szQ ((1:Int):Rat)<=1:=by decide+kernel
theorem WK:szQ (((-1:Int)):Rat)<=1:=by decide+kernel
def A7(o i:Int):Int:=if o=3 then 0 else if i=3 then 0 else if o=i then 1 else -1
theorem SD(o b:Int)(w:World):
  Calls prog 150 #[o,b] w λh i=>h= .returned (.tuple #[(A7 o b:Int),.bool (decide (o=3))])/\Ext w i:=by
 by_cases c:o=3
 .subst c;have HS:=a8 (show A7 3 b=0 from if_pos rfl);go_enter func150,ntmps150;go_wp2;go_ret2;exact⟨by rw[HS.out]<;>rfl,rE⟩
 have HD:=a8 (show decide (o=3)=false from decide_eq_false c);have:(o==3)=false:=by simpa using c
 by_cases d:b=3
 .subst d;have HS:=a8 (show A7 o 3=0 by unfold A7;rw[if_neg c,if_pos rfl]);exact Nf8
 have:(b==3)=false:=by simpa using d
 by_cases e:o=b
 .subst e;have HS:=a8 (show A7 o o=1 by unfold A7;rw[if_neg c,if_neg d,if_pos rfl]);exact Nf8
 have:(o==b)=false:=by simpa using e
 have HS:=a8 (show A7 o b= -1 by unfold A7;rw[if_neg c,if_neg d,if_neg e]);exact Nf8
theorem aa0(c d:List (Int×Rat)):mkV (d++scV (((-1:Int)):Rat) c)=[]↔mkV c=mkV d:=by
 have h:∀b,getV (d++scV (((-1:Int)):Rat) c) b=getV d b - getV c b:=λb=>by
  rw[sS,MV];rw[show (((-1:Int)):Rat)= -1 from rfl];grind
 constructor
 .intro e;refine AJ λb=> ?_
  have i:=h b;rw[<-sM,e,sJ]at i;grind
 .intro e;rw[show ([]:List (Int×Rat))=mkV []from rfl];refine AJ λb=> ?_
  rw[h,sJ,<-sM c,e,sM];grind
theorem GX{b:List y}{c:Nat}(d:c=b.length):((c:Int)==0)=b.isEmpty:=by
 subst d
 cases b<;>simp
 omega
theorem yD(l m:Nat)(x y:Value)(a j:CR)(w:World)(hv:CnR l w x a)(N:CnR m w y j)(z:j.2.1.length+a.2.1.length<=1073741824)(A:(j.2.1.length+a.2.1.length+1)*(l+m+2)<=34359738000):
  Calls prog 107 #[x,y] w λe w'=>e= .returned (.bool (wK a j))/\Ext w w':=by
 obtain⟨q,h,B⟩:=a;obtain⟨r,i,C⟩:=j;simp only at A z;have O:Hid (wK (q,h,B) (r,i,C)=(mkV (i++scV (((-1:Int)):Rat) h)).isEmpty):=a8 (by
  rw[Bool.eq_iff_iff,VS,List.isEmpty_iff];exact(aa0 h i).symm)
 obtain⟨a,D,E,j,Q,R,S,T,U,V,rfl,F,X⟩:=hv.op;have Y:=a8 F;clear F X;obtain⟨H,I,J,Z,a0,a1,a2,a3,a4,a5,rfl,K,a6⟩:=N.op;have a7:=a8 K;clear K a6;have:68719476736<=LIM:=lq;obtain⟨n,s⟩:=ex ((mkV (i++scV (((-1:Int)):Rat) h)).length);have HQ:=a8 s;have a9:=a8 (GX s);clear s;obtain⟨k,L,u,b1_,b0,_⟩:=lZ w #[q,(a,D,E),j,(Q,R,S),(T,U,V)] #[r,(H,I,J),Z,(a0,a1,a2),(a3,a4,a5)] 39 39;go_enter func107,ntmps107;go_wp2_with fail;rw[<-L];clear L;refine wpQ [lV (((-1:Int)):Rat) 1,(w,1),(a,D,E),kL ((w.heap.size+1),1),(H,I,J),tA ((i.length+h.length)*(l+m+1+1)) (mkV (i++scV (((-1:Int)):Rat) h)),n,kL (.bool ((n:Int)==0)),kL (.bool ((n:Int)==0))] [] [0,1,2,3,4,5,6,7,8] ?_ ?_
 .refine⟨?_,oL,?_,oL,?_,?_,?_,oL,oL,trivial⟩
  .intro f b d c p;have hE:Ext k b:=d;have hS:=hE.size;change kM _ _ _ f b Ext _;refine oC #[(-1:Int)] func41 rfl rfl ?_;refine(mT (-1) _ om om).mono ?_;rintro e w' ⟨v',rfl,h1,h2⟩;exact⟨v',rfl,h2,h1.mono hS,WK⟩
  .intro f b d c p;have hE:Ext k b:=d;have:=tE c 0 1 rfl rfl rfl;exact Vj0
  .intro f b d c p;have hE:Ext k b:=d;have:=tE c 0 3 rfl rfl rfl;have hcell:=(b0.ext hE).cell 1;exact DG6
  .intro f b d c p;have hE:Ext k b:=d;have hS:=hE.size;have M:=kO c 0 0 rfl rfl (λ_=>hE);have b1:=tE c 1 2 rfl rfl rfl;have b2:=tE c 2 4 rfl rfl rfl;change kM _ _ _ f b Ext _;refine oC #[f 0,f 2,f 4] func151 rfl rfl ?_;rw[b1,b2];refine(wS 1 l m (l+m+1) _ _ _ (((-1:Int)):Rat) h i _ (M.1.isR M.2 om) (Y.out.ext (u.trans hE)) (a7.out.ext (u.trans hE)) om om z A).mono ?_;exact EL7
  .intro f b d c p;have hE:Ext k b:=d;have b3:=kO c 0 5 rfl rfl (λ_=>hE);obtain⟨_,_,hv⟩:=TO.val b3;exact zT9
 .intro f b d c;have hE:Ext k b:=mV.nil d;have b4:f 8= .bool ((n:Int)==0):=rM c 8 de rfl (λb5=>by cases b5);try simp only[b4]
  clear c;have b6:=u.trans hE;rw[a9.out];rw[<-O.out];obtain⟨pp,v⟩:=ex (wK (q,h,B) (r,i,C));rw[<-v];have b7:=a8 v;clear v;go_wp2;go_ret;exact⟨by rw[<-b7.out]<;>rfl,b6⟩
theorem LY(n:Nat)(L:Value)(a:CR)(w:World)(hv:CnR n w L a)(M:a.2.1.length<=1073741824)(C:(a.2.1.length+1)*(n+1)<=34359738000):
  Calls prog 109 #[L] w λe w'=>e= .returned (.bool (GJ a))/\Ext w w':=by
 obtain⟨k,p,D⟩:=a;simp only at C M;have:p.length*(n+1)+(n+1)<=34359738000:=aE (Nat.le_of_eq (dT ..).symm) C;obtain⟨a,q,r,s,u,v,x,y,z,A,rfl,N,O⟩:=hv.op;have S:=a8 N;have T:=a8 O;clear N O;have:68719476736<=LIM:=lq;obtain⟨B,E⟩:=ex ((mkV p).length);obtain⟨h,F⟩:=ex (qR k);obtain⟨i,H⟩:=ex ((B:Int)==0);obtain⟨l,I⟩:=ex (rN k ((0:Int):Rat) D);have U:Hid (GJ (k,p,D)=((h&&i)&& !l)):=a8 (by rw[F,H,I,GX E,gY];rfl);have HQ:=a8 E;have V:=a8 F;have X:=H.symm;have Y:=a8 I;clear E F H I;obtain⟨m,Q,J,b1_,_⟩:=kR w #[k,(a,q,r),s,(u,v,x),(y,z,A)] 39;go_enter func109,ntmps109;go_wp2_with fail;rw[<-Q];clear Q;refine wpQ [(w,0),k,h,h,kT h (kL (w,1)),kT h (kL (a,q,r)),kT h (tA (p.length*(n+1)) (mkV p)),kT h (kL B),kT h (kL i),kL (.bool (h&&(i))),kL (.bool (h&&(i))),kT ((h&&(i))) (kL (w,0)),kT ((h&&(i))) (kL k),kT ((h&&(i))) (lV ((0:Int):Rat) 1),kT ((h&&(i))) (kL (w,2)),kT ((h&&(i))) (kL (.agg #[s,(u,v,x),(y,z,A)])),kT ((h&&(i))) (kL l),kT ((h&&(i))) (kL (.bool (!(l)))),kL (.bool (((h&&(i)))&&((!(l))))),kL (.bool (((h&&(i)))&&((!(l)))))] [] [0,1,2,3,4,5,6,7,8,9,10,11,12,13,14,15,16,17,18,19] ?_ ?_
 .refine⟨oL,?_,?_,?_,?_,?_,?_,?_,?_,?_,oL,?_,?_,?_,?_,?_,?_,?_,?_,oL,trivial⟩
  .intro f w2 d c j;have hE:Ext m w2:=d;have:=tE c 0 0 rfl rfl rfl;exact yN8
  .intro f w2 d c j;have Z:=tE c 0 1 rfl rfl rfl;change kM _ _ _ f w2 Ext _;refine oC #[f 1] func102 rfl rfl ?_;rw[Z];refine(pT k _).mono ?_;rintro e w' ⟨rfl,h2⟩;exact⟨_,rfl,h2,by rw[V.out]<;>rfl⟩
  .intro f w2 d c j;have a0:=tE c 0 2 rfl rfl rfl;exact⟨_,rfl,rE,a0⟩
  .intro f w2 d c j;have qg:=kO c 0 3 rfl rfl (λb=>by cases b);refine kS (p:=(kL (.pointer (some ⟨w.heap.size,1,none⟩)):PP _).p) rfl (lS qg) ?_;exact zO3
  .intro f w2 d c j;have hE:Ext m w2:=d;have qg:=kO c 1 3 rfl rfl (λb=>by cases b);refine kS (p:=(kL (.slice a q r):PP _).p) rfl (lS qg) ?_;intro hg0;clear qg;have:f 4= .pointer (w,1):=(kO c 0 4 rfl rfl (λb=>by cases b)).1 hg0;exact Vj0
  .intro f w2 d c j;have hE:Ext m w2:=d;have hS:=hE.size;have qg:=kO c 1 3 rfl rfl (λb=>by cases b);refine kS (p:=(tA (p.length*(n+1)) (mkV p):PP _).p) rfl (lS qg) ?_;intro hg0;clear qg;have a1:f 5=(a,q,r):=(kO c 0 5 rfl rfl (λb=>by cases b)).1 hg0;change kM _ _ _ f w2 Ext _;refine oC #[f 5] func50 rfl rfl ?_;rw[a1];refine(nF n _ p _ (S.out.ext (J.trans hE)) M C).mono ?_;exact EL7
  .intro f w2 d c j;have hE:Ext m w2:=d;have qg:=kO c 1 3 rfl rfl (λb=>by cases b);refine kS (p:=(kL (.int .i64 (B:Int)):PP _).p) rfl (lS qg) ?_;intro hg0;clear qg;have a2:=(kO c 0 6 rfl rfl (λ_=>hE)).1 hg0;obtain⟨_,_,hv⟩:=TO.val a2;exact zT9
  .intro f w2 d c j;have qg:=kO c 1 3 rfl rfl (λb=>by cases b);refine kS (p:=(kL (.bool i):PP _).p) rfl (lS qg) ?_;intro hg0;clear qg;have:f 7=B:=(kO c 0 7 rfl rfl (λb=>by cases b)).1 hg0;exact DG6
  .intro f w2 d c j;have a3:=tE c 0 3 rfl rfl rfl;have a4:=kO c 1 8 rfl rfl (λb=>by cases b);change kM _ _ _ f w2 Ext _;exact pI (P:=prog) _ _ rfl rfl a3 (λb=>a4.1 (by rw[b])) rfl
  .intro f w2 d c j;have qg:=kO c 0 10 rfl rfl (λb=>by cases b);refine kS (p:=(kL (.pointer (some ⟨w.heap.size,0,none⟩)):PP _).p) rfl (lS qg) ?_;exact zO3
  .intro f w2 d c j;have hE:Ext m w2:=d;have qg:=kO c 1 10 rfl rfl (λb=>by cases b);refine kS (p:=(kL (.int .i64 k):PP _).p) rfl (lS qg) ?_;intro hg0;clear qg;have:f 11= .pointer w.heap.size:=(kO c 0 11 rfl rfl (λb=>by cases b)).1 hg0;exact yN8
  .intro f w2 d c j;have hE:Ext m w2:=d;have hS:=hE.size;have qg:=kO c 0 10 rfl rfl (λb=>by cases b);refine kS (p:=(lV ((0:Int):Rat) 1:PP _).p) rfl (lS qg) ?_;intro hg0;clear qg;exact Fi5
  .intro f w2 d c j;have qg:=kO c 0 10 rfl rfl (λb=>by cases b);refine kS (p:=(kL (.pointer (some ⟨w.heap.size,2,none⟩)):PP _).p) rfl (lS qg) ?_;exact zO3
  .intro f w2 d c j;have hE:Ext m w2:=d;have qg:=kO c 1 10 rfl rfl (λb=>by cases b);refine kS (p:=(kL (.agg #[.bool s,.slice u v x,.slice y z A]):PP _).p) rfl (lS qg) ?_;intro hg0;clear qg;have:f 14= .pointer (w,2):=(kO c 0 14 rfl rfl (λb=>by cases b)).1 hg0;have hbx:=b1_.ext hE;exact Ur1
  .intro f w2 d c j;have hE:Ext m w2:=d;have hS:=hE.size;have qg:=kO c 4 10 rfl rfl (λb=>by cases b);refine kS (p:=(kL (.bool l):PP _).p) rfl (lS qg) ?_;intro hg0;clear qg;have a5:f 12=k:=(kO c 0 12 rfl rfl (λb=>by cases b)).1 hg0;have R:=(kO c 1 13 rfl rfl (λ_=>hE)).1 hg0;have a6:f 15= .agg #[s,(u,v,x),(y,z,A)]:=(kO c 2 15 rfl rfl (λb=>by cases b)).1 hg0;change kM _ _ _ f w2 Ext _;refine oC #[f 12,f 13,f 15] func110 rfl rfl ?_;rw[a5,a6];refine(BJ k _ _ ((0:Int):Rat) D 1 n _ (R.1.isR R.2 om) (T.out.ext (J.trans hE)) om).mono ?_;rintro e w' ⟨rfl,h2⟩;exact⟨_,rfl,h2,by rw[Y.out]<;>rfl⟩
  .intro f w2 d c j;have qg:=kO c 1 10 rfl rfl (λb=>by cases b);refine kS (p:=(kL (.bool (!(l))):PP _).p) rfl (lS qg) ?_;intro hg0;clear qg;have a7:f 16=l:=(kO c 0 16 rfl rfl (λb=>by cases b)).1 hg0;change kM _ _ _ f w2 Ext _;exact MK (P:=prog) _ _ rfl rfl a7 rfl
  .intro f w2 d c j;have a9:=tE c 0 10 rfl rfl rfl;have b0:=kO c 1 17 rfl rfl (λb=>by cases b);change kM _ _ _ f w2 Ext _;exact pI (P:=prog) _ _ rfl rfl a9 (λb=>b0.1 (by rw[b])) rfl
 .intro f w2 d c;have hE:Ext m w2:=mV.nil d;have b1:f 19= .bool (((h&&(i)))&&((!(l)))):=rM c 19 de rfl (λb=>by cases b);try simp only[b1]
  clear c;have b2:=J.trans hE;clear X;obtain⟨pp,K⟩:=ex ((h&&i)&& !l);rw[<-K];have b3:=a8 K;clear K;go_wp2;go_ret;exact⟨by rw[U.out,<-b3.out]<;>rfl,b2⟩
def okT(bs:List Bool)(t:Int×Rat):Bool:=decide (t.1<(bs.length:Int))&&(bs.getD t.1.toNat false&&isW t.2)
theorem C2(c:i[d]? =some S)(b:okT H S=false):sG i H=false:=by
 cases e:sG i H
 .rfl
 .have:=cA.1 e S (aM c);unfold okT at b;rw[b]at this
  cases this
theorem QB(c:i[d]? =some S)(b:sG (i.take d) H=true)(e:okT H S=true):sG (i.take (d+1)) H=true:=by
 rw[cE,c];unfold sG at b ⊢;rw[List.all_append,b];simp only[Option.toList,List.all_cons,List.all_nil,jS,gS];exact e
theorem vL(n:Nat)(D E:Value)(i:List (Int×Rat))(c:List Bool)(w:World)(F:TL n w D i)(H:BL w E c)(a6:n<=17179869180)(I:∀p∈i,0<=p.1):
  Calls prog 103 #[D,E] w λJ a7=>J= .returned (.bool (sG i c))/\Ext w a7:=by
 obtain⟨_,q,_,K,rfl,_,L⟩:=F.at;obtain⟨_,r,_,M,rfl,_,N⟩:=H.at;have O:=a8 K;have s:=a8 M;have a9:=a8 L;have b0:=a8 N;have b1:=a8 I;clear K M L N F H I;go_enter func103,ntmps103;go_wp2_with fail;go_loopw [9] (λu wr=>∃d:Nat,d<=q/\u= .int .i64 (d:Int)/\Hid (sG (i.take d) c=true)/\Ext w wr) (λu _=>((q:Int) - intOf u).toNat)
 case atStart=>exact ⟨0,zl,rfl,a8 rfl,rE⟩
 case round=>
  obtain⟨d,b2,rfl,v,x⟩:=hrel;rcases aI b2 with y |y
  .subst y;have b3:¬((d:Int)<d):=om;have Q:sG i c=true:=by
    have:=v.out;rwa [O.out,bN]at this
   have b4:=a8 Q;clear Q;go_wp2;go_ret;exact⟨by rw[b4.out]<;>rfl,x⟩
  .have b3:(d:Int)<q:=om;obtain⟨⟨z,h⟩,k⟩:∃p,i[d]? =some p:=⟨_,aA (by rw[<-O.out];exact y)⟩;have bO:0<=z:=b1.out _ (aM k);obtain⟨b,rfl⟩:∃b:Nat,z=(b:Int):=⟨z.toNat,om⟩;obtain⟨g,_,rfl,b5,b6,b7,b8,b9,bA,bB,R⟩:=a9.out d _ k;obtain⟨bC,_,_,_,A⟩:=R wr x;simp only at bC A;have e:=a8 k;have bD:=a8 A;obtain⟨S,hw5,T,U,_⟩:=kR wr #[b,b5,(b6,b7,b8),(b9,bA,bB)] 67;have E5:=x.trans T;obtain⟨V,X,Y,Z,-⟩:=U.cl [0,1,2,3];rw[hw5]at V X Y Z;clear k R A;rcases dH b r with a0 |a0
   .obtain⟨f,B⟩:∃f,c[b]? =some f:=⟨_,aA (by rw[<-s.out];exact a0)⟩;obtain⟨_,_,rfl,a1⟩:=b0.out b f B;have a2:=a1 S E5;rw[hw5]at a2;have j:okT c ((b:Int),h)=(f&&isW h):=by
     unfold okT;simp only[dS];rw[decide_eq_true (show(b:Int)<c.length by rw[<-s.out];omega),aO,B];rfl
    have l:=a8 j;have bE:¬((r:Int)<=b):=om;clear j B a1
    cases f with
    |false=>
     have HB:=a8 (C2 e.out l.out);clear l e;exact TW3
    |true=>
     go_wp2_with fail;rw[<-hw5];refine(rQ _ h n S (bD.out.ext T) a6).mono ?_;rintro J _ ⟨rfl,bG⟩;obtain⟨a3,C⟩:=ex (decide (h=(h.floor:Rat)));rw[<-C];have a4:okT c ((b:Int),h)=a3:=by rw[l.out,C];rfl
     have m:=a8 a4;have a5:=E5.trans bG;clear C a4 l V X Y Z a2 hw5 U
     cases a3 with
     |false=>
      have HB:=a8 (C2 e.out m.out);clear e m;go_wp2;go_ret;exact⟨by rw[HB.out]<;>rfl,a5⟩
     |true=>
      have HB:=a8 (QB e.out v.out m.out);clear e m v;go_wp2;go_roundw
      case rel=>exact ⟨d+1,om,ci om,HB,a5⟩
      case measure=>simp [intOf];omega
   .have bE:((r:Int)<=b):=om;have j:okT c ((b:Int),h)=false:=by
     unfold okT;rw[decide_eq_false (show¬(b:Int)<c.length by rw[<-s.out];omega)];rfl
    have HB:=a8 (C2 e.out j);clear j e;exact TW3
section
variable {t:TypeId} {w:World} {g:Nat}
theorem DW{a k l:Value}(m:Bx t w g #[a,e,O,k,l])(b c d h i:Value):∃j,j=(((((w.setCell g b).setCell (g,1) c).setCell (g,2) d).setCell (g,3) h).setCell (g,4) i)/\Chg g w j/\Bx t j g #[b,c,d,h,i]:=
 ⟨_,rfl,((((Chg.setCell w g 0 _).trans (Chg.setCell _ g 1 _)).trans (Chg.setCell _ g 2 _)).trans (Chg.setCell _ g 3 _)).trans (Chg.setCell _ g 4 _),((((m.set 0 b).set 1 c).set 2 d).set 3 h).set 4 i⟩
end
def sE:Value:= .agg #[(0:Int),(),false,(),()]
def WS(w:World)(K:Nat)(c:CR)(bs:List Bool)(e:Ending)(w':World):Prop:=
 ∃v',e= .returned (.tuple #[v',(rR c bs:Int)])/\Ext w w'/\(rR c bs=0->CnO w K w' v' (n7 c))/\(rR c bs≠0->v'=sE)
variable{c:CR}
theorem YF(b:qR c.1=false)(d:List Bool):rR c d=2:=by unfold rR;rw[b];rfl
theorem YG(b:qR c.1=true)(d:sG (mkV c.2.1) H=false):rR c H=241:=by unfold rR;rw[b,d];rfl
theorem YE(b:qR c.1=true)(d:sG (mkV c.2.1) H=true):rR c H=0:=by unfold rR;rw[b,d];rfl
theorem LK{b:Int}(c:szZ b<=d)(e:1<=d):szQ (b:Rat)<=d:=by
 have:=UP b;omega
theorem CI(q j:Nat)(a1 a2:Value)(p:CR)(r:List Bool)(w:World)(e3:CnR q w a1 p)(a3:BL w a2 r)(a4:p.2.1.length<=1073741824)(e4:(p.2.1.length+1)*(q+1)<=17179869180)(a5:p.2.1.length*(q+1)<=j)(e5:q<=j)(a6:j<=17179869180):
  Calls prog 52 #[a1,a2] w λe e6=>WS w (j+1) p r e e6:=by
 obtain⟨d,c,b⟩:=p;simp only at a4 e4 a5;obtain⟨a,a7,a9,b0,b1,b2,b3,b5,b6,b7,rfl,b8,b9⟩:=e3.op;have e7:=a8 b8;have e8:=a8 b9;clear b8 b9;have e9:=a8 a3;clear a3;have:68719476736<=LIM:=lq;obtain⟨eA,bA,e1,bB,bC,_⟩:=lZ w #[d,(a,a7,a9),b0,(b1,b2,b3),(b5,b6,b7)] #[(0:Int),(),false,(),()] 39 39;go_enter func52,ntmps52;go_wp2_with fail;rw[<-bA];refine(pT d eA).mono ?_;rintro e Q ⟨rfl,e2⟩;have:=e2.size;have J:=e1.trans e2;have R:=bB.ext e2;have S:=bC.ext e2;clear bB bC bA e1 e2
 cases K:qR d with
 |false=>
  have HE:=a8 (YF (c:=(d,c,b)) K r);clear K;have hq:=S;obtain⟨hq0,hq1,hq2,hq3,hq4,-⟩:=hq.cl [0,1,2,3,4];obtain⟨hqf0,hqf1,hqf2,hqf3,hqf4,-⟩:=hq.fl [0,1,2,3,4];go_wp2;refine nP 4 5 39 (w.heap.size+1) 39 _ _ _ kr rfl rfl (((((hq.set 0 _).set 1 _).set 2 _).set 3 _).set 4 _) underlying39 rfl kr rfl ?_;exact⟨sE,by rw[HE.out];rfl,J.step (((((Chg.setCell _ (w.heap.size+1) 0 _).trans (Chg.setCell _ (w.heap.size+1) 1 _)).trans (Chg.setCell _ (w.heap.size+1) 2 _)).trans (Chg.setCell _ (w.heap.size+1) 3 _)).trans (Chg.setCell _ (w.heap.size+1) 4 _)) om,λh=>(by rw[HE.out]at h;cases h),λ_=>rfl⟩
 |true=>
 have T:=a8 K;clear K;have i:=R;obtain⟨s,u,v,x,y,-⟩:=i.cl [0,1,2,3,4];obtain⟨z,A,B,C,D,-⟩:=i.fl [0,1,2,3,4];go_wp2_with fail;refine(uE q j _ (d,c,b) Q ⟨a,a7,a9,b0,b1,b2,b3,b5,b6,b7,rfl,e7.out.ext J,e8.out.ext J⟩ a4 (by simp only;omega) a5 e5).mono ?_;rintro e eB ⟨eC,rfl,bD,E⟩;have eD:=E.size;have bE:CnO Q j eB eC (d,mkV c,b):=bD;obtain⟨a',n',p',bG,bO,bP,bR,bS,bT,c0,rfl,c1,U,V⟩:=bE.op;clear s u v x y z A B C D bD bE i;have c2:=J.trans E;have i:=R.ext E;obtain⟨l,m,n,b4⟩:=DW i d (a',n',p') bG (bO,bP,bR) (bS,bT,c0);have X4:Ext w l:=c2.step n lr;have HT4:=a8 ((c1.chg n om).mono (show w.heap.size+2<=_ by omega));have c3:=a8 ((U.chg n om).mono (show w.heap.size+2<=_ by omega));have HQ4:=a8 ((U.chg n om).isR V om);have eE:=a8 V;have BQ4:=(S.ext E).chg n om;have eG:=n.size;obtain⟨s,u,v,x,y,-⟩:=i.cl [0,1,2,3,4];obtain⟨z,A,B,C,D,-⟩:=i.fl [0,1,2,3,4];clear V c1 U S R;go_wp2_with fail;rw[<-m];refine(vL j _ _ (mkV c) r l (HT4.out.tl om) (e9.out.ext X4) a6 (λeN fA=>(tK c).1.2 eN fA)).mono ?_;rintro e X ⟨rfl,k⟩;have fB:=k.size;have F:=X4.trans k;have t4:=a8 (HT4.out.ext k);have L:=a8 (c3.out.ext k);have M:=a8 (HQ4.out.ext k);have N:=b4.ext k;have H:=BQ4.ext k;have c4:Q.heap.size<=X.heap.size:=om;clear i s u v x y z A B C D m n X4 HT4 c3 HQ4 b4 BQ4 k c2 E eG fB eD;obtain⟨c5,c6⟩:=ex X;rw[<-c6]at F t4 L M N H c4 ⊢;clear c6 X l;have m:True:=trivial
 cases O:sG (mkV c) r with
 |false=>
  have HE:=a8 (YG (c:=(d,c,b)) T.out O);clear O;have hq:=H;obtain⟨hq0,hq1,hq2,hq3,hq4,-⟩:=hq.cl [0,1,2,3,4];obtain⟨hqf0,hqf1,hqf2,hqf3,hqf4,-⟩:=hq.fl [0,1,2,3,4];go_wp2;refine nP 4 5 39 (w.heap.size+1) 39 _ _ _ kr rfl rfl (((((hq.set 0 _).set 1 _).set 2 _).set 3 _).set 4 _) underlying39 rfl kr rfl ?_;exact⟨sE,by rw[HE.out];rfl,F.step (((((Chg.setCell _ (w.heap.size+1) 0 _).trans (Chg.setCell _ (w.heap.size+1) 1 _)).trans (Chg.setCell _ (w.heap.size+1) 2 _)).trans (Chg.setCell _ (w.heap.size+1) 3 _)).trans (Chg.setCell _ (w.heap.size+1) 4 _)) om,λh=>(by rw[HE.out]at h;cases h),λ_=>rfl⟩
 |true=>
 have HE:=a8 (YE (c:=(d,c,b)) T.out O);clear O m;have:=(PJ.1 T.out);obtain⟨l,m⟩:=ex c5;rw[<-m]at F t4 L M N H c4 ⊢;clear m c5;have HT4:=t4;have HQ4:=M;have b4:=N;have BQ4:=H;have X4:=F;have i:=b4;obtain⟨s,u,v,x,y,-⟩:=i.cl [0,1,2,3,4];obtain⟨z,A,B,C,D,-⟩:=i.fl [0,1,2,3,4];clear t4 M N H F;by_cases Y:d=1
 .subst Y;have HV:=a8 (show n7 (1,c,b)=(1,mkV c,((b.floor:Int):Rat))from if_pos rfl);go_wp2_with fail;refine(yP _ b j l HQ4.out om).mono ?_;rintro e I ⟨fC,rfl,hz6,hs6,x6⟩;have fD:=x6.size;go_wp2_with fail;refine(uY _ (b.floor) I (hz6.isZ om) om).mono ?_;exact Ml5
 by_cases c7:d=2
 .subst c7;have HV:=a8 (show n7 (2,c,b)=(2,mkV c,((b.ceil:Int):Rat))from(if_neg Y).trans (if_pos rfl));go_wp2_with fail;refine(P7 _ b j l HQ4.out om).mono ?_;rintro e I ⟨fC,rfl,hz6,hs6,x6⟩;have fD:=x6.size;go_wp2_with fail;refine(uY _ (b.ceil) I (hz6.isZ om) om).mono ?_;exact Ml5
 have fE:d=3:=om;subst fE;clear Y c7;go_wp2_with fail;refine(rQ _ b j l HQ4.out a6).mono ?_;rintro e I ⟨rfl,x6⟩;have hs6:=x6.size;have hp:=b4.ext x6;have hq:=BQ4.ext x6;have c8:=a8 (X4.trans x6);have Z:=a8 (aD (HT4.out.ext x6) (L.out.ext x6));obtain⟨c9,a0⟩:=ex (decide (b=(b.floor:Rat)));rw[<-a0];have e0:=a8 (show isW b=c9 from a0.symm);clear a0 s u v x y z A B C D X4 HT4 HQ4 L b4 BQ4 i x6
 cases c9 with
 |true=>
  have HV:=a8 (show n7 (3,c,b)=(3,mkV c,b)by unfold n7;rw[if_neg (show¬(3:Int)=1 by decide),if_neg (show¬(3:Int)=2 by decide),if_pos e0.out];rfl);obtain⟨hp0,hp1,hp2,hp3,hp4,-⟩:=hp.cl [0,1,2,3,4];obtain⟨hpf0,hpf1,hpf2,hpf3,hpf4,-⟩:=hp.fl [0,1,2,3,4];obtain⟨hq0,hq1,hq2,hq3,hq4,-⟩:=hq.cl [0,1,2,3,4];obtain⟨hqf0,hqf1,hqf2,hqf3,hqf4,-⟩:=hq.fl [0,1,2,3,4];go_wp2;refine nP 4 5 39 (w.heap.size+1) 39 _ _ _ kr rfl rfl (((((hq.set 0 _).set 1 _).set 2 _).set 3 _).set 4 _) underlying39 rfl kr rfl ?_;refine⟨_,by rw[HE.out]<;>rfl,c8.out.step (((((Chg.setCell _ (w.heap.size+1) 0 _).trans (Chg.setCell _ (w.heap.size+1) 1 _)).trans (Chg.setCell _ (w.heap.size+1) 2 _)).trans (Chg.setCell _ (w.heap.size+1) 3 _)).trans (Chg.setCell _ (w.heap.size+1) 4 _)) om,λ_=> ?_,λh=>absurd HE.out h⟩
  rw[HV.out];exact⟨a',n',p',bG,bO,bP,bR,bS,bT,c0,rfl,((Z.out.1.chg ((((((Chg.setCell _ (w.heap.size+1) 0 _).trans (Chg.setCell _ (w.heap.size+1) 1 _)).trans (Chg.setCell _ (w.heap.size+1) 2 _)).trans (Chg.setCell _ (w.heap.size+1) 3 _)).trans (Chg.setCell _ (w.heap.size+1) 4 _)):Chg (w.heap.size+1) _ _) om).mono om).le om,(Z.out.2.chg ((((((Chg.setCell _ (w.heap.size+1) 0 _).trans (Chg.setCell _ (w.heap.size+1) 1 _)).trans (Chg.setCell _ (w.heap.size+1) 2 _)).trans (Chg.setCell _ (w.heap.size+1) 3 _)).trans (Chg.setCell _ (w.heap.size+1) 4 _)):Chg (w.heap.size+1) _ _) om).mono om,aE eE.out om⟩
 |false=>
  have HV:=a8 (show n7 (3,c,b)=(2,[],((1:Int):Rat))by unfold n7;rw[if_neg (show¬(3:Int)=1 by decide),if_neg (show¬(3:Int)=2 by decide),if_neg (by rw[e0.out];decide)]);go_wp2_with fail;refine(mT 1 I om om).mono ?_;rintro e w7 ⟨v7,rfl,hq7,x7⟩;have hs7:=x7.size;obtain⟨bb,ad1,m1,e1,ad2,m2,e2,rfl,hfr⟩:=FrQ.opn hq7;have Q7:=a8 (hfr.mono (show w.heap.size+2<=_ by omega));have X7:=a8 (c8.out.trans x7);have hq0:=hq.ext x7;clear hq;obtain⟨hq, -⟩:=aD hq0 trivial;clear hq0;obtain⟨hq0,hq1,hq2,hq3,hq4,-⟩:=hq.cl [0,1,2,3,4];obtain⟨hqf0,hqf1,hqf2,hqf3,hqf4,-⟩:=hq.fl [0,1,2,3,4];clear hq7 hfr hp Z;go_wp2;refine nP 4 5 39 (w.heap.size+1) 39 _ _ _ kr rfl rfl (((((hq.set 0 _).set 1 _).set 2 _).set 3 _).set 4 _) underlying39 rfl kr rfl ?_;refine⟨_,by rw[HE.out]<;>rfl,X7.out.step (((((Chg.setCell _ (w.heap.size+1) 0 _).trans (Chg.setCell _ (w.heap.size+1) 1 _)).trans (Chg.setCell _ (w.heap.size+1) 2 _)).trans (Chg.setCell _ (w.heap.size+1) 3 _)).trans (Chg.setCell _ (w.heap.size+1) 4 _)) om,λ_=> ?_,λh=>absurd HE.out h⟩
  rw[HV.out];exact⟨none,0,0,bb,ad1,m1,e1,ad2,m2,e2,rfl,TO.nil0 _ _ _,(Q7.out.chg ((((((Chg.setCell _ (w.heap.size+1) 0 _).trans (Chg.setCell _ (w.heap.size+1) 1 _)).trans (Chg.setCell _ (w.heap.size+1) 2 _)).trans (Chg.setCell _ (w.heap.size+1) 3 _)).trans (Chg.setCell _ (w.heap.size+1) 4 _)):Chg (w.heap.size+1) _ _) om).mono om,aE D3 om⟩
section
variable {P:Program} {o:Oper} {a:Act} {f:Nat->Value} {w:World} {post:Value->World->Prop}
theorem oN(g c:Nat)(t e:TypeId)(d:List Value)(b:Array Value)(j k:Operand)(hgd:o.guard=none)(ho:o.op= .store e j k)(hx:a.eval j=(g,c))(hy:a.eval k= .agg b)
  (l:(P.info? e).map (·.size)=some b.size) (hb:Bx t w g d.toArray) (m:c+b.size<=d.length) (n:b.all (·.oneCell')=true) (h:∀i,Chg g w i->Bx t i g (pR d c b.toList).toArray->∀p,post p i):kM P o a f w (Chg g) post:=by
 have hrun:=uO (P:=P) w g c t e d b hb l m n;exact Za0
theorem S7{P:Program}(w:World)(g off:Nat)(t b:TypeId)(cur:List Value)(ad:Option Addr)(n c:Nat)(d:w.heap[g]? =some (.cells cur.toArray t (0,0)))(hi:(P.info? b).map (·.size)=some 1)(hfit:off<cur.length):
  (storeVar b ⟨g,off,none⟩ (ad,n,c)).run P w= .ok () (w.setRow g (cur.set off (ad,n,c)).toArray):=by
 have hst:=run_storeCells_at P g off t [(ad,n,c)] 0 cur.toArray w d (by simp;omega) (λe h=>by
  have:e=(ad,n,c):=by simpa using h
  subst this;rfl)
 cases hq:P.info? b with
 |none=>simp [hq]at hi
 |some i=>
  exact Gu5
theorem qV(g b:Nat)(t d:TypeId)(c:List Value)(e:Option Addr)(i j:Nat)(l m:Operand)(hgd:o.guard=none)(ho:o.op= .store d l m)(hx:a.eval l=(g,b))(hy:a.eval m=(e,i,j))
  (n:(P.info? d).map (·.size)=some 1) (hb:Bx t w g c.toArray) (p:b<c.length) (h:∀k,Chg g w k->Bx t k g (c.set b (e,i,j)).toArray->∀q,post q k):kM P o a f w (Chg g) post:=by
 have hrun:=S7 (P:=P) w g b t d c e i j hb n p;exact Za0
end
theorem mV.one{g:Nat}{w:World}(b:mV [g] w j):Chg g w j:=⟨b.1,b.2.1,b.2.2.1,b.2.2.2.1,λd e h=>b.2.2.2.2 d e (λc=>by rw[aC]at c;subst c;exact h rfl)⟩
theorem YM:(0:Rat).num.sign=0:=by decide+kernel
theorem UE(b:Rat):b.num.sign=qP b 0:=by
 have c:=I0 b 0;rwa [show b - 0=b by grind]at c
theorem UI(b:0<l):l.num.sign=1:=by
 rw[UE];unfold qP;rw[if_neg (by grind),if_neg (by grind)]
theorem UG(b:l<0):l.num.sign= -1:=by
 rw[UE];unfold qP;rw[if_pos b]
theorem U5(b:l≠0):l<0∨0<l:=by grind
theorem W8(h:l≠0):LB n l q=(decide (q.1=3) || decide (A7 q.1 n=l.num.sign)):=by
 rw[Bool.eq_iff_iff,LC,fQ,decide_eq_true_iff,decide_eq_true_iff];unfold A7;rcases U5 h with e |e
 .rw[UG e];have i:¬0<l:=λm=>(by grind)
  constructor
  .rintro(b |b |⟨b,c⟩)
   .exact absurd b h
   .exact .inl b
   .by_cases d:q.1=3
    .exact .inl d
    .rw[if_neg d,if_neg b];rcases c with c |c
     .exact absurd c.2 i
     .rw[if_neg c.1];exact .inr rfl
  .rintro(b |b)
   .exact .inr (.inl b)
   .by_cases d:q.1=3
    .exact .inr (.inl d)
    .rw[if_neg d]at b;split at b
     .omega
     .rename_i j;split at b
      .omega
      .rename_i k;exact .inr (.inr ⟨j,.inr ⟨k,e⟩⟩)
 .rw[UI e];have i:¬l<0:=λm=>(by grind)
  constructor
  .rintro(b |b |⟨b,c⟩)
   .exact absurd b h
   .exact .inl b
   .by_cases d:q.1=3
    .exact .inl d
    .rw[if_neg d,if_neg b];rcases c with c |c
     .rw[if_pos c.1];exact .inr rfl
     .exact absurd c.2 i
  .rintro(b |b)
   .exact .inr (.inl b)
   .by_cases d:q.1=3
    .exact .inr (.inl d)
    .rw[if_neg d]at b;split at b
     .omega
     .rename_i j;split at b
      .rename_i k;exact .inr (.inr ⟨j,.inl ⟨k,e⟩⟩)
      .omega
theorem W9(b:Int)(c:CR):LB b 0 c=true:=LC.2 (.inl rfl)
theorem IT(b:r[d]? =some q):(nH r)[d]? =some q.2.1:=by unfold nH;rw[aX,b];rfl
theorem FM{b:List y}{e:y}{c:y}(h:b[d]? =some c):b.getD d e=c:=by rw[aO,h];rfl
theorem PH(b:z[d]? =some l)(c:r[d]? =some q):uN s z r (d+1)=(uN s z r d&&LB s l q):=by
 rw[uN,FM b,FM c]
theorem DZ(b:z[d]? =some l)(c:r[d]? =some q):vY z r (d+1)=vY z r d+l*q.2.2:=by
 unfold vY;rw[sumN,FM b,FM c]
theorem U8{c d:Nat}{qs:List Rat}{cs:List CR}(e:∀i∈qs,szQ i<=c)(h:∀j∈cs,szQ j.2.2<=d):∀b,b<=qs.length->b<=cs.length->szQ (vY qs cs b)<=b*(c+d+1)+1
 |0,_,_=>by rw[i8];exact D4
 |b+1,h1,h2=>by
  have k:=U8 e h b om om;have l:qs[b]? =some qs[b]:=aA om;have m:cs[b]? =some cs[b]:=aA om;rw[DZ l m,dT];have:=UO k (N4 (e _ (dC (show b<qs.length by omega))) (h _ (dC (show b<cs.length by omega))));omega
theorem XV(b:z[d]? =some l)(c:r[d]? =some q):mkV (mkV (rF z (nH r) d)++scV l q.2.1)=mkV (rF z (nH r) (d+1)):=by
 rw[aa4,KD b (IT c)]
theorem XU(b:z[d]? =some 0)(c:r[d]? =some q):mkV (rF z (nH r) (d+1))=mkV (rF z (nH r) d):=by
 rw[KD b (IT c)];refine AJ λ_=> ?_
 rw[sS,MV,Rat.zero_mul,dY]
theorem W6(b:z[d]? =some 0)(c:r[d]? =some q):vY z r (d+1)=vY z r d:=by
 rw[DZ b c,Rat.zero_mul,dY]
def GC(b:Bool):Int:=if b then 0 else 241
def LQ(B K g:Nat)(s:Int)(b:Bool)(a1:Option Addr)(n1 c1:Nat)(a2:Option Addr)(n2 c2:Nat)(m:List (Int×Rat))(w:World):Prop:=
 ∃a n p,Bx 39 w g #[s,.slice a n p,b,(a1,n1,c1),(a2,n2,c2)]/\TO B K w (.slice a n p) m
theorem LQ.ext{b c g:Nat}{d:Int}{e:Bool}{h:Option Addr}{i j:Nat}{k:Option Addr}{l m:Nat}{n:List (Int×Rat)}{w p:World}(r:LQ b c g d e h i j k l m n w)(q:Ext w p):LQ b c g d e h i j k l m n p:=by
 obtain⟨a,s,u,v,x⟩:=r;exact⟨a,s,u,v.ext q,x.ext q⟩
theorem LQ.chg{b d g c:Nat}{e:Int}{h:Bool}{i:Option Addr}{j k:Nat}{l:Option Addr}{m n:Nat}{p:List (Int×Rat)}{w q:World}(s:LQ b d g e h i j k l m n p w)(r:Chg c w q)(A:c≠g)(u:c<b):LQ b d g e h i j k l m n p q:=by
 obtain⟨a,v,x,y,z⟩:=s;exact⟨a,v,x,y.chg r om,z.chg r u⟩
def LP(B R g:Nat)(s:Int)(a:Option Addr)(n p:Nat)(r:Rat)(w:World):Prop:=
 ∃b a1 n1 c1 a2 n2 c2,Bx 39 w g #[s,(a,n,p),.bool b,.slice a1 n1 c1,.slice a2 n2 c2]/\FrQ B w (.agg #[.bool b,.slice a1 n1 c1,.slice a2 n2 c2]) r/\szQ r<=R
theorem LP.ext{b R g:Nat}{c:Int}{a:Option Addr}{d e:Nat}{h:Rat}{w i:World}(k:LP b R g c a d e h w)(j:Ext w i):LP b R g c a d e h i:=by
 obtain⟨l,m,n,p,q,r,s,u,v,x⟩:=k;exact⟨l,m,n,p,q,r,s,u.ext j,v.ext j,x⟩
theorem LP.chg{b d g c:Nat}{e:Int}{a:Option Addr}{h i:Nat}{j:Rat}{w k:World}(m:LP b d g e a h i j w)(l:Chg c w k)(B:c≠g)(n:c<b):LP b d g e a h i j k:=by
 obtain⟨p,q,r,s,u,v,x,y,z,A⟩:=m;exact⟨p,q,r,s,u,v,x,y.chg l om,z.chg l n,A⟩
def CmJ(w:World)(K R g6 g9:Nat)(s:Int)(qs:List Rat)(cs:List CR)(i:Nat)(wr:World):Prop:=
 Ext w wr/\(g6≠g9/\w.heap.size<=g6/\w.heap.size<=g9)/\Bx 39 wr g6 #[(0:Int),(),false,(),()]/\
 ∃a n p b a1 n1 c1 a2 n2 c2,Bx 39 wr g9 #[s,.slice a n p,.bool b,.slice a1 n1 c1,.slice a2 n2 c2]/\TO w K wr (.slice a n p) (mkV (rF qs (nH cs) i))/\FrQ w wr (.agg #[.bool b,.slice a1 n1 c1,.slice a2 n2 c2]) (vY qs cs i)/\szQ (vY qs cs i)<=R
theorem CmJ.ext{w wr c:World}{d R e h:Nat}{i:Int}{j:List Rat}{k:List CR}{l:Nat}(m:CmJ w d R e h i j k l wr)(b:Ext wr c):CmJ w d R e h i j k l c:=by
 obtain⟨n,p,q,a,r,s,u,v,x,y,z,A,B,C,D,E,F⟩:=m;exact⟨n.trans b,p,q.ext b,a,r,s,u,v,x,y,z,A,B,C.ext b,D.ext b,E.ext b,F⟩
theorem CmJ.same{w wr:World}(c:CmJ w m C F N n z r d wr)(e:mkV (rF z (nH r) h)=mkV (rF z (nH r) d))(b:vY z r h=vY z r d):CmJ w m C F N n z r h wr:=by
 obtain⟨i,j,k,a,l,p,q,s,u,v,x,y,A,B,D,E,H⟩:=c;exact⟨i,j,k,a,l,p,q,s,u,v,x,y,A,B,e▸D,b▸E,b▸H⟩
def ai2(w:World)(K:Nat)(cs:List CR)(qs:List Rat)(s:Int)(e:Ending)(w':World):Prop:=
 ∃v',e= .returned (.tuple #[v',(rK cs qs s:Int)])/\Ext w w'/\(rK cs qs s=0->CnO w K w' v' (oD cs qs s))/\(rK cs qs s≠0->v'=sE)
theorem M4{cs:List CR}(b:qR s=false∨cs.length≠qs.length∨∃d∈cs,qR d.1=false):rK cs qs s=2:=by
 unfold rK;refine if_neg λc=> ?_
 simp only[aU,decide_eq_true_iff,cA]at c;rcases b with b |b |⟨d,h,e⟩
 .rw[b]at c
  cases c.1.1
 .exact b c.1.2
 .rw[c.2 d h]at e
  cases e
theorem ZJ(b:qR n=true)(c:r.length=qs.length)(d:∀e∈r,qR e.1=true):rK r qs n=GC (uN n qs r r.length):=by
 unfold rK GC;rw[if_pos];simp only[aU,decide_eq_true_iff,cA];exact⟨⟨b,c⟩,d⟩
theorem AV(k ky l C K R:Nat)(v u:Value)(cs0:List CR)(qs:List Rat)(s:Int)(w:World)(hv:CL k w v cs0)(b7:QL ky w u qs)(c5:∀d∈cs0,d.2.1.length<=l)(h0:cs0.length<=C)(i5:C*l+l<=1073741824)
  (c6:C*l*(ky+k+1)+1<=K) (c7:C*(ky+k+1)+1<=R) (i6:R<=34359738000) (c8:(C*l+l+1)*(K+ky+k+1)<=34359738000) (h1:1<=R):
  Calls prog 101 #[v,u,s] w λe w'=>ai2 w (max K R) cs0 qs s e w':=by
 have c9:=hv.szs;have e0:=b7.szs;obtain⟨_,n,_,e3,rfl,_,e4⟩:=hv.at;obtain⟨_,e5,capq,e6,rfl,_,e7⟩:=b7.at;have:68719476736<=LIM:=lq;have h4:K+ky+k+1<=34359738000:=by
  have:1*(K+ky+k+1)<=(C*l+l+1)*(K+ky+k+1):=aJ _ om;omega
 have E:=a8 e3;have U:=a8 e6;have h5:=a8 e4;have h6:=a8 e7;have b8:=a8 c5;have a3:=a8 (aD e0 c9);have b9:=a8 (aD c6 (aD c7 c8));rw[<-E.out]at h0;clear e3 e6 e4 e7 hv b7 c5 c9 e0 c6 c7 c8;obtain⟨g6,bA⟩:=ex w.heap.size;obtain⟨h7,e8,e1,bB,h8⟩:=kR w #[(0:Int),(),false,(),()] 39;rw[<-bA]at bB;go_enter func101,ntmps101;go_wp2_with fail;rw[<-e8];rw[<-bA];refine(pT s h7).mono ?_;rintro e e9 ⟨rfl,e2⟩;have:=e2.size;have N:=e1.trans e2;have B2:=bB.ext e2;have h9:w.heap.size<=g6:=om;have:g6<e9.heap.size:=om;clear bB e8 e1 e2 bA h8
 cases a4:qR s with
 |false=>
  have HE:=a8 (M4 (cs:=cs0) (qs:=qs) (s:=s) (.inl a4));have XB:=a8 N;clear a4 N;exact TZ8
 |true=>
 have hA:=a8 a4;clear a4;by_cases eA:n=e5
 case neg=>
  have A:((n:Int) !=(e5:Int))=true:=by rw[bne_iff_ne];omega
  have HE:=a8 (M4 (cs:=cs0) (qs:=qs) (s:=s) (.inr (.inl (by rw[<-E.out,<-U.out];exact eA))));have XB:=a8 N;clear N;exact TZ8
 case pos=>
 subst eA;have:((n:Int) !=(n:Int))=false:=sm;go_wp2_with fail;refine(mT 0 e9 om om).mono ?_;rintro e eB ⟨_,rfl,hq3,a5⟩;obtain⟨b,a1,n1,c1,a2,n2,c2,rfl,V⟩:=FrQ.opn hq3;have hB:=a5.size;obtain⟨hD,eC,a6,eD,hH⟩:=kR eB #[s,(),b,(a1,n1,c1),(a2,n2,c2)] 39;obtain⟨g9,bC⟩:=ex eB.heap.size;have eE:Hid (CmJ w K R g6 g9 s qs cs0 0 hD):=a8 ⟨(N.trans a5).trans a6,⟨om,h9,om⟩,(B2.ext a5).ext a6,none,0,0,b,a1,n1,c1,a2,n2,c2,by rw[bC];exact eD,TO.nil0 _ _ _,(V.ext a6).mono om,aE D4 h1⟩;clear hq3 V eD a5 a6 N B2 hH hB;go_wp2_with fail;rw[<-eC,<-bC];clear eC bC;go_loopw [8,31] (λhI bD wr=>∃(i:Nat) (cd:Int),i<=n/\bD= .int .i64 (i:Int)/\hI= .int .i64 cd/\Hid (cd=GC (uN s qs cs0 i))/\Hid (∀d∈cs0.take i,qR d.1=true)/\Hid (CmJ w K R g6 g9 s qs cs0 i wr)) (λ_ bD _=>((n:Int) - intOf bD).toNat)
 case atStart=>exact ⟨0,0,zl,rfl,rfl,a8 rfl,a8 (λd hc=>by simp at hc),eE⟩
 case round=>
  obtain⟨i,cd,hJ,rfl,rfl,I,eG,HJ⟩:=hrel;obtain⟨O,eN,D,a,n',p,b,a1,n1,c1,a2,n2,c2,Q,hto,V,hrs⟩:=HJ.out;have HG:=a8 eN;obtain⟨_,_,_⟩:=eN;have a7:=a8 hto;have b0:=a8 V;have b1:=a8 hrs;clear HJ hto V hrs eE;rcases aI hJ with b2 |b2
  .subst b2;have hK:¬((i:Int)<i):=om;have hE:=ZJ (qs:=qs) hA.out (E.out.symm.trans U.out) (λd hc=>eG.out d (by rw[E.out,bN];exact hc));rw[<-E.out,<-I.out]at hE;have HC:=I.out
   cases m:uN s qs cs0 i with
   |true=>
    rw[m]at HC;have bE:cd=0:=HC;subst bE;have HE:=a8 hE;have hL:=a8 (show oD cs0 qs s=(s,mkV (rF qs (nH cs0) i),vY qs cs0 i)by unfold oD;rw[<-E.out]);clear HC hE m I;have hq:=D;have hp:=Q;obtain⟨hq0,hq1,hq2,hq3,hq4,-⟩:=hq.cl [0,1,2,3,4];obtain⟨hqf0,hqf1,hqf2,hqf3,hqf4,-⟩:=hq.fl [0,1,2,3,4];obtain⟨_,_,hp2,_,_,-⟩:=hp.cl [0,1,2,3,4];go_wp2;refine nP 6 7 39 g6 39 _ _ _ kr rfl rfl (((((hq.set 0 _).set 1 _).set 2 _).set 3 _).set 4 _) underlying39 rfl kr rfl ?_;refine⟨_,by rw[HE.out]<;>rfl,O.step (((((Chg.setCell _ g6 0 _).trans (Chg.setCell _ g6 1 _)).trans (Chg.setCell _ g6 2 _)).trans (Chg.setCell _ g6 3 _)).trans (Chg.setCell _ g6 4 _)) om,λ_=> ?_,λh=>absurd HE.out h⟩
    rw[hL.out];exact⟨a,n',p,b,a1,n1,c1,a2,n2,c2,rfl,(TO.chgB a7.out ((((((Chg.setCell _ g6 0 _).trans (Chg.setCell _ g6 1 _)).trans (Chg.setCell _ g6 2 _)).trans (Chg.setCell _ g6 3 _)).trans (Chg.setCell _ g6 4 _)):Chg g6 _ _) D de de).le (Nat.le_max_left ..),FrQ.chgB b0.out ((((((Chg.setCell _ g6 0 _).trans (Chg.setCell _ g6 1 _)).trans (Chg.setCell _ g6 2 _)).trans (Chg.setCell _ g6 3 _)).trans (Chg.setCell _ g6 4 _)):Chg g6 _ _) D de,aE b1.out (Nat.le_max_right ..)⟩
   |false=>
    rw[m]at HC;have bE:cd=241:=HC;subst bE;have HE:=a8 hE;have XB:=a8 O;clear HC hE m I O;have hq:=D;exact dA2
  .have hK:(i:Int)<n:=om;obtain⟨⟨S,r,x⟩,hc⟩:∃d,cs0[i]? =some d:=⟨_,aA (by rw[<-E.out];exact b2)⟩;obtain⟨q,bG⟩:∃q,qs[i]? =some q:=⟨_,aA (by rw[<-U.out];exact b2)⟩;obtain⟨g,_,rfl,ay,ny,py,bby,a1y,n1y,c1y,a2y,n2y,c2y,hcell,bO,bP⟩:=h5.out i _ hc;obtain⟨gq,offq,rfl,yb,y1,z1,p1,y2,z2,p2,fA,fB⟩:=h6.out i _ bG;simp only at hcell bO bP;obtain⟨hM,hN,hO,hP,hR⟩:=hcell wr O;have HC:=a8 hc;have X:=a8 bG;have HYC:=a8 fA;have HYR:=a8 fB;have HTL:=a8 bO;have HRX:=a8 bP;obtain⟨hT,bR,fC,bS,hU⟩:=kR wr #[S,(ay,ny,py),bby,(a1y,n1y,c1y),(a2y,n2y,c2y)] 39;have fD:=bS.cell 0;rw[bR]at fD;clear hc bG hcell fA fB bO bP;go_wp2_with fail;rw[<-bR];refine(pT S hT).mono ?_;rintro e Y ⟨rfl,b3⟩;have Z:=fC.trans b3;have:=Z.size;have fE:=bS.ext b3;clear bS fD hM hN hO hP hR;have:wr.heap.size<Y.heap.size:=by have:=b3.size;omega
   clear bR fC b3 hU;have J:=O.trans Z
   cases b4:qR S with
   |false=>
    have HE:=a8 (M4 (cs:=cs0) (qs:=qs) (s:=s) (.inr (.inr ⟨_,aM HC.out,b4⟩)));have XB:=a8 J;clear b4;have hq:=D.ext Z;exact dA2
   |true=>
   have HSN:Hid (∀d∈cs0.take (i+1),qR d.1=true):=a8 λd hc=>by
    rw[cE,HC.out]at hc;rcases aW.1 hc with h |h
    .exact eG.out d h
    .simp only[Option.toList,aC]at h;rw[h];exact b4
   clear b4;have fG:=HYC.out Y J 0 _ rfl;have hV:=HYC.out Y J 1 _ rfl;have hW:=HYC.out Y J 2 _ rfl;rw[bZ]at fG;go_wp2_with fail;refine(wO _ q ky Y (HYR.out.ext J)).mono ?_;rintro e g0 ⟨rfl,a0⟩;have L:=Z.trans a0;have b5:=fE.ext a0;have g1:=J.trans a0;clear fG hV hW fE J;have z:=PH (s:=s) X.out HC.out;by_cases bT:q=0
   .subst bT;rw[W9,jS]at z;have HCD2:Hid (cd=GC (uN s qs cs0 (i+1))):=a8 (by rw[z];exact I.out);have HJ:Hid (CmJ w K R g6 g9 s qs cs0 (i+1) g0):=a8 ((CmJ.ext ⟨O,HG.out,D,a,n',p,b,a1,n1,c1,a2,n2,c2,Q,a7.out,b0.out,b1.out⟩ L).same (XU X.out HC.out) (W6 X.out HC.out));rw[YM];clear z D Q b5;go_wp2;go_roundw
    case rel=>exact ⟨i+1,cd,om,ci om,rfl,HCD2,HSN,HJ⟩
    case measure=>simp [intOf];omega
   rw[W8 bT]at z;obtain⟨b6,c0⟩:=ex q.num.sign;have hz0:b6≠0:=by
    rw[c0];rcases U5 bT with h |h
    .rw[UG h];decide
    .rw[UI h];decide
   rw[<-c0]at z ⊢;have:(b6==0)=false:=by simpa using hz0
   clear c0;have hX:=b5.cell 0;go_wp2_with fail;refine(SD S s g0).mono ?_;rintro e w8 ⟨rfl,F⟩;have X8:=g1.trans F;have S8:=(Q.ext L).ext F;have M:=(D.ext L).ext F;have C8:=b5.ext F;have:=(L.trans F).size;have:=S8.lt;have:=M.lt;have:wr.heap.size<w8.heap.size:=by have:=(a0.trans F).size;omega
   have:g9<wr.heap.size:=Q.lt;have:g6<wr.heap.size:=D.lt;have HSV:=a8 ((a7.out.ext L).ext F);have c3:=a8 ((b0.out.ext L).ext F);have HMK:=a8 (XV X.out HC.out);have HRH:=a8 (DZ X.out HC.out);simp only at HMK HRH;have g2:i+1<=C:=om;have g3:=G9 (ys:=qs) (rows:=nH cs0) (N:=l) (λr m=>by
    unfold nH at m;obtain⟨d,hc,rfl⟩:=bJ.1 m;exact b8.out d hc) (i+1)
   have hY:=G9 (ys:=qs) (rows:=nH cs0) (N:=l) (λr m=>by
    unfold nH at m;obtain⟨d,hc,rfl⟩:=bJ.1 m;exact b8.out d hc) i
   have g4:(i+1)*l<=C*l:=aJ _ g2;have hZ:i*l<=C*l:=aJ _ om;have g5:(nH cs0).length=cs0.length:=by unfold nH;rw[aF]
   have g7:∀t∈mkV (rF qs (nH cs0) (i+1)),szQ t.2<=K:=aj0 (WY a3.out.1 (λr m=>by
    unfold nH at m;obtain⟨d,hc,rfl⟩:=bJ.1 m;exact(a3.out.2 d hc).1) (by rw[<-U.out];omega) (by rw[g5,<-E.out];omega)) (aE g3 g4) b9.out.1
   have HSZ:=a8 g7;have gA:=b8.out _ (aM HC.out);simp only at gA;have i0:=AK (rF qs (nH cs0) i);have HAX:=a8 (aD (show((mkV (rF qs (nH cs0) i)).length+r.length+1)*(K+ky+k+1)<=34359738000 from aE (aJ _ om) b9.out.2.2) (show(mkV (rF qs (nH cs0) i)).length+r.length<=1073741824 by omega));have i1:=U8 (qs:=qs) (cs:=cs0) a3.out.1 (λd hc=>(a3.out.2 d hc).2) (i+1) (by rw[<-U.out];omega) (by rw[<-E.out];omega);have i2:(i+1)*(ky+k+1)<=C*(ky+k+1):=aJ _ g2;have HSZR:=a8 (aD b1.out (show szQ (vY qs cs0 (i+1))<=R by have:=b9.out.2.1;omega));have:R+(ky+k)<=68719476730:=om;have:=h4;clear i1 i2 g3 hY g4 hZ g5 g7 gA i0 hX b5 D Q L F a0 Z g1 a7 b0 b1;obtain⟨T,gG⟩:=ex (A7 S s);obtain⟨i3,gL⟩:=ex (decide (S=3));try simp only at z
   rw[<-gG,<-gL]at z ⊢;clear gG gL
   cases i3 with
   |true=>
    have HCD2:Hid (cd=GC (uN s qs cs0 (i+1))):=a8 (by rw[z,Bool.true_or,jS];exact I.out);clear z;go_wp2_with fail;refine pV [⟨10,g9,LQ w8 K g9 s b a1 n1 c1 a2 n2 c2 (mkV (rF qs (nH cs0) (i+1))),λ_ _ c h=>h.ext c,λ_ A B _ _ c h=>h.chg c A B⟩] [(gq,offq,n,capq),i,(gq,offq+i*3),kL (.agg #[yb,(y1,z1,p1),(y2,z2,p2)]),(wr,1),(ay,ny,py),(g9,1),(a,n',p),tA K (mkV (rF qs (nH cs0) (i+1))),(g9,1),kP] [] [10,9,8,7,6,5,4,3,2,1,0]
     kr kr (λf=>(by simp only[mJ,mO,aQ,aV,aZ,Nat.reduceAdd];rfl)) ?_ ?_ ?_ ?_ ?_
    .exact Mr3
    .exact DL8
    .exact sz1
    .exact JB9
    .intro f w9 hG hp;have hz0:=KL hp 10 de;clear hp;have hC:Chg g9 w8 w9:=mV.one hG;obtain⟨a9,n9,p9,S9,H⟩:=hz0;have X9:=X8.step hC om;have HT9:=a8 (H.mono (show w.heap.size<=_ by omega));have D9:=M.chg hC om;have C9:=C8.chg hC om;have HR9:=a8 (FrQ.chgB c3.out hC S8 de);have gT:=hC.size;clear H hC hG M C8 S8;go_wp2_with fail;refine pV [⟨11,g9,LP w9 R g9 s a9 n9 p9 (vY qs cs0 (i+1)),λ_ _ c h=>h.ext c,λ_ A B _ _ c h=>h.chg c A B⟩] [(g9,2),kL (.agg #[b,(a1,n1,c1),(a2,n2,c2)]),(gq,offq,n,capq),i,(gq,offq+i*3),kL (.agg #[yb,(y1,z1,p1),(y2,z2,p2)]),(wr,2),kL (.agg #[bby,(a1y,n1y,c1y),(a2y,n2y,c2y)]),lV (q*x) (ky+k),lV (vY qs cs0 (i+1)) R,(g9,2),kP] [] [11,10,9,8,7,6,5,4,3,2,1,0]
      kr kr (λf=>(by simp only[mJ,mO,aQ,aV,aZ,Nat.reduceAdd];rfl)) ?_ ?_ ?_ ?_ ?_
     .exact ut7
     .exact DL8
     .exact sz1
     .refine⟨oL,?_,oL,oL,?_,?_,oL,?_,?_,?_,oL,?_,trivial⟩
      .exact mu3
      .exact UF0
      .exact sD8
      .exact ZT0
      .exact SP6
      .exact Uu1
      .exact Ea4
     .exact dO9
   |false=>
    by_cases c4:T=b6
    .subst c4;have HCD2:Hid (cd=GC (uN s qs cs0 (i+1))):=a8 (by rw[z,decide_eq_true (rfl:T=T),jZ,jS];exact I.out);clear z;have i4:(T !=T)=false:=sm;go_wp2_with fail;refine pV [⟨10,g9,LQ w8 K g9 s b a1 n1 c1 a2 n2 c2 (mkV (rF qs (nH cs0) (i+1))),λ_ _ c h=>h.ext c,λ_ A B _ _ c h=>h.chg c A B⟩] [(gq,offq,n,capq),i,(gq,offq+i*3),kL (.agg #[yb,(y1,z1,p1),(y2,z2,p2)]),(wr,1),(ay,ny,py),(g9,1),(a,n',p),tA K (mkV (rF qs (nH cs0) (i+1))),(g9,1),kP] [] [10,9,8,7,6,5,4,3,2,1,0]
      kr kr (λf=>(by simp only[mJ,mO,aQ,aV,aZ,Nat.reduceAdd];rfl)) ?_ ?_ ?_ ?_ ?_
     .exact Mr3
     .exact DL8
     .exact sz1
     .exact JB9
     .intro f w9 hG hp;have hz0:=KL hp 10 de;clear hp;have hC:Chg g9 w8 w9:=mV.one hG;obtain⟨a9,n9,p9,S9,H⟩:=hz0;have X9:=X8.step hC om;have HT9:=a8 (H.mono (show w.heap.size<=_ by omega));have D9:=M.chg hC om;have C9:=C8.chg hC om;have HR9:=a8 (FrQ.chgB c3.out hC S8 de);have gT:=hC.size;clear H hC hG M C8 S8;go_wp2_with fail;refine pV [⟨11,g9,LP w9 R g9 s a9 n9 p9 (vY qs cs0 (i+1)),λ_ _ c h=>h.ext c,λ_ A B _ _ c h=>h.chg c A B⟩] [(g9,2),kL (.agg #[b,(a1,n1,c1),(a2,n2,c2)]),(gq,offq,n,capq),i,(gq,offq+i*3),kL (.agg #[yb,(y1,z1,p1),(y2,z2,p2)]),(wr,2),kL (.agg #[bby,(a1y,n1y,c1y),(a2y,n2y,c2y)]),lV (q*x) (ky+k),lV (vY qs cs0 (i+1)) R,(g9,2),kP] [] [11,10,9,8,7,6,5,4,3,2,1,0]
       kr kr (λf=>(by simp only[mJ,mO,aQ,aV,aZ,Nat.reduceAdd];rfl)) ?_ ?_ ?_ ?_ ?_
      .exact ut7
      .exact DL8
      .exact sz1
      .refine⟨oL,?_,oL,oL,?_,?_,oL,?_,?_,?_,oL,?_,trivial⟩
       .exact mu3
       .exact UF0
       .exact sD8
       .exact ZT0
       .exact SP6
       .exact Uu1
       .exact Ea4
      .exact dO9
    .have HCD2:Hid ((241:Int)=GC (uN s qs cs0 (i+1))):=a8 (by rw[z,decide_eq_false c4,Bool.or_false,gZ];rfl);clear z;have i4:(T !=b6)=true:=by rw[bne_iff_ne];exact c4
     go_wp2_with fail;refine pV [⟨10,g9,LQ w8 K g9 s b a1 n1 c1 a2 n2 c2 (mkV (rF qs (nH cs0) (i+1))),λ_ _ c h=>h.ext c,λ_ A B _ _ c h=>h.chg c A B⟩] [(gq,offq,n,capq),i,(gq,offq+i*3),kL (.agg #[yb,(y1,z1,p1),(y2,z2,p2)]),(wr,1),(ay,ny,py),(g9,1),(a,n',p),tA K (mkV (rF qs (nH cs0) (i+1))),(g9,1),kP] [] [10,9,8,7,6,5,4,3,2,1,0]
      kr kr (λf=>(by simp only[mJ,mO,aQ,aV,aZ,Nat.reduceAdd];rfl)) ?_ ?_ ?_ ?_ ?_
     .exact Mr3
     .exact DL8
     .exact sz1
     .exact JB9
     .intro f w9 hG hp;have hz0:=KL hp 10 de;clear hp;have hC:Chg g9 w8 w9:=mV.one hG;obtain⟨a9,n9,p9,S9,H⟩:=hz0;have X9:=X8.step hC om;have HT9:=a8 (H.mono (show w.heap.size<=_ by omega));have D9:=M.chg hC om;have C9:=C8.chg hC om;have HR9:=a8 (FrQ.chgB c3.out hC S8 de);have gT:=hC.size;clear H hC hG M C8 S8;go_wp2_with fail;refine pV [⟨11,g9,LP w9 R g9 s a9 n9 p9 (vY qs cs0 (i+1)),λ_ _ c h=>h.ext c,λ_ A B _ _ c h=>h.chg c A B⟩] [(g9,2),kL (.agg #[b,(a1,n1,c1),(a2,n2,c2)]),(gq,offq,n,capq),i,(gq,offq+i*3),kL (.agg #[yb,(y1,z1,p1),(y2,z2,p2)]),(wr,2),kL (.agg #[bby,(a1y,n1y,c1y),(a2y,n2y,c2y)]),lV (q*x) (ky+k),lV (vY qs cs0 (i+1)) R,(g9,2),kP] [] [11,10,9,8,7,6,5,4,3,2,1,0]
       kr kr (λf=>(by simp only[mJ,mO,aQ,aV,aZ,Nat.reduceAdd];rfl)) ?_ ?_ ?_ ?_ ?_
      .exact ut7
      .exact DL8
      .exact sz1
      .refine⟨oL,?_,oL,oL,?_,?_,oL,?_,?_,?_,oL,?_,trivial⟩
       .exact mu3
       .exact UF0
       .exact sD8
       .exact ZT0
       .exact SP6
       .exact Uu1
       .exact Ea4
      .intro f w10 hG hp;have hz0:=KL hp 11 de;clear hp;have hC:Chg g9 w9 w10:=mV.one hG;obtain⟨b',ad1,m1,e1,ad2,m2,e2,S10,hr10,hrs⟩:=hz0;have X10:=X9.step hC om;have HJ:Hid (CmJ w K R g6 g9 s qs cs0 (i+1) w10):=a8 ⟨X10,HG.out,D9.chg hC om,a9,n9,p9,b',ad1,m1,e1,ad2,m2,e2,S10,TO.chgB HT9.out hC S9 de de,hr10.mono om,hrs⟩;clear hC hG S9 C9 D9 S10 hr10 hrs HR9 HT9 X9 X8 X10;go_wp2;go_roundw
       case rel=>exact ⟨i+1,241,om,ci om,rfl,HCD2,HSN,HJ⟩
       case measure=>simp [intOf];omega
variable{b:CR}
theorem af0{a:CR}(c:qR a.1=true)(d:qR b.1=true):vX a b=((GJ a || (T8 b&&rN b.1 0 b.2.2)) || (wK a b&&(decide (a.1=b.1∨a.1=3)&&rN b.1 a.2.2 b.2.2))):=by
 unfold vX;rw[c,d,gY (wK a b)];rfl
theorem ZL{a:CR}(c:qR a.1=false):vX a b=false:=by unfold vX;rw[c];rfl
theorem ZM{a:CR}(c:qR b.1=false):vX a b=false:=by unfold vX;rw[c,gZ];rfl
theorem CnR.mk'{w:World}{a:Option Addr}{b:Nat}(c:TL d w (a,h,m) i)(e:IsR w (.agg #[x,(p,C,F),(A,N,b)]) l d):CnR d w (.agg #[n,(a,h,m),x,(p,C,F),(A,N,b)]) (n,i,l):=⟨a,h,m,x,p,C,F,A,N,b,rfl,c,e⟩
theorem qQ(i D:Nat)(bA bB:Value)(a r:CR)(w:World)(hv:CnR i w bA a)(eD:CnR i w bB r)(eE:a.2.1.length<=D)(eG:r.2.1.length<=D)(h3:2*D<=1073741824)(bC:(2*D+1)*(2*i+2)<=34359738000):
  Calls prog 55 #[bA,bB] w λe w'=>e= .returned (.bool (vX a r))/\Ext w w':=by
 obtain⟨s,l,x⟩:=a;obtain⟨s2,m,x2⟩:=r;simp only at eE eG;have Y:∀z,z<=2*D->∀Z,Z<=2*i+2->(z+1)*Z<=34359738000:=λz b Z eN=>aE (cW om eN) bC
 have a0:=a8 Y;have:2*i+2<=34359738000:=by have:=Y 0 om (2*i+2) om;omega
 obtain⟨a,z,bD,r,a1,a2,a3,a4,a5,a6,rfl,bE,A⟩:=hv.op;have bG:=a8 bE;have a7:=a8 A;clear bE A;obtain⟨O,Q,R,E,F,H,I,J,K,L,rfl,bO,bP⟩:=eD.op;have bR:=a8 bO;have a9:=a8 bP;clear bO bP;have:68719476736<=LIM:=lq;have bS:=a0.out l.length om (i+1) om;have bT:=a0.out m.length om (i+1) om;have c0:=a0.out (m.length+l.length) om (i+i+2) om;have b0:=a8 (aD bS (aD bT c0));clear bS bT c0 Y bC;obtain⟨fA,c1,c2,c3,c4,_⟩:=lZ w #[s,(a,z,bD),r,(a1,a2,a3),(a4,a5,a6)] #[s2,(O,Q,R),E,(F,H,I),(J,K,L)] 39 39;go_enter func55,ntmps55;go_wp2_with fail;rw[<-c1];refine(pT s fA).mono ?_;rintro e w2 ⟨rfl,S⟩;have b1:=c2.trans S;have c5:=c3.ext S;have b2:=c4.ext S;clear c1 c3 c4 c2 S
 cases q:qR s with
 |false=>
  have B:=a8 (ZL (a:=(s,l,x)) (b:=(s2,m,x2)) q);clear q;go_wp2;go_ret;exact⟨by rw[B.out]<;>rfl,b1⟩
 |true=>
 have c6:=a8 q;clear q;have T:=b2.cell 0;go_wp2_with fail;refine(pT s2 w2).mono ?_;rintro e p ⟨rfl,U⟩;have v:=b1.trans U;have b3:=c5.ext U;have M:=b2.ext U;clear T c5 b2 b1 U
 cases q:qR s2 with
 |false=>
  have B:=a8 (ZM (a:=(s,l,x)) (b:=(s2,m,x2)) q);clear q;go_wp2;go_ret;exact⟨by rw[B.out]<;>rfl,v⟩
 |true=>
 have B:=a8 (af0 (a:=(s,l,x)) (b:=(s2,m,x2)) c6.out q);clear q c6;obtain⟨V,b4⟩:=ex ((mkV m).length);obtain⟨j,c7⟩:=ex (GJ (s,l,x));obtain⟨k,b5⟩:=ex ((V:Int)==0);obtain⟨u,c8⟩:=ex (rN s2 ((0:Int):Rat) x2);have c9:Hid (T8 (s2,m,x2)=k):=a8 (by rw[b5,GX b4];rfl);have HQ:=a8 b4;have b6:=a8 c7;have fB:=b5.symm;have b7:=a8 c8;clear b4 c7 b5 c8;go_wp2_with fail;refine wpQ [kL (.agg #[s,(a,z,bD),r,(a1,a2,a3),(a4,a5,a6)]),j,j,kT (!j) (kL ((w.heap.size+1),1)),kT (!j) (kL (O,Q,R)),kT (!j) (tA (m.length*(i+1)) (mkV m)),kT (!j) (kL V),kT (!j) (kL k),kT (!j) (kL k),kT ((!j)&&k) (kL ((w.heap.size+1),0)),kT ((!j)&&k) (kL s2),kT ((!j)&&k) (lV ((0:Int):Rat) 1),kT ((!j)&&k) (kL ((w.heap.size+1),2)),kT ((!j)&&k) (kL (.agg #[E,(F,H,I),(J,K,L)])),kT ((!j)&&k) (kL u),kT (!j) (kL (.bool (k&&u))),kL (.bool (j || ((k&&u))))] [] [0,1,2,3,4,5,6,7,8,9,10,11,12,13,14,15,16] ?_ ?_
 .refine⟨?_,?_,?_,?_,?_,?_,?_,?_,?_,?_,?_,?_,?_,?_,?_,?_,?_,trivial⟩
  .intro f w2 d c n;have h:Ext p w2:=d;change kM _ _ _ f w2 Ext _;exact kZ (P:=prog) _ _ w _ _ _ rfl rfl rfl (b3.ext h) underlying39 rfl kr rfl
  .intro f w2 d c n;have h:Ext p w2:=d;have hS:=h.size;have fC:=tE c 0 0 rfl rfl rfl;change kM _ _ _ f w2 Ext _;refine oC #[f 0] func109 rfl rfl ?_;rw[fC];refine(LY i _ (s,l,x) _ (CnR.mk' (bG.out.ext (v.trans h)) (a7.out.ext (v.trans h))) (by simp only;omega) b0.out.1).mono ?_;rintro e w' ⟨rfl,h2⟩;exact⟨_,rfl,h2,by rw[b6.out]<;>rfl⟩
  .intro f w2 d c n;have fD:=tE c 0 1 rfl rfl rfl;exact⟨_,rfl,rE,fD⟩
  .intro f w2 d c n;have qg:=kO c 0 2 rfl rfl (λb=>by cases b);refine kS (p:=(kL (.pointer (some ⟨(w.heap.size+1),1,none⟩)):PP _).p) rfl (rH qg) ?_;exact zO3
  .intro f w2 d c n;have h:Ext p w2:=d;have qg:=kO c 1 2 rfl rfl (λb=>by cases b);refine kS (p:=(kL (.slice O Q R):PP _).p) rfl (rH qg) ?_;intro hg0;clear qg;have:f 3= .pointer ((w.heap.size+1),1):=(kO c 0 3 rfl rfl (λb=>by cases b)).1 hg0;have fE:=(M.ext h).cell 1;exact DG6
  .intro f w2 d c n;have h:Ext p w2:=d;have hS:=h.size;have qg:=kO c 1 2 rfl rfl (λb=>by cases b);refine kS (p:=(tA (m.length*(i+1)) (mkV m):PP _).p) rfl (rH qg) ?_;intro hg0;clear qg;have fG:f 4=(O,Q,R):=(kO c 0 4 rfl rfl (λb=>by cases b)).1 hg0;change kM _ _ _ f w2 Ext _;refine oC #[f 4] func50 rfl rfl ?_;rw[fG];refine(nF i _ m _ (bR.out.ext (v.trans h)) om b0.out.2.1).mono ?_;exact EL7
  .intro f w2 d c n;have h:Ext p w2:=d;have qg:=kO c 1 2 rfl rfl (λb=>by cases b);refine kS (p:=(kL (.int .i64 (V:Int)):PP _).p) rfl (rH qg) ?_;intro hg0;clear qg;have g0:=(kO c 0 5 rfl rfl (λ_=>h)).1 hg0;obtain⟨_,_,hv⟩:=TO.val g0;exact zT9
  .intro f w2 d c n;have qg:=kO c 1 2 rfl rfl (λb=>by cases b);refine kS (p:=(kL (.bool k):PP _).p) rfl (rH qg) ?_;intro hg0;clear qg;have:f 6=V:=(kO c 0 6 rfl rfl (λb=>by cases b)).1 hg0;exact DG6
  .intro f w2 d c n;have qg:=kO c 2 2 rfl rfl (λb=>by cases b);refine kS (p:=(kL (.bool k):PP _).p) rfl (rH qg) ?_;intro hg0;clear qg;have:f 7=k:=(kO c 0 7 rfl rfl (λb=>by cases b)).1 hg0;exact DG6
  .intro f w2 d c n;have qg:=kO c 0 8 rfl rfl (λb=>by cases b);refine kS (p:=(kL (.pointer (some ⟨(w.heap.size+1),0,none⟩)):PP _).p) rfl (sO qg) ?_;exact mz9
  .intro f w2 d c n;have h:Ext p w2:=d;have qg:=kO c 1 8 rfl rfl (λb=>by cases b);refine kS (p:=(kL (.int .i64 s2):PP _).p) rfl (sO qg) ?_;intro hg0;clear qg;have hg1:=(cR.1 hg0).1;have:f 9= .pointer ((w.heap.size+1),0):=(kO c 0 9 rfl rfl (λb=>by cases b)).1 hg0;have fE:=(M.ext h).cell 0;exact DG6
  .intro f w2 d c n;have h:Ext p w2:=d;have hS:=h.size;have qg:=kO c 0 8 rfl rfl (λb=>by cases b);refine kS (p:=(lV ((0:Int):Rat) 1:PP _).p) rfl (sO qg) ?_;intro hg0;clear qg;have hg1:=(cR.1 hg0).1;exact Fi5
  .intro f w2 d c n;have qg:=kO c 0 8 rfl rfl (λb=>by cases b);refine kS (p:=(kL (.pointer (some ⟨(w.heap.size+1),2,none⟩)):PP _).p) rfl (sO qg) ?_;exact mz9
  .intro f w2 d c n;have h:Ext p w2:=d;have qg:=kO c 1 8 rfl rfl (λb=>by cases b);refine kS (p:=(kL (.agg #[.bool E,.slice F H I,.slice J K L]):PP _).p) rfl (sO qg) ?_;intro hg0;clear qg;have hg1:=(cR.1 hg0).1;have:f 12= .pointer ((w.heap.size+1),2):=(kO c 0 12 rfl rfl (λb=>by cases b)).1 hg0;have hbx:=M.ext h;exact Ur1
  .intro f w2 d c n;have h:Ext p w2:=d;have hS:=h.size;have qg:=kO c 4 8 rfl rfl (λb=>by cases b);refine kS (p:=(kL (.bool u):PP _).p) rfl (sO qg) ?_;intro hg0;clear qg;have hg1:=(cR.1 hg0).1;have g1:f 10=s2:=(kO c 0 10 rfl rfl (λb=>by cases b)).1 hg0;have e0:=(kO c 1 11 rfl rfl (λ_=>h)).1 hg0;have g2:f 13= .agg #[E,(F,H,I),(J,K,L)]:=(kO c 2 13 rfl rfl (λb=>by cases b)).1 hg0;change kM _ _ _ f w2 Ext _;refine oC #[f 10,f 11,f 13] func110 rfl rfl ?_;rw[g1,g2];refine(BJ s2 _ _ ((0:Int):Rat) x2 1 i _ (e0.1.isR e0.2 om) (a9.out.ext (v.trans h)) om).mono ?_;rintro e w' ⟨rfl,h2⟩;exact⟨_,rfl,h2,by rw[b7.out]<;>rfl⟩
  .intro f w2 d c n;have qg:=kO c 2 2 rfl rfl (λb=>by cases b);refine kS (p:=(kL (.bool (k&&u)):PP _).p) rfl (rH qg) ?_;intro hg0;clear qg;have g3:f 8=k:=(kO c 0 8 rfl rfl (λb=>by cases b)).1 hg0;have g4:=kO c 1 14 rfl rfl (λb=>by cases b);change kM _ _ _ f w2 Ext _;exact pI (P:=prog) _ _ rfl rfl g3 (λb=>g4.1 (by rw[hg0,b];rfl)) rfl
  .intro f w2 d c n;have g5:=tE c 0 2 rfl rfl rfl;have g6:=kO c 1 15 rfl rfl (λb=>by cases b);change kM _ _ _ f w2 Ext _;exact CW (P:=prog) _ _ rfl rfl g5 (λb=>g6.1 (by rw[b];rfl)) rfl
 .intro f e1 d c;have h:Ext p e1:=mV.nil d;have g7:f 16= .bool (j || ((k&&u))):=rM c 16 de rfl (λb=>by cases b);try simp only[g7]
  clear c;have y:=v.trans h;have b8:=b3.ext h;have b9:=M.ext h;clear fB b3 M h v;have HD1:Hid (vX (s,l,x) (s2,m,x2)=((j || (k&&u)) || (wK (s,l,x) (s2,m,x2)&&(decide (s=s2∨s=3)&&rN s2 x x2)))):=a8 (by rw[B.out,c9.out,<-b6.out,b7.out];rfl);obtain⟨g9,A⟩:=ex (j || (k&&u));rw[<-A];rw[<-A]at HD1;clear A B c9 b6 b7
  cases g9 with
  |true=>
   go_wp2;go_ret;exact⟨by rw[HD1.out]<;>rfl,y⟩
  |false=>
   obtain⟨e2,e3,e4,e5,e7,-⟩:=b8.cl [0,1,2,3,4];obtain⟨T,e8,e9,eA,eB,-⟩:=b9.cl [0,1,2,3,4];go_wp2_with fail;refine(yD i i _ _ (s,l,x) (s2,m,x2) e1 (CnR.mk' (bG.out.ext y) (a7.out.ext y)) (CnR.mk' (bR.out.ext y) (a9.out.ext y)) (by simp only;omega) b0.out.2.2).mono ?_;rintro e w5 ⟨rfl,X⟩;have E5:=y.trans X;have gA:=b8.ext X;have gG:=b9.ext X;clear e2 e3 e4 e5 e7 T e8 e9 eA eB b8 b9 y X;obtain⟨e2,e3,e4,e5,e7,-⟩:=gA.cl [0,1,2,3,4];obtain⟨T,e8,e9,eA,eB,-⟩:=gG.cl [0,1,2,3,4];obtain⟨gL,eC⟩:=ex (wK (s,l,x) (s2,m,x2));rw[<-eC]at HD1 ⊢;clear eC
   cases gL with
   |false=>
    go_wp2;go_ret;exact⟨by rw[HD1.out]<;>rfl,E5⟩
   |true=>
    have kept:=λw6 (b:Ext w w6)=>BJ s2 (.agg #[r,(a1,a2,a3),(a4,a5,a6)]) (.agg #[E,(F,H,I),(J,K,L)]) x x2 i i w6 (a7.out.ext b) (a9.out.ext b) om
    by_cases C:s=s2
    .have gT:(s==s2)=true:=by simpa using C
     have HDD:=a8 (show decide (s=s2∨s=3)=true from decide_eq_true (.inl C));clear C;exact Rj2
    have gT:(s==s2)=false:=by simpa using C
    by_cases N:s=3
    .have h0:(s==3)=true:=by simpa using N
     have HDD:=a8 (show decide (s=s2∨s=3)=true from decide_eq_true (.inr N));clear C N;exact Rj2
    .have h0:(s==3)=false:=by simpa using N
     have HF:Hid (vX (s,l,x) (s2,m,x2)=false):=a8 (by rw[HD1.out,decide_eq_false (show¬(s=s2∨s=3)by omega)];rfl);clear C N HD1;go_wp2;go_ret;exact⟨by rw[HF.out]<;>rfl,E5⟩
theorem KG{a b:Rat}:(qP a b==0)=decide (a=b):=by
 rw[<-XQ];unfold rN;rw[decide_eq_decide];constructor
 .rintro(⟨c, -⟩ |⟨c, -⟩ |⟨-,c⟩)
  .omega
  .omega
  .exact c
 .exactλc=> .inr (.inr ⟨rfl,c⟩)
theorem YQ{a:CR}(c:a.1≠2):yS a b bs=(((a.1==1)&&(b.1==2))&&wR a b bs):=by
 unfold yS;by_cases d:a.1=1
 .by_cases e:b.1=2
  .rw[if_pos ⟨d,e⟩,d,e];rfl
  .rw[if_neg (λc=>e c.2),if_neg (λh=>c h.1),beq_eq_false_iff_ne.2 e,gZ];rfl
 .rw[if_neg (λc=>d c.1),if_neg (λh=>c h.1),beq_eq_false_iff_ne.2 d];rfl
theorem YR{a:CR}(c:a.1=2):yS a b bs=(((b.1==1)&&(a.1==2))&&wR b a bs):=by
 unfold yS;rw[if_neg (λ_=>om)];by_cases d:b.1=1
 .rw[if_pos ⟨c,d⟩,c,d];rfl
 .rw[if_neg (λc=>d c.2),beq_eq_false_iff_ne.2 d];rfl
theorem IP(a b:CR)(c:List Bool):wR a b c=(((wK a b&&sG (mkV a.2.1) c)&&isW a.2.2)&&(qP b.2.2 (a.2.2+((1:Int):Rat))==0)):=by
 unfold wR;rw[KG,gY,gY]
theorem PQ(b Q:Nat)(b8 b9 u2:Value)(a c:CR)(bs:List Bool)(w:World)(bO:CnR b w b8 a)(bP:CnR b w b9 c)(bA:BL w u2 bs)(bR:a.2.1.length<=Q)(bS:c.2.1.length<=Q)(c2:2*Q<=1073741824)(bB:(2*Q+1)*(2*b+2)<=17179869180):
  Calls prog 54 #[b8,b9,u2] w λe w'=>e= .returned (.bool (yS a c bs))/\Ext w w':=by
 obtain⟨s,l,x⟩:=a;obtain⟨s2,m,x2⟩:=c;simp only at bR bS;have R:Hid (∀d,d<=2*Q->∀J,J<=2*b+2->(d+1)*J<=17179869180):=a8 λd h J a2=>aE (cW om a2) bB
 have S:=R;have R:Hid (∀d,d<=2*Q->∀J,J<=2*b+2->(d+1)*J<=34359738000):=a8 λd h J a2=>aE (S.out d h J a2) om
 have c3:2*b+2<=17179869180:=by have:=S.out 0 om (2*b+2) om;omega
 obtain⟨a,d,p,c,i,j,k,n,q,u,rfl,bC,hr⟩:=bO.op;have a3:=a8 bC;have T:=a8 hr;clear bC hr;obtain⟨F,H,I,v,y,A,B,C,D,E,rfl,bD,bE⟩:=bP.op;have a4:=a8 bD;have U:=a8 bE;clear bD bE;have bG:=a8 bA;clear bA bB;have c4:68719476736<=LIM:=lq;by_cases h2:s=2
 .have HSP:=a8 (YR (a:=(s,l,x)) (b:=(s2,m,x2)) (bs:=bs) h2);have a5:(s==2)=true:=by simpa using h2
  clear h2;go_enter func54,ntmps54;go_wp2_with fail;clear a5;obtain⟨c0,V⟩:=ex (s2==1);obtain⟨c1_,Y⟩:=ex (s==2);obtain⟨la,K⟩:=ex (wK (s2,m,x2) (s,l,x));obtain⟨wh,L⟩:=ex (sG (mkV m) bs);obtain⟨iw,M⟩:=ex (isW x2);obtain⟨z,N⟩:=ex (qP x (x2+((1:Int):Rat)));obtain⟨ce,O⟩:=ex (z==0);have HD:Hid (wR (s2,m,x2) (s,l,x) bs=(((la&&wh)&&iw)&&ce)):=a8 (by rw[IP,K,L,M,O,N]);have H0:=V.symm;have H1:=Y.symm;have HLA:=a8 K;have HWH:=a8 L;have HIW:=a8 M;have a6:=a8 N;have HCE:=O.symm;clear V Y K L M N O;obtain⟨w1,Z,e1,b1_,b2_,bT⟩:=lZ w #[s2,(F,H,I),v,(y,A,B),(C,D,E)] #[s,(a,d,p),c,(i,j,k),(n,q,u)] 39 39;rw[<-Z];clear Z;refine wpQ [(w,0),s2,c0,c0,kT c0 (kL ((w.heap.size+1),0)),kT c0 (kL s),kT c0 (kL c1_),kL (.bool (c0&&c1_)),kL (.bool (c0&&c1_)),kT ((c0&&c1_)) (kL (.agg #[s2,(F,H,I),v,(y,A,B),(C,D,E)])),kT ((c0&&c1_)) (kL (.agg #[s,(a,d,p),c,(i,j,k),(n,q,u)])),kT ((c0&&c1_)) (kL la),kL (.bool (((c0&&c1_))&&la)),kL (.bool (((c0&&c1_))&&la)),kT ((((c0&&c1_))&&la)) (kL (w,1)),kT ((((c0&&c1_))&&la)) (kL (F,H,I)),kT ((((c0&&c1_))&&la)) (tA (m.length*(b+1)) (mkV m)),kT ((((c0&&c1_))&&la)) (kL (u2)),kT ((((c0&&c1_))&&la)) (kL wh),kL (.bool (((((c0&&c1_))&&la))&&wh)),kL (.bool (((((c0&&c1_))&&la))&&wh)),kT ((((((c0&&c1_))&&la))&&wh)) (kL (w,2)),kT ((((((c0&&c1_))&&la))&&wh)) (kL (.agg #[v,(y,A,B),(C,D,E)])),kT ((((((c0&&c1_))&&la))&&wh)) (kL iw),kL (.bool (((((((c0&&c1_))&&la))&&wh))&&iw)),kL (.bool (((((((c0&&c1_))&&la))&&wh))&&iw)),kT ((((((((c0&&c1_))&&la))&&wh))&&iw)) (kL ((w.heap.size+1),2)),kT ((((((((c0&&c1_))&&la))&&wh))&&iw)) (kL (.agg #[c,(i,j,k),(n,q,u)])),kT ((((((((c0&&c1_))&&la))&&wh))&&iw)) (kL (w,2)),kT ((((((((c0&&c1_))&&la))&&wh))&&iw)) (kL (.agg #[v,(y,A,B),(C,D,E)])),kT ((((((((c0&&c1_))&&la))&&wh))&&iw)) (lV ((1:Int):Rat) 1),kT ((((((((c0&&c1_))&&la))&&wh))&&iw)) (lV (x2+((1:Int):Rat)) (b+1+1)),kT ((((((((c0&&c1_))&&la))&&wh))&&iw)) (kL z),kT ((((((((c0&&c1_))&&la))&&wh))&&iw)) (kL ce),kL (.bool (((((((((c0&&c1_))&&la))&&wh))&&iw))&&ce)),kL (.bool (((((((((c0&&c1_))&&la))&&wh))&&iw))&&ce))] [] [0,1,2,3,4,5,6,7,8,9,10,11,12,13,14,15,16,17,18,19,20,21,22,23,24,25,26,27,28,29,30,31,32,33,34,35] ?_ ?_
  .refine⟨oL,?_,oL,oL,?_,?_,?_,?_,oL,?_,?_,?_,?_,oL,?_,?_,?_,?_,?_,?_,oL,?_,?_,?_,?_,oL,?_,?_,?_,?_,?_,?_,?_,?_,?_,oL,trivial⟩
   .exact vU7
   .exact Wq3
   .intro f w2 hG hp hl;have hE:Ext w1 w2:=hG;have qg:=kO hp 1 3 rfl rfl (λh=>by cases h);refine kS (p:=(kL (.int .i64 s):PP _).p) rfl (lS qg) ?_;exact vH0
   .intro f w2 hG hp hl;have qg:=kO hp 1 3 rfl rfl (λh=>by cases h);refine kS (p:=(kL (.bool c1_):PP _).p) rfl (lS qg) ?_;intro hg0;clear qg;have c1:f 5=s:=(kO hp 0 5 rfl rfl (λh=>by cases h)).1 hg0;exact DG6
   .exact iv4
   .intro f w2 hG hp hl;have hE:Ext w1 w2:=hG;have qg:=kO hp 0 8 rfl rfl (λh=>by cases h);refine kS (p:=(kL (.agg #[.int .i64 s2,.slice F H I,.bool v,.slice y A B,.slice C D E]):PP _).p) rfl (lS qg) ?_;exact Ir7
   .intro f w2 hG hp hl;have hE:Ext w1 w2:=hG;have qg:=kO hp 0 8 rfl rfl (λh=>by cases h);refine kS (p:=(kL (.agg #[.int .i64 s,.slice a d p,.bool c,.slice i j k,.slice n q u]):PP _).p) rfl (lS qg) ?_;exact TI9
   .intro f w2 hG hp hl;have hE:Ext w1 w2:=hG;have hS:=hE.size;have qg:=kO hp 2 8 rfl rfl (λh=>by cases h);refine kS (p:=(kL (.bool la):PP _).p) rfl (lS qg) ?_;intro hg0;clear qg;have a7:f 9= .agg #[s2,(F,H,I),v,(y,A,B),(C,D,E)]:=(kO hp 0 9 rfl rfl (λh=>by cases h)).1 hg0;have a9:f 10= .agg #[s,(a,d,p),c,(i,j,k),(n,q,u)]:=(kO hp 1 10 rfl rfl (λh=>by cases h)).1 hg0;change kM _ _ _ f w2 Ext _;refine oC #[f 9,f 10] func107 rfl rfl ?_;rw[a7,a9];refine(yD b b _ _ (s2,m,x2) (s,l,x) _ (CnR.mk' (a4.out.ext (e1.trans hE)) (U.out.ext (e1.trans hE))) (CnR.mk' (a3.out.ext (e1.trans hE)) (T.out.ext (e1.trans hE))) (by simp only;omega) (R.out (l.length+m.length) om (b+b+2) om)).mono ?_;exact Et5
   .exact Bw1
   .exact xf9
   .intro f w2 hG hp hl;have hE:Ext w1 w2:=hG;have qg:=kO hp 1 13 rfl rfl (λh=>by cases h);refine kS (p:=(kL (.slice F H I):PP _).p) rfl (lS qg) ?_;exact yR4
   .intro f w2 hG hp hl;have hE:Ext w1 w2:=hG;have hS:=hE.size;have qg:=kO hp 1 13 rfl rfl (λh=>by cases h);refine kS (p:=(tA (m.length*(b+1)) (mkV m):PP _).p) rfl (lS qg) ?_;intro hg0;clear qg;have b0:f 15=(F,H,I):=(kO hp 0 15 rfl rfl (λh=>by cases h)).1 hg0;change kM _ _ _ f w2 Ext _;refine oC #[f 15] func50 rfl rfl ?_;rw[b0];refine(nF b _ m _ (a4.out.ext (e1.trans hE)) om (R.out m.length om (b+1) om)).mono ?_;exact EL7
   .exact uU1
   .intro f w2 hG hp hl;have hE:Ext w1 w2:=hG;have hS:=hE.size;have qg:=kO hp 3 13 rfl rfl (λh=>by cases h);refine kS (p:=(kL (.bool wh):PP _).p) rfl (lS qg) ?_;intro hg0;clear qg;have b1:=(kO hp 0 16 rfl rfl (λ_=>hE)).1 hg0;have b2:f 17=u2:=(kO hp 1 17 rfl rfl (λh=>by cases h)).1 hg0;change kM _ _ _ f w2 Ext _;refine oC #[f 16,f 17] func103 rfl rfl ?_;rw[b2];refine(vL (m.length*(b+1)) _ _ (mkV m) bs _ (b1.tl (by have:=S.out m.length om (b+1) om;rw[dT]at this;omega)) (bG.out.ext (e1.trans hE)) (by have:=S.out m.length om (b+1) om;rw[dT]at this;omega) (λb3 b4=>(tK m).1.2 b3 b4)).mono ?_;exact oB2
   .exact io8
   .exact CP1
   .intro f w2 hG hp hl;have hE:Ext w1 w2:=hG;have qg:=kO hp 1 20 rfl rfl (λh=>by cases h);refine kS (p:=(kL (.agg #[.bool v,.slice y A B,.slice C D E]):PP _).p) rfl (lS qg) ?_;exact sX4
   .intro f w2 hG hp hl;have hE:Ext w1 w2:=hG;have hS:=hE.size;have qg:=kO hp 1 20 rfl rfl (λh=>by cases h);refine kS (p:=(kL (.bool iw):PP _).p) rfl (lS qg) ?_;intro hg0;clear qg;have b5:f 22= .agg #[v,(y,A,B),(C,D,E)]:=(kO hp 0 22 rfl rfl (λh=>by cases h)).1 hg0;change kM _ _ _ f w2 Ext _;refine oC #[f 22] func106 rfl rfl ?_;rw[b5];refine(rQ _ x2 b _ (U.out.ext (e1.trans hE)) om).mono ?_;exact rB8
   .exact Mg5
   .exact oj2
   .intro f w2 hG hp hl;have hE:Ext w1 w2:=hG;have qg:=kO hp 1 25 rfl rfl (λh=>by cases h);refine kS (p:=(kL (.agg #[.bool c,.slice i j k,.slice n q u]):PP _).p) rfl (lS qg) ?_;exact iB8
   .exact Yt7
   .intro f w2 hG hp hl;have hE:Ext w1 w2:=hG;have qg:=kO hp 1 25 rfl rfl (λh=>by cases h);refine kS (p:=(kL (.agg #[.bool v,.slice y A B,.slice C D E]):PP _).p) rfl (lS qg) ?_;exact vf6
   .exact XT5
   .intro f w2 hG hp hl;have hE:Ext w1 w2:=hG;have hS:=hE.size;have qg:=kO hp 3 25 rfl rfl (λh=>by cases h);refine kS (p:=(lV (x2+((1:Int):Rat)) (b+1+1):PP _).p) rfl (lS qg) ?_;intro hg0;clear qg;have b6:f 29= .agg #[v,(y,A,B),(C,D,E)]:=(kO hp 0 29 rfl rfl (λh=>by cases h)).1 hg0;have a0:=(kO hp 1 30 rfl rfl (λ_=>hE)).1 hg0;change kM _ _ _ f w2 Ext _;refine oC #[f 29,f 30] func98 rfl rfl ?_;rw[b6];refine(rP _ _ x2 ((1:Int):Rat) b 1 _ (U.out.ext (e1.trans hE)) (a0.1.isR a0.2 om) om).mono ?_;exact pF5
   .intro f w2 hG hp hl;have hE:Ext w1 w2:=hG;have hS:=hE.size;have qg:=kO hp 3 25 rfl rfl (λh=>by cases h);refine kS (p:=(kL (.int .i64 z):PP _).p) rfl (lS qg) ?_;intro hg0;clear qg;have b7:f 27= .agg #[c,(i,j,k),(n,q,u)]:=(kO hp 0 27 rfl rfl (λh=>by cases h)).1 hg0;have a1:=(kO hp 1 31 rfl rfl (λ_=>hE)).1 hg0;change kM _ _ _ f w2 Ext _;refine oC #[f 27,f 31] func108 rfl rfl ?_;rw[b7];refine(pO _ _ x (x2+((1:Int):Rat)) b (b+1+1) _ (T.out.ext (e1.trans hE)) (a1.1.isR a1.2 om) om).mono ?_;rintro e w' ⟨rfl,h2⟩;exact⟨_,rfl,h2,by rw[a6.out]<;>rfl⟩
   .exact Dj5
   .exact iX3
  .exact Zl2
 .have HSP:=a8 (YQ (a:=(s,l,x)) (b:=(s2,m,x2)) (bs:=bs) h2);have a5:(s==2)=false:=by simpa using h2
  clear h2;go_enter func54,ntmps54;go_wp2_with fail;clear a5;obtain⟨c0,V⟩:=ex (s==1);obtain⟨c1_,Y⟩:=ex (s2==2);obtain⟨la,K⟩:=ex (wK (s,l,x) (s2,m,x2));obtain⟨wh,L⟩:=ex (sG (mkV l) bs);obtain⟨iw,M⟩:=ex (isW x);obtain⟨z,N⟩:=ex (qP x2 (x+((1:Int):Rat)));obtain⟨ce,O⟩:=ex (z==0);have HD:Hid (wR (s,l,x) (s2,m,x2) bs=(((la&&wh)&&iw)&&ce)):=a8 (by rw[IP,K,L,M,O,N]);have H0:=V.symm;have H1:=Y.symm;have HLA:=a8 K;have HWH:=a8 L;have HIW:=a8 M;have a6:=a8 N;have HCE:=O.symm;clear V Y K L M N O;obtain⟨w1,Z,e1,b1_,b2_,bT⟩:=lZ w #[s,(a,d,p),c,(i,j,k),(n,q,u)] #[s2,(F,H,I),v,(y,A,B),(C,D,E)] 39 39;rw[<-Z];clear Z;refine wpQ [(w,0),s,c0,c0,kT c0 (kL ((w.heap.size+1),0)),kT c0 (kL s2),kT c0 (kL c1_),kL (.bool (c0&&c1_)),kL (.bool (c0&&c1_)),kT ((c0&&c1_)) (kL (.agg #[s,(a,d,p),c,(i,j,k),(n,q,u)])),kT ((c0&&c1_)) (kL (.agg #[s2,(F,H,I),v,(y,A,B),(C,D,E)])),kT ((c0&&c1_)) (kL la),kL (.bool (((c0&&c1_))&&la)),kL (.bool (((c0&&c1_))&&la)),kT ((((c0&&c1_))&&la)) (kL (w,1)),kT ((((c0&&c1_))&&la)) (kL (a,d,p)),kT ((((c0&&c1_))&&la)) (tA (l.length*(b+1)) (mkV l)),kT ((((c0&&c1_))&&la)) (kL (u2)),kT ((((c0&&c1_))&&la)) (kL wh),kL (.bool (((((c0&&c1_))&&la))&&wh)),kL (.bool (((((c0&&c1_))&&la))&&wh)),kT ((((((c0&&c1_))&&la))&&wh)) (kL (w,2)),kT ((((((c0&&c1_))&&la))&&wh)) (kL (.agg #[c,(i,j,k),(n,q,u)])),kT ((((((c0&&c1_))&&la))&&wh)) (kL iw),kL (.bool (((((((c0&&c1_))&&la))&&wh))&&iw)),kL (.bool (((((((c0&&c1_))&&la))&&wh))&&iw)),kT ((((((((c0&&c1_))&&la))&&wh))&&iw)) (kL ((w.heap.size+1),2)),kT ((((((((c0&&c1_))&&la))&&wh))&&iw)) (kL (.agg #[v,(y,A,B),(C,D,E)])),kT ((((((((c0&&c1_))&&la))&&wh))&&iw)) (kL (w,2)),kT ((((((((c0&&c1_))&&la))&&wh))&&iw)) (kL (.agg #[c,(i,j,k),(n,q,u)])),kT ((((((((c0&&c1_))&&la))&&wh))&&iw)) (lV ((1:Int):Rat) 1),kT ((((((((c0&&c1_))&&la))&&wh))&&iw)) (lV (x+((1:Int):Rat)) (b+1+1)),kT ((((((((c0&&c1_))&&la))&&wh))&&iw)) (kL z),kT ((((((((c0&&c1_))&&la))&&wh))&&iw)) (kL ce),kL (.bool (((((((((c0&&c1_))&&la))&&wh))&&iw))&&ce)),kL (.bool (((((((((c0&&c1_))&&la))&&wh))&&iw))&&ce))] [] [0,1,2,3,4,5,6,7,8,9,10,11,12,13,14,15,16,17,18,19,20,21,22,23,24,25,26,27,28,29,30,31,32,33,34,35] ?_ ?_
  .refine⟨oL,?_,oL,oL,?_,?_,?_,?_,oL,?_,?_,?_,?_,oL,?_,?_,?_,?_,?_,?_,oL,?_,?_,?_,?_,oL,?_,?_,?_,?_,?_,?_,?_,?_,?_,oL,trivial⟩
   .exact vU7
   .exact Wq3
   .intro f w2 hG hp hl;have hE:Ext w1 w2:=hG;have qg:=kO hp 1 3 rfl rfl (λh=>by cases h);refine kS (p:=(kL (.int .i64 s2):PP _).p) rfl (lS qg) ?_;exact vH0
   .intro f w2 hG hp hl;have qg:=kO hp 1 3 rfl rfl (λh=>by cases h);refine kS (p:=(kL (.bool c1_):PP _).p) rfl (lS qg) ?_;intro hg0;clear qg;have c1:f 5=s2:=(kO hp 0 5 rfl rfl (λh=>by cases h)).1 hg0;exact DG6
   .exact iv4
   .intro f w2 hG hp hl;have hE:Ext w1 w2:=hG;have qg:=kO hp 0 8 rfl rfl (λh=>by cases h);refine kS (p:=(kL (.agg #[.int .i64 s,.slice a d p,.bool c,.slice i j k,.slice n q u]):PP _).p) rfl (lS qg) ?_;exact Ir7
   .intro f w2 hG hp hl;have hE:Ext w1 w2:=hG;have qg:=kO hp 0 8 rfl rfl (λh=>by cases h);refine kS (p:=(kL (.agg #[.int .i64 s2,.slice F H I,.bool v,.slice y A B,.slice C D E]):PP _).p) rfl (lS qg) ?_;exact TI9
   .intro f w2 hG hp hl;have hE:Ext w1 w2:=hG;have hS:=hE.size;have qg:=kO hp 2 8 rfl rfl (λh=>by cases h);refine kS (p:=(kL (.bool la):PP _).p) rfl (lS qg) ?_;intro hg0;clear qg;have a7:f 9= .agg #[s,(a,d,p),c,(i,j,k),(n,q,u)]:=(kO hp 0 9 rfl rfl (λh=>by cases h)).1 hg0;have a9:f 10= .agg #[s2,(F,H,I),v,(y,A,B),(C,D,E)]:=(kO hp 1 10 rfl rfl (λh=>by cases h)).1 hg0;change kM _ _ _ f w2 Ext _;refine oC #[f 9,f 10] func107 rfl rfl ?_;rw[a7,a9];refine(yD b b _ _ (s,l,x) (s2,m,x2) _ (CnR.mk' (a3.out.ext (e1.trans hE)) (T.out.ext (e1.trans hE))) (CnR.mk' (a4.out.ext (e1.trans hE)) (U.out.ext (e1.trans hE))) (by simp only;omega) (R.out (m.length+l.length) om (b+b+2) om)).mono ?_;exact Et5
   .exact Bw1
   .exact xf9
   .intro f w2 hG hp hl;have hE:Ext w1 w2:=hG;have qg:=kO hp 1 13 rfl rfl (λh=>by cases h);refine kS (p:=(kL (.slice a d p):PP _).p) rfl (lS qg) ?_;exact yR4
   .intro f w2 hG hp hl;have hE:Ext w1 w2:=hG;have hS:=hE.size;have qg:=kO hp 1 13 rfl rfl (λh=>by cases h);refine kS (p:=(tA (l.length*(b+1)) (mkV l):PP _).p) rfl (lS qg) ?_;intro hg0;clear qg;have b0:f 15=(a,d,p):=(kO hp 0 15 rfl rfl (λh=>by cases h)).1 hg0;change kM _ _ _ f w2 Ext _;refine oC #[f 15] func50 rfl rfl ?_;rw[b0];refine(nF b _ l _ (a3.out.ext (e1.trans hE)) om (R.out l.length om (b+1) om)).mono ?_;exact EL7
   .exact uU1
   .intro f w2 hG hp hl;have hE:Ext w1 w2:=hG;have hS:=hE.size;have qg:=kO hp 3 13 rfl rfl (λh=>by cases h);refine kS (p:=(kL (.bool wh):PP _).p) rfl (lS qg) ?_;intro hg0;clear qg;have b1:=(kO hp 0 16 rfl rfl (λ_=>hE)).1 hg0;have b2:f 17=u2:=(kO hp 1 17 rfl rfl (λh=>by cases h)).1 hg0;change kM _ _ _ f w2 Ext _;refine oC #[f 16,f 17] func103 rfl rfl ?_;rw[b2];refine(vL (l.length*(b+1)) _ _ (mkV l) bs _ (b1.tl (by have:=S.out l.length om (b+1) om;rw[dT]at this;omega)) (bG.out.ext (e1.trans hE)) (by have:=S.out l.length om (b+1) om;rw[dT]at this;omega) (λb3 b4=>(tK l).1.2 b3 b4)).mono ?_;exact oB2
   .exact io8
   .exact CP1
   .intro f w2 hG hp hl;have hE:Ext w1 w2:=hG;have qg:=kO hp 1 20 rfl rfl (λh=>by cases h);refine kS (p:=(kL (.agg #[.bool c,.slice i j k,.slice n q u]):PP _).p) rfl (lS qg) ?_;exact sX4
   .intro f w2 hG hp hl;have hE:Ext w1 w2:=hG;have hS:=hE.size;have qg:=kO hp 1 20 rfl rfl (λh=>by cases h);refine kS (p:=(kL (.bool iw):PP _).p) rfl (lS qg) ?_;intro hg0;clear qg;have b5:f 22= .agg #[c,(i,j,k),(n,q,u)]:=(kO hp 0 22 rfl rfl (λh=>by cases h)).1 hg0;change kM _ _ _ f w2 Ext _;refine oC #[f 22] func106 rfl rfl ?_;rw[b5];refine(rQ _ x b _ (T.out.ext (e1.trans hE)) om).mono ?_;exact rB8
   .exact Mg5
   .exact oj2
   .intro f w2 hG hp hl;have hE:Ext w1 w2:=hG;have qg:=kO hp 1 25 rfl rfl (λh=>by cases h);refine kS (p:=(kL (.agg #[.bool v,.slice y A B,.slice C D E]):PP _).p) rfl (lS qg) ?_;exact iB8
   .exact Yt7
   .intro f w2 hG hp hl;have hE:Ext w1 w2:=hG;have qg:=kO hp 1 25 rfl rfl (λh=>by cases h);refine kS (p:=(kL (.agg #[.bool c,.slice i j k,.slice n q u]):PP _).p) rfl (lS qg) ?_;exact vf6
   .exact XT5
   .intro f w2 hG hp hl;have hE:Ext w1 w2:=hG;have hS:=hE.size;have qg:=kO hp 3 25 rfl rfl (λh=>by cases h);refine kS (p:=(lV (x+((1:Int):Rat)) (b+1+1):PP _).p) rfl (lS qg) ?_;intro hg0;clear qg;have b6:f 29= .agg #[c,(i,j,k),(n,q,u)]:=(kO hp 0 29 rfl rfl (λh=>by cases h)).1 hg0;have a0:=(kO hp 1 30 rfl rfl (λ_=>hE)).1 hg0;change kM _ _ _ f w2 Ext _;refine oC #[f 29,f 30] func98 rfl rfl ?_;rw[b6];refine(rP _ _ x ((1:Int):Rat) b 1 _ (T.out.ext (e1.trans hE)) (a0.1.isR a0.2 om) om).mono ?_;exact pF5
   .intro f w2 hG hp hl;have hE:Ext w1 w2:=hG;have hS:=hE.size;have qg:=kO hp 3 25 rfl rfl (λh=>by cases h);refine kS (p:=(kL (.int .i64 z):PP _).p) rfl (lS qg) ?_;intro hg0;clear qg;have b7:f 27= .agg #[v,(y,A,B),(C,D,E)]:=(kO hp 0 27 rfl rfl (λh=>by cases h)).1 hg0;have a1:=(kO hp 1 31 rfl rfl (λ_=>hE)).1 hg0;change kM _ _ _ f w2 Ext _;refine oC #[f 27,f 31] func108 rfl rfl ?_;rw[b7];refine(pO _ _ x2 (x+((1:Int):Rat)) b (b+1+1) _ (U.out.ext (e1.trans hE)) (a1.1.isR a1.2 om) om).mono ?_;rintro e w' ⟨rfl,h2⟩;exact⟨_,rfl,h2,by rw[a6.out]<;>rfl⟩
   .exact Dj5
   .exact iX3
  .exact Zl2
def tN:List CE->Nat
 | []=>0
 |c::l=>(lQ (c.2.1.map Prod.snd)+lQ [c.2.2])+tN l
theorem NC(b:List CE)(c:CE):tN (b++ [c])=tN b+lQ (c.2.1.map Prod.snd)+lQ [c.2.2]:=by
 induction b with
 |nil=>simp [tN]
 |cons e b d=>simp only[eR,tN,d];omega
def J9(c:CE):Bool:=nU c.2.1 || decide (6<mH c.2.2)
def o7(l:List CE):Bool:=l.any J9 || (decide (12<l.length) || decide (18<tN l))
theorem GP(b:K∈E)(c:J9 K=true):o7 E=true:=by
 unfold o7;rw[fM.2 ⟨K,b,c⟩];rfl
theorem OD(c:∀b∈E,J9 b=false):o7 E=(decide (12<E.length) || decide (18<tN E)):=by
 unfold o7;rw[fS.2 λb d=>by rw[c b d];decide];rfl
theorem GN(c:o7 E=false):E.length<=12/\∀b∈E,b.2.1.length<=30/\(∀d∈b.2.1,mH d.2<=6)/\mH b.2.2<=6:=by
 unfold o7 at c;simp only[eH,decide_eq_false_iff_not,fS]at c;refine⟨om,λb i=> ?_⟩;have e:=c.1 b i;unfold J9 at e;simp only[fQ,decide_eq_true_iff,not_or,Bool.not_eq_true]at e;obtain⟨h,j⟩:=tU (l:=b.2.1.map Prod.snd) e.1;rw[aF]at h;exact⟨h,λd k=>j d.2 (iD k),om⟩
def PP.oneQ{S:Nat}(cs:Array Value):PP S:=⟨false,λu w=>∃(g:Nat),S<=g/\u= .slice g 1 1/\Bx 37 w g cs,λ_ _ _ h hp=>(let ⟨g,h0,h1,h2⟩:=hp;⟨g,h0,h1,h2.ext h⟩),λ_ _ hg _ _ _ h hp=>(let ⟨g,h0,h1,h2⟩:=hp;⟨g,h0,h1,h2.chg h om⟩)⟩
theorem TU{w:World}{g:Nat}(c:Bx 37 w g #[x,(p,d,h),(A,m,C)])(e:o9 w (.agg #[x,(p,d,h),(A,m,C)]) T):SLQ w (.slice g 1 1) [T]:=by
 refine⟨some ⟨g,0,none⟩,1,rfl,lr,om,.inr ⟨g,0,rfl,λi _ hx=> ?_⟩⟩;have j:i=0:=EV3;subst j;simp only[bL,Option.some.injEq]at hx;subst hx;exact⟨_,rfl,λb _ k=>by rw[show 0+0*3+b=b by omega,c.cell];exact k,e⟩
theorem S3{g o:Nat}{t:Value}(h:j.cell? (g,o+2)=some e)(i:j.cell? (g,o+3)=some O)(k:j.cell? (g,o+4)=some t):∀(c:Nat) (d:Value),(#[e,O,t]:Array Value)[c]? =some d->j.cell? (g,o+2+c)=some d:=by
 intro c d b;match c,b with
 |0,b=>cases b;exact h
 |1,b=>cases b;exact i
 |2,b=>cases b;exact k
 |c+3,b=>simp at b
theorem MB(b3:Value)(j:List CE)(w:World)(b4:CLE w b3 j)(m:j.length<=281474976710656):
  Calls prog 44 #[b3] w λe w'=>e= .returned (.bool (o7 j))/\Ext w w':=by
 obtain⟨_,u,b5,L,rfl,_,b6⟩:=b4.at;rw[<-L]at m;have M:=a8 L;have c3:=a8 b6;clear L b6 b4;go_enter func44,ntmps44;go_wp2_with fail;go_loopw [3,4] (λc4 N wr=>∃(b k:Nat),b<=u/\N= .int .i64 (b:Int)/\c4= .int .i64 (k:Int)/\Hid (k=tN (j.take b)/\∀l∈j.take b,J9 l=false)/\k<=24*b/\Ext w wr) (λ_ N _=>((u:Int) - intOf N).toNat)
 case atStart=>exact ⟨0,0,zl,rfl,rfl,a8 ⟨rfl,λl m=>by simp at m⟩,zl,rE⟩
 case round=>
  obtain⟨b,k,c5,rfl,rfl,r,_,hE0⟩:=hrel;rcases aI c5 with O |O
  .subst O;have c6:¬((b:Int)<b):=om;have h:o7 j=(decide (12<b) || decide (18<k)):=by
    have n:=r.out;rw[M.out,bN]at n;rw[OD n.2,n.1,<-M.out]
   have Q:=a8 h;clear h;by_cases b7:12<b
   .have c7:(12:Int)<(b:Int):=om;have HR:Hid (o7 j=true):=a8 (by rw[Q.out,decide_eq_true b7];rfl);exact Dp3
   .have c7:¬(12:Int)<(b:Int):=om;by_cases b8:18<k
    .have b9:(18:Int)<(k:Int):=om;have HR:Hid (o7 j=true):=a8 (by rw[Q.out,decide_eq_true b8,jZ]);exact Dp3
    .have b9:¬(18:Int)<(k:Int):=om;have g4:decide ((18:Int)<(k:Int))=false:=decide_eq_false b9;have HR:Hid (o7 j=false):=a8 (by rw[Q.out,decide_eq_false b8,decide_eq_false b7];rfl);exact Dp3
  .have c6:(b:Int)<u:=om;obtain⟨⟨_,l,⟨D,v,x⟩⟩,E⟩:∃c8,j[b]? =some c8:=⟨_,aA (by rw[<-M.out];exact O)⟩;obtain⟨g,s,rfl,c9,e0,e1,R,S,T,U,V,X,Y, -, -,A,Z,a0⟩:=c3.out b _ E;simp only at A Z a0;obtain⟨a1,a2,a3,a4,a5⟩:=A wr hE0;have bA:=a8 Z;have a6:=a8 a0;have a7:=a8 A;have a9:=a8 (aD (aM E) (mP E));obtain⟨p,bB⟩:=ex (b+1);have g5:(b:Int)+1=(p:Int):=om;have e2:p<=u:=om;have b0:=a8 bB;clear A E Z a0 bB;go_wp2_with fail;refine(zU _ l wr (bA.out.ext hE0)).mono ?_;rintro e bC ⟨rfl,e3⟩;obtain⟨e4,c⟩:=ex (nU l);rw[<-c];have F:=a8 c;clear c;have H:=hE0.trans e3;clear a1 a2 a3 a4 a5
   cases e4 with
   |true=>
    have HR:Hid (o7 j=true):=a8 (GP a9.out.1 (by unfold J9;simp only;rw[<-F.out];rfl));go_wp2;go_ret;exact⟨by rw[HR.out]<;>rfl,H⟩
   |false=>
    obtain⟨bD,bE⟩:=tU (l:=l.map Prod.snd) F.out.symm;rw[aF]at bD;have e5:=SO (l:=l.map Prod.snd) F.out.symm;have e6:=a8 bE;obtain⟨a1,a2,a3,a4,a5⟩:=a7.out bC H;clear bE;go_wp2_with fail;refine(oO _ D v x bC (a6.out.ext H).1 a6.out.2.2.2).mono ?_;rintro e q ⟨rfl,e7⟩;have y:=H.trans e7;obtain⟨t,b1⟩:=ex (v.length+x.length);rw[<-b1];have I:=a8 b1;clear b1 a1 a2 a3 a4 a5;by_cases bG:6<t
    .have e8:(6:Int)<(t:Int):=om;have HR:Hid (o7 j=true):=a8 (GP a9.out.1 (by unfold J9 mH;simp only;rw[<-I.out,decide_eq_true bG,jZ]));go_wp2;go_ret;exact⟨by rw[HR.out]<;>rfl,y⟩
    .have e8:¬(6:Int)<(t:Int):=om;obtain⟨B,J⟩:=ex (lQ (l.map Prod.snd));obtain⟨z,K⟩:=ex (lQ [((D,v,x):RE)]);have g6:z<=6:=by
      rw[K];have:=VM (D,v,x);unfold mH at this;simp only[lQ]at this ⊢;have:=I.out;omega
     rw[<-J]at e5;have bO:k+B+z=tN (j.take p)/\∀l∈j.take p,J9 l=false:=by
      rw[b0.out,a9.out.2];refine⟨by rw[NC,<-r.out.1,J,K],λe9 eA=> ?_⟩;rcases aW.1 eA with n |n
      .exact r.out.2 e9 n
      .rw[aC]at n;rw[n];unfold J9 mH;simp only;rw[<-F.out,<-I.out,decide_eq_false bG];rfl
     have bP:=a8 bO;have HQ:=a8 (aD J K);have eB:k+B+z<=24*p:=by have:=b0.out;omega
     obtain⟨t1,bR⟩:=ex (k+B);obtain⟨t2,bS⟩:=ex (t1+z);have g7:t1<=10000000000000000:=om;have bT:(k:Int)+B=(t1:Int):=om;have c0:(t1:Int)+z=(t2:Int):=om;have eC:Hid (t2=tN (j.take p)/\∀l∈j.take p,J9 l=false):=a8 (by rw[bS,bR];exact bP.out);have eD:t2<=24*p:=om;have c1:=a8 (aD bT c0);have c2:v.length+x.length<=6:=by have:=I.out;omega
     have eE:=a8 c2;clear bO J K bP bR bS bT c0 c2 eB;go_wp2_with fail;refine wpQ [k,(g,s,u,b5),b,(g,s+b*5),(g,s+b*5+1),(c9,e0,e1),B,t1,(g,s,u,b5),b,(g,s+b*5),(g,s+b*5+2),kL (.agg #[R,(S,T,U),(V,X,Y)]),PP.oneQ #[R,(S,T,U),(V,X,Y)],z,t2,t2] [(0,16,3)] [0,1,2,3,4,5,6,7,8,9,10,11,12,13,14,15,16] ?_ ?_
     .refine⟨?_,oL,oL,oL,oL,?_,?_,?_,oL,oL,oL,oL,?_,?_,?_,?_,oL,trivial⟩
      .intro f d h c m;have g9:f 16=k:=m.1 rfl;exact DG6
      .intro f d h c m;have i:Ext q d:=h;have gA:=tE c 0 4 rfl rfl rfl;have A:=(a7.out _ (y.trans i)).2.1;exact DG6
      .intro f d h c m;have i:Ext q d:=h;have eG:=tE c 0 5 rfl rfl rfl;change kM _ _ _ f d Ext _;refine oC #[f 5] func28 rfl rfl ?_;rw[eG];refine(xE _ l _ (bA.out.ext (y.trans i)) bD (λe C=>e6.out e.2 (iD C))).mono ?_;exact cv9
      .intro f d h c m;have i:Ext q d:=h;have r:=i.size;have gG:=tE c 0 0 rfl rfl rfl;have gL:=tE c 1 6 rfl rfl rfl;have eN:=c1.out.1;simp only[kM];go_simp;exact⟨_,rfl,rE,ci (cC _ ⟨om,om⟩)⟩
      .intro f d h c m;have i:Ext q d:=h;have fA:=tE c 0 11 rfl rfl rfl;change kM _ _ _ f d Ext _;have b2:=a7.out _ (y.trans i);exact kW (P:=prog) _ _ g (s+b*5+2) _ _ rfl rfl fA (S3 b2.2.2.1 b2.2.2.2.1 b2.2.2.2.2) underlying37 rfl kr rfl
      .intro f d h c m;have i:Ext q d:=h;have r:=i.size;have fB:=tE c 0 12 rfl rfl rfl;change kM _ _ _ f d Ext _;exact lH (P:=prog) 41 37 1 3 _ [.agg #[R,(S,T,U),(V,X,Y)]] rfl rfl underlying41 kr kr (by simp only[Act.eval];exact congrArg (λfC=> [(0,fC)]) fB) rfl om om om (pW.one rfl (yA rfl rfl rfl)).size (λw' C fD=>⟨_,r,rfl,fD⟩)
      .intro f d h c m;have i:Ext q d:=h;have fE:=kO c 0 13 rfl rfl (λ_=>i);change kM _ _ _ f d Ext _;refine oC #[f 13] func27 rfl rfl ?_;obtain⟨_, -,fG,g0⟩:=fE;rw[fG];have g1:=TU g0 (a6.out.ext (y.trans i));refine(tO _ [((D,v,x):RE)] _ g1 sm (λe C=>by rw[aC]at C;rw[C];exact eE.out)).mono ?_;exact YR2
      .intro f d h c m;have i:Ext q d:=h;have r:=i.size;have gT:=tE c 0 7 rfl rfl rfl;have h0:=tE c 1 14 rfl rfl rfl;have eN:=c1.out.2;simp only[kM];go_simp;exact⟨_,rfl,rE,ci (cC _ ⟨om,om⟩)⟩
     .intro f d h c;have i:Ext q d:=mV.nil h;have g2:f 16=t2:=rM c 16 de rfl (λn=>by cases n);try simp only[g2]
      clear c;have g3:=y.trans i;clear i;go_wp2;go_roundw
      case rel=>exact ⟨p,t2,e2,rfl,rfl,eC,eD,g3⟩
      case measure=>have:=b0.out;simp[intOf];omega
def BA(a b:CE):Bool:=decide (a.1=b.1)&&(decide (a.2.1=b.2.1)&&decide ((a.2.2.1=b.2.2.1/\a.2.2.2.1=b.2.2.2.1)/\a.2.2.2.2=b.2.2.2.2))
theorem WA{a b:CE}:BA a b=true↔a=b:=by
 obtain⟨s,l,xb,xs,xt⟩:=a;obtain⟨s2,m,yb,ys,yt⟩:=b;unfold BA;simp only[aU,decide_eq_true_iff,Prod.mk.injEq];constructor
 .rintro⟨h1,h2,⟨h3,h4⟩,h5⟩;exact⟨h1,h2,h3,h4,h5⟩
 .rintro⟨h1,h2,h3,h4,h5⟩;exact⟨h1,h2,⟨h3,h4⟩,h5⟩
theorem SA(a:CE):BA a a=true:=WA.2 rfl
theorem IK(y z:Value)(a e:CE)(w:World)(I:CnE w y a)(J:CnE w z e):
  Calls prog 16 #[y,z] w λr K=>r= .returned (.bool (BA a e))/\Ext w K:=by
 obtain⟨b,h,⟨i,j,k⟩⟩:=a;obtain⟨c,l,⟨m,n,p⟩⟩:=e;obtain⟨a,L,s,e,M,N,O,Q,R,S,rfl,A,B⟩:=I.op;have T:=a8 A;have U:=a8 B;clear A B;obtain⟨V,X,Y,Z,a0,a1,a2,a3,a4,a5,rfl,C,D⟩:=J.op;have a6:=a8 C;have a7:=a8 D;clear C D;obtain⟨a9,hw1,e1,E,F,_⟩:=lZ w #[b,(a,L,s),e,(M,N,O),(Q,R,S)] #[c,(V,X,Y),Z,(a0,a1,a2),(a3,a4,a5)] 39 39;by_cases d:b=c
 .have b0:(b==c)=true:=by simpa using d
  have b1:=a8 d;clear d;go_enter func16,ntmps16;go_wp2_with fail;rw[<-hw1];refine(F5 _ _ h l a9 (T.out.ext e1) (a6.out.ext e1)).mono ?_;rintro r b2 ⟨rfl,u⟩;have q:=e1.trans u;have b3:=E.ext u;have b4:=F.ext u;obtain⟨s,v⟩:=ex (decide (h=l));rw[<-v];have H:=a8 v;clear v hw1 E F
  cases s with
  |false=>
   have HD:Hid (BA (b,h,(i,j,k)) (c,l,(m,n,p))=false):=a8 (by unfold BA;simp only;rw[<-H.out,jK,gZ]);go_wp2;go_ret;exact⟨by rw[HD.out]<;>rfl,q⟩
  |true=>
   obtain⟨_,_,_,-⟩:=b3.cl [2,3,4];obtain⟨_,_,_,-⟩:=b4.cl [2,3,4];go_wp2_with fail;refine(sK _ _ i m j k n p b2 (U.out.ext q).1 (a7.out.ext q).1).mono ?_;rintro r _ ⟨rfl,b5⟩;obtain⟨b6,x⟩:=ex (decide ((i=m/\j=n)/\k=p));rw[<-x];have HD:Hid (BA (b,h,(i,j,k)) (c,l,(m,n,p))=b6):=a8 (by unfold BA;simp only;rw[<-H.out,x,decide_eq_true b1.out,gS,gS]);clear x;go_wp2;go_ret;exact⟨by rw[HD.out]<;>rfl,q.trans b5⟩
 .have b0:(b==c)=false:=by simpa using d
  have HD:Hid (BA (b,h,(i,j,k)) (c,l,(m,n,p))=false):=a8 (by unfold BA;simp only;rw[decide_eq_false d,jK]);clear d;go_enter func16,ntmps16;exact Jq5
theorem B9(b c:Value)(a:CE)(w:World)(h:CnE w b a)(i:CnE w c a):Calls prog 16 #[b,c] w λd e=>d= .returned true/\Ext w e:=by
 refine(IK b c a a w h i).mono ?_;rintro d e ⟨rfl,j⟩;exact⟨by rw[SA],j⟩
theorem ah7{w:World}(c:B<=d)(e:Bx 67 w d #[(0:Int),x,(p,h,m),(A,C,F)])(i:FrQ B w (.agg #[x,(p,h,m),(A,C,F)]) l)(j:szQ l<=k):TO B k w (.slice d 1 1) [(0,l)]:=by
 have:=LS.of_hold (e:=67) (n:=4) (B:=B) (w:=w) (vs:=(tsP [((⟨0,x,p,h,m,A,C,F⟩:TmC),l)]).map tmv) (g:=d) (cap:=1) (rest:=[]) (nK _) c lr om rfl e;exact TO.of_ps this λ_ b=>by
  rw[aC]at b;subst b;exact⟨i,j⟩
theorem ZG{g:Nat}{w:World}(b:List Value)(h:List CE)(k:pW 5 b)(l:Bx 39 w g (kX b).toArray)(i:d=b.length)(p:d=h.length)(m:d<=9223372036854775807)(n:∀(j:Nat) (c:Value) (e:CE),b[j]? =some c->h[j]? =some e->CnE w c e):CLE w (.slice (some ⟨g,0,Option.none⟩) d d) h:=by
 have:=LS.of_hold (e:=39) (n:=5) (B:=0) (w:=w) (vs:=b) (g:=g) (cap:=d) (rest:=[]) k zl om m (by rw[i];simp) (by rw[cF];exact l);rw[<-i]at this;exact OL.sl (R:=λw c e=>CnE w c e) ⟨b,this,om,n⟩ om
theorem XC{w:World}{g:Nat}{a:CE}{e:Option Addr}(k:Bx 39 w g #[a.1,(p,d,h),x,(A,m,C),(e,F,N)])(l:CnE w (.agg #[a.1,(p,d,h),x,(A,m,C),(e,F,N)]) a):CLE w (.slice g 1 1) [a]:=by
 refine ZG [.agg #[a.1,(p,d,h),x,(A,m,C),(e,F,N)]] _ ?_ k rfl rfl om ?_
 .intro _ i;simp only[aS,bI,or_false]at i;rcases i with rfl
  .exact⟨_,rfl,rfl,Z8 rfl rfl rfl rfl rfl⟩
 .intro j _ _ b c;match j,b,c with
  |0,b,c=>
   cases b
   cases c
   exact l
  |j+1,b,c=>simp at b
theorem OE{c:CE}(i:o7 E=false)(j:c∈E):(c.2.1.length<=30/\(FA c).2.1.length<=30)/\((∀k∈c.2.1,mH k.2<=6)/\mH c.2.2<=6)/\∀{w:World} {b:Value},CnE w b c->CnR 6 w b (FA c):=by
 have:(100000:Nat)<=LIM:=lq;obtain⟨-,l⟩:=GN i;obtain⟨d,e,h⟩:=l c j;refine⟨⟨d,by unfold FA sY;rw[aF];exact d⟩,⟨e,h⟩,λm=>m.cnR 6 om om e h⟩
theorem CnO.chgB{b c g:Nat}{w d:World}{e:Value}{h:CR}{k:Array Value}(l:CnO b c w e h)(i:Chg g w d)(j:Bx 39 w g k):CnO b c d e h:=by
 obtain⟨a,m,n,p,q,r,s,u,v,x,y,z,A,B⟩:=l;exact⟨a,m,n,p,q,r,s,u,v,x,y,z.chgB i j de de,A.chgB i j de,B⟩
def BO(w:World)(u:Value)(bs:List Bool):Prop:=∃ad cap,u= .slice ad bs.length cap/\bs.length<=cap/\cap<=9223372036854775807/\(bs=[]∨∃g cs,ad=some ⟨g,0,none⟩/\Bx 4 w g cs/\∀(i:Nat) (b:Bool),bs[i]? =some b->cs[i]? =some (.bool b))
theorem BO.ext{w c:World}{d:Value}{e:List Bool}(h:BO w d e)(i:Ext w c):BO c d e:=by
 obtain⟨j,k,l,m,n,b⟩:=h;refine⟨j,k,l,m,n,?_⟩;rcases b with b |⟨g,p,b,q,r⟩
 .exact .inl b
 .exact .inr ⟨g,p,b,q.ext i,r⟩
theorem mF{size g:Nat}{w:World}{t:TypeId}(i:w.ownsRow h d size e m v)(l:Chg g w j)(b:Bx t w g M)(n:t≠d):j.ownsRow h d size e m v:=by
 refine⟨i.1,?_⟩;rcases i.2 with c |⟨p,q,r,s,c,k,u⟩
 .exact .inl c
 .refine .inr ⟨p,q,r,s,c,l.blk k ?_,u⟩;rintro rfl;unfold Bx at b;rw[k]at b;simp only[Option.some.injEq,Obj.cells.injEq]at b;exact n b.2.1.symm
theorem lI{size:Nat}{w:World}(i:w.ownsRow h m size e d v):∃j b,e= .slice j d b:=by
 rcases i.2 with⟨c,k⟩ |⟨g,b,_,c, -⟩
 .exact⟨none,0,by rw[c,k]⟩
 .exact⟨_,b,c⟩
def rI(w w':World):Prop:=∀t g cs,(t=165∨t=67)->Bx t w g cs->Bx t w' g cs
theorem mV.keepT{w:World}(e:mV V w j)(h:∀g∈V,∃t d,Bx t w g d/\t≠165/\t≠67):rI w j:=by
 intro t g d i c;refine c.chgS e λk=> ?_
 obtain⟨_,_,b,l,m⟩:=h g k;unfold Bx at c b;rw[c]at b;simp only[Option.some.injEq,Obj.cells.injEq,and_true]at b;rcases i with rfl |rfl
 .exact l b.2.symm
 .exact m b.2.symm
theorem FrL.keepT{c:IntKind}{w:World}(h:FrL 165 c d w e V)(i:rI w j):FrL 165 c d j e V:=by
 obtain⟨k,l,m,n,p,b⟩:=h;refine⟨k,l,m,n,p,?_⟩;rcases b with b |⟨q,r,b,s,u,v⟩
 .exact .inl b
 .exact .inr ⟨q,r,b,s,i _ _ _ (.inl rfl) u,v⟩
theorem FrQ.keepT{b:Nat}{w c:World}{d:Value}{e:Rat}(i:FrQ b w d e)(h:rI w c):FrQ b c d e:=by
 obtain⟨j,t,k,l,m⟩:=i;exact⟨j,t,k,FrL.keepT l h,FrL.keepT m h⟩
theorem TO.keepT{c d:Nat}{w e:World}{h:Value}{i:List (Int×Rat)}(k:TO c d w h i)(j:rI w e):TO c d e h i:=by
 obtain⟨l,m,b,n⟩:=k;refine⟨l,m,⟨b.1,b.2.1,?_⟩,λp t q r s=> ?_⟩
 .rcases b.2.2 with b |⟨g,u,v,x,y,z,A⟩
  .exact .inl b
  .exact .inr ⟨g,u,v,x,y,j _ _ _ (.inr rfl) z,A⟩
 .obtain⟨B,C,D⟩:=n p t q r s;exact⟨B,C.keepT j,D⟩
theorem Chg.one{g:Nat}{w:World}(b:Chg g w j):mV [g] w j:=b.chgS (aC.2 rfl)
theorem EI{a:World}(b:a.grownBy j D)(c:j.grownBy X D):a.grownBy X D:=by
 cases D with
 |none=>exact Ext.trans b c
 |some g=>exact Chg.trans b c
theorem KN{a:World}(b:Option Nat)(c:Ext a j):a.grownBy j b:=by
 cases b with
 |none=>exact c
 |some g=>exact c.chg g
theorem R8{a:World}(g:Nat)(b:a.grownBy j D):mV (D.toList++ [g]) a j:=by
 cases D with
 |none=>exact Ext.chgS _ b
 |some c=>exact Chg.chgS (g:=c) b sm
theorem VJ{g:Nat}{a:World}(b:a.grownBy j D)(e:Chg g a j)(h:∀c,D=some c->c≠g):Ext a j:=by
 cases D with
 |none=>exact b
 |some c=>
  refine⟨World.grownBy.os b,World.grownBy.tape b,World.grownBy.output b,Chg.size b,λi d _=> ?_⟩;by_cases k:i=c
  .exact Chg.heap e d (by have:=h c rfl;omega)
  .exact Chg.heap b d k
def OweH{S:Nat}(P:Program)(fr:(Nat->Value)->Array Value)(df:List Deferred)(w:World)(row:Option Nat)(gG s1 s2:Nat)(F G2:Value->World->Prop)(L:List (PP S))(lates:List (Nat×Nat×Nat))(tmps:Array Value)(pre:List Nat)(k:Nat)(o:Oper):Prop:=
 ∀f w1,(if pre.contains k then Ext w w1 else if k=s2 then mV row.toList w w1 else mV (row.toList++ [gG]) w w1)->lY (uS s1 F L) f w1 o.after.toList->oV tmps f k lates->
  match OR k s1 s2 with
  |some true=>kM P o ⟨fr f,df⟩ f w1 (λa b=>a.grownBy b row) F
  |some false=>kM P o ⟨fr f,df⟩ f w1 (Chg gG) (λ_ w2=>G2 (f s1) w2)
  |none=>kM P o ⟨fr f,df⟩ f w1 Ext (L.getD k kP).p
def WQ{S:Nat}(P:Program)(fr:(Nat->Value)->Array Value)(df:List Deferred)(w:World)(row:Option Nat)(gG s1 s2:Nat)(F G2:Value->World->Prop)(L:List (PP S))(lates:List (Nat×Nat×Nat))(tmps:Array Value)(pre:List Nat):List Oper->Nat->Prop
 | [],_=>True
 |o::l,k=>OweH P fr df w row gG s1 s2 F G2 L lates tmps pre k o/\WQ P fr df w row gG s1 s2 F G2 L lates tmps pre l (k+1)
theorem OW{v:Nat}{P:Program}{e:(Nat->Value)->Array Value}{i:List Deferred}{w:World}{j:Option Nat}{k l m:Nat}{n p:Value->World->Prop}{q:List (PP v)}{r:List (Nat×Nat×Nat)}{s:Array Value}{u:List Nat}:
  ∀(d:List Oper) (c:Nat),WQ P e i w j k l m n p q r s u d c->∀b o,d[b]? =some o->OweH P e i w j k l m n p q r s u (c+b) o
 | [],_,_,b,o,h=>by simp at h
 |x::d,c,hs,b,o,h=>by
  cases b with
  |zero=>
   simp only[bL,Option.some.injEq]at h;subst h;exact hs.1
  |succ b=>
   have:=OW d (c+1) hs.2 b o (by simpa using h)
   rwa [show c+1+b=c+(b+1)by omega]at this
theorem Y9(b:PP d)(i:b.c=false)(k:∀g,D=some g->g<d)(c:j.grownBy X D)(h:b.p e j):b.p e X:=by
 cases D with
 |none=>exact b.m _ _ _ c h
 |some g=>exact b.m2 i g (k g rfl) _ _ _ c h
theorem J4{P:Program}{id:Nat}{h:List Oper}{J:List Deferred}{w:World}{K:(Nat->Value)->Array Value}
  (l:Option Nat) (p s1 d:Nat) (s D:Value->World->Prop) (L:List (PP w.heap.size)) (N:List (Nat×Nat×Nat)) (F:List Nat)
  (a6:P.follows .mixedOrders=true) (T:(oQ h.toArray M.size&&pN h.toArray N&&wD h.toArray [s1] (F.filter (· !=s1))&&wD h.toArray [d] (s1::F.filter (· !=s1)))=true)
  (U:∀f,mJ h.toArray M f=K f)
  (hss:s1≠d) (V:∀g,l=some g->g<w.heap.size/\g≠p) (a7:p<w.heap.size)
  (hF:∀u b j,Ext b j->s u b->s u j) (a9:∀u b j,Chg p b j->s u b->s u j) (b0:∀u b j,Ext b j->D u b->D u j)
  (hL:∀b1∈L,b1.c=false) (X:∀y w,(L.getD d kP).p y w)
  (b2:WQ P K J w l p s1 d s D L N M F h 0)
  (b3:∀f b,mV (l.toList++ [p]) w b->s (f s1) b->D (f s1) b->n5 (uS s1 s L) f b h.length 0->Y .normal ⟨K f,J⟩ b)
  (b4:s1<h.length) (b5:d<h.length):
  (Code.region id h.toArray true).wp P Y ⟨M,J⟩ w:=by
 simp only[aU]at T;obtain⟨⟨⟨b6,b7⟩,b8⟩,Z⟩:=T;have a0:∀k,(L.getD k kP).c=false:=λk=>wh7
 have O:∀q,∀z∈ [q],Anc h.toArray z q:=λq z A=>by
  have:z=q:=by simpa using A
  rw[this];exact .self
 have a1:Anc h.toArray s1 d:=wW _ [d] (O d) Z s1 (aT ..);have b9:∀g,l=some g->g<w.heap.size:=λg c=>(V g c).1
 have c1:∀{a r:World},a.grownBy r l->a.heap.size<=r.heap.size:=λc=>World.grownBy.size c
 refine nN (D:=λH f r=>H d=true->H s1=true/\D (f s1) r) (G:=λa r=>mV (l.toList++ [p]) a r) (G0:=λq a r=>(q=s1->Chg p a r)/\(q=d->a.grownBy r l))
  (R:=λi b j=>if i=s1 then b.grownBy j l else if i=d then Chg p b j else Ext b j) (post:=uS s1 s L) a6 b6 (λ_ c=>by cases c) ((Ext.refl w).drew.chgS _) (λq=>⟨λ_=>((Ext.refl w).drew).chg p,λ_=>KN l (Ext.refl w).drew⟩) ?_ ?_ ?_ ?_ ?_
 .intro i b j v hR;by_cases hi:i=s1
  .simp only[hi,if_true]at hR;exact v.trans (R8 p hR)
  .by_cases h2:i=d
   .subst h2;simp only[hi,if_false,if_true]at hR;exact v.trans (hR.chgS sm)
   .simp only[hi,h2,if_false]at hR;exact v.trans (hR.chgS _)
 .rintro q i b j x ⟨e,h2⟩ hR;by_cases hi:i=s1
  .subst hi;simp only[if_true]at hR;exact⟨λn=>absurd n.symm x,λn=>EI (h2 n) hR⟩
  .by_cases a2:i=d
   .subst a2;simp only[hi,if_false,if_true]at hR;exact⟨λn=>(e n).trans hR,λn=>absurd n.symm x⟩
   .simp only[hi,a2,if_false]at hR;exact⟨λn=>(e n).trans (hR.chg p),λn=>EI (h2 n) (KN l hR)⟩
 .intro i z y b j bA v hR hp;unfold uS at hp ⊢;by_cases A:z=s1
  .simp only[A,if_true]at hR;have hi:i≠s1:=λc=>bA (by rw[c,A])
   simp only[hi,if_false]at hp ⊢;exact Y9 _ (a0 i) b9 hR hp
  .by_cases a3:z=d
   .simp only[A,if_false]at hR;simp only[a3,if_true]at hR;by_cases hi:i=s1
    .simp only[hi,if_true]at hp ⊢;exact a9 _ _ _ hR hp
    .simp only[hi,if_false]at hp ⊢;exact(L.getD i kP).m2 (a0 i) _ a7 _ _ _ hR hp
   .simp only[A,a3,if_false]at hR;exact BQ8
 .intro i o bB H f b hli bC hD v Q hp bD;have a4:=OW h 0 b2 i o (by simpa using bB);rw[aY]at a4;rw[U];have bE:(if F.contains i then Ext w b else if i=d then mV l.toList w b else mV (l.toList++ [p]) w b):=by
   split
   .rename_i a5;have e:Anc h.toArray i s1:=by
     by_cases x:i=s1
     .rw[x];exact .self
     .exact wW _ [s1] (O s1) b8 i (dV.2 ⟨by simpa using a5,by simpa using x⟩)
    have h2:Anc h.toArray i d:=by
     by_cases x:i=s1
     .rw[x];exact a1
     .exact wW _ [d] (O d) Z i (aN _ (dV.2 ⟨by simpa using a5,by simpa using x⟩))
    exact VJ ((Q d h2).2 rfl) ((Q s1 e).1 rfl) λbG bO=>(V bG bO).2
   .split
    .rename_i h2;subst h2;have:=(Q i .self).2 rfl
     cases l with
     |none=>exact Ext.chgS _ this
     |some g=>exact Chg.chgS (g:=g) this sm
    .exact v
  have B:=a4 f b bE (rO _ λn bP I=>hp n (bU.1 bP) I) (pH bD N b7);unfold uS;by_cases e:i=s1
  .subst e;simp only[OR,if_true]at B;refine kM.mono (λC c=>by simp only[if_true];exact c) (λy C _ c=>⟨by simp only[if_true];exact c,λh2=> ?_⟩) (λc=>⟨by simp only[if_true];exact c,λh2=> ?_⟩) B
   .exact Fv4
   .exact Fv4
  .by_cases h2:i=d
   .subst h2;simp only[OR,e,if_false,if_true]at B;have I:=bC s1 a1 hss;refine kM.mono (λC c=>by simp only[e,if_false,if_true];exact c) (λy C _ c=>⟨by simp only[e,if_false];exact X y C,λ_=> ?_⟩) (λc=>⟨by simp only[e,if_false];exact X undef b,λ_=> ?_⟩) B
    .simp only[hss,if_false];exact⟨I,c⟩
    .simp only[hss,if_false];exact⟨I,c⟩
   .simp only[OR,e,h2,if_false]at B;refine kM.mono (λC c=>by simp only[e,h2,if_false];exact c) (λy C bR c=>⟨by simp only[e,if_false];exact c,λE=> ?_⟩) (λc=>⟨by simp only[e,if_false];exact c,λE=> ?_⟩) B
    .simp only[Ne.symm h2,if_false]at E;simp only[Ne.symm e,if_false];obtain⟨bS,bT⟩:=hD E;exact⟨bS,b0 _ _ _ bR bT⟩
    .simp only[Ne.symm h2,if_false]at E;simp only[Ne.symm e,if_false];exact hD E
 .intro f b v hp R;obtain⟨H,c0,R⟩:=R;rw[U];have S:=hp s1 (by simpa using b4);unfold uS at S;rw[if_pos rfl]at S;exact b3 f b v S (R (c0 d (by simpa using b5))).2 (pY _ _ λi _ hi=>hp i (by simpa using hi))
theorem XW(b:Nf i):mkV i=i:=(MI b λ_=>rfl).symm
theorem ah6{c:Value->World->Prop}{k:List (PP h)}{f:Nat->Value}{b:List Edge}(l:lY (uS d c k) f j b)(e:Nat)
  (m:(match b[e]? with |some i=>Region.binds .any i&&i.on==d |none=>false)=true):c (f d) j:=by
 have:=qH b e d m l;unfold uS at this;rw[if_pos rfl]at this;exact this
theorem S6{P:Program}(w:World)(g off:Nat)(t b:TypeId)(cur:List Value)(ad:Option Addr)(n c:Nat)(e:w.heap[g]? =some (.cells cur.toArray t (0,0)))(hi:(P.info? b).map (·.size)=some 1)(hfit:off<cur.length):
  (storeVar b ⟨g,off,none⟩ (ad,n,c)).run P w= .ok () (w.setRow g (cur.set off (ad,n,c)).toArray):=by
 have hst:=run_storeCells_at P g off t [(ad,n,c)] 0 cur.toArray w e (by simp;omega) (λ_ d=>by
  rw[aC]at d;subst d;rfl)
 cases hq:P.info? b with
 |none=>simp [hq]at hi
 |some i=>
  exact Gu5
theorem VY{P:Program}{o:Oper}{a:Act}{f:Nat->Value}{w:World}{post:Value->World->Prop}(g b:Nat)(t d:TypeId)(c:List Value)(e:Option Addr)(h i:Nat)(j k:Operand)(n:o.guard=none)(p:o.op= .store d j k)(q:a.eval j=(g,b))(r:a.eval k=(e,h,i))
  (s:(P.info? d).map (·.size)=some 1) (l:Bx t w g c.toArray) (u:b<c.length) (v:∀m,Bx t m g (c.set b (e,h,i)).toArray->∀x,post x m):kM P o a f w (Chg g) post:=by
 have y:=S6 (P:=P) w g b t d c e h i l s u;unfold kM;rw[n];unfold Oper.wp execOp;simp only[p,q,r,Instr.storeAt,Instr.sureAddr,Sem.run_bind,Sem.run_pure,Result.andThen_ok,y];exact⟨_,rfl,Chg.setRow w g _,v _ (Bx.setRow l _) _⟩
theorem XT(b:Nat):madeCells #[()] (b*1)=(List.replicate b (Value.slice none 0 0)).toArray:=by
 apply Array.ext';apply fT;intro d;rcases dH d b with c |c
 .rw[dX,List.toList_toArray,fY,if_pos c];unfold madeCells;rw[Array.getElem?_map,Array.getElem?_range,if_pos om];simp[Nat.mod_one]
 .rw[cM (by rw[cJ,size_madeCells];omega),cM (by simp;omega)]
abbrev SpR:=Bool×Bool×Rat×Rat
abbrev RwR:=SpR×List (Int×Rat)
abbrev VrR:=Bool×SpR×Rat
def inB(s:SpR)(x:Rat):Bool:=!((s.1&&decide (x<s.2.2.1)) || (s.2.1&&decide (s.2.2.2<x)))
theorem ae7(b c:Rat):decide (qP b c<0)=decide (b<c):=by
 rw[decide_eq_decide];unfold qP;split
 .simp_all
 .split<;>simp_all
theorem ae6(c d:Rat):decide (0<qP c d)=decide (d<c):=by
 rw[decide_eq_decide];unfold qP;by_cases e:c<d
 .rw[if_pos e];exact⟨λb=>om,λb=>absurd b (by grind)⟩
 .rw[if_neg e];by_cases h:c=d
  .rw[if_pos h];exact⟨λb=>om,λb=>absurd b (by grind)⟩
  .rw[if_neg h];exact⟨λ_=>by grind,λ_=>om⟩
structure QC where
 b:Bool
 a1:Option Addr
 n1:Nat
 c1:Nat
 a2:Option Addr
 n2:Nat
 c2:Nat
def qv(q:QC):Value:= .agg #[q.b,(q.a1,q.n1,q.c1),(q.a2,q.n2,q.c2)]
theorem IsR.qc{w:World}(b:IsR w e l d):∃c,e=qv c:=by
 obtain⟨h,i,j,k,m,n,p,rfl⟩:=b.parts;exact⟨⟨h,i,j,k,m,n,p⟩,rfl⟩
def SpV(k:Nat)(w:World)(l h:QC)(s:SpR):Prop:=IsR w (.agg #[l.b,(l.a1,l.n1,l.c1),(l.a2,l.n2,l.c2)]) s.2.2.1 k/\IsR w (.agg #[h.b,(h.a1,h.n1,h.c1),(h.a2,h.n2,h.c2)]) s.2.2.2 k
def RwV(k:Nat)(w:World)(v:Value)(r:RwR):Prop:=∃(nm:ByteArray) (l h:QC) (ta:Option Addr) (tn tc:Nat),v= .agg #[nm,r.1.1,r.1.2.1,l.b,(l.a1,l.n1,l.c1),(l.a2,l.n2,l.c2),h.b,(h.a1,h.n1,h.c1),(h.a2,h.n2,h.c2),(ta,tn,tc)]/\SpV k w l h r.1/\TL k w (ta,tn,tc) r.2
def VrV(k:Nat)(w:World)(v:Value)(r:VrR):Prop:=∃(nm:ByteArray) (l h c:QC),v= .agg #[nm,r.1,r.2.1.1,r.2.1.2.1,l.b,(l.a1,l.n1,l.c1),(l.a2,l.n2,l.c2),h.b,(h.a1,h.n1,h.c1),(h.a2,h.n2,h.c2),c.b,(c.a1,c.n1,c.c1),(c.a2,c.n2,c.c2)]/\SpV k w l h r.2.1/\IsR w (.agg #[c.b,(c.a1,c.n1,c.c1),(c.a2,c.n2,c.c2)]) r.2.2 k
theorem SpV.ext{b:Nat}{w c:World}{d e:QC}{h:SpR}(i:SpV b w d e h)(j:Ext w c):SpV b c d e h:=⟨i.1.ext j,i.2.ext j⟩
theorem RwV.ext{c:Nat}{w d:World}{e:Value}{h:RwR}(b:RwV c w e h)(i:Ext w d):RwV c d e h:=by
 obtain⟨j,k,b,l,m,n,p,q,r⟩:=b;exact⟨j,k,b,l,m,n,p,q.ext i,r.ext i⟩
theorem VrV.ext{c:Nat}{w d:World}{e:Value}{h:VrR}(b:VrV c w e h)(i:Ext w d):VrV c d e h:=by
 obtain⟨j,k,b,l,m,n,p⟩:=b;exact⟨j,k,b,l,m,n.ext i,p.ext i⟩
def RwL(k:Nat)(w:World)(u:Value)(l:List RwR):Prop:=SL 10 (RwV k) w u l
def VrL(k:Nat)(w:World)(u:Value)(l:List VrR):Prop:=SL 13 (VrV k) w u l
theorem RwL.ext{c:Nat}{w d:World}{e:Value}{h:List RwR}(b:RwL c w e h)(i:Ext w d):RwL c d e h:=SL.ext (λ_ _ b=>b.ext i) b i
theorem VrL.ext{c:Nat}{w d:World}{e:Value}{h:List VrR}(b:VrL c w e h)(i:Ext w d):VrL c d e h:=SL.ext (λ_ _ b=>b.ext i) b i
abbrev PbR:=List RwR×List VrR
def PbV(k:Nat)(w:World)(v:Value)(p:PbR):Prop:=∃(n0 n1:ByteArray) (ra:Option Addr) (rn rc:Nat) (va:Option Addr) (vn vc:Nat),v= .agg #[n0,n1,(ra,rn,rc),(va,vn,vc)]/\RwL k w (ra,rn,rc) p.1/\VrL k w (va,vn,vc) p.2
theorem PbV.ext{b:Nat}{w c:World}{d:Value}{e:PbR}(i:PbV b w d e)(h:Ext w c):PbV b c d e:=by
 obtain⟨j,k,l,m,n,p,q,r,s,u,v⟩:=i;exact⟨j,k,l,m,n,p,q,r,s,u.ext h,v.ext h⟩
theorem RwL.at{w:World}{c:List RwR}(h:RwL d w u c):∃n l s,l=c.length/\u= .slice n l s/\l<=9223372036854775807/\∀(i:Nat) (m:RwR),c[i]? =some m->∃g e,n=some ⟨g,e,none⟩/\∃(v:ByteArray) (c h:QC) (p:Option Addr) (q r:Nat),
  (∀b,Ext w b->b.cell? ⟨g,e+i*10,none⟩=some (.string v)/\b.cell? ⟨g,e+i*10+1,none⟩=some (.bool m.1.1)/\b.cell? ⟨g,e+i*10+2,none⟩=some (.bool m.1.2.1)/\b.cell? ⟨g,e+i*10+3,none⟩=some (.bool c.b)/\b.cell? ⟨g,e+i*10+4,none⟩=some (.slice c.a1 c.n1 c.c1)/\b.cell? ⟨g,e+i*10+5,none⟩=some (.slice c.a2 c.n2 c.c2)/\b.cell? ⟨g,e+i*10+6,none⟩=some (.bool h.b)/\b.cell? ⟨g,e+i*10+7,none⟩=some (.slice h.a1 h.n1 h.c1)/\b.cell? ⟨g,e+i*10+8,none⟩=some (.slice h.a2 h.n2 h.c2)/\b.cell? ⟨g,e+i*10+9,none⟩=some (.slice p q r))/\
  SpV d w c h m.1/\TL d w (p,q,r) m.2:=by
 obtain⟨n,l,s,x,y,z,A⟩:=h.opn;refine⟨n,l,s,x,y,z,λi B C=> ?_⟩;obtain⟨g,e,D,_,_,j,v,c,h,p,q,r,E,F,H⟩:=A i B C
 cases E
 exact⟨g,e,D,v,c,h,p,q,r,λb k=>⟨j b k 0 _ rfl,j b k 1 _ rfl,j b k 2 _ rfl,j b k 3 _ rfl,j b k 4 _ rfl,j b k 5 _ rfl,j b k 6 _ rfl,j b k 7 _ rfl,j b k 8 _ rfl,j b k 9 _ rfl⟩,F,H⟩
theorem VrL.at{w:World}{h:List VrR}(l:VrL d w u h):∃p n q,n=h.length/\u= .slice p n q/\n<=9223372036854775807/\∀(i:Nat) (m:VrR),h[i]? =some m->∃g e,p=some ⟨g,e,none⟩/\∃(r:ByteArray) (h l c:QC),
  (∀b,Ext w b->b.cell? ⟨g,e+i*13,none⟩=some (.string r)/\b.cell? ⟨g,e+i*13+1,none⟩=some (.bool m.1)/\b.cell? ⟨g,e+i*13+2,none⟩=some (.bool m.2.1.1)/\b.cell? ⟨g,e+i*13+3,none⟩=some (.bool m.2.1.2.1)/\b.cell? ⟨g,e+i*13+4,none⟩=some (.bool h.b)/\b.cell? ⟨g,e+i*13+5,none⟩=some (.slice h.a1 h.n1 h.c1)/\b.cell? ⟨g,e+i*13+6,none⟩=some (.slice h.a2 h.n2 h.c2)/\b.cell? ⟨g,e+i*13+7,none⟩=some (.bool l.b)/\b.cell? ⟨g,e+i*13+8,none⟩=some (.slice l.a1 l.n1 l.c1)/\b.cell? ⟨g,e+i*13+9,none⟩=some (.slice l.a2 l.n2 l.c2)/\b.cell? ⟨g,e+i*13+10,none⟩=some (.bool c.b)/\b.cell? ⟨g,e+i*13+11,none⟩=some (.slice c.a1 c.n1 c.c1)/\b.cell? ⟨g,e+i*13+12,none⟩=some (.slice c.a2 c.n2 c.c2))/\
  SpV d w h l m.2.1/\IsR w (.agg #[c.b,(c.a1,c.n1,c.c1),(c.a2,c.n2,c.c2)]) m.2.2 d:=by
 obtain⟨p,n,q,s,v,x,y⟩:=l.opn;refine⟨p,n,q,s,v,x,λi c z=> ?_⟩;obtain⟨g,e,A,_,_,j,r,h,l,c,B,C,D⟩:=y i c z
 cases B
 exact⟨g,e,A,r,h,l,c,λb k=>⟨j b k 0 _ rfl,j b k 1 _ rfl,j b k 2 _ rfl,j b k 3 _ rfl,j b k 4 _ rfl,j b k 5 _ rfl,j b k 6 _ rfl,j b k 7 _ rfl,j b k 8 _ rfl,j b k 9 _ rfl,j b k 10 _ rfl,j b k 11 _ rfl,j b k 12 _ rfl⟩,C,D⟩
theorem ET(h:ByteArray)(b c:QC)(i:Option Addr)(j k:Nat)(d e:Bool)(w:World):
  Calls prog 86 #[.agg #[h,d,e,b.b,(b.a1,b.n1,b.c1),(b.a2,b.n2,b.c2),c.b,(c.a1,c.n1,c.c1),(c.a2,c.n2,c.c2),(i,j,k)]] w λl m=>l= .returned (.agg #[d,e,b.b,(b.a1,b.n1,b.c1),(b.a2,b.n2,b.c2),c.b,(c.a1,c.n1,c.c1),(c.a2,c.n2,c.c2)])/\Ext w m:=by
 obtain⟨_,hw1,e1,_,b2_,_⟩:=lZ w #[h,d,e,b.b,(b.a1,b.n1,b.c1),(b.a2,b.n2,b.c2),c.b,(c.a1,c.n1,c.c1),(c.a2,c.n2,c.c2),(i,j,k)] #[d,e,b.b,(b.a1,b.n1,b.c1),(b.a2,b.n2,b.c2),c.b,(c.a1,c.n1,c.c1),(c.a2,c.n2,c.c2)] 81 144;go_enter func86,ntmps86;exact FM1
theorem EU(i:ByteArray)(b c d:QC)(e h:Bool)(j:Bool)(w:World):
  Calls prog 87 #[.agg #[i,j,e,h,b.b,(b.a1,b.n1,b.c1),(b.a2,b.n2,b.c2),c.b,(c.a1,c.n1,c.c1),(c.a2,c.n2,c.c2),d.b,(d.a1,d.n1,d.c1),(d.a2,d.n2,d.c2)]] w λk l=>k= .returned (.agg #[e,h,b.b,(b.a1,b.n1,b.c1),(b.a2,b.n2,b.c2),c.b,(c.a1,c.n1,c.c1),(c.a2,c.n2,c.c2)])/\Ext w l:=by
 obtain⟨_,hw1,e1,_,b2_,_⟩:=lZ w #[i,j,e,h,b.b,(b.a1,b.n1,b.c1),(b.a2,b.n2,b.c2),c.b,(c.a1,c.n1,c.c1),(c.a2,c.n2,c.c2),d.b,(d.a1,d.n1,d.c1),(d.a2,d.n2,d.c2)] #[e,h,b.b,(b.a1,b.n1,b.c1),(b.a2,b.n2,b.c2),c.b,(c.a1,c.n1,c.c1),(c.a2,c.n2,c.c2)] 86 144;go_enter func87,ntmps87;exact FM1
theorem D0(e:Nat)(F:Value)(b c:QC)(n:SpR)(d:Rat)(w:World)(z:SpV e w b c n)(u:IsR w F d e)(T:2*e<=68719476736):
  Calls prog 120 #[.agg #[n.1,n.2.1,b.b,(b.a1,b.n1,b.c1),(b.a2,b.n2,b.c2),c.b,(c.a1,c.n1,c.c1),(c.a2,c.n2,c.c2)],F] w λv R=>v= .returned (.bool (inB n d))/\Ext w R:=by
 obtain⟨x,l,p,i⟩:=n;obtain⟨j,rfl⟩:=u.qc;unfold qv at u ⊢;have H:=a8 z.1;have A:=a8 z.2;have B:=a8 u;simp only at H A ⊢;clear z u;have y:=a8 (ae7 d p);have q:=a8 (ae6 d i);obtain⟨d1,C⟩:=ex (decide (d<p));obtain⟨d2,D⟩:=ex (decide (i<d));have HD:Hid (inB (x,l,p,i) d=!((x&&d1) || (l&&d2))):=a8 (by rw[C,D];rfl);rw[<-C]at y;rw[<-D]at q;clear C D;obtain⟨I,hw1,e1,J,K,_⟩:=lZ w #[x,l,b.b,(b.a1,b.n1,b.c1),(b.a2,b.n2,b.c2),c.b,(c.a1,c.n1,c.c1),(c.a2,c.n2,c.c2)] #[j.b,(j.a1,j.n1,j.c1),(j.a2,j.n2,j.c2)] 144 37;go_enter func120,ntmps120
 cases x with
 |false=>
  cases l with
  |false=>
   exact Jq5
  |true=>
   go_wp2_with fail;rw[<-hw1];refine(pO _ _ d i e e I (B.out.ext e1) (A.out.ext e1) om).mono ?_;rintro v L ⟨rfl,r⟩;obtain⟨E,h⟩:=ex (qP d i);rw[<-h]at q ⊢;clear h hw1;go_wp2;go_ret;exact⟨by rw[HD.out,<-q.out]<;>simp,e1.trans r⟩
 |true=>
  go_wp2_with fail;rw[<-hw1];refine(pO _ _ d p e e I (B.out.ext e1) (H.out.ext e1) om).mono ?_;rintro v L ⟨rfl,r⟩;obtain⟨E,h⟩:=ex (qP d p);rw[<-h]at y ⊢;have M:=J.ext r;have N:=K.ext r;obtain⟨_,_,_,_,_,_,_,_,-⟩:=M.cl [0,1,2,3,4,5,6,7];obtain⟨_,_,_,-⟩:=N.cl [0,1,2];clear h hw1 M N J K;have m:=e1.trans r;by_cases h:E<0
  .have k:=y.out;rw[decide_eq_true h]at k;have s:=a8 k;clear k
   cases l with
   |false=>
    go_wp2;go_ret;exact⟨by rw[HD.out,<-s.out]<;>simp,m⟩
   |true=>
    go_wp2;go_ret;exact⟨by rw[HD.out,<-s.out]<;>simp,m⟩
  .have k:=y.out;rw[decide_eq_false h]at k;have O:0<=E:=om;have s:=a8 k;clear k
   cases l with
   |false=>
    go_wp2;go_ret;exact⟨by rw[HD.out,<-s.out]<;>simp [O],m⟩
   |true=>
    go_wp2_with fail;refine(pO _ _ d i e e L (B.out.ext m) (A.out.ext m) om).mono ?_;rintro v _ ⟨rfl,S⟩;obtain⟨_,Q⟩:=ex (qP d i);rw[<-Q]at q ⊢;clear Q;go_wp2;go_ret;exact⟨by rw[HD.out,<-q.out,<-s.out]<;>simp [O],m.trans S⟩
variable{I J:QC}
theorem SpV.le{w:World}{b:SpR}(c:SpV d w I J b)(e:d<=h):SpV h w I J b:=⟨c.1.mono e,c.2.mono e⟩
def tG{α:Type}(p:α->Bool):List α->Int
 | []=> -1
 |x::cs=>if p x then 0 else(if tG p cs<0 then -1 else tG p cs+1)
theorem xO{d:Type}{e:d->Bool}:∀{b:List d},(∀c∈b,e c=false)->tG e b= -1
 | [],_=>rfl
 |c::b,h=>by
  unfold tG;rw[h c (aT ..),xO λi j=>h i (aN _ j)];rfl
theorem CO{c:Type}{p:c->Bool}:∀{cs:List c} {i:Nat} {x:c},(∀b∈cs.take i,p b=false)->cs[i]? =some x->p x=true->tG p cs=(i:Int)
 |b::cs,0,x,_,hx,hp=>by
  cases hx
  unfold tG;rw[hp];rfl
 |b::cs,i+1,x,h,hx,hp=>by
  have d:p b=false:=h b sm;have e:=CO (p:=p) (cs:=cs) (i:=i) (x:=x) (λj k=>h j (by rw[List.take_succ_cons];exact aN _ k)) (by simpa using hx) hp;unfold tG;rw[d,e];simp only[eP,if_false];rw[if_neg om];omega
theorem GR{b:Type}{p:b->Bool}:∀{cs:List b},decide (0<=tG p cs)=cs.any p
 | []=>rfl
 |x::cs=>by
  have d:=GR (p:=p) (cs:=cs);unfold tG;rw[List.any_cons]
  cases e:p x with
  |true=>rfl
  |false=>
   rw[<-d,Bool.false_or];simp only[eP,if_false]
   by_cases c:tG p cs<0
   .rw[if_pos c,decide_eq_decide];omega
   .rw[if_neg c,decide_eq_decide];omega
def BN(xs:List Rat)(r:RwR):Bool:=!inB r.1 (tF r.2 xs)
theorem RG(n x s B:Nat)(b:RwR)(l:List Rat)(w:World)(D:SpV n w J I b.1)(E:TL n w (p,d,h) b.2)(F:Bx 41 w B #[(A,m,C)])(H:QL x w (A,m,C) l)(y:n<=s)(h2:b.2.length*(n+x+1)+1<=s)(K:(b.2.length+1)*(n+x+1)<=34359738000)(R:2*s<=68719476736):
  Calls prog 122 #[.agg #[L,b.1.1,b.1.2.1,J.b,(J.a1,J.n1,J.c1),(J.a2,J.n2,J.c2),I.b,(I.a1,I.n1,I.c1),(I.a2,I.n2,I.c2),(p,d,h)],(B,0)] w λe w'=>e= .returned (.bool (BN l b))/\Ext w w':=by
 have:68719476736<=LIM:=lq;have S:=a8 D;have T:=a8 E;have U:=a8 H;obtain⟨q,M,u,N,_⟩:=kR w #[L,b.1.1,b.1.2.1,J.b,(J.a1,J.n1,J.c1),(J.a2,J.n2,J.c2),I.b,(I.a1,I.n1,I.c1),(I.a2,I.n2,I.c2),(p,d,h)] 81;have V:=F.ext u;obtain⟨v,z⟩:=ex (inB b.1 (tF b.2 l));have X:=a8 z;have Y:=a8 K;have Z:Hid (BN l b=!v):=a8 (by rw[z];rfl);clear z D E H F K;go_enter func122,ntmps122;go_wp2_with fail;rw[<-M];clear M;refine wpQ [kL (.agg #[L,b.1.1,b.1.2.1,J.b,(J.a1,J.n1,J.c1),(J.a2,J.n2,J.c2),I.b,(I.a1,I.n1,I.c1),(I.a2,I.n2,I.c2),(p,d,h)]),kL (.agg #[b.1.1,b.1.2.1,J.b,(J.a1,J.n1,J.c1),(J.a2,J.n2,J.c2),I.b,(I.a1,I.n1,I.c1),(I.a2,I.n2,I.c2)]),(w,9),(p,d,h),(A,m,C),lV (tF b.2 l) s,v,kL (.bool (!v)),kL (.bool (!v))] [] [0,1,2,3,4,5,6,7,8] ?_ ?_
 .refine⟨?_,?_,oL,?_,?_,?_,?_,?_,oL,trivial⟩
  .intro f c k i r;have j:Ext q c:=k;change kM _ _ _ f c Ext _;exact kZ (P:=prog) _ _ w _ _ _ rfl rfl rfl (N.ext j) underlying81 rfl kr rfl
  .intro f c k i r;have a0:=tE i 0 0 rfl rfl rfl;change kM _ _ _ f c Ext _;refine oC #[f 0] func86 rfl rfl ?_;rw[a0];refine(ET L J I p d h _ _ _).mono ?_;exact DR3
  .intro f c k i r;have j:Ext q c:=k;have:=tE i 0 2 rfl rfl rfl;have a1:=(N.ext j).cell 9;exact DG6
  .intro f c k i r;have j:Ext q c:=k;have a1:=(V.ext j).cell 0;exact DG6
  .intro f c k i r;have j:Ext q c:=k;have O:=j.size;have a2:=tE i 0 3 rfl rfl rfl;have a3:=tE i 1 4 rfl rfl rfl;change kM _ _ _ f c Ext _;refine oC #[f 3,f 4] func123 rfl rfl ?_;rw[a2,a3];refine(IZ n x _ _ b.2 l _ (T.out.ext (u.trans j)) (U.out.ext (u.trans j)) Y.out).mono ?_;rintro e w' ⟨a4,rfl,y,_,h2⟩;exact⟨a4,rfl,h2,y.mono O,om⟩
  .intro f c k i r;have j:Ext q c:=k;have O:=j.size;have a5:=tE i 0 1 rfl rfl rfl;have Q:=kO i 1 5 rfl rfl (λ_=>j);change kM _ _ _ f c Ext _;refine oC #[f 1,f 5] func120 rfl rfl ?_;rw[a5];refine(D0 s _ J I b.1 (tF b.2 l) _ ((S.out.ext (u.trans j)).le y) (Q.1.isR Q.2 om) R).mono ?_;rintro e w' ⟨rfl,h2⟩;exact⟨_,rfl,h2,by rw[X.out]<;>rfl⟩
  .intro f c k i r;have a6:=tE i 0 6 rfl rfl rfl;change kM _ _ _ f c Ext _;exact MK (P:=prog) _ _ rfl rfl a6 rfl
 .intro f c k i;have j:Ext q c:=mV.nil k;have a7:f 8= .bool (!v):=rM i 8 de rfl (λI=>by cases I);try simp only[a7]
  clear i;have a9:=u.trans j;go_wp2;go_ret;exact⟨by rw[Z.out]<;>rfl,a9⟩
theorem RH(y:Value)(b:List RwR)(e k l m n:Nat)(c:List Rat)(w:World)(q:RwL e w y b)(J:Bx 41 w m #[(p,d,h)])(hx:QL k w (p,d,h) c)(z:∀r∈b,r.2.length<=n)(K:e<=l)(L:n*(e+k+1)+1<=l)(M:(n+1)*(e+k+1)<=34359738000)(N:2*l<=68719476736):
  Calls prog 161 #[y,.func (.func 122) #[] #[(m,0)]] w λO Q=>O= .returned (tG (BN c) b:Int)/\Ext w Q:=by
 have R:=a8 hx;have A:=a8 z;clear hx z;obtain⟨_,s,_,B,rfl,_,C⟩:=q.at;have Hn:=a8 B;have S:=a8 C;clear B C q;go_enter func161,ntmps161;go_wp2_with fail;go_loopw [8] (λu wr=>∃i:Nat,i<=s/\u= .int .i64 (i:Int)/\Hid (∀x∈b.take i,(BN c) x=false)/\Ext w wr) (λu _=>((s:Int) - intOf u).toNat)
 case atStart=>exact ⟨0,zl,rfl,a8 (λx hx=>by simp at hx),rE⟩
 case round=>
  obtain⟨i,T,rfl,hH,hex⟩:=hrel;rcases aI T with v |v
  .subst v;have U:¬((i:Int)<i):=om;have HF:Hid (tG (BN c) b= -1):=vp3;exact pM4
  .have U:(i:Int)<s:=om;obtain⟨j,hx⟩:∃x,b[i]? =some x:=⟨_,aA (by rw[<-Hn.out];exact v)⟩;obtain⟨g,_,rfl,_,_,q,_,_,_,D,E,F⟩:=S.out i j hx;obtain⟨_,_,_,_,_,_,_,_,_,_⟩:=D wr hex;have HC:=a8 (aD E F);have V:=a8 (J.ext hex);clear E F D;have HX:=a8 (aD hx (mP hx));have H:=a8 (aM hx);obtain⟨r,I⟩:=ex ((BN c) j:Bool);have Hr:=a8 I.symm;clear hx I;go_wp2_with fail;refine(RG e k l m j c wr (HC.out.1.ext hex) (HC.out.2.ext hex) V.out (R.out.ext hex) K (aE (jN (aJ _ (A.out j H.out)) 1) L) (aE (aJ _ (jN (A.out j H.out) 1)) M) N).mono ?_;rw[Hr.out];rintro _ _ ⟨rfl,e2⟩
   cases r with
   |true=>
    have HF:Hid (tG (BN c) b=(i:Int)):=a8 (CO hH.out HX.out.1 Hr.out);exact Vf9
   |false=>
    have HF:Hid (∀x∈b.take (i+1),(BN c) x=false):=a8 λx hx=>Gq5
    exact oo8
theorem RF(l:Value)(b:List RwR)(e i j m k:Nat){p:Option Addr}(c:List Rat)(w:World)(q:RwL e w l b)(x:Bx 41 w m #[(p,d,h)])(y:QL i w (p,d,h) c)(z:∀r∈b,r.2.length<=k)(A:e<=j)(B:k*(e+i+1)+1<=j)(C:(k+1)*(e+i+1)<=34359738000)(D:2*j<=68719476736):
  Calls prog 121 #[l,.func (.func 122) #[] #[(m,0)]] w λs E=>s= .returned (.bool (b.any (BN c)))/\Ext w E:=by
 go_enter func121,ntmps121;go_wp2_with fail;refine(RH l b e i j m k c w q x y z A B C D).mono ?_;rintro s _ ⟨rfl,e2⟩;have n:=GR (p:=(BN c)) (cs:=b);obtain⟨r,u⟩:=ex (tG (BN c) b);rw[<-u]at n ⊢;have v:=a8 n;clear n u q;by_cases h0:0<=r
 .have HB:Hid ((b.any (BN c))=true):=a8 (by rw[<-v.out,decide_eq_true h0]);go_wp2;go_ret;exact⟨by rw[HB.out]<;>rfl,e2⟩
 .have HB:Hid ((b.any (BN c))=false):=a8 (by rw[<-v.out,decide_eq_false h0]);exact oZ5
def OC(v:VrR)(x:Rat):Bool:=inB v.2.1 x&& !(v.1&& !isW x)
def xA(p:PbR)(xs:List Rat):Bool:=decide (xs.length=p.2.length)&&(((p.2.zip xs).all λt=>OC t.1 t.2)&& !(p.1.any (BN xs)))
theorem ai1{b:List y}{c:List U}{a:y}{e:U}(h:b[d]? =some a)(i:c[d]? =some e):(b.zip c)[d]? =some (a,e):=by
 rw[List.getElem?_zip_eq_some];exact⟨h,i⟩
theorem ae3{b:List y}{a:y}{c:y->Bool}(e:b[d]? =some a)(h:c a=false):b.all c=false:=by
 rw[Bool.eq_false_iff];intro i;have:=cA.1 i a (aM e);rw[h]at this
 cases this
theorem CT(A x z E:Nat)(a7 a9:Value)(F:PbR)(n:List Rat)(w:World)(d:PbV A w a7 F)(u:QL x w a9 n)(T:∀bR∈F.1,bR.2.length<=E)(b0:A<=z)(bS:x<=z)(h2:E*(A+x+1)+1<=z)(b1:(E+1)*(A+x+1)<=34359738000)(hB:z<=17179869180):
  Calls prog 66 #[a7,a9] w λe w'=>e= .returned (.bool (xA F n))/\Ext w w':=by
 obtain⟨B,r⟩:=F;obtain⟨bT,c0,c1,c2,c3,c4,U,c5,rfl,V,X⟩:=d;simp only at V X T;obtain⟨c6,m,C,b2,rfl,_,b3⟩:=u.at;obtain⟨_,_,_,b4,b5,_,b6⟩:=X.at;simp only[Value.slice.injEq]at b5;obtain⟨rfl,rfl,rfl⟩:=b5;have c7:=a8 V;have c8:=a8 u;have c9:=a8 T;have H:=a8 b4;have I:=a8 b2;have e0:=a8 b6;have e2:=a8 b3;have e3:=a8 b1;have e4:=a8 h2;clear V u T b4 b2 b6 b3 X b1 h2;obtain⟨e5,J,e1,e6,b7,_⟩:=lZ w #[bT,c0,(c1,c2,c3),(c4,U,c5)] #[(c6,m,C)] 25 41;go_enter func66,ntmps66;by_cases b8:m=U
 .subst b8;have e7:((m:Int) !=(m:Int))=false:=sm;go_wp2_with fail;rw[<-J];go_loopw [16] (λY wr=>∃i:Nat,i<=m/\Y= .int .i64 (i:Int)/\Hid (∀t∈(r.zip n).take i,OC t.1 t.2=true)/\Ext e5 wr) (λY _=>((m:Int) - intOf Y).toNat)
  case atStart=>exact ⟨0,zl,rfl,a8 (λt p=>by simp at p),rE⟩
  case round=>
   obtain⟨i,e8,rfl,K,v⟩:=hrel;rcases aI e8 with Z |Z
   .have e9:¬((i:Int)<m):=om;obtain⟨eA,a0⟩:=ex (B.any (BN n));have D:Hid (xA (B,r) n=!eA):=a8 (by
     unfold xA;rw[decide_eq_true (by show n.length=r.length;rw[<-H.out,<-I.out]),gS];have b9:=K.out;rw[aK (by rw[List.length_zip,<-H.out,<-I.out];omega)]at b9;rw[cA.2 b9,gS,a0])
    clear K;have bA:=e6.ext v;have a1:=b7.ext v;obtain⟨eB,eC,eD,eE,-⟩:=bA.cl [0,1,2,3];have eG:=a1.cell 0;clear J;go_wp2_with fail;refine(RF _ B A x z (w.heap.size+1) E n wr (c7.out.ext (e1.trans v)) a1 (c8.out.ext (e1.trans v)) c9.out b0 e4.out e3.out om).mono ?_;rw[<-a0];rintro e w2 ⟨rfl,eN⟩;clear a0 bA a1 eB eC eD eE eG;go_wp2;go_ret;exact⟨by rw[D.out]<;>rfl,e1.trans (v.trans eN)⟩
   .have e9:(i:Int)<m:=om;obtain⟨y,a2⟩:∃y,r[i]? =some y:=⟨_,aA (by rw[<-H.out];exact Z)⟩;obtain⟨s,u⟩:∃s,n[i]? =some s:=⟨_,aA (by rw[<-I.out];exact Z)⟩;obtain⟨_,_,rfl,nm,l,h,c,hcell,L,fA⟩:=e0.out i y a2;obtain⟨fB,fC,fD,fE,fG,g0,g1,g2,g3,g4,g5,g6,g7⟩:=hcell wr (e1.trans v);obtain⟨gx,ox,rfl,b,M,N,O,Q,R,S,bB,bC⟩:=e2.out i s u;have HXC:=a8 bB;have bD:=a8 bC;have g9:=a8 L;have bE:=a8 (ai1 a2 u);clear hcell bB bC L fA a2 u;obtain⟨q,bG,gA,BV,_⟩:=kR wr #[nm,y.1,y.2.1.1,y.2.1.2.1,l.b,(l.a1,l.n1,l.c1),(l.a2,l.n2,l.c2),h.b,(h.a1,h.n1,h.c1),(h.a2,h.n2,h.c2),c.b,(c.a1,c.n1,c.c1),(c.a2,c.n2,c.c2)] 86;have hEl:=v.trans gA;have BX:=b7.ext hEl;obtain⟨d1,a3⟩:=ex (inB y.2.1 s);obtain⟨d2,a4⟩:=ex (isW s);have HD1:=a8 a3;have HD2:=a8 a4;have a5:Hid (OC y s=!((!d1) || (y.1&& !d2))):=a8 (by
     rw[a3,a4];unfold OC;rw[Bool.not_or,Bool.not_not])
    obtain⟨gv,a6⟩:=ex wr.heap.size;clear a3 a4;go_wp2_with fail;rw[<-bG,<-a6];rw[<-a6]at BV;clear fB fC fD fE fG g0 g1 g2 g3 g4 g5 g6 g7 bG a6 J;refine wpQ [kL (.agg #[nm,y.1,y.2.1.1,y.2.1.2.1,l.b,(l.a1,l.n1,l.c1),(l.a2,l.n2,l.c2),h.b,(h.a1,h.n1,h.c1),(h.a2,h.n2,h.c2),c.b,(c.a1,c.n1,c.c1),(c.a2,c.n2,c.c2)]),kL (.agg #[y.2.1.1,y.2.1.2.1,l.b,(l.a1,l.n1,l.c1),(l.a2,l.n2,l.c2),h.b,(h.a1,h.n1,h.c1),(h.a2,h.n2,h.c2)]),(gx,ox,m,C),i,(gx,ox+i*3),kL (.agg #[b,(M,N,O),(Q,R,S)]),d1,kL (.bool (!d1)),kL (.bool (!d1)),kT (!((!d1))) (kL (gv,1)),kT (!((!d1))) (kL y.1),kT (!((!d1))) (kL y.1),kT ((!((!d1)))&&y.1) (kL (gx,ox,m,C)),kT ((!((!d1)))&&y.1) (kL i),kT ((!((!d1)))&&y.1) (kL (gx,ox+i*3)),kT ((!((!d1)))&&y.1) (kL (.agg #[b,(M,N,O),(Q,R,S)])),kT ((!((!d1)))&&y.1) (kL d2),kT ((!((!d1)))&&y.1) (kL (.bool (!d2))),kT (!((!d1))) (kL (.bool (y.1&&((!d2))))),kL (.bool (((!d1)) || ((y.1&&((!d2))))))] [] [0,1,2,3,4,5,6,7,8,9,10,11,12,13,14,15,16,17,18,19] ?_ ?_
    .refine⟨?_,?_,?_,oL,oL,?_,?_,?_,oL,?_,?_,?_,?_,?_,?_,?_,?_,?_,?_,?_,trivial⟩
     .intro f w2 j d k;have hE:Ext q w2:=j;change kM _ _ _ f w2 Ext _;exact eb1
     .intro f w2 j d k;have gG:=tE d 0 0 rfl rfl rfl;change kM _ _ _ f w2 Ext _;refine oC #[f 0] func87 rfl rfl ?_;rw[gG];exact fu3
     .intro f w2 j d k;have hE:Ext q w2:=j;exact ZA6
     .intro f w2 j d k;have hE:Ext q w2:=j;have:=tE d 0 4 rfl rfl rfl;exact Ku2
     .intro f w2 j d k;have hE:Ext q w2:=j;have L:=hE.size;have gL:=tE d 0 1 rfl rfl rfl;have gT:=tE d 1 5 rfl rfl rfl;change kM _ _ _ f w2 Ext _;refine oC #[f 1,f 5] func120 rfl rfl ?_;rw[gL,gT];refine(D0 z _ l h y.2.1 s _ ((g9.out.ext (e1.trans (hEl.trans hE))).le b0) ((bD.out.ext (e1.trans (hEl.trans hE))).mono bS) om).mono ?_;exact fX4
     .intro f w2 j d k;have h0:=tE d 0 6 rfl rfl rfl;change kM _ _ _ f w2 Ext _;exact MK (P:=prog) _ _ rfl rfl h0 rfl
     .intro f w2 j d k;have qg:=kO d 0 8 rfl rfl (λh=>by cases h);refine kS (p:=(kL (.pointer (some ⟨gv,1,none⟩)):PP _).p) rfl (rH qg) ?_;exact zO3
     .intro f w2 j d k;have hE:Ext q w2:=j;have qg:=kO d 1 8 rfl rfl (λh=>by cases h);refine kS (p:=(kL (.bool y.1):PP _).p) rfl (rH qg) ?_;intro hg0;clear qg;have:f 9= .pointer (gv,1):=(kO d 0 9 rfl rfl (λh=>by cases h)).1 hg0;have hcell:=(BV.ext hE).cell 1;exact DG6
     .intro f w2 j d k;have qg:=kO d 1 8 rfl rfl (λh=>by cases h);refine kS (p:=(kL (.bool y.1):PP _).p) rfl (rH qg) ?_;intro hg0;clear qg;have:f 10=y.1:=(kO d 0 10 rfl rfl (λh=>by cases h)).1 hg0;exact DG6
     .intro f w2 j d k;have hE:Ext q w2:=j;have qg:=kO d 0 11 rfl rfl (λh=>by cases h);refine kS (p:=(kL (.slice (some ⟨gx,ox,none⟩) m C):PP _).p) rfl (sO qg) ?_;intro hg0;clear qg;have hg1:=(cR.1 hg0).1;exact ZA6
     .intro f w2 j d k;have qg:=kO d 0 11 rfl rfl (λh=>by cases h);refine kS (p:=(kL (.int .i64 (i:Int)):PP _).p) rfl (sO qg) ?_;exact mz9
     .intro f w2 j d k;have qg:=kO d 2 11 rfl rfl (λh=>by cases h);refine kS (p:=(kL (.pointer (some ⟨gx,ox+i*3,none⟩)):PP _).p) rfl (sO qg) ?_;intro hg0;clear qg;have hg1:=(cR.1 hg0).1;have:f 12=(gx,ox,m,C):=(kO d 0 12 rfl rfl (λh=>by cases h)).1 hg0;have:f 13=i:=(kO d 1 13 rfl rfl (λh=>by cases h)).1 hg0;exact DG6
     .intro f w2 j d k;have hE:Ext q w2:=j;have qg:=kO d 1 11 rfl rfl (λh=>by cases h);refine kS (p:=(kL (.agg #[.bool b,.slice M N O,.slice Q R S]):PP _).p) rfl (sO qg) ?_;intro hg0;clear qg;have hg1:=(cR.1 hg0).1;have:f 14=(gx,ox+i*3):=(kO d 0 14 rfl rfl (λh=>by cases h)).1 hg0;exact Ku2
     .intro f w2 j d k;have hE:Ext q w2:=j;have L:=hE.size;have qg:=kO d 1 11 rfl rfl (λh=>by cases h);refine kS (p:=(kL (.bool d2):PP _).p) rfl (sO qg) ?_;intro hg0;clear qg;have hg1:=(cR.1 hg0).1;have h1:f 15= .agg #[b,(M,N,O),(Q,R,S)]:=(kO d 0 15 rfl rfl (λh=>by cases h)).1 hg0;change kM _ _ _ f w2 Ext _;refine oC #[f 15] func106 rfl rfl ?_;rw[h1];refine(rQ _ s x _ (bD.out.ext (e1.trans (hEl.trans hE))) om).mono ?_;exact vz6
     .intro f w2 j d k;have qg:=kO d 1 11 rfl rfl (λh=>by cases h);refine kS (p:=(kL (.bool (!d2)):PP _).p) rfl (sO qg) ?_;intro hg0;clear qg;have hg1:=(cR.1 hg0).1;have h3:f 16=d2:=(kO d 0 16 rfl rfl (λh=>by cases h)).1 hg0;change kM _ _ _ f w2 Ext _;exact MK (P:=prog) _ _ rfl rfl h3 rfl
     .intro f w2 j d k;have qg:=kO d 2 8 rfl rfl (λh=>by cases h);refine kS (p:=(kL (.bool (y.1&&((!d2)))):PP _).p) rfl (rH qg) ?_;intro hg0;clear qg;have h4:f 11=y.1:=(kO d 0 11 rfl rfl (λh=>by cases h)).1 hg0;have h5:=kO d 1 17 rfl rfl (λh=>by cases h);change kM _ _ _ f w2 Ext _;exact pI (P:=prog) _ _ rfl rfl h4 (λh=>h5.1 (by rw[hg0,h];rfl)) rfl
     .intro f w2 j d k;have h6:=tE d 0 8 rfl rfl rfl;have h7:=kO d 1 18 rfl rfl (λh=>by cases h);change kM _ _ _ f w2 Ext _;exact CW (P:=prog) _ _ rfl rfl h6 (λh=>h7.1 (by rw[h];rfl)) rfl
    .intro f h8 j d;have hE:Ext q h8:=mV.nil j;have h9:f 19= .bool (((!d1)) || ((y.1&&((!d2))))):=rM d 19 de rfl (λh=>by cases h);try simp only[h9]
     clear d;have bO:=hEl.trans hE;obtain⟨g,bP⟩:=ex ((!d1) || (y.1&& !d2));rw[<-bP]at a5 ⊢;clear bP hE
     cases g with
     |true=>
      have D:Hid (xA (B,r) n=false):=a8 (by
       unfold xA;rw[ae3 bE.out a5.out,jK,gZ])
      go_wp2;go_ret;exact⟨by rw[D.out]<;>rfl,e1.trans bO⟩
     |false=>
      have hA:Hid (∀t∈(r.zip n).take (i+1),OC t.1 t.2=true):=a8 λt p=>by
       rw[mP bE.out]at p;rcases aW.1 p with p |p
       .exact K.out t p
       .rw[aC]at p;subst p;exact a5.out
      clear K;go_wp2;go_roundw
      case rel=>exact ⟨i+1,om,ci om,hA,bO⟩
      case measure=>simp [intOf];omega
 .have e7:((m:Int) !=(U:Int))=true:=by simp;omega
  have D:Hid (xA (B,r) n=false):=a8 (by
   unfold xA;rw[decide_eq_false (by show¬n.length=r.length;rw[<-H.out,<-I.out];exact b8),jK])
  go_wp2;go_ret;exact⟨by rw[D.out]<;>rfl,by rw[<-J];exact e1⟩
def KJ(vs:List VrR):List Rat:=vs.map λv=>v.2.2
def tV(p:PbR):List (Int×Rat):=mkV (gaN (KJ p.2) p.2.length)
def CH(p:PbR)(xs:List Rat):Rat:=tF (tV p) xs
theorem XF{b:List VrR}{c:VrR}(e:b[d]? =some c):(KJ b)[d]? =some c.2.2:=by
 unfold KJ;rw[aX,e];rfl
theorem BM(j:Nat)(H:Value)(d:PbR)(w:World)(x:PbV j w H d)(y:d.2.length<=1073741824)(n:(d.2.length+1)*(j+1)<=34359738000):
  Calls prog 39 #[H] w λI J=>∃K,I= .returned K/\TO w (d.2.length*(j+1)) J K (tV d)/\Ext w J:=by
 obtain⟨T,p⟩:=d;obtain⟨U,V,X,Y,Z,a0,k,a1,rfl,a2,L⟩:=x;obtain⟨_,_,_,l,M,_,z⟩:=L.at;simp only[Value.slice.injEq]at M;obtain⟨rfl,rfl,rfl⟩:=M;have a3:=a8 l;have a4:=a8 z;obtain⟨q,A,r,_,_⟩:=kR w #[U,V,(X,Y,Z),(a0,k,a1)] 25;simp only at l z y n ⊢;rw[<-l]at y n ⊢;have a5:=a8 n;have a6:Hid (tV (T,p)=mkV (gaN (KJ p) k)):=a8 (by rw[l];rfl);rw[a6.out];clear a2 L l z n;go_enter func39,ntmps39;go_wp2_with fail;rw[<-A];go_loopw [3,9] (λa7 B wr=>∃(c:Nat) (vs:List Value) (s:Option Addr) (u:Nat),c<=k/\B= .int .i64 (c:Int)/\a7= .slice s c u/\Hid (GaJ q wr j c (KJ p) (s,c,u) vs)) (λ_ B _=>((k:Int) - intOf B).toNat)
 case atStart=>exact ⟨0,[],none,0,zl,rfl,rfl,a8 ⟨rE,LS.nil _ _ _ _,rfl,[],rfl,rfl,λd x=>by cases x⟩⟩
 case round=>
  obtain⟨c,vs,s,u,a9,rfl,rfl,hH⟩:=hrel;have m:=hH.out.1;rcases aI a9 with C |C
  .subst C;have b0:¬((c:Int)<c):=om;have b1:=a8 hH.out.tl;clear A;go_wp2_with fail;refine(nF j _ _ wr b1.out (by rw[yI];exact y) (by rw[yI];exact a5.out)).mono ?_;rw[yI];rintro I _ ⟨_,rfl,t2,b2⟩;have b3:=a8 (t2.mono (r.trans m).size);clear t2;go_wp2;go_ret;exact⟨_,rfl,b3.out,r.trans (m.trans b2)⟩
  .have b0:(c:Int)<k:=om;obtain⟨i,D⟩:∃i,p[c]? =some i:=⟨_,aA (by rw[<-a3.out];exact C)⟩;obtain⟨_,_,rfl,b4,e,h,b,N, -,O⟩:=a4.out c i D;obtain⟨_,_,_,_,_,_,_,_,_,_,_,_,_⟩:=N wr (r.trans m);have HX:=a8 (aD (XF D) (O.ext r));have b5:vs.length=c:=hH.out.2.2.1;subst b5;have:=m.size;obtain⟨E,F,Q,b6,b7⟩:=kR wr #[b4,i.1,i.2.1.1,i.2.1.2.1,e.b,(e.a1,e.n1,e.c1),(e.a2,e.n2,e.c2),h.b,(h.a1,h.n1,h.c1),(h.a2,h.n2,h.c2),b.b,(b.a1,b.n1,b.c1),(b.a2,b.n2,b.c2)] 86;obtain⟨b8,b9,bA,bB,bC,bD,bE,bG,bO,bP,bR,bS,bT,-⟩:=b6.cl [0,1,2,3,4,5,6,7,8,9,10,11,12];have R:Hid (LS 67 4 q E (s,vs.length,u) vs):=a8 (hH.out.2.1.ext Q);rw[F]at b8 b9 bA bB bC bD bE bG bO bP bR bS bT;have v:=a8 F;clear N D O F A;have c0:E.heap.size=wr.heap.size+1:=b7;go_wp2_with (first
    | (at_builtin;go_loud (refine nR rfl _ _ 32 rfl 67 4 64 q underlying32 kr kr om _ vs rfl (by rw[<-v.out];exact R.out.ext (rE.alloc _)) ⟨wr.heap.size+1,0,none⟩ #[vs.length,b.b,(b.a1,b.n1,b.c1),(b.a2,b.n2,b.c2)] rfl rfl (by rw[<-v.out,<-c0];exact vP _ _ _) kr om om (by rw[nD,<-v.out];omega) ?_);intro g' cap2' c1 hls7 S _ _)
    |fail)
   go_roundw
   case rel=>
    rw[<-v.out]at S;have c2:=(Ext.refl E).alloc (.cells #[vs.length,b.b,(b.a1,b.n1,b.c1),(b.a2,b.n2,b.c2)] 67);have hE7:Ext q c1:=((m.trans Q).trans c2).stepG S R.out.ge;exact cB0
   case measure=>simp [intOf];omega
theorem zZ(d e c:Nat)(q r:Value)(b:PbR)(i:List Rat)(w:World)(l:PbV d w q b)(s:QL e w r i)(u:b.2.length<=1073741824)(v:(b.2.length+1)*(d+1)<=c)(m:(b.2.length+1)*(c+e+1)<=34359738000):
  Calls prog 68 #[q,r] w λn x=>∃y,n= .returned y/\FrQ w x y (CH b i)/\szQ (CH b i)<=b.2.length*(c+e+1)+1/\Ext w x:=by
 have z:(tV b).length<=b.2.length:=by
  have:=AK (gaN (KJ b.2) b.2.length);rw[yI]at this;exact this
 have b1:c+e+1<=34359738000:=aE (cX _ om) m;have b2:68719476736<=LIM:=lq;have A:b.2.length*(d+1)<=c:=aE (aJ _ om) v;have B:(b.2.length+1)*(d+1)<=34359738000:=om;have N:=l;obtain⟨O,Q,R,S,T,U,V,X,rfl, -, -⟩:=N;have Y:=a8 l;have Z:=a8 s;have C:=a8 z;have j:=a8 (aD m (aD A (aD B u)));clear l s z m v A B u;obtain⟨a0,D,k,_,a1,_⟩:=lZ w #[O,Q,(R,S,T),(U,V,X)] #[false,(),()] 25 37;go_enter func68,ntmps68;go_wp2_with fail;rw[<-D];refine(BM d _ b a0 (Y.out.ext k) j.out.2.2.2 j.out.2.2.1).mono ?_;rintro n E ⟨_,rfl,t2,h⟩;have a2:=a8 t2;clear t2 D;go_wp2_with fail;refine(IZ c e _ _ (tV b) i E ((a2.out.le j.out.2.1).tl om) (Z.out.ext (k.trans h)) (aE (aJ _ (by have:=C.out;omega)) j.out.1)).mono ?_;rintro n F ⟨_,rfl,H,I,J⟩;have b3:=(k.trans h).size;obtain⟨a3,a4,a5,a6,a7,a9,b0,rfl,K⟩:=FrQ.opn H;have L:=a8 (aD (K.mono (show w.heap.size+2<=E.heap.size by have:=h.size;omega)) I);have p:=a1.ext (h.trans J);obtain⟨_,_,_,-⟩:=p.cl [0,1,2];obtain⟨_,_,_,-⟩:=p.fl [0,1,2];clear H K I;go_wp2;refine l8 4 37 (w.heap.size+1) 37 _ _ kr rfl (((p.set 0 _).set 1 _).set 2 _) underlying37 rfl kr rfl ?_;have M:Chg (w.heap.size+1) F _:=((Chg.setCell F (w.heap.size+1) 0 a3).trans (Chg.setCell _ (w.heap.size+1) 1 (a4,a5,a6))).trans (Chg.setCell _ (w.heap.size+1) 2 (a7,a9,b0));refine⟨_,rfl,(L.out.1.chg M om).mono om,aE L.out.2 (jN (aJ _ C.out) 1),((k.trans h).trans J).step M om⟩
def tZ(p:PbR):List Bool:=p.2.map λv=>v.1
theorem CU(R:Nat)(c:Value)(k:PbR)(w:World)(S:PbV R w c k)(E:k.2.length<=1073741824):
  Calls prog 38 #[c] w λT F=>∃H,T= .returned H/\F.ownsRow w 4 1 H k.2.length ((tZ k).map Value.bool)/\Ext w F:=by
 obtain⟨U,l⟩:=k;obtain⟨V,X,Y,Z,a0,a1,e,a2,rfl,a3,I⟩:=S;obtain⟨_,_,_,q,J,_,v⟩:=I.at;simp only[Value.slice.injEq]at J;obtain⟨rfl,rfl,rfl⟩:=J;have K:=a8 q;have a4:=a8 v;obtain⟨m,x,r,_,_⟩:=kR w #[V,X,(Y,Z,a0),(a1,e,a2)] 25;simp only at q v E ⊢;rw[<-q]at E ⊢;clear a3 I q v;go_enter func38,ntmps38;go_wp2_with fail;rw[<-x];go_loopw [2,8] (λa5 y wr=>∃(b:Nat) (n:Option Addr) (p:Nat),b<=e/\y= .int .i64 (b:Int)/\a5= .slice n b p/\Hid (wr.ownsRow m 4 1 (n,b,p) b (((l.take b).map λc=>c.1).map Value.bool))/\Ext m wr) (λ_ y _=>((e:Int) - intOf y).toNat)
 case atStart=>exact ⟨0,none,0,zl,rfl,rfl,a8 ⟨rfl,.inl ⟨rfl,rfl⟩⟩,rE⟩
 case round=>
  obtain⟨b,n,p,a6,rfl,rfl,z,s⟩:=hrel;rcases aI a6 with A |A
  .have a7:¬((b:Int)<e):=om;have a9:=a8 (show wr.ownsRow w 4 1 (n,e,p) e ((tZ (U,l)).map Value.bool)from by
    have L:=z.out;rw[A,aK (by rw[<-K.out];exact lr)]at L;exact B8 L r.size)
   clear z x;go_wp2;go_ret;exact⟨_,rfl,a9.out,r.trans s⟩
  .have a7:(b:Int)<e:=om;obtain⟨d,B⟩:∃d,l[b]? =some d:=⟨_,aA (by rw[<-K.out];exact A)⟩;obtain⟨_,_,rfl,b0,h,i,j,M, -, -⟩:=a4.out b d B;obtain⟨_,_,_,_,_,_,_,_,_,_,_,_,_⟩:=M wr (r.trans s);have b1:=a8 (mP B);have:=s.size;have:=r.size;obtain⟨C,D,N,b2,b3⟩:=kR wr #[b0,d.1,d.2.1.1,d.2.1.2.1,h.b,(h.a1,h.n1,h.c1),(h.a2,h.n2,h.c2),i.b,(i.a1,i.n1,i.c1),(i.a2,i.n2,i.c2),j.b,(j.a1,j.n1,j.c1),(j.a2,j.n2,j.c2)] 86;obtain⟨b4,b5,b6,b7,b8,b9,bA,bB,bC,bD,bE,bG,bO,-⟩:=b2.cl [0,1,2,3,4,5,6,7,8,9,10,11,12];have O:Hid (C.ownsRow m 4 1 (n,b,p) b (((l.take b).map λc=>c.1).map Value.bool)):=a8 (lL z.out N);rw[D]at b4 b5 b6 b7 b8 b9 bA bB bC bD bE bG bO;have u:=a8 D;clear M B D x;have bP:C.heap.size=wr.heap.size+1:=b3;go_wp2_with (first
    | (at_builtin;go_loud (refine oY rfl _ _ 70 rfl 4 1 m underlying70 kr kr _ b (((l.take b).map λc=>c.1).map Value.bool) rfl (by rw[<-u.out];exact lL O.out (rE.alloc _)) ⟨wr.heap.size+1,0,none⟩ d.1 rfl (by rw[<-u.out,<-bP];exact cell_one_new _ _ _) rfl om om (by rw[nD,<-u.out];omega) ?_);intro bR bS bT c0 Q _ _)
    |fail)
   go_roundw
   case rel=>
    rw[<-u.out]at Q;have c1:=(Ext.refl C).alloc (.cells #[d.1] 4);have c2:Ext m bT:=((s.trans N).trans c1).stepG Q (λg c3=>by have:=BQ O.out g c3;omega);refine⟨b+1,some ⟨bR,0,none⟩,bS,om,sm,rfl,a8 ?_,c2⟩;rw[b1.out,bY,bY];exact c0
   case measure=>simp [intOf];omega
theorem CnO.keepT{b c:Nat}{w d:World}{e:Value}{h:CR}(j:CnO b c w e h)(i:rI w d):CnO b c d e h:=by
 obtain⟨a,k,l,m,n,p,q,r,s,u,v,x,y,z⟩:=j;exact⟨a,k,l,m,n,p,q,r,s,u,v,x.keepT i,y.keepT i,z⟩
theorem Ext.keepT{w:World}(b:Ext w j):rI w j:=λt g _ _ c=>c.ext b
theorem zV{w:World}(c:w.grownBy j D)(e:∀g,D=some g->∃b,Bx 39 w g b):rI w j:=by
 cases D with
 |none=>exact Ext.keepT c
 |some g=>
  obtain⟨b,h⟩:=e g rfl;refine(Chg.one c).keepT λ_ d=> ?_
  rw[aC]at d;subst d;exact⟨_,b,h,de,de⟩
def CoL(B K:Nat)(w:World)(v:Value)(cs:List CR):Prop:=OL 39 5 B (CnO B K) w v cs
theorem CoL.ext{c d:Nat}{w e:World}{h:Value}{i:List CR}(b:CoL c d w h i)(j:Ext w e):CoL c d e h i:=OL.ext b j λ_ _ b=>b.ext j
theorem CoL.fin{w w':World}(s:pW 5 v)(k:v.length=r.length)(u:v.length=m)(x:∀(b:Nat) (i:Value) (l:CR),v[b]? =some i->r[b]? =some l->CnO d h w i l)(y:CnO d h w (.agg M) q)
  (z:w'.ownsRow d 39 5 e (m+1) (kX v++M.toList)) (n:rI w w') (A:M.size=5) (B:M.all (·.oneCell')=true):CoL d h w' e (r++ [q]):=by
 refine⟨v++ [.agg M],⟨s.app (.one A B),?_⟩,by rw[aB,aB,k];rfl,λb i C c j=> ?_⟩
 .have D:kX (v++ [.agg M])=kX v++M.toList:=by
   rw[pF];show kX v++(M.toList++ [])=_;rw[cF]
  rw[D,aB,u];exact z
 .by_cases E:b<v.length
  .rw[bM E]at c;rw[bM om]at j;exact(x b i C c j).keepT n
  .have p:=(aH.1 c).1;rw[aB]at p;have F:b=v.length:=by simp only[bH,cQ]at p;omega
   subst F;rw[List.getElem?_concat_length]at c;rw[k,List.getElem?_concat_length]at j
   cases c
   cases j
   exact y.keepT n
theorem CoL.chg{b e g:Nat}{w h:World}{i:Value}{cs:List CR}(c:CoL b e w i cs)(j:Chg g w h)(k:g<b):CoL b e h i cs:=by
 obtain⟨l,d,m,n⟩:=c;refine⟨l,⟨d.1,d.2.1,?_⟩,m,λp q r a s=>(n p q r a s).chg j k⟩;rcases d.2.2 with c |⟨u,v,x,y,z,A,B⟩
 .exact .inl c
 .exact .inr ⟨u,v,x,y,z,j.blk A om,B⟩
def PP.oneC{S:Nat}(K:Nat)(c:CR):PP S:=⟨false,λu w=>∃g cells,S<=g/\u= .slice (some ⟨g,0,none⟩) 1 1/\Bx 39 w g cells/\CnO S K w (.agg cells) c,λ_ _ _ h hp=>(let ⟨g,cs,h1,h2,h3,h4⟩:=hp;⟨g,cs,h1,h2,h3.ext h,h4.ext h⟩),λ_ _ hg _ _ _ h hp=>(let ⟨g,cs,h1,h2,h3,h4⟩:=hp;⟨g,cs,h1,h2,h3.chg h om,h4.chg h hg⟩)⟩
def BF(K:Nat)(w:World)(go:Nat)(cs:List CR):Prop:=∃hv,Bx 71 w go #[hv]/\CoL (go+1) K w hv cs
theorem BF.ext{b go:Nat}{w c:World}{d:List CR}(h:BF b w go d)(e:Ext w c):BF b c go d:=by
 obtain⟨i,j,k⟩:=h;exact⟨i,j.ext e,k.ext e⟩
theorem pJ(n s go b4:Nat)(x:Int)(L:Value)(A:Rat)(l:List (Int×Rat))(B:List CR)(w:World)(c3:BF s w go B)(b5:Bx 32 w b4 #[(p,d,h)])(b6:TL n w (p,d,h) l)(E:IsR w L A n)(b7:B.length<=10)(g7:l.length<=1073741824)(S:(l.length+1)*(n+1)<=34359738000)(b8:(l.length+1)*(n+1)<=s):
  Calls prog 137 #[x,L,(go,0),(b4,0)] w λe w'=>e= .returned (.tuple #[])/\BF s w' go (B++ [(x,mkV l,A)])/\∀a,Ext a w->a.heap.size<=go->Ext a w':=by
 obtain⟨c4,rfl⟩:=E.qc;unfold qv at E ⊢;obtain⟨q,T,U,V,X,Y,Z⟩:=c4;simp only at E ⊢;obtain⟨F,M,N,H,a0,b9⟩:=c3;obtain⟨y,z,rfl⟩:=lI H.2;obtain⟨r,I⟩:=ex N.length;rw[<-I]at M H;have g9:r<=10:=by rw[I,a0];exact b7
 have bA:n+1<=(l.length+1)*(n+1):=cX _ om;have c5:l.length*(n+1)<=(l.length+1)*(n+1):=aJ _ om;have gA:n+1<=s:=aE bA b8;have gG:l.length*(n+1)<=s:=aE c5 b8;have gL:n+1<=34359738000:=aE bA S;obtain⟨k,bB,D,c6,c7⟩:=kR w #[q,(T,U,V),(X,Y,Z)] 37;have gT:k.heap.size=w.heap.size+1:=c7;have c8:go<k.heap.size:=by have:=M.lt;omega
 have O:Hid (k.ownsRow (go+1) 39 5 (y,r,z) r (kX N)):=a8 (by have:=lL H.2 D;rwa [<-I]at this);have Q:=a8 (aD H.1 (aD a0 (aD I.symm (λ(J:Nat) (u:Value) (R:CR) (a:N[J]? =some u) (q:B[J]? =some R)=>(b9 J u R a q).ext D))));have BO:=M.ext D;have c9:=b5.ext D;have e0:=a8 (b6.ext D);have e1:=a8 (E.ext D);have e2:Hid (szQ A<=s):=a8 (by have:=E.sz;omega);have e3:=a8 S;have bC:Hid (∀g,(Value.slice y r z).ownBlock=some g->∃B,Bx 39 k g B):=a8 λg m=>by
  rcases O.out.2 with⟨h1,h2⟩ |⟨_,_,e4,h1,h2,bD,_⟩
  .rw[h1]at m
   cases m
  .rw[h1]at m;simp only[Value.ownBlock,Option.some.injEq]at m;subst m;exact⟨e4,bD⟩
 have bE:Hid (∀g,(Value.slice y r z).ownBlock=some g->g<k.heap.size/\g≠go):=a8 λg m=>by
  obtain⟨_,K⟩:=bC.out g m;exact⟨K.lt,λe=>by
   have:=BQ O.out g m;omega⟩
 have e5:Hid (∀g,(Value.slice y r z).ownBlock=some g->go+1<=g):=a8 λg m=>BQ O.out g m
 clear H a0 b9 I M b5 b6 E S b7;go_enter func137,ntmps137;go_wp2_with fail;rw[<-bB];clear bB;refine J4 ((Value.slice y r z).ownBlock) go 8 9 (λL q=>CoL (go+1) s q L (B++ [(x,mkV l,A)])) (λu q=>Bx 71 q go #[u]) [(y,r,z),x,(p,d,h),tA s (mkV l),kL (.agg #[.bool q,(T,U,V),(X,Y,Z)]),nC A,CA s (x,mkV l,A),PP.oneC s (x,mkV l,A),kP,kP] [] [8,7,6,5,4,3,2,1,0] kr kr (λf=>(by simp only[mJ,mO,aQ,aV,aZ,Nat.reduceAdd];rfl)) de (λg m=>bE.out g m) (c8) (λu k c v b=>b.ext v) (λu k c v b=>b.chg v (Nat.lt_succ_self _)) (λu k c v b=>b.ext v) (by intro _ b;simp only[aS,bI,or_false]at b;rcases b with rfl |rfl |rfl |rfl |rfl |rfl |rfl |rfl |rfl |rfl<;>rfl) (λ_ _=>trivial) ?_ ?_ de de
 .refine⟨?_,oL,?_,?_,?_,?_,?_,?_,?_,?_,trivial⟩
  .intro f c j b C;have i:Ext k c:=j;have e6:=(BO.ext i).cell 0;exact DG6
  .intro f c j b C;have i:Ext k c:=j;have e6:=(c9.ext i).cell 0;exact DG6
  .intro f c j b C;have i:Ext k c:=j;have hS:=i.size;have e7:f 2=(p,d,h):=lO b 0 2 rfl rfl;change kM _ _ _ f c Ext _;refine oC #[f 2] func50 rfl rfl ?_;rw[e7];refine(nF n _ l _ (e0.out.ext i) om e3.out).mono ?_;rintro e w' ⟨v',rfl,h1,h2⟩;exact⟨v',rfl,h2,(h1.mono hS).le om⟩
  .intro f c j b C;have i:Ext k c:=j;change kM _ _ _ f c Ext _;exact kZ (P:=prog) _ _ w _ _ _ rfl rfl rfl (c6.ext i) underlying37 rfl kr rfl
  .intro f c j b C;have i:Ext k c:=j;have hS:=i.size;have e8:f 4= .agg #[q,(T,U,V),(X,Y,Z)]:=lO b 0 4 rfl rfl;change kM _ _ _ f c Ext _;refine oC #[f 4] func90 rfl rfl ?_;rw[e8];refine(pL _ A n _ (e1.out.ext i) om).mono ?_;exact EL7
  .intro f c j b C;have h0:f 1=x:=lO b 0 1 rfl rfl;have bG:=lO b 1 3 rfl rfl;have e9:=lO b 2 5 rfl rfl;obtain⟨eA,eB,F⟩:=TO.val bG;obtain⟨_,_,_,bO,bP⟩:=e9;obtain⟨eA,eB,eC⟩:=FrN.slice bO;obtain⟨_,_,eD⟩:=FrN.slice bP;subst eC eD;simp only[kM];go_simp;exact⟨_,rfl,rE,_,_,_,_,_,_,_,_,_,_,rfl,F▸bG,⟨_,_,rfl,bO,bP⟩,e2.out⟩
  .intro f c j b C;have i:Ext k c:=j;have hS:=i.size;have a1:=lO b 0 6 rfl rfl;have eE:=a1;obtain⟨a2,a3,a4,a5,a6,a7,a9,b0,b1,b2,F, -⟩:=eE;rw[F]at a1;change kM _ _ _ f c Ext _;exact lH (P:=prog) 71 39 1 5 _ [.agg #[x,(a2,a3,a4),a5,(a6,a7,a9),(b0,b1,b2)]] rfl rfl underlying71 kr kr (by simp only[Act.eval];exact congrArg (λeG=> [(0,eG)]) F) rfl om om om (pW.one rfl (Z8 rfl rfl rfl rfl rfl)).size (λw' eN K=>⟨_,_,hS,rfl,K,a1.ext eN⟩)
  .intro f c j b C;have i:Ext k c:=j;have hS:=i.size;have h3:f 0=(y,r,z):=lO b 0 0 rfl rfl;have h4:=lO b 1 7 rfl rfl;have fA:f 0=(y,r,z):=lO b 0 0 rfl rfl;obtain⟨fB,_,_,fC,fD,bR⟩:=lO b 1 7 rfl rfl;have fE:=bR;obtain⟨a2,a3,a4,a5,a6,a7,a9,b0,b1,b2,fG, -⟩:=fE
   cases fG
   change kM _ _ _ f c (λa q=>a.grownBy q _) _;refine oI (P:=prog) _ _ 71 rfl rfl (go+1) 39 5 88 underlying71 kr kr om (y,r,z) r (kX N) fA (lL O.out i) ⟨fB,0,none⟩ 1 1 [x,(a2,a3,a4),a5,(a6,a7,a9),(b0,b1,b2)] fC rfl (λ_ u g0=>by rw[nO,aY,fD.cell];simpa using g0) (by intro u bS;simp at bS;rcases bS with rfl |rfl |rfl |rfl |rfl<;>rfl) om (by unfold maxLen;omega) om (by have:=i.size;omega) (λv' w' h1 h2 bD=>⟨h2,?_⟩)
   exact CoL.fin Q.out.1 Q.out.2.1 Q.out.2.2.1 (λJ u R a q=>(Q.out.2.2.2 J u R a q).ext i) (bR.mono om) h1 (zV h2 λg m=>(bC.out g m).imp λB K=>K.ext i) rfl (Z8 rfl rfl rfl rfl rfl)
  .intro f c j b C;have hS:k.heap.size<=c.heap.size:=j.2.2.2.1;have g1:=ah6 b 0 rfl;obtain⟨_,g2, -⟩:=g1;obtain⟨_,_,bT⟩:=lI g2.2;change kM _ _ _ f c (Chg go) (λ(_:Value) g3=>Bx 71 g3 go #[f 8]);refine VY (P:=prog) go 0 71 _ [(y,r,z)] _ _ _ _ _ rfl rfl rfl bT kr (BO.chgS j (λb3=>(bE.out go (by simpa using b3)).2 rfl)) (Nat.lt_succ_self _) (λw' v _=>by rw[bT];exact v)
 .intro f c c0 c1 c2 b;clear b;have g4:=a8 (show∀a,Ext a w->a.heap.size<=go->Ext a c fromλa g5 _=>(g5.trans D).stepS c0 (λg b3=>by
   rcases aW.1 b3 with v |v
   .have:=e5.out g (by simpa using v);omega
   .rw[aC]at v;omega))
  have g6:=a8 (show BF s c go (B++ [(x,mkV l,A)])from⟨_,c2,c1⟩);clear c0 c1 c2;go_wp2;refine bodyPost_end (results_none kr _ _ _) rfl ?_;exact⟨rfl,g6.out,g4.out⟩
theorem rX{P:Program}{d:Func}{e:Ending->World->Prop}{a:Act}{w:World}(c:Tmp)(h:TypeId)(g:Nat)(t:TypeId)(b:Value)(i:TypeId)(j:d.results=#[.cell c h])(k:a.tmps.getD c undef= .pointer g)(l:Bx t w g #[b])
  (m:P.underlying h=some (.slice i)) (n:a.defers=[]) (p:e (.returned b) w):bodyPost P d e .ret a w:=by
 refine bodyPost_ret (v:=b) ?_ n p;have q:a.tmps[c]?.getD undef= .pointer g:=by simpa using k
 have r:w.cell? g=some b:=l.cell 0;simp[results,j,q,asAddr,loadVar,isAgg,Go.underlying,m,r]
def oT(s:SpR)(tight:Bool)(l:List (Int×Rat)):List CR:=
 if(tight&&s.1&&s.2.1&&decide (s.2.2.1=s.2.2.2))=true then [(3,mkV l,s.2.2.1)]else(if s.1 then [(2,mkV l,s.2.2.1)]else [])++(if s.2.1 then [(1,mkV l,s.2.2.2)]else [])
theorem IU(k K:Nat)(b h:QC)(i:SpR)(tight:Bool){n:Nat}(ls:List (Int×Rat))(w:World)(q:SpV k w b h i)(A:TL k w (p,d,n) ls)(hn:ls.length<=1073741824)(r:(ls.length+1)*(k+1)<=34359738000)(B:(ls.length+1)*(k+1)<=K):
  Calls prog 85 #[(p,d,n),.agg #[i.1,i.2.1,b.b,(b.a1,b.n1,b.c1),(b.a2,b.n2,b.c2),h.b,(h.a1,h.n1,h.c1),(h.a2,h.n2,h.c2)],tight] w λe C=>∃s,e= .returned s/\CoL (w.heap.size+3) K C s (oT i tight ls)/\(oT i tight ls=[]->s=())/\Ext w C:=by
 obtain⟨u,j,lo,hi⟩:=i;simp only;have:∀(D:Fn) (first cap:Array Value) (w:World),(Instr.makeFunc D first cap).run prog w= .ok (.func D first cap) w:=λ_ _ _ _=>rfl
 have:k+1<=34359738000:=aE (cX _ om) r;obtain⟨wa,J,ea,bT,bS,L⟩:=lZ w #[(p,d,n)] #[u,j,b.b,(b.a1,b.n1,b.c1),(b.a2,b.n2,b.c2),h.b,(h.a1,h.n1,h.c1),(h.a2,h.n2,h.c2)] 32 144;have M:wa.heap.size=w.heap.size+2:=L;obtain⟨w1,hw1,v,bO,_⟩:=kR wa #[()] 71;rw[M]at bO;rw[J]at hw1;have HT:=a8 (A.ext ea);have HLO:=a8 (q.1.ext ea);have HHI:=a8 (q.2.ext ea);simp only at HLO HHI;have HK:=a8 (aD r B);have E1:=a8 v;have T1:Hid (BF K w1 (w.heap.size+2) []):=a8 ⟨_,bO,OL.nil _ _ _ _ _⟩;have hb:=bS.ext v;obtain⟨ha0,ha1,ha2,ha3,ha4,ha5,ha6,ha7,-⟩:=hb.cl [0,1,2,3,4,5,6,7];rw[hw1]at ha0 ha1 ha2 ha3 ha4 ha5 ha6 ha7;clear hb A q r B v;go_enter func85,ntmps85
 cases tight with
 |false=>
  cases u with
  |false=>
   cases j with
   |false=>
    have HV:Hid (oT (false,false,lo,hi) false ls=[]):=a8 (by simp[oT]);exact Lr8
   |true=>
    have HV:Hid (oT (false,true,lo,hi) false ls=[(1,mkV ls,hi)]):=a8 (by simp[oT]);exact DG5
  |true=>
   cases j with
   |false=>
    have HV:Hid (oT (true,false,lo,hi) false ls=[(2,mkV ls,lo)]):=a8 (by simp[oT]);exact yZ4
   |true=>
    have HV:Hid (oT (true,true,lo,hi) false ls=[(2,mkV ls,lo),(1,mkV ls,hi)]):=a8 (by simp[oT]);go_wp2_with fail;rw[<-hw1];refine(pJ k K (w.heap.size+2) w 2 _ lo ls [] w1 T1.out (bT.ext E1.out) (HT.out.ext E1.out) (HLO.out.ext E1.out) sm hn HK.out.1 HK.out.2).mono ?_;rintro e w2 ⟨rfl,t',x'⟩;have E2:Hid (Ext wa w2):=a8 (x' wa E1.out om);have T2:=a8 t';have hb:=bS.ext E2.out;clear x' t' ha0 ha1 ha2 ha3 ha4 ha5 ha6 ha7;obtain⟨ha0,ha1,ha2,ha3,ha4,ha5,ha6,ha7,-⟩:=hb.cl [0,1,2,3,4,5,6,7];clear hb;go_wp2_with fail;refine(pJ k K (w.heap.size+2) w 1 _ hi ls [(2,mkV ls,lo)] w2 T2.out (bT.ext E2.out) (HT.out.ext E2.out) (HHI.out.ext E2.out) sm hn HK.out.1 HK.out.2).mono ?_;rintro e c ⟨rfl,t',x'⟩;have E3:Hid (Ext wa c):=a8 (x' wa E2.out om);have l:=a8 t';have hb:=bS.ext E3.out;clear x' t' ha0 ha1 ha2 ha3 ha4 ha5 ha6 ha7;obtain⟨ha0,ha1,ha2,ha3,ha4,ha5,ha6,ha7,-⟩:=hb.cl [0,1,2,3,4,5,6,7];clear hb;obtain⟨hv,hB,hL⟩:=l.out;obtain⟨ad,cap,rfl⟩:∃ad cap,hv= .slice ad 2 cap:=jD1;have hcc:=hB.cell 0;have hcf:=hB.free 0;have HL':=a8 hL;have hgB:=hB.lt;clear hL;go_wp2;refine rX 6 71 (w.heap.size+2) 71 _ 39 kr rfl (hB.set 0 _) underlying71 rfl ?_;have hch:=Chg.setCell c (w.heap.size+2) 0 (.slice ad 2 cap);exact HG2
 |true=>
  cases u with
  |false=>
   cases j with
   |false=>
    have HV:Hid (oT (false,false,lo,hi) true ls=[]):=a8 (by simp[oT]);exact Lr8
   |true=>
    have HV:Hid (oT (false,true,lo,hi) true ls=[(1,mkV ls,hi)]):=a8 (by simp[oT]);exact DG5
  |true=>
   cases j with
   |false=>
    have HV:Hid (oT (true,false,lo,hi) true ls=[(2,mkV ls,lo)]):=a8 (by simp[oT]);exact yZ4
   |true=>
    go_wp2_with fail;rw[<-hw1];refine(pO _ _ lo hi k k w1 (HLO.out.ext E1.out) (HHI.out.ext E1.out) om).mono ?_;rintro e w2 ⟨rfl,x⟩;have y:=a8 (KG (a:=lo) (b:=hi));obtain⟨E,F⟩:=ex (qP lo hi);rw[<-F]at y ⊢;have E2:=a8 (E1.out.trans x);have T2:=a8 (T1.out.ext x);have hb:=bS.ext E2.out;clear F hw1 x bO ha0 ha1 ha2 ha3 ha4 ha5 ha6 ha7;obtain⟨ha0,ha1,ha2,ha3,ha4,ha5,ha6,ha7,-⟩:=hb.cl [0,1,2,3,4,5,6,7];clear hb;by_cases z:E=0
    .have HV:Hid (oT (true,true,lo,hi) true ls=[(3,mkV ls,lo)]):=a8 (by
      have m:=y.out;rw[z]at m;have N:decide (lo=hi)=true:=m.symm;simp only[oT];rw[N];rfl)
     subst z;go_wp2_with fail;refine(pJ k K (w.heap.size+2) w 3 _ lo ls [] w2 T2.out (bT.ext E2.out) (HT.out.ext E2.out) (HLO.out.ext E2.out) sm hn HK.out.1 HK.out.2).mono ?_;rintro e c ⟨rfl,t',x'⟩;have E3:Hid (Ext wa c):=a8 (x' wa E2.out om);have l:=a8 t';have hb:=bS.ext E3.out;clear x' t' ha0 ha1 ha2 ha3 ha4 ha5 ha6 ha7;obtain⟨ha0,ha1,ha2,ha3,ha4,ha5,ha6,ha7,-⟩:=hb.cl [0,1,2,3,4,5,6,7];clear hb;obtain⟨hv,hB,hL⟩:=l.out;obtain⟨ad,cap,rfl⟩:∃ad cap,hv= .slice ad 1 cap:=jD1;have hcc:=hB.cell 0;have hcf:=hB.free 0;have HL':=a8 hL;have hgB:=hB.lt;clear hL;go_wp2;refine rX 6 71 (w.heap.size+2) 71 _ 39 kr rfl (hB.set 0 _) underlying71 rfl ?_;have hch:=Chg.setCell c (w.heap.size+2) 0 (.slice ad 1 cap);exact HG2
    .have O:(E==0)=false:=by simpa using z
     have HV:Hid (oT (true,true,lo,hi) true ls=[(2,mkV ls,lo),(1,mkV ls,hi)]):=a8 (by
      have m:=y.out;rw[O]at m;simp only[oT];rw[<-m];rfl)
     go_wp2_with fail;refine(pJ k K (w.heap.size+2) w 2 _ lo ls [] w2 T2.out (bT.ext E2.out) (HT.out.ext E2.out) (HLO.out.ext E2.out) sm hn HK.out.1 HK.out.2).mono ?_;rintro e c ⟨rfl,t',x'⟩;have E3:Hid (Ext wa c):=a8 (x' wa E2.out om);have l:=a8 t';have hb:=bS.ext E3.out;clear x' t' ha0 ha1 ha2 ha3 ha4 ha5 ha6 ha7;obtain⟨ha0,ha1,ha2,ha3,ha4,ha5,ha6,ha7,-⟩:=hb.cl [0,1,2,3,4,5,6,7];clear hb;go_wp2_with fail;refine(pJ k K (w.heap.size+2) w 1 _ hi ls [(2,mkV ls,lo)] c l.out (bT.ext E3.out) (HT.out.ext E3.out) (HHI.out.ext E3.out) sm hn HK.out.1 HK.out.2).mono ?_;rintro e H ⟨rfl,t',x'⟩;have I:Hid (Ext wa H):=a8 (x' wa E3.out om);have Q:=a8 t';have hb:=bS.ext I.out;clear x' t' ha0 ha1 ha2 ha3 ha4 ha5 ha6 ha7;obtain⟨ha0,ha1,ha2,ha3,ha4,ha5,ha6,ha7,-⟩:=hb.cl [0,1,2,3,4,5,6,7];clear hb;obtain⟨hv,hB,hL⟩:=Q.out;obtain⟨ad,cap,rfl⟩:∃ad cap,hv= .slice ad 2 cap:=jD1;have hcc:=hB.cell 0;have hcf:=hB.free 0;have HL':=a8 hL;have hgB:=hB.lt;clear hL;go_wp2;refine rX 6 71 (w.heap.size+2) 71 _ 39 kr rfl (hB.set 0 _) underlying71 rfl ?_;have hch:=Chg.setCell H (w.heap.size+2) 0 (.slice ad 2 cap);exact⟨_,rfl,by rw[HV.out];exact HL'.out.chg hch om,by rw[HV.out];exactλh=>by simp at h,(ea.trans I.out).step hch om⟩
theorem BI{j:Type}{p:j->Bool}:∀{cs:List j},(tG p cs= -1/\∀b∈cs,p b=false)∨∃(e:Nat) (b:j),tG p cs=(e:Int)/\cs[e]? =some b/\p b=true/\∀c∈cs.take e,p c=false
 | []=> .inl ⟨rfl,λb m=>by cases m⟩
 |b::cs=>by
  cases d:p b with
  |true=>exact .inr ⟨0,b,by unfold tG;rw[d];rfl,rfl,d,λc h=>by simp at h⟩
  |false=>
   rcases BI (p:=p) (cs:=cs)with⟨k,l⟩ |⟨e,c,k,l,n,q⟩
   .refine .inl ⟨by unfold tG;rw[d,k];rfl,λc h=> ?_⟩
    rcases aS.1 h with rfl |h
    .exact d
    .exact l c h
   .refine .inr ⟨e+1,c,?_,by simpa using l,n,λr i=> ?_⟩
    .unfold tG;rw[d,k];simp only[eP,if_false];rw[if_neg om];omega
    .rw[List.take_succ_cons]at i
     rcases aS.1 i with rfl |i
     .exact d
     .exact q r i
def ltP(N:Nat)(ps:Ps):Ps:=ps.filter λp=> !decide ((N:Int)<=p.1.c)
theorem H7(b:Nat)(d:Ps)(c:TmC×Rat):ltP b (d++ [c])=if(b:Int)<=c.1.c then ltP b d else ltP b d++ [c]:=by
 unfold ltP;rw[iJ];by_cases e:(b:Int)<=c.1.c<;>simp [e]
theorem TQ{d:Nat}{b:Ps}(e:∀c∈b,¬(d:Int)<=c.1.c):ltP d b=b:=by
 unfold ltP;rw[jP];intro c h;simp only[hQ,decide_eq_false_iff_not];exact e c h
def ltV(N:Nat)(l:List (Int×Rat)):List (Int×Rat):=l.filter λx=> !decide ((N:Int)<=x.1)
theorem af9(b:Nat)(c:Ps):lP (ltP b c)=ltV b (lP c):=by
 unfold lP ltP ltV;rw[List.filter_map];rfl
theorem LsT.at{q:Nat}{w:World}{n:Value}{c:List TmC}(p:LS 67 4 q w n (c.map tmv)):∃e k l,k=c.length/\n= .slice e k l/\k<=9223372036854775807/\∀(i:Nat) (t:TmC),c[i]? =some t->∃g,e=some ⟨g,0,none⟩/\∀b,Ext w b->b.cell? ⟨g,i*4,none⟩=some (.int .i64 t.c)/\b.cell? ⟨g,i*4+1,none⟩=some (.bool t.b)/\b.cell? ⟨g,i*4+2,none⟩=some (.slice t.a1 t.n1 t.c1)/\b.cell? ⟨g,i*4+3,none⟩=some (.slice t.a2 t.n2 t.c2):=by
 obtain⟨e,l,m,r,_, -⟩:=p.opn;rw[aF]at m r;refine⟨e,c.length,l,rfl,m,om,λi t d=> ?_⟩;have:=(aH.1 d).1;obtain⟨g,_,rest,f1,f2,f3,f4,f5,f6⟩:=p.hold (by rw[aF];omega);rw[m,aF]at f1
 cases f1
 have h:kY g rest w c:=⟨nK _,f6⟩;exact⟨g,rfl,λb j=>⟨h.at d b j 0 _ rfl,h.at d b j 1 _ rfl,h.at d b j 2 _ rfl,h.at d b j 3 _ rfl⟩⟩
theorem KU(t:TmC)(b c:Nat)(w:World)(k:Bx 25 w b #[Q,L,(p,d,h),(A,c,m)]):
  Calls prog 84 #[.agg #[t.c,t.b,(t.a1,t.n1,t.c1),(t.a2,t.n2,t.c2)],(b,0)] w λl n=>l= .returned (.bool (decide ((c:Int)<=t.c)))/\Ext w n:=by
 obtain⟨_,e,i,_,_⟩:=kR w #[t.c,t.b,(t.a1,t.n1,t.c1),(t.a2,t.n2,t.c2)] 67;have j:=k.ext i;obtain⟨q,r,s,u,-⟩:=j.cl [0,1,2,3];rw[e]at q r s u;clear j;go_enter func84,ntmps84;go_wp2;rw[<-e];go_ret;exact⟨rfl,i⟩
theorem RO(q:Value)(c:List TmC)(z e b:Nat)(w:World)(r:LS 67 4 z w q (c.map tmv))(B:Bx 25 w e #[L,Q,(p,d,h),(A,b,m)]):
  Calls prog 136 #[q,.func (.func 84) #[] #[(e,0)]] w λC D=>C= .returned (.int .i64 (tG (λt:TmC=>decide ((b:Int)<=t.c)) c))/\Ext w D:=by
 have E:=LsT.at r;clear r;obtain⟨_,j,_,s,rfl,_,u⟩:=E;have Hn:=a8 s;have F:=a8 u;clear s u;go_enter func136,ntmps136;go_wp2_with fail;go_loopw [8] (λk wr=>∃i:Nat,i<=j/\k= .int .i64 (i:Int)/\Hid (∀x∈c.take i,(λt:TmC=>decide ((b:Int)<=t.c)) x=false)/\Ext w wr) (λk _=>((j:Int) - intOf k).toNat)
 case atStart=>exact ⟨0,zl,rfl,a8 (λx hx=>by simp at hx),rE⟩
 case round=>
  obtain⟨i,H,rfl,hH,hex⟩:=hrel;rcases aI H with l |l
  .subst l;have I:¬((i:Int)<i):=om;have HF:Hid (tG (λt:TmC=>decide ((b:Int)<=t.c)) c= -1):=vp3;exact pM4
  .have I:(i:Int)<j:=om;obtain⟨n,hx⟩:∃x,c[i]? =some x:=⟨_,aA (by rw[<-Hn.out];exact l)⟩;obtain⟨g,rfl,v⟩:=F.out i n hx;obtain⟨_,_,_,_⟩:=v wr hex;have J:=a8 (B.ext hex);clear v;have HX:=a8 (aD hx (mP hx));obtain⟨K,y⟩:=ex ((λt:TmC=>decide ((b:Int)<=t.c)) n:Bool);have Hr:=a8 y.symm;clear hx y;go_wp2_with fail;refine(KU n e b wr J.out).mono ?_;rw[Hr.out];rintro _ _ ⟨rfl,e2⟩
   cases K with
   |true=>
    have HF:Hid (tG (λt:TmC=>decide ((b:Int)<=t.c)) c=(i:Int)):=a8 (CO hH.out HX.out.1 Hr.out);exact Vf9
   |false=>
    have HF:Hid (∀x∈c.take (i+1),(λt:TmC=>decide ((b:Int)<=t.c)) x=false):=a8 λx hx=>Gq5
    exact oo8
theorem RN(s u c:Nat)(J:Value)(b:Ps)(w:World)(B:LS 67 4 s w J ((tsP b).map tmv))(c4:b.length<=34359738368)(hp:Bx 25 w u #[Q,L,(p,d,h),(A,c,m)]):
  Calls prog 82 #[J,.func (.func 84) #[] #[(u,0)]] w λe a5=>∃a6,e= .returned a6/\LS 67 4 s a5 a6 ((tsP (ltP c b)).map tmv)/\w.grownBy a5 J.ownBlock:=by
 have K:=B;obtain⟨c5,cap,a7, -, -, -⟩:=K.opn;have M:((tsP b).map tmv).length=b.length:=by unfold tsP;simp
 rw[M]at a7;subst a7;have C:=a8 K;have c6:=a8 M;obtain⟨n,N⟩:=ex b.length;rw[<-N]at c4 C ⊢;have c7:=a8 N;have c8:=BI (p:=λt:TmC=>decide ((c:Int)<=t.c)) (cs:=tsP b);clear B K M N;go_enter func82,ntmps82;go_wp2_with fail;refine(RO _ (tsP b) s u c w C.out hp).mono ?_;rintro c9 a9 ⟨rfl,e2⟩;rcases c8 with⟨q,b0⟩ |⟨k,_,q,D,b1,b2⟩
 .have e0:Hid (ltP c b=b):=a8 (TQ λl hp=>of_decide_eq_false (b0 l.1 (bJ.2 ⟨l,hp,rfl⟩)));rw[q];clear b0 q;go_wp2;go_ret;refine⟨_,rfl,by rw[e0.out];exact C.out.ext e2,?_⟩
  cases c5 with
  |none=>exact e2
  |some a=>exact e2.chg a.block
 .have hpl:(tsP b).length=n:=by have:=c6.out;rw[aF]at this;rw[this,c7.out]
  have b3:b.length=n:=by unfold tsP at hpl;rw[aF]at hpl;exact hpl
  have g2:k<n:=by have:=(aH.1 D).1;omega
  rw[q];clear q;obtain⟨g,_,rest,f1,f2,f3,f4,f5,f6⟩:=C.out.hold (by rw[aF,hpl];omega);rw[aF,hpl]at f1 f3 f5
  cases f1
  obtain⟨v,O⟩:∃v,b[k]? =some v:=⟨_,aA om⟩;have b4:(c:Int)<=v.1.c:=by
   have h1:(tsP b)[k]? =some v.1:=by unfold tsP;rw[aX,O];rfl
   rw[h1]at D
   cases D
   exact of_decide_eq_true b1
  have b5:ltP c (b.take k)=b.take k:=TQ λl hp=>of_decide_eq_false (b2 l.1 (by
   unfold tsP;rw[<-gU];exact bJ.2 ⟨l,hp,rfl⟩))
  have R:Hid ((tsP b).length=n/\kY g rest a9 (tsP b)/\(tsP b).take k=tsP (ltP c (b.take (k+1)))/\k=(ltP c (b.take (k+1))).length/\(tsP b).drop (k+1)=(tsP b).drop (k+1)):=by
   have e:ltP c (b.take (k+1))=b.take k:=by
    rw[cE,O];show ltP c (b.take k++ [v])=_;rw[H7,if_pos b4,b5]
   exact YK7
  have e1:=a8 f6;have b6:=a8 b3;have e3:=a8 (aD f2 (aD f3 (aD f4 f5)));have b7:Chg g w a9:=e2.chg g;have e4:u≠g:=λe=>by
   subst e;have h1:=hp;have h2:=e1.out;unfold Bx at h1 h2;rw[h1]at h2;simp only[Option.some.injEq,Obj.cells.injEq,and_true]at h2;exact absurd h2.2 de
  have e5:=a8 hp;have g3:n<=cap:=f3;have g4:cap<=9223372036854775807:=f4;clear hp D b1 b2 hpl b3 f2 f3 f4 f5 f6 O b4 b5;obtain⟨E,b8⟩:=ex (k+1);rw[<-b8]at R;have e6:(k:Int)+1=(E:Int):=om;have b9:k<E:=om;have bA:E<=n:=om;have F:¬(k:Int)= -1:=om;clear b8;have bB:((k:Int)== -1)=false:=sm;go_wp2_with fail;(try rw[bB]);clear F bB;go_loopw [5,6] (λS T wr=>∃(i j:Nat),S= .int .i64 (i:Int)/\T= .int .i64 (j:Int)/\i<j/\j<=n/\Hid (∃us:List TmC,us.length=n/\kY g rest wr us/\us.take i=tsP (ltP c (b.take j))/\i=(ltP c (b.take j)).length/\us.drop j=(tsP b).drop j)/\Chg g w wr) (λS T _=>((n:Int) - intOf T).toNat)
  case atStart=>exact ⟨k,E,rfl,rfl,b9,bA,a8 (let ⟨a,e7,e8,e9,_⟩:=R.out;⟨_,a,e7,e8,e9,rfl⟩),b7⟩
  case round=>
   obtain⟨i,j,rfl,rfl,_,eA,hH,hch⟩:=hrel;obtain⟨us,hH⟩:∃us:List TmC,Hid (us.length=n/\kY g rest wr us/\us.take i=tsP (ltP c (b.take j))/\i=(ltP c (b.take j)).length/\us.drop j=(tsP b).drop j):=by
    obtain⟨us,B⟩:=hH.out;exact⟨us,a8 B⟩
   clear b7 R e6 b9 bA;rcases aI eA with eB |eC
   .subst eB;have eD:¬(j:Int)<j:=om;have hzv:∀w,(zeroValue 67).run prog w= .ok (.agg #[(0:Int),false,(),()]) w:=λw=>kr
    have hmul:i*4+(j - i)*4=j*4:=om;have bC:=λeE=>tM (P:=prog) wr 32 67 eE _ underlying32 hzv (λ_ bD=>by
     simp only[Value.cells,aS,bI,or_false]at bD
     rcases bD with rfl |rfl |rfl |rfl<;>rfl) g (i*4) (j - i) (cap - i) _ hH.out.2.1.2 (by
      rw[aB,mU hH.out.2.1.1.size,aF,hH.out.1];show i*4+(j - i)*4<=_;omega) om de
    obtain⟨r,hzs⟩:=ex ((Builtin.zeroCells (Value.agg #[(0:Int),false,(),()]).cells (j - i)).toList);rw[<-hzs]at bC;have hzl:r.length=(j - i)*4:=by rw[hzs];simp[Builtin.zeroCells,Value.cells]
    obtain⟨x,hw7⟩:=ex (wr.setRow g (pR (kX (us.map tmv)++rest) (i*4) r).toArray);rw[<-hw7]at bC;have hB7:Bx 67 x g (pR (kX (us.map tmv)++rest) (i*4) r).toArray:=by rw[hw7];exact hH.out.2.1.2.setRow _
    have hC7:Chg g wr x:=by rw[hw7];exact Chg.setRow _ _ _
    have hlay:pR (kX (us.map tmv)++rest) (i*4) r=kX ((us.take i).map tmv)++(r++rest):=ay8;have HF7:Hid (LS 67 4 s x (g,i,cap) ((tsP (ltP c b)).map tmv)/\Chg g w x):=by
     obtain⟨h1,h2,h3,h4,h5⟩:=hH.out;obtain⟨eG,_,eN,fA⟩:=e3.out;rw[hlay]at hB7;have U:(us.take i).length=i:=by rw[aP];omega
     have fB:=hch.trans hC7;have fC:b.take j=b:=by rw[aK];have:=b6.out;omega
     rw[fC]at h3 h4;have bE:=LS.of_hold (e:=67) (n:=4) (B:=s) (w:=x) (vs:=(us.take i).map tmv) (g:=g) (cap:=cap) (rest:=r++rest) (nK _) eG (by rw[aF,U];omega) eN (by
      rw[aF,U,aB,hzl];have g5:j*4+rest.length=cap*4:=fA;omega) hB7
     rw[aF,U,h3]at bE;exact a8 ⟨bE,fB⟩
    exact KX4
   .have eD:(j:Int)<n:=om;have g6:(i:Int)<n:=om;obtain⟨l,hp⟩:∃l,b[j]? =some l:=⟨_,aA (by rw[b6.out];exact eC)⟩;have V:us[j]? =some l.1:=cj8;obtain⟨X,bG⟩:∃X,us[i]? =some X:=⟨_,aA (by rw[hH.out.1];omega)⟩;have y:=hH.out.2.1.at V wr (Ext.refl wr);have Y:wr.cell? (g,j*4)=some (.int .i64 l.1.c):=y 0 _ rfl;have Z:=y 1 _ rfl;have a0:=y 2 _ rfl;have a1:=y 3 _ rfl;have bO:b.take (j+1)=b.take j++ [l]:=by rw[cE,hp];rfl
    have H:=a8 bO;have bP:=a8 (aD V bG);obtain⟨fD,q⟩:=ex (decide ((c:Int)<=l.1.c):Bool);have I:=a8 q.symm;obtain⟨t,bR⟩:=l;simp only at Y Z a0 a1 H bP I;obtain⟨fE,bS,bT,c0,S⟩:=kR wr #[t.c,t.b,(t.a1,t.n1,t.c1),(t.a2,t.n2,t.c2)] 67;have fG:=a8 ((e5.out.chg hch e4).ext bT);clear hp V bG y bO q;go_wp2_with fail;rw[<-bS];refine(KU t u c fE fG.out).mono ?_;rw[I.out];rintro c9 a2 ⟨rfl,c1⟩;have E6:=bT.trans c1;have g0:=c0.ext c1;obtain⟨_,_,_,_,-⟩:=g0.cl [0,1,2,3];obtain⟨j1,a3⟩:=ex (j+1);have g7:(j:Int)+1=(j1:Int):=om;rw[<-a3]at H;have HJ1:=a8 a3;have H6:=a8 (hH.out.2.1.ext E6);clear a3 Y Z a0 a1 bS c0
    cases fD with
    |true=>
     go_wp2;go_roundw
     case rel=>
      obtain⟨h1,h2,h3,h4,h5⟩:=hH.out;have a4:(c:Int)<=t.c:=of_decide_eq_true I.out;have e:ltP c (b.take j1)=ltP c (b.take j):=by rw[H.out,H7,if_pos a4]
      exact SS1
     case measure=>have:=HJ1.out;simp[intOf];omega
    |false=>
     have z:=H6.out.at bP.out.2 a2 (Ext.refl a2);have Y:a2.cell? (g,i*4)=some (.int .i64 X.c):=z 0 _ rfl;have Z:=z 1 _ rfl;have a0:=z 2 _ rfl;have a1:=z 3 _ rfl;have g9:=H6.out.2.free (i*4);have gA:=H6.out.2.free (i*4+1);have gG:=H6.out.2.free (i*4+2);have gL:=H6.out.2.free (i*4+3);obtain⟨c2,F⟩:=ex (i+1);have gT:(i:Int)+1=(c2:Int):=om;have g1:=a8 F;clear F z;go_wp2;go_roundw
     case rel=>
      obtain⟨h1,h2,h3,h4,h5⟩:=hH.out;have a4:¬(c:Int)<=t.c:=of_decide_eq_false I.out;have e:ltP c (b.take j1)=ltP c (b.take j)++ [(t,bR)]:=by rw[H.out,H7,if_neg a4]
      have hj:=HJ1.out;have c3:=g1.out;refine⟨c2,j1,rfl,rfl,om,om,a8 ⟨us.set i t,by rw[cI];exact h1,H6.out.store (by rw[h1];omega) t,?_,by rw[e,aB,<-h4];exact c3,?_⟩,(hch.trans (E6.chg g)).trans (Chg.trans (Chg.trans (Chg.trans (Chg.setCell _ g (i*4) _) (Chg.setCell _ g (i*4+1) _)) (Chg.setCell _ g (i*4+2) _)) (Chg.setCell _ g (i*4+3) _))⟩
      .rw[e];have e2:tsP (ltP c (b.take j)++ [(t,bR)])=tsP (ltP c (b.take j))++ [t]:=by unfold tsP;simp
       rw[e2,<-h3,c3,cE,dR lr,fK om];rfl
      .rw[eK om,hj,<-dK,h5,dK]
     case measure=>have:=HJ1.out;simp[intOf];omega
theorem CoL.fins{K:Nat}{w:World}{h:List Value}{m:List CR}(s:pW 5 v)(n:v.length=r.length)(u:v.length=d)(x:∀(b:Nat) (c:Value) (i:CR),v[b]? =some c->r[b]? =some i->CnO B K w c i)
  (y:pW 5 h) (z:h.length=m.length) (A:∀(b:Nat) (c:Value) (i:CR),h[b]? =some c->m[b]? =some i->CnO B K w c i)
  (C:j.ownsRow B 39 5 e (d+h.length) (kX v++kX h)) (p:rI w j):CoL B K j e (r++m):=by
 refine⟨v++h,⟨s.app y,?_⟩,by rw[aB,aB,n,z],λb c q k l=> ?_⟩
 .rw[pF,aB,u];exact C
 .by_cases D:b<v.length
  .rw[bM D]at k;rw[bM om]at l;exact(x b c q k l).keepT p
  .rw[cB om]at k;rw[cB om,<-n]at l;exact(A _ c q k l).keepT p
theorem LS.one_all(e:pW d v):∀b∈kX v,b.oneCell'=true:=by
 intro b c;unfold kX at c;obtain⟨h,i,j⟩:=dL.1 c;obtain⟨_,k,_,l⟩:=e h i;subst k;exact gB.1 l b (bU.1 j)
theorem ED{w:World}{D:Array Oper}{rest:List Oper}{o:Oper}{a:Act}(E:o.guard=none)(m n:Operand)
  (F:o.op= .call {callee:= .builtin .append,args:=#[m,n],argTypes:=#[71,71]})
  (c H p:Nat) (e j:Value) (k d:List CR) (I:a.eval m=e) (U:CoL c p w e k) (J:a.eval n=j) (V:CoL H p w j d) (X:d=[]->j=()) (Z:c<=H) (a9:k.length+d.length<=1000000) (a0:c<=w.heap.size)
  (K:∀q r h,CoL c p h (.slice q (k.length+d.length) r) (k++d)->w.grownBy h e.ownBlock->wpList prog D Y rest (a.put o.dst (.slice q (k.length+d.length) r)) h):
  wpList prog D Y (o::rest) a w:=by
 obtain⟨l,hLS,s,L⟩:=U;obtain⟨x,u,y,a1⟩:=V;have v:(prog.info? 39).map (λb=>(b.size,b.bytes))=some (5,88):=kr;have z:((prog.info? 39).bind (·.zero)).map (λA=>A.cells.size)=some 5:=kr
 cases i:prog.info? 39 with
 |none=>simp [i]at v
 |some b=>
  by_cases B:d=[]
  .have a2:=X B;obtain⟨q,r,a3⟩:=lI hLS.2;refine wpList_append_own_none E m n _ F c 39 b 5 underlying71 i e l.length (kX l) I hLS.2 (J.trans a2) ?_;subst B;have M:=K q r w;rw[cF,cQ,bZ,<-s,<-a3]at M;refine M ⟨l,hLS,s,L⟩ ?_
   cases e.ownBlock with
   |none=>exact rE
   |some g=>exact Chg.refl _ _
  .simp only[i,Option.map_some,Option.some.injEq,Prod.mk.injEq]at v
   cases C:b.zero with
   |none=>simp [i,C]at z
   |some A=>
    simp only[i,C,Option.bind_some,Option.map_some,Option.some.injEq]at z;have N:0<x.length:=by
     rw[y];exact fJ.2 B
    obtain⟨g,a4,_,f1,f2,f3,f4,f5,f6⟩:=u.hold N;have a5:=mU u.1.size;refine wpList_append_lies w E m n _ F c 39 b A 5 88 underlying71 i C v.1 v.2 z om e l.length (kX l) I hLS.2 ⟨g,0,none⟩ x.length a4 (kX x) (J.trans f1) a5 (λ_ O Q=>by
     rw[nO,aY,f6.cell,eO,bM (by have:=(aH.1 Q).1;exact this)];exact Q) (LS.one_all u.1) N (by unfold maxLen;omega) om a0 _ rfl λ_ _ h R S _ _=> ?_
    have a6:rI w h:=zV S λg hg=>VL1
    have T:=CoL.fins (B:=c) (K:=p) hLS.1 s rfl L u.1 y (λb j O a a7=>(a1 b j O a a7).mono Z) R a6;rw[s,y]at T R ⊢;exact K _ _ h T S
theorem MJ{w:World}{o:Oper}{a:Act}{f:Nat->Value}{post:Value->World->Prop}(y:o.guard=none)(p q:Operand)
  (z:o.op= .call {callee:= .builtin .append,args:=#[p,q],argTypes:=#[71,71]})
  (b A l:Nat) (c j:Value) (r k:List CR) (B:a.eval p=c) (C:CoL b l w c r) (D:a.eval q=j) (N:CoL A l w j k) (O:k=[]->j=()) (Q:b<=A) (a3:r.length+k.length<=1000000) (R:b<=w.heap.size) (S:∀E,w.grownBy E c.ownBlock->Chg d w E)
  (F:∀m e,CoL b l e m (r++k)->post m e):
  kM prog o a f w (Chg d) post:=by
 by_cases s:k=[]
 .obtain⟨h,hLS,u,v⟩:=C;have T:=O s;have U:(prog.info? 39).map (λi=>(i.size,i.bytes))=some (5,88):=kr
  cases H:prog.info? 39 with
  |none=>simp [H]at U
  |some i=>
   have V:=run_append_owned_none (P:=prog) (w:=w) b 71 o.type 39 i 5 underlying71 H c h.length (kX h) hLS.2;unfold kM;rw[y];unfold Oper.wp;simp[execOp,z,resolve,invoke,builtin,B,D.trans T,V,Result.andThen];subst s;exact⟨c,rfl,Chg.refl _ _,F c w (by rw[cF];exact⟨h,hLS,u,v⟩)⟩
 .obtain⟨h,hLS,u,v⟩:=C;obtain⟨x,n,I,X⟩:=N;have J:0<x.length:=by
   rw[I];exact fJ.2 s
  obtain⟨g,Y,_,f1,f2,f3,f4,f5,f6⟩:=n.hold J;have Z:=mU n.1.size;refine oI (P:=prog) p q 71 y z b 39 5 88 underlying71 kr kr om c h.length (kX h) B hLS.2 ⟨g,0,none⟩ x.length Y (kX x) (D.trans f1) Z (λ_ K L=>by
   rw[nO,aY,f6.cell,eO,bM (by have:=(aH.1 L).1;exact this)];exact L) (LS.one_all n.1) J (by unfold maxLen;omega) om R λm e a0 M _=>⟨S e M,?_⟩
  have a1:rI w e:=zV M λg hg=>VL1
  exact F m e (CoL.fins (B:=b) (K:=l) hLS.1 u rfl v n.1 I (λi j K a a2=>(X i j K a a2).mono Q) a0 a1)
def PP.toldP{S:Nat}(K:Nat)(ds:List CR):PP S:=⟨false,λu w=>∃b,S<=b/\CoL b K w u ds/\(ds=[]->u=()),λ_ _ _ h hp=>(let ⟨b,h0,h1,h2⟩:=hp;⟨b,h0,h1.ext h,h2⟩),λ_ _ hg _ _ _ h hp=>(let ⟨b,h0,h1,h2⟩:=hp;⟨b,h0,h1.chg h (cD hg h0),h2⟩)⟩
theorem ab1{w:World}{c:Int}{b:Rat}(j:(xF c b:PP d).p e w)(l:szQ b<=k)(m:k<=LIM):TL k w e [(c,b)]:=by
 obtain⟨g,t,n,rfl,p,q,r⟩:=j;have s:=LS.of_hold (e:=67) (n:=4) (B:=d) (w:=w) (vs:=([t]:List TmC).map tmv) (g:=g) (cap:=1) (rest:=[]) (nK _) n lr om sm (by
  have u:(kX (([t]:List TmC).map tmv)++ []).toArray=(tmv t).cells:=by simp[kX]
  rw[u];exact p)
 have h:=LS.tl (k:=k) (ps:=[(t,b)]) (B:=d) s (λ_ i=>by
  rw[aC]at i;subst i;exact r.isR l m)
 unfold lP at h;rw[<-q];exact h
end Go.Proofs.YtjlcilmjfejimaaGreat
