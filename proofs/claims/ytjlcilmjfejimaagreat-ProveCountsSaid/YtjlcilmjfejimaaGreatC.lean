/- The document's numbers: places of four decimal digits: trimming, small numbers, a place; copies and sameness of words. -/
import Derived.Test.YtjlcilmjfejimaaGreatB
import Derived.ProofKit
import Derived.OpenShut
import Derived.Carry
import Derived.ChangeSlices
import Derived.Great.BuildSlice
import Derived.Deep.Slices
import Derived.Deep.AppendLies
import Derived.Laws.OwnMore
namespace Go.Proofs.YtjlcilmjfejimaaGreat
set_option maxRecDepth 100000
set_option maxHeartbeats 32000000
set_option linter.unusedVariables false
set_option linter.unusedSimpArgs false
open Go.RowKit Tryz
variable{b d L i q g j:Nat}{c h s:List Nat}{k C:Rat}{l:World}{m:Array Value}{p S T u:Value}{r:List Value}{t Y:Bool}{y:Exit->Act->World->Prop}{z:List Oper}{D:Int}{E:List Edge}{F:List Deferred}{I:(Nat->Value)->Array Value}{J:TypeId}{N:World->World->Prop}{R:List Al}{U:Array Oper}{V:IntKind}{X:Value->World->Prop}
def TK:Nat:=10000
theorem nB:TK=10000:=rfl
theorem lK:1<TK:=by rw[nB];omega
theorem qF(g:Option Addr)(i:Nat)(b:List Nat)(c:Nat)(w:World)(j:Rd w g (mK .i64 b))(k:c<=9223372036854775807)(l:b.length<=9223372036854775807):
  Calls prog 160 #[(g,b.length,i),c] w λe w'=>e= .returned ((gD b c:Nat):Int)/\w=w':=by
 by_cases d:c<b.length
 .obtain⟨_,_,rfl,h⟩:=j.at (by rw[kU];omega);have:=h c _ (mM .i64 b c d);clear h;have hg:=nY d;exact Sk0
 .have hg:=AW d;exact Sk0
theorem DO(w:World):(Instr.buildSlice 55 0 #[]).run prog w= .ok (.slice w 0 0) (w.alloc (.cells #[] 3)):=kr
theorem sR(w:World)(e:TypeId)(b:IntKind):FrL e b w (w.alloc (.cells #[] e)) (.slice w 0 0) []:=
 ⟨_,0,rfl,lr,om,.inr ⟨w.heap.size,_,rfl,lr,heap_alloc_new w _,rfl,rfl⟩⟩
theorem ac2(b:List Nat)(c:Nat)(d:c<b.length)(g:b[c]=0)(h:Hid (tz b=tz (b.take (c+1)))):Hid (tz b=tz (b.take c)):=by
 show tz b=tz (b.take c);rw[h.out,cT d,g,yX]
theorem ac0(b:List Nat)(c:Nat)(d:c<b.length)(g:¬b[c]=0)(h:Hid (tz b=tz (b.take (c+1)))):tz b=b.take (c+1):=by
 rw[h.out,cT d,UR _ _ g]
theorem II(s:Option Addr)(p:Nat)(c:List Nat)(w:World)(t:Rd w s (mK .i64 c))(R:c.length<=p)(S:p<=9223372036854775807)(T:c.length<=8796093022208):
  Calls prog 113 #[(s,c.length,p)] w λe w'=>∃v,e= .returned v/\FrL 3 .i64 w w' v (tz c)/\Ext w w':=by
 have U:=DO;go_enter func113,ntmps113;go_wp2;go_loopw [3] (λn wr=>∃d:Nat,d<=c.length/\n= .int .i64 d/\Hid (tz c=tz (c.take d))/\w=wr) (λn _=>(intOf n).toNat)
 case atStart=>exact ⟨c.length,lr,rfl,by simp[Hid],rfl⟩
 case round=>
  obtain⟨d,_,rfl,l,rfl⟩:=hrel;by_cases i:0<d/\gD c (d - 1)=0
  .obtain⟨b,rfl⟩:∃b,d=b+1:=⟨d - 1,om⟩;obtain⟨D,E,rfl,h⟩:=t.at (by rw[kU];omega);have u:=h b _ (mM .i64 c b om);have j:c[b]=0:=by have:=i.2;rwa [show b+1 - 1=b by omega,nY om]at this
   have F:=a8 j;rw[j]at u;clear h i j;go_wp2;go_roundw
   case rel=>exact ⟨b,om,rfl,ac2 c b om F.out l,trivial⟩
   case measure=>simp [intOf]
  .have x:tz c=c.take d:=by
    rcases aR d with k |k
    .subst k;have:=l.out;simpa[tz]using this
    .obtain⟨b,rfl⟩:∃b,d=b+1:=⟨d - 1,om⟩;refine ac0 c b om (λy=>i ⟨om,?_⟩) l;rw[show b+1 - 1=b by omega,nY om];exact y
   have z:=a8 x;clear x l;rcases aR d with k |k
   .subst k;clear i;go_wp2_with fail;refine wp_loop_rounds 1 ?_;rw[rounds_succ];go_wp2;go_ret;rw[z.out,g8];exact⟨_,rfl,sR _ _ _,rE.alloc _⟩
   .obtain⟨b,rfl⟩:∃b,d=b+1:=⟨d - 1,om⟩;obtain⟨D,E,rfl,h⟩:=t.at (by rw[kU];omega);have u:=h b _ (mM .i64 c b om);have j:¬((c[b]:Int)=0):=λy=>i ⟨om,by rw[show b+1 - 1=b by omega,nY om];omega⟩
    clear i;have I:=sR w 3 .i64;have J:=(Ext.refl w).alloc (.cells #[] 3);go_wp2_with fail;have K:((c[b]:Int)==0)=false:=by simpa using j
    simp only[Int.natCast_add,Int.cast_ofNat_Int,K];go_loopw [4,5] (λL q wr=>∃g:Nat,g<=b+1/\q= .int .i64 g/\FrL 3 .i64 w wr L (c.take g)/\Ext w wr) (λ_ q _=>b+1 - (intOf q).toNat)
    case atStart=>exact ⟨0,om,rfl,by rw[g8];exact I,J⟩
    case round=>
     obtain⟨g,_,rfl,r,m⟩:=hrel;by_cases V:g<b+1
     .have X:=m.cell (h g _ (mM .i64 c g om));have A:(c.take g).length=g:=by rw[aP];omega
      have C:=a8 A;have Y:=m.size;clear h A;go_wp2_with (at_builtin;go_loud (refine n6 _ rfl _ _ 55 rfl 3 .i64 8 underlying55 EJ w _ (c.take g) [c[g]] wr 1 1 rfl rfl rfl (r.alloc _) (Rd.new1 wr .i64 c[g] _) (by rw[C.out];omega) (by rw[C.out];omega) (by simp;omega) ?_));intro _ _ M N;have O:=Ext.step_own (m.alloc (.cells #[(c[g]:Int)] 3)) N r.block;go_wp2;go_roundw
      case rel=>exact ⟨g+1,om,rfl,M,O⟩
      case measure=>simp [intOf];omega
     .have Q:g=b+1:=om;subst Q;clear h;go_wp2;go_ret;rw[z.out];exact⟨_,rfl,r,m⟩
theorem wP(v:Value)(n:Nat)(w:World)(c:IsN .i64 TK w v n):
  Calls prog 113 #[v] w λe w'=>∃b,e= .returned b/\FrN 3 .i64 TK w w' b n/\Ext w w':=by
 obtain⟨d,⟨g,h,rfl,i,j,k⟩,l,m,rfl⟩:=c;rw[mR]at l;have:=II g h d w k i j om;unfold FrN;rwa [<-pK lK m]
theorem oZ{n:Nat}(b:n<=9223372036854775807):(dg TK n).length<=5:=nG lK (by
 rw[nB];have:(10000:Nat)^5=100000000000000000000:=de;omega)
theorem sA(n:Nat)(w:World)(j:n<=9223372036854775807):
  Calls prog 112 #[n] w λe w'=>∃k,e= .returned k/\FrN 3 .i64 TK w w' k n/\Ext w w':=by
 have y:=DO;have z:=oZ j;have r:=sR w 3 .i64;have s:=(Ext.refl w).alloc (.cells #[] 3);go_enter func112,ntmps112;go_wp2;go_loopw [0,3] (λg out wr=>∃(b:Nat) (c:List Nat),g= .int .i64 b/\FrL 3 .i64 w wr out c/\Hid (dg TK n=c++dg TK b)/\b<=9223372036854775807/\Ext w wr) (λg _ _=>(intOf g).toNat)
 case atStart=>exact ⟨n,[],rfl,r,rfl,j,s⟩
 case round=>
  obtain⟨b,c,rfl,hfr,h,_,hex⟩:=hrel;rcases aR b with l |l
  .subst l;have hd:dg TK n=c:=by have:=h.out;simpa[FK]using this
   have Hd2:=a8 hd;exact oo9
  .have hd:dg TK n=(c++ [b % 10000])++dg TK (b / 10000):=by
    rw[h.out,TJ lK (by omega:b≠0),nB];simp
   have A:c.length<=5:=by
    have:=congrArg List.length h.out;rw[aB]at this;omega
   have Hd2:=a8 hd;have C:=hex.size;clear hd;obtain⟨d,m⟩:=ex (b % 10000:Nat);obtain⟨i,p⟩:=ex (b / 10000:Nat);have D:((b:Int) % 10000)=(d:Int):=om;have E:((b:Int) / 10000)=(i:Int):=om;have q:=a8 (show i<b by omega);rw[<-m,<-p]at Hd2;clear m p;go_wp2_with (at_builtin;refine n6 _ rfl _ _ 55 rfl 3 .i64 8 underlying55 EJ w _ c [d] wr 1 1 rfl rfl rfl (hfr.alloc _) (Rd.new1 wr .i64 d _) om om (by simp;omega) ?_);intro _ _ t u;have x:=Ext.step_own (hex.alloc (.cells #[d] 3)) u hfr.block;go_wp2;go_roundw
   case rel=>exact ⟨i,_,rfl,t,Hd2,by have:=q.out;omega,x⟩
   case measure=>have:=q.out;simp[intOf];omega
theorem EZ(v y:Value)(c d:List Nat)(w:World)(J:IsL .u64 w v c)(K:IsL .u64 w y d):
  Calls prog 72 #[v,y] w λe w'=>e= .returned (.bool (decide (c=d)))/\Ext w w':=by
 obtain⟨_,z,rfl,_,_,L⟩:=J;obtain⟨_,A,rfl,_,_,M⟩:=K;go_enter func72,ntmps72;by_cases j:c.length=d.length
 .have q:=a8 j;rw[<-j];clear j;go_wp2;go_loopw [5] (λr wr=>∃b:Nat,b<=c.length/\r= .int .i64 b/\Hid (c.take b=d.take b)/\Ext w wr) (λr _=>c.length - (intOf r).toNat)
  case atStart=>exact ⟨0,om,rfl,by simp[Hid],rE⟩
  case round=>
   obtain⟨b,_,rfl,C,h⟩:=hrel;by_cases D:b<c.length
   .obtain⟨k,l,rfl,E⟩:=L.at (by rw[kU];omega);obtain⟨m,p,rfl,F⟩:=M.at (by rw[kU];have:=q.out;omega);have I:b<d.length:=by have:=q.out;omega
    have hcx:=h.cell (E b _ (mM .u64 c b D));have hcy:=h.cell (F b _ (mM .u64 d b I));clear E F;by_cases g:c[b]=d[b]
    .have s:=a8 (show c.take (b+1)=d.take (b+1)by
      rw[cT D,cT I,C.out,g])
     rw[g]at hcx;clear g;go_wp2_with fail;refine wpQ [(k,l,c.length,z),b,(k,l+b),kL (.int .u64 (d[b]:Int)),(m,p,c.length,A),b,(m,p+b),kL (.int .u64 (d[b]:Int)),false] [] [0,1,2,3,4,5,6,7,8] ?_ ?_
     .exact oS6
     .intro f w2 hG hp;have hE:Ext wr w2:=mV.nil hG;have t:f 8=false:=rM hp 8 de rfl (λu=>by cases u);try simp only[t]
      clear hp;go_wp2;go_roundw
      case rel=>exact ⟨b+1,om,rfl,s,h.trans hE⟩
      case measure=>simp [intOf];omega
    .have i:c≠d:=by rintro rfl;exact g rfl
     have O:(((c[b]:Int)) !=(d[b]:Int))=true:=by simp;omega
     have x:=a8 (decide_eq_false i);clear g i;go_wp2_with fail;refine wpQ [(k,l,c.length,z),b,(k,l+b),kL (.int .u64 (c[b]:Int)),(m,p,c.length,A),b,(m,p+b),kL (.int .u64 (d[b]:Int)),true] [] [0,1,2,3,4,5,6,7,8] ?_ ?_
     .exact oS6
     .intro f w2 hG hp;have hE:Ext wr w2:=mV.nil hG;have t:f 8=true:=rM hp 8 de rfl (λu=>by cases u);try simp only[t]
      clear hp;go_wp2;go_ret;rw[x.out];exact⟨rfl,h.trans hE⟩
   .have N:b=c.length:=om;subst N;have g:c=d:=by
     have:=C.out;rw[bN,q.out,bN]at this;exact this
    have s:=a8 (decide_eq_true g);clear g;go_wp2;go_ret;rw[s.out];exact⟨rfl,h⟩
 .have i:c≠d:=by rintro rfl;exact j rfl
  have x:=a8 (decide_eq_false i);have Q:¬(c.length:Int)=d.length:=om;clear i;go_wp2;go_ret;rw[x.out];exact⟨rfl,rE⟩
theorem yV{B:Nat}(ys:List Nat)(i:Nat):val B (ys.take (i+1))=val B (ys.take i)+B^i*gD ys i:=by
 exact TH8
def hiV(B:Nat)(xs:List Nat)(k:Nat):Nat:=val B (xs.drop k)
theorem wG{B:Nat}(b:List Nat)(c:Nat):hiV B b c=gD b c+B*hiV B b (c+1):=by
 unfold hiV;by_cases d:c<b.length
 .rw[vS b c d,nY d]
 .rw[dP om,dP om,AW d];simp[val]
theorem DS{B:Nat}(b:List Nat)(c:Nat)(d:b.length<=c):hiV B b c=0:=by
 unfold hiV;rw[dP d];rfl
theorem wH{B:Nat}(b:List Nat):hiV B b 0=val B b:=rfl
theorem zX{B:Nat}(b:List Nat)(c:Nat):val B b=val B (b.take c)+B^c*hiV B b c:=by
 unfold hiV;rcases Nat.le_total c b.length with d |d
 .exact sX b c d
 .rw[aK d,dP d];simp[val]
theorem ad9{B:Nat}(d:0<B)(g:Dig B c)(b:Nat):val B (c.take b)<B^b:=by
 refine cD (pU d (g.take b)) (eV d ?_);rw[aP];omega
theorem AR{B:Nat}(d:0<B)(g:Dig B c)(b:Nat)(i:hiV B c b<hiV B h b):val B c<val B h:=by
 rw[zX c b,zX h b];have:=ad9 d g b;have j:B^b*(hiV B c b+1)<=B^b*hiV B h b:=bV _ i;rw[bK]at j;omega
theorem CY(v d:Value)(x y:Nat)(w:World)(p:IsN .i64 TK w v x)(q:IsN .i64 TK w d y):
  Calls prog 158 #[v,d] w λe w'=>e= .returned (o6 x y:Int)/\Ext w w':=by
 obtain⟨xs,⟨ad,cap,rfl,_,_,hr⟩,r,dx,g⟩:=p;obtain⟨ys,⟨ad2,cap2,rfl,_,_,hr2⟩,s,dy,h⟩:=q;rw[mR]at r s;have Hx:=a8 g;have Hy:=a8 h;clear g h;go_enter func158,ntmps158;obtain⟨n,l⟩:=ex (max xs.length ys.length);have m:hiV TK xs n=hiV TK ys n:=by rw[DS xs n om,DS ys n om]
 have:n<=1099511627776:=om;have Hh:=a8 m;clear m;rcases dH xs.length ys.length with _ |_
 .have c:n=ys.length:=om;have HN:=a8 c;clear l c;exact LE0
 .have c:n=xs.length:=om;have HN:=a8 c;clear l c;have:¬(xs.length:Int)<ys.length:=om;exact LE0
theorem xQ(v:Value)(b:List Nat)(w:World)(d:IsL .i64 w v b)(g:Dig TK b)(h:b.length<=8796093022208):
  Calls prog 113 #[v] w λe w'=>∃c,e= .returned c/\FrN 3 .i64 TK w w' c (val TK b)/\Ext w w':=by
 obtain⟨i,j,rfl,k,l,m⟩:=d;have:=II i j b w m k l h;unfold FrN;rwa [<-pK lK g]
def Z3(xs ys l:List Nat)(i c:Nat):Prop:=l.length=i/\Dig TK l/\c<=1/\val TK l+TK^i*c=val TK (xs.take i)+val TK (ys.take i)
theorem Z3.step(k:Z3 c h s b d)(l:Dig TK c)(m:Dig TK h):Z3 c h (s++ [(gD c b+gD h b+d) % TK]) (b+1) ((gD c b+gD h b+d) / TK):=by
 obtain⟨j,p,_,_⟩:=k;have i:0<TK:=by rw[nB];omega
 have:=l.gD i b;have:=m.gD i b;refine⟨by simp[j],p.append (λr t=>(show r=(gD c b+gD h b+d) % TK by simpa using t)▸cH _ i),?_,?_⟩
 .have:(gD c b+gD h b+d) / TK<2:=cS om;omega
 .rw[qN,j,yV c b,yV h b,qY];have e:=cU (gD c b+gD h b+d) TK;have u:TK^b*((gD c b+gD h b+d) % TK)+TK^(b+1)*((gD c b+gD h b+d) / TK)=TK^b*(gD c b+gD h b+d):=by
   rw[cP,cG,<-bK,e]
  simp only[bK]at u;omega
theorem uX(v I:Value)(h i:Nat)(w:World)(U:IsN .i64 TK w v h)(V:IsN .i64 TK w I i)(b9:sz TK h<=68719476736)(bA:sz TK i<=68719476736):
  Calls prog 119 #[v,I] w λe w'=>∃v',e= .returned v'/\FrN 3 .i64 TK w w' v' (h+i)/\Ext w w':=by
 obtain⟨d,⟨X,Y,rfl,_,_,Z⟩,a0,J,K⟩:=U;obtain⟨g,⟨a1,a2,rfl,_,_,a3⟩,a4,L,M⟩:=V;rw[mR]at a0 a4;have a5:=a8 K;have a6:=a8 M;clear K M;have bB:=DO;have a7:=sR w 3 .i64;have a9:=(Ext.refl w).alloc (.cells #[] 3);obtain⟨n,N⟩:=ex (max d.length g.length);have bC:n<=1099511627776:=om;have O:=a8 N;clear N;go_enter func119,ntmps119;go_wp2;go_loopw [5,6,7] (λout b0 t wr=>∃(b c:Nat) (l:List Nat),t= .int .i64 b/\b0= .int .i64 c/\FrL 3 .i64 w wr out l/\Hid (Z3 d g l b c)/\b<=n+1/\Hid (b=n+1->c=0)/\Ext w wr) (λ_ _ t _=>n+1 - (intOf t).toNat)
 case atStart=>exact ⟨0,0,[],rfl,rfl,a7,⟨rfl,Dig.nil,om,by simp[val]⟩,om,λu=>om,a9⟩
 case round=>
  obtain⟨b,c,l,rfl,rfl,hfr,Hi,_,b1,hex⟩:=hrel;have bD:=Hi.out.2.2.1;have hsz:=hex.size;by_cases x:b<d.length∨b<g.length∨0<c
  .have bE:b<=n:=by
    have:=b1.out;have:=O.out;rcases x with u |u |u<;>omega
   have j:=a8 (Hi.out.step J L);have Q:=a8 Hi.out.1;have R:0<TK:=by rw[nB];omega
   have S:=J.gD R b;have T:=L.gD R b;obtain⟨a,y⟩:=ex (gD d b);obtain⟨k,z⟩:=ex (gD g b);have A:=qF X Y d b;have C:=qF a1 a2 g b;rw[<-y]at j S A;rw[<-z]at j T C;rw[nB]at S T;obtain⟨m,D⟩:=ex ((a+k+c) % TK:Nat);obtain⟨E,p⟩:=ex ((a+k+c) / TK:Nat);rw[<-D,<-p]at j;have b2:=a8 (show b+1=n+1->E=0 by
    intro _;have q:b=n:=om;have:=O.out;have r:gD d b=0:=AW om;have s:gD g b=0:=AW om;rw[p,y,z,r,s,nB];omega)
   rw[nB]at D p;have bG:((a:Int)+k+(c:Int)) % 10000=(m:Int):=om;have b3:((a:Int)+k+(c:Int)) / 10000=(E:Int):=om;clear D p y z;have b4:=λF=>a8 (A F)
   have b5:=λF=>a8 (C F)
   clear A C;have b6:(b<d.length)∨(¬b<d.length/\b<g.length)∨(¬b<d.length/\¬b<g.length/\0<c):=om;clear x;rcases b6 with q |⟨q,r⟩ |⟨q,r,s⟩;all_goals
    go_wp2_with fail;refine((b4 wr).out (Z.ext hex) om om).mono ?_;rintro e w' ⟨rfl,rfl⟩;go_wp2_with fail;refine((b5 wr).out (a3.ext hex) om om).mono ?_;rintro e w' ⟨rfl,rfl⟩
    go_wp2_with (at_builtin;refine n6 _ rfl _ _ 55 rfl 3 .i64 8 underlying55 EJ w _ l [m] wr 1 1 rfl rfl rfl (hfr.alloc _) (Rd.new1 wr .i64 m _) (by rw[Q.out];omega) (by rw[Q.out];omega) (by simp;omega) ?_)
    intro _ w2 b7 b8;have hext2:=Ext.step_own (hex.alloc (.cells #[m] 3)) b8 hfr.block;go_wp2;go_roundw
    case rel=>exact ⟨b+1,E,_,rfl,by rw[b3],b7,j,om,b2,hext2⟩
    case measure=>simp [intOf];omega
  .have q:¬b<d.length:=om;have r:¬b<g.length:=om;have s:c=0:=om;subst s;clear x;have hfin:val TK l=h+i:=by
    have:=Hi.out.2.2.2;rw[aK om,aK om,a5.out,a6.out]at this;omega
   exact UL8
def UZ(xs ys l:List Nat)(i c:Nat):Prop:=l.length=i/\Dig TK l/\c<=1/\val TK (xs.take i)+TK^i*c=val TK l+val TK (ys.take i)
theorem UZ.step{i j d b:Nat}(l:UZ c h s i j)(m:d<TK)(p:b<=1)(r:gD c i+TK*b=d+gD h i+j):UZ c h (s++ [d]) (i+1) b:=by
 obtain⟨k,t,_,_⟩:=l;refine⟨by simp[k],t.append (λu x=>(show u=d by simpa using x)▸m),p,?_⟩;rw[qN,k,yV c i,yV h i,qY];have y:=congrArg (TK^i* ·) r;simp only[bK]at y;rw[cP,cG];omega
theorem UZ.finish(d:UZ c h s c.length b)(k:Dig TK c)(r:val TK h<=val TK c):val TK s=val TK c - val TK h:=by
 obtain⟨l,m,_,g⟩:=d;have i:0<TK:=by rw[nB];omega
 rw[aK lr]at g;have j:=zX (B:=TK) h c.length;have t:=pU i k;have p:hiV TK h c.length=0:=by
  rcases aR (hiV TK h c.length)with d |d
  .exact d
  .have:TK^c.length*1<=TK^c.length*hiV TK h c.length:=bV _ d;omega
 rw[p,gP,bZ]at j;rw[<-j]at g;have q:=pU i m;rw[l]at q;have:b=0∨b=1:=om;rcases this with rfl |rfl
 .omega
 .omega
theorem yQ(v D:Value)(r s:Nat)(w:World)(Z:IsN .i64 TK w v r)(a0:IsN .i64 TK w D s)(E:s<=r):
  Calls prog 159 #[v,D] w λe w'=>∃v',e= .returned v'/\FrN 3 .i64 TK w w' v' (r - s)/\Ext w w':=by
 obtain⟨h,⟨_,a1,rfl,_,_,a2⟩,a3,F,I⟩:=Z;obtain⟨m,⟨J,K,rfl,_,_,a4⟩,a5,a6,L⟩:=a0;rw[mR]at a3 a5;have a7:=a8 E;have M:=a8 I;have N:=a8 L;clear I L E;have:=DO;have a9:=sR w 3 .i64;have b0:=(Ext.refl w).alloc (.cells #[] 3);go_enter func159,ntmps159;go_wp2;go_loopw [5,6,7] (λout b1 t wr=>∃(b d:Nat) (l:List Nat),t= .int .i64 b/\b1= .int .i64 d/\FrL 3 .i64 w wr out l/\Hid (UZ h m l b d)/\b<=h.length/\Ext w wr) (λ_ _ t _=>h.length - (intOf t).toNat)
 case atStart=>exact ⟨0,0,[],rfl,rfl,a9,⟨rfl,Dig.nil,om,by simp[val]⟩,om,b0⟩
 case round=>
  obtain⟨b,d,l,rfl,rfl,hfr,Hi,_,hex⟩:=hrel;have:=Hi.out.2.2.1;have hsz:=hex.size;by_cases O:b<h.length
  .have p:=a8 Hi.out.1;have Q:0<TK:=by rw[nB];omega
   have R:=F.gD Q b;have S:=a6.gD Q b;obtain⟨T,U,rfl,V⟩:=a2.at (by rw[kU];omega);have hcell:=hex.cell (V b _ (mM .i64 h b O));rw[<-nY O]at hcell;clear V;have j:=λ(c e:Nat) (u:c<TK) (b2:e<=1) b3=>a8 (Hi.out.step (d:=c) (b:=e) u b2 b3)
   obtain⟨a,X⟩:=ex (gD h b);obtain⟨g,Y⟩:=ex (gD m b);have x:=qF J K m b;rw[<-X]at j R hcell;rw[<-Y]at j S x;rw[nB]at R S;clear X Y;have b4:=λb5=>a8 (x b5)
   clear x;have b6:=a4.ext hex;have:IntKind.i64.wrap ((a:Int) - (g:Int))=(a:Int) - (g:Int):=by simp (disch:=omega) only[cY]
   have:IntKind.i64.wrap ((a:Int) - (g:Int) - (d:Int))=(a:Int) - (g:Int) - (d:Int):=by simp (disch:=omega) only[cY]
   go_wp2_with fail;refine wpQ [(T,U,h.length,a1),b,(T,U+b),a,(J,m.length,K),b,g,kL (.int .i64 ((a:Int) - (g:Int))),d,kL (.int .i64 ((a:Int) - (g:Int) - (d:Int))),kL (.int .i64 ((a:Int) - (g:Int) - (d:Int)))] [] [0,1,2,3,4,5,6,7,8,9,10] ?_ ?_
   .refine⟨oL,oL,oL,?_,oL,oL,?_,oL,oL,oL,oL,trivial⟩
    .intro f w2 k i b7;have hE:Ext wr w2:=k;have:=tE i 0 2 rfl rfl rfl;exact tr1
    .intro f w2 k i b7;have hE:Ext wr w2:=k;have:=hE.size;have b8:=tE i 0 4 rfl rfl rfl;have b9:=tE i 1 5 rfl rfl rfl;change kM _ _ _ f w2 Ext _;refine oC #[f 4,f 5] func160 rfl rfl ?_;rw[b8,b9];refine((b4 w2).out (b6.ext hE) om om).mono ?_;rintro e w' ⟨rfl,rfl⟩;exact⟨_,rfl,rE,rfl⟩
   .intro f w2 k i;have hE:Ext wr w2:=mV.nil k;have bA:f 10= .int .i64 ((a:Int) - (g:Int) - (d:Int)):=rM i 10 de rfl (λbB=>by cases bB);try simp only[bA]
    clear i;have y:=hex.trans hE;have q:=hfr.ext hE;have:=y.size;rcases dH a (g+d)with u |u
    .obtain⟨c,bC⟩:∃c:Nat,(a:Int) - (g:Int) - (d:Int)+10000=(c:Int):=⟨a+10000 - g - d,om⟩;have z:=j c 1 (by rw[nB];omega) om (by rw[nB];omega);clear j;go_wp2_with (at_builtin;refine n6 _ rfl _ _ 55 rfl 3 .i64 8 underlying55 EJ w _ l [c] w2 1 1 rfl rfl rfl (q.alloc _) (Rd.new1 w2 .i64 c _) (by rw[p.out];omega) (by rw[p.out];omega) (by simp;omega) ?_);intro bD bE A C;have hext2:=Ext.step_own (y.alloc (.cells #[c] 3)) C q.block;go_wp2;go_roundw
     case rel=>exact ⟨b+1,1,_,rfl,rfl,A,z,om,hext2⟩
     case measure=>simp [intOf];omega
    .obtain⟨c,bC⟩:∃c:Nat,(a:Int) - (g:Int) - (d:Int)=c:=⟨a - g - d,om⟩;have z:=j c 0 (by rw[nB];omega) om (by rw[nB];omega);clear j;go_wp2_with (at_builtin;refine n6 _ rfl _ _ 55 rfl 3 .i64 8 underlying55 EJ w _ l [c] w2 1 1 rfl rfl rfl (q.alloc _) (Rd.new1 w2 .i64 c _) (by rw[p.out];omega) (by rw[p.out];omega) (by simp;omega) ?_);intro bD bE A C;have hext2:=Ext.step_own (y.alloc (.cells #[c] 3)) C q.block;go_wp2;go_roundw
     case rel=>exact ⟨b+1,0,_,rfl,rfl,A,z,om,hext2⟩
     case measure=>simp [intOf];omega
  .have bG:b=h.length:=om;subst bG;have hfin:=Hi.out.finish F (by rw[M.out,N.out];exact a7.out);rw[M.out,N.out]at hfin;exact UL8
def M1(xs ys l:List Nat)(i:Nat):Prop:=l.length=xs.length+ys.length+1/\Dig TK l/\val TK l=val TK (xs.take i)*val TK ys/\i<=xs.length
def R1(xs ys l:List Nat)(i k c:Nat):Prop:=l.length=xs.length+ys.length+1/\Dig TK l/\c<TK/\val TK l+TK^(i+k)*c=val TK (xs.take i)*val TK ys+gD xs i*TK^i*val TK (ys.take k)/\k<=ys.length+1/\i<xs.length
theorem M1.start(g:M1 c h s b)(i:b<c.length):R1 c h s b 0 0:=by
 obtain⟨j,k,l,_⟩:=g;exact⟨j,k,by rw[nB];omega,by simp[l,val],om,i⟩
theorem R1.step{n:Nat}(m:R1 h c s d b L)(D:b<=c.length)(p:Dig TK h)(r:Dig TK c)(j:n=gD s (d+b)+gD h d*gD c b+L):
  R1 h c (s.set (d+b) (n % TK)) d (b+1) (n / TK):=by
 obtain⟨t,k,u,_,_,x⟩:=m;have i:0<TK:=by rw[nB];omega
 have:=AN (p.gD i d) (r.gD i b) (k.gD i (d+b)) u;refine⟨by simpa using t,k.set (cH _ i),?_,?_,om,x⟩
 .refine cS ?_;rw[j];omega
 .have l:=UX (B:=TK) s (d+b) (n % TK) om;rw[<-nY (show d+b<s.length by omega)]at l;rw[yV c b];have y:=cU n TK;have z:TK^(d+(b+1))*(n / TK)=TK^(d+b)*(TK*(n / TK)):=by rw[<-gH,cP,cG]
  rw[z];have A:TK^(d+b)*(n % TK+TK*(n / TK))=TK^(d+b)*n:=by rw[y]
  rw[bK]at A;have:TK^(d+b)*n=TK^(d+b)*gD s (d+b)+TK^(d+b)*(gD h d*gD c b)+TK^(d+b)*L:=by rw[j,bK,bK]
  have C:gD h d*TK^d*(TK^b*gD c b)=TK^(d+b)*(gD h d*gD c b):=by rw[eU];ac_rfl
  rw[bK,C];rw[bF (gD s (d+b)),bF (n % TK)]at l;omega
theorem R1.last(g:R1 h c s b (c.length+1) d)(l:Dig TK h)(m:Dig TK c):d=0:=by
 obtain⟨_,_,_,i,_,_⟩:=g;have j:0<TK:=by rw[nB];omega
 rw[aK (show c.length<=c.length+1 by omega)]at i;have k:=ad9 j l (b+1);rw[yV h b]at k;have p:=pU j m;have e:val TK (h.take b)*val TK c+gD h b*TK^b*val TK c=(val TK (h.take b)+TK^b*gD h b)*val TK c:=by rw[bX,bF (TK^b)]
 rw[e]at i;have q:(val TK (h.take b)+TK^b*gD h b)*val TK c<TK^(b+1)*TK^c.length:=Nat.mul_lt_mul'' k p;rw[<-eU,show b+1+c.length=b+(c.length+1)by omega]at q;rcases aR d with g |g
 .exact g
 .have:TK^(b+(c.length+1))*1<=TK^(b+(c.length+1))*d:=bV _ g;omega
theorem R1.next(g:R1 c h s b d 0)(i:h.length<=d):M1 c h s (b+1):=by
 obtain⟨j,k,_,l,_,_⟩:=g;rw[aK i]at l;refine⟨j,k,?_,om⟩;rw[yV c b,bX,bF (TK^b)];omega
theorem PC(a2 E:Option Addr)(a3 I:Nat)(g c:List Nat)(w:World)(bB:Rd w a2 (mK .i64 g))(bC:Rd w E (mK .i64 c))
  (eA:g.length<=1099511627776) (eB:c.length<=1099511627776) (J:Dig TK g) (K:Dig TK c):
  Calls prog 133 #[(a2,g.length,a3),(E,c.length,I)] w λe w'=>∃L,e= .returned L/\FrN 3 .i64 TK w w' L (val TK g*val TK c)/\Ext w w':=by
 go_enter func133,ntmps133;go_wp2_with (at_make;refine oK _ rfl _ _ 55 rfl 3 .i64 8 underlying55 EJ .i64 .i64 _ _ (g.length+c.length+1) rfl rfl om om om om ?_);intro _ y a4 bD a5;go_wp2_with fail
 go_loopw [6] (λj wr=>∃(h:Nat) (q:List Nat),j= .int .i64 h/\Hid (M1 g c q h)/\lM 3 .i64 wr y q []/\Ext w wr) (λj _=>g.length - (intOf j).toNat)
 case atStart=>exact ⟨0,_,rfl,⟨sm,Dig.replicate (by rw[nB];omega) _,by simp[val,sL],zl⟩,a5,a4⟩
 case round=>
  obtain⟨j,q,rfl,x,u,r⟩:=hrel;have eC:=x.out.2.2.2;clear a5 a4;by_cases A:j<g.length
  .obtain⟨a6,a7,rfl,M⟩:=bB.at (by rw[kU];omega);have C:=r.cell (M j _ (mM .i64 g j A));rw[<-nY A]at C;have a9:=M j _ (mM .i64 g j A);rw[<-nY A]at a9;clear M;have b0:=a8 (x.out.start A);clear x;go_wp2_with fail;obtain⟨_,rfl⟩:=ex (wr:World);go_loopw [7,8] (λbE N wr=>∃(h m:Nat) (q:List Nat),N= .int .i64 h/\bE= .int .i64 m/\Hid (R1 g c q j h m)/\lM 3 .i64 wr y q []/\Ext w wr) (λ_ N _=>c.length+1 - (intOf N).toNat)
   case atStart=>exact ⟨0,0,q,rfl,rfl,b0,u,r⟩
   case round=>
    obtain⟨h,m,q,rfl,rfl,s,u,r⟩:=hrel;have eD:=s.out.2.2.2.2.1;have D:=a8 s.out.1;clear C b0;by_cases b1:h<c.length∨0<m
    .have O:h<=c.length:=by
      rcases dH c.length h with F |F
      .have bG:h=c.length+1:=om;subst bG;have:=s.out.last J K;omega
      .exact F
     have Q:0<TK:=by rw[nB];omega
     have C:=r.cell a9;have z:=λn bO=>a8 (s.out.step (n:=n) O J K bO)
     have bP:=s.out.2.2.1;have b2:=J.gD Q j;have b3:=K.gD Q h;have R:=s.out.2.1.gD Q (j+h);obtain⟨p,b4⟩:=ex (j+h);have eE:p<g.length+c.length+1:=om;have S:=u.cell p (by rw[D.out];omega);rw[<-nY (show p<q.length by rw[D.out];omega)]at S;have bR:=λbS=>a8 (lM.set u p bS (by rw[D.out];omega))
     have bT:=u.free p;rw[<-b4]at z R;obtain⟨o,b5⟩:=ex (gD q p);obtain⟨a,b6⟩:=ex (gD g j);obtain⟨T,b7⟩:=ex (gD c h);have U:=qF E I c h;rw[<-b6]at z b2 C;rw[<-b7]at z b3 U;rw[<-b5]at z R S;rw[nB]at b2 b3 R bP;obtain⟨k,b⟩:=ex (a*T);have eG:k<=9999*9999:=by rw[b];exact cW om om
     have eN:(a:Int)*T=(k:Int):=by rw[b,cL]
     have V:=z _ rfl;rw[<-b]at V;obtain⟨X,Y⟩:=ex ((o+k+m) % TK:Nat);obtain⟨b8,Z⟩:=ex ((o+k+m) / TK:Nat);rw[<-Y,<-Z]at V;rw[nB]at Y Z;have fA:((o:Int)+k+(m:Int)) % 10000=(X:Int):=om;have c0:((o:Int)+k+(m:Int)) / 10000=(b8:Int):=om;have fB:(j:Int)+h=(p:Int):=om;have fC:IntKind.i64.wrap (p:Int)=p:=by simp (disch:=omega) only[cY]
     have fD:IntKind.i64.wrap (k:Int)=k:=by simp (disch:=omega) only[cY]
     have fE:IntKind.i64.wrap ((o:Int)+k)=(o:Int)+k:=by simp (disch:=omega) only[cY]
     have fG:IntKind.i64.wrap ((o:Int)+k+(m:Int))=(o:Int)+k+(m:Int):=by simp (disch:=omega) only[cY]
     have g0:(p:Int)<g.length+(c.length:Int)+1:=om;have c1:=λc2=>a8 (U c2)
     have c3:=bC.ext r;have c4:=a8 O;clear U z b Y Z b6 b7 b5 b4 s O;rcases(show h<c.length∨¬h<c.length/\0<m by omega)with b9 |⟨b9,bA⟩;all_goals
      clear b1;go_wp2_with fail;refine wpQ [(y,g.length+c.length+1,g.length+c.length+1),j,h,p,(y,p),o,(a6,a7,g.length,a3),j,(a6,a7+j),a,(E,c.length,I),h,T,k,kL (.int .i64 ((o:Int)+k)),m,kL (.int .i64 ((o:Int)+k+(m:Int))),kL (.int .i64 ((o:Int)+k+(m:Int)))] [] [0,1,2,3,4,5,6,7,8,9,10,11,12,13,14,15,16,17] ?_ ?_
      .refine⟨?_,?_,?_,?_,?_,?_,?_,?_,?_,?_,?_,?_,?_,?_,?_,?_,?_,?_,trivial⟩
       .intro f d i b l;simp only[kM];go_simp;exact⟨_,rfl,rE,rfl⟩
       .intro f d i b l;simp only[kM];go_simp;exact⟨_,rfl,rE,rfl⟩
       .intro f d i b l;simp only[kM];go_simp;exact⟨_,rfl,rE,rfl⟩
       .intro f d i b l;have g1:=tE b 0 1 rfl rfl rfl;have g2:=tE b 1 2 rfl rfl rfl;simp only[kM];go_simp;exact⟨_,rfl,rE,rfl⟩
       .intro f d i b l;have g3:=tE b 0 0 rfl rfl rfl;have g4:=tE b 1 3 rfl rfl rfl;simp only[kM];go_simp;exact⟨_,rfl,rE,rfl⟩
       .intro f d i b l;have t:Ext wr d:=i;have g5:=tE b 0 4 rfl rfl rfl;have c5:=t.cell S;simp only[kM];go_simp;exact⟨_,rfl,rE,rfl⟩
       .intro f d i b l;simp only[kM];go_simp;exact⟨_,rfl,rE,rfl⟩
       .intro f d i b l;simp only[kM];go_simp;exact⟨_,rfl,rE,rfl⟩
       .intro f d i b l;have g6:=tE b 0 6 rfl rfl rfl;have g7:=tE b 1 7 rfl rfl rfl;simp only[kM];go_simp;exact⟨_,rfl,rE,rfl⟩
       .intro f d i b l;have t:Ext wr d:=i;have g9:=tE b 0 8 rfl rfl rfl;have c5:=t.cell C;simp only[kM];go_simp;exact⟨_,rfl,rE,rfl⟩
       .intro f d i b l;simp only[kM];go_simp;exact⟨_,rfl,rE,rfl⟩
       .intro f d i b l;simp only[kM];go_simp;exact⟨_,rfl,rE,rfl⟩
       .intro f d i b l;have t:Ext wr d:=i;have gA:=t.size;have c6:=tE b 0 10 rfl rfl rfl;have c7:=tE b 1 11 rfl rfl rfl;change kM _ _ _ f d Ext _;refine oC #[f 10,f 11] func160 rfl rfl ?_;rw[c6,c7];refine((c1 d).out (c3.ext t) om om).mono ?_;rintro e w' ⟨rfl,rfl⟩;exact⟨_,rfl,rE,rfl⟩
       .intro f d i b l;have gG:=tE b 0 9 rfl rfl rfl;have gL:=tE b 1 12 rfl rfl rfl;simp only[kM];go_simp;exact⟨_,rfl,rE,rfl⟩
       .intro f d i b l;have gT:=tE b 0 5 rfl rfl rfl;have h0:=tE b 1 13 rfl rfl rfl;simp only[kM];go_simp;exact⟨_,rfl,rE,rfl⟩
       .intro f d i b l;simp only[kM];go_simp;exact⟨_,rfl,rE,rfl⟩
       .intro f d i b l;have h1:=tE b 0 14 rfl rfl rfl;have h2:=tE b 1 15 rfl rfl rfl;simp only[kM];go_simp;exact⟨_,rfl,rE,rfl⟩
       .intro f d i b l;have h3:=tE b 0 16 rfl rfl rfl;simp only[kM];go_simp;exact⟨_,rfl,rE,rfl⟩
      .intro f d i b;have t:Ext wr d:=mV.nil i;have c8:f 17= .int .i64 ((o:Int)+k+(m:Int)):=rM b 17 de rfl (λF=>by cases F);try simp only[c8]
       clear b;have a0:=u.ext t;have c9:=r.trans t;obtain⟨_,_⟩:=a0.got p (by rw[D.out];omega);have h4:=a0.free p;have e0:=lM.set a0 p X (by rw[D.out];omega);have e1:=c9.setCell (p:=⟨y,p,none⟩) bD X;clear bR bT;go_wp2_with fail;go_roundw
       case rel=>exact ⟨h+1,b8,_,rfl,by rw[c0],V,e0,e1⟩
       case measure=>have:=c4.out;simp[intOf];omega
    .have b9:¬h<c.length:=om;have bA:m=0:=om;subst bA;have e2:=a8 (s.out.next om);clear s b1;go_wp2_with fail;go_roundw
     case rel=>exact ⟨j+1,_,by go_num,e2,u,r⟩
     case measure=>simp [intOf];omega
  .have e3:j=g.length:=om;subst e3;have a1:=a8 x.out.1;have e4:=a8 x.out.2.1;have e5:Hid (val TK q=val TK g*val TK c):=by have:=x.out.2.2.1;rwa [aK lr]at this
   clear x;have e6:=r.size;have e7:IsL .i64 wr (y,g.length+c.length+1,g.length+c.length+1) q:=⟨_,g.length+c.length+1,by rw[a1.out],by rw[a1.out];omega,om,u.rd⟩;go_wp2_with fail;refine(xQ _ q _ e7 e4.out (by rw[a1.out];omega)).mono ?_;rw[e5.out];rintro e d ⟨L,rfl,e8,e9⟩;go_wp2;go_ret;exact⟨_,rfl,e8.mono e6,r.trans e9⟩
theorem rY(v b:Value)(c d:Nat)(w:World)(j:IsN .i64 TK w v c)(k:IsN .i64 TK w b d):
  Calls prog 133 #[v,b] w λe w'=>∃g,e= .returned g/\FrN 3 .i64 TK w w' g (c*d)/\Ext w w':=by
 obtain⟨l,⟨m,p,rfl,_,_,q⟩,h,r,rfl⟩:=j;obtain⟨s,⟨t,u,rfl,_,_,x⟩,i,y,rfl⟩:=k;rw[mR]at h i;exact PC m t p u l s w q x h i r y
def D1(xs l:List Nat)(k r y:Nat):Prop:=l.length=xs.length/\Dig TK l/\hiV TK xs k=hiV TK l k*y+r/\r<y
theorem af5{B:Nat}(g:b<c.length):hiV B (c.set b d) b=d+B*hiV B c (b+1):=by
 rw[wG];have e:gD (c.set b d) b=d:=by rw[nY (by simpa using g)];simp
 have h:hiV B (c.set b d) (b+1)=hiV B c (b+1):=by
  unfold hiV;rw[eK om]
 rw[e,h]
theorem D1.step{r':Nat}(i:D1 c h (b+1) L d)(r:b<c.length)(j:q<TK)(s:r'+q*d=gD c b+TK*L)(k:r'<d):D1 c (h.set b q) b r' d:=by
 obtain⟨l,m,p,_⟩:=i;refine⟨by simpa using l,m.set j,?_,k⟩;rw[af5 om,wG c b,p,bX,bK,cG];omega
theorem uH(v a2:Value)(s b:Nat)(w:World)(c4:IsN .i64 TK w v s)(a3:IsN .i64 TK w a2 b)(a4:0<b)(c5:sz TK b<=68719476736):
  Calls prog 114 #[v,a2] w λe w'=>∃a5 a6,e= .returned (.tuple #[a5,a6])/\FrN 3 .i64 TK w w' a5 (s / b)/\FrN 3 .i64 TK w w' a6 (s % b)/\Ext w w':=by
 obtain⟨k,⟨_,_,rfl,_,_,c6⟩,c7,c8,a7⟩:=c4;rw[mR]at c7;have c9:=a8 a7;clear a7;have h4:=DO;go_enter func114,ntmps114;go_wp2_with (at_make;refine oK _ rfl _ _ 55 rfl 3 .i64 8 underlying55 EJ .i64 .i64 _ _ k.length rfl rfl om om om om ?_);intro a9 F b0 e0 e1;have e2:=FrL.mono (sR a9 3 .i64) b0.size;have e3:=b0.alloc (.cells #[] 3);have e4:=e1.ext ((Ext.refl a9).alloc (.cells #[] 3));go_wp2_with fail;go_loopw [7,8] (λe5 L wr=>∃(m h:Nat) (p:List Nat),L= .int .i64 ((m:Int) - 1)/\FrN 3 .i64 TK w wr e5 h/\lM 3 .i64 wr F p []/\Hid (D1 k p m h b)/\m<=k.length/\Ext w wr) (λ_ L _=>(intOf L+1).toNat)
 case atStart=>exact ⟨k.length,0,_,rfl,e2,e4,⟨sm,Dig.replicate (by rw[nB];omega) _,by rw[DS k _ lr,DS _ _ sm];simp,a4⟩,lr,e3⟩
 case round=>
  obtain⟨m,h,p,rfl,M,N,z,_,A⟩:=hrel;have O:=z.out.2.2.2;have C:=a8 z.out.1;rcases aR m with b1 |b1
  .subst b1;have Q:s=val TK p*b+h:=by have:=z.out.2.2.1;rwa [wH,wH,c9.out]at this
   have e6:=a8 (show s / b=val TK p by rw[Q,bF,gW a4,fN O];omega);have b2:=a8 (show s % b=h by rw[Q,bF,j8,dM O]);have e7:=a8 z.out.2.1;have R:=A.size;have e8:IsL .i64 wr (F,k.length,k.length) p:=⟨_,k.length,by rw[C.out],by rw[C.out];omega,om,N.rd⟩;clear Q;go_wp2_with fail;refine(xQ _ p _ e8 e7.out (by rw[C.out];omega)).mono ?_;rw[<-e6.out];rintro e b3 ⟨_,rfl,e9,q⟩;go_wp2;go_ret2;rw[b2.out];exact⟨_,_,rfl,e9.mono R,M.ext q,A.trans q⟩
  .obtain⟨j,rfl⟩:∃j,m=j+1:=⟨m - 1,om⟩;rw[show ((j+1:Nat):Int) - 1=(j:Int)from om];obtain⟨_,_,rfl,b4⟩:=c6.at (by rw[kU];omega);have b5:=A.cell (b4 j _ (mM .i64 k j om));rw[<-nY (show j<k.length by omega)]at b5;have eA:0<TK:=by rw[nB];omega
   have S:=c8.gD eA j;have b6:=λi d (T:i<TK) U t=>a8 (z.out.step (q:=i) (r':=d) om T U t)
   obtain⟨a,b7⟩:=ex (gD k j);rw[<-b7]at b6 S b5;have eB:=a8 S;rw[nB]at S;clear b7 b4;have R:=A.size;have eC:sz TK h<=sz TK b:=lN lK om;have b2:=a8 M;obtain⟨eD,eE,rfl,_,_,eG⟩:=M;have b8:=TX wr .i64 a 3;have h5:(wr.alloc (.cells #[a] 3)).heap.size=wr.heap.size+1:=nD _ _;unfold sz at eC c5;go_wp2_with (at_builtin;refine n6 _ rfl _ _ 55 rfl 3 .i64 8 underlying55 EJ wr _ [a] (dg TK h) eD (dg TK h).length eE rfl rfl rfl b8 (eG.rd.ext ((Ext.refl wr).alloc _)) (by simp;omega) (by simp;omega) om ?_);intro _ b3 eN fA;have q:Ext wr b3:=Ext.step_own ((Ext.refl wr).alloc (.cells #[a] 3)) fA b8.block;have b9:Dig TK (a::dg TK h):=Dig.cons eB.out (nQ lK h).1;have bA:val TK (a::dg TK h)=a+TK*h:=by show a+TK*val TK (dg TK h)=_;rw[nE lK]
   have bB:=a8 bA;clear bA;go_wp2_with fail;refine(xQ _ _ _ eN.isL b9 (by simp;omega)).mono ?_;rw[bB.out];rintro e fB ⟨_,rfl,t,bC⟩;obtain⟨d,I⟩:=ex (a+TK*h);rw[<-I]at t;have bD:d<10000*b:=by
    rw[I,nB];have:10000*(h+1)<=10000*b:=bV _ O;omega
   have fC:sz TK d<=68719476737:=by
    have T:=lN lK (show d<=10000*b by omega);have U:=qK lK 10000 b;have t:(dg TK 10000).length<=2:=nG lK (by rw[nB];decide);unfold sz;have h6:(dg TK d).length<=(dg TK b).length+1:=by
     refine nG lK ?_;have:=qU lK b;rw[cP,bF];refine cD bD ?_;rw[nB]at this ⊢;exact bV _ om
    omega
   have fD:=a8 I;clear I bB b9;have fE:=A.trans (q.trans bC);have fG:=(N.ext (q.trans bC));have g0:=FrN.mono t (aE R q.size);have g1:=g0.isC.isN lK lq;go_wp2_with fail;go_loopw [9,10] (λV X wr=>∃c i:Nat,V= .int .i64 c/\X= .int .i64 i/\c<i/\i<=10000/\Hid (c*b<=d/\d<i*b)/\Ext fB wr) (λV X _=>(intOf X - intOf V).toNat)
   case atStart=>exact ⟨0,10000,rfl,rfl,om,om,⟨om,bD⟩,rE⟩
   case round=>
    obtain⟨c,i,rfl,rfl,_,_,J,D⟩:=hrel;have bE:=fE.trans D;have g2:=g1.ext D;by_cases h7:c+1<i
    .obtain⟨g,g3⟩:=ex ((c+i) / 2);have h8:((c:Int)+i) / 2=(g:Int):=om;have h9:c<g/\g<i:=om;clear g3;obtain⟨u,r,Y,_,_⟩:=kR wr #[g] 3;have x:=AI (k:= .i64) (B:=TK) wr g 3 (by rw[nB];omega);rw[<-r]at x;go_wp2_with fail;rw[<-r];refine(rY _ _ b g _ (a3.ext (bE.trans Y)) x).mono ?_;rintro e g4 ⟨_,rfl,g5,l⟩;go_wp2_with fail;refine(CY _ _ (b*g) d _ (g5.isC.isN lK (by
      have T:=qK lK b g;have U:(dg TK g).length<=1:=nG lK (by rw[nB];omega);unfold sz;rw[mR];omega)) (g2.ext (Y.trans l))).mono ?_
     rintro e g6 ⟨rfl,y⟩;have K:o6 (b*g) d<=0↔g*b<=d:=by
      rw[bF];unfold o6;split
      .omega
      .split<;>omega
     have bG:=((D.trans Y).trans l).trans y;by_cases E:g*b<=d
     .have g7:o6 (b*g) d<=0:=K.2 E;have Z:=a8 (show g*b<=d/\d<i*b from⟨E,J.out.2⟩);clear K E;go_wp2;go_roundw
      case rel=>exact ⟨g,i,rfl,rfl,om,om,Z,bG⟩
      case measure=>simp [intOf];omega
     .have g7:¬o6 (b*g) d<=0:=λg9=>E (K.1 g9)
      have Z:=a8 (show c*b<=d/\d<g*b from⟨J.out.1,om⟩);clear K E;go_wp2;go_roundw
      case rel=>exact ⟨c,g,rfl,rfl,om,om,Z,bG⟩
      case measure=>simp [intOf];omega
    .have gA:i=c+1:=om;have bO:=J.out.1;have bP:=J.out.2;rw[gA,bX,fW]at bP;have bR:c<TK:=by rw[nB];omega
     have bS:=b6 c (d - c*b) bR (by rw[<-fD.out];omega) om;have bT:=a8 (show b*c<=d by rw[bF];exact bO);have gG:=a8 (bF c b);clear bO bP;have a0:=fG.ext D;obtain⟨_,_⟩:=a0.got j (by rw[C.out];omega);have hA:=a0.free j;have c0:=lM.set a0 j c (by rw[C.out];omega);obtain⟨u,r⟩:=ex (wr.setCell (F,j) c);have c1:Chg F wr u:=by rw[r];exact Chg.setCell _ _ _ _
     have a1:Ext w u:=bE.step c1 e0;rw[<-r]at c0;have hB:=N.lt;have hC:=q.size;obtain⟨g4,c2,l,_,_⟩:=kR u #[c] 3;have x:=AI (k:= .i64) (B:=TK) u c 3 bR;rw[<-c2]at x;have gL:u.heap.size=wr.heap.size:=by rw[r];simp[World.setCell]
     rw[gL]at x;go_wp2_with fail;rw[<-r,<-c2];refine(rY _ _ b c _ (a3.ext (a1.trans l)) x).mono ?_;rintro e g6 ⟨_,rfl,gT,y⟩;have h0:=((t.ext D).chg c1 om).ext (l.trans y);go_wp2_with fail;refine(yQ _ _ d (b*c) _ (h0.isC.isN lK lq) (gT.isC.isN lK (aE (lN lK bT.out) (by unfold sz at fC;rw[mR];omega))) bT.out).mono ?_;rintro e _ ⟨_,rfl,h1,c3⟩;have h2:=((a1.trans l).trans y).trans c3;have h3:=((a1.trans l).trans y).size;rw[gG.out]at bS;go_wp2;go_roundw
     case rel=>exact ⟨j,d - b*c,_,rfl,h1.mono h3,c0.ext ((l.trans y).trans c3),bS,om,h2⟩
     case measure=>simp [intOf]
def numD(w:World)(v:Value):Nat:=
 match v with
 | .slice (some a) n _=>val TK ((List.range n).map λi=>match w.cell? (a.add i)with |some (.int _ z)=>z.toNat |_=>0)
 |_=>0
theorem FO{w:World}{v:Value}{n:Nat}(d:IsC .i64 TK w v n):numD w v=n:=by
 obtain⟨g,_,rfl,_,_,h⟩:=d;rcases aR (dg TK n).length with c |c
 .have j:n=0:=(qT lK).1 (aL c);rw[c];subst j
  cases g<;>simp [numD,val]
 .obtain⟨b,off,rfl,k⟩:=h.at (by rw[kU];exact c);have e:((List.range (dg TK n).length).map λi=>match w.cell? ((⟨b,off,none⟩:Addr).add i)with |some (.int _ z)=>z.toNat |_=>0)=dg TK n:=by
   refine List.ext_getElem sm λi _ l=> ?_
   have:=k i _ (mM .i64 (dg TK n) i l);exact lt9
  show val TK _=n;rw[e,nE lK]
theorem xT{n:Nat}:sz TK n=0↔n=0:=by
 constructor
 .intro h;exact(qT lK).1 (aL h)
 .rintro rfl;rfl
theorem MR(v i:Value)(c d:Nat)(w:World)(u:IsN .i64 TK w v c)(x:IsN .i64 TK w i d)(y:sz TK c<=68719476736)(z:sz TK d<=68719476736):
  Calls prog 117 #[v,i] w λe w'=>∃m,e= .returned m/\FrN 3 .i64 TK w w' m (Nat.gcd c d)/\Ext w w':=by
 go_enter func117,ntmps117;go_wp2_with fail;refine(wP v c w u).mono ?_;rintro e A ⟨_,rfl,p,j⟩;go_wp2_with fail;refine(wP i d A (x.ext j)).mono ?_;rintro e _ ⟨_,rfl,q,r⟩;have C:=p.ext r;have D:=FrN.mono q j.size;clear p q;go_wp2_with fail
 go_loopw [5,6] (λE k wr=>∃a b,FrN 3 .i64 TK w wr E a/\FrN 3 .i64 TK w wr k b/\Nat.gcd a b=Nat.gcd c d/\sz TK a<=68719476736/\sz TK b<=68719476736/\Ext w wr) (λ_ k wr=>numD wr k)
 case atStart=>exact ⟨c,d,C,D,rfl,y,z,j.trans r⟩
 case round=>
  obtain⟨a,b,ia,h,hg,_,l,hex⟩:=hrel;obtain⟨_,_,rfl⟩:=h.slice;rcases aR b with g |g
  .subst g;have hz:sz TK 0=0:=rfl;exact kU7
  .have:0<sz TK b:=by
    have:sz TK b≠0:=λe=>by have:=xT.1 e;omega
    omega
   go_wp2_with fail;refine(uH _ _ a b _ (ia.isC.isN lK lq) (h.isC.isN lK lq) g l).mono ?_;rintro e _ ⟨_,_,rfl,_,s,t⟩;go_wp2;go_roundw
   case rel=>
    refine⟨b,a % b,h.ext t,FrN.mono s hex.size,?_,l,?_,hex.trans t⟩
    .rw[<-hg,iY b,<-Nat.gcd_rec,iY]
    .exact aE (lN lK (iE (cH _ g))) l
   case measure=>
    rw[FO s.isC,FO h.isC];exact cH _ g
theorem ZQ(a:Nat)(b:a<W):bits .and .u64 (a:Int) 4294967295=((a % 4294967296:Nat):Int):=by
 have c:=u64_and_nat a 4294967295 (by rw[lX]at b;exact b) om;have e:((4294967295:Nat):Int)=4294967295:=rfl;rw[e]at c;rw[c];congr 1;have:=Nat.and_two_pow_sub_one_eq_mod a 32;simpa using this
theorem EY(v:Value)(n:Nat)(w:World)(a7:IsN .u64 W w v n)(a9:sz TK n<=68719476736):
  Calls prog 77 #[v] w λe w'=>∃v',e= .returned v'/\FrN 3 .i64 TK w w' v' n/\Ext w w':=by
 obtain⟨i,⟨_,M,rfl,_,_,b0⟩,b1,b2,N⟩:=a7;rw[mR]at b1;have O:=a8 N;clear N;have:=DO;have b3:=sR w 3 .i64;have b4:=(Ext.refl w).alloc (.cells #[] 3);go_enter func77,ntmps77;go_wp2_with fail;refine(sA 4294967296 _ om).mono ?_;rintro e b5 ⟨Q,rfl,R,S⟩;have b6:=b4.trans S;have z:=R.isC.isN lK (by rw[mR];exact aE (oZ om) om);obtain⟨H,A⟩:=ex (4294967296:Nat);rw[<-A]at z;have C:=a8 A;clear A;have b7:=b3.ext S;clear R;go_wp2_with fail;go_loopw [3,5] (λb8 D wr=>∃p:Nat,D= .int .i64 ((p:Int) - 1)/\FrN 3 .i64 TK w wr b8 (hiV W i p)/\p<=i.length/\Ext b5 wr) (λ_ D _=>(intOf D+1).toNat)
 case atStart=>exact ⟨i.length,rfl,by rw[DS i _ lr];exact b7,lr,rE⟩
 case round=>
  obtain⟨p,rfl,s,_,E⟩:=hrel;have t:=b6.trans E;rcases aR p with T |T
  .subst T;rw[wH,O.out]at s;go_wp2;go_ret;exact⟨_,rfl,s,t⟩
  .obtain⟨d,rfl⟩:∃d,p=d+1:=⟨p - 1,om⟩;rw[show ((d+1:Nat):Int) - 1=(d:Int)from om];obtain⟨u,x,rfl,U⟩:=b0.at (by rw[kU];omega);have hcell:=t.cell (U d _ (mM .u64 i d om));rw[<-nY (show d<i.length by omega)]at hcell;have q:=wG (B:=W) i d;have F:=b2.gD (show 0<W by rw[lX];omega) d;have I:hiV W i d<=n:=by
    rw[<-O.out,zX i d];have:1*hiV W i d<=W^d*hiV W i d:=aJ _ (cZ (by rw[lX];omega));omega
   obtain⟨a,V⟩:=ex (gD i d);rw[<-V]at q F hcell;have b9:=ZQ a F;rw[lX]at F;obtain⟨g,b⟩:=ex (a / 4294967296);obtain⟨l,X⟩:=ex (a % 4294967296);rw[<-X]at b9;have:(a:Int) / 4294967296=(g:Int):=om;have Y:a=g*4294967296+l:=om;have Z:g<4294967296:=om;have a0:l<4294967296:=om;obtain⟨j,a1⟩:=ex (hiV W i (d+1));rw[<-a1]at q s;obtain⟨a2,J⟩:=ex (hiV W i d);rw[<-J]at q I;have K:a2=(j*H+g)*H+l:=by rw[C.out,q,Y,lX];omega
   have bA:sz TK a2<=68719476736:=aE (lN lK I) a9;have a3:sz TK ((j*H+g)*H)<=68719476736:=aE (lN lK (by rw[K];omega)) bA;have bB:sz TK (j*H+g)<=68719476736:=aE (lN lK (by rw[C.out];omega)) a3;have a4:sz TK (j*H)<=68719476736:=aE (lN lK om) bB;have:sz TK j<=68719476736:=aE (lN lK (by rw[C.out];omega)) a4;have y:∀L:Nat,L<4294967296->sz TK L<=5:=λL _=>oZ om
   have bC:=a8 J;have bD:=a8 K;have:IntKind.i64.wrap (g:Int)=g:=by simp (disch:=omega) only[cY]
   have:IntKind.i64.wrap (l:Int)=l:=by simp (disch:=omega) only[cY]
   have:d<i.length:=om;clear U q Y V b X a1 J K I;go_wp2_with fail;refine wpQ [(u3),(Q),nS 3 .i64 TK (j*H),(u,x,i.length,M),d,(u,x+d),kL (.int .u64 (a:Int)),kL (.int .u64 (g:Int)),g,nS 3 .i64 TK g,nS 3 .i64 TK (j*H+g),nS 3 .i64 TK (j*H+g)] [(0,11,3)] [0,1,2,3,4,5,6,7,8,9,10,11] ?_ ?_
   .refine⟨?_,oL,?_,oL,oL,oL,?_,oL,oL,?_,?_,?_,trivial⟩
    .intro f h c b m;have bE:f 11=u3:=m.1 rfl;exact DG6
    .intro f h c b m;have hE:Ext wr h:=c;have hS:=hE.size;have bG:=tE b 0 0 rfl rfl rfl;have bO:=tE b 1 1 rfl rfl rfl;change kM _ _ _ f h Ext _;refine oC #[f 0,f 1] func133 rfl rfl ?_;rw[bG,bO];refine(rY _ _ j H _ ((s.isC.isN lK lq).ext hE) (z.ext (E.trans hE))).mono ?_;exact EL7
    .intro f h c b m;have hE:Ext wr h:=c;have:=tE b 0 5 rfl rfl rfl;exact tr1
    .intro f h c b m;have hE:Ext wr h:=c;have hS:=hE.size;have bP:=tE b 0 8 rfl rfl rfl;change kM _ _ _ f h Ext _;refine oC #[f 8] func112 rfl rfl ?_;rw[bP];refine(sA g _ om).mono ?_;exact EL7
    .intro f h c b m;have hE:Ext wr h:=c;have hS:=hE.size;have bR:=kO b 0 2 rfl rfl (λ_=>hE);have bS:=kO b 1 9 rfl rfl (λ_=>hE);change kM _ _ _ f h Ext _;refine oC #[f 2,f 9] func119 rfl rfl ?_;refine(uX _ _ (j*H) g _ (bR.isC.isN lK lq) (bS.isC.isN lK (by have:=y g Z;rw[mR];omega)) a4 (by have:=y g Z;omega)).mono ?_;exact EL7
    .intro f h c b m;have hE:Ext wr h:=c;have bT:=kO b 0 10 rfl rfl (λ_=>hE);exact⟨_,rfl,rE,bT⟩
   .intro f h c b;have hE:Ext wr h:=mV.nil c;have r:=rM b 11 de rfl (λ_=>hE);clear b;have c0:=FrN.mono r t.size;have c1:=t.trans hE;have a5:=E.trans hE;have c2:=hE.cell hcell;clear r;generalize f 11=v3 at*;go_wp2_with fail;refine wpQ [(v3),(Q),nS 3 .i64 TK ((j*H+g)*H),(u,x,i.length,M),d,(u,x+d),kL (.int .u64 (a:Int)),kL (.int .u64 (l:Int)),l,nS 3 .i64 TK l,nS 3 .i64 TK ((j*H+g)*H+l),nS 3 .i64 TK ((j*H+g)*H+l)] [(0,11,3)] [0,1,2,3,4,5,6,7,8,9,10,11] ?_ ?_
    .refine⟨?_,oL,?_,oL,oL,oL,?_,oL,oL,?_,?_,?_,trivial⟩
     .intro f k c b m;have bE:f 11=v3:=m.1 rfl;exact DG6
     .intro f k c b m;have hE:Ext h k:=c;have hS:=hE.size;have c3:=tE b 0 0 rfl rfl rfl;have c4:=tE b 1 1 rfl rfl rfl;change kM _ _ _ f k Ext _;refine oC #[f 0,f 1] func133 rfl rfl ?_;rw[c3,c4];refine(rY _ _ (j*H+g) H _ ((c0.isC.isN lK lq).ext hE) (z.ext (a5.trans hE))).mono ?_;exact EL7
     .intro f k c b m;have hE:Ext h k:=c;have:=tE b 0 5 rfl rfl rfl;have hc2:=hE.cell c2;exact DG6
     .intro f k c b m;have hE:Ext h k:=c;have hS:=hE.size;have c5:=tE b 0 8 rfl rfl rfl;change kM _ _ _ f k Ext _;refine oC #[f 8] func112 rfl rfl ?_;rw[c5];refine(sA l _ om).mono ?_;exact EL7
     .intro f k c b m;have hE:Ext h k:=c;have hS:=hE.size;have c6:=kO b 0 2 rfl rfl (λ_=>hE);have c7:=kO b 1 9 rfl rfl (λ_=>hE);change kM _ _ _ f k Ext _;refine oC #[f 2,f 9] func119 rfl rfl ?_;refine(uX _ _ ((j*H+g)*H) l _ (c6.isC.isN lK lq) (c7.isC.isN lK (by have:=y l a0;rw[mR];omega)) a3 (by have:=y l a0;omega)).mono ?_;exact EL7
     .intro f k c b m;have hE:Ext h k:=c;have c8:=kO b 0 10 rfl rfl (λ_=>hE);exact⟨_,rfl,rE,c8⟩
    .intro f k c b;have hE:Ext h k:=mV.nil c;have r:=rM b 11 de rfl (λ_=>hE);clear b;have a6:=FrN.mono r (aE c1.size lr);rw[<-bD.out,bC.out]at a6;clear r;generalize f 11=v4 at*;go_wp2;go_roundw
     case rel=>exact ⟨d,rfl,a6,om,a5.trans hE⟩
     case measure=>simp [intOf]
theorem BB(v:Value)(n:Nat)(w:World)(t:IsN .i64 TK w v n)(z:n<=4611686018427387904):
  Calls prog 115 #[v] w λe w'=>e= .returned n/\w=w':=by
 obtain⟨c,⟨_,_,rfl,_,_,u⟩,x,_,l⟩:=t;rw[mR]at x;have m:=a8 l;clear l;go_enter func115,ntmps115;go_wp2;go_loopw [3,4] (λa j wr=>∃d g:Nat,j= .int .i64 ((d:Int) - 1)/\a= .int .i64 g/\g=hiV TK c d/\d<=c.length/\w=wr) (λ_ j _=>(intOf j+1).toNat)
 case atStart=>exact ⟨c.length,0,rfl,rfl,by rw[DS c _ lr],lr,rfl⟩
 case round=>
  obtain⟨d,g,rfl,rfl,h,_,rfl⟩:=hrel;rcases aR d with p |p
  .subst p;rw[wH,m.out]at h;subst h;go_wp2;go_ret;exact⟨rfl,rfl⟩
  .obtain⟨b,rfl⟩:∃b,d=b+1:=⟨d - 1,om⟩;rw[show ((b+1:Nat):Int) - 1=(b:Int)from om];obtain⟨_,_,rfl,q⟩:=u.at (by rw[kU];omega);have r:=q b _ (mM .i64 c b om);rw[<-nY (show b<c.length by omega)]at r;have i:=wG (B:=TK) c b;have s:hiV TK c b<=n:=by
    rw[<-m.out,zX c b];have:1*hiV TK c b<=TK^b*hiV TK c b:=aJ _ (cZ (by rw[nB];omega));omega
   obtain⟨a,k⟩:=ex (gD c b);rw[<-k,<-h,nB]at i;rw[<-k]at r;rw[nB]at s;rw[i]at s;have:b<c.length:=om;have y:=a8 (show g*10000+a=hiV TK c b by rw[nB,i];omega);clear q k i h;go_wp2;go_roundw
   case rel=>exact ⟨b,g*10000+a,rfl,by go_num,y.out,om,trivial⟩
   case measure=>simp [intOf]
theorem ah4(n:Nat):sz W n<=sz TK n:=nG lF (cD (qU lK n) (Nat.pow_le_pow_left (by rw[nB,lX];omega) _))
theorem FrL.other{e:TypeId}{s:IntKind}{w w':World}{v:Value}(t:FrL e V b w v c)(u:FrL J s d w p h)(x:e≠J)(j:w.grownBy w' p.ownBlock):FrL e V b w' v c:=by
 obtain⟨k,l,rfl,m,q,g⟩:=t;obtain⟨_,_,rfl,_,_,y⟩:=u;rcases y with⟨_,_,rfl⟩ |⟨z,_,rfl,_,i,_⟩
 .exact⟨k,l,rfl,m,q,g.ext j⟩
 .refine⟨k,l,rfl,m,q,?_⟩;rcases g with g |⟨A,C,D,E,r,F⟩
  .exact .inl g
  .refine .inr ⟨A,C,D,E,Chg.blk (g0:=z) j r ?_,F⟩;rintro rfl;rw[r]at i;simp only[Option.some.injEq,Obj.cells.injEq]at i;exact x i.2.1
theorem F0(v:Value)(n:Nat)(w:World)(a0:IsN .i64 TK w v n)(A:sz TK n<=68719476736):
  Calls prog 61 #[v] w λe w'=>∃C,e= .returned C/\FrN 165 .u64 W w w' C n/\Ext w w':=by
 have bD:=TM;have a1:=sR w 165 .u64;have D:=(Ext.refl w).alloc (.cells #[] 165);have bE:(dg W n).length<=68719476736:=aE (ah4 n) A;obtain⟨H,m⟩:=ex (4294967296:Nat);have h:=a8 m;go_enter func61,ntmps61;go_wp2_with fail;refine(sA 4294967296 _ om).mono ?_;rw[<-m];clear m;rintro e _ ⟨E,rfl,F,I⟩;have p:=D.trans I;have bG:sz TK H<=5:=by rw[h.out];exact oZ om
 have a2:=FrN.mono F D.size;have a3:=a1.ext I;clear F;go_wp2_with fail;refine(wP _ n _ (a0.ext p)).mono ?_;rintro e _ ⟨_,rfl,J,q⟩;have a4:=p.trans q;have a5:=a3.ext q;have a6:=a2.ext q;have a7:=FrN.mono J p.size;clear J;go_wp2_with fail;go_loopw [3,5] (λout r wr=>∃(b:Nat) (g:List Nat),FrL 165 .u64 w wr out g/\FrN 3 .i64 TK w wr r b/\FrN 3 .i64 TK w wr E H/\Hid (dg W n=g++dg W b)/\b<=n/\Ext w wr) (λ_ r wr=>numD wr r)
 case atStart=>exact ⟨n,[],a5,a7,a6,rfl,lr,a4⟩
 case round=>
  obtain⟨b,g,hfr,s,K,t,a9,hex⟩:=hrel;have L:=K.isC.isN lK lq;have b0:sz TK b<=68719476736:=aE (lN lK a9) A;obtain⟨_,_,rfl⟩:=s.slice;rcases aR b with u |u
  .subst u;have hd:dg W n=g:=by have:=t.out;simpa[FK]using this
   have Hd2:=a8 hd;have b1:sz TK 0=0:=rfl;rw[b1]at*;exact oo9
  .have bO:0<sz TK b:=by
    have:sz TK b≠0:=λe=>by have:=xT.1 e;omega
    omega
   have M:0<H:=by rw[h.out];omega
   go_wp2_with fail;refine(uH _ _ b H _ (s.isC.isN lK lq) L M om).mono ?_;rintro e _ ⟨_,_,rfl,b2,N,i⟩;have bP:sz TK (b / H)<=68719476736:=aE (lN lK (fR b H)) b0;go_wp2_with fail;refine(uH _ _ (b / H) H _ (b2.isC.isN lK lq) (L.ext i) M om).mono ?_;rintro e j ⟨O,_,rfl,Q,R,k⟩;have b3:b / H % H<4294967296:=by rw[h.out];omega
   have b4:b % H<4294967296:=by rw[h.out];omega
   obtain⟨a,x⟩:=ex (b / H % H);obtain⟨c,y⟩:=ex (b % H);have S:a*4294967296+c=b % W:=by rw[x,y,h.out,lX];omega
   have T:b / H / H=b / W:=by rw[h.out,lX];omega
   rw[<-x]at b3 R;rw[<-y]at b4 N;rw[T]at Q;have hd:dg W n=(g++ [a*4294967296+c])++dg W (b / W):=by
    rw[t.out,TJ lF (by omega:b≠0),S];simp
   have bR:g.length<=68719476736:=by
    have:=congrArg List.length t.out;rw[aB]at this;omega
   have Hd2:=a8 hd;have U:=hex.trans (i.trans k);have l:=hfr.ext (i.trans k);have bS:=U.size;have V:b / W<b:=Nat.div_lt_self u lF;have b5:=a8 V;obtain⟨d,X⟩:=ex (a*4294967296+c);rw[<-X]at Hd2;have bT:(a:Int)*4294967296+(c:Int)=d:=om;have b6:=(hex.trans i).size;have b7:b / W<=n:=om;have c0:IntKind.u64.wrap (a:Int)=a:=by simp (disch:=omega) only[dJ]
   have c1:IntKind.u64.wrap ((a:Int)*4294967296)=(a:Int)*4294967296:=by simp (disch:=omega) only[dJ]
   have c2:IntKind.u64.wrap (c:Int)=c:=by simp (disch:=omega) only[dJ]
   have c3:IntKind.u64.wrap (d:Int)=d:=by simp (disch:=omega) only[dJ]
   clear x y S T hd V X;go_wp2_with fail;refine(BB _ a _ (R.isC.isN lK (by have:=oZ (show a<=9223372036854775807 by omega);unfold sz;rw[mR];omega)) om).mono ?_;rintro e w' ⟨rfl,rfl⟩;go_wp2_with fail;refine(BB _ c _ ((N.ext k).isC.isN lK (by have:=oZ (show c<=9223372036854775807 by omega);unfold sz;rw[mR];omega)) om).mono ?_;rintro e w' ⟨rfl,rfl⟩;go_wp2_with (at_builtin;refine n6 _ rfl _ _ 33 rfl 165 .u64 8 underlying33 tH w _ g [d] j 1 1 rfl rfl rfl (l.alloc _) (Rd.new1 j .u64 d _) om om (by simp;omega) ?_);intro _ Y b8 z;have b9:=Ext.step_own (U.alloc (.cells #[.int .u64 (d:Int)] 165)) z l.block;have bA:FrN 3 .i64 TK w j O (b / W):=FrN.mono Q b6;have bB:=bA.ext ((Ext.refl j).alloc (.cells #[.int .u64 (d:Int)] 165));have Z:FrN 3 .i64 TK w Y O (b / W):=FrL.other bB (l.alloc _) de z;have bC:FrN 3 .i64 TK w Y E H:=FrL.other (FrL.ext K ((i.trans k).alloc (.cells #[.int .u64 (d:Int)] 165))) (l.alloc _) de z;go_wp2;go_roundw
   case rel=>exact ⟨b / W,_,b8,Z,bC,Hd2,b7,b9⟩
   case measure=>
    rw[FO Z.isC,FO s.isC];exact b5.out
def CZ(w:World)(v:Value)(z:Int):Prop:=∃s,v= .agg #[.bool (decide (z<0)),s]/\IsC .i64 TK w s z.natAbs
def uT(B0:Nat)(w:World)(v:Value)(z:Int):Prop:=∃s,v= .agg #[.bool (decide (z<0)),s]/\FrN 3 .i64 TK B0 w s z.natAbs
def szT(z:Int):Nat:=sz TK z.natAbs
theorem CZ.ext{w w':World}{v:Value}(h:CZ w v D)(he:Ext w w'):CZ w' v D:=by
 exact dj8
theorem uT.ext{w w':World}{v:Value}(h:uT b w v D)(he:Ext w w'):uT b w' v D:=by
 exact dj8
theorem uT.chg{b g:Nat}{w w':World}{v:Value}{c:Int}(d:uT b w v c)(h:Chg g w w')(i:g<b):uT b w' v c:=by
 obtain⟨j,k,l⟩:=d;exact⟨j,k,l.chg h i⟩
theorem uT.mono{b c:Nat}{w:World}{v:Value}{d:Int}(g:uT b w v d)(h:c<=b):uT c w v d:=by
 obtain⟨i,j,k⟩:=g;exact⟨i,j,k.mono h⟩
theorem uT.cz{w:World}{v:Value}(c:uT b w v D):CZ w v D:=by
 obtain⟨d,g,h⟩:=c;exact⟨d,g,h.isC⟩
theorem IsC.slice{B n:Nat}{w:World}{v:Value}(h:IsC V B w v n):∃ad cap,v= .slice ad (sz B n) cap:=by
 exact DG7
def mI{S:Nat}(z:Int):PP S:=⟨false,λu w=>uT S w u z,λ_ _ _ h hp=>hp.ext h,λ_ _ hg _ _ _ h hp=>hp.chg h hg⟩
theorem pZ(d:Bool)(b:Value)(n:Nat)(w:World)(k:IsN .i64 TK w b n):
  Calls prog 118 #[d,b] w λe w'=>∃g,e= .returned g/\uT w w' g (sgn d n)/\Ext w w':=by
 go_enter func118,ntmps118;go_wp2_with fail;obtain⟨_,l,h,m,_⟩:=kR w #[false,()] 61;rw[<-l];refine(wP b n _ (k.ext h)).mono ?_;rintro e _ ⟨_,rfl,i,j⟩;have c:=m.ext j;have p:= @xT n;have q:=a8 i;obtain⟨r,s,rfl,_,_,_⟩:=i;obtain⟨_,_,-⟩:=c.cl [0,1];obtain⟨_,_,-⟩:=c.fl [0,1];go_wp2_with fail;all_goals
  refine l8 4 61 w 61 _ _ kr rfl ((c.set 0 _).set 1 _) underlying61 rfl kr rfl ?_;refine⟨_,rfl,⟨(r,(dg TK n).length,s),?_,?_⟩,(h.trans j).step (Chg.trans (Chg.setCell _ w 0 _) (Chg.setCell _ w 1 _)) lr⟩
  rotate_left
  .rw[n8];exact(q.out.chg (Chg.trans (Chg.setCell _ w 0 _) (Chg.setCell _ w 1 _)) om).mono om
 all_goals
  have:(0<(dg TK n).length)↔0<n:=by unfold sz at p;omega
  simp_all[yR]
theorem J6(v:Value)(d:Int)(w:World)(b:IsZ w v d)(g:szT d<=68719476736):
  Calls prog 78 #[v] w λe w'=>∃v',e= .returned v'/\uT w w' v' d/\Ext w w':=by
 obtain⟨c,j,n,rfl,r,k⟩:=b;have s:sz TK n<=68719476736:=by rw[k]at g;unfold szT at g;rwa [n8]at g
 go_enter func78,ntmps78;go_wp2_with fail;obtain⟨w1,l,e1,b1,t,_⟩:=lZ w #[c,j] #[false,()] 35 61;rw[<-l];clear l;refine wpP [⟨6,(w.heap.size+1),61,mI (sgn c n)⟩] [(w,0),c,(w,1),(j),nS 3 .i64 TK n,mI (sgn c n),kP] [] [6,5,4,3,2,1,0] ?_ ?_ ?_ ?_ ?_
 .exact UZ7
 .exact DL8
 .exact sz1
 .refine⟨oL,?_,oL,?_,?_,?_,?_,trivial⟩
  .exact YQ1
  .exact sH4
  .intro f w2 hG hp hl;have hE:Ext w1 w2:=hG;have hS:=hE.size;have u:=tE hp 0 3 rfl rfl rfl;change kM _ _ _ f w2 Ext _;refine oC #[f 3] func77 rfl rfl ?_;rw[u];refine(EY _ n _ (r.ext (e1.trans hE)) s).mono ?_;exact EL7
  .intro f w2 hG hp hl;have hE:Ext w1 w2:=hG;have hS:=hE.size;have z:=tE hp 0 1 rfl rfl rfl;have A:=kO hp 1 4 rfl rfl (λ_=>hE);change kM _ _ _ f w2 Ext _;refine oC #[f 1,f 4] func118 rfl rfl ?_;rw[z];refine(pZ _ _ _ _ (A.isC.isN lK lq)).mono ?_;exact EL7
  .intro f w2 hG hp hl;have hE:Ext w1 w2:=hG;have hS:=hE.size;have C:=kO hp 0 5 rfl rfl (λ_=>hE);intro D;change kM _ _ _ f w2 (Chg _) _;obtain⟨m,b,i⟩:=C;exact mN (P:=prog) _ _ _ (w.heap.size+1) _ _ _ (mI _:PP _).p rfl rfl rfl b (show Bx 61 w2 _ _ from D.trans t) kr rfl (xZ rfl i.oneCell) (λw' h=>⟨m,rfl,i.chg h om⟩)
 .intro f w2 hG hp;obtain⟨_,E,p⟩:∃q,Bx 61 w2 (w.heap.size+1) q/\(mI (sgn c n):PP w1).p (.agg q) w2:=sP hp 6 de;clear hp;have hz1:=p.mono (show w.heap.size<=_ by omega);obtain⟨m,b,i⟩:=p
  cases b
  go_wp2;refine l8 2 61 (w.heap.size+1) 61 _ _ kr rfl E underlying61 rfl kr rfl ?_;rw[k];exact Ku6
theorem K9(b:Int)(w:World)(Q: -9223372036854775808<=b)(R:b<=9223372036854775807):
  Calls prog 65 #[b] w λe w'=>∃l,e= .returned l/\uT w w' l b/\Ext w w':=by
 go_enter func65,ntmps65;rcases(show 0<=b∨b<0 by omega)with x |x
 .have d:=a8 (show b=(b.natAbs:Int)by omega);have h:sgn false b.natAbs=b:=by simp only[sgn,if_false,eP];omega
  have c:b.natAbs<=9223372036854775807:=om;go_wp2_with fail;obtain⟨y,m,p,q,z⟩:=kR w #[false,()] 61;rw[<-m];rw[show (#[Value.int .i64 b])=#[.int .i64 (b.natAbs:Int)]by rw[<-d.out]];refine(sA b.natAbs _ c).mono ?_;rintro e r ⟨A,rfl,s,i⟩;go_wp2_with fail;refine(pZ false _ b.natAbs _ (s.isC.isN lK (by have:=oZ c;unfold sz;rw[mR];omega))).mono ?_;rw[h];rintro e _ ⟨l,rfl,h,k⟩;have C:=i.size;have j:=(p.trans i).trans k;obtain⟨D,rfl,d⟩:=h;obtain⟨E,F,rfl⟩:=d.slice;have t:=a8 d;clear d;have c:=(q.ext i).ext k;obtain⟨I,J,-⟩:=c.cl [0,1];obtain⟨K,L,-⟩:=c.fl [0,1];go_wp2;refine l8 2 61 w 61 _ _ kr rfl ((c.set 0 _).set 1 _) underlying61 rfl kr rfl ?_;exact⟨_,rfl,⟨_,(by first |rfl |simp_all),(t.out.chg (Chg.trans (Chg.setCell _ w 0 _) (Chg.setCell _ w 1 _)) om).mono om⟩,(j).step (Chg.trans (Chg.setCell _ w 0 _) (Chg.setCell _ w 1 _)) om⟩
 .obtain⟨g,_⟩:∃g:Nat, -(b+1)=(g:Int):=⟨(-(b+1)).toNat,om⟩;have h:sgn true (g+1)=b:=by simp only[sgn,if_true];omega
  have c:g<=9223372036854775807:=om;have:=oZ c;have:sz TK (g+1)<=5:=QD5;have:¬0<=b:=om;go_wp2_with fail;obtain⟨y,m,p,q,z⟩:=kR w #[false,()] 61;rw[<-m];refine(sA g _ c).mono ?_;rintro e r ⟨A,rfl,s,i⟩;go_wp2_with fail;have j:=(Ext.refl r).alloc (.cells #[(1:Int)] 3);have M:=AI (k:= .i64) (B:=TK) r 1 3 (by rw[nB];omega);refine(uX _ _ g 1 _ ((s.ext j).isC.isN lK (by unfold sz;rw[mR];omega)) M (by unfold sz;omega) (by rw[show sz TK 1=1 from rfl];omega)).mono ?_;rintro e _ ⟨_,rfl,N,u⟩;go_wp2_with fail;refine(pZ true _ (g+1) _ (N.isC.isN lK lq)).mono ?_;rw[h];rintro e _ ⟨l,rfl,h,k⟩;have C:=i.size;have:=(j.trans u).size;have O:=((p.trans i).trans (j.trans u)).trans k;obtain⟨D,rfl,d⟩:=h;obtain⟨E,F,rfl⟩:=d.slice;have t:=a8 d;clear d;have c:=(q.ext (i.trans (j.trans u))).ext k;obtain⟨I,J,-⟩:=c.cl [0,1];obtain⟨K,L,-⟩:=c.fl [0,1];go_wp2;refine l8 2 61 w 61 _ _ kr rfl ((c.set 0 _).set 1 _) underlying61 rfl kr rfl ?_;exact⟨_,rfl,⟨_,(by first |rfl |simp_all),(t.out.chg (Chg.trans (Chg.setCell _ w 0 _) (Chg.setCell _ w 1 _)) om).mono om⟩,(O).step (Chg.trans (Chg.setCell _ w 0 _) (Chg.setCell _ w 1 _)) om⟩
theorem DB(v:Value)(b:Int)(w:World)(i:CZ w v b):
  Calls prog 131 #[v] w λe w'=>e= .returned b.sign/\Ext w w':=by
 obtain⟨_,rfl,j⟩:=i;obtain⟨k,l,rfl⟩:=j.slice;have g:= @xT b.natAbs;have d:sz TK b.natAbs=0↔b=0:=by rw[g];omega
 clear g;go_enter func131,ntmps131;obtain⟨_,m,_,p,_⟩:=kR w #[.bool (decide (b<0)),(k,sz TK b.natAbs,l)] 61;obtain⟨q,r,-⟩:=p.cl [0,1];rw[m]at q r;rcases(show b=0∨b<0∨0<b by omega)with c |c |c
 .have h:sz TK b.natAbs=0:=d.2 c;subst c;rw[show (0:Int).natAbs=0 from rfl]at*;go_wp2;go_ret;exact⟨rfl,(Ext.refl w).alloc _⟩
 .have h:¬sz TK b.natAbs=0:=λe=>by have:=d.1 e;omega
  clear d;go_wp2;go_ret;exact⟨by rw[iH c];rfl,(Ext.refl w).alloc _⟩
 .have h:¬sz TK b.natAbs=0:=λe=>by have:=d.1 e;omega
  have:¬b<0:=om;clear d;go_wp2;go_ret;exact⟨by rw[iW c];rfl,(Ext.refl w).alloc _⟩
theorem QH(v:Value)(b:Int)(w:World)(l:CZ w v b)(m:szT b<=68719476736):
  Calls prog 184 #[v] w λe w'=>∃c,e= .returned c/\uT w w' c (-b)/\Ext w w':=by
 obtain⟨j,rfl,p⟩:=l;have q:sgn (!decide (b<0)) b.natAbs= -b:=by rw[UH,uJ]
 unfold szT at m;go_enter func184,ntmps184;obtain⟨_,k,e1,r,s,_⟩:=lZ w #[.bool (decide (b<0)),j] #[false,()] 61 61;obtain⟨d,g,-⟩:=r.cl [0,1];rw[k]at d g;go_wp2_with fail;rw[<-k];clear d g;refine(pZ (!decide (b<0)) j b.natAbs _ ((p.isN lK lq).ext e1)).mono ?_;rw[q];rintro e _ ⟨c,rfl,t,hext⟩;obtain⟨_,rfl,h⟩:=t;obtain⟨_,_,rfl⟩:=h.slice;have Hn:=a8 h;clear h;have i:=s.ext hext;obtain⟨d,g,-⟩:=i.cl [0,1];obtain⟨_,_,-⟩:=i.fl [0,1];go_wp2;refine l8 2 61 (w.heap.size+1) 61 _ _ kr rfl ((i.set 0 _).set 1 _) underlying61 rfl kr rfl ?_;exact eL6
theorem CZ.parts{w:World}{v:Value}(d:CZ w v D):∃c b n,v= .agg #[.bool c,b]/\IsC .i64 TK w b n/\D=sgn c n:=by
 obtain⟨b,g,h⟩:=d;exact⟨_,b,_,g,h,(uJ D).symm⟩
theorem ab8(b c:Int):szT (b+c)<=max (szT b) (szT c)+1:=by
 unfold szT;exact aE (lN lK (Int.natAbs_add_le b c)) (tS lK _ _)
theorem AQ(b c:Int):szT (b*c)<=szT b+szT c:=by
 unfold szT;rw[fX];exact qK lK _ _
theorem ab9(b:Int):szT (-b)=szT b:=by unfold szT;rw[iG]
theorem FR(b:Bool)(n:Nat):szT (sgn b n)=sz TK n:=by unfold szT;rw[n8]
theorem SR(v:Value)(b:Int)(w:World)(hv:CZ w v b)(c:szT b<=68719476736):
  Calls prog 60 #[v] w λe w'=>∃v',e= .returned v'/\FrZ w w' v' b/\Ext w w':=by
 obtain⟨d,rfl,l⟩:=hv;unfold szT at c;go_enter func60,ntmps60;go_wp2_with fail;obtain⟨w1,g,e1,b1,b2,_⟩:=lZ w #[.bool (decide (b<0)),d] #[false,()] 61 35;rw[<-g];clear g;refine wpP [⟨6,(w.heap.size+1),35,lJ b⟩] [(w,0),kL (.bool (decide (b<0))),(w,1),(d),nS 165 .u64 W b.natAbs,lJ b,kP] [] [6,5,4,3,2,1,0] ?_ ?_ ?_ ?_ ?_
 .exact UZ7
 .exact DL8
 .exact sz1
 .refine⟨oL,?_,oL,?_,?_,?_,?_,trivial⟩
  .exact YQ1
  .exact sH4
  .intro f w2 hG hp hl;have hE:Ext w1 w2:=hG;have hS:=hE.size;have m:=tE hp 0 3 rfl rfl rfl;change kM _ _ _ f w2 Ext _;refine oC #[f 3] func61 rfl rfl ?_;rw[m];refine(F0 _ b.natAbs _ ((l.isN lK lq).ext (e1.trans hE)) c).mono ?_;exact EL7
  .intro f w2 hG hp hl;have hE:Ext w1 w2:=hG;have:=tE hp 0 1 rfl rfl rfl;have i:=kO hp 1 4 rfl rfl (λ_=>hE);obtain⟨_,_,hv⟩:=FrN.slice i;simp only[kM];go_simp;exact⟨_,rfl,rE,_,rfl,hv▸i⟩
  .intro f w2 hG hp hl;have hE:Ext w1 w2:=hG;have hS:=hE.size;have q:=kO hp 0 5 rfl rfl (λ_=>hE);intro hg0;change kM _ _ _ f w2 (Chg _) _;obtain⟨s',hv,hn⟩:=q;exact ut2
 .intro f w2 hG hp;obtain⟨_,r,j⟩:∃k,Bx 35 w2 (w.heap.size+1) k/\(lJ b:PP w1).p (.agg k) w2:=sP hp 6 de;clear hp;have hz1:=j.mono (show w.heap.size<=_ by omega);obtain⟨s',hv,hn⟩:=j
  cases hv
  go_wp2;refine l8 2 35 (w.heap.size+1) 35 _ _ kr rfl r underlying35 rfl kr rfl ?_;exact Ku6
theorem F7(v D:Value)(x y:Int)(w:World)(hv:CZ w v x)(E:CZ w D y)(t:szT x<=68719476736)(u:szT y<=68719476736):
  Calls prog 183 #[v,D] w λe w'=>∃v',e= .returned v'/\uT w w' v' (x+y)/\Ext w w':=by
 obtain⟨b,k,n,rfl,I,rfl⟩:=hv.parts;obtain⟨C,l,m,rfl,J,rfl⟩:=E.parts;rw[FR]at t u;clear hv E;have z:=I.isN lK lq;have A:=J.isN lK lq;go_enter func183,ntmps183;by_cases K:b=C
 .subst K;go_wp2_with fail;obtain⟨w1,q,e1,b1,b2,b3,L⟩:=qI w #[b,k] #[b,l] #[false,()] 61 61 61;rw[<-q];clear q;refine wpP [⟨8,(w.heap.size+2),61,mI (sgn b (n+m))⟩] [(w,0),b,(w,1),(k),kL ((w.heap.size+1),1),(l),nS 3 .i64 TK (n+m),mI (sgn b (n+m)),kP] [] [8,7,6,5,4,3,2,1,0] ?_ ?_ ?_ ?_ ?_
  .exact IP7
  .exact DL8
  .exact sz1
  .refine⟨oL,?_,oL,?_,oL,?_,?_,?_,?_,trivial⟩
   .intro f w2 hG c d;have hE:Ext w1 w2:=hG;have:=tE c 0 0 rfl rfl rfl;exact mi8
   .intro f w2 hG c d;have hE:Ext w1 w2:=hG;have:=tE c 0 2 rfl rfl rfl;exact Vb6
   .intro f w2 hG c d;have hE:Ext w1 w2:=hG;have:=tE c 0 4 rfl rfl rfl;exact lf6
   .intro f w2 hG c d;have hE:Ext w1 w2:=hG;have hS:=hE.size;have M:=tE c 0 3 rfl rfl rfl;have N:=tE c 1 5 rfl rfl rfl;change kM _ _ _ f w2 Ext _;refine oC #[f 3,f 5] func119 rfl rfl ?_;rw[M,N];refine(uX _ _ n m _ (z.ext (e1.trans hE)) (A.ext (e1.trans hE)) t u).mono ?_;exact EL7
   .intro f w2 hG c d;have hE:Ext w1 w2:=hG;have hS:=hE.size;have O:=tE c 0 1 rfl rfl rfl;have Q:=kO c 1 6 rfl rfl (λ_=>hE);change kM _ _ _ f w2 Ext _;refine oC #[f 1,f 6] func118 rfl rfl ?_;rw[O];refine(pZ _ _ _ _ (Q.isC.isN lK (aE (tS lK n m) (by unfold sz at t u;rw[mR];omega)))).mono ?_;exact EL7
   .intro f w2 hG c d;have hE:Ext w1 w2:=hG;have hS:=hE.size;have R:=kO c 0 7 rfl rfl (λ_=>hE);intro hg0;change kM _ _ _ f w2 (Chg _) _;obtain⟨s',hv,hn⟩:=R;exact Op6
  .intro f w2 hG c;obtain⟨F,r,g⟩:∃i,Bx 61 w2 (w.heap.size+2) i/\(mI (sgn b (n+m)):PP w1).p (.agg i) w2:=sP c 8 de;clear c;have hz1:=g.mono (show w.heap.size<=_ by omega);obtain⟨s',hv,hn⟩:=g
   cases hv
   go_wp2;refine l8 4 61 (w.heap.size+2) 61 _ _ kr rfl r underlying61 rfl kr rfl ?_;exact HS5
 .have S:C=!b:=by cases b<;>cases C<;>simp_all
  have:(b==!b)=false:=by cases b<;>rfl
  subst S;go_wp2_with fail;obtain⟨w1,q,e1,b1,b2,b3,L⟩:=qI w #[b,k] #[.bool !b,l] #[false,()] 61 61 61;rw[<-q];clear q;refine(CY _ _ n m _ (z.ext e1) (A.ext e1)).mono ?_;rintro e w2 ⟨rfl,s⟩;have B1:=b1.ext s;have B2:=b2.ext s;have B3:=b3.ext s;have j:=e1.trans s;have:=s.size;rcases(show m<=n∨n<m by omega)with T |U
  .have V:0<=o6 n m:=by unfold o6;rw[if_neg om];split<;>omega
   go_wp2_with fail;refine wpP [⟨8,(w.heap.size+2),61,mI (sgn b (n - m))⟩] [(w,0),b,(w,1),(k),kL ((w.heap.size+1),1),(l),nS 3 .i64 TK (n - m),mI (sgn b (n - m)),kP] [] [8,7,6,5,4,3,2,1,0] ?_ ?_ ?_ ?_ ?_
   .exact Wx3
   .exact DL8
   .exact sz1
   .refine⟨oL,?_,oL,?_,oL,?_,?_,?_,?_,trivial⟩
    .intro f w3 hG c d;have hE:Ext w2 w3:=hG;have:=tE c 0 0 rfl rfl rfl;have hcell:=(B1.ext hE).cell 0;exact DG6
    .intro f w3 hG c d;have hE:Ext w2 w3:=hG;have:=tE c 0 2 rfl rfl rfl;exact Xg8
    .intro f w3 hG c d;have hE:Ext w2 w3:=hG;have:=tE c 0 4 rfl rfl rfl;exact UT9
    .intro f w3 hG c d;have hE:Ext w2 w3:=hG;have hS:=hE.size;have X:=tE c 0 3 rfl rfl rfl;have Y:=tE c 1 5 rfl rfl rfl;change kM _ _ _ f w3 Ext _;refine oC #[f 3,f 5] func159 rfl rfl ?_;rw[X,Y];refine(yQ _ _ n m _ (z.ext (j.trans hE)) (A.ext (j.trans hE)) T).mono ?_;exact EL7
    .intro f w3 hG c d;have hE:Ext w2 w3:=hG;have hS:=hE.size;have Z:=tE c 0 1 rfl rfl rfl;have a0:=kO c 1 6 rfl rfl (λ_=>hE);change kM _ _ _ f w3 Ext _;refine oC #[f 1,f 6] func118 rfl rfl ?_;rw[Z];refine(pZ _ _ _ _ (a0.isC.isN lK (aE (lN lK (show n - m<=n by omega)) (by unfold sz at t;rw[mR];omega)))).mono ?_;exact EL7
    .intro f w3 hG c d;have hE:Ext w2 w3:=hG;have hS:=hE.size;have a1:=kO c 0 7 rfl rfl (λ_=>hE);intro hg0;change kM _ _ _ f w3 (Chg _) _;obtain⟨s',hv,hn⟩:=a1;exact AE8
   .intro f w3 hG c;obtain⟨F,r,g⟩:∃i,Bx 61 w3 (w.heap.size+2) i/\(mI (sgn b (n - m)):PP w2).p (.agg i) w3:=sP c 8 de;clear c;have hz1:=g.mono (show w.heap.size<=_ by omega);obtain⟨s',hv,hn⟩:=g
    cases hv
    go_wp2;refine l8 4 61 (w.heap.size+2) 61 _ _ kr rfl r underlying61 rfl kr rfl ?_;rw[show sgn b n+sgn (!b) m=sgn b (n - m)by cases b<;>simp [sgn]<;>omega]
    exact⟨_,rfl,hz1,j.stepS hG sm⟩
  .have V:¬0<=o6 n m:=by unfold o6;rw[if_pos U];omega
   go_wp2_with fail;refine wpP [⟨8,(w.heap.size+2),61,mI (sgn (!b) (m - n))⟩] [kL ((w.heap.size+1),0),kL (.bool !b),kL ((w.heap.size+1),1),(l),(w,1),(k),nS 3 .i64 TK (m - n),mI (sgn (!b) (m - n)),kP] [] [8,7,6,5,4,3,2,1,0] ?_ ?_ ?_ ?_ ?_
   .exact Wx3
   .exact DL8
   .exact sz1
   .refine⟨oL,?_,oL,?_,oL,?_,?_,?_,?_,trivial⟩
    .intro f w3 hG c d;have hE:Ext w2 w3:=hG;have:=tE c 0 0 rfl rfl rfl;have hcell:=(B2.ext hE).cell 0;exact DG6
    .intro f w3 hG c d;have hE:Ext w2 w3:=hG;have:=tE c 0 2 rfl rfl rfl;exact UT9
    .intro f w3 hG c d;have hE:Ext w2 w3:=hG;have:=tE c 0 4 rfl rfl rfl;exact Xg8
    .intro f w3 hG c d;have hE:Ext w2 w3:=hG;have hS:=hE.size;have a2:=tE c 0 3 rfl rfl rfl;have a3:=tE c 1 5 rfl rfl rfl;change kM _ _ _ f w3 Ext _;refine oC #[f 3,f 5] func159 rfl rfl ?_;rw[a2,a3];refine(yQ _ _ m n _ (A.ext (j.trans hE)) (z.ext (j.trans hE)) om).mono ?_;exact EL7
    .intro f w3 hG c d;have hE:Ext w2 w3:=hG;have hS:=hE.size;have a4:=tE c 0 1 rfl rfl rfl;have a5:=kO c 1 6 rfl rfl (λ_=>hE);change kM _ _ _ f w3 Ext _;refine oC #[f 1,f 6] func118 rfl rfl ?_;rw[a4];refine(pZ _ _ _ _ (a5.isC.isN lK (aE (lN lK (show m - n<=m by omega)) (by unfold sz at u;rw[mR];omega)))).mono ?_;exact EL7
    .intro f w3 hG c d;have hE:Ext w2 w3:=hG;have hS:=hE.size;have a6:=kO c 0 7 rfl rfl (λ_=>hE);intro hg0;change kM _ _ _ f w3 (Chg _) _;obtain⟨s',hv,hn⟩:=a6;exact AE8
   .intro f w3 hG c;obtain⟨F,r,g⟩:∃i,Bx 61 w3 (w.heap.size+2) i/\(mI (sgn (!b) (m - n)):PP w2).p (.agg i) w3:=sP c 8 de;clear c;have hz1:=g.mono (show w.heap.size<=_ by omega);obtain⟨s',hv,hn⟩:=g
    cases hv
    go_wp2;refine l8 4 61 (w.heap.size+2) 61 _ _ kr rfl r underlying61 rfl kr rfl ?_;rw[show sgn b n+sgn (!b) m=sgn (!b) (m - n)by cases b<;>simp [sgn]<;>omega]
    exact⟨_,rfl,hz1,j.stepS hG sm⟩
theorem QG(v g:Value)(x y:Int)(w:World)(hv:CZ w v x)(i:CZ w g y)(j:szT x<=68719476736)(k:szT y<=68719476736):
  Calls prog 116 #[v,g] w λe w'=>∃v',e= .returned v'/\uT w w' v' (x*y)/\Ext w w':=by
 obtain⟨b,l,n,rfl,t,rfl⟩:=hv.parts;obtain⟨c,m,d,rfl,u,rfl⟩:=i.parts;rw[FR]at j k;clear hv i;have z:=t.isN lK lq;have A:=u.isN lK lq;go_enter func116,ntmps116;go_wp2_with fail;obtain⟨w1,q,e1,b1,b2,b3,_⟩:=qI w #[b,l] #[c,m] #[false,()] 61 61 61;rw[<-q];clear q;refine wpP [⟨11,(w.heap.size+2),61,mI (sgn (b !=c) (n*d))⟩] [(w,0),b,kL ((w.heap.size+1),0),c,kL (.bool (b !=c)),(w,1),(l),kL ((w.heap.size+1),1),(m),nS 3 .i64 TK (n*d),mI (sgn (b !=c) (n*d)),kP] [] [11,10,9,8,7,6,5,4,3,2,1,0] ?_ ?_ ?_ ?_ ?_
 .exact IP7
 .exact DL8
 .exact sz1
 .refine⟨oL,?_,oL,?_,oL,oL,?_,oL,?_,?_,?_,?_,trivial⟩
  .exact tv6
  .exact Ac8
  .exact Xz0
  .exact GJ0
  .intro f w2 hG hp hl;have hE:Ext w1 w2:=hG;have hS:=hE.size;have C:=tE hp 0 6 rfl rfl rfl;have D:=tE hp 1 8 rfl rfl rfl;change kM _ _ _ f w2 Ext _;refine oC #[f 6,f 8] func133 rfl rfl ?_;rw[C,D];refine(rY _ _ n d _ (z.ext (e1.trans hE)) (A.ext (e1.trans hE))).mono ?_;exact EL7
  .intro f w2 hG hp hl;have hE:Ext w1 w2:=hG;have hS:=hE.size;have E:=tE hp 0 4 rfl rfl rfl;have F:=kO hp 1 9 rfl rfl (λ_=>hE);change kM _ _ _ f w2 Ext _;refine oC #[f 4,f 9] func118 rfl rfl ?_;rw[E];refine(pZ _ _ _ _ (F.isC.isN lK (aE (qK lK n d) (by unfold sz at j k;rw[mR];omega)))).mono ?_;exact EL7
  .intro f w2 hG hp hl;have hE:Ext w1 w2:=hG;have hS:=hE.size;have I:=kO hp 0 10 rfl rfl (λ_=>hE);intro hg0;change kM _ _ _ f w2 (Chg _) _;obtain⟨s',hv,hn⟩:=I;exact Op6
 .intro f w2 hG hp;obtain⟨_,J,r⟩:∃s,Bx 61 w2 (w.heap.size+2) s/\(mI (sgn (b !=c) (n*d)):PP w1).p (.agg s) w2:=sP hp 11 de;clear hp;have hz1:=r.mono (show w.heap.size<=_ by omega);obtain⟨s',hv,hn⟩:=r
  cases hv
  go_wp2;refine l8 4 61 (w.heap.size+2) 61 _ _ kr rfl J underlying61 rfl kr rfl ?_;rw[<-UF];exact Ku6
theorem QI(v i:Value)(x y:Int)(w:World)(hv:CZ w v x)(g:CZ w i y)(u:szT x<=68719476736)(j:szT y<=68719476736):
  Calls prog 132 #[v,i] w λe w'=>∃v',e= .returned v'/\uT w w' v' (x - y)/\Ext w w':=by
 have z:=a8 hv;have A:=a8 g;obtain⟨k,l,n,rfl, -, -⟩:=hv.parts;obtain⟨m,q,_,rfl, -, -⟩:=g.parts;clear hv g;go_enter func132,ntmps132;go_wp2_with fail;obtain⟨w1,r,e1,C,D,b3,_⟩:=qI w #[k,l] #[m,q] #[false,()] 61 61 61;rw[<-r];clear r;refine wpP [⟨4,(w.heap.size+2),61,mI (x+ -y)⟩] [kL (.agg #[k,l]),kL (.agg #[m,q]),mI (-y),mI (x+ -y),kP] [] [4,3,2,1,0] ?_ ?_ ?_ ?_ ?_
 .exact IP7
 .exact DL8
 .exact sz1
 .refine⟨?_,?_,?_,?_,?_,trivial⟩
  .intro f w2 hG c d;have b:Ext w1 w2:=hG;change kM _ _ _ f w2 Ext _;exact kZ (P:=prog) _ _ w _ _ _ rfl rfl rfl (C.ext b) underlying61 rfl kr rfl
  .intro f w2 hG c d;have b:Ext w1 w2:=hG;change kM _ _ _ f w2 Ext _;exact kZ (P:=prog) _ _ (w.heap.size+1) _ _ _ rfl rfl rfl (D.ext b) underlying61 rfl kr rfl
  .intro f w2 hG c d;have b:Ext w1 w2:=hG;have hS:=b.size;have E:=tE c 0 1 rfl rfl rfl;change kM _ _ _ f w2 Ext _;refine oC #[f 1] func184 rfl rfl ?_;rw[E];refine(QH _ y _ (A.out.ext (e1.trans b)) j).mono ?_;exact EL7
  .intro f w2 hG c d;have b:Ext w1 w2:=hG;have hS:=b.size;have F:=tE c 0 0 rfl rfl rfl;have I:=kO c 1 2 rfl rfl (λ_=>b);change kM _ _ _ f w2 Ext _;refine oC #[f 0,f 2] func183 rfl rfl ?_;rw[F];refine(F7 _ _ x (-y) _ (z.out.ext (e1.trans b)) I.cz u (by rw[ab9];exact j)).mono ?_;exact EL7
  .intro f w2 hG c d;have b:Ext w1 w2:=hG;have hS:=b.size;have J:=kO c 0 3 rfl rfl (λ_=>b);intro hg0;change kM _ _ _ f w2 (Chg _) _;obtain⟨s',hv,hn⟩:=J;exact Op6
 .intro f w2 hG c;obtain⟨_,K,s⟩:∃t,Bx 61 w2 (w.heap.size+2) t/\(mI (x+ -y):PP w1).p (.agg t) w2:=sP c 4 de;clear c;have hz1:=s.mono (show w.heap.size<=_ by omega);obtain⟨s',hv,hn⟩:=s
  cases hv
  go_wp2;refine l8 4 61 (w.heap.size+2) 61 _ _ kr rfl K underlying61 rfl kr rfl ?_;rw[iI];exact Ku6
theorem QF(v h:Value)(b c:Int)(w:World)(d:CZ w v b)(g:CZ w h c)(p:szT b<=68719476736)(q:szT c<=68719476736):
  Calls prog 76 #[v,h] w λe w'=>e= .returned (.int .i64 (b - c).sign)/\Ext w w':=by
 have r:=a8 d;have s:=a8 g;obtain⟨t,u,n,rfl, -, -⟩:=d.parts;obtain⟨x,y,_,rfl, -, -⟩:=g.parts;clear d g;go_enter func76,ntmps76;obtain⟨_,i,e1,z,A,_⟩:=lZ w #[t,u] #[x,y] 61 61;obtain⟨j,k,-⟩:=z.cl [0,1];obtain⟨l,m,-⟩:=A.cl [0,1];rw[i]at j k l m;go_wp2_with fail;rw[<-i];clear j k l m;refine(QI _ _ b c _ (r.out.ext e1) (s.out.ext e1) p q).mono ?_;rintro e _ ⟨_,rfl,C,e2⟩;go_wp2_with fail;refine(DB _ _ _ C.cz).mono ?_;exact bP8
def QK(w:World)(v:Value)(b:Bool)(xs:List Nat):Prop:=∃s,v= .agg #[b,s]/\IsL .u64 w s xs
theorem QK.ext{w w':World}{v:Value}(h:QK w v t c)(he:Ext w w'):QK w' v t c:=by
 exact dj8
theorem NH(v i:Value)(b c:Bool)(d g:List Nat)(w:World)(r:QK w v b d)(s:QK w i c g):
  Calls prog 71 #[v,i] w λe w'=>e= .returned (.bool (decide (b=c/\d=g)))/\Ext w w':=by
 obtain⟨t,rfl,u⟩:=r;obtain⟨x,rfl,y⟩:=s;go_enter func71,ntmps71;obtain⟨_,j,h,z,A,_⟩:=lZ w #[b,t] #[c,x] 35 35;obtain⟨k,l,-⟩:=z.cl [0,1];obtain⟨m,p,-⟩:=A.cl [0,1];rw[j]at k l m p;by_cases q:b=c
 .subst q;have C:(b==b)=true:=by cases b<;>rfl
  go_wp2_with fail;rw[<-j];clear k l m p;refine(EZ _ _ d g _ (u.ext h) (y.ext h)).mono ?_;rintro e _ ⟨rfl,D⟩;go_wp2;go_ret;exact⟨sm,h.trans D⟩
 .have C:(b==c)=false:=by cases b<;>cases c<;>simp_all
  go_wp2;go_ret;exact⟨by simp[q],((Ext.refl w).alloc _).alloc _⟩
def CQ(w:World)(v:Value)(q:Rat):Prop:=∃s t,v= .agg #[.bool (decide (q.num<0)),s,t]/\IsC .i64 TK w s q.num.natAbs/\IsC .i64 TK w t q.den
def qO(B0:Nat)(w:World)(v:Value)(q:Rat):Prop:=∃s t,v= .agg #[.bool (decide (q.num<0)),s,t]/\FrN 3 .i64 TK B0 w s q.num.natAbs/\FrN 3 .i64 TK B0 w t q.den
def szD(q:Rat):Nat:=max (szT q.num) (sz TK q.den)
theorem CQ.ext{w w':World}{v:Value}(h:CQ w v k)(he:Ext w w'):CQ w' v k:=by
 exact QA3
theorem qO.ext{w w':World}{v:Value}(h:qO b w v k)(he:Ext w w'):qO b w' v k:=by
 exact QA3
theorem qO.chg{w w':World}{v:Value}(h:qO b w v k)(he:Chg g w w')(hg:g<b):qO b w' v k:=by
 exact Bj4
theorem qO.mono{w:World}{v:Value}(h:qO b w v k)(hB:d<=b):qO d w v k:=by
 exact xT3
theorem qO.cq{w:World}{v:Value}(c:qO b w v k):CQ w v k:=by
 obtain⟨d,g,h,i,j⟩:=c;exact⟨d,g,h,i.isC,j.isC⟩
def sZ{S:Nat}(q:Rat):PP S:=⟨false,λu w=>qO S w u q,λ_ _ _ h hp=>hp.ext h,λ_ _ hg _ _ _ h hp=>hp.chg h hg⟩
def AE{S:Nat}(q:Rat)(k:Nat):PP S:=⟨false,λu w=>qO S w u q/\szD q<=k,λ_ _ _ h hp=>⟨hp.1.ext h,hp.2⟩,λ_ _ hg _ _ _ h hp=>⟨hp.1.chg h hg,hp.2⟩⟩
theorem LJ(n:Int)(b:Nat)(c:0<b):szT (mkRat n b).num<=szT n/\sz TK (mkRat n b).den<=sz TK b:=by
 rw[jU,jT,if_neg om,if_neg om];constructor
 .unfold szT;exact lN lK (gQ _ _)
 .exact lN lK (fR _ _)
theorem AY(c:Bool)(A C:Value)(n b:Nat)(w:World)(l:IsC .i64 TK w A n)(D:IsN .i64 TK w C b)(m:0<b)(T:sz TK n<=68719476736)(E:sz TK b<=68719476736):
  Calls prog 64 #[.agg #[c,A],C] w λe w'=>∃F,e= .returned F/\qO w w' F (mkRat (sgn c n) b)/\Ext w w':=by
 have p:=a8 (MX c n b m);have I:=l.isN lK lq;obtain⟨J,K,rfl⟩:=l.slice;have L:= @xT n;clear l;go_enter func64,ntmps64;obtain⟨_,q,h,j,U,_⟩:=lZ w #[c,(J,sz TK n,K)] #[false,(),()] 61 63;have k:=j.cell 1;rw[q]at k;rcases aR n with r |r
 .subst r;have M:sz TK 0=0:=rfl;rw[M]at k j q ⊢;go_wp2;obtain⟨V,X,d,_,Y,Z,_⟩:=qI w #[c,(J,0,K)] #[false,(),(w.heap.size+1+1,1,1)] #[(1:Int)] 61 63 3;rw[<-X];have a0:mkRat (sgn c 0) b=0:=by cases c<;>simp [sgn]
  rw[a0];refine l8 4 63 (w.heap.size+1) 63 _ _ kr rfl Y underlying63 rfl kr rfl ?_;refine⟨_,rfl,⟨(),(w.heap.size+1+1,1,1),by first |rfl |simp,⟨none,0,rfl,by simp[FK],om,.inl ⟨rfl,rfl,rfl⟩⟩,?_⟩,d⟩;unfold FrN;rw[Rat.zero_den,O3 lK om (by rw[nB];omega)];exact⟨_,1,rfl,lr,om,.inr ⟨w.heap.size+1+1,_,rfl,om,Z,rfl,rfl⟩⟩
 .have M:¬sz TK n=0:=λe=>by have:=L.1 e;omega
  clear L;go_wp2_with fail;rw[<-q];clear k;refine(MR _ _ n b _ (I.ext h) (D.ext h) T E).mono ?_;rintro e _ ⟨_,rfl,a1,g⟩;have s:0<Nat.gcd n b:=iR _ m;have N:sz TK (Nat.gcd n b)<=68719476736:=aE (lN lK (iS m (kH n b))) E;have t:=a1.isC.isN lK lq;have k:=(j.ext g).cell 1;go_wp2_with fail;refine(uH _ _ n (Nat.gcd n b) _ (I.ext (h.trans g)) t s N).mono ?_;rintro e V ⟨_,_,rfl,u,_,d⟩;go_wp2_with fail;refine(uH _ _ b (Nat.gcd n b) _ (D.ext ((h.trans g).trans d)) (t.ext d) s N).mono ?_;rintro e a2 ⟨_,_,rfl,x,_,i⟩;obtain⟨O,Q,rfl⟩:=u.slice;obtain⟨R,S,rfl⟩:=x.slice;have a3:=a8 (u.ext i);have a4:=a8 x;have y:=((U.ext g).ext d).ext i;have a7:=(((j.ext g).ext d).ext i).cell 0;clear u x t;have a9:=g.size;have b0:=d.size;have b1:=i.size;obtain⟨_,_,_,-⟩:=y.cl [0,1,2];obtain⟨_,_,_,-⟩:=y.fl [0,1,2];go_wp2;refine l8 4 63 (w.heap.size+1) 63 _ _ kr rfl (((y.set 0 _).set 1 _).set 2 _) underlying63 rfl kr rfl ?_;have a5:0<n / Nat.gcd n b:=Nat.div_pos (iS r (iU n b)) s;have a6:decide ((mkRat (sgn c n) b).num<0)=c:=by
   rw[p.out.1];have:=yR c (n / Nat.gcd n b)
   cases c
   .exact decide_eq_false (by rw[this];simp)
   .exact decide_eq_true (by rw[this];exact⟨rfl,a5⟩)
  have z:=(Chg.trans (Chg.trans (Chg.setCell a2 (w.heap.size+1) 0 c) (Chg.setCell _ (w.heap.size+1) 1 (O,sz TK (n / Nat.gcd n b),Q))) (Chg.setCell _ (w.heap.size+1) 2 (R,sz TK (b / Nat.gcd n b),S)));refine⟨_,rfl,⟨(O,sz TK (n / Nat.gcd n b),Q),(R,sz TK (b / Nat.gcd n b),S),?_,?_,?_⟩,(((h.trans g).trans d).trans i).step z om⟩
  .rw[a6];rfl
  .rw[p.out.1,n8];exact(a3.out.chg z om).mono om
  .rw[p.out.2];exact(a4.out.chg z om).mono om
theorem sB(v c:Value)(d:Int)(b:Nat)(w:World)(g:CZ w v d)(m:IsC .i64 TK w c b)(q:szT d<=68719476736)(r:sz TK b<=68719476736):
  Calls prog 63 #[v,c] w λe w'=>∃h,e= .returned h/\uT w w' h (d*b)/\Ext w w':=by
 have s:=a8 g;obtain⟨t,u,n,rfl, -, -⟩:=g.parts;have x:CZ w (.agg #[false,c]) (b:Int):=⟨c,by rw[decide_eq_false om],m⟩;obtain⟨_,_,rfl⟩:=m.slice;clear g;go_enter func63,ntmps63;obtain⟨_,p,e1,y,z,_⟩:=lZ w #[t,u] #[false,()] 61 61;obtain⟨i,j,-⟩:=y.cl [0,1];rw[p]at i j;go_wp2_with fail;rw[<-p];clear i j;refine(QG _ _ d (b:Int) _ (s.out.ext e1) (x.ext e1) q r).mono ?_;rintro e _ ⟨h,rfl,A,hext⟩;obtain⟨_,rfl,k⟩:=A;obtain⟨_,_,rfl⟩:=k.slice;have Hn:=a8 k;clear k;have l:=z.ext hext;obtain⟨i,j,-⟩:=l.cl [0,1];obtain⟨_,_,-⟩:=l.fl [0,1];go_wp2;refine l8 4 61 (w.heap.size+1) 61 _ _ kr rfl ((l.set 0 _).set 1 _) underlying61 rfl kr rfl ?_;exact eL6
theorem tJ(v c:Value)(d:Int)(b:Nat)(w:World)(i:CZ w v d)(j:IsN .i64 TK w c b)(k:0<b)(g:szT d<=68719476736)(l:sz TK b<=68719476736):
  Calls prog 64 #[v,c] w λe w'=>∃h,e= .returned h/\qO w w' h (mkRat d b)/\Ext w w':=by
 obtain⟨m,p,n,rfl,q,rfl⟩:=i.parts;rw[FR]at g;exact AY m p c n b w q j k g l
theorem C1(c:szD k<=b):szT k.num<=b/\sz TK k.den<=b:=by unfold szD at c;omega
theorem uI(v:Value)(b:Rat)(w:World)(hv:CQ w v b)(l:szD b<=68719476736):
  Calls prog 19 #[v] w λe w'=>∃v',e= .returned v'/\FrQ w w' v' b/\Ext w w':=by
 obtain⟨c,d,rfl,m,q⟩:=hv;have g:=C1 l;have r:CZ w (.agg #[.bool (decide (b.num<0)),c]) b.num:=⟨c,rfl,m⟩;go_enter func19,ntmps19;go_wp2_with fail;obtain⟨w1,i,e1,b1,b2,_⟩:=lZ w #[.bool (decide (b.num<0)),c,d] #[false,(),()] 63 37;rw[<-i];clear i;refine wpP [⟨7,(w.heap.size+1),37,nC b⟩] [(w,0),kL (.agg #[.bool (decide (b.num<0)),c]),lJ b.num,(w,2),(d),nS 165 .u64 W b.den,nC b,kP] [] [7,6,5,4,3,2,1,0] ?_ ?_ ?_ ?_ ?_
 .exact UZ7
 .exact DL8
 .exact sz1
 .refine⟨oL,?_,?_,oL,?_,?_,?_,?_,trivial⟩
  .exact uW4
  .intro f w2 hG hp hl;have hE:Ext w1 w2:=hG;have hS:=hE.size;have s:=tE hp 0 1 rfl rfl rfl;change kM _ _ _ f w2 Ext _;refine oC #[f 1] func60 rfl rfl ?_;rw[s];refine(SR _ b.num _ (r.ext (e1.trans hE)) g.1).mono ?_;exact EL7
  .intro f w2 hG hp hl;have hE:Ext w1 w2:=hG;have:=tE hp 0 3 rfl rfl rfl;exact OZ6
  .intro f w2 hG hp hl;have hE:Ext w1 w2:=hG;have hS:=hE.size;have t:=tE hp 0 4 rfl rfl rfl;change kM _ _ _ f w2 Ext _;refine oC #[f 4] func61 rfl rfl ?_;rw[t];refine(F0 _ b.den _ ((q.isN lK lq).ext (e1.trans hE)) g.2).mono ?_;exact EL7
  .intro f w2 hG hp hl;have hE:Ext w1 w2:=hG;have u:=kO hp 0 2 rfl rfl (λ_=>hE);have j:=kO hp 1 5 rfl rfl (λ_=>hE);obtain⟨s',hv,hn⟩:=u;obtain⟨_,_,rfl⟩:=hn.slice;obtain⟨_,_,z⟩:=FrN.slice j;simp only[kM];go_simp;exact⟨_,rfl,rE,_,_,rfl,hn,z▸j⟩
  .intro f w2 hG hp hl;have hE:Ext w1 w2:=hG;have hS:=hE.size;have A:=kO hp 0 6 rfl rfl (λ_=>hE);intro hg0;change kM _ _ _ f w2 (Chg _) _;obtain⟨s',t',hv,hn,hm⟩:=A;exact jj3
 .intro f w2 hG hp;obtain⟨_,hbx0,hz0⟩:∃k,Bx 37 w2 (w.heap.size+1) k/\(nC b:PP w1).p (.agg k) w2:=sP hp 7 de;exact XL2
theorem JM(v:Value)(b:Rat)(w:World)(g:CQ w v b):
  Calls prog 81 #[v] w λe w'=>e= .returned b.num.sign/\Ext w w':=by
 obtain⟨c,h,rfl,i,_⟩:=g;have j:CZ w (.agg #[.bool (decide (b.num<0)),c]) b.num:=⟨c,rfl,i⟩;go_enter func81,ntmps81;obtain⟨_,d,e1,k,_⟩:=kR w #[.bool (decide (b.num<0)),c,h] 63;obtain⟨l,m,p,-⟩:=k.cl [0,1,2];rw[d]at l m p;go_wp2_with fail;rw[<-d];refine(DB _ b.num _ (j.ext e1)).mono ?_;exact fD9
theorem PG(v:Value)(n:Int)(j:Nat)(w:World)(K:IsQ w v n j)(s:szT n<=68719476736)(k:sz TK j<=68719476736):
  Calls prog 34 #[v] w λe w'=>∃L,e= .returned L/\qO w w' L (mkRat n j)/\Ext w w':=by
 have M:=K.pos;obtain⟨N,O,Q,_,d0,rfl,Z,d,a0,l⟩:=K;have R:=a8 (show IsZ w (.agg #[N,O]) n from⟨_,_,_,rfl,Z,d⟩);clear d;have S:sz TK d0<=68719476736:=by
  rw[l]at k;split at k
  .rename_i a1;rw[a1];exact zl
  .exact k
 have y:= @xT d0;go_enter func34,ntmps34;obtain⟨_,T,g,t,U,_⟩:=lZ w #[N,O,Q] #[false,(),()] 37 63;have u:=t.cell 2;rw[T]at u;go_wp2_with fail;rw[<-T];clear u;refine(EY Q d0 _ (a0.ext g) S).mono ?_;rintro e V ⟨_,rfl,z,b⟩;obtain⟨_,_,rfl⟩:=z.slice;obtain⟨m,p,-⟩:=(t.ext b).cl [0,1];rcases aR d0 with X |X
 .subst X;have A:sz TK 0=0:=rfl;have C:j=1:=by rw[l];rfl
  subst C;rw[A]at z ⊢;clear l y A S m p;obtain⟨_,D,q,_,_⟩:=kR V #[(1:Int)] 3;have Y:=AI (k:= .i64) (B:=TK) V 1 3 (by rw[nB];omega);rw[show ((1:Nat):Int)=1 from rfl,<-D]at Y;obtain⟨m,p,x,-⟩:=((t.ext b).ext q).cl [0,1,2];rw[D]at m p x;go_wp2_with fail;rw[<-D];refine(J6 _ n _ (R.out.ext ((g.trans b).trans q)) s).mono ?_;rintro e a2 ⟨a3,rfl,E,c⟩;go_wp2_with fail;refine(tJ _ _ n 1 _ E.cz (Y.ext c) M s k).mono ?_;rintro e a4 ⟨a5,rfl,F,r⟩;have a6:=b.size;have a7:=c.size;have a9:=(((g.trans b).trans q).trans c).size;obtain⟨b0,b1,rfl,d,h⟩:=F;obtain⟨b2,b3,rfl⟩:=d.slice;obtain⟨b4,b5,rfl⟩:=h.slice;have I:=a8 d;have J:=a8 h;clear d h m p x;have i:=(((U.ext b).ext q).ext c).ext r;obtain⟨b6,b7,u,-⟩:=i.cl [0,1,2];obtain⟨b8,b9,bA,-⟩:=i.fl [0,1,2];go_wp2;refine l8 2 63 (w.heap.size+1) 63 _ _ kr rfl (((i.set 0 _).set 1 _).set 2 _) underlying63 rfl kr rfl ?_;exact⟨_,rfl,⟨_,_,rfl,(I.out.chg (Chg.trans (Chg.trans (Chg.setCell _ (w.heap.size+1) 0 _) (Chg.setCell _ (w.heap.size+1) 1 _)) (Chg.setCell _ (w.heap.size+1) 2 _)) om).mono om,(J.out.chg (Chg.trans (Chg.trans (Chg.setCell _ (w.heap.size+1) 0 _) (Chg.setCell _ (w.heap.size+1) 1 _)) (Chg.setCell _ (w.heap.size+1) 2 _)) om).mono om⟩,((((g.trans b).trans q).trans c).trans r).step (Chg.trans (Chg.trans (Chg.setCell _ (w.heap.size+1) 0 _) (Chg.setCell _ (w.heap.size+1) 1 _)) (Chg.setCell _ (w.heap.size+1) 2 _)) om⟩
 .have A:¬sz TK d0=0:=λe=>by have:=y.1 e;omega
  have C:j=d0:=by rw[l,if_neg om]
  subst C;have bB:=z.isC.isN lK lq;clear y l;have x:=(t.ext b).cell 2;go_wp2_with fail;refine(J6 _ n _ (R.out.ext (g.trans b)) s).mono ?_;rintro e a2 ⟨a3,rfl,E,c⟩;go_wp2_with fail;refine(tJ _ _ n j _ E.cz (bB.ext c) M s k).mono ?_;rintro e a4 ⟨a5,rfl,F,r⟩;have a6:=b.size;have a7:=c.size;have a9:=((g.trans b).trans c).size;obtain⟨b0,b1,rfl,d,h⟩:=F;obtain⟨b2,b3,rfl⟩:=d.slice;obtain⟨b4,b5,rfl⟩:=h.slice;have I:=a8 d;have J:=a8 h;clear d h m p x;have i:=((U.ext b).ext c).ext r;obtain⟨b6,b7,u,-⟩:=i.cl [0,1,2];obtain⟨b8,b9,bA,-⟩:=i.fl [0,1,2];go_wp2;refine l8 2 63 (w.heap.size+1) 63 _ _ kr rfl (((i.set 0 _).set 1 _).set 2 _) underlying63 rfl kr rfl ?_;exact⟨_,rfl,⟨_,_,rfl,(I.out.chg (Chg.trans (Chg.trans (Chg.setCell _ (w.heap.size+1) 0 _) (Chg.setCell _ (w.heap.size+1) 1 _)) (Chg.setCell _ (w.heap.size+1) 2 _)) om).mono om,(J.out.chg (Chg.trans (Chg.trans (Chg.setCell _ (w.heap.size+1) 0 _) (Chg.setCell _ (w.heap.size+1) 1 _)) (Chg.setCell _ (w.heap.size+1) 2 _)) om).mono om⟩,(((g.trans b).trans c).trans r).step (Chg.trans (Chg.trans (Chg.setCell _ (w.heap.size+1) 0 _) (Chg.setCell _ (w.heap.size+1) 1 _)) (Chg.setCell _ (w.heap.size+1) 2 _)) om⟩
theorem JL(v s:Value)(h c:Int)(w:World)(t:CZ w v h)(u:CZ w s c)(x:c≠0)(y:szT h<=68719476736)(z:szT c<=68719476736):
  Calls prog 62 #[v,s] w λe w'=>∃A,e= .returned A/\qO w w' A (Rat.divInt h c)/\Ext w w':=by
 obtain⟨i,_,n,rfl,j,rfl⟩:=t.parts;obtain⟨d,I,g,rfl,J,rfl⟩:=u.parts;rw[FR]at y z;clear t u;have b:0<g:=by
  rcases aR g with k |k
  .subst k;exact absurd (by cases d<;>rfl) x
  .exact k
 have K:=a8 (MH i d n g b);have L:=J.isN lK lq;obtain⟨M,N,rfl⟩:=j.slice;have O:=a8 j;clear j x;go_enter func62,ntmps62;obtain⟨_,C,l,Q,R,S,_⟩:=qI w #[i,(M,sz TK n,N)] #[d,I] #[false,(),()] 61 61 63;obtain⟨m,p,-⟩:=Q.cl [0,1];obtain⟨D,E,-⟩:=R.cl [0,1];rw[C]at m p D E;go_wp2_with fail;rw[<-C];clear m p D E;refine(AY (i !=d) _ _ n g _ (O.out.ext l) (L.ext l) b y z).mono ?_;rw[K.out];rintro e _ ⟨_,rfl,T,F⟩;obtain⟨_,_,rfl,q,b⟩:=T;obtain⟨_,_,rfl⟩:=q.slice;obtain⟨_,_,rfl⟩:=b.slice;have U:=a8 q;have V:=a8 b;clear q b;have r:=S.ext F;obtain⟨m,p,_,-⟩:=r.cl [0,1,2];obtain⟨_,_,_,-⟩:=r.fl [0,1,2];go_wp2;refine l8 4 63 (w.heap.size+2) 63 _ _ kr rfl (((r.set 0 _).set 1 _).set 2 _) underlying63 rfl kr rfl ?_;exact⟨_,rfl,⟨_,_,rfl,(U.out.chg (Chg.trans (Chg.trans (Chg.setCell _ (w.heap.size+2) 0 _) (Chg.setCell _ (w.heap.size+2) 1 _)) (Chg.setCell _ (w.heap.size+2) 2 _)) om).mono om,(V.out.chg (Chg.trans (Chg.trans (Chg.setCell _ (w.heap.size+2) 0 _) (Chg.setCell _ (w.heap.size+2) 1 _)) (Chg.setCell _ (w.heap.size+2) 2 _)) om).mono om⟩,(l.trans F).step (Chg.trans (Chg.trans (Chg.setCell _ (w.heap.size+2) 0 _) (Chg.setCell _ (w.heap.size+2) 1 _)) (Chg.setCell _ (w.heap.size+2) 2 _)) om⟩
theorem MS(v l:Value)(x y:Rat)(b c:Nat)(w:World)(hv:CQ w v x)(t:CQ w l y)(hx:szD x<=b)(hy:szD y<=c)(R:b+c<=34359738000):
  Calls prog 135 #[v,l] w λe w'=>∃v',e= .returned v'/\qO w w' v' (x+y)/\szD (x+y)<=b+c+1/\Ext w w':=by
 obtain⟨d,i,rfl,u,tx'⟩:=hv;obtain⟨g,j,rfl,z,ty'⟩:=t;have:=C1 hx;have:=C1 hy;have zx:CZ w (.agg #[.bool (decide (x.num<0)),d]) x.num:=⟨d,rfl,u⟩;have zy:CZ w (.agg #[.bool (decide (y.num<0)),g]) y.num:=⟨g,rfl,z⟩;have:=AQ x.num y.den;have:=AQ y.num x.den;have:szT (x.den:Int)=sz TK x.den:=rfl;have:szT (y.den:Int)=sz TK y.den:=rfl;have:=ab8 (x.num*y.den) (y.num*x.den);have A:=qK lK x.den y.den;have m:=dW x.den_pos y.den_pos;have k:=Rat.add_def' x y;have:=LJ (x.num*y.den+y.num*x.den) (x.den*y.den) m;have:sz TK (x.den*y.den)<=sz TK x.den+sz TK y.den:=A;have C:=a8 (show szD (x+y)<=b+c+1 by rw[k];exact fH.2 ⟨om,om⟩);have D:=a8 k;clear k;go_enter func135,ntmps135;go_wp2_with fail;obtain⟨w1,q,e1,b1,b2,b3,_⟩:=qI w #[.bool (decide (x.num<0)),d,i] #[.bool (decide (y.num<0)),g,j] #[false,(),()] 63 63 63;rw[<-q];clear q;refine wpP [⟨17,(w.heap.size+2),63,sZ (mkRat (x.num*y.den+y.num*x.den) (x.den*y.den))⟩] [(w,0),kL (.agg #[.bool (decide (x.num<0)),d]),kL ((w.heap.size+1),2),(j),mI (x.num*y.den),kL ((w.heap.size+1),0),kL (.agg #[.bool (decide (y.num<0)),g]),(w,2),(i),mI (y.num*x.den),mI (x.num*y.den+y.num*x.den),(w,2),(i),kL ((w.heap.size+1),2),(j),nS 3 .i64 TK (x.den*y.den),sZ (mkRat (x.num*y.den+y.num*x.den) (x.den*y.den)),kP] [] [17,16,15,14,13,12,11,10,9,8,7,6,5,4,3,2,1,0] ?_ ?_ ?_ ?_ ?_
 .exact IP7
 .exact DL8
 .exact sz1
 .refine⟨oL,?_,oL,?_,?_,oL,?_,oL,?_,?_,?_,oL,?_,oL,?_,?_,?_,?_,trivial⟩
  .exact iH0
  .exact AX2
  .exact gf1
  .exact UA5
  .exact Qa5
  .exact MW0
  .intro f w2 hG hp hl;have hE:Ext w1 w2:=hG;have hS:=hE.size;have E:=kO hp 0 4 rfl rfl (λ_=>hE);have F:=kO hp 1 9 rfl rfl (λ_=>hE);change kM _ _ _ f w2 Ext _;refine oC #[f 4,f 9] func183 rfl rfl ?_;refine(F7 _ _ (x.num*y.den) (y.num*x.den) _ E.cz F.cz om om).mono ?_;exact EL7
  .intro f w2 hG hp hl;have hE:Ext w1 w2:=hG;have:=tE hp 0 11 rfl rfl rfl;exact OZ6
  .intro f w2 hG hp hl;have hE:Ext w1 w2:=hG;have:=tE hp 0 13 rfl rfl rfl;have hcell:=(b2.ext hE).cell 2;exact DG6
  .intro f w2 hG hp hl;have hE:Ext w1 w2:=hG;have hS:=hE.size;have I:=tE hp 0 12 rfl rfl rfl;have J:=tE hp 1 14 rfl rfl rfl;change kM _ _ _ f w2 Ext _;refine oC #[f 12,f 14] func133 rfl rfl ?_;rw[I,J];refine(rY _ _ x.den y.den _ ((tx'.isN lK lq).ext (e1.trans hE)) ((ty'.isN lK lq).ext (e1.trans hE))).mono ?_;exact EL7
  .intro f w2 hG hp hl;have hE:Ext w1 w2:=hG;have hS:=hE.size;have K:=kO hp 0 10 rfl rfl (λ_=>hE);have L:=kO hp 1 15 rfl rfl (λ_=>hE);change kM _ _ _ f w2 Ext _;refine oC #[f 10,f 15] func64 rfl rfl ?_;refine(tJ _ _ _ _ _ K.cz (L.isC.isN lK lq) m om om).mono ?_;exact EL7
  .intro f w2 hG hp hl;have hE:Ext w1 w2:=hG;have hS:=hE.size;have M:=kO hp 0 16 rfl rfl (λ_=>hE);intro hg0;change kM _ _ _ f w2 (Chg _) _;obtain⟨s',t',hv,hn,hm⟩:=M;exact We9
 .intro f w2 hG hp;obtain⟨_,N,r⟩:∃s,Bx 63 w2 (w.heap.size+2) s/\(sZ (mkRat (x.num*y.den+y.num*x.den) (x.den*y.den)):PP w1).p (.agg s) w2:=sP hp 17 de;clear hp;have O:=r.mono (show w.heap.size<=_ by omega);obtain⟨s',t',Q,_,_⟩:=r
  cases Q
  go_wp2;refine l8 4 63 (w.heap.size+2) 63 _ _ kr rfl N underlying63 rfl kr rfl ?_;refine⟨_,rfl,?_,C.out,e1.stepS hG sm⟩;rw[D.out];exact O
theorem MU(v g:Value)(x y:Rat)(i j:Nat)(w:World)(hv:CQ w v x)(s:CQ w g y)(t:y≠0)(hx:szD x<=i)(hy:szD y<=j)(L:i+j<=34359738000):
  Calls prog 20 #[v,g] w λe w'=>∃v',e= .returned v'/\qO w w' v' (x / y)/\Ext w w':=by
 obtain⟨b,k,rfl,u,tx'⟩:=hv;obtain⟨c,l,rfl,z,ty'⟩:=s;have:=C1 hx;have:=C1 hy;have zx:CZ w (.agg #[.bool (decide (x.num<0)),b]) x.num:=⟨b,rfl,u⟩;have zy:CZ w (.agg #[.bool (decide (y.num<0)),c]) y.num:=⟨c,rfl,z⟩;have:=AQ x.num y.den;have:=AQ y.num x.den;have:szT (x.den:Int)=sz TK x.den:=rfl;have:szT (y.den:Int)=sz TK y.den:=rfl;have A:y.num≠0:=λh=>t (iA.1 h)
 have:=x.den_pos;have C:y.num*(x.den:Int)≠0:=Int.mul_ne_zero A om;have d:=V9 x.num y.num x.den y.den;rw[eW,eW]at d;have D:=a8 d;clear d;go_enter func20,ntmps20;go_wp2_with fail;obtain⟨w1,m,e1,b1,b2,b3,_⟩:=qI w #[.bool (decide (x.num<0)),b,k] #[.bool (decide (y.num<0)),c,l] #[false,(),()] 63 63 63;rw[<-m];clear m;refine wpP [⟨11,(w.heap.size+2),63,sZ (Rat.divInt (x.num*y.den) (y.num*x.den))⟩] [(w,0),kL (.agg #[.bool (decide (x.num<0)),b]),kL ((w.heap.size+1),2),(l),mI (x.num*y.den),kL ((w.heap.size+1),0),kL (.agg #[.bool (decide (y.num<0)),c]),(w,2),(k),mI (y.num*x.den),sZ (Rat.divInt (x.num*y.den) (y.num*x.den)),kP] [] [11,10,9,8,7,6,5,4,3,2,1,0] ?_ ?_ ?_ ?_ ?_
 .exact IP7
 .exact DL8
 .exact sz1
 .refine⟨oL,?_,oL,?_,?_,oL,?_,oL,?_,?_,?_,?_,trivial⟩
  .exact iH0
  .exact AX2
  .exact gf1
  .exact UA5
  .exact Qa5
  .exact MW0
  .intro f w2 hG hp hl;have hE:Ext w1 w2:=hG;have hS:=hE.size;have E:=kO hp 0 4 rfl rfl (λ_=>hE);have F:=kO hp 1 9 rfl rfl (λ_=>hE);change kM _ _ _ f w2 Ext _;refine oC #[f 4,f 9] func62 rfl rfl ?_;refine(JL _ _ _ _ _ E.cz F.cz C om om).mono ?_;exact EL7
  .intro f w2 hG hp hl;have hE:Ext w1 w2:=hG;have hS:=hE.size;have I:=kO hp 0 10 rfl rfl (λ_=>hE);intro hg0;change kM _ _ _ f w2 (Chg _) _;obtain⟨s',t',hv,hn,hm⟩:=I;exact We9
 .intro f w2 hG hp;obtain⟨_,J,q⟩:∃r,Bx 63 w2 (w.heap.size+2) r/\(sZ (Rat.divInt (x.num*y.den) (y.num*x.den)):PP w1).p (.agg r) w2:=sP hp 11 de;clear hp;have hz1:=q.mono (show w.heap.size<=_ by omega);obtain⟨s',t',K,_,_⟩:=q
  cases K
  go_wp2;refine l8 4 63 (w.heap.size+2) 63 _ _ kr rfl J underlying63 rfl kr rfl ?_;rw[D.out];exact Ku6
theorem MT(v g:Value)(x y:Rat)(h i:Nat)(w:World)(m:CQ w v x)(p:CQ w g y)(q:szD x<=h)(r:szD y<=i)(F:h+i<=34359738000):
  Calls prog 33 #[v,g] w λe w'=>e= .returned (qP x y:Int)/\Ext w w':=by
 obtain⟨b,j,rfl,s,tx'⟩:=m;obtain⟨c,k,rfl,t,ty'⟩:=p;have:=C1 q;have:=C1 r;have zx:CZ w (.agg #[.bool (decide (x.num<0)),b]) x.num:=⟨b,rfl,s⟩;have zy:CZ w (.agg #[.bool (decide (y.num<0)),c]) y.num:=⟨c,rfl,t⟩;have:=AQ x.num y.den;have:=AQ y.num x.den;have:szT (x.den:Int)=sz TK x.den:=rfl;have:szT (y.den:Int)=sz TK y.den:=rfl;have d:=KH x.num y.num x.den y.den x.den_pos y.den_pos;rw[eW,eW]at d;have u:=a8 d;clear d;go_enter func33,ntmps33;go_wp2_with fail;obtain⟨w1,l,e1,b1,b2,_⟩:=lZ w #[.bool (decide (x.num<0)),b,j] #[.bool (decide (y.num<0)),c,k] 63 63;rw[<-l];clear l;refine wpQ [(w,0),kL (.agg #[.bool (decide (x.num<0)),b]),kL ((w.heap.size+1),2),(k),mI (x.num*y.den),kL ((w.heap.size+1),0),kL (.agg #[.bool (decide (y.num<0)),c]),(w,2),(j),mI (y.num*x.den),kL (.int .i64 (x.num*y.den - y.num*x.den).sign),kL (.int .i64 (x.num*y.den - y.num*x.den).sign)] [] [0,1,2,3,4,5,6,7,8,9,10,11] ?_ ?_
 .refine⟨oL,?_,oL,?_,?_,oL,?_,oL,?_,?_,?_,?_,trivial⟩
  .exact iH0
  .exact AX2
  .exact gf1
  .exact UA5
  .exact Qa5
  .exact MW0
  .intro f w2 hG hp hl;have hE:Ext w1 w2:=hG;have hS:=hE.size;have z:=kO hp 0 4 rfl rfl (λ_=>hE);have A:=kO hp 1 9 rfl rfl (λ_=>hE);change kM _ _ _ f w2 Ext _;refine oC #[f 4,f 9] func76 rfl rfl ?_;refine(QF _ _ _ _ _ z.cz A.cz om om).mono ?_;exact DR3
  .intro f w2 hG hp hl;have C:=tE hp 0 10 rfl rfl rfl;exact⟨_,rfl,rE,C⟩
 .intro f w2 hG hp;have hE:Ext w1 w2:=mV.nil hG;have D:f 11= .int .i64 (x.num*y.den - y.num*x.den).sign:=rM hp 11 de rfl (λE=>by cases E);try simp only[D]
  clear hp;go_wp2;go_ret;exact⟨by rw[u.out];rfl,e1.trans hE⟩
theorem m9{P:Program}{o:Oper}{a:Act}{f:Nat->Value}{w:World}{want:Bool}(b:o.guard=some (j,want))(c:f j=want)(d:kM P {o with guard:=none} a f w N X):kM P o a f w N X:=by
 cases o with
 |mk h i k pos l guard=>
  subst b;exact⟨λ_=>d,λg=>absurd c g⟩
def xH(w:World)(v:Value)(b:Bool)(xs ys:List Nat):Prop:=∃s t,v= .agg #[b,s,t]/\IsL .u64 w s xs/\IsL .u64 w t ys
theorem xH.ext{w w':World}{v:Value}{b:List Nat}(h:xH w v t c b)(he:Ext w w'):xH w' v t c b:=by
 exact QA3
theorem FrQ.raw{w:World}{v:Value}(c:FrQ b w v k):xH w v (decide (k.num<0)) (dg W k.num.natAbs) (dg W k.den):=by
 obtain⟨d,g,h,i,j⟩:=c;exact⟨d,g,h,i.isC,j.isC⟩
theorem Z1.raw(w:World):xH w Z1 false [] []:=⟨_,_,rfl,⟨none,0,rfl,lr,om,Rd.nil _ _⟩,⟨none,0,rfl,lr,om,Rd.nil _ _⟩⟩
theorem sK(v t:Value)(b c:Bool)(d k g l:List Nat)(w:World)(E:xH w v b d k)(F:xH w t c g l):
  Calls prog 24 #[v,t] w λe w'=>e= .returned (.bool (decide ((b=c/\d=g)/\k=l)))/\Ext w w':=by
 obtain⟨m,I,rfl,J,K⟩:=E;obtain⟨p,t2,rfl,L,M⟩:=F;have N:QK w (.agg #[b,m]) b d:=⟨m,rfl,J⟩;have O:QK w (.agg #[c,p]) c g:=⟨p,rfl,L⟩;go_enter func24,ntmps24;obtain⟨_,u,h,x,y,_⟩:=lZ w #[b,m,I] #[c,p,t2] 37 37;obtain⟨z,A,q,-⟩:=x.cl [0,1,2];obtain⟨C,D,r,-⟩:=y.cl [0,1,2];rw[u]at z A q C D r;go_wp2_with fail;rw[<-u];clear z A q C D r;refine(NH _ _ b c d g _ (N.ext h) (O.ext h)).mono ?_;rintro e _ ⟨rfl,i⟩;have q:=(x.ext i).cell 2;have r:=(y.ext i).cell 2;by_cases j:b=c/\d=g
 .have s:decide (b=c/\d=g)=true:=decide_eq_true j;rw[s];go_wp2_with fail;refine(EZ _ _ k l _ (K.ext (h.trans i)) (M.ext (h.trans i))).mono ?_;rintro e _ ⟨rfl,Q⟩;go_wp2;go_ret;exact⟨by simp[j],(h.trans i).trans Q⟩
 .have s:decide (b=c/\d=g)=false:=decide_eq_false j;rw[s];go_wp2;go_ret;exact⟨by rw[decide_eq_false (λR=>j R.1)];rfl,h.trans i⟩
theorem oO(v:Value)(d:Bool)(b c:List Nat)(w:World)(g:xH w v d b c)(j:b.length+c.length<=9223372036854775807):
  Calls prog 73 #[v] w λe w'=>e= .returned ((b.length+c.length:Nat):Int)/\Ext w w':=by
 obtain⟨_,_,rfl,h,i⟩:=g;obtain⟨_,_,rfl,_,_,_⟩:=h;obtain⟨_,_,rfl,_,_,_⟩:=i;go_enter func73,ntmps73;go_wp2;go_ret;exact⟨by rfl,(Ext.refl w).alloc _⟩
open Go.ChangeShapes Go.WideShapes Go.ChangeAt
theorem WB(v b:Value)(c:Rat)(d g:Nat)(w:World)(h:FrQ d w v c)(i:FrQ g w b c):
  Calls prog 24 #[v,b] w λe w'=>e= .returned true/\Ext w w':=by
 refine(sK v b _ _ _ _ _ _ w h.raw i.raw).mono ?_;rintro e w' ⟨rfl,j⟩;exact⟨sm,j⟩
theorem EA{z:Int}(b:z.natAbs<=9223372036854775808):szT z<=5:=by
 exact QD5
section
variable {H:Type} {enc:TypeId×Value->H} {P:Program}
theorem ae0{f:Func}{s:ChangeSpec}{apart E:Bool}{W:World}{v:Value}{i j:List (DataW H)}{h pa pv:List MemPlace}
  (p:DataW.Whole enc P f.params.toList s.vars apart W m.toList i j h)
  (r:∀(d:Nat) (g:Nat->Bool) (F:Bool),DataW.TrodAll enc P l d g F f.resultTypes.toList (v.resultList f.resultTypes.size) (s.fn H (i++j)).results [])
  (u:∀g:Nat->Bool,(∀c∈h,g c.block=true)->DataW.TrodAll enc P l 0 g true f.params.toList m.toList (s.fn H (i++j)).args pa)
  (x:∀g:Nat->Bool,(∀c∈h,g c.block=true)->DataW.TrodVars enc P l g s.vars (s.fn H (i++j)).vars pv)
  (k:h=pa++pv) (y:Ext W l)
  (I:∀(z:Nat) (A:TypeId) (C:Value),f.resultTypes[z]? =some A->(v.resultList f.resultTypes.size)[z]? =some C->Value.okWide P l .any 0 A C):
  s.post enc P f apart t Y E W m v l:=by
 have D:∀c∈h,(λd=>decide (d<W.heap.size)) c.block=true:=λc b=>by simpa using p.lt c b
 refine⟨i,j,h,[],pa,pv,p,r _ _ _,u _ D,x _ D,World.keptBut_mono (λc b=>⟨b,?_⟩) (y.below.frame _),λ_=> ?_⟩
 .rw[k,aW]at b;exact Or.inr b
 .have J:=p.lt;obtain⟨_,_,_,_,_,K,L⟩:=p;refine⟨I,_,_,([]++pa)++pv,⟨[]++pa,pv,trodAll_append (u _ (λ_ _=>rfl)) (r _ _ _),x _ (λ_ _=>rfl),rfl,?_,?_⟩,?_⟩
  .intro d q b;have M:=K d q (by rw[k];simpa using b);rw[Ext.frozen y d q (J (.cell d q) (by rw[k];simpa using b))];exact M
  .intro N;have:=L N;rw[k]at this;simpa using this
  .intro c b _;rw[k];simpa using b
end
theorem FrQ.opn{w:World}{v:Value}(h:FrQ b w v k):∃c ad d cap ad2 g cap2,v= .agg #[.bool c,.slice ad d cap,.slice ad2 g cap2]/\FrQ b w (.agg #[.bool c,.slice ad d cap,.slice ad2 g cap2]) k:=by
 exact FD5
section
variable {H:Type} {enc:TypeId×Value->H} {P:Program} {w:World}
theorem PY(k:laidOutB P=true){W l:World}(m:Ext W l)(j:Nat->Bool):∀{ts:List TypeId} {vs:List Value} {g:List (DataW H)} {d:List MemPlace},
  (∀i∈ts,P.readableRec i=true/\i<P.types.size)->DataW.TrodAll enc P W 0 (λ_=>true) true ts vs g d->(∀b∈d,b.block<W.heap.size)->(∀b∈d,j b.block=true)->DataW.TrodAll enc P l 0 j true ts vs g d
 | [],vs,g,d,_,h,_,_=>by
  obtain⟨rfl,rfl,rfl⟩:=trodAll_nil h;exact trodAll_mk0
 |i::ts,vs,g,d,ht,h,hlt,hsp=>by
  obtain⟨v,_,_,_,_,_,rfl,rfl,rfl,q,r⟩:=trodAll_cons h;have p:=ht i (aT ..);exact trodAll_cons_mk (WideElems.Trod_stays k p.1 p.2 q (λb c=>m.below.same (hlt b (cO _ c))) (λb c=>hsp b (cO _ c)))
   (PY k m j (λs t=>ht s (aN _ t)) r (λb c=>hlt b (dF _ c)) (λb c=>hsp b (dF _ c)))
def NE{H:Type}(d:DataW H)(n:Nat):Prop:=(d= .nil/\n=0)∨∃es rs,d= .slice es rs/\es.length=n
def Z0{H:Type}(d:DataW H)(n:Nat):Prop:=∃d0 d1,d= .agg [d0,d1]/\NE d1 n
def ai0{H:Type}(d:DataW H)(n m:Nat):Prop:=∃d0 d1,d= .agg [d0,d1]/\Z0 d0 n/\NE d1 m
theorem I7{base:Nat}{spare:Nat->Bool}{held:Bool}{e:TypeId}{k:DataW H×List MemPlace}(m:P.underlying J=some (.slice e))(u:P.underlying e=some (.int .u64))(x:P.cellsOf e=1)(y:1<=P.bytesOf e)
  (z:DataW.trod enc P w base spare held b J r=some k):∃v h,r=[v]/\IsL .u64 w v h/\Dig W h/\(∀B,(∀n∈k.1.weights P J,n<=B)->h.length<=B)/\NE k.1 h.length:=by
 rcases open_ints m u x z with⟨rfl,A⟩ |⟨a,d,C,c,rfl,_,_,D,E,p,F,I⟩
 .exact⟨_,[],rfl,⟨none,0,rfl,lr,om,Rd.nil _ _⟩,Dig.nil,λB _=>Nat.zero_le B,.inl ⟨by rw[A],rfl⟩⟩
 .have S:d<=c.length:=by rw[E];split<;>omega
  have q:∀g∈c,0<=g/\g<=18446744073709551615:=λg i=>bounds_u64 (I g i)
  refine⟨_,(c.take d).map Int.toNat,rfl,⟨some a,C,by rw[aF,aP];congr 1;omega,by rw[aF,aP];omega,by unfold maxLen at D;omega,?_⟩,?_,?_,?_⟩
  .rcases aR d with s |s
   .subst s;exact .inl (by simp[mK])
   .obtain⟨K,L,rfl,M⟩:=ints_at F om;refine .inr ⟨K,L,rfl,λj v t=> ?_⟩;have N:j<d:=by
     have:=(aH.1 t).1;rw[kU,aF,aP]at this;omega
    have l:j<c.length:=om;rw[M j l,<-t];have i:=q c[j] (dC l);simp[mK,aX,N,l,List.getD];omega
  .intro _ O;obtain⟨g,i,rfl⟩:=bJ.1 O;have:=q g (fU i);rw[lX];omega
  .intro B Q;subst p;have:=Q (((lits (H:=H) .u64 (c.take d)).length+(lits (H:=H) .u64 (c.drop d)).length)*P.bytesOf e) (by simp[DataW.weights,m]);rw[aF];have R:(lits (H:=H) .u64 (c.take d)).length=(c.take d).length:=by simp[lits]
   rw[R]at this;have T:(c.take d).length*1<=((c.take d).length+(lits (H:=H) .u64 (c.drop d)).length)*P.bytesOf e:=cW (Nat.le_add_right _ _) y;omega
  .subst p;exact .inr ⟨_,_,rfl,by simp[lits]⟩
end
theorem WX:1<=prog.bytesOf 165:=by decide+kernel
theorem XA:prog.cellsOf 165=1:=kr
theorem WZ:prog.cellsOf 35=2:=kr
theorem yE:prog.cellsOf 37=3:=kr
theorem DK:prog.cellsOf 4=1:=kr
theorem X5:prog.cellsOf 33=1:=kr
section
variable {H:Type} {enc:TypeId×Value->H} {w:World} {base:Nat} {spare:Nat->Bool} {held:Bool}
theorem tW{d:DataW H×List MemPlace}(c:DataW.trod enc prog w base spare held b 4 r=some d):∃g,r=[.bool g]:=by
 cases b with
 |zero=>simp [DataW.trod]at c
 |succ n=>
  unfold DataW.trod at c;rw[underlying4]at c;rcases r with _ |⟨h,_ |⟨_,r⟩⟩<;>(try cases h)<;>simp at c
  exact⟨_,rfl⟩
theorem W2{j:DataW H×List MemPlace}(k:DataW.trod enc prog w base spare held b 35 r=some j):∃h i g,r=[.bool h,i]/\IsL .u64 w i g/\Dig W g/\(∀B,(∀n∈j.1.weights prog 35,n<=B)->g.length<=B)/\Z0 j.1 g.length:=by
 obtain⟨_,_,n,l,m,s,t⟩:=trod_struct2 underlying35 k;rw[WZ]at m;obtain⟨c,d,rfl⟩:∃c d,r=[c,d]:=by
  rcases r with _ |⟨c,_ |⟨d,_ |⟨_,r⟩⟩⟩<;>simp at m
  exact⟨_,_,rfl⟩
 obtain⟨h,u⟩:=tW s;obtain⟨i,g,x,y,z,A,C⟩:=I7 underlying33 underlying165 XA WX t;have D:List.take (prog.cellsOf 4) (List.drop 0 [c,d])=[c]:=by rw[DK];rfl
 have E:List.take (prog.cellsOf 33) (List.drop 1 [c,d])=[d]:=by rw[X5];rfl
 have p: [c]=[.bool h]:=D▸u;have q: [d]=[i]:=E▸x;simp only[List.cons.injEq,and_true]at p q;subst p q;exact⟨h,_,g,rfl,y,z,λB k=>A B λn F=>k n (by rw[l];simp only[DataW.weights,underlying35];exact dF _ (cO _ F)),by rw[l];exact⟨_,_,rfl,C⟩⟩
theorem sV{p:DataW H×List MemPlace}(j:DataW.trod enc prog w base spare held b 37 r=some p):∃k l m h i,r=[.bool k,l,m]/\IsL .u64 w l h/\Dig W h/\IsL .u64 w m i/\Dig W i/\(∀B,(∀n∈p.1.weights prog 37,n<=B)->h.length<=B/\i.length<=B)/\ai0 p.1 h.length i.length:=by
 obtain⟨_,_,n,q,t,y,z⟩:=trod_struct2 underlying37 j;rw[yE]at t;obtain⟨c,d,g,rfl⟩:∃c d g,r=[c,d,g]:=by
  rcases r with _ |⟨c,_ |⟨d,_ |⟨g,_ |⟨_,r⟩⟩⟩⟩<;>simp at t
  exact⟨_,_,_,rfl⟩
 obtain⟨k,l,h,A,C,D,E,F⟩:=W2 y;obtain⟨m,i,I,J,K,L,M⟩:=I7 underlying33 underlying165 XA WX z;have N:List.take (prog.cellsOf 35) (List.drop 0 [c,d,g])=[c,d]:=by rw[WZ];rfl
 have O:List.take (prog.cellsOf 33) (List.drop 2 [c,d,g])=[g]:=by rw[X5];rfl
 have u: [c,d]=[.bool k,l]:=N▸A;have x: [g]=[m]:=O▸I;simp only[List.cons.injEq,and_true]at u x;obtain⟨rfl,rfl⟩:=u;subst x;refine⟨k,_,_,h,i,rfl,C,D,J,K,λB j=>⟨E B λn s=>j n ?_,L B λn s=>j n ?_⟩,by rw[q];exact⟨_,_,rfl,F,M⟩⟩
 .rw[q];simp only[DataW.weights,underlying37];exact cO _ s
 .rw[q];simp only[DataW.weights,underlying37];exact dF _ (cO _ s)
end
def JK(b:Bool)(xs:List Nat):Int:=sgn b (val W xs)
def BY(ys:List Nat):Nat:=if val W ys=0 then 1 else val W ys
def rawR(b:Bool)(xs ys:List Nat):Rat:=mkRat (JK b xs) (BY ys)
theorem xH.isQ{w:World}{v:Value}(b:xH w v t c h)(d:Dig W c)(g:Dig W h)(i:c.length<=LIM)(j:h.length<=LIM):IsQ w v (JK t c) (BY h):=by
 obtain⟨k,l,rfl,m,p⟩:=b;exact⟨t,k,l,val W c,val W h,rfl,⟨c,m,i,d,rfl⟩,rfl,⟨h,p,j,g,rfl⟩,rfl⟩
theorem ab3(b:Dig W c):sz W (BY c)<=max c.length 1:=by
 unfold BY;split
 .rw[show sz W 1=1 from rfl];omega
 .exact aE (rL lF b) om
theorem ab4{b:Bool}(d:Dig W c):szZ (JK b c)<=c.length:=by
 unfold JK szZ;rw[n8];exact rL lF d
theorem xH.isR{w:World}{v:Value}(g:xH w v t c h)(b:Dig W c)(d:Dig W h)(k:Nat)(i:c.length<=k)(j:h.length<=k)(l:1<=k)(m:k<=LIM):IsR w v (rawR t c h) k:=by
 have:=ab3 d;have:=ab4 (b:=t) b;exact⟨_,_,g.isQ b d om om,rfl,om,om⟩
theorem W_TK:W<TK^5:=by
 rw[lX,nB];decide
theorem AP(n:Nat):sz TK n<=5*sz W n:=by
 refine nG lK ?_;rw[Nat.pow_mul];exact cD (qU lF n) (Nat.pow_le_pow_left (iE W_TK) _)
theorem P6(b:List Nat):0<BY b:=by unfold BY;split<;>omega
theorem qO.opn{w:World}{v:Value}(h:qO b w v k):∃c ad d cap ad2 g cap2,v= .agg #[.bool c,.slice ad d cap,.slice ad2 g cap2]/\qO b w (.agg #[.bool c,.slice ad d cap,.slice ad2 g cap2]) k:=by
 exact FD5
theorem xH.opn2{w:World}{v:Value}(k:xH w v t c h):∃b n d g i j,n=c.length/\i=h.length/\v= .agg #[t,.slice b n d,.slice g i j]:=by
 obtain⟨_,_,rfl,⟨b,d,rfl,_⟩,⟨g,j,rfl,_⟩⟩:=k;exact⟨_,_,_,_,_,_,rfl,rfl,rfl⟩
theorem KV(b:Int):mkRat b 1=(b:Rat):=by
 have c:=eW (b:Rat);rwa [Rat.num_intCast,Rat.den_intCast]at c
theorem UN(b:Int):szD (b:Rat)<=max (szT b) 1:=by
 have c:=LJ b 1 om;rw[KV]at c;have:sz TK 1<=1:=by
  refine nG lK ?_;rw[nB];decide
 unfold szD;omega
theorem DM(a b:Rat):qP b a= - qP a b:=by
 unfold qP;grind
theorem FJ{a b:Rat}:qP a b<=0↔a<=b:=by
 unfold qP;grind
theorem UO(c:szQ k<=b)(g:szQ C<=d):szQ (k+C)<=b+d+1:=by
 have a:=fH.1 c;have i:=fH.1 g;have h:k+C=mkRat (k.num*C.den+C.num*k.den) (k.den*C.den):=by
  have:=jR k.num C.num (Nat.pos_iff_ne_zero.1 k.den_pos) (Nat.pos_iff_ne_zero.1 C.den_pos);rwa [eW,eW]at this
 rw[h];have j:=pQ k.num C.den;have l:=pQ C.num k.den;have m:=N5 (k.num*C.den) (C.num*k.den);have p:szZ (k.den:Int)=sz W k.den:=rfl;have q:szZ (C.den:Int)=sz W C.den:=rfl;have r:szZ ((k.den:Int)*C.den)<=szZ (k.den:Int)+szZ (C.den:Int):=pQ _ _;have s:szZ ((k.den:Int)*C.den)=sz W (k.den*C.den):=rfl;have t:=xS (k.num*C.den+C.num*k.den) (k.den*C.den) (dW k.den_pos C.den_pos);exact fH.2 ⟨om,om⟩
theorem N4(c:szQ k<=b)(g:szQ C<=d):szQ (k*C)<=b+d:=by
 have a:=fH.1 c;have i:=fH.1 g;have h:k*C=mkRat (k.num*C.num) (k.den*C.den):=by
  have:=Rat.mkRat_mul_mkRat k.num C.num k.den C.den;rwa [eW,eW]at this
 rw[h];have j:=pQ k.num C.num;have l:szZ (k.den:Int)=sz W k.den:=rfl;have m:szZ (C.den:Int)=sz W C.den:=rfl;have p:szZ ((k.den:Int)*C.den)<=szZ (k.den:Int)+szZ (C.den:Int):=pQ _ _;have q:szZ ((k.den:Int)*C.den)=sz W (k.den*C.den):=rfl;have r:=xS (k.num*C.num) (k.den*C.den) (dW k.den_pos C.den_pos);exact fH.2 ⟨om,om⟩
theorem uT.opn{w:World}{v:Value}(g:uT b w v D):∃h c i d,v= .agg #[.bool h,.slice c i d]/\uT b w (.agg #[.bool h,.slice c i d]) D:=by
 have j:=g;obtain⟨_,rfl,k⟩:=g;obtain⟨c,d,rfl⟩:=k.slice;exact⟨_,_,_,_,rfl,j⟩
section
variable {P:Program} {o:Oper} {a:Act} {f:Nat->Value} {w:World} {post:Value->World->Prop}
theorem nO(b c d:Nat):(⟨b,c,none⟩:Addr).add d=⟨b,c+d,none⟩:=by unfold Addr.add;split<;>simp_all
theorem IJ(w:World)(d g:Nat)(c:TypeId)(b:Array Value)(i:TypeDesc)(m:∀h v,b[h]? =some v->w.cell? (d,g+h)=some v)
  (p:P.underlying c=some i) (u:(match i with | .struct _ | .array _ _=>true |_=>false)=true) (k:(P.info? c).map (·.size)=some b.size):
  (loadVar c ⟨d,g,none⟩).run P w= .ok (.agg b) w:=by
 have l:(loadCells ⟨d,g,none⟩ b.toList.length).run P w= .ok b.toList.toArray w:=
  run_loadCells_list (P:=P) w ⟨d,g,none⟩ b.toList (λh v q=>by
   rw[nO];exact m h v (by simpa using q))
 cases j:P.info? c with
 |none=>simp [j]at k
 |some r=>
  have s:r.size=b.size:=by simpa[j]using k
  have t:(isAgg c).run P w= .ok true w:=by
   unfold isAgg;rw[Sem.run_bind,run_underlying p w]
   cases i<;>simp_all
  simp only[cJ,Array.toArray_toList]at l;simp[loadVar,Sem.run_bind,t,sizeOf,typeInfo,j,s,l]
theorem kW(b:TypeId)(i:Operand)(d g:Nat)(c:Array Value)(h:TypeDesc)(k:o.guard=none)(l:o.op= .load b i)(m:a.eval i=(d,g))(p:∀j v,c[j]? =some v->w.cell? (d,g+j)=some v)
  (q:P.underlying b=some h) (r:(match h with | .struct _ | .array _ _=>true |_=>false)=true) (s:(P.info? b).map (·.size)=some c.size) (t:post (.agg c) w):kM P o a f w Ext post:=by
 unfold kM;rw[k];unfold Oper.wp execOp;simp only[l,m,Instr.loadAt,Instr.sureAddr,Sem.run_bind,Sem.run_pure,Result.andThen_ok,IJ w d g b c h p q r s];exact⟨_,rfl,Ext.refl w,t⟩
theorem lH(g e:TypeId)(n b:Nat)(parts:Array (Nat×Operand))(vs:List Value)(k:o.guard=none)(l:o.op= .buildSlice g n parts)(m:P.underlying g=some (.slice e))(c:(P.info? e).map (·.size)=some b)(i:((P.info? e).bind (·.zero)).isSome=true)
  (p:(parts.toList.map λd=>(d.1,a.eval d.2))=(vs.zipIdx 0).map λd=>(d.2,d.1)) (q:n=vs.length) (r:0<n) (j:0<b) (C:n*b<=2^24) (s:∀v∈vs,v.cells.size=b)
  (t:∀w',Ext w w'->Bx e w' w (vs.flatMap λv=>v.cells.toList).toArray->post (w,n,n) w'):kM P o a f w Ext post:=by
 unfold kM;rw[k]
 cases h:P.info? e with
 |none=>simp [h]at c
 |some u=>
  simp only[h,Option.map_some,Option.some.injEq,Option.bind_some]at c i;obtain⟨x,y⟩:=Option.isSome_iff_exists.1 i;have:0<n*b:=dW r j;have z:Bx e (w.alloc (.cells (vs.flatMap λ(v:Value)=>v.cells.toList).toArray e)) w (vs.flatMap λ(v:Value)=>v.cells.toList).toArray:=heap_alloc_new w _;have A:=t _ ((Ext.refl w).alloc _) z;refine wp_buildSlice g e n parts l (vs.flatMap λv=>v.cells.toList).toArray u x m h y (by rw[c];omega) (by rw[c];omega) ?_ ⟨_,rfl,(Ext.refl w).alloc _,A⟩;rw[Array.toList_map,c];refine(congrArg _ p).trans ?_;exact Great.fill_whole j vs _ s (by simp[q])
end
def SL{α:Type}(n:Nat)(R:World->Value->α->Prop)(w:World)(u:Value)(xs:List α):Prop:=
 ∃ad cap,u= .slice ad xs.length cap/\xs.length<=cap/\cap<=9223372036854775807/\
  (xs=[]∨∃g off,ad=some ⟨g,off,none⟩/\∀(i:Nat) (x:α),xs[i]? =some x->∃cs:Array Value,cs.size=n/\(∀(j:Nat) (v:Value),cs[j]? =some v->w.cell? ⟨g,off+i*n+j,none⟩=some v)/\R w (.agg cs) x)
theorem SL.ext{α:Type}{n:Nat}{R:World->Value->α->Prop}{w w':World}{d:List α}(g:∀v c,R w v c->R w' v c)(h:SL n R w p d)(i:Ext w w'):SL n R w' p d:=by
 obtain⟨j,k,l,m,q,b⟩:=h;refine⟨j,k,l,m,q,?_⟩;rcases b with b |⟨r,s,b,t⟩
 .exact .inl b
 .refine .inr ⟨r,s,b,λu c x=> ?_⟩;obtain⟨y,z,A,C⟩:=t u c x;exact⟨y,z,λD v E=>i.cell (A D v E),g _ _ C⟩
theorem SL.opn{α:Type}{n:Nat}{s:World->Value->α->Prop}{w:World}{l:List α}(u:SL n s w p l):∃d m q,m=l.length/\p= .slice d m q/\m<=9223372036854775807/\
  ∀(g:Nat) (h:α),l[g]? =some h->∃i j,d=some ⟨i,j,none⟩/\∃b:Array Value,b.size=n/\(∀r,Ext w r->∀(k:Nat) (v:Value),b[k]? =some v->r.cell? ⟨i,j+g*n+k,none⟩=some v)/\s w (.agg b) h:=by
 obtain⟨d,q,x,_,_,c⟩:=u;refine⟨d,_,q,rfl,x,om,λg h t=> ?_⟩;rcases c with c |⟨i,j,c,y⟩
 .subst c;simp at t
 .obtain⟨b,z,A,C⟩:=y g h t;exact⟨i,j,c,b,z,λr D k v E=>D.cell (A k v E),C⟩
def SV{α:Type}(R:World->Value->α->Prop)(w:World)(u:Value)(xs:List α):Prop:=
 ∃ad cap,u= .slice ad xs.length cap/\xs.length<=cap/\cap<=9223372036854775807/\
  (xs=[]∨∃g off,ad=some ⟨g,off,none⟩/\∀(i:Nat) (x:α),xs[i]? =some x->∃v,w.cell? ⟨g,off+i,none⟩=some v/\R w v x)
theorem SV.ext{α:Type}{R:World->Value->α->Prop}{w w':World}{d:List α}(g:∀v c,R w v c->R w' v c)(h:SV R w p d)(i:Ext w w'):SV R w' p d:=by
 obtain⟨j,k,l,m,q,b⟩:=h;refine⟨j,k,l,m,q,?_⟩;rcases b with b |⟨r,s,b,t⟩
 .exact .inl b
 .refine .inr ⟨r,s,b,λu c x=> ?_⟩;obtain⟨v,y,z⟩:=t u c x;exact⟨v,i.cell y,g _ _ z⟩
theorem SV.opn{α:Type}{q:World->Value->α->Prop}{w:World}{j:List α}(s:SV q w p j):∃c k l,k=j.length/\p= .slice c k l/\k<=9223372036854775807/\
  ∀(d:Nat) (g:α),j[d]? =some g->∃h i,c=some ⟨h,i,none⟩/\∃v,(∀m,Ext w m->m.cell? ⟨h,i+d,none⟩=some v)/\q w v g:=by
 obtain⟨c,l,t,_,_,b⟩:=s;refine⟨c,_,l,rfl,t,om,λd g r=> ?_⟩;rcases b with b |⟨h,i,b,u⟩
 .subst b;simp at r
 .obtain⟨v,x,y⟩:=u d g r;exact⟨h,i,b,v,λm z=>z.cell x,y⟩
theorem zS{α:Type}{p:Nat->α->Prop}:∀n:Nat,(∀b,b<n->∃c,p b c)->∃g:List α,g.length=n/\∀b c,g[b]? =some c->p b c
 |0,_=>⟨[],rfl,λb c h=>by simp at h⟩
 |n+1,h=>by
  obtain⟨g,j,k⟩:=zS n λb i=>h b om
  obtain⟨c,l⟩:=h n om;refine⟨g++ [c],by simp[j],λb m d=> ?_⟩;rw[List.getElem?_append]at d
  split at d
  .exact k b m d
  .have i:b - g.length=0:=by
    have:=(aH.1 d).1;simp at this;omega
   rw[i]at d;simp at d;subst d;rw[show b=n by omega];exact l
section
variable {H:Type} {enc:TypeId×Value->H} {P:Program} {w:World} {base:Nat} {spare:Nat->Bool} {held:Bool}
theorem F6{e:TypeId}:∀{b:List (DataW H)} {c:DataW H} {n:Nat},c∈b->n∈c.weights P e->n∈DataW.weightsAll P e b
 |d0::b,c,n,d,hn=>by
  unfold DataW.weightsAll
  rcases aS.1 d with rfl |d
  .exact cO _ hn
  .exact dF _ (F6 d hn)
theorem tL{α:Type}{n:Nat}{R:World->Value->α->Prop}{F:DataW H->α->Prop}{e:TypeId}{y:Nat}{k:List Value}{g:DataW H×List MemPlace}(B:Nat)(z:P.underlying J=some (.slice e))(U:P.cellsOf e=n)(V:0<n)
  (X:∀(y:Nat) (k:List Value) (g:DataW H×List MemPlace),k.length=n->(∀l∈g.1.weights P e,l<=B)->DataW.trod enc P w base spare held y e k=some g->∃c,R w (.agg k.toArray) c/\F g.1 c)
  (Q:∀l∈g.1.weights P J,l<=B) (Y:DataW.trod enc P w base spare held y J k=some g):
  ∃v h,k=[v]/\SL n R w v h/\h.length*P.bytesOf e<=B/\((g.1= .nil/\h=[])∨∃A Z,g.1= .slice A Z/\A.length=h.length/\∀(b:Nat) (C:DataW H) (c:α),A[b]? =some C->h[b]? =some c->F C c):=by
 rcases Go.Deep.open_slice z Y with⟨rfl,rfl⟩ |⟨a,i,a0,l,_,t,_,rfl,_,_,a1,a2,rfl,S⟩
 .exact⟨_,[],rfl,⟨none,0,rfl,lr,om,.inl rfl⟩,sm,.inl ⟨rfl,rfl⟩⟩
 .have b2:i<=l:=by rw[a2];split<;>omega
  rw[U]at S;have a3:∀b,b<i->∀D∈(t b).weights P e,D<=B:=λb p D a4=>Q D (by
   simp only[DataW.weights,z];exact aN _ (cO _ (F6 (bJ.2 ⟨b,by simpa using p,rfl⟩) a4)))
  obtain⟨h,u,E⟩:=zS (p:=λb c=>∃d,w.cells? base (a.add (b*n)) n=some d/\R w (.agg d.toArray) c/\F (t b) c) i (λb p=>by
   obtain⟨d,m,j⟩:=S b om;obtain⟨c,I,K⟩:=X _ _ _ (kK m).2.1 (a3 b p) j;exact⟨c,d,m,I,K⟩)
  refine⟨_,h,rfl,⟨some a,a0,by rw[u],om,by unfold maxLen at a1;omega,?_⟩,?_,.inr ⟨_,_,rfl,by simp[u],λb C c L x=> ?_⟩⟩
  .rcases aR i with a5 |a5
   .exact .inl (aL om)
   .obtain⟨q,r,rfl⟩:∃q r,a=⟨q,r,none⟩:=by
     obtain⟨M,a6⟩:∃M,h[0]? =some M:=⟨_,aA om⟩;obtain⟨d,m, -⟩:=E 0 M a6;obtain⟨-,N,O⟩:=kK m;have j:=O 0 V;rw[aA om]at j;obtain⟨q,r,a7⟩:=a;have a9:a7=none:=by simpa[Addr.add]using World.cell?_spot j
     exact⟨q,r,by rw[a9]⟩
    refine .inr ⟨q,r,rfl,λb c x=> ?_⟩;obtain⟨d,m,I, -⟩:=E b c x;obtain⟨-,N,O⟩:=kK m;refine⟨d.toArray,by simpa using N,λs v b0=> ?_,I⟩;have T:d[s]? =some v:=by simpa using b0
    have b1:s<n:=by rw[<-N];exact(aH.1 T).1
    have j:=O s b1;rw[T,nO,nO]at j;exact j
  .have:=Q (((List.range i).map t).length*P.bytesOf e+((List.range (l - i)).map λs=>t (i+s)).length*P.bytesOf e) (by
    simp only[DataW.weights,z,<-bX];exact aT ..)
   rw[u];simp only[aF,List.length_range]at this;omega
  .obtain⟨d, -, -,K⟩:=E b c x;have p:b<i:=by rw[<-u];exact(aH.1 x).1
   rw[aX,List.getElem?_range p]at L;simp only[Option.map_some,Option.some.injEq]at L;subst L;exact K
end
def o9(w:World)(v:Value)(e:Bool×List Nat×List Nat):Prop:=xH w v e.1 e.2.1 e.2.2/\Dig W e.2.1/\Dig W e.2.2/\e.2.1.length+e.2.2.length<=9223372036854775807
def pX(e:Bool×List Nat×List Nat):Rat:=rawR e.1 e.2.1 e.2.2
theorem o9.ext{w w':World}{v:Value}{e:Bool×List Nat×List Nat}(b:o9 w v e)(c:Ext w w'):o9 w' v e:=⟨b.1.ext c,b.2⟩
def SLQ(w:World)(u:Value)(l:List (Bool×List Nat×List Nat)):Prop:=SL 3 o9 w u l
theorem SLQ.ext{w w':World}{c:Value}{d:List (Bool×List Nat×List Nat)}(b:SLQ w c d)(g:Ext w w'):SLQ w' c d:=SL.ext (λ_ _ b=>b.ext g) b g
theorem SLQ.at{w:World}{s:List (Bool×List Nat×List Nat)}(A:SLQ w u s):∃k g t,g=s.length/\u= .slice k g t/\g<=9223372036854775807/\∀(i:Nat) (e:Bool×List Nat×List Nat),s[i]? =some e->∃c d,k=some ⟨c,d,none⟩/\∃y l h m p j q,h=e.2.1.length/\j=e.2.2.length/\
  ∀b,Ext w b->b.cell? ⟨c,d+i*3,none⟩=some (.bool y)/\b.cell? ⟨c,d+i*3+1,none⟩=some (.slice l h m)/\b.cell? ⟨c,d+i*3+2,none⟩=some (.slice p j q)/\o9 b (.agg #[.bool y,.slice l h m,.slice p j q]) e:=by
 obtain⟨k,g,t,C,D,E,F⟩:=A.opn;refine⟨k,g,t,C,D,E,λi e I=> ?_⟩;obtain⟨c,d,J,_,_,x,z⟩:=F i e I;obtain⟨l,h,m,p,j,q,K,L,M⟩:=xH.opn2 z.1
 cases M
 exact⟨c,d,J,_,l,h,m,p,j,q,K,L,λb r=>⟨x b r 0 _ rfl,x b r 1 _ rfl,x b r 2 _ rfl,z.ext r⟩⟩
def QJ(cs:Array Value):Prop:=cs=cs
def WU(S:Nat)(w1 w2:World):Prop:=∃g t cs cs',S<=g/\t≠165/\t≠3/\QJ cs/\Bx t w1 g cs/\Bx t w2 g cs'/\Chg g w1 w2
theorem Own.tchg{S:Nat}{e:TypeId}{B:Nat}{c:World}{d:Option Addr}(h:Own e B l d b r)(hc:WU S l c)(he:e=165∨e=3):Own e B c d b r:=by
 exact Iq4
theorem FrN.tchg{S:Nat}{b c:World}{e:TypeId}{d:IntKind}{B g n:Nat}{v:Value}(h:FrN e d B g b v n)(i:WU S b c)(j:e=165∨e=3):FrN e d B g c v n:=by
 obtain⟨k,l,m,p,q,r⟩:=h;exact⟨k,l,m,p,q,r.tchg i j⟩
theorem FrQ.tchg{S:Nat}{b c:World}{d:Nat}{v:Value}{g:Rat}(i:FrQ d b v g)(h:WU S b c):FrQ d c v g:=by
 obtain⟨j,k,l,m,p⟩:=i;exact⟨j,k,l,m.tchg h (.inl rfl),p.tchg h (.inl rfl)⟩
structure PT (S:Nat) where
 p:Value->World->Prop
 m:∀v w1 w2,Ext w1 w2->p v w1->p v w2
 m3:∀v w1 w2,WU S w1 w2->p v w1->p v w2
def PT.any{S:Nat}:PT S:=⟨λ_ _=>True,λ_ _ _ _ h=>h,λ_ _ _ _ h=>h⟩
structure Sw (S:Nat) where
 s:Nat
 x:Al
 F:PT S
def YT{S:Nat}:List (Sw S)->Nat->Option (Sw S)
 | [],_=>none
 |x::l,k=>if k=x.s then some x else YT l k
def Y8{S:Nat}(als:List Al)(sas:List (Sw S))(L:List (PT S))(j:Nat)(v:Value)(w:World):Prop:=AS als j=none->YT sas j=none->(L.getD j PT.any).p v w
def OweT{S:Nat}(P:Program)(fr:(Nat->Value)->Array Value)(df:List Deferred)(w:World)(als:List Al)(sas:List (Sw S))(L:List (PT S))(k:Nat)(o:Oper):Prop:=
 ∀f w1,Ext w w1->lY (Y8 als sas L) f w1 o.after.toList->
  match AS als k with
  |some x=>kM P o ⟨fr f,df⟩ f w1 (λa b=>b=a.alloc (.cells x.z x.t)) (λv _=>v= .pointer w1.heap.size)
  |none=>match YT sas k with
   |some y=>∀g old,f y.x.a= .pointer (some ⟨g,0,none⟩)->S<=g->Bx y.x.t w1 g old->old.size=y.x.n->QJ old->
     kM P o ⟨fr f,df⟩ f w1 (Chg g) (λ_ w2=>∃cs,Bx y.x.t w2 g cs/\cs.size=y.x.n/\QJ cs/\y.F.p (.agg cs) w2)
   |none=>kM P o ⟨fr f,df⟩ f w1 Ext (L.getD k PT.any).p
def ac8{S:Nat}(P:Program)(fr:(Nat->Value)->Array Value)(df:List Deferred)(w:World)(als:List Al)(sas:List (Sw S))(L:List (PT S)):List Oper->Nat->Prop
 | [],_=>True
 |o::l,k=>OweT P fr df w als sas L k o/\ac8 P fr df w als sas L l (k+1)
theorem Y6{g:Nat}{P:Program}{i:(Nat->Value)->Array Value}{j:List Deferred}{w:World}{k:List Al}{l:List (Sw g)}{m:List (PT g)}:
  ∀(d:List Oper) (c:Nat),ac8 P i j w k l m d c->∀b o,d[b]? =some o->OweT P i j w k l m (c+b) o
 | [],_,_,b,o,h=>by simp at h
 |x::d,c,hs,b,o,h=>by
  cases b with
  |zero=>
   simp only[bL,Option.some.injEq]at h;subst h;exact hs.1
  |succ b=>
   have:=Y6 d (c+1) hs.2 b o (by simpa using h)
   rwa [show c+1+b=c+(b+1)by omega]at this
theorem aj4{d:List (Sw b)}{g:List (PT b)}{f:Nat->Value}(h:lY (Y8 R d g) f l E)(n c:Nat)
  (i:(match E[n]? with |some e=>Region.binds .any e&&e.on==c |none=>false)=true) (j:AS R c=none) (k:YT d c=none):(g.getD c PT.any).p (f c) l:=
 qH E n c i h j k
theorem endT{d:List (Sw b)}{g:List (PT b)}{f:Nat->Value}{n:Nat}(h:n5 (Y8 R d g) f l n 0)(c:Nat)(k:c<n)(i:AS R c=none)(j:YT d c=none):(g.getD c PT.any).p (f c) l:=
 rV n 0 c zl om h i j
theorem qO.tchg{S:Nat}{b c:World}{d:Nat}{v:Value}{g:Rat}(i:qO d b v g)(h:WU S b c):qO d c v g:=by
 obtain⟨j,k,l,m,p⟩:=i;exact⟨j,k,l,m.tchg h (.inr rfl),p.tchg h (.inr rfl)⟩
theorem all4{a:Value}(b:a.oneCell'=true)(c:p.oneCell'=true)(d:S.oneCell'=true)(g:T.oneCell'=true):(#[a,p,S,T]:Array Value).all (·.oneCell')=true:=by simp[b,c,d,g]
theorem Z8{a e:Value}(b:a.oneCell'=true)(c:p.oneCell'=true)(d:S.oneCell'=true)(g:T.oneCell'=true)(h:e.oneCell'=true):(#[a,p,S,T,e]:Array Value).all (·.oneCell')=true:=by simp[b,c,d,g,h]
structure Sg (S:Nat) where
 s:Nat
 g:Nat
 F:World->Prop
 m:∀w1 w2,Ext w1 w2->F w1->F w2
 m2:∀g',g'≠g->g'<S->∀w1 w2,Chg g' w1 w2->F w1->F w2
def AT{S:Nat}:List (Sg S)->Nat->Option (Sg S)
 | [],_=>none
 |x::l,k=>if k=x.s then some x else AT l k
theorem rT{c:List (Sg b)}{g:Sg b}(h:AT c d=some g):g∈c/\g.s=d:=by
 induction c with
 |nil=>cases h
 |cons i c ih=>
  simp only[AT]at h;exact Tw0
def CX{S:Nat}(w:World)(sts:List (Sg S))(L:List (PP S))(k:Nat)(v:Value)(w1:World):Prop:=
 match AT sts k with
 |some x=>x.F w1
 |none=>((L.getD k kP).c=true->Ext w w1)->(L.getD k kP).p v w1
theorem mL{w:World}{g:List (Sg b)}{d:List (PP b)}{f:Nat->Value}(h:lY (CX w g d) f l E)(n c:Nat)
  (i:(match E[n]? with |some e=>Region.binds .any e&&e.on==c |none=>false)=true) (j:AT g c=none) (k:(d.getD c kP).c=true->Ext w l):(d.getD c kP).p (f c) l:=by
 have:=qH E n c i h;unfold CX at this;rw[j]at this;exact this k
theorem KL{w:World}{d:List (Sg b)}{g:List (PP b)}{f:Nat->Value}{n:Nat}(h:n5 (CX w d g) f l n 0)(c:Nat)(i:c<n):CX w d g c (f c) l:=
 rV n 0 c zl om h
def OweG{S:Nat}(P:Program)(fr:(Nat->Value)->Array Value)(df:List Deferred)(w:World)(sts:List (Sg S))(L:List (PP S))(lates:List (Nat×Nat×Nat))(tmps:Array Value)(pre:List Nat)(k:Nat)(o:Oper):Prop:=
 ∀f w1,(if pre.contains k then Ext w w1 else mV (sts.map (·.g)) w w1)->lY (CX w sts L) f w1 o.after.toList->oV tmps f k lates->
  match AT sts k with
  |some x=>w1.heap[x.g]? =w.heap[x.g]? ->kM P o ⟨fr f,df⟩ f w1 (Chg x.g) (λ_ w2=>x.F w2)
  |none=>kM P o ⟨fr f,df⟩ f w1 Ext (L.getD k kP).p
def WP{S:Nat}(P:Program)(fr:(Nat->Value)->Array Value)(df:List Deferred)(w:World)(sts:List (Sg S))(L:List (PP S))(lates:List (Nat×Nat×Nat))(tmps:Array Value)(pre:List Nat):List Oper->Nat->Prop
 | [],_=>True
 |o::l,k=>OweG P fr df w sts L lates tmps pre k o/\WP P fr df w sts L lates tmps pre l (k+1)
theorem OU{g:Nat}{P:Program}{i:(Nat->Value)->Array Value}{j:List Deferred}{w:World}{k:List (Sg g)}{l:List (PP g)}{m:List (Nat×Nat×Nat)}{p:Array Value}{q:List Nat}:
  ∀(d:List Oper) (c:Nat),WP P i j w k l m p q d c->∀b o,d[b]? =some o->OweG P i j w k l m p q (c+b) o
 | [],_,_,b,o,h=>by simp at h
 |x::d,c,hs,b,o,h=>by
  cases b with
  |zero=>
   simp only[bL,Option.some.injEq]at h;subst h;exact hs.1
  |succ b=>
   have:=OU d (c+1) hs.2 b o (by simpa using h)
   rwa [show c+1+b=c+(b+1)by omega]at this
theorem pV{P:Program}{id:Nat}{l:List Oper}{q:Array Value}{w:World}
  (sts:List (Sg w)) (L:List (PP w)) (r:List (Nat×Nat×Nat)) (t:List Nat)
  (E:P.follows .mixedOrders=true) (z:(oQ l.toArray q.size&&pN l.toArray r&&(sts.map (·.s)).all λs=>wD l.toArray [s] (t.filter (· !=s)))=true)
  (hfr:∀f,mJ l.toArray q f=I f)
  (A:∀x∈sts,x.g<w.heap.size) (hs:∀x∈sts,AT sts x.s=some x) (C:∀x∈sts,∀c∈sts,x.s≠c.s->x.g≠c.g)
  (J:WP P I F w sts L r q t l 0)
  (hend:∀f w1,mV (sts.map (·.g)) w w1->n5 (CX w sts L) f w1 l.length 0->y .normal ⟨I f,F⟩ w1):
  (Code.region id l.toArray true).wp P y ⟨q,F⟩ w:=by
 simp only[aU]at z;obtain⟨⟨K,M⟩,hok3⟩:=z;have key:∀{w1 b:World} {g:Nat},mV (sts.map (·.g)) w w1->w1.heap[g]? =w.heap[g]? ->Chg g w1 b->Ext w b->g<w.heap.size->Ext w w1/\Ext w1 b:=by
  intro w1 b g hG hg hR hE hgl;exact Lt9
 refine nN (D:=λ_ _ _=>True) (G:=mV (sts.map (·.g))) (G0:=λs w w1=>w.heap.size<=w1.heap.size/\∀x,AT sts s=some x->w1.heap[x.g]? =w.heap[x.g]?)
  (R:=λi w1 b=>match AT sts i with |some x=>Chg x.g w1 b/\w1.heap[x.g]? =w.heap[x.g]? |none=>Ext w1 b) (post:=CX w sts L) E K (λ_=>trivial) ((Ext.refl w).drew.chgS _) (λs=>⟨(Ext.refl w).drew.size,λ_ _=>rfl⟩) ?_ ?_ ?_ ?_ ?_
 .intro i w1 b hG hR
  cases hx:AT sts i with
  |none=>rw [hx]at hR;exact hG.trans (hR.chgS _)
  |some x=>rw [hx]at hR;exact hG.trans (hR.1.chgS (bJ.2 ⟨x,(rT hx).1,rfl⟩))
 .intro s i w1 b his h hR;have N:w1.heap.size<=b.heap.size:=by
   cases hx:AT sts i with
   |none=>rw [hx]at hR;exact hR.size
   |some x=>rw [hx]at hR;exact hR.1.size
  refine⟨aE h.1 N,λc d=> ?_⟩;have U:=A c (rT d).1
  cases hx:AT sts i with
  |none=>rw [hx]at hR;exact(hR.heap (by have:=h.1;omega)).trans (h.2 c d)
  |some x=>
   rw[hx]at hR;have:=C c (rT d).1 x (rT hx).1 (by rw[(rT d).2,(rT hx).2];omega);exact(hR.1.heap (by have:=h.1;omega) this).trans (h.2 c d)
 .intro i j v w1 b _ hG hR hp;unfold CX at hp ⊢
  cases p:AT sts j with
  |none=>
   rw[p]at hR
   cases hxi:AT sts i with
   |some x=>
    rw[hxi]at hp;exact x.m _ _ hR hp
   |none=>
    exact Yu6
  |some x=>
   rw[p]at hR;have u:=A x (rT p).1
   cases hxi:AT sts i with
   |some c=>
    rw[hxi]at hp;have:=C c (rT hxi).1 x (rT p).1 (by rw[(rT hxi).2,(rT p).2];omega);exact c.m2 _ (λh=>this h.symm) u _ _ hR.1 hp
   |none=>
    rw[hxi]at hp;intro hE
    cases hc:(L.getD i kP).c with
    |true=>
     obtain⟨e1,O⟩:=key hG hR.2 hR.1 (hE hc) u;exact(L.getD i kP).m _ _ _ O (hp λ_=>e1)
    |false=>exact (L.getD i kP).m2 hc _ u _ _ _ hR.1 (hp λh=>by rw[hc]at h;cases h)
 .intro i o Q _ f w1 _ _ _ hG hpre hp R;have D:=OU l 0 J i o (by simpa using Q);rw[aY]at D;rw[hfr];have hE:(if t.contains i then Ext w w1 else mV (sts.map (·.g)) w w1):=Bo2;have hg:=D f w1 hE (rO _ λe S T=>hp e (bU.1 S) T) (pH R r M);unfold CX
  cases hx:AT sts i with
  |none=>
   exact YM4
  |some x=>
   exact Ia2
 .exact jA4
theorem rS(b:Int)(w:World)(q: -9223372036854775808<=b)(r:b<=9223372036854775807):
  Calls prog 21 #[b] w λe w'=>∃i,e= .returned i/\qO w w' i (b:Rat)/\Ext w w':=by
 have s:mkRat b 1=(b:Rat):=KV b;have:=EA (z:=b) om;go_enter func21,ntmps21;obtain⟨_,t,u,x,_⟩:=kR w #[false,(),()] 63;go_wp2_with fail;rw[<-t];refine(K9 b _ q r).mono ?_;rintro e j ⟨_,rfl,c,k⟩;obtain⟨_,_,_,_,rfl,c⟩:=uT.opn c;obtain⟨y,z,l,A,_⟩:=kR j #[(1:Int)] 3;have C:IsN .i64 TK y (.slice j 1 1) 1:=
  ⟨[1],⟨_,1,rfl,lr,om,.inr ⟨_,0,rfl,λD v E=>by rw[aY];exact(A.cell D).trans (by simpa[mK]using E)⟩⟩,by rw[mR];simp,λF I=>(by simpa using I:F=1)▸(by rw[nB];omega),by simp[val]⟩
 go_wp2_with fail;rw[<-z];have m:=k.trans l;refine(tJ _ _ b 1 _ (c.cz.ext l) C om om (by rw[show sz TK 1=1 from rfl];omega)).mono ?_;rw[s];rintro e _ ⟨_,rfl,J,p⟩;obtain⟨_,_,rfl,d,g⟩:=J;obtain⟨_,_,rfl⟩:=d.slice;obtain⟨_,_,rfl⟩:=g.slice;have K:=a8 d;have L:=a8 g;have:=k.size;clear d g;have h:=x.ext (m.trans p);obtain⟨_,_,_,-⟩:=h.cl [0,1,2];obtain⟨_,_,_,-⟩:=h.fl [0,1,2];go_wp2;refine l8 2 63 w 63 _ _ kr rfl (((h.set 0 _).set 1 _).set 2 _) underlying63 rfl kr rfl ?_;exact⟨_,rfl,⟨_,_,rfl,(K.out.chg (Chg.trans (Chg.trans (Chg.setCell _ w 0 _) (Chg.setCell _ w 1 _)) (Chg.setCell _ w 2 _)) om).mono om,(L.out.chg (Chg.trans (Chg.trans (Chg.setCell _ w 0 _) (Chg.setCell _ w 1 _)) (Chg.setCell _ w 2 _)) om).mono om⟩,(u.trans (m.trans p)).step (Chg.trans (Chg.trans (Chg.setCell _ w 0 _) (Chg.setCell _ w 1 _)) (Chg.setCell _ w 2 _)) om⟩
structure Sm where
 s:Nat
 g:Nat
 R:World->World->Prop
 U:World->World->Prop
 F:Value->World->Prop
def xC:List Sm->Nat->Option Sm
 | [],_=>none
 |x::l,k=>if k=x.s then some x else xC l k
variable{K:List Sm}{Q:Sm}
theorem oP(h:xC K b=some Q):Q∈K/\Q.s=b:=by
 induction K with
 |nil=>cases h
 |cons c K ih=>
  simp only[xC]at h;exact Tw0
def zH{S:Nat}(sts:List Sm)(L:List (PP S))(k:Nat)(v:Value)(w1:World):Prop:=
 match xC sts k with
 |some x=>x.F v w1
 |none=>(L.getD k kP).p v w1
theorem lW{d:List (PP b)}{f:Nat->Value}(g:lY (zH K d) f l E)(n c:Nat)
  (h:(match E[n]? with |some e=>Region.binds .any e&&e.on==c |none=>false)=true) (i:xC K c=none):(d.getD c kP).p (f c) l:=by
 have:=qH E n c h g;unfold zH at this;rw[i]at this;exact this
theorem endM{c:List (PP b)}{f:Nat->Value}{n:Nat}(hp:n5 (zH K c) f l n 0)(j:Nat)(d:j<n)(hs:xC K j=none):(c.getD j kP).p (f j) l:=by
 exact TM4
theorem ad7{c:List (PP b)}{f:Nat->Value}{n:Nat}(hp:n5 (zH K c) f l n 0)(j:Nat)(d:j<n)(hs:xC K j=some Q):Q.F (f j) l:=by
 exact TM4
def OweM{S:Nat}(P:Program)(fr:(Nat->Value)->Array Value)(df:List Deferred)(w:World)(sts:List Sm)(I:World->Prop)(L:List (PP S))(lates:List (Nat×Nat×Nat))(tmps:Array Value)(pre:List Nat)(k:Nat)(o:Oper):Prop:=
 ∀f w1,(if pre.contains k then Ext w w1 else mV (sts.map (·.g)) w w1)->lY (zH sts L) f w1 o.after.toList->oV tmps f k lates->
  match xC sts k with
  |some x=>I w1->x.U w w1->kM P o ⟨fr f,df⟩ f w1 (λa b=>x.R a b/\Chg x.g a b) (λv w2=>x.F v w2)
  |none=>kM P o ⟨fr f,df⟩ f w1 Ext (L.getD k kP).p
def SU{S:Nat}(P:Program)(fr:(Nat->Value)->Array Value)(df:List Deferred)(w:World)(sts:List Sm)(I:World->Prop)(L:List (PP S))(lates:List (Nat×Nat×Nat))(tmps:Array Value)(pre:List Nat):List Oper->Nat->Prop
 | [],_=>True
 |o::l,k=>OweM P fr df w sts I L lates tmps pre k o/\SU P fr df w sts I L lates tmps pre l (k+1)
theorem OX{r:Nat}{P:Program}{g:(Nat->Value)->Array Value}{i:List Deferred}{w:World}{j:List Sm}{k:World->Prop}{l:List (PP r)}{m:List (Nat×Nat×Nat)}{p:Array Value}{q:List Nat}:
  ∀(d:List Oper) (c:Nat),SU P g i w j k l m p q d c->∀b o,d[b]? =some o->OweM P g i w j k l m p q (c+b) o
 | [],_,_,b,o,h=>by simp at h
 |x::d,c,hs,b,o,h=>by
  cases b with
  |zero=>
   simp only[bL,Option.some.injEq]at h;subst h;exact hs.1
  |succ b=>
   have:=OX d (c+1) hs.2 b o (by simpa using h)
   rwa [show c+1+b=c+(b+1)by omega]at this
theorem K6{P:Program}{id:Nat}{D:Array Value}{J:List Deferred}{w:World}
  (c:List Sm) (r:World->Prop) (L:List (PP w)) (K:List (Nat×Nat×Nat)) (M:List Nat)
  (X:P.follows .mixedOrders=true) (N:(oQ z.toArray D.size&&pN z.toArray K&&(c.map (·.s)).all λs=>wD z.toArray [s] (M.filter (· !=s)))=true)
  (O:∀f,mJ z.toArray D f=I f)
  (Y:∀x∈c,x.g<w.heap.size) (Z:∀x∈c,xC c x.s=some x) (hL:∀a0∈L,a0.c=false)
  (a1:r w) (Q:∀b d,Ext b d->r b->r d) (a2:∀x∈c,∀b d,Chg x.g b d->x.R b d->r b->r d)
  (a3:∀x∈c,∀v b d,Ext b d->x.F v b->x.F v d) (a4:∀x∈c,∀m∈c,m.s≠x.s->∀v b d,Chg m.g b d->m.R b d->x.F v b->x.F v d)
  (a5:∀x∈c,x.U w w) (R:∀x∈c,∀b d,w.heap.size<=b.heap.size->Ext b d->x.U w b->x.U w d) (a6:∀x∈c,∀m∈c,m.s≠x.s->∀b d,w.heap.size<=b.heap.size->Chg m.g b d->m.R b d->x.U w b->x.U w d)
  (a7:∀b,mV (c.map (·.g)) w b->r b->(∀x∈c,x.U w b)->Ext w b)
  (a9:SU P I J w c r L K D M z 0)
  (b0:∀f b,mV (c.map (·.g)) w b->r b->n5 (zH c L) f b z.length 0->y .normal ⟨I f,J⟩ b):
  (Code.region id z.toArray true).wp P y ⟨D,J⟩ w:=by
 simp only[aU]at N;obtain⟨⟨b1,b2⟩,b3⟩:=N;have b4:∀k,(L.getD k kP).c=false:=λk=>wh7
 refine nN (D:=λ_ _ _=>True) (G:=λa A=>mV (c.map (·.g)) a A/\(a=w->r A)) (G0:=λs a A=>w.heap.size<=A.heap.size/\∀x,xC c s=some x->a=w->x.U w A)
  (R:=λi b d=>match xC c i with |some x=>x.R b d/\Chg x.g b d |none=>Ext b d) (post:=zH c L) X b1 (λ_=>trivial) ⟨(Ext.refl w).drew.chgS _,λ_=>Q _ _ (Ext.refl w).drew a1⟩ (λs=>⟨(Ext.refl w).drew.size,λx g _=>R x (oP g).1 _ _ lr (Ext.refl w).drew (a5 x (oP g).1)⟩) ?_ ?_ ?_ ?_ ?_
 .rintro i b d ⟨q,S⟩ h
  cases g:xC c i with
  |none=>rw [g]at h;exact⟨q.trans (h.chgS _),λl=>Q _ _ h (S l)⟩
  |some x=>rw [g]at h;exact⟨q.trans (h.2.chgS (bJ.2 ⟨x,(oP g).1,rfl⟩)),λl=>a2 x (oP g).1 _ _ h.2 h.1 (S l)⟩
 .rintro s i b d his ⟨E,T⟩ h
  cases g:xC c i with
  |none=>
   rw[g]at h;exact⟨aE E h.size,λm u l=>R m (oP u).1 _ _ E h (T m u l)⟩
  |some x=>
   rw[g]at h;refine⟨aE E h.2.size,λm u l=>a6 m (oP u).1 x (oP g).1 ?_ _ _ E h.2 h.1 (T m u l)⟩;rw[(oP u).2,(oP g).2];omega
 .rintro i j v b d _ ⟨q,_⟩ h p;unfold zH at p ⊢
  cases C:xC c j with
  |none=>
   rw[C]at h
   cases t:xC c i with
   |some x=>
    rw[t]at p;exact a3 x (oP t).1 _ _ _ h p
   |none=>
    rw[t]at p;exact(L.getD i kP).m _ _ _ h p
  |some x=>
   rw[C]at h
   cases t:xC c i with
   |some m=>
    rw[t]at p;refine a4 m (oP t).1 x (oP C).1 ?_ _ _ _ h.2 h.1 p;rw[(oP t).2,(oP C).2];omega
   |none=>
    rw[t]at p;exact(L.getD i kP).m2 (b4 i) _ (Y x (oP C).1) _ _ _ h.2 p
 .intro i o b5 _ f b _ _ _ q U p b6;have V:=OX z 0 a9 i o (by simpa using b5);rw[aY]at V;rw[O];have b7:(if M.contains i then Ext w b else mV (c.map (·.g)) w b):=by
   split
   .rename_i hpi;refine a7 b q.1 (q.2 rfl) λx g=> ?_
    have hxs:=cA.1 b3 x.s (bJ.2 ⟨x,g,rfl⟩);have b8:Anc z.toArray i x.s:=cS1;exact(U x.s b8).2 x (Z x g) rfl
   .exact q.1
  have F:=V f b b7 (rO _ λe b9 bA=>p e (bU.1 b9) bA) (pH b6 K b2);unfold zH
  cases g:xC c i with
  |none=>
   simp only[g]at F;exact kM.mono (λ_ l=>by simp only[g];exact l) (λv w' _ l=>⟨by simp only[g];exact l,trivial⟩) (λl=>⟨by simp only[g];exact l,trivial⟩) F
  |some x=>
   simp only[g]at F;have bB:=(U i .self).2 x g rfl;exact kM.mono (λw' l=>by simp only[g];exact l) (λv w' _ l=>⟨by simp only[g];exact l,trivial⟩) (λl=>⟨by simp only[g];exact l,trivial⟩) (F (q.2 rfl) bB)
 .intro f b q p _;rw[O];exact b0 f b q.1 (q.2 rfl) (pY _ _ λi _ bC=>p i (by simpa using bC))
def kX(vs:List Value):List Value:=vs.flatMap λv=>v.cells.toList
def pW(n:Nat)(vs:List Value):Prop:=∀v∈vs,∃cs:Array Value,v= .agg cs/\cs.size=n/\cs.all (·.oneCell')=true
theorem pW.size{n:Nat}{vs:List Value}(b:pW n vs):∀v∈vs,v.cells.size=n:=λv c=>by
 obtain⟨_,rfl,d, -⟩:=b v c;exact d
theorem pW.nil(n:Nat):pW n []:=λv b=>by cases b
theorem pW.app{n:Nat}{vs:List Value}(c:pW n vs)(d:pW n r):pW n (vs++r):=λv b=>by
 rcases aW.1 b with b |b
 .exact c v b
 .exact d v b
theorem pW.one{n:Nat}(c:m.size=n)(d:m.all (·.oneCell')=true):pW n [.agg m]:=λv b=>by
 rw[aC]at b;exact⟨m,b,c,d⟩
theorem pW.set{n:Nat}{vs:List Value}(c:pW n vs)(d:pW n [p])(g:Nat):pW n (vs.set g p):=λv b=>by
 rcases List.mem_or_eq_of_mem_set b with b |rfl
 .exact c v b
 .exact d _ (aC.2 rfl)
theorem mU{n:Nat}{vs:List Value}(b:∀v∈vs,v.cells.size=n):(kX vs).length=vs.length*n:=by
 induction vs with
 |nil=>simp [kX]
 |cons v vs c=>
  unfold kX at c ⊢;rw[iQ,aB,c λd g=>b d (aN _ g),cJ,b v (aT ..),bH,bX,fW];omega
theorem pF(vs b:List Value):kX (vs++b)=kX vs++kX b:=by simp[kX]
theorem yG{n:Nat}{vs:List Value}(c:∀v∈vs,v.cells.size=n)(b:Nat):(kX vs).take (b*n)=kX (vs.take b):=by
 rcases dH b vs.length with d |d
 .conv=>lhs;rw[<-bQ b vs,pF]
  rw[dN,aK]
  .rw[mU λg h=>c g (fU h),aP,eL om];exact lr
  .rw[mU λg h=>c g (fU h),aP,eL om];exact lr
 .rw[aK d,aK];rw[mU c];exact aJ _ d
theorem GL{n:Nat}{vs:List Value}(d:∀v∈vs,v.cells.size=n)(b:Nat):(kX vs).drop (b*n)=kX (vs.drop b):=by
 have g:=yG d b;have c:kX vs=kX (vs.take b)++kX (vs.drop b):=by rw[<-pF,bQ]
 rw[<-bQ (b*n) (kX vs),g]at c;exact List.append_cancel_left c
theorem xL{n:Nat}(r:0<n){vs:List Value}(d:∀v∈vs,v.cells.size=n){cs:Array Value}(g:vs[i]? =some (.agg cs))(b:Nat)(h:b<n):(kX vs)[i*n+b]? =cs[b]? :=by
 have c:=GL d i;have j:vs.drop i= .agg cs::vs.drop (i+1):=by
  obtain⟨k,l⟩:=aH.1 g;rw[dO k,l]
 rw[j]at c;have m:kX (Value.agg cs::vs.drop (i+1))=cs.toList++kX (vs.drop (i+1)):=rfl;rw[m]at c;have p:(kX vs)[i*n+b]? =((kX vs).drop (i*n))[b]? :=by rw[eF]
 have q:cs.size=n:=d _ (aM g);rw[p,c,bM (by rw[cJ,q];exact h),dX]
def pR(cur:List Value)(off:Nat)(cs:List Value):List Value:=cur.take off++cs++cur.drop (off+cs.length)
theorem yK{n:Nat}{vs rest:List Value}{v:Value}(b:∀v∈vs,v.cells.size=n)(c:i<vs.length)(d:v.cells.size=n):pR (kX vs++rest) (i*n) v.cells.toList=kX (vs.set i v)++rest:=by
 have g:v.cells.toList.length=n:=by rw[cJ,d]
 have h:i*n+n<=(kX vs).length:=by
  rw[mU b,<-dT];exact aJ _ c
 unfold pR;rw[g,dN om,List.drop_append_of_le_length h,yG b,show i*n+n=(i+1)*n by rw[dT],GL b,gX,if_pos c,pF];have j:kX (v::vs.drop (i+1))=v.cells.toList++kX (vs.drop (i+1)):=rfl;rw[j];simp only[aG]
def LS(e:TypeId)(n B:Nat)(w:World)(v:Value)(vs:List Value):Prop:=pW n vs/\w.ownsRow B e n v vs.length (kX vs)
section
variable {e:TypeId} {n B:Nat} {w w':World} {v:Value} {vs:List Value}
theorem LS.nil(e:TypeId)(n B:Nat)(w:World):LS e n B w () []:=⟨.nil n,gM _ _ _ _⟩
theorem LS.mono(c:LS e n B w v vs)(g:b<=B):LS e n b w v vs:=by
 refine⟨c.1,c.2.1,?_⟩;rcases c.2.2 with d |⟨h,i,j,k,d,l⟩
 .exact .inl d
 .exact .inr ⟨h,i,j,k,aE g d,l⟩
theorem LS.kept{b:Option Nat}(c:LS e n B w v vs)(d:w.grownBy w' b)(g:v.ownBlock=none∨v.ownBlock≠b):LS e n B w' v vs:=⟨c.1,c.2.kept d g⟩
theorem LS.ext(b:LS e n B w v vs)(c:Ext w w'):LS e n B w' v vs:=b.kept c (by
 cases d:v.ownBlock with
 |none=>exact .inl rfl
 |some g=>exact .inr sm)
theorem LS.chgT(c:LS e n B w v vs)(he:Chg b w w')(hp:Bx J w b m)(ht:J≠e):LS e n B w' v vs:=by
 refine⟨c.1,c.2.1,?_⟩;rcases c.2.2 with h2 |⟨g,cap,cur,h1,h2,h3,h4⟩
 .exact .inl h2
 .exact OB0
theorem LS.opn(k:LS e n B w v vs):∃i d,v= .slice i vs.length d/\vs.length<=d/\d<=9223372036854775807/\(∀b,v.ownBlock=some b->i=some ⟨b,0,none⟩/\B<=b/\b<w.heap.size/\∃l,Bx e w b l):=by
 rcases k.2.2 with⟨g,h⟩ |⟨b,d,_,g,h,j,m,p,_⟩
 .refine⟨none,0,by rw[g,h],om,om,λb c=> ?_⟩;rw[g]at c
  cases c
 .refine⟨_,d,g,m,by unfold maxLen at p;omega,λ_ c=> ?_⟩;rw[g]at c;simp only[Value.ownBlock,Option.some.injEq]at c;subst c;exact⟨rfl,h,qJ j,_,j⟩
theorem LS.hold(j:LS e n B w v vs)(r:0<vs.length):∃c b rest,v= .slice (some ⟨c,0,none⟩) vs.length b/\B<=c/\vs.length<=b/\b<=9223372036854775807/\vs.length*n+rest.length=b*n/\Bx e w c (kX vs++rest).toArray:=by
 rcases j.2.2 with⟨d,g⟩ |⟨c,b,h,d,g,k,i,l,m,p⟩
 .omega
 .refine⟨c,b,h.toList.drop (vs.length*n),d,g,i,by unfold maxLen at l;omega,?_,?_⟩
  .have q:h.toList.length=b*n:=by rw[cJ];exact m
   rw[cK,q];have:=aJ n i;omega
  .rw[<-p,bQ];exact k
theorem LS.of_hold{cap:Nat}{rest:List Value}(b:pW n vs)(d:B<=g)(h:vs.length<=cap)(k:cap<=9223372036854775807)(i:vs.length*n+rest.length=cap*n)(j:Bx e w g (kX vs++rest).toArray):LS e n B w (g,vs.length,cap) vs:=by
 have c:=mU b.size;refine⟨b,c,.inr ⟨g,cap,_,rfl,d,j,h,by unfold maxLen;omega,?_,?_⟩⟩
 .simp only[fV,aB,c];exact i
 .show(kX vs++rest).take (vs.length*n)=kX vs;rw[dN om,aK om]
theorem LS.at(r:0<n)(h:LS e n B w v vs)(j:vs[i]? =some u):∃b k,v= .slice (some ⟨b,0,none⟩) vs.length k/\B<=b/\∃c:Array Value,u= .agg c/\c.size=n/\c.all (·.oneCell')=true/\∀g,Ext w g->∀(d:Nat) (l:Value),c[d]? =some l->g.cell? ⟨b,i*n+d,none⟩=some l/\g.frozen? ⟨b,i*n+d,none⟩=false:=by
 obtain⟨_, -⟩:=aH.1 j;obtain⟨b,k,rest,s,t,_,_,_,x⟩:=h.hold om;obtain⟨c,rfl,m,y⟩:=h.1 u (aM j);refine⟨b,k,s,t,c,rfl,m,y,λg z d l p=> ?_⟩;have A:d<n:=by rw[<-m];exact(cN.1 p).1
 have q:=x.ext z;constructor
 .rw[cell_of_row g b _ _ _ _ q,eO,bM,xL r h.1.size j d A,p];exact ZA5
 .exact q.free _
end
theorem nR{P:Program}{w:World}{rest:List Oper}{o:Oper}{a:Act}(A:o.guard=none)(m p:Operand)(i:TypeId)
  (C:o.op= .call {callee:= .builtin .append,args:=#[m,p],argTypes:=#[i,i]})
  (e:TypeId) (n bytes B:Nat) (D:P.underlying i=some (.slice e)) (j:(P.info? e).map (λg=>(g.size,g.bytes))=some (n,bytes)) (q:((P.info? e).bind (·.zero)).map (λr=>r.cells.size)=some n) (E:0<n)
  (v:Value) (vs:List Value) (F:a.eval m=v) (u:LS e n B w v vs)
  (s:Addr) (b:Array Value) (I:a.eval p= .slice (some s) 1 1) (x:b.size=n) (J:∀(k:Nat) (d:Value),b[k]? =some d->w.cell? (s.add k)=some d) (z:b.all (·.oneCell')=true)
  (K:(vs.length+1)*bytes<=140737488355328) (V:vs.length+1<=140737488355328) (L:B<=w.heap.size)
  (M:∀c l w',LS e n B w' (.slice (some ⟨c,0,none⟩) (vs.length+1) l) (vs++ [.agg b])->w.grownBy w' v.ownBlock->(v.ownBlock=some c∨c=w.heap.size)->c<w'.heap.size->wpList P U y rest (a.put o.dst (.slice (some ⟨c,0,none⟩) (vs.length+1) l)) w'):
  wpList P U y (o::rest) a w:=by
 cases h:P.info? e with
 |none=>simp [h]at j
 |some g=>
  simp only[h,Option.map_some,Option.some.injEq,Prod.mk.injEq]at j
  cases t:g.zero with
  |none=>simp [h,t]at q
  |some r=>
   simp only[h,t,Option.bind_some,Option.map_some,Option.some.injEq]at q;refine wpList_append_lies w A m p i C B e g r n bytes D h t j.1 j.2 q E v vs.length (kX vs) F u.2 s 1 1 b.toList I (by rw[cJ,x,fW]) (λk d N=>J k d (by rwa [dX]at N)) (λd O=>gB.1 z d (bU.1 O)) om (by unfold maxLen;omega) K L _ rfl λc l w' Q R S T=> ?_
   refine M c l w' ⟨u.1.app (.one x z),?_⟩ R S T;rw[aB,pF];have:kX [Value.agg b]=b.toList:=by
    show b.toList++ []=_;rw[cF]
   rw[this];exact Q
theorem IsR.parts{w:World}{v:Value}(j:IsR w v k b):∃c d n g h l i,v= .agg #[.bool c,.slice d n g,.slice h l i]:=by
 obtain⟨n,_,⟨c,_,_,_,d0,rfl,⟨_,⟨d,g,rfl, -⟩, -⟩, -,⟨_,⟨h,i,rfl, -⟩, -⟩, -⟩, -⟩:=j;exact⟨_,_,_,_,_,_,_,rfl⟩
theorem oY{P:Program}{w:World}{rest:List Oper}{o:Oper}{a:Act}(z:o.guard=none)(j k:Operand)(g:TypeId)
  (A:o.op= .call {callee:= .builtin .append,args:=#[j,k],argTypes:=#[g,g]})
  (e:TypeId) (bytes B:Nat) (C:P.underlying g=some (.slice e)) (h:(P.info? e).map (λb=>(b.size,b.bytes))=some (1,bytes)) (l:((P.info? e).bind (·.zero)).map (λm=>m.cells.size)=some 1)
  (v:Value) (n:Nat) (p:List Value) (D:a.eval j=v) (E:w.ownsRow B e 1 v n p)
  (q:Addr) (i:Value) (F:a.eval k= .slice (some q) 1 1) (I:∀(t:Nat) (r:Value),[i][t]? =some r->w.cell? (q.add t)=some r) (J:i.oneCell'=true)
  (K:(n+1)*bytes<=140737488355328) (N:n+1<=140737488355328) (L:B<=w.heap.size)
  (M:∀c u w',w'.ownsRow B e 1 (.slice (some ⟨c,0,none⟩) (n+1) u) (n+1) (p++ [i])->w.grownBy w' v.ownBlock->(v.ownBlock=some c∨c=w.heap.size)->c<w'.heap.size->wpList P U y rest (a.put o.dst (.slice (some ⟨c,0,none⟩) (n+1) u)) w'):
  wpList P U y (o::rest) a w:=by
 cases d:P.info? e with
 |none=>simp [d]at h
 |some b=>
  simp only[d,Option.map_some,Option.some.injEq,Prod.mk.injEq]at h
  cases s:b.zero with
  |none=>simp [d,s]at l
  |some m=>
   simp only[d,s,Option.bind_some,Option.map_some,Option.some.injEq]at l;exact wpList_append_lies w z j k g A B e b m 1 bytes C d s h.1 h.2 l om v n p D E q 1 1 [i] F rfl I (λr x=>by rw[aC]at x;rw[x];exact J) om (by unfold maxLen;omega) K L _ rfl M
theorem vP(w:World)(g:TypeId)(c:Array Value):∀(b:Nat) (d:Value),c[b]? =some d->(w.alloc (.cells c g)).cell? ((⟨w.heap.size,0,none⟩:Addr).add b)=some d:=by
 intro b d h;rw[Addr.add_lit,aY,(Bx.new w g c).cell b];exact h
theorem Ext.stepG{a w w':World}{c:Option Nat}(d:Ext a w)(g:w.grownBy w' c)(h:∀b,c=some b->a.heap.size<=b):Ext a w':=by
 cases c with
 |none=>exact d.trans g
 |some b=>exact d.step g (h b rfl)
def Ris{α:Type}(key:α->Int)(l:List α):Prop:=l.Pairwise λx y=>key x<=key y
section
variable {α:Type} {key:α->Int}
theorem Ris.nil:Ris key ([]:List α):=List.Pairwise.nil
theorem Ris.one(b:α):Ris key [b]:=fZ _ _
theorem tY{b c:List α}:Ris key (b++c)↔Ris key b/\Ris key c/\∀d∈b,∀g∈c,key d<=key g:=eI
theorem Ris.of_short{b:List α}(c:b.length<=1):Ris key b:=by
 match b,c with
 | [],_=>exact .nil
 | [x],_=>exact .one x
theorem Ris.take{b:List α}(d:Ris key b)(c:Nat):Ris key (b.take c):=List.Pairwise.sublist (List.take_sublist c b) d
theorem Ris.drop{b:List α}(d:Ris key b)(c:Nat):Ris key (b.drop c):=List.Pairwise.sublist (List.drop_sublist c b) d
theorem Ris.le{b:List α}(c:Ris key b){x y:α}(d:i<=j)(g:b[i]? =some x)(h:b[j]? =some y):key x<=key y:=by
 obtain⟨k,rfl⟩:=aH.1 g;obtain⟨l,rfl⟩:=aH.1 h;rcases aI d with rfl |m
 .exact iP _
 .exact iN.1 c i j k l m
theorem TG{i g:List α}(m:Ris key i)(p:Ris key g)(h d:Nat)(j:h=0∨g.length<=d∨∃b c,i[h - 1]? =some b/\g[d]? =some c/\key b<=key c):∀b∈i.take h,∀c∈g.drop d,key b<=key c:=by
 intro b q c r;obtain⟨s,t,k⟩:=i9.1 q;obtain⟨u,x,l⟩:=i9.1 r;rw[aP]at t;rw[cK]at x;rcases j with j |j |⟨_,v,y,z,_⟩
 .omega
 .omega
 .rw[List.getElem_take]at k;rw[List.getElem_drop]at l;have:=m.le (i:=s) (j:=h - 1) (x:=b) om (aH.2 ⟨om,k⟩) y;have:=p.le (i:=d) (j:=d+u) (y:=c) om z (aH.2 ⟨om,l⟩);omega
theorem ag2{b c M1 l:List α}(m:Ris key b)(p:Ris key c)(d g:Nat)
  (s:d=0∨c.length<=g∨∃h i,b[d - 1]? =some h/\c[g]? =some i/\key h<=key i)
  (t:g=0∨b.length<=d∨∃h i,c[g - 1]? =some h/\b[d]? =some i/\key h<=key i)
  (q:M1.Perm (b.take d++c.take g)) (r:l.Perm (b.drop d++c.drop g)) (u:Ris key M1) (x:Ris key l):(M1++l).Perm (b++c)/\Ris key (M1++l):=by
 constructor
 .refine(q.append r).trans ?_;refine(List.Perm.trans ?_ (List.Perm.of_eq (show(b.take d++b.drop d)++(c.take g++c.drop g)=b++c by rw[bQ,bQ])));simp only[aG];refine List.Perm.append_left _ ?_;rw[<-aG,<-aG];exact List.Perm.append_right _ jF
 .refine tY.2 ⟨u,x,λh y i z=> ?_⟩;have j:=q.mem_iff.1 y;have k:=r.mem_iff.1 z;rcases aW.1 j with j |j<;>rcases aW.1 k with k |k
  .have:=m;rw[<-bQ d b]at this;exact(tY.1 this).2.2 h j i k
  .exact TG m p d g s h j i k
  .exact TG p m g d t h j i k
  .have:=p;rw[<-bQ g c]at this;exact(tY.1 this).2.2 h j i k
theorem YA{L:List α}{y:α}(k:Ris key L)(c:Nat)(g:c=0∨∃b,L[c - 1]? =some b/\key b<=key y)(h:L.length<=c∨∃b,L[c]? =some b/\key y<=key b):Ris key (L.take c++ [y]++L.drop c):=by
 have l:Ris key [y]:= .one y;have q:=TG k l c 0 (by
  rcases g with g |⟨b,g,m⟩
  .exact .inl g
  .exact .inr (.inr ⟨b,y,g,rfl,m⟩))
 have r:=TG l k 1 c (by
  rcases h with h |⟨b,h,m⟩
  .exact .inr (.inl h)
  .exact .inr (.inr ⟨y,b,rfl,h,m⟩))
 have p:=k;rw[<-bQ c L]at p;obtain⟨s,t,u⟩:=tY.1 p;refine tY.2 ⟨tY.2 ⟨s,l,λb d i j=>q b d i j⟩,t,λb d i j=> ?_⟩;rcases aW.1 d with d |d
 .exact u b d i j
 .exact r b d i j
theorem BU{L:List α}{y:α}(b:Nat):(L.take b++ [y]++L.drop b).Perm (L++ [y]):=by
 refine(List.Perm.trans ?_ (List.Perm.of_eq (show L.take b++(L.drop b++ [y])=L++ [y]by rw[<-aG,bQ])));rw[aG];exact List.Perm.append_left _ jF
theorem WD{P g h:List α}{i c:α}(j:d=P.length)(l:b=P.length+1+g.length):((P++i::(g++c::h)).set d c).set b i=P++c::(g++i::h):=by
 subst j;have k:(P++i::(g++c::h)).set P.length c=P++c::(g++c::h):=by
  rw[gJ _ _ lr,gE,aZ]
 rw[k,gJ _ _ om,show b - P.length=g.length+1 by omega,aV,gJ _ _ lr,gE,aZ]
inductive Blk (key:α->Int) (bs:Nat):List α->Prop
 |short (l:List α):l.length<=bs->Ris key l->Blk key bs l
 |cons (c l:List α):c.length=bs->Ris key c->Blk key bs l->Blk key bs (c++l)
inductive Ful (key:α->Int) (bs:Nat):List α->Prop
 |nil:Ful key bs []
 |snoc (l c:List α):c.length=bs->Ris key c->Ful key bs l->Ful key bs (l++c)
theorem Ful.blk{d c:List α}(h:Ful key b d)(g:Blk key b c):Blk key b (d++c):=by
 induction h generalizing c with
 |nil=>exact g
 |snoc d i j k _ l=>
  rw[aG];exact l (.cons i c j k g)
theorem Blk.first{d:List α}(j:Blk key b d)(l:0<b)(m:b<=d.length):∃c g,d=c++g/\c.length=b/\Ris key c/\Blk key b g:=by
 cases j with
 |short _ i h=>exact ⟨d,[],sm,om,h,.short _ zl .nil⟩
 |cons c g i h k=>exact ⟨c,g,rfl,i,h,k⟩
theorem Blk.all{c:List α}(g:Blk key b c)(k:0<b)(h:c.length<=b):Ris key c:=by
 cases g with
 |short _ i d=>exact d
 |cons l j i d m=>
  have:j=[]:=aL (by rw[aB]at h;omega);subst this;rw[cF];exact d
end
theorem KQ{n:Nat}:∀{vs us:List Value},pW n vs->pW n us->vs.length=us.length->kX vs=kX us->vs=us
 | [],[],_,_,_,_=>rfl
 | [],_::_,_,_,h,_=>by simp at h
 |_::_,[],_,_,h,_=>by simp at h
 |v::vs,u::us,h1,h2,h3,h4=>by
  obtain⟨c,rfl,i, -⟩:=h1 v (aT ..);obtain⟨d,rfl,j, -⟩:=h2 u (aT ..);unfold kX at h4;rw[iQ,iQ]at h4;have g:=List.append_inj h4 (by show c.toList.length=d.toList.length;rw[cJ,cJ,i,j]);have k:c=d:=Array.toList_inj.1 g.1;rw[KQ (vs:=vs) (us:=us) (λv b=>h1 v (aN _ b)) (λv b=>h2 v (aN _ b)) (by simpa using h3) g.2,k]
def sH(e:TypeId)(n g:Nat)(rest:List Value)(w:World)(vs:List Value):Prop:=pW n vs/\Bx e w g (kX vs++rest).toArray
section
variable {e:TypeId} {n:Nat}
theorem sH.inj{rest:List Value}{w:World}{vs:List Value}(g:sH e n b rest w vs)(h:sH e n b rest w r)(i:vs.length=r.length):vs=r:=by
 obtain⟨j,d⟩:=g;obtain⟨k,c⟩:=h;unfold Bx at d c;rw[d]at c;simp only[Option.some.injEq,Obj.cells.injEq,and_true]at c;have:=congrArg Array.toList c;simp only[List.append_cancel_right_eq]at this;exact KQ j k i this
theorem sH.ext{b:Nat}{rest:List Value}{w w':World}{vs:List Value}(c:sH e n b rest w vs)(d:Ext w w'):sH e n b rest w' vs:=⟨c.1,c.2.ext d⟩
theorem sH.cell{rest:List Value}{w:World}{vs:List Value}(j:0<n)(h:sH e n b rest w vs){i:Nat}(d:vs[i]? =some (.agg m)):∀(c:Nat) (v:Value),m[c]? =some v->w.cell? (b,i*n+c)=some v:=by
 intro c v g;obtain⟨_,k,l, -⟩:=h.1 _ (aM d)
 cases k
 have p:c<n:=by rw[<-l];exact(cN.1 g).1
 have:=(aH.1 d).1;rw[cell_of_row w b _ _ _ _ h.2,eO,bM,xL j h.1.size d c p,g];exact ZA5
theorem uO{P:Program}(w:World)(c d:Nat)(j h:TypeId)(g:List Value)(b:Array Value)(m:w.heap[c]? =some (.cells g.toArray j (0,0)))(k:(P.info? h).map (·.size)=some b.size)(p:d+b.size<=g.length)(q:b.all (·.oneCell')=true):
  (storeVar h ⟨c,d,none⟩ (.agg b)).run P w= .ok () (w.setRow c (pR g d b.toList).toArray):=by
 have l:=run_storeCells_at P c d j b.toList 0 g.toArray w m (by simpa using p) (λr s=>by
  have:=gB.1 q r (bU.1 s);exact this)
 cases i:P.info? h with
 |none=>simp [i]at k
 |some t=>
  have u:t.size=b.size:=by simpa[i]using k
  have x:(Value.agg b).cells=b:=rfl;simp only[bZ]at l;simp[storeVar,sizeOf,typeInfo,i,x,u,pR,l]
def stS(e:TypeId)(n g N:Nat)(rest vs:List Value)(s i:Nat)(v:Value):Sm:=
 ⟨s,g,λa b=>∀us,us.length=N->sH e n g rest a us->sH e n g rest b (us.set i v),λ_ b=>∃us,us.length=N/\sH e n g rest b us/\us[i]? =vs[i]?,λ_ b=>∃us,us.length=N/\sH e n g rest b us/\us[i]? =some v⟩
def inS(e:TypeId)(n g N:Nat)(rest vs:List Value)(i k:Nat)(b:World):Prop:=∃us,us.length=N/\sH e n g rest b us/\∀j,j≠i->j≠k->us[j]? =vs[j]?
theorem A5{P:Program}{o:Oper}{a:Act}{f:Nat->Value}{w:World}(c h:Nat)(rest vs:List Value)(l b x y:Nat)(v:Value)(i:TypeId)(m p:Operand)(z:o.guard=none)(A:o.op= .store i m p)(C:a.eval m=(c,b*n))(D:a.eval p=v)
  (R:b<h) (E:(P.info? i).map (·.size)=some n) (q:pW n [v]) (F:inS e n c h rest vs x y w):kM P o a f w (λa r=>(stS e n c h rest vs l b v).R a r/\Chg c a r) (λI J=>(stS e n c h rest vs l b v).F I J):=by
 obtain⟨j,K,d, -⟩:=F;obtain⟨g,rfl,k,L⟩:=q v (aC.2 rfl);have M:=mU d.1.size;have N:=aJ n (show b+1<=j.length by omega);rw[dT]at N;have s:=uO (P:=P) w c (b*n) e i _ g d.2 (by rw[k];exact E) (by rw[aB,M,k];omega) L;have t:=yK (rest:=rest) (i:=b) (v:= .agg g) d.1.size om k;have O:(Value.agg g).cells=g:=rfl;rw[O]at t;rw[t]at s;have u:sH e n c rest (w.setRow c (kX (j.set b (.agg g))++rest).toArray) (j.set b (.agg g)):=⟨d.1.set q b,d.2.setRow _⟩;unfold kM;rw[z];unfold Oper.wp execOp;simp only[A,C,D,Instr.storeAt,Instr.sureAddr,Sem.run_bind,Sem.run_pure,Result.andThen_ok,s];refine⟨_,rfl,⟨λ_ _ Q=> ?_,Chg.setRow w c _⟩,_,by rw[cI];exact K,u,by rw[fK om]⟩;rw[Q.inj d om];exact u
theorem tP{P:Program}{id:Nat}{w:World}
  (b c g h l p:Nat) (rest vs:List Value) (r s:Value) (K:List (PP w)) (N:List (Nat×Nat×Nat)) (O:List Nat)
  (b1:P.follows .mixedOrders=true) (b2:(oQ z.toArray m.size&&pN z.toArray N&&([stS e n b c rest vs l g s,stS e n b c rest vs p h r].map (·.s)).all λa3=>wD z.toArray [a3] (O.filter (· !=a3)))=true)
  (b3:∀f,mJ z.toArray m f=I f)
  (hik:g≠h) (b4:l≠p) (a4:vs.length=c) (L:sH e n b rest w vs) (bE:g<c) (bG:h<c) (b5:∀D∈K,D.c=false)
  (b6:SU P I F w [stS e n b c rest vs l g s,stS e n b c rest vs p h r] (inS e n b c rest vs g h) K N m O z 0)
  (b7:∀f q,Chg b w q->sH e n b rest q ((vs.set g s).set h r)->n5 (zH [stS e n b c rest vs l g s,stS e n b c rest vs p h r] K) f q z.length 0->y .normal ⟨I f,F⟩ q)
  (b8:l<z.length) (b9:p<z.length):
  (Code.region id z.toArray true).wp P y ⟨m,F⟩ w:=by
 have bA:=qJ L.2;have x:∀d∈ [stS e n b c rest vs l g s,stS e n b c rest vs p h r],d=stS e n b c rest vs l g s∨d=stS e n b c rest vs p h r:=λd i=>by simpa using i
 have a5:xC [stS e n b c rest vs l g s,stS e n b c rest vs p h r] l=some (stS e n b c rest vs l g s):=by simp[xC,stS]
 have a6:xC [stS e n b c rest vs l g s,stS e n b c rest vs p h r] p=some (stS e n b c rest vs p h r):=by simp[xC,stS,Ne.symm b4]
 have getset:∀(us:List Value) (D M:Nat) (v:Value),M≠D->(us.set D v)[M]? =us[M]? :=λus D M v a7=>jM om
 refine K6 [stS e n b c rest vs l g s,stS e n b c rest vs p h r] (inS e n b c rest vs g h) K N O b1 b2 b3 ?_ ?_ b5 ⟨vs,a4,L,λ_ _ _=>rfl⟩ ?_ ?_ ?_ ?_ ?_ ?_ ?_ ?_ b6 ?_
 .intro d i;rcases x d i with rfl |rfl<;>exact bA
 .intro d i;rcases x d i with rfl |rfl
  .exact a5
  .exact a6
 .rintro q E J ⟨us,h1,h2,h3⟩;exact⟨us,h1,h2.ext J,h3⟩
 .intro d i q E a9 hR Q;obtain⟨us,h1,h2,h3⟩:=Q;rcases x d i with rfl |rfl
  .exact⟨_,by rw[cI];exact h1,hR us h1 h2,λj k t=>by rw[getset _ _ _ _ k];exact h3 j k t⟩
  .exact⟨_,by rw[cI];exact h1,hR us h1 h2,λj k t=>by rw[getset _ _ _ _ t];exact h3 j k t⟩
 .intro d i v q E J hF;rcases x d i with rfl |rfl<;>(obtain⟨us,h1,h2,h3⟩:=hF;exact⟨us,h1,h2.ext J,h3⟩)
 .intro d i R S A v q E a9 hR hF;rcases x d i with rfl |rfl<;>rcases x R S with rfl |rfl
  .exact absurd rfl A
  .obtain⟨us,h1,h2,h3⟩:=hF;exact MD9
  .obtain⟨us,h1,h2,h3⟩:=hF;exact wB9
  .exact absurd rfl A
 .intro d i;rcases x d i with rfl |rfl<;>exact ⟨vs,a4,L,rfl⟩
 .intro d i q E _ J C;rcases x d i with rfl |rfl<;>(obtain⟨us,h1,h2,h3⟩:=C;exact⟨us,h1,h2.ext J,h3⟩)
 .intro d i R S A q E _ a9 hR C;rcases x d i with rfl |rfl<;>rcases x R S with rfl |rfl
  .exact absurd rfl A
  .obtain⟨us,h1,h2,h3⟩:=C;exact MD9
  .obtain⟨us,h1,h2,h3⟩:=C;exact wB9
  .exact absurd rfl A
 .rintro q u ⟨us,h1,h2,h3⟩ C;obtain⟨bB,bC,T,U⟩:=C (stS e n b c rest vs l g s) sm;obtain⟨V,bD,X,Y⟩:=C (stS e n b c rest vs p h r) sm;have Z:=T.inj h2 om;have a0:=X.inj h2 om;subst Z a0;have a1:V=vs:=by
   apply fT;intro j;by_cases k:j=g
   .rw[k];exact U
   .by_cases t:j=h
    .rw[t];exact Y
    .exact h3 j k t
  subst a1;refine⟨u.1,u.2.1,u.2.2.1,u.2.2.2.1,λj k _=> ?_⟩;by_cases b0:j=b
  .rw[b0];exact h2.2.trans L.2.symm
  .exact u.2.2.2.2 j k (by simp[stS];exact b0)
 .intro f q u Q a2;obtain⟨us,h1,h2,h3⟩:=Q;obtain⟨bB,bC,T,U⟩:=ad7 a2 l b8 a5;obtain⟨V,bD,X,Y⟩:=ad7 a2 p b9 a6;have Z:=T.inj h2 om;have a0:=X.inj h2 om;subst Z a0;have a1:V=(vs.set g s).set h r:=by
   apply fT;intro j;by_cases t:j=h
   .rw[t,fK (by rw[cI];omega)];exact Y
   .rw[getset _ _ _ _ t];by_cases k:j=g
    .rw[k,fK om];exact U
    .rw[getset _ _ _ _ k];exact h3 j k t
  refine b7 f q ⟨u.1,u.2.1,u.2.2.1,u.2.2.2.1,λj k A=>u.2.2.2.2 j k (by simp[stS];exactλa7=>A (by rw[a7]))⟩ (a1▸h2) a2
end
theorem A4{P:Program}{o:Oper}{a:Act}{f:Nat->Value}{w:World}{post:Value->World->Prop}{b:Func}(c:FuncId)(d:Operand)(g:Array Operand)(h:Array TypeId)(args:Array Value)(i:P.funcs[c]? =some b)(j:(b.name== "runtime.NumGoroutine")=false)(k:b.body.isNone=false)(l:o.guard=none)(m:o.op= .call {callee:= .value d,args:=g,argTypes:=h})
  (p:a.eval d= .func (.func c) #[] #[]) (q:g.map a.eval=args) (hc:Calls P c args w λe w'=>∃v,e= .returned v/\Ext w w'/\post v w'):kM P o a f w Ext post:=by
 unfold kM;rw[l];unfold Oper.wp;have hrun:(execOp a.eval o).run P w= .ok (.enter c args) w:=by
  subst q;have h1:b.name≠ "runtime.NumGoroutine" :=by simpa using j
  have h2:¬b.body=none:=by intro r;simp[r]at k
  simp[execOp,m,resolve,p,Deferred.ofValue,invoke,callFunc,i,h1,h2]
 exact sK7
theorem mS{P:Program}{o:Oper}{a:Act}{f:Nat->Value}{w:World}{post:Value->World->Prop}(d:o.guard=some (b,t))(g:f b=Y)(h:Y≠t)(i:post undef w):kM P o a f w N post:=by
 unfold kM;rw[d];exact⟨λc=>absurd (by rw[g]at c;cases c;rfl) h,λ_=>i⟩
theorem LV{P:Program}(w:World)(base:Nat)(i k e:TypeId)(c:TypeInfo)(p:Value)(size bytes:Nat)(q:P.underlying i=some (.slice e))(r:P.info? e=some c)(y:c.zero=some p)
  (E:c.size=size) (F:c.bytes=bytes) (v:Value) (n:Nat) (s:List Value) (t:w.ownsRow base e size v n s)
  (a:Addr) (b l:Nat) (g:List Value) (m:g.length=b*size) (u:∀j h,g[j]? =some h->w.cell? (a.add j)=some h) (I:∀h∈g,h.oneCell'=true)
  (Q:0<b) (J:n+b<=maxLen) (z:(n+b)*bytes<=140737488355328) (A:Value) (w':World) (hrun:(Builtin.append_ #[i,i] k #[v,.slice (some a) b l]).run P w= .ok A w'):
  ∀d,A.ownBlock=some d->v.ownBlock=some d∨w.heap.size<=d:=by
 subst E F;have:n+b<=9223372036854775807:=by simp only[maxLen]at J;omega
 intro _ hg0;rcases t.2 with⟨rfl,rfl⟩ |⟨d,x,C,rfl,_,K,_,_,L,_⟩
 .have hr:=run_append_nil (P:=P) w i k e c p q r y a b l g m u om om (by have M:=z;simp only[aY]at M;omega);exact ta5
 .by_cases D:n+b<=x
  .have N:n*c.size+g.length<=C.size:=by rw[m,L,<-bX];exact aJ _ D
   have hr:=run_append_room (P:=P) w i k e c q r d n x C K a b l g m u I D N;rw[hr]at hrun
   cases hrun
   exact .inl hg0
  .have O:∀j h,s[j]? =some h->w.cell? ((⟨d,0,none⟩:Addr).add j)=some h:=t.cells (g:=d) rfl;have hr:=run_append_grow (P:=P) w i k e c p q r y ⟨d,0,none⟩ n x s t.1 O a b l g m u om om (growslice_fits om z);exact ta5
theorem oI{P:Program}{o:Oper}{a:Act}{f:Nat->Value}{w:World}{post:Value->World->Prop}(t u:Operand)(i:TypeId)(K:o.guard=none)(L:o.op= .call {callee:= .builtin .append,args:=#[t,u],argTypes:=#[i,i]})
  (base:Nat) (e:TypeId) (size bytes:Nat) (x:P.underlying i=some (.slice e)) (d:(P.info? e).map (λg=>(g.size,g.bytes))=some (size,bytes)) (j:((P.info? e).bind (·.zero)).map (·.cells.size)=some size) (M:0<size)
  (v:Value) (n:Nat) (k:List Value) (O:a.eval t=v) (y:w.ownsRow base e size v n k)
  (l:Addr) (b r:Nat) (h:List Value) (Q:a.eval u= .slice (some l) b r) (z:h.length=b*size) (A:∀C m,h[C]? =some m->w.cell? (l.add C)=some m) (D:∀m∈h,m.oneCell'=true)
  (R:0<b) (E:n+b<=maxLen) (F:(n+b)*bytes<=140737488355328) (S:base<=w.heap.size)
  (T:∀c w',w'.ownsRow base e size c (n+b) (k++h)->w.grownBy w' v.ownBlock->(∀s,c.ownBlock=some s->v.ownBlock=some s∨w.heap.size<=s)->N w w'/\post c w'):kM P o a f w N post:=by
 unfold kM;rw[K]
 cases p:P.info? e with
 |none=>simp [p]at d
 |some g=>
  simp only[p,Option.map_some,Option.some.injEq,Prod.mk.injEq,Option.bind_some]at d j
  cases q:g.zero with
  |none=>rw [q]at j;cases j
  |some I=>
   rw[q]at j;obtain⟨c,w',J,U,V, -⟩:=run_append_own (P:=P) w base i o.type e g I size bytes x p q d.1 d.2 (by simpa using j) M v n k y l b r h z A D E F S;have X:=LV w base i o.type e g I size bytes x p q d.1 d.2 v n k y l b r h z A D R E F c w' J;unfold Oper.wp;simp[execOp,L,resolve,invoke,builtin,O,Q,J,Result.andThen];exact⟨c,rfl,T c w' U V X⟩
def uS{S:Nat}(s1:Nat)(F:Value->World->Prop)(L:List (PP S))(k:Nat)(v:Value)(w1:World):Prop:=
 if k=s1 then F v w1 else(L.getD k kP).p v w1
theorem lO{g:List (PP d)}{f:Nat->Value}(h:lY (uS b X g) f l E)(n c:Nat)
  (i:(match E[n]? with |some e=>Region.binds .any e&&e.on==c |none=>false)=true) (j:(c==b)=false):(g.getD c kP).p (f c) l:=by
 have:=qH E n c i h;unfold uS at this;rw[if_neg (by simpa using j)]at this;exact this
def OR(k s1 s2:Nat):Option Bool:=if k=s1 then some true else if k=s2 then some false else none
def OweO{S:Nat}(P:Program)(fr:(Nat->Value)->Array Value)(df:List Deferred)(w:World)(gA s1 s2:Nat)(F:Value->World->Prop)(L:List (PP S))(lates:List (Nat×Nat×Nat))(tmps:Array Value)(pre:List Nat)(k:Nat)(o:Oper):Prop:=
 ∀f w1,(if pre.contains k then Ext w w1 else Chg gA w w1)->lY (uS s1 F L) f w1 o.after.toList->oV tmps f k lates->
  match OR k s1 s2 with
  |some true=>kM P o ⟨fr f,df⟩ f w1 (Chg gA) F
  |some false=>kM P o ⟨fr f,df⟩ f w1 Ext (λv _=>v=f s1)
  |none=>kM P o ⟨fr f,df⟩ f w1 Ext (L.getD k kP).p
def WR{S:Nat}(P:Program)(fr:(Nat->Value)->Array Value)(df:List Deferred)(w:World)(gA s1 s2:Nat)(F:Value->World->Prop)(L:List (PP S))(lates:List (Nat×Nat×Nat))(tmps:Array Value)(pre:List Nat):List Oper->Nat->Prop
 | [],_=>True
 |o::l,k=>OweO P fr df w gA s1 s2 F L lates tmps pre k o/\WR P fr df w gA s1 s2 F L lates tmps pre l (k+1)
theorem OY{t:Nat}{P:Program}{g:(Nat->Value)->Array Value}{i:List Deferred}{w:World}{j k l:Nat}{m:Value->World->Prop}{p:List (PP t)}{q:List (Nat×Nat×Nat)}{r:Array Value}{s:List Nat}:
  ∀(d:List Oper) (c:Nat),WR P g i w j k l m p q r s d c->∀b o,d[b]? =some o->OweO P g i w j k l m p q r s (c+b) o
 | [],_,_,b,o,h=>by simp at h
 |x::d,c,hs,b,o,h=>by
  cases b with
  |zero=>
   simp only[bL,Option.some.injEq]at h;subst h;exact hs.1
  |succ b=>
   have:=OY d (c+1) hs.2 b o (by simpa using h)
   rwa [show c+1+b=c+(b+1)by omega]at this
theorem qZ{P:Program}{id:Nat}{w:World}
  (g s1 d:Nat) (p:Value->World->Prop) (L:List (PP w.heap.size)) (u:List (Nat×Nat×Nat)) (x:List Nat)
  (T:P.follows .mixedOrders=true) (K:(oQ z.toArray m.size&&pN z.toArray u&&wD z.toArray [s1] (x.filter (· !=s1))&&(decide (z.length<=d) || wD z.toArray [d] [s1]))=true)
  (M:∀f,mJ z.toArray m f=I f)
  (hss:s1≠d) (U:g<w.heap.size) (hF:∀N c h,Ext c h->p N c->p N h) (hL:∀V∈L,V.c=false) (O:∀v w,(L.getD d kP).p v w)
  (X:WR P I F w g s1 d p L u m x z 0)
  (Y:∀f c,Chg g w c->p (f s1) c->(d<z.length->f d=f s1)->n5 (uS s1 p L) f c z.length 0->y .normal ⟨I f,F⟩ c)
  (Z:s1<z.length):
  (Code.region id z.toArray true).wp P y ⟨m,F⟩ w:=by
 simp only[aU]at K;obtain⟨⟨⟨a0,a1⟩,a2⟩,a3⟩:=K;have a4:∀k,(L.getD k kP).c=false:=λk=>wh7
 have a5:d<z.length->Anc z.toArray s1 d:=λh2=>by
  rcases fQ .. ▸a3 with b |b
  .have:=of_decide_eq_true b;omega
  .exact wW _ [d] (λr j=>by rw[show r=d by simpa using j];exact .self) b s1 sm
 refine nN (D:=λs f _=>s d=true->d<z.length->s s1=true/\f d=f s1) (G:=λa A=>Chg g a A) (G0:=λC a A=>C=s1->Ext a A)
  (R:=λi c h=>if i=s1 then Chg g c h else Ext c h) (post:=uS s1 p L) T a0 (λ_ b=>by cases b) (((Ext.refl w).drew).chg g) (λC _=>(Ext.refl w).drew) ?_ ?_ ?_ ?_ ?_
 .intro i c h l hR;by_cases hi:i=s1
  .simp only[hi,if_true]at hR;exact l.trans hR
  .simp only[hi,if_false]at hR;exact l.trans (hR.chg g)
 .intro C i c h t b hR a6;subst a6;simp only[t,if_false]at hR;exact(b rfl).trans hR
 .intro i r v c h a7 l hR hp;unfold uS at hp ⊢;by_cases j:r=s1
  .simp only[j,if_true]at hR;have hi:i≠s1:=λb=>a7 (by rw[b,j])
   simp only[hi,if_false]at hp ⊢;exact(L.getD i kP).m2 (a4 i) _ U _ _ _ hR hp
  .simp only[j,if_false]at hR;exact BQ8
 .intro i o Q s f c hli a9 hD l b0 hp b1;have R:=OY z 0 X i o (by simpa using Q);have b2:i<z.length:=by
   have:=(cN.1 Q).1;simpa using this
  rw[aY]at R;rw[M];have b3:(if x.contains i then Ext w c else Chg g w c):=by
   split
   .rename_i b4;have b5:Anc z.toArray i s1:=by
     by_cases t:i=s1
     .rw[t];exact .self
     .refine wW _ [s1] (λr j=> ?_) a2 i (dV.2 ⟨by simpa using b4,by simpa using t⟩);have:r=s1:=by simpa using j
      rw[this];exact .self
    exact b0 s1 b5 rfl
   .exact l
  have q:=R f c b3 (rO _ λe b6 D=>hp e (bU.1 b6) D) (pH b1 u a1);unfold uS;by_cases h1:i=s1
  .subst h1;simp only[OR,if_true]at q;refine kM.mono (λw' b=>by simp only[if_true];exact b) (λv w' _ b=>⟨by simp only[if_true];exact b,λh2 h3=> ?_⟩) (λb=>⟨by simp only[if_true];exact b,λh2 h3=> ?_⟩) q
   .exact Ix2
   .exact Ix2
  .by_cases h2:i=d
   .subst h2;simp only[OR,h1,if_false,if_true]at q;have D:=a9 s1 (a5 b2) hss;have S:∀v,v=f s1->(if s1=i then true else s s1)=true/\(if i=i then v else f i)=(if s1=i then v else f s1):=λv b7=>by
     simp only[hss,if_false,if_true];exact⟨D,b7⟩
    exact kM.mono (λw' b=>by simp only[h1,if_false];exact b) (λv w' _ b=>⟨by simp only[h1,if_false];exact O v w',λ_ _=>S v b⟩) (λb=>⟨by simp only[h1,if_false];exact O undef c,λ_ _=>S undef b⟩) q
   .simp only[OR,h1,h2,if_false]at q;refine kM.mono (λw' b=>by simp only[h1,if_false];exact b) (λv w' _ b=>⟨by simp only[h1,if_false];exact b,λh3 h4=> ?_⟩) (λb=>⟨by simp only[h1,if_false];exact b,λh3 h4=> ?_⟩) q
    .exact Lb9
    .exact Lb9
 .intro f c l hp E;obtain⟨s,b8,E⟩:=E;rw[M];have J:=hp s1 (by simpa using Z);unfold uS at J;rw[if_pos rfl]at J;exact Y f c l J (λh2=>(E (b8 d (by simpa using h2)) h2).2) (pY _ _ λi _ hi=>hp i (by simpa using hi))
section
variable {H:Type} {enc:TypeId×Value->H} {w:World} {base:Nat} {spare:Nat->Bool} {held:Bool}
end
structure TmC where
 c:Int
 b:Bool
 a1:Option Addr
 n1:Nat
 c1:Nat
 a2:Option Addr
 n2:Nat
 c2:Nat
def tmv(t:TmC):Value:= .agg #[t.c,t.b,(t.a1,t.n1,t.c1),(t.a2,t.n2,t.c2)]
def lU(t:TmC):Int:=t.c
theorem nK(b:List TmC):pW 4 (b.map tmv):=λv c=>by
 obtain⟨_, -,rfl⟩:=bJ.1 c;exact⟨_,rfl,rfl,all4 rfl rfl rfl rfl⟩
theorem sW(b:TmC):pW 4 [.agg #[b.c,b.b,(b.a1,b.n1,b.c1),(b.a2,b.n2,b.c2)]]:=nK [b]
def kY(g:Nat)(rest:List Value)(w:World)(l:List TmC):Prop:=sH 67 4 g rest w (l.map tmv)
theorem kY.ext{b:Nat}{rest:List Value}{w w':World}{c:List TmC}(d:kY b rest w c)(g:Ext w w'):kY b rest w' c:=sH.ext d g
variable{x:TmC}{A:List TmC}
theorem kY.at{d:Nat}{rest:List Value}{w:World}(g:kY d rest w A)(h:A[i]? =some x):∀c,Ext w c->∀(b:Nat) (v:Value),(#[x.c,x.b,(x.a1,x.n1,x.c1),(x.a2,x.n2,x.c2)]:Array Value)[b]? =some v->c.cell? (d,i*4+b)=some v:=by
 intro c j b v k;have l:(A.map tmv)[i]? =some (.agg #[x.c,x.b,(x.a1,x.n1,x.c1),(x.a2,x.n2,x.c2)]):=by rw[aX,h];rfl
 exact j.cell (sH.cell om g l b v k)
variable{M:TmC}{O:List TmC}
theorem kY.swapped{rest:List Value}{w:World}{P:List TmC}(g:d=P.length)(h:L=P.length+1+A.length)(c:sH 67 4 b rest w ((((P++x::(A++M::O)).map tmv).set d (tmv M)).set L (tmv x))):kY b rest w (P++M::(A++x::O)):=by
 unfold kY;rw[<-iX,<-iX,WD g h]at c;exact c
theorem kY.swapped'{rest:List Value}{w:World}{P:List TmC}(g:d=P.length)(h:L=P.length+1+A.length)(c:sH 67 4 b rest w ((((P++x::(A++M::O)).map tmv).set L (tmv x)).set d (tmv M))):kY b rest w (P++M::(A++x::O)):=by
 rw[List.set_comm _ _ om]at c;exact kY.swapped g h c
theorem wY{P:List TmC}{p:Nat}(b:p=P.length):(P++x::A)[p]? =some x:=by
 subst b;rw[cB lr,gE,bL]
theorem uV{P:List TmC}(b:q=P.length+1+A.length):(P++M::(A++x::O))[q]? =some x:=by
 subst b;rw[cB om,show P.length+1+A.length - P.length=A.length+1 by omega,iT,cB lr,gE,bL]
theorem uQ(b8:Value)(n p d:Nat)(rest:List Value)(y q z s I:List TmC)(w:World)(a m t:Nat)(Y:n=(y++q++z++s++I).length)(c6:n<=35184372088832)(a6:a=y.length)(a7:m=a+q.length+z.length)(a9:t=q.length)(b0:t=s.length)(J:kY d rest w (y++q++z++s++I)):
  Calls prog 246 #[(d,n,p),a,m,t,b8] w λe w'=>e= .returned (.tuple #[])/\Chg d w w'/\kY d rest w' (y++s++z++q++I):=by
 simp only[aB]at Y;have:a+t<=m:=om;have:m+t<=n:=om;have S:=a8 (aD Y (aD a6 (aD a7 (aD a9 b0))));have b9:=a8 J;clear Y a6 a7 a9 b0 J;go_enter func246,ntmps246;go_wp2_with fail;go_loopw [10] (λZ wr=>∃(g:Nat) (u A x C:List TmC),Z= .int .i64 (g:Int)/\g<=t/\Hid (q=u++A/\s=x++C/\u.length=g/\x.length=g/\kY d rest wr (y++x++A++z++u++C++I))/\Chg d w wr) (λZ _=>((t:Int) - intOf Z).toNat)
 case atStart=>exact ⟨0,[],q,[],s,rfl,om,a8 ⟨rfl,rfl,rfl,rfl,by simpa using b9.out⟩,Chg.refl _ _⟩
 case round=>
  obtain⟨g,u,A,x,C,rfl,bA,J,b1⟩:=hrel;rcases aI bA with b2 |b2
  .subst b2;have:¬(g:Int)<g:=om;have a0:Hid (kY d rest wr (y++s++z++q++I)):=by
    obtain⟨i,k,D,E,l⟩:=J.out;obtain⟨-, -, -,X,a1⟩:=S.out;have bB:A=[]:=aL (by rw[i,aB]at X;omega);have bC:C=[]:=aL (by rw[k,aB]at a1;omega);subst bB bC;rw[cF]at i k;subst i k;exact a8 (by simpa using l)
   go_wp2;go_end0;exact⟨rfl,b1,by simpa only[aG]using a0.out⟩
  .obtain⟨b,K,c,L,M,T,i,k,D,E,P,F,N,O,Q,U,l⟩:∃b K c L,A=b::K/\C=c::L/\q=u++A/\s=x++C/\u.length=g/\x.length=g/\∃P F N,P=y++x/\F=K++z++u/\N=L++I/\kY d rest wr (P++b::(F++c::N)):=by
    obtain⟨i,k,D,E,l⟩:=J.out;obtain⟨-, -, -,X,a1⟩:=S.out;match A,C,i,k,l with
    | [],_,i,_,_=>rw [i,cF]at X;omega
    |_::_,[],_,k,_=>rw [k,cF]at a1;omega
    |b::K,c::L,i,k,l=>exact ⟨b,K,c,L,rfl,rfl,i,k,D,E,_,_,_,rfl,rfl,rfl,by simpa[aG]using l⟩
   obtain⟨h,hp⟩:=ex (a+g);obtain⟨j,bD⟩:=ex (m+g);have R:h=P.length:=by
    rw[O,aB];have:=S.out.2.1;omega
   have V:j=P.length+1+F.length:=by
    obtain⟨-, -,bE,X, -⟩:=S.out;rw[i,M,aB,bH]at bE;rw[<-R,Q,aB,aB];omega
   have b3:((P++b::(F++c::N)).map tmv).length=n:=by
    have b4:=S.out.1;rw[i,k,M,T]at b4;rw[aF,O,Q,U];simp only[aB,bH]at b4 ⊢;omega
   have bG:=a8 (l.at (wY R));have bO:=a8 (l.at (uV V));have bP:=a8 l;have a2:=a8 (aD i (aD k (aD D (aD E (aD M (aD T (aD O (aD Q (aD U (aD R (aD V b3)))))))))));clear i k D E M T O Q U l J R V b3;have b5:h<n:=om;have b6:j<n:=om;have bR:h≠j:=om;have:(g:Int)<t:=om;have:(a:Int)+g=(h:Int):=om;have:(m:Int)+g=(j:Int):=om;have:(h:Int)<n:=om;have:(j:Int)<n:=om;clear hp bD;go_wp2_with fail;refine tP d n h j 21 23 rest ((P++b::(F++c::N)).map tmv) (.agg #[b.c,b.b,(b.a1,b.n1,b.c1),(b.a2,b.n2,b.c2)]) (.agg #[c.c,c.b,(c.a1,c.n1,c.c1),(c.a2,c.n2,c.c2)]) [(d,n,p),a,g,h,(d,n,p),m,g,j,(d,n,p),m,g,j,(d,j*4),kL (.agg #[c.c,c.b,(c.a1,c.n1,c.c1),(c.a2,c.n2,c.c2)]),(d,n,p),a,g,h,(d,h*4),kL (.agg #[b.c,b.b,(b.a1,b.n1,b.c1),(b.a2,b.n2,b.c2)]),(d,h*4),kP,(d,j*4),kP] [] [21,20,19,18,17,16,15,14,13,12,11,10,9,8,3,2,1,0] kr kr (λf=>(by simp only[mJ,mO,aQ,aV,aZ,Nat.reduceAdd];rfl)) bR de a2.out.2.2.2.2.2.2.2.2.2.2.2 bP.out b5 b6 (by intro h hp;simp only[aS,bI,or_false]at hp;rcases hp with rfl |rfl |rfl |rfl |rfl |rfl |rfl |rfl |rfl |rfl |rfl |rfl |rfl |rfl |rfl |rfl |rfl |rfl |rfl |rfl |rfl |rfl |rfl |rfl<;>rfl) ?_ ?_ de de
   .refine⟨oL,oL,oL,?_,?_,?_,?_,?_,oL,oL,oL,?_,?_,?_,oL,oL,oL,?_,?_,?_,?_,?_,?_,?_,trivial⟩
    .intro f w2 hG hp hl;have r:Ext wr w2:=hG;have hS:=r.size;have:f 1=a:=lW hp 0 1 rfl rfl;have:f 2=g:=lW hp 1 2 rfl rfl;exact mi3
    .exact Az7
    .exact Az7
    .exact Az7
    .intro f w2 hG hp hl;have hS:wr.heap.size<=w2.heap.size:=hG.2.2.2.1;have:f 5=m:=lW hp 0 5 rfl rfl;have:f 6=g:=lW hp 1 6 rfl rfl;exact mi3
    .intro f w2 hG hp hl;have r:Ext wr w2:=hG;have hS:=r.size;have:f 9=m:=lW hp 0 9 rfl rfl;have:f 10=g:=lW hp 1 10 rfl rfl;exact mi3
    .intro f w2 hG hp hl;have:f 8=(d,n,p):=lW hp 0 8 rfl rfl;have:f 11=j:=lW hp 1 11 rfl rfl;exact DG6
    .intro f w2 hG hp hl;have r:Ext wr w2:=hG;have bS:f 12=(d,j*4):=lW hp 0 12 rfl rfl;change kM _ _ _ f w2 Ext _;exact kW (P:=prog) _ _ d (j*4) _ _ rfl rfl bS (λa3 v a4=>bO.out _ r a3 v a4) underlying67 rfl kr rfl
    .intro f w2 hG hp hl;have r:Ext wr w2:=hG;have hS:=r.size;have:f 15=a:=lW hp 0 15 rfl rfl;have:f 16=g:=lW hp 1 16 rfl rfl;exact mi3
    .intro f w2 hG hp hl;have:f 14=(d,n,p):=lW hp 0 14 rfl rfl;have:f 17=h:=lW hp 1 17 rfl rfl;exact DG6
    .intro f w2 hG hp hl;have r:Ext wr w2:=hG;have bT:f 18=(d,h*4):=lW hp 0 18 rfl rfl;change kM _ _ _ f w2 Ext _;exact kW (P:=prog) _ _ d (h*4) _ _ rfl rfl bT (λa3 v a4=>bG.out _ r a3 v a4) underlying67 rfl kr rfl
    .intro f w2 hG hp hl;have:f 0=(d,n,p):=lW hp 0 0 rfl rfl;have:f 3=h:=lW hp 1 3 rfl rfl;exact DG6
    .intro f w2 hG hp hl;have c0:f 20=(d,h*4):=lW hp 0 20 rfl rfl;have c1:f 13= .agg #[c.c,c.b,(c.a1,c.n1,c.c1),(c.a2,c.n2,c.c2)]:=lW hp 1 13 rfl rfl;intro a5 c2;exact A5 (P:=prog) d n _ _ 21 h _ _ _ _ _ _ rfl rfl c0 c1 b5 kr (sW c) a5
    .intro f w2 hG hp hl;have hS:wr.heap.size<=w2.heap.size:=hG.2.2.2.1;have:f 4=(d,n,p):=lW hp 0 4 rfl rfl;have:f 7=j:=lW hp 1 7 rfl rfl;exact DG6
    .intro f w2 hG hp hl;have hS:wr.heap.size<=w2.heap.size:=hG.2.2.2.1;have c3:f 22=(d,j*4):=lW hp 0 22 rfl rfl;have c4:f 19= .agg #[b.c,b.b,(b.a1,b.n1,b.c1),(b.a2,b.n2,b.c2)]:=lW hp 1 19 rfl rfl;intro a5 c2;exact A5 (P:=prog) d n _ _ 23 j _ _ _ _ _ _ rfl rfl c3 c4 b6 kr (sW b) a5
   .intro f w2 c5 b7 hp;clear hp;have a0:Hid (kY d rest w2 (P++c::(F++b::N))):=by
     obtain⟨-, -, -, -, -, -, -, -, -,R,V, -⟩:=a2.out;exact kY.swapped R V b7
    clear b7;go_wp2;go_roundw
    case rel=>
     refine⟨g+1,u++ [b],K,x++ [c],L,ci om,om,a8 ?_,b1.trans c5⟩;obtain⟨i,k,D,E,M,T,O,Q,U, -⟩:=a2.out;have l:=a0.out;rw[O,Q,U]at l;exact⟨by rw[i,M];simp,by rw[k,T];simp,by simp[D],by simp[E],by simpa[aG]using l⟩
    case measure=>simp [intOf];omega
theorem rZ(S:Value)(n T l:Nat)(rest:List Value)(C s t E:List TmC)(w:World)(a g U:Nat)(V:n=(C++s++t++E).length)(a0:n<=35184372088832)(a1:a=C.length)(a2:g=a+s.length)(a3:U=g+t.length)(a4:0<s.length)(a5:0<t.length)(d:kY l rest w (C++s++t++E)):
  Calls prog 236 #[(l,n,T),a,g,U,S] w λe w'=>e= .returned (.tuple #[])/\Chg l w w'/\kY l rest w' (C++t++s++E):=by
 simp only[aB]at V;obtain⟨b2,X⟩:=ex s.length;obtain⟨b3,Y⟩:=ex t.length;have bE:(g:Int) - (a:Int)=b2:=om;have bG:(U:Int) - (g:Int)=b3:=om;have bO:g<=n:=om;have bP:U<=n:=om;have bR:a<=n:=om;have b5:=a8 (aD V (aD a1 (aD a2 (aD a3 (aD X (aD Y (aD a4 a5)))))));have b6:=a8 d;clear V a1 a2 a3 X Y a4 a5 d;go_enter func236,ntmps236;go_wp2_with fail;go_loopw [10,11] (λa6 a7 wr=>∃(b c:Nat) (i j k m:List TmC),a6= .int .i64 (b:Int)/\a7= .int .i64 (c:Int)/\0<b/\0<c/\b<=g/\g+c<=n/\Hid (b=j.length/\c=k.length/\g=i.length+b/\n=i.length+b+c+m.length/\i++k++j++m=C++t++s++E/\kY l rest wr (i++j++k++m))/\Chg l w wr) (λa6 a7 _=>(intOf a6+intOf a7).toNat)
 case atStart=>
  obtain⟨V,a1,a2,a3,X,Y,a4,a5⟩:=b5.out;exact⟨b2,b3,C,s,t,E,rfl,rfl,om,om,om,om,a8 ⟨X,Y,om,om,rfl,b6.out⟩,Chg.refl _ _⟩
 case round=>
  obtain⟨b,c,i,j,k,m,rfl,rfl,b7,b8,b9,bA,d,a9⟩:=hrel;obtain⟨D,_⟩:∃D:Nat,D+b=g:=⟨g - b,om⟩;have bS:(g:Int) - (b:Int)=D:=om;rcases eZ b c with b0 |b0 |b0
  .obtain⟨Z,_⟩:∃Z:Nat,Z+b=g+c:=⟨g+c - b,om⟩;have bT:(g:Int)+c - (b:Int)=Z:=om;have bB:¬(b:Int)=c:=om;have bC:¬(c:Int)<b:=om;have bD:(c:Int) - (b:Int)=((c - b:Nat):Int):=om;have F:Hid (∃I J,k=I++J/\J.length=b/\I.length=c - b):=by
    obtain⟨p,q, -⟩:=d.out;exact⟨k.take (c - b),k.drop (c - b),(bQ _ _).symm,by rw[cK];omega,by rw[aP];omega⟩
   obtain⟨I,J,K,L,M⟩:=F.out;have h:=a8 (aD K (aD M L));clear K M L F;go_wp2_with fail;refine(uQ S n T l rest i j I J m wr D Z b (by
    obtain⟨p,q,u,x, -⟩:=d.out;obtain⟨y,z,A⟩:=h.out;simp only[aB];omega) a0 (by have:=d.out.2.2.1;omega) (by
    obtain⟨p,q,u,x, -⟩:=d.out;obtain⟨y,z,A⟩:=h.out;omega) d.out.1 h.out.2.2.symm (by
    have:=d.out.2.2.2.2.2;rw[h.out.1]at this;simpa[aG]using this)).mono ?_
   rintro e b4 ⟨rfl,N,r⟩;have O:=a8 r;clear r;go_wp2_with fail;go_roundw
   case rel=>
    obtain⟨p,q,u,x,b1, -⟩:=d.out;obtain⟨y,z,A⟩:=h.out;refine⟨b,c - b,i,J,I,j++m,rfl,rfl,b7,om,b9,om,a8 ⟨A.symm,z.symm,u,by rw[aB];omega,?_,by simpa[aG]using O.out⟩,a9.trans N⟩;rw[<-b1,y];simp[aG]
   case measure=>simp [intOf];omega
  .subst b0;go_wp2_with fail;refine(uQ S n T l rest i j [] k m wr D g b (by
    obtain⟨p,q,u,x, -⟩:=d.out;simp only[aB,cQ];omega) a0 (by have:=d.out.2.2.1;omega) (by
    obtain⟨p,q,u,x, -⟩:=d.out;simp only[cQ];omega) d.out.1 d.out.2.1 (by simpa using d.out.2.2.2.2.2)).mono ?_
   rintro e b4 ⟨rfl,N,r⟩;rw[cF,d.out.2.2.2.2.1]at r;have O:=a8 r;clear r;go_wp2;go_end0;exact⟨rfl,a9.trans N,by simpa only[aG]using O.out⟩
  .have bB:¬(b:Int)=c:=om;have bC:(c:Int)<b:=om;have bD:(b:Int) - (c:Int)=((b - c:Nat):Int):=om;have F:Hid (∃Q R,j=Q++R/\Q.length=c/\R.length=b - c):=by
    obtain⟨p,q, -⟩:=d.out;exact⟨j.take c,j.drop c,(bQ _ _).symm,by rw[aP];omega,by rw[cK];omega⟩
   obtain⟨Q,R,K,M,L⟩:=F.out;have h:=a8 (aD K (aD M L));clear K M L F;go_wp2_with fail;refine(uQ S n T l rest i Q R k m wr D g c (by
    obtain⟨p,q,u,x, -⟩:=d.out;obtain⟨y,z,A⟩:=h.out;simp only[aB];omega) a0 (by have:=d.out.2.2.1;omega) (by
    obtain⟨p,q,u,x, -⟩:=d.out;obtain⟨y,z,A⟩:=h.out;omega) h.out.2.1.symm d.out.2.1 (by
    have:=d.out.2.2.2.2.2;rw[h.out.1]at this;simpa[aG]using this)).mono ?_
   rintro e b4 ⟨rfl,N,r⟩;have O:=a8 r;clear r;go_wp2_with fail;go_roundw
   case rel=>
    obtain⟨p,q,u,x,b1, -⟩:=d.out;obtain⟨y,z,A⟩:=h.out;refine⟨b - c,c,i++k,R,Q,m,rfl,rfl,om,b8,om,bA,a8 ⟨A.symm,z.symm,by rw[aB];omega,by rw[aB];omega,?_,by simpa[aG]using O.out⟩,a9.trans N⟩;rw[<-b1,y];simp[aG]
   case measure=>simp [intOf];omega
theorem vM(b c:TmC)(w:World):Calls prog 96 #[.agg #[b.c,b.b,(b.a1,b.n1,b.c1),(b.a2,b.n2,b.c2)],.agg #[c.c,c.b,(c.a1,c.n1,c.c1),(c.a2,c.n2,c.c2)]] w λe w'=>∃i:Int,e= .returned i/\(i<0↔b.c<c.c)/\Ext w w':=by
 obtain⟨d,l,m,p,q,r,s,t⟩:=b;obtain⟨g,u,x,y,z,A,C,D⟩:=c;simp only;obtain⟨_,j,E,F,I,_⟩:=lZ w #[d,l,(m,p,q),(r,s,t)] #[g,u,(x,y,z),(A,C,D)] 67 67;go_enter func96,ntmps96;go_wp2_with fail;rw[<-j];clear j;have:=F.cell 0;have:=I.cell 0;go_wp2_with fail;refine(cmp_Compare_int d g _).mono ?_;have h:Lib.compareInt d g<0↔d<g:=by unfold Lib.compareInt;grind
 have k:=a8 h;clear h;obtain⟨i,h⟩:=ex (Lib.compareInt d g);rw[<-h]at k ⊢;clear h;rintro e _ ⟨rfl,rfl⟩;go_wp2;go_ret;exact⟨i,rfl,k.out,E⟩
theorem zE(n r d:Nat)(rest:List Value)(i x q:List TmC)(w:World)(a y:Nat)(a3:n=(i++x++q).length)(g2:n<=35184372088832)(bA:a=i.length)(c4:y=a+x.length)(E:kY d rest w (i++x++q)):
  Calls prog 200 #[(d,n,r),a,y,.func (.func 96) #[] #[]] w λe w'=>e= .returned (.tuple #[])/\Chg d w w'/\∃F,F.Perm x/\Ris lU F/\kY d rest w' (i++F++q):=by
 simp only[aB]at a3;obtain⟨a4,bB⟩:=ex x.length;have bC:y=a+a4:=om;have g3:y<=n:=om;have Q:=a8 (aD a3 (aD bA bB));have a5:=a8 bC;have g4:a<=y:=om;have c5:=a8 E;clear a3 bA bB c4 E bC;obtain⟨bD,bE⟩:=ex (a+1:Nat);have g5:(a:Int)+1=(bD:Int):=om;have c6:=a8 bE;clear bE;go_enter func200,ntmps200;go_wp2_with fail;go_loopw [8] (λa6 wr=>∃(s C:Nat) (M1 J:List TmC),a6= .int .i64 (s:Int)/\s=a+C/\0<C/\s<=y+1/\Hid ((M1++J).Perm x/\M1.length=min C a4/\Ris lU M1/\kY d rest wr (i++(M1++J)++q))/\Chg d w wr) (λa6 _=>((y:Int)+1 - intOf a6).toNat)
 case atStart=>
  refine⟨bD,1,x.take 1,x.drop 1,rfl,c6.out,om,om,a8 ⟨by rw[bQ],by rw[aP,<-Q.out.2.2],Ris.of_short (by rw[aP];omega),by rw[bQ];exact c5.out⟩,Chg.refl _ _⟩
 case round=>
  obtain⟨s,C,M1,J,rfl,_,_,_,E,a7⟩:=hrel;by_cases g6:s<y
  case neg=>
   have c7:¬(s:Int)<y:=om;have t:Hid (∃F,F.Perm x/\Ris lU F/\kY d rest wr (i++(F++q))):=by
    obtain⟨h1,h2,R,I⟩:=E.out;have c8:J=[]:=aL (by
     have g:=h1.length_eq;have S:=Q.out.2.2;have K:=a5.out;rw[aB]at g;omega)
    subst c8;rw[cF]at h1 I;exact a8 ⟨M1,h1,R,by simpa only[aG]using I⟩
   go_wp2;go_end0;exact⟨rfl,a7,t.out⟩
  case pos=>
   have c7:(s:Int)<y:=om;obtain⟨b,k,a9⟩:∃b k,Hid (J=b::k/\M1.length=C/\n=i.length+M1.length+1+k.length+q.length):=by
    obtain⟨h1,h2,R,I⟩:=E.out;obtain⟨L,S,K⟩:=Q.out;have c9:=a5.out;have g:=h1.length_eq;rw[aB]at g;match J,g with
    | [],g=>simp only[cQ]at g;omega
    |b::k,g=>
     simp only[bH]at g;exact⟨b,k,a8 ⟨rfl,om,om⟩⟩
   obtain⟨b0,e0⟩:∃b0,b0=wr:=⟨wr,rfl⟩;subst e0;go_wp2_with fail;go_loopw [9] (λb1 bG=>∃(j:Nat) (l m:List TmC),b1= .int .i64 (j:Int)/\a<=j/\j<=s/\Hid (j=a+l.length/\M1=l++m/\(∀v∈m,lU b<=lU v)/\kY d rest bG ((i++l)++b::(m++k++q)))/\Chg d b0 bG) (λb1 _=>(intOf b1).toNat)
   case atStart=>
    obtain⟨h1,h2,R,I⟩:=E.out;obtain⟨L,S,K⟩:=a9.out;exact⟨s,M1,[],rfl,om,om,a8 ⟨om,sm,sm,by rw[L]at I;simpa[aG]using I⟩,Chg.refl _ _⟩
   case round=>
    obtain⟨j,l,m,rfl,bO,e1,A,b2⟩:=hrel;have bP:(j<=a∨∃c,l[l.length - 1]? =some c/\lU c<=lU b)->Hid (∃D,D.length=min (C+1) a4/\(D++k).Perm x/\Ris lU D/\kY d rest wr (i++(D++k)++q)):=by
     intro bR;obtain⟨h1,h2,R,I⟩:=E.out;obtain⟨L,S,K⟩:=a9.out;obtain⟨T,M,U,Y⟩:=A.out;have hl:=h1.length_eq;have g7:=Q.out.2.2;subst M;have hp:=YA (key:=lU) (L:=l++m) (y:=b) R l.length (by
      rcases bR with bR |⟨c,bS,V⟩
      .exact .inl om
      .refine .inr ⟨c,?_,V⟩;have:=(aH.1 bS).1;rw[bM this];exact bS) (by
      rcases aR m.length with N |N
      .exact .inl (by rw[aB];omega)
      .refine .inr ⟨m[0],?_,U _ (dC _)⟩;rw[cB lr,gE,aA N])
     rw[iK,jL]at hp;refine⟨l++ [b]++m,?_,?_,hp,by simpa[aG]using Y⟩
     .simp only[aB,bH,cQ]at S hl ⊢;rw[L,bH]at hl;omega
     .refine List.Perm.trans ?_ h1;rw[L];have:=BU (L:=l++m) (y:=b) l.length;rw[iK,jL]at this;exact(this.append_right k).trans sm
    have Z:=a8 bP;clear bP;rcases aI bO with b3 |b3
    .subst b3;have t:=(Z.out (.inl lr)).out;obtain⟨D,f1,f2,f3,f4⟩:=t;have t:=a8 (aD f1 (aD f2 (aD f3 f4)));clear f1 f2 f3 f4 Z;go_wp2_with fail;refine wpQ [a,a,false,false,kP,kP,kP,kP,kP,kP,kP,kP,kP,kP,kP,kP,false] [] [0,1,2,3,4,5,6,7,8,9,10,11,12,13,14,15,16] ?_ ?_
     .refine⟨oL,oL,oL,oL,?_,?_,?_,?_,?_,?_,?_,?_,?_,?_,?_,?_,oL,trivial⟩
      .exact Us7
      .exact Us7
      .exact Us7
      .exact Vu8
      .exact YZ0
      .exact Us7
      .exact Us7
      .exact YZ0
      .exact Vu8
      .exact YZ0
      .intro f w2 hG hp hl;have qg:=tE hp 3 3 rfl rfl rfl;exact mS rfl qg de trivial
      .exact YZ0
     .intro f w2 hG hp;have h:Ext wr w2:=mV.nil hG;have b4:f 16=false:=rM hp 16 de rfl (λp=>by cases p);try simp only[b4]
      clear hp;go_wp2;go_roundw
      case rel=>
       obtain⟨f1,f2,f3,f4⟩:=t.out;exact⟨s+1,C+1,D,k,ci om,om,om,om,a8 ⟨f2,f1,f3,f4.ext h⟩,(a7.trans b2).trans (h.chg d)⟩
      case measure=>simp [intOf];omega
    .obtain⟨u,c,a0⟩:∃u c,Hid (l=u++ [c]/\j=a+u.length+1):=by
      obtain⟨T,M,U,Y⟩:=A.out;have b5:l≠ []:=λp=>by rw[p]at T;simp at T;omega
      exact⟨l.dropLast,l.getLast b5,a8 ⟨(List.dropLast_concat_getLast b5).symm,by rw[List.length_dropLast];have:=fJ.2 b5;omega⟩⟩
     obtain⟨g,e2⟩:∃g,j=g+1:=⟨j - 1,om⟩;subst e2;have b6:Hid (kY d rest wr ((i++u)++c::([]++b::(m++k++q)))):=by
      have:=A.out.2.2.2;rw[a0.out.1]at this;exact a8 (by simpa[aG]using this)
     have O:Hid (g=(i++u).length/\g+1=(i++u).length+1+([]:List TmC).length/\((((i++u)++c::([]++b::(m++k++q)))).map tmv).length=n):=by
      obtain⟨T,M,U,Y⟩:=A.out;obtain⟨L,S,K⟩:=a9.out;obtain⟨b7,e3⟩:=a0.out;have:=Q.out.2.1;have c9:=a5.out;rw[M,b7]at K;simp only[aF,aB,bH,cQ]at K ⊢;refine a8 ⟨om,om,om⟩
     have e4:=a8 (b6.out.at (wY O.out.1));have bT:=a8 (b6.out.at (uV O.out.2.1));have b8:g+1<n:=om;have c0:g<n:=om;have e5:(((g+1:Nat):Nat):Int)<(n:Int):=om;have g9:(g:Int)<n:=om;have e6:(a:Int)<((g+1:Nat):Int):=om;have e7:((g+1:Nat):Int) - 1=(g:Int):=om;obtain⟨a1,c1⟩:=ex (decide (b.c<c.c):Bool);have HR:=a8 c1;clear c1;obtain⟨j,a2⟩:=ex (g+1);rw[<-a2]at b8 e5 e6 e7 bT bO e1;rw[<-a2];have X:=a8 a2;clear a2 b3;go_wp2_with fail;refine wpQ [j,a,true,true,kL (.func (.func 96) #[] #[]),(d,n,r),j,(d,j*4),kL (.agg #[b.c,b.b,(b.a1,b.n1,b.c1),(b.a2,b.n2,b.c2)]),(d,n,r),j,g,(d,g*4),kL (.agg #[c.c,c.b,(c.a1,c.n1,c.c1),(c.a2,c.n2,c.c2)]),zO (λv=>∃z:Int,v=z/\(z<0↔b.c<c.c)),a1,a1] [] [0,1,2,3,4,5,6,7,8,9,10,11,12,13,14,15,16] ?_ ?_
     .refine⟨oL,oL,oL,oL,?_,?_,?_,?_,?_,?_,?_,?_,?_,?_,?_,?_,oL,trivial⟩
      .exact JR5
      .exact JR5
      .exact JR5
      .intro f w2 hG hp hl;have gA:=tE hp 0 5 rfl rfl rfl;have gG:=tE hp 1 6 rfl rfl rfl;exact fM2
      .intro f w2 hG hp hl;have h:Ext wr w2:=hG;have e8:=tE hp 0 7 rfl rfl rfl;have qg:=tE hp 1 3 rfl rfl rfl;change kM _ _ _ f w2 Ext _;refine m9 (j:=3) (want:=true) rfl qg ?_;change kM _ _ _ f w2 Ext _;exact kW (P:=prog) _ _ d (j*4) _ _ rfl rfl e8 (λj v p=>bT.out _ h j v p) underlying67 rfl kr rfl
      .exact JR5
      .exact JR5
      .intro f w2 hG hp hl;have h:Ext wr w2:=hG;have hS:=h.size;have gL:=tE hp 0 10 rfl rfl rfl;have qg:=tE hp 1 3 rfl rfl rfl;change kM _ _ _ f w2 Ext _;refine m9 (j:=3) (want:=true) rfl qg ?_;exact mi3
      .intro f w2 hG hp hl;have gT:=tE hp 0 9 rfl rfl rfl;have h0:=tE hp 1 11 rfl rfl rfl;exact fM2
      .intro f w2 hG hp hl;have h:Ext wr w2:=hG;have e9:=tE hp 0 12 rfl rfl rfl;have qg:=tE hp 1 3 rfl rfl rfl;change kM _ _ _ f w2 Ext _;refine m9 (j:=3) (want:=true) rfl qg ?_;change kM _ _ _ f w2 Ext _;exact kW (P:=prog) _ _ d (g*4) _ _ rfl rfl e9 (λj v p=>e4.out _ h j v p) underlying67 rfl kr rfl
      .intro f w2 hG hp hl;have eA:=tE hp 0 4 rfl rfl rfl;have eB:=tE hp 1 8 rfl rfl rfl;have eC:=tE hp 2 13 rfl rfl rfl;have qg:=tE hp 3 3 rfl rfl rfl;change kM _ _ _ f w2 Ext _;refine m9 (j:=3) (want:=true) rfl qg ?_;change kM _ _ _ f w2 Ext _;refine A4 (P:=prog) _ _ _ _ #[f 8,f 13] func96 kr kr rfl rfl eA kr ?_;rw[eB,eC];refine(vM b c _).mono ?_;exact wV7
      .intro f w2 hG hp hl;have h:Ext wr w2:=hG;have eD:=kO hp 0 14 rfl rfl (λ_=>h);have qg:=tE hp 1 3 rfl rfl rfl;change kM _ _ _ f w2 Ext _;refine m9 (j:=3) (want:=true) rfl qg ?_;obtain⟨z,_,hzz⟩:=eD;exact Um2
     .intro f w2 hG hp;have h:Ext wr w2:=mV.nil hG;have b4:f 16=a1:=rM hp 16 de rfl (λp=>by cases p);try simp only[b4]
      clear hp;have b9:=a8 (b6.out.ext h);have c2:Hid (j=(i++u).length+1+([]:List TmC).length):=a8 (X.out.trans O.out.2.1);have eE:=a8 (b9.out.at (uV c2.out));have eG:=a8 (b9.out.at (wY O.out.1))
      cases a1 with
      |false=>
       have V:lU c<=lU b:=by
        have:=HR.out;have h2:=of_decide_eq_false this.symm;show c.c<=b.c;omega
       have t:=(Z.out (.inr ⟨c,by rw[a0.out.1];simp,V⟩)).out;obtain⟨D,f1,f2,f3,f4⟩:=t;have t:=a8 (aD f1 (aD f2 (aD f3 (f4.ext h))));clear f1 f2 f3 f4 Z;go_wp2;go_roundw
       case rel=>
        obtain⟨f1,f2,f3,f4⟩:=t.out;exact⟨s+1,C+1,D,k,ci om,om,om,om,a8 ⟨f2,f1,f3,f4⟩,(a7.trans b2).trans (h.chg d)⟩
       case measure=>simp [intOf];omega
      |true=>
       have V:Hid (lU b<=lU c):=by
        have:=HR.out;have h2:=of_decide_eq_true this.symm;refine a8 ?_;show b.c<=c.c;omega
       have eN:j≠g:=by have:=X.out;omega
       go_wp2_with fail;refine tP d n j g 15 17 rest (((i++u)++c::([]++b::(m++k++q))).map tmv) (.agg #[b.c,b.b,(b.a1,b.n1,b.c1),(b.a2,b.n2,b.c2)]) (.agg #[c.c,c.b,(c.a1,c.n1,c.c1),(c.a2,c.n2,c.c2)]) [(d,n,r),j,(d,n,r),j,g,(d,n,r),j,g,(d,g*4),kL (.agg #[c.c,c.b,(c.a1,c.n1,c.c1),(c.a2,c.n2,c.c2)]),(d,n,r),j,(d,j*4),kL (.agg #[b.c,b.b,(b.a1,b.n1,b.c1),(b.a2,b.n2,b.c2)]),(d,j*4),kP,(d,g*4),kP] [] [15,14,13,12,11,10,9,8,7,6,5,1,0] kr kr (λf=>(by simp only[mJ,mO,aQ,aV,aZ,Nat.reduceAdd];rfl)) eN de O.out.2.2 b9.out b8 c0 (by intro _ hp;simp only[aS,bI,or_false]at hp;rcases hp with rfl |rfl |rfl |rfl |rfl |rfl |rfl |rfl |rfl |rfl |rfl |rfl |rfl |rfl |rfl |rfl |rfl |rfl<;>rfl) ?_ ?_ de de
       .refine⟨oL,oL,?_,?_,?_,oL,oL,?_,?_,?_,oL,oL,?_,?_,?_,?_,?_,?_,trivial⟩
        .exact DX7
        .exact DX7
        .intro f w3 hG hp hl;have hS:w2.heap.size<=w3.heap.size:=hG.2.2.2.1;have h3:f 3=j:=lW hp 0 3 rfl rfl;exact mi3
        .intro f w3 hG hp hl;have h:Ext w2 w3:=hG;have hS:=h.size;have h4:f 6=j:=lW hp 0 6 rfl rfl;exact mi3
        .intro f w3 hG hp hl;have h5:f 5=(d,n,r):=lW hp 0 5 rfl rfl;have h6:f 7=g:=lW hp 1 7 rfl rfl;exact DG6
        .intro f w3 hG hp hl;have h:Ext w2 w3:=hG;have fA:f 8=(d,g*4):=lW hp 0 8 rfl rfl;change kM _ _ _ f w3 Ext _;exact kW (P:=prog) _ _ d (g*4) _ _ rfl rfl fA (λj v p=>eG.out _ h j v p) underlying67 rfl kr rfl
        .intro f w3 hG hp hl;have h7:f 10=(d,n,r):=lW hp 0 10 rfl rfl;have h8:f 11=j:=lW hp 1 11 rfl rfl;exact DG6
        .intro f w3 hG hp hl;have h:Ext w2 w3:=hG;have fB:f 12=(d,j*4):=lW hp 0 12 rfl rfl;change kM _ _ _ f w3 Ext _;exact kW (P:=prog) _ _ d (j*4) _ _ rfl rfl fB (λj v p=>eE.out _ h j v p) underlying67 rfl kr rfl
        .intro f w3 hG hp hl;have h9:f 0=(d,n,r):=lW hp 0 0 rfl rfl;have hA:f 1=j:=lW hp 1 1 rfl rfl;exact DG6
        .intro f w3 hG hp hl;have fC:f 14=(d,j*4):=lW hp 0 14 rfl rfl;have fD:f 9= .agg #[c.c,c.b,(c.a1,c.n1,c.c1),(c.a2,c.n2,c.c2)]:=lW hp 1 9 rfl rfl;intro A fE;exact A5 (P:=prog) d n _ _ 15 j _ _ _ _ _ _ rfl rfl fC fD b8 kr (sW c) A
        .intro f w3 hG hp hl;have hS:w2.heap.size<=w3.heap.size:=hG.2.2.2.1;have hB:f 2=(d,n,r):=lW hp 0 2 rfl rfl;have hC:f 4=g:=lW hp 1 4 rfl rfl;exact DG6
        .intro f w3 hG hp hl;have hS:w2.heap.size<=w3.heap.size:=hG.2.2.2.1;have fG:f 16=(d,g*4):=lW hp 0 16 rfl rfl;have g0:f 13= .agg #[b.c,b.b,(b.a1,b.n1,b.c1),(b.a2,b.n2,b.c2)]:=lW hp 1 13 rfl rfl;intro A fE;exact A5 (P:=prog) d n _ _ 17 g _ _ _ _ _ _ rfl rfl fG g0 c0 kr (sW b) A
       .intro f w3 g1 c3 hp;clear hp;have t:Hid (kY d rest w3 ((i++u)++b::([]++c::(m++k++q)))):=a8 (kY.swapped' O.out.1 c2.out c3);clear c3;go_wp2;go_roundw
        case rel=>
         obtain⟨T,M,U,Y⟩:=A.out;obtain⟨b7,e3⟩:=a0.out;refine⟨g,u,c::m,rfl,by have:=X.out;omega,by have:=X.out;omega,a8 ⟨om,by rw[M,b7];simp,λv N=> ?_,by simpa[aG]using t.out⟩,(b2.trans (h.chg d)).trans g1⟩;rcases aS.1 N with rfl |N
         .exact V.out
         .exact U v N
        case measure=>have:=X.out;simp[intOf];omega
end Go.Proofs.YtjlcilmjfejimaaGreat
