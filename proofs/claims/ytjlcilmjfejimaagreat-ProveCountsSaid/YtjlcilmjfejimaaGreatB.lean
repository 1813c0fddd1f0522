/- nat: differences. -/
import Derived.Test.YtjlcilmjfejimaaGreatA
import Derived.Deep.CutBlock
import Derived.Deep.DeepCutAuto
namespace Go.Proofs.YtjlcilmjfejimaaGreat
set_option maxRecDepth 100000
set_option maxHeartbeats 32000000
set_option linter.unusedVariables false
set_option linter.unusedSimpArgs false
open Go.RowKit Tryz
variable{a c f o p A L B d m q y u v0:Nat}{b h s us:List Nat}{j:Value}{l x:World}{r:Rat}{v:Option Addr}{C:Act}{D:Nat->Value}{E:Oper}{F:List Oper}{H:Exit->Act->World->Prop}{I J:Int}{K:Array Value}{M:List Deferred}{N:(Nat->Value)->Array Value}{Q R:Bool}
def AD(xs ys l:List Nat)(i c:Nat):Prop:=
 l.length=xs.length/\Dig W l/\c<=1/\val W (l.take i)+val W (ys.take i)=val W (xs.take i)+W^i*c/\i<=xs.length/\l.drop i=xs.drop i
theorem CK{l m:List Nat}{i:Nat}(a:l.drop i=m.drop i)(b:i<l.length)(c:i<m.length):l[i]=m[i]:=by
 have:=congrArg (λt=>t[0]?) a;simpa[eF,b,c]using this
theorem AD.step{xs:List Nat}{i:Nat}(j:AD xs b h i a)(c:i<xs.length)(l:Dig W xs)(m:Dig W b):
  AD xs b (h.set i ((xs[i]+W - gD b i - a) % W)) (i+1) (if xs[i]<gD b i+a then 1 else 0):=by
 obtain⟨o,p,_,_,_,r⟩:=j;have f:0<W:=by rw[lX];omega
 have v:=l.get c;have x:=m.gD f i;have s:(xs[i]+W - gD b i - a) % W+gD b i+a=xs[i]+W*(if xs[i]<gD b i+a then 1 else 0):=by
  split
  .rw[dM om];omega
  .have:xs[i]+W - gD b i - a=(xs[i] - gD b i - a)+W:=om;rw[this,Nat.add_mod_right,dM om];omega
 refine⟨by simpa using o,p.set (cH _ f),by split<;>omega,?_,om,?_⟩
 .rw[nM _ _ (by simp;omega),dE,dR lr,nM xs i c,o4 b i];have u:=congrArg (W^i* ·) s;simp only[bK]at u;rw[cP,cG];omega
 .rw[eK om];have:=congrArg (List.drop 1) r;simpa[dK,fL]using this
theorem AD.finish{xs:List Nat}(c:AD xs b h xs.length a)(d:b.length<=xs.length)(hle:val W b<=val W xs):val W h=val W xs - val W b:=by
 obtain⟨f,j,_,l,_,_⟩:=c;rw[aK om,aK d,aK lr]at l;have m:=pU (show 0<W by rw[lX];omega) j;rw[f]at m;have:a=0∨a=1:=om;rcases this with rfl |rfl
 .omega
 .omega
theorem VQ(D x:Option Addr)(y E:Nat)(xs a:List Nat)(w:World)(M:Rd w D (mK .u64 xs))(N:Rd w x (mK .u64 a))
  (Y:xs.length<=y) (Z:y<=9223372036854775807)
  (b7:xs.length<=1099511627776) (a0:a.length<=xs.length) (hle:val W a<=val W xs) (O:Dig W xs) (a1:Dig W a):
  Calls prog 206 #[(D,xs.length,y),(x,a.length,E)] w λe l=>∃Q,e= .returned Q/\FrN 165 .u64 W w l Q (val W xs - val W a)/\Ext w l:=by
 have a2:=a8 hle;clear hle;go_enter func206,ntmps206;go_wp2_with fail;refine(wE D _ y xs w rfl M Y Z (by rw[DE];omega)).mono ?_;rintro e _ ⟨_,rfl,R,A⟩;rcases aR xs.length with F |F
 .have a3:xs=[]:=aL F;subst a3;obtain⟨S,d,rfl,_,m,a4⟩:=R;go_wp2_with fail;refine wp_loop_rounds 1 ?_;rw[rounds_succ];go_wp2_with fail;refine(lT S 0 d [] _ rfl (.inl rfl) om m).mono ?_;rintro e l ⟨rfl,rfl⟩;go_wp2;go_ret;have a5:val W ([]:List Nat) - val W a=0:=by simp[val]
  rw[a5];exact⟨_,rfl,⟨S,d,rfl,zl,m,a4⟩,A⟩
 .obtain⟨g,rest,d,rfl,hg,H,a6,m⟩:=R.blk F;have I:=LI;go_wp2_with fail;go_loopw [6,12] (λf i wr=>∃(k T:Nat) (o:List Nat),i= .int .i64 k/\f= .int .u64 T/\AD xs a o k T/\lM 165 .u64 wr g o rest/\Ext w wr) (λ_ i _=>xs.length - (intOf i).toNat)
  case atStart=>exact ⟨0,0,_,rfl,rfl,⟨rfl,O,om,by simp[val],zl,rfl⟩,H,A⟩
  case round=>
   obtain⟨k,f,o,rfl,rfl,b,j,J⟩:=hrel;have a7:=b.2.2.1;have:=b.2.2.2.2.1;by_cases U:k<xs.length
   .have p:=a8 b.1;have a9:wr.cell? (g,k)=some (.int .u64 (xs[k]:Int)):=by
     rw[j.cell k (by have:=b.1;omega),CK b.2.2.2.2.2 (by have:=b.1;omega) U]
    have:=j.free k;have V:=I xs[k] (gD a k) f a7;have K:=a8 (b.step U O a1);have b0:=N.ext J;have:=λb1=>a8 (lM.set j k b1 (by have:=b.1;omega))
    generalize (xs[k]+W - gD a k - f) % W=B at V K;generalize (if xs[k]<gD a k+f then 1 else 0:Nat)=q at V K;clear b I H A;go_wp2_with fail;refine uR g 15 [isV (g,xs.length,d),isV k,isV (g,xs.length,d),isV k,isV (g,k),isV (.int .u64 xs[k]),isV (x,a.length,E),isV k,isV (.int .u64 (gD a k)),isV (.int .u64 f),
      isV (.tuple #[.int .u64 (B:Int),.int .u64 (q:Int)]),
      isV (.tuple #[.int .u64 (B:Int),.int .u64 (q:Int)]),
      isV (.int .u64 (B:Int)),isV (.int .u64 (q:Int)),isV (g,k),
      λ_ w=>lM 165 .u64 w g (o.set k B) rest,isV (.int .u64 (q:Int))]
     [(9,16,6)] [5,8,15]
     kr kr (λr=>(by simp only[mJ,mO,aQ,aV,aZ,Nat.reduceAdd];rfl)) ?_ ?_ ?_ ?_
    .exact aR1
    .exact aR1
    .refine⟨?_,?_,?_,?_,?_,?o5,?_,?_,?o8,?_,?_,?_,?_,?_,?_,?o15,?_,trivial⟩
     case o5=>
      intro r s u c hp C;simp[lY,pl,isV,Region.binds]at hp;simp[nT]at c;have:=c.cell a9;exact DG6
     case o8=>
      intro r s u c hp C;simp[lY,pl,isV,Region.binds]at hp;simp[nT]at c;simp only[kM];go_simp;refine(NM x E a k s (b0.ext c) om om).mono ?_;rintro e l ⟨rfl,rfl⟩;exact⟨_,rfl,rE,rfl⟩
     case o15=>
      intro r s u c hp C;simp[lY,pl,isV,Region.binds]at hp;simp[nT]at c;have L:=j.ext c;obtain⟨_,_⟩:=L.got k (by have:=p.out;omega);have:=L.free k;simp only[kM];go_simp;exact⟨undef,rfl,Chg.setCell _ _ _ _,L.set k _ (by have:=p.out;omega)⟩
     all_goals
      intro r s u c hp C;simp[lY,pl,isV,Region.binds]at hp;simp[oV]at C;simp only[kM];go_simp;exact⟨_,rfl,rE,rfl⟩
    .intro r s u hp;simp[n5,pl,isV]at hp;obtain⟨_,_,_,_,_,_,_,_,_,_,_,_,_,_,_,X,b2⟩:=hp;have b3:=a8 X;clear X;go_wp2;go_roundw
     case rel=>exact ⟨k+1,q,_,rfl,b2,K.out,b3.out,J.step u hg⟩
     case measure=>simp [intOf];omega
   .have b4:k=xs.length:=om;subst b4;have b5:=a8 (b.finish a0 a2.out);have b6:=a8 b.2.1;have p:=a8 b.1;clear b I H A N M;go_wp2_with fail;refine(lT g xs.length d o _ p.out j.rd om m).mono ?_;rintro e l ⟨rfl,rfl⟩;go_wp2;go_ret;exact⟨_,rfl,j.frN hg lF b6.out b5.out (by rw[p.out];exact a6) m,J⟩
theorem BK(c d:Value)(b a:Nat)(w:World)(m:IsN .u64 W w c b)(o:IsC .u64 W w d a)(hle:a<=b):
  Calls prog 206 #[c,d] w λe f=>∃h,e= .returned h/\FrN 165 .u64 W w f h (b - a)/\Ext w f:=by
 obtain⟨xs,⟨p,q,rfl,r,s,u⟩,j,l,rfl⟩:=m;obtain⟨v,x,rfl,_,_,y⟩:=o;rw[mR]at j;have A:=lN lF hle;have B:=rL lF l;have:=VQ p v q x xs (dg W a) w u y r s j om (by rw[nE lF];exact hle) l (nQ lF a).1;rwa [nE lF]at this
theorem EO(a:Option Addr)(n c:Nat)(xs:List Nat)(k:Nat)(w:World)(hn:xs.length=n)(m:Rd w a (mK .u64 xs))(x:n<=8796093022208)(y:k<=8796093022208):
  Calls prog 207 #[(a,n,c),k] w λe d=>∃f,e= .returned f/\FrL 165 .u64 w d f (List.replicate k 0++xs)/\Ext w d:=by
 have o:=a8 hn;clear hn;go_enter func207,ntmps207;go_wp2_with (at_make;refine J2 _ rfl _ _ 33 rfl 165 .u64 8 underlying33 tH .i64 .i64 _ _ k n rfl rfl rfl om om om ?_);intro _ g b hg p;have h:=p.fr hg (cap:=k+n) (by simp[kU]) om;simp only[bW]at h;have q:=m.ext b;have r:=b.size;have j:(List.replicate k 0:List Nat).length=k:=bW;have l:=a8 j;clear j;go_wp2_with (at_builtin;refine n6 _ rfl _ _ 33 rfl 165 .u64 8 underlying33 tH w _ (List.replicate k 0) xs a n c rfl rfl o.out h q (by rw[l.out];omega) (by rw[l.out];omega) r ?_);intro s _ u v;go_wp2;go_ret;exact⟨s,rfl,u,Ext.step (g:=g) b v hg⟩
theorem uM{k:IntKind}{w:World}{ad:Option Addr}{n cap:Nat}{xs:List Nat}(b:Rd w ad (mK k xs))(hn:xs.length=n)(c:n<=cap)(d:cap<=9223372036854775807)(f:n<=1099511627776)(h:Dig a xs)(j:val a xs=m):
  IsN k a w (ad,n,cap) m:=by
 subst hn;exact⟨xs,⟨ad,cap,rfl,c,d,b⟩,by rw[mR];exact f,h,j⟩
theorem KW(d:Value)(a k:Nat)(w:World)(h:IsC .u64 W w d a)(f:k+sz W a<=1099511627776):
  Calls prog 207 #[d,k] w λe c=>∃b,e= .returned b/\IsN .u64 W c b (W^k*a)/\Ext w c:=by
 obtain⟨j,l,rfl,_,_,m⟩:=h;unfold sz at f;refine(EO j _ l (dg W a) k w rfl m om om).mono ?_;rintro e c ⟨b,rfl,o,p⟩;refine⟨b,rfl,⟨_,o.isL,?_,?_,?_⟩,p⟩
 .rw[aB,bW,mR];exact f
 .exact(Dig.replicate (by rw[lX];omega) _).append (nQ lF a).1
 .rw[EC,nE lF]
theorem UM(c j:Value)(b a:Nat)(w:World)(q:IsN .u64 W w c b)(r:IsN .u64 W w j a)(hle:a<=b):
  Calls prog 203 #[c,j] w λe l=>∃d,e= .returned (.tuple #[d,(0:Int)])/\FrN 165 .u64 W w l d (b - a)/\Ext w l:=by
 have:decide (o6 b a<0)=false:=by
  unfold o6;rw[if_neg om];split<;>simp
 go_enter func203,ntmps203;go_wp2_with fail;refine(tR c j b a w q r).mono ?_;rintro e m ⟨rfl,f⟩;generalize o6 b a=cc at*;have y:=r.ext f;have A:=q.ext f;obtain⟨h,⟨o,p,rfl,s,u,v⟩,_,B,x⟩:=y;go_wp2_with fail;refine(lT o _ p h m rfl v s u).mono ?_;rintro e l ⟨rfl,rfl⟩;have ht:tz h=dg W a:=by rw[pK lF B,x]
 have C:IsC .u64 W m (o,(tz h).length,p) a:=by
  unfold IsC;rw[<-ht];exact⟨o,p,rfl,aE (nJ h) s,u,by rw[<-sD,oJ];exact v.take _⟩
 clear ht x;go_wp2_with fail;refine(BK c _ b a m A C hle).mono ?_;rintro e _ ⟨d,rfl,D,E⟩;go_wp2;go_ret2;exact⟨d,rfl,D.mono f.size,f.trans E⟩
theorem ah2(c d:Value)(a b:Nat)(w:World)(f:IsN .u64 W w c a)(h:IsN .u64 W w d b)(j:a<b):
  Calls prog 203 #[c,d] w λe l=>e= .returned (.tuple #[(),(4:Int)])/\Ext w l:=by
 have:decide (o6 a b<0)=true:=by
  unfold o6;rw[if_pos j];rfl
 go_enter func203,ntmps203;go_wp2_with fail;refine(tR c d a b w f h).mono ?_;rintro e _ ⟨rfl,m⟩;generalize o6 a b=cc at*;go_wp2_with fail;go_ret2;exact⟨rfl,m⟩
theorem A3(a b hi f:Nat)(w:World)(j:a<W)(l:b<W)(c:a*b / W=hi)(d:a*b % W=f):
  Calls prog 239 #[.int .u64 (a:Int),.int .u64 (b:Int)] w λe h=>e= .returned (.tuple #[.int .u64 (hi:Int),.int .u64 (f:Int)])/\w=h:=by
 subst c d;rw[lX]at*;exact(bits_Mul64 a b j l w).mono λe h ⟨c,d⟩=>⟨c,d.symm⟩
def zQ(l:List Nat)(i:Nat):Prop:=∀j,i<=j->gD l j=0
def FS(xs ys l:List Nat)(i:Nat):Prop:=
 l.length=xs.length+ys.length/\Dig W l/\val W l=val W (xs.take i)*val W ys/\zQ l (i+ys.length)/\i<=xs.length
def zP(xs ys l:List Nat)(i k c:Nat):Prop:=
 l.length=xs.length+ys.length/\Dig W l/\val W l+c*W^(i+k)=val W (xs.take i)*val W ys+gD xs i*W^i*val W (ys.take k)/\zQ l (i+ys.length)/\k<=ys.length/\c<W
theorem DQ{i:Nat}(d:i≠a):gD (b.set i c) a=gD b a:=by
 simp[gD,List.getD,jM d]
theorem IY(a:List Nat)(i b:Nat)(c:i<a.length):val W (a.set i b)+gD a i*W^i=val W a+b*W^i:=by
 rw[nY c];exact UX a i b c
theorem zQ.set{n i:Nat}(c:zQ b n)(hi:i<n):zQ (b.set i a) n:=λd f=>by
 rw[DQ om];exact c d f
theorem zP.start{xs:List Nat}{i:Nat}(a:FS xs b h i)(c:0<W):zP xs b h i 0 0:=by
 obtain⟨f,j,l,m,_⟩:=a;exact⟨f,j,by simp[val,l],m,zl,c⟩
theorem AN{x p c:Nat}(d:x<a)(f:y<a)(h:p<a)(j:c<a):x*y+p+c<a*a:=by
 obtain⟨b,rfl⟩:∃b,a=b+1:=⟨a - 1,om⟩;have:x*y<=b*b:=cW om om;have:(b+1)*(b+1)=b*b+b+b+1:=by rw[bX,bK];omega
 omega
theorem zP.step{xs:List Nat}{i k:Nat}(m:zP xs b h i k a)(C:i<xs.length)(D:k<b.length)(o:Dig W xs)(p:Dig W b)(t q:Nat)
  (ht:(gD xs i*gD b k+gD h (i+k)+a) % W=t) (f:(gD xs i*gD b k+gD h (i+k)+a) / W=q):
  zP xs b (h.set (i+k) t) i (k+1) q:=by
 obtain⟨r,j,_,s,_,u⟩:=m;have c:0<W:=by rw[lX];omega
 have v:gD xs i*gD b k+gD h (i+k)+a<W*W:=AN (o.gD c i) (p.gD c k) (j.gD c _) u;refine⟨by simpa using r,j.set (by rw[<-ht];exact cH _ c),?_,s.set om,om,by rw[<-f];exact cS v⟩;have:=IY h (i+k) t om;have l:=cU (gD xs i*gD b k+gD h (i+k)+a) W;rw[ht,f]at l;have x:val W (b.take (k+1))=val W (b.take k)+W^k*gD b k:=o4 b k;have y:(t+W*q)*W^(i+k)=(gD xs i*gD b k+gD h (i+k)+a)*W^(i+k):=by rw[l]
 have A:gD xs i*W^i*(W^k*gD b k)=gD xs i*gD b k*W^(i+k):=by rw[eU];ac_rfl
 have B:q*W^(i+(k+1))=W*q*W^(i+k):=by rw[<-gH,cP];ac_rfl
 rw[x,bK,A,B];simp only[bX]at y;omega
theorem FS.next{xs:List Nat}{i:Nat}(d:zP xs b h i b.length a)(r:i<xs.length):FS xs b (h.set (i+b.length) a) (i+1):=by
 obtain⟨f,j,l,c,_,m⟩:=d;refine⟨by simpa using f,j.set m,?_,λo _=> ?_,om⟩
 .have p:=IY h (i+b.length) a om;rw[c _ lr]at p;rw[aK lr]at l;have q:val W (xs.take (i+1))=val W (xs.take i)+W^i*gD xs i:=o4 xs i;rw[q,bX,bF (W^i)];omega
 .rw[DQ om];exact c o om
theorem FX(a b:Nat)(w:World):
  (callFunc 237 #[.int .u64 (a:Int),.int .u64 (b:Int),.int .u64 0]).run prog w=
   .ok (.value (.tuple #[.int .u64 (((a+b) % W:Nat):Int),.int .u64 (((a+b) / W:Nat):Int)])) w:=DJ a b 0 om w
theorem LL{b:Nat}(x:1<a)(m:c<a)(q:f<a)(r:b<a)(s:p<a):
  c*f / a+(c*f % a+b) / a<=a - 1/\c*f / a+(c*f % a+b) / a+((c*f % a+b) % a+p) / a<=a - 1/\
  ((c*f % a+b) % a+p) % a=(c*f+b+p) % a/\c*f / a+(c*f % a+b) / a+((c*f % a+b) % a+p) / a=(c*f+b+p) / a:=by
 have u:=AN m q r s;have:=cU (c*f) a;have:=cU (c*f % a+b) a;have:=cU ((c*f % a+b) % a+p) a;have h:((c*f % a+b) % a+p) % a<a:=cH _ om;have j:c*f+b+p=((c*f % a+b) % a+p) % a+a*(c*f / a+(c*f % a+b) / a+((c*f % a+b) % a+p) / a):=by
  simp only[bK];omega
 have l:(c*f+b+p) / a=c*f / a+(c*f % a+b) / a+((c*f % a+b) % a+p) / a:=by
  rw[j,Nat.add_mul_div_left _ _ om,fN h,aY]
 have v:(c*f+b+p) % a=((c*f % a+b) % a+p) % a:=by
  rw[j,iO,dM h]
 have d:(c*f+b+p) / a<a:=cS u;rw[l]at d;refine⟨?_,?_,v.symm,l.symm⟩
 .generalize ((c*f % a+b) % a+p) / a=o at d;generalize c*f / a+(c*f % a+b) / a=o2 at d ⊢;omega
 .generalize c*f / a+(c*f % a+b) / a+((c*f % a+b) % a+p) / a=o at d ⊢;omega
theorem PM(v x:Option Addr)(L M:Nat)(xs a:List Nat)(w:World)(N:Rd w v (mK .u64 xs))(O:Rd w x (mK .u64 a))
  (a4:xs.length<=1099511627776) (a5:a.length<=1099511627776) (q:Dig W xs) (r:Dig W a):
  Calls prog 205 #[(v,xs.length,L),(x,a.length,M)] w λe m=>∃y,e= .returned y/\FrN 165 .u64 W w m y (val W xs*val W a)/\Ext w m:=by
 have o:=FX;go_enter func205,ntmps205;go_wp2_with (at_make;refine oK _ rfl _ _ 33 rfl 165 .u64 8 underlying33 tH .i64 .i64 _ _ (xs.length+a.length) rfl rfl om om om om ?_);intro _ g A hg B;go_wp2_with fail;go_loopw [22] (λi wr=>∃(k:Nat) (b:List Nat),i= .int .i64 k/\FS xs a b k/\lM 165 .u64 wr g b []/\Ext w wr) (λi _=>xs.length - (intOf i).toNat)
 case atStart=>exact ⟨0,_,rfl,⟨sm,Dig.replicate (by rw[lX];omega) _,by simp[val,sL],λ_ _=>by simp[gD,List.getD,fY];split<;>simp,zl⟩,B,A⟩
 case round=>
  obtain⟨i,b,rfl,f,c,h⟩:=hrel;have a6:=f.2.2.2.2;clear B A;by_cases p:i<xs.length
  .obtain⟨_,off,rfl,C⟩:=N.at (by rw[kU];omega);have D:=h.cell (C i _ (mM .u64 xs i p));rw[<-nY p]at D;clear C;have E:=a8 (zP.start f (by rw[lX];omega));clear f;go_wp2_with fail;obtain⟨_,rfl⟩:=ex (wr:World);go_loopw [8,29] (λj s wr=>∃(k F:Nat) (b:List Nat),s= .int .i64 k/\j= .int .u64 F/\zP xs a b i k F/\lM 165 .u64 wr g b []/\Ext w wr) (λ_ s _=>a.length - (intOf s).toNat)
   case atStart=>exact ⟨0,0,b,rfl,rfl,E.out,c,h⟩
   case round=>
    obtain⟨k,j,b,rfl,rfl,d,c,h⟩:=hrel;have a7:=d.2.2.2.2.1;have l:=a8 d.1;clear D E;by_cases u:k<a.length
    .obtain⟨_,_,rfl,H⟩:=O.at (by rw[kU];omega);have Q:=h.cell (H k _ (mM .u64 a k u));rw[<-nY u]at Q;clear H;have R:1<W:=lF;have S:=c.cell (i+k) (by have:=l.out;omega);rw[<-nY (show i+k<b.length by have:=l.out;omega)]at S;have T:=c.free (i+k);have U:=LL R (q.gD om i) (r.gD om k) (d.2.1.gD om (i+k)) d.2.2.2.2.2;obtain⟨V,X,I,J⟩:=U;have Y:=a8 (d.step p u q r _ _ I.symm J.symm);have Z:=A3 (gD xs i) (gD a k) _ _ wr (q.gD om i) (r.gD om k) rfl rfl;clear d I J;generalize gD xs i*gD a k / W=hi at*;generalize gD xs i*gD a k % W=lo at*;have a9:=o lo (gD b (i+k));generalize (lo+gD b (i+k)) / W=c1 at*;generalize (lo+gD b (i+k)) % W=s1 at*;have b0:=o s1 j;generalize (s1+j) / W=c2 at*;generalize (s1+j) % W=s2 at*;rw[lX]at V X;clear o;go_wp2_with fail;refine Z.mono ?_;rintro e m ⟨rfl,rfl⟩;go_wp2_with fail;go_roundw
     case rel=>exact ⟨k+1,_,_,rfl,by go_num,Y.out,lM.set (w:=wr) c (i+k) s2 (by have:=l.out;omega),h.setCell hg _⟩
     case measure=>simp [intOf];omega
    .have a0:k=a.length:=om;subst a0;have a1:=a8 (FS.next d p);obtain⟨_,_⟩:=c.got (i+a.length) (by have:=l.out;omega);have T:=c.free (i+a.length);clear d o;go_wp2_with fail;go_roundw
     case rel=>exact ⟨i+1,_,by go_num,a1.out,lM.set (w:=wr) c (i+a.length) j (by have:=l.out;omega),h.setCell hg _⟩
     case measure=>simp [intOf];omega
  .have hi:i=xs.length:=om;subst hi;have K:=a8 f.1;have a2:=a8 f.2.1;have a3:Hid (val W b=val W xs*val W a):=by have:=f.2.2.1;rwa [aK lr]at this
   clear f;go_wp2_with fail;refine(lT g (xs.length+a.length) (xs.length+a.length) b _ K.out c.rd om om).mono ?_;rintro e m ⟨rfl,rfl⟩;go_wp2;go_ret;exact⟨_,rfl,c.frN hg lF a2.out a3.out K.out om,h⟩
theorem kar(c a d b P:Nat):c*d+P*((c+a)*(d+b) - c*d - a*b)+P*P*(a*b)=(c+P*a)*(d+P*b):=by
 have f:(c+a)*(d+b) - c*d - a*b=c*b+a*d:=by
  simp only[bX,bK];omega
 rw[f];simp only[bX,bK];have:P*a*d=P*(a*d):=cG ..;have:c*(P*b)=P*(c*b):=by ac_rfl
 have:P*a*(P*b)=P*P*(a*b):=by ac_rfl
 omega
theorem YW(k a:Nat):sz W (W^k*a)<=k+sz W a:=by
 refine nG lF ?_;rw[eU];exact Nat.mul_lt_mul_of_pos_left (qU lF a) (cZ (by rw[lX];omega))
theorem LG(d:a<=b.length)(f:a=c∨a=b.length):val W b=val W (b.take a)+W^c*val W (b.drop a):=by
 rcases f with rfl |rfl
 .exact sX b a d
 .rw[aK lr,dP lr];simp[val]
theorem aa5(j:Nat):∀(d h:Nat) (F H:Value) (w:World),sz W d+sz W h<=j->j<=68719476736->IsN .u64 W w F d->IsN .u64 W w H h->
  Calls prog 148 #[F,H] w λe w'=>∃v',e= .returned v'/\FrN 165 .u64 W w w' v' (d*h)/\Ext w w':=by
 induction j using Nat.strongRecOn with
 |_ j X=>
 intro d h F H w Y _ bG bO;obtain⟨xs,⟨r,l,rfl,I,Z,J⟩,bP,bR,a2⟩:=bG;obtain⟨m,⟨s,o,rfl,K,a3,L⟩,bS,bT,a4⟩:=bO;have M:=a8 (show tz xs=dg W d by rw[pK lF bR,a2]);have N:=a8 (show tz m=dg W h by rw[pK lF bT,a4]);have A:Rd w r (mK .u64 (tz xs)):=by rw[<-sD,oJ];exact J.take _
 have B:Rd w s (mK .u64 (tz m)):=by rw[<-sD,oJ];exact L.take _
 have eN:(tz xs).length+(tz m).length<=j:=by rw[M.out,N.out];exact Y
 have a5:(tz xs).length<=l:=aE (nJ xs) I;have a6:(tz m).length<=o:=aE (nJ m) K;clear a2 a4 Y;have O:=a8 X;clear X;go_enter func148,ntmps148;go_wp2_with fail;refine(lT r _ l xs w rfl J I Z).mono ?_;rintro e w' ⟨rfl,rfl⟩;go_wp2_with fail;refine(lT s _ o m w rfl L K a3).mono ?_;rintro e w' ⟨rfl,rfl⟩;clear J L bP bS I K;generalize tz xs=p at*;generalize tz m=q at*;have u:Dig W p:=by rw[M.out];exact(nQ lF d).1
 have v:Dig W q:=by rw[N.out];exact(nQ lF h).1
 have a7:Hid (val W p=d):=by show val W p=d;rw[M.out,nE lF]
 have a9:Hid (val W q=h):=by show val W q=h;rw[N.out,nE lF]
 by_cases hb:p.length<24∨q.length<24
 .have hs:=PM r s l o p q w A B om om u v;rw[a7.out,a9.out]at hs;rcases dH p.length 24 with b2 |b2
  .exact iU2
  .have c0:q.length<24:=om;exact iU2
 .have b2:24<=p.length:=om;have c0:24<=q.length:=om;clear hb;go_wp2_with fail;obtain⟨a,b3,_,_,_⟩:∃a:Nat,max (p.length:Int) (q.length:Int) / 2=(a:Int)/\p.length<=2*a+1/\q.length<=2*a+1/\(2*a<=p.length∨2*a<=q.length):=⟨max p.length q.length / 2,om,om,om,om⟩;rw[b3];clear b3;obtain⟨b,_,_,c1,c2⟩:∃f:Nat,min (a:Int) (p.length:Int)=f/\f<=a/\f<=p.length/\(f=a∨f=p.length):=⟨min a p.length,om,om,om,om⟩;obtain⟨c,_,d1,d2,d3⟩:∃f:Nat,min (a:Int) (q.length:Int)=f/\f<=a/\f<=q.length/\(f=a∨f=q.length):=⟨min a q.length,om,om,om,om⟩;have Q:=A.take b;have C:=A.cut b l (by rw[kU];exact a5);have R:=B.take c;have D:=B.cut c o (by rw[kU];exact a6);rw[<-oJ]at Q R;rw[<-WM]at C D;go_quiet (fail);generalize (if l=b then r else Option.map (λ(d:Addr)=>d.add b) r)=ada at C ⊢;go_wp2_with fail;go_quiet (fail);generalize (if o=c then s else Option.map (λ(d:Addr)=>d.add c) s)=adb at D ⊢;have b4:=uM Q (by rw[aP];omega) (show b<=l by omega) Z om (u.take b) rfl;have b5:=uM C (by rw[cK]) (show p.length - b<=l - b by omega) om om (u.drop b) rfl;have b6:=uM R (by rw[aP];omega) (show c<=o by omega) a3 om (v.take c) rfl;have b7:=uM D (by rw[cK]) (show q.length - c<=o - c by omega) om om (v.drop c) rfl;have fA:sz W (val W (p.take b))<=b:=by have:=rL lF (u.take b);rw[aP]at this;unfold sz;omega
  have fB:sz W (val W (p.drop b))<=p.length - b:=by have:=rL lF (u.drop b);rw[cK]at this;exact this
  have t0:sz W (val W (q.take c))<=c:=by have:=rL lF (v.take c);rw[aP]at this;unfold sz;omega
  have t1:sz W (val W (q.drop c))<=q.length - c:=by have:=rL lF (v.drop c);rw[cK]at this;exact this
  have c3:Hid (d*h=_):=(show d*h=(val W (p.take b)+W^a*val W (p.drop b))*(val W (q.take c)+W^a*val W (q.drop c))by
   rw[<-LG c1 c2,<-LG d2 d3,a7.out,a9.out])
  generalize val W (p.take b)=a0 at*;generalize val W (p.drop b)=a1 at*;generalize val W (q.take c)=b0 at*;generalize val W (q.drop c)=b1 at*;clear Q C R D A B a5 a6;have c4:=qK lF a0 b0;have c5:=qK lF a1 b1;have c6:=tS lF a0 a1;have c7:=tS lF b0 b1;have c8:=qK lF (a0+a1) (b0+b1);change sz W (a0*b0)<=sz W a0+sz W b0 at c4;change sz W (a1*b1)<=sz W a1+sz W b1 at c5;change sz W (a0+a1)<=max (sz W a0) (sz W a1)+1 at c6;change sz W (b0+b1)<=max (sz W b0) (sz W b1)+1 at c7;change sz W ((a0+a1)*(b0+b1))<=sz W (a0+a1)+sz W (b0+b1)at c8;go_wp2_with fail;refine(O.out (j - 1) om a0 b0 _ _ _ om om (b4.ext ((Ext.refl w).drews _)) (b6.ext ((Ext.refl w).drews _))).mono ?_;rintro e _ ⟨_,rfl,b8,c9⟩;have x:=((Ext.refl w).drews _).trans c9;go_wp2_with fail;refine(O.out (j - 1) om a1 b1 _ _ _ om om (b5.ext x) (b7.ext x)).mono ?_;rintro e _ ⟨_,rfl,b9,y⟩;have S:=x.trans y;go_wp2_with fail;refine(xI _ _ a0 a1 _ (b4.ext S) (b5.ext S)).mono ?_;rintro e _ ⟨_,rfl,e0,bA⟩;have bB:=S.trans bA;go_wp2_with fail;refine(xI _ _ b0 b1 _ (b6.ext bB) (b7.ext bB)).mono ?_;rintro e _ ⟨_,rfl,e1,bC⟩;go_wp2_with fail;refine(O.out (j - 1) om (a0+a1) (b0+b1) _ _ _ om om ((e0.isC.ext bC).isN lF lq) (e1.isC.isN lF lq)).mono ?_;rintro e _ ⟨_,rfl,e2,e3⟩;have E:=bA.trans (bC.trans e3);have e4:a0*b0<=(a0+a1)*(b0+b1):=cW om om;have e5:a1*b1<=(a0+a1)*(b0+b1) - a0*b0:=by
   have e:(a0+a1)*(b0+b1)=a0*b0+a0*b1+(a1*b0+a1*b1):=by simp only[bX,bK];omega
   omega
  go_wp2_with fail;refine(BK _ _ _ _ _ (e2.isC.isN lF lq) (b8.isC.ext (y.trans E)) e4).mono ?_;rintro e _ ⟨_,rfl,e6,T⟩;have fC:sz W ((a0+a1)*(b0+b1) - a0*b0)<=sz W ((a0+a1)*(b0+b1)):=lN lF om;go_wp2_with fail;refine(BK _ _ _ _ _ (e6.isC.isN lF lq) (b9.isC.ext (E.trans T)) e5).mono ?_;rintro e _ ⟨_,rfl,e7,bD⟩;have fD:sz W ((a0+a1)*(b0+b1) - a0*b0 - a1*b1)<=sz W ((a0+a1)*(b0+b1)):=lN lF om;go_wp2_with fail;refine(KW _ _ a _ e7.isC om).mono ?_;rintro e _ ⟨_,rfl,hs,bE⟩;have e8:=y.trans (E.trans (T.trans (bD.trans bE)));go_wp2_with fail;refine(xI _ _ _ _ _ ((b8.isC.ext e8).isN lF lq) hs).mono ?_;rintro e _ ⟨_,rfl,ht,e9⟩;have U:=E.trans (T.trans (bD.trans (bE.trans e9)));go_wp2_with fail;rw[show (2:Int)*(a:Int)=((2*a:Nat):Int)from om];refine(KW _ _ (2*a) _ (b9.isC.ext U) om).mono ?_;rintro e _ ⟨_,rfl,eA,V⟩;have eB:=tS lF (a0*b0) (W^a*((a0+a1)*(b0+b1) - a0*b0 - a1*b1));change sz W (a0*b0+W^a*((a0+a1)*(b0+b1) - a0*b0 - a1*b1))<=max (sz W (a0*b0)) (sz W (W^a*((a0+a1)*(b0+b1) - a0*b0 - a1*b1)))+1 at eB;have fE:=YW a ((a0+a1)*(b0+b1) - a0*b0 - a1*b1);go_wp2_with fail;refine(xI _ _ _ _ _ ((ht.isC.ext V).isN lF lq) eA).mono ?_;rintro e _ ⟨eC,rfl,eD,eE⟩;go_wp2;go_ret;have eG:=x.trans (y.trans (U.trans (V.trans eE)));refine⟨eC,rfl,?_,eG⟩;have e:=kar a0 a1 b0 b1 (W^a);rw[c3.out,<-e,<-eU,<-Nat.two_mul];exact eD.mono (x.trans (y.trans (U.trans V))).size
theorem AL(a b:Nat)(c d:Value)(w:World)(j:sz W a+sz W b<=68719476736)(l:IsN .u64 W w c a)(m:IsN .u64 W w d b):
  Calls prog 148 #[c,d] w λe f=>∃h,e= .returned h/\FrN 165 .u64 W w f h (a*b)/\Ext w f:=
 aa5 _ a b c d w lr j l m
def DH(s:Nat)(xs l:List Nat)(i c:Nat):Prop:=
 l.length=xs.length/\Dig W l/\c<2^s/\val W (l.take i)+W^i*c=val W (xs.take i)*2^s/\i<=xs.length/\l.drop i=xs.drop i
theorem tX(a:Nat)(hs:a<=64):W=2^(64 - a)*2^a:=by
 rw[<-eU,Nat.sub_add_cancel hs,lX]
theorem MY(b a:Nat)(hs:a<=64):(b*2^a) % W=(b % 2^(64 - a))*2^a:=by
 rw[tX a hs,jJ]
theorem UJ(b a:Nat)(hs:a<=64):(b*2^a) / W=b / 2^(64 - a):=by
 rw[tX a hs,jI _ _ (cZ om)]
theorem SC(b a c:Nat)(hs:a<=64)(h:c<2^a):(b*2^a) % W+c<W:=by
 rw[MY b a hs];have d:b % 2^(64 - a)+1<=2^(64 - a):=cH _ (cZ om);have f:=aJ (2^a) d;rw[<-tX a hs,bX]at f;omega
theorem PK(b a c:Nat)(hs:a<=64)(d:c<2^a):bits .or .u64 (IntKind.u64.wrap ((b:Int)*2^a)) (c:Int)=(((b*2^a) % W+c:Nat):Int):=by
 have f:=SC b a c hs d;have h:IntKind.u64.wrap ((b:Int)*2^a)=(((b*2^a) % W:Nat):Int):=by
  rw[IntKind.wrap_u64,lX];have:((b:Int)*2^a)=((b*2^a:Nat):Int):=by rw[cL,fF];rfl
  rw[this];omega
 rw[h,u64_or_nat _ _ (by rw[lX]at f ⊢;omega) (by rw[lX]at f;omega)];congr 1;rw[MY b a hs,bF,<-Nat.two_pow_add_eq_or_of_lt d]
theorem DH.step{xs:List Nat}{i:Nat}(h:DH a xs b i c)(f:i<xs.length)(hs:a<=64)(j:Dig W xs):
  DH a xs (b.set i ((xs[i]*2^a) % W+c)) (i+1) (xs[i] / 2^(64 - a)):=by
 obtain⟨l,m,o,_,_,p⟩:=h;refine⟨by simpa using l,m.set (SC _ _ _ hs o),?_,?_,om,?_⟩
 .refine cS ?_;rw[<-tX a hs];exact j.get f
 .rw[nM _ _ (by simp;omega),dE,dR lr,nM xs i f,<-UJ _ _ hs];have e:=cU (xs[i]*2^a) W;have r:=congrArg (W^i* ·) e;simp only[bK]at r;rw[cP,cG,bK,bX,cG (W^i) xs[i]];omega
 .rw[eK om];have:=congrArg (List.drop 1) p;simpa[dK,fL]using this
theorem DH.finish{xs:List Nat}(f:DH a xs b xs.length c)(hs:a<64):Dig W (b++ [c])/\val W (b++ [c])=val W xs*2^a:=by
 obtain⟨h,j,l,d,_,_⟩:=f;have m:c<W:=cD l (by rw[tX a om];exact cX _ (cZ om));refine⟨j.append (Dig.cons m Dig.nil),?_⟩;rw[aK om,aK lr]at d;rw[qN,qY,h];exact d
theorem YN(j:Option Addr)(l:Nat)(xs:List Nat)(a:Nat)(w:World)(K:Rd w j (mK .u64 xs))(R:xs.length<=l)(S:l<=9223372036854775807)
  (a4:xs.length<=1099511627776) (T:Dig W xs) (hs:a<64):
  Calls prog 227 #[(j,xs.length,l),a] w λe d=>∃L,e= .returned (.tuple #[L,(0:Int)])/\FrN 165 .u64 W w d L (val W xs*2^a)/\Ext w d:=by
 have:=nJ xs;have:(a:Int) / 64=((0:Nat):Int):=om;have:(a:Int) % 64=(a:Int):=om;have U:Rd w j (mK .u64 (tz xs)):=by rw[<-sD,oJ];exact K.take _
 have B:=a8 (SK (B:=W) xs);have C:=T.tz;go_enter func227,ntmps227;go_wp2_with fail;refine(lT j _ l xs w rfl K R S).mono ?_;rintro e d ⟨rfl,rfl⟩;generalize tz xs=p at*;go_wp2_with fail;refine(EO j _ l p 0 w rfl U om om).mono ?_;rintro e v ⟨_,rfl,x,y⟩;simp only[List.replicate_zero,j7]at x;rcases aR a with M |M
 .subst M;obtain⟨ad1,cap1,rfl,hlc1,hcap1,hown⟩:=x;go_wp2_with fail;refine(lT ad1 p.length cap1 p v rfl hown.rd hlc1 hcap1).mono ?_;rintro e d ⟨rfl,rfl⟩;go_wp2;go_ret2;refine⟨_,rfl,?_,y⟩;have ht:=pK lF C;rw[kJ,dG,<-B.out];exact lY4
 .rcases aR p.length with D |D
  .have V:p=[]:=aL D;subst V;obtain⟨ad1,cap1,rfl,hlc1,hcap1,hown⟩:=x;go_wp2_with fail;refine wp_loop_rounds 1 ?_;rw[rounds_succ];have X:=y.size;have f:FrL 165 .u64 w v (.slice ad1 0 cap1) []:=⟨ad1,cap1,rfl,zl,hcap1,hown⟩;go_wp2_with (at_builtin;refine n6 _ rfl _ _ 33 rfl 165 .u64 8 underlying33 tH w _ [] [0] v 1 1 rfl rfl rfl (f.alloc _) (Rd.new1 v .u64 0 _) sm sm (by simp;omega) ?_);intro Y E F H;have I:=Ext.step_own (y.alloc (.cells #[.int .u64 0] 165)) H f.block;obtain⟨m,o,rfl,q,r,s⟩:=F;go_wp2_with fail;refine(lT m 1 o [0] E rfl s.rd q r).mono ?_;rintro e d ⟨rfl,rfl⟩;go_wp2;go_ret2;refine⟨_,rfl,?_,I⟩;rw[<-B.out];simp only[val,i8];exact M7 (xs:=[0]) ⟨m,o,rfl,q,r,s⟩
  .obtain⟨g,rest,cap1,rfl,hg,Z,a0,hcap1⟩:=x.blk D;go_wp2_with fail;go_loopw [8,29] (λc i wr=>∃(k N:Nat) (h:List Nat),i= .int .i64 k/\c= .int .u64 N/\DH a p h k N/\lM 165 .u64 wr g h rest/\Ext w wr) (λ_ i _=>p.length - (intOf i).toNat)
   case atStart=>exact ⟨0,0,_,rfl,rfl,⟨rfl,C,cZ om,by simp[val],zl,rfl⟩,Z,y⟩
   case round=>
    obtain⟨k,c,h,rfl,rfl,b,A,J⟩:=hrel;have:=b.2.2.2.2.1;have u:=a8 b.1;by_cases O:k<p.length
    .have:wr.cell? (g,k)=some (.int .u64 (p[k]:Int)):=by
      rw[A.cell k (by have:=b.1;omega),CK b.2.2.2.2.2 (by have:=b.1;omega) O]
     have:=A.free k;have a1:=a8 (b.step O om C);have a2:=a8 (PK p[k] a c om b.2.2.1);go_wp2_with fail;rw[a2.out];go_roundw
     case rel=>exact ⟨k+1,_,_,by go_num,by go_num,a1.out,lM.set (w:=wr) A k _ (by have:=u.out;omega),J.setCell hg _⟩
     case measure=>simp [intOf];omega
    .have a3:k=p.length:=om;subst a3;have Q:=a8 (b.finish hs);have X:=J.size;have f:=A.fr hg (cap:=cap1) (by rw[u.out];exact a0) hcap1;rw[u.out]at f;clear b;go_wp2_with (at_builtin;refine n6 _ rfl _ _ 33 rfl 165 .u64 8 underlying33 tH w _ h [c] wr 1 1 rfl rfl rfl (f.alloc _) (Rd.new1 wr .u64 c _) (by rw[u.out];omega) (by rw[u.out];omega) (by simp;omega) ?_);intro Y E F H;have I:=Ext.step_own (J.alloc (.cells #[.int .u64 (c:Int)] 165)) H f.block;obtain⟨m,o,rfl,q,r,s⟩:=F;go_wp2_with fail;refine(lT m _ o (h++ [c]) E sm s.rd (by simpa using q) r).mono ?_;rintro e d ⟨rfl,rfl⟩;go_wp2;go_ret2;refine⟨_,rfl,?_,I⟩;have ht:=pK lF Q.out.1;rw[<-B.out,<-Q.out.2];show FrL _ _ _ _ _ (dg W (val W (h++ [c])));rw[<-ht];exact M7 ⟨m,o,rfl,q,r,s⟩
theorem LD(b:Value)(c a:Nat)(w:World)(j:IsN .u64 W w b c)(hs:a<64):
  Calls prog 227 #[b,a] w λe d=>∃f,e= .returned (.tuple #[f,(0:Int)])/\FrN 165 .u64 W w d f (c*2^a)/\Ext w d:=by
 obtain⟨xs,⟨l,m,rfl,o,p,q⟩,h,r,rfl⟩:=j;rw[mR]at h;exact YN l m xs a w q o p h r hs
def DI(s:Nat)(xs l:List Nat)(i:Nat):Prop:=
 l.length=xs.length/\Dig W l/\2^s*val W (l.take i)+gD xs 0 % 2^s=val W (xs.take i)+W^i*(gD xs i % 2^s)/\i<=xs.length/\l.drop i=xs.drop i
theorem PL(c b a:Nat)(hs:a<=64)(m:c<W):bits .or .u64 ((c:Int) / 2^a) (IntKind.u64.wrap ((b:Int)*2^(64 - a)))=((c / 2^a+(b*2^(64 - a)) % W:Nat):Int)/\c / 2^a+(b*2^(64 - a)) % W<W/\
  2^a*(c / 2^a+(b*2^(64 - a)) % W)+c % 2^a=c+W*(b % 2^a):=by
 have f:=tX a hs;have h:c / 2^a<2^(64 - a):=by
  refine cS ?_;rw[bF,<-f];exact m
 have d:=MY b (64 - a) om;rw[show 64 - (64 - a)=a by omega]at d;have j:=SC b (64 - a) _ om h;refine⟨?_,om,?_⟩
 .have o:((c:Int) / 2^a)=((c / 2^a:Nat):Int):=by rw[eQ,fF];rfl
  have l:IntKind.u64.wrap ((b:Int)*2^(64 - a))=(((b*2^(64 - a)) % W:Nat):Int):=by
   rw[IntKind.wrap_u64,lX];have:((b:Int)*2^(64 - a))=((b*2^(64 - a):Nat):Int):=by rw[cL,fF];rfl
   rw[this];omega
  rw[o,l,u64_or_nat _ _ (by rw[lX]at j;omega) (by rw[lX]at j ⊢;omega)];congr 1;rw[d,Nat.or_comm,bF (b % 2^a),<-Nat.two_pow_add_eq_or_of_lt h];omega
 .rw[d,bK];have l:=cU c (2^a);have p:2^a*(b % 2^a*2^(64 - a))=W*(b % 2^a):=by rw[f];ac_rfl
  omega
theorem DI.step{xs c:List Nat}{i:Nat}(f:DI a xs c i)(s:i<xs.length)(hs:a<=64)(h:Dig W xs):
  DI a xs (c.set i (gD xs i / 2^a+(gD xs (i+1)*2^(64 - a)) % W)) (i+1):=by
 obtain⟨j,l,_,_,m⟩:=f;have o:0<W:=by rw[lX];omega
 obtain⟨_,b,e⟩:=PL (gD xs i) (gD xs (i+1)) a hs (h.gD o i);generalize gD xs i / 2^a+(gD xs (i+1)*2^(64 - a)) % W=d at*;refine⟨by simpa using j,l.set b,?_,om,?_⟩
 .rw[nM _ _ (by simp;omega),dE,dR lr,o4 xs i];have p:=congrArg (W^i* ·) e;simp only[bK]at p;have r:2^a*(W^i*d)=W^i*(2^a*d):=by ac_rfl
  rw[cP,cG,bK,r];omega
 .rw[eK om];have:=congrArg (List.drop 1) m;simpa[dK,fL]using this
theorem DI.finish{xs:List Nat}(f:DI a xs b xs.length):val W b=val W xs / 2^a:=by
 obtain⟨_,_,c,_,_⟩:=f;rw[aK om,aK lr,AW (l:=xs) (i:=xs.length) om,Nat.zero_mod,gP,bZ]at c;have d:0<2^a:=cZ om;rw[<-c,gW d,fN (cH _ d),bZ]
theorem YO(j:Option Addr)(l:Nat)(xs:List Nat)(a:Nat)(w:World)(B:Rd w j (mK .u64 xs))(V:xs.length<=l)(K:l<=9223372036854775807)
  (a9:xs.length<=1099511627776) (X:Dig W xs) (hs:a<64):
  Calls prog 230 #[(j,xs.length,l),a] w λe d=>∃L,e= .returned (.tuple #[L,(0:Int)])/\FrN 165 .u64 W w d L (val W xs / 2^a)/\Ext w d:=by
 have b0:=nJ xs;have b1:(a:Int) / 64=0:=om;have b2:(a:Int) % 64=(a:Int):=om;have M:Rd w j (mK .u64 (tz xs)):=by rw[<-sD,oJ];exact B.take _
 have C:=a8 (SK (B:=W) xs);have s:=X.tz;go_enter func230,ntmps230;go_wp2_with fail;refine(lT j _ l xs w rfl B V K).mono ?_;rintro e d ⟨rfl,rfl⟩;generalize tz xs=p at*;have b3:min (0:Int) (p.length:Int)=0:=om;go_wp2_with fail;refine(wE j _ l p w rfl M om K (by rw[DE];omega)).mono ?_;rintro e Y ⟨_,rfl,D,u⟩;clear M B;rcases aR a with N |N
 .subst N;obtain⟨ad1,cap1,rfl,hlc1,hcap1,hown⟩:=D;go_wp2_with fail;refine(lT ad1 p.length cap1 p Y rfl hown.rd hlc1 hcap1).mono ?_;rintro e d ⟨rfl,rfl⟩;go_wp2;go_ret2;refine⟨_,rfl,?_,u⟩;have ht:=pK lF s;rw[kJ,Nat.div_one,<-C.out];exact lY4
 .rcases aR p.length with hp |hp
  .have Z:p=[]:=aL hp;subst Z;obtain⟨ad1,cap1,rfl,hlc1,hcap1,hown⟩:=D;go_wp2_with fail;refine wp_loop_rounds 1 ?_;rw[rounds_succ];go_wp2_with fail;refine(lT ad1 0 cap1 [] _ rfl (.inl rfl) om hcap1).mono ?_;rintro e d ⟨rfl,rfl⟩;go_wp2;go_ret2;refine⟨_,rfl,?_,u⟩;rw[<-C.out];simp only[val,Nat.zero_div];exact⟨ad1,cap1,rfl,zl,hcap1,hown⟩
  .obtain⟨g,rest,cap1,rfl,hg,O,a0,hcap1⟩:=D.blk hp;go_wp2_with fail;go_loopw [32] (λi wr=>∃(k:Nat) (f:List Nat),i= .int .i64 k/\DI a p f k/\lM 165 .u64 wr g f rest/\Ext w wr) (λi _=>p.length - (intOf i).toNat)
   case atStart=>exact ⟨0,_,rfl,⟨rfl,s,by simp[val],zl,rfl⟩,O,u⟩
   case round=>
    obtain⟨k,f,rfl,b,m,E⟩:=hrel;have b4:=b.2.2.2.1;have x:=a8 b.1;clear O u;by_cases F:k<p.length
    .have b5:wr.cell? (g,k)=some (.int .u64 (gD p k:Int)):=by
      rw[nY F,m.cell k (by have:=b.1;omega),CK b.2.2.2.2 (by have:=b.1;omega) F]
     have b6:=m.free k;have y:=a8 (b.step F om s);have o:=lM.set m k (gD p k / 2^a) (by have:=b.1;omega);rw[show ((gD p k / 2^a:Nat):Int)=(gD p k:Int) / 2^a by rw[eQ,fF];rfl]at o;have Q:=o.cell k (by rw[cI];have:=b.1;omega);rw[dE,show((gD p k / 2^a:Nat):Int)=(gD p k:Int) / 2^a by rw[eQ,fF];rfl]at Q;by_cases R:k+1<p.length
     .have S:=o.cell (k+1) (by rw[cI];have:=b.1;omega);rw[List.getElem_set_ne om,CK (i:=k+1) (l:=f) (m:=p) (by have:=congrArg (List.drop 1) b.2.2.2.2;simpa[dK,fL]using this) (by have:=b.1;omega) R,<-nY R]at S;have a1:=(PL (gD p k) (gD p (k+1)) a om (s.gD (by rw[lX];omega) k)).1;generalize gD p k / 2^a+(gD p (k+1)*2^(64 - a)) % W=H at a1 y;generalize gD p (k+1)=T at*;clear b;have b7:(k:Int)+1<(p.length:Int):=om;go_wp2_with fail;generalize gD p k=a2 at*;have b8:IntKind.i64.wrap ((k:Int)+1)=(k:Int)+1:=cY _ om;have b9:IntKind.u64.wrap (64 - (a:Int))=64 - (a:Int):=dJ _ om;have bA:(64 - (a:Int)).toNat=64 - a:=om;refine uR g 14 [isV (g,p.length,cap1),isV k,isV (g,k),isV (.int .u64 ((a2:Int) / 2^a)),isV (g,p.length,cap1),isV k,isV (.int .i64 ((k:Int)+1)),isV (g,k+1),isV (.int .u64 T),
        isV (.int .u64 a),isV (.int .u64 (64 - (a:Int))),isV (.int .u64 (IntKind.u64.wrap ((T:Int)*2^(64 - a)))),isV (.int .u64 (H:Int)),isV (g,k),
        λ_ w=>lM 165 .u64 w g (f.set k H) rest]
       [] [3,8,14]
       kr kr (λq=>(by simp only[mJ,mO,aQ,aV,aZ,Nat.reduceAdd];rfl)) ?_ ?_ ?_ ?_
      .exact aR1
      .exact aR1
      .refine⟨?_,?_,?_,?o3,?_,?_,?_,?_,?o8,?_,?_,?_,?_,?_,?o14,trivial⟩
       case o3=>
        intro q A r c hp I;simp[lY,pl,isV,Region.binds]at hp;simp[nT]at c;have a3:=c.cell Q;exact DG6
       case o8=>
        intro q A r c hp I;simp[lY,pl,isV,Region.binds]at hp;simp[nT]at c;have a3:=c.cell S;exact DG6
       case o14=>
        intro q A r c hp I;simp[lY,pl,isV,Region.binds]at hp;simp[nT]at c;have J:=o.ext c;obtain⟨_,_⟩:=J.got k (by rw[cI];have:=x.out;omega);have bB:=J.free k;simp only[kM];go_simp;refine⟨undef,rfl,Chg.setCell _ _ _ _,?_⟩;have:=J.set k H (by rw[cI];have:=x.out;omega);rwa [List.set_set]at this
       all_goals
        intro q A r c hp I;simp[lY,pl,isV,Region.binds]at hp;simp only[kM];go_simp;exact⟨_,rfl,rE,rfl⟩
      .intro q A r hp;simp[n5,pl,isV]at hp;obtain⟨_,_,_,_,_,_,_,_,_,_,_,_,_,_,U⟩:=hp;have a4:=a8 U;clear U;go_wp2;go_roundw
       case rel=>exact ⟨k+1,_,by go_num,y.out,a4.out,(E.setCell hg _).step r hg⟩
       case measure=>simp [intOf];omega
     .have hz:gD p (k+1)=0:=AW om;rw[hz,i8,Nat.zero_mod,bZ]at y;clear b;go_wp2_with fail;go_roundw
      case rel=>exact ⟨k+1,_,by go_num,y.out,o,E.setCell hg _⟩
      case measure=>simp [intOf];omega
    .have a5:k=p.length:=om;subst a5;have a6:=a8 b.finish;have a7:=a8 b.2.1;clear b;go_wp2_with fail;refine(lT g p.length cap1 f _ x.out m.rd om hcap1).mono ?_;rintro e d ⟨rfl,rfl⟩;go_wp2;go_ret2;exact⟨_,rfl,m.frN hg lF a7.out (by rw[<-C.out];exact a6.out) (by rw[x.out];exact a0) hcap1,E⟩
theorem WE(b:Value)(c a:Nat)(w:World)(j:IsN .u64 W w b c)(hs:a<64):
  Calls prog 230 #[b,a] w λe d=>∃f,e= .returned (.tuple #[f,(0:Int)])/\FrN 165 .u64 W w d f (c / 2^a)/\Ext w d:=by
 obtain⟨xs,⟨l,m,rfl,o,p,q⟩,h,r,rfl⟩:=j;rw[mR]at h;exact YO l m xs a w q o p h r hs
def xG(B u v1 v0 d q r:Nat):Prop:=q*v1+r=u/\u*B+d<(q+1)*(v1*B+v0)/\q<=B+1
theorem xG.start{v1:Nat}(h:d<B)(f:v1≠0)(j:B<=2*v1)(l:1<B)(m:v0<B)(o:u<v1*B+v0):xG B u v1 v0 d (u / v1) (u % v1):=by
 have e:=dI u v1;rw[bF]at e;have:=cH u (Nat.pos_of_ne_zero f);generalize u / v1=q at*;generalize u % v1=r at*;refine⟨e,?_,?_⟩
 .have c:u+1<=(q+1)*v1:=by rw[bX];omega
  have a:=aJ B c;rw[bX]at a;rw[bK,<-cG];omega
 .have c:q*v1<v1*B+B:=om;rcases dH (B+1) q with b |b
  .have a:(B+2)*v1<=q*v1:=aJ v1 b;rw[bX,bF B]at a;omega
  .exact b
theorem xG.pos{u v1 r:Nat}(f:0<B)(c:B<=q∨B*r+d<q*v0):1<=q:=by
 rcases c with b |b
 .omega
 .rcases aR q with a |a
  .subst a;simp at b
  .exact a
theorem xG.step(h:xG a f c o d q p)(x:d<a)(s:0<a)(u:f<c*a+o)(l:a<=q∨a*p+d<q*o):xG a f c o d (q - 1) (p+c):=by
 have:=xG.pos (u:=f) (v1:=c) s l;obtain⟨m,_,_⟩:=h;obtain⟨j,rfl⟩:∃j,q=j+1:=⟨q - 1,om⟩;refine⟨by rw[bX]at m;simp only[gC];omega,?_,om⟩;simp only[gC];rcases l with h |h
 .have r:a*(c*a+o)<=(j+1)*(c*a+o):=aJ _ h;have v:a*(f+1)<=a*(c*a+o):=bV _ u;rw[bK,bF a f]at v;omega
 .have r:f*a=(j+1)*c*a+p*a:=by rw[<-m,bX]
  rw[bK,<-cG,r,bF p];omega
theorem xG.exit(h:xG a p c f A o L)(q:o*f<=a*L+A):o=(p*a+A) / (c*a+f):=by
 obtain⟨j,b,_⟩:=h;have l:p*a=o*c*a+L*a:=by rw[<-j,bX]
 have m:o*(c*a+f)<=p*a+A:=by
  rw[bK,<-cG,l,bF L];omega
 rcases aR (c*a+f)with d |d
 .rw[d]at b;simp at b
 .refine(Nat.div_eq_of_lt_le ?_ ?_).symm
  .exact m
  .exact b
theorem xG.brk(b:xG a p A c L f o)(d:f<=a)(h:c<a)(j:a<=o):f=(p*a+L) / (A*a+c):=by
 refine b.exit ?_;have:f*c<=a*c:=aJ _ d;have:a*c<=a*o:=bV _ om;omega
theorem ID(h:f<B)(b:a<c):(a*B+f) / c<B:=by
 refine cS ?_;have d:B*(a+1)<=B*c:=bV _ b;rw[bK,bF B a,bF B c]at d;omega
theorem SH{v d1 d0:Nat}(a:0<v):
  (u*B+d1) / v*B+((u*B+d1) % v*B+d0) / v=(u*B*B+d1*B+d0) / v/\((u*B+d1) % v*B+d0) % v=(u*B*B+d1*B+d0) % v:=by
 have e:=dI (u*B+d1) v;generalize (u*B+d1) / v=q at*;generalize (u*B+d1) % v=r at*;have b:u*B*B+d1*B+d0=v*(q*B)+(r*B+d0):=by
  rw[<-bX,<-e,bX];have:v*q*B=v*(q*B):=cG ..;omega
 rw[b];refine⟨?_,?_⟩
 .rw[gW a]
 .rw[j8]
theorem W_sq:W=4294967296*4294967296:=by rw[lX]
theorem WN(d f a b c:Nat)(e:a*b+c=d*4294967296+f)(h:c<18446744073709551616):
  IntKind.u64.wrap (IntKind.u64.wrap (IntKind.u64.wrap ((d:Int)*4294967296)+(f:Int)) - IntKind.u64.wrap ((a:Int)*b))=(c:Int):=by
 simp only[IntKind.wrap_u64];rw[<-cL];generalize a*b=z at*;omega
theorem R6(c a:Nat)(w:World)(f:c<W)(m:0<a)(h:a<W):
  Calls prog 244 #[.int .u64 0,.int .u64 (c:Int),.int .u64 (a:Int)] w λe j=>e= .returned (.tuple #[.int .u64 ((c / a:Nat):Int),.int .u64 ((c % a:Nat):Int)])/\Ext w j:=by
 have:((a:Int)==0)=false:=by simp;omega
 have:¬(a:Int)<=0:=om;have:¬a=0:=om;rw[lX]at f h;have:IntKind.u64.wrap ((c:Int) / (a:Int))=((c / a:Nat):Int):=by
  have:=fR c a;rw[<-eQ];generalize c / a=d at*;exact dJ _ om
 have l:(c:Int) % (a:Int)=((c % a:Nat):Int):=by rw[Int.natCast_emod]
 generalize c / a=d at*;generalize c % a=b at*;go_enter func244,ntmps244;go_wp2_with fail;go_quiet (fail);go_wp2_with fail;go_ret2;refine⟨?_,(Ext.refl w).drews _⟩;show Ending.returned (.tuple #[.int .u64 (d:Int),.int .u64 ((c:Int) % (a:Int))])=_;rw[l]
theorem V8(hi d b:Nat)(w:World)(N:d<W)(R:b<W)(b5:hi<b)(fG:0<hi):
  Calls prog 244 #[.int .u64 (hi:Int),.int .u64 (d:Int),.int .u64 (b:Int)] w λe b6=>e= .returned (.tuple #[.int .u64 (((hi*W+d) / b:Nat):Int),.int .u64 (((hi*W+d) % b:Nat):Int)])/\Ext w b6:=by
 have g0:((b:Int)==0)=false:=by simp;omega
 have g1:¬(b:Int)<=hi:=om;have g2:((hi:Int)==0)=false:=by simp;omega
 rw[lX]at N R;go_enter func244,ntmps244;go_wp2_with fail;refine(bits_LeadingZeros64 _ _ om om).mono ?_;rintro e b6 ⟨rfl,b7⟩;have c2:=b7.symm;subst c2;clear b7;rw[dS];obtain⟨b8,U,V⟩:=Lib.bitLenAux_bounds 64 b om om;have c3:=Lib.bitLen_le b 64 lr om;change 1<=Lib.bitLen b at b8;change 2^(Lib.bitLen b - 1)<=b at U;change b<2^Lib.bitLen b at V;obtain⟨a,hs,_⟩:∃a:Nat,(64:Int) - (Lib.bitLen b:Int)=(a:Int)/\a<64:=⟨64 - Lib.bitLen b,om,om⟩;rw[hs];have b9:=tX a om;have E:b*2^a<W:=by
  have e:b*2^a<2^Lib.bitLen b*2^a:=iF V (cZ om);rw[<-eU,show Lib.bitLen b+a=64 by omega]at e;rw[lX];exact e
 have K:9223372036854775808<=b*2^a:=by
  have e:2^(Lib.bitLen b - 1)*2^a<=b*2^a:=aJ _ U;rw[<-eU,show Lib.bitLen b - 1+a=63 by omega]at e;exact e
 have c4:IntKind.u64.wrap ((b:Int)*2^a)=((b*2^a:Nat):Int):=by
  rw[IntKind.wrap_u64];have:((b:Int)*2^a)=((b*2^a:Nat):Int):=by rw[cL,fF];rfl
  rw[this];rw[lX]at E;omega
 have c5:∃c:Nat,b*2^a=c:=⟨_,rfl⟩;obtain⟨c,X⟩:=c5;rw[X]at c4 K E;have O:=a8 X;rw[lX]at E;clear X b8 U V c3 hs;have bA:d / 2^(64 - a)<2^a:=by
  refine cS ?_;rw[<-b9,lX];exact N
 have c6:bits .or .u64 (IntKind.u64.wrap ((hi:Int)*2^a)) ((d:Int) / 2^(64 - a))=((hi*2^a+d / 2^(64 - a):Nat):Int):=by
  have c7:((d:Int) / 2^(64 - a))=((d / 2^(64 - a):Nat):Int):=by rw[eQ,fF];rfl
  rw[c7,PK hi a _ om bA,dM];have:hi*2^a<b*2^a:=iF b5 (cZ om);rw[O.out]at this;rw[lX];omega
 have c8:IntKind.u64.wrap ((d:Int)*2^a)=(((d*2^a) % W:Nat):Int):=by
  rw[IntKind.wrap_u64,lX];have:((d:Int)*2^a)=((d*2^a:Nat):Int):=by rw[cL,fF];rfl
  rw[this];omega
 have S:(hi*2^a+d / 2^(64 - a))*W+(d*2^a) % W=(hi*W+d)*2^a:=by
  have e:=cU (d*2^a) W;rw[UJ _ _ om]at e;have c9:hi*2^a*W=hi*W*2^a:=by ac_rfl
  have Y:d / 2^(64 - a)*W=W*(d / 2^(64 - a)):=bF ..;rw[bX,bX,c9,Y];omega
 have J:hi*2^a+d / 2^(64 - a)<c:=by
  have:(hi+1)*2^a<=b*2^a:=aJ _ b5;rw[O.out,bX]at this;omega
 have L:(d*2^a) % W<18446744073709551616:=by rw[<-lX];exact cH _ (by rw[lX];omega)
 obtain⟨f,bB⟩:∃f,hi*2^a+d / 2^(64 - a)=f:=⟨_,rfl⟩;obtain⟨x,bC⟩:∃x,(d*2^a) % W=x:=⟨_,rfl⟩;rw[bB]at c6 J S;rw[bC]at c8 L S;have e0:=a8 S;clear bB bC S bA b9;obtain⟨v1,_,e1⟩:∃v1:Nat,(c:Int) / 4294967296=(v1:Int)/\v1=c / 4294967296:=⟨c / 4294967296,om,rfl⟩;obtain⟨v0,_,e2⟩:∃v0:Nat,bits .and .u64 (c:Int) 4294967295=(v0:Int)/\v0=c % 4294967296:=⟨c % 4294967296,by rw[and_low32 _ om om];omega,rfl⟩;obtain⟨d1,_,e3⟩:∃d1:Nat,(x:Int) / 4294967296=(d1:Int)/\d1=x / 4294967296:=⟨x / 4294967296,om,rfl⟩;obtain⟨d0,_,e4⟩:∃d0:Nat,bits .and .u64 (x:Int) 4294967295=(d0:Int)/\d0=x % 4294967296:=⟨x % 4294967296,by rw[and_low32 _ om om];omega,rfl⟩;have p:Hid (c=v1*4294967296+v0):=by show c=v1*4294967296+v0;omega
 have e5:Hid (x=d1*4294967296+d0):=by show x=d1*4294967296+d0;omega
 have y:v1<4294967296:=om;have M:2147483648<=v1:=om;have q:v0<4294967296:=om;have l:d1<4294967296:=om;have A:d0<4294967296:=om;clear e1 e2 e3 e4;have T:=xG.start (B:=4294967296) (u:=f) (v1:=v1) (v0:=v0) (d:=d1) l om om om q (by rw[<-p.out];exact J);have bD:(f:Int) / (v1:Int)=((f / v1:Nat):Int):=by rw[eQ]
 have bE:IntKind.u64.wrap ((f:Int) - IntKind.u64.wrap (((f / v1:Nat):Int)*(v1:Int)))=((f % v1:Nat):Int):=by
  have e:=dI f v1;rw[bF]at e;rw[IntKind.wrap_u64,IntKind.wrap_u64,<-cL];generalize f / v1*v1=qv at*;omega
 have bG:f % v1<v1:=cH _ om;generalize f / v1=F at*;generalize f % v1=H at*;have g3:¬v1=0:=om;have m:=T.2.2;have bO:IntKind.u64.wrap (F:Int)=F:=dJ _ om;go_upto_block 0 with fail;go_cut [15] (λr Z=>∃B:Nat,w=Z/\r= .int .u64 B/\Hid (B=(f*4294967296+d1) / (v1*4294967296+v0)))
 case first=>
  go_wp2_with fail;have j:=a8 T;clear T bO bE bD;go_loop [15,16] (λr a0=>∃F H:Nat,r= .int .u64 F/\a0= .int .u64 H/\H<4294967296/\Hid (xG 4294967296 f v1 v0 d1 F H)) (λr _=>(intOf r).toNat)
  case atStart=>exact ⟨F,H,rfl,rfl,om,j⟩
  case round=>
   clear j m bG;obtain⟨qq,rr,rfl,rfl,s,j⟩:=hrel;have m:=j.out.2.2;rcases dH qq 4294967296 with o |o
   .obtain⟨pp,e6,u⟩:∃pp:Nat,IntKind.u64.wrap ((qq:Int)*v0)=(pp:Int)/\qq*v0=pp:=Vo6;obtain⟨t2,e7,v⟩:∃t2:Nat,IntKind.u64.wrap (IntKind.u64.wrap (4294967296*(rr:Int))+(d1:Int))=(t2:Int)/\4294967296*rr+d1=t2:=by
     refine⟨4294967296*rr+d1,?_,rfl⟩;rw[dJ (4294967296*(rr:Int)) om,dJ _ om];omega
    have a1:¬(4294967296:Int)<=(qq:Int):=om;have a2:(rr:Int)<4294967296:=om;have a3:(v1:Int)<4294967296:=om;have e8:(d1:Int)<4294967296:=om;have e9:(v0:Int)<4294967296:=om;have eA:(qq:Int)<4294967296:=om;have a4:=a8 y;have a5:=a8 l;have Hb3:=a8 q;have a6:=a8 s;have Hq3:=a8 m;by_cases I:t2<pp
    .have Hs:=a8 (j.out.step l om (by rw[<-p.out];exact J) (.inr (by rw[u,v];exact I)));have eB:(1:Int)<=(qq:Int):=by
      have:=xG.pos (u:=f) (v1:=v1) (B:=4294967296) (q:=qq) (r:=rr) (d:=d1) (v0:=v0) om (.inr (by rw[u,v];exact I));omega
     have a7:(t2:Int)<pp:=om;have a9:4294967296*(rr:Int)+d1<(pp:Int):=om;clear o m y M q l A s J K E L N R u v I;by_cases Q:(4294967296:Int)<=(rr:Int)+v1
     .go_wp2_with fail;go_meet;exact tX7
     .exact wc3
    .have a7:¬(t2:Int)<pp:=om;have a9:¬4294967296*(rr:Int)+d1<(pp:Int):=om;have b0:=a8 (j.out.exit (by rw[u,v];omega));clear o m y M q l A s J K E L N R u v I;go_wp2_with fail;go_meet;exact⟨qq,rfl,rfl,b0⟩
   .have Hs:=a8 (j.out.step l om (by rw[<-p.out];exact J) (.inl o));have Hq:=a8 o;have Hq3:=a8 m;have a1:(4294967296:Int)<=(qq:Int):=om;have eC:(qq:Int)<=4294967297:=om;have a2:(rr:Int)<4294967296:=om;have a3:(v1:Int)<4294967296:=om;have a4:=a8 y;have a5:=a8 l;have Hb3:=a8 q;have a6:=a8 s;clear o m y M q l A s J K E L N R;by_cases Q:(4294967296:Int)<=(rr:Int)+v1
    .go_wp2_with fail;go_meet;exact fo2
    .exact mh5
 case rest=>
  obtain⟨B,rfl,rfl,bP⟩:=hcut;have b1:0<c:=om;have C:(f*4294967296+d1) % c<c:=cH _ b1;have eD:IntKind.u64.wrap (IntKind.u64.wrap (IntKind.u64.wrap ((f:Int)*4294967296)+(d1:Int)) - IntKind.u64.wrap ((B:Int)*c))=(((f*4294967296+d1) % c:Nat):Int):=by
   have e:=dI (f*4294967296+d1) c;rw[p.out]at e C;rw[<-bP.out,<-p.out]at e;rw[<-p.out]at C;rw[bF c]at e;simp only[IntKind.wrap_u64];rw[<-cL];generalize B*c=z at*;generalize (f*4294967296+d1) % c=r1 at*;omega
  have bR:Hid (B=(f*4294967296+d1) / c):=by show B=(f*4294967296+d1) / c;rw[bP.out,<-p.out]
  have g4:B<4294967296:=by rw[bR.out];exact ID l J
  obtain⟨h,b2⟩:∃h,(f*4294967296+d1) % c=h:=⟨_,rfl⟩;rw[b2]at eD C;have bS:=a8 b2;clear b2 T bD bE m bG bO;have b3:=xG.start (B:=4294967296) (u:=h) (v1:=v1) (v0:=v0) (d:=d0) A om om om q (by rw[<-p.out];exact C);have eE:(h:Int) / (v1:Int)=((h / v1:Nat):Int):=by rw[eQ]
  have Q:IntKind.u64.wrap ((h:Int) - IntKind.u64.wrap (((h / v1:Nat):Int)*(v1:Int)))=((h % v1:Nat):Int):=by
   have e:=dI h v1;rw[bF]at e;rw[IntKind.wrap_u64,IntKind.wrap_u64,<-cL];generalize h / v1*v1=qv at*;omega
  have eG:h % v1<v1:=cH _ om;generalize h / v1=b4 at*;generalize h % v1=ra at*;have eN:=b3.2.2;have fA:IntKind.u64.wrap (b4:Int)=b4:=dJ _ om;go_upto_block 2 with fail;go_cut [18] (λr Z=>∃D:Nat,w=Z/\r= .int .u64 D/\Hid (D=(h*4294967296+d0) / (v1*4294967296+v0)))
  case first=>
   go_wp2_with fail;have j:=a8 b3;clear b3 fA Q eE;go_loop [18,16] (λr a0=>∃F H:Nat,r= .int .u64 F/\a0= .int .u64 H/\H<4294967296/\Hid (xG 4294967296 h v1 v0 d0 F H)) (λr _=>(intOf r).toNat)
   case atStart=>exact ⟨b4,ra,rfl,rfl,om,j⟩
   case round=>
    clear j eN eG;obtain⟨qq,rr,rfl,rfl,s,j⟩:=hrel;have m:=j.out.2.2;rcases dH qq 4294967296 with o |o
    .obtain⟨pp,e6,u⟩:∃pp:Nat,IntKind.u64.wrap ((qq:Int)*v0)=(pp:Int)/\qq*v0=pp:=Vo6;obtain⟨t2,e7,v⟩:∃t2:Nat,IntKind.u64.wrap (IntKind.u64.wrap (4294967296*(rr:Int))+(d0:Int))=(t2:Int)/\4294967296*rr+d0=t2:=by
      refine⟨4294967296*rr+d0,?_,rfl⟩;rw[dJ (4294967296*(rr:Int)) om,dJ _ om];omega
     have a1:¬(4294967296:Int)<=(qq:Int):=om;have a2:(rr:Int)<4294967296:=om;have a3:(v1:Int)<4294967296:=om;have e8:(d0:Int)<4294967296:=om;have e9:(v0:Int)<4294967296:=om;have eA:(qq:Int)<4294967296:=om;have a4:=a8 y;have a5:=a8 l;have Hb3:=a8 q;have a6:=a8 s;have Hq3:=a8 m;by_cases I:t2<pp
     .have Hs:=a8 (j.out.step A om (by rw[<-p.out];exact C) (.inr (by rw[u,v];exact I)));have eB:(1:Int)<=(qq:Int):=by
       have:=xG.pos (u:=h) (v1:=v1) (B:=4294967296) (q:=qq) (r:=rr) (d:=d0) (v0:=v0) om (.inr (by rw[u,v];exact I));omega
      have a7:(t2:Int)<pp:=om;have a9:4294967296*(rr:Int)+d0<(pp:Int):=om;clear o m y M q l A s K E L C u v I;by_cases Q:(4294967296:Int)<=(rr:Int)+v1
      .go_wp2_with fail;go_meet;exact tX7
      .exact wc3
     .have a7:¬(t2:Int)<pp:=om;have a9:¬4294967296*(rr:Int)+d0<(pp:Int):=om;have b0:=a8 (j.out.exit (by rw[u,v];omega));clear o m y M q l A s K E L C u v I;go_wp2_with fail;go_meet;exact⟨qq,rfl,rfl,b0⟩
    .have Hs:=a8 (j.out.step A om (by rw[<-p.out];exact C) (.inl o));have Hq:=a8 o;have Hq3:=a8 m;have a1:(4294967296:Int)<=(qq:Int):=om;have eC:(qq:Int)<=4294967297:=om;have a2:(rr:Int)<4294967296:=om;have a3:(v1:Int)<4294967296:=om;have a4:=a8 y;have a5:=a8 l;have Hb3:=a8 q;have a6:=a8 s;clear o m y M q l A s K E L C;by_cases Q:(4294967296:Int)<=(rr:Int)+v1
     .go_wp2_with fail;go_meet;exact fo2
     .exact mh5
  case rest=>
   obtain⟨D,rfl,rfl,bT⟩:=hcut;go_wp2_with fail;go_ret2;have g5:D<4294967296:=by rw[bT.out,<-p.out];exact ID A C
   have c0:D=(h*4294967296+d0) / c:=by rw[bT.out,<-p.out]
   obtain⟨t1,t2⟩:=SH (B:=4294967296) (v:=c) (u:=f) (d1:=d1) (d0:=d0) b1;rw[bS.out,<-bR.out,<-c0]at t1;rw[bS.out]at t2;have c1:f*4294967296*4294967296+d1*4294967296+d0=(hi*W+d)*2^a:=by
    rw[cG,gH,<-e5.out,<-W_sq,e0.out]
   have hp2:0<2^a:=cZ om;rw[c1,<-O.out,jI _ _ hp2]at t1;rw[c1,<-O.out,jJ,O.out]at t2;have fB:(h*4294967296+d0) % c<c:=cH _ b1;have fC:IntKind.u64.wrap ((B:Int)*4294967296+(D:Int))=(((hi*W+d) / b:Nat):Int):=by
    rw[<-t1];rw[dJ _ om];omega
   have fD:IntKind.u64.wrap (IntKind.u64.wrap (IntKind.u64.wrap ((h:Int)*4294967296)+(d0:Int)) - IntKind.u64.wrap ((D:Int)*c)) / 2^a=(((hi*W+d) % b:Nat):Int):=by
    have e:=dI (h*4294967296+d0) c;rw[<-c0,bF c]at e;have Y:=WN h d0 D c _ e (kI fB om);rw[Y,t2];have fE:((2:Int)^a)=((2^a:Nat):Int):=by rw[fF];rfl
    rw[fE,<-eQ,Nat.mul_div_cancel _ hp2]
   refine⟨?_,rE⟩;show Ending.returned (.tuple #[.int .u64 (IntKind.u64.wrap ((B:Int)*4294967296+(D:Int))),.int .u64 (IntKind.u64.wrap (IntKind.u64.wrap (IntKind.u64.wrap ((h:Int)*4294967296)+(d0:Int)) - IntKind.u64.wrap ((D:Int)*c)) / 2^a)])=_;rw[fC,fD]
theorem EF(hi b a:Nat)(w:World)(d:b<W)(f:a<W)(h:hi<a):
  Calls prog 244 #[.int .u64 (hi:Int),.int .u64 (b:Int),.int .u64 (a:Int)] w λe j=>e= .returned (.tuple #[.int .u64 (((hi*W+b) / a:Nat):Int),.int .u64 (((hi*W+b) % a:Nat):Int)])/\Ext w j:=by
 rcases aR hi with c |c
 .subst c;have:=R6 b a w d h f;rw[i8,aY];exact this
 .exact V8 hi b a w d f h c
def SS(d:Nat)(xs l:List Nat)(k r:Nat):Prop:=
 l.length=xs.length/\Dig W l/\r<d/\val W (xs.drop k)=val W (l.drop k)*d+r/\k<=xs.length
theorem SS.step{xs:List Nat}(h:SS d xs b (a+1) c)(j:0<d)(l:Dig W xs):
  SS d xs (b.set a ((c*W+gD xs a) / d)) a ((c*W+gD xs a) % d):=by
 obtain⟨m,o,p,r,_⟩:=h;have f:a<xs.length:=om;have s:0<W:=by rw[lX];omega
 have u:=l.gD s a;refine⟨by simpa using m,o.set (ID u p),cH _ j,?_,om⟩;rw[vS xs a f,vS _ a (by simp;omega),dE,eK om,r,<-nY f];have e:=dI (c*W+gD xs a) d;generalize (c*W+gD xs a) / d=q at*;generalize (c*W+gD xs a) % d=r' at*;have v:W*(val W (b.drop (a+1))*d+c)=W*val W (b.drop (a+1))*d+c*W:=by rw[bK,cG,bF W c]
 rw[v,bX,bF q d];omega
theorem NO(s:Option Addr)(F:Nat)(xs:List Nat)(b:Nat)(w:World)(H:Rd w s (mK .u64 xs))
  (U:xs.length<=1099511627776) (u:Dig W xs) (l:0<b) (I:b<W):
  Calls prog 225 #[(s,xs.length,F),.int .u64 (b:Int)] w λe m=>∃v,e= .returned (.tuple #[v,.int .u64 ((val W xs % b:Nat):Int)])/\FrN 165 .u64 W w m v (val W xs / b)/\Ext w m:=by
 go_enter func225,ntmps225;go_wp2_with (at_make;refine oK _ rfl _ _ 33 rfl 165 .u64 8 underlying33 tH .i64 .i64 _ _ xs.length rfl rfl om om om om ?_);intro _ g x hg y;go_wp2_with fail
 go_loopw [7,8] (λJ i wr=>∃(k c:Nat) (f:List Nat),i= .int .i64 ((k:Int) - 1)/\J= .int .u64 c/\SS b xs f k c/\lM 165 .u64 wr g f []/\Ext w wr) (λ_ i _=>(intOf i+1).toNat)
 case atStart=>exact ⟨xs.length,0,_,rfl,rfl,⟨sm,Dig.replicate (by rw[lX];omega) _,l,by rw[dP sm,dP sm];simp[val],lr⟩,y,x⟩
 case round=>
  obtain⟨k,c,f,rfl,rfl,d,o,p⟩:=hrel;have h:=a8 d.1;clear y x;rcases aR k with A |A
  .subst A;have K:=a8 d.2.1;have j:=d.2.2.1;have q:val W xs=val W f*b+c:=d.2.2.2.1;have L:Hid (val W f=val W xs / b):=by
    show val W f=val W xs / b;rw[q,bF,gW l,fN j,bZ]
   have M:Hid (c=val W xs % b):=by
    show c=val W xs % b;rw[q,bF,j8,dM j]
   clear d q;go_wp2_with fail;refine(lT g xs.length xs.length f _ h.out o.rd om om).mono ?_;rintro e m ⟨rfl,rfl⟩;go_wp2;go_ret2;refine⟨(g,(tz f).length,xs.length),?_,o.frN hg lF K.out L.out h.out om,p⟩;rw[<-M.out];rfl
  .obtain⟨a,rfl⟩:∃a,k=a+1:=⟨k - 1,om⟩;have B:a<xs.length:=by have:=d.2.2.2.2;omega
   obtain⟨_,off,rfl,C⟩:=H.at (by rw[kU];omega);have N:=p.cell (C a _ (mM .u64 xs a B));rw[<-nY B]at N;clear C;rw[show ((a+1:Nat):Int) - 1=(a:Int)from om];have O:=a8 (d.step l u);have j:=d.2.2.1;have Q:=u.gD (B:=W) (by rw[lX];omega) a;have D:=λ(R:World)=>EF c (gD xs a) b R Q I j
   generalize (c*W+gD xs a) / b=qq at*;generalize (c*W+gD xs a) % b=r2 at*;have S:=a8 D;clear D d;go_wp2_with fail;refine(S.out _).mono ?_;rintro e T ⟨rfl,E⟩;have r:=o.ext E;obtain⟨_,_⟩:=r.got a (by have:=h.out;omega);have:=r.free a;go_wp2_with fail;go_roundw
   case rel=>exact ⟨a,r2,_,rfl,rfl,O.out,lM.set (w:=T) r a qq (by have:=h.out;omega),(p.trans E).setCell hg _⟩
   case measure=>simp [intOf]
theorem VL(a c d b f:Nat)(w:World)(j:b<=a):
  Calls prog 229 #[.int .u64 (a:Int),.int .u64 (c:Int),.int .u64 (d:Int),.int .u64 (b:Int),.int .u64 (f:Int)] w λe h=>e= .returned (.int .u64 ((W - 1:Nat):Int))/\w=h:=by
 have:(b:Int)<=a:=om;go_enter func229,ntmps229;go_wp2_with fail;go_ret;exact⟨by rw[lX];rfl,rfl⟩
theorem KX(j:o<W):(a*c<=W*f+o)↔(a*c / W<f∨(a*c / W=f/\a*c % W<=o)):=by
 have h:0<W:=by rw[lX];omega
 have e:=dI (a*c) W;have l:=cH (a*c) h;generalize a*c / W=hi at*;generalize a*c % W=lo at*;rw[<-e];constructor
 .intro d;rcases eZ hi f with b |b |b
  .exact .inl b
  .subst b;exact .inr ⟨rfl,om⟩
  .have:W*(f+1)<=W*hi:=bV _ b;rw[bK]at this;omega
 .rintro(d |⟨rfl,d⟩)
  .have:W*(hi+1)<=W*f:=bV _ d;rw[bK]at this;omega
  .omega
theorem VK(c f d v1 b:Nat)(w:World)(r:c<v1)(B:f<W)(p:d<W)(s:v1<W)(u:b<W)(hn:W<=2*v1):
  Calls prog 229 #[.int .u64 (c:Int),.int .u64 (f:Int),.int .u64 (d:Int),.int .u64 (v1:Int),.int .u64 (b:Int)] w λe w'=>e= .returned (.int .u64 ((((c*W+f)*W+d) / (v1*W+b):Nat):Int))/\Ext w w':=by
 have I:¬(v1:Int)<=c:=om;have v:c*W+f<v1*W+b:=by
  have:(c+1)*W<=v1*W:=aJ _ r;rw[bX]at this;omega
 have x:=a8 (xG.start (B:=W) (u:=c*W+f) (v1:=v1) (v0:=b) (d:=d) p (by rw[lX]at*;omega) hn lF u v);have h:=ID (B:=W) B r;have l:(c*W+f) % v1<W:=kI (cH _ om) s;have y:=a8 (λ(A:World)=>EF c f v1 A B s r);obtain⟨j,C⟩:∃j,c*W+f=j:=⟨_,rfl⟩;rw[C]at x h l y v ⊢;clear C;generalize j / v1=m at*;generalize j % v1=o at*;go_enter func229,ntmps229;go_wp2_with fail;refine(y.out w).mono ?_;rintro e w1 ⟨rfl,hext⟩;go_wp2_with fail;go_loop [11,12] (λa E=>∃m o:Nat,a= .int .u64 m/\E= .int .u64 o/\o<W/\m<W/\Hid (xG W j v1 b d m o)) (λa _=>(intOf a).toNat)
 case atStart=>exact ⟨m,o,rfl,rfl,l,h,x⟩
 case round=>
  clear x l h y;obtain⟨qq,rr,rfl,rfl,l,h,D⟩:=hrel;have hmul:=a8 (λ(A:World)=>A3 qq b _ _ A h u rfl rfl);by_cases hc:qq*b<=W*rr+d
  .have Hex:=a8 (D.out.exit hc);rw[KX p]at hc;generalize qq*b / W=hi at*;generalize qq*b % W=lo at*;rcases hc with hc |⟨hc,_⟩
   .exact dp4
   .have HC:=a8 hc;have F:¬hi<rr:=om;have q:((hi:Int)==(rr:Int))=true:=by simp;omega
    clear hc;exact dp4
  .have J:1<=qq:=xG.pos (u:=j) (v1:=v1) (B:=W) (q:=qq) (r:=rr) (d:=d) (v0:=b) (by rw[lX];omega) (.inr om);have Hs:=a8 (D.out.step p (by rw[lX];omega) v (.inr om));rw[KX p]at hc;generalize qq*b / W=hi at*;generalize qq*b % W=lo at*;have F:¬hi<rr:=om;rw[lX]at l h s;have K:qq<18446744073709551616:=h;by_cases L:rr+v1<18446744073709551616
   .have M:¬(rr:Int)+v1<(rr:Int):=om;by_cases hh:hi=rr
    .have q:((hi:Int)==(rr:Int))=true:=by simp;omega
     have H:¬lo<=d:=om;exact sj2
    .have q:((hi:Int)==(rr:Int))=false:=by simp;omega
     exact sj2
   .obtain⟨z,hz,_⟩:∃z:Nat,IntKind.u64.wrap ((rr:Int)+v1)=(z:Int)/\z<rr:=⟨rr+v1 - 18446744073709551616,by rw[IntKind.wrap_u64];omega,om⟩;have Hex:=a8 (Hs.out.brk (by rw[lX];omega) u (by rw[lX];omega));by_cases hh:hi=rr
    .have q:((hi:Int)==(rr:Int))=true:=by simp;omega
     have H:¬lo<=d:=om;exact ll7
    .have q:((hi:Int)==(rr:Int))=false:=by simp;omega
     exact ll7
def tC(e:TypeId)(k:IntKind)(w:World)(g off:Nat)(pre:List Value)(xs:List Nat)(post:List Value):Prop:=
 pre.length=off/\w.heap[g]? =some (.cells (pre++(mK k xs++post)).toArray e (0,0))
section
variable {w:World} {g off:Nat} {k:IntKind} {xs:List Nat} {pre post:List Value} {e:TypeId}
theorem tC.cell(a:tC e k w g off pre xs post)(i:Nat)(hi:i<xs.length):w.cell? (g,off+i)=some (.int k (gD xs i:Int)):=by
 rw[cell_of_row w g _ _ e _ a.2];have:=mM k xs i hi;rw[nY hi,eO,cB (by have:=a.1;omega),bM (by rw[kU];have:=a.1;omega),<-this];congr 1;have:=a.1;omega
theorem tC.free(a:tC e k w g off pre xs post)(i:Nat):w.frozen? (g,i)=false:=frozen_of_row w g i _ e a.2
theorem tC.set(a:tC e k w g off pre xs post)(i b:Nat)(hi:i<xs.length):tC e k (w.setCell (g,off+i) (.int k (b:Int))) g off pre (xs.set i b) post:=by
 refine⟨a.1,?_⟩;rw[heap_setCell_same w g _ _ e _ a.2];congr 2;rw[<-Q9];have:=a.1;simp only[aQ];rw[gJ _ _ om,show off+i - pre.length=i by omega,List.set_append_left _ _ (by rw[kU];exact hi)]
end
def Away(g:Nat)(ad:Option Addr):Prop:=∀a,ad=some a->a.block≠g
theorem Rd.chg{w:World}{xs:List Value}{g:Nat}(a:Rd w v xs)(f:Chg g w l)(h:Away g v):Rd l v xs:=by
 rcases a with a |⟨b,off,c,j⟩
 .exact .inl a
 .refine .inr ⟨b,off,c,λi m hi=> ?_⟩;have d:=j i m hi;exact(eX (w:=w) (f.heap (k:=b) (eJ w _ d) (h _ c))).trans d
def DF(q:Nat)(ss ys l:List Nat)(i c b:Nat):Prop:=
 l.length=ss.length/\Dig W l/\c<W/\b<=1/\val W (l.take i)+q*val W (ys.take i)=val W (ss.take i)+W^i*(c+b)/\l.drop i=ss.drop i/\i<=ys.length
theorem KK{i:Nat}(c:b.drop i=h.drop i):(b.set i a).drop (i+1)=h.drop (i+1):=by
 rw[eK om];have:=congrArg (List.drop 1) c;simpa[dK,fL]using this
theorem FL{i:Nat}(a:b.drop i=h.drop i):gD b i=gD h i:=by
 have:=congrArg (λt=>t[0]?) a;simp only[eF,bZ]at this;simp[gD,List.getD,this]
theorem PR{t:Nat}(b:a<W)(ht:t<W)(hb:c<=1):(a+W - t - c) % W+t+c=a+W*(if a<t+c then 1 else 0):=by
 split
 .rw[dM om];omega
 .have:a+W - t - c=(a - t - c)+W:=om;rw[this,Nat.add_mod_right,dM om];omega
theorem DF.step{c:List Nat}{i b:Nat}(m:DF q h c s i a b)(hs:h.length=c.length+1)(hi:i<c.length)(o:q<W)(p:Dig W h)(r:Dig W c)(t j:Nat)
  (ht:(q*gD c i+a) % W=t) (l:(q*gD c i+a) / W=j):
  DF q h c (s.set i ((gD h i+W - t - b) % W)) (i+1) j (if gD h i<t+b then 1 else 0):=by
 obtain⟨u,v,x,y,A,B,_⟩:=m;have f:0<W:=by rw[lX];omega
 have C:=p.gD f i;have D:=r.gD f i;have E:t<W:=by rw[<-ht];exact cH _ f
 have F:=PR C E y;have e:=cU (q*gD c i+a) W;rw[ht,l]at e;have H:j<W:=by
  rw[<-l];refine cS ?_;have:=AN (x:=q) (y:=gD c i) (p:=a) (c:=0) o D x f;omega
 refine⟨by simpa using u,v.set (cH _ f),H,by split<;>omega,?_,KK B,om⟩
 generalize (gD h i+W - t - b) % W=d at*;generalize (if gD h i<t+b then 1 else 0:Nat)=b' at*;rw[nM _ _ (by simp;omega),dE,dR lr,o4 c i,o4 h i];have I:=congrArg (W^i* ·) F;have J:=congrArg (W^i* ·) e;simp only[bK]at I J;have L:q*(W^i*gD c i)=W^i*(q*gD c i):=by ac_rfl
 rw[bK q,L,cP,cG (W^i) W,bK W,bK (W^i)];rw[bK]at A;omega
theorem D7(a:List Nat)(n:Nat)(b:a.length=n+1):val W a=val W (a.take n)+W^n*gD a n:=by
 rw[sX a n om,vS a n om,dP om,<-nY om];simp[val]
theorem F4(a:List Nat)(n b:Nat)(c:a.length=n+1):val W (a.set n b)=val W (a.take n)+W^n*b:=by
 rw[D7 _ n (by simpa using c),dR lr,nY (by simp;omega),dE]
theorem DF.last(j:DF c h b s b.length f o)(hs:h.length=b.length+1)(l:a<W)(m:a+f+o=gD h b.length+W*p):
  Dig W (s.set b.length a)/\val W (s.set b.length a)+c*val W b=val W h+W^(b.length+1)*p:=by
 obtain⟨_,q,_,_,d,_,_⟩:=j;refine⟨q.set l,?_⟩;rw[aK (jO b.length)]at d;have u:=congrArg (W^b.length* ·) m;simp only[bK]at u d;rw[F4 s b.length a om,D7 h b.length hs,cP,cG];omega
def KA(ss ys l:List Nat)(i c:Nat):Prop:=
 l.length=ss.length/\Dig W l/\c<=1/\val W (l.take i)+W^i*c=val W (ss.take i)+val W (ys.take i)/\l.drop i=ss.drop i/\i<=ys.length
theorem KA.step{i:Nat}(f:KA h b s i a)(hs:h.length=b.length+1)(hi:i<b.length)(j:Dig W h)(l:Dig W b):
  KA h b (s.set i ((gD h i+gD b i+a) % W)) (i+1) ((gD h i+gD b i+a) / W):=by
 obtain⟨m,o,_,_,p,_⟩:=f;have c:0<W:=by rw[lX];omega
 have:=j.gD c i;have:=l.gD c i;refine⟨by simpa using m,o.set (cH _ c),?_,?_,KK p,om⟩
 .have:(gD h i+gD b i+a) / W<2:=cS om;omega
 .rw[nM _ _ (by simp;omega),dE,dR lr,o4 h i,o4 b i];have e:=cU (gD h i+gD b i+a) W;have r:W^i*((gD h i+gD b i+a) % W)+W^(i+1)*((gD h i+gD b i+a) / W)=W^i*(gD h i+gD b i+a):=by
   rw[cP,cG,<-bK,e]
  simp only[bK]at r;omega
theorem KA.last(f:KA h b s b.length a)(hs:h.length=b.length+1):
  Dig W (s.set b.length ((gD h b.length+a) % W))/\∃c,val W (s.set b.length ((gD h b.length+a) % W))+W^(b.length+1)*c=val W h+val W b:=by
 obtain⟨_,j,_,l,_,_⟩:=f;have m:0<W:=by rw[lX];omega
 refine⟨j.set (cH _ m),(gD h b.length+a) / W,?_⟩;have e:=cU (gD h b.length+a) W;generalize (gD h b.length+a) % W=d at*;generalize (gD h b.length+a) / W=c at*;rw[aK (jO b.length)]at l;have o:=congrArg (W^b.length* ·) e;simp only[bK]at o;rw[F4 s b.length d om,D7 h b.length hs,cP,cG];omega
theorem VW(d:0<a)(h:o+f*a=c)(j:c / a<=f):f=c / a/\o=c % a:=by
 have:f<=c / a:=by rw[gK d];omega
 have b:f=c / a:=om;have e:=dI c a;rw[<-b,bF]at e;exact⟨b,om⟩
theorem VV{P:Nat}(h:0<a)(j:p+f*a=c+P)(u:A+P*o=p+a)(v:p<P)(x:A<P)(y:a<=P)(r:f<=c / a+1):f - 1=c / a/\A=c % a:=by
 have l:c<f*a:=om;have s:c / a<f:=by rw[jH h];exact l
 have d:f=c / a+1:=om;have e:=dI c a;have B:=cH c h;have q:f*a=a*(c / a)+a:=by rw[d,bX,fW,bF]
 refine⟨by rw[d,gC],?_⟩;rw[q]at j;generalize a*(c / a)=z at j e;generalize c % a=m at*;clear q d s l r;have C:p+a=m+P:=om;have D:A+P*o=m+P:=om;rcases eZ o 1 with b |b |b
 .have:o=0:=om;subst this;omega
 .subst b;omega
 .have:P*2<=P*o:=bV _ b;omega
theorem JV(g off b7 b8:Nat)(N:Option Addr)(pre post:List Value)(f a:List Nat)(d:Nat)(w:World)(a3:tC 165 .u64 w g off pre f post)(hs:f.length=a.length+1)
  (a4:Rd w N (mK .u64 a)) (haw:Away g N) (c9:a.length<=1099511627776) (D:d<W) (O:Dig W f) (A:Dig W a) (E:0<val W a) (Q:val W f / val W a<=d) (a5:d<=val W f / val W a+1):
  Calls prog 228 #[(g,off,a.length+1,b7),(N,a.length,b8),.int .u64 (d:Int)] w λe R=>∃F,e= .returned (.int .u64 ((val W f / val W a:Nat):Int))/\
   F.length=a.length+1/\Dig W F/\val W F=val W f % val W a/\tC 165 .u64 R g off pre F post/\Chg g w R:=by
 have S:=a8 hs;have b9:=a8 Q;have bA:=a8 a5;have e0:0<a.length:=by
  rcases aR a.length with T |T
  .rw[aL T]at E;simp[val]at E
  .exact T
 have a6:=a8 E;clear hs Q a5 E;have H:=LI;have U:=FX;have I:=DJ;go_enter func228,ntmps228;go_wp2_with fail;obtain⟨b2,a7,rfl,J⟩:=a4.at (by rw[kU];omega);go_loopw [7,8,18] (λbB V i wr=>∃(k b m:Nat) (j:List Nat),i= .int .i64 k/\V= .int .u64 b/\bB= .int .u64 m/\DF d f a j k b m/\tC 165 .u64 wr g off pre j post/\Chg g w wr) (λ_ _ i _=>a.length - (intOf i).toNat)
 case atStart=>exact ⟨0,0,0,f,rfl,rfl,rfl,⟨rfl,O,by rw[lX];omega,om,by simp[val],rfl,zl⟩,a3,Chg.refl g w⟩
 case round=>
  obtain⟨k,b,m,j,rfl,rfl,rfl,c,h,hch⟩:=hrel;have bC:=c.2.2.2.2.2.2;have X:=c.2.2.2.1;have l:=a8 (c.1.trans S.out);clear a3;have bD:=a4.chg hch haw;by_cases hlt:k<a.length
  .have bE:wr.cell? (b2,a7+k)=some (.int .u64 (gD a k:Int)):=by
    have hc:=J k _ (mM .u64 a k hlt);exact OW7
   have q:=h.cell k (by have:=l.out;omega);rw[FL c.2.2.2.2.2.1]at q;have K:=h.free (off+k);have bG:1<W:=lF;have x:=LL bG D (A.gD om k) (show 0<W by omega) c.2.2.1;have Y:=c.step S.out hlt D O A _ _ rfl rfl;have e1:=c.2.2.1;simp only[bZ]at x;have a9:d*gD a k / W+(d*gD a k % W+b) / W<=W - 1/\(d*gD a k % W+b) % W=(d*gD a k+b) % W/\d*gD a k / W+(d*gD a k % W+b) / W=(d*gD a k+b) / W:=by
    have r:d*gD a k % W<W:=cH _ om;rw[fN r,dM r,bZ]at x;exact⟨x.2.1,x.2.2.1,x.2.2.2⟩
   obtain⟨bO,B,b0⟩:=a9;rw[<-B,<-b0]at Y;have bP:=a8 (λ(bR:World)=>A3 d (gD a k) _ _ bR D (A.gD om k) rfl rfl);clear x B b0 c;generalize d*gD a k / W=hi at*;generalize d*gD a k % W=lo at*;have e2:=U lo b;generalize (lo+b) / W=c1 at*;generalize (lo+b) % W=t at*;have s:=H (gD f k) t m X;have u:=a8 Y;generalize (gD f k+W - t - m) % W=o at s u;generalize (if gD f k<t+m then 1 else 0:Nat)=bb at s u;rw[lX]at bO;clear H U I Y J bD;go_wp2_with fail;refine(bP.out wr).mono ?_;rintro e R ⟨rfl,rfl⟩;go_wp2_with fail;go_roundw
   case rel=>exact ⟨k+1,_,bb,_,by go_num,by go_num,rfl,u.out,tC.set (w:=wr) h k o (by have:=l.out;omega),hch.trans (Chg.setCell _ _ _ _)⟩
   case measure=>simp [intOf];omega
  .have Z:k=a.length:=om;subst Z;have q:=h.cell a.length (by have:=l.out;omega);rw[FL c.2.2.2.2.2.1]at q;have K:=h.free (off+a.length);have s:=H (gD f a.length) b m X;have b1:=PR (O.gD (by rw[lX];omega) a.length) c.2.2.1 X;have bS:(gD f a.length+W - b - m) % W<W:=cH _ (by rw[lX];omega);have e3:(if gD f a.length<b+m then 1 else 0:Nat)<=1:=by split<;>omega
   generalize (gD f a.length+W - b - m) % W=o at*;generalize (if gD f a.length<b+m then 1 else 0:Nat)=bb at*;have y:=a8 (c.last S.out bS b1);have C:=tC.set h a.length o (by have:=l.out;omega);have a0:=a8 (hch.trans (Chg.setCell wr g (off+a.length) (.int .u64 (o:Int))));have v:Hid ((j.set a.length o).length=a.length+1):=by show(j.set a.length o).length=a.length+1;rw[cI];exact l.out
   clear c b1 H U;have bT:=a8 J;clear J;rcases aR bb with b3 |b3
   .subst b3;go_wp2_with fail;go_ret;obtain⟨L,M⟩:=VW a6.out (by have:=y.out.2;rw[gP,bZ]at this;exact this) b9.out;exact⟨j.set a.length o,by rw[<-L];rfl,v.out,y.out.1,M,C,a0.out⟩
   .have c0:bb=1:=om;subst c0;go_wp2_with fail;have r:Hid (Dig W (j.set a.length o)):=y.out.1;obtain⟨p,b4⟩:∃p,j.set a.length o=p:=⟨_,rfl⟩;rw[b4]at C v r y;clear b4 h hch q K s l;obtain⟨b5,B⟩:∃b5,wr.setCell (g,off+a.length) (Value.int .u64 (o:Int))=b5:=⟨_,rfl⟩;rw[B]at C a0 ⊢;clear B;go_loopw [8,72] (λV i wr=>∃(k b:Nat) (j:List Nat),i= .int .i64 k/\V= .int .u64 b/\KA p a j k b/\tC 165 .u64 wr g off pre j post/\Chg g w wr) (λ_ i _=>a.length - (intOf i).toNat)
    case atStart=>exact ⟨0,0,p,rfl,rfl,⟨rfl,r.out,om,by simp[val],rfl,zl⟩,C,a0.out⟩
    case round=>
     clear C;obtain⟨k,b,j,rfl,rfl,c,h,hch⟩:=hrel;have bC:=c.2.2.2.2.2;have c3:=c.2.2.1;have l:=a8 (c.1.trans v.out);by_cases hlt:k<a.length
     .have bE:wr.cell? (b2,a7+k)=some (.int .u64 (gD a k:Int)):=by
       have hc:=bT.out k _ (mM .u64 a k hlt);exact OW7
      have q:=h.cell k (by have:=l.out;omega);rw[FL c.2.2.2.2.1]at q;have K:=h.free (off+k);have s:=I (gD p k) (gD a k) b c3;have u:=a8 (c.step v.out hlt r.out A);generalize (gD p k+gD a k+b) % W=d2 at s u;generalize (gD p k+gD a k+b) / W=c2 at s u;clear c I;go_wp2_with fail;go_roundw
      case rel=>exact ⟨k+1,c2,_,by go_num,rfl,u.out,tC.set (w:=wr) h k d2 (by have:=l.out;omega),hch.trans (Chg.setCell _ _ _ _)⟩
      case measure=>simp [intOf];omega
     .have Z:k=a.length:=om;subst Z;have q:=h.cell a.length (by have:=l.out;omega);rw[FL c.2.2.2.2.1]at q;have K:=h.free (off+a.length);obtain⟨a1,_,b6⟩:=c.last v.out;have a9:IntKind.u64.wrap ((gD p a.length:Int)+(b:Int))=(((gD p a.length+b) % W:Nat):Int):=by
       rw[IntKind.wrap_u64,lX];omega
      generalize (gD p a.length+b) % W=d2 at*;have c4:=tC.set h a.length d2 (by have:=l.out;omega);have c5:=a8 (hch.trans (Chg.setCell wr g (off+a.length) (.int .u64 (d2:Int))));have c6:=a8 a1;have Q:1<=d:=by
       rcases aR d with a2 |a2
       .subst a2;have e:=y.out.2;have c7:=pU (show 0<W by rw[lX];omega) r.out;rw[v.out]at c7;simp at e;omega
       .exact a2
      have e4:d<=18446744073709551615:=by rw[lX]at D;omega
      obtain⟨L,M⟩:=VV (P:=W^(a.length+1)) a6.out (by have:=y.out.2;rwa [dG]at this) b6
       (by have:=pU (show 0<W by rw[lX];omega) r.out;rwa [v.out]at this)
       (by have:=pU (show 0<W by rw[lX];omega) a1;rwa [cI,l.out]at this)
       (by
        have:=pU (show 0<W by rw[lX];omega) A;exact iE (cD this (eV (by rw[lX];omega) om))) bA.out
      have R1:=a8 L;have c8:=a8 M;clear c I b6 a1 L M;go_wp2_with fail;go_ret;refine⟨j.set a.length d2,oF (a:=(d:Int) - 1) ?_,by rw[cI];exact l.out,c6.out,c8.out,c4,c5.out⟩;rw[<-R1.out];omega
theorem BC(z:Value)(n:Nat):Builtin.zeroCells #[z] n=Array.replicate n z:=by
 apply Array.ext';simp[Builtin.zeroCells];apply List.ext_getElem
 .simp
 .intro i _ _;simp[Nat.mod_one]
section
variable {P:Program} (w:World) (t ti ty e:TypeId) (i:TypeInfo) (z:Value) (ki:IntKind) (ht:P.underlying t=some (.slice e)) (hti:P.underlying ti=some (.int ki)) (hi:P.info? e=some i) (hz:i.zero=some z) (hzc:z.cells=#[z]) (hs:i.size=1)
 (g sLen sCap:Nat) (cur:Array Value) (hg:w.heap[g]? =some (.cells cur e (0,0))) (hcs:cur.size=sCap) (hle:sLen<=sCap)
 (n:Nat) (hn:n<=9223372036854775807) (hb:n*i.bytes<=281474976710656)
include ht hti hi hz hzc hs hg hcs hle hn hb
theorem zL(c:z.oneCell'=true)(d:sLen+n<=sCap):
  (Builtin.append_ #[t,ti] ty #[(g,sLen,sCap),n]).run P w=
   .ok (g,sLen+n,sCap) (w.setRow g (cur.toList.take sLen++List.replicate n z++cur.toList.drop (sLen+n)).toArray):=by
 have f:IntKind.i64.wrap (n:Int)=n:=by rw[IntKind.wrap_i64];omega
 have h:¬((n:Int)<0):=om;have j:¬(281474976710656<(n:Int)*i.bytes):=by rw[<-cL];omega
 have a:=run_storeCells_at P g sLen e (List.replicate n z) 0 cur w hg (by simp;omega) (by intro _ l;rw[(jW.1 l).2];exact c);simp only[bZ,bW]at a;by_cases b:n=0
 .subst b;have m:(cur.toList.take sLen++List.replicate 0 z++cur.toList.drop (sLen+0)).toArray=cur:=sm;rw[m];have:=setRow_self w g cur e (0,0) hg;simp only[List.replicate_zero]at a;have o:IntKind.i64.wrap 0=0:=de;simp[o,Builtin.append_,run_underlying ht,run_underlying hti,sizeOf,typeInfo,hi,asInt,asIntOf,hs,hle,Addr.add_lit,this,storeCells]
 .simp[Builtin.append_,run_underlying ht,run_underlying hti,sizeOf,typeInfo,zeroValue,hi,hz,asInt,asIntOf,hs,f,h,j,d,b,Addr.add_lit,hzc,BC,a]
theorem zK(f:¬sLen+n<=sCap)(s:sLen+n<=9223372036854775807)(u:Builtin.nextslicecap (sLen+n) sCap*i.bytes<=281474976710656):
  (Builtin.append_ #[t,ti] ty #[(g,sLen,sCap),n]).run P w=
   .ok (w,sLen+n,grownCap w (sLen+n) sCap e)
    (w.drew.alloc (.cells ((cur.toList.take sLen).toArray++Array.replicate n z++Array.replicate (grownCap w (sLen+n) sCap e - (sLen+n)) z) e)):=by
 have h:IntKind.i64.wrap (n:Int)=n:=by rw[IntKind.wrap_i64];omega
 have j:¬((n:Int)<0):=om;have l:¬(281474976710656<(n:Int)*i.bytes):=by rw[<-cL];omega
 have m:n≠0:=om;have o:¬(9223372036854775807<((sLen:Int)+n)):=om;have p:¬(281474976710656<Builtin.nextslicecap (sLen+n) sCap*i.bytes):=om;have q:∀a c,(cur.toList.take sLen)[a]? =some c->w.drew.cell? ((⟨g,0,none⟩:Addr).add a)=some c:=by
  intro a c b;have r:(⟨g,0,none⟩:Addr).add a=⟨g,a,none⟩:=by unfold Addr.add;split<;>simp_all
  rw[r,World.cell?_drew,cell_of_row w g a cur e (0,0) hg];rw[eS]at b;split at b
  .simpa using b
  .cases b
 have d:=run_firstCells_some (P:=P) w.drew i.size sLen ⟨g,0,none⟩ sLen sCap (cur.toList.take sLen) (by rw[hs,aP];simp;omega) q;rw[hs]at d;simp[Builtin.append_,run_underlying ht,run_underlying hti,sizeOf,typeInfo,zeroValue,hi,hz,asInt,asIntOf,hs,h,j,l,f,m,o,p,Question.forced,d,newRow,grownCap,hzc,BC]
end
theorem AU{P:Program}(w:World){r:Array Oper}{rest:List Oper}{a:Oper}
  (N:a.guard=none) (s u:Operand) (t ti:TypeId) (v:a.op= .call {callee:= .builtin .append,args:=#[s,u],argTypes:=#[t,ti]})
  (e:TypeId) (k ki:IntKind) (bytes:Nat) (x:P.underlying t=some (.slice e)) (hti:P.underlying ti=some (.int ki)) (O:(P.info? e).map (λi=>(i.zero,i.size,i.bytes))=some (some (.int k 0),1,bytes))
  (c:Nat) (d:Value) (xs:List Nat) (n:Nat) (hs:C.eval s=d) (y:C.eval u=n) (A:0<xs.length)
  (Q:FrL e k c w d xs) (hb:(xs.length+n)*bytes<=140737488355328) (R:xs.length+n<=9223372036854775807) (S:c<=w.heap.size)
  (B:∀D f,FrL e k c f D (xs++List.replicate n 0)->w.grownBy f d.ownBlock->wpList P r H rest (C.put a.dst D) f):
  wpList P r H (a::rest) C w:=by
 obtain⟨i,hi,E,F,I⟩:=info_parts O;obtain⟨_,b,rfl,J,T,U⟩:=Q;rcases U with⟨hn,_⟩ |⟨g,cur,rfl,hg,h,K,j⟩
 .rw[A9.1 hn]at A;simp at A
 have L:n*i.bytes<=281474976710656:=by
  rw[I];have:=bX xs.length n bytes;omega
 rw[kU]at j;refine wpList_plain N λ_ M=> ?_
 by_cases l:xs.length+n<=b
 .have m:=zL w t ti a.type e i (.int k 0) ki x hti hi E rfl F g xs.length b cur h K J n om L rfl l;unfold Oper.wp;simp only[execOp,v,resolve,invoke,builtin,Sem.run_bind,Sem.run_pure,Result.andThen_ok,List.map_toArray,dQ,eT,hs,y,m];refine M _ _ (B _ _ ⟨_,b,by rw[aB,bW],by rw[aB,bW];exact l,T,.inr ⟨g,_,rfl,hg,setRow_heap w g cur _ e _ h,?_,?_⟩⟩ ⟨rfl,rfl,rfl,sm,λo _ p=>setRow_other w g o _ (λe=>p (by simp[Value.ownBlock,e]))⟩)
  .simp only[fV,aB,aP,bW,cK,cJ];omega
  .rw[j,kU,rU];have q:mK k (List.replicate n 0)=List.replicate n (.int k 0):=by simp[mK]
   rw[q];have:(xs++List.replicate n 0).length=(mK k xs++List.replicate n (Value.int k 0)).length:=by simp[kU]
   rw[this];exact iK
 .have m:=zK w t ti a.type e i (.int k 0) ki x hti hi E rfl F g xs.length b cur h K J n om L l R (growslice_fits om (by rw[I];exact hb));have V:=grownCap_ge w (xs.length+n) b e;have X:=grownCap_le_maxLen w (xs.length+n) b e (by unfold maxLen;omega);unfold Oper.wp;simp only[execOp,v,resolve,invoke,builtin,Sem.run_bind,Sem.run_pure,Result.andThen_ok,List.map_toArray,dQ,eT,hs,y,m];refine M _ _ (B _ _ ⟨_,_,by rw[aB,bW],by rw[aB,bW];exact V,by simpa[maxLen]using X,.inr ⟨w.heap.size,_,rfl,S,heap_alloc_new w.drew _,?_,?_⟩⟩ ⟨rfl,rfl,rfl,sm,λo p _=>Below.heap_alloc w.drew _ o p⟩)
  .simp only[Array.size_append,fV,Array.size_replicate,aP,cJ];omega
  .rw[j,kU,rU];have q:mK k (List.replicate n 0)=List.replicate n (.int k 0):=by simp[mK]
   rw[q];have:(xs++List.replicate n 0).length=(mK k xs++List.replicate n (Value.int k 0)).length:=by simp[kU]
   rw[this];simp only[Array.toList_append,Array.toList_replicate];exact iK
theorem RC{P g:Nat}(m:0<P)(v:f=o*P+p)(x:p<P)(r:a=c*P+A)(y:A<P)(d:0<c)(hg:g=o / c)(B:g<=c+1):
  f / a<=g/\g<=f / a+1:=by
 have s:0<a:=by have:=dW d m;omega
 have e:=dI o c;have:=cH o d;constructor
 .have h:f / a*a<=f:=Nat.div_mul_le_self f a;generalize f / a=q at*;have u:q*c*P<=q*a:=by rw[r,bK,cG];omega
  have j:q*c*P<(o+1)*P:=by rw[bX];omega
  have:q*c<o+1:=Nat.lt_of_mul_lt_mul_right j;rw[hg,gK d];omega
 .rcases aR g with l |l
  .rw[l];exact zl
  .obtain⟨b,rfl⟩:∃b,g=b+1:=⟨g - 1,om⟩;suffices hh:b<=f / a by
    generalize f / a=q at*;omega
   rw[gK s];have h:(b+1)*c<=o:=by rw[hg];exact Nat.div_mul_le_self o c
   have u:b*a<=b*((c+1)*P):=bV _ (by rw[bX];omega);have j:b*((c+1)*P)<=o*P:=by
    rw[<-cG];refine aJ P ?_;rw[bK,dG];rw[bX,fW]at h;omega
   omega
theorem R9{P:Nat}(d:a=c*P+o)(m:o<P)(r:f=p*(W*P)+A)(h:c<=p)(hn:W<=2*c)(j:f<a*W)(b:0<a):
  f / a<=W - 1/\W - 1<=f / a+1:=by
 have l:2<=W:=by rw[lX];omega
 constructor
 .have:f / a<W:=by rw[jH b,bF];exact j
  omega
 .suffices hh:W - 2<=f / a by
   generalize f / a=q at*;omega
  rw[gK b];have:(W - 2)*a+2*a=W*a:=by rw[<-bX,Nat.sub_add_cancel l]
  have:c*(W*P)<=p*(W*P):=aJ _ h;have:W*P<=2*c*P:=aJ _ hn;have:W*a=c*(W*P)+W*o:=by rw[d,bK];congr 1;ac_rfl
  have:W*o<=W*P:=bV _ om;have:2*c*P=2*(c*P):=cG ..;omega
def wZ(u2 u1 u0 v1 v0:Nat):Nat:=if v1<=u2 then W - 1 else((u2*W+u1)*W+u0) / (v1*W+v0)
theorem OF(f b c a d:Nat)(w:World)(l:b<W)(m:c<W)(o:a<W)(p:d<W)(hn:W<=2*a):
  Calls prog 229 #[.int .u64 (f:Int),.int .u64 (b:Int),.int .u64 (c:Int),.int .u64 (a:Int),.int .u64 (d:Int)] w λe h=>e= .returned (.int .u64 ((wZ f b c a d:Nat):Int))/\Ext w h:=by
 unfold wZ;split
 .rename_i j;exact(VL f b c a d w j).mono λe h ⟨q,r⟩=>⟨q,r▸rE⟩
 .rename_i j;exact VK f b c a d w om l m o p hn
theorem RD{ss ys:List Nat}(hs:ss.length=m+3)(I:ys.length=m+2)(d:Dig W ss)(p:Dig W ys)(hn:W<=2*gD ys (m+1))(x:val W ss<val W ys*W):
  val W ss / val W ys<=wZ (gD ss (m+2)) (gD ss (m+1)) (gD ss m) (gD ys (m+1)) (gD ys m)/\
  wZ (gD ss (m+2)) (gD ss (m+1)) (gD ss m) (gD ys (m+1)) (gD ys m)<=val W ss / val W ys+1/\
  wZ (gD ss (m+2)) (gD ss (m+1)) (gD ss m) (gD ys (m+1)) (gD ys m)<W:=by
 have a:0<W:=by rw[lX];omega
 have q:0<W^m:=cZ a;have c:val W ss=val W (ss.take m)+W^m*gD ss m+W^(m+1)*gD ss (m+1)+W^(m+2)*gD ss (m+2):=by
  have:ss=ss.take (m+3):=(aK om).symm;have b:val W ss=val W (ss.take (m+3)):=congrArg _ this;rw[b,o4 ss (m+2),o4 ss (m+1),o4 ss m]
 have f:val W ys=val W (ys.take m)+W^m*gD ys m+W^(m+1)*gD ys (m+1):=by
  have:ys=ys.take (m+2):=(aK om).symm;have b:val W ys=val W (ys.take (m+2)):=congrArg _ this;rw[b,o4 ys (m+1),o4 ys m]
 have r:=pU a (d.take m);have s:=pU a (p.take m);rw[aP,eL om]at r s;have y:=p.gD a m;have A:=d.gD a m;have J:=d.gD a (m+1);have u:W^(m+1)=W*W^m:=by rw[cP,bF]
 have B:W^(m+2)=W*(W*W^m):=by rw[cP,u,bF]
 generalize gD ss (m+2)=u2 at*;generalize gD ss (m+1)=u1 at*;generalize gD ss m=u0 at*;generalize gD ys (m+1)=v1 at*;generalize gD ys m=v0 at*;have v:0<v1:=by rw[lX]at hn;omega
 rw[u]at c f;rw[B]at c;have C:0<val W ys:=by
  have:0<W*W^m*v1:=dW (dW a q) v;omega
 unfold wZ;split
 .rename_i b;have h:val W ys=v1*(W*W^m)+(val W (ys.take m)+W^m*v0):=by rw[f,bF v1];omega
  have j:val W ss=u2*(W*(W*W^m))+(val W (ss.take m)+W^m*u0+W*W^m*u1):=by rw[c,bF u2];omega
  have D:val W (ys.take m)+W^m*v0<W*W^m:=by
   have:W^m*(v0+1)<=W^m*W:=bV _ y;rw[bK,bF _ W]at this;omega
  obtain⟨l,o⟩:=R9 h D j b hn x C;exact⟨l,o,om⟩
 .rename_i b;have E:((u2*W+u1)*W+u0) / (v1*W+v0)<W:=by
   refine ID A ?_;have:(u2+1)*W<=v1*W:=aJ _ om;rw[bX]at this;omega
  have h:val W ys=(v1*W+v0)*W^m+val W (ys.take m):=by
   rw[f,bX];have:v1*W*W^m=W*W^m*v1:=by ac_rfl
   rw[this,bF v0];omega
  have j:val W ss=((u2*W+u1)*W+u0)*W^m+val W (ss.take m):=by
   rw[c];simp only[bX];have F:u2*W*W*W^m=W*(W*W^m)*u2:=by ac_rfl
   have H:u1*W*W^m=W*W^m*u1:=by ac_rfl
   rw[F,H,bF u0];omega
  have K:W<=v1*W+v0:=by
   have:1*W<=v1*W:=aJ _ v;omega
  obtain⟨l,o⟩:=RC q j r h s om rfl om;exact⟨l,o,E⟩
def wU(V n X:Nat)(us qs:List Nat)(k:Nat):Prop:=
 us.length=n+qs.length/\Dig W us/\Dig W qs/\val W us+V*val W qs=X/\val W us<V*W^k/\(∀j,j<k->gD qs j=0)/\k<=qs.length
def seg(us:List Nat)(i m:Nat):List Nat:=(us.drop i).take m
theorem UB{i:Nat}(a:i+m<=us.length):(seg us i m).length=m:=by
 unfold seg;rw[aP,cK];omega
theorem SB{i:Nat}(d:a<c):gD (seg b i c) a=gD b (i+a):=by
 simp[seg,gD,List.getD,eS,d,eF]
theorem Dig.seg(c:Dig W b)(i a:Nat):Dig W (seg b i a):=(c.drop i).take a
theorem UW{i:Nat}(a:i+m<=us.length):val W us=val W (us.take i)+W^i*(val W (seg us i m)+W^m*val W (us.drop (i+m))):=by
 rw[sX us i om,sX (us.drop i) m (by rw[cK];omega),dK];rfl
theorem wU.small{n:Nat}{i:Nat}(f:wU a n c b h (i+1))(m:a<W^n):
  val W (b.drop (i+(n+1)))=0/\val W (seg b i (n+1))<a*W:=by
 obtain⟨_,_,_,_,_,_,_⟩:=f;have j:0<W:=by rw[lX];omega
 have:0<W^i:=cZ j;have e:=UW (us:=b) (i:=i) (m:=n+1) om;generalize val W (b.drop (i+(n+1)))=T at*;generalize val W (seg b i (n+1))=S at*;have l:W^i*(S+W^(n+1)*T)<W^i*(a*W):=by
  have:a*W^(i+1)=W^i*(a*W):=by rw[cP];ac_rfl
  omega
 have:S+W^(n+1)*T<a*W:=Nat.lt_of_mul_lt_mul_left l;have:a*W<=W^n*W:=aJ _ om;have:W^(n+1)=W^n*W:=cP ..;refine⟨?_,om⟩;rcases aR T with d |d
 .exact d
 .have:W^(n+1)*1<=W^(n+1)*T:=bV _ d;omega
theorem wU.step{n:Nat}{ss':List Nat}{i:Nat}(j:wU a n c b h (i+1))(v:a<W^n)(l:0<a)(x:ss'.length=n+1)(y:Dig W ss')(A:val W ss'=val W (seg b i (n+1)) % a):
  wU a n c (b.take i++(ss'++b.drop (i+(n+1)))) (h.set i (val W (seg b i (n+1)) / a)) i:=by
 obtain⟨m,B⟩:=j.small v;obtain⟨_,f,C,D,_,o,_⟩:=j;have E:0<W:=by rw[lX];omega
 have e:=UW (us:=b) (i:=i) (m:=n+1) om;rw[m,gP,bZ]at e;have F:val W (seg b i (n+1)) / a<W:=by rw[jH l,bF];exact B
 have p:(b.take i).length=i:=by rw[aP];omega
 have s:val W (b.take i++(ss'++b.drop (i+(n+1))))=val W (b.take i)+W^i*(val W (seg b i (n+1)) % a):=by
  rw[qN,qN,m,gP,bZ,p,A]
 have H:=pU E (f.take i);rw[p]at H;have I:=dI (val W (seg b i (n+1))) a;have J:=cH (val W (seg b i (n+1))) l;have u:=IY h i (val W (seg b i (n+1)) / a) om;rw[o i om,i8,bZ]at u;generalize val W (seg b i (n+1))=S at*;generalize S / a=d at*;generalize S % a=r at*;refine⟨?_,(f.take i).append (y.append (f.drop _)),C.set F,?_,?_,?_,by rw[cI];omega⟩
 .simp only[aB,aP,cK,cI,x];omega
 .rw[s,u,bK];rw[e]at D;have N:a*(d*W^i)=W^i*(a*d):=by ac_rfl
  have L:=congrArg (W^i* ·) I;simp only[bK]at L;omega
 .rw[s];have:W^i*(r+1)<=W^i*a:=bV _ J;rw[bK,bF _ a]at this;omega
 .intro M _;rw[DQ om];exact o M om
theorem wU.finish{n:Nat}(f:wU a n c b h 0):val W h=c / a/\val W b=c % a:=by
 obtain⟨_,_,_,j,d,_,_⟩:=f;rw[kJ,dG]at d;have l:0<a:=om;rw[<-j,fL,gW l,fN d,j8,dM d];simp
theorem lM.seg{e:TypeId}{k:IntKind}{w:World}{g:Nat}{a:List Nat}{rest:List Value}(c:lM e k w g a rest)(i b:Nat)(hi:i+b<=a.length):
  tC e k w g i (mK k (a.take i)) (seg a i b) (mK k (a.drop (i+b))++rest):=by
 refine⟨by rw[kU,aP];omega,?_⟩;have d:a=a.take i++(Go.Proofs.YtjlcilmjfejimaaGreat.seg a i b++a.drop (i+b)):=by
  unfold Go.Proofs.YtjlcilmjfejimaaGreat.seg;rw[<-dK,bQ,bQ]
 have f:w.heap[g]? =some (.cells (mK k a++rest).toArray e (0,0)):=c;rw[f];have h:mK k a=mK k (a.take i)++(mK k (Go.Proofs.YtjlcilmjfejimaaGreat.seg a i b)++mK k (a.drop (i+b))):=by
  rw[<-rU,<-rU,<-d]
 rw[h];simp only[aG]
theorem tC.blk{e:TypeId}{k:IntKind}{w:World}{g i:Nat}{rest:List Value}(a:tC e k w g i (mK k b) h (mK k s++rest)):lM e k w g (b++(h++s)) rest:=by
 show w.heap[g]? =_;rw[a.2,rU,rU];simp only[aG]
def BD(g1 g2:Nat)(w w':World):Prop:=w'.os=w.os/\w'.tape=w.tape/\w'.output=w.output/\w.heap.size<=w'.heap.size/\∀k,k<w.heap.size->k≠g1->k≠g2->w'.heap[k]? =w.heap[k]?
theorem BD.trans{b c:Nat}{d f h:World}(a:BD b c d f)(k:BD b c f h):BD b c d h:=
 ⟨k.1.trans a.1,k.2.1.trans a.2.1,k.2.2.1.trans a.2.2.1,aE a.2.2.2.1 k.2.2.2.1,λi hi j l=>(k.2.2.2.2 i (cD hi a.2.2.2.1) j l).trans (a.2.2.2.2 i hi j l)⟩
theorem Chg.two1(c:Nat)(b:Chg a l x):BD a c l x:=⟨World.grownBy.os b,World.grownBy.tape b,World.grownBy.output b,b.size,λ_ d f _=>b.heap d f⟩
theorem Chg.two2(c:Nat)(b:Chg a l x):BD c a l x:=⟨World.grownBy.os b,World.grownBy.tape b,World.grownBy.output b,b.size,λ_ d _ f=>b.heap d f⟩
theorem Ext.two(a b:Nat)(c:Ext l x):BD a b l x:=(c.chg a).two1 b
theorem BD.blk{w:World}(f:BD a c w l){g:Nat}{b:Obj}(d:w.heap[g]? =some b)(h:g≠a)(j:g≠c):l.heap[g]? =some b:=(f.2.2.2.2 g (qJ d) h j).trans d
theorem Ext.step2{w:World}(b:Ext l w)(k:BD a c w x)(d:l.heap.size<=a)(f:l.heap.size<=c):Ext l x:=
 ⟨k.1.trans (World.grownBy.os b),k.2.1.trans (World.grownBy.tape b),k.2.2.1.trans (World.grownBy.output b),aE b.size k.2.2.2.1,λi hi _=>(k.2.2.2.2 i (cD hi b.size) om om).trans (b.heap hi)⟩
theorem K7{P:Program}{id:Nat}{w:World}
  (b d c f:Nat) (R:d≠f) (j:List (Value->World->Prop)) (r:List (Nat×Nat×Nat)) (s:List (Nat×Nat))
  (C:P.follows .mixedOrders=true) (D:(oQ F.toArray K.size&&pN F.toArray r&&L9 F.toArray s)=true) (E:∀o,mJ F.toArray K o=N o)
  (I:C4 Ext j) (J:vK (Chg b) d j) (L:vK (Chg c) f j)
  (O:FV P N r s K M w (BD b c) (λa=>if a=d then Chg c else if a=f then Chg b elseλ_ _=>True) (λa=>if a=d then Chg b else if a=f then Chg c else Ext) (pl j) F 0)
  (Q:∀o u,BD b c w u->n5 (pl j) o u F.length 0->H .normal ⟨N o,M⟩ u):
  (Code.region id F.toArray true).wp P H ⟨K,M⟩ w:=by
 refine DA (BD b c) (λa=>if a=d then Chg c else if a=f then Chg b elseλ_ _=>True) (λa=>if a=d then Chg b else if a=f then Chg c else Ext) (pl j) r s C D E ((Ext.refl w).drew.two b c) ?_ ?_ ?_ ?_ O Q
 .intro v;split
  .exact(Ext.refl w).drew.chg c
  .split
   .exact(Ext.refl w).drew.chg b
   .trivial
 .intro i p q h k;by_cases l:i=d
  .rw[if_pos l]at k;exact h.trans (k.two1 c)
  .rw[if_neg l]at k;by_cases m:i=f
   .rw[if_pos m]at k;exact h.trans (k.two2 b)
   .rw[if_neg m]at k;exact h.trans (k.two b c)
 .intro v i p q hi h k;by_cases A:v=d
  .subst A;rw[if_pos rfl]at h ⊢;rw[if_neg hi]at k;by_cases m:i=f
   .rw[if_pos m]at k;exact h.trans k
   .rw[if_neg m]at k;exact h.trans (k.chg c)
  .rw[if_neg A]at h ⊢;by_cases B:v=f
   .subst B;rw[if_pos rfl]at h ⊢;by_cases l:i=d
    .rw[if_pos l]at k;exact h.trans k
    .rw[if_neg l,if_neg hi]at k;exact h.trans (k.chg b)
   .rw[if_neg B];trivial
 .intro i a x p q _ _ k y;by_cases l:a=d
  .rw[if_pos l]at k;exact uB d j J i om x p q k y
  .rw[if_neg l]at k;by_cases m:a=f
   .rw[if_pos m]at k;exact uB f j L i om x p q k y
   .rw[if_neg m]at k;exact yB j I i x p q k y
theorem ZO(e:TypeId)(k:IntKind)(a b:Nat)(w:World):FrN e k a b w () 0:=⟨none,0,rfl,lr,om,.inl ⟨rfl,rfl,rfl⟩⟩
theorem DU{w:World}{xs:List Nat}{n:Nat}(b:Rd w v (mK .u64 xs))(h:xs.length<=a)(j:a<=9223372036854775807)(c:xs.length<=LIM)(d:Dig W xs)(f:val W xs=n):
  Rd w v (mK .u64 (tz xs))/\(tz xs).length<=a/\(tz xs).length<=1099511627776/\tz xs=dg W n:=by
 have:=nJ xs;rw[mR]at c;exact⟨by rw[<-sD,oJ];exact b.take _,om,om,by rw[pK lF d,f]⟩
theorem O4(u v:Value)(a y:Nat)(w:World)(X:IsN .u64 W w u a)(Y:IsN .u64 W w v y)(a9:0<y)(d:a<y):
  Calls prog 187 #[u,v] w λe b=>∃x A,e= .returned (.tuple #[x,A,(0:Int)])/\FrN 165 .u64 W w b x (a / y)/\FrN 165 .u64 W w b A (a % y)/\Ext w b:=by
 obtain⟨xs,⟨B,C,rfl,f,c,j⟩,D,E,F⟩:=X;obtain⟨H,⟨Z,a0,rfl,l,m,o⟩,I,J,K⟩:=Y;obtain⟨L,M,a1,N⟩:=DU j f c D E F;obtain⟨a2,a3,a4,O⟩:=DU o l m I J K;have r:=a8 N;have Te2:=a8 O;clear N O F K E J D I;go_enter func187,ntmps187;go_wp2_with fail;refine(lT B _ C xs w rfl j f c).mono ?_;rintro e b ⟨rfl,rfl⟩;go_wp2_with fail;refine(lT Z _ a0 H w rfl o l m).mono ?_;rintro e b ⟨rfl,rfl⟩;clear j o f l;generalize tz xs=p at*;generalize tz H=q at*;have Q:Dig W p:=by rw[r.out];exact(nQ lF a).1
 have R:Dig W q:=by rw[Te2.out];exact(nQ lF y).1
 have:0<q.length:=ww2;have hb:((q.length:Int)==0)=false:=beq_eq_false_iff_ne.2 om;have S:=uM L rfl M c a1 Q (by rw[r.out,nE lF]:val W p=a);have T:=uM a2 rfl a3 m a4 R (by rw[Te2.out,nE lF]:val W q=y);have:decide (o6 a y<0)=true:=by unfold o6;rw[if_pos d];rfl
 have a5:=a8 (tR _ _ a y w S T);have U:=a8 d;clear S T Q R d;generalize o6 a y=cc at*;go_wp2_with fail;refine a5.out.mono ?_;rintro e a6 ⟨rfl,s⟩;go_wp2_with fail;refine(wE B _ C p a6 rfl (L.ext s) M c (by rw[DE];omega)).mono ?_;rintro e _ ⟨_,rfl,V,a7⟩;go_wp2;go_ret3;rw[r.out]at V;refine⟨_,_,rfl,?_,?_,s.trans a7⟩
 .rw[fN U.out];exact ZO _ _ _ _ _
 .rw[dM U.out];exact FrN.mono V s.size
theorem Rd.head{w:World}{xs:List Nat}(b:Rd w v (mK .u64 xs))(c:0<xs.length):∃a off,v=some ⟨a,off,none⟩/\∀i,i<xs.length->w.cell? ⟨a,off+i,none⟩=some (.int .u64 (gD xs i:Int)):=by
 obtain⟨a,off,d,f⟩:=b.at (by rw[kU];exact c);exact⟨a,off,d,λi hi=>by rw[nY hi];exact f i _ (mM .u64 xs i hi)⟩
theorem O6(A B:Value)(a y:Nat)(w:World)(b0:IsN .u64 W w A a)(b1:IsN .u64 W w B y)(C:0<y)(b2:y<=a)(D:sz W y=1):
  Calls prog 187 #[A,B] w λe b=>∃d f,e= .returned (.tuple #[d,f,(0:Int)])/\FrN 165 .u64 W w b d (a / y)/\FrN 165 .u64 W w b f (a % y)/\Ext w b:=by
 obtain⟨xs,⟨E,F,rfl,j,l,m⟩,H,I,J⟩:=b0;obtain⟨K,⟨b3,b4,rfl,o,r,s⟩,L,M,N⟩:=b1;obtain⟨O,b5,Q,R⟩:=DU m j l H I J;obtain⟨S,b6,b7,T⟩:=DU s o r L M N;have u:=a8 R;have Te2:=a8 T;clear R T J N I M H L;go_enter func187,ntmps187;go_wp2_with fail;refine(lT E _ F xs w rfl m j l).mono ?_;rintro e b ⟨rfl,rfl⟩;go_wp2_with fail;refine(lT b3 _ b4 K w rfl s o r).mono ?_;rintro e b ⟨rfl,rfl⟩;clear m s j o;generalize tz xs=p at*;generalize tz K=q at*;have U:Dig W p:=by rw[u.out];exact(nQ lF a).1
 have V:Dig W q:=by rw[Te2.out];exact(nQ lF y).1
 have X:0<q.length:=ww2;have hb:((q.length:Int)==0)=false:=beq_eq_false_iff_ne.2 om;have Y:Hid (val W p=a):=by show val W p=a;rw[u.out,nE lF]
 have v:Hid (val W q=y):=by show val W q=y;rw[Te2.out,nE lF]
 have Z:=uM O rfl b5 l Q U (by rw[u.out,nE lF]:val W p=a);have a0:=uM S rfl b6 r b7 V (by rw[Te2.out,nE lF]:val W q=y);have a1:q.length=1:=by rw[Te2.out];exact D
 have x:gD q 0=y:=by
  match q,a1,v with
  | [z],_,v=>have:=v.out;simpa[val,gD]using this
 have a2:y<W:=by rw[<-x];exact V.gD (by rw[lX];omega) 0
 have bG:decide (o6 a y<0)=false:=by unfold o6;rw[if_neg om];split<;>rfl
 have b8:=a8 (tR _ _ a y w Z a0);clear Z a0 b2;generalize o6 a y=cc at*;obtain⟨_,off,rfl,a3⟩:=S.head X;have a4:=a3 0 X;rw[x]at a4;clear a3;have bO:((q.length:Int)==1)=true:=beq_iff_eq.2 om;have bP:(0:Int)<(q.length:Int):=om;clear a1 x D;go_wp2_with fail;refine b8.out.mono ?_;rintro e b9 ⟨rfl,c⟩;have bA:=c.cell a4;simp only[bZ]at bA;go_wp2_with fail;refine(NO E F p y b9 (O.ext c) Q U C a2).mono ?_;rintro e a5 ⟨d,rfl,a6,a7⟩;rw[Y.out]at a6;have bB:a % y<W:=kI (cH _ C) a2;rw[Y.out];go_wp2_with fail;have bC:=uM (n:=1) (Rd.new1 a5 .u64 (a % y) 165) rfl (jO 1) om om (Dig.cons bB Dig.nil) (qY (B:=W) _);refine(yW _ (a % y) _ bC).mono ?_;rintro e _ ⟨f,rfl,bD,bE⟩;have a9:=((Ext.refl a5).alloc (.cells #[.int .u64 ((a % y:Nat):Int)] 165)).trans bE;go_wp2;go_ret3;exact⟨d,f,rfl,FrN.mono (a6.ext a9) c.size,FrN.mono bD (by have:=c.size;have:=a7.size;simp;omega),c.trans (a7.trans a9)⟩
theorem af2{n:Nat}(d:b.length=n+1)(f:Dig W b):gD b n=val W b / W^n:=by
 have a:0<W:=by rw[lX];omega
 have c:=pU a (f.take n);rw[aP,eL om]at c;rw[D7 b n d,fL,gW (cZ a),fN c,bZ]
theorem RP{lo top s n L:Nat}(l:y=lo+W^n*top)(v:lo<W^n)(m:2^(L - 1)<=top)(o:top<2^L)(x:1<=L)(hs:L+s=64):
  (dg W (y*2^s)).length=n+1/\9223372036854775808<=gD (dg W (y*2^s)) n/\W^n*9223372036854775808<=y*2^s/\y*2^s<W^(n+1):=by
 have a:0<W:=by rw[lX];omega
 have p:0<2^s:=cZ om;have q:2^(L - 1)*2^s=9223372036854775808:=by rw[<-eU,show L - 1+s=63 by omega]
 have r:2^L*2^s=W:=by rw[<-eU,hs,lX]
 have b:W^n*9223372036854775808<=y*2^s:=by
  rw[<-q,l,bX,cG];have:=bV (W^n) (aJ (2^s) m);omega
 have c:y*2^s<W^(n+1):=by
  have d:y<W^n*(top+1):=by rw[bK];omega
  have f:y*2^s<W^n*(top+1)*2^s:=iF d p;have h:W^n*((top+1)*2^s)<=W^n*(2^L*2^s):=bV _ (aJ _ o);rw[r]at h;rw[cP];rw[cG]at f;omega
 have j:(dg W (y*2^s)).length=n+1:=by
  have d:=nG lF c;have f:=qU lF (y*2^s);rcases dH (dg W (y*2^s)).length (n+1)with u |u
  .have h:W^(dg W (y*2^s)).length<=W^n:=eV a om;omega
  .omega
 refine⟨j,?_,b,c⟩;rw[af2 j (nQ lF _).1,nE lF,gK (cZ a),bF];exact b
theorem PF{i:Nat}(d:wU c b.length f h s (i+1))(hn:b.length=a+1+1)(l:val W b=c)(m:Dig W b)(o:c<W^(a+1+1))(hb:9223372036854775808<=gD b (a+1)):
  (val W (seg h i (b.length+1)) / val W b<=wZ (gD h (i+b.length)) (gD h (i+b.length - 1)) (gD h (i+b.length - 2)) (gD b (b.length - 1)) (gD b (b.length - 2)))/\
  (wZ (gD h (i+b.length)) (gD h (i+b.length - 1)) (gD h (i+b.length - 2)) (gD b (b.length - 1)) (gD b (b.length - 2))<=val W (seg h i (b.length+1)) / val W b+1)/\
  wZ (gD h (i+b.length)) (gD h (i+b.length - 1)) (gD h (i+b.length - 2)) (gD b (b.length - 1)) (gD b (b.length - 2))<W/\
  W<=2*gD b (b.length - 1):=by
 have:=d.1;have:=d.2.2.2.2.2.2;have p:=d.2.1;obtain⟨_,q⟩:=d.small (n:=b.length) (by rw[hn];exact o);have j:W<=2*gD b (b.length - 1):=by rw[hn,gC,lX];omega
 have r:(seg h i (b.length+1)).length=a+3:=by rw[UB om];omega
 have g:=RD (ss:=seg h i (b.length+1)) (ys:=b) (m:=a) r hn (p.seg _ _) m (by rw[lX];omega) (by rw[l];exact q);rw[SB om,SB om,SB om]at g;rw[show i+b.length - 1=i+(a+1)by omega,show i+b.length - 2=i+a by omega,show b.length - 1=a+1 by omega,show b.length - 2=a by omega,show i+b.length=i+(a+2)by omega];rw[show b.length - 1=a+1 by omega]at j;exact⟨g.1,g.2.1,g.2.2,j⟩
theorem lM.cellD{e:TypeId}{k:IntKind}{w:World}{g:Nat}{xs:List Nat}{rest:List Value}(a:lM e k w g xs rest)(i:Nat)(hi:i<xs.length):w.cell? (g,i)=some (.int k (gD xs i:Int)):=by
 rw[nY hi];exact a.cell i hi
theorem Chg.cell{w:World}(d:Chg c w l)(b:w.cell? (a,f)=some j)(h:a≠c):l.cell? (a,f)=some j:=
 (eX (w:=w) (d.heap (k:=a) (eJ w _ b) h)).trans b
theorem BD.cell{w:World}(d:BD c f w l)(b:w.cell? (a,o)=some j)(h:a≠c)(m:a≠f):l.cell? (a,o)=some j:=
 (eX (w:=w) (d.2.2.2.2 a (eJ w _ b) h m)).trans b
def xW(e:TypeId)(g i n:Nat)(us:List Nat)(V:Nat)(rest:List Value)(w:World):Prop:=
 ∃ss',ss'.length=n+1/\Dig W ss'/\val W ss'=val W (seg us i (n+1)) % V/\lM e .u64 w g (us.take i++(ss'++us.drop (i+(n+1)))) rest
theorem xW.ext{e:TypeId}{g i n:Nat}{a:List Nat}{b:Nat}{rest:List Value}{w c:World}(d:xW e g i n a b rest w)(f:Ext w c):xW e g i n a b rest c:=by
 obtain⟨h,j,l,m,o⟩:=d;exact⟨h,j,l,m,o.ext f⟩
theorem xW.chg{e:TypeId}{g a i n:Nat}{b:List Nat}{c:Nat}{rest:List Value}{w d:World}(f:xW e g i n b c rest w)(h:Chg a w d)(j:g≠a):xW e g i n b c rest d:=by
 obtain⟨l,m,o,p,q⟩:=f;exact⟨l,m,o,p,q.chg h j⟩
theorem O5(O g7:Value)(c y:Nat)(w:World)(k6:IsN .u64 W w O c)(k7:IsN .u64 W w g7 y)(g9:0<y)(gA:y<=c)(Q:2<=sz W y)(gG:sz W c<=68719476736):
  Calls prog 187 #[O,g7] w λe I=>∃gL bR,e= .returned (.tuple #[gL,bR,(0:Int)])/\FrN 165 .u64 W w I gL (c / y)/\FrN 165 .u64 W w I bR (c % y)/\Ext w I:=by
 obtain⟨xs,⟨k8,k9,rfl,bS,bT,a5⟩,gT,h0,h1⟩:=k6;obtain⟨h2,⟨kA,kB,rfl,c0,c1,c2⟩,h3,h4,h5⟩:=k7;obtain⟨h6,kC,kD,h7⟩:=DU a5 bS bT gT h0 h1;obtain⟨c3,kE,kG,h8⟩:=DU c2 c0 c1 h3 h4 h5;have Y:=a8 h7;have Te2:=a8 h8;clear h7 h8 h1 h5 h0 h4 gT h3;go_enter func187,ntmps187;go_wp2_with fail;refine(lT k8 _ k9 xs w rfl a5 bS bT).mono ?_;rintro e I ⟨rfl,rfl⟩;go_wp2_with fail;refine(lT kA _ kB h2 w rfl c2 c0 c1).mono ?_;rintro e I ⟨rfl,rfl⟩;clear a5 c2 bS c0;generalize tz xs=p at*;generalize tz h2=q at*;have h9:Dig W p:=by rw[Y.out];exact(nQ lF c).1
 have c4:Dig W q:=by rw[Te2.out];exact(nQ lF y).1
 have hA:0<q.length:=ww2;have hb:((q.length:Int)==0)=false:=beq_eq_false_iff_ne.2 om;have l0:Hid (val W p=c):=by show val W p=c;rw[Y.out,nE lF]
 have l1:Hid (val W q=y):=by show val W q=y;rw[Te2.out,nE lF]
 have c5:=uM h6 rfl kC bT kD h9 (by rw[Y.out,nE lF]:val W p=c);have c6:=uM c3 rfl kE c1 kG c4 (by rw[Te2.out,nE lF]:val W q=y);have o2:2<=q.length:=by rw[Te2.out];exact Q
 have o3:p.length<=68719476736:=by rw[Y.out];exact gG
 have o5:decide (o6 c y<0)=false:=by unfold o6;rw[if_neg om];split<;>rfl
 have l2:=a8 (tR _ _ c y w c5 c6);have hB:=a8 c5;have hC:=a8 c6;have hD:=a8 gA;clear c5 c6 gA;generalize o6 c y=cc at*;obtain⟨l3,off,rfl,hE⟩:=c3.head hA;have c7:=hE (q.length - 1) om;clear hE;have p0:((q.length:Int)==1)=false:=beq_eq_false_iff_ne.2 om;have c8:gD q (q.length - 1)≠0:=by
  rw[nY om];exact NP (by rw[Te2.out];exact nQ lF y) hA
 have c9:gD q (q.length - 1)<W:=c4.gD (by rw[lX];omega) _;clear Q gG;go_wp2_with fail;refine l2.out.mono ?_;rintro e _ ⟨rfl,a6⟩;have hG:=a6.cell c7;obtain⟨v,e0⟩:∃v,gD q (q.length - 1)=v:=⟨_,rfl⟩;rw[e0]at hG c8 c9 c7;have hH:=a8 e0;clear e0;go_wp2_with fail;rw[lX]at c9;refine(bits_LeadingZeros64 _ _ om om).mono ?_;rintro e I ⟨rfl,hI⟩;have l4:=hI.symm;subst l4;clear hI;rw[dS];obtain⟨e1,R,e2⟩:=Lib.bitLenAux_bounds 64 v om c8;have l5:=Lib.bitLen_le v 64 lr om;change 1<=Lib.bitLen v at e1;change 2^(Lib.bitLen v - 1)<=v at R;change v<2^Lib.bitLen v at e2;obtain⟨d,hs,S,L⟩:∃d:Nat,(64:Int) - (Lib.bitLen v:Int)=(d:Int)/\d<64/\Lib.bitLen v+d=64:=⟨64 - Lib.bitLen v,om,om,om⟩;rw[hs];clear hs;go_wp2_with fail;refine(LD _ y d _ (hC.out.ext a6) S).mono ?_;rintro e s ⟨_,rfl,b3,e3⟩;go_wp2_with fail;refine(LD _ c d _ (hB.out.ext (a6.trans e3)) S).mono ?_;rintro e _ ⟨_,rfl,Z,e4⟩;obtain⟨r,l6⟩:∃r,q.length=r+2:=⟨q.length - 2,om⟩;have l7:=RP (y:=y) (lo:=val W (q.take (r+1))) (top:=v) (s:=d) (n:=r+1) (L:=Lib.bitLen v)
  (by rw[<-l1.out,<-hH.out,D7 q (r+1) om];congr 3;omega)
  (by have:=pU (show 0<W by rw[lX];omega) (c4.take (r+1));rwa [aP,eL om]at this) R e2 e1 L
 obtain⟨B,hJ,hK,hL⟩:=l7;have a0:Dig W (dg W (y*2^d)):=(nQ lF _).1;have b4:val W (dg W (y*2^d))=y*2^d:=nE lF _;have hM:c<W^p.length:=by rw[<-l0.out];exact pU (by rw[lX];omega) h9
 have e5:c*2^d<W^p.length*9223372036854775808:=by
  have e6:c*2^d<=c*2^63:=bV _ (eV om om);have l3:(c+1)*2^63<=W^p.length*2^63:=aJ _ hM;omega
 have e7:(dg W (c*2^d)).length<=p.length+1:=by
  refine nG lF (cD e5 ?_);rw[cP];exact bV _ (by rw[lX];omega)
 have e8:p.length<=(dg W (c*2^d)).length:=by
  have:(dg W c).length<=(dg W (c*2^d)).length:=lN lF (eY _ (cZ om));rwa [<-Y.out]at this
 have p1:q.length<=p.length:=by
  have:=lN lF hD.out;rwa [<-Y.out,<-Te2.out]at this
 have b5:Dig W (dg W (c*2^d)):=(nQ lF _).1;have b6:val W (dg W (c*2^d))=c*2^d:=nE lF _;have e9:Hid (c*2^d<(y*2^d)*W^(p.length - (r+1))):=by
  show c*2^d<(y*2^d)*W^(p.length - (r+1));refine cD e5 ?_;have e:W^p.length=W^(r+1)*W^(p.length - (r+1)):=by rw[<-eU];congr 1;omega
  rw[e];have e6:=aJ (W^(p.length - (r+1))) hK;have l9:W^(r+1)*W^(p.length - (r+1))*9223372036854775808=W^(r+1)*9223372036854775808*W^(p.length - (r+1)):=by ac_rfl
  rw[l9];exact e6
 have eA:=a8 hL;have eB:=a8 hJ;have eC:Hid ((c*2^d) / (y*2^d)=c / y):=jI _ _ (cZ om);have eD:Hid ((c*2^d) % (y*2^d) / 2^d=c % y):=by
  show(c*2^d) % (y*2^d) / 2^d=c % y;rw[jJ,Nat.mul_div_cancel _ (cZ om)]
 have eE:Hid (0<y*2^d):=dW g9 (cZ om);change FrL _ _ _ _ _ (dg W (y*2^d))at b3;change FrL _ _ _ _ _ (dg W (c*2^d))at Z;clear hM e5 hJ hK hL e1 R e2 l5 c7 hG hB hC h6 c3 hH c9 c8 hD g9;obtain⟨M,hN⟩:∃M,y*2^d=M:=⟨_,rfl⟩;obtain⟨T,hO⟩:∃T,c*2^d=T:=⟨_,rfl⟩;rw[hN]at b3 B a0 b4 e9 eA eB eC eD eE;rw[hO]at Z e7 e8 b5 b6 e9 eC eD;clear hN hO;obtain⟨a,hP⟩:∃a,dg W M=a:=⟨_,rfl⟩;obtain⟨N,hR⟩:∃N,dg W T=N:=⟨_,rfl⟩;rw[hP]at b3 B a0 b4 eB;rw[hR]at Z e7 e8 b5 b6;clear hP hR;have b7:=a8 b4;have lA:=a8 b6;have a7:=a8 B;obtain⟨x,lB,b8,rfl,_,eG,_,_⟩:=b3.blk om;have eN:=Z;obtain⟨_,_,_,rfl,lC,lD,lE,lG⟩:=Z.blk om;have m0:(p.length:Int)+1 - (N.length:Int)=((p.length+1 - N.length:Nat):Int):=om;have L:=e4.size;clear b4 b6 B;go_wp2_with (at_builtin;refine AU _ rfl _ _ 33 3 rfl 165 .u64 .i64 8 underlying33 underlying3 tH s _ N (p.length+1 - N.length) rfl rfl om eN om om L ?_);intro _ _ fA hS;have fB:=Ext.step_own e4 hS eN.block;obtain⟨F,a9⟩:∃F,N++List.replicate (p.length+1 - N.length) 0=F:=⟨_,rfl⟩;rw[a9]at fA;have m1:F.length=p.length+1:=by rw[<-a9,aB,bW];omega
 have hT:Dig W F:=by rw[<-a9];exact b5.append (Dig.replicate (by rw[lX];omega) _)
 have fC:val W F=T:=by rw[<-a9,xV,lA.out]
 obtain⟨l,b9,H,rfl,m2,fD,m3,_⟩:=fA.blk om;have hU:=eG.ext fB;have p2:x<l:=by have:=eG.lt;omega
 have p3:a.length<=p.length:=by have:=a7.out;omega
 obtain⟨m,m4⟩:∃m,p.length+1=a.length+m:=⟨p.length+1 - a.length,om⟩;have p4:0<m:=om;have hV:Hid (wU M a.length T F (List.replicate m 0) m):=by
  refine⟨?_,hT,Dig.replicate (by rw[lX];omega) _,?_,?_,?_,?_⟩
  .rw[bW];omega
  .rw[sL,fC];simp
  .rw[fC];have:=e9.out;have e:=a7.out;rwa [show m=p.length - (r+1)by omega]
  .intro b m5;simp[gD,List.getD,fY,m5]
  .rw[bW];exact lr
 clear a9 hT fC Z eN fA lD lE lG lC hS e4 L m0 b5 e7 e8 l6;have m6:(F.length:Int) - (a.length:Int)=m:=om;have m7:F.length<=68719476737:=om;have fE:a.length+m=F.length:=om;obtain⟨A,fG⟩:∃A,F.length=A:=⟨_,rfl⟩;have bA:=a8 fG;have bB:=a8 fE;rw[fG]at m6 m7 fE m3 ⊢;clear fG m4 m1 fE;go_wp2_with (at_make;refine oK _ rfl _ _ 33 rfl 165 .u64 8 underlying33 tH .i64 .i64 _ _ m rfl rfl om om om om ?_);intro _ J g0 _ hW;have hX:=hU.ext g0;have hY:=fD.ext g0;have p5:l<J:=by have:=fD.lt;omega
 clear hU fD eG;go_wp2_with fail;have p6:m<=A:=by have:=bB.out;have:=bA.out;omega
 go_loopw [16] (λg1 wr=>∃(k:Nat) (i:Int) (j U:List Nat),g1= .int .i64 i/\i+1=(k:Int)/\wU M a.length T j U k/\U.length=m/\lM 165 .u64 wr l j b9/\lM 165 .u64 wr J U []/\lM 165 .u64 wr x a lB/\Ext s wr) (λg1 _=>(intOf g1+1).toNat)
 case atStart=>exact ⟨m,_,_,_,rfl,om,hV.out,bW ..,hY,hW,hX,fB.trans g0⟩
 case round=>
  obtain⟨k,i,j,U,rfl,m8,C,hZ,a1,g2,bC,g3⟩:=hrel;have V:=a8 hZ;have p7:k<=m:=by have:=C.2.2.2.2.2.2;omega
  clear hV hZ hY hW hX
  cases k with
  |zero=>
   obtain rfl:i= -1:=om;have i0:=a8 C.finish;have i1:j.length=A:=by have:=C.1;have:=bB.out;have:=bA.out;have:=V.out;omega
   have mA:=C.2.1;have mB:=C.2.2.1;have p8:j.length+b9.length=H:=om;have mC:=a8 (uM (ad:=some ⟨l,0,none⟩) (cap:=H) (m:=T % M) a1.rd i1 om om om mA i0.out.2);clear C;go_wp2_with fail;refine(WE _ _ d _ mC.out S).mono ?_;rintro e mD ⟨bR,rfl,i2,g4⟩;rw[eD.out]at i2;go_wp2_with fail;refine(lT J m m U mD V.out (g2.ext g4).rd lr om).mono ?_;rintro e I ⟨rfl,rfl⟩;go_wp2;go_ret3;have mE:=a6.trans e3;have Q:=a6.size;have p9:=e3.size;have bD:=fB.size;have pA:=g3.size;refine⟨_,_,rfl,?_,FrN.mono i2 om,mE.trans (g3.trans g4)⟩;have:=(g2.ext g4).frN (B0:=w.heap.size) (cap:=m) om lF mB (by rw[i0.out.1,eC.out]:val W U=c / y) (by simp;exact V.out) om;exact this
  |succ b=>
   obtain rfl:i=(b:Int):=om;clear m8;have i1:j.length=A:=by have:=C.1;have:=bB.out;have:=bA.out;have:=V.out;omega
   have mG:b+a.length<A:=by have:=bB.out;have:=bA.out;omega
   have pB:2<=a.length:=by have:=a7.out;omega
   obtain⟨i3,i4,i5,i6⟩:=PF C a7.out b7.out a0 eA.out eB.out;have n0:=a8 (λb0=>C.step (ss':=b0) (by rw[a7.out];exact eA.out) eE.out);have bE:=C.2.1;have b1:0<W:=by rw[lX];omega
   have d2:=bE.gD b1 (b+a.length);have d1:=bE.gD b1 (b+a.length - 1);have d0:=bE.gD b1 (b+a.length - 2);have i7:=a0.gD b1 (a.length - 1);have j0:=a0.gD b1 (a.length - 2);have j1:=a1.cellD (b+a.length) om;have j2:=a1.cellD (b+a.length - 1) om;have j3:=a1.cellD (b+a.length - 2) om;have j4:=bC.cellD (a.length - 1) om;have j5:=bC.cellD (a.length - 2) om;have n1:=a1.seg b (a.length+1) om;have j6:=UB (us:=j) (i:=b) (m:=a.length+1) om;have jA:=a8 (OF (gD j (b+a.length)) (gD j (b+a.length - 1)) (gD j (b+a.length - 2)) (gD a (a.length - 1)) (gD a (a.length - 2)) · d1 d0 i7 j0 i6);have g5:=a8 (λ(g6:World) (hs:tC 165 .u64 g6 l b (mK .u64 (j.take b)) (seg j b (a.length+1)) (mK .u64 (j.drop (b+(a.length+1)))++b9)) (a5:Rd g6 x (mK .u64 a))=>
    JV l b (H - b) b8 x _ _ (seg j b (a.length+1)) a _ g6 hs j6 a5 (by intro e6 n2;cases n2;show x≠l;omega) om i5 (bE.seg _ _) a0 (by rw[b7.out];exact eE.out) i3 i4)
   have jB:Hid (val W (seg j b (a.length+1)) / val W a=val W (seg j b (a.length+1)) / M):=by show _=_;rw[b7.out]
   generalize n3:val W (seg j b (a.length+1)) / val W a=jC at g5 jB;generalize wZ (gD j (b+a.length)) (gD j (b+a.length - 1)) (gD j (b+a.length - 2)) (gD a (a.length - 1)) (gD a (a.length - 2))=gg at*;generalize gD j (b+a.length)=u2 at*;generalize gD j (b+a.length - 1)=u1 at*;generalize gD j (b+a.length - 2)=u0 at*;generalize gD a (a.length - 1)=v1 at*;generalize gD a (a.length - 2)=v0 at*;obtain⟨D,jD⟩:∃D,b+a.length=D:=⟨_,rfl⟩;obtain⟨a2,jE⟩:∃a2,b+a.length - 1=a2:=⟨_,rfl⟩;obtain⟨a3,jG⟩:∃a3,b+a.length - 2=a3:=⟨_,rfl⟩;obtain⟨X,n4⟩:∃X,b+a.length+1=X:=⟨_,rfl⟩;obtain⟨B,k0⟩:∃B,a.length - 1=B:=⟨_,rfl⟩;obtain⟨a4,k1⟩:∃a4,a.length - 2=a4:=⟨_,rfl⟩;rw[jD]at j1 mG;rw[jE]at j2;rw[jG]at j3;rw[k0]at j4;rw[k1]at j5;have pC:IntKind.i64.wrap ((b:Int)+a.length)=(D:Int):=by rw[cY _ om];omega
   have pD:IntKind.i64.wrap ((D:Int)+1)=(X:Int):=by rw[cY _ om];omega
   have pE:IntKind.i64.wrap ((D:Int) - 1)=(a2:Int):=by rw[cY _ om];omega
   have pG:IntKind.i64.wrap ((D:Int) - 2)=(a3:Int):=by rw[cY _ om];omega
   have q0:IntKind.i64.wrap ((a.length:Int) - 1)=(B:Int):=by rw[cY _ om];omega
   have q1:IntKind.i64.wrap ((a.length:Int) - 2)=(a4:Int):=by rw[cY _ om];omega
   have q2:a2<A:=om;have q3:a3<A:=om;have q4:B<a.length:=om;have q5:a4<a.length:=om;have q6:b<=X:=om;have q7:X<=H:=om;have q8:¬H=b:=om;have q9:X - b=a.length+1:=om;have k2:b<m:=om;have bG:x≠J:=om;have bO:x≠l:=om;have b2:l≠J:=om;clear C n3 i3 i4 i5 i6 d0 d1 d2 j0 i7 j6 jG jE jD n4 k0 k1 n1;go_wp2_with fail;refine K7 l 41 J 43 de [isV (J,m,m),isV b,isV (l,A,H),isV b,isV b,isV a.length,isV D,isV X,
     isV (l,b,a.length+1,H - b),isV (x,a.length,b8),
     isV (l,A,H),isV b,isV a.length,isV D,isV (l,D),isV (.int .u64 u2),
     isV (l,A,H),isV b,isV a.length,isV D,isV a2,isV (l,a2),isV (.int .u64 u1),
     isV (l,A,H),isV b,isV a.length,isV D,isV a3,isV (l,a3),isV (.int .u64 u0),
     isV (x,a.length,b8),isV a.length,isV B,isV (x,B),isV (.int .u64 v1),
     isV (x,a.length,b8),isV a.length,isV a4,isV (x,a4),isV (.int .u64 v0),
     isV (.int .u64 gg),λO w=>O= .int .u64 (jC:Int)/\xW 165 l b a.length j M b9 w,
     isV (J,b),λ_ w=>lM 165 .u64 w J (U.set b jC) []]
    [] [(15,41),(22,41),(29,41),(41,41),(43,43)]
    kr kr (λE=>(by simp only[mJ,mO,aQ,aV,aZ,Nat.reduceAdd];rfl)) ?_ ?_ ?_ ?_ ?_
   .repeat (first |exact trivial |refine ⟨λO k3 k4 h f=>(by first |exact f |exact lM.ext f h |exact ⟨f.1,f.2.ext h⟩),?_⟩)
   .repeat (first |exact trivial |refine ⟨λO k3 k4 h f=>(by first |exact f |exact lM.chg f h om),?_⟩)
   .repeat (first |exact trivial |refine ⟨λO k3 k4 h f=>(by first |exact f |exact ⟨f.1,f.2.chg h om⟩),?_⟩)
   .refine⟨?_,?_,?_,?_,?_,?_,?_,?_,?o8,?_,?_,?_,?_,?_,?_,?o15,?_,?_,?_,?_,?_,?_,?o22,?_,?_,?_,?_,?_,?_,?o29,?_,?_,?_,?_,?o34,?_,?_,?_,?_,?o39,?o40,?o41,?_,?o43,trivial⟩
    case o8=>
     intro E s u o f K;simp[lY,pl,isV,Region.binds]at f;simp only[kM];go_simp;exact⟨_,rfl,rE,by simp only[pl,iB,iC,isV]⟩
    case o15=>
     intro E s u o f K;simp[lY,pl,isV,Region.binds]at f;simp[nT]at o;have bP:=o.cell j1 b2;exact DG6
    case o22=>
     intro E s u o f K;simp[lY,pl,isV,Region.binds]at f;simp[nT]at o;have bP:=o.cell j2 b2;exact DG6
    case o29=>
     intro E s u o f K;simp[lY,pl,isV,Region.binds]at f;simp[nT]at o;have bP:=o.cell j3 b2;exact DG6
    case o34=>
     intro E s u o f K;simp[lY,pl,isV,Region.binds]at f;have bP:=u.cell j4 bO bG;exact DG6
    case o39=>
     intro E s u o f K;simp[lY,pl,isV,Region.binds]at f;have bP:=u.cell j5 bO bG;exact DG6
    case o40=>
     intro E s u o f K;simp[lY,pl,isV,Region.binds]at f;simp only[kM];go_simp;refine(jA.out s).mono ?_;rintro e I ⟨rfl,n9⟩;exact⟨_,rfl,n9,rfl⟩
    case o41=>
     intro E s u o f K;simp[lY,pl,isV,Region.binds]at f;simp[nT]at o;simp only[kM];go_simp;refine(g5.out s ?_ ?_).mono ?_
     .exact lM.seg (lM.chg a1 o b2) b (a.length+1) om
     .exact lM.rd (u.blk bC bO bG)
     .rintro e I ⟨b0,rfl,Q,S,L,bD,nI⟩;exact⟨_,rfl,nI,rfl,b0,Q,S,by rw[L,b7.out],bD.blk⟩
    case o43=>
     intro E s u o f K;simp[lY,pl,isV,Region.binds]at f;simp[nT]at o;have R:=lM.chg g2 o (Ne.symm b2);obtain⟨_,_⟩:=R.got b (by rw[V.out];exact k2);have qA:=R.free b;simp only[kM];go_simp;exact⟨undef,rfl,Chg.setCell _ _ _ _,R.set b _ (by rw[V.out];exact k2)⟩
    all_goals
     intro E s u o f K;simp[lY,pl,isV,Region.binds]at f;simp only[kM];go_simp;exact⟨_,rfl,rE,rfl⟩
   .intro E s u f;simp[n5,pl,isV]at f;obtain⟨_,_,_,_,_,_,_,_,_,_,_,_,_,_,_,_,_,_,_,_,_,_,_,_,_,_,_,_,_,_,_,_,_,_,_,_,_,_,_,_,_,⟨_,P⟩,_,k5⟩:=f;have o0:=a8 P;have o1:=a8 k5;clear P k5 g5 jA;go_wp2;go_roundw
    case rel=>
     obtain⟨b0,Q,S,L,bD⟩:=o0.out;have:=n0.out b0 Q S L;rw[<-jB.out]at this;exact⟨b,(b:Int) - 1,_,_,by go_num,om,this,by rw[cI];exact V.out,bD,o1.out,u.blk bC bO bG,g3.step2 u m2 om⟩
    case measure=>simp [intOf]
theorem D5{n:Nat}:sz W n=0↔n=0:=by
 constructor
 .intro h;exact(qT lF).1 (aL h)
 .rintro rfl;rfl
theorem uU(c d:Value)(b a:Nat)(w:World)(h:IsN .u64 W w c b)(j:IsN .u64 W w d a)(l:0<a)(q:sz W b<=68719476736):
  Calls prog 187 #[c,d] w λe m=>∃o p,e= .returned (.tuple #[o,p,(0:Int)])/\FrN 165 .u64 W w m o (b / a)/\FrN 165 .u64 W w m p (b % a)/\Ext w m:=by
 rcases dH b a with f |f
 .exact O4 c d b a w h j l f
 .have:sz W a≠0:=λe=>by have:=D5.1 e;omega
  by_cases r:sz W a=1
  .exact O6 c d b a w h j l f r
  .exact O5 c d b a w h j l f om q
def XZ(w:World)(v:Value):Nat:=
 match v with
 | .slice (some a) n _=>val W ((List.range n).map λi=>match w.cell? (a.add i)with |some (.int _ z)=>z.toNat |_=>0)
 |_=>0
theorem OP{w:World}{n:Nat}(c:IsC .u64 W w j n):XZ w j=n:=by
 obtain⟨d,_,rfl,_,_,f⟩:=c;rcases aR (dg W n).length with a |a
 .have hn:n=0:=(qT lF).1 (aL a);rw[a];subst hn
  cases d<;>simp [XZ,val]
 .obtain⟨b,off,rfl,h⟩:=f.at (by rw[kU];exact a);have e:((List.range (dg W n).length).map λi=>match w.cell? ((⟨b,off,none⟩:Addr).add i)with |some (.int _ z)=>z.toNat |_=>0)=dg W n:=by
   refine List.ext_getElem sm λi _ l=> ?_
   have:=h i _ (mM .u64 (dg W n) i l);exact lt9
  show val W _=n;rw[e,nE lF]
theorem XO{w:World}{n:Nat}(h:IsC .u64 W w j n):∃ad cap,j= .slice ad (sz W n) cap:=by
 exact DG7
theorem VH(j l:Value)(b c:Nat)(w:World)(y:IsN .u64 W w j b)(A:IsN .u64 W w l c)(B:sz W b<=68719476736)(C:sz W c<=68719476736):
  Calls prog 186 #[j,l] w λe p=>∃q,e= .returned q/\FrN 165 .u64 W w p q (Nat.gcd b c)/\Ext w p:=by
 go_enter func186,ntmps186;go_wp2_with fail;refine(yW j b w y).mono ?_;rintro e D ⟨_,rfl,r,m⟩;go_wp2_with fail;refine(yW l c D (A.ext m)).mono ?_;rintro e _ ⟨_,rfl,hb,s⟩;have E:=r.ext s;have F:=FrN.mono hb m.size;clear r hb;go_wp2_with fail
 go_loopw [5,6] (λH o wr=>∃d a,FrN 165 .u64 W w wr H d/\FrN 165 .u64 W w wr o a/\Nat.gcd d a=Nat.gcd b c/\sz W d<=68719476736/\sz W a<=68719476736/\Ext w wr) (λ_ o wr=>XZ wr o)
 case atStart=>exact ⟨b,c,E,F,rfl,B,C,m.trans s⟩
 case round=>
  obtain⟨d,a,ia,h,hg,I,u,hex⟩:=hrel;obtain⟨_,_,rfl⟩:=XO h.isC;rcases aR a with f |f
  .subst f;have hz:sz W 0=0:=rfl;exact kU7
  .have:0<sz W a:=Nat.pos_of_ne_zero λe=>by have:=D5.1 e;omega
   go_wp2_with fail;refine(uU _ _ d a _ (ia.isC.isN lF lq) (h.isC.isN lF lq) f I).mono ?_;rintro e _ ⟨_,_,rfl,_,v,x⟩;go_wp2;go_roundw
   case rel=>
    refine⟨a,d % a,h.ext x,FrN.mono v hex.size,?_,u,?_,hex.trans x⟩
    .rw[<-hg,iY a,<-Nat.gcd_rec,iY]
    .exact aE (lN lF (iE (cH _ f))) u
   case measure=>
    rw[OP v.isC,OP h.isC];exact cH _ f
def sgn(b:Bool)(n:Nat):Int:=if b then -(n:Int)else n
def IsZ(w:World)(v:Value)(z:Int):Prop:=∃b s n,v= .agg #[.bool b,s]/\IsN .u64 W w s n/\z=sgn b n
def FrZ(B0:Nat)(w:World)(v:Value)(z:Int):Prop:=∃s,v= .agg #[.bool (decide (z<0)),s]/\FrN 165 .u64 W B0 w s z.natAbs
def szZ(z:Int):Nat:=sz W z.natAbs
theorem IQ(n a:Nat):sz W (n*a)<=sz W n+sz W a:=qK lF n a
theorem YU(n a:Nat):sz W (n+a)<=max (sz W n) (sz W a)+1:=tS lF n a
theorem sN{n:Nat}(b:n<=a):sz W n<=sz W a:=lN lF b
theorem UF(a b:Bool)(n c:Nat):sgn (a !=b) (n*c)=sgn a n*sgn b c:=by
 cases a<;>cases b<;>simp [sgn,Int.neg_mul,Int.mul_neg]
theorem UH(a:Bool)(n:Nat):sgn (!a) n= -sgn a n:=by cases a<;>simp [sgn]
theorem IN(b:Bool)(n:Nat):(sgn b n).sign=if n=0 then 0 else if b then -1 else 1:=by
 cases b<;>by_cases a:n=0
 .simp[sgn,a]
 .simp only[sgn,a,if_false,eP];exact iW om
 .simp[sgn,a]
 .simp only[sgn,a,if_false,if_true];exact iH om
theorem n8(a:Bool)(n:Nat):(sgn a n).natAbs=n:=by unfold sgn;cases a<;>simp
theorem uJ(z:Int):sgn (decide (z<0)) z.natAbs=z:=by unfold sgn;split<;>simp_all<;>omega
theorem yR(a:Bool)(n:Nat):sgn a n<0↔a=true/\0<n:=by unfold sgn;cases a<;>simp<;>omega
theorem IsZ.ext{w a:World}{b:Value}{z:Int}(c:IsZ w b z)(d:Ext w a):IsZ a b z:=by
 obtain⟨f,h,n,j,l,m⟩:=c;exact⟨f,h,n,j,l.ext d,m⟩
theorem FrZ.ext{w:World}{z:Int}(h:FrZ a w j z)(he:Ext w l):FrZ a l j z:=by
 exact dj8
theorem FrZ.chg{a g:Nat}{w b:World}{c:Value}{z:Int}(d:FrZ a w c z)(f:Chg g w b)(hg:g<a):FrZ a b c z:=by
 obtain⟨h,j,l⟩:=d;exact⟨h,j,l.chg f hg⟩
theorem FrZ.mono{a b:Nat}{w:World}{c:Value}{z:Int}(d:FrZ a w c z)(f:b<=a):FrZ b w c z:=by
 obtain⟨h,j,l⟩:=d;exact⟨h,j,l.mono f⟩
theorem FrZ.isZ{w:World}{z:Int}(b:FrZ a w j z)(hs:szZ z<=LIM):IsZ w j z:=by
 obtain⟨c,d,f⟩:=b;exact⟨_,c,_,d,f.isC.isN lF hs,(uJ z).symm⟩
theorem FrN.slice{e:TypeId}{k:IntKind}{n:Nat}{w:World}(h:FrN e k a c w j n):∃ad cap,j= .slice ad (sz a n) cap:=by
 exact DG7
theorem FrN.oneCell{e:TypeId}{k:IntKind}{n:Nat}{w:World}(b:FrN e k a c w j n):j.oneCell'=true:=by
 obtain⟨_,_,rfl,_⟩:=b;rfl
def lJ{S:Nat}(z:Int):PP S:=⟨false,λu w=>FrZ S w u z,λ_ _ _ h hp=>hp.ext h,λ_ _ hg _ _ _ h hp=>hp.chg h hg⟩
theorem oM(b:Bool)(a:Value)(n:Nat)(w:World)(hs:IsN .u64 W w a n):
  Calls prog 138 #[b,a] w λe c=>∃d,e= .returned d/\FrZ w c d (sgn b n)/\Ext w c:=by
 go_enter func138,ntmps138;go_wp2_with fail;obtain⟨_,l,f,m,_⟩:=kR w #[false,()] 35;rw[<-l];refine(yW a n _ (hs.ext f)).mono ?_;rintro e _ ⟨_,rfl,h,j⟩;have hb:=m.ext j;have o:= @D5 n;have p:=a8 h;obtain⟨q,r,rfl,_,_,_⟩:=h;obtain⟨_,_,-⟩:=hb.cl [0,1];obtain⟨_,_,-⟩:=hb.fl [0,1];go_wp2_with fail;all_goals
  refine l8 4 35 w 35 _ _ kr rfl ((hb.set 0 _).set 1 _) underlying35 rfl kr rfl ?_;refine⟨_,rfl,⟨(q,(dg W n).length,r),?_,?_⟩,(f.trans j).step (Chg.trans (Chg.setCell _ w 0 _) (Chg.setCell _ w 1 _)) lr⟩
  rotate_left
  .rw[n8];exact(p.out.chg (Chg.trans (Chg.setCell _ w 0 _) (Chg.setCell _ w 1 _)) om).mono om
 all_goals
  have:(0<(dg W n).length)↔0<n:=by unfold sz at o;omega
  simp_all[yR]
theorem AC(a:Value)(z:Int)(w:World)(f:IsZ w a z):
  Calls prog 149 #[a] w λe h=>e= .returned z.sign/\Ext w h:=by
 obtain⟨j,b,n,rfl,hs,rfl⟩:=f;go_enter func149,ntmps149;go_wp2_with fail;obtain⟨_,l,c,m,_⟩:=kR w #[j,b] 35;rw[<-l];refine(G8 b n _ (hs.ext c)).mono ?_;rintro e _ ⟨rfl,d⟩;have hb:=m.ext d;have:=hb.cell 0;have:= @G7 n;go_wp2;all_goals
  go_ret;refine⟨?_,c.trans d⟩;rw[IN]
  simp_all
theorem C3(b:Value)(z:Int)(w:World)(j:IsZ w b z):
  Calls prog 154 #[b] w λe c=>∃a,e= .returned a/\FrZ w c a (-z)/\Ext w c:=by
 obtain⟨l,d,n,rfl,hs,rfl⟩:=j;go_enter func154,ntmps154;go_wp2_with fail;obtain⟨_,m,f,_,o,_⟩:=lZ w #[l,d] #[false,()] 35 35;rw[<-m];refine(oM _ d n _ (hs.ext f)).mono ?_;rintro e _ ⟨a,rfl,hz,h⟩;obtain⟨_,rfl,hn⟩:=hz;obtain⟨_,_,rfl⟩:=hn.slice;have p:=a8 hn;clear hn;have hb:=o.ext h;obtain⟨_,_,-⟩:=hb.cl [0,1];obtain⟨_,_,-⟩:=hb.fl [0,1];go_wp2;refine l8 2 35 (w.heap.size+1) 35 _ _ kr rfl ((hb.set 0 _).set 1 _) underlying35 rfl kr rfl ?_;rw[<-UH];exact⟨_,rfl,⟨_,rfl,(p.out.chg (Chg.trans (Chg.setCell _ (w.heap.size+1) 0 _) (Chg.setCell _ (w.heap.size+1) 1 _)) om).mono om⟩,(f.trans h).step (Chg.trans (Chg.setCell _ (w.heap.size+1) 0 _) (Chg.setCell _ (w.heap.size+1) 1 _)) om⟩
theorem zB(j l:Value)(x y:Int)(w:World)(hv:IsZ w j x)(s:IsZ w l y)(d:szZ x+szZ y<=68719476736):
  Calls prog 208 #[j,l] w λe w'=>∃v',e= .returned v'/\FrZ w w' v' (x*y)/\Ext w w':=by
 obtain⟨a,m,n,rfl,hs,rfl⟩:=hv;obtain⟨b,t,c,rfl,ht,rfl⟩:=s;unfold szZ at d;rw[n8,n8]at d;go_enter func208,ntmps208;go_wp2_with fail;obtain⟨w1,o,e1,b1,b2,b3,_⟩:=qI w #[a,m] #[b,t] #[false,()] 35 35 35;rw[<-o];clear o;have hn:=hs.len lF;refine wpP [⟨11,(w.heap.size+2),35,lJ (sgn (a !=b) (n*c))⟩] [(w,0),a,kL ((w.heap.size+1),0),b,kL (.bool (a !=b)),(w,1),(m),kL ((w.heap.size+1),1),(t),nS 165 .u64 W (n*c),lJ (sgn (a !=b) (n*c)),kP] [] [11,10,9,8,7,6,5,4,3,2,1,0] ?_ ?_ ?_ ?_ ?_
 .exact IP7
 .exact DL8
 .exact sz1
 .refine⟨oL,?_,oL,?_,oL,oL,?_,oL,?_,?_,?_,?_,trivial⟩
  .exact tv6
  .exact Ac8
  .exact Xz0
  .exact GJ0
  .intro f w2 hG hp hl;have hE:Ext w1 w2:=hG;have hS:=hE.size;have u:=tE hp 0 6 rfl rfl rfl;have v:=tE hp 1 8 rfl rfl rfl;change kM _ _ _ f w2 Ext _;refine oC #[f 6,f 8] func148 rfl rfl ?_;rw[u,v];refine(AL n c _ _ _ d (hs.ext (e1.trans hE)) (ht.ext (e1.trans hE))).mono ?_;exact EL7
  .intro f w2 hG hp hl;have hE:Ext w1 w2:=hG;have hS:=hE.size;have A:=tE hp 0 4 rfl rfl rfl;have B:=kO hp 1 9 rfl rfl (λ_=>hE);change kM _ _ _ f w2 Ext _;refine oC #[f 4,f 9] func138 rfl rfl ?_;rw[A];refine(oM _ _ _ _ (B.isC.isN lF (aE (IQ n c) lq))).mono ?_;exact EL7
  .intro f w2 hG hp hl;have hE:Ext w1 w2:=hG;have hS:=hE.size;have C:=kO hp 0 10 rfl rfl (λ_=>hE);intro hg0;change kM _ _ _ f w2 (Chg _) _;obtain⟨s',hv,hn⟩:=C;exact uR4
 .intro f w2 hG hp;obtain⟨_,D,q⟩:∃r,Bx 35 w2 (w.heap.size+2) r/\(lJ (sgn (a !=b) (n*c)):PP w1).p (.agg r) w2:=sP hp 11 de;clear hp;have hz1:=q.mono (show w.heap.size<=_ by omega);obtain⟨s',hv,hn⟩:=q
  cases hv
  go_wp2;refine l8 4 35 (w.heap.size+2) 35 _ _ kr rfl D underlying35 rfl kr rfl ?_;rw[<-UF];exact Ku6
theorem WL{n:Nat}(a:n<W):sz W n<=1:=nG lF (by simpa using a)
theorem AI{k:IntKind}(w:World)(a:Nat)(e:TypeId)(b:a<B):IsN k B (w.alloc (.cells #[.int k (a:Int)] e)) (.slice w 1 1) a:=
 ⟨[a],⟨_,1,rfl,lr,om,Rd.new1 w k a e⟩,by rw[mR];simp,λc d=>(by simpa using d:c=a)▸b,by simp[val]⟩
theorem LM(z:Int)(w:World)(j: -9223372036854775808<=z)(l:z<=9223372036854775807):
  Calls prog 89 #[z] w λe d=>∃v',e= .returned v'/\FrZ w d v' z/\Ext w d:=by
 go_enter func89,ntmps89;have f:=lX;rcases(show z<0∨0<=z by omega)with h |h
 .have hn:(-(z+1)+1)=(z.natAbs:Int):=om;have a:z.natAbs<W:=om;have hz:sgn true z.natAbs=z:=by simp only[sgn,if_true];omega
  go_wp2_with fail;obtain⟨w1,b,e1,b1,c⟩:=kR w #[false,()] 35;rw[<-b,<-c];refine(oM true _ z.natAbs _ (AI w1 z.natAbs 165 a)).mono ?_;exact Dv9
 .have hn:=a8 (show z=(z.natAbs:Int)by omega);have a:z.natAbs<W:=om;have hz:sgn false z.natAbs=z:=by simp only[sgn,if_false,eP];omega
  have:z<18446744073709551616:=om;clear f;go_wp2_with fail;rw[show (Value.int .u64 z)= .int .u64 (z.natAbs:Int)by rw[<-hn.out]];obtain⟨w1,b,e1,b1,c⟩:=kR w #[false,()] 35;rw[<-b,<-c];refine(oM false _ z.natAbs _ (AI w1 z.natAbs 165 a)).mono ?_;exact Dv9
theorem qM(a:Int):(a.sign= -1/\a<0)∨(a.sign=0/\a=0)∨(a.sign=1/\0<a):=by
 rcases(show a<0∨a=0∨0<a by omega)with b |b |b
 .exact .inl ⟨iH b,b⟩
 .exact .inr (.inl ⟨by rw[b];rfl,b⟩)
 .exact .inr (.inr ⟨iW b,b⟩)
theorem KF(n a:Nat):o6 n a=((n:Int) - a).sign:=by
 have:=qM ((n:Int) - a);unfold o6;split<;>(try split)<;>omega
theorem ZH{n:Nat}(b:J=sgn Q n)(c:I=sgn R a)(f:J.sign=I.sign)(h:I<0):o6 a n=(J - I).sign:=by
 have:=qM J;have:=qM I;have hb:=((yR Q n).1 om).1;have d:=((yR R a).1 om).1;subst hb d;rw[KF,b,c];congr 1;simp only[sgn,if_true];omega
theorem ZI{n:Nat}(b:J=sgn Q n)(c:I=sgn R a)(f:J.sign=I.sign)(h:0<=I):o6 n a=(J - I).sign:=by
 have:=qM J;have:=qM I;have hb:sgn Q n=n:=by
  cases Q
  .rfl
  .simp only[sgn,if_true]at*;omega
 have d:sgn R a=a:=by
  cases R
  .rfl
  .simp only[sgn,if_true]at*;omega
 rw[KF,b,c,hb,d]
theorem SQ(o p:Value)(b c:Int)(w:World)(q:IsZ w o b)(r:IsZ w p c):
  Calls prog 157 #[o,p] w λe w'=>e= .returned (.int .i64 (b - c).sign)/\Ext w w':=by
 have D:=a8 q;have E:=a8 r;obtain⟨s,u,n,rfl,hs,v⟩:=q;obtain⟨x,t,_,rfl,ht,y⟩:=r;go_enter func157,ntmps157;go_wp2_with fail;obtain⟨w1,A,a,b1,b2,_⟩:=lZ w #[s,u] #[x,t] 35 35;rw[<-A];clear A;refine wpQ [kL (.agg #[s,u]),b.sign,kL (.agg #[x,t]),c.sign,b.sign,c.sign] [] [0,1,2,3,4,5] ?_ ?_
 .refine⟨?_,?_,?_,?_,?_,?_,trivial⟩
  .exact Uf4
  .intro f w2 hG hp hl;have hE:Ext w1 w2:=hG;have F:=tE hp 0 0 rfl rfl rfl;change kM _ _ _ f w2 Ext _;refine oC #[f 0] func149 rfl rfl ?_;rw[F];refine(AC _ b _ (D.out.ext (a.trans hE))).mono ?_;exact DR3
  .exact uV8
  .intro f w2 hG hp hl;have hE:Ext w1 w2:=hG;have H:=tE hp 0 2 rfl rfl rfl;change kM _ _ _ f w2 Ext _;refine oC #[f 2] func149 rfl rfl ?_;rw[H];refine(AC _ c _ (E.out.ext (a.trans hE))).mono ?_;exact DR3
  .intro f w2 hG hp hl;have hE:Ext w1 w2:=hG;have I:=kO hp 0 1 rfl rfl (λ_=>hE);exact⟨_,rfl,rE,I⟩
  .intro f w2 hG hp hl;have hE:Ext w1 w2:=hG;have J:=kO hp 0 3 rfl rfl (λ_=>hE);exact⟨_,rfl,rE,J⟩
 .intro f w2 hG hp;have hE:Ext w1 w2:=mV.nil hG;have:f 4=b.sign:=rM hp 4 de rfl (λd=>by cases d);have:f 5=c.sign:=rM hp 5 de rfl (λd=>by cases d);clear hp;have:=(b1.ext hE).cell 1;have:=(b2.ext hE).cell 1;have B:=a8 v;have C:=a8 y;have h:=a8 (qM b);have j:=a8 (qM c);have l:=a8 (qM (b - c));clear v y;go_wp2_with fail
  .refine(tR _ _ _ _ _ (ht.ext (a.trans hE)) (hs.ext (a.trans hE))).mono ?_;rintro e K ⟨rfl,m⟩;go_wp2;go_ret;exact⟨oF (ZH B.out C.out ‹_› ‹_›),(a.trans hE).trans m⟩
  .refine(tR _ _ _ _ _ (hs.ext (a.trans hE)) (ht.ext (a.trans hE))).mono ?_;rintro e K ⟨rfl,m⟩;go_wp2;go_ret;exact⟨oF (ZI B.out C.out ‹_› ‹_›),(a.trans hE).trans m⟩
  .go_ret;have h:=h.out;have j:=j.out;have l:=l.out;rename_i L;have:=L.2;exact⟨oF om,a.trans hE⟩
  .go_ret;have h:=h.out;have j:=j.out;have l:=l.out;rename_i _ h2 M;have:c.sign<=b.sign:=by rcases h2 with d |d;(rw[M]at d;cases d);exact d
   exact⟨oF om,a.trans hE⟩
theorem J5(v A:Value)(x y:Int)(w:World)(hv:IsZ w v x)(I:IsZ w A y)(B:szZ x<=68719476736)(C:szZ y<=68719476736):
  Calls prog 146 #[v,A] w λe w'=>∃v',e= .returned v'/\FrZ w w' v' (x+y)/\Ext w w':=by
 obtain⟨b,o,n,rfl,hs,rfl⟩:=hv;obtain⟨q,t,m,rfl,ht,rfl⟩:=I;unfold szZ at B C;rw[n8]at B C;go_enter func146,ntmps146;by_cases J:b=q
 .subst J;go_wp2_with fail;obtain⟨w1,f,e1,b1,b2,b3,D⟩:=qI w #[b,o] #[b,t] #[false,()] 35 35 35;rw[<-f];clear f;refine wpP [⟨8,(w.heap.size+2),35,lJ (sgn b (n+m))⟩] [(w,0),b,(w,1),(o),kL ((w.heap.size+1),1),(t),nS 165 .u64 W (n+m),lJ (sgn b (n+m)),kP] [] [8,7,6,5,4,3,2,1,0] ?_ ?_ ?_ ?_ ?_
  .exact IP7
  .exact DL8
  .exact sz1
  .refine⟨oL,?_,oL,?_,oL,?_,?_,?_,?_,trivial⟩
   .intro c w2 hG a l;have hE:Ext w1 w2:=hG;have:=tE a 0 0 rfl rfl rfl;exact mi8
   .intro c w2 hG a l;have hE:Ext w1 w2:=hG;have:=tE a 0 2 rfl rfl rfl;exact Vb6
   .intro c w2 hG a l;have hE:Ext w1 w2:=hG;have:=tE a 0 4 rfl rfl rfl;exact lf6
   .intro c w2 hG a l;have hE:Ext w1 w2:=hG;have hS:=hE.size;have K:=tE a 0 3 rfl rfl rfl;have L:=tE a 1 5 rfl rfl rfl;change kM _ _ _ c w2 Ext _;refine oC #[c 3,c 5] func202 rfl rfl ?_;rw[K,L];refine(xI _ _ n m _ (hs.ext (e1.trans hE)) (ht.ext (e1.trans hE))).mono ?_;exact EL7
   .intro c w2 hG a l;have hE:Ext w1 w2:=hG;have hS:=hE.size;have M:=tE a 0 1 rfl rfl rfl;have N:=kO a 1 6 rfl rfl (λ_=>hE);change kM _ _ _ c w2 Ext _;refine oC #[c 1,c 6] func138 rfl rfl ?_;rw[M];refine(oM _ _ _ _ (N.isC.isN lF (aE (YU n m) lq))).mono ?_;exact EL7
   .intro c w2 hG a l;have hE:Ext w1 w2:=hG;have hS:=hE.size;have O:=kO a 0 7 rfl rfl (λ_=>hE);intro hg0;change kM _ _ _ c w2 (Chg _) _;obtain⟨s',hv,hn⟩:=O;exact uR4
  .intro c w2 hG a;obtain⟨_,Q,E⟩:∃F,Bx 35 w2 (w.heap.size+2) F/\(lJ (sgn b (n+m)):PP w1).p (.agg F) w2:=sP a 8 de;clear a;have hz1:=E.mono (show w.heap.size<=_ by omega);obtain⟨s',hv,hn⟩:=E
   cases hv
   go_wp2;refine l8 4 35 (w.heap.size+2) 35 _ _ kr rfl Q underlying35 rfl kr rfl ?_;exact HS5
 .have R:q=!b:=by cases b<;>cases q<;>simp_all
  have:(b==!b)=false:=by cases b<;>rfl
  subst R;rcases(show m<=n∨n<m by omega)with hle |S
  .go_wp2_with fail;obtain⟨w1,f,e1,b1,b2,b3,D⟩:=qI w #[b,o] #[.bool !b,t] #[false,()] 35 35 35;rw[<-f];clear f;refine(UM _ _ n m _ (hs.ext e1) (ht.ext e1) hle).mono ?_;rintro e w2 ⟨r,rfl,s,d⟩;have T:=(b1.ext d).cell 0;go_wp2_with fail;refine(oM b r (n - m) _ (s.isC.isN lF (aE (sN (show n - m<=n by omega)) lq))).mono ?_;rintro e U ⟨v',rfl,hz,j⟩;have V:=d.size;obtain⟨s',rfl,hn⟩:=hz;obtain⟨X,Y,rfl⟩:=hn.slice;have u:=a8 hn;clear hn;have hb:=b3.ext (d.trans j);obtain⟨Z,a0,-⟩:=hb.cl [0,1];obtain⟨a1,a2,-⟩:=hb.fl [0,1];go_wp2;refine l8 4 35 (w.heap.size+2) 35 _ _ kr rfl ((hb.set 0 _).set 1 _) underlying35 rfl kr rfl ?_;rw[show sgn b n+sgn (!b) m=sgn b (n - m)by cases b<;>simp [sgn]<;>omega]
   exact⟨_,rfl,⟨_,(by first |rfl |simp_all),(u.out.chg (Chg.trans (Chg.setCell _ (w.heap.size+2) 0 _) (Chg.setCell _ (w.heap.size+2) 1 _)) om).mono om⟩,((e1.trans d).trans j).step (Chg.trans (Chg.setCell _ (w.heap.size+2) 0 _) (Chg.setCell _ (w.heap.size+2) 1 _)) om⟩
  .go_wp2_with fail;obtain⟨w1,f,e1,b1,b2,b3,D⟩:=qI w #[b,o] #[.bool !b,t] #[false,()] 35 35 35;rw[<-f];clear f;refine(ah2 _ _ n m _ (hs.ext e1) (ht.ext e1) S).mono ?_;rintro e w2 ⟨rfl,d⟩;have T:=(b1.ext d).cell 1;have:=(b2.ext d).cell 1;go_wp2_with fail;refine(UM _ _ m n _ (ht.ext (e1.trans d)) (hs.ext (e1.trans d)) om).mono ?_;rintro e U ⟨r,rfl,s,j⟩;have:=(b2.ext (d.trans j)).cell 0;go_wp2_with fail;refine(oM (!b) r (m - n) _ (s.isC.isN lF (aE (sN (show m - n<=m by omega)) lq))).mono ?_;rintro e _ ⟨v',rfl,hz,H⟩;have V:=d.size;have:=j.size;obtain⟨s',rfl,hn⟩:=hz;obtain⟨X,Y,rfl⟩:=hn.slice;have u:=a8 hn;clear hn;have hb:=b3.ext ((d.trans j).trans H);obtain⟨Z,a0,-⟩:=hb.cl [0,1];obtain⟨a1,a2,-⟩:=hb.fl [0,1];go_wp2;refine l8 4 35 (w.heap.size+2) 35 _ _ kr rfl ((hb.set 0 _).set 1 _) underlying35 rfl kr rfl ?_;rw[show sgn b n+sgn (!b) m=sgn (!b) (m - n)by cases b<;>simp [sgn]<;>omega]
   exact⟨_,rfl,⟨_,(by first |rfl |simp_all),(u.out.chg (Chg.trans (Chg.setCell _ (w.heap.size+2) 0 _) (Chg.setCell _ (w.heap.size+2) 1 _)) om).mono om⟩,(((e1.trans d).trans j).trans H).step (Chg.trans (Chg.setCell _ (w.heap.size+2) 0 _) (Chg.setCell _ (w.heap.size+2) 1 _)) om⟩
theorem Own.chgS{e:TypeId}{w:World}{xs:List Value}(d:Own e a w v c xs)(f:mV b w l)(hb:∀g∈b,g<a):Own e a l v c xs:=by
 rcases d with d |⟨g,cur,h,j,m,o⟩
 .exact .inl d
 .exact .inr ⟨g,cur,h,j,f.blk m (λp=>by have:=hb g p;omega),o⟩
theorem FrL.chgS{e:TypeId}{k:IntKind}{a:Nat}{w b:World}{c:Value}{xs:List Nat}{d:List Nat}(f:FrL e k a w c xs)(h:mV d w b)(hb:∀g∈d,g<a):FrL e k a b c xs:=by
 obtain⟨j,l,m,o,p,q⟩:=f;exact⟨j,l,m,o,p,q.chgS h hb⟩
theorem FrN.chgS{e:TypeId}{k:IntKind}{b a:Nat}{w c:World}{d:Value}{n:Nat}{f:List Nat}(h:FrN e k b a w d n)(j:mV f w c)(hb:∀g∈f,g<a):FrN e k b a c d n:=FrL.chgS h j hb
theorem FrZ.chgS{a:Nat}{w b:World}{c:Value}{z:Int}{d:List Nat}(f:FrZ a w c z)(h:mV d w b)(hb:∀g∈d,g<a):FrZ a b c z:=by
 obtain⟨j,l,m⟩:=f;exact⟨j,l,m.chgS h hb⟩
theorem N5(a b:Int):szZ (a+b)<=max (szZ a) (szZ b)+1:=by
 unfold szZ;exact aE (sN (Int.natAbs_add_le a b)) (YU _ _)
theorem pQ(a b:Int):szZ (a*b)<=szZ a+szZ b:=by
 unfold szZ;rw[fX];exact IQ _ _
theorem yU(a:Int):szZ (-a)=szZ a:=by unfold szZ;rw[iG]
theorem zC(a b:Value)(x y:Int)(w:World)(hv:IsZ w a x)(c:IsZ w b y)(r:szZ x<=68719476736)(s:szZ y<=68719476736):
  Calls prog 209 #[a,b] w λe w'=>∃v',e= .returned v'/\FrZ w w' v' (x - y)/\Ext w w':=by
 have u:=a8 hv;have v:=a8 c;obtain⟨d,j,n,rfl,hs,hx⟩:=hv;obtain⟨l,t,_,rfl,ht,hy⟩:=c;go_enter func209,ntmps209;go_wp2_with fail;obtain⟨w1,m,e1,b1,b2,b3,_⟩:=qI w #[d,j] #[l,t] #[false,()] 35 35 35;rw[<-m];clear m;refine wpP [⟨4,(w.heap.size+2),35,lJ (x+ -y)⟩] [kL (.agg #[d,j]),kL (.agg #[l,t]),lJ (-y),lJ (x+ -y),kP] [] [4,3,2,1,0] ?_ ?_ ?_ ?_ ?_
 .exact IP7
 .exact DL8
 .exact sz1
 .refine⟨?_,?_,?_,?_,?_,trivial⟩
  .exact Uf4
  .exact uV8
  .intro f w2 hG hp hl;have hE:Ext w1 w2:=hG;have hS:=hE.size;have A:=tE hp 0 1 rfl rfl rfl;change kM _ _ _ f w2 Ext _;refine oC #[f 1] func154 rfl rfl ?_;rw[A];refine(C3 _ y _ (v.out.ext (e1.trans hE))).mono ?_;exact EL7
  .intro f w2 hG hp hl;have hE:Ext w1 w2:=hG;have hS:=hE.size;have B:=tE hp 0 0 rfl rfl rfl;have C:=kO hp 1 2 rfl rfl (λ_=>hE);change kM _ _ _ f w2 Ext _;refine oC #[f 0,f 2] func146 rfl rfl ?_;rw[B];refine(J5 _ _ x (-y) _ (u.out.ext (e1.trans hE)) (C.isZ (by rw[yU,mR];omega)) r (by rw[yU];exact s)).mono ?_;exact EL7
  .intro f w2 hG hp hl;have hE:Ext w1 w2:=hG;have hS:=hE.size;have D:=kO hp 0 3 rfl rfl (λ_=>hE);intro hg0;change kM _ _ _ f w2 (Chg _) _;obtain⟨s',hv,hn⟩:=D;exact uR4
 .intro f w2 hG hp;obtain⟨_,E,o⟩:∃q,Bx 35 w2 (w.heap.size+2) q/\(lJ (x+ -y):PP w1).p (.agg q) w2:=sP hp 4 de;clear hp;have hz1:=o.mono (show w.heap.size<=_ by omega);obtain⟨s',hv,hn⟩:=o
  cases hv
  go_wp2;refine l8 4 35 (w.heap.size+2) 35 _ _ kr rfl E underlying35 rfl kr rfl ?_;rw[iI];exact Ku6
theorem VE(a:Int)(b:Nat)(d:0<b):a / (b:Int)=if a<0/\0<a.natAbs % b then sgn (decide (a<0)) (a.natAbs / b) - 1 else sgn (decide (a<0)) (a.natAbs / b):=by
 have f:=dI a.natAbs b;have:=cH a.natAbs d;by_cases c:a<0
 .have e:a= -((b:Int)*((a.natAbs / b:Nat):Int)+((a.natAbs % b:Nat):Int)):=by
   rw[<-cL,<-Int.natCast_add,f];omega
  generalize a.natAbs / b=q at*;generalize a.natAbs % b=r at*;simp only[c,decide_true,sgn,if_true,true_and];split
  .refine((Int.ediv_emod_unique (r:=(b:Int) - r) om).2 ⟨?_,om,om⟩).1;rw[e,Int.mul_sub,Int.mul_neg];omega
  .refine((Int.ediv_emod_unique (r:=0) om).2 ⟨?_,om,om⟩).1;rw[e,Int.mul_neg];omega
 .rw[if_neg om,decide_eq_false c];simp only[sgn,if_false,eP];rw[eQ];congr 1;omega
theorem FG(T t:Value)(x:Int)(y:Nat)(w:World)(hv:IsZ w T x)(ht:IsN .u64 W w t y)(hy:0<y)(J:szZ x<=34359738368)(bO:sz W y<=34359738300):
  Calls prog 153 #[T,.agg #[false,t]] w λe w'=>∃U V,e= .returned (.tuple #[U,V,(0:Int)])/\FrZ w w' U (x / (y:Int))/\FrZ w w' V (x % (y:Int))/\Ext w w':=by
 have K:=a8 hv;obtain⟨B,C,n,rfl,hs,hx⟩:=hv;have bP:sz W n<=34359738368:=by rw[hx]at J;unfold szZ at J;rwa [n8]at J
 go_enter func153,ntmps153;go_wp2_with fail;obtain⟨_,X,L,Y,Z,b2,b3,M⟩:=ae4 w #[B,C] #[false,t] #[false,()] #[false,()] 35 35 35 35;rw[<-X];clear X;refine(uU _ _ n y _ (hs.ext L) (ht.ext L) hy om).mono ?_;rintro e w2 ⟨b4,_,rfl,b5,a0,j⟩;have bR:=(Y.ext j).cell 0;have bS:=(Z.ext j).cell 0;go_wp2_with fail;refine(oM _ b4 (n / y) _ (b5.isC.isN lF (aE (sN (fR n y)) lq))).mono ?_;rintro e w3 ⟨_,rfl,hz,o⟩;obtain⟨s',rfl,hn⟩:=hz;obtain⟨b,c,rfl⟩:=hn.slice;obtain⟨_,_,rfl⟩:=a0.slice;have a1:=a8 hn;have bT:= @D5 (n % y);clear hn a0;have N:IsZ w (.agg #[false,t]) (y:Int):=⟨false,t,y,rfl,ht,rfl⟩;have O:szZ (y:Int)=sz W y:=rfl;obtain⟨w4,D,m,F,_⟩:=kR w3 #[.bool (decide (sgn B (n / y)<0)),(b,sz W (sgn B (n / y)).natAbs,c)] 35;have E:=((L.trans j).trans o).trans m;have B1:=((Y.ext j).ext o).ext m;have B2:=((Z.ext j).ext o).ext m;have B3:=((b2.ext j).ext o).ext m;have B4:=((b3.ext j).ext o).ext m;have c0:=j.size;have c1:=o.size;have b6:=B1.cell 0;have b7:=B2.cell 0;have q:=VE x y hy;have Q:x.natAbs=n:=by rw[hx,n8]
 have H:sgn (decide (x<0)) n=x:=by rw[<-Q];exact uJ x
 rw[D]at b6 b7
 cases B
 .have hx0:x / (y:Int)=sgn false (n / y):=by
   have:¬x<0:=by rw[hx,yR];simp
   rw[q,if_neg om,Q,decide_eq_false this]
  have b8:=a8 hx;have b9:=a8 H;have bA:=a8 q;clear hx H q;go_wp2_with fail;rw[<-D];have Hq:FrZ (w.heap.size+4) w4 _ (sgn false (n / y)):=⟨_,rfl,(a1.out.ext m).mono om⟩;have a2:szZ (sgn false (n / y))<=34359738370:=by unfold szZ;rw[n8];exact aE (sN (fR n y)) om
  have O10:(Value.slice b (sz W (sgn false (n / y)).natAbs) c).oneCell'=true:=rfl;have B5:=F;have a3:=M;refine wpP [⟨6,(w.heap.size+2),35,kL (.agg #[.bool (decide (sgn false (n / y)<0)),(b,sz W (sgn false (n / y)).natAbs,c)])⟩,⟨7,(w.heap.size+3),35,lJ (x - sgn false (n / y)*(y:Int))⟩] [kL (.agg #[.bool (decide (sgn false (n / y)<0)),(b,sz W (sgn false (n / y)).natAbs,c)]),kL (.agg #[false,C]),kL (.agg #[.bool (decide (sgn false (n / y)<0)),(b,sz W (sgn false (n / y)).natAbs,c)]),kL (.agg #[false,t]),lJ (sgn false (n / y)*(y:Int)),lJ (x - sgn false (n / y)*(y:Int)),kP,kP,(0:Int)] [] [6,5,4,3,2,1,0] ?_ ?_ ?_ ?_ ?_
  .exact VL7
  .exact Bs3
  .exact qB9
  .refine⟨?_,?_,?_,?_,?_,?_,?_,?_,?_,trivial⟩
   .exact sZ6
   .exact zf3
   .exact sZ6
   .exact Jq4
   .intro f w2 hG hp hl;have hE:Ext w4 w2:=hG;have hS:=hE.size;have s:=tE hp 0 2 rfl rfl rfl;have u:=tE hp 1 3 rfl rfl rfl;change kM _ _ _ f w2 Ext _;refine oC #[f 2,f 3] func208 rfl rfl ?_;rw[s,u];refine(zB _ _ (sgn false (n / y)) (y:Int) _ ((Hq.isZ lq).ext hE) (N.ext (E.trans hE)) (by rw[O];omega)).mono ?_;exact EL7
   .intro f w2 hG hp hl;have hE:Ext w4 w2:=hG;have hS:=hE.size;have v:=tE hp 0 1 rfl rfl rfl;have A:=kO hp 1 4 rfl rfl (λ_=>hE);change kM _ _ _ f w2 Ext _;refine oC #[f 1,f 4] func209 rfl rfl ?_;rw[v];refine(zC _ _ x (sgn false (n / y)*(y:Int)) _ (K.out.ext (E.trans hE)) (A.isZ (by have:=pQ (sgn false (n / y)) (y:Int);rw[mR];omega)) om (by have:=pQ (sgn false (n / y)) (y:Int);omega)).mono ?_;exact EL7
   .exact PH9
   .exact EE1
   .exact gq2
  .intro f w2 hG hp;obtain⟨R,hbx0,l⟩:∃a,Bx 35 w2 (w.heap.size+2) a/\(kL (.agg #[.bool (decide (sgn false (n / y)<0)),(b,sz W (sgn false (n / y)).natAbs,c)]):PP w4).p (.agg a) w2:=sP hp 6 de;obtain⟨a4,hbx1,d⟩:∃a,Bx 35 w2 (w.heap.size+3) a/\(lJ (x - sgn false (n / y)*(y:Int)):PP w4).p (.agg a) w2:=sP hp 7 de;have q6:f 8=(0:Int):=rM hp 8 de rfl (λh=>by cases h);clear hp;have hz2:=d.mono (show w.heap.size<=_ by omega);obtain⟨s',hv,hn⟩:=d
   cases hv
   cases l
   go_wp2;have hm:x % (y:Int)=x - sgn false (n / y)*(y:Int):=by rw[Int.emod_def,hx0,kF]
   exact tk5
 .have r:x / (y:Int)=if 0<n % y then sgn true (n / y) - 1 else sgn true (n / y):=by
   rw[q,Q];rcases aR n with S |S
   .have:¬x<0:=by rw[hx,yR];omega
    subst S;rw[if_neg om,if_neg sm];simp[sgn]
   .have:x<0:=by rw[hx,yR];exact⟨rfl,S⟩
    simp only[this,true_and,decide_true]
  have b8:=a8 hx;have b9:=a8 H;have bA:=a8 q;clear hx H q;have c2:szZ (sgn true (n / y))<=34359738368:=by unfold szZ;rw[n8];exact aE (sN (fR n y)) om
  have a5:FrZ (w.heap.size+4) w4 _ (sgn true (n / y)):=⟨_,rfl,(a1.out.ext m).mono om⟩;by_cases c3:n % y=0
  .have hx0:x / (y:Int)=sgn true (n / y):=by rw[r,if_neg om]
   have bB:=a8 r;clear r;go_wp2_with fail;rw[<-D];have Hq:=a5;have a2:szZ (sgn true (n / y))<=34359738370:=om;have O10:(Value.slice b (sz W (sgn true (n / y)).natAbs) c).oneCell'=true:=rfl;have B5:=F;have a3:=M;refine wpP [⟨6,(w.heap.size+2),35,kL (.agg #[.bool (decide (sgn true (n / y)<0)),(b,sz W (sgn true (n / y)).natAbs,c)])⟩,⟨7,(w.heap.size+3),35,lJ (x - sgn true (n / y)*(y:Int))⟩] [kL (.agg #[.bool (decide (sgn true (n / y)<0)),(b,sz W (sgn true (n / y)).natAbs,c)]),kL (.agg #[true,C]),kL (.agg #[.bool (decide (sgn true (n / y)<0)),(b,sz W (sgn true (n / y)).natAbs,c)]),kL (.agg #[false,t]),lJ (sgn true (n / y)*(y:Int)),lJ (x - sgn true (n / y)*(y:Int)),kP,kP,(0:Int)] [] [6,5,4,3,2,1,0] ?_ ?_ ?_ ?_ ?_
   .exact VL7
   .exact Bs3
   .exact qB9
   .refine⟨?_,?_,?_,?_,?_,?_,?_,?_,?_,trivial⟩
    .exact sZ6
    .exact zf3
    .exact sZ6
    .exact Jq4
    .intro f w2 hG hp hl;have hE:Ext w4 w2:=hG;have hS:=hE.size;have s:=tE hp 0 2 rfl rfl rfl;have u:=tE hp 1 3 rfl rfl rfl;change kM _ _ _ f w2 Ext _;refine oC #[f 2,f 3] func208 rfl rfl ?_;rw[s,u];refine(zB _ _ (sgn true (n / y)) (y:Int) _ ((Hq.isZ lq).ext hE) (N.ext (E.trans hE)) (by rw[O];omega)).mono ?_;exact EL7
    .intro f w2 hG hp hl;have hE:Ext w4 w2:=hG;have hS:=hE.size;have v:=tE hp 0 1 rfl rfl rfl;have A:=kO hp 1 4 rfl rfl (λ_=>hE);change kM _ _ _ f w2 Ext _;refine oC #[f 1,f 4] func209 rfl rfl ?_;rw[v];refine(zC _ _ x (sgn true (n / y)*(y:Int)) _ (K.out.ext (E.trans hE)) (A.isZ (by have:=pQ (sgn true (n / y)) (y:Int);rw[mR];omega)) om (by have:=pQ (sgn true (n / y)) (y:Int);omega)).mono ?_;exact EL7
    .exact PH9
    .exact EE1
    .exact gq2
   .intro f w2 hG hp;obtain⟨R,hbx0,l⟩:∃a,Bx 35 w2 (w.heap.size+2) a/\(kL (.agg #[.bool (decide (sgn true (n / y)<0)),(b,sz W (sgn true (n / y)).natAbs,c)]):PP w4).p (.agg a) w2:=sP hp 6 de;obtain⟨a4,hbx1,d⟩:∃a,Bx 35 w2 (w.heap.size+3) a/\(lJ (x - sgn true (n / y)*(y:Int)):PP w4).p (.agg a) w2:=sP hp 7 de;have q6:f 8=(0:Int):=rM hp 8 de rfl (λh=>by cases h);clear hp;have hz2:=d.mono (show w.heap.size<=_ by omega);obtain⟨s',hv,hn⟩:=d
    cases hv
    cases l
    go_wp2;have hm:x % (y:Int)=x - sgn true (n / y)*(y:Int):=by rw[Int.emod_def,hx0,kF]
    exact tk5
  .have hx0:x / (y:Int)=sgn true (n / y) - 1:=by rw[r,if_pos om]
   have bB:=a8 r;clear r;go_wp2_with fail;rw[<-D];refine wpP [⟨3,w3.heap.size,35,lJ (sgn true (n / y) - 1)⟩] [kL (.agg #[.bool (decide (sgn true (n / y)<0)),(b,sz W (sgn true (n / y)).natAbs,c)]),lJ 1,lJ (sgn true (n / y) - 1),kP] [] [3,2,1,0] ?_ ?_ ?_ ?_ ?_
   .intro x hx;simp only[aC]at hx;subst hx;exact⟨by show w3.heap.size<w4.heap.size;omega,rfl⟩
   .exact DL8
   .exact sz1
   .refine⟨?_,?_,?_,?_,trivial⟩
    .intro f w2 hG hp hl;have hE:Ext w4 w2:=hG;change kM _ _ _ f w2 Ext _;exact kZ (P:=prog) _ _ w3 _ _ _ rfl rfl rfl (F.ext hE) underlying35 rfl kr rfl
    .intro f w2 hG hp hl;have hE:Ext w4 w2:=hG;have hS:=hE.size;change kM _ _ _ f w2 Ext _;refine oC #[(1:Int)] func89 rfl rfl ?_;refine(LM 1 _ om om).mono ?_;exact EL7
    .intro f w2 hG hp hl;have hE:Ext w4 w2:=hG;have hS:=hE.size;have bC:=tE hp 0 0 rfl rfl rfl;have bD:=kO hp 1 1 rfl rfl (λ_=>hE);change kM _ _ _ f w2 Ext _;refine oC #[f 0,f 1] func209 rfl rfl ?_;rw[bC];refine(zC _ _ (sgn true (n / y)) 1 _ ((a5.isZ lq).ext hE) (bD.isZ (by rw[show szZ 1=1 from rfl,mR];omega)) om (by rw[show szZ 1=1 from rfl];omega)).mono ?_;exact EL7
    .intro f w2 hG hp hl;have hE:Ext w4 w2:=hG;have hS:=hE.size;have bE:=kO hp 0 2 rfl rfl (λ_=>hE);intro hg0;change kM _ _ _ f w2 (Chg _) _;obtain⟨s',hv,hn⟩:=bE;exact mN (P:=prog) _ _ _ w3 _ _ _ (lJ _:PP _).p rfl rfl rfl hv (show Bx 35 w2 _ _ from hg0.trans F) kr rfl (xZ rfl hn.oneCell) (λw' h=>⟨s',rfl,hn.chg h om⟩)
   .intro f wz hG hp;obtain⟨R,hbx0,l⟩:∃a,Bx 35 wz w3 a/\(lJ (sgn true (n / y) - 1):PP w4).p (.agg a) wz:=sP hp 3 de;clear hp;have d:=l;obtain⟨I,hv,bG⟩:=l
    cases hv
    have O10:=bG.oneCell;have a6:=E.stepS hG (by simp only[dQ,eT,aC,forall_eq];omega);have a7:=B1.chgS hG (by simp only[dQ,eT,aC];omega);have a9:=B2.chgS hG (by simp only[dQ,eT,aC];omega);have b0:=B3.chgS hG (by simp only[dQ,eT,aC];omega);have b1:=B4.chgS hG (by simp only[dQ,eT,aC];omega);have c4:=hG.2.2.2.1;have Hq:FrZ (w.heap.size+4) wz _ (sgn true (n / y) - 1):=d.mono om;have a2:szZ (sgn true (n / y) - 1)<=34359738370:=by
     have:=N5 (sgn true (n / y)) (-1);rw[<-iI]at this;rw[show szZ (-1)=1 from rfl]at this;omega
    clear E B1 B2 B3 B4;have E:=a6;have B1:=a7;have B2:=a9;have B3:=b0;have B4:=b1;clear a6 a7 a9 b0 b1;have B5:=hbx0;have a3:=M;go_wp2_with fail;refine wpP [⟨6,(w.heap.size+2),35,kL (.agg #[.bool (decide ((sgn true (n / y) - 1)<0)),I])⟩,⟨7,(w.heap.size+3),35,lJ (x - (sgn true (n / y) - 1)*(y:Int))⟩] [kL (.agg #[.bool (decide ((sgn true (n / y) - 1)<0)),I]),kL (.agg #[true,C]),kL (.agg #[.bool (decide ((sgn true (n / y) - 1)<0)),I]),kL (.agg #[false,t]),lJ ((sgn true (n / y) - 1)*(y:Int)),lJ (x - (sgn true (n / y) - 1)*(y:Int)),kP,kP,(0:Int)] [] [6,5,4,3,2,1,0] ?_ ?_ ?_ ?_ ?_
    .intro x hx;simp only[aS,bI,or_false]at hx;rcases hx with rfl |rfl
     .exact⟨by show(w.heap.size+2)<wz.heap.size;omega,rfl⟩
     .exact⟨by show(w.heap.size+3)<wz.heap.size;omega,rfl⟩
    .exact Bs3
    .exact qB9
    .refine⟨?_,?_,?_,?_,?_,?_,?_,?_,?_,trivial⟩
     .exact uH5
     .intro f w2 hG hp hl;have hE:Ext wz w2:=hG;change kM _ _ _ f w2 Ext _;exact kZ (P:=prog) _ _ w _ _ _ rfl rfl rfl (B1.ext hE) underlying35 rfl kr rfl
     .exact uH5
     .intro f w2 hG hp hl;have hE:Ext wz w2:=hG;change kM _ _ _ f w2 Ext _;exact kZ (P:=prog) _ _ (w.heap.size+1) _ _ _ rfl rfl rfl (B2.ext hE) underlying35 rfl kr rfl
     .intro f w2 hG hp hl;have hE:Ext wz w2:=hG;have hS:=hE.size;have s:=tE hp 0 2 rfl rfl rfl;have u:=tE hp 1 3 rfl rfl rfl;change kM _ _ _ f w2 Ext _;refine oC #[f 2,f 3] func208 rfl rfl ?_;rw[s,u];refine(zB _ _ ((sgn true (n / y) - 1)) (y:Int) _ ((Hq.isZ lq).ext hE) (N.ext (E.trans hE)) (by rw[O];omega)).mono ?_;exact EL7
     .intro f w2 hG hp hl;have hE:Ext wz w2:=hG;have hS:=hE.size;have v:=tE hp 0 1 rfl rfl rfl;have A:=kO hp 1 4 rfl rfl (λ_=>hE);change kM _ _ _ f w2 Ext _;refine oC #[f 1,f 4] func209 rfl rfl ?_;rw[v];refine(zC _ _ x ((sgn true (n / y) - 1)*(y:Int)) _ (K.out.ext (E.trans hE)) (A.isZ (by have:=pQ ((sgn true (n / y) - 1)) (y:Int);rw[mR];omega)) om (by have:=pQ ((sgn true (n / y) - 1)) (y:Int);omega)).mono ?_;exact EL7
     .exact PH9
     .intro f w2 hG hp hl;have hS:wz.heap.size<=w2.heap.size:=hG.2.2.2.1;have q50:=kO hp 0 5 rfl rfl (λ_=>by contradiction);intro hg0;change kM _ _ _ f w2 (Chg _) _;obtain⟨s',hv,hn⟩:=q50;exact mN (P:=prog) _ _ _ (w.heap.size+3) _ _ _ (lJ _:PP _).p rfl rfl rfl hv (show Bx 35 w2 _ _ from hg0.trans B4) kr rfl (xZ rfl hn.oneCell) (λw' h=>⟨s',rfl,hn.chg h om⟩)
     .intro f w2 hG hp hl;have hS:wz.heap.size<=w2.heap.size:=hG.2.2.2.1;exact DG6
    .intro f w2 hG hp;obtain⟨R,hbx0,l⟩:∃a,Bx 35 w2 (w.heap.size+2) a/\(kL (.agg #[.bool (decide ((sgn true (n / y) - 1)<0)),I]):PP wz).p (.agg a) w2:=sP hp 6 de;obtain⟨a4,hbx1,d⟩:∃a,Bx 35 w2 (w.heap.size+3) a/\(lJ (x - (sgn true (n / y) - 1)*(y:Int)):PP wz).p (.agg a) w2:=sP hp 7 de;have q6:f 8=(0:Int):=rM hp 8 de rfl (λh=>by cases h);clear hp;have hz2:=d.mono (show w.heap.size<=_ by omega);obtain⟨s',hv,hn⟩:=d
     cases hv
     cases l
     go_wp2;have hm:x % (y:Int)=x - (sgn true (n / y) - 1)*(y:Int):=by rw[Int.emod_def,hx0,kF]
     exact tk5
def IsQ(w:World)(v:Value)(n:Int)(d:Nat):Prop:=∃b s t m d0,v= .agg #[.bool b,s,t]/\IsN .u64 W w s m/\n=sgn b m/\IsN .u64 W w t d0/\d=if d0=0 then 1 else d0
def IsR(w:World)(v:Value)(q:Rat)(k:Nat):Prop:=∃n d,IsQ w v n d/\q=mkRat n d/\szZ n<=k/\sz W d<=k
def FrQ(B0:Nat)(w:World)(v:Value)(q:Rat):Prop:=∃s t,v= .agg #[.bool (decide (q.num<0)),s,t]/\FrN 165 .u64 W B0 w s q.num.natAbs/\FrN 165 .u64 W B0 w t q.den
def szQ(q:Rat):Nat:=max (szZ q.num) (sz W q.den)
theorem IsQ.ext{w a:World}{b:Value}{n:Int}{c:Nat}(f:IsQ w b n c)(d:Ext w a):IsQ a b n c:=by
 obtain⟨h,j,t,l,d0,m,o,p,q,r⟩:=f;exact⟨h,j,t,l,d0,m,o.ext d,p,q.ext d,r⟩
theorem IsQ.pos{w:World}{n:Int}(a:IsQ w j n d):0<d:=by
 obtain⟨_,_,t,_,d0,_,_,_,_,b⟩:=a;rw[b];split<;>omega
theorem IsR.ext{w a:World}{b:Value}{c:Rat}{k:Nat}(d:IsR w b c k)(f:Ext w a):IsR a b c k:=by
 obtain⟨n,h,j,l⟩:=d;exact⟨n,h,j.ext f,l⟩
theorem IsR.mono{w:World}{k:Nat}(b:IsR w j r k)(h:k<=a):IsR w j r a:=by
 obtain⟨n,c,d,f,_,_⟩:=b;exact⟨n,c,d,f,om,om⟩
theorem FrQ.ext{w:World}(h:FrQ a w j r)(he:Ext w l):FrQ a l j r:=by
 exact QA3
theorem FrQ.chg{g:Nat}{w:World}(h:FrQ a w j r)(he:Chg g w l)(hg:g<a):FrQ a l j r:=by
 exact Bj4
theorem FrQ.mono{w:World}(h:FrQ a w j r)(hB:c<=a):FrQ c w j r:=by
 exact xT3
theorem FrQ.isQ{w:World}(c:FrQ a w j r)(hs:szQ r<=LIM):IsQ w j r.num r.den:=by
 obtain⟨d,t,f,h,l⟩:=c;have b:=fH.1 hs;exact⟨_,d,t,_,r.den,f,h.isC.isN lF b.1,(uJ _).symm,l.isC.isN lF b.2,by rw[if_neg r.den_nz]⟩
theorem FrQ.isR{w:World}(d:FrQ a w j r){k:Nat}(b:szQ r<=k)(hs:k<=LIM):IsR w j r k:=by
 have c:=fH.1 b;exact⟨r.num,r.den,d.isQ (aE b hs),(eW r).symm,c.1,c.2⟩
def nC{S:Nat}(q:Rat):PP S:=⟨false,λu w=>FrQ S w u q,λ_ _ _ h hp=>hp.ext h,λ_ _ hg _ _ _ h hp=>hp.chg h hg⟩
def lV{S:Nat}(q:Rat)(k:Nat):PP S:=⟨false,λu w=>FrQ S w u q/\szQ q<=k,λ_ _ _ h hp=>⟨hp.1.ext h,hp.2⟩,λ_ _ hg _ _ _ h hp=>⟨hp.1.chg h hg,hp.2⟩⟩
theorem xS(n:Int)(a:Nat)(b:0<a):szZ (mkRat n a).num<=szZ n/\sz W (mkRat n a).den<=sz W a:=by
 rw[jU,jT,if_neg om,if_neg om];constructor
 .unfold szZ;refine sN ?_;exact gQ _ _
 .exact sN (fR _ _)
theorem IsR.sz{w:World}{k:Nat}(a:IsR w j r k):szQ r<=k:=by
 obtain⟨n,b,c,rfl,_,_⟩:=a;have:=xS n b c.pos;exact fH.2 ⟨om,om⟩
theorem MX(b:Bool)(n a:Nat)(c:0<a):(mkRat (sgn b n) a).num=sgn b (n / Nat.gcd n a)/\(mkRat (sgn b n) a).den=a / Nat.gcd n a:=by
 rw[jU,jT,if_neg om,if_neg om,n8,iY a n];refine⟨?_,rfl⟩
 cases b
 .simp[sgn]
 .simp only[sgn,if_true];rw[Int.neg_ediv_of_dvd (Int.natCast_dvd_natCast.2 (iU n a))];simp
theorem H9(n:Int)(a:Nat)(c:0<a):(mkRat n a).num.sign=n.sign:=by
 have b:=MX (decide (n<0)) n.natAbs a c;rw[uJ]at b;rw[b.1];have d:n=sgn (decide (n<0)) n.natAbs:=(uJ n).symm;rw[d,IN,IN,n8];have hg:0<Nat.gcd n.natAbs a:=iR _ c;have:n.natAbs / Nat.gcd n.natAbs a=0↔n.natAbs=0:=by
  rw[Nat.div_eq_zero_iff];constructor
  .rintro(b |b)
   .omega
   .by_cases f:n.natAbs=0
    .exact f
    .have:=iS om (iU n.natAbs a);omega
  .intro b;exact .inr om
 simp[this,yR,uJ]
theorem EN(n:Int)(a:Nat)(b:0<a):(mkRat n a).floor=n / (a:Int):=by
 rw[Rat.floor_def,jU,jT,if_neg om,if_neg om];have hg:0<Nat.gcd a n.natAbs:=Nat.gcd_pos_of_pos_left _ b;have c:(Nat.gcd a n.natAbs:Int) ∣ n:=Int.ofNat_dvd_left.2 (kH _ _);have d:Nat.gcd a n.natAbs ∣ a:=iU _ _;generalize Nat.gcd a n.natAbs=g at*;obtain⟨_,rfl⟩:=c;obtain⟨_,rfl⟩:=d;rw[Int.mul_ediv_cancel_left _ om,Nat.mul_div_cancel_left _ hg,cL,Int.mul_ediv_mul_of_pos _ _ om]
theorem TX(w:World)(k:IntKind)(a:Nat)(e:TypeId):FrL e k w (w.alloc (.cells #[.int k (a:Int)] e)) (.slice w 1 1) [a]:=
 ⟨_,1,rfl,lr,om,.inr ⟨w.heap.size,_,rfl,lr,heap_alloc_new w _,rfl,rfl⟩⟩
theorem L7(w:World):Calls prog 139 #[] w λe a=>∃b,e= .returned b/\FrN 165 .u64 W w a b 1/\Ext w a:=by
 go_enter func139,ntmps139;go_wp2;go_ret;refine⟨_,rfl,?_,(Ext.refl w).alloc _⟩;unfold FrN;rw[O3 lF om (by rw[lX];omega)];exact TX w .u64 1 _
theorem nW(f:Value)(n:Int)(h:Nat)(w:World)(o:IsQ w f n h):
  Calls prog 141 #[f] w λe j=>∃d,e= .returned d/\IsN .u64 W j d h/\Ext w j:=by
 obtain⟨p,q,t,_,d0,rfl,hs,hn,ht,l⟩:=o;go_enter func141,ntmps141;go_wp2_with fail;obtain⟨_,r,a,s,_⟩:=kR w #[p,q,t] 37;rw[<-r];refine(G8 t d0 _ (ht.ext a)).mono ?_;rintro e _ ⟨rfl,b⟩;have hb:=s.ext b;have:=hb.cell 2;have m:= @G7 d0;by_cases c:d0=0
 .have u:G6 d0=0:=m.2 c;go_wp2_with fail;refine(L7 _).mono ?_;rintro e _ ⟨d,rfl,v,x⟩;go_wp2;go_ret;refine⟨_,rfl,?_,(a.trans b).trans x⟩;rw[l,if_pos c];exact v.isC.isN lF (by rw[mR,show sz W 1=1 from rfl];omega)
 .have u:¬G6 d0=0:=λy=>c (m.1 y)
  go_wp2_with fail;go_ret;refine⟨_,rfl,?_,a.trans b⟩;rw[l,if_neg c];exact ht.ext (a.trans b)
theorem yM(o l:Value)(n:Int)(A b:Nat)(w:World)(hv:IsQ w o n A)(B:IsN .u64 W w l b)(m:szZ n+sz W b<=68719476736):
  Calls prog 147 #[o,l] w λe w'=>∃v',e= .returned v'/\FrZ w w' v' (n*b)/\Ext w w':=by
 obtain⟨f,q,t,d,d0,rfl,hs,r,ht,_⟩:=hv;have C:sz W d+sz W b<=68719476736:=by rw[r]at m;unfold szZ at m;rwa [n8]at m
 go_enter func147,ntmps147;go_wp2_with fail;obtain⟨w1,s,e1,b1,b2,_⟩:=lZ w #[f,q,t] #[false,()] 37 35;rw[<-s];clear s;refine wpP [⟨9,(w.heap.size+1),35,lJ (sgn f (d*b))⟩] [(w,0),(w,0),f,(w,0),(w,1),(q),(l),nS 165 .u64 W (d*b),lJ (sgn f (d*b)),kP] [] [9,8,7,6,5,4,3,2,1,0] ?_ ?_ ?_ ?_ ?_
 .exact UZ7
 .exact DL8
 .exact sz1
 .refine⟨oL,oL,?_,oL,oL,?_,oL,?_,?_,?_,trivial⟩
  .intro c w2 hG a j;have hE:Ext w1 w2:=hG;have:=tE a 0 1 rfl rfl rfl;exact mi8
  .intro c w2 hG a j;have hE:Ext w1 w2:=hG;have:=tE a 0 4 rfl rfl rfl;exact Vb6
  .intro c w2 hG a j;have hE:Ext w1 w2:=hG;have hS:=hE.size;have D:=tE a 0 5 rfl rfl rfl;have E:=tE a 1 6 rfl rfl rfl;change kM _ _ _ c w2 Ext _;refine oC #[c 5,c 6] func148 rfl rfl ?_;rw[D,E];refine(AL d b _ _ _ C (hs.ext (e1.trans hE)) (B.ext (e1.trans hE))).mono ?_;exact EL7
  .intro c w2 hG a j;have hE:Ext w1 w2:=hG;have hS:=hE.size;have F:=tE a 0 2 rfl rfl rfl;have H:=kO a 1 7 rfl rfl (λ_=>hE);change kM _ _ _ c w2 Ext _;refine oC #[c 2,c 7] func138 rfl rfl ?_;rw[F];refine(oM _ _ _ _ (H.isC.isN lF (aE (IQ d b) lq))).mono ?_;exact EL7
  .intro c w2 hG a j;have hE:Ext w1 w2:=hG;have hS:=hE.size;have I:=kO a 0 8 rfl rfl (λ_=>hE);intro hg0;change kM _ _ _ c w2 (Chg _) _;obtain⟨s',hv,hn⟩:=I;exact ut2
 .intro c w2 hG a;obtain⟨_,J,u⟩:∃v,Bx 35 w2 (w.heap.size+1) v/\(lJ (sgn f (d*b)):PP w1).p (.agg v) w2:=sP a 9 de;clear a;have hz1:=u.mono (show w.heap.size<=_ by omega);obtain⟨s',hv,hn⟩:=u
  cases hv
  go_wp2;refine l8 4 35 (w.heap.size+1) 35 _ _ kr rfl J underlying35 rfl kr rfl ?_;rw[show n*(b:Int)=sgn f (d*b)by rw[r];cases f<;>simp [sgn,Int.neg_mul]]
  exact Ku6
theorem uW(u v:Value)(z:Int)(a:Nat)(w:World)(N:IsZ w u z)(x:IsN .u64 W w v a)(l:0<a)(m:szZ z<=68719476736)(y:sz W a<=68719476736):
  Calls prog 140 #[u,v] w λe A=>∃B,e= .returned B/\FrQ w A B (mkRat z a)/\Ext w A:=by
 obtain⟨c,O,n,rfl,hs,hz⟩:=N;have C:sz W n<=68719476736:=by rw[hz]at m;unfold szZ at m;rwa [n8]at m
 have o:=MX c n a l;rw[<-hz]at o;have p:=a8 o;clear hz o;go_enter func140,ntmps140;go_wp2_with fail;obtain⟨_,D,f,E,Q,_⟩:=lZ w #[c,O] #[false,(),()] 35 37;rw[<-D];clear D;refine(VH _ _ n a _ (hs.ext f) (x.ext f) C y).mono ?_;rintro e _ ⟨_,rfl,hg,b⟩;have F:0<Nat.gcd n a:=iR _ l;have q:=hg.isC.isN lF (aE (sN (iS l (kH n a))) lq);have H:=(E.ext b).cell 1;go_wp2_with fail;refine(uU _ _ n (Nat.gcd n a) _ (hs.ext (f.trans b)) q F C).mono ?_;rintro e _ ⟨_,_,rfl,R,_,d⟩;go_wp2_with fail;refine(uU _ _ a (Nat.gcd n a) _ (x.ext ((f.trans b).trans d)) (q.ext d) F y).mono ?_;rintro e _ ⟨_,_,rfl,r,_,h⟩;have I:=(((E.ext b).ext d).ext h).cell 0;go_wp2_with fail;refine(oM c _ (n / Nat.gcd n a) _ ((R.ext h).isC.isN lF (aE (sN (fR n _)) lq))).mono ?_;rintro e S ⟨_,rfl,hz,j⟩;obtain⟨_,rfl,hn⟩:=hz;obtain⟨J,K,rfl⟩:=hn.slice;obtain⟨L,M,rfl⟩:=r.slice;have T:=a8 hn;have U:=a8 (r.ext j);have hb:=(((Q.ext b).ext d).ext h).ext j;clear hn r I H q;have:=b.size;have:=d.size;have:=h.size;have:=j.size;obtain⟨I,H,_,-⟩:=hb.cl [0,1,2];obtain⟨_,_,_,-⟩:=hb.fl [0,1,2];go_wp2;refine l8 4 37 (w.heap.size+1) 37 _ _ kr rfl (((hb.set 0 _).set 1 _).set 2 _) underlying37 rfl kr rfl ?_;have s:=(Chg.trans (Chg.trans (Chg.setCell S (w.heap.size+1) 0 (.bool (decide (sgn c (n / Nat.gcd n a)<0)))) (Chg.setCell _ (w.heap.size+1) 1 (J,sz W (sgn c (n / Nat.gcd n a)).natAbs,K))) (Chg.setCell _ (w.heap.size+1) 2 (L,sz W (a / Nat.gcd n a),M)));refine⟨_,rfl,⟨(J,sz W (sgn c (n / Nat.gcd n a)).natAbs,K),(L,sz W (a / Nat.gcd n a),M),?_,?_,?_⟩,(((((f.trans b).trans d).trans h).trans j).step s om)⟩;rotate_left
 .rw[p.out.1];exact(T.out.chg s om).mono om
 .rw[p.out.2];exact(U.out.chg s om).mono om
 .rw[p.out.1];rfl
def zM(cs:Array Value):Prop:=∀v∈cs.toList,∀k z,v≠ .int k z
def J8(S:Nat)(w1 w2:World):Prop:=∃g t cs cs',S<=g/\t≠165/\t≠3/\zM cs/\Bx t w1 g cs/\Bx t w2 g cs'/\Chg g w1 w2
theorem Rd.schg{k:IntKind}{xs:List Nat}(b:Rd l v (mK k xs))(j:J8 a l x):Rd x v (mK k xs):=by
 obtain⟨g,t,_,_,_,_,_,m,hb,_,o⟩:=j;rcases b with b |⟨c,off,rfl,b⟩
 .exact .inl b
 .by_cases d:c=g
  .subst d
   cases xs with
   |nil=>exact .inl rfl
   |cons f xs=>
    have h:=b 0 (.int k f) rfl;rw[hb.cell]at h;have:=m _ (bU.2 (Array.mem_of_getElem? h)) k f;exact absurd rfl this
  .refine .inr ⟨c,off,rfl,λi p hi=> ?_⟩;have:=b i p hi;rw[<-this];exact eX (w:=l) (o.heap (eJ l ⟨c,off+i,none⟩ this) d)
theorem Own.schg{e:TypeId}{xs:List Value}(h:Own e a l v c xs)(hc:J8 f l x)(he:e=165∨e=3):Own e a x v c xs:=by
 exact Iq4
theorem IsN.schg{f:Nat}{a b:World}{k:IntKind}{c n:Nat}{d:Value}(h:IsN k c a d n)(j:J8 f a b):IsN k c b d n:=by
 obtain⟨xs,⟨l,m,o,p,q,r⟩,s⟩:=h;exact⟨xs,⟨l,m,o,p,q,r.schg j⟩,s⟩
theorem FrN.schg{h:Nat}{a b:World}{e:TypeId}{k:IntKind}{c d n:Nat}{f:Value}(j:FrN e k c d a f n)(l:J8 h a b)(m:e=165∨e=3):FrN e k c d b f n:=by
 obtain⟨o,p,q,r,s,u⟩:=j;exact⟨o,p,q,r,s,u.schg l m⟩
theorem FrZ.schg{f:Nat}{a b:World}{c:Nat}{d:Value}{z:Int}(h:FrZ c a d z)(j:J8 f a b):FrZ c b d z:=by
 obtain⟨l,m,o⟩:=h;exact⟨l,m,o.schg j (.inl rfl)⟩
structure PA (S:Nat) where
 p:Value->World->Prop
 m:∀v w1 w2,Ext w1 w2->p v w1->p v w2
 m3:∀v w1 w2,J8 S w1 w2->p v w1->p v w2
def PA.val{S:Nat}(v:Value):PA S:=⟨λu _=>u=v,λ_ _ _ _ h=>h,λ_ _ _ _ h=>h⟩
def PA.any{S:Nat}:PA S:=⟨λ_ _=>True,λ_ _ _ _ h=>h,λ_ _ _ _ h=>h⟩
def PA.isN{S:Nat}(n:Nat):PA S:=⟨λu w=>IsN .u64 W w u n,λ_ _ _ h hp=>hp.ext h,λ_ _ _ h hp=>hp.schg h⟩
def PA.frZ{S:Nat}(z:Int):PA S:=⟨λu w=>FrZ S w u z,λ_ _ _ h hp=>hp.ext h,λ_ _ _ h hp=>hp.schg h⟩
structure Al where
 a:Nat
 t:TypeId
 n:Nat
 z:Array Value
structure Sa (S:Nat) where
 s:Nat
 x:Al
 F:PA S
def AS:List Al->Nat->Option Al
 | [],_=>none
 |x::l,k=>if k=x.a then some x else AS l k
def FC{S:Nat}:List (Sa S)->Nat->Option (Sa S)
 | [],_=>none
 |x::l,k=>if k=x.s then some x else FC l k
variable{O:List Al}
theorem NL{k:Nat}{a:Al}(h:AS O k=some a):a∈O/\a.a=k:=by
 induction O with
 |nil=>cases h
 |cons b O ih=>
  simp only[AS]at h;exact Tw0
theorem PI{b:List (Sa a)}{k:Nat}{c:Sa a}(h:FC b k=some c):c∈b/\c.s=k:=by
 induction b with
 |nil=>cases h
 |cons d b ih=>
  simp only[FC]at h;exact Tw0
structure JA {S:Nat} (als:List Al) (sas:List (Sa S)) (listed:Nat->Bool) (f:Nat->Value) (w:World):Prop where
 made:∀x∈als,listed x.a=true->∃g cs,f x.a= .pointer (some ⟨g,0,none⟩)/\S<=g/\Bx x.t w g cs/\cs.size=x.n/\zM cs
 apart:∀x∈als,∀y∈als,x.a≠y.a->listed x.a=true->listed y.a=true->f x.a≠f y.a
 put:∀y∈sas,listed y.s=true->listed y.x.a=true/\∃g cs,f y.x.a= .pointer (some ⟨g,0,none⟩)/\Bx y.x.t w g cs/\y.F.p (.agg cs) w
def TY{S:Nat}(als:List Al)(sas:List (Sa S))(L:List (PA S))(j:Nat)(v:Value)(w:World):Prop:=AS als j=none->FC sas j=none->(L.getD j PA.any).p v w
def OweA{S:Nat}(P:Program)(fr:(Nat->Value)->Array Value)(df:List Deferred)(w:World)(als:List Al)(sas:List (Sa S))(L:List (PA S))(k:Nat)(o:Oper):Prop:=
 ∀f w1,Ext w w1->lY (TY als sas L) f w1 o.after.toList->
  match AS als k with
  |some x=>kM P o ⟨fr f,df⟩ f w1 (λa b=>b=a.alloc (.cells x.z x.t)) (λv _=>v= .pointer w1.heap.size)
  |none=>match FC sas k with
   |some y=>∀g old,f y.x.a= .pointer (some ⟨g,0,none⟩)->S<=g->Bx y.x.t w1 g old->old.size=y.x.n->zM old->
     kM P o ⟨fr f,df⟩ f w1 (Chg g) (λ_ w2=>∃cs,Bx y.x.t w2 g cs/\cs.size=y.x.n/\zM cs/\y.F.p (.agg cs) w2)
   |none=>kM P o ⟨fr f,df⟩ f w1 Ext (L.getD k PA.any).p
def WO{S:Nat}(P:Program)(fr:(Nat->Value)->Array Value)(df:List Deferred)(w:World)(als:List Al)(sas:List (Sa S))(L:List (PA S)):List Oper->Nat->Prop
 | [],_=>True
 |o::l,k=>OweA P fr df w als sas L k o/\WO P fr df w als sas L l (k+1)
theorem OS{c:Nat}{P:Program}{d:(Nat->Value)->Array Value}{f:List Deferred}{w:World}{j:List Al}{l:List (Sa c)}{m:List (PA c)}:
  ∀(b:List Oper) (k:Nat),WO P d f w j l m b k->∀i a,b[i]? =some a->OweA P d f w j l m (k+i) a
 | [],_,_,i,a,h=>by simp at h
 |x::b,k,hs,i,a,h=>by
  cases i with
  |zero=>
   simp only[bL,Option.some.injEq]at h;subst h;exact hs.1
  |succ i=>
   have:=OS b (k+1) hs.2 i a (by simpa using h)
   rwa [show k+1+i=k+(i+1)by omega]at this
theorem kM.mono2{P:Program}{w:World}{R d:World->World->Prop}{p b:Value->World->Prop}(f:∀c a,R w a->p c a->d w a/\b c a)(hu:p undef w->b undef w)(h:kM P E C D w R p):kM P E C D w d b:=by
 have key:∀{j:Exit->Act->World->Prop},E.wp P C w (FT C E.dst w R p) j->E.wp P C w (FT C E.dst w d b) j:=λh=>Oper.wp_mono (λ_ a ⟨c,o,l,m⟩=>⟨c,o,(f _ _ l m).1,(f _ _ l m).2⟩) h
 exact WY2
theorem zI{d:List (Sa a)}{f:List (PA a)}{c:List Edge}(h:lY (TY O d f) D l c)(n b:Nat)
  (j:(match c[n]? with |some e=>Region.binds .any e&&e.on==b |none=>false)=true) (m:AS O b=none) (hs:FC d b=none):(f.getD b PA.any).p (D b) l:=
 qH c n b j h m hs
theorem K5{P:Program}{id:Nat}{A:List Oper}{w:World}
  (j:List Al) (l:List (Sa w)) (X:List (PA w))
  (bO:P.follows .mixedOrders=true) (b9:(oQ A.toArray K.size&&l.all λa=>wD A.toArray [a.s] [a.x.a]&&a.s !=a.x.a)=true)
  (bA:∀p,mJ A.toArray K p=N p)
  (Y:∀c∈j,AS j c.a=some c/\FC l c.a=none/\c.t≠165/\c.t≠3/\c.z.size=c.n/\zM c.z)
  (Q:∀a∈l,FC l a.s=some a/\AS j a.s=none/\a.x∈j) (bP:∀a∈l,∀z∈l,a.s≠z.s->a.x.a≠z.x.a)
  (bR:WO P N M w j l X A 0)
  (bS:∀p b,Ext w b->n5 (TY j l X) p b A.length 0->
   (∀c∈j,c.a<A.length->∃g f,p c.a= .pointer (some ⟨g,0,none⟩)/\w.heap.size<=g/\Bx c.t b g f/\f.size=c.n/\∀a∈l,a.s<A.length->a.x.a=c.a->a.x.t=c.t->a.F.p (.agg f) b)->H .normal ⟨N p,M⟩ b):
  (Code.region id A.toArray true).wp P H ⟨K,M⟩ w:=by
 simp only[aU]at b9;obtain⟨bT,c0⟩:=b9;let F:Nat->World->World->Prop:=λi b I=>if (AS j i).isSome=true∨(FC l i).isSome=false then Ext b I else J8 w b I
 have c1:∀{b I:World},Ext w b->J8 w b I->Ext w I:=by
  rintro b I d ⟨g,t,f,B,hg,_,_,_,_,_,R⟩;exact d.step R hg
 refine nN (D:=JA j l) (G:=Ext) (G0:=λ_ _ _=>True) (R:=F) (post:=TY j l X) bO bT ?_ (Ext.refl w).drew (λ_=>trivial) ?_ (λ_ _ _ _ _ _ _=>trivial) ?_ ?_ ?_
 .intro p;exact⟨λc Z d=>(by cases d),λc Z a U hne d=>(by cases d),λa U d=>(by cases d)⟩
 .intro i b I J C;by_cases a0:(AS j i).isSome=true∨(FC l i).isSome=false
  .simp only[F,a0,if_true]at C;exact J.trans C
  .simp only[F,a0,if_false]at C;exact c1 J C
 .intro i m u b I _ J C V r hs;by_cases a0:(AS j m).isSome=true∨(FC l m).isSome=false
  .simp only[F,a0,if_true]at C;exact(X.getD i PA.any).m _ _ _ C (V r hs)
  .simp only[F,a0,if_false]at C;exact(X.getD i PA.any).m3 _ _ _ C (V r hs)
 .intro i c2 c3 a1 p b c4 c5 hD J _ V _;have b3:=OS A 0 bR i c2 (by simpa using c3);rw[aY]at b3;rw[bA];have hg:=b3 p b J (rO _ λe a9 hb=>V e (bU.1 a9) hb);clear b3
  cases r:AS j i with
  |some c=>
   simp only[r]at hg;have c6:=(NL r).1;have c7:=(NL r).2;have S:=Y c c6;refine kM.mono2 ?_ (λd=>by cases d) hg;rintro u o rfl rfl;have v:Ext b (b.alloc (.cells c.z c.t)):=(Ext.refl b).alloc _;refine⟨by simp only[F,r,Option.isSome_some,true_or,if_true];exact v,λd=>by simp[r]at d,?_,?_,?_⟩
   .intro x' hx' D;by_cases hi:x'.a=i
    .have:x'=c:=by
      have h:=(Y x' hx').1;rw[hi,r]at h;exact(Option.some.inj h).symm
     subst this;exact⟨b.heap.size,x'.z,by simp[hi],J.size,Bx.new b x'.t x'.z,S.2.2.2.2.1,S.2.2.2.2.2⟩
    .simp only[hi,if_false]at D ⊢;obtain⟨g,f,h,q,L,b0⟩:=hD.made x' hx' D;exact⟨g,f,h,q,L.ext v,b0⟩
   .intro x' hx' y' hy' hne hlx hly;have a2:∀z∈j,z.a≠i->a1 z.a=true->p z.a≠ .pointer b.heap.size:=by
     intro z hz a3 T d;obtain⟨g,f,h,q,L,b0⟩:=hD.made z hz T;rw[h]at d;have:=L.lt;simp only[Value.pointer.injEq,Option.some.injEq,Addr.mk.injEq,and_true]at d;omega
    by_cases h:x'.a=i
    .have q:y'.a≠i:=om;simp only[h,q,if_true,if_false]at hlx hly ⊢;exactλd=>a2 y' hy' q hly d.symm
    .by_cases q:y'.a=i
     .simp only[h,q,if_true,if_false]at hlx hly ⊢;exact a2 x' hx' h hlx
     .simp only[h,q,if_false]at hlx hly ⊢;exact hD.apart x' hx' y' hy' hne hlx hly
   .intro a U hly;have c8:a.s≠i:=by
     intro e;have:=(Q a U).1;rw[e,<-c7,S.2.1]at this
     cases this
    simp only[c8,if_false]at hly ⊢;obtain⟨O,g,f,h,q,L⟩:=hD.put a U hly;have c9:a.x.a≠i:=by intro e;rw[e,c4]at O;cases O
    simp only[c9,if_false];exact⟨O,g,f,h,q.ext v,a.F.m _ _ _ v L⟩
  |none=>
   have nota:∀c∈j,c.a≠i:=by
    intro c Z e;have:=(Y c Z).1;rw[e,r]at this
    cases this
   simp only[r]at hg
   cases hs:FC l i with
   |some a=>
    simp only[hs]at hg;have b4:=(PI hs).1;have b5:=(PI hs).2;have a4:=Q a b4;have bB:=cA.1 c0 a b4;simp only[aU]at bB;have O:a1 a.x.a=true:=by
     refine c5 a.x.a (wW _ [a.s] (λm b6=> ?_) bB.1 _ (aC.2 rfl)) (nota a.x a4.2.2);have:m=a.s:=by simpa using b6
     rw[this,b5];exact .self
    obtain⟨g,a2,h,q,L,b0,bC⟩:=hD.made a.x a4.2.2 O;have S:=Y a.x a4.2.2;have a5:∀(u:Value) (o:World),Chg g b o->(∃f,Bx a.x.t o g f/\f.size=a.x.n/\zM f/\a.F.p (.agg f) o)->J8 w b o/\JA j l (λm=>if m=i then true else a1 m) (λm=>if m=i then u else p m) o:=by
     rintro u o R ⟨f,b7,e0,e1,e2⟩;have bD:J8 w b o:=⟨g,a.x.t,a2,f,q,S.2.2.1,S.2.2.2.1,bC,L,b7,R⟩;refine⟨bD,?_,?_,?_⟩
     .intro x' hx' D;simp only[nota x' hx',if_false]at D ⊢;obtain⟨y,B,s,E,x,a6⟩:=hD.made x' hx' D;by_cases a9:x'.a=a.x.a
      .have:x'=a.x:=by
        have a7:=(Y x' hx').1;rw[a9,S.1]at a7;exact(Option.some.inj a7).symm
       subst this;exact⟨g,f,h,q,b7,e0,e1⟩
      .have hne:=hD.apart x' hx' a.x a4.2.2 a9 D O;have:y≠g:=by
        rintro rfl;exact hne (by rw[s,h])
       exact⟨y,B,s,E,x.chg R this,a6⟩
     .exact pI7
     .intro z hz T;simp only[nota z.x (Q z hz).2.2,if_false];by_cases a3:z.s=i
      .have:z=a:=by
        have a7:=(Q z hz).1;rw[a3,hs]at a7;exact(Option.some.inj a7).symm
       subst this;exact⟨O,g,f,h,b7,e2⟩
      .simp only[a3,if_false]at T;obtain⟨b1,y,B,s,E,x⟩:=hD.put z hz T;have hne:=hD.apart z.x (Q z hz).2.2 a.x a4.2.2 (bP z hz a b4 om) b1 O;have:y≠g:=by
        rintro rfl;exact hne (by rw[s,h])
       exact⟨b1,y,B,s,E.chg R this,z.F.m3 _ _ _ bD x⟩
    refine kM.mono2 (λu o R e3=> ?_) (λd=>⟨λ_ d=>by simp[hs]at d,(a5 undef b (Chg.refl g b) d).2⟩) (hg g a2 h q L b0 bC);have bE:=a5 u o R e3;exact⟨by simp only[F,r,hs,Option.isSome_none,Option.isSome_some,eP,false_or,reduceCtorEq,if_false];exact bE.1,λ_ d=>by simp[hs]at d,bE.2⟩
   |none=>
    simp only[hs]at hg;have a5:∀u o,Ext b o->JA j l (λm=>if m=i then true else a1 m) (λm=>if m=i then u else p m) o:=by
     intro u o v;refine⟨?_,?_,?_⟩
     .intro x' hx' D;simp only[nota x' hx',if_false]at D ⊢;obtain⟨y,B,s,E,x,a6⟩:=hD.made x' hx' D;exact⟨y,B,s,E,x.ext v,a6⟩
     .exact pI7
     .intro z hz T;simp only[nota z.x (Q z hz).2.2,if_false];have a3:z.s≠i:=by
       intro e;have:=(Q z hz).1;rw[e,hs]at this
       cases this
      simp only[a3,if_false]at T;obtain⟨b1,y,B,s,E,x⟩:=hD.put z hz T;exact⟨b1,y,B,s,E.ext v,z.F.m _ _ _ v x⟩
    refine kM.mono2 (λu o v e4=>⟨by simp only[F,r,hs,Option.isSome_none,or_true,if_true];exact v,λ_ _=>e4,a5 u o v⟩) (λd=>⟨λ_ _=>d,a5 undef b (Ext.refl b)⟩) hg
 .intro p b J V b6;obtain⟨a1,bG,hD⟩:=b6;rw[bA];refine bS p b J (pY _ _ λi _ hi=>V i (by simpa using hi)) λc Z e5=> ?_
  obtain⟨g,f,s,E,x,a6,_⟩:=hD.made c Z (bG _ (by simpa using e5));refine⟨g,f,s,E,x,a6,λa U b5 e6 e7=> ?_⟩;obtain⟨_,y,B,b8,b2,e8⟩:=hD.put a U (bG _ (by simpa using b5));rw[e6,s]at b8;simp only[Value.pointer.injEq,Option.some.injEq,Addr.mk.injEq,and_true]at b8;subst b8;unfold Bx at b2 x;rw[e7,x]at b2;simp only[Option.some.injEq,Obj.cells.injEq,and_true]at b2;subst b2;exact e8
theorem FrZ.parts{w:World}{z:Int}(d:FrZ a w j z):∃b,j= .agg b/\b.size=2/\b.all (·.oneCell')=true/\zM b:=by
 obtain⟨_,rfl,hn⟩:=d;obtain⟨_,_,rfl⟩:=hn.slice;exact⟨_,rfl,rfl,xZ rfl rfl,by intro j c k z;simp at c;rcases c with rfl |rfl<;>simp⟩
theorem XY(b:Bool)(c:Option Addr)(n d:Nat):zM #[b,(c,n,d)]:=by intro _ a k z;simp at a;rcases a with rfl |rfl<;>simp
theorem KZ{P:Program}{w:World}(f:PA a)(n:Nat)(ty:TypeId)(h j:Operand)(g:Nat)(t:TypeId)(c b:Array Value)(m:E.guard=none)(o:E.op= .store ty h j)(p:C.eval h= .pointer g)(q:C.eval j= .agg b)
  (hg:Bx t w g c) (hi:(P.info? ty).map (·.size)=some b.size) (B:c.size=n) (hn:b.size=n) (r:b.all (·.oneCell')=true) (s:a<=g) (u:t≠165) (v:t≠3) (x:zM c) (y:zM b) (A:f.p (.agg b) w):
  kM P E C D w (Chg g) (λ_ l=>∃d,Bx t l g d/\d.size=n/\zM d/\f.p (.agg d) l):=by
 unfold kM;rw[m];refine wp_store_row ty h j o g b p q t c hg hi om r ⟨_,rfl,Chg.setRow w g b,b,hg.setRow b,hn,y,?_⟩;exact f.m3 _ _ _ ⟨g,t,c,b,s,u,v,x,hg,hg.setRow b,Chg.setRow w g b⟩ A
theorem I4{P:Program}{w:World}(t:TypeId)(z:Array Value)(a:Value)(b:E.guard=none)(c:E.op= .alloc t)(hz:((P.info? t).bind (·.zero))=some a)(hzc:a.cells=z):
  kM P E C D w (λC d=>d=C.alloc (.cells z t)) (λf _=>f= .pointer w):=by
 unfold kM;rw[b];subst hzc
 cases hi:P.info? t with
 |none=>rw [hi]at hz;cases hz
 |some i=>
  rw[hi]at hz;have h:i.zero=some a:=hz;unfold Oper.wp execOp;simp[c,Instr.alloc,zeroValue,typeInfo,hi,h,newVar,newRow,run_newObj_alloc];exact⟨_,rfl,rfl,rfl⟩
theorem MH(b c:Bool)(n a:Nat)(d:0<a):mkRat (sgn (b !=c) n) a=Rat.divInt (sgn b n) (sgn c a):=by
 cases c
 .have e:sgn false a=(a:Int):=rfl;rw[e,iV];congr 1
  cases b<;>rfl
 .have e:sgn true a= -(a:Int):=rfl;rw[e,Rat.divInt_neg',iV];congr 1
  cases b<;>simp [sgn]
def Z1:Value:= .agg #[false,(),()]
theorem pL(d:Value)(x:Rat)(k:Nat)(w:World)(hv:IsR w d x k)(D:k<=68719476736):
  Calls prog 90 #[d] w λe w'=>∃v',e= .returned v'/\FrQ w w' v' x/\Ext w w':=by
 obtain⟨nx,dx,c,rfl,_,_⟩:=hv;have q:=c.pos;have Qx:=a8 c;obtain⟨a,b,j,_,_,rfl,r,l,_,s⟩:=c;have u:=a8 (show IsZ w (.agg #[a,b]) nx from⟨_,_,_,rfl,r,l⟩);clear l s;go_enter func90,ntmps90;go_wp2_with fail;obtain⟨w1,m,e1,b1,b2,_⟩:=lZ w #[a,b,j] #[false,(),()] 37 37;rw[<-m];clear m;refine wpP [⟨5,(w.heap.size+1),37,nC (mkRat nx dx)⟩] [(w,0),kL (.agg #[a,b]),kL (.agg #[a,b,j]),uA .u64 W dx,nC (mkRat nx dx),kP] [] [5,4,3,2,1,0] ?_ ?_ ?_ ?_ ?_
 .exact UZ7
 .exact DL8
 .exact sz1
 .refine⟨oL,?_,?_,?_,?_,?_,trivial⟩
  .exact uW4
  .exact FP4
  .intro f w2 hG hp hl;have hE:Ext w1 w2:=hG;have v:=tE hp 0 2 rfl rfl rfl;change kM _ _ _ f w2 Ext _;refine oC #[f 2] func141 rfl rfl ?_;rw[v];exact ew4
  .intro f w2 hG hp hl;have hE:Ext w1 w2:=hG;have hS:=hE.size;have A:=tE hp 0 1 rfl rfl rfl;have B:=kO hp 1 3 rfl rfl (λ_=>hE);change kM _ _ _ f w2 Ext _;refine oC #[f 1,f 3] func140 rfl rfl ?_;rw[A];refine(uW _ _ nx dx _ (u.out.ext (e1.trans hE)) B q om om).mono ?_;exact EL7
  .intro f w2 hG hp hl;have hE:Ext w1 w2:=hG;have hS:=hE.size;have C:=kO hp 0 4 rfl rfl (λ_=>hE);intro hg0;change kM _ _ _ f w2 (Chg _) _;obtain⟨s',t',hv,hn,hm⟩:=C;exact jj3
 .intro f w2 hG hp;obtain⟨_,hbx0,hz0⟩:∃o,Bx 37 w2 (w.heap.size+1) o/\(nC (mkRat nx dx):PP w1).p (.agg o) w2:=sP hp 5 de;exact XL2
theorem IG(d:Value)(x:Rat)(k:Nat)(w:World)(hv:IsR w d x k)(I:k<=68719476736):
  Calls prog 155 #[d] w λe w'=>∃v',e= .returned v'/\FrQ w w' v' (-x)/\Ext w w':=by
 obtain⟨nx,dx,c,rfl,_,_⟩:=hv;have r:=c.pos;have Qx:=a8 c;obtain⟨a,b,j,_,_,rfl,s,l,_,u⟩:=c;have v:=a8 (show IsZ w (.agg #[a,b]) nx from⟨_,_,_,rfl,s,l⟩);clear l u;go_enter func155,ntmps155;go_wp2_with fail;obtain⟨w1,m,e1,b1,b2,_⟩:=lZ w #[a,b,j] #[false,(),()] 37 37;rw[<-m];clear m;refine wpP [⟨6,(w.heap.size+1),37,nC (mkRat (-nx) dx)⟩] [(w,0),kL (.agg #[a,b]),lJ (-nx),kL (.agg #[a,b,j]),uA .u64 W dx,nC (mkRat (-nx) dx),kP] [] [6,5,4,3,2,1,0] ?_ ?_ ?_ ?_ ?_
 .exact UZ7
 .exact DL8
 .exact sz1
 .refine⟨oL,?_,?_,?_,?_,?_,?_,trivial⟩
  .exact uW4
  .intro f w2 hG hp hl;have hE:Ext w1 w2:=hG;have hS:=hE.size;have A:=tE hp 0 1 rfl rfl rfl;change kM _ _ _ f w2 Ext _;refine oC #[f 1] func154 rfl rfl ?_;rw[A];refine(C3 _ nx _ (v.out.ext (e1.trans hE))).mono ?_;exact EL7
  .exact FP4
  .intro f w2 hG hp hl;have hE:Ext w1 w2:=hG;have B:=tE hp 0 3 rfl rfl rfl;change kM _ _ _ f w2 Ext _;refine oC #[f 3] func141 rfl rfl ?_;rw[B];exact ew4
  .intro f w2 hG hp hl;have hE:Ext w1 w2:=hG;have hS:=hE.size;have C:=kO hp 0 2 rfl rfl (λ_=>hE);have D:=kO hp 1 4 rfl rfl (λ_=>hE);change kM _ _ _ f w2 Ext _;refine oC #[f 2,f 4] func140 rfl rfl ?_;refine(uW _ _ (-nx) dx _ (C.isZ (by rw[yU,mR];omega)) D r (by rw[yU];omega) om).mono ?_;exact EL7
  .intro f w2 hG hp hl;have hE:Ext w1 w2:=hG;have hS:=hE.size;have E:=kO hp 0 5 rfl rfl (λ_=>hE);intro hg0;change kM _ _ _ f w2 (Chg _) _;obtain⟨s',t',hv,hn,hm⟩:=E;exact jj3
 .intro f w2 hG hp;obtain⟨_,F,o⟩:∃q,Bx 37 w2 (w.heap.size+1) q/\(nC (mkRat (-nx) dx):PP w1).p (.agg q) w2:=sP hp 6 de;clear hp;have hz1:=o.mono (show w.heap.size<=_ by omega);obtain⟨s',t',H,_,_⟩:=o
  cases H
  go_wp2;refine l8 2 37 (w.heap.size+1) 37 _ _ kr rfl F underlying37 rfl kr rfl ?_;rw[Rat.neg_mkRat];exact Ku6
theorem wO(b:Value)(c:Rat)(k:Nat)(w:World)(o:IsR w b c k):
  Calls prog 100 #[b] w λe p=>e= .returned c.num.sign/\Ext w p:=by
 obtain⟨a,q,d,rfl,_,_⟩:=o;have r:=d.pos;obtain⟨f,h,s,_,_,rfl,u,j,_,v⟩:=d;have x:=a8 (show IsZ w (.agg #[f,h]) a from⟨_,_,_,rfl,u,j⟩);clear j v;go_enter func100,ntmps100;obtain⟨_,l,m,y,_⟩:=kR w #[f,h,s] 37;obtain⟨A,B,C,-⟩:=y.cl [0,1,2];rw[l]at A B C;go_wp2_with fail;rw[<-l];refine(AC _ a _ (x.out.ext m)).mono ?_;rintro e _ ⟨rfl,D⟩;go_wp2;go_ret;exact⟨by rw[H9 a q r];rfl,m.trans D⟩
def qP(x y:Rat):Int:=if x<y then -1 else if x=y then 0 else 1
theorem WI(n b:Int)(a e:Nat)(c:0<a)(d:0<e):mkRat n a - mkRat b e=mkRat (n*e - b*a) (a*e):=by
 rw[Rat.sub_eq_add_neg,Rat.neg_mkRat,jR _ _ om om,iI,Int.neg_mul]
theorem I0(b a:Rat):(b - a).num.sign=qP b a:=by
 unfold qP;have d:(b - a).num<0↔b<a:=by
  have e:(b - a).num= -(a - b).num:=by rw[<-Rat.neg_sub,Rat.neg_num]
  rw[Rat.lt_iff_sub_pos,e,Rat.lt_iff_le_and_ne,<-Rat.num_nonneg];have h:= @Rat.num_eq_zero (a - b);constructor
  .intro c;exact⟨om,λd=>by have:=h.2 d.symm;omega⟩
  .rintro⟨d,f⟩;have:(a - b).num≠0:=λc=>f (h.1 c).symm
   omega
 have f:(b - a).num=0↔b=a:=by
  rw[iA];constructor
  .intro c;have:=congrArg (· +a) c;simpa[Rat.sub_add_cancel,gF]using this
  .rintro rfl;exact Rat.sub_self
 have:=qM (b - a).num;split
 .rename_i c;have:=d.2 c;omega
 .split
  .rename_i c;have:=f.2 c;omega
  .rename_i j l;have m:=mt d.1 j;have o:=mt f.1 l;omega
theorem KH(n b:Int)(a e:Nat)(c:0<a)(d:0<e):(n*e - b*a).sign=qP (mkRat n a) (mkRat b e):=by
 rw[<-I0,WI n b a e c d,H9 _ _ (dW c d)]
theorem pO(m o:Value)(p q:Rat)(k r:Nat)(w:World)(u:IsR w m p k)(v:IsR w o q r)(K:k+r<=68719476736):
  Calls prog 108 #[m,o] w λe w'=>e= .returned (qP p q:Int)/\Ext w w':=by
 obtain⟨nx,dx,a,rfl,_,_⟩:=u;have x:=a.pos;have Qx:=a8 a;obtain⟨b,c,d,_,_,rfl,_,y,_,A⟩:=a;clear y A;obtain⟨ny,dy,h,rfl,_,_⟩:=v;have B:=h.pos;have Qy:=a8 h;obtain⟨j,l,ty,_,_,rfl,_,C,_,D⟩:=h;clear C D;have:=pQ nx dy;have:=pQ ny dx;have:szZ (dx:Int)=sz W dx:=rfl;have:szZ (dy:Int)=sz W dy:=rfl;go_enter func108,ntmps108;go_wp2_with fail;obtain⟨w1,s,e1,b1,b2,_⟩:=lZ w #[b,c,d] #[j,l,ty] 37 37;rw[<-s];clear s;refine wpQ [kL (.agg #[b,c,d]),kL (.agg #[j,l,ty]),uA .u64 W dy,lJ (nx*dy),kL (.agg #[j,l,ty]),kL (.agg #[b,c,d]),uA .u64 W dx,lJ (ny*dx),kL (.int .i64 (nx*dy - ny*dx).sign),kL (.int .i64 (nx*dy - ny*dx).sign)] [] [0,1,2,3,4,5,6,7,8,9] ?_ ?_
 .refine⟨?_,?_,?_,?_,?_,?_,?_,?_,?_,?_,trivial⟩
  .exact FP4
  .exact EF9
  .exact Hr7
  .exact AE7
  .exact EF9
  .exact FP4
  .exact vh1
  .exact Ef1
  .intro f w2 hG hp hl;have hE:Ext w1 w2:=hG;have hS:=hE.size;have E:=kO hp 0 3 rfl rfl (λ_=>hE);have F:=kO hp 1 7 rfl rfl (λ_=>hE);change kM _ _ _ f w2 Ext _;refine oC #[f 3,f 7] func157 rfl rfl ?_;refine(SQ _ _ (nx*dy) (ny*dx) _ (E.isZ lq) (F.isZ lq)).mono ?_;exact DR3
  .intro f w2 hG hp hl;have H:=tE hp 0 8 rfl rfl rfl;exact⟨_,rfl,rE,H⟩
 .intro f w2 hG hp;have hE:Ext w1 w2:=mV.nil hG;have I:f 9= .int .i64 (nx*dy - ny*dx).sign:=rM hp 9 de rfl (λJ=>by cases J);clear hp;go_wp2;go_ret;exact⟨by rw[I,KH _ _ _ _ x B];rfl,e1.trans hE⟩
theorem rP(q r:Value)(x y:Rat)(k a:Nat)(w:World)(hv:IsR w q x k)(C:IsR w r y a)(U:k+a<=68719476730):
  Calls prog 98 #[q,r] w λe w'=>∃v',e= .returned v'/\FrQ w w' v' (x+y)/\szQ (x+y)<=k+a+1/\Ext w w':=by
 obtain⟨nx,dx,m,rfl,_,_⟩:=hv;have D:=m.pos;have Qx:=a8 m;obtain⟨b,c,d,_,_,rfl,_,E,_,F⟩:=m;clear E F;obtain⟨ny,dy,o,rfl,_,_⟩:=C;have H:=o.pos;have Qy:=a8 o;obtain⟨j,l,ty,_,_,rfl,_,I,_,J⟩:=o;clear I J;have:=pQ nx dy;have:=pQ ny dx;have:szZ (dx:Int)=sz W dx:=rfl;have:szZ (dy:Int)=sz W dy:=rfl;have:=N5 (nx*dy) (ny*dx);have:=IQ dx dy;have s:=dW D H;have u:mkRat nx dx+mkRat ny dy=mkRat (nx*dy+ny*dx) (dx*dy):=jR _ _ om om;have:=xS (nx*dy+ny*dx) (dx*dy) s;have v:szQ (mkRat (nx*dy+ny*dx) (dx*dy))<=k+a+1:=by exact fH.2 ⟨om,om⟩
 have Hsum:=a8 u;have Hsz:=a8 v;clear u v;go_enter func98,ntmps98;go_wp2_with fail;obtain⟨w1,A,e1,b1,b2,b3,_⟩:=qI w #[b,c,d] #[j,l,ty] #[false,(),()] 37 37 37;rw[<-A];clear A;refine wpP [⟨15,(w.heap.size+2),37,nC (mkRat (nx*dy+ny*dx) (dx*dy))⟩] [kL (.agg #[b,c,d]),kL (.agg #[j,l,ty]),uA .u64 W dy,lJ (nx*dy),kL (.agg #[j,l,ty]),kL (.agg #[b,c,d]),uA .u64 W dx,lJ (ny*dx),lJ (nx*dy+ny*dx),kL (.agg #[b,c,d]),uA .u64 W dx,kL (.agg #[j,l,ty]),uA .u64 W dy,nS 165 .u64 W (dx*dy),nC (mkRat (nx*dy+ny*dx) (dx*dy)),kP] [] [15,14,13,12,11,10,9,8,7,6,5,4,3,2,1,0] ?_ ?_ ?_ ?_ ?_
 .exact IP7
 .exact DL8
 .exact sz1
 .refine⟨?_,?_,?_,?_,?_,?_,?_,?_,?_,?_,?_,?_,?_,?_,?_,?_,trivial⟩
  .exact FP4
  .exact EF9
  .exact Hr7
  .exact AE7
  .exact EF9
  .exact FP4
  .exact vh1
  .exact Ef1
  .intro f w2 hG hp hl;have hE:Ext w1 w2:=hG;have hS:=hE.size;have K:=kO hp 0 3 rfl rfl (λ_=>hE);have L:=kO hp 1 7 rfl rfl (λ_=>hE);change kM _ _ _ f w2 Ext _;refine oC #[f 3,f 7] func146 rfl rfl ?_;refine(J5 _ _ (nx*dy) (ny*dx) _ (K.isZ lq) (L.isZ lq) om om).mono ?_;exact EL7
  .exact FP4
  .intro f w2 hG hp hl;have hE:Ext w1 w2:=hG;have M:=tE hp 0 9 rfl rfl rfl;change kM _ _ _ f w2 Ext _;refine oC #[f 9] func141 rfl rfl ?_;rw[M];exact ew4
  .exact EF9
  .intro f w2 hG hp hl;have hE:Ext w1 w2:=hG;have N:=tE hp 0 11 rfl rfl rfl;change kM _ _ _ f w2 Ext _;refine oC #[f 11] func141 rfl rfl ?_;rw[N];exact FN4
  .intro f w2 hG hp hl;have hE:Ext w1 w2:=hG;have hS:=hE.size;have O:=kO hp 0 10 rfl rfl (λ_=>hE);have Q:=kO hp 1 12 rfl rfl (λ_=>hE);change kM _ _ _ f w2 Ext _;refine oC #[f 10,f 12] func148 rfl rfl ?_;refine(AL dx dy _ _ _ om O Q).mono ?_;exact EL7
  .intro f w2 hG hp hl;have hE:Ext w1 w2:=hG;have hS:=hE.size;have R:=kO hp 0 8 rfl rfl (λ_=>hE);have S:=kO hp 1 13 rfl rfl (λ_=>hE);change kM _ _ _ f w2 Ext _;refine oC #[f 8,f 13] func140 rfl rfl ?_;refine(uW _ _ (nx*dy+ny*dx) (dx*dy) _ (R.isZ lq) (S.isC.isN lF lq) s om om).mono ?_;exact EL7
  .intro f w2 hG hp hl;have hE:Ext w1 w2:=hG;have hS:=hE.size;have T:=kO hp 0 14 rfl rfl (λ_=>hE);intro hg0;change kM _ _ _ f w2 (Chg _) _;obtain⟨s',t',hv,hn,hm⟩:=T;exact uN7
 .intro f w2 hG hp;obtain⟨_,hbx0,hz0⟩:∃B,Bx 37 w2 (w.heap.size+2) B/\(nC (mkRat (nx*dy+ny*dx) (dx*dy)):PP w1).p (.agg B) w2:=sP hp 15 de;exact zW3
theorem S5(l m:Value)(x y:Rat)(k a:Nat)(w:World)(c:IsR w l x k)(d:IsR w m y a)(D:k+a<=68719476730):
  Calls prog 210 #[l,m] w λe w'=>∃v',e= .returned v'/\FrQ w w' v' (x - y)/\szQ (x - y)<=k+a+1/\Ext w w':=by
 have E:=a8 c;have F:=a8 d;have H:szQ (-y)<=a:=by
  have:=d.sz;unfold szQ at*;rw[Rat.neg_num,Rat.neg_den,yU];exact this
 obtain⟨_,_,⟨o,p,q,_,_,rfl,_⟩,_⟩:=c;obtain⟨_,_,⟨r,s,ty,_,_,rfl,_⟩,_⟩:=d;go_enter func210,ntmps210;go_wp2_with fail;obtain⟨w1,u,j,b1,b2,I,_⟩:=qI w #[o,p,q] #[r,s,ty] #[false,(),()] 37 37 37;rw[<-u];clear u;refine wpP [⟨4,(w.heap.size+2),37,lV (x+ -y) (k+a+1)⟩] [kL (.agg #[o,p,q]),kL (.agg #[r,s,ty]),nC (-y),lV (x+ -y) (k+a+1),kP] [] [4,3,2,1,0] ?_ ?_ ?_ ?_ ?_
 .exact IP7
 .exact DL8
 .exact sz1
 .refine⟨?_,?_,?_,?_,?_,trivial⟩
  .exact FP4
  .exact EF9
  .intro f w2 hG hp hl;have hE:Ext w1 w2:=hG;have hS:=hE.size;have J:=tE hp 0 1 rfl rfl rfl;change kM _ _ _ f w2 Ext _;refine oC #[f 1] func155 rfl rfl ?_;rw[J];refine(IG _ y a _ (F.out.ext (j.trans hE)) om).mono ?_;exact EL7
  .intro f w2 hG hp hl;have hE:Ext w1 w2:=hG;have hS:=hE.size;have K:=tE hp 0 0 rfl rfl rfl;have L:=kO hp 1 2 rfl rfl (λ_=>hE);change kM _ _ _ f w2 Ext _;refine oC #[f 0,f 2] func98 rfl rfl ?_;rw[K];refine(rP _ _ x (-y) k a _ (E.out.ext (j.trans hE)) (L.isR H lq) D).mono ?_;exact pF5
  .intro f w2 hG hp hl;have hE:Ext w1 w2:=hG;have hS:=hE.size;have M:=kO hp 0 3 rfl rfl (λ_=>hE);intro N;change kM _ _ _ f w2 (Chg _) _;obtain⟨⟨v,A,c,hn,B⟩,O⟩:=M;exact mN (P:=prog) _ _ _ (w.heap.size+2) _ _ _ (lV _ _:PP _).p rfl rfl rfl c (show Bx 37 w2 _ _ from N.trans I) kr rfl (yA rfl hn.oneCell B.oneCell) (λw' h=>⟨⟨v,A,rfl,hn.chg h om,B.chg h om⟩,O⟩)
 .intro f w2 hG hp;obtain⟨_,Q,b⟩:∃C,Bx 37 w2 (w.heap.size+2) C/\(lV (x+ -y) (k+a+1):PP w1).p (.agg C) w2:=sP hp 4 de;clear hp;have R:=b.2;replace b:=b.1;have S:=b.mono (show w.heap.size<=_ by omega);obtain⟨v,A,T,_,_⟩:=b
  cases T
  go_wp2;refine l8 4 37 (w.heap.size+2) 37 _ _ kr rfl Q underlying37 rfl kr rfl ?_;rw[Rat.sub_eq_add_neg];exact⟨_,rfl,S,R,j.stepS hG sm⟩
theorem vQ(o q:Value)(x y:Rat)(k a:Nat)(w:World)(hv:IsR w o x k)(E:IsR w q y a)(Y:k+a<=68719476730):
  Calls prog 152 #[o,q] w λe w'=>∃v',e= .returned v'/\FrQ w w' v' (x*y)/\szQ (x*y)<=k+a/\Ext w w':=by
 obtain⟨nx,dx,l,rfl,_,_⟩:=hv;have F:=l.pos;have Qx:=a8 l;obtain⟨b,c,r,_,_,rfl,H,s,_,I⟩:=l;have J:=a8 (show IsZ w (.agg #[b,c]) nx from⟨_,_,_,rfl,H,s⟩);clear s I;obtain⟨ny,dy,m,rfl,_,_⟩:=E;have K:=m.pos;have Qy:=a8 m;obtain⟨d,j,ty,_,_,rfl,L,u,_,M⟩:=m;have N:=a8 (show IsZ w (.agg #[d,j]) ny from⟨_,_,_,rfl,L,u⟩);clear u M;have:=pQ nx ny;have:=IQ dx dy;have v:=dW F K;have A:mkRat nx dx*mkRat ny dy=mkRat (nx*ny) (dx*dy):=Rat.mkRat_mul_mkRat _ _ _ _;have:=xS (nx*ny) (dx*dy) v;have B:szQ (mkRat (nx*ny) (dx*dy))<=k+a:=by exact fH.2 ⟨om,om⟩
 have Hsum:=a8 A;have Hsz:=a8 B;clear A B;go_enter func152,ntmps152;go_wp2_with fail;obtain⟨w1,C,e1,b1,b2,b3,_⟩:=qI w #[b,c,r] #[d,j,ty] #[false,(),()] 37 37 37;rw[<-C];clear C;refine wpP [⟨11,(w.heap.size+2),37,nC (mkRat (nx*ny) (dx*dy))⟩] [(w,0),kL (.agg #[b,c]),kL ((w.heap.size+1),0),kL (.agg #[d,j]),lJ (nx*ny),kL (.agg #[b,c,r]),uA .u64 W dx,kL (.agg #[d,j,ty]),uA .u64 W dy,nS 165 .u64 W (dx*dy),nC (mkRat (nx*ny) (dx*dy)),kP] [] [11,10,9,8,7,6,5,4,3,2,1,0] ?_ ?_ ?_ ?_ ?_
 .exact IP7
 .exact DL8
 .exact sz1
 .refine⟨oL,?_,oL,?_,?_,?_,?_,?_,?_,?_,?_,?_,trivial⟩
  .exact iH0
  .intro f w2 hG hp hl;have hE:Ext w1 w2:=hG;have:=tE hp 0 2 rfl rfl rfl;have hbx:=b2.ext hE;obtain⟨hcell0,hcell1,hcell2,-⟩:=hbx.cl [0,1,2];exact DG6
  .intro f w2 hG hp hl;have hE:Ext w1 w2:=hG;have hS:=hE.size;have O:=tE hp 0 1 rfl rfl rfl;have Q:=tE hp 1 3 rfl rfl rfl;change kM _ _ _ f w2 Ext _;refine oC #[f 1,f 3] func208 rfl rfl ?_;rw[O,Q];refine(zB _ _ nx ny _ (J.out.ext (e1.trans hE)) (N.out.ext (e1.trans hE)) om).mono ?_;exact EL7
  .exact FP4
  .exact vh1
  .exact EF9
  .intro f w2 hG hp hl;have hE:Ext w1 w2:=hG;have R:=tE hp 0 7 rfl rfl rfl;change kM _ _ _ f w2 Ext _;refine oC #[f 7] func141 rfl rfl ?_;rw[R];exact FN4
  .intro f w2 hG hp hl;have hE:Ext w1 w2:=hG;have hS:=hE.size;have S:=kO hp 0 6 rfl rfl (λ_=>hE);have T:=kO hp 1 8 rfl rfl (λ_=>hE);change kM _ _ _ f w2 Ext _;refine oC #[f 6,f 8] func148 rfl rfl ?_;refine(AL dx dy _ _ _ om S T).mono ?_;exact EL7
  .intro f w2 hG hp hl;have hE:Ext w1 w2:=hG;have hS:=hE.size;have U:=kO hp 0 4 rfl rfl (λ_=>hE);have V:=kO hp 1 9 rfl rfl (λ_=>hE);change kM _ _ _ f w2 Ext _;refine oC #[f 4,f 9] func140 rfl rfl ?_;refine(uW _ _ (nx*ny) (dx*dy) _ (U.isZ lq) (V.isC.isN lF lq) v om om).mono ?_;exact EL7
  .intro f w2 hG hp hl;have hE:Ext w1 w2:=hG;have hS:=hE.size;have X:=kO hp 0 10 rfl rfl (λ_=>hE);intro hg0;change kM _ _ _ f w2 (Chg _) _;obtain⟨s',t',hv,hn,hm⟩:=X;exact uN7
 .intro f w2 hG hp;obtain⟨_,hbx0,hz0⟩:∃D,Bx 37 w2 (w.heap.size+2) D/\(nC (mkRat (nx*ny) (dx*dy)):PP w1).p (.agg D) w2:=sP hp 11 de;exact zW3
theorem V9(n a:Int)(b e:Nat):mkRat n b / mkRat a e=Rat.divInt (n*e) (a*b):=by
 rw[Rat.div_def,<-iV n b,<-iV a e,Rat.inv_divInt,Rat.divInt_mul_divInt,kF (b:Int) a]
def PA.tupZ{S:Nat}(x y:Int):PA S:=⟨λu w=>∃v1 v2,u= .tuple #[v1,v2,(0:Int)]/\FrZ S w v1 x/\FrZ S w v2 y,λ_ _ _ h hp=>(let ⟨v,v2,h1,h2,h3⟩:=hp;⟨v,v2,h1,h2.ext h,h3.ext h⟩),λ_ _ _ h hp=>(let ⟨v,v2,h1,h2,h3⟩:=hp;⟨v,v2,h1,h2.schg h,h3.schg h⟩)⟩
def PA.aggN{S:Nat}(n:Nat):PA S:=⟨λu w=>∃t,u= .agg #[false,t]/\IsN .u64 W w t n,λ_ _ _ h hp=>(let ⟨v,h1,h2⟩:=hp;⟨v,h1,h2.ext h⟩),λ_ _ _ h hp=>(let ⟨v,h1,h2⟩:=hp;⟨v,h1,h2.schg h⟩)⟩
theorem uY(h:Value)(z:Int)(w:World)(q:IsZ w h z)(A:szZ z<=68719476736):
  Calls prog 88 #[h] w λe j=>∃l,e= .returned l/\FrQ w j l (z:Rat)/\Ext w j:=by
 obtain⟨r,m,n,rfl,hs,hz⟩:=q;have s:=a8 hz;go_enter func88,ntmps88;obtain⟨_,o,p,u,v,_⟩:=lZ w #[r,m] #[false,(),()] 35 37;obtain⟨a,b,-⟩:=u.cl [0,1];rw[o]at a b;go_wp2_with fail;rw[<-o];clear a b hz;refine(oM _ m n _ (hs.ext p)).mono ?_;rintro e _ ⟨_,rfl,hz,c⟩;obtain⟨_,rfl,hn⟩:=hz;obtain⟨_,_,rfl⟩:=hn.slice;have x:=a8 hn;clear hn;go_wp2_with fail;refine(L7 _).mono ?_;rintro e _ ⟨_,rfl,d,f⟩;obtain⟨_,_,rfl⟩:=d.slice;have y:=a8 d;clear d;have:=c.size;have hb:=(v.ext c).ext f;obtain⟨a,b,_,-⟩:=hb.cl [0,1,2];obtain⟨_,_,_,-⟩:=hb.fl [0,1,2];go_wp2;refine l8 2 37 (w.heap.size+1) 37 _ _ kr rfl (((hb.set 0 _).set 1 _).set 2 _) underlying37 rfl kr rfl ?_;rw[s.out];exact⟨_,rfl,⟨_,_,rfl,(((x.out.ext f).chg (Chg.trans (Chg.trans (Chg.setCell _ (w.heap.size+1) 0 _) (Chg.setCell _ (w.heap.size+1) 1 _)) (Chg.setCell _ (w.heap.size+1) 2 _)) om).mono om),((y.out.chg (Chg.trans (Chg.trans (Chg.setCell _ (w.heap.size+1) 0 _) (Chg.setCell _ (w.heap.size+1) 1 _)) (Chg.setCell _ (w.heap.size+1) 2 _)) om).mono om)⟩,((p.trans c).trans f).step (Chg.trans (Chg.trans (Chg.setCell _ (w.heap.size+1) 0 _) (Chg.setCell _ (w.heap.size+1) 1 _)) (Chg.setCell _ (w.heap.size+1) 2 _)) om⟩
theorem mT(a:Int)(w:World)(j: -9223372036854775808<=a)(l:a<=9223372036854775807):
  Calls prog 41 #[a] w λe d=>∃f,e= .returned f/\FrQ w d f (a:Rat)/\Ext w d:=by
 have:szZ a<=1:=WL (by rw[lX];omega);go_enter func41,ntmps41;go_wp2_with fail;obtain⟨_,m,o,p,_⟩:=kR w #[false,(),()] 37;rw[<-m];refine(LM a _ j l).mono ?_;rintro e _ ⟨_,rfl,q,b⟩;go_wp2_with fail;refine(uY _ a _ (q.isZ lq) om).mono ?_;rintro e _ ⟨_,rfl,r,h⟩;obtain⟨_,_,rfl,hn,c⟩:=r;obtain⟨_,_,rfl⟩:=hn.slice;obtain⟨_,_,rfl⟩:=c.slice;have s:=a8 hn;have u:=a8 c;clear hn c;have:=b.size;have hb:=(p.ext b).ext h;obtain⟨_,_,_,-⟩:=hb.cl [0,1,2];obtain⟨_,_,_,-⟩:=hb.fl [0,1,2];go_wp2;refine l8 2 37 w 37 _ _ kr rfl (((hb.set 0 _).set 1 _).set 2 _) underlying37 rfl kr rfl ?_;exact⟨_,rfl,⟨_,_,rfl,((s.out.chg (Chg.trans (Chg.trans (Chg.setCell _ w 0 _) (Chg.setCell _ w 1 _)) (Chg.setCell _ w 2 _)) om).mono om),((u.out.chg (Chg.trans (Chg.trans (Chg.setCell _ w 0 _) (Chg.setCell _ w 1 _)) (Chg.setCell _ w 2 _)) om).mono om)⟩,((o.trans b).trans h).step (Chg.trans (Chg.trans (Chg.setCell _ w 0 _) (Chg.setCell _ w 1 _)) (Chg.setCell _ w 2 _)) om⟩
theorem IsN.slice{k:IntKind}{n:Nat}{w:World}(d:IsN k a w j n):∃b f c,j= .slice b f c:=by
 obtain⟨xs,⟨b,c,rfl, -⟩, -⟩:=d;exact⟨b,_,c,rfl⟩
theorem yP(J:Value)(h:Rat)(k:Nat)(w:World)(c:IsR w J h k)(bD:k<=34359738300):
  Calls prog 104 #[J] w λe w'=>∃v',e= .returned v'/\FrZ w w' v' h.floor/\szZ h.floor<=k+1/\Ext w w':=by
 obtain⟨nx,dx,v,rfl,_,_⟩:=c;have K:=v.pos;have Qx:=a8 v;obtain⟨j,l,x,_,_,rfl,X,L,_,Y⟩:=v;have Z:=a8 (show IsZ w (.agg #[j,l]) nx from⟨_,_,_,rfl,X,L⟩);clear L Y;have a0:=a8 (EN nx dx K);have a1:=a8 (show szZ (nx / (dx:Int))<=k+1 by
  have q:(nx / (dx:Int)).natAbs<=nx.natAbs:=gQ _ _;exact aE (sN q) (by unfold szZ at*;omega))
 go_enter func104,ntmps104;go_wp2_with fail;obtain⟨_,M,e1,N,a2,_⟩:=lZ w #[j,l,x] #[false,()] 37 35;rw[<-M];clear M;refine K5 [⟨10,35,2,#[false,()]⟩,⟨11,35,2,#[false,()]⟩] [⟨12,⟨10,35,2,#[false,()]⟩,PA.frZ (nx / (dx:Int))⟩,⟨13,⟨11,35,2,#[false,()]⟩,PA.frZ (nx % (dx:Int))⟩] [PA.val (w,0),PA.val (.agg #[j,l]),PA.val (.agg #[j,l,x]),PA.isN dx,PA.aggN dx,PA.tupZ (nx / (dx:Int)) (nx % (dx:Int)),PA.tupZ (nx / (dx:Int)) (nx % (dx:Int)),PA.frZ (nx / (dx:Int)),PA.frZ (nx % (dx:Int)),PA.val (0:Int),PA.any,PA.any,PA.any,PA.any,PA.val (0:Int)]
  kr kr (λf=>(by simp only[mJ,mO,aQ,aV,aZ,Nat.reduceAdd];rfl)) ?_ ?_ ?_ ?_ ?_
 .intro h d;simp only[aS,bI,or_false]at d;rcases d with rfl |rfl
  .exact⟨rfl,rfl,de,de,rfl,XY _ _ _ _⟩
  .exact⟨rfl,rfl,de,de,rfl,XY _ _ _ _⟩
 .intro h d;simp only[aS,bI,or_false]at d;rcases d with rfl |rfl<;>exact ⟨rfl,rfl,sm⟩
 .intro h d _ O q;simp only[aS,bI,or_false]at d O;rcases d with rfl |rfl<;>rcases O with rfl |rfl
  .exact absurd rfl q
  .show 10≠11;decide
  .show 11≠10;decide
  .exact absurd rfl q
 .refine⟨?_,?_,?_,?_,?_,?_,?_,?_,?_,?_,?_,?_,?_,?_,?_,trivial⟩
  .intro f w2 hE hp;have hS:=hE.size;exact HQ0
  .intro f w2 hE hp;have hS:=hE.size;have:f 0= .pointer w.heap.size:=zI hp 0 0 rfl rfl rfl;have m:=N.ext hE;obtain⟨_,_,_,-⟩:=m.cl [0,1,2];exact HQ0
  .intro f w2 hE hp;have hS:=hE.size;change kM _ _ _ f w2 Ext _;exact kZ (P:=prog) _ _ w _ _ _ rfl rfl rfl (N.ext hE) underlying37 rfl kr rfl
  .intro f w2 hE hp;have hS:=hE.size;have a3:f 2= .agg #[j,l,x]:=zI hp 0 2 rfl rfl rfl;change kM _ _ _ f w2 Ext _;refine oC #[f 2] func141 rfl rfl ?_;rw[a3];exact ew4
  .intro f w2 hE hp;have hS:=hE.size;have Q:=zI hp 0 3 rfl rfl rfl;change kM _ _ _ f w2 Ext _;obtain⟨a4,_,a5,c⟩:=IsN.slice Q;simp only[kM];go_simp;exact⟨_,rfl,rE,_,rfl,c▸Q⟩
  .intro f w2 hE hp;have hS:=hE.size;have a6:f 1= .agg #[j,l]:=zI hp 0 1 rfl rfl rfl;have a7:=zI hp 1 4 rfl rfl rfl;change kM _ _ _ f w2 Ext _;refine oC #[f 1,f 4] func153 rfl rfl ?_;rw[a6];obtain⟨a9,c,b0⟩:=a7;rw[c];refine(FG _ a9 nx dx _ (Z.out.ext (e1.trans hE)) b0 K om om).mono ?_;rintro e w' ⟨r,s,rfl,h1,o,h2⟩;exact⟨_,rfl,h2,r,s,rfl,h1.mono hS,o.mono hS⟩
  .intro f w2 hE hp;have hS:=hE.size;have b1:=zI hp 0 5 rfl rfl rfl;change kM _ _ _ f w2 Ext _;exact⟨_,rfl,rE,b1⟩
  .intro f w2 hE hp;have hS:=hE.size;have p:=zI hp 0 6 rfl rfl rfl;change kM _ _ _ f w2 Ext _;obtain⟨r,s,c,h1,o⟩:=p;simp only[kM];go_simp;exact⟨_,rfl,rE,h1⟩
  .intro f w2 hE hp;have hS:=hE.size;have p:=zI hp 0 6 rfl rfl rfl;change kM _ _ _ f w2 Ext _;obtain⟨r,s,c,h1,o⟩:=p;simp only[kM];go_simp;exact⟨_,rfl,rE,o⟩
  .intro f w2 hE hp;have hS:=hE.size;have p:=zI hp 0 6 rfl rfl rfl;obtain⟨r,s,c,h1,o⟩:=p;exact DG6
  .exact Jb6
  .exact Jb6
  .intro f w2 hE hp;have hS:=hE.size;have R:=zI hp 1 7 rfl rfl rfl;intro g y A B m C D;change kM _ _ _ f w2 (Chg g) _;obtain⟨E,c,hcs,u,F⟩:=FrZ.parts R;exact KZ (P:=prog) (PA.frZ (nx / (dx:Int))) 2 _ _ _ g _ y E rfl rfl A c m (by rw[hcs];kernel_rfl) C hcs u B (show 35≠165 by decide) (show 35≠3 by decide) D F (c▸R)
  .intro f w2 hE hp;have hS:=hE.size;have S:=zI hp 1 8 rfl rfl rfl;intro g y A B m C D;change kM _ _ _ f w2 (Chg g) _;obtain⟨E,c,hcs,u,F⟩:=FrZ.parts S;exact KZ (P:=prog) (PA.frZ (nx % (dx:Int))) 2 _ _ _ g _ y E rfl rfl A c m (by rw[hcs];kernel_rfl) C hcs u B (show 35≠165 by decide) (show 35≠3 by decide) D F (c▸S)
  .intro f w2 hE hp;have hS:=hE.size;have:f 9=(0:Int):=zI hp 0 9 rfl rfl rfl;exact HQ0
 .intro f w2 hE hp H;obtain⟨_,_,b2,b3,T,b4,U⟩:=H ⟨10,35,2,#[false,()]⟩ sm de;dsimp only at b2 b3 T b4;have b5:=U ⟨12,⟨10,35,2,#[false,()]⟩,PA.frZ (nx / (dx:Int))⟩ sm (by show 12<15;decide) rfl rfl;clear U;obtain⟨_,_,b6,b7,b8,b9,V⟩:=H ⟨11,35,2,#[false,()]⟩ sm de;dsimp only at b6 b7 b8 b9;have bA:=V ⟨13,⟨11,35,2,#[false,()]⟩,PA.frZ (nx % (dx:Int))⟩ sm (by show 13<15;decide) rfl rfl;clear V;clear hp H;obtain⟨_,bB,I⟩:=b5
  cases bB
  obtain⟨a4,a5,rfl⟩:=I.slice;have bC:=a8 I;clear I bA;obtain⟨_,_,-⟩:=T.cl [0,1];have hb:=a2.ext hE;obtain⟨_,u,-⟩:=hb.cl [0,1];obtain⟨_,_,-⟩:=hb.fl [0,1];go_wp2;refine l8 2 35 (w.heap.size+1) 35 _ _ kr rfl ((hb.set 0 _).set 1 _) underlying35 rfl kr rfl ?_;rw[a0.out];exact⟨_,rfl,⟨_,rfl,((bC.out.chg (Chg.trans (Chg.setCell _ (w.heap.size+1) 0 _) (Chg.setCell _ (w.heap.size+1) 1 _)) om).mono om)⟩,a1.out,(e1.trans hE).step (Chg.trans (Chg.setCell _ (w.heap.size+1) 0 _) (Chg.setCell _ (w.heap.size+1) 1 _)) om⟩
theorem ab7(a:Rat):szQ (-a)=szQ a:=by
 unfold szQ;rw[Rat.neg_num,Rat.neg_den,yU]
theorem UP(z:Int):szQ (z:Rat)<=max (szZ z) 1:=by
 unfold szQ;rw[Rat.num_intCast,Rat.den_intCast];exact lr
theorem P7(j:Value)(a:Rat)(k:Nat)(w:World)(b:IsR w j a k)(s:k<=34359738300):
  Calls prog 105 #[j] w λe l=>∃m,e= .returned m/\FrZ w l m a.ceil/\szZ a.ceil<=k+1/\Ext w l:=by
 have u:=a8 b;have v:=b.sz;obtain⟨_,_,⟨x,y,A,_,_,rfl, -⟩, -⟩:=b;have B:=a8 (Rat.ceil_eq_neg_floor_neg a);go_enter func105,ntmps105;obtain⟨_,o,p,C,D,_⟩:=lZ w #[x,y,A] #[false,()] 37 35;obtain⟨c,d,q,-⟩:=C.cl [0,1,2];rw[o]at c d q;go_wp2_with fail;rw[<-o];clear c d q;refine(IG _ a k _ (u.out.ext p) om).mono ?_;rintro e _ ⟨_,rfl,E,f⟩;go_wp2_with fail;refine(yP _ (-a) k _ (E.isR (by rw[ab7];exact v) lq) s).mono ?_;rintro e _ ⟨_,rfl,F,H,h⟩;go_wp2_with fail;refine(C3 _ _ _ (F.isZ lq)).mono ?_;rintro e _ ⟨_,rfl,I,r⟩;obtain⟨_,rfl,hn⟩:=I;rw[iG]at hn;obtain⟨J,K,rfl⟩:=hn.slice;have L:=a8 hn;clear hn;have:=f.size;have:=h.size;have hb:=((D.ext f).ext h).ext r;obtain⟨c,d,-⟩:=hb.cl [0,1];obtain⟨_,_,-⟩:=hb.fl [0,1];go_wp2;refine l8 2 35 (w.heap.size+1) 35 _ _ kr rfl ((hb.set 0 _).set 1 _) underlying35 rfl kr rfl ?_;rw[B.out,yU];exact⟨_,rfl,⟨(J,sz W (-a).floor.natAbs,K),sm,by rw[iG];exact((L.out.chg (Chg.trans (Chg.setCell _ (w.heap.size+1) 0 _) (Chg.setCell _ (w.heap.size+1) 1 _)) om).mono om)⟩,H,(((p.trans f).trans h).trans r).step (Chg.trans (Chg.setCell _ (w.heap.size+1) 0 _) (Chg.setCell _ (w.heap.size+1) 1 _)) om⟩
theorem P8(o:Value)(x:Rat)(k:Nat)(w:World)(a:IsR w o x k)(O:k<=17179869180):
  Calls prog 156 #[o] w λe w'=>∃v',e= .returned v'/\FrQ w w' v' (x - (x.floor:Rat))/\szQ (x - (x.floor:Rat))<=2*k+2/\Ext w w':=by
 have p:=a8 a;have:=a.sz;have:szZ x.floor<=k+1:=by
  obtain⟨n,c,h1,rfl,h3,A⟩:=a;rw[EN n c h1.pos];have h:(n / (c:Int)).natAbs<=n.natAbs:=gQ _ _;exact aE (sN h) (by unfold szZ at*;omega)
 have:1<=k:=by
  obtain⟨n,c,h1,rfl,h3,A⟩:=a;have:=D5 (n:=c);have:=h1.pos;omega
 obtain⟨_,_,⟨d,j,l,_,_,rfl, -⟩, -⟩:=a;have:=UP x.floor;go_enter func156,ntmps156;go_wp2_with fail;obtain⟨w1,q,m,b1,B,_⟩:=lZ w #[d,j,l] #[false,(),()] 37 37;rw[<-q];clear q;refine wpP [⟨5,(w.heap.size+1),37,lV (x - (x.floor:Rat)) (2*k+2)⟩] [kL (.agg #[d,j,l]),kL (.agg #[d,j,l]),lJ x.floor,nC (x.floor:Rat),lV (x - (x.floor:Rat)) (2*k+2),kP] [] [5,4,3,2,1,0] ?_ ?_ ?_ ?_ ?_
 .exact UZ7
 .exact DL8
 .exact sz1
 .refine⟨?_,?_,?_,?_,?_,?_,trivial⟩
  .exact FP4
  .exact FP4
  .intro f w2 hG hp hl;have hE:Ext w1 w2:=hG;have hS:=hE.size;have C:=tE hp 0 1 rfl rfl rfl;change kM _ _ _ f w2 Ext _;refine oC #[f 1] func104 rfl rfl ?_;rw[C];refine(yP _ x k _ (p.out.ext (m.trans hE)) om).mono ?_;rintro e w' ⟨v',rfl,h1,_,h2⟩;exact⟨v',rfl,h2,h1.mono hS⟩
  .intro f w2 hG hp hl;have hE:Ext w1 w2:=hG;have hS:=hE.size;have D:=kO hp 0 2 rfl rfl (λ_=>hE);change kM _ _ _ f w2 Ext _;refine oC #[f 2] func88 rfl rfl ?_;refine(uY _ x.floor _ (D.isZ lq) om).mono ?_;exact EL7
  .intro f w2 hG hp hl;have hE:Ext w1 w2:=hG;have hS:=hE.size;have E:=tE hp 0 0 rfl rfl rfl;have F:=kO hp 1 3 rfl rfl (λ_=>hE);change kM _ _ _ f w2 Ext _;refine oC #[f 0,f 3] func210 rfl rfl ?_;rw[E];refine(S5 _ _ x (x.floor:Rat) k (k+1) _ (p.out.ext (m.trans hE)) (F.isR om lq) om).mono ?_;exact ON4
  .intro f w2 hG hp hl;have hE:Ext w1 w2:=hG;have hS:=hE.size;have H:=kO hp 0 4 rfl rfl (λ_=>hE);intro I;change kM _ _ _ f w2 (Chg _) _;obtain⟨⟨r,s,a,hn,u⟩,J⟩:=H;exact mN (P:=prog) _ _ _ (w.heap.size+1) _ _ _ (lV _ _:PP _).p rfl rfl rfl a (show Bx 37 w2 _ _ from I.trans B) kr rfl (yA rfl hn.oneCell u.oneCell) (λw' h=>⟨⟨r,s,rfl,hn.chg h om,u.chg h om⟩,J⟩)
 .intro f w2 hG hp;obtain⟨_,K,b⟩:∃v,Bx 37 w2 (w.heap.size+1) v/\(lV (x - (x.floor:Rat)) (2*k+2):PP w1).p (.agg v) w2:=sP hp 5 de;clear hp;have L:=b.2;replace b:=b.1;have M:=b.mono (show w.heap.size<=_ by omega);obtain⟨r,s,N,_,_⟩:=b
  cases N
  go_wp2;refine l8 2 37 (w.heap.size+1) 37 _ _ kr rfl K underlying37 rfl kr rfl ?_;exact⟨_,rfl,M,L,m.stepS hG sm⟩
theorem rQ(c:Value)(a:Rat)(k:Nat)(w:World)(d:IsR w c a k)(q:k<=17179869180):
  Calls prog 106 #[c] w λe r=>e= .returned (.bool (decide (a=(a.floor:Rat))))/\Ext w r:=by
 have s:=a8 d;obtain⟨_,_,⟨u,v,x,_,_,rfl, -⟩, -⟩:=d;have f:=I0 a (a.floor:Rat);have h:decide ((a - (a.floor:Rat)).num.sign=0)=decide (a=(a.floor:Rat)):=by
  rw[f];unfold qP;split
  .rename_i y;rw[decide_eq_false (Rat.ne_of_lt y)];rfl
  .split
   .rename_i A b;exact(decide_eq_true b).symm
   .rename_i A b;rw[decide_eq_false b];rfl
 have B:=a8 h;clear f h;go_enter func106,ntmps106;obtain⟨_,j,l,C,_⟩:=kR w #[u,v,x] 37;obtain⟨m,o,p,-⟩:=C.cl [0,1,2];rw[j]at m o p;go_wp2_with fail;rw[<-j];clear m o p;refine(P8 _ a k _ (s.out.ext l) q).mono ?_;rintro e _ ⟨_,rfl,b,D,E⟩;go_wp2_with fail;refine(wO _ _ _ _ (b.isR D lq)).mono ?_;rintro e _ ⟨rfl,F⟩;go_wp2;go_ret;exact⟨by rw[<-B.out];rfl,(l.trans E).trans F⟩
end Go.Proofs.YtjlcilmjfejimaaGreat
