/-
 nat: the number without its noughts at the end, which of two is the greater, how many bits.
-/
import Derived.Test.YthoibjnkhkjnjaaGreatProg
import Derived.Test.YthoibjnkhkjnjaaGreatBasZ
import Derived.WalkSpells
import Derived.WalkLawsBesides
import Derived.Deep.QuietTactic
import Derived.BigQuiet
import Derived.Handy
import Derived.Test.YthoibjnkhkjnjaaGreatShelf
import Derived.Shelf.Spec.BitsCarry
import Derived.Lib.ItoaNum
import Derived.Deep.RegionWith
namespace Go.Proofs.YthoibjnkhkjnjaaGreat
set_option maxRecDepth 100000
set_option maxHeartbeats 1000000
open Go.RowKit
set_option linter.unusedVariables false
set_option linter.unusedSimpArgs false
theorem tz_zero(xs:List Nat)(j:Nat)(h:j<xs.length)(h0:((xs[j]:Int)==0)=true)(ht:Hid (tz xs=tz (xs.take (j+1)))):Hid (tz xs=tz (xs.take j)):=by
 have h1:xs[j]=0:=by simpa using h0
 show tz xs=tz (xs.take j)
 rw[ht.out,List.take_succ_eq_append_getElem h,h1,tz_snoc_zero]
theorem tz_stop(xs:List Nat)(j:Nat)(h:j<xs.length)(h0:((xs[j]:Int)==0)=false)(ht:Hid (tz xs=tz (xs.take (j+1)))):(tz xs).length=j+1:=by
 have h1:¬xs[j]=0:=by simpa using h0
 rw[ht.out,List.take_succ_eq_append_getElem h,tz_snoc _ _ h1,List.length_append,List.length_take]
 simp;omega
set_option maxHeartbeats 400000 in
theorem bare_core(ad:Option Addr)(cap:Nat)(xs:List Nat)(w:World)(hr:Rd w ad (vals .u64 xs))(hlc:xs.length≤cap)(hc:cap≤9223372036854775807):
  Calls Tryz.prog 87 #[.slice ad xs.length cap] w fun e w'=>e= .returned (.slice ad (tz xs).length cap)∧w=w':=by
 go_enter Tryz.func87,Tryz.ntmps87
 go_wp2
 go_loop [3] (fun n=>∃k:Nat,k≤xs.length∧n= .int .i64 k∧Hid (tz xs=tz (xs.take k))) (fun n=>(intOf n).toNat)
 case atStart=>exact ⟨xs.length,Nat.le_refl _,rfl,by simp[Hid]⟩
 case round=>
  obtain⟨k,hk,rfl,ht⟩:=hrel
  rcases Nat.eq_zero_or_pos k with hk0 |hk0
  ·subst hk0;go_wp2;go_ret
   have e0:tz xs=[]:=by have:=ht.out;simpa[tz]using this
   exact⟨by simp[e0],rfl⟩
  ·obtain⟨j,rfl⟩:∃j,k=j+1:=⟨k - 1,by omega⟩;obtain⟨b,off,rfl,hcells⟩:=hr.at (by rw[vals_length];omega);have hcell:=hcells j _ (vals_get .u64 xs j (by omega));clear hcells;go_wp2
   ·go_round
    case rel=>exact ⟨j,by omega,rfl,tz_zero xs j (by omega) (by assumption) ht⟩
    case measure=>simp [intOf]
   ·go_ret;exact⟨by rw[tz_stop xs j (by omega) (by assumption) ht];simp,rfl⟩
theorem bare_calls(ad:Option Addr)(n cap:Nat)(xs:List Nat)(w:World)(hn:xs.length=n)(hr:Rd w ad (vals .u64 xs))(hlc:n≤cap)(hc:cap≤9223372036854775807):
  Calls Tryz.prog 87 #[.slice ad n cap] w fun e w'=>e= .returned (.slice ad (tz xs).length cap)∧w=w':=by
 subst hn;exact bare_core ad cap xs w hr hlc hc
theorem info61:(Tryz.prog.info? 61).map (fun i=>(i.zero,i.size,i.bytes))=some (some (.int .u64 0),1,8):=by kernel_rfl
theorem info3:(Tryz.prog.info? 3).map (fun i=>(i.zero,i.size,i.bytes))=some (some (.int .i64 0),1,8):=by kernel_rfl
theorem empty32(w:World):(Instr.buildSlice 32 0 #[]).run Tryz.prog w= .ok (.slice (some ⟨w.heap.size,0,none⟩) 0 0) (w.alloc (.cells #[] 61)):=by kernel_rfl
set_option maxHeartbeats 400000 in
theorem clone_core(ad:Option Addr)(cap:Nat)(xs:List Nat)(w:World)(hr:Rd w ad (vals .u64 xs))(hlc:xs.length≤cap)(hcap:cap≤9223372036854775807)(hl:xs.length≤BIG):
  Calls Tryz.prog 88 #[.slice ad xs.length cap] w fun e w'=>∃v,e= .returned v∧FrL 61 .u64 w.heap.size w' v xs∧Ext w w':=by
 obtain⟨i0,hi,hz0,hz1,hz2⟩:=info_parts info61
 have ee:=fun(wx:World) (a:Option Addr) (n c:Nat)=>Lib.run_eql_slice_nil (P:=Tryz.prog) wx 32 61 a n c 0 0 Tryz.underlying32
 have eb:=empty32
 cases ad with
 |none=>
  have h0:xs=[]:=by
   rcases hr with h |⟨b,off,h,_⟩
   ·exact vals_nil.1 h
   ·cases h
  subst h0
  go_enter Tryz.func88,Tryz.ntmps88
  go_wp2;go_ret;exact⟨_,rfl,⟨none,0,rfl,by simp,by omega,.inl ⟨rfl,rfl,rfl⟩⟩,Ext.refl _⟩
 |some a=>
  have hown:(w.alloc (.cells #[] 61)).ownsRow w.heap.size 61 1 (.slice (some ⟨w.heap.size,0,none⟩) 0 0) 0 []:=World.ownsRow_made w #[] 0 (Nat.le_refl _) (by decide) rfl
  have hnews:∀j u,(vals .u64 xs)[j]? =some u→(w.alloc (.cells #[] 61)).cell? (a.add j)=some u:=hr.addr a rfl ((Ext.refl w).alloc _)
  go_enter Tryz.func88,Tryz.ntmps88
  go_wp2_with (at_builtin;refine wpList_append_own _ rfl _ _ 32 rfl w.heap.size 61 i0 (.int .u64 0) 1 8 Tryz.underlying32 hi hz0 hz1 hz2 rfl (by decide) _ _ _ rfl hown a xs.length cap (vals .u64 xs) rfl ?c1 hnews ?c2 ?c3 ?c4 ?c5 ?_)
  case c1=>simp [vals_length]
  case c2=>exact vals_one _ _
  case c3=>rw [BIG_eq]at hl;unfold maxLen;omega
  case c4=>rw [BIG_eq]at hl;omega
  case c5=>simp
  intro v' w1 hown' hgr _;go_wp2;go_ret;exact⟨v',rfl,own_frl hown',Ext.step ((Ext.refl w).alloc _) (g:=w.heap.size) hgr (Nat.le_refl _)⟩
theorem clone_calls(ad:Option Addr)(n cap:Nat)(xs:List Nat)(w:World)(hn:xs.length=n)(hr:Rd w ad (vals .u64 xs))(hlc:n≤cap)(hcap:cap≤9223372036854775807)(hl:n≤BIG):
  Calls Tryz.prog 88 #[.slice ad n cap] w fun e w'=>∃v,e= .returned v∧FrL 61 .u64 w.heap.size w' v xs∧Ext w w':=by
 subst hn;exact clone_core ad cap xs w hr hlc hcap hl
set_option maxHeartbeats 400000 in
theorem trim_calls(v:Value)(n:Nat)(w:World)(hv:IsN .u64 W w v n):
  Calls Tryz.prog 86 #[v] w fun e w'=>∃v',e= .returned v'∧FrN 61 .u64 W w.heap.size w' v' n∧Ext w w':=by
 obtain⟨xs,⟨ad,cap,rfl,hlc,hcap,hr⟩,hlen,hd,hval⟩:=hv;have htz:=tz_length_le xs
 have htr:Rd w ad (vals .u64 (tz xs)):=by rw[←tz_take,vals_take];exact hr.take _
 have hbig:(tz xs).length≤BIG:=by rw[LIM_eq]at hlen;rw[BIG_eq];omega
 have hdg:tz xs=dg W n:=by rw[tz_eq_dg W_gt hd,hval]
 have Hdg:=Lib.hid hdg;clear hdg
 go_enter Tryz.func86,Tryz.ntmps86
 go_wp2_with fail;refine(bare_calls ad _ cap xs w rfl hr hlc hcap).mono ?_;rintro e w' ⟨rfl,rfl⟩;go_wp2_with fail;refine(clone_calls ad _ cap (tz xs) w rfl htr (by omega) hcap hbig).mono ?_;rintro e w' ⟨v',rfl,hfr,hext⟩;go_wp2;go_ret;rw[Hdg.out]at hfr;exact⟨v',rfl,hfr,hext⟩
theorem ret_int{k:IntKind}{a b:Int}(h:a=b):Ending.returned (.int k a)= .returned (.int k b):=by rw[h]
def cmpN(x y:Nat):Int:=if x<y then -1 else if x=y then 0 else 1
theorem val_lt_top{B:Nat}{xs ys:List Nat}(i:Nat)(hx:i<xs.length)(hy:i<ys.length)(hB:0<B)(dx:Dig B xs)(hdrop:xs.drop (i+1)=ys.drop (i+1))(h:xs[i]<ys[i]):val B xs<val B ys:=by
 rw[val_split xs i (by omega),val_split ys i (by omega),val_drop xs i hx,val_drop ys i hy,hdrop];have h1:=val_lt hB (dx.take i);rw[List.length_take,Nat.min_eq_left (by omega)]at h1;have h2:B^i*(xs[i]+1)≤B^i*ys[i]:=Nat.mul_le_mul_left _ h;rw[Nat.mul_add]at h2;simp only[Nat.mul_add]
 omega
theorem drop_eq{p q:List Nat}(j:Nat)(hp:j<p.length)(hq:j<q.length)(h1:Hid (p[j]=q[j]))(h2:Hid (p.drop (j+1)=q.drop (j+1))):Hid (p.drop j=q.drop j):=by
 show p.drop j=q.drop j
 rw[List.drop_eq_getElem_cons hp,List.drop_eq_getElem_cons hq,h1.out,h2.out]
theorem val_lt_len{B:Nat}(hB:1<B){n m:Nat}(h:(dg B n).length<(dg B m).length):n<m:=by
 rcases Nat.lt_or_ge n m with h1 |h1
 ·exact h1
 ·have:=dg_len_mono hB h1
  omega
set_option maxHeartbeats 800000 in
theorem cmp_calls(v u:Value)(x y:Nat)(w:World)(hv:IsN .u64 W w v x)(hu:IsN .u64 W w u y):
  Calls Tryz.prog 70 #[v,u] w fun e w'=>e= .returned (.int .i64 (cmpN x y))∧Ext w w':=by
 obtain⟨xs,⟨ad,cap,rfl,hlc,hcap,hr⟩,hlen,hd,hval⟩:=hv;obtain⟨ys,⟨ad2,cap2,rfl,hlc2,hcap2,hr2⟩,hlen2,hd2,hval2⟩:=hu;have Hx:=Lib.hid (show tz xs=dg W x by rw[tz_eq_dg W_gt hd,hval]);have Hy:=Lib.hid (show tz ys=dg W y by rw[tz_eq_dg W_gt hd2,hval2])
 have htr:Rd w ad (vals .u64 (tz xs)):=by rw[←tz_take,vals_take];exact hr.take _
 have htr2:Rd w ad2 (vals .u64 (tz ys)):=by rw[←tz_take,vals_take];exact hr2.take _
 have hl1:(tz xs).length≤9223372036854775807:=by have:=tz_length_le xs;omega
 have hl2:(tz ys).length≤9223372036854775807:=by have:=tz_length_le ys;omega
 clear hval hval2
 go_enter Tryz.func70,Tryz.ntmps70
 go_wp2_with fail;refine(bare_calls ad _ cap xs w rfl hr hlc hcap).mono ?_;rintro e w' ⟨rfl,rfl⟩;go_wp2_with fail;refine(bare_calls ad2 _ cap2 ys w rfl hr2 hlc2 hcap2).mono ?_;rintro e w' ⟨rfl,rfl⟩;clear hr hr2 hlen hlen2 hlc hlc2
 generalize tz xs=p at*
 generalize tz ys=q at*
 have hp:val W p=x:=by rw[Hx.out,dg_val W_gt]
 have hq:val W q=y:=by rw[Hy.out,dg_val W_gt]
 have dp:Dig W p:=by rw[Hx.out];exact(dg_can W_gt x).1
 have dq:Dig W q:=by rw[Hy.out];exact(dg_can W_gt y).1
 rcases Nat.lt_trichotomy p.length q.length with hlt |heq |hgt
 ·have hfin:cmpN x y= -1:=by
   have:x<y:=val_lt_len W_gt (by rw[←Hx.out,←Hy.out];exact hlt)
   simp[cmpN,this]
  clear hp hq;go_wp2;go_ret;exact⟨ret_int hfin.symm,Ext.refl _⟩
 ·clear hp hq;have Heq:=Lib.hid heq;go_wp2
  go_loopw [5] (fun i wr=>∃k:Nat,k≤q.length∧i= .int .i64 ((k:Int) - 1)∧Hid (p.drop k=q.drop k)∧Ext w wr) (fun i _=>(intOf i+1).toNat)
  case atStart=>exact ⟨q.length,Nat.le_refl _,rfl,by simp[Hid,heq],Ext.refl _⟩
  case round=>
   obtain⟨k,hk,rfl,hdr,hext⟩:=hrel
   rcases Nat.eq_zero_or_pos k with hk0 |hk0
   ·subst hk0
    have hfin:cmpN x y=0:=by
     have:p=q:=by have:=hdr.out;simpa using this
     have:x=y:=dg_inj W_gt (by rw[←Hx.out,←Hy.out,this])
     simp[cmpN,this]
    go_wp2;go_ret;exact⟨ret_int hfin.symm,hext⟩
   ·obtain⟨j,rfl⟩:∃j,k=j+1:=⟨k - 1,by omega⟩;obtain⟨b,off,rfl,hcells⟩:=htr.at (by rw[vals_length];omega);obtain⟨b2,off2,rfl,hcells2⟩:=htr2.at (by rw[vals_length];omega);have hcell:=hext.cell (hcells j _ (vals_get .u64 p j (by omega)));have hcell2:=hext.cell (hcells2 j _ (vals_get .u64 q j (by omega)));clear hcells hcells2;rw[show ((j+1:Nat):Int) - 1=(j:Int)from by omega]
    rcases Nat.lt_trichotomy p[j] q[j]with h1 |h1 |h1
    ·have hfin:cmpN x y= -1:=by
      have:x<y:=by rw[←dg_val W_gt x,←dg_val W_gt y,←Hx.out,←Hy.out];exact val_lt_top j (by omega) (by omega) (by rw[W_eq];omega) dp hdr.out h1
      simp[cmpN,this]
     go_wp2
     go_quiet (fail)
     go_wp2;go_ret;exact⟨ret_int hfin.symm,by first |exact hext.drews _ |exact (hext.drews _).drews _⟩
    ·have H1:=Lib.hid h1
     have h2:¬p[j]<q[j]:=by omega
     have h3:¬q[j]<p[j]:=by omega
     clear h1;go_wp2
     go_quiet (fail)
     go_wp2
     go_quiet (fail)
     go_wp2;go_roundw
     case rel=>exact ⟨j,by omega,rfl,drop_eq j (by have:=Heq.out;omega) (by omega) H1 hdr,hext.drews _⟩
     case measure=>simp [intOf]
    ·have hfin:cmpN x y=1:=by
      have:y<x:=by rw[←dg_val W_gt x,←dg_val W_gt y,←Hx.out,←Hy.out];exact val_lt_top j (by omega) (by omega) (by rw[W_eq];omega) dq hdr.out.symm h1
      unfold cmpN;rw[if_neg (by omega),if_neg (by omega)]
     have h2:¬p[j]<q[j]:=by omega
     go_wp2
     go_quiet (fail)
     go_wp2
     go_quiet (fail)
     go_wp2;go_ret;exact⟨ret_int hfin.symm,by first |exact hext.drews _ |exact (hext.drews _).drews _⟩
 ·have hfin:cmpN x y=1:=by
   have:y<x:=val_lt_len W_gt (by rw[←Hx.out,←Hy.out];exact hgt)
   unfold cmpN;rw[if_neg (by omega),if_neg (by omega)]
  clear hp hq;go_wp2;go_ret;exact⟨ret_int hfin.symm,Ext.refl _⟩
theorem add64_run(x y c:Nat)(hc:c≤1)(w:World):
  (callFunc 111 #[.int .u64 (x:Int),.int .u64 (y:Int),.int .u64 (c:Int)]).run Tryz.prog w=
   .ok (.value (.tuple #[.int .u64 (((x+y+c) % W:Nat):Int),.int .u64 (((x+y+c) / W:Nat):Int)])) w:=by
 rw[run_callFunc_extern Tryz.func111 (by kernel_rfl) (by kernel_rfl) (by kernel_rfl) (e:=add64Entry) (by kernel_rfl),run_add64 x y c (by omega) (by omega) (by omega) (by omega)];simp only[Result.andThen,W_eq]
 congr 5<;>omega
theorem sub64_run(x y b:Nat)(hb:b≤1)(w:World):
  (callFunc 112 #[.int .u64 (x:Int),.int .u64 (y:Int),.int .u64 (b:Int)]).run Tryz.prog w=
   .ok (.value (.tuple #[.int .u64 (((x+W - y - b) % W:Nat):Int),.int .u64 ((if x<y+b then 1 else 0:Nat):Int)])) w:=by
 rw[run_callFunc_extern Tryz.func112 (by kernel_rfl) (by kernel_rfl) (by kernel_rfl) (e:=sub64Entry) (by kernel_rfl),run_sub64 x y b hb];rw[W_eq];rfl
def gD(l:List Nat)(i:Nat):Nat:=l.getD i 0
theorem gD_lt{l:List Nat}{i:Nat}(h:i<l.length):gD l i=l[i]:=by simp[gD,List.getD,h]
theorem gD_ge{l:List Nat}{i:Nat}(h:¬i<l.length):gD l i=0:=by simp[gD,List.getD,h]
set_option maxHeartbeats 400000 in
theorem at_calls(ad:Option Addr)(cap:Nat)(xs:List Nat)(i:Nat)(w:World)(hr:Rd w ad (vals .u64 xs))(hi:i≤9223372036854775807)(hl:xs.length≤9223372036854775807):
  Calls Tryz.prog 113 #[.slice ad xs.length cap,.int .i64 (i:Int)] w fun e w'=>e= .returned (.int .u64 ((gD xs i:Nat):Int))∧w=w':=by
 by_cases h:i<xs.length
 ·obtain⟨b,off,rfl,hcells⟩:=hr.at (by rw[vals_length];omega);have hcell:=hcells i _ (vals_get .u64 xs i h);clear hcells;have hg:=gD_lt h;have Hg:=Lib.hid hg;clear hg
  go_enter Tryz.func113,Tryz.ntmps113
  go_wp2;go_ret;exact⟨by rw[Hg.out];rfl,rfl⟩
 ·have hg:=gD_ge h;have Hg:=Lib.hid hg;clear hg
  go_enter Tryz.func113,Tryz.ntmps113
  go_wp2;go_ret;exact⟨by rw[Hg.out];rfl,rfl⟩
def bitsN(n:Nat):Nat:=if n=0 then 0 else(sz W n - 1)*64+Lib.bitLen ((dg W n).getLastD 0)
theorem bitLen_pos(x:Nat)(h0:x≠0)(h:x<W):1≤Lib.bitLen x:=(Lib.bitLenAux_bounds 64 x (by rw[W_eq]at h;omega) h0).1
theorem can_last{B:Nat}{l:List Nat}(h:Can B l)(hl:0<l.length):l[l.length - 1]≠0:=by
 intro h0;have h1:=tz_snoc_zero (l.take (l.length - 1))
 have h2:l.take (l.length - 1)++ [0]=l:=by
  have:=List.take_succ_eq_append_getElem (l:=l) (i:=l.length - 1) (by omega)
  rw[h0,List.take_of_length_le (by omega)]at this;exact this.symm
 rw[h2,h.2]at h1
 have:=tz_length_le (l.take (l.length - 1))
 rw[←h1,List.length_take]at this
 omega
theorem getLastD_eq(l:List Nat)(hl:0<l.length):l.getLastD 0=l[l.length - 1]:=by
 rw[List.getLastD_eq_getLast?,List.getLast?_eq_getElem?,List.getElem?_eq_getElem (by omega),Option.getD_some]
theorem bitsN_zero(n:Nat):bitsN n=0↔n=0:=by
 unfold bitsN
 split
 ·simp[*]
 ·rename_i h
  have hp:0<(dg W n).length:=by
   rcases Nat.eq_zero_or_pos (dg W n).length with h1 |h1
   ·exact absurd ((dg_eq_nil W_gt).1 (List.eq_nil_of_length_eq_zero h1)) h
   ·exact h1
  have h1:=can_last (dg_can W_gt n) hp;have h2:=bitLen_pos _ h1 ((dg_can W_gt n).1.get (by omega));rw[getLastD_eq _ hp]
  constructor
  ·intro h3;omega
  ·intro h3;exact absurd h3 h
theorem bitsN_of{p:List Nat}{n:Nat}(hp:p=dg W n)(h0:0<p.length):(((p.length:Int) - 1)*64+(Lib.bitLen p[p.length - 1]:Int))=(bitsN n:Int):=by
 subst hp
 have hn:n≠0:=fun h=>by subst h;simp[dg_zero]at h0
 unfold bitsN sz;rw[if_neg hn,getLastD_eq _ h0]
 omega
set_option maxHeartbeats 400000 in
theorem bits_calls(v:Value)(n:Nat)(w:World)(hv:IsN .u64 W w v n):
  Calls Tryz.prog 58 #[v] w fun e w'=>e= .returned (.int .i64 (bitsN n:Int))∧Ext w w':=by
 obtain⟨xs,⟨ad,cap,rfl,hlc,hcap,hr⟩,hlen,hd,hval⟩:=hv;have Hx:=Lib.hid (show tz xs=dg W n by rw[tz_eq_dg W_gt hd,hval])
 have htr:Rd w ad (vals .u64 (tz xs)):=by rw[←tz_take,vals_take];exact hr.take _
 have hl1:(tz xs).length≤1099511627776:=by have:=tz_length_le xs;rw[LIM_eq]at hlen;omega
 go_enter Tryz.func58,Tryz.ntmps58
 go_wp2_with fail;refine(bare_calls ad _ cap xs w rfl hr hlc hcap).mono ?_;rintro e w' ⟨rfl,rfl⟩;clear hr hlen hlc hval
 generalize tz xs=p at*
 by_cases h0:p.length=0
 ·have hn:n=0:=(dg_eq_nil W_gt).1 (by rw[←Hx.out];exact List.eq_nil_of_length_eq_zero h0)
  subst hn;go_wp2;go_ret;exact⟨rfl,Ext.refl _⟩
 ·obtain⟨b,off,rfl,hcells⟩:=htr.at (by rw[vals_length];omega);have hcell:=hcells (p.length - 1) _ (vals_get .u64 p (p.length - 1) (by omega));clear hcells
  have hlt:p[p.length - 1]'(by omega)<W:=by
   have:Dig W p:=by rw[Hx.out];exact(dg_can W_gt n).1
   exact this.get (by omega)
  go_wp2_with fail;refine(Tryz.bits_Len64 _ _ (by omega) (by rw[W_eq]at hlt;omega)).mono ?_;rintro e w' ⟨rfl,hw⟩;subst hw;have hbl:Lib.bitLen (p[p.length - 1]'(by omega))≤64:=Lib.bitLen_le _ 64 (Nat.le_refl _) (by rw[W_eq]at hlt;omega);rw[Int.toNat_natCast];go_wp2;go_ret;exact⟨ret_int (bitsN_of Hx.out (by omega)),Ext.refl _⟩
def AddInv(xs ys l:List Nat)(i c:Nat):Prop:=l.length=xs.length+1∧Dig W l∧c≤1∧val W (l.take i)+W^i*c=val W (xs.take i)+val W (ys.take i)∧i≤xs.length
theorem take_getD(ys:List Nat)(i:Nat):val W (ys.take (i+1))=val W (ys.take i)+W^i*gD ys i:=by
 by_cases h:i<ys.length
 ·rw[val_take_succ ys i h,gD_lt h]
 ·rw[List.take_of_length_le (by omega),List.take_of_length_le (by omega),gD_ge h];simp
theorem Dig.gD{B:Nat}(hB:0<B){l:List Nat}(h:Dig B l)(i:Nat):gD l i<B:=by
 by_cases hi:i<l.length
 ·rw[gD_lt hi];exact h.get hi
 ·rw[gD_ge hi];omega
theorem AddInv.step{xs ys l:List Nat}{i c:Nat}(h:AddInv xs ys l i c)(hx:i<xs.length)(dx:Dig W xs)(dy:Dig W ys):
  AddInv xs ys (l.set i ((xs[i]+gD ys i+c) % W)) (i+1) ((xs[i]+gD ys i+c) / W):=by
 obtain⟨h1,h2,h3,h4,h5⟩:=h
 have hW:0<W:=by rw[W_eq];omega
 have hxi:=dx.get hx;have hyi:=dy.gD hW i;refine⟨by simpa using h1,h2.set (Nat.mod_lt _ hW),?_,?_,by omega⟩
 ·have:(xs[i]+gD ys i+c) / W<2:=Nat.div_lt_of_lt_mul (by omega)
  omega
 ·rw[val_take_succ _ _ (by simp;omega),List.getElem_set_self,List.take_set_of_le (Nat.le_refl _),val_take_succ xs i hx,take_getD ys i];have e:=Nat.mod_add_div (xs[i]+gD ys i+c) W
  have e2:W^i*((xs[i]+gD ys i+c) % W)+W^(i+1)*((xs[i]+gD ys i+c) / W)=W^i*(xs[i]+gD ys i+c):=by
   rw[Nat.pow_succ,Nat.mul_assoc,←Nat.mul_add,e]
  simp only[Nat.mul_add]at e2
  omega
theorem AddInv.finish{xs ys l:List Nat}{c:Nat}(h:AddInv xs ys l xs.length c)(hl:ys.length≤xs.length)(dx:Dig W xs):Dig W (l.set xs.length c)∧val W (l.set xs.length c)=val W xs+val W ys:=by
 obtain⟨h1,h2,h3,h4,h5⟩:=h;refine⟨h2.set (by rw[W_eq];omega),?_⟩;rw[List.take_of_length_le (Nat.le_refl _),List.take_of_length_le hl]at h4;rw[val_split _ xs.length (by simp;omega),List.take_set_of_le (Nat.le_refl _),val_drop _ xs.length (by simp;omega),List.getElem_set_self,List.drop_of_length_le (by simp;omega)];simp only[val,Nat.mul_zero,Nat.add_zero];exact h4
set_option maxHeartbeats 2000000 in
theorem add_core(va vb:Value)(ad ad2:Option Addr)(cap cap2:Nat)(xs ys:List Nat)(w:World)(hr:Rd w ad (vals .u64 xs))(hr2:Rd w ad2 (vals .u64 ys))
  (hab:(va= .slice ad xs.length cap∧vb= .slice ad2 ys.length cap2∧ys.length≤xs.length)∨(va= .slice ad2 ys.length cap2∧vb= .slice ad xs.length cap∧ys.length<xs.length))
  (hlen:xs.length≤1099511627776) (dx:Dig W xs) (dy:Dig W ys):
  Calls Tryz.prog 100 #[va,vb] w fun e w'=>∃v',e= .returned v'∧FrN 61 .u64 W w.heap.size w' v' (val W xs+val W ys)∧Ext w w':=by
 have hadd:=add64_run
 rcases hab with⟨rfl,rfl,hlt⟩ |⟨rfl,rfl,hlt⟩
 all_goals
  go_enter Tryz.func100,Tryz.ntmps100
  go_wp2_with (at_make;refine wpList_make_vals _ rfl _ _ 32 rfl 61 .u64 8 Tryz.underlying32 info61 .i64 .i64 _ _ (xs.length+1) rfl rfl (by omega) (by omega) (by omega) (by omega) ?_)
  intro w1 g hext hg hblk;go_wp2_with fail
  go_loopw [6,21] (fun c i wr=>∃(k cc:Nat) (l:List Nat),i= .int .i64 k∧c= .int .u64 cc∧AddInv xs ys l k cc∧BlkAt 61 .u64 wr g l []∧Ext w wr) (fun _ i _=>xs.length - (intOf i).toNat)
  case atStart=>exact ⟨0,0,_,rfl,rfl,⟨by simp,Dig.replicate (by rw[W_eq];omega) _,by omega,by simp[val],Nat.zero_le _⟩,hblk,hext⟩
  case round=>
   obtain⟨k,c,l,rfl,rfl,hinv,hbl,hex⟩:=hrel;have hc1:=hinv.2.2.1;have hk1:=hinv.2.2.2.2
   have hl1:l.length=xs.length+1:=hinv.1
   by_cases hlt2:k<xs.length
   ·obtain⟨b,off,rfl,hcells⟩:=hr.at (by rw[vals_length];omega);have hcell:=hex.cell (hcells k _ (vals_get .u64 xs k hlt2));clear hcells hblk hext;obtain⟨old,hout⟩:=hbl.got k (by omega);have hfr:=hbl.free k;have hcc:=hadd xs[k] (gD ys k) c hc1;have Hinv:=Lib.hid (hinv.step hlt2 dx dy);have Hl1:=Lib.hid hl1;clear hinv hadd hl1;have hr2':=hr2.ext hex
    have hb1:(k:Int)<(xs.length:Int)+1:=by omega
    generalize (xs[k]+gD ys k+c) % W=dd at hcc Hinv
    generalize (xs[k]+gD ys k+c) / W=bb at hcc Hinv
    go_wp2_with fail
    refine wp_region_store g 15 [isV (.slice (some ⟨g,0,none⟩) (xs.length+1) (xs.length+1)),isV (.int .i64 k),isV (.slice (some ⟨b,off,none⟩) xs.length cap),isV (.int .i64 k),isV (.pointer (some ⟨b,off+k,none⟩)),isV (.int .u64 xs[k]),isV (.slice ad2 ys.length cap2),isV (.int .i64 k),isV (.int .u64 (gD ys k)),isV (.int .u64 c),
      isV (.tuple #[.int .u64 (dd:Int),.int .u64 (bb:Int)]),isV (.tuple #[.int .u64 (dd:Int),.int .u64 (bb:Int)]),
      isV (.int .u64 (dd:Int)),isV (.int .u64 (bb:Int)),isV (.pointer (some ⟨g,k,none⟩)),
      fun _ w=>BlkAt 61 .u64 w g (l.set k dd) [],isV (.int .u64 (bb:Int))]
     [(9,16,6)] [5,8,15]
     (by kernel_rfl) (by kernel_rfl) (fun f=>(by simp only[fillR,fillL,List.setIfInBounds_toArray,List.set_cons_succ,List.set_cons_zero,Nat.reduceAdd];rfl)) ?_ ?_ ?_ ?_
    ·repeat (first |exact trivial |refine ⟨fun v wa wb h hp=>(by first |exact hp |exact BlkAt.ext hp h),?_⟩)
    ·repeat (first |exact trivial |refine ⟨fun v wa wb h hp=>(by first |exact hp |exact BlkAt.ext hp h),?_⟩)
    ·refine⟨?_,?_,?_,?_,?_,?o5,?_,?_,?o8,?_,?_,?_,?_,?_,?_,?o15,?_,trivial⟩
     case o5=>
      intro f w2 hG hpre hp hl
      simp[PostsOf,pl,isV,Region.binds]at hp
      simp[PreFacts]at hpre
      have hcell2:=hpre.cell hcell;simp only[OpGoal];go_simp;exact⟨_,rfl,Ext.refl _,rfl⟩
     case o8=>
      intro f w2 hG hpre hp hl
      simp[PostsOf,pl,isV,Region.binds]at hp
      simp[PreFacts]at hpre
      simp only[OpGoal];go_simp;refine(at_calls ad2 cap2 ys k w2 (hr2'.ext hpre) (by omega) (by omega)).mono ?_;rintro e w' ⟨rfl,rfl⟩;exact⟨_,rfl,Ext.refl _,rfl⟩
     case o15=>
      intro f w2 hG hpre hp hl
      simp[PostsOf,pl,isV,Region.binds]at hp
      simp[PreFacts]at hpre
      have hb2:=hbl.ext hpre;obtain⟨old,hout⟩:=hb2.got k (by have:=Hl1.out;omega);have hfree2:=hb2.free k;simp only[OpGoal];go_simp;exact⟨undef,rfl,Chg.setCell _ _ _ _,hb2.set k _ (by have:=Hl1.out;omega)⟩
     all_goals
      intro f w2 hG hpre hp hl
      simp[PostsOf,pl,isV,Region.binds]at hp
      simp[LateFacts]at hl
      simp only[OpGoal];go_simp;exact⟨_,rfl,Ext.refl _,rfl⟩
    ·intro f w2 hG hp
     simp[AllPosts,pl,isV]at hp
     obtain⟨p0,p1,p2,p3,p4,p5,p6,p7,p8,p9,p10,p11,p12,p13,p14,p15,p16⟩:=hp;have P15:=Lib.hid p15;clear p15;go_wp2;go_roundw
     case rel=>exact ⟨k+1,bb,_,rfl,p16,Hinv.out,P15.out,hex.step hG hg⟩
     case measure=>simp [intOf];omega
   ·have hk:k=xs.length:=by omega
    subst hk;obtain⟨old,hout⟩:=hbl.got xs.length (by omega);have hfr:=hbl.free xs.length;have Hfin:=Lib.hid (hinv.finish (by omega) dx);have Hb2:=Lib.hid (BlkAt.set (w:=wr) hbl xs.length c (by omega));have Hex2:=hex.setCell (p:=⟨g,xs.length,none⟩) hg (.int .u64 c);have Hl1:=Lib.hid hl1;clear hinv hadd hl1 hblk hext hr2 hr;go_wp2_with fail;refine(bare_calls (some ⟨g,0,none⟩) (xs.length+1) (xs.length+1) (l.set xs.length c) _ (by rw[List.length_set];exact Hl1.out) Hb2.out.rd (by omega) (by omega)).mono ?_;rintro e w' ⟨rfl,rfl⟩;go_wp2;go_ret;exact⟨_,rfl,Hb2.out.frN hg W_gt Hfin.out.1 Hfin.out.2 (by rw[List.length_set];exact Hl1.out) (by omega),Hex2⟩
set_option maxHeartbeats 400000 in
theorem add_calls(v u:Value)(x y:Nat)(w:World)(hv:IsN .u64 W w v x)(hu:IsN .u64 W w u y):
  Calls Tryz.prog 100 #[v,u] w fun e w'=>∃v',e= .returned v'∧FrN 61 .u64 W w.heap.size w' v' (x+y)∧Ext w w':=by
 obtain⟨xs,⟨ad,cap,rfl,hlc,hcap,hr⟩,hlen,hd,rfl⟩:=hv;obtain⟨ys,⟨ad2,cap2,rfl,hlc2,hcap2,hr2⟩,hlen2,hd2,rfl⟩:=hu;rw[LIM_eq]at hlen hlen2
 rcases Nat.lt_or_ge xs.length ys.length with h |h
 ·have:=add_core _ _ ad2 ad cap2 cap ys xs w hr2 hr (.inr ⟨rfl,rfl,h⟩) hlen2 hd2 hd
  rwa [Nat.add_comm]at this
 ·exact add_core _ _ ad ad2 cap cap2 xs ys w hr hr2 (.inl ⟨rfl,rfl,h⟩) hlen hd hd2
end Go.Proofs.YthoibjnkhkjnjaaGreat
