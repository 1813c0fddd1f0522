/-
 nat.takeOff: so many times the divisor is taken off, and put on again if that was once too often.
-/
import Derived.Test.YthoibjnkhkjnjaaGreatDicZ
import Derived.Test.YthoibjnkhkjnjaaGreatBasZ
namespace Go.Proofs.YthoibjnkhkjnjaaGreat
set_option maxRecDepth 100000
set_option maxHeartbeats 1000000
open Go.RowKit
set_option linter.unusedVariables false
set_option linter.unusedSimpArgs false
def SegAt(e:TypeId)(k:IntKind)(w:World)(g off:Nat)(pre:List Value)(xs:List Nat)(post:List Value):Prop:=
 pre.length=off∧w.heap[g]? =some (.cells (pre++(vals k xs++post)).toArray e (0,0))
section
variable {w:World} {g off:Nat} {k:IntKind} {xs:List Nat} {pre post:List Value} {e:TypeId}
theorem SegAt.cell(h:SegAt e k w g off pre xs post)(i:Nat)(hi:i<xs.length):w.cell? ⟨g,off+i,none⟩=some (.int k (gD xs i:Int)):=by
 rw[cell_of_row w g _ _ e _ h.2]
 have:=vals_get k xs i hi
 rw[gD_lt hi,List.getElem?_toArray,List.getElem?_append_right (by have:=h.1;omega),List.getElem?_append_left (by rw[vals_length];have:=h.1;omega),←this]
 congr 1
 have:=h.1
 omega
theorem SegAt.free(h:SegAt e k w g off pre xs post)(i:Nat):w.frozen? ⟨g,i,none⟩=false:=frozen_of_row w g i _ e h.2
theorem SegAt.set(h:SegAt e k w g off pre xs post)(i y:Nat)(hi:i<xs.length):SegAt e k (w.setCell ⟨g,off+i,none⟩ (.int k (y:Int))) g off pre (xs.set i y) post:=by
 refine⟨h.1,?_⟩;rw[heap_setCell_same w g _ _ e _ h.2]
 congr 2
 rw[←vals_set];have h1:=h.1;simp only[List.setIfInBounds_toArray];rw[List.set_append_right _ _ (by omega),show off+i - pre.length=i by omega,List.set_append_left _ _ (by rw[vals_length];exact hi)]
end
def Away(g:Nat)(ad:Option Addr):Prop:=∀a,ad=some a→a.block≠g
theorem Rd.chg{w w':World}{ad:Option Addr}{xs:List Value}{g:Nat}(h:Rd w ad xs)(he:Chg g w w')(ha:Away g ad):Rd w' ad xs:=by
 rcases h with h |⟨b,off,h1,h2⟩
 ·exact .inl h
 ·refine .inr ⟨b,off,h1,fun i v hi=> ?_⟩;have hc:=h2 i v hi;exact(World.cell?_of_block (w:=w) (he.heap (k:=b) (World.block_lt_of_cell? w _ hc) (ha _ h1))).trans hc
def OffInv(q:Nat)(ss ys l:List Nat)(i c b:Nat):Prop:=
 l.length=ss.length∧Dig W l∧c<W∧b≤1∧val W (l.take i)+q*val W (ys.take i)=val W (ss.take i)+W^i*(c+b)∧l.drop i=ss.drop i∧i≤ys.length
theorem drop_tail{l m:List Nat}{i y:Nat}(h:l.drop i=m.drop i):(l.set i y).drop (i+1)=m.drop (i+1):=by
 rw[List.drop_set_of_lt (by omega)]
 have:=congrArg (List.drop 1) h
 simpa[List.drop_drop,Nat.add_comm]using this
theorem drop_gD{l m:List Nat}{i:Nat}(h:l.drop i=m.drop i):gD l i=gD m i:=by
 have:=congrArg (fun t=>t[0]?) h
 simp only[List.getElem?_drop,Nat.add_zero]at this
 simp[gD,List.getD,this]
theorem sub_word{a t b:Nat}(ha:a<W)(ht:t<W)(hb:b≤1):(a+W - t - b) % W+t+b=a+W*(if a<t+b then 1 else 0):=by
 split
 ·rw[Nat.mod_eq_of_lt (by omega)];omega
 ·have:a+W - t - b=(a - t - b)+W:=by omega
  rw[this,Nat.add_mod_right,Nat.mod_eq_of_lt (by omega)];omega
theorem OffInv.step{q:Nat}{ss ys l:List Nat}{i c b:Nat}(h:OffInv q ss ys l i c b)(hs:ss.length=ys.length+1)(hi:i<ys.length)(hq:q<W)(ds:Dig W ss)(dy:Dig W ys)(t c':Nat)
  (ht:(q*gD ys i+c) % W=t) (hc:(q*gD ys i+c) / W=c'):
  OffInv q ss ys (l.set i ((gD ss i+W - t - b) % W)) (i+1) c' (if gD ss i<t+b then 1 else 0):=by
 obtain⟨h1,h2,h3,h4,h5,h6,h7⟩:=h
 have hW:0<W:=by rw[W_eq];omega
 have ha:=ds.gD hW i;have hy:=dy.gD hW i
 have htl:t<W:=by rw[←ht];exact Nat.mod_lt _ hW
 have key:=sub_word ha htl h4;have e:=Nat.mod_add_div (q*gD ys i+c) W;rw[ht,hc]at e
 have hc':c'<W:=by
  rw[←hc];refine Nat.div_lt_of_lt_mul ?_
  have:=row_bound (x:=q) (y:=gD ys i) (p:=c) (c:=0) hq hy h3 hW
  omega
 refine⟨by simpa using h1,h2.set (Nat.mod_lt _ hW),hc',by split<;>omega,?_,drop_tail h6,by omega⟩
 generalize (gD ss i+W - t - b) % W=d at*
 generalize (if gD ss i<t+b then 1 else 0:Nat)=b' at*
 rw[val_take_succ _ _ (by simp;omega),List.getElem_set_self,List.take_set_of_le (Nat.le_refl _),take_getD ys i,take_getD ss i];have e1:=congrArg (W^i* ·) key;have e2:=congrArg (W^i* ·) e;simp only[Nat.mul_add]at e1 e2
 have e3:q*(W^i*gD ys i)=W^i*(q*gD ys i):=by ac_rfl
 rw[Nat.mul_add q,e3,Nat.pow_succ,Nat.mul_assoc (W^i) W,Nat.mul_add W,Nat.mul_add (W^i)];rw[Nat.mul_add]at h5
 omega
theorem val_end(l:List Nat)(n:Nat)(h:l.length=n+1):val W l=val W (l.take n)+W^n*gD l n:=by
 rw[val_split l n (by omega),val_drop l n (by omega),List.drop_of_length_le (by omega),←gD_lt (by omega)]
 simp[val]
theorem val_set_end(l:List Nat)(n d:Nat)(h:l.length=n+1):val W (l.set n d)=val W (l.take n)+W^n*d:=by
 rw[val_end _ n (by simpa using h),List.take_set_of_le (Nat.le_refl _),gD_lt (by simp;omega),List.getElem_set_self]
theorem OffInv.last{q:Nat}{ss ys l:List Nat}{c b d b':Nat}(h:OffInv q ss ys l ys.length c b)(hs:ss.length=ys.length+1)(hd:d<W)(key:d+c+b=gD ss ys.length+W*b'):
  Dig W (l.set ys.length d)∧val W (l.set ys.length d)+q*val W ys=val W ss+W^(ys.length+1)*b':=by
 obtain⟨h1,h2,h3,h4,h5,h6,h7⟩:=h;refine⟨h2.set hd,?_⟩;rw[List.take_of_length_le (Nat.le_refl ys.length)]at h5;have e1:=congrArg (W^ys.length* ·) key;simp only[Nat.mul_add]at e1 h5;rw[val_set_end l ys.length d (by omega),val_end ss ys.length hs,Nat.pow_succ,Nat.mul_assoc]
 omega
def OnInv(ss ys l:List Nat)(i c:Nat):Prop:=
 l.length=ss.length∧Dig W l∧c≤1∧val W (l.take i)+W^i*c=val W (ss.take i)+val W (ys.take i)∧l.drop i=ss.drop i∧i≤ys.length
theorem OnInv.step{ss ys l:List Nat}{i c:Nat}(h:OnInv ss ys l i c)(hs:ss.length=ys.length+1)(hi:i<ys.length)(ds:Dig W ss)(dy:Dig W ys):
  OnInv ss ys (l.set i ((gD ss i+gD ys i+c) % W)) (i+1) ((gD ss i+gD ys i+c) / W):=by
 obtain⟨h1,h2,h3,h4,h5,h6⟩:=h
 have hW:0<W:=by rw[W_eq];omega
 have hxi:=ds.gD hW i;have hyi:=dy.gD hW i;refine⟨by simpa using h1,h2.set (Nat.mod_lt _ hW),?_,?_,drop_tail h5,by omega⟩
 ·have:(gD ss i+gD ys i+c) / W<2:=Nat.div_lt_of_lt_mul (by omega)
  omega
 ·rw[val_take_succ _ _ (by simp;omega),List.getElem_set_self,List.take_set_of_le (Nat.le_refl _),take_getD ss i,take_getD ys i];have e:=Nat.mod_add_div (gD ss i+gD ys i+c) W
  have e2:W^i*((gD ss i+gD ys i+c) % W)+W^(i+1)*((gD ss i+gD ys i+c) / W)=W^i*(gD ss i+gD ys i+c):=by
   rw[Nat.pow_succ,Nat.mul_assoc,←Nat.mul_add,e]
  simp only[Nat.mul_add]at e2
  omega
theorem OnInv.last{ss ys l:List Nat}{c:Nat}(h:OnInv ss ys l ys.length c)(hs:ss.length=ys.length+1):
  Dig W (l.set ys.length ((gD ss ys.length+c) % W))∧∃o,val W (l.set ys.length ((gD ss ys.length+c) % W))+W^(ys.length+1)*o=val W ss+val W ys:=by
 obtain⟨h1,h2,h3,h4,h5,h6⟩:=h
 have hW:0<W:=by rw[W_eq];omega
 refine⟨h2.set (Nat.mod_lt _ hW),(gD ss ys.length+c) / W,?_⟩;have e:=Nat.mod_add_div (gD ss ys.length+c) W
 generalize (gD ss ys.length+c) % W=d at*
 generalize (gD ss ys.length+c) / W=o at*
 rw[List.take_of_length_le (Nat.le_refl ys.length)]at h4;have e1:=congrArg (W^ys.length* ·) e;simp only[Nat.mul_add]at e1;rw[val_set_end l ys.length d (by omega),val_end ss ys.length hs,Nat.pow_succ,Nat.mul_assoc]
 omega
theorem off_right{S V q R:Nat}(hV:0<V)(h:R+q*V=S)(hq:S / V≤q):q=S / V∧R=S % V:=by
 have h1:q≤S / V:=by rw[Nat.le_div_iff_mul_le hV];omega
 have h2:q=S / V:=by omega
 have e:=Nat.div_add_mod S V;rw[←h2,Nat.mul_comm]at e;exact⟨h2,by omega⟩
theorem off_again{S V q R R2 P o:Nat}(hV:0<V)(h:R+q*V=S+P)(h2:R2+P*o=R+V)(hR:R<P)(hR2:R2<P)(hVP:V≤P)(hq:q≤S / V+1):q - 1=S / V∧R2=S % V:=by
 have hSq:S<q*V:=by omega
 have h3:S / V<q:=by rw[Nat.div_lt_iff_lt_mul hV];exact hSq
 have h4:q=S / V+1:=by omega
 have e:=Nat.div_add_mod S V;have hm:=Nat.mod_lt S hV
 have h7:q*V=V*(S / V)+V:=by rw[h4,Nat.add_mul,Nat.one_mul,Nat.mul_comm]
 refine⟨by rw[h4,Nat.add_sub_cancel],?_⟩;rw[h7]at h
 generalize V*(S / V)=z at h e
 generalize S % V=m at*
 clear h7 h4 h3 hSq hq
 have h5:R+V=m+P:=by omega
 have h6:R2+P*o=m+P:=by omega
 rcases Nat.lt_trichotomy o 1 with ho |ho |ho
 ·have:o=0:=by omega
  subst this
  omega
 ·subst ho
  omega
 ·have:P*2≤P*o:=Nat.mul_le_mul_left _ ho
  omega
set_option maxHeartbeats 2000000 in
theorem takeOff_calls(g off cap cap2:Nat)(ad2:Option Addr)(pre post:List Value)(ss ys:List Nat)(q:Nat)(w:World)(hseg:SegAt 61 .u64 w g off pre ss post)(hs:ss.length=ys.length+1)
  (hr2:Rd w ad2 (vals .u64 ys)) (haw:Away g ad2) (hlen:ys.length≤1099511627776) (hq:q<W) (ds:Dig W ss) (dy:Dig W ys) (hV:0<val W ys) (hq1:val W ss / val W ys≤q) (hq2:q≤val W ss / val W ys+1):
  Calls Tryz.prog 92 #[.slice (some ⟨g,off,none⟩) (ys.length+1) cap,.slice ad2 ys.length cap2,.int .u64 (q:Int)] w fun e w'=>∃ss',e= .returned (.int .u64 ((val W ss / val W ys:Nat):Int))∧
   ss'.length=ys.length+1∧Dig W ss'∧val W ss'=val W ss % val W ys∧SegAt 61 .u64 w' g off pre ss' post∧Chg g w w':=by
 have Hs:=Lib.hid hs;have Hq1:=Lib.hid hq1;have Hq2:=Lib.hid hq2
 have hypos:0<ys.length:=by
  rcases Nat.eq_zero_or_pos ys.length with h |h
  ·rw[List.eq_nil_of_length_eq_zero h]at hV;simp[val]at hV
  ·exact h
 have HV:=Lib.hid hV;clear hs hq1 hq2 hV;have hsub:=sub64_run;have hadd:=add64_run0;have hadd3:=add64_run
 go_enter Tryz.func92,Tryz.ntmps92
 go_wp2_with fail;obtain⟨b2,off2,rfl,hcells2⟩:=hr2.at (by rw[vals_length];omega)
 go_loopw [7,8,18] (fun bo ca i wr=>∃(k c b:Nat) (l:List Nat),i= .int .i64 k∧ca= .int .u64 c∧bo= .int .u64 b∧OffInv q ss ys l k c b∧SegAt 61 .u64 wr g off pre l post∧Chg g w wr) (fun _ _ i _=>ys.length - (intOf i).toNat)
 case atStart=>exact ⟨0,0,0,ss,rfl,rfl,rfl,⟨rfl,ds,by rw[W_eq];omega,by omega,by simp[val],rfl,Nat.zero_le _⟩,hseg,Chg.refl g w⟩
 case round=>
  obtain⟨k,c,b,l,rfl,rfl,rfl,hinv,hsg,hch⟩:=hrel;have hk1:=hinv.2.2.2.2.2.2;have hb1:=hinv.2.2.2.1;have Hl1:=Lib.hid (hinv.1.trans Hs.out);clear hseg;have hr3:=hr2.chg hch haw
  by_cases hlt:k<ys.length
  ·have hcell2:wr.cell? ⟨b2,off2+k,none⟩=some (.int .u64 (gD ys k:Int)):=by
    have hc:=hcells2 k _ (vals_get .u64 ys k hlt);rw[←gD_lt hlt]at hc;exact(World.cell?_of_block (w:=w) (hch.heap (k:=b2) (World.block_lt_of_cell? w _ hc) (haw _ rfl))).trans hc
   have hcell:=hsg.cell k (by have:=Hl1.out;omega);rw[drop_gD hinv.2.2.2.2.2.1]at hcell;have hfree:=hsg.free (off+k);have hW:1<W:=W_gt;have hwords:=words_row hW hq (dy.gD (by omega) k) (show 0<W by omega) hinv.2.2.1;have hstep:=hinv.step Hs.out hlt hq ds dy _ _ rfl rfl;have hcW:=hinv.2.2.1;simp only[Nat.add_zero]at hwords
   have hw:q*gD ys k / W+(q*gD ys k % W+c) / W≤W - 1∧(q*gD ys k % W+c) % W=(q*gD ys k+c) % W∧q*gD ys k / W+(q*gD ys k % W+c) / W=(q*gD ys k+c) / W:=by
    have hm:q*gD ys k % W<W:=Nat.mod_lt _ (by omega);rw[Nat.div_eq_of_lt hm,Nat.mod_eq_of_lt hm,Nat.add_zero]at hwords;exact⟨hwords.2.1,hwords.2.2.1,hwords.2.2.2⟩
   obtain⟨hw1,hw2,hw3⟩:=hw;rw[←hw2,←hw3]at hstep;have hmul:=Lib.hid (fun(wx:World)=>mul64_calls q (gD ys k) _ _ wx hq (dy.gD (by omega) k) rfl rfl);clear hwords hw2 hw3 hinv
   generalize q*gD ys k / W=hi at*
   generalize q*gD ys k % W=lo at*
   have ha1:=hadd lo c
   generalize (lo+c) / W=c1 at*
   generalize (lo+c) % W=t at*
   have hs1:=hsub (gD ss k) t b hb1;have Hst:=Lib.hid hstep
   generalize (gD ss k+W - t - b) % W=dd at hs1 Hst
   generalize (if gD ss k<t+b then 1 else 0:Nat)=bb at hs1 Hst
   rw[W_eq]at hw1;clear hsub hadd hadd3 hstep hcells2 hr3;go_wp2_with fail;refine(hmul.out wr).mono ?_;rintro e w' ⟨rfl,rfl⟩;go_wp2_with fail;go_roundw
   case rel=>exact ⟨k+1,_,bb,_,by go_num,by go_num,rfl,Hst.out,SegAt.set (w:=wr) hsg k dd (by have:=Hl1.out;omega),hch.trans (Chg.setCell _ _ _ _)⟩
   case measure=>simp [intOf];omega
  ·have hk:k=ys.length:=by omega
   subst hk;have hcell:=hsg.cell ys.length (by have:=Hl1.out;omega);rw[drop_gD hinv.2.2.2.2.2.1]at hcell;have hfree:=hsg.free (off+ys.length);have hs1:=hsub (gD ss ys.length) c b hb1;have hkey:=sub_word (ds.gD (by rw[W_eq];omega) ys.length) hinv.2.2.1 hb1;have hdW:(gD ss ys.length+W - c - b) % W<W:=Nat.mod_lt _ (by rw[W_eq];omega)
   have hbb:(if gD ss ys.length<c+b then 1 else 0:Nat)≤1:=by split<;>omega
   generalize (gD ss ys.length+W - c - b) % W=dd at*
   generalize (if gD ss ys.length<c+b then 1 else 0:Nat)=bb at*
   have Hlast:=Lib.hid (hinv.last Hs.out hdW hkey);have hsg2:=SegAt.set hsg ys.length dd (by have:=Hl1.out;omega);have Hch2:=Lib.hid (hch.trans (Chg.setCell wr g (off+ys.length) (.int .u64 (dd:Int))))
   have Hl2:Hid ((l.set ys.length dd).length=ys.length+1):=by show(l.set ys.length dd).length=ys.length+1;rw[List.length_set];exact Hl1.out
   clear hinv hkey hsub hadd;have Hcells2:=Lib.hid hcells2;clear hcells2
   rcases Nat.eq_zero_or_pos bb with hb0 |hb0
   ·subst hb0;go_wp2_with fail;go_ret;obtain⟨r1,r2⟩:=off_right HV.out (by have:=Hlast.out.2;rw[Nat.mul_zero,Nat.add_zero]at this;exact this) Hq1.out;exact⟨l.set ys.length dd,by rw[←r1];rfl,Hl2.out,Hlast.out.1,r2,hsg2,Hch2.out⟩
   ·have hbe:bb=1:=by omega
    subst hbe;go_wp2_with fail;have hm:Hid (Dig W (l.set ys.length dd)):=Hlast.out.1;obtain⟨m,hme⟩:∃m,l.set ys.length dd=m:=⟨_,rfl⟩;rw[hme]at hsg2 Hl2 hm Hlast;clear hme hsg hch hcell hfree hs1 Hl1;obtain⟨w2,hw2⟩:∃w2,wr.setCell ⟨g,off+ys.length,none⟩ (Value.int .u64 (dd:Int))=w2:=⟨_,rfl⟩;rw[hw2]at hsg2 Hch2 ⊢;clear hw2
    go_loopw [8,72] (fun ca i wr=>∃(k c:Nat) (l:List Nat),i= .int .i64 k∧ca= .int .u64 c∧OnInv m ys l k c∧SegAt 61 .u64 wr g off pre l post∧Chg g w wr) (fun _ i _=>ys.length - (intOf i).toNat)
    case atStart=>exact ⟨0,0,m,rfl,rfl,⟨rfl,hm.out,by omega,by simp[val],rfl,Nat.zero_le _⟩,hsg2,Hch2.out⟩
    case round=>
     clear hsg2;obtain⟨k,c,l,rfl,rfl,hinv,hsg,hch⟩:=hrel;have hk1:=hinv.2.2.2.2.2;have hc1:=hinv.2.2.1;have Hl1:=Lib.hid (hinv.1.trans Hl2.out)
     by_cases hlt:k<ys.length
     ·have hcell2:wr.cell? ⟨b2,off2+k,none⟩=some (.int .u64 (gD ys k:Int)):=by
       have hc:=Hcells2.out k _ (vals_get .u64 ys k hlt);rw[←gD_lt hlt]at hc;exact(World.cell?_of_block (w:=w) (hch.heap (k:=b2) (World.block_lt_of_cell? w _ hc) (haw _ rfl))).trans hc
      have hcell:=hsg.cell k (by have:=Hl1.out;omega);rw[drop_gD hinv.2.2.2.2.1]at hcell;have hfree:=hsg.free (off+k);have hs1:=hadd3 (gD m k) (gD ys k) c hc1;have Hst:=Lib.hid (hinv.step Hl2.out hlt hm.out dy)
      generalize (gD m k+gD ys k+c) % W=d2 at hs1 Hst
      generalize (gD m k+gD ys k+c) / W=c2 at hs1 Hst
      clear hinv hadd3;go_wp2_with fail;go_roundw
      case rel=>exact ⟨k+1,c2,_,by go_num,rfl,Hst.out,SegAt.set (w:=wr) hsg k d2 (by have:=Hl1.out;omega),hch.trans (Chg.setCell _ _ _ _)⟩
      case measure=>simp [intOf];omega
     ·have hk:k=ys.length:=by omega
      subst hk;have hcell:=hsg.cell ys.length (by have:=Hl1.out;omega);rw[drop_gD hinv.2.2.2.2.1]at hcell;have hfree:=hsg.free (off+ys.length);obtain⟨hd3,o,ho⟩:=hinv.last Hl2.out
      have hw:IntKind.u64.wrap ((gD m ys.length:Int)+(c:Int))=(((gD m ys.length+c) % W:Nat):Int):=by
       rw[IntKind.wrap_u64,W_eq];omega
      generalize (gD m ys.length+c) % W=d2 at*
      have hsg3:=SegAt.set hsg ys.length d2 (by have:=Hl1.out;omega);have Hch3:=Lib.hid (hch.trans (Chg.setCell wr g (off+ys.length) (.int .u64 (d2:Int))));have Hd3:=Lib.hid hd3
      have hq1:1≤q:=by
       rcases Nat.eq_zero_or_pos q with h0 |h0
       ·subst h0;have e:=Hlast.out.2;have h1:=val_lt (show 0<W by rw[W_eq];omega) hm.out;rw[Hl2.out]at h1
        simp at e
        omega
       ·exact h0
      have hql:q≤18446744073709551615:=by rw[W_eq]at hq;omega
      obtain⟨r1,r2⟩:=off_again (P:=W^(ys.length+1)) HV.out (by have:=Hlast.out.2;rwa [Nat.mul_one]at this) ho
       (by have:=val_lt (show 0<W by rw[W_eq];omega) hm.out;rwa [Hl2.out]at this)
       (by have:=val_lt (show 0<W by rw[W_eq];omega) hd3;rwa [List.length_set,Hl1.out]at this)
       (by
        have:=val_lt (show 0<W by rw[W_eq];omega) dy
        exact Nat.le_of_lt (Nat.lt_of_lt_of_le this (Nat.pow_le_pow_right (by rw[W_eq];omega) (by omega)))) Hq2.out
      have R1:=Lib.hid r1;have R2:=Lib.hid r2;clear hinv hadd3 ho hd3 r1 r2;go_wp2_with fail;go_ret;refine⟨l.set ys.length d2,ret_int (a:=(q:Int) - 1) ?_,by rw[List.length_set];exact Hl1.out,Hd3.out,R2.out,hsg3,Hch3.out⟩;rw[←R1.out];omega
theorem zeroCells_one(z:Value)(n:Nat):Builtin.zeroCells #[z] n=Array.replicate n z:=by
 apply Array.ext'
 simp[Builtin.zeroCells]
 apply List.ext_getElem
 ·simp
 ·intro i h1 h2;simp[Nat.mod_one]
section
variable {P:Program} (w:World) (t ti ty e:TypeId) (i:TypeInfo) (z:Value) (ki:IntKind) (ht:P.underlying t=some (.slice e)) (hti:P.underlying ti=some (.int ki)) (hi:P.info? e=some i) (hz:i.zero=some z) (hzc:z.cells=#[z]) (hs:i.size=1)
 (g sLen sCap:Nat) (cur:Array Value) (hg:w.heap[g]? =some (.cells cur e (0,0))) (hcs:cur.size=sCap) (hle:sLen≤sCap)
 (n:Nat) (hn:n≤9223372036854775807) (hb:n*i.bytes≤281474976710656)
include ht hti hi hz hzc hs hg hcs hle hn hb
theorem run_append_zeros_room(hone:z.oneCell'=true)(hroom:sLen+n≤sCap):
  (Builtin.append_ #[t,ti] ty #[.slice (some ⟨g,0,none⟩) sLen sCap,.int .i64 (n:Int)]).run P w=
   .ok (.slice (some ⟨g,0,none⟩) (sLen+n) sCap) (w.setRow g (cur.toList.take sLen++List.replicate n z++cur.toList.drop (sLen+n)).toArray):=by
 have wl:IntKind.i64.wrap (n:Int)=(n:Int):=by rw[IntKind.wrap_i64];omega
 have n1:¬((n:Int)<0):=by omega
 have n2:¬(281474976710656<(n:Int)*(i.bytes:Int)):=by rw[←Int.natCast_mul];omega
 have hst:=run_storeCells_at P g sLen e (List.replicate n z) 0 cur w hg (by simp;omega) (by intro v hv;rw[(List.mem_replicate.1 hv).2];exact hone);simp only[Nat.add_zero,List.length_replicate]at hst
 by_cases h0:n=0
 ·subst h0
  have e1:(cur.toList.take sLen++List.replicate 0 z++cur.toList.drop (sLen+0)).toArray=cur:=by simp
  rw[e1]
  have:=setRow_self w g cur e (0,0) hg
  simp only[List.replicate_zero]at hst
  have w0:IntKind.i64.wrap 0=0:=by decide
  simp[w0,Builtin.append_,run_underlying ht,run_underlying hti,sizeOf,typeInfo,hi,asInt,asIntOf,hs,hle,Addr.add_lit,this,storeCells]
 ·simp[Builtin.append_,run_underlying ht,run_underlying hti,sizeOf,typeInfo,zeroValue,hi,hz,asInt,asIntOf,hs,wl,n1,n2,hroom,h0,Addr.add_lit,hzc,zeroCells_one,hst]
theorem run_append_zeros_grow(hroom:¬sLen+n≤sCap)(h63:sLen+n≤9223372036854775807)(hfit:Builtin.nextslicecap (sLen+n) sCap*i.bytes≤281474976710656):
  (Builtin.append_ #[t,ti] ty #[.slice (some ⟨g,0,none⟩) sLen sCap,.int .i64 (n:Int)]).run P w=
   .ok (.slice (some ⟨w.heap.size,0,none⟩) (sLen+n) (grownCap w (sLen+n) sCap e))
    (w.drew.alloc (.cells ((cur.toList.take sLen).toArray++Array.replicate n z++Array.replicate (grownCap w (sLen+n) sCap e - (sLen+n)) z) e)):=by
 have wl:IntKind.i64.wrap (n:Int)=(n:Int):=by rw[IntKind.wrap_i64];omega
 have n1:¬((n:Int)<0):=by omega
 have n2:¬(281474976710656<(n:Int)*(i.bytes:Int)):=by rw[←Int.natCast_mul];omega
 have h0:n≠0:=by omega
 have h63':¬(9223372036854775807<((sLen:Int)+(n:Int))):=by omega
 have h48':¬(281474976710656<Builtin.nextslicecap (sLen+n) sCap*i.bytes):=by omega
 have hcells:∀j v,(cur.toList.take sLen)[j]? =some v→w.drew.cell? ((⟨g,0,none⟩:Addr).add j)=some v:=by
  intro j v hj
  have hadd:(⟨g,0,none⟩:Addr).add j=⟨g,j,none⟩:=by unfold Addr.add;split<;>simp_all
  rw[hadd,World.cell?_drew,cell_of_row w g j cur e (0,0) hg];rw[List.getElem?_take]at hj
  split at hj
  ·simpa using hj
  ·cases hj
 have hfo:=run_firstCells_some (P:=P) w.drew i.size sLen ⟨g,0,none⟩ sLen sCap (cur.toList.take sLen) (by rw[hs,List.length_take];simp;omega) hcells;rw[hs]at hfo
 simp[Builtin.append_,run_underlying ht,run_underlying hti,sizeOf,typeInfo,zeroValue,hi,hz,asInt,asIntOf,hs,wl,n1,n2,hroom,h0,h63',h48',Question.forced,hfo,newRow,grownCap,hzc,zeroCells_one]
end
theorem wpList_append_zeros{P:Program}(w:World){ops:Array Oper}{rest:List Oper}{o:Oper}{a:Act}{Q:Exit→Act→World→Prop}
  (hgd:o.guard=none) (s x:Operand) (t ti:TypeId) (ho:o.op= .call {callee:= .builtin .append,args:=#[s,x],argTypes:=#[t,ti]})
  (e:TypeId) (k ki:IntKind) (bytes:Nat) (h1:P.underlying t=some (.slice e)) (hti:P.underlying ti=some (.int ki)) (h2:(P.info? e).map (fun i=>(i.zero,i.size,i.bytes))=some (some (.int k 0),1,bytes))
  (B0:Nat) (v:Value) (xs:List Nat) (n:Nat) (hs:a.eval s=v) (hx:a.eval x= .int .i64 (n:Int)) (hpos:0<xs.length)
  (hfr:FrL e k B0 w v xs) (hb:(xs.length+n)*bytes≤140737488355328) (hl:xs.length+n≤9223372036854775807) (hB:B0≤w.heap.size)
  (hK:∀v' w',FrL e k B0 w' v' (xs++List.replicate n 0)→w.grownBy w' v.ownBlock→wpList P ops Q rest (a.put o.dst v') w'):
  wpList P ops Q (o::rest) a w:=by
 obtain⟨i,hi,hz0,hz1,hz2⟩:=info_parts h2;obtain⟨ad,cap,rfl,hlc,hcap,hown⟩:=hfr
 rcases hown with⟨hn,_⟩ |⟨g,cur,rfl,hg,hh,hsz,htk⟩
 ·rw[vals_nil.1 hn]at hpos;simp at hpos
 have hbn:n*i.bytes≤281474976710656:=by
  rw[hz2]
  have:=Nat.add_mul xs.length n bytes
  omega
 rw[vals_length]at htk
 refine wpList_plain hgd fun K hK'=> ?_
 by_cases hroom:xs.length+n≤cap
 ·have hrun:=run_append_zeros_room w t ti o.type e i (.int k 0) ki h1 hti hi hz0 rfl hz1 g xs.length cap cur hh hsz hlc n (by omega) hbn rfl hroom;unfold Oper.wp;simp only[execOp,ho,resolve,invoke,builtin,Sem.run_bind,Sem.run_pure,Result.andThen_ok,List.map_toArray,List.map_cons,List.map_nil,hs,hx,hrun];refine hK' _ _ (hK _ _ ⟨_,cap,by rw[List.length_append,List.length_replicate],by rw[List.length_append,List.length_replicate];exact hroom,hcap,.inr ⟨g,_,rfl,hg,setRow_heap w g cur _ e _ hh,?_,?_⟩⟩ ⟨rfl,rfl,rfl,by simp,fun k' _ hk=>setRow_other w g k' _ (fun e=>hk (by simp[Value.ownBlock,e]))⟩)
  ·simp only[List.size_toArray,List.length_append,List.length_take,List.length_replicate,List.length_drop,Array.length_toList]
   omega
  ·rw[htk,vals_length,vals_append]
   have e1:vals k (List.replicate n 0)=List.replicate n (.int k 0):=by simp[vals]
   rw[e1]
   have:(xs++List.replicate n 0).length=(vals k xs++List.replicate n (Value.int k 0)).length:=by simp[vals_length]
   rw[this];exact List.take_left
 ·have hrun:=run_append_zeros_grow w t ti o.type e i (.int k 0) ki h1 hti hi hz0 rfl hz1 g xs.length cap cur hh hsz hlc n (by omega) hbn hroom hl (growslice_fits (by omega) (by rw[hz2];exact hb));have hge:=grownCap_ge w (xs.length+n) cap e;have hcm:=grownCap_le_maxLen w (xs.length+n) cap e (by unfold maxLen;omega);unfold Oper.wp;simp only[execOp,ho,resolve,invoke,builtin,Sem.run_bind,Sem.run_pure,Result.andThen_ok,List.map_toArray,List.map_cons,List.map_nil,hs,hx,hrun];refine hK' _ _ (hK _ _ ⟨_,_,by rw[List.length_append,List.length_replicate],by rw[List.length_append,List.length_replicate];exact hge,by simpa[maxLen]using hcm,.inr ⟨w.heap.size,_,rfl,hB,heap_alloc_new w.drew _,?_,?_⟩⟩ ⟨rfl,rfl,rfl,by simp,fun k' hk _=>Below.heap_alloc w.drew _ k' hk⟩)
  ·simp only[Array.size_append,List.size_toArray,Array.size_replicate,List.length_take,Array.length_toList]
   omega
  ·rw[htk,vals_length,vals_append]
   have e1:vals k (List.replicate n 0)=List.replicate n (.int k 0):=by simp[vals]
   rw[e1]
   have:(xs++List.replicate n 0).length=(vals k xs++List.replicate n (Value.int k 0)).length:=by simp[vals_length]
   rw[this];simp only[Array.toList_append,Array.toList_replicate];exact List.take_left
end Go.Proofs.YthoibjnkhkjnjaaGreat
