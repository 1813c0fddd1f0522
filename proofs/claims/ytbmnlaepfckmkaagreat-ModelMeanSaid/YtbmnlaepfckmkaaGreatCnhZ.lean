/-
 Constraints: the document's form, whether a sum is kept, whether numbers keep one, whether one is bare, false, whether two are alike, whether terms are whole (cutwaterref11).
-/
import Derived.Test.YtbmnlaepfckmkaaGreatCnaZ
import Derived.Test.YtbmnlaepfckmkaaGreatCmaZ
namespace Go.Proofs.YtbmnlaepfckmkaaGreat
set_option maxRecDepth 100000
set_option maxHeartbeats 1000000
open Go.RowKit
set_option linter.unusedVariables false
set_option linter.unusedSimpArgs false
def weightC:List CE→Nat
 | []=>0
 |c::l=>(weightE (c.2.1.map Prod.snd)+weightE [c.2.2])+weightC l
def badC(c:CE):Bool:=greatV c.2.1 || decide (6<wordsE c.2.2)
def greatC(l:List CE):Bool:=l.any badC || (decide (12<l.length) || decide (18<weightC l))
theorem greatC_not{l:List CE}(h:greatC l=false):l.length≤12∧∀c∈l,c.2.1.length≤30∧(∀e∈c.2.1,wordsE e.2≤6)∧wordsE c.2.2≤6:=by
 unfold greatC at h;simp only[Bool.or_eq_false_iff,decide_eq_false_iff_not,List.any_eq_false]at h;refine⟨by omega,fun c hc=> ?_⟩;have hb:=h.1 c hc;unfold badC at hb;simp only[Bool.or_eq_true,decide_eq_true_iff,not_or,Bool.not_eq_true]at hb;obtain⟨h1,h2⟩:=greatE_not (l:=c.2.1.map Prod.snd) hb.1;rw[List.length_map]at h1;exact⟨h1,fun e he=>h2 e.2 (List.mem_map_of_mem he),by omega⟩
def sameE(a b:CE):Bool:=decide (a.1=b.1)&&(decide (a.2.1=b.2.1)&&decide ((a.2.2.1=b.2.2.1∧a.2.2.2.1=b.2.2.2.1)∧a.2.2.2.2=b.2.2.2.2))
theorem sameE_iff{a b:CE}:sameE a b=true↔a=b:=by
 obtain⟨s,l,xb,xs,xt⟩:=a;obtain⟨s2,m,yb,ys,yt⟩:=b;unfold sameE;simp only[Bool.and_eq_true,decide_eq_true_iff,Prod.mk.injEq]
 constructor
 ·rintro⟨h1,h2,⟨h3,h4⟩,h5⟩;exact⟨h1,h2,h3,h4,h5⟩
 ·rintro⟨h1,h2,h3,h4,h5⟩;exact⟨h1,h2,⟨h3,h4⟩,h5⟩
theorem sameE_self(a:CE):sameE a a=true:=sameE_iff.2 rfl
set_option maxHeartbeats 4000000 in
theorem sameCons_calls(v u:Value)(a b:CE)(w:World)(hv:CnE w v a)(hu:CnE w u b):
  Calls Tryz.prog 44 #[v,u] w fun e w'=>e= .returned (.bool (sameE a b))∧Ext w w':=by
 obtain⟨s,l,⟨xb,xs,xt⟩⟩:=a;obtain⟨s2,m,⟨yb,ys,yt⟩⟩:=b;obtain⟨a,n,p,b,a1,n1,c1,a2,n2,c2,rfl,ht,hr⟩:=hv.op;have HT:=Lib.hid ht;have HR:=Lib.hid hr;clear ht hr;obtain⟨ay,ny,py,bby,a1y,n1y,c1y,a2y,n2y,c2y,rfl,hty,hry⟩:=hu.op;have HTy:=Lib.hid hty;have HRy:=Lib.hid hry;clear hty hry;obtain⟨w1,hw1,e1,b1_,b2_,s1⟩:=alloc2 w #[.int .i64 s,.slice a n p,.bool b,.slice a1 n1 c1,.slice a2 n2 c2] #[.int .i64 s2,.slice ay ny py,.bool bby,.slice a1y n1y c1y,.slice a2y n2y c2y] 46 46
 by_cases hss:s=s2
 ·have hse:(s==s2)=true:=by simpa using hss
  have HSS:=Lib.hid hss;clear hss
  go_enter Tryz.func44,Tryz.ntmps44
  go_wp2_with fail;rw[←hw1];refine(vsame_calls _ _ l m w1 (HT.out.ext e1) (HTy.out.ext e1)).mono ?_;rintro e w2 ⟨rfl,e2⟩;have E2:=e1.trans e2;have B2:=b1_.ext e2;have Q2:=b2_.ext e2;obtain⟨p,hp⟩:∃p,p=decide (l=m):=⟨_,rfl⟩;rw[←hp];have HP:=Lib.hid hp;clear hp hw1 b1_ b2_
  cases p with
  |false=>
   have HD:Hid (sameE (s,l,(xb,xs,xt)) (s2,m,(yb,ys,yt))=false):=Lib.hid (by unfold sameE;simp only;rw[←HP.out,Bool.false_and,Bool.and_false])
   go_wp2;go_ret
   exact⟨by rw[HD.out]<;>rfl,E2⟩
  |true=>
   have hb2:=B2.cell 2;have hb3:=B2.cell 3;have hb4:=B2.cell 4;have hy2:=Q2.cell 2;have hy3:=Q2.cell 3;have hy4:=Q2.cell 4;go_wp2_with fail;refine(rqsame3_calls _ _ xb yb xs xt ys yt w2 (HR.out.ext E2).1 (HRy.out.ext E2).1).mono ?_;rintro e w3 ⟨rfl,e3⟩;obtain⟨q,hq⟩:∃q,q=decide ((xb=yb∧xs=ys)∧xt=yt):=⟨_,rfl⟩;rw[←hq]
   have HD:Hid (sameE (s,l,(xb,xs,xt)) (s2,m,(yb,ys,yt))=q):=Lib.hid (by unfold sameE;simp only;rw[←HP.out,hq,decide_eq_true HSS.out,Bool.true_and,Bool.true_and])
   clear hq;go_wp2;go_ret
   exact⟨by rw[HD.out]<;>rfl,E2.trans e3⟩
 ·have hse:(s==s2)=false:=by simpa using hss
  have HD:Hid (sameE (s,l,(xb,xs,xt)) (s2,m,(yb,ys,yt))=false):=Lib.hid (by unfold sameE;simp only;rw[decide_eq_false hss,Bool.false_and])
  clear hss
  go_enter Tryz.func44,Tryz.ntmps44
  go_wp2;go_ret
  exact⟨by rw[HD.out]<;>rfl,by rw[←hw1];exact e1⟩
theorem TLO.chg{B g:Nat}{w w':World}{v:Value}{l:List TE}(h:TLO B w v l)(hc:Chg g w w')(hg:g<B):TLO B w' v l:=by
 obtain⟨⟨ts,h1,h2,h3⟩,hd⟩:=h;exact⟨⟨ts,h1,h2.chg hc hg,fun j t e a b=>⟨(h3 j t e a b).1,(h3 j t e a b).2.chg hc hg⟩⟩,hd⟩
def PP.tlo{S:Nat}(l:List TE):PP S:=⟨false,fun u w=>TLO S w u l,fun _ _ _ h hp=>hp.ext h,fun _ _ hg _ _ _ h hp=>hp.chg h hg⟩
def PP.frE{S:Nat}(e:RE):PP S:=⟨false,fun u w=>FrE S w u e,fun _ _ _ h hp=>FrR.ext hp h,fun _ _ hg _ _ _ h hp=>FrR.chg hp h hg⟩
theorem emptyC(w:World):(Instr.buildSlice 29 0 #[]).run Tryz.prog w= .ok (.slice (some ⟨w.heap.size,0,none⟩) 0 0) (w.alloc (.cells #[] 46)):=by kernel_rfl
theorem ownsRow_growN{B e n m:Nat}{w w':World}{v:Value}{xs:List Value}(h:w.ownsRow B e n v m xs)(hg:w.grownBy w' v.ownBlock):Ext w w'∨∃g cs,Bx e w g cs∧Chg g w w':=by
 rcases h.2 with⟨h1,h2⟩ |⟨g,cap,cur,h1,h2,h3,h4⟩
 ·rw[h1]at hg;exact .inl hg
 ·rw[h1]at hg;exact .inr ⟨g,cur,h3,hg⟩
theorem five_cells{wz:World}{g o:Nat}{a b c d e:Value}(h0:wz.cell? ⟨g,o,none⟩=some a)(h1:wz.cell? ⟨g,o+1,none⟩=some b)(h2:wz.cell? ⟨g,o+2,none⟩=some c)(h3:wz.cell? ⟨g,o+3,none⟩=some d)(h4:wz.cell? ⟨g,o+4,none⟩=some e):∀(j:Nat) (v:Value),(#[a,b,c,d,e]:Array Value)[j]? =some v→wz.cell? ⟨g,o+j,none⟩=some v:=by
 intro j v hj
 match j,hj with
 |0,hj=>cases hj;exact h0
 |1,hj=>cases hj;exact h1
 |2,hj=>cases hj;exact h2
 |3,hj=>cases hj;exact h3
 |4,hj=>cases hj;exact h4
 |j+5,hj=>simp at hj
def sameL:List CE→List CE→Bool
 | [],[]=>true
 |a::l,b::m=>sameE a b&&sameL l m
 |_,_=>false
theorem sameL_self:∀l,sameL l l=true
 | []=>rfl
 |a::l=>by unfold sameL;rw[sameE_self,sameL_self l];rfl
theorem sameL_iff:∀{l m:List CE},sameL l m=true↔l=m
 | [],[]=>by simp[sameL]
 | [],_::_=>by simp[sameL]
 |_::_,[]=>by simp[sameL]
 |a::l,b::m=>by
  unfold sameL;rw[Bool.and_eq_true,sameE_iff,sameL_iff,List.cons.injEq]
theorem sameL_no{l m:List CE}(h:l≠m):sameL l m=false:=by
 cases hs:sameL l m
 ·rfl
 ·exact absurd (sameL_iff.1 hs) h
set_option maxHeartbeats 8000000 in
theorem sameC_calls(v u:Value)(l m:List CE)(w:World)(hv:CLE w v l)(hu:CLE w u m):
  Calls Tryz.prog 21 #[v,u] w fun e w'=>e= .returned (.bool (sameL l m))∧Ext w w':=by
 obtain⟨ad,n,cap,hnl,rfl,hn1,hat⟩:=hv.at;obtain⟨ad2,n2,cap2,hml,rfl,hm1,hat2⟩:=hu.at;have HN:=Lib.hid hnl;have HM:=Lib.hid hml;have HAT:=Lib.hid hat;have HAT2:=Lib.hid hat2;clear hnl hml hat hat2 hv hu
 go_enter Tryz.func21,Tryz.ntmps21
 by_cases hnm:n=n2
 ·subst hnm
  have hz:((n:Int) !=(n:Int))=false:=by simp
  go_wp2_with fail;clear hz
  go_loopw [5] (fun s wr=>∃i:Nat,i≤n∧s= .int .i64 (i:Int)∧Hid (l.take i=m.take i)∧Ext w wr) (fun s _=>((n:Int) - intOf s).toNat)
  case atStart=>exact ⟨0,Nat.zero_le _,rfl,Lib.hid rfl,Ext.refl _⟩
  case round=>
   obtain⟨i,hi,rfl,hS,hE0⟩:=hrel
   rcases Nat.eq_or_lt_of_le hi with hin |hin
   ·subst hin
    have hlt:¬((i:Int)<(i:Int)):=by omega
    have hlm:l=m:=by
     have:=hS.out
     rwa [HN.out,List.take_length,←HN.out,HM.out,List.take_length]at this
    have HR:Hid (sameL l m=true):=Lib.hid (sameL_iff.2 hlm)
    clear hlm;go_wp2;go_ret
    exact⟨by rw[HR.out]<;>rfl,hE0⟩
   ·have hlt:(i:Int)<(n:Int):=by omega
    obtain⟨⟨cs,ct,cr⟩,hx⟩:∃x,l[i]? =some x:=⟨_,List.getElem?_eq_getElem (by rw[←HN.out];exact hin)⟩;obtain⟨⟨ds,dt,dr⟩,hy⟩:∃x,m[i]? =some x:=⟨_,List.getElem?_eq_getElem (by rw[←HM.out];exact hin)⟩;obtain⟨g,off,rfl,ay,ny,py,bby,a1y,n1y,c1y,a2y,n2y,c2y, -, -,hcell,hTL,hRX⟩:=HAT.out i _ hx;obtain⟨gz,offz,rfl,az,nz,pz,bbz,a1z,n1z,c1z,a2z,n2z,c2z, -, -,hcellz,hTLz,hRXz⟩:=HAT2.out i _ hy
    simp only at hcell hTL hRX hcellz hTLz hRXz
    have HX:=Lib.hid (And.intro hx hy);have HC:=Lib.hid (And.intro hcell hcellz);have HRX:=Lib.hid (show CnE w (.agg #[.int .i64 cs,.slice ay ny py,.bool bby,.slice a1y n1y c1y,.slice a2y n2y c2y]) (cs,ct,cr)from⟨ay,ny,py,bby,a1y,n1y,c1y,a2y,n2y,c2y,rfl,hTL,hRX⟩);have HRZ:=Lib.hid (show CnE w (.agg #[.int .i64 ds,.slice az nz pz,.bool bbz,.slice a1z n1z c1z,.slice a2z n2z c2z]) (ds,dt,dr)from⟨az,nz,pz,bbz,a1z,n1z,c1z,a2z,n2z,c2z,rfl,hTLz,hRXz⟩);obtain⟨p,hp⟩:∃p,p=sameE (cs,ct,cr) (ds,dt,dr):=⟨_,rfl⟩;have HP:=Lib.hid hp;clear hx hy hcell hTL hRX hcellz hTLz hRXz hp;go_wp2_with fail;refine wpQ [PP.val (.slice (some ⟨g,off,none⟩) n cap),PP.val (.int .i64 (i:Int)),PP.val (.pointer (some ⟨g,off+i*5,none⟩)),PP.val (.agg #[.int .i64 cs,.slice ay ny py,.bool bby,.slice a1y n1y c1y,.slice a2y n2y c2y]),PP.val (.slice (some ⟨gz,offz,none⟩) n cap2),PP.val (.int .i64 (i:Int)),PP.val (.pointer (some ⟨gz,offz+i*5,none⟩)),PP.val (.agg #[.int .i64 ds,.slice az nz pz,.bool bbz,.slice a1z n1z c1z,.slice a2z n2z c2z]),PP.val (.bool p),PP.val (.bool (!p))] [] [0,1,2,3,4,5,6,7,8,9] ?_ ?_
    ·refine⟨?_,?_,?_,?_,?_,?_,?_,?_,?_,?_,trivial⟩
     ·intro f w4 hG hp hl;simp only[OpGoal];go_simp;exact⟨_,rfl,Ext.refl _,rfl⟩
     ·intro f w4 hG hp hl;simp only[OpGoal];go_simp;exact⟨_,rfl,Ext.refl _,rfl⟩
     ·intro f w4 hG hp hl;have q17:=tE hp 0 0 rfl rfl rfl;have q18:=tE hp 1 1 rfl rfl rfl;simp only[OpGoal];go_simp;exact⟨_,rfl,Ext.refl _,rfl⟩
     ·intro f w4 hG hp hl;have hE:Ext wr w4:=hG;have q19:=tE hp 0 2 rfl rfl rfl;change OpGoal _ _ _ f w4 Ext _;have hcs:=HC.out.1 _ (hE0.trans hE);exact og_loadAt (P:=Tryz.prog) _ _ g (off+i*5) _ _ rfl rfl q19 (five_cells hcs.1 hcs.2.1 hcs.2.2.1 hcs.2.2.2.1 hcs.2.2.2.2) Tryz.underlying46 rfl (by kernel_rfl) rfl
     ·intro f w4 hG hp hl;simp only[OpGoal];go_simp;exact⟨_,rfl,Ext.refl _,rfl⟩
     ·intro f w4 hG hp hl;simp only[OpGoal];go_simp;exact⟨_,rfl,Ext.refl _,rfl⟩
     ·intro f w4 hG hp hl;have q21:=tE hp 0 4 rfl rfl rfl;have q22:=tE hp 1 5 rfl rfl rfl;simp only[OpGoal];go_simp;exact⟨_,rfl,Ext.refl _,rfl⟩
     ·intro f w4 hG hp hl;have hE:Ext wr w4:=hG;have q23:=tE hp 0 6 rfl rfl rfl;change OpGoal _ _ _ f w4 Ext _;have hcs:=HC.out.2 _ (hE0.trans hE);exact og_loadAt (P:=Tryz.prog) _ _ gz (offz+i*5) _ _ rfl rfl q23 (five_cells hcs.1 hcs.2.1 hcs.2.2.1 hcs.2.2.2.1 hcs.2.2.2.2) Tryz.underlying46 rfl (by kernel_rfl) rfl
     ·intro f w4 hG hp hl;have hE:Ext wr w4:=hG;have q20:=tE hp 0 3 rfl rfl rfl;have q24:=tE hp 1 7 rfl rfl rfl;change OpGoal _ _ _ f w4 Ext _;refine oC #[f 3,f 7] Tryz.func44 rfl rfl ?_;rw[q20,q24];refine(sameCons_calls _ _ (cs,ct,cr) (ds,dt,dr) _ (HRX.out.ext (hE0.trans hE)) (HRZ.out.ext (hE0.trans hE))).mono ?_;rintro e w' ⟨rfl,h2⟩
      exact⟨_,rfl,h2,by rw[HP.out]<;>rfl⟩
     ·intro f w4 hG hp hl;have q25:=tE hp 0 8 rfl rfl rfl;simp only[OpGoal];go_simp;exact⟨_,rfl,Ext.refl _,rfl⟩
    ·intro f w4 hG hp;have hE:Ext wr w4:=ChgS.nil hG
     have q26:f 9= .bool (!p):=endV hp 9 (by decide) rfl (fun h=>by cases h)
     try simp only[q26]
     clear hp;have X4:=hE0.trans hE;clear hE
     cases p with
     |true=>
      have hxy:=sameE_iff.1 HP.out.symm
      have HT:Hid (l.take (i+1)=m.take (i+1)):=Lib.hid (by rw[take_next HX.out.1,take_next HX.out.2,hS.out,hxy])
      clear hxy;go_wp2;go_roundw
      case rel=>exact ⟨i+1,by omega,congrArg (Value.int .i64) (by omega),HT,X4⟩
      case measure=>simp [intOf];omega
     |false=>
      have HR:Hid (sameL l m=false):=Lib.hid (sameL_no fun h=>by
       have h1:=HX.out.1;rw[h,HX.out.2]at h1
       cases h1
       have:=HP.out
       rw[sameE_self]at this
       cases this)
      go_wp2;go_ret
      exact⟨by rw[HR.out]<;>rfl,X4⟩
 ·have hne:((n:Int) !=(n2:Int))=true:=by rw[bne_iff_ne];omega
  have HR:Hid (sameL l m=false):=Lib.hid (sameL_no fun h=>hnm (by rw[HN.out,HM.out,h]))
  go_wp2;go_ret
  exact⟨by rw[HR.out]<;>rfl,Ext.refl _⟩
theorem sameC_true(v u:Value)(l:List CE)(w:World)(hv:CLE w v l)(hu:CLE w u l):Calls Tryz.prog 21 #[v,u] w fun e w'=>e= .returned (.bool true)∧Ext w w':=by
 refine(sameC_calls v u l l w hv hu).mono ?_;rintro e w' ⟨rfl,h⟩;exact⟨by rw[sameL_self],h⟩
def SpC(Q:Nat→Prop)(w:World)(v:Value):Prop:=∃s a n cp b a1 n1 c1 a2 n2 c2,v= .agg #[.int .i64 s,.slice a n cp,.bool b,.slice a1 n1 c1,.slice a2 n2 c2]∧SpW Q w (.slice a n cp)∧ShpR Q w (.agg #[.bool b,.slice a1 n1 c1,.slice a2 n2 c2])
theorem SpC.hurtW{Q Q1:Nat→Prop}{w w':World}{v:Value}(h:SpC Q w v)(he:HurtW Q1 w w'):SpC Q w' v:=by
 obtain⟨s,a,n,cp,b,a1,n1,c1,a2,n2,c2,h1,h2,h3⟩:=h;exact⟨s,a,n,cp,b,a1,n1,c1,a2,n2,c2,h1,h2.hurtW he,h3.hurtW he⟩
theorem CnO.spc{B k B1:Nat}{w:World}{v:Value}{c:CR}(h:CnO B k w v c)(hB:w.heap.size≤B1):SpC (fun k=>B≤k∧k<B1) w v:=by
 obtain⟨a,n,cp,b,a1,n1,c1,a2,n2,c2,h1,h2,h3,h4⟩:=h;exact⟨c.1,a,n,cp,b,a1,n1,c1,a2,n2,c2,h1,h2.spw hB,h3.shpP hB⟩
set_option maxHeartbeats 4000000 in
theorem spoilCons_calls(Q:Nat→Prop)(v:Value)(w:World)(h:SpC Q w v):
  Calls Tryz.prog 25 #[v] w fun e w'=>e= .returned (.tuple #[])∧HurtW Q w w':=by
 obtain⟨s,a,n,p,b,a1,n1,c1,a2,n2,c2,rfl,h1,h2⟩:=h;have H1:=Lib.hid h1;have H2:=Lib.hid h2;clear h1 h2;obtain⟨w1,hw1,e1,b1_,s1⟩:=alloc1 w #[.int .i64 s,.slice a n p,.bool b,.slice a1 n1 c1,.slice a2 n2 c2] 46
 go_enter Tryz.func25,Tryz.ntmps25
 go_wp2_with fail;rw[←hw1];refine(spoil5w_calls Q _ w1 (H1.out.ext e1)).mono ?_;rintro e w2 ⟨rfl,h2⟩;have hb:=b1_.hurtW h2 (by decide) (by decide);have hb2:=hb.cell 2;have hb3:=hb.cell 3;have hb4:=hb.cell 4;have HS:=Lib.hid ((e1.hurtsW Q).trans h2);clear hw1 b1_ hb;go_wp2_with fail;refine(spoilP_calls _ Q w2 (H2.out.hurtW HS.out)).mono ?_;rintro e w3 ⟨rfl,h3⟩;go_wp2
 go_end0
 exact⟨rfl,HS.out.trans h3.w⟩
theorem to_one{B k gT:Nat}{w:World}{tb:Bool}{ta1:Option Addr}{tn1 tc1:Nat}{ta2:Option Addr}{tn2 tc2:Nat}{q:Rat}(hB:B≤gT)(hb:Bx 95 w gT #[.int .i64 0,.bool tb,.slice ta1 tn1 tc1,.slice ta2 tn2 tc2])(hq:FrQ B w (.agg #[.bool tb,.slice ta1 tn1 tc1,.slice ta2 tn2 tc2]) q)(hs:szQ q≤k):TO B k w (.slice (some ⟨gT,0,none⟩) 1 1) [(0,q)]:=by
 have:=LS.of_hold (e:=95) (n:=4) (B:=B) (w:=w) (vs:=(tsP [((⟨0,tb,ta1,tn1,tc1,ta2,tn2,tc2⟩:TmC),q)]).map tmv) (g:=gT) (cap:=1) (rest:=[]) (strN_tmv _) hB (Nat.le_refl _) (by omega) rfl hb
 exact TO.of_ps this fun p hp=>by
  rw[List.mem_singleton]at hp;subst hp;exact⟨hq,hs⟩
open Go.ChangeShapes Go.WideShapes Go.ChangeAt
section
variable {H:Type} {enc:TypeId×Value→H} {w:World} {base:Nat} {spare:Nat→Bool} {held:Bool}
end
end Go.Proofs.YtbmnlaepfckmkaaGreat
