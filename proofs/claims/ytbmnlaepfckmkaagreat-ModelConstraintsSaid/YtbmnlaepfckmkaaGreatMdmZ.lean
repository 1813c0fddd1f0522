/-
 Problems as they are handed in, as they are copied: names and all.
-/
import Derived.Test.YtbmnlaepfckmkaaGreatMdjZ
import Derived.Test.YtbmnlaepfckmkaaGreatCnhZ
import Derived.Test.YtbmnlaepfckmkaaGreatCmaZ
import Derived.Test.YtbmnlaepfckmkaaGreatCnaZ
import Derived.Test.YtbmnlaepfckmkaaGreatCnlZ
import Derived.Lib.SmallJoins
namespace Go.Proofs.YtbmnlaepfckmkaaGreat
set_option maxRecDepth 100000
set_option maxHeartbeats 1000000
open Go.RowKit
set_option linter.unusedVariables false
set_option linter.unusedSimpArgs false
abbrev RwE:=ByteArray×(Bool×Bool)×(RE×RE)×List TE
abbrev VrE:=ByteArray×(Bool×Bool×Bool)×(RE×RE×RE)
abbrev PbE:=(ByteArray×ByteArray)×List RwE×List VrE
def ratRw(r:RwE):RwR:=((r.2.1.1,r.2.1.2,ratE r.2.2.1.1,ratE r.2.2.1.2),ratT r.2.2.2)
def ratVr(v:VrE):VrR:=(v.2.1.1,(v.2.1.2.1,v.2.1.2.2,ratE v.2.2.1,ratE v.2.2.2.1),ratE v.2.2.2.2)
def ratPb(p:PbE):PbR:=(p.2.1.map ratRw,p.2.2.map ratVr)
def okRw(r:RwE):Prop:=wordsE r.2.2.1.1≤6∧wordsE r.2.2.1.2≤6∧r.2.2.2.length≤30∧∀e∈r.2.2.2,wordsE e.2≤6
def okVr(v:VrE):Prop:=wordsE v.2.2.1≤6∧wordsE v.2.2.2.1≤6∧wordsE v.2.2.2.2≤6
def okPb(p:PbE):Prop:=p.2.1.length≤70∧p.2.2.length≤50∧(∀r∈p.2.1,okRw r)∧∀v∈p.2.2,okVr v
def RwH(w:World)(v:Value)(r:RwE):Prop:=∃(l h:QC) (ta:Option Addr) (tn tc:Nat),v= .agg #[.string r.1,.bool r.2.1.1,.bool r.2.1.2,.bool l.b,.slice l.a1 l.n1 l.c1,.slice l.a2 l.n2 l.c2,.bool h.b,.slice h.a1 h.n1 h.c1,.slice h.a2 h.n2 h.c2,.slice ta tn tc]∧RawE w (.agg #[.bool l.b,.slice l.a1 l.n1 l.c1,.slice l.a2 l.n2 l.c2]) r.2.2.1.1∧RawE w (.agg #[.bool h.b,.slice h.a1 h.n1 h.c1,.slice h.a2 h.n2 h.c2]) r.2.2.1.2∧TLE w (.slice ta tn tc) r.2.2.2
def VrH(w:World)(v:Value)(r:VrE):Prop:=∃(l h c:QC),v= .agg #[.string r.1,.bool r.2.1.1,.bool r.2.1.2.1,.bool r.2.1.2.2,.bool l.b,.slice l.a1 l.n1 l.c1,.slice l.a2 l.n2 l.c2,.bool h.b,.slice h.a1 h.n1 h.c1,.slice h.a2 h.n2 h.c2,.bool c.b,.slice c.a1 c.n1 c.c1,.slice c.a2 c.n2 c.c2]∧RawE w (.agg #[.bool l.b,.slice l.a1 l.n1 l.c1,.slice l.a2 l.n2 l.c2]) r.2.2.1∧RawE w (.agg #[.bool h.b,.slice h.a1 h.n1 h.c1,.slice h.a2 h.n2 h.c2]) r.2.2.2.1∧RawE w (.agg #[.bool c.b,.slice c.a1 c.n1 c.c1,.slice c.a2 c.n2 c.c2]) r.2.2.2.2
theorem RwH.ext{w w':World}{v:Value}{r:RwE}(h:RwH w v r)(he:Ext w w'):RwH w' v r:=by
 obtain⟨l,h,ta,tn,tc,h1,h2,h3,h4⟩:=h;exact⟨l,h,ta,tn,tc,h1,h2.ext he,h3.ext he,h4.ext he⟩
theorem VrH.ext{w w':World}{v:Value}{r:VrE}(h:VrH w v r)(he:Ext w w'):VrH w' v r:=by
 obtain⟨l,h,c,h1,h2,h3,h4⟩:=h;exact⟨l,h,c,h1,h2.ext he,h3.ext he,h4.ext he⟩
def RwHL(w:World)(u:Value)(l:List RwE):Prop:=SL 10 RwH w u l
def VrHL(w:World)(u:Value)(l:List VrE):Prop:=SL 13 VrH w u l
theorem RwHL.ext{w w':World}{u:Value}{l:List RwE}(h:RwHL w u l)(he:Ext w w'):RwHL w' u l:=SL.ext (fun _ _ h=>h.ext he) h he
theorem VrHL.ext{w w':World}{u:Value}{l:List VrE}(h:VrHL w u l)(he:Ext w w'):VrHL w' u l:=SL.ext (fun _ _ h=>h.ext he) h he
def PbH(w:World)(v:Value)(p:PbE):Prop:=∃(ra:Option Addr) (rn rc:Nat) (va:Option Addr) (vn vc:Nat),v= .agg #[.string p.1.1,.string p.1.2,.slice ra rn rc,.slice va vn vc]∧RwHL w (.slice ra rn rc) p.2.1∧VrHL w (.slice va vn vc) p.2.2
theorem PbH.ext{w w':World}{v:Value}{p:PbE}(h:PbH w v p)(he:Ext w w'):PbH w' v p:=by
 obtain⟨ra,rn,rc,va,vn,vc,hv,hr,hs⟩:=h;exact⟨ra,rn,rc,va,vn,vc,hv,hr.ext he,hs.ext he⟩
theorem RawE.is6{w:World}{v:Value}{e:RE}(h:RawE w v e)(hr:wordsE e≤6):IsR w v (ratE e) 6:=by
 unfold wordsE at hr;exact h.1.isR h.2.1 h.2.2.1 6 (by omega) (by omega) (by omega) (by rw[LIM_eq];omega)
theorem RwH.rwv{w:World}{v:Value}{r:RwE}(h:RwH w v r)(hr:okRw r):RwV 6 w v (ratRw r):=by
 obtain⟨l,h,ta,tn,tc,h1,h2,h3,h4⟩:=h;exact⟨_,l,h,ta,tn,tc,h1,⟨h2.is6 hr.1,h3.is6 hr.2.1⟩,h4.tl 6 (by omega) (by rw[LIM_eq];omega) hr.2.2.2⟩
theorem VrH.vrv{w:World}{v:Value}{r:VrE}(h:VrH w v r)(hr:okVr r):VrV 6 w v (ratVr r):=by
 obtain⟨l,h,c,h1,h2,h3,h4⟩:=h;exact⟨_,l,h,c,h1,⟨h2.is6 hr.1,h3.is6 hr.2.1⟩,h4.is6 hr.2.2⟩
theorem PbH.pbv{w:World}{v:Value}{p:PbE}(h:PbH w v p)(hp:okPb p):PbV 6 w v (ratPb p):=by
 obtain⟨ra,rn,rc,va,vn,vc,hv,hr,hs⟩:=h;exact⟨_,_,ra,rn,rc,va,vn,vc,hv,SL.mapL hr fun u y hy hR=>hR.rwv (hp.2.2.1 y hy),SL.mapL hs fun u y hy hR=>hR.vrv (hp.2.2.2 y hy)⟩
theorem RwHL.at{w:World}{u:Value}{l:List RwE}(h:RwHL w u l):∃ad m cap,m=l.length∧u= .slice ad m cap∧m≤9223372036854775807∧∀(i:Nat) (r:RwE),l[i]? =some r→∃g off,ad=some ⟨g,off,none⟩∧∃(l h:QC) (ta:Option Addr) (tn tc:Nat),
  (∀wz,Ext w wz→wz.cell? ⟨g,off+i*10,none⟩=some (.string r.1)∧wz.cell? ⟨g,off+i*10+1,none⟩=some (.bool r.2.1.1)∧wz.cell? ⟨g,off+i*10+2,none⟩=some (.bool r.2.1.2)∧wz.cell? ⟨g,off+i*10+3,none⟩=some (.bool l.b)∧wz.cell? ⟨g,off+i*10+4,none⟩=some (.slice l.a1 l.n1 l.c1)∧wz.cell? ⟨g,off+i*10+5,none⟩=some (.slice l.a2 l.n2 l.c2)∧wz.cell? ⟨g,off+i*10+6,none⟩=some (.bool h.b)∧wz.cell? ⟨g,off+i*10+7,none⟩=some (.slice h.a1 h.n1 h.c1)∧wz.cell? ⟨g,off+i*10+8,none⟩=some (.slice h.a2 h.n2 h.c2)∧wz.cell? ⟨g,off+i*10+9,none⟩=some (.slice ta tn tc))∧
  RawE w (.agg #[.bool l.b,.slice l.a1 l.n1 l.c1,.slice l.a2 l.n2 l.c2]) r.2.2.1.1∧RawE w (.agg #[.bool h.b,.slice h.a1 h.n1 h.c1,.slice h.a2 h.n2 h.c2]) r.2.2.1.2∧TLE w (.slice ta tn tc) r.2.2.2:=by
 obtain⟨ad,m,cap,h1,h2,h3,h4⟩:=h.opn;refine⟨ad,m,cap,h1,h2,h3,fun i c hi=> ?_⟩;obtain⟨g,off,k1,xs,k2,k3,l,h,ta,tn,tc,j1,j2,j3,j4⟩:=h4 i c hi
 cases j1
 exact⟨g,off,k1,l,h,ta,tn,tc,fun wz hz=>⟨k3 wz hz 0 _ rfl,k3 wz hz 1 _ rfl,k3 wz hz 2 _ rfl,k3 wz hz 3 _ rfl,k3 wz hz 4 _ rfl,k3 wz hz 5 _ rfl,k3 wz hz 6 _ rfl,k3 wz hz 7 _ rfl,k3 wz hz 8 _ rfl,k3 wz hz 9 _ rfl⟩,j2,j3,j4⟩
theorem VrHL.at{w:World}{u:Value}{l:List VrE}(h:VrHL w u l):∃ad m cap,m=l.length∧u= .slice ad m cap∧m≤9223372036854775807∧∀(i:Nat) (r:VrE),l[i]? =some r→∃g off,ad=some ⟨g,off,none⟩∧∃(l h c:QC),
  (∀wz,Ext w wz→wz.cell? ⟨g,off+i*13,none⟩=some (.string r.1)∧wz.cell? ⟨g,off+i*13+1,none⟩=some (.bool r.2.1.1)∧wz.cell? ⟨g,off+i*13+2,none⟩=some (.bool r.2.1.2.1)∧wz.cell? ⟨g,off+i*13+3,none⟩=some (.bool r.2.1.2.2)∧wz.cell? ⟨g,off+i*13+4,none⟩=some (.bool l.b)∧wz.cell? ⟨g,off+i*13+5,none⟩=some (.slice l.a1 l.n1 l.c1)∧wz.cell? ⟨g,off+i*13+6,none⟩=some (.slice l.a2 l.n2 l.c2)∧wz.cell? ⟨g,off+i*13+7,none⟩=some (.bool h.b)∧wz.cell? ⟨g,off+i*13+8,none⟩=some (.slice h.a1 h.n1 h.c1)∧wz.cell? ⟨g,off+i*13+9,none⟩=some (.slice h.a2 h.n2 h.c2)∧wz.cell? ⟨g,off+i*13+10,none⟩=some (.bool c.b)∧wz.cell? ⟨g,off+i*13+11,none⟩=some (.slice c.a1 c.n1 c.c1)∧wz.cell? ⟨g,off+i*13+12,none⟩=some (.slice c.a2 c.n2 c.c2))∧
  RawE w (.agg #[.bool l.b,.slice l.a1 l.n1 l.c1,.slice l.a2 l.n2 l.c2]) r.2.2.1∧RawE w (.agg #[.bool h.b,.slice h.a1 h.n1 h.c1,.slice h.a2 h.n2 h.c2]) r.2.2.2.1∧RawE w (.agg #[.bool c.b,.slice c.a1 c.n1 c.c1,.slice c.a2 c.n2 c.c2]) r.2.2.2.2:=by
 obtain⟨ad,m,cap,h1,h2,h3,h4⟩:=h.opn;refine⟨ad,m,cap,h1,h2,h3,fun i c hi=> ?_⟩;obtain⟨g,off,k1,xs,k2,k3,l,h,c2,j1,j2,j3,j4⟩:=h4 i c hi
 cases j1
 exact⟨g,off,k1,l,h,c2,fun wz hz=>⟨k3 wz hz 0 _ rfl,k3 wz hz 1 _ rfl,k3 wz hz 2 _ rfl,k3 wz hz 3 _ rfl,k3 wz hz 4 _ rfl,k3 wz hz 5 _ rfl,k3 wz hz 6 _ rfl,k3 wz hz 7 _ rfl,k3 wz hz 8 _ rfl,k3 wz hz 9 _ rfl,k3 wz hz 10 _ rfl,k3 wz hz 11 _ rfl,k3 wz hz 12 _ rfl⟩,j2,j3,j4⟩
theorem rat_cells{wz:World}{g o:Nat}{a b c:Value}(h0:wz.cell? ⟨g,o,none⟩=some a)(h1:wz.cell? ⟨g,o+1,none⟩=some b)(h2:wz.cell? ⟨g,o+2,none⟩=some c):∀(j:Nat) (v:Value),(#[a,b,c]:Array Value)[j]? =some v→wz.cell? ⟨g,o+j,none⟩=some v:=by
 intro j v hj
 match j,hj with
 |0,hj=>cases hj;exact h0
 |1,hj=>cases hj;exact h1
 |2,hj=>cases hj;exact h2
 |j+3,hj=>simp at hj
def PP.newQ{S:Nat}(vs:List Value):PP S:=⟨false,fun u w=>∃(g:Nat),S≤g∧u= .slice (some ⟨g,0,none⟩) vs.length vs.length∧Bx 41 w g (flatS vs).toArray,fun _ _ _ h hp=>(let ⟨g,h0,h1,h2⟩:=hp;⟨g,h0,h1,h2.ext h⟩),fun _ _ hg _ _ _ h hp=>(let ⟨g,h0,h1,h2⟩:=hp;⟨g,h0,h1,h2.chg h (by omega)⟩)⟩
theorem slq_new{g N:Nat}{w:World}(vs:List Value)(es:List RE)(h5:StrN 3 vs)(hb:Bx 41 w g (flatS vs).toArray)(hn:N=vs.length)(hq:N=es.length)(hN:N≤9223372036854775807)(hR:∀(i:Nat) (u:Value) (y:RE),vs[i]? =some u→es[i]? =some y→RawE w u y):SLQ w (.slice (some ⟨g,0,Option.none⟩) N N) es:=by
 have:=LS.of_hold (e:=41) (n:=3) (B:=0) (w:=w) (vs:=vs) (g:=g) (cap:=N) (rest:=[]) h5 (Nat.zero_le _) (by omega) hN (by rw[hn];simp) (by rw[List.append_nil];exact hb)
 rw[←hn]at this;exact OL.sl (R:=fun w u y=>RawE w u y) ⟨vs,this,by omega,hR⟩ (by omega)
theorem qcN(qs:List QC):StrN 3 (qs.map qv):=by
 intro v hv;obtain⟨q, -,rfl⟩:=List.mem_map.1 hv;exact⟨_,rfl,rfl,all3 rfl rfl rfl⟩
theorem slq_two{g:Nat}{w:World}{l h:QC}{e1 e2:RE}(hb:Bx 41 w g (flatS [qv l,qv h]).toArray)(h1:RawE w (qv l) e1)(h2:RawE w (qv h) e2):SLQ w (.slice (some ⟨g,0,none⟩) 2 2) [e1,e2]:=
 slq_new [qv l,qv h] _ (qcN [l,h]) hb rfl rfl (by omega) fun i u y hu hy=>by
  match i,hu,hy with
  |0,hu,hy=>cases hu;cases hy;exact h1
  |1,hu,hy=>cases hu;cases hy;exact h2
  |i+2,hu,hy=>simp at hu
theorem slq_three{g:Nat}{w:World}{l h c:QC}{e1 e2 e3:RE}(hb:Bx 41 w g (flatS [qv l,qv h,qv c]).toArray)(h1:RawE w (qv l) e1)(h2:RawE w (qv h) e2)(h3:RawE w (qv c) e3):SLQ w (.slice (some ⟨g,0,none⟩) 3 3) [e1,e2,e3]:=
 slq_new [qv l,qv h,qv c] _ (qcN [l,h,c]) hb rfl rfl (by omega) fun i u y hu hy=>by
  match i,hu,hy with
  |0,hu,hy=>cases hu;cases hy;exact h1
  |1,hu,hy=>cases hu;cases hy;exact h2
  |2,hu,hy=>cases hu;cases hy;exact h3
  |i+3,hu,hy=>simp at hu
def GrP(p:PbE)(w:World)(e:Ending)(w':World):Prop:=∃b,e= .returned (.bool b)∧(b=false→okPb p)∧Ext w w'
theorem GrP.mk{p:PbE}{w:World}{e:Ending}{w':World}(b:Bool)(h1:e= .returned (.bool b))(h2:b=false→okPb p)(h3:Ext w w'):GrP p w e w':=⟨b,h1,h2,h3⟩
set_option maxHeartbeats 2000000 in
theorem greatPb_calls(v:Value)(p:PbE)(w:World)(hv:PbH w v p):
  Calls Tryz.prog 16 #[v] w fun e w'=>GrP p w e w':=by
 obtain⟨⟨n0,n1⟩,rows,vars⟩:=p;obtain⟨ra,rn,rc,va,vn,vc,rfl,hr,hvv⟩:=hv;obtain⟨ra',n,rc',hrn,hre,hrm,hatr⟩:=hr.at;simp only[Value.slice.injEq]at hre;obtain⟨rfl,rfl,rfl⟩:=hre;obtain⟨va',n,vc',hn,hve,hvm,hatv⟩:=hvv.at;simp only[Value.slice.injEq]at hve;obtain⟨rfl,rfl,rfl⟩:=hve
 simp only at hrn hn hatr hatv
 have Hn:=Lib.hid hn;have Hrn:=Lib.hid hrn;have HAV:=Lib.hid hatv;have HAR:=Lib.hid hatr;clear hr hvv hrn hn hatr hatv;obtain⟨w1,hw1,e1,bP,s1⟩:=alloc1 w #[.string n0,.string n1,.slice ra rn rc,.slice va vn vc] 25
 go_enter Tryz.func16,Tryz.ntmps16
 go_wp2_with fail;rw[←hw1]
 go_loopw [3,4] (fun s3 s4 wr=>∃(i:Nat) (s:Int),i≤rn∧s4= .int .i64 (i:Int)∧s3= .int .i64 s∧Hid (∀r∈rows.take i,okRw r)∧Ext w1 wr) (fun _ s4 _=>((rn:Int) - intOf s4).toNat)
 case atStart=>exact ⟨0,0,Nat.zero_le _,rfl,rfl,Lib.hid (fun r hr=>by simp at hr),Ext.refl _⟩
 case round=>
  obtain⟨i,s,hi,rfl,rfl,hH,hE0⟩:=hrel
  rcases Nat.eq_or_lt_of_le hi with hin |hin
  ·have hlt:¬((i:Int)<(rn:Int)):=by omega
   have HRW:Hid (∀r∈rows,okRw r):=Lib.hid (by
    have h5:=hH.out;rw[List.take_of_length_le (by rw[←Hrn.out];omega)]at h5
    exact h5)
   have hb:=bP.ext hE0;have hp0:=hb.cell 0;have hp1:=hb.cell 1;have hp2:=hb.cell 2;have hp3:=hb.cell 3;have E0:=Lib.hid hE0;clear hb hH hin hi hE0 hw1;go_wp2_with fail
   go_loopw [3,5] (fun s3 s5 wr=>∃(i:Nat) (s:Int),i≤vn∧s5= .int .i64 (i:Int)∧s3= .int .i64 s∧Hid (∀r∈vars.take i,okVr r)∧Ext w1 wr) (fun _ s5 _=>((vn:Int) - intOf s5).toNat)
   case atStart=>exact ⟨0,s,Nat.zero_le _,rfl,rfl,Lib.hid (fun r hr=>by simp at hr),E0.out⟩
   clear hp0 hp1 hp2 hp3 E0
   case round=>
    obtain⟨i,s,hi,rfl,rfl,hH,hE0⟩:=hrel;have BPj:=bP.ext hE0
    rcases Nat.eq_or_lt_of_le hi with hin |hin
    ·have hlt:¬((i:Int)<(vn:Int)):=by omega
     have HVR:Hid (∀r∈vars,okVr r):=Lib.hid (by
      have h5:=hH.out;rw[List.take_of_length_le (by rw[←Hn.out];omega)]at h5
      exact h5)
     have hp0:=BPj.cell 0;have hp1:=BPj.cell 1;have hp2:=BPj.cell 2;have hp3:=BPj.cell 3
     have HF:Hid (rn≤70→vn≤50→okPb ((n0,n1),rows,vars)):=Lib.hid fun h1 h2=>⟨by show rows.length≤70;rw[←Hrn.out];exact h1,by show vars.length≤50;rw[←Hn.out];exact h2,HRW.out,HVR.out⟩
     have E0:=e1.trans hE0;clear hH BPj hE0
     by_cases h1:70<rn
     ·have h1':(70:Int)<(rn:Int):=by omega
      go_wp2;go_ret;exact GrP.mk true rfl (fun h=>(by cases h)) E0
     ·have h1':¬(70:Int)<(rn:Int):=by omega
      by_cases h2:50<vn
      ·have h2':(50:Int)<(vn:Int):=by omega
       go_wp2;go_ret;exact GrP.mk true rfl (fun h=>(by cases h)) E0
      ·have h2':¬(50:Int)<(vn:Int):=by omega
       have HG:=Lib.hid (HF.out (by omega) (by omega))
       by_cases h3:18<s
       ·go_wp2;go_ret;exact GrP.mk true rfl (fun h=>(by cases h)) E0
       ·have hd3:decide (18<s)=false:=decide_eq_false h3
        go_wp2;go_ret;exact GrP.mk false (by simp) (fun _=>HG.out) E0
    ·have hlt:(i:Int)<(vn:Int):=by omega
     obtain⟨y,hy⟩:∃y,vars[i]? =some y:=⟨_,List.getElem?_eq_getElem (by rw[←Hn.out];exact hin)⟩;obtain⟨g,off,rfl,l,h,c,hcell,hL,hHh,hCc⟩:=HAV.out i y hy;have HCL:=Lib.hid hcell;have HL:=Lib.hid hL;have HH:=Lib.hid hHh;have HC:=Lib.hid hCc;have HTK:=Lib.hid (take_next hy);obtain⟨d1,hd1⟩:∃d,d=greatE [y.2.2.1,y.2.2.2.1,y.2.2.2.2]:=⟨_,rfl⟩;have HD1:=Lib.hid hd1;obtain⟨q1,hq1⟩:∃q,q=weightE [y.2.2.1,y.2.2.2.1,y.2.2.2.2]:=⟨_,rfl⟩;have HQ:=Lib.hid hq1;obtain⟨t1,ht1⟩:∃t,t=IntKind.i64.wrap (s+(q1:Int)):=⟨_,rfl⟩;have HT1:=Lib.hid ht1.symm;clear hcell hL hHh hCc hy hd1 hq1 ht1;have hp0:=BPj.cell 0;have hp1:=BPj.cell 1;have hp2:=BPj.cell 2;have hp3:=BPj.cell 3;go_wp2_with fail;clear hp0 hp1 hp2 hp3;refine wpQ [PP.val (.pointer (some ⟨w.heap.size,3,none⟩)),PP.val (.slice (some ⟨g,off,none⟩) vn vc),PP.val (.int .i64 (i:Int)),PP.val (.pointer (some ⟨g,off+i*13,none⟩)),PP.val (.pointer (some ⟨g,off+i*13+4,none⟩)),PP.val (qv l),PP.val (.pointer (some ⟨w.heap.size,3,none⟩)),PP.val (.slice (some ⟨g,off,none⟩) vn vc),PP.val (.int .i64 (i:Int)),PP.val (.pointer (some ⟨g,off+i*13,none⟩)),PP.val (.pointer (some ⟨g,off+i*13+7,none⟩)),PP.val (qv h),PP.val (.pointer (some ⟨w.heap.size,3,none⟩)),PP.val (.slice (some ⟨g,off,none⟩) vn vc),PP.val (.int .i64 (i:Int)),PP.val (.pointer (some ⟨g,off+i*13,none⟩)),PP.val (.pointer (some ⟨g,off+i*13+10,none⟩)),PP.val (qv c),PP.newQ [qv l,qv h,qv c],PP.val (.bool d1)] [] [0,1,2,3,4,5,6,7,8,9,10,11,12,13,14,15,16,17,18,19] ?_ ?_
     ·refine⟨?_,?_,?_,?_,?_,?_,?_,?_,?_,?_,?_,?_,?_,?_,?_,?_,?_,?_,?_,?_,trivial⟩
      ·intro f wz hG hp hl;simp only[OpGoal];go_simp;exact⟨_,rfl,Ext.refl _,rfl⟩
      ·intro f wz hG hp hl;have hE:Ext wr wz:=hG;have q67:=tE hp 0 0 rfl rfl rfl;have hcell:=(BPj.ext hE).cell 3;simp only[OpGoal];go_simp;exact⟨_,rfl,Ext.refl _,rfl⟩
      ·intro f wz hG hp hl;simp only[OpGoal];go_simp;exact⟨_,rfl,Ext.refl _,rfl⟩
      ·intro f wz hG hp hl;have q68:=tE hp 0 1 rfl rfl rfl;have q69:=tE hp 1 2 rfl rfl rfl;simp only[OpGoal];go_simp;exact⟨_,rfl,Ext.refl _,rfl⟩
      ·intro f wz hG hp hl;have q70:=tE hp 0 3 rfl rfl rfl;simp only[OpGoal];go_simp;exact⟨_,rfl,Ext.refl _,rfl⟩
      ·intro f wz hG hp hl;have hE:Ext wr wz:=hG;have q71:=tE hp 0 4 rfl rfl rfl;change OpGoal _ _ _ f wz Ext _;obtain⟨-, -, -, -,x4,x5,x6, -⟩:=HCL.out _ (e1.trans (hE0.trans hE));exact og_loadAt (P:=Tryz.prog) _ _ g (off+i*13+4) _ _ rfl rfl q71 (rat_cells x4 x5 x6) Tryz.underlying41 rfl (by kernel_rfl) rfl
      ·intro f wz hG hp hl;simp only[OpGoal];go_simp;exact⟨_,rfl,Ext.refl _,rfl⟩
      ·intro f wz hG hp hl;have hE:Ext wr wz:=hG;have q73:=tE hp 0 6 rfl rfl rfl;have hcell:=(BPj.ext hE).cell 3;simp only[OpGoal];go_simp;exact⟨_,rfl,Ext.refl _,rfl⟩
      ·intro f wz hG hp hl;simp only[OpGoal];go_simp;exact⟨_,rfl,Ext.refl _,rfl⟩
      ·intro f wz hG hp hl;have q74:=tE hp 0 7 rfl rfl rfl;have q75:=tE hp 1 8 rfl rfl rfl;simp only[OpGoal];go_simp;exact⟨_,rfl,Ext.refl _,rfl⟩
      ·intro f wz hG hp hl;have q76:=tE hp 0 9 rfl rfl rfl;simp only[OpGoal];go_simp;exact⟨_,rfl,Ext.refl _,rfl⟩
      ·intro f wz hG hp hl;have hE:Ext wr wz:=hG;have q77:=tE hp 0 10 rfl rfl rfl;change OpGoal _ _ _ f wz Ext _;obtain⟨-, -, -, -, -, -, -,x7,x8,x9, -⟩:=HCL.out _ (e1.trans (hE0.trans hE));exact og_loadAt (P:=Tryz.prog) _ _ g (off+i*13+7) _ _ rfl rfl q77 (rat_cells x7 x8 x9) Tryz.underlying41 rfl (by kernel_rfl) rfl
      ·intro f wz hG hp hl;simp only[OpGoal];go_simp;exact⟨_,rfl,Ext.refl _,rfl⟩
      ·intro f wz hG hp hl;have hE:Ext wr wz:=hG;have q79:=tE hp 0 12 rfl rfl rfl;have hcell:=(BPj.ext hE).cell 3;simp only[OpGoal];go_simp;exact⟨_,rfl,Ext.refl _,rfl⟩
      ·intro f wz hG hp hl;simp only[OpGoal];go_simp;exact⟨_,rfl,Ext.refl _,rfl⟩
      ·intro f wz hG hp hl;have q80:=tE hp 0 13 rfl rfl rfl;have q81:=tE hp 1 14 rfl rfl rfl;simp only[OpGoal];go_simp;exact⟨_,rfl,Ext.refl _,rfl⟩
      ·intro f wz hG hp hl;have q82:=tE hp 0 15 rfl rfl rfl;simp only[OpGoal];go_simp;exact⟨_,rfl,Ext.refl _,rfl⟩
      ·intro f wz hG hp hl;have hE:Ext wr wz:=hG;have q83:=tE hp 0 16 rfl rfl rfl;change OpGoal _ _ _ f wz Ext _;obtain⟨-, -, -, -, -, -, -, -, -, -,x10,x11,x12⟩:=HCL.out _ (e1.trans (hE0.trans hE));exact og_loadAt (P:=Tryz.prog) _ _ g (off+i*13+10) _ _ rfl rfl q83 (rat_cells x10 x11 x12) Tryz.underlying41 rfl (by kernel_rfl) rfl
      ·intro f wz hG hp hl;have hE:Ext wr wz:=hG;have hS:=hE.size;have q72:=tE hp 0 5 rfl rfl rfl;have q78:=tE hp 1 11 rfl rfl rfl;have q84:=tE hp 2 17 rfl rfl rfl;change OpGoal _ _ _ f wz Ext _;exact og_buildSlice (P:=Tryz.prog) 49 41 3 3 _ [qv l,qv h,qv c] rfl rfl Tryz.underlying49 (by kernel_rfl) (by kernel_rfl) (by simp only[Act.eval];exact congr (congr (congrArg (fun y0 y1 y2=> [(0,y0),(1,y1),(2,y2)]) q72) q78) q84) rfl (by omega) (by omega) (by omega) (qcN [l,h,c]).size (fun w' he hb=>⟨_,hS,rfl,hb⟩)
      ·intro f wz hG hp hl;have hE:Ext wr wz:=hG;have q85:=tellV hp 0 18 rfl rfl (fun _=>hE);change OpGoal _ _ _ f wz Ext _;refine oC #[f 18] Tryz.func28 rfl rfl ?_;obtain⟨gq, -,hvq,hbq⟩:=q85;rw[hvq];have hsl:=slq_three hbq (HL.out.ext (e1.trans (hE0.trans hE))) (HH.out.ext (e1.trans (hE0.trans hE))) (HC.out.ext (e1.trans (hE0.trans hE)));refine(greatAll_calls _ [y.2.2.1,y.2.2.2.1,y.2.2.2.2] _ hsl).mono ?_;rintro e w' ⟨rfl,h2⟩
       exact⟨_,rfl,h2,by rw[HD1.out]<;>rfl⟩
     ·intro f wq hG hp;have hE:Ext wr wq:=ChgS.nil hG
      have q86:f 19= .bool d1:=endV hp 19 (by decide) rfl (fun h=>by cases h)
      try simp only[q86]
      clear hp;have hEq:=hE0.trans hE
      cases d1 with
      |true=>
       go_wp2;go_ret;exact GrP.mk true rfl (fun h=>(by cases h)) (e1.trans hEq)
      |false=>
       have HW2:=Lib.hid (greatE_not HD1.out.symm).2
       have HOK:Hid (∀r∈vars.take (i+1),okVr r):=Lib.hid fun r hr=>by
        rw[HTK.out]at hr
        rcases List.mem_append.1 hr with hr |hr
        ·exact hH.out r hr
        ·rw[List.mem_singleton]at hr;subst hr;exact⟨HW2.out _ (by simp),HW2.out _ (by simp),HW2.out _ (by simp)⟩
       clear hH;have E0':=Lib.hid hE0;clear hE0;have hE0:=hEq;have BPj:=bP.ext hE0;clear hE hEq;have hp0:=BPj.cell 0;have hp1:=BPj.cell 1;have hp2:=BPj.cell 2;have hp3:=BPj.cell 3;go_wp2_with fail;clear hp0 hp1 hp2 hp3;refine wpQ [PP.val (.int .i64 s),PP.val (.pointer (some ⟨w.heap.size,3,none⟩)),PP.val (.slice (some ⟨g,off,none⟩) vn vc),PP.val (.int .i64 (i:Int)),PP.val (.pointer (some ⟨g,off+i*13,none⟩)),PP.val (.pointer (some ⟨g,off+i*13+4,none⟩)),PP.val (qv l),PP.val (.pointer (some ⟨w.heap.size,3,none⟩)),PP.val (.slice (some ⟨g,off,none⟩) vn vc),PP.val (.int .i64 (i:Int)),PP.val (.pointer (some ⟨g,off+i*13,none⟩)),PP.val (.pointer (some ⟨g,off+i*13+7,none⟩)),PP.val (qv h),PP.val (.pointer (some ⟨w.heap.size,3,none⟩)),PP.val (.slice (some ⟨g,off,none⟩) vn vc),PP.val (.int .i64 (i:Int)),PP.val (.pointer (some ⟨g,off+i*13,none⟩)),PP.val (.pointer (some ⟨g,off+i*13+10,none⟩)),PP.val (qv c),PP.newQ [qv l,qv h,qv c],PP.val (.int .i64 (q1:Int)),PP.val (.int .i64 t1),PP.val (.int .i64 t1)] [(0,22,3)] [0,1,2,3,4,5,6,7,8,9,10,11,12,13,14,15,16,17,18,19,20,21,22] ?_ ?_
       ·refine⟨?_,?_,?_,?_,?_,?_,?_,?_,?_,?_,?_,?_,?_,?_,?_,?_,?_,?_,?_,?_,?_,?_,?_,trivial⟩
        ·intro f wz hG hp hl
         have l3:f 22= .int .i64 s:=hl.1 rfl
         simp only[OpGoal];go_simp;exact⟨_,rfl,Ext.refl _,rfl⟩
        ·intro f wz hG hp hl;simp only[OpGoal];go_simp;exact⟨_,rfl,Ext.refl _,rfl⟩
        ·intro f wz hG hp hl;have hE:Ext wq wz:=hG;have q88:=tE hp 0 1 rfl rfl rfl;have hcell:=(BPj.ext hE).cell 3;simp only[OpGoal];go_simp;exact⟨_,rfl,Ext.refl _,rfl⟩
        ·intro f wz hG hp hl;simp only[OpGoal];go_simp;exact⟨_,rfl,Ext.refl _,rfl⟩
        ·intro f wz hG hp hl;have q89:=tE hp 0 2 rfl rfl rfl;have q90:=tE hp 1 3 rfl rfl rfl;simp only[OpGoal];go_simp;exact⟨_,rfl,Ext.refl _,rfl⟩
        ·intro f wz hG hp hl;have q91:=tE hp 0 4 rfl rfl rfl;simp only[OpGoal];go_simp;exact⟨_,rfl,Ext.refl _,rfl⟩
        ·intro f wz hG hp hl;have hE:Ext wq wz:=hG;have q92:=tE hp 0 5 rfl rfl rfl;change OpGoal _ _ _ f wz Ext _;obtain⟨-, -, -, -,x4,x5,x6, -⟩:=HCL.out _ (e1.trans (hE0.trans hE));exact og_loadAt (P:=Tryz.prog) _ _ g (off+i*13+4) _ _ rfl rfl q92 (rat_cells x4 x5 x6) Tryz.underlying41 rfl (by kernel_rfl) rfl
        ·intro f wz hG hp hl;simp only[OpGoal];go_simp;exact⟨_,rfl,Ext.refl _,rfl⟩
        ·intro f wz hG hp hl;have hE:Ext wq wz:=hG;have q94:=tE hp 0 7 rfl rfl rfl;have hcell:=(BPj.ext hE).cell 3;simp only[OpGoal];go_simp;exact⟨_,rfl,Ext.refl _,rfl⟩
        ·intro f wz hG hp hl;simp only[OpGoal];go_simp;exact⟨_,rfl,Ext.refl _,rfl⟩
        ·intro f wz hG hp hl;have q95:=tE hp 0 8 rfl rfl rfl;have q96:=tE hp 1 9 rfl rfl rfl;simp only[OpGoal];go_simp;exact⟨_,rfl,Ext.refl _,rfl⟩
        ·intro f wz hG hp hl;have q97:=tE hp 0 10 rfl rfl rfl;simp only[OpGoal];go_simp;exact⟨_,rfl,Ext.refl _,rfl⟩
        ·intro f wz hG hp hl;have hE:Ext wq wz:=hG;have q98:=tE hp 0 11 rfl rfl rfl;change OpGoal _ _ _ f wz Ext _;obtain⟨-, -, -, -, -, -, -,x7,x8,x9, -⟩:=HCL.out _ (e1.trans (hE0.trans hE));exact og_loadAt (P:=Tryz.prog) _ _ g (off+i*13+7) _ _ rfl rfl q98 (rat_cells x7 x8 x9) Tryz.underlying41 rfl (by kernel_rfl) rfl
        ·intro f wz hG hp hl;simp only[OpGoal];go_simp;exact⟨_,rfl,Ext.refl _,rfl⟩
        ·intro f wz hG hp hl;have hE:Ext wq wz:=hG;have q100:=tE hp 0 13 rfl rfl rfl;have hcell:=(BPj.ext hE).cell 3;simp only[OpGoal];go_simp;exact⟨_,rfl,Ext.refl _,rfl⟩
        ·intro f wz hG hp hl;simp only[OpGoal];go_simp;exact⟨_,rfl,Ext.refl _,rfl⟩
        ·intro f wz hG hp hl;have q101:=tE hp 0 14 rfl rfl rfl;have q102:=tE hp 1 15 rfl rfl rfl;simp only[OpGoal];go_simp;exact⟨_,rfl,Ext.refl _,rfl⟩
        ·intro f wz hG hp hl;have q103:=tE hp 0 16 rfl rfl rfl;simp only[OpGoal];go_simp;exact⟨_,rfl,Ext.refl _,rfl⟩
        ·intro f wz hG hp hl;have hE:Ext wq wz:=hG;have q104:=tE hp 0 17 rfl rfl rfl;change OpGoal _ _ _ f wz Ext _;obtain⟨-, -, -, -, -, -, -, -, -, -,x10,x11,x12⟩:=HCL.out _ (e1.trans (hE0.trans hE));exact og_loadAt (P:=Tryz.prog) _ _ g (off+i*13+10) _ _ rfl rfl q104 (rat_cells x10 x11 x12) Tryz.underlying41 rfl (by kernel_rfl) rfl
        ·intro f wz hG hp hl;have hE:Ext wq wz:=hG;have hS:=hE.size;have q93:=tE hp 0 6 rfl rfl rfl;have q99:=tE hp 1 12 rfl rfl rfl;have q105:=tE hp 2 18 rfl rfl rfl;change OpGoal _ _ _ f wz Ext _;exact og_buildSlice (P:=Tryz.prog) 49 41 3 3 _ [qv l,qv h,qv c] rfl rfl Tryz.underlying49 (by kernel_rfl) (by kernel_rfl) (by simp only[Act.eval];exact congr (congr (congrArg (fun y0 y1 y2=> [(0,y0),(1,y1),(2,y2)]) q93) q99) q105) rfl (by omega) (by omega) (by omega) (qcN [l,h,c]).size (fun w' he hb=>⟨_,hS,rfl,hb⟩)
        ·intro f wz hG hp hl;have hE:Ext wq wz:=hG;have q106:=tellV hp 0 19 rfl rfl (fun _=>hE);change OpGoal _ _ _ f wz Ext _;refine oC #[f 19] Tryz.func74 rfl rfl ?_;obtain⟨gq, -,hvq,hbq⟩:=q106;rw[hvq];have hsl:=slq_three hbq (HL.out.ext (e1.trans (hE0.trans hE))) (HH.out.ext (e1.trans (hE0.trans hE))) (HC.out.ext (e1.trans (hE0.trans hE)));refine(weight_calls _ [y.2.2.1,y.2.2.2.1,y.2.2.2.2] _ hsl (by simp) HW2.out).mono ?_;rintro e w' ⟨rfl,h2⟩
         exact⟨_,rfl,h2,by rw[HQ.out]<;>rfl⟩
        ·intro f wz hG hp hl;have q87:=tE hp 0 0 rfl rfl rfl;have q107:=tE hp 1 20 rfl rfl rfl;simp only[OpGoal];go_simp;exact⟨_,rfl,Ext.refl _,congrArg (Value.int .i64) HT1.out⟩
        ·intro f wz hG hp hl;have q108:=tE hp 0 21 rfl rfl rfl;simp only[OpGoal];go_simp;exact⟨_,rfl,Ext.refl _,rfl⟩
       ·intro f wz hG hp;have hE:Ext wq wz:=ChgS.nil hG
        have q3:f 22= .int .i64 t1:=endV hp 22 (by decide) rfl (fun h=>by cases h)
        try simp only[q3]
        clear hp;have hEz:=hE0.trans hE;go_wp2;go_roundw
        case rel=>exact ⟨i+1,t1,by omega,congrArg (Value.int .i64) (by omega),rfl,HOK,hEz⟩
        case measure=>simp [intOf];omega
  ·have hlt:(i:Int)<(rn:Int):=by omega
   obtain⟨y,hy⟩:∃y,rows[i]? =some y:=⟨_,List.getElem?_eq_getElem (by rw[←Hrn.out];exact hin)⟩;obtain⟨g,off,rfl,l,h,ta,tn,tc,hcell,hL,hHh,hTt⟩:=HAR.out i y hy;have HCL:=Lib.hid hcell;have HL:=Lib.hid hL;have HH:=Lib.hid hHh;have HT:=Lib.hid hTt;have HTK:=Lib.hid (take_next hy);obtain⟨d1,hd1⟩:∃d,d=greatE [y.2.2.1.1,y.2.2.1.2]:=⟨_,rfl⟩;obtain⟨d2,hd2⟩:∃d,d=greatV y.2.2.2:=⟨_,rfl⟩;have HD1:=Lib.hid hd1;have HD2:=Lib.hid hd2;obtain⟨q1,hq1⟩:∃q,q=weightE [y.2.2.1.1,y.2.2.1.2]:=⟨_,rfl⟩;obtain⟨q2,hq2⟩:∃q,q=weightE (y.2.2.2.map Prod.snd):=⟨_,rfl⟩;have HQ:=Lib.hid (And.intro hq1 hq2);obtain⟨t1,ht1⟩:∃t,t=IntKind.i64.wrap (s+(q1:Int)):=⟨_,rfl⟩;obtain⟨t2,ht2⟩:∃t,t=IntKind.i64.wrap (t1+(q2:Int)):=⟨_,rfl⟩;have HT1:=Lib.hid ht1.symm;have HT2:=Lib.hid ht2.symm;have BPj:=bP.ext hE0;clear hcell hL hHh hTt hy hd1 hd2 hq1 hq2 ht1 ht2 hw1;have hp0:=BPj.cell 0;have hp1:=BPj.cell 1;have hp2:=BPj.cell 2;have hp3:=BPj.cell 3;go_wp2_with fail;clear hp0 hp1 hp2 hp3;refine wpQ [PP.val (.pointer (some ⟨w.heap.size,2,none⟩)),PP.val (.slice (some ⟨g,off,none⟩) rn rc),PP.val (.int .i64 (i:Int)),PP.val (.pointer (some ⟨g,off+i*10,none⟩)),PP.val (.pointer (some ⟨g,off+i*10+3,none⟩)),PP.val (qv l),PP.val (.pointer (some ⟨w.heap.size,2,none⟩)),PP.val (.slice (some ⟨g,off,none⟩) rn rc),PP.val (.int .i64 (i:Int)),PP.val (.pointer (some ⟨g,off+i*10,none⟩)),PP.val (.pointer (some ⟨g,off+i*10+6,none⟩)),PP.val (qv h),PP.newQ [qv l,qv h],PP.val (.bool d1),PP.val (.bool d1),PP.whn (!d1) (PP.val (.pointer (some ⟨w.heap.size,2,none⟩))),PP.whn (!d1) (PP.val (.slice (some ⟨g,off,none⟩) rn rc)),PP.whn (!d1) (PP.val (.int .i64 (i:Int))),PP.whn (!d1) (PP.val (.pointer (some ⟨g,off+i*10,none⟩))),PP.whn (!d1) (PP.val (.pointer (some ⟨g,off+i*10+9,none⟩))),PP.whn (!d1) (PP.val (.slice ta tn tc)),PP.whn (!d1) (PP.val (.bool d2)),PP.val (.bool (d1 || d2))] [] [0,1,2,3,4,5,6,7,8,9,10,11,12,13,14,15,16,17,18,19,20,21,22] ?_ ?_
   ·refine⟨?_,?_,?_,?_,?_,?_,?_,?_,?_,?_,?_,?_,?_,?_,?_,?_,?_,?_,?_,?_,?_,?_,?_,trivial⟩
    ·intro f wz hG hp hl;simp only[OpGoal];go_simp;exact⟨_,rfl,Ext.refl _,rfl⟩
    ·intro f wz hG hp hl;have hE:Ext wr wz:=hG;have q13:=tE hp 0 0 rfl rfl rfl;have hcell:=(BPj.ext hE).cell 2;simp only[OpGoal];go_simp;exact⟨_,rfl,Ext.refl _,rfl⟩
    ·intro f wz hG hp hl;simp only[OpGoal];go_simp;exact⟨_,rfl,Ext.refl _,rfl⟩
    ·intro f wz hG hp hl;have q14:=tE hp 0 1 rfl rfl rfl;have q15:=tE hp 1 2 rfl rfl rfl;simp only[OpGoal];go_simp;exact⟨_,rfl,Ext.refl _,rfl⟩
    ·intro f wz hG hp hl;have q16:=tE hp 0 3 rfl rfl rfl;simp only[OpGoal];go_simp;exact⟨_,rfl,Ext.refl _,rfl⟩
    ·intro f wz hG hp hl;have hE:Ext wr wz:=hG;have q17:=tE hp 0 4 rfl rfl rfl;change OpGoal _ _ _ f wz Ext _;obtain⟨-, -, -,x3,x4,x5, -⟩:=HCL.out _ (e1.trans (hE0.trans hE));exact og_loadAt (P:=Tryz.prog) _ _ g (off+i*10+3) _ _ rfl rfl q17 (rat_cells x3 x4 x5) Tryz.underlying41 rfl (by kernel_rfl) rfl
    ·intro f wz hG hp hl;simp only[OpGoal];go_simp;exact⟨_,rfl,Ext.refl _,rfl⟩
    ·intro f wz hG hp hl;have hE:Ext wr wz:=hG;have q19:=tE hp 0 6 rfl rfl rfl;have hcell:=(BPj.ext hE).cell 2;simp only[OpGoal];go_simp;exact⟨_,rfl,Ext.refl _,rfl⟩
    ·intro f wz hG hp hl;simp only[OpGoal];go_simp;exact⟨_,rfl,Ext.refl _,rfl⟩
    ·intro f wz hG hp hl;have q20:=tE hp 0 7 rfl rfl rfl;have q21:=tE hp 1 8 rfl rfl rfl;simp only[OpGoal];go_simp;exact⟨_,rfl,Ext.refl _,rfl⟩
    ·intro f wz hG hp hl;have q22:=tE hp 0 9 rfl rfl rfl;simp only[OpGoal];go_simp;exact⟨_,rfl,Ext.refl _,rfl⟩
    ·intro f wz hG hp hl;have hE:Ext wr wz:=hG;have q23:=tE hp 0 10 rfl rfl rfl;change OpGoal _ _ _ f wz Ext _;obtain⟨-, -, -, -, -, -,x6,x7,x8, -⟩:=HCL.out _ (e1.trans (hE0.trans hE));exact og_loadAt (P:=Tryz.prog) _ _ g (off+i*10+6) _ _ rfl rfl q23 (rat_cells x6 x7 x8) Tryz.underlying41 rfl (by kernel_rfl) rfl
    ·intro f wz hG hp hl;have hE:Ext wr wz:=hG;have hS:=hE.size;have q18:=tE hp 0 5 rfl rfl rfl;have q24:=tE hp 1 11 rfl rfl rfl;change OpGoal _ _ _ f wz Ext _;exact og_buildSlice (P:=Tryz.prog) 49 41 2 3 _ [qv l,qv h] rfl rfl Tryz.underlying49 (by kernel_rfl) (by kernel_rfl) (by simp only[Act.eval];exact congr (congrArg (fun y0 y1=> [(0,y0),(1,y1)]) q18) q24) rfl (by omega) (by omega) (by omega) (qcN [l,h]).size (fun w' he hb=>⟨_,hS,rfl,hb⟩)
    ·intro f wz hG hp hl;have hE:Ext wr wz:=hG;have q25:=tellV hp 0 12 rfl rfl (fun _=>hE);change OpGoal _ _ _ f wz Ext _;refine oC #[f 12] Tryz.func28 rfl rfl ?_;obtain⟨gq, -,hvq,hbq⟩:=q25;rw[hvq];have hsl:=slq_two hbq (HL.out.ext (e1.trans (hE0.trans hE))) (HH.out.ext (e1.trans (hE0.trans hE)));refine(greatAll_calls _ [y.2.2.1.1,y.2.2.1.2] _ hsl).mono ?_;rintro e w' ⟨rfl,h2⟩
     exact⟨_,rfl,h2,by rw[HD1.out]<;>rfl⟩
    ·intro f wz hG hp hl;have q26:=tE hp 0 13 rfl rfl rfl;exact⟨_,rfl,Ext.refl _,q26⟩
    ·intro f wz hG hp hl;have qg:=tellV hp 0 14 rfl rfl (fun h=>by cases h);refine og_when (p:=(PP.val (.pointer (some ⟨w.heap.size,2,none⟩)):PP _).p) rfl (when_f qg) ?_;intro hg0;clear qg;simp only[OpGoal];go_simp;exact⟨_,rfl,Ext.refl _,rfl⟩
    ·intro f wz hG hp hl;have hE:Ext wr wz:=hG;have qg:=tellV hp 1 14 rfl rfl (fun h=>by cases h);refine og_when (p:=(PP.val (.slice (some ⟨g,off,none⟩) rn rc):PP _).p) rfl (when_f qg) ?_;intro hg0;clear qg
     have q28:f 15= .pointer (some ⟨w.heap.size,2,none⟩):=(tellV hp 0 15 rfl rfl (fun h=>by cases h)).1 hg0
     have hcell:=(BPj.ext hE).cell 2;simp only[OpGoal];go_simp;exact⟨_,rfl,Ext.refl _,rfl⟩
    ·intro f wz hG hp hl;have qg:=tellV hp 0 14 rfl rfl (fun h=>by cases h);refine og_when (p:=(PP.val (.int .i64 (i:Int)):PP _).p) rfl (when_f qg) ?_;intro hg0;clear qg;simp only[OpGoal];go_simp;exact⟨_,rfl,Ext.refl _,rfl⟩
    ·intro f wz hG hp hl;have qg:=tellV hp 2 14 rfl rfl (fun h=>by cases h);refine og_when (p:=(PP.val (.pointer (some ⟨g,off+i*10,none⟩)):PP _).p) rfl (when_f qg) ?_;intro hg0;clear qg
     have q29:f 16= .slice (some ⟨g,off,none⟩) rn rc:=(tellV hp 0 16 rfl rfl (fun h=>by cases h)).1 hg0
     have q30:f 17= .int .i64 (i:Int):=(tellV hp 1 17 rfl rfl (fun h=>by cases h)).1 hg0
     simp only[OpGoal];go_simp;exact⟨_,rfl,Ext.refl _,rfl⟩
    ·intro f wz hG hp hl;have qg:=tellV hp 1 14 rfl rfl (fun h=>by cases h);refine og_when (p:=(PP.val (.pointer (some ⟨g,off+i*10+9,none⟩)):PP _).p) rfl (when_f qg) ?_;intro hg0;clear qg
     have q31:f 18= .pointer (some ⟨g,off+i*10,none⟩):=(tellV hp 0 18 rfl rfl (fun h=>by cases h)).1 hg0
     simp only[OpGoal];go_simp;exact⟨_,rfl,Ext.refl _,rfl⟩
    ·intro f wz hG hp hl;have hE:Ext wr wz:=hG;have qg:=tellV hp 1 14 rfl rfl (fun h=>by cases h);refine og_when (p:=(PP.val (.slice ta tn tc):PP _).p) rfl (when_f qg) ?_;intro hg0;clear qg
     have q32:f 19= .pointer (some ⟨g,off+i*10+9,none⟩):=(tellV hp 0 19 rfl rfl (fun h=>by cases h)).1 hg0
     have hcell:=(HCL.out _ (e1.trans (hE0.trans hE))).2.2.2.2.2.2.2.2.2;simp only[OpGoal];go_simp;exact⟨_,rfl,Ext.refl _,rfl⟩
    ·intro f wz hG hp hl;have hE:Ext wr wz:=hG;have qg:=tellV hp 1 14 rfl rfl (fun h=>by cases h);refine og_when (p:=(PP.val (.bool d2):PP _).p) rfl (when_f qg) ?_;intro hg0;clear qg
     have q33:f 20= .slice ta tn tc:=(tellV hp 0 20 rfl rfl (fun h=>by cases h)).1 hg0
     change OpGoal _ _ _ f wz Ext _;refine oC #[f 20] Tryz.func73 rfl rfl ?_;rw[q33];refine(great_calls _ y.2.2.2 _ (HT.out.ext (e1.trans (hE0.trans hE)))).mono ?_;rintro e w' ⟨rfl,h2⟩
     exact⟨_,rfl,h2,by rw[HD2.out]<;>rfl⟩
    ·intro f wz hG hp hl;have q27:=tE hp 0 14 rfl rfl rfl;have q34:=tellV hp 1 21 rfl rfl (fun h=>by cases h);change OpGoal _ _ _ f wz Ext _;exact og_pickO (P:=Tryz.prog) _ _ rfl rfl q27 (fun h=>q34.1 (by rw[h];rfl)) rfl
   ·intro f wq hG hp;have hE:Ext wr wq:=ChgS.nil hG
    have q35:f 22= .bool (d1 || d2):=endV hp 22 (by decide) rfl (fun h=>by cases h)
    try simp only[q35]
    clear hp;have hEq:=hE0.trans hE;obtain⟨g0,hg0⟩:∃g,g=(d1 || d2):=⟨_,rfl⟩;rw[←hg0];have HG:=Lib.hid hg0;clear hg0
    cases g0 with
    |true=>
     go_wp2;go_ret;exact GrP.mk true rfl (fun h=>(by cases h)) (e1.trans hEq)
    |false=>
     have hd:=Bool.or_eq_false_iff.1 HG.out.symm;have HW2:=Lib.hid (greatE_not (HD1.out.symm.trans hd.1)).2;have hgv:=greatE_not (l:=y.2.2.2.map Prod.snd) (HD2.out.symm.trans hd.2);have HO:Hid (okRw y):=Lib.hid ⟨HW2.out _ (by simp),HW2.out _ (by simp),by have:=hgv.1;rwa [List.length_map]at this,fun e he=>hgv.2 e.2 (List.mem_map_of_mem he)⟩
     have HOK:Hid (∀r∈rows.take (i+1),okRw r):=Lib.hid fun r hr=>by
      rw[HTK.out]at hr
      rcases List.mem_append.1 hr with hr |hr
      ·exact hH.out r hr
      ·rw[List.mem_singleton]at hr;subst hr;exact HO.out
     clear hH hd hgv;clear hE0;have hE0:=hEq;have BPj:=bP.ext hE0;clear hE hEq;have hp0:=BPj.cell 0;have hp1:=BPj.cell 1;have hp2:=BPj.cell 2;have hp3:=BPj.cell 3;go_wp2_with fail;clear hp0 hp1 hp2 hp3;refine wpQ [PP.val (.int .i64 s),PP.val (.pointer (some ⟨w.heap.size,2,none⟩)),PP.val (.slice (some ⟨g,off,none⟩) rn rc),PP.val (.int .i64 (i:Int)),PP.val (.pointer (some ⟨g,off+i*10,none⟩)),PP.val (.pointer (some ⟨g,off+i*10+3,none⟩)),PP.val (qv l),PP.val (.pointer (some ⟨w.heap.size,2,none⟩)),PP.val (.slice (some ⟨g,off,none⟩) rn rc),PP.val (.int .i64 (i:Int)),PP.val (.pointer (some ⟨g,off+i*10,none⟩)),PP.val (.pointer (some ⟨g,off+i*10+6,none⟩)),PP.val (qv h),PP.newQ [qv l,qv h],PP.val (.int .i64 (q1:Int)),PP.val (.int .i64 t1),PP.val (.pointer (some ⟨w.heap.size,2,none⟩)),PP.val (.slice (some ⟨g,off,none⟩) rn rc),PP.val (.int .i64 (i:Int)),PP.val (.pointer (some ⟨g,off+i*10,none⟩)),PP.val (.pointer (some ⟨g,off+i*10+9,none⟩)),PP.val (.slice ta tn tc),PP.val (.int .i64 (q2:Int)),PP.val (.int .i64 t2),PP.val (.int .i64 t2)] [(0,24,3)] [0,1,2,3,4,5,6,7,8,9,10,11,12,13,14,15,16,17,18,19,20,21,22,23,24] ?_ ?_
     ·refine⟨?_,?_,?_,?_,?_,?_,?_,?_,?_,?_,?_,?_,?_,?_,?_,?_,?_,?_,?_,?_,?_,?_,?_,?_,?_,trivial⟩
      ·intro f wz hG hp hl
       have l3:f 24= .int .i64 s:=hl.1 rfl
       simp only[OpGoal];go_simp;exact⟨_,rfl,Ext.refl _,rfl⟩
      ·intro f wz hG hp hl;simp only[OpGoal];go_simp;exact⟨_,rfl,Ext.refl _,rfl⟩
      ·intro f wz hG hp hl;have hE:Ext wq wz:=hG;have q37:=tE hp 0 1 rfl rfl rfl;have hcell:=(BPj.ext hE).cell 2;simp only[OpGoal];go_simp;exact⟨_,rfl,Ext.refl _,rfl⟩
      ·intro f wz hG hp hl;simp only[OpGoal];go_simp;exact⟨_,rfl,Ext.refl _,rfl⟩
      ·intro f wz hG hp hl;have q38:=tE hp 0 2 rfl rfl rfl;have q39:=tE hp 1 3 rfl rfl rfl;simp only[OpGoal];go_simp;exact⟨_,rfl,Ext.refl _,rfl⟩
      ·intro f wz hG hp hl;have q40:=tE hp 0 4 rfl rfl rfl;simp only[OpGoal];go_simp;exact⟨_,rfl,Ext.refl _,rfl⟩
      ·intro f wz hG hp hl;have hE:Ext wq wz:=hG;have q41:=tE hp 0 5 rfl rfl rfl;change OpGoal _ _ _ f wz Ext _;obtain⟨-, -, -,x3,x4,x5, -⟩:=HCL.out _ (e1.trans (hE0.trans hE));exact og_loadAt (P:=Tryz.prog) _ _ g (off+i*10+3) _ _ rfl rfl q41 (rat_cells x3 x4 x5) Tryz.underlying41 rfl (by kernel_rfl) rfl
      ·intro f wz hG hp hl;simp only[OpGoal];go_simp;exact⟨_,rfl,Ext.refl _,rfl⟩
      ·intro f wz hG hp hl;have hE:Ext wq wz:=hG;have q43:=tE hp 0 7 rfl rfl rfl;have hcell:=(BPj.ext hE).cell 2;simp only[OpGoal];go_simp;exact⟨_,rfl,Ext.refl _,rfl⟩
      ·intro f wz hG hp hl;simp only[OpGoal];go_simp;exact⟨_,rfl,Ext.refl _,rfl⟩
      ·intro f wz hG hp hl;have q44:=tE hp 0 8 rfl rfl rfl;have q45:=tE hp 1 9 rfl rfl rfl;simp only[OpGoal];go_simp;exact⟨_,rfl,Ext.refl _,rfl⟩
      ·intro f wz hG hp hl;have q46:=tE hp 0 10 rfl rfl rfl;simp only[OpGoal];go_simp;exact⟨_,rfl,Ext.refl _,rfl⟩
      ·intro f wz hG hp hl;have hE:Ext wq wz:=hG;have q47:=tE hp 0 11 rfl rfl rfl;change OpGoal _ _ _ f wz Ext _;obtain⟨-, -, -, -, -, -,x6,x7,x8, -⟩:=HCL.out _ (e1.trans (hE0.trans hE));exact og_loadAt (P:=Tryz.prog) _ _ g (off+i*10+6) _ _ rfl rfl q47 (rat_cells x6 x7 x8) Tryz.underlying41 rfl (by kernel_rfl) rfl
      ·intro f wz hG hp hl;have hE:Ext wq wz:=hG;have hS:=hE.size;have q42:=tE hp 0 6 rfl rfl rfl;have q48:=tE hp 1 12 rfl rfl rfl;change OpGoal _ _ _ f wz Ext _;exact og_buildSlice (P:=Tryz.prog) 49 41 2 3 _ [qv l,qv h] rfl rfl Tryz.underlying49 (by kernel_rfl) (by kernel_rfl) (by simp only[Act.eval];exact congr (congrArg (fun y0 y1=> [(0,y0),(1,y1)]) q42) q48) rfl (by omega) (by omega) (by omega) (qcN [l,h]).size (fun w' he hb=>⟨_,hS,rfl,hb⟩)
      ·intro f wz hG hp hl;have hE:Ext wq wz:=hG;have q49:=tellV hp 0 13 rfl rfl (fun _=>hE);change OpGoal _ _ _ f wz Ext _;refine oC #[f 13] Tryz.func74 rfl rfl ?_;obtain⟨gq, -,hvq,hbq⟩:=q49;rw[hvq];have hsl:=slq_two hbq (HL.out.ext (e1.trans (hE0.trans hE))) (HH.out.ext (e1.trans (hE0.trans hE)));refine(weight_calls _ [y.2.2.1.1,y.2.2.1.2] _ hsl (by simp) HW2.out).mono ?_;rintro e w' ⟨rfl,h2⟩
       exact⟨_,rfl,h2,by rw[HQ.out.1]<;>rfl⟩
      ·intro f wz hG hp hl;have q36:=tE hp 0 0 rfl rfl rfl;have q50:=tE hp 1 14 rfl rfl rfl;simp only[OpGoal];go_simp;exact⟨_,rfl,Ext.refl _,congrArg (Value.int .i64) HT1.out⟩
      ·intro f wz hG hp hl;simp only[OpGoal];go_simp;exact⟨_,rfl,Ext.refl _,rfl⟩
      ·intro f wz hG hp hl;have hE:Ext wq wz:=hG;have q52:=tE hp 0 16 rfl rfl rfl;have hcell:=(BPj.ext hE).cell 2;simp only[OpGoal];go_simp;exact⟨_,rfl,Ext.refl _,rfl⟩
      ·intro f wz hG hp hl;simp only[OpGoal];go_simp;exact⟨_,rfl,Ext.refl _,rfl⟩
      ·intro f wz hG hp hl;have q53:=tE hp 0 17 rfl rfl rfl;have q54:=tE hp 1 18 rfl rfl rfl;simp only[OpGoal];go_simp;exact⟨_,rfl,Ext.refl _,rfl⟩
      ·intro f wz hG hp hl;have q55:=tE hp 0 19 rfl rfl rfl;simp only[OpGoal];go_simp;exact⟨_,rfl,Ext.refl _,rfl⟩
      ·intro f wz hG hp hl;have hE:Ext wq wz:=hG;have q56:=tE hp 0 20 rfl rfl rfl;have hcell:=(HCL.out _ (e1.trans (hE0.trans hE))).2.2.2.2.2.2.2.2.2;simp only[OpGoal];go_simp;exact⟨_,rfl,Ext.refl _,rfl⟩
      ·intro f wz hG hp hl;have hE:Ext wq wz:=hG;have q57:=tE hp 0 21 rfl rfl rfl;change OpGoal _ _ _ f wz Ext _;refine oC #[f 21] Tryz.func75 rfl rfl ?_;rw[q57];refine(weights_calls _ y.2.2.2 _ (HT.out.ext (e1.trans (hE0.trans hE))) HO.out.2.2.1 HO.out.2.2.2).mono ?_;rintro e w' ⟨rfl,h2⟩
       exact⟨_,rfl,h2,by rw[HQ.out.2]<;>rfl⟩
      ·intro f wz hG hp hl;have q51:=tE hp 0 15 rfl rfl rfl;have q58:=tE hp 1 22 rfl rfl rfl;simp only[OpGoal];go_simp;exact⟨_,rfl,Ext.refl _,congrArg (Value.int .i64) HT2.out⟩
      ·intro f wz hG hp hl;have q59:=tE hp 0 23 rfl rfl rfl;simp only[OpGoal];go_simp;exact⟨_,rfl,Ext.refl _,rfl⟩
     ·intro f wz hG hp;have hE:Ext wq wz:=ChgS.nil hG
      have q3:f 24= .int .i64 t2:=endV hp 24 (by decide) rfl (fun h=>by cases h)
      try simp only[q3]
      clear hp;have hEz:=hE0.trans hE;go_wp2;go_roundw
      case rel=>exact ⟨i+1,t2,by omega,congrArg (Value.int .i64) (by omega),rfl,HOK,hEz⟩
      case measure=>simp [intOf];omega
set_option maxHeartbeats 4000000 in
theorem wholem_calls(n:Int)(w:World)(h0: -9223372036854775808≤n)(h1:n≤9223372036854775807):
  Calls Tryz.prog 71 #[.int .i64 n] w fun e w'=>∃v',e= .returned v'∧FrQ w.heap.size w' v' (n:Rat)∧Ext w w':=by
 have sn:=szD_int n;have tn:=szT_small (z:=n) (by omega)
 go_enter Tryz.func71,Tryz.ntmps71
 obtain⟨w1,hw1,e1,b1,s1⟩:=alloc1 w #[.bool false,.slice none 0 0,.slice none 0 0] 41;go_wp2_with fail;rw[←hw1];refine(rqsmall3_calls n _ h0 h1).mono ?_;rintro e w2 ⟨v2,rfl,q2,e2⟩;go_wp2_with fail;refine(rqto3_calls _ (n:Rat) _ q2.cq (by omega)).mono ?_;rintro e w5 ⟨v5,rfl,q5,e5⟩;obtain⟨s',t',rfl,hn,hm⟩:=q5;obtain⟨ad5,cap5,rfl⟩:=hn.slice;obtain⟨ad6,cap6,rfl⟩:=hm.slice;have Hn5:=Lib.hid hn;have Hm5:=Lib.hid hm;have E25:=e2.trans e5;have hsz:=e2.size;clear hn hm;have hb:=b1.ext E25;have hc0:=hb.cell 0;have hc1:=hb.cell 1;have hc2:=hb.cell 2;have hf0:=hb.free 0;have hf1:=hb.free 1;have hf2:=hb.free 2;go_wp2;refine ret_box 2 41 w.heap.size 41 _ _ (by kernel_rfl) rfl (((hb.set 0 _).set 1 _).set 2 _) Tryz.underlying41 rfl (by kernel_rfl) rfl ?_;exact⟨_,rfl,⟨_,_,rfl,(Hn5.out.chg (Chg.trans (Chg.trans (Chg.setCell _ w.heap.size 0 _) (Chg.setCell _ w.heap.size 1 _)) (Chg.setCell _ w.heap.size 2 _)) (by omega)).mono (by omega),(Hm5.out.chg (Chg.trans (Chg.trans (Chg.setCell _ w.heap.size 0 _) (Chg.setCell _ w.heap.size 1 _)) (Chg.setCell _ w.heap.size 2 _)) (by omega)).mono (by omega)⟩,(e1.trans E25).step (Chg.trans (Chg.trans (Chg.setCell _ w.heap.size 0 _) (Chg.setCell _ w.heap.size 1 _)) (Chg.setCell _ w.heap.size 2 _)) (by omega)⟩
def exP:PbR:=([((false,true,((0:Int):Rat),((3:Int):Rat)),[((0:Int),((2:Int):Rat))])],[(false,(true,true,((0:Int):Rat),((4:Int):Rat)),(((-1:Int)):Rat))])
theorem exP_len:(conP exP).length=3:=by decide+kernel
theorem exP_0:(conP exP)[0]?.map Prod.fst=some 1:=by decide+kernel
theorem exP_1:(conP exP)[1]?.map Prod.fst=some 2:=by decide+kernel
theorem exP_o:(objP exP).length=1:=by decide+kernel
theorem exP_h1:holdsP exP [((1:Int):Rat)]=true:=by decide+kernel
theorem exP_h2:holdsP exP [((2:Int):Rat)]=false:=by decide+kernel
theorem exP_c:costP exP [((1:Int):Rat)]=(((-1:Int)):Rat):=by decide+kernel
theorem exP_f:finP exP=true:=by decide+kernel
theorem exP_sz:szQ ((0:Int):Rat)≤1∧szQ ((1:Int):Rat)≤1∧szQ ((2:Int):Rat)≤1∧szQ ((3:Int):Rat)≤1∧szQ ((4:Int):Rat)≤1∧szQ (((-1:Int)):Rat)≤1:=by decide+kernel
theorem CoL.cl{B K:Nat}{w:World}{v:Value}{cs:List CR}(h:CoL B K w v cs)(hK:K≤LIM):CL K w v cs:=(OL.sl h (by omega)).map fun u y h=>h.cnR hK
theorem rwl_one{k g:Nat}{w:World}{nm:ByteArray}{l h:QC}{ta:Option Addr}{tn tc:Nat}{r:RwR}(hb:Bx 97 w g #[.string nm,.bool r.1.1,.bool r.1.2.1,.bool l.b,.slice l.a1 l.n1 l.c1,.slice l.a2 l.n2 l.c2,.bool h.b,.slice h.a1 h.n1 h.c1,.slice h.a2 h.n2 h.c2,.slice ta tn tc])(hs:SpV k w l h r.1)(ht:TL k w (.slice ta tn tc) r.2):RwL k w (.slice (some ⟨g,0,none⟩) 1 1) [r]:=by
 refine⟨some ⟨g,0,none⟩,1,rfl,Nat.le_refl _,by omega,.inr ⟨g,0,rfl,fun i x hx=> ?_⟩⟩
 have hi:i=0:=by
  have:=(List.getElem?_eq_some_iff.1 hx).1
  simp at this
  exact this
 subst hi;simp only[List.getElem?_cons_zero,Option.some.injEq]at hx;subst hx;exact⟨_,rfl,fun j v hj=>by rw[show 0+0*10+j=j by omega,hb.cell];exact hj,nm,l,h,ta,tn,tc,rfl,hs,ht⟩
theorem vrl_one{k g:Nat}{w:World}{nm:ByteArray}{l h c:QC}{r:VrR}(hb:Bx 43 w g #[.string nm,.bool r.1,.bool r.2.1.1,.bool r.2.1.2.1,.bool l.b,.slice l.a1 l.n1 l.c1,.slice l.a2 l.n2 l.c2,.bool h.b,.slice h.a1 h.n1 h.c1,.slice h.a2 h.n2 h.c2,.bool c.b,.slice c.a1 c.n1 c.c1,.slice c.a2 c.n2 c.c2])(hs:SpV k w l h r.2.1)(hc:IsR w (.agg #[.bool c.b,.slice c.a1 c.n1 c.c1,.slice c.a2 c.n2 c.c2]) r.2.2 k):VrL k w (.slice (some ⟨g,0,none⟩) 1 1) [r]:=by
 refine⟨some ⟨g,0,none⟩,1,rfl,Nat.le_refl _,by omega,.inr ⟨g,0,rfl,fun i x hx=> ?_⟩⟩
 have hi:i=0:=by
  have:=(List.getElem?_eq_some_iff.1 hx).1
  simp at this
  exact this
 subst hi;simp only[List.getElem?_cons_zero,Option.some.injEq]at hx;subst hx;exact⟨_,rfl,fun j v hj=>by rw[show 0+0*13+j=j by omega,hb.cell];exact hj,nm,l,h,c,rfl,hs,hc⟩
theorem ql_oneF{k g B:Nat}{w:World}{b:Bool}{a1:Option Addr}{n1 c1:Nat}{a2:Option Addr}{n2 c2:Nat}{q:Rat}(hb:Bx 41 w g #[.bool b,.slice a1 n1 c1,.slice a2 n2 c2])(hq:FrQ B w (.agg #[.bool b,.slice a1 n1 c1,.slice a2 n2 c2]) q)(hs:szQ q≤k)(hk:k≤LIM):QL k w (.slice (some ⟨g,0,none⟩) 1 1) [q]:=by
 refine⟨some ⟨g,0,none⟩,1,rfl,Nat.le_refl _,by omega,.inr ⟨g,0,rfl,fun i x hx=> ?_⟩⟩
 have hi:i=0:=by
  have:=(List.getElem?_eq_some_iff.1 hx).1
  simp at this
  exact this
 subst hi;simp only[List.getElem?_cons_zero,Option.some.injEq]at hx;subst hx;exact⟨_,rfl,fun j v hj=>by rw[show 0+0*3+j=j by omega,hb.cell];exact hj,hq.isR hs hk⟩
def PP.qlx{S:Nat}(k:Nat)(l:List Rat):PP S:=⟨true,fun u w=>QL k w u l,fun _ _ _ h hp=>QL.ext hp h,fun h=>by cases h⟩
def PP.len1{S:Nat}:PP S:=⟨false,fun u w=>∃ad cap,u= .slice ad 1 cap,fun _ _ _ _ hp=>hp,fun _ _ _ _ _ _ _ hp=>hp⟩
set_option maxHeartbeats 4000000 in
theorem speaksm_calls(w:World):Calls Tryz.prog 15 #[] w fun e w'=>e= .returned (.bool true)∧Ext w w':=by
 obtain⟨z0,z1,z2,z3,z4,zm⟩:=exP_sz
 have lim:(68719476736:Nat)≤LIM:=by rw[LIM_eq];omega
 have hN1:∀r∈exP.1,r.2.length≤1:=by decide
 go_enter Tryz.func15,Tryz.ntmps15
 go_wp2_with fail;refine(wholem_calls 0 w (by omega) (by omega)).mono ?_;rintro e w2 ⟨vA,rfl,fA,eA⟩;obtain⟨bA,pA,lA,kA,rA,mA,jA,rfl,qA⟩:=fA.opn;clear fA;go_wp2_with fail;refine(wholem_calls 3 w2 (by omega) (by omega)).mono ?_;rintro e w3 ⟨vB,rfl,fB,eB⟩;obtain⟨bB,pB,lB,kB,rB,mB,jB,rfl,qB⟩:=fB.opn;clear fB;go_wp2_with fail;refine(wholem_calls 2 w3 (by omega) (by omega)).mono ?_;rintro e w4 ⟨vC,rfl,fC,eC⟩;obtain⟨bC,pC,lC,kC,rC,mC,jC,rfl,qC⟩:=fC.opn;clear fC;go_wp2_with fail;obtain⟨w5,hw5,e5,bT,s5⟩:=alloc1 w4 #[.int .i64 0,.bool bC,.slice pC lC kC,.slice rC mC jC] 95;obtain⟨w6,hw6,e6,bR,s6⟩:=alloc1 w5 #[.string ⟨#[114,49]⟩,.bool false,.bool true,.bool bA,.slice pA lA kA,.slice rA mA jA,.bool bB,.slice pB lB kB,.slice rB mB jB,.slice (some ⟨w4.heap.size,0,none⟩) 1 1] 97;rw[←hw5,←hw6];have TT:=Lib.hid ((to_one (B:=0) (k:=1) (Nat.zero_le _) (bT.ext e6) (((qC.ext e5).ext e6).mono (Nat.zero_le _)) z2).tl (by omega));have RA:=Lib.hid (((((qA.ext eB).ext eC).ext e5).ext e6).isR z0 (by omega));have RB:=Lib.hid ((((qB.ext eC).ext e5).ext e6).isR z3 (by omega));have RL:Hid (RwL 1 w6 (.slice (some ⟨w5.heap.size,0,none⟩) 1 1) exP.1):=Lib.hid (rwl_one (l:=(⟨bA,pA,lA,kA,rA,mA,jA⟩:QC)) (h:=(⟨bB,pB,lB,kB,rB,mB,jB⟩:QC)) (r:=((false,true,((0:Int):Rat),((3:Int):Rat)),[((0:Int),((2:Int):Rat))])) bR ⟨RA.out,RB.out⟩ TT.out);have E6:=Lib.hid ((((eA.trans eB).trans eC).trans e5).trans e6)
 have hs5:w5.heap.size=w4.heap.size+1:=s5
 rw[hs5]at RL;obtain⟨gr,hgr⟩:∃g,g=w4.heap.size+1:=⟨_,rfl⟩;rw[←hgr]at RL ⊢;clear hw5 hw6 bT bR qA qB qC eA eB eC e5 e6 TT RA RB s5 s6 hgr hs5;refine(wholem_calls 0 w6 (by omega) (by omega)).mono ?_;rintro e w7 ⟨vD,rfl,fD,eD⟩;obtain⟨bD,pD,lD,kD,rD,mD,jD,rfl,qD⟩:=fD.opn;clear fD;go_wp2_with fail;refine(wholem_calls 4 w7 (by omega) (by omega)).mono ?_;rintro e w8 ⟨vE,rfl,fE,eE⟩;obtain⟨bE,pE,lE,kE,rE,mE,jE,rfl,qE⟩:=fE.opn;clear fE;go_wp2_with fail;refine(wholem_calls (-1) w8 (by omega) (by omega)).mono ?_;rintro e w9 ⟨vG,rfl,fG,eG⟩;obtain⟨bG,pG,lG,kG,rG,mG,jG,rfl,qG⟩:=fG.opn;clear fG;go_wp2_with fail;obtain⟨w10,hw10,e10,bV,s10⟩:=alloc1 w9 #[.string ⟨#[120]⟩,.bool false,.bool true,.bool true,.bool bD,.slice pD lD kD,.slice rD mD jD,.bool bE,.slice pE lE kE,.slice rE mE jE,.bool bG,.slice pG lG kG,.slice rG mG jG] 43;have VL:VrL 1 w10 (.slice (some ⟨w9.heap.size,0,none⟩) 1 1) exP.2:=vrl_one (l:=(⟨bD,pD,lD,kD,rD,mD,jD⟩:QC)) (h:=(⟨bE,pE,lE,kE,rE,mE,jE⟩:QC)) (c:=(⟨bG,pG,lG,kG,rG,mG,jG⟩:QC)) (r:=(false,(true,true,((0:Int):Rat),((4:Int):Rat)),(((-1:Int)):Rat))) bV ⟨(((qD.ext eE).ext eG).ext e10).isR z0 (by omega),((qE.ext eG).ext e10).isR z4 (by omega)⟩ ((qG.ext e10).isR zm (by omega));obtain⟨gv,hgv⟩:∃g,g=w9.heap.size:=⟨_,rfl⟩
 have hs10:w10.heap.size=w9.heap.size+1:=s10
 rw[←hgv]at VL hs10 ⊢;obtain⟨w11,hw11,e11,bP,s11⟩:=alloc1 w10 #[.string ⟨#[]⟩,.string ⟨#[99,111,115,116]⟩,.slice (some ⟨gr,0,none⟩) 1 1,.slice (some ⟨gv,0,none⟩) 1 1] 25;have hP:PbV 1 w11 (.agg #[.string ⟨#[]⟩,.string ⟨#[99,111,115,116]⟩,.slice (some ⟨gr,0,none⟩) 1 1,.slice (some ⟨gv,0,none⟩) 1 1]) exP:=⟨_,_,_,_,_,_,_,_,rfl,((((RL.out.ext eD).ext eE).ext eG).ext e10).ext e11,VL.ext e11⟩;have HP1:=Lib.hid hP;have E11:=Lib.hid (((((E6.out.trans eD).trans eE).trans eG).trans e10).trans e11);rw[←hw10,←hw11];rw[hs10]at bP;obtain⟨gp,hgp⟩:∃g,g=gv+1:=⟨_,rfl⟩;rw[←hgp]at bP ⊢;clear hP VL RL bV qD qE qG eD eE eG e10 e11 hw10 hw11 E6 hgv hgp s10 s11 hs10;refine(mcons_calls 1 4 1 _ exP w11 HP1.out hN1 (by omega) (by omega) (by omega) (by omega) (by omega) (by decide) (by decide)).mono ?_;rintro e w12 ⟨v12,rfl,c12,e12⟩;obtain⟨adc,nc,cc,hnc,rfl, -,hat⟩:=(c12.cl (by omega)).at;rw[exP_len]at hnc;subst hnc;obtain⟨c0,hc0,hs0⟩:=Option.map_eq_some_iff.1 exP_0;obtain⟨c1,hc1,hs1⟩:=Option.map_eq_some_iff.1 exP_1;obtain⟨gc,oc,rfl,_,_,_,_,_,_,_,_,_,_,hl0, -, -⟩:=hat 0 c0 hc0;obtain⟨gc',oc',hgo,_,_,_,_,_,_,_,_,_,_,hl1, -, -⟩:=hat 1 c1 hc1
 cases hgo
 have P12:=bP.ext e12;have hp0:=P12.cell 0;have hp1:=P12.cell 1;have hp2:=P12.cell 2;have hp3:=P12.cell 3
 have HC0a:Hid (∀wz,Ext w12 wz→wz.cell? ⟨gc,oc,none⟩=some (.int .i64 1)):=Lib.hid fun wz hz=>by
  have:=(hl0 wz hz).1
  rw[hs0]at this
  simpa using this
 have HC1a:Hid (∀wz,Ext w12 wz→wz.cell? ⟨gc,oc+5,none⟩=some (.int .i64 2)):=Lib.hid fun wz hz=>by
  have:=(hl1 wz hz).1
  rw[hs1]at this
  simpa using this
 clear hat hl0 hl1 c12 hc0 hc1 hs0 hs1;go_wp2_with fail;refine(mobj_calls 1 _ exP w12 (HP1.out.ext e12) (by decide) (by decide)).mono ?_;rintro e w13 ⟨v13,rfl,t13,e13⟩;obtain⟨ao,co,rfl⟩:=t13.val;rw[exP_o];have E12:=e12.trans e13;have HP:=Lib.hid (HP1.out.ext E12);have BP:=bP.ext E12
 have HC0:Hid (∀wz,Ext w13 wz→wz.cell? ⟨gc,oc,none⟩=some (.int .i64 1)):=Lib.hid fun wz hz=>HC0a.out wz (e13.trans hz)
 have HC1:Hid (∀wz,Ext w13 wz→wz.cell? ⟨gc,oc+5,none⟩=some (.int .i64 2)):=Lib.hid fun wz hz=>HC1a.out wz (e13.trans hz)
 have X13:=Lib.hid (E11.out.trans E12);clear hp0 hp1 hp2 hp3 P12 bP t13 HC0a HC1a HP1 E11 E12 e12 e13;go_wp2_with fail;refine wpQ [PP.val (.agg #[.string ⟨#[]⟩,.string ⟨#[99,111,115,116]⟩,.slice (some ⟨gr,0,none⟩) 1 1,.slice (some ⟨gv,0,none⟩) 1 1]),PP.frQ ((1:Int):Rat),PP.qlx 1 [((1:Int):Rat)],PP.val (.bool true),PP.val (.bool true),PP.val (.agg #[.string ⟨#[]⟩,.string ⟨#[99,111,115,116]⟩,.slice (some ⟨gr,0,none⟩) 1 1,.slice (some ⟨gv,0,none⟩) 1 1]),PP.frQ ((2:Int):Rat),PP.qlx 1 [((2:Int):Rat)],PP.val (.bool false),PP.val (.bool true),PP.val (.bool true),PP.val (.bool true),PP.val (.agg #[.string ⟨#[]⟩,.string ⟨#[99,111,115,116]⟩,.slice (some ⟨gr,0,none⟩) 1 1,.slice (some ⟨gv,0,none⟩) 1 1]),PP.frQ ((1:Int):Rat),PP.qlx 1 [((1:Int):Rat)],PP.frQ (((-1:Int)):Rat),PP.frQ (((-1):Int):Rat),PP.val (.bool true),PP.val (.bool true),PP.val (.bool true),PP.val (.agg #[.string ⟨#[]⟩,.string ⟨#[99,111,115,116]⟩,.slice (some ⟨gr,0,none⟩) 1 1,.slice (some ⟨gv,0,none⟩) 1 1]),PP.val (.bool true),PP.val (.bool true),PP.val (.bool true),PP.val (.slice (some ⟨gc,oc,none⟩) 3 cc),PP.val (.int .i64 3),PP.val (.bool true),PP.val (.bool true),PP.val (.bool true),PP.val (.slice (some ⟨gc,oc,none⟩) 3 cc),PP.val (.pointer (some ⟨gc,oc,none⟩)),PP.val (.pointer (some ⟨gc,oc,none⟩)),PP.val (.int .i64 1),PP.val (.bool true),PP.val (.bool true),PP.val (.bool true),PP.val (.slice (some ⟨gc,oc,none⟩) 3 cc),PP.val (.pointer (some ⟨gc,oc+5,none⟩)),PP.val (.pointer (some ⟨gc,oc+5,none⟩)),PP.val (.int .i64 2),PP.val (.bool true),PP.val (.bool true),PP.val (.bool true),PP.val (.slice ao 1 co),PP.val (.int .i64 1),PP.val (.bool true),PP.val (.bool true),PP.val (.bool true),PP.val (.agg #[.string ⟨#[]⟩,.string ⟨#[99,111,115,116]⟩,.slice (some ⟨gr,0,none⟩) 1 1,.slice (some ⟨gv,0,none⟩) 1 1]),PP.len1,PP.val (.int .i64 1),PP.val (.bool true),PP.val (.bool true),PP.val (.bool true)] [] [0,1,2,3,4,5,6,7,8,9,10,11,12,13,14,15,16,17,18,19,20,21,22,23,24,25,26,27,28,29,30,31,32,33,34,35,36,37,38,39,40,41,42,43,44,45,46,47,48,49,50,51,52,53] ?_ ?_
 ·refine⟨?_,?_,?_,?_,?_,?_,?_,?_,?_,?_,?_,?_,?_,?_,?_,?_,?_,?_,?_,?_,?_,?_,?_,?_,?_,?_,?_,?_,?_,?_,?_,?_,?_,?_,?_,?_,?_,?_,?_,?_,?_,?_,?_,?_,?_,?_,?_,?_,?_,?_,?_,?_,?_,?_,trivial⟩
  ·intro f wz hG hp hl;have hE:Ext w13 wz:=hG;change OpGoal _ _ _ f wz Ext _;exact og_load (P:=Tryz.prog) _ _ gp _ _ _ rfl rfl rfl (BP.ext hE) Tryz.underlying25 rfl (by kernel_rfl) rfl
  ·intro f wz hG hp hl;have hE:Ext w13 wz:=hG;have hS:=hE.size;change OpGoal _ _ _ f wz Ext _;refine oC #[.int .i64 1] Tryz.func71 rfl rfl ?_;refine(wholem_calls 1 _ (by omega) (by omega)).mono ?_;rintro e w' ⟨v',rfl,h1,h2⟩;exact⟨v',rfl,h2,h1.mono hS⟩
  ·intro f wz hG hp hl;have hE:Ext w13 wz:=hG;have hS:=hE.size;have q22:=tellV hp 0 1 rfl rfl (fun _=>hE);obtain⟨b',a1',n1',c1',a2',n2',c2',hv,hq⟩:=FrQ.opn q22;change OpGoal _ _ _ f wz Ext _;exact og_buildSlice (P:=Tryz.prog) 49 41 1 3 _ [.agg #[.bool b',.slice a1' n1' c1',.slice a2' n2' c2']] rfl rfl Tryz.underlying49 (by kernel_rfl) (by kernel_rfl) (by simp only[Act.eval];exact congrArg (fun z=> [(0,z)]) hv) rfl (by omega) (by omega) (by omega) (StrN.one rfl (all3 rfl rfl rfl)).size (fun w' he hb=>ql_oneF hb (hq.ext he) z1 (by omega))
  ·intro f wz hG hp hl;have hE:Ext w13 wz:=hG;have hS:=hE.size;have q21:=tE hp 0 0 rfl rfl rfl;have q23:=tellV hp 1 2 rfl rfl (fun _=>hE);change OpGoal _ _ _ f wz Ext _;refine oC #[f 0,f 2] Tryz.func33 rfl rfl ?_;rw[q21];refine(mholds_calls 1 1 10 1 _ _ exP _ _ (HP.out.ext hE) q23 hN1 (by omega) (by omega) (by omega) (by omega) (by omega)).mono ?_;rintro e w' ⟨rfl,h2⟩
   exact⟨_,rfl,h2,by rw[exP_h1]<;>rfl⟩
  ·intro f wz hG hp hl;have q24:=tE hp 0 3 rfl rfl rfl;simp only[OpGoal];go_simp;exact⟨_,rfl,Ext.refl _,rfl⟩
  ·intro f wz hG hp hl;have hE:Ext w13 wz:=hG;have qg:=tE hp 0 4 rfl rfl rfl;change OpGoal _ _ _ f wz Ext _;refine og_guard (j:=4) (want:=true) rfl qg ?_;change OpGoal _ _ _ f wz Ext _;exact og_load (P:=Tryz.prog) _ _ gp _ _ _ rfl rfl rfl (BP.ext hE) Tryz.underlying25 rfl (by kernel_rfl) rfl
  ·intro f wz hG hp hl;have hE:Ext w13 wz:=hG;have hS:=hE.size;have qg:=tE hp 0 4 rfl rfl rfl;change OpGoal _ _ _ f wz Ext _;refine og_guard (j:=4) (want:=true) rfl qg ?_;change OpGoal _ _ _ f wz Ext _;refine oC #[.int .i64 2] Tryz.func71 rfl rfl ?_;refine(wholem_calls 2 _ (by omega) (by omega)).mono ?_;rintro e w' ⟨v',rfl,h1,h2⟩;exact⟨v',rfl,h2,h1.mono hS⟩
  ·intro f wz hG hp hl;have hE:Ext w13 wz:=hG;have hS:=hE.size;have q27:=tellV hp 0 6 rfl rfl (fun _=>hE);have qg:=tE hp 1 4 rfl rfl rfl;change OpGoal _ _ _ f wz Ext _;refine og_guard (j:=4) (want:=true) rfl qg ?_;obtain⟨b',a1',n1',c1',a2',n2',c2',hv,hq⟩:=FrQ.opn q27;change OpGoal _ _ _ f wz Ext _;exact og_buildSlice (P:=Tryz.prog) 49 41 1 3 _ [.agg #[.bool b',.slice a1' n1' c1',.slice a2' n2' c2']] rfl rfl Tryz.underlying49 (by kernel_rfl) (by kernel_rfl) (by simp only[Act.eval];exact congrArg (fun z=> [(0,z)]) hv) rfl (by omega) (by omega) (by omega) (StrN.one rfl (all3 rfl rfl rfl)).size (fun w' he hb=>ql_oneF hb (hq.ext he) z2 (by omega))
  ·intro f wz hG hp hl;have hE:Ext w13 wz:=hG;have hS:=hE.size;have q26:=tE hp 0 5 rfl rfl rfl;have q28:=tellV hp 1 7 rfl rfl (fun _=>hE);have qg:=tE hp 3 4 rfl rfl rfl;change OpGoal _ _ _ f wz Ext _;refine og_guard (j:=4) (want:=true) rfl qg ?_;change OpGoal _ _ _ f wz Ext _;refine oC #[f 5,f 7] Tryz.func33 rfl rfl ?_;rw[q26];refine(mholds_calls 1 1 10 1 _ _ exP _ _ (HP.out.ext hE) q28 hN1 (by omega) (by omega) (by omega) (by omega) (by omega)).mono ?_;rintro e w' ⟨rfl,h2⟩
   exact⟨_,rfl,h2,by rw[exP_h2]<;>rfl⟩
  ·intro f wz hG hp hl;have q29:=tE hp 0 8 rfl rfl rfl;have qg:=tE hp 1 4 rfl rfl rfl;change OpGoal _ _ _ f wz Ext _;refine og_guard (j:=4) (want:=true) rfl qg ?_;simp only[OpGoal];go_simp;exact⟨_,rfl,Ext.refl _,rfl⟩
  ·intro f wz hG hp hl;have q25:=tE hp 0 4 rfl rfl rfl;have q30:=tE hp 1 9 rfl rfl rfl;simp only[OpGoal];go_simp;exact⟨_,rfl,Ext.refl _,rfl⟩
  ·intro f wz hG hp hl;have q31:=tE hp 0 10 rfl rfl rfl;simp only[OpGoal];go_simp;exact⟨_,rfl,Ext.refl _,rfl⟩
  ·intro f wz hG hp hl;have hE:Ext w13 wz:=hG;have qg:=tE hp 0 11 rfl rfl rfl;change OpGoal _ _ _ f wz Ext _;refine og_guard (j:=11) (want:=true) rfl qg ?_;change OpGoal _ _ _ f wz Ext _;exact og_load (P:=Tryz.prog) _ _ gp _ _ _ rfl rfl rfl (BP.ext hE) Tryz.underlying25 rfl (by kernel_rfl) rfl
  ·intro f wz hG hp hl;have hE:Ext w13 wz:=hG;have hS:=hE.size;have qg:=tE hp 0 11 rfl rfl rfl;change OpGoal _ _ _ f wz Ext _;refine og_guard (j:=11) (want:=true) rfl qg ?_;change OpGoal _ _ _ f wz Ext _;refine oC #[.int .i64 1] Tryz.func71 rfl rfl ?_;refine(wholem_calls 1 _ (by omega) (by omega)).mono ?_;rintro e w' ⟨v',rfl,h1,h2⟩;exact⟨v',rfl,h2,h1.mono hS⟩
  ·intro f wz hG hp hl;have hE:Ext w13 wz:=hG;have hS:=hE.size;have q34:=tellV hp 0 13 rfl rfl (fun _=>hE);have qg:=tE hp 1 11 rfl rfl rfl;change OpGoal _ _ _ f wz Ext _;refine og_guard (j:=11) (want:=true) rfl qg ?_;obtain⟨b',a1',n1',c1',a2',n2',c2',hv,hq⟩:=FrQ.opn q34;change OpGoal _ _ _ f wz Ext _;exact og_buildSlice (P:=Tryz.prog) 49 41 1 3 _ [.agg #[.bool b',.slice a1' n1' c1',.slice a2' n2' c2']] rfl rfl Tryz.underlying49 (by kernel_rfl) (by kernel_rfl) (by simp only[Act.eval];exact congrArg (fun z=> [(0,z)]) hv) rfl (by omega) (by omega) (by omega) (StrN.one rfl (all3 rfl rfl rfl)).size (fun w' he hb=>ql_oneF hb (hq.ext he) z1 (by omega))
  ·intro f wz hG hp hl;have hE:Ext w13 wz:=hG;have hS:=hE.size;have q33:=tE hp 0 12 rfl rfl rfl;have q35:=tellV hp 1 14 rfl rfl (fun _=>hE);have qg:=tE hp 3 11 rfl rfl rfl;change OpGoal _ _ _ f wz Ext _;refine og_guard (j:=11) (want:=true) rfl qg ?_;change OpGoal _ _ _ f wz Ext _;refine oC #[f 12,f 14] Tryz.func38 rfl rfl ?_;rw[q33];refine(mcost_calls 1 1 10 _ _ exP _ _ (HP.out.ext hE) q35 (by decide) (by decide) (by decide)).mono ?_;rintro e w' ⟨v',rfl,h1,hz,h2⟩;rw[exP_c]at h1;exact⟨v',rfl,h2,h1.mono hS⟩
  ·intro f wz hG hp hl;have hE:Ext w13 wz:=hG;have hS:=hE.size;have qg:=tE hp 1 11 rfl rfl rfl;change OpGoal _ _ _ f wz Ext _;refine og_guard (j:=11) (want:=true) rfl qg ?_;change OpGoal _ _ _ f wz Ext _;refine oC #[.int .i64 (-1)] Tryz.func71 rfl rfl ?_;refine(wholem_calls (-1) _ (by omega) (by omega)).mono ?_;rintro e w' ⟨v',rfl,h1,h2⟩;exact⟨v',rfl,h2,h1.mono hS⟩
  ·intro f wz hG hp hl;have hE:Ext w13 wz:=hG;have q36:=tellV hp 0 15 rfl rfl (fun _=>hE);have q37:=tellV hp 1 16 rfl rfl (fun _=>hE);have qg:=tE hp 3 11 rfl rfl rfl;change OpGoal _ _ _ f wz Ext _;refine og_guard (j:=11) (want:=true) rfl qg ?_;change OpGoal _ _ _ f wz Ext _;refine oC #[f 15,f 16] Tryz.func58 rfl rfl ?_;refine(same_true _ _ (((-1:Int)):Rat) _ _ _ q36 q37).mono ?_;rintro e w' ⟨rfl,h2⟩;exact⟨_,rfl,h2,rfl⟩
  ·intro f wz hG hp hl;have q32:=tE hp 0 11 rfl rfl rfl;have q38:=tE hp 1 17 rfl rfl rfl;simp only[OpGoal];go_simp;exact⟨_,rfl,Ext.refl _,rfl⟩
  ·intro f wz hG hp hl;have q39:=tE hp 0 18 rfl rfl rfl;simp only[OpGoal];go_simp;exact⟨_,rfl,Ext.refl _,rfl⟩
  ·intro f wz hG hp hl;have hE:Ext w13 wz:=hG;have qg:=tE hp 0 19 rfl rfl rfl;change OpGoal _ _ _ f wz Ext _;refine og_guard (j:=19) (want:=true) rfl qg ?_;change OpGoal _ _ _ f wz Ext _;exact og_load (P:=Tryz.prog) _ _ gp _ _ _ rfl rfl rfl (BP.ext hE) Tryz.underlying25 rfl (by kernel_rfl) rfl
  ·intro f wz hG hp hl;have hE:Ext w13 wz:=hG;have q41:=tE hp 0 20 rfl rfl rfl;have qg:=tE hp 1 19 rfl rfl rfl;change OpGoal _ _ _ f wz Ext _;refine og_guard (j:=19) (want:=true) rfl qg ?_;change OpGoal _ _ _ f wz Ext _;refine oC #[f 20] Tryz.func72 rfl rfl ?_;rw[q41];refine(mfinite_calls 1 _ exP _ (HP.out.ext hE)).mono ?_;rintro e w' ⟨rfl,h2⟩
   exact⟨_,rfl,h2,by rw[exP_f]<;>rfl⟩
  ·intro f wz hG hp hl;have q40:=tE hp 0 19 rfl rfl rfl;have q42:=tE hp 1 21 rfl rfl rfl;simp only[OpGoal];go_simp;exact⟨_,rfl,Ext.refl _,rfl⟩
  ·intro f wz hG hp hl;have q43:=tE hp 0 22 rfl rfl rfl;simp only[OpGoal];go_simp;exact⟨_,rfl,Ext.refl _,rfl⟩
  ·intro f wz hG hp hl;have qg:=tE hp 0 23 rfl rfl rfl;change OpGoal _ _ _ f wz Ext _;refine og_guard (j:=23) (want:=true) rfl qg ?_;simp only[OpGoal];go_simp;exact⟨_,rfl,Ext.refl _,rfl⟩
  ·intro f wz hG hp hl;have q45:=tE hp 0 24 rfl rfl rfl;have qg:=tE hp 1 23 rfl rfl rfl;change OpGoal _ _ _ f wz Ext _;refine og_guard (j:=23) (want:=true) rfl qg ?_;simp only[OpGoal];go_simp;exact⟨_,rfl,Ext.refl _,rfl⟩
  ·intro f wz hG hp hl;have q46:=tE hp 0 25 rfl rfl rfl;have qg:=tE hp 1 23 rfl rfl rfl;change OpGoal _ _ _ f wz Ext _;refine og_guard (j:=23) (want:=true) rfl qg ?_;simp only[OpGoal];go_simp;exact⟨_,rfl,Ext.refl _,rfl⟩
  ·intro f wz hG hp hl;have q44:=tE hp 0 23 rfl rfl rfl;have q47:=tE hp 1 26 rfl rfl rfl;simp only[OpGoal];go_simp;exact⟨_,rfl,Ext.refl _,rfl⟩
  ·intro f wz hG hp hl;have q48:=tE hp 0 27 rfl rfl rfl;simp only[OpGoal];go_simp;exact⟨_,rfl,Ext.refl _,rfl⟩
  ·intro f wz hG hp hl;have qg:=tE hp 0 28 rfl rfl rfl;change OpGoal _ _ _ f wz Ext _;refine og_guard (j:=28) (want:=true) rfl qg ?_;simp only[OpGoal];go_simp;exact⟨_,rfl,Ext.refl _,rfl⟩
  ·intro f wz hG hp hl;have q50:=tE hp 0 29 rfl rfl rfl;have qg:=tE hp 1 28 rfl rfl rfl;change OpGoal _ _ _ f wz Ext _;refine og_guard (j:=28) (want:=true) rfl qg ?_;simp only[OpGoal];go_simp;exact⟨_,rfl,Ext.refl _,rfl⟩
  ·intro f wz hG hp hl;have q51:=tE hp 0 30 rfl rfl rfl;have qg:=tE hp 1 28 rfl rfl rfl;change OpGoal _ _ _ f wz Ext _;refine og_guard (j:=28) (want:=true) rfl qg ?_;simp only[OpGoal];go_simp;exact⟨_,rfl,Ext.refl _,rfl⟩
  ·intro f wz hG hp hl;have hE:Ext w13 wz:=hG;have q52:=tE hp 0 31 rfl rfl rfl;have qg:=tE hp 1 28 rfl rfl rfl;change OpGoal _ _ _ f wz Ext _;refine og_guard (j:=28) (want:=true) rfl qg ?_;have hcell:=(HC0.out _ hE);simp only[OpGoal];go_simp;exact⟨_,rfl,Ext.refl _,rfl⟩
  ·intro f wz hG hp hl;have q53:=tE hp 0 32 rfl rfl rfl;have qg:=tE hp 1 28 rfl rfl rfl;change OpGoal _ _ _ f wz Ext _;refine og_guard (j:=28) (want:=true) rfl qg ?_;simp only[OpGoal];go_simp;exact⟨_,rfl,Ext.refl _,rfl⟩
  ·intro f wz hG hp hl;have q49:=tE hp 0 28 rfl rfl rfl;have q54:=tE hp 1 33 rfl rfl rfl;simp only[OpGoal];go_simp;exact⟨_,rfl,Ext.refl _,rfl⟩
  ·intro f wz hG hp hl;have q55:=tE hp 0 34 rfl rfl rfl;simp only[OpGoal];go_simp;exact⟨_,rfl,Ext.refl _,rfl⟩
  ·intro f wz hG hp hl;have qg:=tE hp 0 35 rfl rfl rfl;change OpGoal _ _ _ f wz Ext _;refine og_guard (j:=35) (want:=true) rfl qg ?_;simp only[OpGoal];go_simp;exact⟨_,rfl,Ext.refl _,rfl⟩
  ·intro f wz hG hp hl;have q57:=tE hp 0 36 rfl rfl rfl;have qg:=tE hp 1 35 rfl rfl rfl;change OpGoal _ _ _ f wz Ext _;refine og_guard (j:=35) (want:=true) rfl qg ?_;simp only[OpGoal];go_simp;exact⟨_,rfl,Ext.refl _,rfl⟩
  ·intro f wz hG hp hl;have q58:=tE hp 0 37 rfl rfl rfl;have qg:=tE hp 1 35 rfl rfl rfl;change OpGoal _ _ _ f wz Ext _;refine og_guard (j:=35) (want:=true) rfl qg ?_;simp only[OpGoal];go_simp;exact⟨_,rfl,Ext.refl _,rfl⟩
  ·intro f wz hG hp hl;have hE:Ext w13 wz:=hG;have q59:=tE hp 0 38 rfl rfl rfl;have qg:=tE hp 1 35 rfl rfl rfl;change OpGoal _ _ _ f wz Ext _;refine og_guard (j:=35) (want:=true) rfl qg ?_;have hcell:=(HC1.out _ hE);simp only[OpGoal];go_simp;exact⟨_,rfl,Ext.refl _,rfl⟩
  ·intro f wz hG hp hl;have q60:=tE hp 0 39 rfl rfl rfl;have qg:=tE hp 1 35 rfl rfl rfl;change OpGoal _ _ _ f wz Ext _;refine og_guard (j:=35) (want:=true) rfl qg ?_;simp only[OpGoal];go_simp;exact⟨_,rfl,Ext.refl _,rfl⟩
  ·intro f wz hG hp hl;have q56:=tE hp 0 35 rfl rfl rfl;have q61:=tE hp 1 40 rfl rfl rfl;simp only[OpGoal];go_simp;exact⟨_,rfl,Ext.refl _,rfl⟩
  ·intro f wz hG hp hl;have q62:=tE hp 0 41 rfl rfl rfl;simp only[OpGoal];go_simp;exact⟨_,rfl,Ext.refl _,rfl⟩
  ·intro f wz hG hp hl;have qg:=tE hp 0 42 rfl rfl rfl;change OpGoal _ _ _ f wz Ext _;refine og_guard (j:=42) (want:=true) rfl qg ?_;simp only[OpGoal];go_simp;exact⟨_,rfl,Ext.refl _,rfl⟩
  ·intro f wz hG hp hl;have q64:=tE hp 0 43 rfl rfl rfl;have qg:=tE hp 1 42 rfl rfl rfl;change OpGoal _ _ _ f wz Ext _;refine og_guard (j:=42) (want:=true) rfl qg ?_;simp only[OpGoal];go_simp;exact⟨_,rfl,Ext.refl _,rfl⟩
  ·intro f wz hG hp hl;have q65:=tE hp 0 44 rfl rfl rfl;have qg:=tE hp 1 42 rfl rfl rfl;change OpGoal _ _ _ f wz Ext _;refine og_guard (j:=42) (want:=true) rfl qg ?_;simp only[OpGoal];go_simp;exact⟨_,rfl,Ext.refl _,rfl⟩
  ·intro f wz hG hp hl;have q63:=tE hp 0 42 rfl rfl rfl;have q66:=tE hp 1 45 rfl rfl rfl;simp only[OpGoal];go_simp;exact⟨_,rfl,Ext.refl _,rfl⟩
  ·intro f wz hG hp hl;have q67:=tE hp 0 46 rfl rfl rfl;simp only[OpGoal];go_simp;exact⟨_,rfl,Ext.refl _,rfl⟩
  ·intro f wz hG hp hl;have hE:Ext w13 wz:=hG;have qg:=tE hp 0 47 rfl rfl rfl;change OpGoal _ _ _ f wz Ext _;refine og_guard (j:=47) (want:=true) rfl qg ?_;change OpGoal _ _ _ f wz Ext _;exact og_load (P:=Tryz.prog) _ _ gp _ _ _ rfl rfl rfl (BP.ext hE) Tryz.underlying25 rfl (by kernel_rfl) rfl
  ·intro f wz hG hp hl;have hE:Ext w13 wz:=hG;have q69:=tE hp 0 48 rfl rfl rfl;have qg:=tE hp 1 47 rfl rfl rfl;change OpGoal _ _ _ f wz Ext _;refine og_guard (j:=47) (want:=true) rfl qg ?_;change OpGoal _ _ _ f wz Ext _;refine oC #[f 48] Tryz.func20 rfl rfl ?_;rw[q69];refine(mwhole_calls 1 _ exP _ (HP.out.ext hE) (by decide)).mono ?_;rintro e w' ⟨v',rfl,h1,h2⟩;obtain⟨ad,cap,hv⟩:=ownsRow_lenP h1;exact⟨v',rfl,h2,ad,cap,hv⟩
  ·intro f wz hG hp hl;have hE:Ext w13 wz:=hG;have q70:=tellV hp 0 49 rfl rfl (fun _=>hE);have qg:=tE hp 1 47 rfl rfl rfl;change OpGoal _ _ _ f wz Ext _;refine og_guard (j:=47) (want:=true) rfl qg ?_;obtain⟨ad,cap,hv⟩:=q70;simp only[OpGoal];go_simp;exact⟨_,rfl,Ext.refl _,rfl⟩
  ·intro f wz hG hp hl;have q71:=tE hp 0 50 rfl rfl rfl;have qg:=tE hp 1 47 rfl rfl rfl;change OpGoal _ _ _ f wz Ext _;refine og_guard (j:=47) (want:=true) rfl qg ?_;simp only[OpGoal];go_simp;exact⟨_,rfl,Ext.refl _,rfl⟩
  ·intro f wz hG hp hl;have q68:=tE hp 0 47 rfl rfl rfl;have q72:=tE hp 1 51 rfl rfl rfl;simp only[OpGoal];go_simp;exact⟨_,rfl,Ext.refl _,rfl⟩
  ·intro f wz hG hp hl;have q73:=tE hp 0 52 rfl rfl rfl;simp only[OpGoal];go_simp;exact⟨_,rfl,Ext.refl _,rfl⟩
 ·intro f wq hG hp;have hE:Ext w13 wq:=ChgS.nil hG
  have q0:f 53= .bool true:=endV hp 53 (by decide) rfl (fun h=>by cases h)
  try simp only[q0]
  clear hp;have X:=X13.out.trans hE;clear hE;go_wp2;go_ret;exact⟨rfl,X⟩
theorem dotV_lt(l:List (Int×Rat))(xs:List Rat):dotV (ltV xs.length l) xs=dotV l xs:=by
 induction l with
 |nil=>rfl
 |cons x l ih=>
  unfold ltV at ih ⊢
  by_cases h:(xs.length:Int)≤x.1
  ·rw[List.filter_cons_of_neg (by simp[h]),ih]
   show _=(if _ then _ else _)+dotV l xs
   rw[if_neg (by omega),Rat.zero_add]
  ·rw[List.filter_cons_of_pos (by simp[h])]
   show(if _ then _ else _)+dotV _ xs=(if _ then _ else _)+dotV l xs
   rw[ih]
theorem dotV_oneT{xs:List Rat}{i:Nat}{x:Rat}(h:xs[i]? =some x):dotV (oneT i) xs=x:=by
 have hi:=(List.getElem?_eq_some_iff.1 h).1
 show(if 0≤(i:Int)∧(i:Int)<(xs.length:Int)then((1:Int):Rat)*xs.getD (i:Int).toNat 0 else 0)+0=x
 rw[if_pos ⟨by omega,by omega⟩,Int.toNat_natCast,List.getD_eq_getElem?_getD,h]
 show((1:Int):Rat)*x+0=x
 grind
def keptL(s:Int)(a r:Rat):Bool:=!(decide (s≠2)&&decide (r<a))&& !(decide (s≠1)&&decide (a<r))
def holdsL(xs:List Rat)(c:CR):Bool:=keptL c.1 (dotV c.2.1 xs) c.2.2
theorem keptL_iff{s:Int}{a r:Rat}:keptL s a r=true↔(s=2∨a≤r)∧(s=1∨r≤a):=by
 unfold keptL;simp only[Bool.and_eq_true,Bool.not_eq_true',Bool.and_eq_false_iff,decide_eq_false_iff_not,Rat.not_lt,Decidable.not_not]
theorem inB_iff{s:SpR}{x:Rat}:inB s x=true↔(s.1=true→s.2.2.1≤x)∧(s.2.1=true→x≤s.2.2.2):=by
 unfold inB;obtain⟨b1,b2,lo,hi⟩:=s
 cases b1<;>cases b2<;>simp [Rat.not_lt]
theorem told_holds(s:SpR)(t:Bool)(l:List (Int×Rat))(xs:List Rat):(toldS s t l).all (holdsL xs)=inB s (dotV l xs):=by
 obtain⟨b1,b2,lo,hi⟩:=s;rw[Bool.eq_iff_iff,inB_iff];unfold toldS
 simp only
 split
 ·rename_i h
  simp only[Bool.and_eq_true,decide_eq_true_iff]at h;obtain⟨⟨⟨-,h1⟩,h2⟩,h3⟩:=h;subst h1 h2 h3;simp only[List.all_cons,List.all_nil,Bool.and_true,holdsL,keptL_iff,dotV_mk]
  constructor
  ·rintro⟨h1,h2⟩;exact⟨fun _=>h2.resolve_left (by decide),fun _=>h1.resolve_left (by decide)⟩
  ·rintro⟨h1,h2⟩;exact⟨.inr (h2 trivial),.inr (h1 trivial)⟩
 ·cases b1<;>cases b2<;>simp [holdsL,keptL_iff,dotV_mk]
theorem conR_all(rows:List RwR)(xs:List Rat)(i:Nat):(conR xs.length rows i).all (holdsL xs)=(rows.take i).all fun r=> !offR xs r:=by
 unfold conR;rw[List.all_flatMap]
 congr 1
 funext r
 rw[told_holds,dotV_lt];unfold offR;rw[Bool.not_not]
theorem conV_all(vs:List VrR)(xs:List Rat)(h:xs.length=vs.length):(conV vs vs.length).all (holdsL xs)=(vs.zip xs).all fun t=>inB t.1.2.1 t.2:=by
 unfold conV;rw[List.all_flatMap,Bool.eq_iff_iff,List.all_eq_true,List.all_eq_true]
 constructor
 ·intro hh t ht;obtain⟨i,hi⟩:=List.mem_iff_getElem?.1 ht;rw[List.getElem?_zip_eq_some]at hi;have hl:=(List.getElem?_eq_some_iff.1 hi.1).1
  have:=hh i (List.mem_range.2 hl)
  rwa [told_holds,dotV_oneT hi.2,List.getD_eq_getElem?_getD,hi.1]at this
 ·intro hh i hi;have hl:=List.mem_range.1 hi
  have h1:vs[i]? =some vs[i]:=List.getElem?_eq_getElem hl
  have h2:xs[i]? =some (xs[i]'(by omega)):=List.getElem?_eq_getElem (by omega)
  rw[told_holds,dotV_oneT h2,List.getD_eq_getElem?_getD,h1];exact hh (vs[i],xs[i]'(by omega)) (List.mem_iff_getElem?.2 ⟨i,by rw[List.getElem?_zip_eq_some];exact⟨h1,h2⟩⟩)
def wholeAll(bs:List Bool)(xs:List Rat):Bool:=(bs.zip xs).all fun t=> !t.1 || isW t.2
theorem model_law(p:PbR)(xs:List Rat)(h:xs.length=p.2.length):holdsP p xs=((conP p).all (holdsL xs)&&wholeAll (whlP p) xs):=by
 unfold holdsP conP wholeAll whlP;rw[decide_eq_true h,Bool.true_and,List.all_append,←h,conR_all,List.take_length,h,conV_all _ _ h,List.zip_map_left,List.all_map];rw[Bool.eq_iff_iff];simp only[Bool.and_eq_true,List.all_eq_true,Bool.not_eq_true',List.any_eq_false,Function.comp,goodV,Prod.map,id]
 constructor
 ·rintro⟨h1,h2⟩;refine⟨⟨fun r hr=> ?_,fun t ht=>(h1 t ht).1⟩,fun t ht=> ?_⟩
  ·have:=h2 r hr
   cases hh:offR xs r
   ·rfl
   ·exact absurd hh this
  ·have:=(h1 t ht).2
   cases hb:t.1.1<;>simp_all
 ·rintro⟨⟨h1,h2⟩,h3⟩;refine⟨fun t ht=>⟨h2 t ht,?_⟩,fun r hr=>by rw[h1 r hr];decide⟩
  have:=h3 t ht
  cases hb:t.1.1<;>simp_all
structure Pk where
 s:Nat
 o:Nat
 n:Nat
 F:List Value→World→Prop
def apart(p q:Pk):Prop:=p.o+p.n≤q.o∨q.o+q.n≤p.o
section
variable {P:Program} {o:Oper} {a:Act} {f:Nat→Value} {w:World}
end
open Go.ChangeShapes Go.WideShapes Go.ChangeAt
theorem list10{α:Type}{l:List α}(h:l.length=10):∃c0 c1 c2 c3 c4 c5 c6 c7 c8 c9,l=[c0,c1,c2,c3,c4,c5,c6,c7,c8,c9]:=by
 match l,h with
 | [c0,c1,c2,c3,c4,c5,c6,c7,c8,c9],_=>exact ⟨c0,c1,c2,c3,c4,c5,c6,c7,c8,c9,rfl⟩
theorem list13{α:Type}{l:List α}(h:l.length=13):∃c0 c1 c2 c3 c4 c5 c6 c7 c8 c9 c10 c11 c12,l=[c0,c1,c2,c3,c4,c5,c6,c7,c8,c9,c10,c11,c12]:=by
 match l,h with
 | [c0,c1,c2,c3,c4,c5,c6,c7,c8,c9,c10,c11,c12],_=>exact ⟨c0,c1,c2,c3,c4,c5,c6,c7,c8,c9,c10,c11,c12,rfl⟩
theorem list4{α:Type}{l:List α}(h:l.length=4):∃c0 c1 c2 c3,l=[c0,c1,c2,c3]:=by
 match l,h with
 | [c0,c1,c2,c3],_=>exact ⟨c0,c1,c2,c3,rfl⟩
theorem trod_struct6{H:Type}{enc:TypeId×Value→H}{P:Program}{w:World}{base:Nat}{spare:Nat→Bool}{held:Bool}{t:TypeId}{f0 f1 f2 f3 f4 f5:Field}{fuel:Nat}{cs:List Value}{x:DataW H×List MemPlace}(ht:P.underlying t=some (.struct #[f0,f1,f2,f3,f4,f5]))(h:DataW.trod enc P w base spare held fuel t cs=some x):
  ∃y0 y1 y2 y3 y4 y5 n,x.1= .agg [y0.1,y1.1,y2.1,y3.1,y4.1,y5.1]∧cs.length=P.cellsOf t∧DataW.trod enc P w base spare held n f0.type ((cs.drop f0.offset).take (P.cellsOf f0.type))=some y0∧DataW.trod enc P w base spare held n f1.type ((cs.drop f1.offset).take (P.cellsOf f1.type))=some y1∧DataW.trod enc P w base spare held n f2.type ((cs.drop f2.offset).take (P.cellsOf f2.type))=some y2∧DataW.trod enc P w base spare held n f3.type ((cs.drop f3.offset).take (P.cellsOf f3.type))=some y3∧DataW.trod enc P w base spare held n f4.type ((cs.drop f4.offset).take (P.cellsOf f4.type))=some y4∧DataW.trod enc P w base spare held n f5.type ((cs.drop f5.offset).take (P.cellsOf f5.type))=some y5:=by
 obtain⟨xs,n,_,rfl,hl,hlen,hf⟩:=DataW.trod_struct ht h
 match xs,hlen with
 | [y0,y1,y2,y3,y4,y5],_=>exact ⟨y0,y1,y2,y3,y4,y5,n,by simp,hl,by simpa using hf 0 f0 rfl,by simpa using hf 1 f1 rfl,by simpa using hf 2 f2 rfl,by simpa using hf 3 f3 rfl,by simpa using hf 4 f4 rfl,by simpa using hf 5 f5 rfl⟩
theorem trod_struct7{H:Type}{enc:TypeId×Value→H}{P:Program}{w:World}{base:Nat}{spare:Nat→Bool}{held:Bool}{t:TypeId}{f0 f1 f2 f3 f4 f5 f6:Field}{fuel:Nat}{cs:List Value}{x:DataW H×List MemPlace}(ht:P.underlying t=some (.struct #[f0,f1,f2,f3,f4,f5,f6]))(h:DataW.trod enc P w base spare held fuel t cs=some x):
  ∃y0 y1 y2 y3 y4 y5 y6 n,x.1= .agg [y0.1,y1.1,y2.1,y3.1,y4.1,y5.1,y6.1]∧cs.length=P.cellsOf t∧DataW.trod enc P w base spare held n f0.type ((cs.drop f0.offset).take (P.cellsOf f0.type))=some y0∧DataW.trod enc P w base spare held n f1.type ((cs.drop f1.offset).take (P.cellsOf f1.type))=some y1∧DataW.trod enc P w base spare held n f2.type ((cs.drop f2.offset).take (P.cellsOf f2.type))=some y2∧DataW.trod enc P w base spare held n f3.type ((cs.drop f3.offset).take (P.cellsOf f3.type))=some y3∧DataW.trod enc P w base spare held n f4.type ((cs.drop f4.offset).take (P.cellsOf f4.type))=some y4∧DataW.trod enc P w base spare held n f5.type ((cs.drop f5.offset).take (P.cellsOf f5.type))=some y5∧DataW.trod enc P w base spare held n f6.type ((cs.drop f6.offset).take (P.cellsOf f6.type))=some y6:=by
 obtain⟨xs,n,_,rfl,hl,hlen,hf⟩:=DataW.trod_struct ht h
 match xs,hlen with
 | [y0,y1,y2,y3,y4,y5,y6],_=>exact ⟨y0,y1,y2,y3,y4,y5,y6,n,by simp,hl,by simpa using hf 0 f0 rfl,by simpa using hf 1 f1 rfl,by simpa using hf 2 f2 rfl,by simpa using hf 3 f3 rfl,by simpa using hf 4 f4 rfl,by simpa using hf 5 f5 rfl,by simpa using hf 6 f6 rfl⟩
theorem trod_struct4{H:Type}{enc:TypeId×Value→H}{P:Program}{w:World}{base:Nat}{spare:Nat→Bool}{held:Bool}{t:TypeId}{f0 f1 f2 f3:Field}{fuel:Nat}{cs:List Value}{x:DataW H×List MemPlace}(ht:P.underlying t=some (.struct #[f0,f1,f2,f3]))(h:DataW.trod enc P w base spare held fuel t cs=some x):
  ∃y0 y1 y2 y3 n,x.1= .agg [y0.1,y1.1,y2.1,y3.1]∧cs.length=P.cellsOf t∧DataW.trod enc P w base spare held n f0.type ((cs.drop f0.offset).take (P.cellsOf f0.type))=some y0∧DataW.trod enc P w base spare held n f1.type ((cs.drop f1.offset).take (P.cellsOf f1.type))=some y1∧DataW.trod enc P w base spare held n f2.type ((cs.drop f2.offset).take (P.cellsOf f2.type))=some y2∧DataW.trod enc P w base spare held n f3.type ((cs.drop f3.offset).take (P.cellsOf f3.type))=some y3:=by
 obtain⟨xs,n,_,rfl,hl,hlen,hf⟩:=DataW.trod_struct ht h
 match xs,hlen with
 | [y0,y1,y2,y3],_=>exact ⟨y0,y1,y2,y3,n,by simp,hl,by simpa using hf 0 f0 rfl,by simpa using hf 1 f1 rfl,by simpa using hf 2 f2 rfl,by simpa using hf 3 f3 rfl⟩
theorem cellsStr:Tryz.prog.cellsOf 9=1:=by kernel_rfl
theorem cellsRw:Tryz.prog.cellsOf 97=10:=by kernel_rfl
theorem cellsVr:Tryz.prog.cellsOf 43=13:=by kernel_rfl
theorem cellsPb:Tryz.prog.cellsOf 25=4:=by kernel_rfl
theorem cellsRs:Tryz.prog.cellsOf 22=1:=by kernel_rfl
theorem cellsVs:Tryz.prog.cellsOf 23=1:=by kernel_rfl
section
variable {H:Type} {enc:TypeId×Value→H} {w:World} {base:Nat} {spare:Nat→Bool} {held:Bool}
theorem trod_lenT{fuel:Nat}{cs:List Value}{x:DataW H×List MemPlace}(h:DataW.trod enc Tryz.prog w base spare held fuel 31 cs=some x):∃v,cs=[v]∧∃a n c,v= .slice a n c:=by
 rcases Go.Deep.open_slice Tryz.underlying31 h with⟨rfl,rfl⟩ |⟨a,len,cap,m,k,D,Pl,rfl,hb,hl,hm,hmm,rfl,hx⟩
 ·exact⟨_,rfl,_,_,_,rfl⟩
 ·exact⟨_,rfl,_,_,_,rfl⟩
set_option maxHeartbeats 4000000 in
theorem open_rowC{fuel:Nat}{cs:List Value}{x:DataW H×List MemPlace}(B:Nat)(hb:B≤4611686018427387903)(hB:∀n∈x.1.weights Tryz.prog 97,n≤B)(h:DataW.trod enc Tryz.prog w base spare held fuel 97 cs=some x):
  ∃r,RwH w (.agg cs.toArray) r:=by
 obtain⟨y0,y1,y2,y3,y4,y5,n,hx,hl,h0,h1,h2,h3,h4,h5⟩:=trod_struct6 Tryz.underlying97 h;rw[cellsRw]at hl;obtain⟨c0,c1,c2,c3,c4,c5,c6,c7,c8,c9,rfl⟩:=list10 hl
 have e0:List.take (Tryz.prog.cellsOf 9) (List.drop 0 [c0,c1,c2,c3,c4,c5,c6,c7,c8,c9])=[c0]:=by rw[cellsStr];rfl
 obtain⟨v0,hv0, -, -⟩:=DataW.trod_string Tryz.underlying9 h0
 have k0: [c0]=[.string v0]:=e0▸hv0
 have e1:List.take (Tryz.prog.cellsOf 4) (List.drop 1 [c0,c1,c2,c3,c4,c5,c6,c7,c8,c9])=[c1]:=by rw[cellsB];rfl
 obtain⟨v1,hv1⟩:=open_bool1 h1
 have k1: [c1]=[.bool v1]:=e1▸hv1
 have e2:List.take (Tryz.prog.cellsOf 4) (List.drop 2 [c0,c1,c2,c3,c4,c5,c6,c7,c8,c9])=[c2]:=by rw[cellsB];rfl
 obtain⟨v2,hv2⟩:=open_bool1 h2
 have k2: [c2]=[.bool v2]:=e2▸hv2
 have e3:List.take (Tryz.prog.cellsOf 41) (List.drop 3 [c0,c1,c2,c3,c4,c5,c6,c7,c8,c9])=[c3,c4,c5]:=by rw[cellsQ];rfl
 obtain⟨b3,p3,q3,xs3,ys3,hr3,hL3,hd3,hM3,he3,hw3, -⟩:=open_ratC h3
 have hh3:=hw3 B (fun n hn=>hB n (by
  rw[hx];simp only[DataW.weights,Tryz.underlying97]
  exact DataW.weights_mem_each (j:=3) rfl rfl n hn))
 have k3: [c3,c4,c5]=[.bool b3,p3,q3]:=e3▸hr3
 have e4:List.take (Tryz.prog.cellsOf 41) (List.drop 6 [c0,c1,c2,c3,c4,c5,c6,c7,c8,c9])=[c6,c7,c8]:=by rw[cellsQ];rfl
 obtain⟨b4,p4,q4,xs4,ys4,hr4,hL4,hd4,hM4,he4,hw4, -⟩:=open_ratC h4
 have hh4:=hw4 B (fun n hn=>hB n (by
  rw[hx];simp only[DataW.weights,Tryz.underlying97]
  exact DataW.weights_mem_each (j:=4) rfl rfl n hn))
 have k4: [c6,c7,c8]=[.bool b4,p4,q4]:=e4▸hr4
 have e5:List.take (Tryz.prog.cellsOf 31) (List.drop 9 [c0,c1,c2,c3,c4,c5,c6,c7,c8,c9])=[c9]:=by rw[cellsTs];rfl
 obtain⟨v5,hv5,a5,m5,z5,rfl⟩:=trod_lenT h5
 obtain⟨v5',l5,hv5',hT5⟩:=open_termsF B hb (fun n hn=>hB n (by
  rw[hx];simp only[DataW.weights,Tryz.underlying97]
  exact DataW.weights_mem_each (j:=5) rfl rfl n hn)) h5
 have k5: [c9]=[.slice a5 m5 z5]:=e5▸hv5
 have k5': [c9]=[v5']:=e5▸hv5'
 simp only[List.cons.injEq,and_true]at k0 k1 k2 k3 k4 k5 k5';subst k0;subst k1;subst k2;obtain⟨rfl,rfl,rfl⟩:=k3;have hE3:RawE w (.agg #[.bool b3,c4,c5]) (b3,xs3,ys3):=⟨⟨c4,c5,rfl,hL3,hM3⟩,hd3,he3,by show xs3.length+ys3.length≤_;omega⟩;have hL3':=hL3;have hM3':=hM3;obtain⟨r3,j3,rfl, -⟩:=hL3';obtain⟨s3,u3,rfl, -⟩:=hM3';obtain⟨rfl,rfl,rfl⟩:=k4;have hE4:RawE w (.agg #[.bool b4,c7,c8]) (b4,xs4,ys4):=⟨⟨c7,c8,rfl,hL4,hM4⟩,hd4,he4,by show xs4.length+ys4.length≤_;omega⟩;have hL4':=hL4;have hM4':=hM4;obtain⟨r4,j4,rfl, -⟩:=hL4';obtain⟨s4,u4,rfl, -⟩:=hM4';subst k5;subst k5';exact⟨(v0,(v1,v2),((b3,xs3,ys3),(b4,xs4,ys4)),l5),⟨b3,r3,_,j3,s3,_,u3⟩,⟨b4,r4,_,j4,s4,_,u4⟩,a5,m5,z5,rfl,hE3,hE4,hT5⟩
set_option maxHeartbeats 4000000 in
theorem open_varC{fuel:Nat}{cs:List Value}{x:DataW H×List MemPlace}(B:Nat)(hb:B≤4611686018427387903)(hB:∀n∈x.1.weights Tryz.prog 43,n≤B)(h:DataW.trod enc Tryz.prog w base spare held fuel 43 cs=some x):
  ∃r,VrH w (.agg cs.toArray) r:=by
 obtain⟨y0,y1,y2,y3,y4,y5,y6,n,hx,hl,h0,h1,h2,h3,h4,h5,h6⟩:=trod_struct7 Tryz.underlying43 h;rw[cellsVr]at hl;obtain⟨c0,c1,c2,c3,c4,c5,c6,c7,c8,c9,c10,c11,c12,rfl⟩:=list13 hl
 have e0:List.take (Tryz.prog.cellsOf 9) (List.drop 0 [c0,c1,c2,c3,c4,c5,c6,c7,c8,c9,c10,c11,c12])=[c0]:=by rw[cellsStr];rfl
 obtain⟨v0,hv0, -, -⟩:=DataW.trod_string Tryz.underlying9 h0
 have k0: [c0]=[.string v0]:=e0▸hv0
 have e1:List.take (Tryz.prog.cellsOf 4) (List.drop 1 [c0,c1,c2,c3,c4,c5,c6,c7,c8,c9,c10,c11,c12])=[c1]:=by rw[cellsB];rfl
 obtain⟨v1,hv1⟩:=open_bool1 h1
 have k1: [c1]=[.bool v1]:=e1▸hv1
 have e2:List.take (Tryz.prog.cellsOf 4) (List.drop 2 [c0,c1,c2,c3,c4,c5,c6,c7,c8,c9,c10,c11,c12])=[c2]:=by rw[cellsB];rfl
 obtain⟨v2,hv2⟩:=open_bool1 h2
 have k2: [c2]=[.bool v2]:=e2▸hv2
 have e3:List.take (Tryz.prog.cellsOf 4) (List.drop 3 [c0,c1,c2,c3,c4,c5,c6,c7,c8,c9,c10,c11,c12])=[c3]:=by rw[cellsB];rfl
 obtain⟨v3,hv3⟩:=open_bool1 h3
 have k3: [c3]=[.bool v3]:=e3▸hv3
 have e4:List.take (Tryz.prog.cellsOf 41) (List.drop 4 [c0,c1,c2,c3,c4,c5,c6,c7,c8,c9,c10,c11,c12])=[c4,c5,c6]:=by rw[cellsQ];rfl
 obtain⟨b4,p4,q4,xs4,ys4,hr4,hL4,hd4,hM4,he4,hw4, -⟩:=open_ratC h4
 have hh4:=hw4 B (fun n hn=>hB n (by
  rw[hx];simp only[DataW.weights,Tryz.underlying43]
  exact DataW.weights_mem_each (j:=4) rfl rfl n hn))
 have k4: [c4,c5,c6]=[.bool b4,p4,q4]:=e4▸hr4
 have e5:List.take (Tryz.prog.cellsOf 41) (List.drop 7 [c0,c1,c2,c3,c4,c5,c6,c7,c8,c9,c10,c11,c12])=[c7,c8,c9]:=by rw[cellsQ];rfl
 obtain⟨b5,p5,q5,xs5,ys5,hr5,hL5,hd5,hM5,he5,hw5, -⟩:=open_ratC h5
 have hh5:=hw5 B (fun n hn=>hB n (by
  rw[hx];simp only[DataW.weights,Tryz.underlying43]
  exact DataW.weights_mem_each (j:=5) rfl rfl n hn))
 have k5: [c7,c8,c9]=[.bool b5,p5,q5]:=e5▸hr5
 have e6:List.take (Tryz.prog.cellsOf 41) (List.drop 10 [c0,c1,c2,c3,c4,c5,c6,c7,c8,c9,c10,c11,c12])=[c10,c11,c12]:=by rw[cellsQ];rfl
 obtain⟨b6,p6,q6,xs6,ys6,hr6,hL6,hd6,hM6,he6,hw6, -⟩:=open_ratC h6
 have hh6:=hw6 B (fun n hn=>hB n (by
  rw[hx];simp only[DataW.weights,Tryz.underlying43]
  exact DataW.weights_mem_each (j:=6) rfl rfl n hn))
 have k6: [c10,c11,c12]=[.bool b6,p6,q6]:=e6▸hr6
 simp only[List.cons.injEq,and_true]at k0 k1 k2 k3 k4 k5 k6;subst k0;subst k1;subst k2;subst k3;obtain⟨rfl,rfl,rfl⟩:=k4;have hE4:RawE w (.agg #[.bool b4,c5,c6]) (b4,xs4,ys4):=⟨⟨c5,c6,rfl,hL4,hM4⟩,hd4,he4,by show xs4.length+ys4.length≤_;omega⟩;have hL4':=hL4;have hM4':=hM4;obtain⟨r4,j4,rfl, -⟩:=hL4';obtain⟨s4,u4,rfl, -⟩:=hM4';obtain⟨rfl,rfl,rfl⟩:=k5;have hE5:RawE w (.agg #[.bool b5,c8,c9]) (b5,xs5,ys5):=⟨⟨c8,c9,rfl,hL5,hM5⟩,hd5,he5,by show xs5.length+ys5.length≤_;omega⟩;have hL5':=hL5;have hM5':=hM5;obtain⟨r5,j5,rfl, -⟩:=hL5';obtain⟨s5,u5,rfl, -⟩:=hM5';obtain⟨rfl,rfl,rfl⟩:=k6;have hE6:RawE w (.agg #[.bool b6,c11,c12]) (b6,xs6,ys6):=⟨⟨c11,c12,rfl,hL6,hM6⟩,hd6,he6,by show xs6.length+ys6.length≤_;omega⟩;have hL6':=hL6;have hM6':=hM6;obtain⟨r6,j6,rfl, -⟩:=hL6';obtain⟨s6,u6,rfl, -⟩:=hM6';exact⟨(v0,(v1,v2,v3),((b4,xs4,ys4),(b5,xs5,ys5),(b6,xs6,ys6))),⟨b4,r4,_,j4,s4,_,u4⟩,⟨b5,r5,_,j5,s5,_,u5⟩,⟨b6,r6,_,j6,s6,_,u6⟩,rfl,hE4,hE5,hE6⟩
theorem open_rowsF{fuel:Nat}{cs:List Value}{x:DataW H×List MemPlace}(B:Nat)(hb:B≤4611686018427387903)(hB:∀n∈x.1.weights Tryz.prog 22,n≤B)(hf:DataW.trod enc Tryz.prog w base spare held fuel 22 cs=some x):
  ∃v l,cs=[v]∧RwHL w v l∧True:=by
 obtain⟨v',ys,h1,h2,h3, -⟩:=open_structs (R:=RwH) (F:=fun _ _=>True) B Tryz.underlying22 cellsRw (by omega) (fun fuel cs x hl hw hx=>by
  obtain⟨c,hE⟩:=open_rowC B hb hw hx
  exact⟨c,hE,trivial⟩) hB hf
 exact⟨v',ys,h1,h2,trivial⟩
theorem open_varsF{fuel:Nat}{cs:List Value}{x:DataW H×List MemPlace}(B:Nat)(hb:B≤4611686018427387903)(hB:∀n∈x.1.weights Tryz.prog 23,n≤B)(hf:DataW.trod enc Tryz.prog w base spare held fuel 23 cs=some x):
  ∃v l,cs=[v]∧VrHL w v l∧True:=by
 obtain⟨v',ys,h1,h2,h3, -⟩:=open_structs (R:=VrH) (F:=fun _ _=>True) B Tryz.underlying23 cellsVr (by omega) (fun fuel cs x hl hw hx=>by
  obtain⟨c,hE⟩:=open_varC B hb hw hx
  exact⟨c,hE,trivial⟩) hB hf
 exact⟨v',ys,h1,h2,trivial⟩
set_option maxHeartbeats 4000000 in
theorem open_probC{fuel:Nat}{cs:List Value}{x:DataW H×List MemPlace}(B:Nat)(hb:B≤4611686018427387903)(hB:∀n∈x.1.weights Tryz.prog 25,n≤B)(h:DataW.trod enc Tryz.prog w base spare held fuel 25 cs=some x):
  ∃p,PbH w (.agg cs.toArray) p:=by
 obtain⟨y0,y1,y2,y3,n,hx,hl,h0,h1,h2,h3⟩:=trod_struct4 Tryz.underlying25 h;rw[cellsPb]at hl;obtain⟨c0,c1,c2,c3,rfl⟩:=list4 hl
 have e0:List.take (Tryz.prog.cellsOf 9) (List.drop 0 [c0,c1,c2,c3])=[c0]:=by rw[cellsStr];rfl
 obtain⟨v0,hv0, -, -⟩:=DataW.trod_string Tryz.underlying9 h0
 have k0: [c0]=[.string v0]:=e0▸hv0
 have e1:List.take (Tryz.prog.cellsOf 9) (List.drop 1 [c0,c1,c2,c3])=[c1]:=by rw[cellsStr];rfl
 obtain⟨v1,hv1, -, -⟩:=DataW.trod_string Tryz.underlying9 h1
 have k1: [c1]=[.string v1]:=e1▸hv1
 have e2:List.take (Tryz.prog.cellsOf 22) (List.drop 2 [c0,c1,c2,c3])=[c2]:=by rw[cellsRs];rfl
 obtain⟨v2,l2,hv2,hT2,hz2⟩:=open_rowsF B hb (fun n hn=>hB n (by
  rw[hx];simp only[DataW.weights,Tryz.underlying25]
  exact DataW.weights_mem_each (j:=2) rfl rfl n hn)) h2
 have k2: [c2]=[v2]:=e2▸hv2
 have e3:List.take (Tryz.prog.cellsOf 23) (List.drop 3 [c0,c1,c2,c3])=[c3]:=by rw[cellsVs];rfl
 obtain⟨v3,l3,hv3,hT3,hz3⟩:=open_varsF B hb (fun n hn=>hB n (by
  rw[hx];simp only[DataW.weights,Tryz.underlying25]
  exact DataW.weights_mem_each (j:=3) rfl rfl n hn)) h3
 have k3: [c3]=[v3]:=e3▸hv3
 simp only[List.cons.injEq,and_true]at k0 k1 k2 k3;subst k0;subst k1;subst k2;subst k3;obtain⟨_,_,_, -,hev, -, -⟩:=RwHL.at hT2;subst hev;obtain⟨_,_,_, -,hev, -, -⟩:=VrHL.at hT3;subst hev;exact⟨((v0,v1),l2,l3),_,_,_,_,_,_,rfl,hT2,hT3⟩
theorem open_probS{v:Value}{d:DataW H}{p:List MemPlace}{W0:World}{b0:Nat}(hv:Value.okWide Tryz.prog W0 .any b0 25 v)(h:DataW.Trod enc Tryz.prog w base spare held 25 v d p)(B:Nat)(hb:B≤4611686018427387903)(hB:∀n∈d.weights Tryz.prog 25,n≤B):
  ∃q,PbH w v q:=by
 obtain⟨arr,rfl,_⟩:=okWide_struct Tryz.underlying25 hv;obtain⟨fuel,hf⟩:=h;obtain⟨q,hE⟩:=open_probC B hb hB hf
 have hcs:(Value.agg arr).cells.toList=arr.toList:=rfl
 rw[hcs,Array.toArray_toList]at hE;exact⟨q,hE⟩
end
end Go.Proofs.YtbmnlaepfckmkaaGreat
