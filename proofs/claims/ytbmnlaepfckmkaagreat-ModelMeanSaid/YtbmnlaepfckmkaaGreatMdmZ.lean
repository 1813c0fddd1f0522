/-
 Problems as they are handed in, as they are copied: names and all.
-/
import Derived.Test.YtbmnlaepfckmkaaGreatMdjZ
import Derived.Test.YtbmnlaepfckmkaaGreatCnhZ
import Derived.Test.YtbmnlaepfckmkaaGreatCmaZ
import Derived.Test.YtbmnlaepfckmkaaGreatCnaZ
import Derived.Test.YtbmnlaepfckmkaaGreatCnlZ
import Derived.Lib.SmallJoins
namespace Go.Proofs.YtbmnlaepfckmkaaGreat
set_option maxRecDepth 100000
set_option maxHeartbeats 1000000
open Go.RowKit
set_option linter.unusedVariables false
set_option linter.unusedSimpArgs false
abbrev RwE:=ByteArray×(Bool×Bool)×(RE×RE)×List TE
abbrev VrE:=ByteArray×(Bool×Bool×Bool)×(RE×RE×RE)
abbrev PbE:=(ByteArray×ByteArray)×List RwE×List VrE
def ratRw(r:RwE):RwR:=((r.2.1.1,r.2.1.2,ratE r.2.2.1.1,ratE r.2.2.1.2),ratT r.2.2.2)
def ratVr(v:VrE):VrR:=(v.2.1.1,(v.2.1.2.1,v.2.1.2.2,ratE v.2.2.1,ratE v.2.2.2.1),ratE v.2.2.2.2)
def ratPb(p:PbE):PbR:=(p.2.1.map ratRw,p.2.2.map ratVr)
def okRw(r:RwE):Prop:=wordsE r.2.2.1.1≤6∧wordsE r.2.2.1.2≤6∧r.2.2.2.length≤30∧∀e∈r.2.2.2,wordsE e.2≤6
def okVr(v:VrE):Prop:=wordsE v.2.2.1≤6∧wordsE v.2.2.2.1≤6∧wordsE v.2.2.2.2≤6
def okPb(p:PbE):Prop:=p.2.1.length≤70∧p.2.2.length≤50∧(∀r∈p.2.1,okRw r)∧∀v∈p.2.2,okVr v
def RwH(w:World)(v:Value)(r:RwE):Prop:=∃(l h:QC) (ta:Option Addr) (tn tc:Nat),v= .agg #[.string r.1,.bool r.2.1.1,.bool r.2.1.2,.bool l.b,.slice l.a1 l.n1 l.c1,.slice l.a2 l.n2 l.c2,.bool h.b,.slice h.a1 h.n1 h.c1,.slice h.a2 h.n2 h.c2,.slice ta tn tc]∧RawE w (.agg #[.bool l.b,.slice l.a1 l.n1 l.c1,.slice l.a2 l.n2 l.c2]) r.2.2.1.1∧RawE w (.agg #[.bool h.b,.slice h.a1 h.n1 h.c1,.slice h.a2 h.n2 h.c2]) r.2.2.1.2∧TLE w (.slice ta tn tc) r.2.2.2
def VrH(w:World)(v:Value)(r:VrE):Prop:=∃(l h c:QC),v= .agg #[.string r.1,.bool r.2.1.1,.bool r.2.1.2.1,.bool r.2.1.2.2,.bool l.b,.slice l.a1 l.n1 l.c1,.slice l.a2 l.n2 l.c2,.bool h.b,.slice h.a1 h.n1 h.c1,.slice h.a2 h.n2 h.c2,.bool c.b,.slice c.a1 c.n1 c.c1,.slice c.a2 c.n2 c.c2]∧RawE w (.agg #[.bool l.b,.slice l.a1 l.n1 l.c1,.slice l.a2 l.n2 l.c2]) r.2.2.1∧RawE w (.agg #[.bool h.b,.slice h.a1 h.n1 h.c1,.slice h.a2 h.n2 h.c2]) r.2.2.2.1∧RawE w (.agg #[.bool c.b,.slice c.a1 c.n1 c.c1,.slice c.a2 c.n2 c.c2]) r.2.2.2.2
theorem RwH.ext{w w':World}{v:Value}{r:RwE}(h:RwH w v r)(he:Ext w w'):RwH w' v r:=by
 obtain⟨l,h,ta,tn,tc,h1,h2,h3,h4⟩:=h;exact⟨l,h,ta,tn,tc,h1,h2.ext he,h3.ext he,h4.ext he⟩
theorem VrH.ext{w w':World}{v:Value}{r:VrE}(h:VrH w v r)(he:Ext w w'):VrH w' v r:=by
 obtain⟨l,h,c,h1,h2,h3,h4⟩:=h;exact⟨l,h,c,h1,h2.ext he,h3.ext he,h4.ext he⟩
def RwHL(w:World)(u:Value)(l:List RwE):Prop:=SL 10 RwH w u l
def VrHL(w:World)(u:Value)(l:List VrE):Prop:=SL 13 VrH w u l
theorem RwHL.ext{w w':World}{u:Value}{l:List RwE}(h:RwHL w u l)(he:Ext w w'):RwHL w' u l:=SL.ext (fun _ _ h=>h.ext he) h he
theorem VrHL.ext{w w':World}{u:Value}{l:List VrE}(h:VrHL w u l)(he:Ext w w'):VrHL w' u l:=SL.ext (fun _ _ h=>h.ext he) h he
def PbH(w:World)(v:Value)(p:PbE):Prop:=∃(ra:Option Addr) (rn rc:Nat) (va:Option Addr) (vn vc:Nat),v= .agg #[.string p.1.1,.string p.1.2,.slice ra rn rc,.slice va vn vc]∧RwHL w (.slice ra rn rc) p.2.1∧VrHL w (.slice va vn vc) p.2.2
theorem PbH.ext{w w':World}{v:Value}{p:PbE}(h:PbH w v p)(he:Ext w w'):PbH w' v p:=by
 obtain⟨ra,rn,rc,va,vn,vc,hv,hr,hs⟩:=h;exact⟨ra,rn,rc,va,vn,vc,hv,hr.ext he,hs.ext he⟩
theorem RawE.is6{w:World}{v:Value}{e:RE}(h:RawE w v e)(hr:wordsE e≤6):IsR w v (ratE e) 6:=by
 unfold wordsE at hr;exact h.1.isR h.2.1 h.2.2.1 6 (by omega) (by omega) (by omega) (by rw[LIM_eq];omega)
theorem RwH.rwv{w:World}{v:Value}{r:RwE}(h:RwH w v r)(hr:okRw r):RwV 6 w v (ratRw r):=by
 obtain⟨l,h,ta,tn,tc,h1,h2,h3,h4⟩:=h;exact⟨_,l,h,ta,tn,tc,h1,⟨h2.is6 hr.1,h3.is6 hr.2.1⟩,h4.tl 6 (by omega) (by rw[LIM_eq];omega) hr.2.2.2⟩
theorem VrH.vrv{w:World}{v:Value}{r:VrE}(h:VrH w v r)(hr:okVr r):VrV 6 w v (ratVr r):=by
 obtain⟨l,h,c,h1,h2,h3,h4⟩:=h;exact⟨_,l,h,c,h1,⟨h2.is6 hr.1,h3.is6 hr.2.1⟩,h4.is6 hr.2.2⟩
theorem PbH.pbv{w:World}{v:Value}{p:PbE}(h:PbH w v p)(hp:okPb p):PbV 6 w v (ratPb p):=by
 obtain⟨ra,rn,rc,va,vn,vc,hv,hr,hs⟩:=h;exact⟨_,_,ra,rn,rc,va,vn,vc,hv,SL.mapL hr fun u y hy hR=>hR.rwv (hp.2.2.1 y hy),SL.mapL hs fun u y hy hR=>hR.vrv (hp.2.2.2 y hy)⟩
theorem RwHL.at{w:World}{u:Value}{l:List RwE}(h:RwHL w u l):∃ad m cap,m=l.length∧u= .slice ad m cap∧m≤9223372036854775807∧∀(i:Nat) (r:RwE),l[i]? =some r→∃g off,ad=some ⟨g,off,none⟩∧∃(l h:QC) (ta:Option Addr) (tn tc:Nat),
  (∀wz,Ext w wz→wz.cell? ⟨g,off+i*10,none⟩=some (.string r.1)∧wz.cell? ⟨g,off+i*10+1,none⟩=some (.bool r.2.1.1)∧wz.cell? ⟨g,off+i*10+2,none⟩=some (.bool r.2.1.2)∧wz.cell? ⟨g,off+i*10+3,none⟩=some (.bool l.b)∧wz.cell? ⟨g,off+i*10+4,none⟩=some (.slice l.a1 l.n1 l.c1)∧wz.cell? ⟨g,off+i*10+5,none⟩=some (.slice l.a2 l.n2 l.c2)∧wz.cell? ⟨g,off+i*10+6,none⟩=some (.bool h.b)∧wz.cell? ⟨g,off+i*10+7,none⟩=some (.slice h.a1 h.n1 h.c1)∧wz.cell? ⟨g,off+i*10+8,none⟩=some (.slice h.a2 h.n2 h.c2)∧wz.cell? ⟨g,off+i*10+9,none⟩=some (.slice ta tn tc))∧
  RawE w (.agg #[.bool l.b,.slice l.a1 l.n1 l.c1,.slice l.a2 l.n2 l.c2]) r.2.2.1.1∧RawE w (.agg #[.bool h.b,.slice h.a1 h.n1 h.c1,.slice h.a2 h.n2 h.c2]) r.2.2.1.2∧TLE w (.slice ta tn tc) r.2.2.2:=by
 obtain⟨ad,m,cap,h1,h2,h3,h4⟩:=h.opn;refine⟨ad,m,cap,h1,h2,h3,fun i c hi=> ?_⟩;obtain⟨g,off,k1,xs,k2,k3,l,h,ta,tn,tc,j1,j2,j3,j4⟩:=h4 i c hi
 cases j1
 exact⟨g,off,k1,l,h,ta,tn,tc,fun wz hz=>⟨k3 wz hz 0 _ rfl,k3 wz hz 1 _ rfl,k3 wz hz 2 _ rfl,k3 wz hz 3 _ rfl,k3 wz hz 4 _ rfl,k3 wz hz 5 _ rfl,k3 wz hz 6 _ rfl,k3 wz hz 7 _ rfl,k3 wz hz 8 _ rfl,k3 wz hz 9 _ rfl⟩,j2,j3,j4⟩
theorem VrHL.at{w:World}{u:Value}{l:List VrE}(h:VrHL w u l):∃ad m cap,m=l.length∧u= .slice ad m cap∧m≤9223372036854775807∧∀(i:Nat) (r:VrE),l[i]? =some r→∃g off,ad=some ⟨g,off,none⟩∧∃(l h c:QC),
  (∀wz,Ext w wz→wz.cell? ⟨g,off+i*13,none⟩=some (.string r.1)∧wz.cell? ⟨g,off+i*13+1,none⟩=some (.bool r.2.1.1)∧wz.cell? ⟨g,off+i*13+2,none⟩=some (.bool r.2.1.2.1)∧wz.cell? ⟨g,off+i*13+3,none⟩=some (.bool r.2.1.2.2)∧wz.cell? ⟨g,off+i*13+4,none⟩=some (.bool l.b)∧wz.cell? ⟨g,off+i*13+5,none⟩=some (.slice l.a1 l.n1 l.c1)∧wz.cell? ⟨g,off+i*13+6,none⟩=some (.slice l.a2 l.n2 l.c2)∧wz.cell? ⟨g,off+i*13+7,none⟩=some (.bool h.b)∧wz.cell? ⟨g,off+i*13+8,none⟩=some (.slice h.a1 h.n1 h.c1)∧wz.cell? ⟨g,off+i*13+9,none⟩=some (.slice h.a2 h.n2 h.c2)∧wz.cell? ⟨g,off+i*13+10,none⟩=some (.bool c.b)∧wz.cell? ⟨g,off+i*13+11,none⟩=some (.slice c.a1 c.n1 c.c1)∧wz.cell? ⟨g,off+i*13+12,none⟩=some (.slice c.a2 c.n2 c.c2))∧
  RawE w (.agg #[.bool l.b,.slice l.a1 l.n1 l.c1,.slice l.a2 l.n2 l.c2]) r.2.2.1∧RawE w (.agg #[.bool h.b,.slice h.a1 h.n1 h.c1,.slice h.a2 h.n2 h.c2]) r.2.2.2.1∧RawE w (.agg #[.bool c.b,.slice c.a1 c.n1 c.c1,.slice c.a2 c.n2 c.c2]) r.2.2.2.2:=by
 obtain⟨ad,m,cap,h1,h2,h3,h4⟩:=h.opn;refine⟨ad,m,cap,h1,h2,h3,fun i c hi=> ?_⟩;obtain⟨g,off,k1,xs,k2,k3,l,h,c2,j1,j2,j3,j4⟩:=h4 i c hi
 cases j1
 exact⟨g,off,k1,l,h,c2,fun wz hz=>⟨k3 wz hz 0 _ rfl,k3 wz hz 1 _ rfl,k3 wz hz 2 _ rfl,k3 wz hz 3 _ rfl,k3 wz hz 4 _ rfl,k3 wz hz 5 _ rfl,k3 wz hz 6 _ rfl,k3 wz hz 7 _ rfl,k3 wz hz 8 _ rfl,k3 wz hz 9 _ rfl,k3 wz hz 10 _ rfl,k3 wz hz 11 _ rfl,k3 wz hz 12 _ rfl⟩,j2,j3,j4⟩
def DigE(e:RE):Prop:=Dig W e.2.1∧Dig W e.2.2∧e.2.1.length+e.2.2.length≤9223372036854775807
theorem FrE.raw{B:Nat}{w:World}{v:Value}{e:RE}(h:FrE B w v e)(hd:DigE e):RawE w v e:=⟨FrR.raw h,hd⟩
def RwY(B:Nat)(w:World)(v:Value)(r:RwE):Prop:=∃(l h:QC) (ta:Option Addr) (tn tc:Nat),v= .agg #[.string r.1,.bool r.2.1.1,.bool r.2.1.2,.bool l.b,.slice l.a1 l.n1 l.c1,.slice l.a2 l.n2 l.c2,.bool h.b,.slice h.a1 h.n1 h.c1,.slice h.a2 h.n2 h.c2,.slice ta tn tc]∧FrE B w (.agg #[.bool l.b,.slice l.a1 l.n1 l.c1,.slice l.a2 l.n2 l.c2]) r.2.2.1.1∧FrE B w (.agg #[.bool h.b,.slice h.a1 h.n1 h.c1,.slice h.a2 h.n2 h.c2]) r.2.2.1.2∧TLO B w (.slice ta tn tc) r.2.2.2∧DigE r.2.2.1.1∧DigE r.2.2.1.2
def VrY(B:Nat)(w:World)(v:Value)(r:VrE):Prop:=∃(l h c:QC),v= .agg #[.string r.1,.bool r.2.1.1,.bool r.2.1.2.1,.bool r.2.1.2.2,.bool l.b,.slice l.a1 l.n1 l.c1,.slice l.a2 l.n2 l.c2,.bool h.b,.slice h.a1 h.n1 h.c1,.slice h.a2 h.n2 h.c2,.bool c.b,.slice c.a1 c.n1 c.c1,.slice c.a2 c.n2 c.c2]∧FrE B w (.agg #[.bool l.b,.slice l.a1 l.n1 l.c1,.slice l.a2 l.n2 l.c2]) r.2.2.1∧FrE B w (.agg #[.bool h.b,.slice h.a1 h.n1 h.c1,.slice h.a2 h.n2 h.c2]) r.2.2.2.1∧FrE B w (.agg #[.bool c.b,.slice c.a1 c.n1 c.c1,.slice c.a2 c.n2 c.c2]) r.2.2.2.2∧DigE r.2.2.1∧DigE r.2.2.2.1∧DigE r.2.2.2.2
theorem RwY.rwh{B:Nat}{w:World}{v:Value}{r:RwE}(h:RwY B w v r):RwH w v r:=by
 obtain⟨l,h,ta,tn,tc,h1,h2,h3,h4,h5,h6⟩:=h;exact⟨l,h,ta,tn,tc,h1,h2.raw h5,h3.raw h6,h4.tle⟩
theorem VrY.vrh{B:Nat}{w:World}{v:Value}{r:VrE}(h:VrY B w v r):VrH w v r:=by
 obtain⟨l,h,c,h1,h2,h3,h4,h5,h6,h7⟩:=h;exact⟨l,h,c,h1,h2.raw h5,h3.raw h6,h4.raw h7⟩
theorem RwY.chgB{B g:Nat}{w w':World}{v:Value}{r:RwE}{t:TypeId}{cs:Array Value}(h:RwY B w v r)(hc:Chg g w w')(hb:Bx t w g cs)(ht:t≠173)(ht2:t≠95):RwY B w' v r:=by
 obtain⟨l,h,ta,tn,tc,h1,h2,h3,h4,h5,h6⟩:=h;exact⟨l,h,ta,tn,tc,h1,FrR.chgB h2 hc hb ht,FrR.chgB h3 hc hb ht,h4.chgB hc hb ht ht2,h5,h6⟩
theorem VrY.chgB{B g:Nat}{w w':World}{v:Value}{r:VrE}{t:TypeId}{cs:Array Value}(h:VrY B w v r)(hc:Chg g w w')(hb:Bx t w g cs)(ht:t≠173):VrY B w' v r:=by
 obtain⟨l,h,c,h1,h2,h3,h4,h5,h6,h7⟩:=h;exact⟨l,h,c,h1,FrR.chgB h2 hc hb ht,FrR.chgB h3 hc hb ht,FrR.chgB h4 hc hb ht,h5,h6,h7⟩
theorem RwY.ext{B:Nat}{w w':World}{v:Value}{r:RwE}(h:RwY B w v r)(he:Ext w w'):RwY B w' v r:=by
 obtain⟨l,h,ta,tn,tc,h1,h2,h3,h4,h5,h6⟩:=h;exact⟨l,h,ta,tn,tc,h1,FrR.ext h2 he,FrR.ext h3 he,h4.ext he,h5,h6⟩
theorem VrY.ext{B:Nat}{w w':World}{v:Value}{r:VrE}(h:VrY B w v r)(he:Ext w w'):VrY B w' v r:=by
 obtain⟨l,h,c,h1,h2,h3,h4,h5,h6,h7⟩:=h;exact⟨l,h,c,h1,FrR.ext h2 he,FrR.ext h3 he,FrR.ext h4 he,h5,h6,h7⟩
theorem RwY.grow{B B':Nat}{w w':World}{v lv:Value}{r:RwE}{vs:List Value}(h:RwY B w v r)(hls:LS 97 10 B' w lv vs)(hg:w.grownBy w' lv.ownBlock):RwY B w' v r:=by
 rcases ownsRow_growN hls.2 hg with he |⟨g,cs,hb,hc⟩
 ·exact h.ext he
 ·exact h.chgB hc hb (by decide) (by decide)
theorem VrY.grow{B B':Nat}{w w':World}{v lv:Value}{r:VrE}{vs:List Value}(h:VrY B w v r)(hls:LS 43 13 B' w lv vs)(hg:w.grownBy w' lv.ownBlock):VrY B w' v r:=by
 rcases ownsRow_growN hls.2 hg with he |⟨g,cs,hb,hc⟩
 ·exact h.ext he
 ·exact h.chgB hc hb (by decide)
def RwO(B:Nat)(w:World)(v:Value)(l:List RwE):Prop:=OL 97 10 B (RwY B) w v l
def VrO(B:Nat)(w:World)(v:Value)(l:List VrE):Prop:=OL 43 13 B (VrY B) w v l
theorem RwO.hl{B:Nat}{w:World}{v:Value}{l:List RwE}(h:RwO B w v l):RwHL w v l:=(OL.sl h (by omega)).map fun u y h=>h.rwh
theorem VrO.hl{B:Nat}{w:World}{v:Value}{l:List VrE}(h:VrO B w v l):VrHL w v l:=(OL.sl h (by omega)).map fun u y h=>h.vrh
theorem RwO.ext{B:Nat}{w w':World}{v:Value}{l:List RwE}(h:RwO B w v l)(he:Ext w w'):RwO B w' v l:=OL.ext h he fun _ _ h=>h.ext he
theorem VrO.ext{B:Nat}{w w':World}{v:Value}{l:List VrE}(h:VrO B w v l)(he:Ext w w'):VrO B w' v l:=OL.ext h he fun _ _ h=>h.ext he
theorem LS.chgB{e n B g:Nat}{w w':World}{v:Value}{vs:List Value}{t:TypeId}{cs:Array Value}(h:LS e n B w v vs)(hc:Chg g w w')(hb:Bx t w g cs)(ht:t≠e):LS e n B w' v vs:=by
 refine⟨h.1,h.2.1,?_⟩
 rcases h.2.2 with h2 |⟨g',cap,cur,k1,k2,k3,k4⟩
 ·exact .inl h2
 ·refine .inr ⟨g',cap,cur,k1,k2,hc.blk k3 (fun e'=> ?_),k4⟩;subst e';unfold Bx at hb;rw[hb]at k3;simp only[Option.some.injEq,Obj.cells.injEq]at k3;exact ht k3.2.1
theorem RwO.chgB{B g:Nat}{w w':World}{v:Value}{l:List RwE}{t:TypeId}{cs:Array Value}(h:RwO B w v l)(hc:Chg g w w')(hb:Bx t w g cs)(ht:t≠173)(ht2:t≠95)(ht3:t≠97):RwO B w' v l:=by
 obtain⟨vs,h1,h2,h3⟩:=h;exact⟨vs,h1.chgB hc hb ht3,h2,fun i u y a b=>(h3 i u y a b).chgB hc hb ht ht2⟩
theorem VrO.chgB{B g:Nat}{w w':World}{v:Value}{l:List VrE}{t:TypeId}{cs:Array Value}(h:VrO B w v l)(hc:Chg g w w')(hb:Bx t w g cs)(ht:t≠173)(ht3:t≠43):VrO B w' v l:=by
 obtain⟨vs,h1,h2,h3⟩:=h;exact⟨vs,h1.chgB hc hb ht3,h2,fun i u y a b=>(h3 i u y a b).chgB hc hb ht⟩
def PbY(B:Nat)(w:World)(v:Value)(p:PbE):Prop:=∃(ra:Option Addr) (rn rc:Nat) (va:Option Addr) (vn vc:Nat),v= .agg #[.string p.1.1,.string p.1.2,.slice ra rn rc,.slice va vn vc]∧RwO B w (.slice ra rn rc) p.2.1∧VrO B w (.slice va vn vc) p.2.2
theorem PbY.pbh{B:Nat}{w:World}{v:Value}{p:PbE}(h:PbY B w v p):PbH w v p:=by
 obtain⟨ra,rn,rc,va,vn,vc,hv,hr,hs⟩:=h;exact⟨ra,rn,rc,va,vn,vc,hv,hr.hl,hs.hl⟩
theorem rat_cells{wz:World}{g o:Nat}{a b c:Value}(h0:wz.cell? ⟨g,o,none⟩=some a)(h1:wz.cell? ⟨g,o+1,none⟩=some b)(h2:wz.cell? ⟨g,o+2,none⟩=some c):∀(j:Nat) (v:Value),(#[a,b,c]:Array Value)[j]? =some v→wz.cell? ⟨g,o+j,none⟩=some v:=by
 intro j v hj
 match j,hj with
 |0,hj=>cases hj;exact h0
 |1,hj=>cases hj;exact h1
 |2,hj=>cases hj;exact h2
 |j+3,hj=>simp at hj
def PP.newQ{S:Nat}(vs:List Value):PP S:=⟨false,fun u w=>∃(g:Nat),S≤g∧u= .slice (some ⟨g,0,none⟩) vs.length vs.length∧Bx 41 w g (flatS vs).toArray,fun _ _ _ h hp=>(let ⟨g,h0,h1,h2⟩:=hp;⟨g,h0,h1,h2.ext h⟩),fun _ _ hg _ _ _ h hp=>(let ⟨g,h0,h1,h2⟩:=hp;⟨g,h0,h1,h2.chg h (by omega)⟩)⟩
theorem slq_new{g N:Nat}{w:World}(vs:List Value)(es:List RE)(h5:StrN 3 vs)(hb:Bx 41 w g (flatS vs).toArray)(hn:N=vs.length)(hq:N=es.length)(hN:N≤9223372036854775807)(hR:∀(i:Nat) (u:Value) (y:RE),vs[i]? =some u→es[i]? =some y→RawE w u y):SLQ w (.slice (some ⟨g,0,Option.none⟩) N N) es:=by
 have:=LS.of_hold (e:=41) (n:=3) (B:=0) (w:=w) (vs:=vs) (g:=g) (cap:=N) (rest:=[]) h5 (Nat.zero_le _) (by omega) hN (by rw[hn];simp) (by rw[List.append_nil];exact hb)
 rw[←hn]at this;exact OL.sl (R:=fun w u y=>RawE w u y) ⟨vs,this,by omega,hR⟩ (by omega)
theorem qcN(qs:List QC):StrN 3 (qs.map qv):=by
 intro v hv;obtain⟨q, -,rfl⟩:=List.mem_map.1 hv;exact⟨_,rfl,rfl,all3 rfl rfl rfl⟩
theorem slq_two{g:Nat}{w:World}{l h:QC}{e1 e2:RE}(hb:Bx 41 w g (flatS [qv l,qv h]).toArray)(h1:RawE w (qv l) e1)(h2:RawE w (qv h) e2):SLQ w (.slice (some ⟨g,0,none⟩) 2 2) [e1,e2]:=
 slq_new [qv l,qv h] _ (qcN [l,h]) hb rfl rfl (by omega) fun i u y hu hy=>by
  match i,hu,hy with
  |0,hu,hy=>cases hu;cases hy;exact h1
  |1,hu,hy=>cases hu;cases hy;exact h2
  |i+2,hu,hy=>simp at hu
theorem slq_three{g:Nat}{w:World}{l h c:QC}{e1 e2 e3:RE}(hb:Bx 41 w g (flatS [qv l,qv h,qv c]).toArray)(h1:RawE w (qv l) e1)(h2:RawE w (qv h) e2)(h3:RawE w (qv c) e3):SLQ w (.slice (some ⟨g,0,none⟩) 3 3) [e1,e2,e3]:=
 slq_new [qv l,qv h,qv c] _ (qcN [l,h,c]) hb rfl rfl (by omega) fun i u y hu hy=>by
  match i,hu,hy with
  |0,hu,hy=>cases hu;cases hy;exact h1
  |1,hu,hy=>cases hu;cases hy;exact h2
  |2,hu,hy=>cases hu;cases hy;exact h3
  |i+3,hu,hy=>simp at hu
def GrP(p:PbE)(w:World)(e:Ending)(w':World):Prop:=∃b,e= .returned (.bool b)∧(b=false→okPb p)∧Ext w w'
theorem GrP.mk{p:PbE}{w:World}{e:Ending}{w':World}(b:Bool)(h1:e= .returned (.bool b))(h2:b=false→okPb p)(h3:Ext w w'):GrP p w e w':=⟨b,h1,h2,h3⟩
set_option maxHeartbeats 2000000 in
theorem greatPb_calls(v:Value)(p:PbE)(w:World)(hv:PbH w v p):
  Calls Tryz.prog 16 #[v] w fun e w'=>GrP p w e w':=by
 obtain⟨⟨n0,n1⟩,rows,vars⟩:=p;obtain⟨ra,rn,rc,va,vn,vc,rfl,hr,hvv⟩:=hv;obtain⟨ra',n,rc',hrn,hre,hrm,hatr⟩:=hr.at;simp only[Value.slice.injEq]at hre;obtain⟨rfl,rfl,rfl⟩:=hre;obtain⟨va',n,vc',hn,hve,hvm,hatv⟩:=hvv.at;simp only[Value.slice.injEq]at hve;obtain⟨rfl,rfl,rfl⟩:=hve
 simp only at hrn hn hatr hatv
 have Hn:=Lib.hid hn;have Hrn:=Lib.hid hrn;have HAV:=Lib.hid hatv;have HAR:=Lib.hid hatr;clear hr hvv hrn hn hatr hatv;obtain⟨w1,hw1,e1,bP,s1⟩:=alloc1 w #[.string n0,.string n1,.slice ra rn rc,.slice va vn vc] 25
 go_enter Tryz.func16,Tryz.ntmps16
 go_wp2_with fail;rw[←hw1]
 go_loopw [3,4] (fun s3 s4 wr=>∃(i:Nat) (s:Int),i≤rn∧s4= .int .i64 (i:Int)∧s3= .int .i64 s∧Hid (∀r∈rows.take i,okRw r)∧Ext w1 wr) (fun _ s4 _=>((rn:Int) - intOf s4).toNat)
 case atStart=>exact ⟨0,0,Nat.zero_le _,rfl,rfl,Lib.hid (fun r hr=>by simp at hr),Ext.refl _⟩
 case round=>
  obtain⟨i,s,hi,rfl,rfl,hH,hE0⟩:=hrel
  rcases Nat.eq_or_lt_of_le hi with hin |hin
  ·have hlt:¬((i:Int)<(rn:Int)):=by omega
   have HRW:Hid (∀r∈rows,okRw r):=Lib.hid (by
    have h5:=hH.out;rw[List.take_of_length_le (by rw[←Hrn.out];omega)]at h5
    exact h5)
   have hb:=bP.ext hE0;have hp0:=hb.cell 0;have hp1:=hb.cell 1;have hp2:=hb.cell 2;have hp3:=hb.cell 3;have E0:=Lib.hid hE0;clear hb hH hin hi hE0 hw1;go_wp2_with fail
   go_loopw [3,5] (fun s3 s5 wr=>∃(i:Nat) (s:Int),i≤vn∧s5= .int .i64 (i:Int)∧s3= .int .i64 s∧Hid (∀r∈vars.take i,okVr r)∧Ext w1 wr) (fun _ s5 _=>((vn:Int) - intOf s5).toNat)
   case atStart=>exact ⟨0,s,Nat.zero_le _,rfl,rfl,Lib.hid (fun r hr=>by simp at hr),E0.out⟩
   clear hp0 hp1 hp2 hp3 E0
   case round=>
    obtain⟨i,s,hi,rfl,rfl,hH,hE0⟩:=hrel;have BPj:=bP.ext hE0
    rcases Nat.eq_or_lt_of_le hi with hin |hin
    ·have hlt:¬((i:Int)<(vn:Int)):=by omega
     have HVR:Hid (∀r∈vars,okVr r):=Lib.hid (by
      have h5:=hH.out;rw[List.take_of_length_le (by rw[←Hn.out];omega)]at h5
      exact h5)
     have hp0:=BPj.cell 0;have hp1:=BPj.cell 1;have hp2:=BPj.cell 2;have hp3:=BPj.cell 3
     have HF:Hid (rn≤70→vn≤50→okPb ((n0,n1),rows,vars)):=Lib.hid fun h1 h2=>⟨by show rows.length≤70;rw[←Hrn.out];exact h1,by show vars.length≤50;rw[←Hn.out];exact h2,HRW.out,HVR.out⟩
     have E0:=e1.trans hE0;clear hH BPj hE0
     by_cases h1:70<rn
     ·have h1':(70:Int)<(rn:Int):=by omega
      go_wp2;go_ret;exact GrP.mk true rfl (fun h=>(by cases h)) E0
     ·have h1':¬(70:Int)<(rn:Int):=by omega
      by_cases h2:50<vn
      ·have h2':(50:Int)<(vn:Int):=by omega
       go_wp2;go_ret;exact GrP.mk true rfl (fun h=>(by cases h)) E0
      ·have h2':¬(50:Int)<(vn:Int):=by omega
       have HG:=Lib.hid (HF.out (by omega) (by omega))
       by_cases h3:18<s
       ·go_wp2;go_ret;exact GrP.mk true rfl (fun h=>(by cases h)) E0
       ·have hd3:decide (18<s)=false:=decide_eq_false h3
        go_wp2;go_ret;exact GrP.mk false (by simp) (fun _=>HG.out) E0
    ·have hlt:(i:Int)<(vn:Int):=by omega
     obtain⟨y,hy⟩:∃y,vars[i]? =some y:=⟨_,List.getElem?_eq_getElem (by rw[←Hn.out];exact hin)⟩;obtain⟨g,off,rfl,l,h,c,hcell,hL,hHh,hCc⟩:=HAV.out i y hy;have HCL:=Lib.hid hcell;have HL:=Lib.hid hL;have HH:=Lib.hid hHh;have HC:=Lib.hid hCc;have HTK:=Lib.hid (take_next hy);obtain⟨d1,hd1⟩:∃d,d=greatE [y.2.2.1,y.2.2.2.1,y.2.2.2.2]:=⟨_,rfl⟩;have HD1:=Lib.hid hd1;obtain⟨q1,hq1⟩:∃q,q=weightE [y.2.2.1,y.2.2.2.1,y.2.2.2.2]:=⟨_,rfl⟩;have HQ:=Lib.hid hq1;obtain⟨t1,ht1⟩:∃t,t=IntKind.i64.wrap (s+(q1:Int)):=⟨_,rfl⟩;have HT1:=Lib.hid ht1.symm;clear hcell hL hHh hCc hy hd1 hq1 ht1;have hp0:=BPj.cell 0;have hp1:=BPj.cell 1;have hp2:=BPj.cell 2;have hp3:=BPj.cell 3;go_wp2_with fail;clear hp0 hp1 hp2 hp3;refine wpQ [PP.val (.pointer (some ⟨w.heap.size,3,none⟩)),PP.val (.slice (some ⟨g,off,none⟩) vn vc),PP.val (.int .i64 (i:Int)),PP.val (.pointer (some ⟨g,off+i*13,none⟩)),PP.val (.pointer (some ⟨g,off+i*13+4,none⟩)),PP.val (qv l),PP.val (.pointer (some ⟨w.heap.size,3,none⟩)),PP.val (.slice (some ⟨g,off,none⟩) vn vc),PP.val (.int .i64 (i:Int)),PP.val (.pointer (some ⟨g,off+i*13,none⟩)),PP.val (.pointer (some ⟨g,off+i*13+7,none⟩)),PP.val (qv h),PP.val (.pointer (some ⟨w.heap.size,3,none⟩)),PP.val (.slice (some ⟨g,off,none⟩) vn vc),PP.val (.int .i64 (i:Int)),PP.val (.pointer (some ⟨g,off+i*13,none⟩)),PP.val (.pointer (some ⟨g,off+i*13+10,none⟩)),PP.val (qv c),PP.newQ [qv l,qv h,qv c],PP.val (.bool d1)] [] [0,1,2,3,4,5,6,7,8,9,10,11,12,13,14,15,16,17,18,19] ?_ ?_
     ·refine⟨?_,?_,?_,?_,?_,?_,?_,?_,?_,?_,?_,?_,?_,?_,?_,?_,?_,?_,?_,?_,trivial⟩
      ·intro f wz hG hp hl;simp only[OpGoal];go_simp;exact⟨_,rfl,Ext.refl _,rfl⟩
      ·intro f wz hG hp hl;have hE:Ext wr wz:=hG;have q67:=tE hp 0 0 rfl rfl rfl;have hcell:=(BPj.ext hE).cell 3;simp only[OpGoal];go_simp;exact⟨_,rfl,Ext.refl _,rfl⟩
      ·intro f wz hG hp hl;simp only[OpGoal];go_simp;exact⟨_,rfl,Ext.refl _,rfl⟩
      ·intro f wz hG hp hl;have q68:=tE hp 0 1 rfl rfl rfl;have q69:=tE hp 1 2 rfl rfl rfl;simp only[OpGoal];go_simp;exact⟨_,rfl,Ext.refl _,rfl⟩
      ·intro f wz hG hp hl;have q70:=tE hp 0 3 rfl rfl rfl;simp only[OpGoal];go_simp;exact⟨_,rfl,Ext.refl _,rfl⟩
      ·intro f wz hG hp hl;have hE:Ext wr wz:=hG;have q71:=tE hp 0 4 rfl rfl rfl;change OpGoal _ _ _ f wz Ext _;obtain⟨-, -, -, -,x4,x5,x6, -⟩:=HCL.out _ (e1.trans (hE0.trans hE));exact og_loadAt (P:=Tryz.prog) _ _ g (off+i*13+4) _ _ rfl rfl q71 (rat_cells x4 x5 x6) Tryz.underlying41 rfl (by kernel_rfl) rfl
      ·intro f wz hG hp hl;simp only[OpGoal];go_simp;exact⟨_,rfl,Ext.refl _,rfl⟩
      ·intro f wz hG hp hl;have hE:Ext wr wz:=hG;have q73:=tE hp 0 6 rfl rfl rfl;have hcell:=(BPj.ext hE).cell 3;simp only[OpGoal];go_simp;exact⟨_,rfl,Ext.refl _,rfl⟩
      ·intro f wz hG hp hl;simp only[OpGoal];go_simp;exact⟨_,rfl,Ext.refl _,rfl⟩
      ·intro f wz hG hp hl;have q74:=tE hp 0 7 rfl rfl rfl;have q75:=tE hp 1 8 rfl rfl rfl;simp only[OpGoal];go_simp;exact⟨_,rfl,Ext.refl _,rfl⟩
      ·intro f wz hG hp hl;have q76:=tE hp 0 9 rfl rfl rfl;simp only[OpGoal];go_simp;exact⟨_,rfl,Ext.refl _,rfl⟩
      ·intro f wz hG hp hl;have hE:Ext wr wz:=hG;have q77:=tE hp 0 10 rfl rfl rfl;change OpGoal _ _ _ f wz Ext _;obtain⟨-, -, -, -, -, -, -,x7,x8,x9, -⟩:=HCL.out _ (e1.trans (hE0.trans hE));exact og_loadAt (P:=Tryz.prog) _ _ g (off+i*13+7) _ _ rfl rfl q77 (rat_cells x7 x8 x9) Tryz.underlying41 rfl (by kernel_rfl) rfl
      ·intro f wz hG hp hl;simp only[OpGoal];go_simp;exact⟨_,rfl,Ext.refl _,rfl⟩
      ·intro f wz hG hp hl;have hE:Ext wr wz:=hG;have q79:=tE hp 0 12 rfl rfl rfl;have hcell:=(BPj.ext hE).cell 3;simp only[OpGoal];go_simp;exact⟨_,rfl,Ext.refl _,rfl⟩
      ·intro f wz hG hp hl;simp only[OpGoal];go_simp;exact⟨_,rfl,Ext.refl _,rfl⟩
      ·intro f wz hG hp hl;have q80:=tE hp 0 13 rfl rfl rfl;have q81:=tE hp 1 14 rfl rfl rfl;simp only[OpGoal];go_simp;exact⟨_,rfl,Ext.refl _,rfl⟩
      ·intro f wz hG hp hl;have q82:=tE hp 0 15 rfl rfl rfl;simp only[OpGoal];go_simp;exact⟨_,rfl,Ext.refl _,rfl⟩
      ·intro f wz hG hp hl;have hE:Ext wr wz:=hG;have q83:=tE hp 0 16 rfl rfl rfl;change OpGoal _ _ _ f wz Ext _;obtain⟨-, -, -, -, -, -, -, -, -, -,x10,x11,x12⟩:=HCL.out _ (e1.trans (hE0.trans hE));exact og_loadAt (P:=Tryz.prog) _ _ g (off+i*13+10) _ _ rfl rfl q83 (rat_cells x10 x11 x12) Tryz.underlying41 rfl (by kernel_rfl) rfl
      ·intro f wz hG hp hl;have hE:Ext wr wz:=hG;have hS:=hE.size;have q72:=tE hp 0 5 rfl rfl rfl;have q78:=tE hp 1 11 rfl rfl rfl;have q84:=tE hp 2 17 rfl rfl rfl;change OpGoal _ _ _ f wz Ext _;exact og_buildSlice (P:=Tryz.prog) 49 41 3 3 _ [qv l,qv h,qv c] rfl rfl Tryz.underlying49 (by kernel_rfl) (by kernel_rfl) (by simp only[Act.eval];exact congr (congr (congrArg (fun y0 y1 y2=> [(0,y0),(1,y1),(2,y2)]) q72) q78) q84) rfl (by omega) (by omega) (by omega) (qcN [l,h,c]).size (fun w' he hb=>⟨_,hS,rfl,hb⟩)
      ·intro f wz hG hp hl;have hE:Ext wr wz:=hG;have q85:=tellV hp 0 18 rfl rfl (fun _=>hE);change OpGoal _ _ _ f wz Ext _;refine oC #[f 18] Tryz.func28 rfl rfl ?_;obtain⟨gq, -,hvq,hbq⟩:=q85;rw[hvq];have hsl:=slq_three hbq (HL.out.ext (e1.trans (hE0.trans hE))) (HH.out.ext (e1.trans (hE0.trans hE))) (HC.out.ext (e1.trans (hE0.trans hE)));refine(greatAll_calls _ [y.2.2.1,y.2.2.2.1,y.2.2.2.2] _ hsl).mono ?_;rintro e w' ⟨rfl,h2⟩
       exact⟨_,rfl,h2,by rw[HD1.out]<;>rfl⟩
     ·intro f wq hG hp;have hE:Ext wr wq:=ChgS.nil hG
      have q86:f 19= .bool d1:=endV hp 19 (by decide) rfl (fun h=>by cases h)
      try simp only[q86]
      clear hp;have hEq:=hE0.trans hE
      cases d1 with
      |true=>
       go_wp2;go_ret;exact GrP.mk true rfl (fun h=>(by cases h)) (e1.trans hEq)
      |false=>
       have HW2:=Lib.hid (greatE_not HD1.out.symm).2
       have HOK:Hid (∀r∈vars.take (i+1),okVr r):=Lib.hid fun r hr=>by
        rw[HTK.out]at hr
        rcases List.mem_append.1 hr with hr |hr
        ·exact hH.out r hr
        ·rw[List.mem_singleton]at hr;subst hr;exact⟨HW2.out _ (by simp),HW2.out _ (by simp),HW2.out _ (by simp)⟩
       clear hH;have E0':=Lib.hid hE0;clear hE0;have hE0:=hEq;have BPj:=bP.ext hE0;clear hE hEq;have hp0:=BPj.cell 0;have hp1:=BPj.cell 1;have hp2:=BPj.cell 2;have hp3:=BPj.cell 3;go_wp2_with fail;clear hp0 hp1 hp2 hp3;refine wpQ [PP.val (.int .i64 s),PP.val (.pointer (some ⟨w.heap.size,3,none⟩)),PP.val (.slice (some ⟨g,off,none⟩) vn vc),PP.val (.int .i64 (i:Int)),PP.val (.pointer (some ⟨g,off+i*13,none⟩)),PP.val (.pointer (some ⟨g,off+i*13+4,none⟩)),PP.val (qv l),PP.val (.pointer (some ⟨w.heap.size,3,none⟩)),PP.val (.slice (some ⟨g,off,none⟩) vn vc),PP.val (.int .i64 (i:Int)),PP.val (.pointer (some ⟨g,off+i*13,none⟩)),PP.val (.pointer (some ⟨g,off+i*13+7,none⟩)),PP.val (qv h),PP.val (.pointer (some ⟨w.heap.size,3,none⟩)),PP.val (.slice (some ⟨g,off,none⟩) vn vc),PP.val (.int .i64 (i:Int)),PP.val (.pointer (some ⟨g,off+i*13,none⟩)),PP.val (.pointer (some ⟨g,off+i*13+10,none⟩)),PP.val (qv c),PP.newQ [qv l,qv h,qv c],PP.val (.int .i64 (q1:Int)),PP.val (.int .i64 t1),PP.val (.int .i64 t1)] [(0,22,3)] [0,1,2,3,4,5,6,7,8,9,10,11,12,13,14,15,16,17,18,19,20,21,22] ?_ ?_
       ·refine⟨?_,?_,?_,?_,?_,?_,?_,?_,?_,?_,?_,?_,?_,?_,?_,?_,?_,?_,?_,?_,?_,?_,?_,trivial⟩
        ·intro f wz hG hp hl
         have l3:f 22= .int .i64 s:=hl.1 rfl
         simp only[OpGoal];go_simp;exact⟨_,rfl,Ext.refl _,rfl⟩
        ·intro f wz hG hp hl;simp only[OpGoal];go_simp;exact⟨_,rfl,Ext.refl _,rfl⟩
        ·intro f wz hG hp hl;have hE:Ext wq wz:=hG;have q88:=tE hp 0 1 rfl rfl rfl;have hcell:=(BPj.ext hE).cell 3;simp only[OpGoal];go_simp;exact⟨_,rfl,Ext.refl _,rfl⟩
        ·intro f wz hG hp hl;simp only[OpGoal];go_simp;exact⟨_,rfl,Ext.refl _,rfl⟩
        ·intro f wz hG hp hl;have q89:=tE hp 0 2 rfl rfl rfl;have q90:=tE hp 1 3 rfl rfl rfl;simp only[OpGoal];go_simp;exact⟨_,rfl,Ext.refl _,rfl⟩
        ·intro f wz hG hp hl;have q91:=tE hp 0 4 rfl rfl rfl;simp only[OpGoal];go_simp;exact⟨_,rfl,Ext.refl _,rfl⟩
        ·intro f wz hG hp hl;have hE:Ext wq wz:=hG;have q92:=tE hp 0 5 rfl rfl rfl;change OpGoal _ _ _ f wz Ext _;obtain⟨-, -, -, -,x4,x5,x6, -⟩:=HCL.out _ (e1.trans (hE0.trans hE));exact og_loadAt (P:=Tryz.prog) _ _ g (off+i*13+4) _ _ rfl rfl q92 (rat_cells x4 x5 x6) Tryz.underlying41 rfl (by kernel_rfl) rfl
        ·intro f wz hG hp hl;simp only[OpGoal];go_simp;exact⟨_,rfl,Ext.refl _,rfl⟩
        ·intro f wz hG hp hl;have hE:Ext wq wz:=hG;have q94:=tE hp 0 7 rfl rfl rfl;have hcell:=(BPj.ext hE).cell 3;simp only[OpGoal];go_simp;exact⟨_,rfl,Ext.refl _,rfl⟩
        ·intro f wz hG hp hl;simp only[OpGoal];go_simp;exact⟨_,rfl,Ext.refl _,rfl⟩
        ·intro f wz hG hp hl;have q95:=tE hp 0 8 rfl rfl rfl;have q96:=tE hp 1 9 rfl rfl rfl;simp only[OpGoal];go_simp;exact⟨_,rfl,Ext.refl _,rfl⟩
        ·intro f wz hG hp hl;have q97:=tE hp 0 10 rfl rfl rfl;simp only[OpGoal];go_simp;exact⟨_,rfl,Ext.refl _,rfl⟩
        ·intro f wz hG hp hl;have hE:Ext wq wz:=hG;have q98:=tE hp 0 11 rfl rfl rfl;change OpGoal _ _ _ f wz Ext _;obtain⟨-, -, -, -, -, -, -,x7,x8,x9, -⟩:=HCL.out _ (e1.trans (hE0.trans hE));exact og_loadAt (P:=Tryz.prog) _ _ g (off+i*13+7) _ _ rfl rfl q98 (rat_cells x7 x8 x9) Tryz.underlying41 rfl (by kernel_rfl) rfl
        ·intro f wz hG hp hl;simp only[OpGoal];go_simp;exact⟨_,rfl,Ext.refl _,rfl⟩
        ·intro f wz hG hp hl;have hE:Ext wq wz:=hG;have q100:=tE hp 0 13 rfl rfl rfl;have hcell:=(BPj.ext hE).cell 3;simp only[OpGoal];go_simp;exact⟨_,rfl,Ext.refl _,rfl⟩
        ·intro f wz hG hp hl;simp only[OpGoal];go_simp;exact⟨_,rfl,Ext.refl _,rfl⟩
        ·intro f wz hG hp hl;have q101:=tE hp 0 14 rfl rfl rfl;have q102:=tE hp 1 15 rfl rfl rfl;simp only[OpGoal];go_simp;exact⟨_,rfl,Ext.refl _,rfl⟩
        ·intro f wz hG hp hl;have q103:=tE hp 0 16 rfl rfl rfl;simp only[OpGoal];go_simp;exact⟨_,rfl,Ext.refl _,rfl⟩
        ·intro f wz hG hp hl;have hE:Ext wq wz:=hG;have q104:=tE hp 0 17 rfl rfl rfl;change OpGoal _ _ _ f wz Ext _;obtain⟨-, -, -, -, -, -, -, -, -, -,x10,x11,x12⟩:=HCL.out _ (e1.trans (hE0.trans hE));exact og_loadAt (P:=Tryz.prog) _ _ g (off+i*13+10) _ _ rfl rfl q104 (rat_cells x10 x11 x12) Tryz.underlying41 rfl (by kernel_rfl) rfl
        ·intro f wz hG hp hl;have hE:Ext wq wz:=hG;have hS:=hE.size;have q93:=tE hp 0 6 rfl rfl rfl;have q99:=tE hp 1 12 rfl rfl rfl;have q105:=tE hp 2 18 rfl rfl rfl;change OpGoal _ _ _ f wz Ext _;exact og_buildSlice (P:=Tryz.prog) 49 41 3 3 _ [qv l,qv h,qv c] rfl rfl Tryz.underlying49 (by kernel_rfl) (by kernel_rfl) (by simp only[Act.eval];exact congr (congr (congrArg (fun y0 y1 y2=> [(0,y0),(1,y1),(2,y2)]) q93) q99) q105) rfl (by omega) (by omega) (by omega) (qcN [l,h,c]).size (fun w' he hb=>⟨_,hS,rfl,hb⟩)
        ·intro f wz hG hp hl;have hE:Ext wq wz:=hG;have q106:=tellV hp 0 19 rfl rfl (fun _=>hE);change OpGoal _ _ _ f wz Ext _;refine oC #[f 19] Tryz.func74 rfl rfl ?_;obtain⟨gq, -,hvq,hbq⟩:=q106;rw[hvq];have hsl:=slq_three hbq (HL.out.ext (e1.trans (hE0.trans hE))) (HH.out.ext (e1.trans (hE0.trans hE))) (HC.out.ext (e1.trans (hE0.trans hE)));refine(weight_calls _ [y.2.2.1,y.2.2.2.1,y.2.2.2.2] _ hsl (by simp) HW2.out).mono ?_;rintro e w' ⟨rfl,h2⟩
         exact⟨_,rfl,h2,by rw[HQ.out]<;>rfl⟩
        ·intro f wz hG hp hl;have q87:=tE hp 0 0 rfl rfl rfl;have q107:=tE hp 1 20 rfl rfl rfl;simp only[OpGoal];go_simp;exact⟨_,rfl,Ext.refl _,congrArg (Value.int .i64) HT1.out⟩
        ·intro f wz hG hp hl;have q108:=tE hp 0 21 rfl rfl rfl;simp only[OpGoal];go_simp;exact⟨_,rfl,Ext.refl _,rfl⟩
       ·intro f wz hG hp;have hE:Ext wq wz:=ChgS.nil hG
        have q3:f 22= .int .i64 t1:=endV hp 22 (by decide) rfl (fun h=>by cases h)
        try simp only[q3]
        clear hp;have hEz:=hE0.trans hE;go_wp2;go_roundw
        case rel=>exact ⟨i+1,t1,by omega,congrArg (Value.int .i64) (by omega),rfl,HOK,hEz⟩
        case measure=>simp [intOf];omega
  ·have hlt:(i:Int)<(rn:Int):=by omega
   obtain⟨y,hy⟩:∃y,rows[i]? =some y:=⟨_,List.getElem?_eq_getElem (by rw[←Hrn.out];exact hin)⟩;obtain⟨g,off,rfl,l,h,ta,tn,tc,hcell,hL,hHh,hTt⟩:=HAR.out i y hy;have HCL:=Lib.hid hcell;have HL:=Lib.hid hL;have HH:=Lib.hid hHh;have HT:=Lib.hid hTt;have HTK:=Lib.hid (take_next hy);obtain⟨d1,hd1⟩:∃d,d=greatE [y.2.2.1.1,y.2.2.1.2]:=⟨_,rfl⟩;obtain⟨d2,hd2⟩:∃d,d=greatV y.2.2.2:=⟨_,rfl⟩;have HD1:=Lib.hid hd1;have HD2:=Lib.hid hd2;obtain⟨q1,hq1⟩:∃q,q=weightE [y.2.2.1.1,y.2.2.1.2]:=⟨_,rfl⟩;obtain⟨q2,hq2⟩:∃q,q=weightE (y.2.2.2.map Prod.snd):=⟨_,rfl⟩;have HQ:=Lib.hid (And.intro hq1 hq2);obtain⟨t1,ht1⟩:∃t,t=IntKind.i64.wrap (s+(q1:Int)):=⟨_,rfl⟩;obtain⟨t2,ht2⟩:∃t,t=IntKind.i64.wrap (t1+(q2:Int)):=⟨_,rfl⟩;have HT1:=Lib.hid ht1.symm;have HT2:=Lib.hid ht2.symm;have BPj:=bP.ext hE0;clear hcell hL hHh hTt hy hd1 hd2 hq1 hq2 ht1 ht2 hw1;have hp0:=BPj.cell 0;have hp1:=BPj.cell 1;have hp2:=BPj.cell 2;have hp3:=BPj.cell 3;go_wp2_with fail;clear hp0 hp1 hp2 hp3;refine wpQ [PP.val (.pointer (some ⟨w.heap.size,2,none⟩)),PP.val (.slice (some ⟨g,off,none⟩) rn rc),PP.val (.int .i64 (i:Int)),PP.val (.pointer (some ⟨g,off+i*10,none⟩)),PP.val (.pointer (some ⟨g,off+i*10+3,none⟩)),PP.val (qv l),PP.val (.pointer (some ⟨w.heap.size,2,none⟩)),PP.val (.slice (some ⟨g,off,none⟩) rn rc),PP.val (.int .i64 (i:Int)),PP.val (.pointer (some ⟨g,off+i*10,none⟩)),PP.val (.pointer (some ⟨g,off+i*10+6,none⟩)),PP.val (qv h),PP.newQ [qv l,qv h],PP.val (.bool d1),PP.val (.bool d1),PP.whn (!d1) (PP.val (.pointer (some ⟨w.heap.size,2,none⟩))),PP.whn (!d1) (PP.val (.slice (some ⟨g,off,none⟩) rn rc)),PP.whn (!d1) (PP.val (.int .i64 (i:Int))),PP.whn (!d1) (PP.val (.pointer (some ⟨g,off+i*10,none⟩))),PP.whn (!d1) (PP.val (.pointer (some ⟨g,off+i*10+9,none⟩))),PP.whn (!d1) (PP.val (.slice ta tn tc)),PP.whn (!d1) (PP.val (.bool d2)),PP.val (.bool (d1 || d2))] [] [0,1,2,3,4,5,6,7,8,9,10,11,12,13,14,15,16,17,18,19,20,21,22] ?_ ?_
   ·refine⟨?_,?_,?_,?_,?_,?_,?_,?_,?_,?_,?_,?_,?_,?_,?_,?_,?_,?_,?_,?_,?_,?_,?_,trivial⟩
    ·intro f wz hG hp hl;simp only[OpGoal];go_simp;exact⟨_,rfl,Ext.refl _,rfl⟩
    ·intro f wz hG hp hl;have hE:Ext wr wz:=hG;have q13:=tE hp 0 0 rfl rfl rfl;have hcell:=(BPj.ext hE).cell 2;simp only[OpGoal];go_simp;exact⟨_,rfl,Ext.refl _,rfl⟩
    ·intro f wz hG hp hl;simp only[OpGoal];go_simp;exact⟨_,rfl,Ext.refl _,rfl⟩
    ·intro f wz hG hp hl;have q14:=tE hp 0 1 rfl rfl rfl;have q15:=tE hp 1 2 rfl rfl rfl;simp only[OpGoal];go_simp;exact⟨_,rfl,Ext.refl _,rfl⟩
    ·intro f wz hG hp hl;have q16:=tE hp 0 3 rfl rfl rfl;simp only[OpGoal];go_simp;exact⟨_,rfl,Ext.refl _,rfl⟩
    ·intro f wz hG hp hl;have hE:Ext wr wz:=hG;have q17:=tE hp 0 4 rfl rfl rfl;change OpGoal _ _ _ f wz Ext _;obtain⟨-, -, -,x3,x4,x5, -⟩:=HCL.out _ (e1.trans (hE0.trans hE));exact og_loadAt (P:=Tryz.prog) _ _ g (off+i*10+3) _ _ rfl rfl q17 (rat_cells x3 x4 x5) Tryz.underlying41 rfl (by kernel_rfl) rfl
    ·intro f wz hG hp hl;simp only[OpGoal];go_simp;exact⟨_,rfl,Ext.refl _,rfl⟩
    ·intro f wz hG hp hl;have hE:Ext wr wz:=hG;have q19:=tE hp 0 6 rfl rfl rfl;have hcell:=(BPj.ext hE).cell 2;simp only[OpGoal];go_simp;exact⟨_,rfl,Ext.refl _,rfl⟩
    ·intro f wz hG hp hl;simp only[OpGoal];go_simp;exact⟨_,rfl,Ext.refl _,rfl⟩
    ·intro f wz hG hp hl;have q20:=tE hp 0 7 rfl rfl rfl;have q21:=tE hp 1 8 rfl rfl rfl;simp only[OpGoal];go_simp;exact⟨_,rfl,Ext.refl _,rfl⟩
    ·intro f wz hG hp hl;have q22:=tE hp 0 9 rfl rfl rfl;simp only[OpGoal];go_simp;exact⟨_,rfl,Ext.refl _,rfl⟩
    ·intro f wz hG hp hl;have hE:Ext wr wz:=hG;have q23:=tE hp 0 10 rfl rfl rfl;change OpGoal _ _ _ f wz Ext _;obtain⟨-, -, -, -, -, -,x6,x7,x8, -⟩:=HCL.out _ (e1.trans (hE0.trans hE));exact og_loadAt (P:=Tryz.prog) _ _ g (off+i*10+6) _ _ rfl rfl q23 (rat_cells x6 x7 x8) Tryz.underlying41 rfl (by kernel_rfl) rfl
    ·intro f wz hG hp hl;have hE:Ext wr wz:=hG;have hS:=hE.size;have q18:=tE hp 0 5 rfl rfl rfl;have q24:=tE hp 1 11 rfl rfl rfl;change OpGoal _ _ _ f wz Ext _;exact og_buildSlice (P:=Tryz.prog) 49 41 2 3 _ [qv l,qv h] rfl rfl Tryz.underlying49 (by kernel_rfl) (by kernel_rfl) (by simp only[Act.eval];exact congr (congrArg (fun y0 y1=> [(0,y0),(1,y1)]) q18) q24) rfl (by omega) (by omega) (by omega) (qcN [l,h]).size (fun w' he hb=>⟨_,hS,rfl,hb⟩)
    ·intro f wz hG hp hl;have hE:Ext wr wz:=hG;have q25:=tellV hp 0 12 rfl rfl (fun _=>hE);change OpGoal _ _ _ f wz Ext _;refine oC #[f 12] Tryz.func28 rfl rfl ?_;obtain⟨gq, -,hvq,hbq⟩:=q25;rw[hvq];have hsl:=slq_two hbq (HL.out.ext (e1.trans (hE0.trans hE))) (HH.out.ext (e1.trans (hE0.trans hE)));refine(greatAll_calls _ [y.2.2.1.1,y.2.2.1.2] _ hsl).mono ?_;rintro e w' ⟨rfl,h2⟩
     exact⟨_,rfl,h2,by rw[HD1.out]<;>rfl⟩
    ·intro f wz hG hp hl;have q26:=tE hp 0 13 rfl rfl rfl;exact⟨_,rfl,Ext.refl _,q26⟩
    ·intro f wz hG hp hl;have qg:=tellV hp 0 14 rfl rfl (fun h=>by cases h);refine og_when (p:=(PP.val (.pointer (some ⟨w.heap.size,2,none⟩)):PP _).p) rfl (when_f qg) ?_;intro hg0;clear qg;simp only[OpGoal];go_simp;exact⟨_,rfl,Ext.refl _,rfl⟩
    ·intro f wz hG hp hl;have hE:Ext wr wz:=hG;have qg:=tellV hp 1 14 rfl rfl (fun h=>by cases h);refine og_when (p:=(PP.val (.slice (some ⟨g,off,none⟩) rn rc):PP _).p) rfl (when_f qg) ?_;intro hg0;clear qg
     have q28:f 15= .pointer (some ⟨w.heap.size,2,none⟩):=(tellV hp 0 15 rfl rfl (fun h=>by cases h)).1 hg0
     have hcell:=(BPj.ext hE).cell 2;simp only[OpGoal];go_simp;exact⟨_,rfl,Ext.refl _,rfl⟩
    ·intro f wz hG hp hl;have qg:=tellV hp 0 14 rfl rfl (fun h=>by cases h);refine og_when (p:=(PP.val (.int .i64 (i:Int)):PP _).p) rfl (when_f qg) ?_;intro hg0;clear qg;simp only[OpGoal];go_simp;exact⟨_,rfl,Ext.refl _,rfl⟩
    ·intro f wz hG hp hl;have qg:=tellV hp 2 14 rfl rfl (fun h=>by cases h);refine og_when (p:=(PP.val (.pointer (some ⟨g,off+i*10,none⟩)):PP _).p) rfl (when_f qg) ?_;intro hg0;clear qg
     have q29:f 16= .slice (some ⟨g,off,none⟩) rn rc:=(tellV hp 0 16 rfl rfl (fun h=>by cases h)).1 hg0
     have q30:f 17= .int .i64 (i:Int):=(tellV hp 1 17 rfl rfl (fun h=>by cases h)).1 hg0
     simp only[OpGoal];go_simp;exact⟨_,rfl,Ext.refl _,rfl⟩
    ·intro f wz hG hp hl;have qg:=tellV hp 1 14 rfl rfl (fun h=>by cases h);refine og_when (p:=(PP.val (.pointer (some ⟨g,off+i*10+9,none⟩)):PP _).p) rfl (when_f qg) ?_;intro hg0;clear qg
     have q31:f 18= .pointer (some ⟨g,off+i*10,none⟩):=(tellV hp 0 18 rfl rfl (fun h=>by cases h)).1 hg0
     simp only[OpGoal];go_simp;exact⟨_,rfl,Ext.refl _,rfl⟩
    ·intro f wz hG hp hl;have hE:Ext wr wz:=hG;have qg:=tellV hp 1 14 rfl rfl (fun h=>by cases h);refine og_when (p:=(PP.val (.slice ta tn tc):PP _).p) rfl (when_f qg) ?_;intro hg0;clear qg
     have q32:f 19= .pointer (some ⟨g,off+i*10+9,none⟩):=(tellV hp 0 19 rfl rfl (fun h=>by cases h)).1 hg0
     have hcell:=(HCL.out _ (e1.trans (hE0.trans hE))).2.2.2.2.2.2.2.2.2;simp only[OpGoal];go_simp;exact⟨_,rfl,Ext.refl _,rfl⟩
    ·intro f wz hG hp hl;have hE:Ext wr wz:=hG;have qg:=tellV hp 1 14 rfl rfl (fun h=>by cases h);refine og_when (p:=(PP.val (.bool d2):PP _).p) rfl (when_f qg) ?_;intro hg0;clear qg
     have q33:f 20= .slice ta tn tc:=(tellV hp 0 20 rfl rfl (fun h=>by cases h)).1 hg0
     change OpGoal _ _ _ f wz Ext _;refine oC #[f 20] Tryz.func73 rfl rfl ?_;rw[q33];refine(great_calls _ y.2.2.2 _ (HT.out.ext (e1.trans (hE0.trans hE)))).mono ?_;rintro e w' ⟨rfl,h2⟩
     exact⟨_,rfl,h2,by rw[HD2.out]<;>rfl⟩
    ·intro f wz hG hp hl;have q27:=tE hp 0 14 rfl rfl rfl;have q34:=tellV hp 1 21 rfl rfl (fun h=>by cases h);change OpGoal _ _ _ f wz Ext _;exact og_pickO (P:=Tryz.prog) _ _ rfl rfl q27 (fun h=>q34.1 (by rw[h];rfl)) rfl
   ·intro f wq hG hp;have hE:Ext wr wq:=ChgS.nil hG
    have q35:f 22= .bool (d1 || d2):=endV hp 22 (by decide) rfl (fun h=>by cases h)
    try simp only[q35]
    clear hp;have hEq:=hE0.trans hE;obtain⟨g0,hg0⟩:∃g,g=(d1 || d2):=⟨_,rfl⟩;rw[←hg0];have HG:=Lib.hid hg0;clear hg0
    cases g0 with
    |true=>
     go_wp2;go_ret;exact GrP.mk true rfl (fun h=>(by cases h)) (e1.trans hEq)
    |false=>
     have hd:=Bool.or_eq_false_iff.1 HG.out.symm;have HW2:=Lib.hid (greatE_not (HD1.out.symm.trans hd.1)).2;have hgv:=greatE_not (l:=y.2.2.2.map Prod.snd) (HD2.out.symm.trans hd.2);have HO:Hid (okRw y):=Lib.hid ⟨HW2.out _ (by simp),HW2.out _ (by simp),by have:=hgv.1;rwa [List.length_map]at this,fun e he=>hgv.2 e.2 (List.mem_map_of_mem he)⟩
     have HOK:Hid (∀r∈rows.take (i+1),okRw r):=Lib.hid fun r hr=>by
      rw[HTK.out]at hr
      rcases List.mem_append.1 hr with hr |hr
      ·exact hH.out r hr
      ·rw[List.mem_singleton]at hr;subst hr;exact HO.out
     clear hH hd hgv;clear hE0;have hE0:=hEq;have BPj:=bP.ext hE0;clear hE hEq;have hp0:=BPj.cell 0;have hp1:=BPj.cell 1;have hp2:=BPj.cell 2;have hp3:=BPj.cell 3;go_wp2_with fail;clear hp0 hp1 hp2 hp3;refine wpQ [PP.val (.int .i64 s),PP.val (.pointer (some ⟨w.heap.size,2,none⟩)),PP.val (.slice (some ⟨g,off,none⟩) rn rc),PP.val (.int .i64 (i:Int)),PP.val (.pointer (some ⟨g,off+i*10,none⟩)),PP.val (.pointer (some ⟨g,off+i*10+3,none⟩)),PP.val (qv l),PP.val (.pointer (some ⟨w.heap.size,2,none⟩)),PP.val (.slice (some ⟨g,off,none⟩) rn rc),PP.val (.int .i64 (i:Int)),PP.val (.pointer (some ⟨g,off+i*10,none⟩)),PP.val (.pointer (some ⟨g,off+i*10+6,none⟩)),PP.val (qv h),PP.newQ [qv l,qv h],PP.val (.int .i64 (q1:Int)),PP.val (.int .i64 t1),PP.val (.pointer (some ⟨w.heap.size,2,none⟩)),PP.val (.slice (some ⟨g,off,none⟩) rn rc),PP.val (.int .i64 (i:Int)),PP.val (.pointer (some ⟨g,off+i*10,none⟩)),PP.val (.pointer (some ⟨g,off+i*10+9,none⟩)),PP.val (.slice ta tn tc),PP.val (.int .i64 (q2:Int)),PP.val (.int .i64 t2),PP.val (.int .i64 t2)] [(0,24,3)] [0,1,2,3,4,5,6,7,8,9,10,11,12,13,14,15,16,17,18,19,20,21,22,23,24] ?_ ?_
     ·refine⟨?_,?_,?_,?_,?_,?_,?_,?_,?_,?_,?_,?_,?_,?_,?_,?_,?_,?_,?_,?_,?_,?_,?_,?_,?_,trivial⟩
      ·intro f wz hG hp hl
       have l3:f 24= .int .i64 s:=hl.1 rfl
       simp only[OpGoal];go_simp;exact⟨_,rfl,Ext.refl _,rfl⟩
      ·intro f wz hG hp hl;simp only[OpGoal];go_simp;exact⟨_,rfl,Ext.refl _,rfl⟩
      ·intro f wz hG hp hl;have hE:Ext wq wz:=hG;have q37:=tE hp 0 1 rfl rfl rfl;have hcell:=(BPj.ext hE).cell 2;simp only[OpGoal];go_simp;exact⟨_,rfl,Ext.refl _,rfl⟩
      ·intro f wz hG hp hl;simp only[OpGoal];go_simp;exact⟨_,rfl,Ext.refl _,rfl⟩
      ·intro f wz hG hp hl;have q38:=tE hp 0 2 rfl rfl rfl;have q39:=tE hp 1 3 rfl rfl rfl;simp only[OpGoal];go_simp;exact⟨_,rfl,Ext.refl _,rfl⟩
      ·intro f wz hG hp hl;have q40:=tE hp 0 4 rfl rfl rfl;simp only[OpGoal];go_simp;exact⟨_,rfl,Ext.refl _,rfl⟩
      ·intro f wz hG hp hl;have hE:Ext wq wz:=hG;have q41:=tE hp 0 5 rfl rfl rfl;change OpGoal _ _ _ f wz Ext _;obtain⟨-, -, -,x3,x4,x5, -⟩:=HCL.out _ (e1.trans (hE0.trans hE));exact og_loadAt (P:=Tryz.prog) _ _ g (off+i*10+3) _ _ rfl rfl q41 (rat_cells x3 x4 x5) Tryz.underlying41 rfl (by kernel_rfl) rfl
      ·intro f wz hG hp hl;simp only[OpGoal];go_simp;exact⟨_,rfl,Ext.refl _,rfl⟩
      ·intro f wz hG hp hl;have hE:Ext wq wz:=hG;have q43:=tE hp 0 7 rfl rfl rfl;have hcell:=(BPj.ext hE).cell 2;simp only[OpGoal];go_simp;exact⟨_,rfl,Ext.refl _,rfl⟩
      ·intro f wz hG hp hl;simp only[OpGoal];go_simp;exact⟨_,rfl,Ext.refl _,rfl⟩
      ·intro f wz hG hp hl;have q44:=tE hp 0 8 rfl rfl rfl;have q45:=tE hp 1 9 rfl rfl rfl;simp only[OpGoal];go_simp;exact⟨_,rfl,Ext.refl _,rfl⟩
      ·intro f wz hG hp hl;have q46:=tE hp 0 10 rfl rfl rfl;simp only[OpGoal];go_simp;exact⟨_,rfl,Ext.refl _,rfl⟩
      ·intro f wz hG hp hl;have hE:Ext wq wz:=hG;have q47:=tE hp 0 11 rfl rfl rfl;change OpGoal _ _ _ f wz Ext _;obtain⟨-, -, -, -, -, -,x6,x7,x8, -⟩:=HCL.out _ (e1.trans (hE0.trans hE));exact og_loadAt (P:=Tryz.prog) _ _ g (off+i*10+6) _ _ rfl rfl q47 (rat_cells x6 x7 x8) Tryz.underlying41 rfl (by kernel_rfl) rfl
      ·intro f wz hG hp hl;have hE:Ext wq wz:=hG;have hS:=hE.size;have q42:=tE hp 0 6 rfl rfl rfl;have q48:=tE hp 1 12 rfl rfl rfl;change OpGoal _ _ _ f wz Ext _;exact og_buildSlice (P:=Tryz.prog) 49 41 2 3 _ [qv l,qv h] rfl rfl Tryz.underlying49 (by kernel_rfl) (by kernel_rfl) (by simp only[Act.eval];exact congr (congrArg (fun y0 y1=> [(0,y0),(1,y1)]) q42) q48) rfl (by omega) (by omega) (by omega) (qcN [l,h]).size (fun w' he hb=>⟨_,hS,rfl,hb⟩)
      ·intro f wz hG hp hl;have hE:Ext wq wz:=hG;have q49:=tellV hp 0 13 rfl rfl (fun _=>hE);change OpGoal _ _ _ f wz Ext _;refine oC #[f 13] Tryz.func74 rfl rfl ?_;obtain⟨gq, -,hvq,hbq⟩:=q49;rw[hvq];have hsl:=slq_two hbq (HL.out.ext (e1.trans (hE0.trans hE))) (HH.out.ext (e1.trans (hE0.trans hE)));refine(weight_calls _ [y.2.2.1.1,y.2.2.1.2] _ hsl (by simp) HW2.out).mono ?_;rintro e w' ⟨rfl,h2⟩
       exact⟨_,rfl,h2,by rw[HQ.out.1]<;>rfl⟩
      ·intro f wz hG hp hl;have q36:=tE hp 0 0 rfl rfl rfl;have q50:=tE hp 1 14 rfl rfl rfl;simp only[OpGoal];go_simp;exact⟨_,rfl,Ext.refl _,congrArg (Value.int .i64) HT1.out⟩
      ·intro f wz hG hp hl;simp only[OpGoal];go_simp;exact⟨_,rfl,Ext.refl _,rfl⟩
      ·intro f wz hG hp hl;have hE:Ext wq wz:=hG;have q52:=tE hp 0 16 rfl rfl rfl;have hcell:=(BPj.ext hE).cell 2;simp only[OpGoal];go_simp;exact⟨_,rfl,Ext.refl _,rfl⟩
      ·intro f wz hG hp hl;simp only[OpGoal];go_simp;exact⟨_,rfl,Ext.refl _,rfl⟩
      ·intro f wz hG hp hl;have q53:=tE hp 0 17 rfl rfl rfl;have q54:=tE hp 1 18 rfl rfl rfl;simp only[OpGoal];go_simp;exact⟨_,rfl,Ext.refl _,rfl⟩
      ·intro f wz hG hp hl;have q55:=tE hp 0 19 rfl rfl rfl;simp only[OpGoal];go_simp;exact⟨_,rfl,Ext.refl _,rfl⟩
      ·intro f wz hG hp hl;have hE:Ext wq wz:=hG;have q56:=tE hp 0 20 rfl rfl rfl;have hcell:=(HCL.out _ (e1.trans (hE0.trans hE))).2.2.2.2.2.2.2.2.2;simp only[OpGoal];go_simp;exact⟨_,rfl,Ext.refl _,rfl⟩
      ·intro f wz hG hp hl;have hE:Ext wq wz:=hG;have q57:=tE hp 0 21 rfl rfl rfl;change OpGoal _ _ _ f wz Ext _;refine oC #[f 21] Tryz.func75 rfl rfl ?_;rw[q57];refine(weights_calls _ y.2.2.2 _ (HT.out.ext (e1.trans (hE0.trans hE))) HO.out.2.2.1 HO.out.2.2.2).mono ?_;rintro e w' ⟨rfl,h2⟩
       exact⟨_,rfl,h2,by rw[HQ.out.2]<;>rfl⟩
      ·intro f wz hG hp hl;have q51:=tE hp 0 15 rfl rfl rfl;have q58:=tE hp 1 22 rfl rfl rfl;simp only[OpGoal];go_simp;exact⟨_,rfl,Ext.refl _,congrArg (Value.int .i64) HT2.out⟩
      ·intro f wz hG hp hl;have q59:=tE hp 0 23 rfl rfl rfl;simp only[OpGoal];go_simp;exact⟨_,rfl,Ext.refl _,rfl⟩
     ·intro f wz hG hp;have hE:Ext wq wz:=ChgS.nil hG
      have q3:f 24= .int .i64 t2:=endV hp 24 (by decide) rfl (fun h=>by cases h)
      try simp only[q3]
      clear hp;have hEz:=hE0.trans hE;go_wp2;go_roundw
      case rel=>exact ⟨i+1,t2,by omega,congrArg (Value.int .i64) (by omega),rfl,HOK,hEz⟩
      case measure=>simp [intOf];omega
set_option maxHeartbeats 4000000 in
theorem wholem_calls(n:Int)(w:World)(h0: -9223372036854775808≤n)(h1:n≤9223372036854775807):
  Calls Tryz.prog 71 #[.int .i64 n] w fun e w'=>∃v',e= .returned v'∧FrQ w.heap.size w' v' (n:Rat)∧Ext w w':=by
 have sn:=szD_int n;have tn:=szT_small (z:=n) (by omega)
 go_enter Tryz.func71,Tryz.ntmps71
 obtain⟨w1,hw1,e1,b1,s1⟩:=alloc1 w #[.bool false,.slice none 0 0,.slice none 0 0] 41;go_wp2_with fail;rw[←hw1];refine(rqsmall3_calls n _ h0 h1).mono ?_;rintro e w2 ⟨v2,rfl,q2,e2⟩;go_wp2_with fail;refine(rqto3_calls _ (n:Rat) _ q2.cq (by omega)).mono ?_;rintro e w5 ⟨v5,rfl,q5,e5⟩;obtain⟨s',t',rfl,hn,hm⟩:=q5;obtain⟨ad5,cap5,rfl⟩:=hn.slice;obtain⟨ad6,cap6,rfl⟩:=hm.slice;have Hn5:=Lib.hid hn;have Hm5:=Lib.hid hm;have E25:=e2.trans e5;have hsz:=e2.size;clear hn hm;have hb:=b1.ext E25;have hc0:=hb.cell 0;have hc1:=hb.cell 1;have hc2:=hb.cell 2;have hf0:=hb.free 0;have hf1:=hb.free 1;have hf2:=hb.free 2;go_wp2;refine ret_box 2 41 w.heap.size 41 _ _ (by kernel_rfl) rfl (((hb.set 0 _).set 1 _).set 2 _) Tryz.underlying41 rfl (by kernel_rfl) rfl ?_;exact⟨_,rfl,⟨_,_,rfl,(Hn5.out.chg (Chg.trans (Chg.trans (Chg.setCell _ w.heap.size 0 _) (Chg.setCell _ w.heap.size 1 _)) (Chg.setCell _ w.heap.size 2 _)) (by omega)).mono (by omega),(Hm5.out.chg (Chg.trans (Chg.trans (Chg.setCell _ w.heap.size 0 _) (Chg.setCell _ w.heap.size 1 _)) (Chg.setCell _ w.heap.size 2 _)) (by omega)).mono (by omega)⟩,(e1.trans E25).step (Chg.trans (Chg.trans (Chg.setCell _ w.heap.size 0 _) (Chg.setCell _ w.heap.size 1 _)) (Chg.setCell _ w.heap.size 2 _)) (by omega)⟩
def exP:PbR:=([((false,true,((0:Int):Rat),((3:Int):Rat)),[((0:Int),((2:Int):Rat))])],[(false,(true,true,((0:Int):Rat),((4:Int):Rat)),(((-1:Int)):Rat))])
theorem exP_len:(conP exP).length=3:=by decide+kernel
theorem exP_0:(conP exP)[0]?.map Prod.fst=some 1:=by decide+kernel
theorem exP_1:(conP exP)[1]?.map Prod.fst=some 2:=by decide+kernel
theorem exP_o:(objP exP).length=1:=by decide+kernel
theorem exP_h1:holdsP exP [((1:Int):Rat)]=true:=by decide+kernel
theorem exP_h2:holdsP exP [((2:Int):Rat)]=false:=by decide+kernel
theorem exP_c:costP exP [((1:Int):Rat)]=(((-1:Int)):Rat):=by decide+kernel
theorem exP_f:finP exP=true:=by decide+kernel
theorem exP_sz:szQ ((0:Int):Rat)≤1∧szQ ((1:Int):Rat)≤1∧szQ ((2:Int):Rat)≤1∧szQ ((3:Int):Rat)≤1∧szQ ((4:Int):Rat)≤1∧szQ (((-1:Int)):Rat)≤1:=by decide+kernel
theorem CoL.cl{B K:Nat}{w:World}{v:Value}{cs:List CR}(h:CoL B K w v cs)(hK:K≤LIM):CL K w v cs:=(OL.sl h (by omega)).map fun u y h=>h.cnR hK
theorem rwl_one{k g:Nat}{w:World}{nm:ByteArray}{l h:QC}{ta:Option Addr}{tn tc:Nat}{r:RwR}(hb:Bx 97 w g #[.string nm,.bool r.1.1,.bool r.1.2.1,.bool l.b,.slice l.a1 l.n1 l.c1,.slice l.a2 l.n2 l.c2,.bool h.b,.slice h.a1 h.n1 h.c1,.slice h.a2 h.n2 h.c2,.slice ta tn tc])(hs:SpV k w l h r.1)(ht:TL k w (.slice ta tn tc) r.2):RwL k w (.slice (some ⟨g,0,none⟩) 1 1) [r]:=by
 refine⟨some ⟨g,0,none⟩,1,rfl,Nat.le_refl _,by omega,.inr ⟨g,0,rfl,fun i x hx=> ?_⟩⟩
 have hi:i=0:=by
  have:=(List.getElem?_eq_some_iff.1 hx).1
  simp at this
  exact this
 subst hi;simp only[List.getElem?_cons_zero,Option.some.injEq]at hx;subst hx;exact⟨_,rfl,fun j v hj=>by rw[show 0+0*10+j=j by omega,hb.cell];exact hj,nm,l,h,ta,tn,tc,rfl,hs,ht⟩
theorem vrl_one{k g:Nat}{w:World}{nm:ByteArray}{l h c:QC}{r:VrR}(hb:Bx 43 w g #[.string nm,.bool r.1,.bool r.2.1.1,.bool r.2.1.2.1,.bool l.b,.slice l.a1 l.n1 l.c1,.slice l.a2 l.n2 l.c2,.bool h.b,.slice h.a1 h.n1 h.c1,.slice h.a2 h.n2 h.c2,.bool c.b,.slice c.a1 c.n1 c.c1,.slice c.a2 c.n2 c.c2])(hs:SpV k w l h r.2.1)(hc:IsR w (.agg #[.bool c.b,.slice c.a1 c.n1 c.c1,.slice c.a2 c.n2 c.c2]) r.2.2 k):VrL k w (.slice (some ⟨g,0,none⟩) 1 1) [r]:=by
 refine⟨some ⟨g,0,none⟩,1,rfl,Nat.le_refl _,by omega,.inr ⟨g,0,rfl,fun i x hx=> ?_⟩⟩
 have hi:i=0:=by
  have:=(List.getElem?_eq_some_iff.1 hx).1
  simp at this
  exact this
 subst hi;simp only[List.getElem?_cons_zero,Option.some.injEq]at hx;subst hx;exact⟨_,rfl,fun j v hj=>by rw[show 0+0*13+j=j by omega,hb.cell];exact hj,nm,l,h,c,rfl,hs,hc⟩
theorem ql_oneF{k g B:Nat}{w:World}{b:Bool}{a1:Option Addr}{n1 c1:Nat}{a2:Option Addr}{n2 c2:Nat}{q:Rat}(hb:Bx 41 w g #[.bool b,.slice a1 n1 c1,.slice a2 n2 c2])(hq:FrQ B w (.agg #[.bool b,.slice a1 n1 c1,.slice a2 n2 c2]) q)(hs:szQ q≤k)(hk:k≤LIM):QL k w (.slice (some ⟨g,0,none⟩) 1 1) [q]:=by
 refine⟨some ⟨g,0,none⟩,1,rfl,Nat.le_refl _,by omega,.inr ⟨g,0,rfl,fun i x hx=> ?_⟩⟩
 have hi:i=0:=by
  have:=(List.getElem?_eq_some_iff.1 hx).1
  simp at this
  exact this
 subst hi;simp only[List.getElem?_cons_zero,Option.some.injEq]at hx;subst hx;exact⟨_,rfl,fun j v hj=>by rw[show 0+0*3+j=j by omega,hb.cell];exact hj,hq.isR hs hk⟩
def PP.qlx{S:Nat}(k:Nat)(l:List Rat):PP S:=⟨true,fun u w=>QL k w u l,fun _ _ _ h hp=>QL.ext hp h,fun h=>by cases h⟩
def PP.len1{S:Nat}:PP S:=⟨false,fun u w=>∃ad cap,u= .slice ad 1 cap,fun _ _ _ _ hp=>hp,fun _ _ _ _ _ _ _ hp=>hp⟩
set_option maxHeartbeats 4000000 in
theorem speaksm_calls(w:World):Calls Tryz.prog 15 #[] w fun e w'=>e= .returned (.bool true)∧Ext w w':=by
 obtain⟨z0,z1,z2,z3,z4,zm⟩:=exP_sz
 have lim:(68719476736:Nat)≤LIM:=by rw[LIM_eq];omega
 have hN1:∀r∈exP.1,r.2.length≤1:=by decide
 go_enter Tryz.func15,Tryz.ntmps15
 go_wp2_with fail;refine(wholem_calls 0 w (by omega) (by omega)).mono ?_;rintro e w2 ⟨vA,rfl,fA,eA⟩;obtain⟨bA,pA,lA,kA,rA,mA,jA,rfl,qA⟩:=fA.opn;clear fA;go_wp2_with fail;refine(wholem_calls 3 w2 (by omega) (by omega)).mono ?_;rintro e w3 ⟨vB,rfl,fB,eB⟩;obtain⟨bB,pB,lB,kB,rB,mB,jB,rfl,qB⟩:=fB.opn;clear fB;go_wp2_with fail;refine(wholem_calls 2 w3 (by omega) (by omega)).mono ?_;rintro e w4 ⟨vC,rfl,fC,eC⟩;obtain⟨bC,pC,lC,kC,rC,mC,jC,rfl,qC⟩:=fC.opn;clear fC;go_wp2_with fail;obtain⟨w5,hw5,e5,bT,s5⟩:=alloc1 w4 #[.int .i64 0,.bool bC,.slice pC lC kC,.slice rC mC jC] 95;obtain⟨w6,hw6,e6,bR,s6⟩:=alloc1 w5 #[.string ⟨#[114,49]⟩,.bool false,.bool true,.bool bA,.slice pA lA kA,.slice rA mA jA,.bool bB,.slice pB lB kB,.slice rB mB jB,.slice (some ⟨w4.heap.size,0,none⟩) 1 1] 97;rw[←hw5,←hw6];have TT:=Lib.hid ((to_one (B:=0) (k:=1) (Nat.zero_le _) (bT.ext e6) (((qC.ext e5).ext e6).mono (Nat.zero_le _)) z2).tl (by omega));have RA:=Lib.hid (((((qA.ext eB).ext eC).ext e5).ext e6).isR z0 (by omega));have RB:=Lib.hid ((((qB.ext eC).ext e5).ext e6).isR z3 (by omega));have RL:Hid (RwL 1 w6 (.slice (some ⟨w5.heap.size,0,none⟩) 1 1) exP.1):=Lib.hid (rwl_one (l:=(⟨bA,pA,lA,kA,rA,mA,jA⟩:QC)) (h:=(⟨bB,pB,lB,kB,rB,mB,jB⟩:QC)) (r:=((false,true,((0:Int):Rat),((3:Int):Rat)),[((0:Int),((2:Int):Rat))])) bR ⟨RA.out,RB.out⟩ TT.out);have E6:=Lib.hid ((((eA.trans eB).trans eC).trans e5).trans e6)
 have hs5:w5.heap.size=w4.heap.size+1:=s5
 rw[hs5]at RL;obtain⟨gr,hgr⟩:∃g,g=w4.heap.size+1:=⟨_,rfl⟩;rw[←hgr]at RL ⊢;clear hw5 hw6 bT bR qA qB qC eA eB eC e5 e6 TT RA RB s5 s6 hgr hs5;refine(wholem_calls 0 w6 (by omega) (by omega)).mono ?_;rintro e w7 ⟨vD,rfl,fD,eD⟩;obtain⟨bD,pD,lD,kD,rD,mD,jD,rfl,qD⟩:=fD.opn;clear fD;go_wp2_with fail;refine(wholem_calls 4 w7 (by omega) (by omega)).mono ?_;rintro e w8 ⟨vE,rfl,fE,eE⟩;obtain⟨bE,pE,lE,kE,rE,mE,jE,rfl,qE⟩:=fE.opn;clear fE;go_wp2_with fail;refine(wholem_calls (-1) w8 (by omega) (by omega)).mono ?_;rintro e w9 ⟨vG,rfl,fG,eG⟩;obtain⟨bG,pG,lG,kG,rG,mG,jG,rfl,qG⟩:=fG.opn;clear fG;go_wp2_with fail;obtain⟨w10,hw10,e10,bV,s10⟩:=alloc1 w9 #[.string ⟨#[120]⟩,.bool false,.bool true,.bool true,.bool bD,.slice pD lD kD,.slice rD mD jD,.bool bE,.slice pE lE kE,.slice rE mE jE,.bool bG,.slice pG lG kG,.slice rG mG jG] 43;have VL:VrL 1 w10 (.slice (some ⟨w9.heap.size,0,none⟩) 1 1) exP.2:=vrl_one (l:=(⟨bD,pD,lD,kD,rD,mD,jD⟩:QC)) (h:=(⟨bE,pE,lE,kE,rE,mE,jE⟩:QC)) (c:=(⟨bG,pG,lG,kG,rG,mG,jG⟩:QC)) (r:=(false,(true,true,((0:Int):Rat),((4:Int):Rat)),(((-1:Int)):Rat))) bV ⟨(((qD.ext eE).ext eG).ext e10).isR z0 (by omega),((qE.ext eG).ext e10).isR z4 (by omega)⟩ ((qG.ext e10).isR zm (by omega));obtain⟨gv,hgv⟩:∃g,g=w9.heap.size:=⟨_,rfl⟩
 have hs10:w10.heap.size=w9.heap.size+1:=s10
 rw[←hgv]at VL hs10 ⊢;obtain⟨w11,hw11,e11,bP,s11⟩:=alloc1 w10 #[.string ⟨#[]⟩,.string ⟨#[99,111,115,116]⟩,.slice (some ⟨gr,0,none⟩) 1 1,.slice (some ⟨gv,0,none⟩) 1 1] 25;have hP:PbV 1 w11 (.agg #[.string ⟨#[]⟩,.string ⟨#[99,111,115,116]⟩,.slice (some ⟨gr,0,none⟩) 1 1,.slice (some ⟨gv,0,none⟩) 1 1]) exP:=⟨_,_,_,_,_,_,_,_,rfl,((((RL.out.ext eD).ext eE).ext eG).ext e10).ext e11,VL.ext e11⟩;have HP1:=Lib.hid hP;have E11:=Lib.hid (((((E6.out.trans eD).trans eE).trans eG).trans e10).trans e11);rw[←hw10,←hw11];rw[hs10]at bP;obtain⟨gp,hgp⟩:∃g,g=gv+1:=⟨_,rfl⟩;rw[←hgp]at bP ⊢;clear hP VL RL bV qD qE qG eD eE eG e10 e11 hw10 hw11 E6 hgv hgp s10 s11 hs10;refine(mcons_calls 1 4 1 _ exP w11 HP1.out hN1 (by omega) (by omega) (by omega) (by omega) (by omega) (by decide) (by decide)).mono ?_;rintro e w12 ⟨v12,rfl,c12,e12⟩;obtain⟨adc,nc,cc,hnc,rfl, -,hat⟩:=(c12.cl (by omega)).at;rw[exP_len]at hnc;subst hnc;obtain⟨c0,hc0,hs0⟩:=Option.map_eq_some_iff.1 exP_0;obtain⟨c1,hc1,hs1⟩:=Option.map_eq_some_iff.1 exP_1;obtain⟨gc,oc,rfl,_,_,_,_,_,_,_,_,_,_,hl0, -, -⟩:=hat 0 c0 hc0;obtain⟨gc',oc',hgo,_,_,_,_,_,_,_,_,_,_,hl1, -, -⟩:=hat 1 c1 hc1
 cases hgo
 have P12:=bP.ext e12;have hp0:=P12.cell 0;have hp1:=P12.cell 1;have hp2:=P12.cell 2;have hp3:=P12.cell 3
 have HC0a:Hid (∀wz,Ext w12 wz→wz.cell? ⟨gc,oc,none⟩=some (.int .i64 1)):=Lib.hid fun wz hz=>by
  have:=(hl0 wz hz).1
  rw[hs0]at this
  simpa using this
 have HC1a:Hid (∀wz,Ext w12 wz→wz.cell? ⟨gc,oc+5,none⟩=some (.int .i64 2)):=Lib.hid fun wz hz=>by
  have:=(hl1 wz hz).1
  rw[hs1]at this
  simpa using this
 clear hat hl0 hl1 c12 hc0 hc1 hs0 hs1;go_wp2_with fail;refine(mobj_calls 1 _ exP w12 (HP1.out.ext e12) (by decide) (by decide)).mono ?_;rintro e w13 ⟨v13,rfl,t13,e13⟩;obtain⟨ao,co,rfl⟩:=t13.val;rw[exP_o];have E12:=e12.trans e13;have HP:=Lib.hid (HP1.out.ext E12);have BP:=bP.ext E12
 have HC0:Hid (∀wz,Ext w13 wz→wz.cell? ⟨gc,oc,none⟩=some (.int .i64 1)):=Lib.hid fun wz hz=>HC0a.out wz (e13.trans hz)
 have HC1:Hid (∀wz,Ext w13 wz→wz.cell? ⟨gc,oc+5,none⟩=some (.int .i64 2)):=Lib.hid fun wz hz=>HC1a.out wz (e13.trans hz)
 have X13:=Lib.hid (E11.out.trans E12);clear hp0 hp1 hp2 hp3 P12 bP t13 HC0a HC1a HP1 E11 E12 e12 e13;go_wp2_with fail;refine wpQ [PP.val (.agg #[.string ⟨#[]⟩,.string ⟨#[99,111,115,116]⟩,.slice (some ⟨gr,0,none⟩) 1 1,.slice (some ⟨gv,0,none⟩) 1 1]),PP.frQ ((1:Int):Rat),PP.qlx 1 [((1:Int):Rat)],PP.val (.bool true),PP.val (.bool true),PP.val (.agg #[.string ⟨#[]⟩,.string ⟨#[99,111,115,116]⟩,.slice (some ⟨gr,0,none⟩) 1 1,.slice (some ⟨gv,0,none⟩) 1 1]),PP.frQ ((2:Int):Rat),PP.qlx 1 [((2:Int):Rat)],PP.val (.bool false),PP.val (.bool true),PP.val (.bool true),PP.val (.bool true),PP.val (.agg #[.string ⟨#[]⟩,.string ⟨#[99,111,115,116]⟩,.slice (some ⟨gr,0,none⟩) 1 1,.slice (some ⟨gv,0,none⟩) 1 1]),PP.frQ ((1:Int):Rat),PP.qlx 1 [((1:Int):Rat)],PP.frQ (((-1:Int)):Rat),PP.frQ (((-1):Int):Rat),PP.val (.bool true),PP.val (.bool true),PP.val (.bool true),PP.val (.agg #[.string ⟨#[]⟩,.string ⟨#[99,111,115,116]⟩,.slice (some ⟨gr,0,none⟩) 1 1,.slice (some ⟨gv,0,none⟩) 1 1]),PP.val (.bool true),PP.val (.bool true),PP.val (.bool true),PP.val (.slice (some ⟨gc,oc,none⟩) 3 cc),PP.val (.int .i64 3),PP.val (.bool true),PP.val (.bool true),PP.val (.bool true),PP.val (.slice (some ⟨gc,oc,none⟩) 3 cc),PP.val (.pointer (some ⟨gc,oc,none⟩)),PP.val (.pointer (some ⟨gc,oc,none⟩)),PP.val (.int .i64 1),PP.val (.bool true),PP.val (.bool true),PP.val (.bool true),PP.val (.slice (some ⟨gc,oc,none⟩) 3 cc),PP.val (.pointer (some ⟨gc,oc+5,none⟩)),PP.val (.pointer (some ⟨gc,oc+5,none⟩)),PP.val (.int .i64 2),PP.val (.bool true),PP.val (.bool true),PP.val (.bool true),PP.val (.slice ao 1 co),PP.val (.int .i64 1),PP.val (.bool true),PP.val (.bool true),PP.val (.bool true),PP.val (.agg #[.string ⟨#[]⟩,.string ⟨#[99,111,115,116]⟩,.slice (some ⟨gr,0,none⟩) 1 1,.slice (some ⟨gv,0,none⟩) 1 1]),PP.len1,PP.val (.int .i64 1),PP.val (.bool true),PP.val (.bool true),PP.val (.bool true)] [] [0,1,2,3,4,5,6,7,8,9,10,11,12,13,14,15,16,17,18,19,20,21,22,23,24,25,26,27,28,29,30,31,32,33,34,35,36,37,38,39,40,41,42,43,44,45,46,47,48,49,50,51,52,53] ?_ ?_
 ·refine⟨?_,?_,?_,?_,?_,?_,?_,?_,?_,?_,?_,?_,?_,?_,?_,?_,?_,?_,?_,?_,?_,?_,?_,?_,?_,?_,?_,?_,?_,?_,?_,?_,?_,?_,?_,?_,?_,?_,?_,?_,?_,?_,?_,?_,?_,?_,?_,?_,?_,?_,?_,?_,?_,?_,trivial⟩
  ·intro f wz hG hp hl;have hE:Ext w13 wz:=hG;change OpGoal _ _ _ f wz Ext _;exact og_load (P:=Tryz.prog) _ _ gp _ _ _ rfl rfl rfl (BP.ext hE) Tryz.underlying25 rfl (by kernel_rfl) rfl
  ·intro f wz hG hp hl;have hE:Ext w13 wz:=hG;have hS:=hE.size;change OpGoal _ _ _ f wz Ext _;refine oC #[.int .i64 1] Tryz.func71 rfl rfl ?_;refine(wholem_calls 1 _ (by omega) (by omega)).mono ?_;rintro e w' ⟨v',rfl,h1,h2⟩;exact⟨v',rfl,h2,h1.mono hS⟩
  ·intro f wz hG hp hl;have hE:Ext w13 wz:=hG;have hS:=hE.size;have q22:=tellV hp 0 1 rfl rfl (fun _=>hE);obtain⟨b',a1',n1',c1',a2',n2',c2',hv,hq⟩:=FrQ.opn q22;change OpGoal _ _ _ f wz Ext _;exact og_buildSlice (P:=Tryz.prog) 49 41 1 3 _ [.agg #[.bool b',.slice a1' n1' c1',.slice a2' n2' c2']] rfl rfl Tryz.underlying49 (by kernel_rfl) (by kernel_rfl) (by simp only[Act.eval];exact congrArg (fun z=> [(0,z)]) hv) rfl (by omega) (by omega) (by omega) (StrN.one rfl (all3 rfl rfl rfl)).size (fun w' he hb=>ql_oneF hb (hq.ext he) z1 (by omega))
  ·intro f wz hG hp hl;have hE:Ext w13 wz:=hG;have hS:=hE.size;have q21:=tE hp 0 0 rfl rfl rfl;have q23:=tellV hp 1 2 rfl rfl (fun _=>hE);change OpGoal _ _ _ f wz Ext _;refine oC #[f 0,f 2] Tryz.func33 rfl rfl ?_;rw[q21];refine(mholds_calls 1 1 10 1 _ _ exP _ _ (HP.out.ext hE) q23 hN1 (by omega) (by omega) (by omega) (by omega) (by omega)).mono ?_;rintro e w' ⟨rfl,h2⟩
   exact⟨_,rfl,h2,by rw[exP_h1]<;>rfl⟩
  ·intro f wz hG hp hl;have q24:=tE hp 0 3 rfl rfl rfl;simp only[OpGoal];go_simp;exact⟨_,rfl,Ext.refl _,rfl⟩
  ·intro f wz hG hp hl;have hE:Ext w13 wz:=hG;have qg:=tE hp 0 4 rfl rfl rfl;change OpGoal _ _ _ f wz Ext _;refine og_guard (j:=4) (want:=true) rfl qg ?_;change OpGoal _ _ _ f wz Ext _;exact og_load (P:=Tryz.prog) _ _ gp _ _ _ rfl rfl rfl (BP.ext hE) Tryz.underlying25 rfl (by kernel_rfl) rfl
  ·intro f wz hG hp hl;have hE:Ext w13 wz:=hG;have hS:=hE.size;have qg:=tE hp 0 4 rfl rfl rfl;change OpGoal _ _ _ f wz Ext _;refine og_guard (j:=4) (want:=true) rfl qg ?_;change OpGoal _ _ _ f wz Ext _;refine oC #[.int .i64 2] Tryz.func71 rfl rfl ?_;refine(wholem_calls 2 _ (by omega) (by omega)).mono ?_;rintro e w' ⟨v',rfl,h1,h2⟩;exact⟨v',rfl,h2,h1.mono hS⟩
  ·intro f wz hG hp hl;have hE:Ext w13 wz:=hG;have hS:=hE.size;have q27:=tellV hp 0 6 rfl rfl (fun _=>hE);have qg:=tE hp 1 4 rfl rfl rfl;change OpGoal _ _ _ f wz Ext _;refine og_guard (j:=4) (want:=true) rfl qg ?_;obtain⟨b',a1',n1',c1',a2',n2',c2',hv,hq⟩:=FrQ.opn q27;change OpGoal _ _ _ f wz Ext _;exact og_buildSlice (P:=Tryz.prog) 49 41 1 3 _ [.agg #[.bool b',.slice a1' n1' c1',.slice a2' n2' c2']] rfl rfl Tryz.underlying49 (by kernel_rfl) (by kernel_rfl) (by simp only[Act.eval];exact congrArg (fun z=> [(0,z)]) hv) rfl (by omega) (by omega) (by omega) (StrN.one rfl (all3 rfl rfl rfl)).size (fun w' he hb=>ql_oneF hb (hq.ext he) z2 (by omega))
  ·intro f wz hG hp hl;have hE:Ext w13 wz:=hG;have hS:=hE.size;have q26:=tE hp 0 5 rfl rfl rfl;have q28:=tellV hp 1 7 rfl rfl (fun _=>hE);have qg:=tE hp 3 4 rfl rfl rfl;change OpGoal _ _ _ f wz Ext _;refine og_guard (j:=4) (want:=true) rfl qg ?_;change OpGoal _ _ _ f wz Ext _;refine oC #[f 5,f 7] Tryz.func33 rfl rfl ?_;rw[q26];refine(mholds_calls 1 1 10 1 _ _ exP _ _ (HP.out.ext hE) q28 hN1 (by omega) (by omega) (by omega) (by omega) (by omega)).mono ?_;rintro e w' ⟨rfl,h2⟩
   exact⟨_,rfl,h2,by rw[exP_h2]<;>rfl⟩
  ·intro f wz hG hp hl;have q29:=tE hp 0 8 rfl rfl rfl;have qg:=tE hp 1 4 rfl rfl rfl;change OpGoal _ _ _ f wz Ext _;refine og_guard (j:=4) (want:=true) rfl qg ?_;simp only[OpGoal];go_simp;exact⟨_,rfl,Ext.refl _,rfl⟩
  ·intro f wz hG hp hl;have q25:=tE hp 0 4 rfl rfl rfl;have q30:=tE hp 1 9 rfl rfl rfl;simp only[OpGoal];go_simp;exact⟨_,rfl,Ext.refl _,rfl⟩
  ·intro f wz hG hp hl;have q31:=tE hp 0 10 rfl rfl rfl;simp only[OpGoal];go_simp;exact⟨_,rfl,Ext.refl _,rfl⟩
  ·intro f wz hG hp hl;have hE:Ext w13 wz:=hG;have qg:=tE hp 0 11 rfl rfl rfl;change OpGoal _ _ _ f wz Ext _;refine og_guard (j:=11) (want:=true) rfl qg ?_;change OpGoal _ _ _ f wz Ext _;exact og_load (P:=Tryz.prog) _ _ gp _ _ _ rfl rfl rfl (BP.ext hE) Tryz.underlying25 rfl (by kernel_rfl) rfl
  ·intro f wz hG hp hl;have hE:Ext w13 wz:=hG;have hS:=hE.size;have qg:=tE hp 0 11 rfl rfl rfl;change OpGoal _ _ _ f wz Ext _;refine og_guard (j:=11) (want:=true) rfl qg ?_;change OpGoal _ _ _ f wz Ext _;refine oC #[.int .i64 1] Tryz.func71 rfl rfl ?_;refine(wholem_calls 1 _ (by omega) (by omega)).mono ?_;rintro e w' ⟨v',rfl,h1,h2⟩;exact⟨v',rfl,h2,h1.mono hS⟩
  ·intro f wz hG hp hl;have hE:Ext w13 wz:=hG;have hS:=hE.size;have q34:=tellV hp 0 13 rfl rfl (fun _=>hE);have qg:=tE hp 1 11 rfl rfl rfl;change OpGoal _ _ _ f wz Ext _;refine og_guard (j:=11) (want:=true) rfl qg ?_;obtain⟨b',a1',n1',c1',a2',n2',c2',hv,hq⟩:=FrQ.opn q34;change OpGoal _ _ _ f wz Ext _;exact og_buildSlice (P:=Tryz.prog) 49 41 1 3 _ [.agg #[.bool b',.slice a1' n1' c1',.slice a2' n2' c2']] rfl rfl Tryz.underlying49 (by kernel_rfl) (by kernel_rfl) (by simp only[Act.eval];exact congrArg (fun z=> [(0,z)]) hv) rfl (by omega) (by omega) (by omega) (StrN.one rfl (all3 rfl rfl rfl)).size (fun w' he hb=>ql_oneF hb (hq.ext he) z1 (by omega))
  ·intro f wz hG hp hl;have hE:Ext w13 wz:=hG;have hS:=hE.size;have q33:=tE hp 0 12 rfl rfl rfl;have q35:=tellV hp 1 14 rfl rfl (fun _=>hE);have qg:=tE hp 3 11 rfl rfl rfl;change OpGoal _ _ _ f wz Ext _;refine og_guard (j:=11) (want:=true) rfl qg ?_;change OpGoal _ _ _ f wz Ext _;refine oC #[f 12,f 14] Tryz.func38 rfl rfl ?_;rw[q33];refine(mcost_calls 1 1 10 _ _ exP _ _ (HP.out.ext hE) q35 (by decide) (by decide) (by decide)).mono ?_;rintro e w' ⟨v',rfl,h1,hz,h2⟩;rw[exP_c]at h1;exact⟨v',rfl,h2,h1.mono hS⟩
  ·intro f wz hG hp hl;have hE:Ext w13 wz:=hG;have hS:=hE.size;have qg:=tE hp 1 11 rfl rfl rfl;change OpGoal _ _ _ f wz Ext _;refine og_guard (j:=11) (want:=true) rfl qg ?_;change OpGoal _ _ _ f wz Ext _;refine oC #[.int .i64 (-1)] Tryz.func71 rfl rfl ?_;refine(wholem_calls (-1) _ (by omega) (by omega)).mono ?_;rintro e w' ⟨v',rfl,h1,h2⟩;exact⟨v',rfl,h2,h1.mono hS⟩
  ·intro f wz hG hp hl;have hE:Ext w13 wz:=hG;have q36:=tellV hp 0 15 rfl rfl (fun _=>hE);have q37:=tellV hp 1 16 rfl rfl (fun _=>hE);have qg:=tE hp 3 11 rfl rfl rfl;change OpGoal _ _ _ f wz Ext _;refine og_guard (j:=11) (want:=true) rfl qg ?_;change OpGoal _ _ _ f wz Ext _;refine oC #[f 15,f 16] Tryz.func58 rfl rfl ?_;refine(same_true _ _ (((-1:Int)):Rat) _ _ _ q36 q37).mono ?_;rintro e w' ⟨rfl,h2⟩;exact⟨_,rfl,h2,rfl⟩
  ·intro f wz hG hp hl;have q32:=tE hp 0 11 rfl rfl rfl;have q38:=tE hp 1 17 rfl rfl rfl;simp only[OpGoal];go_simp;exact⟨_,rfl,Ext.refl _,rfl⟩
  ·intro f wz hG hp hl;have q39:=tE hp 0 18 rfl rfl rfl;simp only[OpGoal];go_simp;exact⟨_,rfl,Ext.refl _,rfl⟩
  ·intro f wz hG hp hl;have hE:Ext w13 wz:=hG;have qg:=tE hp 0 19 rfl rfl rfl;change OpGoal _ _ _ f wz Ext _;refine og_guard (j:=19) (want:=true) rfl qg ?_;change OpGoal _ _ _ f wz Ext _;exact og_load (P:=Tryz.prog) _ _ gp _ _ _ rfl rfl rfl (BP.ext hE) Tryz.underlying25 rfl (by kernel_rfl) rfl
  ·intro f wz hG hp hl;have hE:Ext w13 wz:=hG;have q41:=tE hp 0 20 rfl rfl rfl;have qg:=tE hp 1 19 rfl rfl rfl;change OpGoal _ _ _ f wz Ext _;refine og_guard (j:=19) (want:=true) rfl qg ?_;change OpGoal _ _ _ f wz Ext _;refine oC #[f 20] Tryz.func72 rfl rfl ?_;rw[q41];refine(mfinite_calls 1 _ exP _ (HP.out.ext hE)).mono ?_;rintro e w' ⟨rfl,h2⟩
   exact⟨_,rfl,h2,by rw[exP_f]<;>rfl⟩
  ·intro f wz hG hp hl;have q40:=tE hp 0 19 rfl rfl rfl;have q42:=tE hp 1 21 rfl rfl rfl;simp only[OpGoal];go_simp;exact⟨_,rfl,Ext.refl _,rfl⟩
  ·intro f wz hG hp hl;have q43:=tE hp 0 22 rfl rfl rfl;simp only[OpGoal];go_simp;exact⟨_,rfl,Ext.refl _,rfl⟩
  ·intro f wz hG hp hl;have qg:=tE hp 0 23 rfl rfl rfl;change OpGoal _ _ _ f wz Ext _;refine og_guard (j:=23) (want:=true) rfl qg ?_;simp only[OpGoal];go_simp;exact⟨_,rfl,Ext.refl _,rfl⟩
  ·intro f wz hG hp hl;have q45:=tE hp 0 24 rfl rfl rfl;have qg:=tE hp 1 23 rfl rfl rfl;change OpGoal _ _ _ f wz Ext _;refine og_guard (j:=23) (want:=true) rfl qg ?_;simp only[OpGoal];go_simp;exact⟨_,rfl,Ext.refl _,rfl⟩
  ·intro f wz hG hp hl;have q46:=tE hp 0 25 rfl rfl rfl;have qg:=tE hp 1 23 rfl rfl rfl;change OpGoal _ _ _ f wz Ext _;refine og_guard (j:=23) (want:=true) rfl qg ?_;simp only[OpGoal];go_simp;exact⟨_,rfl,Ext.refl _,rfl⟩
  ·intro f wz hG hp hl;have q44:=tE hp 0 23 rfl rfl rfl;have q47:=tE hp 1 26 rfl rfl rfl;simp only[OpGoal];go_simp;exact⟨_,rfl,Ext.refl _,rfl⟩
  ·intro f wz hG hp hl;have q48:=tE hp 0 27 rfl rfl rfl;simp only[OpGoal];go_simp;exact⟨_,rfl,Ext.refl _,rfl⟩
  ·intro f wz hG hp hl;have qg:=tE hp 0 28 rfl rfl rfl;change OpGoal _ _ _ f wz Ext _;refine og_guard (j:=28) (want:=true) rfl qg ?_;simp only[OpGoal];go_simp;exact⟨_,rfl,Ext.refl _,rfl⟩
  ·intro f wz hG hp hl;have q50:=tE hp 0 29 rfl rfl rfl;have qg:=tE hp 1 28 rfl rfl rfl;change OpGoal _ _ _ f wz Ext _;refine og_guard (j:=28) (want:=true) rfl qg ?_;simp only[OpGoal];go_simp;exact⟨_,rfl,Ext.refl _,rfl⟩
  ·intro f wz hG hp hl;have q51:=tE hp 0 30 rfl rfl rfl;have qg:=tE hp 1 28 rfl rfl rfl;change OpGoal _ _ _ f wz Ext _;refine og_guard (j:=28) (want:=true) rfl qg ?_;simp only[OpGoal];go_simp;exact⟨_,rfl,Ext.refl _,rfl⟩
  ·intro f wz hG hp hl;have hE:Ext w13 wz:=hG;have q52:=tE hp 0 31 rfl rfl rfl;have qg:=tE hp 1 28 rfl rfl rfl;change OpGoal _ _ _ f wz Ext _;refine og_guard (j:=28) (want:=true) rfl qg ?_;have hcell:=(HC0.out _ hE);simp only[OpGoal];go_simp;exact⟨_,rfl,Ext.refl _,rfl⟩
  ·intro f wz hG hp hl;have q53:=tE hp 0 32 rfl rfl rfl;have qg:=tE hp 1 28 rfl rfl rfl;change OpGoal _ _ _ f wz Ext _;refine og_guard (j:=28) (want:=true) rfl qg ?_;simp only[OpGoal];go_simp;exact⟨_,rfl,Ext.refl _,rfl⟩
  ·intro f wz hG hp hl;have q49:=tE hp 0 28 rfl rfl rfl;have q54:=tE hp 1 33 rfl rfl rfl;simp only[OpGoal];go_simp;exact⟨_,rfl,Ext.refl _,rfl⟩
  ·intro f wz hG hp hl;have q55:=tE hp 0 34 rfl rfl rfl;simp only[OpGoal];go_simp;exact⟨_,rfl,Ext.refl _,rfl⟩
  ·intro f wz hG hp hl;have qg:=tE hp 0 35 rfl rfl rfl;change OpGoal _ _ _ f wz Ext _;refine og_guard (j:=35) (want:=true) rfl qg ?_;simp only[OpGoal];go_simp;exact⟨_,rfl,Ext.refl _,rfl⟩
  ·intro f wz hG hp hl;have q57:=tE hp 0 36 rfl rfl rfl;have qg:=tE hp 1 35 rfl rfl rfl;change OpGoal _ _ _ f wz Ext _;refine og_guard (j:=35) (want:=true) rfl qg ?_;simp only[OpGoal];go_simp;exact⟨_,rfl,Ext.refl _,rfl⟩
  ·intro f wz hG hp hl;have q58:=tE hp 0 37 rfl rfl rfl;have qg:=tE hp 1 35 rfl rfl rfl;change OpGoal _ _ _ f wz Ext _;refine og_guard (j:=35) (want:=true) rfl qg ?_;simp only[OpGoal];go_simp;exact⟨_,rfl,Ext.refl _,rfl⟩
  ·intro f wz hG hp hl;have hE:Ext w13 wz:=hG;have q59:=tE hp 0 38 rfl rfl rfl;have qg:=tE hp 1 35 rfl rfl rfl;change OpGoal _ _ _ f wz Ext _;refine og_guard (j:=35) (want:=true) rfl qg ?_;have hcell:=(HC1.out _ hE);simp only[OpGoal];go_simp;exact⟨_,rfl,Ext.refl _,rfl⟩
  ·intro f wz hG hp hl;have q60:=tE hp 0 39 rfl rfl rfl;have qg:=tE hp 1 35 rfl rfl rfl;change OpGoal _ _ _ f wz Ext _;refine og_guard (j:=35) (want:=true) rfl qg ?_;simp only[OpGoal];go_simp;exact⟨_,rfl,Ext.refl _,rfl⟩
  ·intro f wz hG hp hl;have q56:=tE hp 0 35 rfl rfl rfl;have q61:=tE hp 1 40 rfl rfl rfl;simp only[OpGoal];go_simp;exact⟨_,rfl,Ext.refl _,rfl⟩
  ·intro f wz hG hp hl;have q62:=tE hp 0 41 rfl rfl rfl;simp only[OpGoal];go_simp;exact⟨_,rfl,Ext.refl _,rfl⟩
  ·intro f wz hG hp hl;have qg:=tE hp 0 42 rfl rfl rfl;change OpGoal _ _ _ f wz Ext _;refine og_guard (j:=42) (want:=true) rfl qg ?_;simp only[OpGoal];go_simp;exact⟨_,rfl,Ext.refl _,rfl⟩
  ·intro f wz hG hp hl;have q64:=tE hp 0 43 rfl rfl rfl;have qg:=tE hp 1 42 rfl rfl rfl;change OpGoal _ _ _ f wz Ext _;refine og_guard (j:=42) (want:=true) rfl qg ?_;simp only[OpGoal];go_simp;exact⟨_,rfl,Ext.refl _,rfl⟩
  ·intro f wz hG hp hl;have q65:=tE hp 0 44 rfl rfl rfl;have qg:=tE hp 1 42 rfl rfl rfl;change OpGoal _ _ _ f wz Ext _;refine og_guard (j:=42) (want:=true) rfl qg ?_;simp only[OpGoal];go_simp;exact⟨_,rfl,Ext.refl _,rfl⟩
  ·intro f wz hG hp hl;have q63:=tE hp 0 42 rfl rfl rfl;have q66:=tE hp 1 45 rfl rfl rfl;simp only[OpGoal];go_simp;exact⟨_,rfl,Ext.refl _,rfl⟩
  ·intro f wz hG hp hl;have q67:=tE hp 0 46 rfl rfl rfl;simp only[OpGoal];go_simp;exact⟨_,rfl,Ext.refl _,rfl⟩
  ·intro f wz hG hp hl;have hE:Ext w13 wz:=hG;have qg:=tE hp 0 47 rfl rfl rfl;change OpGoal _ _ _ f wz Ext _;refine og_guard (j:=47) (want:=true) rfl qg ?_;change OpGoal _ _ _ f wz Ext _;exact og_load (P:=Tryz.prog) _ _ gp _ _ _ rfl rfl rfl (BP.ext hE) Tryz.underlying25 rfl (by kernel_rfl) rfl
  ·intro f wz hG hp hl;have hE:Ext w13 wz:=hG;have q69:=tE hp 0 48 rfl rfl rfl;have qg:=tE hp 1 47 rfl rfl rfl;change OpGoal _ _ _ f wz Ext _;refine og_guard (j:=47) (want:=true) rfl qg ?_;change OpGoal _ _ _ f wz Ext _;refine oC #[f 48] Tryz.func20 rfl rfl ?_;rw[q69];refine(mwhole_calls 1 _ exP _ (HP.out.ext hE) (by decide)).mono ?_;rintro e w' ⟨v',rfl,h1,h2⟩;obtain⟨ad,cap,hv⟩:=ownsRow_lenP h1;exact⟨v',rfl,h2,ad,cap,hv⟩
  ·intro f wz hG hp hl;have hE:Ext w13 wz:=hG;have q70:=tellV hp 0 49 rfl rfl (fun _=>hE);have qg:=tE hp 1 47 rfl rfl rfl;change OpGoal _ _ _ f wz Ext _;refine og_guard (j:=47) (want:=true) rfl qg ?_;obtain⟨ad,cap,hv⟩:=q70;simp only[OpGoal];go_simp;exact⟨_,rfl,Ext.refl _,rfl⟩
  ·intro f wz hG hp hl;have q71:=tE hp 0 50 rfl rfl rfl;have qg:=tE hp 1 47 rfl rfl rfl;change OpGoal _ _ _ f wz Ext _;refine og_guard (j:=47) (want:=true) rfl qg ?_;simp only[OpGoal];go_simp;exact⟨_,rfl,Ext.refl _,rfl⟩
  ·intro f wz hG hp hl;have q68:=tE hp 0 47 rfl rfl rfl;have q72:=tE hp 1 51 rfl rfl rfl;simp only[OpGoal];go_simp;exact⟨_,rfl,Ext.refl _,rfl⟩
  ·intro f wz hG hp hl;have q73:=tE hp 0 52 rfl rfl rfl;simp only[OpGoal];go_simp;exact⟨_,rfl,Ext.refl _,rfl⟩
 ·intro f wq hG hp;have hE:Ext w13 wq:=ChgS.nil hG
  have q0:f 53= .bool true:=endV hp 53 (by decide) rfl (fun h=>by cases h)
  try simp only[q0]
  clear hp;have X:=X13.out.trans hE;clear hE;go_wp2;go_ret;exact⟨rfl,X⟩
def keptL(s:Int)(a r:Rat):Bool:=!(decide (s≠2)&&decide (r<a))&& !(decide (s≠1)&&decide (a<r))
theorem keptL_iff{s:Int}{a r:Rat}:keptL s a r=true↔(s=2∨a≤r)∧(s=1∨r≤a):=by
 unfold keptL;simp only[Bool.and_eq_true,Bool.not_eq_true',Bool.and_eq_false_iff,decide_eq_false_iff_not,Rat.not_lt,Decidable.not_not]
theorem inB_iff{s:SpR}{x:Rat}:inB s x=true↔(s.1=true→s.2.2.1≤x)∧(s.2.1=true→x≤s.2.2.2):=by
 unfold inB;obtain⟨b1,b2,lo,hi⟩:=s
 cases b1<;>cases b2<;>simp [Rat.not_lt]
def meanQ(x y:Rat):Rat:=(x+y) / ((2:Int):Rat)
def meanL(xs ys:List Rat):List Rat:=List.zipWith meanQ xs ys
theorem meanQ_two(x y:Rat):((2:Int):Rat)*meanQ x y=x+y:=by
 unfold meanQ;rw[Rat.mul_comm,Rat.div_mul_cancel (by decide)]
theorem meanL_len{xs ys:List Rat}(h:xs.length=ys.length):(meanL xs ys).length=xs.length:=by
 unfold meanL;rw[List.length_zipWith]
 omega
theorem meanL_at{xs ys:List Rat}{i:Nat}{x y:Rat}(h:xs[i]? =some x)(k:ys[i]? =some y):(meanL xs ys)[i]? =some (meanQ x y):=by
 unfold meanL;rw[List.getElem?_zipWith,h,k]
theorem dotV_mean(l:List (Int×Rat)){xs ys:List Rat}(h:xs.length=ys.length):((2:Int):Rat)*dotV l (meanL xs ys)=dotV l xs+dotV l ys:=by
 induction l with
 |nil=>
  show((2:Int):Rat)*0=0+0
  grind
 |cons t l ih=>
  show((2:Int):Rat)*((if _ then _ else _)+dotV l _)=((if _ then _ else _)+dotV l xs)+((if _ then _ else _)+dotV l ys)
  rw[meanL_len h,←h]
  by_cases hc:0≤t.1∧t.1<(xs.length:Int)
  ·rw[if_pos hc,if_pos hc,if_pos hc]
   have h1:xs[t.1.toNat]? =some (xs[t.1.toNat]'(by omega)):=List.getElem?_eq_getElem (by omega)
   have h2:ys[t.1.toNat]? =some (ys[t.1.toNat]'(by omega)):=List.getElem?_eq_getElem (by omega)
   rw[List.getD_eq_getElem?_getD,List.getD_eq_getElem?_getD,List.getD_eq_getElem?_getD,meanL_at h1 h2,h1,h2];simp only[Option.getD_some]
   have:=meanQ_two (xs[t.1.toNat]'(by omega)) (ys[t.1.toNat]'(by omega))
   grind
  ·rw[if_neg hc,if_neg hc,if_neg hc]
   grind
theorem mean_in{s:SpR}{x y z:Rat}(hz:((2:Int):Rat)*z=x+y)(hx:inB s x=true)(hy:inB s y=true):inB s z=true:=by
 rw[inB_iff]at hx hy ⊢
 have two:((2:Int):Rat)=2:=rfl
 rw[two]at hz;refine⟨fun h=> ?_,fun h=> ?_⟩
 ·have h1:=hx.1 h;have h2:=hy.1 h
  grind
 ·have h1:=hx.2 h;have h2:=hy.2 h
  grind
theorem holds_mean{p:PbR}{xs ys:List Rat}(hw:∀v∈p.2,v.1=false)(h:xs.length=ys.length)(hx:holdsP p xs=true)(hy:holdsP p ys=true):holdsP p (meanL xs ys)=true:=by
 unfold holdsP at hx hy ⊢;rw[Bool.and_eq_true,decide_eq_true_iff,Bool.and_eq_true,List.all_eq_true,Bool.not_eq_true',List.any_eq_false]at hx hy ⊢;obtain⟨x1,x2,x3⟩:=hx;obtain⟨y1,y2,y3⟩:=hy;refine⟨by rw[meanL_len h];exact x1,fun t ht=> ?_,fun r hr=> ?_⟩
 ·obtain⟨i,hi⟩:=List.mem_iff_getElem?.1 ht;rw[List.getElem?_zip_eq_some]at hi;have hl:=(List.getElem?_eq_some_iff.1 hi.1).1
  have h1:xs[i]? =some (xs[i]'(by omega)):=List.getElem?_eq_getElem (by omega)
  have h2:ys[i]? =some (ys[i]'(by omega)):=List.getElem?_eq_getElem (by omega)
  have hm:=meanL_at h1 h2;rw[hi.2]at hm;simp only[Option.some.injEq]at hm;have g1:=x2 (t.1,xs[i]'(by omega)) (List.mem_iff_getElem?.2 ⟨i,by rw[List.getElem?_zip_eq_some];exact⟨hi.1,h1⟩⟩);have g2:=y2 (t.1,ys[i]'(by omega)) (List.mem_iff_getElem?.2 ⟨i,by rw[List.getElem?_zip_eq_some];exact⟨hi.1,h2⟩⟩);unfold goodV at g1 g2 ⊢;rw[Bool.and_eq_true]at g1 g2 ⊢;refine⟨mean_in (by rw[hm];exact meanQ_two _ _) g1.1 g2.1,?_⟩;rw[hw t.1 (List.mem_of_getElem? hi.1)]
  rfl
 ·have h1:inB r.1 (dotV r.2 xs)=true:=by
   have:=x3 r hr
   unfold offR at this
   simpa using this
  have h2:inB r.1 (dotV r.2 ys)=true:=by
   have:=y3 r hr
   unfold offR at this
   simpa using this
  unfold offR;rw[mean_in (dotV_mean r.2 h) h1 h2]
  decide
theorem cost_mean(p:PbR){xs ys:List Rat}(h:xs.length=ys.length):((2:Int):Rat)*costP p (meanL xs ys)=costP p xs+costP p ys:=dotV_mean _ h
structure Pk where
 s:Nat
 o:Nat
 n:Nat
 F:List Value→World→Prop
def stK(t:TypeId)(g:Nat)(p:Pk):Sm:=
 ⟨p.s,g,fun a b=>∀cs,Bx t a g cs→∃cs',Bx t b g cs'∧cs'.size=cs.size∧∀i,(i<p.o∨p.o+p.n≤i)→cs'[i]? =cs[i]?,
  fun a b=>∃cs cs',Bx t a g cs∧Bx t b g cs'∧∀i,p.o≤i→i<p.o+p.n→cs'[i]? =cs[i]?,
  fun _ w=>∃vs cs,vs.length=p.n∧Bx t w g cs∧(∀j,j<p.n→cs[p.o+j]? =vs[j]?)∧p.F vs w⟩
def apart(p q:Pk):Prop:=p.o+p.n≤q.o∨q.o+q.n≤p.o
theorem Bx.inj{t:TypeId}{w:World}{g:Nat}{cs cs':Array Value}(h:Bx t w g cs)(k:Bx t w g cs'):cs=cs':=by
 unfold Bx at h k;rw[h]at k
 simpa using k
theorem laidS_in{cur vs:List Value}{o j:Nat}(h:o+vs.length≤cur.length)(hj:j<vs.length):(laidS cur o vs)[o+j]? =vs[j]? :=by
 unfold laidS;rw[List.append_assoc,List.getElem?_append_right (by rw[List.length_take];omega),List.length_take,Nat.min_eq_left (by omega),Nat.add_sub_cancel_left,List.getElem?_append_left hj]
theorem laidS_out{cur vs:List Value}{o i:Nat}(h:o+vs.length≤cur.length)(hi:i<o∨o+vs.length≤i):(laidS cur o vs)[i]? =cur[i]? :=by
 unfold laidS
 rcases hi with hi |hi
 ·rw[List.append_assoc,List.getElem?_append_left (by rw[List.length_take];omega),List.getElem?_take,if_pos hi]
 ·rw[List.getElem?_append_right (by rw[List.length_append,List.length_take];omega),List.length_append,List.length_take,Nat.min_eq_left (by omega),List.getElem?_drop]
  congr 1
  omega
theorem part_done{t:TypeId}{g:Nat}{w:World}(p:Pk){cur:Array Value}{vals:List Value}(hb:Bx t w g cur)(hfit:p.o+p.n≤cur.size)(hn:vals.length=p.n)(hF:∀w',Chg g w w'→p.F vals w'):
  ((stK t g p).R w (w.setRow g (laidS cur.toList p.o vals).toArray)∧Chg g w (w.setRow g (laidS cur.toList p.o vals).toArray))∧∀u,(stK t g p).F u (w.setRow g (laidS cur.toList p.o vals).toArray):=by
 have hf2:p.o+vals.length≤cur.toList.length:=by rw[hn,Array.length_toList];exact hfit
 have hc:Chg g w (w.setRow g (laidS cur.toList p.o vals).toArray):=Chg.setRow w g _;have h3:Bx t (w.setRow g (laidS cur.toList p.o vals).toArray) g (laidS cur.toList p.o vals).toArray:=Bx.setRow hb _;refine⟨⟨fun cs hcs=> ?_,hc⟩,fun u=>⟨vals,_,hn,h3,fun j hj=> ?_,hF _ hc⟩⟩
 ·have e:=hb.inj hcs;subst e;refine⟨_,h3,?_,fun i hi=> ?_⟩
  ·have:=congrArg List.length (show laidS cur.toList p.o vals=cur.toList.take p.o++vals++cur.toList.drop (p.o+vals.length)from rfl)
   simp only[List.length_append,List.length_take,List.length_drop]at this;rw[List.size_toArray,this];simp only[Array.length_toList]at hf2 ⊢
   omega
  ·rw[List.getElem?_toArray,laidS_out hf2 (by rw[hn];exact hi),Array.getElem?_toList]
 ·rw[List.getElem?_toArray,laidS_in hf2 (by omega)]
section
variable {P:Program} {o:Oper} {a:Act} {f:Nat→Value} {w:World}
theorem og_partA(t ty:TypeId)(g:Nat)(p:Pk)(cs:Array Value)(x y:Operand)(hgd:o.guard=none)(ho:o.op= .store ty x y)(hx:a.eval x= .pointer (some ⟨g,p.o,none⟩))(hy:a.eval y= .agg cs)(hty:(P.info? ty).map (·.size)=some cs.size)(h1:cs.all (·.oneCell')=true)
  (hI:∃cur,Bx t w g cur∧p.o+p.n≤cur.size) (hn:cs.size=p.n) (hF:∀w',Chg g w w'→p.F cs.toList w'):OpGoal P o a f w (fun a b=>(stK t g p).R a b∧Chg g a b) (fun u w2=>(stK t g p).F u w2):=by
 obtain⟨cur,hb,hsz⟩:=hI
 have hb':w.heap[g]? =some (.cells cur.toList.toArray t (0,0)):=by rw[Array.toArray_toList];exact hb
 have hrun:=run_storeVar_at (P:=P) w g p.o t ty cur.toList cs hb' hty (by rw[hn,Array.length_toList];exact hsz) h1;have hd:=part_done p hb hsz (vals:=cs.toList) (by simpa using hn) hF;unfold OpGoal;rw[hgd];unfold Oper.wp execOp;simp only[ho,hx,hy,Instr.storeAt,Instr.sureAddr,Sem.run_bind,Sem.run_pure,Result.andThen_ok,hrun];exact⟨_,rfl,hd.1,hd.2 _⟩
theorem og_partS(t ty:TypeId)(g:Nat)(p:Pk)(ad:Option Addr)(n c:Nat)(x y:Operand)(hgd:o.guard=none)(ho:o.op= .store ty x y)(hx:a.eval x= .pointer (some ⟨g,p.o,none⟩))(hy:a.eval y= .slice ad n c)(hty:(P.info? ty).map (·.size)=some 1)
  (hI:∃cur,Bx t w g cur∧p.o+p.n≤cur.size) (hn:p.n=1) (hF:∀w',Chg g w w'→p.F [.slice ad n c] w'):OpGoal P o a f w (fun a b=>(stK t g p).R a b∧Chg g a b) (fun u w2=>(stK t g p).F u w2):=by
 obtain⟨cur,hb,hsz⟩:=hI
 have hb':w.heap[g]? =some (.cells cur.toList.toArray t (0,0)):=by rw[Array.toArray_toList];exact hb
 have hlt:p.o<cur.toList.length:=by rw[Array.length_toList];omega
 have hrun:=run_storeS (P:=P) w g p.o t ty cur.toList ad n c hb' hty hlt
 have e:cur.toList.set p.o (.slice ad n c)=laidS cur.toList p.o [.slice ad n c]:=by
  unfold laidS;rw[List.set_eq_take_append_cons_drop,if_pos hlt]
  simp
 rw[e]at hrun;have hd:=part_done p hb hsz (vals:=[.slice ad n c]) (by simp[hn]) hF;unfold OpGoal;rw[hgd];unfold Oper.wp execOp;simp only[ho,hx,hy,Instr.storeAt,Instr.sureAddr,Sem.run_bind,Sem.run_pure,Result.andThen_ok,hrun];exact⟨_,rfl,hd.1,hd.2 _⟩
end
theorem wp_region_part{P:Program}{id:Nat}{l:List Oper}{Q:Exit→Act→World→Prop}{tmps:Array Value}{df:List Deferred}{w:World}{fr:(Nat→Value)→Array Value}
  (t:TypeId) (g:Nat) (cs0:Array Value) (ps:List Pk) (L:List (PP w.heap.size)) (lates:List (Nat×Nat×Nat)) (pre:List Nat)
  (hm:P.follows .mixedOrders=true) (hok:(regOk l.toArray tmps.size&&lateOk l.toArray lates&&((ps.map (stK t g)).map (·.s)).all fun s=>ancOk l.toArray [s] (pre.filter (· !=s)))=true)
  (hfr:∀f,fillR l.toArray tmps f=fr f) (hL:∀p∈L,p.c=false) (hb:Bx t w g cs0)
  (hs:∀p∈ps,smAt (ps.map (stK t g)) p.s=some (stK t g p)) (hsl:∀p∈ps,p.s<l.length)
  (hap:∀p∈ps,∀q∈ps,q.s≠p.s→apart p q)
  (hFe:∀p∈ps,∀vs a b,Ext a b→p.F vs a→p.F vs b) (hFc:∀p∈ps,∀vs a b,Chg g a b→p.F vs a→p.F vs b)
  (hstep:OwesM P fr df w (ps.map (stK t g)) (fun b=>∃cs,Bx t b g cs∧cs.size=cs0.size∧∀i,(∀p∈ps,i<p.o∨p.o+p.n≤i)→cs[i]? =cs0[i]?) L lates tmps pre l 0)
  (hend:∀f w1,ChgS [g] w w1→(∃cs,Bx t w1 g cs∧cs.size=cs0.size∧(∀i,(∀p∈ps,i<p.o∨p.o+p.n≤i)→cs[i]? =cs0[i]?)∧∀p∈ps,∃vs,vs.length=p.n∧(∀j,j<p.n→cs[p.o+j]? =vs[j]?)∧p.F vs w1)→AllPosts (postM (ps.map (stK t g)) L) f w1 l.length 0→Q .normal ⟨fr f,df⟩ w1):
  (Code.region id l.toArray true).wp P Q ⟨tmps,df⟩ w:=by
 have hlt:=blk_lt hb
 have hmem:∀x∈ps.map (stK t g),∃p∈ps,x=stK t g p:=fun x hx=>by
  obtain⟨p,hp,e⟩:=List.mem_map.1 hx;exact⟨p,hp,e.symm⟩
 refine wp_region_mut (ps.map (stK t g)) (fun b=>∃cs,Bx t b g cs∧cs.size=cs0.size∧∀i,(∀p∈ps,i<p.o∨p.o+p.n≤i)→cs[i]? =cs0[i]?) L lates pre hm hok hfr ?_ ?_ hL ⟨cs0,hb,rfl,fun _ _=>rfl⟩ ?_ ?_ ?_ ?_ ?_ ?_ ?_ ?_ hstep ?_
 ·intro x hx;obtain⟨p,hp,rfl⟩:=hmem x hx;exact hlt
 ·intro x hx;obtain⟨p,hp,rfl⟩:=hmem x hx;exact hs p hp
 ·rintro w1 w2 he ⟨cs,h1,h2,h3⟩;exact⟨cs,h1.ext he,h2,h3⟩
 ·intro x hx w1 w2 hch hR hI;obtain⟨p,hp,rfl⟩:=hmem x hx;obtain⟨cs,h1,h2,h3⟩:=hI;obtain⟨cs',k1,k2,k3⟩:=hR cs h1;exact⟨cs',k1,k2.trans h2,fun i hi=>(k3 i (hi p hp)).trans (h3 i hi)⟩
 ·intro x hx v w1 w2 he hF;obtain⟨p,hp,rfl⟩:=hmem x hx;obtain⟨vs,cs,h1,h2,h3,h4⟩:=hF;exact⟨vs,cs,h1,h2.ext he,h3,hFe p hp vs _ _ he h4⟩
 ·intro x hx y hy hne v w1 w2 hch hR hF;obtain⟨p,hp,rfl⟩:=hmem x hx;obtain⟨q,hq,rfl⟩:=hmem y hy;obtain⟨vs,cs,h1,h2,h3,h4⟩:=hF;obtain⟨cs',k1,k2,k3⟩:=hR cs h2;refine⟨vs,cs',h1,k1,fun j hj=> ?_,hFc p hp vs _ _ hch h4⟩;rw[k3 _ (by have:=hap p hp q hq hne;unfold apart at this;omega)];exact h3 j hj
 ·intro x hx;obtain⟨p,hp,rfl⟩:=hmem x hx;exact⟨cs0,cs0,hb,hb,fun _ _ _=>rfl⟩
 ·intro x hx w1 w2 _ he hU;obtain⟨p,hp,rfl⟩:=hmem x hx;obtain⟨cs,cs',h1,h2,h3⟩:=hU;exact⟨cs,cs',h1,h2.ext he,h3⟩
 ·intro x hx y hy hne w1 w2 _ hch hR hU;obtain⟨p,hp,rfl⟩:=hmem x hx;obtain⟨q,hq,rfl⟩:=hmem y hy;obtain⟨cs,cs',h1,h2,h3⟩:=hU;obtain⟨cs2,k1,k2,k3⟩:=hR cs' h2;refine⟨cs,cs2,h1,k1,fun i hi hi2=> ?_⟩;rw[k3 _ (by have:=hap p hp q hq hne;unfold apart at this;omega)];exact h3 i hi hi2
 ·rintro w1 hG ⟨cs,h1,h2,h3⟩ hU
  have huv:cs=cs0:=by
   apply Array.ext_getElem?
   intro i
   by_cases hi:∃p∈ps,p.o≤i∧i<p.o+p.n
   ·obtain⟨p,hp,hi1,hi2⟩:=hi;obtain⟨c1,c2,k1,k2,k3⟩:=hU (stK t g p) (List.mem_map.2 ⟨p,hp,rfl⟩);have e1:=k1.inj hb;have e2:=k2.inj h1;subst e1 e2;exact k3 i hi1 hi2
   ·exact h3 i fun p hp=>by
     have:¬(p.o≤i∧i<p.o+p.n):=fun h=>hi ⟨p,hp,h⟩
     omega
  subst huv;refine⟨hG.1,hG.2.1,hG.2.2.1,hG.2.2.2.1,fun j hj _=> ?_⟩
  by_cases hjg:j=g
  ·rw[hjg];exact h1.trans hb.symm
  ·refine hG.2.2.2.2 j hj fun hm=>hjg ?_
   rw[List.map_map]at hm;obtain⟨p, -,e⟩:=List.mem_map.1 hm;exact e.symm
 ·intro f w1 hG hI hp;refine hend f w1 ⟨hG.1,hG.2.1,hG.2.2.1,hG.2.2.2.1,fun k hk hn=>hG.2.2.2.2 k hk fun hm=>hn ?_⟩ ?_ hp
  ·rw[List.map_map]at hm;obtain⟨p, -,e⟩:=List.mem_map.1 hm;rw[List.mem_singleton];exact e.symm
  ·obtain⟨cs,h1,h2,h3⟩:=hI;refine⟨cs,h1,h2,h3,fun p hp'=> ?_⟩;obtain⟨vs,cs',k1,k2,k3,k4⟩:=endMS hp p.s (hsl p hp') (hs p hp');have e:=k2.inj h1;subst e;exact⟨vs,k1,k3,k4⟩
theorem arr10{cs:Array Value}{a0 a1 a2 a3 a4 a5 a6 a7 a8 a9:Value}(hs:cs.size=10)(h0:cs[0]? =some a0)(h1:cs[1]? =some a1)(h2:cs[2]? =some a2)(h3:cs[3]? =some a3)(h4:cs[4]? =some a4)(h5:cs[5]? =some a5)(h6:cs[6]? =some a6)(h7:cs[7]? =some a7)(h8:cs[8]? =some a8)(h9:cs[9]? =some a9):cs=#[a0,a1,a2,a3,a4,a5,a6,a7,a8,a9]:=by
 apply Array.ext_getElem?
 intro i
 match i with
 |0=>exact h0
 |1=>exact h1
 |2=>exact h2
 |3=>exact h3
 |4=>exact h4
 |5=>exact h5
 |6=>exact h6
 |7=>exact h7
 |8=>exact h8
 |9=>exact h9
 |i+10=>
  rw[Array.getElem?_eq_none (by omega),Array.getElem?_eq_none (by simp)]
theorem arr13{cs:Array Value}{a0 a1 a2 a3 a4 a5 a6 a7 a8 a9 a10 a11 a12:Value}(hs:cs.size=13)(h0:cs[0]? =some a0)(h1:cs[1]? =some a1)(h2:cs[2]? =some a2)(h3:cs[3]? =some a3)(h4:cs[4]? =some a4)(h5:cs[5]? =some a5)(h6:cs[6]? =some a6)(h7:cs[7]? =some a7)(h8:cs[8]? =some a8)(h9:cs[9]? =some a9)(h10:cs[10]? =some a10)(h11:cs[11]? =some a11)(h12:cs[12]? =some a12):cs=#[a0,a1,a2,a3,a4,a5,a6,a7,a8,a9,a10,a11,a12]:=by
 apply Array.ext_getElem?
 intro i
 match i with
 |0=>exact h0
 |1=>exact h1
 |2=>exact h2
 |3=>exact h3
 |4=>exact h4
 |5=>exact h5
 |6=>exact h6
 |7=>exact h7
 |8=>exact h8
 |9=>exact h9
 |10=>exact h10
 |11=>exact h11
 |12=>exact h12
 |i+13=>
  rw[Array.getElem?_eq_none (by omega),Array.getElem?_eq_none (by simp)]
theorem Bx.growS{e n B g:Nat}{w w':World}{lv:Value}{vs:List Value}{t:TypeId}{xs:Array Value}(h:Bx t w g xs)(hls:LS e n B w lv vs)(hg:w.grownBy w' lv.ownBlock)(ht:t≠e):Bx t w' g xs:=by
 rcases ownsRow_growN hls.2 hg with he |⟨g',cs,hb,hc⟩
 ·exact h.ext he
 ·refine h.chg hc fun e'=> ?_
  subst e';unfold Bx at h hb;rw[h]at hb;simp only[Option.some.injEq,Obj.cells.injEq]at hb;exact ht hb.2.1
theorem RwO.mono{B B':Nat}{w:World}{v:Value}{l:List RwE}(h:RwO B w v l)(hB:B'≤B):RwO B' w v l:=by
 obtain⟨vs,h1,h2,h3⟩:=h;refine⟨vs,h1.mono hB,h2,fun i u y a b=> ?_⟩;obtain⟨l,h,ta,tn,tc,j1,j2,j3,j4,j5,j6⟩:=h3 i u y a b;exact⟨l,h,ta,tn,tc,j1,FrR.mono j2 hB,FrR.mono j3 hB,j4.mono hB,j5,j6⟩
theorem VrO.mono{B B':Nat}{w:World}{v:Value}{l:List VrE}(h:VrO B w v l)(hB:B'≤B):VrO B' w v l:=by
 obtain⟨vs,h1,h2,h3⟩:=h;refine⟨vs,h1.mono hB,h2,fun i u y a b=> ?_⟩;obtain⟨l,h,c,j1,j2,j3,j4,j5⟩:=h3 i u y a b;exact⟨l,h,c,j1,FrR.mono j2 hB,FrR.mono j3 hB,FrR.mono j4 hB,j5⟩
theorem FrE.three{S:Nat}{w:World}{vs:List Value}{e:RE}(h:FrE S w (.agg vs.toArray) e):∃q:QC,vs=[.bool q.b,.slice q.a1 q.n1 q.c1,.slice q.a2 q.n2 q.c2]∧FrE S w (.agg #[.bool q.b,.slice q.a1 q.n1 q.c1,.slice q.a2 q.n2 q.c2]) e:=by
 obtain⟨ad,l,cap,ad2,l2,cap2,hv,hq⟩:=FrR.opn h;simp only[Value.agg.injEq]at hv;exact⟨⟨e.1,ad,l,cap,ad2,l2,cap2⟩,by simpa using congrArg Array.toList hv,hq⟩
set_option maxHeartbeats 2000000 in
theorem copyPb_calls(v:Value)(p:PbE)(w:World)(hv:PbH w v p)(hok:okPb p):
  Calls Tryz.prog 17 #[v] w fun e w'=>∃v',e= .returned v'∧PbY w.heap.size w' v' p∧Ext w w':=by
 obtain⟨⟨n0,n1⟩,rows,vars⟩:=p;obtain⟨ra,rn,rc,va,vn,vc,rfl,hr,hvv⟩:=hv;obtain⟨ra',n,rc',hrn,hre,hrm,hatr⟩:=hr.at;simp only[Value.slice.injEq]at hre;obtain⟨rfl,rfl,rfl⟩:=hre;obtain⟨va',n,vc',hn,hve,hvm,hatv⟩:=hvv.at;simp only[Value.slice.injEq]at hve;obtain⟨rfl,rfl,rfl⟩:=hve;obtain⟨hk1,hk2,hk3,hk4⟩:=hok
 simp only at hrn hn hatr hatv hk1 hk2 hk3 hk4
 rw[←hrn]at hk1;rw[←hn]at hk2;have Hn:=Lib.hid hn;have Hrn:=Lib.hid hrn;have HAV:=Lib.hid hatv;have HAR:=Lib.hid hatr;have HK3:=Lib.hid hk3;have HK4:=Lib.hid hk4;clear hr hvv hrn hn hatr hatv hk3 hk4;obtain⟨w1,hw1,e1,bP,b2,s1⟩:=alloc2 w #[.string n0,.string n1,.slice ra rn rc,.slice va vn vc] #[.string ⟨#[]⟩,.string ⟨#[]⟩,.slice none 0 0,.slice none 0 0] 25 25;obtain⟨w2,hw2,e2,bO,s2⟩:=alloc1 w1 #[.string n0,.string n1,.slice none 0 0,.slice none 0 0] 25
 have hs1:w1.heap.size=w.heap.size+2:=s1
 have hs2:w2.heap.size=w.heap.size+3:=by have h:w2.heap.size=w1.heap.size+1:=s2;omega
 rw[hs1]at bO
 go_enter Tryz.func17,Tryz.ntmps17
 have e02:=e1.trans e2;have BP0:=Lib.hid (And.intro (bP.ext e2) (And.intro (b2.ext e2) bO));clear bP b2 bO e1 e2;go_wp2_with fail;rw[←hw1,←hw2];clear hw1 hw2
 go_loopw [4] (fun s4 wr=>∃(i:Nat) (ado:Option Addr) (capo:Nat),i≤rn∧s4= .int .i64 (i:Int)∧Hid (Bx 25 wr w.heap.size #[.string n0,.string n1,.slice ra rn rc,.slice va vn vc]∧Bx 25 wr (w.heap.size+1) #[.string ⟨#[]⟩,.string ⟨#[]⟩,.slice none 0 0,.slice none 0 0]∧Bx 25 wr (w.heap.size+2) #[.string n0,.string n1,.slice ado i capo,.slice none 0 0]∧RwO (w.heap.size+3) wr (.slice ado i capo) (rows.take i))∧Ext w wr) (fun s4 _=>((rn:Int) - intOf s4).toNat)
 case atStart=>exact ⟨0,none,0,Nat.zero_le _,rfl,Lib.hid ⟨BP0.out.1,BP0.out.2.1,BP0.out.2.2,OL.nil _ _ _ _ _⟩,e02⟩
 clear BP0 e02 hs1 hs2 s1 s2
 case round=>
  obtain⟨i,ado,capo,hi,rfl,hS,hE0⟩:=hrel
  rcases Nat.eq_or_lt_of_le hi with hin |hin
  ·have hlt:¬((i:Int)<(rn:Int)):=by omega
   obtain⟨hP,hZ,hO,hL⟩:=hS.out;rw[hin,List.take_of_length_le (by rw[←Hrn.out];exact Nat.le_refl _)]at hL
   have hO':Bx 25 wr (w.heap.size+2) #[.string n0,.string n1,.slice ado rn capo,.slice none 0 0]:=by rw[←hin];exact hO
   have ST:=Lib.hid (And.intro hP (And.intro hZ (And.intro hO' hL)));obtain⟨rado,hrado⟩:∃x,x=ado:=⟨_,rfl⟩;obtain⟨rcapo,hrcapo⟩:∃x,x=capo:=⟨_,rfl⟩;rw[←hrado,←hrcapo]at ST;have hp0:=hP.cell 0;have hp1:=hP.cell 1;have hp2:=hP.cell 2;have hp3:=hP.cell 3;have E0:=Lib.hid hE0;clear hS hZ hO hO' hL hP hE0 hrado hrcapo hin hi;go_wp2_with fail;clear hp0 hp1 hp2 hp3
   go_loopw [6] (fun s6 wr=>∃(i:Nat) (ado:Option Addr) (capo:Nat),i≤vn∧s6= .int .i64 (i:Int)∧Hid (Bx 25 wr w.heap.size #[.string n0,.string n1,.slice ra rn rc,.slice va vn vc]∧Bx 25 wr (w.heap.size+1) #[.string ⟨#[]⟩,.string ⟨#[]⟩,.slice none 0 0,.slice none 0 0]∧Bx 25 wr (w.heap.size+2) #[.string n0,.string n1,.slice rado rn rcapo,.slice ado i capo]∧RwO (w.heap.size+3) wr (.slice rado rn rcapo) rows∧VrO (w.heap.size+3) wr (.slice ado i capo) (vars.take i))∧Ext w wr) (fun s6 _=>((vn:Int) - intOf s6).toNat)
   case atStart=>exact ⟨0,none,0,Nat.zero_le _,rfl,Lib.hid ⟨ST.out.1,ST.out.2.1,ST.out.2.2.1,ST.out.2.2.2,OL.nil _ _ _ _ _⟩,E0.out⟩
   clear ST E0
   case round=>
    obtain⟨i,ado,capo,hi,rfl,hS,hE0⟩:=hrel
    rcases Nat.eq_or_lt_of_le hi with hin |hin
    ·have hlt:¬((i:Int)<(vn:Int)):=by omega
     obtain⟨hP,hZ,hO,hR,hV⟩:=hS.out;rw[hin,List.take_of_length_le (by rw[←Hn.out];exact Nat.le_refl _)]at hV
     have hO':Bx 25 wr (w.heap.size+2) #[.string n0,.string n1,.slice rado rn rcapo,.slice ado vn capo]:=by rw[←hin];exact hO
     have HRV:=Lib.hid (And.intro hR hV);have hp0:=hP.cell 0;have hp1:=hP.cell 1;have hp2:=hP.cell 2;have hp3:=hP.cell 3;have hq0:=hO'.cell 0;have hq1:=hO'.cell 1;have hq2:=hO'.cell 2;have hq3:=hO'.cell 3;have hz0:=hZ.cell 0;have hzf0:=hZ.free 0;have hz1:=hZ.cell 1;have hzf1:=hZ.free 1;have hz2:=hZ.cell 2;have hzf2:=hZ.free 2;have hz3:=hZ.cell 3;have hzf3:=hZ.free 3;have HZ:=hZ;have X0:=hE0;clear hS hO hO' hR hV hP hE0;go_wp2;have hc:=(((Chg.setCell wr (w.heap.size+1) 0 (.string n0)).trans (Chg.setCell _ (w.heap.size+1) 1 (.string n1))).trans (Chg.setCell _ (w.heap.size+1) 2 (.slice rado rn rcapo))).trans (Chg.setCell _ (w.heap.size+1) 3 (.slice ado vn capo));refine ret_box 2 25 (w.heap.size+1) 25 _ _ (by kernel_rfl) rfl ((((HZ.set 0 _).set 1 _).set 2 _).set 3 _) Tryz.underlying25 rfl (by kernel_rfl) rfl ?_;exact⟨_,rfl,⟨rado,rn,rcapo,ado,vn,capo,rfl,(HRV.out.1.chgB hc HZ (by decide) (by decide) (by decide)).mono (by omega),(HRV.out.2.chgB hc HZ (by decide) (by decide)).mono (by omega)⟩,X0.step hc (by omega)⟩
    ·have hlt:(i:Int)<(vn:Int):=by omega
     obtain⟨hP,hZ,hO,hR,hV⟩:=hS.out;obtain⟨y,hy⟩:∃y,vars[i]? =some y:=⟨_,List.getElem?_eq_getElem (by rw[←Hn.out];exact hin)⟩;obtain⟨g,off,rfl,l,h,c,hcell,hLl,hHh,hCc⟩:=HAV.out i y hy;obtain⟨hc0,hc1,hc2,hc3,hc4,hc5,hc6,hc7,hc8,hc9,hc10,hc11,hc12⟩:=hcell wr hE0;have HL:=Lib.hid hLl;have HH:=Lib.hid hHh;have HC:=Lib.hid hCc;have HTK:=Lib.hid (take_next hy);have hok:=HK4.out y (List.mem_of_getElem? hy)
     have HW:Hid ((y.2.2.1.2.1.length≤6∧y.2.2.1.2.2.length≤6)∧(y.2.2.2.1.2.1.length≤6∧y.2.2.2.1.2.2.length≤6)∧(y.2.2.2.2.2.1.length≤6∧y.2.2.2.2.2.2.length≤6)):=Lib.hid (by
      obtain⟨k1,k2,k3⟩:=hok;unfold wordsE at k1 k2 k3
      omega)
     obtain⟨w5,hw5,e5,BX,s5⟩:=alloc1 wr #[.string y.1,.bool y.2.1.1,.bool y.2.1.2.1,.bool y.2.1.2.2,.bool l.b,.slice l.a1 l.n1 l.c1,.slice l.a2 l.n2 l.c2,.bool h.b,.slice h.a1 h.n1 h.c1,.slice h.a2 h.n2 h.c2,.bool c.b,.slice c.a1 c.n1 c.c1,.slice c.a2 c.n2 c.c2] 43;have E5:=Lib.hid (hE0.trans e5);have hwr:=hE0.size;obtain⟨gx,hgx⟩:∃g,g=wr.heap.size:=⟨_,rfl⟩
     have hgl:gx<w5.heap.size:=by rw[hgx];exact BX.lt
     have hp0:=hP.cell 0;have hp1:=hP.cell 1;have hp2:=hP.cell 2;have hp3:=hP.cell 3;have ST:=Lib.hid (And.intro hP (And.intro hZ (And.intro hO (And.intro hR hV))));clear hcell hLl hHh hCc hy hok hS hP hZ hO hR hV;go_wp2_with fail;rw[←hw5,←hgx];rw[←hgx]at BX;have HGX:=Lib.hid hgx;clear hgx;clear hw5 hc0 hc1 hc2 hc3 hc4 hc5 hc6 hc7 hc8 hc9 hc10 hc11 hc12 hp0 hp1 hp2 hp3
     refine wp_region_part 43 gx #[.string y.1,.bool y.2.1.1,.bool y.2.1.2.1,.bool y.2.1.2.2,.bool l.b,.slice l.a1 l.n1 l.c1,.slice l.a2 l.n2 l.c2,.bool h.b,.slice h.a1 h.n1 h.c1,.slice h.a2 h.n2 h.c2,.bool c.b,.slice c.a1 c.n1 c.c1,.slice c.a2 c.n2 c.c2] [⟨10,4,3,fun vs b=>FrE w5.heap.size b (.agg vs.toArray) y.2.2.1⟩,⟨12,7,3,fun vs b=>FrE w5.heap.size b (.agg vs.toArray) y.2.2.2.1⟩,⟨14,10,3,fun vs b=>FrE w5.heap.size b (.agg vs.toArray) y.2.2.2.2⟩] [PP.val (.pointer (some ⟨gx,4,none⟩)),PP.val (.agg #[.bool l.b,.slice l.a1 l.n1 l.c1,.slice l.a2 l.n2 l.c2]),PP.frE y.2.2.1,PP.val (.pointer (some ⟨gx,7,none⟩)),PP.val (.agg #[.bool h.b,.slice h.a1 h.n1 h.c1,.slice h.a2 h.n2 h.c2]),PP.frE y.2.2.2.1,PP.val (.pointer (some ⟨gx,10,none⟩)),PP.val (.agg #[.bool c.b,.slice c.a1 c.n1 c.c1,.slice c.a2 c.n2 c.c2]),PP.frE y.2.2.2.2,PP.val (.pointer (some ⟨gx,4,none⟩)),PP.any,PP.val (.pointer (some ⟨gx,7,none⟩)),PP.any,PP.val (.pointer (some ⟨gx,10,none⟩)),PP.any] [] [10,9,8,7,6,5,4,3,2,1,0] (by kernel_rfl) (by kernel_rfl) (fun f=>(by simp only[fillR,fillL,List.setIfInBounds_toArray,List.set_cons_succ,List.set_cons_zero,Nat.reduceAdd];rfl)) (by intro p hp;simp only[List.mem_cons,List.not_mem_nil,or_false]at hp;rcases hp with rfl |rfl |rfl |rfl |rfl |rfl |rfl |rfl |rfl |rfl |rfl |rfl |rfl |rfl |rfl<;>rfl) BX (by intro p hp;simp only[List.mem_cons,List.not_mem_nil,or_false]at hp;rcases hp with rfl |rfl |rfl<;>rfl) (by intro p hp;simp only[List.mem_cons,List.not_mem_nil,or_false]at hp;rcases hp with rfl |rfl |rfl;exact(show 10<15 by decide);exact(show 12<15 by decide);exact(show 14<15 by decide)) (by intro p hp q hq h;simp only[List.mem_cons,List.not_mem_nil,or_false]at hp hq;rcases hp with rfl |rfl |rfl<;>rcases hq with rfl |rfl |rfl<;>first |exact absurd rfl h | (unfold apart;dsimp only;omega)) (by intro p hp vs a b he hF;simp only[List.mem_cons,List.not_mem_nil,or_false]at hp;rcases hp with rfl |rfl |rfl;exact FrR.ext hF he;exact FrR.ext hF he;exact FrR.ext hF he) (by intro p hp vs a b he hF;simp only[List.mem_cons,List.not_mem_nil,or_false]at hp;rcases hp with rfl |rfl |rfl;exact FrR.chg hF he (by omega);exact FrR.chg hF he (by omega);exact FrR.chg hF he (by omega)) ?_ ?_
     ·refine⟨?_,?_,?_,?_,?_,?_,?_,?_,?_,?_,?_,?_,?_,?_,?_,trivial⟩
      ·intro f w6 hG hp hl;simp only[OpGoal];go_simp;exact⟨_,rfl,Ext.refl _,rfl⟩
      ·intro f w6 hG hp hl;have hE:Ext w5 w6:=hG
       have q55:f 0= .pointer (some ⟨gx,4,none⟩):=tellM hp 0 0 rfl rfl
       have hbx:=BX.ext hE;have hcell0:=hbx.cell 0;have hcell1:=hbx.cell 1;have hcell2:=hbx.cell 2;have hcell3:=hbx.cell 3;have hcell4:=hbx.cell 4;have hcell5:=hbx.cell 5;have hcell6:=hbx.cell 6;have hcell7:=hbx.cell 7;have hcell8:=hbx.cell 8;have hcell9:=hbx.cell 9;have hcell10:=hbx.cell 10;have hcell11:=hbx.cell 11;have hcell12:=hbx.cell 12;simp only[OpGoal];go_simp;exact⟨_,rfl,Ext.refl _,rfl⟩
      ·intro f w6 hG hp hl;have hE:Ext w5 w6:=hG;have hS:=hE.size
       have q56:f 1= .agg #[.bool l.b,.slice l.a1 l.n1 l.c1,.slice l.a2 l.n2 l.c2]:=tellM hp 0 1 rfl rfl
       change OpGoal _ _ _ f w6 Ext _;refine oC #[f 1] Tryz.func76 rfl rfl ?_;rw[q56];refine(rqcopy3_calls _ y.2.2.1.1 y.2.2.1.2.1 y.2.2.1.2.2 _ ((HL.out.ext (E5.out.trans hE)).1) (by have:=HW.out;omega) (by have:=HW.out;omega)).mono ?_;rintro e w' ⟨v',rfl,h1,h2⟩;exact⟨v',rfl,h2,FrR.mono h1 hS⟩
      ·intro f w6 hG hp hl;simp only[OpGoal];go_simp;exact⟨_,rfl,Ext.refl _,rfl⟩
      ·intro f w6 hG hp hl;have hE:Ext w5 w6:=hG
       have q58:f 3= .pointer (some ⟨gx,7,none⟩):=tellM hp 0 3 rfl rfl
       have hbx:=BX.ext hE;have hcell0:=hbx.cell 0;have hcell1:=hbx.cell 1;have hcell2:=hbx.cell 2;have hcell3:=hbx.cell 3;have hcell4:=hbx.cell 4;have hcell5:=hbx.cell 5;have hcell6:=hbx.cell 6;have hcell7:=hbx.cell 7;have hcell8:=hbx.cell 8;have hcell9:=hbx.cell 9;have hcell10:=hbx.cell 10;have hcell11:=hbx.cell 11;have hcell12:=hbx.cell 12;simp only[OpGoal];go_simp;exact⟨_,rfl,Ext.refl _,rfl⟩
      ·intro f w6 hG hp hl;have hE:Ext w5 w6:=hG;have hS:=hE.size
       have q59:f 4= .agg #[.bool h.b,.slice h.a1 h.n1 h.c1,.slice h.a2 h.n2 h.c2]:=tellM hp 0 4 rfl rfl
       change OpGoal _ _ _ f w6 Ext _;refine oC #[f 4] Tryz.func76 rfl rfl ?_;rw[q59];refine(rqcopy3_calls _ y.2.2.2.1.1 y.2.2.2.1.2.1 y.2.2.2.1.2.2 _ ((HH.out.ext (E5.out.trans hE)).1) (by have:=HW.out;omega) (by have:=HW.out;omega)).mono ?_;rintro e w' ⟨v',rfl,h1,h2⟩;exact⟨v',rfl,h2,FrR.mono h1 hS⟩
      ·intro f w6 hG hp hl;simp only[OpGoal];go_simp;exact⟨_,rfl,Ext.refl _,rfl⟩
      ·intro f w6 hG hp hl;have hE:Ext w5 w6:=hG
       have q61:f 6= .pointer (some ⟨gx,10,none⟩):=tellM hp 0 6 rfl rfl
       have hbx:=BX.ext hE;have hcell0:=hbx.cell 0;have hcell1:=hbx.cell 1;have hcell2:=hbx.cell 2;have hcell3:=hbx.cell 3;have hcell4:=hbx.cell 4;have hcell5:=hbx.cell 5;have hcell6:=hbx.cell 6;have hcell7:=hbx.cell 7;have hcell8:=hbx.cell 8;have hcell9:=hbx.cell 9;have hcell10:=hbx.cell 10;have hcell11:=hbx.cell 11;have hcell12:=hbx.cell 12;simp only[OpGoal];go_simp;exact⟨_,rfl,Ext.refl _,rfl⟩
      ·intro f w6 hG hp hl;have hE:Ext w5 w6:=hG;have hS:=hE.size
       have q62:f 7= .agg #[.bool c.b,.slice c.a1 c.n1 c.c1,.slice c.a2 c.n2 c.c2]:=tellM hp 0 7 rfl rfl
       change OpGoal _ _ _ f w6 Ext _;refine oC #[f 7] Tryz.func76 rfl rfl ?_;rw[q62];refine(rqcopy3_calls _ y.2.2.2.2.1 y.2.2.2.2.2.1 y.2.2.2.2.2.2 _ ((HC.out.ext (E5.out.trans hE)).1) (by have:=HW.out;omega) (by have:=HW.out;omega)).mono ?_;rintro e w' ⟨v',rfl,h1,h2⟩;exact⟨v',rfl,h2,FrR.mono h1 hS⟩
      ·intro f w6 hG hp hl;simp only[OpGoal];go_simp;exact⟨_,rfl,Ext.refl _,rfl⟩
      ·intro f w6 hG hp hl;have hE:Ext w5 w6:=hG;have hS:=hE.size
       have q64:f 9= .pointer (some ⟨gx,4,none⟩):=tellM hp 0 9 rfl rfl
       have q57:=tellM hp 1 2 rfl rfl;intro hI hU;obtain⟨ad1,l1,cap1,ad2,l2,cap2,hv,hq⟩:=FrR.opn q57;exact og_partA (P:=Tryz.prog) 43 41 gx ⟨10,4,3,fun vs b=>FrE w5.heap.size b (.agg vs.toArray) y.2.2.1⟩ _ _ _ rfl rfl q64 hv (by kernel_rfl) (all3 rfl rfl rfl) (let ⟨cs,h1,h2,_⟩:=hI;⟨cs,h1,by rw[h2];exact(show 4+3≤13 by decide)⟩) rfl (fun w' hc=>FrR.chg hq hc (by omega))
      ·intro f w6 hG hp hl;have hS:w5.heap.size≤w6.heap.size:=hG.2.2.2.1;simp only[OpGoal];go_simp;exact⟨_,rfl,Ext.refl _,rfl⟩
      ·intro f w6 hG hp hl;have hS:w5.heap.size≤w6.heap.size:=hG.2.2.2.1
       have q65:f 11= .pointer (some ⟨gx,7,none⟩):=tellM hp 0 11 rfl rfl
       have q60:=tellM hp 1 5 rfl rfl;intro hI hU;obtain⟨ad1,l1,cap1,ad2,l2,cap2,hv,hq⟩:=FrR.opn q60;exact og_partA (P:=Tryz.prog) 43 41 gx ⟨12,7,3,fun vs b=>FrE w5.heap.size b (.agg vs.toArray) y.2.2.2.1⟩ _ _ _ rfl rfl q65 hv (by kernel_rfl) (all3 rfl rfl rfl) (let ⟨cs,h1,h2,_⟩:=hI;⟨cs,h1,by rw[h2];exact(show 7+3≤13 by decide)⟩) rfl (fun w' hc=>FrR.chg hq hc (by omega))
      ·intro f w6 hG hp hl;have hS:w5.heap.size≤w6.heap.size:=hG.2.2.2.1;simp only[OpGoal];go_simp;exact⟨_,rfl,Ext.refl _,rfl⟩
      ·intro f w6 hG hp hl;have hS:w5.heap.size≤w6.heap.size:=hG.2.2.2.1
       have q66:f 13= .pointer (some ⟨gx,10,none⟩):=tellM hp 0 13 rfl rfl
       have q63:=tellM hp 1 8 rfl rfl;intro hI hU;obtain⟨ad1,l1,cap1,ad2,l2,cap2,hv,hq⟩:=FrR.opn q63;exact og_partA (P:=Tryz.prog) 43 41 gx ⟨14,10,3,fun vs b=>FrE w5.heap.size b (.agg vs.toArray) y.2.2.2.2⟩ _ _ _ rfl rfl q66 hv (by kernel_rfl) (all3 rfl rfl rfl) (let ⟨cs,h1,h2,_⟩:=hI;⟨cs,h1,by rw[h2];exact(show 10+3≤13 by decide)⟩) rfl (fun w' hc=>FrR.chg hq hc (by omega))
     ·intro f w6 hC hX hp;clear hp;obtain⟨cs,hcs,hsz,hout,hpk⟩:=hX;obtain⟨vs1,l1,m1,f1⟩:=hpk _ (List.mem_cons_self ..);obtain⟨vs2,l2,m2,f2⟩:=hpk _ (List.mem_cons_of_mem _ (List.mem_cons_self ..));obtain⟨vs3,l3,m3,f3⟩:=hpk _ (List.mem_cons_of_mem _ (List.mem_cons_of_mem _ (List.mem_cons_self ..)));obtain⟨q1,rfl,f1⟩:=FrE.three f1;obtain⟨q2,rfl,f2⟩:=FrE.three f2;obtain⟨q3,rfl,f3⟩:=FrE.three f3;have hcs13:=arr13 hsz (show cs[0]? =some (.string y.1)from hout 0 (by intro p hp;simp only[List.mem_cons,List.not_mem_nil,or_false]at hp;rcases hp with rfl |rfl |rfl;exact .inl (show 0<4 by decide);exact .inl (show 0<7 by decide);exact .inl (show 0<10 by decide))) (show cs[1]? =some (.bool y.2.1.1)from hout 1 (by intro p hp;simp only[List.mem_cons,List.not_mem_nil,or_false]at hp;rcases hp with rfl |rfl |rfl;exact .inl (show 1<4 by decide);exact .inl (show 1<7 by decide);exact .inl (show 1<10 by decide))) (show cs[2]? =some (.bool y.2.1.2.1)from hout 2 (by intro p hp;simp only[List.mem_cons,List.not_mem_nil,or_false]at hp;rcases hp with rfl |rfl |rfl;exact .inl (show 2<4 by decide);exact .inl (show 2<7 by decide);exact .inl (show 2<10 by decide))) (show cs[3]? =some (.bool y.2.1.2.2)from hout 3 (by intro p hp;simp only[List.mem_cons,List.not_mem_nil,or_false]at hp;rcases hp with rfl |rfl |rfl;exact .inl (show 3<4 by decide);exact .inl (show 3<7 by decide);exact .inl (show 3<10 by decide))) (show cs[4]? =some (.bool q1.b)from m1 0 (show 0<3 by decide)) (show cs[5]? =some (.slice q1.a1 q1.n1 q1.c1)from m1 1 (show 1<3 by decide)) (show cs[6]? =some (.slice q1.a2 q1.n2 q1.c2)from m1 2 (show 2<3 by decide)) (show cs[7]? =some (.bool q2.b)from m2 0 (show 0<3 by decide)) (show cs[8]? =some (.slice q2.a1 q2.n1 q2.c1)from m2 1 (show 1<3 by decide)) (show cs[9]? =some (.slice q2.a2 q2.n2 q2.c2)from m2 2 (show 2<3 by decide)) (show cs[10]? =some (.bool q3.b)from m3 0 (show 0<3 by decide)) (show cs[11]? =some (.slice q3.a1 q3.n1 q3.c1)from m3 1 (show 1<3 by decide)) (show cs[12]? =some (.slice q3.a2 q3.n2 q3.c2)from m3 2 (show 2<3 by decide))
      subst hcs13;have E6:Ext wr w6:=e5.step (ChgS.one hC) (by have:=HGX.out;omega);obtain⟨hP,hZ,hO,hR,hV⟩:=ST.out;have hP6:=hP.ext E6;have hZ6:=hZ.ext E6;have hO6:=hO.ext E6;have hR6:=Lib.hid (hR.ext E6)
      have hgs:w.heap.size+3≤w5.heap.size:=by have:=hO.lt;omega
      have RY:VrY (w.heap.size+3) w6 (.agg #[.string y.1,.bool y.2.1.1,.bool y.2.1.2.1,.bool y.2.1.2.2,.bool q1.b,.slice q1.a1 q1.n1 q1.c1,.slice q1.a2 q1.n2 q1.c2,.bool q2.b,.slice q2.a1 q2.n1 q2.c1,.slice q2.a2 q2.n2 q2.c2,.bool q3.b,.slice q3.a1 q3.n1 q3.c1,.slice q3.a2 q3.n2 q3.c2]) y:=⟨q1,q2,q3,rfl,FrR.mono f1 hgs,FrR.mono f2 hgs,FrR.mono f3 hgs,HL.out.2,HH.out.2,HC.out.2⟩;have HRY:=Lib.hid RY;obtain⟨vs,hls,hvl,hvs⟩:=hV.ext E6
      have hvi:vs.length=i:=by rw[hvl,List.length_take,←Hn.out];omega
      subst hvi;have HLS:=Lib.hid hls;have HV:=Lib.hid (And.intro hvl hvs);have H6:=Lib.hid (And.intro hP6 hZ6);have HO6:=Lib.hid hO6;have XE6:=Lib.hid (hE0.trans E6);have hw6s:=(hE0.trans E6).size
      have hw36:w.heap.size+3≤w6.heap.size:=by have:=hO6.lt;omega
      have hq0:=hO6.cell 0;have hq1:=hO6.cell 1;have hq2:=hO6.cell 2;have hq3:=hO6.cell 3;have hc0:=hcs.cell 0;have hc1:=hcs.cell 1;have hc2:=hcs.cell 2;have hc3:=hcs.cell 3;have hc4:=hcs.cell 4;have hc5:=hcs.cell 5;have hc6:=hcs.cell 6;have hc7:=hcs.cell 7;have hc8:=hcs.cell 8;have hc9:=hcs.cell 9;have hc10:=hcs.cell 10;have hc11:=hcs.cell 11;have hc12:=hcs.cell 12;clear hcs hsz hout hpk l1 l2 l3 m1 m2 m3 f1 f2 f3 hC hP hZ hO hR hV ST RY hls hvl hvs hP6 hZ6 hO6 E6 e5 BX E5
      go_wp2_with (first
       | (at_builtin;go_loud (refine wpList_append_LS rfl _ _ 23 rfl 43 13 192 (w.heap.size+3) Tryz.underlying23 (by kernel_rfl) (by kernel_rfl) (by omega) _ vs rfl (HLS.out.ext ((Ext.refl _).alloc _)) ⟨w6.heap.size,0,none⟩ #[.string y.1,.bool y.2.1.1,.bool y.2.1.2.1,.bool y.2.1.2.2,.bool q1.b,.slice q1.a1 q1.n1 q1.c1,.slice q1.a2 q1.n2 q1.c2,.bool q2.b,.slice q2.a1 q2.n1 q2.c1,.slice q2.a2 q2.n2 q2.c2,.bool q3.b,.slice q3.a1 q3.n1 q3.c1,.slice q3.a2 q3.n2 q3.c2] rfl rfl (news_new _ _ _) (by kernel_rfl) (by omega) (by omega) (by rw[alloc_size];omega) ?_);intro g' cap2' w7 hls7 hg7 hwh7 hlt7;have hO7:=Bx.growS (HO6.out.ext ((Ext.refl _).alloc _)) (HLS.out.ext ((Ext.refl _).alloc _)) hg7 (by decide);have HO7:=Lib.hid hO7;have hr0:=hO7.cell 0;have hrf0:=hO7.free 0;have hr1:=hO7.cell 1;have hrf1:=hO7.free 1;have hr2:=hO7.cell 2;have hrf2:=hO7.free 2;have hr3:=hO7.cell 3;have hrf3:=hO7.free 3;clear hO7 hq0 hq1 hq2 hq3 hc0 hc1 hc2 hc3 hc4 hc5 hc6 hc7 hc8 hc9 hc10 hc11 hc12)
       |fail)
      go_roundw
      case rel=>
       have hA:=(Ext.refl w6).alloc (.cells #[.string y.1,.bool y.2.1.1,.bool y.2.1.2.1,.bool y.2.1.2.2,.bool q1.b,.slice q1.a1 q1.n1 q1.c1,.slice q1.a2 q1.n2 q1.c2,.bool q2.b,.slice q2.a1 q2.n1 q2.c1,.slice q2.a2 q2.n2 q2.c2,.bool q3.b,.slice q3.a1 q3.n1 q3.c1,.slice q3.a2 q3.n2 q3.c2] 43);have hLA:=HLS.out.ext hA;have c8:=Chg.setCell w7 (w.heap.size+2) 3 (.slice (some ⟨g',0,none⟩) (vs.length+1) cap2');have E8:Ext w (w7.setCell ⟨w.heap.size+2,3,none⟩ (.slice (some ⟨g',0,none⟩) (vs.length+1) cap2')):=((XE6.out.trans hA).stepG hg7 (fun g hg=>by have:=HLS.out.ge g hg;omega)).step c8 (by omega);refine⟨vs.length+1,some ⟨g',0,none⟩,cap2',by omega,congrArg (Value.int .i64) (by omega),Lib.hid ⟨(Bx.growS (H6.out.1.ext hA) hLA hg7 (by decide)).chg c8 (by omega),(Bx.growS (H6.out.2.ext hA) hLA hg7 (by decide)).chg c8 (by omega),HO7.out.set 3 _,?_,?_⟩,E8⟩
       ·rcases ownsRow_growN hLA.2 hg7 with he |⟨g9,cs9,hb9,hc9⟩
        ·exact((hR6.out.ext hA).ext he).chgB c8 HO7.out (by decide) (by decide) (by decide)
        ·exact((hR6.out.ext hA).chgB hc9 hb9 (by decide) (by decide) (by decide)).chgB c8 HO7.out (by decide) (by decide) (by decide)
       ·rw[HTK.out];exact VrO.chgB (OL.app (w:=w6.alloc (.cells #[.string y.1,.bool y.2.1.1,.bool y.2.1.2.1,.bool y.2.1.2.2,.bool q1.b,.slice q1.a1 q1.n1 q1.c1,.slice q1.a2 q1.n2 q1.c2,.bool q2.b,.slice q2.a1 q2.n1 q2.c1,.slice q2.a2 q2.n2 q2.c2,.bool q3.b,.slice q3.a1 q3.n1 q3.c1,.slice q3.a2 q3.n2 q3.c2] 43)) HV.out.1 (fun i u y h1 h2=>(HV.out.2 i u y h1 h2).ext hA) hls7 (fun u y h=>h.grow hLA hg7) ((HRY.out.ext hA).grow hLA hg7)) c8 HO7.out (by decide) (by decide)
      case measure=>simp [intOf];omega
  ·have hlt:(i:Int)<(rn:Int):=by omega
   obtain⟨hP,hZ,hO,hV⟩:=hS.out;obtain⟨y,hy⟩:∃y,rows[i]? =some y:=⟨_,List.getElem?_eq_getElem (by rw[←Hrn.out];exact hin)⟩;obtain⟨g,off,rfl,l,h,ta,tn,tc,hcell,hLl,hHh,hTt⟩:=HAR.out i y hy;obtain⟨hc0,hc1,hc2,hc3,hc4,hc5,hc6,hc7,hc8,hc9⟩:=hcell wr hE0;have HL:=Lib.hid hLl;have HH:=Lib.hid hHh;have HT:=Lib.hid hTt;have HTK:=Lib.hid (take_next hy);have HOK:=Lib.hid (HK3.out y (List.mem_of_getElem? hy))
   have HW:Hid ((y.2.2.1.1.2.1.length≤6∧y.2.2.1.1.2.2.length≤6)∧(y.2.2.1.2.2.1.length≤6∧y.2.2.1.2.2.2.length≤6)):=Lib.hid (by
    obtain⟨k1,k2, -⟩:=HOK.out;unfold wordsE at k1 k2
    omega)
   obtain⟨w5,hw5,e5,BX,s5⟩:=alloc1 wr #[.string y.1,.bool y.2.1.1,.bool y.2.1.2,.bool l.b,.slice l.a1 l.n1 l.c1,.slice l.a2 l.n2 l.c2,.bool h.b,.slice h.a1 h.n1 h.c1,.slice h.a2 h.n2 h.c2,.slice ta tn tc] 97;have E5:=Lib.hid (hE0.trans e5);have hwr:=hE0.size;obtain⟨gx,hgx⟩:∃g,g=wr.heap.size:=⟨_,rfl⟩
   have hgl:gx<w5.heap.size:=by rw[hgx];exact BX.lt
   have hp0:=hP.cell 0;have hp1:=hP.cell 1;have hp2:=hP.cell 2;have hp3:=hP.cell 3;have ST:=Lib.hid (And.intro hP (And.intro hZ (And.intro hO hV)));clear hcell hLl hHh hTt hy hS hP hZ hO hV;go_wp2_with fail;rw[←hw5,←hgx];rw[←hgx]at BX;have HGX:=Lib.hid hgx;clear hgx;clear hw5 hc0 hc1 hc2 hc3 hc4 hc5 hc6 hc7 hc8 hc9 hp0 hp1 hp2 hp3
   refine wp_region_part 97 gx #[.string y.1,.bool y.2.1.1,.bool y.2.1.2,.bool l.b,.slice l.a1 l.n1 l.c1,.slice l.a2 l.n2 l.c2,.bool h.b,.slice h.a1 h.n1 h.c1,.slice h.a2 h.n2 h.c2,.slice ta tn tc] [⟨10,3,3,fun vs b=>FrE w5.heap.size b (.agg vs.toArray) y.2.2.1.1⟩,⟨12,6,3,fun vs b=>FrE w5.heap.size b (.agg vs.toArray) y.2.2.1.2⟩,⟨14,9,1,fun vs b=>∃v,vs=[v]∧TLO w5.heap.size b v y.2.2.2⟩] [PP.val (.pointer (some ⟨gx,3,none⟩)),PP.val (.agg #[.bool l.b,.slice l.a1 l.n1 l.c1,.slice l.a2 l.n2 l.c2]),PP.frE y.2.2.1.1,PP.val (.pointer (some ⟨gx,6,none⟩)),PP.val (.agg #[.bool h.b,.slice h.a1 h.n1 h.c1,.slice h.a2 h.n2 h.c2]),PP.frE y.2.2.1.2,PP.val (.pointer (some ⟨gx,9,none⟩)),PP.val (.slice ta tn tc),PP.tlo y.2.2.2,PP.val (.pointer (some ⟨gx,3,none⟩)),PP.any,PP.val (.pointer (some ⟨gx,6,none⟩)),PP.any,PP.val (.pointer (some ⟨gx,9,none⟩)),PP.any] [] [10,9,8,7,6,5,4,3,2,1,0] (by kernel_rfl) (by kernel_rfl) (fun f=>(by simp only[fillR,fillL,List.setIfInBounds_toArray,List.set_cons_succ,List.set_cons_zero,Nat.reduceAdd];rfl)) (by intro p hp;simp only[List.mem_cons,List.not_mem_nil,or_false]at hp;rcases hp with rfl |rfl |rfl |rfl |rfl |rfl |rfl |rfl |rfl |rfl |rfl |rfl |rfl |rfl |rfl<;>rfl) BX (by intro p hp;simp only[List.mem_cons,List.not_mem_nil,or_false]at hp;rcases hp with rfl |rfl |rfl<;>rfl) (by intro p hp;simp only[List.mem_cons,List.not_mem_nil,or_false]at hp;rcases hp with rfl |rfl |rfl;exact(show 10<15 by decide);exact(show 12<15 by decide);exact(show 14<15 by decide)) (by intro p hp q hq h;simp only[List.mem_cons,List.not_mem_nil,or_false]at hp hq;rcases hp with rfl |rfl |rfl<;>rcases hq with rfl |rfl |rfl<;>first |exact absurd rfl h | (unfold apart;dsimp only;omega)) (by intro p hp vs a b he hF;simp only[List.mem_cons,List.not_mem_nil,or_false]at hp;rcases hp with rfl |rfl |rfl;exact FrR.ext hF he;exact FrR.ext hF he;exact(let ⟨v,h1,h2⟩:=hF;⟨v,h1,h2.ext he⟩)) (by intro p hp vs a b he hF;simp only[List.mem_cons,List.not_mem_nil,or_false]at hp;rcases hp with rfl |rfl |rfl;exact FrR.chg hF he (by omega);exact FrR.chg hF he (by omega);exact(let ⟨v,h1,h2⟩:=hF;⟨v,h1,h2.chg he (by omega)⟩)) ?_ ?_
   ·refine⟨?_,?_,?_,?_,?_,?_,?_,?_,?_,?_,?_,?_,?_,?_,?_,trivial⟩
    ·intro f w6 hG hp hl;simp only[OpGoal];go_simp;exact⟨_,rfl,Ext.refl _,rfl⟩
    ·intro f w6 hG hp hl;have hE:Ext w5 w6:=hG
     have q25:f 0= .pointer (some ⟨gx,3,none⟩):=tellM hp 0 0 rfl rfl
     have hbx:=BX.ext hE;have hcell0:=hbx.cell 0;have hcell1:=hbx.cell 1;have hcell2:=hbx.cell 2;have hcell3:=hbx.cell 3;have hcell4:=hbx.cell 4;have hcell5:=hbx.cell 5;have hcell6:=hbx.cell 6;have hcell7:=hbx.cell 7;have hcell8:=hbx.cell 8;have hcell9:=hbx.cell 9;simp only[OpGoal];go_simp;exact⟨_,rfl,Ext.refl _,rfl⟩
    ·intro f w6 hG hp hl;have hE:Ext w5 w6:=hG;have hS:=hE.size
     have q26:f 1= .agg #[.bool l.b,.slice l.a1 l.n1 l.c1,.slice l.a2 l.n2 l.c2]:=tellM hp 0 1 rfl rfl
     change OpGoal _ _ _ f w6 Ext _;refine oC #[f 1] Tryz.func76 rfl rfl ?_;rw[q26];refine(rqcopy3_calls _ y.2.2.1.1.1 y.2.2.1.1.2.1 y.2.2.1.1.2.2 _ ((HL.out.ext (E5.out.trans hE)).1) (by have:=HW.out;omega) (by have:=HW.out;omega)).mono ?_;rintro e w' ⟨v',rfl,h1,h2⟩;exact⟨v',rfl,h2,FrR.mono h1 hS⟩
    ·intro f w6 hG hp hl;simp only[OpGoal];go_simp;exact⟨_,rfl,Ext.refl _,rfl⟩
    ·intro f w6 hG hp hl;have hE:Ext w5 w6:=hG
     have q28:f 3= .pointer (some ⟨gx,6,none⟩):=tellM hp 0 3 rfl rfl
     have hbx:=BX.ext hE;have hcell0:=hbx.cell 0;have hcell1:=hbx.cell 1;have hcell2:=hbx.cell 2;have hcell3:=hbx.cell 3;have hcell4:=hbx.cell 4;have hcell5:=hbx.cell 5;have hcell6:=hbx.cell 6;have hcell7:=hbx.cell 7;have hcell8:=hbx.cell 8;have hcell9:=hbx.cell 9;simp only[OpGoal];go_simp;exact⟨_,rfl,Ext.refl _,rfl⟩
    ·intro f w6 hG hp hl;have hE:Ext w5 w6:=hG;have hS:=hE.size
     have q29:f 4= .agg #[.bool h.b,.slice h.a1 h.n1 h.c1,.slice h.a2 h.n2 h.c2]:=tellM hp 0 4 rfl rfl
     change OpGoal _ _ _ f w6 Ext _;refine oC #[f 4] Tryz.func76 rfl rfl ?_;rw[q29];refine(rqcopy3_calls _ y.2.2.1.2.1 y.2.2.1.2.2.1 y.2.2.1.2.2.2 _ ((HH.out.ext (E5.out.trans hE)).1) (by have:=HW.out;omega) (by have:=HW.out;omega)).mono ?_;rintro e w' ⟨v',rfl,h1,h2⟩;exact⟨v',rfl,h2,FrR.mono h1 hS⟩
    ·intro f w6 hG hp hl;simp only[OpGoal];go_simp;exact⟨_,rfl,Ext.refl _,rfl⟩
    ·intro f w6 hG hp hl;have hE:Ext w5 w6:=hG
     have q31:f 6= .pointer (some ⟨gx,9,none⟩):=tellM hp 0 6 rfl rfl
     have hcell:=(BX.ext hE).cell 9;simp only[OpGoal];go_simp;exact⟨_,rfl,Ext.refl _,rfl⟩
    ·intro f w6 hG hp hl;have hE:Ext w5 w6:=hG;have hS:=hE.size
     have q32:f 7= .slice ta tn tc:=tellM hp 0 7 rfl rfl
     change OpGoal _ _ _ f w6 Ext _;refine oC #[f 7] Tryz.func77 rfl rfl ?_;rw[q32];refine(copy5o_calls _ y.2.2.2 _ (HT.out.ext (E5.out.trans hE)) (by have:=HOK.out.2.2.1;omega) HOK.out.2.2.2).mono ?_;rintro e w' ⟨v',rfl,h1,h2⟩;exact⟨v',rfl,h2,h1.mono hS⟩
    ·intro f w6 hG hp hl;simp only[OpGoal];go_simp;exact⟨_,rfl,Ext.refl _,rfl⟩
    ·intro f w6 hG hp hl;have hE:Ext w5 w6:=hG;have hS:=hE.size
     have q34:f 9= .pointer (some ⟨gx,3,none⟩):=tellM hp 0 9 rfl rfl
     have q27:=tellM hp 1 2 rfl rfl;intro hI hU;obtain⟨ad1,l1,cap1,ad2,l2,cap2,hv,hq⟩:=FrR.opn q27;exact og_partA (P:=Tryz.prog) 97 41 gx ⟨10,3,3,fun vs b=>FrE w5.heap.size b (.agg vs.toArray) y.2.2.1.1⟩ _ _ _ rfl rfl q34 hv (by kernel_rfl) (all3 rfl rfl rfl) (let ⟨cs,h1,h2,_⟩:=hI;⟨cs,h1,by rw[h2];exact(show 3+3≤10 by decide)⟩) rfl (fun w' hc=>FrR.chg hq hc (by omega))
    ·intro f w6 hG hp hl;have hS:w5.heap.size≤w6.heap.size:=hG.2.2.2.1;simp only[OpGoal];go_simp;exact⟨_,rfl,Ext.refl _,rfl⟩
    ·intro f w6 hG hp hl;have hS:w5.heap.size≤w6.heap.size:=hG.2.2.2.1
     have q35:f 11= .pointer (some ⟨gx,6,none⟩):=tellM hp 0 11 rfl rfl
     have q30:=tellM hp 1 5 rfl rfl;intro hI hU;obtain⟨ad1,l1,cap1,ad2,l2,cap2,hv,hq⟩:=FrR.opn q30;exact og_partA (P:=Tryz.prog) 97 41 gx ⟨12,6,3,fun vs b=>FrE w5.heap.size b (.agg vs.toArray) y.2.2.1.2⟩ _ _ _ rfl rfl q35 hv (by kernel_rfl) (all3 rfl rfl rfl) (let ⟨cs,h1,h2,_⟩:=hI;⟨cs,h1,by rw[h2];exact(show 6+3≤10 by decide)⟩) rfl (fun w' hc=>FrR.chg hq hc (by omega))
    ·intro f w6 hG hp hl;have hS:w5.heap.size≤w6.heap.size:=hG.2.2.2.1;simp only[OpGoal];go_simp;exact⟨_,rfl,Ext.refl _,rfl⟩
    ·intro f w6 hG hp hl;have hS:w5.heap.size≤w6.heap.size:=hG.2.2.2.1
     have q36:f 13= .pointer (some ⟨gx,9,none⟩):=tellM hp 0 13 rfl rfl
     have q33:=tellM hp 1 8 rfl rfl;intro hI hU;obtain⟨ad,n9,cap,hv⟩:=TLO.val q33;exact og_partS (P:=Tryz.prog) 97 31 gx ⟨14,9,1,fun vs b=>∃v,vs=[v]∧TLO w5.heap.size b v y.2.2.2⟩ ad n9 cap _ _ rfl rfl q36 hv (by kernel_rfl) (let ⟨cs,h1,h2,_⟩:=hI;⟨cs,h1,by rw[h2];exact(show 9+1≤10 by decide)⟩) rfl (fun w' hc=>⟨_,rfl,(hv▸q33).chg hc (by omega)⟩)
   ·intro f w6 hC hX hp;clear hp;obtain⟨cs,hcs,hsz,hout,hpk⟩:=hX;obtain⟨vs1,l1,m1,f1⟩:=hpk _ (List.mem_cons_self ..);obtain⟨vs2,l2,m2,f2⟩:=hpk _ (List.mem_cons_of_mem _ (List.mem_cons_self ..));obtain⟨vs3,l3,m3,f3⟩:=hpk _ (List.mem_cons_of_mem _ (List.mem_cons_of_mem _ (List.mem_cons_self ..)));obtain⟨q1,rfl,f1⟩:=FrE.three f1;obtain⟨q2,rfl,f2⟩:=FrE.three f2;obtain⟨v3,rfl,f3⟩:=f3;obtain⟨at3,nt3,ct3,rfl⟩:=TLO.val f3;have hcs10:=arr10 hsz (show cs[0]? =some (.string y.1)from hout 0 (by intro p hp;simp only[List.mem_cons,List.not_mem_nil,or_false]at hp;rcases hp with rfl |rfl |rfl;exact .inl (show 0<3 by decide);exact .inl (show 0<6 by decide);exact .inl (show 0<9 by decide))) (show cs[1]? =some (.bool y.2.1.1)from hout 1 (by intro p hp;simp only[List.mem_cons,List.not_mem_nil,or_false]at hp;rcases hp with rfl |rfl |rfl;exact .inl (show 1<3 by decide);exact .inl (show 1<6 by decide);exact .inl (show 1<9 by decide))) (show cs[2]? =some (.bool y.2.1.2)from hout 2 (by intro p hp;simp only[List.mem_cons,List.not_mem_nil,or_false]at hp;rcases hp with rfl |rfl |rfl;exact .inl (show 2<3 by decide);exact .inl (show 2<6 by decide);exact .inl (show 2<9 by decide))) (show cs[3]? =some (.bool q1.b)from m1 0 (show 0<3 by decide)) (show cs[4]? =some (.slice q1.a1 q1.n1 q1.c1)from m1 1 (show 1<3 by decide)) (show cs[5]? =some (.slice q1.a2 q1.n2 q1.c2)from m1 2 (show 2<3 by decide)) (show cs[6]? =some (.bool q2.b)from m2 0 (show 0<3 by decide)) (show cs[7]? =some (.slice q2.a1 q2.n1 q2.c1)from m2 1 (show 1<3 by decide)) (show cs[8]? =some (.slice q2.a2 q2.n2 q2.c2)from m2 2 (show 2<3 by decide)) (show cs[9]? =some (.slice at3 nt3 ct3)from m3 0 (show 0<1 by decide))
    subst hcs10;have E6:Ext wr w6:=e5.step (ChgS.one hC) (by have:=HGX.out;omega);obtain⟨hP,hZ,hO,hV⟩:=ST.out;have hP6:=hP.ext E6;have hZ6:=hZ.ext E6;have hO6:=hO.ext E6
    have hgs:w.heap.size+3≤w5.heap.size:=by have:=hO.lt;omega
    have RY:RwY (w.heap.size+3) w6 (.agg #[.string y.1,.bool y.2.1.1,.bool y.2.1.2,.bool q1.b,.slice q1.a1 q1.n1 q1.c1,.slice q1.a2 q1.n2 q1.c2,.bool q2.b,.slice q2.a1 q2.n1 q2.c1,.slice q2.a2 q2.n2 q2.c2,.slice at3 nt3 ct3]) y:=⟨q1,q2,at3,nt3,ct3,rfl,FrR.mono f1 hgs,FrR.mono f2 hgs,f3.mono hgs,HL.out.2,HH.out.2⟩;have HRY:=Lib.hid RY;obtain⟨vs,hls,hvl,hvs⟩:=hV.ext E6
    have hvi:vs.length=i:=by rw[hvl,List.length_take,←Hrn.out];omega
    subst hvi;have HLS:=Lib.hid hls;have HV:=Lib.hid (And.intro hvl hvs);have H6:=Lib.hid (And.intro hP6 hZ6);have HO6:=Lib.hid hO6;have XE6:=Lib.hid (hE0.trans E6);have hw6s:=(hE0.trans E6).size
    have hw36:w.heap.size+3≤w6.heap.size:=by have:=hO6.lt;omega
    have hq0:=hO6.cell 0;have hq1:=hO6.cell 1;have hq2:=hO6.cell 2;have hq3:=hO6.cell 3;have hc0:=hcs.cell 0;have hc1:=hcs.cell 1;have hc2:=hcs.cell 2;have hc3:=hcs.cell 3;have hc4:=hcs.cell 4;have hc5:=hcs.cell 5;have hc6:=hcs.cell 6;have hc7:=hcs.cell 7;have hc8:=hcs.cell 8;have hc9:=hcs.cell 9;clear hcs hsz hout hpk l1 l2 l3 m1 m2 m3 f1 f2 f3 hC hP hZ hO hV ST RY hls hvl hvs hP6 hZ6 hO6 E6 e5 BX E5
    go_wp2_with (first
     | (at_builtin;go_loud (refine wpList_append_LS rfl _ _ 22 rfl 97 10 160 (w.heap.size+3) Tryz.underlying22 (by kernel_rfl) (by kernel_rfl) (by omega) _ vs rfl (HLS.out.ext ((Ext.refl _).alloc _)) ⟨w6.heap.size,0,none⟩ #[.string y.1,.bool y.2.1.1,.bool y.2.1.2,.bool q1.b,.slice q1.a1 q1.n1 q1.c1,.slice q1.a2 q1.n2 q1.c2,.bool q2.b,.slice q2.a1 q2.n1 q2.c1,.slice q2.a2 q2.n2 q2.c2,.slice at3 nt3 ct3] rfl rfl (news_new _ _ _) (by kernel_rfl) (by omega) (by omega) (by rw[alloc_size];omega) ?_);intro g' cap2' w7 hls7 hg7 hwh7 hlt7;have hO7:=Bx.growS (HO6.out.ext ((Ext.refl _).alloc _)) (HLS.out.ext ((Ext.refl _).alloc _)) hg7 (by decide);have HO7:=Lib.hid hO7;have hr0:=hO7.cell 0;have hrf0:=hO7.free 0;have hr1:=hO7.cell 1;have hrf1:=hO7.free 1;have hr2:=hO7.cell 2;have hrf2:=hO7.free 2;have hr3:=hO7.cell 3;have hrf3:=hO7.free 3;clear hO7 hq0 hq1 hq2 hq3 hc0 hc1 hc2 hc3 hc4 hc5 hc6 hc7 hc8 hc9)
     |fail)
    go_roundw
    case rel=>
     have hA:=(Ext.refl w6).alloc (.cells #[.string y.1,.bool y.2.1.1,.bool y.2.1.2,.bool q1.b,.slice q1.a1 q1.n1 q1.c1,.slice q1.a2 q1.n2 q1.c2,.bool q2.b,.slice q2.a1 q2.n1 q2.c1,.slice q2.a2 q2.n2 q2.c2,.slice at3 nt3 ct3] 97);have hLA:=HLS.out.ext hA;have c8:=Chg.setCell w7 (w.heap.size+2) 2 (.slice (some ⟨g',0,none⟩) (vs.length+1) cap2');have E8:Ext w (w7.setCell ⟨w.heap.size+2,2,none⟩ (.slice (some ⟨g',0,none⟩) (vs.length+1) cap2')):=((XE6.out.trans hA).stepG hg7 (fun g hg=>by have:=HLS.out.ge g hg;omega)).step c8 (by omega);refine⟨vs.length+1,some ⟨g',0,none⟩,cap2',by omega,congrArg (Value.int .i64) (by omega),Lib.hid ⟨(Bx.growS (H6.out.1.ext hA) hLA hg7 (by decide)).chg c8 (by omega),(Bx.growS (H6.out.2.ext hA) hLA hg7 (by decide)).chg c8 (by omega),HO7.out.set 2 _,?_⟩,E8⟩;rw[HTK.out];exact RwO.chgB (OL.app (w:=w6.alloc (.cells #[.string y.1,.bool y.2.1.1,.bool y.2.1.2,.bool q1.b,.slice q1.a1 q1.n1 q1.c1,.slice q1.a2 q1.n2 q1.c2,.bool q2.b,.slice q2.a1 q2.n1 q2.c1,.slice q2.a2 q2.n2 q2.c2,.slice at3 nt3 ct3] 97)) HV.out.1 (fun i u y h1 h2=>(HV.out.2 i u y h1 h2).ext hA) hls7 (fun u y h=>h.grow hLA hg7) ((HRY.out.ext hA).grow hLA hg7)) c8 HO7.out (by decide) (by decide) (by decide)
    case measure=>simp [intOf];omega
theorem same3_self(v u:Value)(e:RE)(w:World)(hv:RawE w v e)(hu:RawE w u e):Calls Tryz.prog 58 #[v,u] w fun x w'=>x= .returned (.bool true)∧Ext w w':=by
 refine(rqsame3_calls v u e.1 e.1 e.2.1 e.2.2 e.2.1 e.2.2 w hv.1 hu.1).mono ?_;rintro x w' ⟨rfl,h⟩;exact⟨by simp,h⟩
theorem all10{a0 a1 a2 a3 a4 a5 a6 a7 a8 a9:Value}(h0:a0.oneCell'=true)(h1:a1.oneCell'=true)(h2:a2.oneCell'=true)(h3:a3.oneCell'=true)(h4:a4.oneCell'=true)(h5:a5.oneCell'=true)(h6:a6.oneCell'=true)(h7:a7.oneCell'=true)(h8:a8.oneCell'=true)(h9:a9.oneCell'=true):(#[a0,a1,a2,a3,a4,a5,a6,a7,a8,a9]:Array Value).all (·.oneCell')=true:=by
 simp[h0,h1,h2,h3,h4,h5,h6,h7,h8,h9]
theorem all13{a0 a1 a2 a3 a4 a5 a6 a7 a8 a9 a10 a11 a12:Value}(h0:a0.oneCell'=true)(h1:a1.oneCell'=true)(h2:a2.oneCell'=true)(h3:a3.oneCell'=true)(h4:a4.oneCell'=true)(h5:a5.oneCell'=true)(h6:a6.oneCell'=true)(h7:a7.oneCell'=true)(h8:a8.oneCell'=true)(h9:a9.oneCell'=true)(h10:a10.oneCell'=true)(h11:a11.oneCell'=true)(h12:a12.oneCell'=true):(#[a0,a1,a2,a3,a4,a5,a6,a7,a8,a9,a10,a11,a12]:Array Value).all (·.oneCell')=true:=by
 simp[h0,h1,h2,h3,h4,h5,h6,h7,h8,h9,h10,h11,h12]
theorem cells10{wz:World}{g o:Nat}{a0 a1 a2 a3 a4 a5 a6 a7 a8 a9:Value}(h:wz.cell? ⟨g,o,none⟩=some a0∧wz.cell? ⟨g,o+1,none⟩=some a1∧wz.cell? ⟨g,o+2,none⟩=some a2∧wz.cell? ⟨g,o+3,none⟩=some a3∧wz.cell? ⟨g,o+4,none⟩=some a4∧wz.cell? ⟨g,o+5,none⟩=some a5∧wz.cell? ⟨g,o+6,none⟩=some a6∧wz.cell? ⟨g,o+7,none⟩=some a7∧wz.cell? ⟨g,o+8,none⟩=some a8∧wz.cell? ⟨g,o+9,none⟩=some a9):∀(j:Nat) (v:Value),(#[a0,a1,a2,a3,a4,a5,a6,a7,a8,a9]:Array Value)[j]? =some v→wz.cell? ⟨g,o+j,none⟩=some v:=by
 intro j v hj;obtain⟨h0,h1,h2,h3,h4,h5,h6,h7,h8,h9⟩:=h
 match j,hj with
 |0,hj=>cases hj;exact h0
 |1,hj=>cases hj;exact h1
 |2,hj=>cases hj;exact h2
 |3,hj=>cases hj;exact h3
 |4,hj=>cases hj;exact h4
 |5,hj=>cases hj;exact h5
 |6,hj=>cases hj;exact h6
 |7,hj=>cases hj;exact h7
 |8,hj=>cases hj;exact h8
 |9,hj=>cases hj;exact h9
 |j+10,hj=>simp at hj
theorem cells13{wz:World}{g o:Nat}{a0 a1 a2 a3 a4 a5 a6 a7 a8 a9 a10 a11 a12:Value}(h:wz.cell? ⟨g,o,none⟩=some a0∧wz.cell? ⟨g,o+1,none⟩=some a1∧wz.cell? ⟨g,o+2,none⟩=some a2∧wz.cell? ⟨g,o+3,none⟩=some a3∧wz.cell? ⟨g,o+4,none⟩=some a4∧wz.cell? ⟨g,o+5,none⟩=some a5∧wz.cell? ⟨g,o+6,none⟩=some a6∧wz.cell? ⟨g,o+7,none⟩=some a7∧wz.cell? ⟨g,o+8,none⟩=some a8∧wz.cell? ⟨g,o+9,none⟩=some a9∧wz.cell? ⟨g,o+10,none⟩=some a10∧wz.cell? ⟨g,o+11,none⟩=some a11∧wz.cell? ⟨g,o+12,none⟩=some a12):∀(j:Nat) (v:Value),(#[a0,a1,a2,a3,a4,a5,a6,a7,a8,a9,a10,a11,a12]:Array Value)[j]? =some v→wz.cell? ⟨g,o+j,none⟩=some v:=by
 intro j v hj;obtain⟨h0,h1,h2,h3,h4,h5,h6,h7,h8,h9,h10,h11,h12⟩:=h
 match j,hj with
 |0,hj=>cases hj;exact h0
 |1,hj=>cases hj;exact h1
 |2,hj=>cases hj;exact h2
 |3,hj=>cases hj;exact h3
 |4,hj=>cases hj;exact h4
 |5,hj=>cases hj;exact h5
 |6,hj=>cases hj;exact h6
 |7,hj=>cases hj;exact h7
 |8,hj=>cases hj;exact h8
 |9,hj=>cases hj;exact h9
 |10,hj=>cases hj;exact h10
 |11,hj=>cases hj;exact h11
 |12,hj=>cases hj;exact h12
 |j+13,hj=>simp at hj
set_option maxHeartbeats 2000000 in
theorem samePb_calls(v u:Value)(p:PbE)(w:World)(hv:PbH w v p)(hu:PbH w u p):
  Calls Tryz.prog 27 #[v,u] w fun e w'=>e= .returned (.bool true)∧Ext w w':=by
 obtain⟨⟨n0,n1⟩,rows,vars⟩:=p;obtain⟨ra,rn,rc,va,vn,vc,rfl,hr,hvv⟩:=hv;obtain⟨sa,sn,sc,ua,un,uc,rfl,hs,huu⟩:=hu;obtain⟨_,_,_,hrn,hre,hrm,hatr⟩:=hr.at;simp only[Value.slice.injEq]at hre;obtain⟨rfl,rfl,rfl⟩:=hre;obtain⟨_,_,_,hn,hve,hvm,hatv⟩:=hvv.at;simp only[Value.slice.injEq]at hve;obtain⟨rfl,rfl,rfl⟩:=hve;obtain⟨_,_,_,hsn,hse, -,hats⟩:=hs.at;simp only[Value.slice.injEq]at hse;obtain⟨rfl,rfl,rfl⟩:=hse;obtain⟨_,_,_,hun,hue, -,hatu⟩:=huu.at;simp only[Value.slice.injEq]at hue;obtain⟨rfl,rfl,rfl⟩:=hue
 simp only at hrn hn hsn hun hatr hatv hats hatu
 obtain rfl:rn=sn:=hrn.trans hsn.symm;obtain rfl:vn=un:=hn.trans hun.symm;have Hn:=Lib.hid hn;have Hrn:=Lib.hid hrn;have HAV:=Lib.hid hatv;have HAR:=Lib.hid hatr;have HAU:=Lib.hid hatu;have HAS:=Lib.hid hats;clear hr hvv hs huu hrn hn hsn hun hatr hatv hats hatu;obtain⟨w1,hw1,e1,bP,bQ,s1⟩:=alloc2 w #[.string n0,.string n1,.slice ra rn rc,.slice va vn vc] #[.string n0,.string n1,.slice sa rn sc,.slice ua vn uc] 25 25
 have hz2:((rn:Int) !=(rn:Int))=false:=by simp
 have hz3:((vn:Int) !=(vn:Int))=false:=by simp
 go_enter Tryz.func27,Tryz.ntmps27
 go_wp2_with fail;clear hz2 hz3;rw[←hw1];clear hw1
 go_loopw [5] (fun s5 wr=>∃(i:Nat),i≤rn∧s5= .int .i64 (i:Int)∧Ext w1 wr) (fun s5 _=>((rn:Int) - intOf s5).toNat)
 case atStart=>exact ⟨0,Nat.zero_le _,rfl,Ext.refl _⟩
 case round=>
  obtain⟨i,hi,rfl,hE0⟩:=hrel;have BPj:=bP.ext hE0;have BQj:=bQ.ext hE0;have hp0:=BPj.cell 0;have hp1:=BPj.cell 1;have hp2:=BPj.cell 2;have hp3:=BPj.cell 3;have hq0:=BQj.cell 0;have hq1:=BQj.cell 1;have hq2:=BQj.cell 2;have hq3:=BQj.cell 3
  rcases Nat.eq_or_lt_of_le hi with hin |hin
  ·have hlt:¬((i:Int)<(rn:Int)):=by omega
   have E0:=Lib.hid hE0;clear hi hin hE0 BPj BQj;go_wp2_with fail;clear hp0 hp1 hp2 hp3 hq0 hq1 hq2 hq3
   go_loopw [8] (fun s8 wr=>∃(i:Nat),i≤vn∧s8= .int .i64 (i:Int)∧Ext w1 wr) (fun s8 _=>((vn:Int) - intOf s8).toNat)
   case atStart=>exact ⟨0,Nat.zero_le _,rfl,E0.out⟩
   clear E0
   case round=>
    obtain⟨i,hi,rfl,hE0⟩:=hrel;have BPj:=bP.ext hE0;have BQj:=bQ.ext hE0;have hp0:=BPj.cell 0;have hp1:=BPj.cell 1;have hp2:=BPj.cell 2;have hp3:=BPj.cell 3;have hq0:=BQj.cell 0;have hq1:=BQj.cell 1;have hq2:=BQj.cell 2;have hq3:=BQj.cell 3
    rcases Nat.eq_or_lt_of_le hi with hin |hin
    ·have hlt:¬((i:Int)<(vn:Int)):=by omega
     go_wp2;go_ret;exact⟨rfl,e1.trans hE0⟩
    ·have hlt:(i:Int)<(vn:Int):=by omega
     obtain⟨y,hy⟩:∃y,vars[i]? =some y:=⟨_,List.getElem?_eq_getElem (by rw[←Hn.out];exact hin)⟩;obtain⟨g,off,rfl,l,h,c,hcell,hLl,hHh,hCc⟩:=HAV.out i y hy;obtain⟨gz,offz,rfl,ly,hy',cy,hcellz,hLy,hHy,hCy⟩:=HAU.out i y hy;have HCL:=Lib.hid hcell;have HCZ:=Lib.hid hcellz;have HL:=Lib.hid hLl;have HH:=Lib.hid hHh;have HC:=Lib.hid hCc;have HLy:=Lib.hid hLy;have HHy:=Lib.hid hHy;have HCy:=Lib.hid hCy;clear hcell hcellz hLl hHh hCc hLy hHy hCy hy;go_wp2_with fail;clear hp0 hp1 hp2 hp3 hq0 hq1 hq2 hq3;refine wp_region_alz [⟨10,43,13,#[.string ⟨#[]⟩,.bool false,.bool false,.bool false,.bool false,.slice none 0 0,.slice none 0 0,.bool false,.slice none 0 0,.slice none 0 0,.bool false,.slice none 0 0,.slice none 0 0]⟩,⟨11,43,13,#[.string ⟨#[]⟩,.bool false,.bool false,.bool false,.bool false,.slice none 0 0,.slice none 0 0,.bool false,.slice none 0 0,.slice none 0 0,.bool false,.slice none 0 0,.slice none 0 0]⟩] [⟨12,⟨10,43,13,#[.string ⟨#[]⟩,.bool false,.bool false,.bool false,.bool false,.slice none 0 0,.slice none 0 0,.bool false,.slice none 0 0,.slice none 0 0,.bool false,.slice none 0 0,.slice none 0 0]⟩,PZ.val (.agg #[.string y.1,.bool y.2.1.1,.bool y.2.1.2.1,.bool y.2.1.2.2,.bool l.b,.slice l.a1 l.n1 l.c1,.slice l.a2 l.n2 l.c2,.bool h.b,.slice h.a1 h.n1 h.c1,.slice h.a2 h.n2 h.c2,.bool c.b,.slice c.a1 c.n1 c.c1,.slice c.a2 c.n2 c.c2])⟩,⟨13,⟨11,43,13,#[.string ⟨#[]⟩,.bool false,.bool false,.bool false,.bool false,.slice none 0 0,.slice none 0 0,.bool false,.slice none 0 0,.slice none 0 0,.bool false,.slice none 0 0,.slice none 0 0]⟩,PZ.val (.agg #[.string y.1,.bool y.2.1.1,.bool y.2.1.2.1,.bool y.2.1.2.2,.bool ly.b,.slice ly.a1 ly.n1 ly.c1,.slice ly.a2 ly.n2 ly.c2,.bool hy'.b,.slice hy'.a1 hy'.n1 hy'.c1,.slice hy'.a2 hy'.n2 hy'.c2,.bool cy.b,.slice cy.a1 cy.n1 cy.c1,.slice cy.a2 cy.n2 cy.c2])⟩] [PZ.val (.pointer (some ⟨w.heap.size,3,none⟩)),PZ.val (.slice (some ⟨g,off,none⟩) vn vc),PZ.val (.int .i64 (i:Int)),PZ.val (.pointer (some ⟨g,off+i*13,none⟩)),PZ.val (.agg #[.string y.1,.bool y.2.1.1,.bool y.2.1.2.1,.bool y.2.1.2.2,.bool l.b,.slice l.a1 l.n1 l.c1,.slice l.a2 l.n2 l.c2,.bool h.b,.slice h.a1 h.n1 h.c1,.slice h.a2 h.n2 h.c2,.bool c.b,.slice c.a1 c.n1 c.c1,.slice c.a2 c.n2 c.c2]),PZ.val (.pointer (some ⟨(w.heap.size+1),3,none⟩)),PZ.val (.slice (some ⟨gz,offz,none⟩) vn uc),PZ.val (.int .i64 (i:Int)),PZ.val (.pointer (some ⟨gz,offz+i*13,none⟩)),PZ.val (.agg #[.string y.1,.bool y.2.1.1,.bool y.2.1.2.1,.bool y.2.1.2.2,.bool ly.b,.slice ly.a1 ly.n1 ly.c1,.slice ly.a2 ly.n2 ly.c2,.bool hy'.b,.slice hy'.a1 hy'.n1 hy'.c1,.slice hy'.a2 hy'.n2 hy'.c2,.bool cy.b,.slice cy.a1 cy.n1 cy.c1,.slice cy.a2 cy.n2 cy.c2]),PZ.any,PZ.any,PZ.any,PZ.any]
      (by kernel_rfl) (by kernel_rfl) (fun f=>(by simp only[fillR,fillL,List.setIfInBounds_toArray,List.set_cons_succ,List.set_cons_zero,Nat.reduceAdd];rfl)) ?_ ?_ ?_ ?_ ?_
     ·intro x hx;simp only[List.mem_cons,List.not_mem_nil,or_false]at hx;rcases hx with rfl |rfl
      ·exact⟨rfl,rfl,rfl⟩
      ·exact⟨rfl,rfl,rfl⟩
     ·intro x hx;simp only[List.mem_cons,List.not_mem_nil,or_false]at hx;rcases hx with rfl |rfl<;>exact ⟨rfl,rfl,by simp⟩
     ·intro x hx y hy h;simp only[List.mem_cons,List.not_mem_nil,or_false]at hx hy;rcases hx with rfl |rfl<;>rcases hy with rfl |rfl
      ·exact absurd rfl h
      ·show 10≠11;decide
      ·show 11≠10;decide
      ·exact absurd rfl h
     ·refine⟨?_,?_,?_,?_,?_,?_,?_,?_,?_,?_,?_,?_,?_,?_,trivial⟩
      ·intro f wz hE hp;have hS:=hE.size;change OpGoal _ _ _ f wz Ext _;simp only[OpGoal];go_simp;exact⟨_,rfl,Ext.refl _,rfl⟩
      ·intro f wz hE hp;have hS:=hE.size
       have q108:f 0= .pointer (some ⟨w.heap.size,3,none⟩):=tellZ hp 0 0 rfl rfl rfl
       have hcell:=(BPj.ext hE).cell 3;change OpGoal _ _ _ f wz Ext _;simp only[OpGoal];go_simp;exact⟨_,rfl,Ext.refl _,rfl⟩
      ·intro f wz hE hp;have hS:=hE.size;change OpGoal _ _ _ f wz Ext _;simp only[OpGoal];go_simp;exact⟨_,rfl,Ext.refl _,rfl⟩
      ·intro f wz hE hp;have hS:=hE.size
       have q109:f 1= .slice (some ⟨g,off,none⟩) vn vc:=tellZ hp 0 1 rfl rfl rfl
       have q110:f 2= .int .i64 (i:Int):=tellZ hp 1 2 rfl rfl rfl
       change OpGoal _ _ _ f wz Ext _;simp only[OpGoal];go_simp;exact⟨_,rfl,Ext.refl _,rfl⟩
      ·intro f wz hE hp;have hS:=hE.size
       have q111:f 3= .pointer (some ⟨g,off+i*13,none⟩):=tellZ hp 0 3 rfl rfl rfl
       change OpGoal _ _ _ f wz Ext _;exact og_loadAt (P:=Tryz.prog) _ _ g (off+i*13) _ _ rfl rfl q111 (cells13 (HCL.out _ (e1.trans (hE0.trans hE)))) Tryz.underlying43 rfl (by kernel_rfl) rfl
      ·intro f wz hE hp;have hS:=hE.size;change OpGoal _ _ _ f wz Ext _;simp only[OpGoal];go_simp;exact⟨_,rfl,Ext.refl _,rfl⟩
      ·intro f wz hE hp;have hS:=hE.size
       have q113:f 5= .pointer (some ⟨(w.heap.size+1),3,none⟩):=tellZ hp 0 5 rfl rfl rfl
       have hcell:=(BQj.ext hE).cell 3;change OpGoal _ _ _ f wz Ext _;simp only[OpGoal];go_simp;exact⟨_,rfl,Ext.refl _,rfl⟩
      ·intro f wz hE hp;have hS:=hE.size;change OpGoal _ _ _ f wz Ext _;simp only[OpGoal];go_simp;exact⟨_,rfl,Ext.refl _,rfl⟩
      ·intro f wz hE hp;have hS:=hE.size
       have q114:f 6= .slice (some ⟨gz,offz,none⟩) vn uc:=tellZ hp 0 6 rfl rfl rfl
       have q115:f 7= .int .i64 (i:Int):=tellZ hp 1 7 rfl rfl rfl
       change OpGoal _ _ _ f wz Ext _;simp only[OpGoal];go_simp;exact⟨_,rfl,Ext.refl _,rfl⟩
      ·intro f wz hE hp;have hS:=hE.size
       have q116:f 8= .pointer (some ⟨gz,offz+i*13,none⟩):=tellZ hp 0 8 rfl rfl rfl
       change OpGoal _ _ _ f wz Ext _;exact og_loadAt (P:=Tryz.prog) _ _ gz (offz+i*13) _ _ rfl rfl q116 (cells13 (HCZ.out _ (e1.trans (hE0.trans hE)))) Tryz.underlying43 rfl (by kernel_rfl) rfl
      ·intro f wz hE hp;have hS:=hE.size;change OpGoal _ _ _ f wz (fun a b=>b=a.alloc _) _;exact og_alloc (P:=Tryz.prog) _ _ (.agg #[.string ⟨#[]⟩,.bool false,.bool false,.bool false,.bool false,.slice none 0 0,.slice none 0 0,.bool false,.slice none 0 0,.slice none 0 0,.bool false,.slice none 0 0,.slice none 0 0]) rfl rfl (by kernel_rfl) rfl
      ·intro f wz hE hp;have hS:=hE.size;change OpGoal _ _ _ f wz (fun a b=>b=a.alloc _) _;exact og_alloc (P:=Tryz.prog) _ _ (.agg #[.string ⟨#[]⟩,.bool false,.bool false,.bool false,.bool false,.slice none 0 0,.slice none 0 0,.bool false,.slice none 0 0,.slice none 0 0,.bool false,.slice none 0 0,.slice none 0 0]) rfl rfl (by kernel_rfl) rfl
      ·intro f wz hE hp;have hS:=hE.size
       have q112:f 4= .agg #[.string y.1,.bool y.2.1.1,.bool y.2.1.2.1,.bool y.2.1.2.2,.bool l.b,.slice l.a1 l.n1 l.c1,.slice l.a2 l.n2 l.c2,.bool h.b,.slice h.a1 h.n1 h.c1,.slice h.a2 h.n2 h.c2,.bool c.b,.slice c.a1 c.n1 c.c1,.slice c.a2 c.n2 c.c2]:=tellZ hp 1 4 rfl rfl rfl
       intro g hfa hSg hbx;change OpGoal _ _ _ f wz (Chg g) _;exact og_storeZ (P:=Tryz.prog) (PZ.val (.agg #[.string y.1,.bool y.2.1.1,.bool y.2.1.2.1,.bool y.2.1.2.2,.bool l.b,.slice l.a1 l.n1 l.c1,.slice l.a2 l.n2 l.c2,.bool h.b,.slice h.a1 h.n1 h.c1,.slice h.a2 h.n2 h.c2,.bool c.b,.slice c.a1 c.n1 c.c1,.slice c.a2 c.n2 c.c2])) 13 _ _ _ g _ _ _ rfl rfl hfa q112 hbx (by kernel_rfl) rfl rfl (all13 rfl rfl rfl rfl rfl rfl rfl rfl rfl rfl rfl rfl rfl) hSg (by simp[TZ]) rfl
      ·intro f wz hE hp;have hS:=hE.size
       have q117:f 9= .agg #[.string y.1,.bool y.2.1.1,.bool y.2.1.2.1,.bool y.2.1.2.2,.bool ly.b,.slice ly.a1 ly.n1 ly.c1,.slice ly.a2 ly.n2 ly.c2,.bool hy'.b,.slice hy'.a1 hy'.n1 hy'.c1,.slice hy'.a2 hy'.n2 hy'.c2,.bool cy.b,.slice cy.a1 cy.n1 cy.c1,.slice cy.a2 cy.n2 cy.c2]:=tellZ hp 1 9 rfl rfl rfl
       intro g hfa hSg hbx;change OpGoal _ _ _ f wz (Chg g) _;exact og_storeZ (P:=Tryz.prog) (PZ.val (.agg #[.string y.1,.bool y.2.1.1,.bool y.2.1.2.1,.bool y.2.1.2.2,.bool ly.b,.slice ly.a1 ly.n1 ly.c1,.slice ly.a2 ly.n2 ly.c2,.bool hy'.b,.slice hy'.a1 hy'.n1 hy'.c1,.slice hy'.a2 hy'.n2 hy'.c2,.bool cy.b,.slice cy.a1 cy.n1 cy.c1,.slice cy.a2 cy.n2 cy.c2])) 13 _ _ _ g _ _ _ rfl rfl hfa q117 hbx (by kernel_rfl) rfl rfl (all13 rfl rfl rfl rfl rfl rfl rfl rfl rfl rfl rfl rfl rfl) hSg (by simp[TZ]) rfl
     ·intro f wq hE hp hal;obtain⟨ga9,ca9,fa9,la9,ba9,na9,pa9⟩:=hal ⟨10,43,13,#[.string ⟨#[]⟩,.bool false,.bool false,.bool false,.bool false,.slice none 0 0,.slice none 0 0,.bool false,.slice none 0 0,.slice none 0 0,.bool false,.slice none 0 0,.slice none 0 0]⟩ (by simp) (by decide)
      dsimp only at fa9 la9 ba9 na9
      have za9:=pa9 ⟨12,⟨10,43,13,#[.string ⟨#[]⟩,.bool false,.bool false,.bool false,.bool false,.slice none 0 0,.slice none 0 0,.bool false,.slice none 0 0,.slice none 0 0,.bool false,.slice none 0 0,.slice none 0 0]⟩,PZ.val (.agg #[.string y.1,.bool y.2.1.1,.bool y.2.1.2.1,.bool y.2.1.2.2,.bool l.b,.slice l.a1 l.n1 l.c1,.slice l.a2 l.n2 l.c2,.bool h.b,.slice h.a1 h.n1 h.c1,.slice h.a2 h.n2 h.c2,.bool c.b,.slice c.a1 c.n1 c.c1,.slice c.a2 c.n2 c.c2])⟩ (by simp) (by show 12<14;decide) rfl rfl;clear pa9;obtain⟨ga10,ca10,fa10,la10,ba10,na10,pa10⟩:=hal ⟨11,43,13,#[.string ⟨#[]⟩,.bool false,.bool false,.bool false,.bool false,.slice none 0 0,.slice none 0 0,.bool false,.slice none 0 0,.slice none 0 0,.bool false,.slice none 0 0,.slice none 0 0]⟩ (by simp) (by decide)
      dsimp only at fa10 la10 ba10 na10
      have za10:=pa10 ⟨13,⟨11,43,13,#[.string ⟨#[]⟩,.bool false,.bool false,.bool false,.bool false,.slice none 0 0,.slice none 0 0,.bool false,.slice none 0 0,.slice none 0 0,.bool false,.slice none 0 0,.slice none 0 0]⟩,PZ.val (.agg #[.string y.1,.bool y.2.1.1,.bool y.2.1.2.1,.bool y.2.1.2.2,.bool ly.b,.slice ly.a1 ly.n1 ly.c1,.slice ly.a2 ly.n2 ly.c2,.bool hy'.b,.slice hy'.a1 hy'.n1 hy'.c1,.slice hy'.a2 hy'.n2 hy'.c2,.bool cy.b,.slice cy.a1 cy.n1 cy.c1,.slice cy.a2 cy.n2 cy.c2])⟩ (by simp) (by show 13<14;decide) rfl rfl;clear pa10;clear hp hal;have X0:=hE0.trans hE;simp only[fa9,fa10]
      cases za9
      cases za10
      have hba:=ba9;have hbb:=ba10;have B10:=hba;have B20:=hbb;clear hE;have hc0:=hba.cell 0;have hc1:=hba.cell 1;have hc2:=hba.cell 2;have hc3:=hba.cell 3;have hc4:=hba.cell 4;have hc5:=hba.cell 5;have hc6:=hba.cell 6;have hc7:=hba.cell 7;have hc8:=hba.cell 8;have hc9:=hba.cell 9;have hc10:=hba.cell 10;have hc11:=hba.cell 11;have hc12:=hba.cell 12;have hd0:=hbb.cell 0;have hd1:=hbb.cell 1;have hd2:=hbb.cell 2;have hd3:=hbb.cell 3;have hd4:=hbb.cell 4;have hd5:=hbb.cell 5;have hd6:=hbb.cell 6;have hd7:=hbb.cell 7;have hd8:=hbb.cell 8;have hd9:=hbb.cell 9;have hd10:=hbb.cell 10;have hd11:=hbb.cell 11;have hd12:=hbb.cell 12;clear hba hbb;go_wp2_with fail;refine(same3_self _ _ _ _ (HL.out.ext (e1.trans X0)) (HLy.out.ext (e1.trans X0))).mono ?_;rintro e wy1 ⟨rfl,ee1⟩;have X1:=X0.trans ee1;have hba:=B10.ext ee1;have hbb:=B20.ext ee1;have B11:=hba;have B21:=hbb;clear hc0 hc1 hc2 hc3 hc4 hc5 hc6 hc7 hc8 hc9 hc10 hc11 hc12 hd0 hd1 hd2 hd3 hd4 hd5 hd6 hd7 hd8 hd9 hd10 hd11 hd12;have hc0:=hba.cell 0;have hc1:=hba.cell 1;have hc2:=hba.cell 2;have hc3:=hba.cell 3;have hc4:=hba.cell 4;have hc5:=hba.cell 5;have hc6:=hba.cell 6;have hc7:=hba.cell 7;have hc8:=hba.cell 8;have hc9:=hba.cell 9;have hc10:=hba.cell 10;have hc11:=hba.cell 11;have hc12:=hba.cell 12;have hd0:=hbb.cell 0;have hd1:=hbb.cell 1;have hd2:=hbb.cell 2;have hd3:=hbb.cell 3;have hd4:=hbb.cell 4;have hd5:=hbb.cell 5;have hd6:=hbb.cell 6
      have hd7:=hbb.cell 7;have hd8:=hbb.cell 8;have hd9:=hbb.cell 9;have hd10:=hbb.cell 10;have hd11:=hbb.cell 11;have hd12:=hbb.cell 12;clear hba hbb;go_wp2_with fail;refine(same3_self _ _ _ _ (HH.out.ext (e1.trans X1)) (HHy.out.ext (e1.trans X1))).mono ?_;rintro e wy2 ⟨rfl,ee2⟩;have X2:=X1.trans ee2;have hba:=B11.ext ee2;have hbb:=B21.ext ee2;have B12:=hba;have B22:=hbb;clear hc0 hc1 hc2 hc3 hc4 hc5 hc6 hc7 hc8 hc9 hc10 hc11 hc12 hd0 hd1 hd2 hd3 hd4 hd5 hd6 hd7 hd8 hd9 hd10 hd11 hd12;have hc0:=hba.cell 0;have hc1:=hba.cell 1;have hc2:=hba.cell 2;have hc3:=hba.cell 3;have hc4:=hba.cell 4;have hc5:=hba.cell 5;have hc6:=hba.cell 6;have hc7:=hba.cell 7;have hc8:=hba.cell 8;have hc9:=hba.cell 9;have hc10:=hba.cell 10;have hc11:=hba.cell 11;have hc12:=hba.cell 12;have hd0:=hbb.cell 0;have hd1:=hbb.cell 1;have hd2:=hbb.cell 2;have hd3:=hbb.cell 3;have hd4:=hbb.cell 4;have hd5:=hbb.cell 5;have hd6:=hbb.cell 6;have hd7:=hbb.cell 7;have hd8:=hbb.cell 8;have hd9:=hbb.cell 9;have hd10:=hbb.cell 10;have hd11:=hbb.cell 11;have hd12:=hbb.cell 12;clear hba hbb;go_wp2_with fail;refine(same3_self _ _ _ _ (HC.out.ext (e1.trans X2)) (HCy.out.ext (e1.trans X2))).mono ?_;rintro e wy3 ⟨rfl,ee3⟩;have X3:=X2.trans ee3;have hba:=B12.ext ee3;have hbb:=B22.ext ee3;have B13:=hba;have B23:=hbb;clear hc0 hc1 hc2 hc3 hc4 hc5 hc6 hc7 hc8 hc9 hc10 hc11 hc12 hd0 hd1 hd2 hd3 hd4 hd5 hd6 hd7 hd8 hd9 hd10 hd11 hd12;have hc0:=hba.cell 0
      have hc1:=hba.cell 1;have hc2:=hba.cell 2;have hc3:=hba.cell 3;have hc4:=hba.cell 4;have hc5:=hba.cell 5;have hc6:=hba.cell 6;have hc7:=hba.cell 7;have hc8:=hba.cell 8;have hc9:=hba.cell 9;have hc10:=hba.cell 10;have hc11:=hba.cell 11;have hc12:=hba.cell 12;have hd0:=hbb.cell 0;have hd1:=hbb.cell 1;have hd2:=hbb.cell 2;have hd3:=hbb.cell 3;have hd4:=hbb.cell 4;have hd5:=hbb.cell 5;have hd6:=hbb.cell 6;have hd7:=hbb.cell 7;have hd8:=hbb.cell 8;have hd9:=hbb.cell 9;have hd10:=hbb.cell 10;have hd11:=hbb.cell 11;have hd12:=hbb.cell 12;go_wp2;go_roundw
      case rel=>exact ⟨i+1,by omega,congrArg (Value.int .i64) (by omega),X3⟩
      case measure=>simp [intOf];omega
  ·have hlt:(i:Int)<(rn:Int):=by omega
   obtain⟨y,hy⟩:∃y,rows[i]? =some y:=⟨_,List.getElem?_eq_getElem (by rw[←Hrn.out];exact hin)⟩;obtain⟨g,off,rfl,l,h,ta,tn,tc,hcell,hLl,hHh,hTt⟩:=HAR.out i y hy;obtain⟨gz,offz,rfl,ly,hy',tay,tny,tcy,hcellz,hLy,hHy,hTy⟩:=HAS.out i y hy;have HCL:=Lib.hid hcell;have HCZ:=Lib.hid hcellz;have HL:=Lib.hid hLl;have HH:=Lib.hid hHh;have HT:=Lib.hid hTt;have HLy:=Lib.hid hLy;have HHy:=Lib.hid hHy;have HTy:=Lib.hid hTy;clear hcell hcellz hLl hHh hTt hLy hHy hTy hy;go_wp2_with fail;clear hp0 hp1 hp2 hp3 hq0 hq1 hq2 hq3;refine wp_region_alz [⟨10,97,10,#[.string ⟨#[]⟩,.bool false,.bool false,.bool false,.slice none 0 0,.slice none 0 0,.bool false,.slice none 0 0,.slice none 0 0,.slice none 0 0]⟩,⟨11,97,10,#[.string ⟨#[]⟩,.bool false,.bool false,.bool false,.slice none 0 0,.slice none 0 0,.bool false,.slice none 0 0,.slice none 0 0,.slice none 0 0]⟩] [⟨12,⟨10,97,10,#[.string ⟨#[]⟩,.bool false,.bool false,.bool false,.slice none 0 0,.slice none 0 0,.bool false,.slice none 0 0,.slice none 0 0,.slice none 0 0]⟩,PZ.val (.agg #[.string y.1,.bool y.2.1.1,.bool y.2.1.2,.bool l.b,.slice l.a1 l.n1 l.c1,.slice l.a2 l.n2 l.c2,.bool h.b,.slice h.a1 h.n1 h.c1,.slice h.a2 h.n2 h.c2,.slice ta tn tc])⟩,⟨13,⟨11,97,10,#[.string ⟨#[]⟩,.bool false,.bool false,.bool false,.slice none 0 0,.slice none 0 0,.bool false,.slice none 0 0,.slice none 0 0,.slice none 0 0]⟩,PZ.val (.agg #[.string y.1,.bool y.2.1.1,.bool y.2.1.2,.bool ly.b,.slice ly.a1 ly.n1 ly.c1,.slice ly.a2 ly.n2 ly.c2,.bool hy'.b,.slice hy'.a1 hy'.n1 hy'.c1,.slice hy'.a2 hy'.n2 hy'.c2,.slice tay tny tcy])⟩] [PZ.val (.pointer (some ⟨w.heap.size,2,none⟩)),PZ.val (.slice (some ⟨g,off,none⟩) rn rc),PZ.val (.int .i64 (i:Int)),PZ.val (.pointer (some ⟨g,off+i*10,none⟩)),PZ.val (.agg #[.string y.1,.bool y.2.1.1,.bool y.2.1.2,.bool l.b,.slice l.a1 l.n1 l.c1,.slice l.a2 l.n2 l.c2,.bool h.b,.slice h.a1 h.n1 h.c1,.slice h.a2 h.n2 h.c2,.slice ta tn tc]),PZ.val (.pointer (some ⟨(w.heap.size+1),2,none⟩)),PZ.val (.slice (some ⟨gz,offz,none⟩) rn sc),PZ.val (.int .i64 (i:Int)),PZ.val (.pointer (some ⟨gz,offz+i*10,none⟩)),PZ.val (.agg #[.string y.1,.bool y.2.1.1,.bool y.2.1.2,.bool ly.b,.slice ly.a1 ly.n1 ly.c1,.slice ly.a2 ly.n2 ly.c2,.bool hy'.b,.slice hy'.a1 hy'.n1 hy'.c1,.slice hy'.a2 hy'.n2 hy'.c2,.slice tay tny tcy]),PZ.any,PZ.any,PZ.any,PZ.any]
    (by kernel_rfl) (by kernel_rfl) (fun f=>(by simp only[fillR,fillL,List.setIfInBounds_toArray,List.set_cons_succ,List.set_cons_zero,Nat.reduceAdd];rfl)) ?_ ?_ ?_ ?_ ?_
   ·intro x hx;simp only[List.mem_cons,List.not_mem_nil,or_false]at hx;rcases hx with rfl |rfl
    ·exact⟨rfl,rfl,rfl⟩
    ·exact⟨rfl,rfl,rfl⟩
   ·intro x hx;simp only[List.mem_cons,List.not_mem_nil,or_false]at hx;rcases hx with rfl |rfl<;>exact ⟨rfl,rfl,by simp⟩
   ·intro x hx y hy h;simp only[List.mem_cons,List.not_mem_nil,or_false]at hx hy;rcases hx with rfl |rfl<;>rcases hy with rfl |rfl
    ·exact absurd rfl h
    ·show 10≠11;decide
    ·show 11≠10;decide
    ·exact absurd rfl h
   ·refine⟨?_,?_,?_,?_,?_,?_,?_,?_,?_,?_,?_,?_,?_,?_,trivial⟩
    ·intro f wz hE hp;have hS:=hE.size;change OpGoal _ _ _ f wz Ext _;simp only[OpGoal];go_simp;exact⟨_,rfl,Ext.refl _,rfl⟩
    ·intro f wz hE hp;have hS:=hE.size
     have q48:f 0= .pointer (some ⟨w.heap.size,2,none⟩):=tellZ hp 0 0 rfl rfl rfl
     have hcell:=(BPj.ext hE).cell 2;change OpGoal _ _ _ f wz Ext _;simp only[OpGoal];go_simp;exact⟨_,rfl,Ext.refl _,rfl⟩
    ·intro f wz hE hp;have hS:=hE.size;change OpGoal _ _ _ f wz Ext _;simp only[OpGoal];go_simp;exact⟨_,rfl,Ext.refl _,rfl⟩
    ·intro f wz hE hp;have hS:=hE.size
     have q49:f 1= .slice (some ⟨g,off,none⟩) rn rc:=tellZ hp 0 1 rfl rfl rfl
     have q50:f 2= .int .i64 (i:Int):=tellZ hp 1 2 rfl rfl rfl
     change OpGoal _ _ _ f wz Ext _;simp only[OpGoal];go_simp;exact⟨_,rfl,Ext.refl _,rfl⟩
    ·intro f wz hE hp;have hS:=hE.size
     have q51:f 3= .pointer (some ⟨g,off+i*10,none⟩):=tellZ hp 0 3 rfl rfl rfl
     change OpGoal _ _ _ f wz Ext _;exact og_loadAt (P:=Tryz.prog) _ _ g (off+i*10) _ _ rfl rfl q51 (cells10 (HCL.out _ (e1.trans (hE0.trans hE)))) Tryz.underlying97 rfl (by kernel_rfl) rfl
    ·intro f wz hE hp;have hS:=hE.size;change OpGoal _ _ _ f wz Ext _;simp only[OpGoal];go_simp;exact⟨_,rfl,Ext.refl _,rfl⟩
    ·intro f wz hE hp;have hS:=hE.size
     have q53:f 5= .pointer (some ⟨(w.heap.size+1),2,none⟩):=tellZ hp 0 5 rfl rfl rfl
     have hcell:=(BQj.ext hE).cell 2;change OpGoal _ _ _ f wz Ext _;simp only[OpGoal];go_simp;exact⟨_,rfl,Ext.refl _,rfl⟩
    ·intro f wz hE hp;have hS:=hE.size;change OpGoal _ _ _ f wz Ext _;simp only[OpGoal];go_simp;exact⟨_,rfl,Ext.refl _,rfl⟩
    ·intro f wz hE hp;have hS:=hE.size
     have q54:f 6= .slice (some ⟨gz,offz,none⟩) rn sc:=tellZ hp 0 6 rfl rfl rfl
     have q55:f 7= .int .i64 (i:Int):=tellZ hp 1 7 rfl rfl rfl
     change OpGoal _ _ _ f wz Ext _;simp only[OpGoal];go_simp;exact⟨_,rfl,Ext.refl _,rfl⟩
    ·intro f wz hE hp;have hS:=hE.size
     have q56:f 8= .pointer (some ⟨gz,offz+i*10,none⟩):=tellZ hp 0 8 rfl rfl rfl
     change OpGoal _ _ _ f wz Ext _;exact og_loadAt (P:=Tryz.prog) _ _ gz (offz+i*10) _ _ rfl rfl q56 (cells10 (HCZ.out _ (e1.trans (hE0.trans hE)))) Tryz.underlying97 rfl (by kernel_rfl) rfl
    ·intro f wz hE hp;have hS:=hE.size;change OpGoal _ _ _ f wz (fun a b=>b=a.alloc _) _;exact og_alloc (P:=Tryz.prog) _ _ (.agg #[.string ⟨#[]⟩,.bool false,.bool false,.bool false,.slice none 0 0,.slice none 0 0,.bool false,.slice none 0 0,.slice none 0 0,.slice none 0 0]) rfl rfl (by kernel_rfl) rfl
    ·intro f wz hE hp;have hS:=hE.size;change OpGoal _ _ _ f wz (fun a b=>b=a.alloc _) _;exact og_alloc (P:=Tryz.prog) _ _ (.agg #[.string ⟨#[]⟩,.bool false,.bool false,.bool false,.slice none 0 0,.slice none 0 0,.bool false,.slice none 0 0,.slice none 0 0,.slice none 0 0]) rfl rfl (by kernel_rfl) rfl
    ·intro f wz hE hp;have hS:=hE.size
     have q52:f 4= .agg #[.string y.1,.bool y.2.1.1,.bool y.2.1.2,.bool l.b,.slice l.a1 l.n1 l.c1,.slice l.a2 l.n2 l.c2,.bool h.b,.slice h.a1 h.n1 h.c1,.slice h.a2 h.n2 h.c2,.slice ta tn tc]:=tellZ hp 1 4 rfl rfl rfl
     intro g hfa hSg hbx;change OpGoal _ _ _ f wz (Chg g) _;exact og_storeZ (P:=Tryz.prog) (PZ.val (.agg #[.string y.1,.bool y.2.1.1,.bool y.2.1.2,.bool l.b,.slice l.a1 l.n1 l.c1,.slice l.a2 l.n2 l.c2,.bool h.b,.slice h.a1 h.n1 h.c1,.slice h.a2 h.n2 h.c2,.slice ta tn tc])) 10 _ _ _ g _ _ _ rfl rfl hfa q52 hbx (by kernel_rfl) rfl rfl (all10 rfl rfl rfl rfl rfl rfl rfl rfl rfl rfl) hSg (by simp[TZ]) rfl
    ·intro f wz hE hp;have hS:=hE.size
     have q57:f 9= .agg #[.string y.1,.bool y.2.1.1,.bool y.2.1.2,.bool ly.b,.slice ly.a1 ly.n1 ly.c1,.slice ly.a2 ly.n2 ly.c2,.bool hy'.b,.slice hy'.a1 hy'.n1 hy'.c1,.slice hy'.a2 hy'.n2 hy'.c2,.slice tay tny tcy]:=tellZ hp 1 9 rfl rfl rfl
     intro g hfa hSg hbx;change OpGoal _ _ _ f wz (Chg g) _;exact og_storeZ (P:=Tryz.prog) (PZ.val (.agg #[.string y.1,.bool y.2.1.1,.bool y.2.1.2,.bool ly.b,.slice ly.a1 ly.n1 ly.c1,.slice ly.a2 ly.n2 ly.c2,.bool hy'.b,.slice hy'.a1 hy'.n1 hy'.c1,.slice hy'.a2 hy'.n2 hy'.c2,.slice tay tny tcy])) 10 _ _ _ g _ _ _ rfl rfl hfa q57 hbx (by kernel_rfl) rfl rfl (all10 rfl rfl rfl rfl rfl rfl rfl rfl rfl rfl) hSg (by simp[TZ]) rfl
   ·intro f wq hE hp hal;obtain⟨ga6,ca6,fa6,la6,ba6,na6,pa6⟩:=hal ⟨10,97,10,#[.string ⟨#[]⟩,.bool false,.bool false,.bool false,.slice none 0 0,.slice none 0 0,.bool false,.slice none 0 0,.slice none 0 0,.slice none 0 0]⟩ (by simp) (by decide)
    dsimp only at fa6 la6 ba6 na6
    have za6:=pa6 ⟨12,⟨10,97,10,#[.string ⟨#[]⟩,.bool false,.bool false,.bool false,.slice none 0 0,.slice none 0 0,.bool false,.slice none 0 0,.slice none 0 0,.slice none 0 0]⟩,PZ.val (.agg #[.string y.1,.bool y.2.1.1,.bool y.2.1.2,.bool l.b,.slice l.a1 l.n1 l.c1,.slice l.a2 l.n2 l.c2,.bool h.b,.slice h.a1 h.n1 h.c1,.slice h.a2 h.n2 h.c2,.slice ta tn tc])⟩ (by simp) (by show 12<14;decide) rfl rfl;clear pa6;obtain⟨ga7,ca7,fa7,la7,ba7,na7,pa7⟩:=hal ⟨11,97,10,#[.string ⟨#[]⟩,.bool false,.bool false,.bool false,.slice none 0 0,.slice none 0 0,.bool false,.slice none 0 0,.slice none 0 0,.slice none 0 0]⟩ (by simp) (by decide)
    dsimp only at fa7 la7 ba7 na7
    have za7:=pa7 ⟨13,⟨11,97,10,#[.string ⟨#[]⟩,.bool false,.bool false,.bool false,.slice none 0 0,.slice none 0 0,.bool false,.slice none 0 0,.slice none 0 0,.slice none 0 0]⟩,PZ.val (.agg #[.string y.1,.bool y.2.1.1,.bool y.2.1.2,.bool ly.b,.slice ly.a1 ly.n1 ly.c1,.slice ly.a2 ly.n2 ly.c2,.bool hy'.b,.slice hy'.a1 hy'.n1 hy'.c1,.slice hy'.a2 hy'.n2 hy'.c2,.slice tay tny tcy])⟩ (by simp) (by show 13<14;decide) rfl rfl;clear pa7;clear hp hal;have X0:=hE0.trans hE;simp only[fa6,fa7]
    cases za6
    cases za7
    have hba:=ba6;have hbb:=ba7;have B10:=hba;have B20:=hbb;clear hE;have hc0:=hba.cell 0;have hc1:=hba.cell 1;have hc2:=hba.cell 2;have hc3:=hba.cell 3;have hc4:=hba.cell 4;have hc5:=hba.cell 5;have hc6:=hba.cell 6;have hc7:=hba.cell 7;have hc8:=hba.cell 8;have hc9:=hba.cell 9;have hd0:=hbb.cell 0;have hd1:=hbb.cell 1;have hd2:=hbb.cell 2;have hd3:=hbb.cell 3;have hd4:=hbb.cell 4;have hd5:=hbb.cell 5;have hd6:=hbb.cell 6;have hd7:=hbb.cell 7;have hd8:=hbb.cell 8;have hd9:=hbb.cell 9;clear hba hbb;go_wp2_with fail;refine(same3_self _ _ _ _ (HL.out.ext (e1.trans X0)) (HLy.out.ext (e1.trans X0))).mono ?_;rintro e wy1 ⟨rfl,ee1⟩;have X1:=X0.trans ee1;have hba:=B10.ext ee1;have hbb:=B20.ext ee1;have B11:=hba;have B21:=hbb;clear hc0 hc1 hc2 hc3 hc4 hc5 hc6 hc7 hc8 hc9 hd0 hd1 hd2 hd3 hd4 hd5 hd6 hd7 hd8 hd9;have hc0:=hba.cell 0;have hc1:=hba.cell 1;have hc2:=hba.cell 2;have hc3:=hba.cell 3;have hc4:=hba.cell 4;have hc5:=hba.cell 5;have hc6:=hba.cell 6;have hc7:=hba.cell 7;have hc8:=hba.cell 8;have hc9:=hba.cell 9;have hd0:=hbb.cell 0;have hd1:=hbb.cell 1;have hd2:=hbb.cell 2;have hd3:=hbb.cell 3;have hd4:=hbb.cell 4;have hd5:=hbb.cell 5;have hd6:=hbb.cell 6;have hd7:=hbb.cell 7;have hd8:=hbb.cell 8;have hd9:=hbb.cell 9;clear hba hbb;go_wp2_with fail;refine(same3_self _ _ _ _ (HH.out.ext (e1.trans X1)) (HHy.out.ext (e1.trans X1))).mono ?_;rintro e wy2 ⟨rfl,ee2⟩;have X2:=X1.trans ee2
    have hba:=B11.ext ee2;have hbb:=B21.ext ee2;have B12:=hba;have B22:=hbb;clear hc0 hc1 hc2 hc3 hc4 hc5 hc6 hc7 hc8 hc9 hd0 hd1 hd2 hd3 hd4 hd5 hd6 hd7 hd8 hd9;have hc0:=hba.cell 0;have hc1:=hba.cell 1;have hc2:=hba.cell 2;have hc3:=hba.cell 3;have hc4:=hba.cell 4;have hc5:=hba.cell 5;have hc6:=hba.cell 6;have hc7:=hba.cell 7;have hc8:=hba.cell 8;have hc9:=hba.cell 9;have hd0:=hbb.cell 0;have hd1:=hbb.cell 1;have hd2:=hbb.cell 2;have hd3:=hbb.cell 3;have hd4:=hbb.cell 4;have hd5:=hbb.cell 5;have hd6:=hbb.cell 6;have hd7:=hbb.cell 7;have hd8:=hbb.cell 8;have hd9:=hbb.cell 9;clear hba hbb;go_wp2_with fail;refine(all_true _ _ y.2.2.2 _ (HT.out.ext (e1.trans X2)) (HTy.out.ext (e1.trans X2))).mono ?_;rintro e wy3 ⟨rfl,ee3⟩;have X3:=X2.trans ee3;have hba:=B12.ext ee3;have hbb:=B22.ext ee3;have B13:=hba;have B23:=hbb;clear hc0 hc1 hc2 hc3 hc4 hc5 hc6 hc7 hc8 hc9 hd0 hd1 hd2 hd3 hd4 hd5 hd6 hd7 hd8 hd9;have hc0:=hba.cell 0;have hc1:=hba.cell 1;have hc2:=hba.cell 2;have hc3:=hba.cell 3;have hc4:=hba.cell 4;have hc5:=hba.cell 5;have hc6:=hba.cell 6;have hc7:=hba.cell 7;have hc8:=hba.cell 8;have hc9:=hba.cell 9;have hd0:=hbb.cell 0;have hd1:=hbb.cell 1;have hd2:=hbb.cell 2;have hd3:=hbb.cell 3;have hd4:=hbb.cell 4;have hd5:=hbb.cell 5;have hd6:=hbb.cell 6;have hd7:=hbb.cell 7;have hd8:=hbb.cell 8;have hd9:=hbb.cell 9;go_wp2;go_roundw
    case rel=>exact ⟨i+1,by omega,congrArg (Value.int .i64) (by omega),X3⟩
    case measure=>simp [intOf];omega
def unw(v:VrE):VrE:=(v.1,(false,v.2.1.2),v.2.2)
def unV(l:List VrE)(i:Nat):List VrE:=(l.take i).map unw++l.drop i
theorem unV_zero(l:List VrE):unV l 0=l:=by simp[unV]
theorem unV_all(l:List VrE):unV l l.length=l.map unw:=by simp[unV]
theorem unV_len(l:List VrE)(i:Nat):(unV l i).length=l.length:=by
 unfold unV;rw[List.length_append,List.length_map,List.length_take,List.length_drop]
 omega
theorem unV_at{l:List VrE}{i:Nat}{y:VrE}(h:l[i]? =some y):(unV l i)[i]? =some y:=by
 have hi:=(List.getElem?_eq_some_iff.1 h).1;unfold unV;rw[List.getElem?_append_right (by rw[List.length_map,List.length_take];omega),List.getElem?_drop,List.length_map,List.length_take,Nat.min_eq_left (by omega),Nat.sub_self,Nat.add_zero];exact h
theorem unV_succ{l:List VrE}{i:Nat}{y:VrE}(h:l[i]? =some y):unV l (i+1)=(unV l i).set i (unw y):=by
 have hi:=(List.getElem?_eq_some_iff.1 h).1;unfold unV;rw[take_next h,List.map_append,List.set_append_right _ _ (by rw[List.length_map,List.length_take];omega),List.length_map,List.length_take,Nat.min_eq_left (by omega),Nat.sub_self,List.append_assoc]
 congr 1
 have:l.drop i=y::l.drop (i+1):=by
  have h2:=(List.getElem?_eq_some_iff.1 h).2;rw[←h2];exact List.drop_eq_getElem_cons hi
 rw[this]
 rfl
theorem set_laid{l new:List Value}{p j:Nat}{u:Value}(hl:p+new.length≤l.length)(hu:new[j]? =some u)(hold:∀k,k<new.length→k≠j→l[p+k]? =new[k]?):l.set (p+j) u=laidS l p new:=by
 have hj:=(List.getElem?_eq_some_iff.1 hu).1
 apply List.ext_getElem?
 intro k
 by_cases hk:p≤k∧k<p+new.length
 ·obtain⟨m,rfl⟩:∃m,k=p+m:=⟨k - p,by omega⟩;rw[laidS_in hl (by omega)]
  by_cases hm:m=j
  ·subst hm;rw[List.getElem?_set_self (by omega),hu]
  ·rw[List.getElem?_set_ne (by omega)];exact hold m (by omega) hm
 ·rw[laidS_out hl (by omega),List.getElem?_set_ne (by omega)]
theorem VrO.unset{B i g:Nat}{w:World}{v:Value}{l:List VrE}{y:VrE}(h:VrO B w v l)(hi:l[i]? =some y)(hg:v.ownBlock=some g):VrO B (w.setCell ⟨g,i*13+1,none⟩ (.bool false)) v (l.set i (unw y)):=by
 obtain⟨vs,h2,h1,h3⟩:=h
 have hlt:i<vs.length:=by have:=(List.getElem?_eq_some_iff.1 hi).1;omega
 obtain⟨u,hu⟩:∃u,vs[i]? =some u:=⟨_,List.getElem?_eq_getElem hlt⟩;obtain⟨ll,hh,cc,rfl,k2,k3,k4,k5⟩:=h3 i u y hu hi;have hcg:=Chg.setCell w g (i*13+1) (.bool false);obtain⟨ad,cap, -, -, -,ho⟩:=h2.opn;obtain⟨-, -, -,cs,hb⟩:=ho g hg;refine⟨vs.set i (.agg #[.string y.1,.bool false,.bool y.2.1.2.1,.bool y.2.1.2.2,.bool ll.b,.slice ll.a1 ll.n1 ll.c1,.slice ll.a2 ll.n2 ll.c2,.bool hh.b,.slice hh.a1 hh.n1 hh.c1,.slice hh.a2 hh.n2 hh.c2,.bool cc.b,.slice cc.a1 cc.n1 cc.c1,.slice cc.a2 cc.n2 cc.c2]),?_,by rw[List.length_set,List.length_set,h1],fun j u x hu' hx=> ?_⟩
 ·refine h2.set (.one rfl (all13 rfl rfl rfl rfl rfl rfl rfl rfl rfl rfl rfl rfl rfl)) hlt hg fun rest hr=> ?_
  have hl:=flatS_len h2.1.size;have hmul:=Nat.mul_le_mul_right 13 (show i+1≤vs.length by omega);rw[Nat.succ_mul]at hmul;rw[←set_laid (j:=1) (u:= .bool false) (by rw[List.length_append,hl];show i*13+13≤_;omega) rfl (fun k hk hne=> ?_)]
  ·have:=Bx.set hr (i*13+1) (.bool false)
   rwa [List.setIfInBounds_toArray]at this
  ·have hk':k<13:=hk;rw[List.getElem?_append_left (by rw[hl];omega),flatS_get (n:=13) (by omega) h2.1.size hu k hk']
   match k,hk',hne with
   |0,_,_=>rfl
   |1,_,h=>exact absurd rfl h
   |2,_,_=>rfl
   |3,_,_=>rfl
   |4,_,_=>rfl
   |5,_,_=>rfl
   |6,_,_=>rfl
   |7,_,_=>rfl
   |8,_,_=>rfl
   |9,_,_=>rfl
   |10,_,_=>rfl
   |11,_,_=>rfl
   |12,_,_=>rfl
   |k+13,h,_=>omega
 ·by_cases hji:j=i
  ·subst hji;rw[List.getElem?_set_self hlt]at hu';rw[List.getElem?_set_self (by omega)]at hx
   cases hu'
   cases hx
   exact⟨ll,hh,cc,rfl,FrR.chgB k2 hcg hb (by decide),FrR.chgB k3 hcg hb (by decide),FrR.chgB k4 hcg hb (by decide),k5⟩
  ·rw[List.getElem?_set_ne (Ne.symm hji)]at hu' hx;exact(h3 j u x hu' hx).chgB hcg hb (by decide)
theorem VrO.flag{B:Nat}{w:World}{v:Value}{l:List VrE}(h:VrO B w v l){i:Nat}(hi:i<l.length):∃g n cap cs,v= .slice (some ⟨g,0,none⟩) n cap∧n=l.length∧B≤g∧g<w.heap.size∧Bx 43 w g cs∧i*13+1<cs.size:=by
 obtain⟨vs,h2,h1, -⟩:=h;obtain⟨g,cap,rest,k1,k2,k3,k4,k5,k6⟩:=h2.hold (by omega);have hl:=flatS_len h2.1.size;have hmul:=Nat.mul_le_mul_right 13 (show i+1≤vs.length by omega);rw[Nat.succ_mul]at hmul;exact⟨g,_,cap,_,k1,h1,k2,blk_lt k6,k6,by simp only[List.size_toArray,List.length_append,hl];omega⟩
theorem okPb_unw{n:ByteArray×ByteArray}{rows:List RwE}{vars:List VrE}(h:okPb (n,rows,vars)):okPb (n,rows,vars.map unw):=by
 obtain⟨h1,h2,h3,h4⟩:=h;refine⟨h1,by simpa using h2,h3,fun v hv=> ?_⟩;obtain⟨y,hy,rfl⟩:=List.mem_map.1 hv;exact h4 y hy
theorem ratPb_unw{n:ByteArray×ByteArray}{rows:List RwE}{vars:List VrE}:∀v∈(ratPb (n,rows,vars.map unw)).2,v.1=false:=by
 intro v hv;obtain⟨y,hy,rfl⟩:=List.mem_map.1 hv;obtain⟨z,hz,rfl⟩:=List.mem_map.1 hy
 rfl
open Go.ChangeShapes Go.WideShapes Go.ChangeAt
theorem list10{α:Type}{l:List α}(h:l.length=10):∃c0 c1 c2 c3 c4 c5 c6 c7 c8 c9,l=[c0,c1,c2,c3,c4,c5,c6,c7,c8,c9]:=by
 match l,h with
 | [c0,c1,c2,c3,c4,c5,c6,c7,c8,c9],_=>exact ⟨c0,c1,c2,c3,c4,c5,c6,c7,c8,c9,rfl⟩
theorem list13{α:Type}{l:List α}(h:l.length=13):∃c0 c1 c2 c3 c4 c5 c6 c7 c8 c9 c10 c11 c12,l=[c0,c1,c2,c3,c4,c5,c6,c7,c8,c9,c10,c11,c12]:=by
 match l,h with
 | [c0,c1,c2,c3,c4,c5,c6,c7,c8,c9,c10,c11,c12],_=>exact ⟨c0,c1,c2,c3,c4,c5,c6,c7,c8,c9,c10,c11,c12,rfl⟩
theorem list4{α:Type}{l:List α}(h:l.length=4):∃c0 c1 c2 c3,l=[c0,c1,c2,c3]:=by
 match l,h with
 | [c0,c1,c2,c3],_=>exact ⟨c0,c1,c2,c3,rfl⟩
theorem trod_struct6{H:Type}{enc:TypeId×Value→H}{P:Program}{w:World}{base:Nat}{spare:Nat→Bool}{held:Bool}{t:TypeId}{f0 f1 f2 f3 f4 f5:Field}{fuel:Nat}{cs:List Value}{x:DataW H×List MemPlace}(ht:P.underlying t=some (.struct #[f0,f1,f2,f3,f4,f5]))(h:DataW.trod enc P w base spare held fuel t cs=some x):
  ∃y0 y1 y2 y3 y4 y5 n,x.1= .agg [y0.1,y1.1,y2.1,y3.1,y4.1,y5.1]∧cs.length=P.cellsOf t∧DataW.trod enc P w base spare held n f0.type ((cs.drop f0.offset).take (P.cellsOf f0.type))=some y0∧DataW.trod enc P w base spare held n f1.type ((cs.drop f1.offset).take (P.cellsOf f1.type))=some y1∧DataW.trod enc P w base spare held n f2.type ((cs.drop f2.offset).take (P.cellsOf f2.type))=some y2∧DataW.trod enc P w base spare held n f3.type ((cs.drop f3.offset).take (P.cellsOf f3.type))=some y3∧DataW.trod enc P w base spare held n f4.type ((cs.drop f4.offset).take (P.cellsOf f4.type))=some y4∧DataW.trod enc P w base spare held n f5.type ((cs.drop f5.offset).take (P.cellsOf f5.type))=some y5:=by
 obtain⟨xs,n,_,rfl,hl,hlen,hf⟩:=DataW.trod_struct ht h
 match xs,hlen with
 | [y0,y1,y2,y3,y4,y5],_=>exact ⟨y0,y1,y2,y3,y4,y5,n,by simp,hl,by simpa using hf 0 f0 rfl,by simpa using hf 1 f1 rfl,by simpa using hf 2 f2 rfl,by simpa using hf 3 f3 rfl,by simpa using hf 4 f4 rfl,by simpa using hf 5 f5 rfl⟩
theorem trod_struct7{H:Type}{enc:TypeId×Value→H}{P:Program}{w:World}{base:Nat}{spare:Nat→Bool}{held:Bool}{t:TypeId}{f0 f1 f2 f3 f4 f5 f6:Field}{fuel:Nat}{cs:List Value}{x:DataW H×List MemPlace}(ht:P.underlying t=some (.struct #[f0,f1,f2,f3,f4,f5,f6]))(h:DataW.trod enc P w base spare held fuel t cs=some x):
  ∃y0 y1 y2 y3 y4 y5 y6 n,x.1= .agg [y0.1,y1.1,y2.1,y3.1,y4.1,y5.1,y6.1]∧cs.length=P.cellsOf t∧DataW.trod enc P w base spare held n f0.type ((cs.drop f0.offset).take (P.cellsOf f0.type))=some y0∧DataW.trod enc P w base spare held n f1.type ((cs.drop f1.offset).take (P.cellsOf f1.type))=some y1∧DataW.trod enc P w base spare held n f2.type ((cs.drop f2.offset).take (P.cellsOf f2.type))=some y2∧DataW.trod enc P w base spare held n f3.type ((cs.drop f3.offset).take (P.cellsOf f3.type))=some y3∧DataW.trod enc P w base spare held n f4.type ((cs.drop f4.offset).take (P.cellsOf f4.type))=some y4∧DataW.trod enc P w base spare held n f5.type ((cs.drop f5.offset).take (P.cellsOf f5.type))=some y5∧DataW.trod enc P w base spare held n f6.type ((cs.drop f6.offset).take (P.cellsOf f6.type))=some y6:=by
 obtain⟨xs,n,_,rfl,hl,hlen,hf⟩:=DataW.trod_struct ht h
 match xs,hlen with
 | [y0,y1,y2,y3,y4,y5,y6],_=>exact ⟨y0,y1,y2,y3,y4,y5,y6,n,by simp,hl,by simpa using hf 0 f0 rfl,by simpa using hf 1 f1 rfl,by simpa using hf 2 f2 rfl,by simpa using hf 3 f3 rfl,by simpa using hf 4 f4 rfl,by simpa using hf 5 f5 rfl,by simpa using hf 6 f6 rfl⟩
theorem trod_struct4{H:Type}{enc:TypeId×Value→H}{P:Program}{w:World}{base:Nat}{spare:Nat→Bool}{held:Bool}{t:TypeId}{f0 f1 f2 f3:Field}{fuel:Nat}{cs:List Value}{x:DataW H×List MemPlace}(ht:P.underlying t=some (.struct #[f0,f1,f2,f3]))(h:DataW.trod enc P w base spare held fuel t cs=some x):
  ∃y0 y1 y2 y3 n,x.1= .agg [y0.1,y1.1,y2.1,y3.1]∧cs.length=P.cellsOf t∧DataW.trod enc P w base spare held n f0.type ((cs.drop f0.offset).take (P.cellsOf f0.type))=some y0∧DataW.trod enc P w base spare held n f1.type ((cs.drop f1.offset).take (P.cellsOf f1.type))=some y1∧DataW.trod enc P w base spare held n f2.type ((cs.drop f2.offset).take (P.cellsOf f2.type))=some y2∧DataW.trod enc P w base spare held n f3.type ((cs.drop f3.offset).take (P.cellsOf f3.type))=some y3:=by
 obtain⟨xs,n,_,rfl,hl,hlen,hf⟩:=DataW.trod_struct ht h
 match xs,hlen with
 | [y0,y1,y2,y3],_=>exact ⟨y0,y1,y2,y3,n,by simp,hl,by simpa using hf 0 f0 rfl,by simpa using hf 1 f1 rfl,by simpa using hf 2 f2 rfl,by simpa using hf 3 f3 rfl⟩
theorem cellsStr:Tryz.prog.cellsOf 9=1:=by kernel_rfl
theorem cellsRw:Tryz.prog.cellsOf 97=10:=by kernel_rfl
theorem cellsVr:Tryz.prog.cellsOf 43=13:=by kernel_rfl
theorem cellsPb:Tryz.prog.cellsOf 25=4:=by kernel_rfl
theorem cellsRs:Tryz.prog.cellsOf 22=1:=by kernel_rfl
theorem cellsVs:Tryz.prog.cellsOf 23=1:=by kernel_rfl
section
variable {H:Type} {enc:TypeId×Value→H} {w:World} {base:Nat} {spare:Nat→Bool} {held:Bool}
theorem trod_lenT{fuel:Nat}{cs:List Value}{x:DataW H×List MemPlace}(h:DataW.trod enc Tryz.prog w base spare held fuel 31 cs=some x):∃v,cs=[v]∧∃a n c,v= .slice a n c:=by
 rcases Go.Deep.open_slice Tryz.underlying31 h with⟨rfl,rfl⟩ |⟨a,len,cap,m,k,D,Pl,rfl,hb,hl,hm,hmm,rfl,hx⟩
 ·exact⟨_,rfl,_,_,_,rfl⟩
 ·exact⟨_,rfl,_,_,_,rfl⟩
set_option maxHeartbeats 4000000 in
theorem open_rowC{fuel:Nat}{cs:List Value}{x:DataW H×List MemPlace}(B:Nat)(hb:B≤4611686018427387903)(hB:∀n∈x.1.weights Tryz.prog 97,n≤B)(h:DataW.trod enc Tryz.prog w base spare held fuel 97 cs=some x):
  ∃r,RwH w (.agg cs.toArray) r:=by
 obtain⟨y0,y1,y2,y3,y4,y5,n,hx,hl,h0,h1,h2,h3,h4,h5⟩:=trod_struct6 Tryz.underlying97 h;rw[cellsRw]at hl;obtain⟨c0,c1,c2,c3,c4,c5,c6,c7,c8,c9,rfl⟩:=list10 hl
 have e0:List.take (Tryz.prog.cellsOf 9) (List.drop 0 [c0,c1,c2,c3,c4,c5,c6,c7,c8,c9])=[c0]:=by rw[cellsStr];rfl
 obtain⟨v0,hv0, -, -⟩:=DataW.trod_string Tryz.underlying9 h0
 have k0: [c0]=[.string v0]:=e0▸hv0
 have e1:List.take (Tryz.prog.cellsOf 4) (List.drop 1 [c0,c1,c2,c3,c4,c5,c6,c7,c8,c9])=[c1]:=by rw[cellsB];rfl
 obtain⟨v1,hv1⟩:=open_bool1 h1
 have k1: [c1]=[.bool v1]:=e1▸hv1
 have e2:List.take (Tryz.prog.cellsOf 4) (List.drop 2 [c0,c1,c2,c3,c4,c5,c6,c7,c8,c9])=[c2]:=by rw[cellsB];rfl
 obtain⟨v2,hv2⟩:=open_bool1 h2
 have k2: [c2]=[.bool v2]:=e2▸hv2
 have e3:List.take (Tryz.prog.cellsOf 41) (List.drop 3 [c0,c1,c2,c3,c4,c5,c6,c7,c8,c9])=[c3,c4,c5]:=by rw[cellsQ];rfl
 obtain⟨b3,p3,q3,xs3,ys3,hr3,hL3,hd3,hM3,he3,hw3, -⟩:=open_ratC h3
 have hh3:=hw3 B (fun n hn=>hB n (by
  rw[hx];simp only[DataW.weights,Tryz.underlying97]
  exact DataW.weights_mem_each (j:=3) rfl rfl n hn))
 have k3: [c3,c4,c5]=[.bool b3,p3,q3]:=e3▸hr3
 have e4:List.take (Tryz.prog.cellsOf 41) (List.drop 6 [c0,c1,c2,c3,c4,c5,c6,c7,c8,c9])=[c6,c7,c8]:=by rw[cellsQ];rfl
 obtain⟨b4,p4,q4,xs4,ys4,hr4,hL4,hd4,hM4,he4,hw4, -⟩:=open_ratC h4
 have hh4:=hw4 B (fun n hn=>hB n (by
  rw[hx];simp only[DataW.weights,Tryz.underlying97]
  exact DataW.weights_mem_each (j:=4) rfl rfl n hn))
 have k4: [c6,c7,c8]=[.bool b4,p4,q4]:=e4▸hr4
 have e5:List.take (Tryz.prog.cellsOf 31) (List.drop 9 [c0,c1,c2,c3,c4,c5,c6,c7,c8,c9])=[c9]:=by rw[cellsTs];rfl
 obtain⟨v5,hv5,a5,m5,z5,rfl⟩:=trod_lenT h5
 obtain⟨v5',l5,hv5',hT5⟩:=open_termsF B hb (fun n hn=>hB n (by
  rw[hx];simp only[DataW.weights,Tryz.underlying97]
  exact DataW.weights_mem_each (j:=5) rfl rfl n hn)) h5
 have k5: [c9]=[.slice a5 m5 z5]:=e5▸hv5
 have k5': [c9]=[v5']:=e5▸hv5'
 simp only[List.cons.injEq,and_true]at k0 k1 k2 k3 k4 k5 k5';subst k0;subst k1;subst k2;obtain⟨rfl,rfl,rfl⟩:=k3;have hE3:RawE w (.agg #[.bool b3,c4,c5]) (b3,xs3,ys3):=⟨⟨c4,c5,rfl,hL3,hM3⟩,hd3,he3,by show xs3.length+ys3.length≤_;omega⟩;have hL3':=hL3;have hM3':=hM3;obtain⟨r3,j3,rfl, -⟩:=hL3';obtain⟨s3,u3,rfl, -⟩:=hM3';obtain⟨rfl,rfl,rfl⟩:=k4;have hE4:RawE w (.agg #[.bool b4,c7,c8]) (b4,xs4,ys4):=⟨⟨c7,c8,rfl,hL4,hM4⟩,hd4,he4,by show xs4.length+ys4.length≤_;omega⟩;have hL4':=hL4;have hM4':=hM4;obtain⟨r4,j4,rfl, -⟩:=hL4';obtain⟨s4,u4,rfl, -⟩:=hM4';subst k5;subst k5';exact⟨(v0,(v1,v2),((b3,xs3,ys3),(b4,xs4,ys4)),l5),⟨b3,r3,_,j3,s3,_,u3⟩,⟨b4,r4,_,j4,s4,_,u4⟩,a5,m5,z5,rfl,hE3,hE4,hT5⟩
set_option maxHeartbeats 4000000 in
theorem open_varC{fuel:Nat}{cs:List Value}{x:DataW H×List MemPlace}(B:Nat)(hb:B≤4611686018427387903)(hB:∀n∈x.1.weights Tryz.prog 43,n≤B)(h:DataW.trod enc Tryz.prog w base spare held fuel 43 cs=some x):
  ∃r,VrH w (.agg cs.toArray) r:=by
 obtain⟨y0,y1,y2,y3,y4,y5,y6,n,hx,hl,h0,h1,h2,h3,h4,h5,h6⟩:=trod_struct7 Tryz.underlying43 h;rw[cellsVr]at hl;obtain⟨c0,c1,c2,c3,c4,c5,c6,c7,c8,c9,c10,c11,c12,rfl⟩:=list13 hl
 have e0:List.take (Tryz.prog.cellsOf 9) (List.drop 0 [c0,c1,c2,c3,c4,c5,c6,c7,c8,c9,c10,c11,c12])=[c0]:=by rw[cellsStr];rfl
 obtain⟨v0,hv0, -, -⟩:=DataW.trod_string Tryz.underlying9 h0
 have k0: [c0]=[.string v0]:=e0▸hv0
 have e1:List.take (Tryz.prog.cellsOf 4) (List.drop 1 [c0,c1,c2,c3,c4,c5,c6,c7,c8,c9,c10,c11,c12])=[c1]:=by rw[cellsB];rfl
 obtain⟨v1,hv1⟩:=open_bool1 h1
 have k1: [c1]=[.bool v1]:=e1▸hv1
 have e2:List.take (Tryz.prog.cellsOf 4) (List.drop 2 [c0,c1,c2,c3,c4,c5,c6,c7,c8,c9,c10,c11,c12])=[c2]:=by rw[cellsB];rfl
 obtain⟨v2,hv2⟩:=open_bool1 h2
 have k2: [c2]=[.bool v2]:=e2▸hv2
 have e3:List.take (Tryz.prog.cellsOf 4) (List.drop 3 [c0,c1,c2,c3,c4,c5,c6,c7,c8,c9,c10,c11,c12])=[c3]:=by rw[cellsB];rfl
 obtain⟨v3,hv3⟩:=open_bool1 h3
 have k3: [c3]=[.bool v3]:=e3▸hv3
 have e4:List.take (Tryz.prog.cellsOf 41) (List.drop 4 [c0,c1,c2,c3,c4,c5,c6,c7,c8,c9,c10,c11,c12])=[c4,c5,c6]:=by rw[cellsQ];rfl
 obtain⟨b4,p4,q4,xs4,ys4,hr4,hL4,hd4,hM4,he4,hw4, -⟩:=open_ratC h4
 have hh4:=hw4 B (fun n hn=>hB n (by
  rw[hx];simp only[DataW.weights,Tryz.underlying43]
  exact DataW.weights_mem_each (j:=4) rfl rfl n hn))
 have k4: [c4,c5,c6]=[.bool b4,p4,q4]:=e4▸hr4
 have e5:List.take (Tryz.prog.cellsOf 41) (List.drop 7 [c0,c1,c2,c3,c4,c5,c6,c7,c8,c9,c10,c11,c12])=[c7,c8,c9]:=by rw[cellsQ];rfl
 obtain⟨b5,p5,q5,xs5,ys5,hr5,hL5,hd5,hM5,he5,hw5, -⟩:=open_ratC h5
 have hh5:=hw5 B (fun n hn=>hB n (by
  rw[hx];simp only[DataW.weights,Tryz.underlying43]
  exact DataW.weights_mem_each (j:=5) rfl rfl n hn))
 have k5: [c7,c8,c9]=[.bool b5,p5,q5]:=e5▸hr5
 have e6:List.take (Tryz.prog.cellsOf 41) (List.drop 10 [c0,c1,c2,c3,c4,c5,c6,c7,c8,c9,c10,c11,c12])=[c10,c11,c12]:=by rw[cellsQ];rfl
 obtain⟨b6,p6,q6,xs6,ys6,hr6,hL6,hd6,hM6,he6,hw6, -⟩:=open_ratC h6
 have hh6:=hw6 B (fun n hn=>hB n (by
  rw[hx];simp only[DataW.weights,Tryz.underlying43]
  exact DataW.weights_mem_each (j:=6) rfl rfl n hn))
 have k6: [c10,c11,c12]=[.bool b6,p6,q6]:=e6▸hr6
 simp only[List.cons.injEq,and_true]at k0 k1 k2 k3 k4 k5 k6;subst k0;subst k1;subst k2;subst k3;obtain⟨rfl,rfl,rfl⟩:=k4;have hE4:RawE w (.agg #[.bool b4,c5,c6]) (b4,xs4,ys4):=⟨⟨c5,c6,rfl,hL4,hM4⟩,hd4,he4,by show xs4.length+ys4.length≤_;omega⟩;have hL4':=hL4;have hM4':=hM4;obtain⟨r4,j4,rfl, -⟩:=hL4';obtain⟨s4,u4,rfl, -⟩:=hM4';obtain⟨rfl,rfl,rfl⟩:=k5;have hE5:RawE w (.agg #[.bool b5,c8,c9]) (b5,xs5,ys5):=⟨⟨c8,c9,rfl,hL5,hM5⟩,hd5,he5,by show xs5.length+ys5.length≤_;omega⟩;have hL5':=hL5;have hM5':=hM5;obtain⟨r5,j5,rfl, -⟩:=hL5';obtain⟨s5,u5,rfl, -⟩:=hM5';obtain⟨rfl,rfl,rfl⟩:=k6;have hE6:RawE w (.agg #[.bool b6,c11,c12]) (b6,xs6,ys6):=⟨⟨c11,c12,rfl,hL6,hM6⟩,hd6,he6,by show xs6.length+ys6.length≤_;omega⟩;have hL6':=hL6;have hM6':=hM6;obtain⟨r6,j6,rfl, -⟩:=hL6';obtain⟨s6,u6,rfl, -⟩:=hM6';exact⟨(v0,(v1,v2,v3),((b4,xs4,ys4),(b5,xs5,ys5),(b6,xs6,ys6))),⟨b4,r4,_,j4,s4,_,u4⟩,⟨b5,r5,_,j5,s5,_,u5⟩,⟨b6,r6,_,j6,s6,_,u6⟩,rfl,hE4,hE5,hE6⟩
theorem open_rowsF{fuel:Nat}{cs:List Value}{x:DataW H×List MemPlace}(B:Nat)(hb:B≤4611686018427387903)(hB:∀n∈x.1.weights Tryz.prog 22,n≤B)(hf:DataW.trod enc Tryz.prog w base spare held fuel 22 cs=some x):
  ∃v l,cs=[v]∧RwHL w v l∧True:=by
 obtain⟨v',ys,h1,h2,h3, -⟩:=open_structs (R:=RwH) (F:=fun _ _=>True) B Tryz.underlying22 cellsRw (by omega) (fun fuel cs x hl hw hx=>by
  obtain⟨c,hE⟩:=open_rowC B hb hw hx
  exact⟨c,hE,trivial⟩) hB hf
 exact⟨v',ys,h1,h2,trivial⟩
theorem open_varsF{fuel:Nat}{cs:List Value}{x:DataW H×List MemPlace}(B:Nat)(hb:B≤4611686018427387903)(hB:∀n∈x.1.weights Tryz.prog 23,n≤B)(hf:DataW.trod enc Tryz.prog w base spare held fuel 23 cs=some x):
  ∃v l,cs=[v]∧VrHL w v l∧True:=by
 obtain⟨v',ys,h1,h2,h3, -⟩:=open_structs (R:=VrH) (F:=fun _ _=>True) B Tryz.underlying23 cellsVr (by omega) (fun fuel cs x hl hw hx=>by
  obtain⟨c,hE⟩:=open_varC B hb hw hx
  exact⟨c,hE,trivial⟩) hB hf
 exact⟨v',ys,h1,h2,trivial⟩
set_option maxHeartbeats 4000000 in
theorem open_probC{fuel:Nat}{cs:List Value}{x:DataW H×List MemPlace}(B:Nat)(hb:B≤4611686018427387903)(hB:∀n∈x.1.weights Tryz.prog 25,n≤B)(h:DataW.trod enc Tryz.prog w base spare held fuel 25 cs=some x):
  ∃p,PbH w (.agg cs.toArray) p:=by
 obtain⟨y0,y1,y2,y3,n,hx,hl,h0,h1,h2,h3⟩:=trod_struct4 Tryz.underlying25 h;rw[cellsPb]at hl;obtain⟨c0,c1,c2,c3,rfl⟩:=list4 hl
 have e0:List.take (Tryz.prog.cellsOf 9) (List.drop 0 [c0,c1,c2,c3])=[c0]:=by rw[cellsStr];rfl
 obtain⟨v0,hv0, -, -⟩:=DataW.trod_string Tryz.underlying9 h0
 have k0: [c0]=[.string v0]:=e0▸hv0
 have e1:List.take (Tryz.prog.cellsOf 9) (List.drop 1 [c0,c1,c2,c3])=[c1]:=by rw[cellsStr];rfl
 obtain⟨v1,hv1, -, -⟩:=DataW.trod_string Tryz.underlying9 h1
 have k1: [c1]=[.string v1]:=e1▸hv1
 have e2:List.take (Tryz.prog.cellsOf 22) (List.drop 2 [c0,c1,c2,c3])=[c2]:=by rw[cellsRs];rfl
 obtain⟨v2,l2,hv2,hT2,hz2⟩:=open_rowsF B hb (fun n hn=>hB n (by
  rw[hx];simp only[DataW.weights,Tryz.underlying25]
  exact DataW.weights_mem_each (j:=2) rfl rfl n hn)) h2
 have k2: [c2]=[v2]:=e2▸hv2
 have e3:List.take (Tryz.prog.cellsOf 23) (List.drop 3 [c0,c1,c2,c3])=[c3]:=by rw[cellsVs];rfl
 obtain⟨v3,l3,hv3,hT3,hz3⟩:=open_varsF B hb (fun n hn=>hB n (by
  rw[hx];simp only[DataW.weights,Tryz.underlying25]
  exact DataW.weights_mem_each (j:=3) rfl rfl n hn)) h3
 have k3: [c3]=[v3]:=e3▸hv3
 simp only[List.cons.injEq,and_true]at k0 k1 k2 k3;subst k0;subst k1;subst k2;subst k3;obtain⟨_,_,_, -,hev, -, -⟩:=RwHL.at hT2;subst hev;obtain⟨_,_,_, -,hev, -, -⟩:=VrHL.at hT3;subst hev;exact⟨((v0,v1),l2,l3),_,_,_,_,_,_,rfl,hT2,hT3⟩
theorem open_probS{v:Value}{d:DataW H}{p:List MemPlace}{W0:World}{b0:Nat}(hv:Value.okWide Tryz.prog W0 .any b0 25 v)(h:DataW.Trod enc Tryz.prog w base spare held 25 v d p)(B:Nat)(hb:B≤4611686018427387903)(hB:∀n∈d.weights Tryz.prog 25,n≤B):
  ∃q,PbH w v q:=by
 obtain⟨arr,rfl,_⟩:=okWide_struct Tryz.underlying25 hv;obtain⟨fuel,hf⟩:=h;obtain⟨q,hE⟩:=open_probC B hb hB hf
 have hcs:(Value.agg arr).cells.toList=arr.toList:=rfl
 rw[hcs,Array.toArray_toList]at hE;exact⟨q,hE⟩
end
end Go.Proofs.YtbmnlaepfckmkaaGreat
