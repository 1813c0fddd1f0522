/-
 Vectors: a times one, and another one (vec.Axpy, vec.Scale); a list as a vector (vec.Gather).
-/
import Derived.Test.YtbmnlaepfckmkaaGreatVfcZ
import Derived.Test.YtbmnlaepfckmkaaGreatSsbZ
import Derived.Deep.Strs
import Derived.Maps.AppendAt
namespace Go.Proofs.YtbmnlaepfckmkaaGreat
set_option maxRecDepth 100000
set_option maxHeartbeats 1000000
open Go.RowKit
set_option linter.unusedVariables false
set_option linter.unusedSimpArgs false
theorem szQ_zero:szQ 0≤1:=by decide+kernel
theorem putV_len(c:Int)(q:Rat):∀l:List (Int×Rat),(putV c q l).length≤l.length+1
 | []=>by simp[putV]
 |x::l=>by
  unfold putV
  split
  ·simp
  ·split
   ·simp
   ·have:=putV_len c q l
    simp
    omega
theorem mkV_len(l:List (Int×Rat)):(mkV l).length≤l.length:=by
 have h:∀l:List (Int×Rat),(upV l).length≤l.length:=fun l=>by
  induction l with
  |nil=>simp [upV]
  |cons x l ih=>
   unfold upV
   split
   ·have:=putV_len x.1 x.2 (upV l)
    simp
    omega
   ·simp
    omega
 unfold mkV nz;exact Nat.le_trans (List.length_filter_le ..) (h l)
theorem sz_dot{k kx:Nat}{l:List (Int×Rat)}{xs:List Rat}(h:∀x∈l,szQ x.2≤k)(hx:∀y∈xs,szQ y≤kx):szQ (dotV l xs)≤l.length*(k+kx+1)+1:=by
 induction l with
 |nil=>simpa [dotV]using szQ_zero
 |cons x l ih=>
  have i:=ih fun y hy=>h y (List.mem_cons_of_mem _ hy)
  have h0:=h x (List.mem_cons_self ..);rw[List.length_cons,Nat.succ_mul];unfold dotV
  split
  ·rename_i hc
   have hlt:x.1.toNat<xs.length:=by omega
   have hy:szQ (xs.getD x.1.toNat 0)≤kx:=by
    rw[List.getD_eq_getElem?_getD,List.getElem?_eq_getElem hlt];exact hx _ (List.getElem_mem hlt)
   have:=szQ_add (szQ_mul h0 hy) i
   omega
  ·rw[Rat.zero_add]
   omega
theorem TL.szs{k:Nat}{w:World}{v:Value}{l:List (Int×Rat)}(h:TL k w v l):∀x∈l,szQ x.2≤k:=by
 intro x hx;obtain⟨i,hi,rfl⟩:=List.getElem_of_mem hx;obtain⟨ad,m,cap, -, -, -,h4⟩:=h.at;obtain⟨g,off, -,b,a1,n1,c1,a2,n2,c2,hc⟩:=h4 i _ (List.getElem?_eq_getElem hi);exact(hc w (Ext.refl w)).2.2.2.2.sz
theorem QL.szs{k:Nat}{w:World}{v:Value}{l:List Rat}(h:QL k w v l):∀x∈l,szQ x≤k:=by
 intro x hx;obtain⟨i,hi,rfl⟩:=List.getElem_of_mem hx;obtain⟨ad,m,cap, -, -, -,h4⟩:=h.at;obtain⟨g,off, -,b,a1,n1,c1,a2,n2,c2, -,hc⟩:=h4 i _ (List.getElem?_eq_getElem hi);exact hc.sz
abbrev RE:=Bool×List Nat×List Nat
abbrev TE:=Int×RE
def TmE(w:World)(v:Value)(e:TE):Prop:=∃b a1 n1 c1 a2 n2 c2,v= .agg #[.int .i64 e.1,.bool b,.slice a1 n1 c1,.slice a2 n2 c2]∧RawE w (.agg #[.bool b,.slice a1 n1 c1,.slice a2 n2 c2]) e.2
theorem TmE.ext{w w':World}{v:Value}{e:TE}(h:TmE w v e)(he:Ext w w'):TmE w' v e:=by
 obtain⟨b,a1,n1,c1,a2,n2,c2,h1,h2⟩:=h;exact⟨b,a1,n1,c1,a2,n2,c2,h1,h2.ext he⟩
def TLE(w:World)(u:Value)(l:List TE):Prop:=SL 4 TmE w u l
theorem TLE.ext{w w':World}{u:Value}{l:List TE}(h:TLE w u l)(he:Ext w w'):TLE w' u l:=SL.ext (fun _ _ h=>h.ext he) h he
theorem TLE.at{w:World}{u:Value}{l:List TE}(h:TLE w u l):∃ad m cap,m=l.length∧u= .slice ad m cap∧m≤9223372036854775807∧∀(i:Nat) (e:TE),l[i]? =some e→∃g off,ad=some ⟨g,off,none⟩∧∃b a1 n1 c1 a2 n2 c2,n1=e.2.2.1.length∧n2=e.2.2.2.length∧
  (∀wz,Ext w wz→∀(j:Nat) (v:Value),(#[.int .i64 e.1,.bool b,.slice a1 n1 c1,.slice a2 n2 c2]:Array Value)[j]? =some v→wz.cell? ⟨g,off+i*4+j,none⟩=some v)∧RawE w (.agg #[.bool b,.slice a1 n1 c1,.slice a2 n2 c2]) e.2:=by
 obtain⟨ad,m,cap,h1,h2,h3,h4⟩:=h.opn;refine⟨ad,m,cap,h1,h2,h3,fun i e hi=> ?_⟩;obtain⟨g,off,k1,cs,k2,k3,b,a1,n1,c1,a2,n2,c2,j1,j2⟩:=h4 i e hi
 cases j1
 obtain⟨b1,m1,d1,b2,m2,d2,i1,i2,i3⟩:=RawQ.opn2 j2.1
 cases i3
 exact⟨g,off,k1,_,_,_,_,_,_,_,i1,i2,k3,j2⟩
theorem cells3{w:World}{g o:Nat}{x b s t:Value}(h:∀wz,Ext w wz→∀(j:Nat) (v:Value),(#[x,b,s,t]:Array Value)[j]? =some v→wz.cell? ⟨g,o+j,none⟩=some v):∀wz,Ext w wz→∀(j:Nat) (v:Value),(#[b,s,t]:Array Value)[j]? =some v→wz.cell? ⟨g,o+1+j,none⟩=some v:=by
 intro wz hz j v hj
 have:=h wz hz (1+j) v (by
  match j,hj with
  |0,hj=>exact hj
  |1,hj=>exact hj
  |2,hj=>exact hj
  |j+3,hj=>simp at hj)
 rwa [←Nat.add_assoc]at this
theorem TLE.tl{w:World}{u:Value}{l:List TE}(h:TLE w u l)(k:Nat)(hk:1≤k)(hk2:k≤LIM)(hl:∀e∈l,e.2.2.1.length+e.2.2.2.length≤k):TL k w u (l.map fun e=>(e.1,ratE e.2)):=by
 obtain⟨ad,cap,h1,h2,h3,h4⟩:=h;refine⟨ad,cap,by rw[List.length_map];exact h1,by rw[List.length_map];exact h2,h3,?_⟩
 rcases h4 with h4 |⟨g,off,h4,h5⟩
 ·exact .inl (by rw[h4];rfl)
 ·refine .inr ⟨g,off,h4,fun i x hi=> ?_⟩;rw[List.getElem?_map]at hi
  cases he:l[i]? with
  |none=>rw [he]at hi;cases hi
  |some e=>
   rw[he]at hi;simp only[Option.map_some,Option.some.injEq]at hi;subst hi;obtain⟨cs,k1,k2,b,a1,n1,c1,a2,n2,c2,k3,k4⟩:=h5 i e he
   have:=hl e (List.mem_of_getElem? he)
   exact⟨cs,k1,k2,b,a1,n1,c1,a2,n2,c2,k3,k4.1.isR k4.2.1 k4.2.2.1 k (by omega) (by omega) hk hk2⟩
def OL{α:Type}(t:TypeId)(n B:Nat)(R:World→Value→α→Prop)(w:World)(v:Value)(ys:List α):Prop:=∃vs,LS t n B w v vs∧vs.length=ys.length∧∀(i:Nat) (u:Value) (y:α),vs[i]? =some u→ys[i]? =some y→R w u y
theorem LS.ge{e:TypeId}{n B:Nat}{w:World}{v:Value}{vs:List Value}(h:LS e n B w v vs):∀g,v.ownBlock=some g→B≤g:=by
 intro g hg
 rcases h.2.2 with⟨h1,h2⟩ |⟨g',cap,cur,h1,h2,h3,h4⟩
 ·rw[h1]at hg;cases hg
 ·rw[h1]at hg;simp only[Value.ownBlock,Option.some.injEq]at hg;subst hg;exact h2
theorem OL.nil{α:Type}(t:TypeId)(n B:Nat)(R:World→Value→α→Prop)(w:World):OL t n B R w (.slice none 0 0) []:=⟨[],LS.nil _ _ _ _,rfl,fun i u y h=>by simp at h⟩
theorem OL.ext{α:Type}{t:TypeId}{n B:Nat}{R:World→Value→α→Prop}{w w':World}{v:Value}{ys:List α}(h:OL t n B R w v ys)(he:Ext w w')(hR:∀u y,R w u y→R w' u y):OL t n B R w' v ys:=by
 obtain⟨vs,h1,h2,h3⟩:=h;exact⟨vs,h1.ext he,h2,fun i u y a b=>hR u y (h3 i u y a b)⟩
theorem OL.app{α:Type}{t:TypeId}{n B:Nat}{R:World→Value→α→Prop}{w w':World}{v':Value}{vs:List Value}{ys:List α}{u:Value}{y:α}(h2:vs.length=ys.length)(h3:∀(i:Nat) (u:Value) (y:α),vs[i]? =some u→ys[i]? =some y→R w u y)(hLS:LS t n B w' v' (vs++ [u]))(hR:∀u y,R w u y→R w' u y)(hn:R w' u y):OL t n B R w' v' (ys++ [y]):=by
 refine⟨_,hLS,by simp[h2],fun i a b ha hb=> ?_⟩
 rcases Nat.lt_or_ge i vs.length with hi |hi
 ·rw[List.getElem?_append_left hi]at ha;rw[List.getElem?_append_left (by omega)]at hb;exact hR _ _ (h3 i a b ha hb)
 ·rw[List.getElem?_append_right hi]at ha;rw[List.getElem?_append_right (by omega),←h2]at hb
  cases hz:i - vs.length with
  |zero=>
   rw[hz]at ha hb
   simp at ha hb
   subst ha hb;exact hn
  |succ k=>rw [hz]at ha;simp at ha
theorem OL.sl{α:Type}{t:TypeId}{n B:Nat}{R:World→Value→α→Prop}{w:World}{v:Value}{ys:List α}(h:OL t n B R w v ys)(hn:0<n):SL n R w v ys:=by
 obtain⟨vs,h2,hl,h3⟩:=h;obtain⟨ad,cap,e1,e2,e3, -⟩:=h2.opn;rw[hl]at e1 e2;refine⟨ad,cap,e1,e2,e3,?_⟩
 rcases Nat.eq_zero_or_pos ys.length with h0 |h0
 ·exact .inl (List.eq_nil_of_length_eq_zero h0)
 ·obtain⟨g,cap',rest,f1,f2, -⟩:=h2.hold (by omega);rw[e1]at f1;simp only[Value.slice.injEq]at f1;obtain⟨f1, -, -⟩:=f1;refine .inr ⟨g,0,f1,fun i y hi=> ?_⟩;obtain⟨u,hu⟩:∃u,vs[i]? =some u:=⟨_,List.getElem?_eq_getElem (by have:=(List.getElem?_eq_some_iff.1 hi).1;omega)⟩;obtain⟨g',cap2,j1,j2,cs,j3,j4,j5,j6⟩:=h2.at hn hu;rw[e1]at j1;simp only[Value.slice.injEq,f1,Option.some.injEq,Addr.mk.injEq]at j1;obtain⟨⟨rfl, -⟩, -⟩:=j1;refine⟨cs,j4,fun j x hj=> ?_,j3▸h3 i u y hu hi⟩;rw[Nat.zero_add];exact(j6 w (Ext.refl w) j x hj).1
theorem SL.map{α:Type}{n:Nat}{R R':World→Value→α→Prop}{w:World}{v:Value}{ys:List α}(h:SL n R w v ys)(hR:∀u y,R w u y→R' w u y):SL n R' w v ys:=by
 obtain⟨ad,cap,e1,e2,e3,e4⟩:=h;refine⟨ad,cap,e1,e2,e3,?_⟩
 rcases e4 with e4 |⟨g,off,e4,e5⟩
 ·exact .inl e4
 ·exact .inr ⟨g,off,e4,fun i y hi=>(let ⟨cs,a,b,c⟩:=e5 i y hi;⟨cs,a,b,hR _ _ c⟩)⟩
def lightW:List Nat→Bool
 | []=>true
 | [x]=>decide (x<65536)
 |_=>false
def wordsE(e:RE):Nat:=e.2.1.length+e.2.2.length
def heavyE(e:RE):Nat:=if lightW e.2.1&&lightW e.2.2 then 0 else wordsE e
def weightE:List RE→Nat
 | []=>0
 |e::l=>heavyE e+weightE l
theorem weightE_snoc(l:List RE)(e:RE):weightE (l++ [e])=weightE l+heavyE e:=by
 induction l with
 |nil=>simp [weightE]
 |cons x l ih=>simp only[List.cons_append,weightE,ih];omega
def greatE(l:List RE):Bool:=l.any (fun e=>decide (6<wordsE e)) || (decide (30<l.length) || decide (18<weightE l))
theorem greatE_not{l:List RE}(h:greatE l=false):l.length≤30∧∀e∈l,wordsE e≤6:=by
 unfold greatE at h;simp only[Bool.or_eq_false_iff,decide_eq_false_iff_not,List.any_eq_false,decide_eq_true_eq]at h;exact⟨by omega,fun e he=>by have:=h.1 e he;omega⟩
theorem greatE_words{l:List RE}{i:Nat}{e:RE}(h:l[i]? =some e)(hw:6<wordsE e):greatE l=true:=by
 unfold greatE
 have:l.any (fun e=>decide (6<wordsE e))=true:=List.any_eq_true.2 ⟨e,List.mem_of_getElem? h,by simpa using hw⟩
 rw[this]
 rfl
theorem greatE_rest{l:List RE}(h:∀e∈l,wordsE e≤6):greatE l=(decide (30<l.length) || decide (18<weightE l)):=by
 unfold greatE
 have:l.any (fun e=>decide (6<wordsE e))=false:=List.any_eq_false.2 fun e he=>by have:=h e he;simp;omega
 rw[this]
 rfl
def greatV(l:List TE):Bool:=greatE (l.map Prod.snd)
set_option maxHeartbeats 4000000 in
theorem light_calls(v:Value)(xs:List Nat)(w:World)(hv:IsL .u64 w v xs)(hd:Dig W xs):
  Calls Tryz.prog 150 #[v] w fun e w'=>e= .returned (.bool (lightW xs))∧Ext w w':=by
 obtain⟨ad,cap,rfl,hlc,hcap,hr⟩:=hv
 match xs,hlc,hr,hd with
 | [],hlc,hr,hd=>
  simp only[List.length_nil]
  go_enter Tryz.func150,Tryz.ntmps150
  go_wp2;go_ret;exact⟨rfl,Ext.refl _⟩
 | [x],hlc,hr,hd=>
  obtain⟨b,off,rfl,hcells⟩:=hr.at (by simp[vals]);have hcx:=hcells 0 _ (vals_get .u64 [x] 0 (by simp));simp only[List.length_cons,List.length_nil,Nat.zero_add];have hx:x<W:=hd x (by simp);rw[W_eq]at hx;clear hcells hr hd
  simp at hcx
  go_enter Tryz.func150,Tryz.ntmps150
  by_cases hxx:x<65536
  ·have h1:(x:Int)<65536:=by omega
   have HR:Hid (lightW [x]=true):=Lib.hid (decide_eq_true hxx)
   go_wp2;go_ret
   exact⟨by rw[HR.out]<;>rfl,Ext.refl _⟩
  ·have h1:¬(x:Int)<65536:=by omega
   have HR:Hid (lightW [x]=false):=Lib.hid (decide_eq_false hxx)
   go_wp2;go_ret
   exact⟨by rw[HR.out]<;>rfl,Ext.refl _⟩
 |x::y::r,hlc,hr,hd=>
  obtain⟨n,hn⟩:∃n,n=(x::y::r).length:=⟨_,rfl⟩
  have h0:(n:Int)≠0:=by rw[hn];simp only[List.length_cons];omega
  have h1:(n:Int)≠1:=by rw[hn];simp only[List.length_cons];omega
  have HR:Hid (lightW (x::y::r)=false):=Lib.hid rfl
  have hb0:((n:Int)==0)=false:=by simpa using h0
  have hb1:((n:Int)==1)=false:=by simpa using h1
  rw[←hn];clear hn hr
  go_enter Tryz.func150,Tryz.ntmps150
  go_wp2;go_ret
  exact⟨by rw[HR.out]<;>rfl,Ext.refl _⟩
set_option maxHeartbeats 4000000 in
theorem weight_calls(v:Value)(l:List RE)(w:World)(hv:SLQ w v l)(hn:l.length≤30)(hl:∀e∈l,wordsE e≤6):
  Calls Tryz.prog 74 #[v] w fun e w'=>e= .returned (.int .i64 (weightE l:Int))∧Ext w w':=by
 obtain⟨ad,n,cap,hnl,rfl,hn1,hat⟩:=hv.at;rw[←hnl]at hn;have HN:=Lib.hid hnl;have HAT:=Lib.hid hat;clear hnl hat hv
 go_enter Tryz.func74,Tryz.ntmps74
 go_wp2_with fail
 go_loopw [3,4] (fun s3 s4 wr=>∃i s:Nat,i≤n∧s4= .int .i64 (i:Int)∧s3= .int .i64 (s:Int)∧s≤6*i∧Hid (s=weightE (l.take i))∧Ext w wr) (fun _ s4 _=>((n:Int) - intOf s4).toNat)
 case atStart=>exact ⟨0,0,Nat.zero_le _,rfl,rfl,Nat.zero_le _,Lib.hid rfl,Ext.refl _⟩
 case round=>
  obtain⟨i,s,hi,rfl,rfl,hs6,hS,hE0⟩:=hrel
  rcases Nat.eq_or_lt_of_le hi with hin |hin
  ·subst hin
   have hlt:¬((i:Int)<(i:Int)):=by omega
   have hss:s=weightE l:=by have:=hS.out;rwa [HN.out,List.take_length]at this
   have HSS:=Lib.hid hss;clear hss;go_wp2;go_ret
   exact⟨by rw[HSS.out]<;>rfl,hE0⟩
  ·have hlt:(i:Int)<(n:Int):=by omega
   obtain⟨⟨xb,xs,xt⟩,hx⟩:∃x,l[i]? =some x:=⟨_,List.getElem?_eq_getElem (by rw[←HN.out];exact hin)⟩;obtain⟨g,off,rfl,b,a1,n1,c1,a2,n2,c2, -, -,hcell⟩:=HAT.out i _ hx;have hw6:xs.length+xt.length≤6:=hl _ (List.mem_of_getElem? hx)
   have htk:weightE (l.take (i+1))=weightE (l.take i)+heavyE (xb,xs,xt):=by rw[List.take_add_one,hx];exact weightE_snoc _ _
   rw[←hS.out]at htk;have HTK:=Lib.hid htk;obtain⟨hc0,hc1,hc2,hR⟩:=hcell wr hE0;have HC:=Lib.hid hcell;have HX:=Lib.hid hx;have HW:=Lib.hid hw6;obtain⟨⟨s1,s2,hv,hL1,hL2⟩,hD1,hD2, -⟩:=hR
   cases hv
   have HL:=Lib.hid (And.intro hL1 (And.intro hL2 (And.intro hD1 hD2)));clear hx hcell htk hL1 hL2 hD1 hD2 hw6
   have hnh:(heavyE (xb,xs,xt))=if lightW xs&&lightW xt then 0 else xs.length+xt.length:=rfl
   have HNH:=Lib.hid hnh;clear hnh;obtain⟨p,hp⟩:∃p,p=lightW xs:=⟨_,rfl⟩;obtain⟨q,hq⟩:∃q,q=lightW xt:=⟨_,rfl⟩;have HP:=Lib.hid (And.intro hp hq);obtain⟨i1,hi1⟩:∃i1,i1=i+1:=⟨_,rfl⟩
   have hi1':(i:Int)+1=(i1:Int):=by omega
   have hi1n:i1≤n:=by omega
   have HI1:=Lib.hid hi1;obtain⟨t,ht⟩:∃t,t=xs.length+xt.length:=⟨_,rfl⟩;obtain⟨st,hst⟩:∃st,st=s+t:=⟨_,rfl⟩
   have ht6:t≤6:=by rw[ht];exact HW.out
   have hst':(s:Int)+(t:Int)=(st:Int):=by omega
   have hst6:st≤6*i1:=by omega
   have hs6':s≤6*i1:=by omega
   have hwst:IntKind.i64.wrap (st:Int)=(st:Int):=Go.IntWalk.i64_in _ ⟨by omega,by omega⟩
   have HT:=Lib.hid (And.intro ht hst);clear hp hq hi1 ht hst;go_wp2_with fail;refine(light_calls _ xs wr HL.out.1 HL.out.2.2.1).mono ?_;rintro e w2 ⟨rfl,e2⟩;rw[←HP.out.1];obtain⟨hd0,hd1,hd2, -⟩:=HC.out w2 (hE0.trans e2);have hE2:=hE0.trans e2
   cases p with
   |true=>
    go_wp2_with fail;refine(light_calls _ xt w2 (HL.out.2.1.ext e2) HL.out.2.2.2).mono ?_;rintro e w3 ⟨rfl,e3⟩;rw[←HP.out.2];obtain⟨hf0,hf1,hf2,hf⟩:=HC.out w3 (hE2.trans e3);have HF:=Lib.hid hf;clear hf
    cases q with
    |true=>
     have hz:s=weightE (l.take i1):=by
      rw[HI1.out,HTK.out,HNH.out,←HP.out.1,←HP.out.2]
      rfl
     have HZ:=Lib.hid hz;clear hz;go_wp2;go_roundw
     case rel=>exact ⟨i1,s,hi1n,rfl,rfl,hs6',HZ,hE2.trans e3⟩
     case measure=>have:=HI1.out;simp[intOf];omega
    |false=>
     have hz:st=weightE (l.take i1):=by
      rw[HI1.out,HTK.out,HNH.out,←HP.out.1,←HP.out.2,HT.out.2,HT.out.1]
      rfl
     have HZ:=Lib.hid hz;clear hz;go_wp2_with fail;refine(rqwords3_calls _ xb xs xt w3 HF.out.1 (by have:=HW.out;omega)).mono ?_;rintro e w4 ⟨rfl,e4⟩;rw[←HT.out.1];go_wp2;go_roundw
     case rel=>exact ⟨i1,st,hi1n,rfl,rfl,hst6,HZ,(hE2.trans e3).trans e4⟩
     case measure=>have:=HI1.out;simp[intOf];omega
   |false=>
    obtain⟨hf0,hf1,hf2,hf⟩:=HC.out w2 hE2;have HF:=Lib.hid hf;clear hf
    have hz:st=weightE (l.take i1):=by
     rw[HI1.out,HTK.out,HNH.out,←HP.out.1,HT.out.2,HT.out.1]
     rfl
    have HZ:=Lib.hid hz;clear hz;go_wp2_with fail;refine(rqwords3_calls _ xb xs xt w2 HF.out.1 (by have:=HW.out;omega)).mono ?_;rintro e w4 ⟨rfl,e4⟩;rw[←HT.out.1];go_wp2;go_roundw
    case rel=>exact ⟨i1,st,hi1n,rfl,rfl,hst6,HZ,hE2.trans e4⟩
    case measure=>have:=HI1.out;simp[intOf];omega
set_option maxHeartbeats 4000000 in
theorem weights_calls(v:Value)(l:List TE)(w:World)(hv:TLE w v l)(hn:l.length≤30)(hl:∀e∈l,wordsE e.2≤6):
  Calls Tryz.prog 75 #[v] w fun e w'=>e= .returned (.int .i64 (weightE (l.map Prod.snd):Int))∧Ext w w':=by
 obtain⟨ad,n,cap,hnl,rfl,hn1,hat⟩:=hv.at;rw[←hnl]at hn;have HN:=Lib.hid hnl;have HAT:=Lib.hid hat;clear hnl hat hv
 go_enter Tryz.func75,Tryz.ntmps75
 go_wp2_with fail
 go_loopw [3,4] (fun s3 s4 wr=>∃(i:Nat) (ado:Option Addr) (capo:Nat),i≤n∧s4= .int .i64 (i:Int)∧s3= .slice ado i capo∧Hid (OL 41 3 w.heap.size (fun _ u e=>RawE w u e) wr (.slice ado i capo) ((l.map Prod.snd).take i))∧Ext w wr) (fun _ s4 _=>((n:Int) - intOf s4).toNat)
 case atStart=>exact ⟨0,none,0,Nat.zero_le _,rfl,rfl,Lib.hid (OL.nil _ _ _ _ _),Ext.refl _⟩
 case round=>
  obtain⟨i,ado,capo,hi,rfl,rfl,hS,hE0⟩:=hrel
  rcases Nat.eq_or_lt_of_le hi with hin |hin
  ·subst hin
   have hlt:¬((i:Int)<(i:Int)):=by omega
   have hsl:SLQ wr (.slice ado i capo) (l.map Prod.snd):=by
    have:=hS.out
    rw[show (l.map Prod.snd).take i=l.map Prod.snd by rw[HN.out,List.take_of_length_le (by simp)]]at this
    exact(this.sl (by omega)).map fun u y h=>h.ext hE0
   have HSL:=Lib.hid hsl;clear hsl;go_wp2_with fail;refine(weight_calls _ (l.map Prod.snd) wr HSL.out (by rw[List.length_map,←HN.out];exact hn) (fun e he=>by obtain⟨x,h1,rfl⟩:=List.mem_map.1 he;exact hl x h1)).mono ?_;rintro e w2 ⟨rfl,e2⟩;go_wp2;go_ret;exact⟨rfl,hE0.trans e2⟩
  ·have hlt:(i:Int)<(n:Int):=by omega
   obtain⟨⟨xc,xe⟩,hx⟩:∃x,l[i]? =some x:=⟨_,List.getElem?_eq_getElem (by rw[←HN.out];exact hin)⟩;obtain⟨g,off,rfl,b,a1,n1,c1,a2,n2,c2, -, -,hcell,hR⟩:=HAT.out i _ hx;have hc3:=cells3 hcell;have hc0:=hc3 wr hE0 0 _ rfl;have hc1:=hc3 wr hE0 1 _ rfl;have hc2:=hc3 wr hE0 2 _ rfl;simp only[Nat.add_zero]at hc0;obtain⟨vs,hls,hvl,hvs⟩:=hS.out
   have hvi:vs.length=i:=by rw[hvl,List.length_take,List.length_map,←HN.out];omega
   have htk:(l.map Prod.snd).take (i+1)=(l.map Prod.snd).take i++ [xe]:=by rw[List.take_add_one,List.getElem?_map,hx];rfl
   subst hvi;have HTK:=Lib.hid htk;have HLS:=Lib.hid hls;have HV:=Lib.hid (And.intro hvl hvs);have HRX:=Lib.hid hR;have hwr:=hE0.size
   simp only at hR
   clear hcell hx hls hvl hvs htk hc3 hR hS
   go_wp2_with (first
    | (at_builtin;go_loud (refine wpList_append_LS rfl _ _ 49 rfl 41 3 56 w.heap.size Tryz.underlying49 (by kernel_rfl) (by kernel_rfl) (by omega) _ vs rfl (HLS.out.ext ((Ext.refl _).alloc _)) ⟨wr.heap.size,0,none⟩ #[.bool b,.slice a1 n1 c1,.slice a2 n2 c2] rfl rfl (news_new _ _ _) (by kernel_rfl) (by omega) (by omega) (by rw[alloc_size];omega) ?_);intro g' cap2' w7 hls7 hg7 hwh7 hlt7)
    |fail)
   go_roundw
   case rel=>
    have hA:=(Ext.refl wr).alloc (.cells #[.bool b,.slice a1 n1 c1,.slice a2 n2 c2] 41);refine⟨vs.length+1,some ⟨g',0,none⟩,cap2',by omega,by simp,rfl,Lib.hid ?_,(hE0.trans hA).stepG hg7 HLS.out.ge⟩;rw[HTK.out];exact OL.app (w:=wr) HV.out.1 HV.out.2 hls7 (fun u y h=>h) HRX.out
   case measure=>simp [intOf];omega
set_option maxHeartbeats 4000000 in
theorem great_calls(v:Value)(l:List TE)(w:World)(hv:TLE w v l):
  Calls Tryz.prog 73 #[v] w fun e w'=>e= .returned (.bool (greatV l))∧Ext w w':=by
 obtain⟨ad,n,cap,hnl,rfl,hn1,hat⟩:=hv.at;have HV:=Lib.hid hv;have HN:=Lib.hid hnl;have HAT:=Lib.hid hat;clear hnl hat hv
 go_enter Tryz.func73,Tryz.ntmps73
 go_wp2_with fail
 go_loopw [3] (fun s wr=>∃i:Nat,i≤n∧s= .int .i64 (i:Int)∧Hid (∀e∈l.take i,wordsE e.2≤6)∧Ext w wr) (fun s _=>((n:Int) - intOf s).toNat)
 case atStart=>exact ⟨0,Nat.zero_le _,rfl,Lib.hid (fun e he=>by simp at he),Ext.refl _⟩
 case round=>
  obtain⟨i,hi,rfl,hS,hE0⟩:=hrel
  rcases Nat.eq_or_lt_of_le hi with hin |hin
  ·subst hin
   have hlt:¬((i:Int)<(i:Int)):=by omega
   have hall:∀e∈l,wordsE e.2≤6:=by have:=hS.out;rwa [HN.out,List.take_length]at this
   have hG:greatV l=(decide (30<i) || decide (18<weightE (l.map Prod.snd))):=by
    unfold greatV;rw[greatE_rest (fun e he=>by obtain⟨x,h1,rfl⟩:=List.mem_map.1 he;exact hall x h1),List.length_map,←HN.out]
   have HG:=Lib.hid hG;have HALL:=Lib.hid hall;clear hG hall
   by_cases h30:30<i
   ·have h30':(30:Int)<(i:Int):=by omega
    have HR:Hid (greatV l=true):=Lib.hid (by rw[HG.out,decide_eq_true h30];rfl)
    go_wp2;go_ret
    exact⟨by rw[HR.out]<;>rfl,hE0⟩
   ·have h30':¬(30:Int)<(i:Int):=by omega
    have HR:Hid (greatV l=decide (18<weightE (l.map Prod.snd))):=Lib.hid (by rw[HG.out,decide_eq_false h30];rfl)
    go_wp2_with fail;refine(weights_calls _ l wr (HV.out.ext hE0) (by rw[←HN.out];omega) HALL.out).mono ?_;rintro e w2 ⟨rfl,e2⟩;obtain⟨p,hp⟩:∃p,p=weightE (l.map Prod.snd):=⟨_,rfl⟩;rw[←hp]at HR ⊢;clear hp
    by_cases h18:18<p
    ·have h18':(18:Int)<(p:Int):=by omega
     have HR2:Hid (greatV l=true):=Lib.hid (by rw[HR.out,decide_eq_true h18])
     go_wp2;go_ret
     exact⟨by rw[HR2.out]<;>rfl,hE0.trans e2⟩
    ·have h18':¬(18:Int)<(p:Int):=by omega
     have hd18:decide ((18:Int)<(p:Int))=false:=decide_eq_false h18'
     have HR2:Hid (greatV l=false):=Lib.hid (by rw[HR.out,decide_eq_false h18])
     go_wp2;go_ret
     exact⟨by rw[HR2.out]<;>rfl,hE0.trans e2⟩
  ·have hlt:(i:Int)<(n:Int):=by omega
   obtain⟨⟨xc,xb,xs,xt⟩,hx⟩:∃x,l[i]? =some x:=⟨_,List.getElem?_eq_getElem (by rw[←HN.out];exact hin)⟩;obtain⟨g,off,rfl,b,a1,n1,c1,a2,n2,c2, -, -,hcell,hR⟩:=HAT.out i _ hx;have hc3:=cells3 hcell;have hc0:=hc3 wr hE0 0 _ rfl;have hc1:=hc3 wr hE0 1 _ rfl;have hc2:=hc3 wr hE0 2 _ rfl;simp only[Nat.add_zero]at hc0;have HRX:=Lib.hid hR;have HX:=Lib.hid hx;obtain⟨p,hp⟩:∃p,p=xs.length+xt.length:=⟨_,rfl⟩;have HP:=Lib.hid hp;obtain⟨i1,hi1⟩:∃i1,i1=i+1:=⟨_,rfl⟩
   have hi1':(i:Int)+1=(i1:Int):=by omega
   have hi1n:i1≤n:=by omega
   have HI1:=Lib.hid hi1;clear hcell hx hc3 hR hp hi1;go_wp2_with fail;refine(rqwords3_calls _ xb xs xt wr (HRX.out.1.ext hE0) HRX.out.2.2.2).mono ?_;rintro e w2 ⟨rfl,e2⟩;rw[←HP.out]
   by_cases h6:6<p
   ·have h6':(6:Int)<(p:Int):=by omega
    have HR:Hid (greatV l=true):=Lib.hid (greatE_words (l:=l.map Prod.snd) (i:=i) (e:=(xb,xs,xt)) (by rw[List.getElem?_map,HX.out];rfl) (by show 6<xs.length+xt.length;rw[←HP.out];exact h6))
    go_wp2;go_ret
    exact⟨by rw[HR.out]<;>rfl,hE0.trans e2⟩
   ·have h6':¬(6:Int)<(p:Int):=by omega
    have hs:∀e∈l.take i1,wordsE e.2≤6:=by
     rw[HI1.out,List.take_add_one,HX.out];intro e he
     rcases List.mem_append.1 he with he |he
     ·exact hS.out e he
     ·simp only[Option.toList_some,List.mem_singleton]at he;subst he
      show xs.length+xt.length≤6
      rw[←HP.out]
      omega
    have HS:=Lib.hid hs;clear hs;go_wp2;go_roundw
    case rel=>exact ⟨i1,hi1n,rfl,HS,hE0.trans e2⟩
    case measure=>have:=HI1.out;simp[intOf];omega
theorem LS.chg{e:TypeId}{n B g:Nat}{w w':World}{v:Value}{vs:List Value}(h:LS e n B w v vs)(hc:Chg g w w')(hg:g<B):LS e n B w' v vs:=by
 refine⟨h.1,h.2.1,?_⟩
 rcases h.2.2 with h2 |⟨g',cap,cur,h1,h2,h3,h4⟩
 ·exact .inl h2
 ·exact .inr ⟨g',cap,cur,h1,h2,hc.blk h3 (by omega),h4⟩
theorem TO.chg{B k g:Nat}{w w':World}{v:Value}{m:List (Int×Rat)}(h:TO B k w v m)(hc:Chg g w w')(hg:g<B):TO B k w' v m:=by
 obtain⟨ts,h1,h2,h3⟩:=h;exact⟨ts,h1,h2.chg hc hg,fun i t x h4 h5=>(let ⟨a,b,c⟩:=h3 i t x h4 h5;⟨a,b.chg hc hg,c⟩)⟩
def PP.tO{S:Nat}(k:Nat)(m:List (Int×Rat)):PP S:=⟨false,fun u w=>TO S k w u m,fun _ _ _ h hp=>hp.ext h,fun _ _ hg _ _ _ h hp=>hp.chg h hg⟩
open Go.ChangeShapes Go.WideShapes Go.ChangeAt
theorem cellsTm:Tryz.prog.cellsOf 95=4:=by kernel_rfl
theorem cellsInt:Tryz.prog.cellsOf 3=1:=by kernel_rfl
section
variable {H:Type} {enc:TypeId×Value→H} {w:World} {base:Nat} {spare:Nat→Bool} {held:Bool}
theorem open_int1{fuel:Nat}{cs:List Value}{x:DataW H×List MemPlace}(h:DataW.trod enc Tryz.prog w base spare held fuel 3 cs=some x):∃k,cs=[.int .i64 k]∧(Lit.int .i64 k).wf=true∧x.1= .lit (.int .i64 k):=by
 cases fuel with
 |zero=>simp [DataW.trod]at h
 |succ n=>
  unfold DataW.trod at h;rw[Tryz.underlying3]at h
  rcases cs with _ |⟨c,_ |⟨c2,cs⟩⟩<;>(try cases c)<;>simp at h
  obtain⟨⟨rfl,hw⟩,h2⟩:=h;exact⟨_,rfl,hw,by rw[←h2]⟩
theorem open_termC{fuel:Nat}{cs:List Value}{x:DataW H×List MemPlace}(h:DataW.trod enc Tryz.prog w base spare held fuel 95 cs=some x):∃c b s t xs ys,cs=[.int .i64 c,.bool b,s,t]∧(Lit.int .i64 c).wf=true∧IsL .u64 w s xs∧Dig W xs∧IsL .u64 w t ys∧Dig W ys∧(∀B,(∀n∈x.1.weights Tryz.prog 95,n≤B)→xs.length≤B∧ys.length≤B):=by
 obtain⟨y0,y1,n,hx,hl,h0,h1⟩:=trod_struct2 Tryz.underlying95 h;rw[cellsTm]at hl
 obtain⟨c0,c1,c2,c3,rfl⟩:∃c0 c1 c2 c3,cs=[c0,c1,c2,c3]:=by
  rcases cs with _ |⟨c0,_ |⟨c1,_ |⟨c2,_ |⟨c3,_ |⟨c4,cs⟩⟩⟩⟩⟩<;>simp at hl
  exact⟨_,_,_,_,rfl⟩
 obtain⟨c,hc,wc, -⟩:=open_int1 h0;obtain⟨b,s,t,xs,ys,hb,hL,hd,hL2,hd2,hB,hw⟩:=open_ratC h1
 have e0:List.take (Tryz.prog.cellsOf 3) (List.drop 0 [c0,c1,c2,c3])=[c0]:=by rw[cellsInt];rfl
 have e1:List.take (Tryz.prog.cellsOf 41) (List.drop 1 [c0,c1,c2,c3])=[c1,c2,c3]:=by rw[cellsQ];rfl
 have h0': [c0]=[.int .i64 c]:=e0▸hc
 have h1': [c1,c2,c3]=[.bool b,s,t]:=e1▸hb
 simp only[List.cons.injEq,and_true]at h0' h1';obtain⟨rfl,rfl,rfl⟩:=h1';subst h0';refine⟨c,b,_,_,xs,ys,rfl,wc,hL,hd,hL2,hd2,fun B h=>hB B fun n hn=>h n ?_⟩;rw[hx];simp only[DataW.weights,Tryz.underlying95]
 first
  |exact List.mem_append_right _ (List.mem_append_left _ hn)
  | (simp only[List.mem_append];exact .inr (.inl hn))
end
theorem rqofR_calls(v:Value)(q:Rat)(k:Nat)(w:World)(hv:IsR w v q k)(hk:k≤1000000):
  Calls Tryz.prog 31 #[v] w fun e w'=>∃v',e= .returned v'∧FrQd w.heap.size w' v' q∧Ext w w':=by
 obtain⟨n,d,h1,rfl,h2,h3⟩:=hv;have a1:=szTK_le n.natAbs;have a2:=szTK_le d;have b1:sz W n.natAbs≤k:=h2;exact rqof3_calls _ _ _ _ h1 (by show sz TK n.natAbs≤_;omega) (by omega)
theorem szD_of{q:Rat}{k:Nat}(h:szQ q≤k):szD q≤5*k:=by
 have a1:=szTK_le q.num.natAbs;have a2:=szTK_le q.den;unfold szQ szZ at h;unfold szD szT
 omega
theorem FrQd.chgN{B:Nat}{w w':World}{v:Value}{q:Rat}{g:Nat}{t:TypeId}{cs cs':Array Value}(h:FrQd B w v q)(hc:Chg g w w')(hb:Bx t w g cs)(hb':Bx t w' g cs')(ht:t≠173)(ht2:t≠3):FrQd B w' v q:=h.tchg (S:=0) ⟨g,t,cs,cs',Nat.zero_le _,ht,ht2,rfl,hb,hb',hc⟩
def DtJ(w wr:World)(g K:Nat)(q:Rat):Prop:=Ext w wr∧∃b a1 n1 c1 a2 n2 c2,Bx 56 wr g #[.bool b,.slice a1 n1 c1,.slice a2 n2 c2]∧FrQd w.heap.size wr (.agg #[.bool b,.slice a1 n1 c1,.slice a2 n2 c2]) q∧szD q≤K
set_option maxHeartbeats 4000000 in
theorem get5_calls(k:Nat)(v:Value)(c:Int)(l:List (Int×Rat))(w:World)(hl:TL k w v l)(hk:k≤1000000)(hn:l.length≤6000):
  Calls Tryz.prog 92 #[v,.int .i64 c] w fun e w'=>∃v',e= .returned v'∧FrQd w.heap.size w' v' (getV l c)∧szD (getV l c)≤l.length*(5*k+1)+1∧Ext w w':=by
 obtain⟨ad,n,cap,hnl,rfl,hn1,hat⟩:=hl.at;rw[←hnl]at hn ⊢;have Hn:=Lib.hid hnl;have Hat:=Lib.hid hat;clear hnl hl hat
 go_enter Tryz.func92,Tryz.ntmps92
 obtain⟨w1,hw1,e1,b1,s1⟩:=alloc1 w #[.bool false,.slice none 0 0,.slice none 0 0] 56;go_wp2_with fail;rw[←hw1];refine(rqsmall3_calls 0 _ (by omega) (by omega)).mono ?_;rintro e w2 ⟨v2,rfl,q2,e2⟩;obtain⟨b,ad2,l2,cap2,bd,m2,dap,rfl,q2⟩:=q2.opn;have Hq2:=Lib.hid q2;obtain⟨w3,hw3,e3,b3,s3⟩:=alloc1 w2 #[.bool b,.slice ad2 l2 cap2,.slice bd m2 dap] 56;clear q2;go_wp2_with fail;rw[←hw3];have HJ:DtJ w w3 w2.heap.size (0*(5*k+1)+1) (getV (l.take 0) c):=⟨(e1.trans e2).trans e3,_,_,_,_,_,_,_,b3,by rw[List.take_zero,getV_nil];exact(Hq2.out.ext e3).mono e1.size,by rw[List.take_zero,getV_nil,Nat.zero_mul];decide⟩;have HJ0:=Lib.hid HJ
 have hs2:w.heap.size<w2.heap.size:=by have:=e1.size;have:=e2.size;have:=b1.lt;have:=s1;omega
 obtain⟨g5,hg5⟩:∃g5,g5=w2.heap.size:=⟨_,rfl⟩;rw[←hg5]at HJ0 hs2 ⊢;have B1:Bx 56 w3 w.heap.size #[.bool false,.slice none 0 0,.slice none 0 0]:=(b1.ext e2).ext e3;clear HJ hw1 hw3 hg5 Hq2
 go_loopw [6] (fun s6 wr=>∃i:Nat,i≤n∧s6= .int .i64 (i:Int)∧Hid (DtJ w wr g5 (i*(5*k+1)+1) (getV (l.take i) c)∧Bx 56 wr w.heap.size #[.bool false,.slice none 0 0,.slice none 0 0])) (fun s6 _=>((n:Int) - intOf s6).toNat)
 case atStart=>exact ⟨0,Nat.zero_le _,rfl,Lib.hid ⟨HJ0.out,B1⟩⟩
 case round=>
  obtain⟨i,hi,rfl,hH⟩:=hrel;obtain⟨⟨hE0,rb,r1,m1,d1,r2,m2',d2,hbx,hq,hsz⟩,hB0⟩:=hH.out;have HQ:=Lib.hid hq;have HSZ:=Lib.hid hsz;clear hq hsz hH HJ0 B1 b1 b3 e1 e2 e3 s1 s3
  rcases Nat.eq_or_lt_of_le hi with hin |hin
  ·subst hin
   have hlt:¬((i:Int)<(i:Int)):=by omega
   have hcx0:=hbx.cell 0;have hcx1:=hbx.cell 1;have hcx2:=hbx.cell 2;have hb:=hB0;have hc0:=hb.cell 0;have hc1:=hb.cell 1;have hc2:=hb.cell 2;have hf0:=hb.free 0;have hf1:=hb.free 1;have hf2:=hb.free 2;clear hbx;have hszw:=hE0.size;go_wp2;have HQ2:=HQ.out;rw[show l.take i=l by rw[Hn.out,List.take_length]]at HQ2 HSZ;refine ret_box 4 56 w.heap.size 56 _ _ (by kernel_rfl) rfl (((hb.set 0 _).set 1 _).set 2 _) Tryz.underlying56 rfl (by kernel_rfl) rfl ?_;exact⟨_,rfl,HQ2.chgN (Chg.trans (Chg.trans (Chg.setCell _ w.heap.size 0 _) (Chg.setCell _ w.heap.size 1 _)) (Chg.setCell _ w.heap.size 2 _)) hB0 (((hb.set 0 _).set 1 _).set 2 _) (by decide) (by decide),HSZ.out,hE0.step (Chg.trans (Chg.trans (Chg.setCell _ w.heap.size 0 _) (Chg.setCell _ w.heap.size 1 _)) (Chg.setCell _ w.heap.size 2 _)) (by omega)⟩
  ·have hlt:(i:Int)<(n:Int):=by omega
   obtain⟨x,hx⟩:∃x,l[i]? =some x:=⟨_,List.getElem?_eq_getElem (by rw[←Hn.out];exact hin)⟩;obtain⟨g,off,rfl,b',a1,n1,c1,a2,n2,c2,hcell⟩:=Hat.out i x hx;obtain⟨hc0,hc1,hc2,hc3,hIsR⟩:=hcell wr hE0;have HC:=Lib.hid hcell;have HX:=Lib.hid (And.intro hx hIsR)
   have htk:l.take (i+1)=l.take i++ [x]:=by rw[List.take_add_one,hx];rfl
   obtain⟨xc,xq⟩:=x
   simp only at hc0 hc1 hc2 hc3 HX htk
   have HTK:=Lib.hid htk;clear hx hIsR htk hcell
   have hmul:i*(5*k+1)+(5*k+1)=(i+1)*(5*k+1):=(Nat.succ_mul i (5*k+1)).symm
   have hle:i*(5*k+1)≤6000*5000001:=Nat.mul_le_mul (by omega) (by omega)
   by_cases hcc:xc=c∧0≤c
   ·obtain⟨rfl,hc0'⟩:=hcc;go_wp2_with fail;clear hc0 hc1 hc2 hc3;have h5g:g5<wr.heap.size:=hbx.lt
    have hcl:Hid (∀wz,Ext wr wz→∀(j:Nat) (v:Value),(#[.bool b',.slice a1 n1 c1,.slice a2 n2 c2]:Array Value)[j]? =some v→wz.cell? ⟨g,off+i*4+1+j,none⟩=some v):=Lib.hid fun wz hz j v hj=>by
     obtain⟨_,k1,k2,k3, -⟩:=HC.out wz (hE0.trans hz)
     match j,hj with
     |0,hj=>cases hj;exact k1
     |1,hj=>cases hj;exact k2
     |2,hj=>cases hj;exact k3
     |j+3,hj=>simp at hj
    refine wpP [⟨8,g5,56,PP.frQdS (getV (l.take i) xc+xq) ((i+1)*(5*k+1)+1)⟩] [PP.val (.agg #[.bool rb,.slice r1 m1 d1,.slice r2 m2' d2]),PP.val (.slice (some ⟨g,off,none⟩) n cap),PP.val (.int .i64 (i:Int)),PP.val (.pointer (some ⟨g,off+i*4,none⟩)),PP.val (.pointer (some ⟨g,off+i*4+1,none⟩)),PP.val (.agg #[.bool b',.slice a1 n1 c1,.slice a2 n2 c2]),PP.frQd xq,PP.frQdS (getV (l.take i) xc+xq) ((i+1)*(5*k+1)+1),PP.any] [] [8,7,6,5,4,3,2,1,0] ?_ ?_ ?_ ?_ ?_
    ·intro x hx;simp only[List.mem_singleton]at hx;subst hx;exact⟨by show g5<wr.heap.size;omega,rfl⟩
    ·intro x hx;simp only[List.mem_singleton]at hx;subst hx;rfl
    ·intro x hx y hy h;simp only[List.mem_singleton]at hx hy;subst hx hy;exact absurd rfl h
    ·refine⟨?_,?_,?_,?_,?_,?_,?_,?_,?_,trivial⟩
     ·intro f w6 hG hp hl;have hE:Ext wr w6:=hG;change OpGoal _ _ _ f w6 Ext _;exact og_load (P:=Tryz.prog) _ _ g5 _ _ _ rfl rfl rfl (hbx.ext hE) Tryz.underlying56 rfl (by kernel_rfl) rfl
     ·intro f w6 hG hp hl;simp only[OpGoal];go_simp;exact⟨_,rfl,Ext.refl _,rfl⟩
     ·intro f w6 hG hp hl;simp only[OpGoal];go_simp;exact⟨_,rfl,Ext.refl _,rfl⟩
     ·intro f w6 hG hp hl;have q26:=tE hp 0 1 rfl rfl rfl;have q27:=tE hp 1 2 rfl rfl rfl;simp only[OpGoal];go_simp;exact⟨_,rfl,Ext.refl _,rfl⟩
     ·intro f w6 hG hp hl;have q28:=tE hp 0 3 rfl rfl rfl;simp only[OpGoal];go_simp;exact⟨_,rfl,Ext.refl _,rfl⟩
     ·intro f w6 hG hp hl;have hE:Ext wr w6:=hG;have q29:=tE hp 0 4 rfl rfl rfl;change OpGoal _ _ _ f w6 Ext _;exact og_loadAt (P:=Tryz.prog) _ _ g (off+i*4+1) _ _ rfl rfl q29 (fun j v h=>hcl.out _ hE j v h) Tryz.underlying41 rfl (by kernel_rfl) rfl
     ·intro f w6 hG hp hl;have hE:Ext wr w6:=hG;have hS:=hE.size;have q30:=tE hp 0 5 rfl rfl rfl;change OpGoal _ _ _ f w6 Ext _;refine oC #[f 5] Tryz.func31 rfl rfl ?_;rw[q30];refine(rqofR_calls _ xq k _ (HX.out.2.ext hE) hk).mono ?_;rintro e w' ⟨v',rfl,h1,h2⟩;exact⟨v',rfl,h2,h1.mono hS⟩
     ·intro f w6 hG hp hl;have hE:Ext wr w6:=hG;have hS:=hE.size;have q25:=tE hp 0 0 rfl rfl rfl;have q31:=tellV hp 1 6 rfl rfl (fun _=>hE);change OpGoal _ _ _ f w6 Ext _;refine oC #[f 0,f 6] Tryz.func37 rfl rfl ?_;rw[q25];refine(rqadd3_calls _ _ (getV (l.take i) xc) xq (i*(5*k+1)+1) (5*k) _ (HQ.out.ext hE).cq q31.cq HSZ.out (szD_of HX.out.2.sz) (by omega)).mono ?_;rintro e w' ⟨v',rfl,h1,h3,h2⟩;exact⟨v',rfl,h2,h1.mono hS,by omega⟩
     ·intro f w6 hG hp hl;have hE:Ext wr w6:=hG;have hS:=hE.size;have q32:=tellV hp 0 7 rfl rfl (fun _=>hE);intro hg0;change OpGoal _ _ _ f w6 (Chg _) _;obtain⟨⟨s',t',hv,hn,hm⟩,hsz⟩:=q32;exact og_store (P:=Tryz.prog) _ _ _ g5 _ _ _ (PP.frQdS _ _:PP _).p rfl rfl rfl hv (show Bx 56 w6 _ _ from hg0.trans hbx) (by kernel_rfl) rfl (all3 rfl hn.oneCell hm.oneCell) (fun w' h=>⟨⟨s',t',rfl,hn.chg h (by omega),hm.chg h (by omega)⟩,hsz⟩)
    ·intro f w6 hG hp;obtain⟨cs0,hbx0,hz0⟩:∃cs,Bx 56 w6 g5 cs∧(PP.frQdS (getV (l.take i) xc+xq) ((i+1)*(5*k+1)+1):PP wr.heap.size).p (.agg cs) w6:=endS hp 8 (by decide);clear hp;obtain⟨hz1,hz2⟩:=hz0;obtain⟨b6,a6,l6,cap6,a7,l7,cap7,hvv,hz1⟩:=hz1.opn
     cases hvv
     have Hq6:=Lib.hid hz1;have Z6:=Lib.hid hz2;have hsz6:=hE0.size;have E6:Ext w w6:=hE0.stepS hG (by simp;omega);have B06:Bx 56 w6 w.heap.size #[.bool false,.slice none 0 0,.slice none 0 0]:=hB0.chgS hG (by simp;omega)
     have hgv:getV (l.take (i+1)) xc=getV (l.take i) xc+xq:=by rw[HTK.out,getV_snoc,if_pos ⟨rfl,hc0'⟩]
     have HGV:=Lib.hid hgv;clear hz1 hz2 hgv;go_wp2;go_roundw
     case rel=>
      refine⟨i+1,by omega,congrArg (Value.int .i64) (by omega),Lib.hid ⟨⟨E6,_,_,_,_,_,_,_,hbx0,?_,?_⟩,B06⟩⟩
      ·rw[HGV.out];exact Hq6.out.mono hsz6
      ·rw[HGV.out];exact Z6.out
     case measure=>simp [intOf];omega
   ·have hgv:getV (l.take (i+1)) c=getV (l.take i) c:=by rw[HTK.out,getV_snoc,if_neg hcc,Rat.add_zero]
    have HGV:=Lib.hid hgv;clear hgv
    by_cases hxc:xc=c
    ·subst hxc
     have hc0':¬0≤xc:=fun h=>hcc ⟨rfl,h⟩
     clear hcc;go_wp2;go_roundw
     case rel=>
      refine⟨i+1,by omega,congrArg (Value.int .i64) (by omega),Lib.hid ⟨⟨hE0,_,_,_,_,_,_,_,hbx,?_,?_⟩,hB0⟩⟩
      ·rw[HGV.out];exact HQ.out
      ·rw[HGV.out]
       have:=HSZ.out
       omega
     case measure=>simp [intOf];omega
    ·clear hcc;go_wp2;go_roundw
     case rel=>
      refine⟨i+1,by omega,congrArg (Value.int .i64) (by omega),Lib.hid ⟨⟨hE0,_,_,_,_,_,_,_,hbx,?_,?_⟩,hB0⟩⟩
      ·rw[HGV.out];exact HQ.out
      ·rw[HGV.out]
       have:=HSZ.out
       omega
     case measure=>simp [intOf];omega
theorem ownsRow_extI{B e size n:Nat}{w w':World}{v:Value}{xs:List Value}(h:w.ownsRow B e size v n xs)(he:Ext w w'):w'.ownsRow B e size v n xs:=by
 refine⟨h.1,?_⟩
 rcases h.2 with h2 |⟨g,cap,cur,h1,h2,h3,h4⟩
 ·exact .inl h2
 ·exact .inr ⟨g,cap,cur,h1,h2,he.blk h3,h4⟩
theorem take_next{α:Type}{L:List α}{i:Nat}{y:α}(h:L[i]? =some y):L.take (i+1)=L.take i++ [y]:=by rw[List.take_add_one,h];rfl
end Go.Proofs.YtbmnlaepfckmkaaGreat
