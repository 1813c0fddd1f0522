/-
 A queue as its caller knows it: what waits, and what a call of it leaves alone.
-/
import Derived.Test.YthoibjnkhkjnjaaGreatQqiZ
import Derived.Maps.Own
import Derived.Maps.OwnOps
import Derived.Maps.RangeWalk
import Derived.Maps.Views
import Derived.Test.YthoibjnkhkjnjaaGreatComZ
import Derived.Deep.Strs
namespace Go.Proofs.YthoibjnkhkjnjaaGreat
set_option maxRecDepth 100000
set_option maxHeartbeats 1000000
open Go.RowKit
set_option linter.unusedVariables false
set_option linter.unusedSimpArgs false
theorem QHeap.blks{B k:Nat}{w:World}{hv:Value}{d:Array Nd}(h:QHeap B k w hv d):∀g∈blks hv,B≤g∧g<w.heap.size∧∃cs,Bx 38 w g cs:=by
 obtain⟨vs,h1,h2,h3,h4⟩:=h;intro g hg;unfold Go.Proofs.YthoibjnkhkjnjaaGreat.blks at hg
 rcases h3.2 with⟨rfl,_⟩ |⟨g',cap,cur,rfl,hb,hgg,_⟩
 ·simp[Value.ownBlock]at hg
 ·simp[Value.ownBlock]at hg
  subst hg;exact⟨hb,blk_lt hgg,cur,hgg⟩
theorem FrL.chgX{e:TypeId}{k:IntKind}{B0:Nat}{w w':World}{v:Value}{xs:List Nat}{bs:List Nat}(h:FrL e k B0 w v xs)(hc:ChgS bs w w')(hb:∀g∈bs,∀cs,¬Bx e w g cs):FrL e k B0 w' v xs:=by
 obtain⟨ad,cap,h1,h2,h3,h4⟩:=h;refine⟨ad,cap,h1,h2,h3,?_⟩
 rcases h4 with h4 |⟨g,cur,h4,h5,h6,h7⟩
 ·exact .inl h4
 ·exact .inr ⟨g,cur,h4,h5,hc.blk h6 fun hm=>hb g hm _ h6,h7⟩
theorem NdV.chgX{B k:Nat}{w w':World}{v:Value}{x:Nd}{bs:List Nat}(h:NdV B k w v x)(hc:ChgS bs w w')(hb:∀g∈bs,∀cs,¬Bx 61 w g cs):NdV B k w' v x:=by
 obtain⟨b,a1,n1,c1,a2,n2,c2,h1,⟨s,t,hst,hs,ht⟩,h3⟩:=h;exact⟨b,a1,n1,c1,a2,n2,c2,h1,⟨s,t,hst,FrL.chgX hs hc hb,FrL.chgX ht hc hb⟩,h3⟩
def QFr(S:List Nat)(p:Nat)(w w':World):Prop:=∃bs,ChgS bs w w'∧∀g∈bs,(g=p∧∃cs,Bx 58 w g cs)∨(g∉S∧∃cs,Bx 38 w g cs)
theorem QFr.of_ext{S:List Nat}{p:Nat}{w w':World}(h:Ext w w'):QFr S p w w':=⟨[],h.chgS _,by simp⟩
theorem QFr.size{S:List Nat}{p:Nat}{w w':World}(h:QFr S p w w'):w.heap.size≤w'.heap.size:=by
 obtain⟨bs,h1, -⟩:=h;exact h1.2.2.2.1
theorem QFr.bx{S:List Nat}{p g:Nat}{cs:Array Value}{w w':World}(h:QFr S p w w')(hb:Bx 38 w g cs)(hg:g∈S):Bx 38 w' g cs:=by
 obtain⟨bs,h1,h2⟩:=h
 refine h1.blk hb fun hm=> ?_
 rcases h2 g hm with⟨rfl,ds,hd⟩ |⟨hn,_⟩
 ·unfold Bx at hb hd;rw[hb]at hd
  simp at hd
 ·exact hn hg
def Qu(w0:World)(k:Nat)(best:Bool)(p:Nat)(l:List Nd)(S:List Nat)(w:World):Prop:=
 ∃hv d,Bx 58 w p #[.int .i64 (ordV best),hv]∧QHeap w0.heap.size k w hv d∧HpFrom best d 0∧d.toList.Perm l∧Ext w0 w∧w0.heap.size≤p∧∀g,hv.ownBlock=some g→g∉S
theorem Qu.base{w0 w:World}{k p:Nat}{best:Bool}{l:List Nd}{S:List Nat}(h:Qu w0 k best p l S w):Ext w0 w:=by
 obtain⟨hv,d,_,_,_,_,h,_⟩:=h;exact h
theorem Qu.ext{w0 w w':World}{k p:Nat}{best:Bool}{l:List Nd}{S:List Nat}(h:Qu w0 k best p l S w)(he:Ext w w'):Qu w0 k best p l S w':=by
 obtain⟨hv,d,h1,h2,h3,h4,h5,h6,h7⟩:=h;exact⟨hv,d,h1.ext he,h2.ext he,h3,h4,h5.trans he,h6,h7⟩
theorem Qu.more{w0 w w':World}{k p:Nat}{best:Bool}{l:List Nd}{S:List Nat}(h:Qu w0 k best p l S w)(he:Ext w w'){g:Nat}(hg:w.heap.size≤g):Qu w0 k best p l (g::S) w':=by
 obtain⟨hv,d,h1,h2,h3,h4,h5,h6,h7⟩:=h;refine⟨hv,d,h1.ext he,h2.ext he,h3,h4,h5.trans he,h6,fun i hi hm=> ?_⟩
 have:=(h2.blks i (blks_mem hi)).2.1
 rcases List.mem_cons.1 hm with rfl |hm
 ·omega
 ·exact h7 i hi hm
theorem Qu.mono{w0 w:World}{k p:Nat}{best:Bool}{l:List Nd}{S T:List Nat}(h:Qu w0 k best p l S w)(hs:∀g∈T,g∈S):Qu w0 k best p l T w:=by
 obtain⟨hv,d,h1,h2,h3,h4,h5,h6,h7⟩:=h;exact⟨hv,d,h1,h2,h3,h4,h5,h6,fun g hg hm=>h7 g hg (hs g hm)⟩
theorem qu_new(w0 w:World)(k:Nat)(best:Bool)(S:List Nat)(he:Ext w0 w):
  Calls Tryz.prog 5 #[.int .i64 (ordV best)] w fun e w'=>e= .returned (.tuple #[.pointer (some ⟨w.heap.size,0,none⟩),.int .i64 0])∧Qu w0 k best w.heap.size [] S w'∧Ext w w':=by
 refine(qnew_calls best w).mono ?_;rintro e w' ⟨rfl,h1,h2⟩;refine⟨rfl,⟨_,#[],h1,⟨[],rfl,(by intro v hv;cases hv),World.ownsRow_nil _ _ _ _,by simp⟩,?_,List.Perm.refl _,he.trans h2,he.size,by simp[Value.ownBlock]⟩,h2⟩;intro j h0 hj
 simp at hj
theorem qu_len(w0 w:World)(k p:Nat)(best:Bool)(l:List Nd)(S:List Nat)(h:Qu w0 k best p l S w):
  Calls Tryz.prog 19 #[.pointer (some ⟨p,0,none⟩)] w fun e w'=>e= .returned (.int .i64 (l.length:Int))∧Ext w w':=by
 obtain⟨hv,d,h1,⟨vs,q1,q2,q3,q4⟩,h3,h4,h5,h6,h7⟩:=h;obtain⟨ad,cap,rfl⟩:=ownsRow_len q3
 have:=h4.length_eq
 rw[Array.length_toList]at this;rw[←this];exact qlen_calls p _ ad d.size cap w h1
theorem qu_push(w0 w:World)(k p:Nat)(best:Bool)(l:List Nd)(S:List Nat)(va:Value)(x:Nd)(h:Qu w0 k best p l S w)(hx:NdR k w va x)(hk:k≤1000)(hn:(l.length+1)*72≤140737488355328)(hS:∀g∈S,g<w.heap.size):
  Calls Tryz.prog 8 #[.pointer (some ⟨p,0,none⟩),va] w fun e w'=>e= .returned (.tuple #[])∧Qu w0 k best p (x::l) S w'∧QFr S p w w':=by
 obtain⟨hv,d,h1,h2,h3,h4,h5,h6,h7⟩:=h;have hl:=h4.length_eq;rw[Array.length_toList]at hl
 have lim:1000≤LIM:=by rw[LIM_eq];omega
 refine(push_calls w0.heap.size k p best hv va d x w h1 h2 h3 hx (by omega) (by omega) (by omega) h5.size).mono ?_;rintro e w' ⟨rfl,hc,hv',d',k1,k2,k3,k4,k5,k6⟩;refine⟨rfl,⟨hv',d',k1,k2,k3,?_,h5.stepS hc fun g hg=> ?_,h6,fun g hg hm=> ?_⟩,_,hc,fun g hg=> ?_⟩
 ·refine k4.trans ?_;rw[Array.toList_push];exact(List.perm_append_singleton _ _).trans (List.Perm.cons _ h4)
 ·rcases List.mem_cons.1 hg with rfl |hg
  ·exact h6
  ·exact(h2.blks g hg).1
 ·rcases k6 g hg with hh |hh
  ·exact h7 g hh hm
  ·have:=hS g hm
   omega
 ·rcases List.mem_cons.1 hg with rfl |hg
  ·exact .inl ⟨rfl,_,h1⟩
  ·refine .inr ⟨fun hm=> ?_,(h2.blks g hg).2.2⟩;unfold blks at hg
   cases hob:hv.ownBlock with
   |none=>rw [hob]at hg;simp at hg
   |some g'=>
    rw[hob]at hg
    simp at hg
    subst hg;exact h7 g hob hm
theorem qu_pop0(w0 w:World)(k p:Nat)(best:Bool)(S:List Nat)(h:Qu w0 k best p [] S w):
  Calls Tryz.prog 11 #[.pointer (some ⟨p,0,none⟩)] w fun e w'=>e= .returned (.tuple #[.agg #[.int .i64 0,.int .i64 0,.bool false,.slice none 0 0,.slice none 0 0],.bool false])∧Ext w w':=by
 obtain⟨hv,d,h1,⟨vs,q1,q2,q3,q4⟩,h3,h4,h5,h6,h7⟩:=h;obtain⟨ad,cap,rfl⟩:=ownsRow_len q3
 have:=h4.length_eq
 rw[Array.length_toList]at this;rw[this]at h1;exact pop_none p _ ad cap w h1
theorem qu_pop(w0 w:World)(k p:Nat)(best:Bool)(l:List Nd)(S:List Nat)(h:Qu w0 k best p l S w)(hl:l≠ [])(hk:k≤1000)(hn:l.length≤35184372088832):
  Calls Tryz.prog 11 #[.pointer (some ⟨p,0,none⟩)] w fun e w'=>∃x va l',e= .returned (.tuple #[va,.bool true])∧(x::l').Perm l∧(∀y∈l',Le best x y)∧NdV w0.heap.size k w' va x∧Qu w0 k best p l' S w'∧QFr S p w w':=by
 obtain⟨hv,d,h1,h2,h3,h4,h5,h6,h7⟩:=h;have hll:=h4.length_eq;rw[Array.length_toList]at hll
 have lim:1000≤LIM:=by rw[LIM_eq];omega
 have h0:0<d.size:=by
  rw[hll];exact List.length_pos_iff.2 hl
 refine(pop_some w0.heap.size k p best hv d w h1 h2 h3 (by omega) (by omega) (by omega) h0).mono ?_;rintro e w' ⟨va,rfl,hnd,hc,hv',d',k1,k2,k3,k4,k5,k6⟩;refine⟨d[0]!,va,d'.toList,rfl,k4.trans h4,fun y hy=> ?_,hnd,⟨hv',d',k1,k2,k3,List.Perm.refl _,h5.stepS hc fun g hg=> ?_,h6,fun g hg hm=> ?_⟩,_,hc,fun g hg=> ?_⟩
 ·have hy2:y∈d.toList:=k4.mem_iff.1 (List.mem_cons_of_mem _ hy);obtain⟨j,hj,rfl⟩:=List.getElem_of_mem hy2
  have hj':j<d.size:=by simpa using hj
  have:=h3.root j hj'
  rw[getElem!_pos d j hj']at this
  simpa using this
 ·rcases List.mem_cons.1 hg with rfl |hg
  ·exact h6
  ·exact(h2.blks g hg).1
 ·rw[k6]at hg;exact h7 g hg hm
 ·rcases List.mem_cons.1 hg with rfl |hg
  ·exact .inl ⟨rfl,_,h1⟩
  ·refine .inr ⟨fun hm=> ?_,(h2.blks g hg).2.2⟩;unfold blks at hg
   cases hob:hv.ownBlock with
   |none=>rw [hob]at hg;simp at hg
   |some g'=>
    rw[hob]at hg
    simp at hg
    subst hg;exact h7 g hob hm
theorem first_of{best:Bool}{x z:Nd}{l l':List Nd}(h:(x::l').Perm l)(hle:∀y∈l',Le best x y)(hz:z∈l)(hlt:∀y∈l,y=z∨Lt best z y):x=z∧(z::l').Perm l:=by
 have hx:x∈l:=h.mem_iff.1 (List.mem_cons_self ..)
 rcases hlt x hx with rfl |h1
 ·exact⟨rfl,h⟩
 ·rcases List.mem_cons.1 (h.mem_iff.2 hz)with rfl |h2
  ·exact⟨rfl,h⟩
  ·exact absurd h1 (hle z h2)
def ndA:Nd:=⟨1,1,((3:Int):Rat)⟩
def ndB:Nd:=⟨2,2,((3:Int):Rat)⟩
def ndC:Nd:=⟨3,0,((2:Int):Rat)⟩
theorem ltCB:Lt true ndC ndB:= .inl (by decide+kernel)
theorem ltCA:Lt true ndC ndA:= .inl (by decide+kernel)
theorem ltBA:Lt true ndB ndA:= .inr ⟨rfl,.inl (by decide)⟩
set_option maxHeartbeats 4000000 in
theorem speaks20_calls(w:World):Calls Tryz.prog 4 #[] w fun e w'=>e= .returned (.bool true)∧Ext w w':=by
 have lim:(1000:Nat)≤LIM:=by rw[LIM_eq];omega
 have z3:szQ ((3:Int):Rat)≤6:=by decide+kernel
 have z2:szQ ((2:Int):Rat)≤6:=by decide+kernel
 go_enter Tryz.func4,Tryz.ntmps4
 go_wp2_with fail;refine(qu_new w w 6 true [] (Ext.refl _)).mono ?_;rintro e w1 ⟨rfl,hq1,e1⟩;go_wp2_with fail;refine(whole20_calls 3 _ (by omega) (by omega)).mono ?_;rintro e w2 ⟨v2,rfl,q2,e2⟩;obtain⟨c2,a2,l2,k2,a2',l2',k2',rfl,q2⟩:=q2.opn;go_wp2_with fail;refine(qu_push w w2 6 w.heap.size true [] [] _ ndA (hq1.ext e2) ⟨_,_,_,_,_,_,_,rfl,q2.isR z3 (by omega)⟩ (by omega) (by simp) (by simp)).mono ?_;rintro e w3 ⟨rfl,hq3, -⟩;clear q2 hq1 e1 e2;go_wp2_with fail;refine(whole20_calls 3 _ (by omega) (by omega)).mono ?_;rintro e w4 ⟨v4,rfl,q4,e4⟩;obtain⟨c4,a4,l4,k4,a4',l4',k4',rfl,q4⟩:=q4.opn;go_wp2_with fail;refine(qu_push w w4 6 w.heap.size true _ [] _ ndB (hq3.ext e4) ⟨_,_,_,_,_,_,_,rfl,q4.isR z3 (by omega)⟩ (by omega) (by simp) (by simp)).mono ?_;rintro e w5 ⟨rfl,hq5, -⟩;clear q4 hq3 e4;go_wp2_with fail;refine(whole20_calls 2 _ (by omega) (by omega)).mono ?_;rintro e w6 ⟨v6,rfl,q6,e6⟩;obtain⟨c6,a6,l6,k6,a6',l6',k6',rfl,q6⟩:=q6.opn;go_wp2_with fail;refine(qu_push w w6 6 w.heap.size true _ [] _ ndC (hq5.ext e6) ⟨_,_,_,_,_,_,_,rfl,q6.isR z2 (by omega)⟩ (by omega) (by simp) (by simp)).mono ?_;rintro e w7 ⟨rfl,hq7, -⟩;clear q6 hq5 e6;go_wp2_with fail;refine(qu_pop w w7 6 w.heap.size true _ [] hq7 (by simp) (by omega) (by simp)).mono ?_;rintro e w8 ⟨x,va,l1,rfl,hp1,hle1,hnd1,hq8, -⟩
 obtain⟨rfl,hp1⟩:=first_of hp1 hle1 (z:=ndC) (by simp) (by
  intro y hy;simp only[List.mem_cons,List.not_mem_nil,or_false]at hy
  rcases hy with rfl |rfl |rfl
  ·exact .inl rfl
  ·exact .inr ltCB
  ·exact .inr ltCA)
 have hp1:=hp1.cons_inv;have hlen1:=hp1.length_eq;obtain⟨c8,a8,l8,k8,a8',l8',k8',rfl, -⟩:=hnd1;obtain⟨w9,hw9,e9,b9,s9⟩:=alloc1 w8 #[.int .i64 3,.int .i64 0,.bool c8,.slice a8 l8 k8,.slice a8' l8' k8'] 38;have hq9:=hq8.more e9 (Nat.le_refl _);simp only[ndC];go_wp2_with fail;rw[←hw9];refine(qu_pop w w9 6 w.heap.size true _ _ hq9 (by intro h;rw[h]at hlen1;simp at hlen1) (by omega) (by rw[hlen1];simp)).mono ?_;rintro e w10 ⟨x,va,l2,rfl,hp2,hle2,hnd2,hq10,hf10⟩
 obtain⟨rfl,hp3⟩:=first_of (hp2.trans hp1) hle2 (z:=ndB) (by simp) (by
  intro y hy;simp only[List.mem_cons,List.not_mem_nil,or_false]at hy
  rcases hy with rfl |rfl
  ·exact .inl rfl
  ·exact .inr ltBA)
 have hlen2:=hp3.length_eq
 have hl2:l2.length=1:=by simpa using hlen2
 obtain⟨c10,a10,l10,k10,a10',l10',k10',rfl, -⟩:=hnd2;obtain⟨w11,hw11,e11,b11,s11⟩:=alloc1 w10 #[.int .i64 2,.int .i64 2,.bool c10,.slice a10 l10 k10,.slice a10' l10' k10'] 38;have hq11:=hq10.ext e11;have b9':=(hf10.bx b9 (by simp)).ext e11;have hca:=b9'.cell 0;have hcb:=b11.cell 0;rw[hw11]at hca hcb;simp only[ndB];go_wp2_with fail;rw[←hw11];refine(qu_len w w11 6 w.heap.size true _ _ hq11).mono ?_;rw[hl2];rintro e w12 ⟨rfl,e12⟩;go_wp2;go_ret;exact⟨rfl,hq11.base.trans e12⟩
open Go.RowKit Go.Maps
section
variable (w:World) {ops:Array Oper} {rest:List Oper} {o:Oper} {a:Act} {Q:Exit→Act→World→Prop}
end
open Go.ChangeShapes Go.WideShapes Go.ChangeAt
section
variable {H:Type} {enc:TypeId×Value→H} {w:World} {base:Nat} {spare:Nat→Bool} {held:Bool}
end
theorem cellsN:Tryz.prog.cellsOf 38=5:=by kernel_rfl
theorem cellsInt:Tryz.prog.cellsOf 3=1:=by kernel_rfl
section
variable {H:Type} {enc:TypeId×Value→H} {w:World} {base:Nat} {spare:Nat→Bool} {held:Bool}
theorem open_int1{fuel:Nat}{cs:List Value}{x:DataW H×List MemPlace}(h:DataW.trod enc Tryz.prog w base spare held fuel 3 cs=some x):∃k,cs=[.int .i64 k]∧(Lit.int .i64 k).wf=true∧x.1= .lit (.int .i64 k):=by
 cases fuel with
 |zero=>simp [DataW.trod]at h
 |succ n=>
  unfold DataW.trod at h;rw[Tryz.underlying3]at h
  rcases cs with _ |⟨c,_ |⟨c2,cs⟩⟩<;>(try cases c)<;>simp at h
  obtain⟨⟨rfl,hw⟩,h2⟩:=h;exact⟨_,rfl,hw,by rw[←h2]⟩
theorem open_nodeC{fuel:Nat}{cs:List Value}{x:DataW H×List MemPlace}(h:DataW.trod enc Tryz.prog w base spare held fuel 38 cs=some x):∃id dep b s t xs ys,cs=[.int .i64 id,.int .i64 dep,.bool b,s,t]∧(Lit.int .i64 id).wf=true∧IsL .u64 w s xs∧Dig W xs∧IsL .u64 w t ys∧Dig W ys∧(∀B,(∀n∈x.1.weights Tryz.prog 38,n≤B)→xs.length≤B∧ys.length≤B):=by
 obtain⟨y0,y1,y2,n,hx,hl,h0,h1,h2⟩:=Go.Deep.trod_struct3 Tryz.underlying38 h;rw[cellsN]at hl
 obtain⟨c0,c1,c2,c3,c4,rfl⟩:∃c0 c1 c2 c3 c4,cs=[c0,c1,c2,c3,c4]:=by
  rcases cs with _ |⟨c0,_ |⟨c1,_ |⟨c2,_ |⟨c3,_ |⟨c4,_ |⟨c5,cs⟩⟩⟩⟩⟩⟩<;>simp at hl
  exact⟨_,_,_,_,_,rfl⟩
 obtain⟨id,hid,wid, -⟩:=open_int1 h0;obtain⟨dep,hdep, -⟩:=open_int1 h1;obtain⟨b,s,t,xs,ys,hb,hL,hd,hL2,hd2,hB,hw⟩:=open_ratC h2
 have e0:List.take (Tryz.prog.cellsOf 3) (List.drop 0 [c0,c1,c2,c3,c4])=[c0]:=by rw[cellsInt];rfl
 have e1:List.take (Tryz.prog.cellsOf 3) (List.drop 1 [c0,c1,c2,c3,c4])=[c1]:=by rw[cellsInt];rfl
 have e2:List.take (Tryz.prog.cellsOf 36) (List.drop 2 [c0,c1,c2,c3,c4])=[c2,c3,c4]:=by rw[cellsQ];rfl
 have h0': [c0]=[.int .i64 id]:=e0▸hid
 have h1': [c1]=[.int .i64 dep]:=e1▸hdep
 have h2': [c2,c3,c4]=[.bool b,s,t]:=e2▸hb
 simp only[List.cons.injEq,and_true]at h0' h1' h2';obtain⟨rfl,rfl,rfl⟩:=h2';subst h0' h1';refine⟨id,dep,b,_,_,xs,ys,rfl,wid,hL,hd,hL2,hd2,fun B h=>hB B fun n hn=>h n ?_⟩;rw[hx];simp only[DataW.weights,Tryz.underlying38]
 first
  |exact List.mem_append_right _ (List.mem_append_right _ (List.mem_append_left _ hn))
  | (simp only[List.mem_append];exact .inr (.inr (.inl hn)))
end
end Go.Proofs.YthoibjnkhkjnjaaGreat
