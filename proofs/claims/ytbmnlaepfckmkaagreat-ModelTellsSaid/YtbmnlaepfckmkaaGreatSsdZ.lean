/-
 Terms in a list of one's own: two ranges merged, one of them of one term.
-/
import Derived.Test.YtbmnlaepfckmkaaGreatSscZ
namespace Go.Proofs.YtbmnlaepfckmkaaGreat
set_option maxRecDepth 100000
set_option maxHeartbeats 1000000
open Go.RowKit
set_option linter.unusedVariables false
set_option linter.unusedSimpArgs false
theorem split_at{R:List TmC}{h:Nat}(hh:h<R.length):∃R1 x R2,R=R1++x::R2∧R1.length=h∧R[h]? =some x:=
 ⟨R.take h,R[h],R.drop (h+1),by rw[←List.drop_eq_getElem_cons hh,List.take_append_drop],by rw[List.length_take];omega,List.getElem?_eq_getElem hh⟩
set_option maxHeartbeats 8000000 in
theorem symMerge_one(n cap g:Nat)(rest:List Value)(A R S:List TmC)(y:TmC)(w:World)(a m b:Nat)(hn:n=(A++ [y]++R++S).length)(hN:n≤35184372088832)(ha:a=A.length)(hm:m=a+1)(hb:b=m+R.length)(hR0:0<R.length)(hR:Ris tkey R)(hH:HoldT g rest w (A++ [y]++R++S)):
  Calls Tryz.prog 207 #[.slice (some ⟨g,0,none⟩) n cap,.int .i64 (a:Int),.int .i64 (m:Int),.int .i64 (b:Int),.func (.func 157) #[] #[]] w fun e w'=>e= .returned (.tuple #[])∧Chg g w w'∧∃M,M.Perm ([y]++R)∧Ris tkey M∧HoldT g rest w' (A++M++S):=by
 simp only[List.length_append,List.length_cons,List.length_nil]at hn
 have hbn:b≤n:=by omega
 have han:a<n:=by omega
 have hma:(m:Int) - (a:Int)=1:=by omega
 have hmb:m≤b:=by omega
 have hmn:m≤n:=by omega
 have Hm:=Lib.hid hm;have Hl:=Lib.hid (And.intro hn (And.intro ha hb));have HR0:=Lib.hid hR;have Hd:=Lib.hid (show HoldT g rest w (A++y::(R++S))by simpa[List.append_assoc]using hH);clear hn ha hb hR0 hR hH hm
 go_enter Tryz.func207,Tryz.ntmps207
 go_wp2_with fail
 go_loopw [10,11] (fun s10 s11 wr=>∃(i j:Nat),s10= .int .i64 (i:Int)∧s11= .int .i64 (j:Int)∧m≤i∧i≤j∧j≤b∧Hid ((i=m∨∃x,R[i - m - 1]? =some x∧tkey x<tkey y)∧(j=b∨∃x,R[j - m]? =some x∧tkey y≤tkey x))∧Ext w wr) (fun s10 s11 _=>(intOf s11 - intOf s10).toNat)
 case atStart=>exact ⟨m,b,rfl,rfl,Nat.le_refl _,hmb,Nat.le_refl _,Lib.hid ⟨.inl rfl,.inl rfl⟩,Ext.refl _⟩
 case round=>
  obtain⟨i,j,rfl,rfl,hmi,hij,hjb,hF,hex⟩:=hrel
  rcases Nat.eq_or_lt_of_le hij with he |hlt
  ·subst he;obtain⟨k,hk⟩:∃k,k+1=i:=⟨i - 1,by omega⟩
   have hk1:(i:Int) - 1=(k:Int):=by omega
   have HP:Hid (Ris tkey (R.take (i - m)++ [y]++R.drop (i - m))∧(R.take (i - m)++ [y]++R.drop (i - m)).Perm ([y]++R)):=by
    obtain⟨h1,h2⟩:=hF.out;obtain⟨l1,l2,l3⟩:=Hl.out
    constructor
    ·refine putin HR0.out (i - m) ?_ ?_
     ·rcases h1 with h1 |⟨x,h1,h3⟩
      ·exact .inl (by omega)
      ·exact .inr ⟨x,h1,by omega⟩
     ·rcases h2 with h2 |⟨x,h2,h3⟩
      ·exact .inl (by omega)
      ·exact .inr ⟨x,h2,h3⟩
    ·exact(putin_perm (i - m)).trans List.perm_append_comm
   obtain⟨d,hd⟩:∃d,d=i - m:=⟨_,rfl⟩;rw[←hd]at HP;have HKD:=Lib.hid (show k=a+d by have:=Hm.out;omega);have HD:=Lib.hid (show HoldT g rest wr (A++y::(R++S))from Hd.out.ext hex);obtain⟨wo,hwo⟩:∃wo,wo=wr:=⟨wr,rfl⟩;subst hwo;clear hF;have HdL:=Lib.hid (show d≤R.length by have:=Hl.out.2.2;omega);have HKI:=Lib.hid hk
   have hkn:k≤n:=by omega
   clear hd hk;go_wp2_with fail
   go_loopw [13] (fun s13 wq=>∃(t q:Nat),s13= .int .i64 (q:Int)∧q=a+t∧t≤d∧Hid (HoldT g rest wq ((A++R.take t)++y::(R.drop t++S)))∧Chg g wo wq) (fun s13 _=>((k:Int) - intOf s13).toNat)
   case atStart=>exact ⟨0,a,rfl,rfl,Nat.zero_le _,Lib.hid (by simpa using HD.out),Chg.refl _ _⟩
   case round=>
    obtain⟨t,q,rfl,hq,htd,hHT,hch⟩:=hrel;have HQ:=Lib.hid hq
    rcases Nat.eq_or_lt_of_le htd with he |hlt
    ·subst he
     have hqk:¬(q:Int)<(k:Int):=by have:=HKD.out;omega
     clear hq;go_wp2;refine bodyPost_ret (results_none (by kernel_rfl) _ _ _) rfl ?_;exact⟨rfl,(hex.chg g).trans hch,_,HP.out.2,HP.out.1,by simpa[List.append_assoc]using hHT.out⟩
    ·obtain⟨x,X,HX⟩:∃x X,Hid (R.drop t=x::X∧R.take (t+1)=R.take t++ [x]∧R.drop (t+1)=X):=by
      have htl:t<R.length:=by have:=HdL.out;omega
      exact⟨R[t],R.drop (t+1),Lib.hid ⟨List.drop_eq_getElem_cons htl,by rw[List.take_add_one,List.getElem?_eq_getElem htl];rfl,rfl⟩⟩
     have H5:Hid (HoldT g rest wr ((A++R.take t)++y::([]++x::(X++S)))):=by
      have:=hHT.out
      rw[HX.out.1]at this;exact this
     obtain⟨p,hp⟩:∃p,p=q+1:=⟨_,rfl⟩
     have HLP:Hid (q=(A++R.take t).length∧p=(A++R.take t).length+1+([]:List TmC).length∧(((A++R.take t)++y::([]++x::(X++S))).map tmv).length=n):=by
      obtain⟨l1,l2,l3⟩:=Hl.out;have k1:=congrArg List.length HX.out.1
      have:=HdL.out
      have:=Hm.out
      simp only[List.length_drop,List.length_cons]at k1;simp only[List.length_map,List.length_append,List.length_cons,List.length_nil,List.length_take];exact Lib.hid ⟨by omega,by omega,by omega⟩
     have HCi:=Lib.hid (H5.out.at (get_at HLP.out.1));have HCk:=Lib.hid (H5.out.at (get_at2 HLP.out.2.1))
     have hqk:(q:Int)<(k:Int):=by have:=HKD.out;omega
     have hp1:(q:Int)+1=(p:Int):=by omega
     have hqn:q<n:=by omega
     have hpn:p<n:=by have:=HKI.out;omega
     have hqn':(q:Int)<(n:Int):=by omega
     have hpn':(p:Int)<(n:Int):=by omega
     have hqp:q≠p:=by omega
     have HPQ:=Lib.hid hp;clear hp hHT hq;go_wp2_with fail
     refine wp_region_swpS g n q p 15 17 rest (((A++R.take t)++y::([]++x::(X++S))).map tmv) (.agg #[.int .i64 y.c,.bool y.b,.slice y.a1 y.n1 y.c1,.slice y.a2 y.n2 y.c2]) (.agg #[.int .i64 x.c,.bool x.b,.slice x.a1 x.n1 x.c1,.slice x.a2 x.n2 x.c2]) [PP.val (.slice (some ⟨g,0,none⟩) n cap),PP.val (.int .i64 (q:Int)),PP.val (.slice (some ⟨g,0,none⟩) n cap),PP.val (.int .i64 (q:Int)),PP.val (.int .i64 (p:Int)),PP.val (.slice (some ⟨g,0,none⟩) n cap),PP.val (.int .i64 (q:Int)),PP.val (.int .i64 (p:Int)),PP.val (.pointer (some ⟨g,p*4,none⟩)),PP.val (.agg #[.int .i64 x.c,.bool x.b,.slice x.a1 x.n1 x.c1,.slice x.a2 x.n2 x.c2]),PP.val (.slice (some ⟨g,0,none⟩) n cap),PP.val (.int .i64 (q:Int)),PP.val (.pointer (some ⟨g,q*4,none⟩)),PP.val (.agg #[.int .i64 y.c,.bool y.b,.slice y.a1 y.n1 y.c1,.slice y.a2 y.n2 y.c2]),PP.val (.pointer (some ⟨g,q*4,none⟩)),PP.any,PP.val (.pointer (some ⟨g,p*4,none⟩)),PP.any] [] [15,14,13,12,11,10,9,8,7,6,5,1,0] (by kernel_rfl) (by kernel_rfl) (fun f=>(by simp only[fillR,fillL,List.setIfInBounds_toArray,List.set_cons_succ,List.set_cons_zero,Nat.reduceAdd];rfl)) hqp (by decide) HLP.out.2.2 H5.out hqn hpn (by intro p hp;simp only[List.mem_cons,List.not_mem_nil,or_false]at hp;rcases hp with rfl |rfl |rfl |rfl |rfl |rfl |rfl |rfl |rfl |rfl |rfl |rfl |rfl |rfl |rfl |rfl |rfl |rfl<;>rfl) ?_ ?_ (by decide) (by decide)
     ·refine⟨?_,?_,?_,?_,?_,?_,?_,?_,?_,?_,?_,?_,?_,?_,?_,?_,?_,?_,trivial⟩
      ·intro f w2 hG hp hl;simp only[OpGoal];go_simp;exact⟨_,rfl,Ext.refl _,rfl⟩
      ·intro f w2 hG hp hl;simp only[OpGoal];go_simp;exact⟨_,rfl,Ext.refl _,rfl⟩
      ·intro f w2 hG hp hl;have hS:wr.heap.size≤w2.heap.size:=hG.2.2.2.1;simp only[OpGoal];go_simp;exact⟨_,rfl,Ext.refl _,rfl⟩
      ·intro f w2 hG hp hl;have hS:wr.heap.size≤w2.heap.size:=hG.2.2.2.1;simp only[OpGoal];go_simp;exact⟨_,rfl,Ext.refl _,rfl⟩
      ·intro f w2 hG hp hl;have hS:wr.heap.size≤w2.heap.size:=hG.2.2.2.1
       have q64:f 3= .int .i64 (q:Int):=tellM hp 0 3 rfl rfl
       simp only[OpGoal];go_simp
       first
       |exact ⟨_,rfl,Ext.refl _,rfl⟩
       |exact ⟨_,rfl,Ext.refl _,congrArg (Value.int .i64) (Go.IntWalk.i64_in _ ⟨by omega,by omega⟩)⟩
      ·intro f w2 hG hp hl;simp only[OpGoal];go_simp;exact⟨_,rfl,Ext.refl _,rfl⟩
      ·intro f w2 hG hp hl;simp only[OpGoal];go_simp;exact⟨_,rfl,Ext.refl _,rfl⟩
      ·intro f w2 hG hp hl;have hE:Ext wr w2:=hG;have hS:=hE.size
       have q67:f 6= .int .i64 (q:Int):=tellM hp 0 6 rfl rfl
       simp only[OpGoal];go_simp
       first
       |exact ⟨_,rfl,Ext.refl _,rfl⟩
       |exact ⟨_,rfl,Ext.refl _,congrArg (Value.int .i64) (Go.IntWalk.i64_in _ ⟨by omega,by omega⟩)⟩
      ·intro f w2 hG hp hl
       have q66:f 5= .slice (some ⟨g,0,none⟩) n cap:=tellM hp 0 5 rfl rfl
       have q68:f 7= .int .i64 (p:Int):=tellM hp 1 7 rfl rfl
       simp only[OpGoal];go_simp;exact⟨_,rfl,Ext.refl _,rfl⟩
      ·intro f w2 hG hp hl;have hE:Ext wr w2:=hG
       have q69:f 8= .pointer (some ⟨g,p*4,none⟩):=tellM hp 0 8 rfl rfl
       change OpGoal _ _ _ f w2 Ext _;exact og_loadAt (P:=Tryz.prog) _ _ g (p*4) _ _ rfl rfl q69 (fun j v h=>HCk.out _ hE j v h) Tryz.underlying95 rfl (by kernel_rfl) rfl
      ·intro f w2 hG hp hl;simp only[OpGoal];go_simp;exact⟨_,rfl,Ext.refl _,rfl⟩
      ·intro f w2 hG hp hl;simp only[OpGoal];go_simp;exact⟨_,rfl,Ext.refl _,rfl⟩
      ·intro f w2 hG hp hl
       have q71:f 10= .slice (some ⟨g,0,none⟩) n cap:=tellM hp 0 10 rfl rfl
       have q72:f 11= .int .i64 (q:Int):=tellM hp 1 11 rfl rfl
       simp only[OpGoal];go_simp;exact⟨_,rfl,Ext.refl _,rfl⟩
      ·intro f w2 hG hp hl;have hE:Ext wr w2:=hG
       have q73:f 12= .pointer (some ⟨g,q*4,none⟩):=tellM hp 0 12 rfl rfl
       change OpGoal _ _ _ f w2 Ext _;exact og_loadAt (P:=Tryz.prog) _ _ g (q*4) _ _ rfl rfl q73 (fun j v h=>HCi.out _ hE j v h) Tryz.underlying95 rfl (by kernel_rfl) rfl
      ·intro f w2 hG hp hl
       have q61:f 0= .slice (some ⟨g,0,none⟩) n cap:=tellM hp 0 0 rfl rfl
       have q62:f 1= .int .i64 (q:Int):=tellM hp 1 1 rfl rfl
       simp only[OpGoal];go_simp;exact⟨_,rfl,Ext.refl _,rfl⟩
      ·intro f w2 hG hp hl
       have q75:f 14= .pointer (some ⟨g,q*4,none⟩):=tellM hp 0 14 rfl rfl
       have q70:f 9= .agg #[.int .i64 x.c,.bool x.b,.slice x.a1 x.n1 x.c1,.slice x.a2 x.n2 x.c2]:=tellM hp 1 9 rfl rfl
       intro hI hU;exact og_stS (P:=Tryz.prog) g n _ _ 15 q _ _ _ _ _ _ rfl rfl q75 q70 hqn (by kernel_rfl) (strN_tmv1 x) hI
      ·intro f w2 hG hp hl;have hS:wr.heap.size≤w2.heap.size:=hG.2.2.2.1
       have q63:f 2= .slice (some ⟨g,0,none⟩) n cap:=tellM hp 0 2 rfl rfl
       have q65:f 4= .int .i64 (p:Int):=tellM hp 1 4 rfl rfl
       simp only[OpGoal];go_simp;exact⟨_,rfl,Ext.refl _,rfl⟩
      ·intro f w2 hG hp hl;have hS:wr.heap.size≤w2.heap.size:=hG.2.2.2.1
       have q76:f 16= .pointer (some ⟨g,p*4,none⟩):=tellM hp 0 16 rfl rfl
       have q74:f 13= .agg #[.int .i64 y.c,.bool y.b,.slice y.a1 y.n1 y.c1,.slice y.a2 y.n2 y.c2]:=tellM hp 1 13 rfl rfl
       intro hI hU;exact og_stS (P:=Tryz.prog) g n _ _ 17 p _ _ _ _ _ _ rfl rfl q76 q74 hpn (by kernel_rfl) (strN_tmv1 y) hI
     ·intro f w2 hC hW hp;clear hp;have HF:Hid (HoldT g rest w2 ((A++R.take t)++x::([]++y::(X++S)))):=HoldT.swapped HLP.out.1 HLP.out.2.1 hW;clear hW;go_wp2;go_roundw
      case rel=>
       refine⟨t+1,p,rfl,by have:=HPQ.out;have:=HQ.out;omega,by omega,Lib.hid ?_,hch.trans hC⟩;obtain⟨k1,k2,k3⟩:=HX.out;rw[k2,k3]
       simpa[List.append_assoc]using HF.out
      case measure=>have:=HPQ.out;simp[intOf];omega
  ·obtain⟨h,hh⟩:∃h,h=(i+j) / 2:=⟨_,rfl⟩
   obtain⟨R1,x,R2,HX⟩:∃R1 x R2,Hid (R=R1++x::R2∧R1.length=h - m∧R[h - m]? =some x):=by
    obtain⟨R1,x,R2,h1,h2,h3⟩:=split_at (R:=R) (h:=h - m) (by have:=Hl.out.2.2;omega);exact⟨R1,x,R2,Lib.hid ⟨h1,h2,h3⟩⟩
   have H5:Hid (HoldT g rest wr (A++y::(R1++x::(R2++S)))):=by
    have:=Hd.out.ext hex
    rw[HX.out.1]at this;exact Lib.hid (by simpa[List.append_assoc]using this)
   have HCa:=Lib.hid (H5.out.at (get_at (p:=a) Hl.out.2.1));have HCh:=Lib.hid (H5.out.at (get_at2 (q:=h) (by have:=Hl.out.2.1;have:=HX.out.2.1;omega)));obtain⟨r,hr⟩:∃r:Bool,r=decide (x.c<y.c):=⟨_,rfl⟩;have HR:=Lib.hid hr
   have hij':(i:Int)<(j:Int):=by omega
   have hhn:h<n:=by omega
   have hhn':(h:Int)<(n:Int):=by omega
   have han':(a:Int)<(n:Int):=by omega
   have hh2:((i:Int)+(j:Int)) / 2=(h:Int):=by omega
   have him:h<j:=by omega
   have hih:i≤h:=by omega
   clear hr hh;go_wp2_with fail;refine wpQ [PP.val (.func (.func 157) #[] #[]),PP.val (.slice (some ⟨g,0,none⟩) n cap),PP.val (.int .i64 (h:Int)),PP.val (.pointer (some ⟨g,h*4,none⟩)),PP.val (.agg #[.int .i64 x.c,.bool x.b,.slice x.a1 x.n1 x.c1,.slice x.a2 x.n2 x.c2]),PP.val (.slice (some ⟨g,0,none⟩) n cap),PP.val (.int .i64 (a:Int)),PP.val (.pointer (some ⟨g,a*4,none⟩)),PP.val (.agg #[.int .i64 y.c,.bool y.b,.slice y.a1 y.n1 y.c1,.slice y.a2 y.n2 y.c2]),PP.pred (fun v=>∃z:Int,v= .int .i64 z∧(z<0↔x.c<y.c)),PP.val (.bool r)] [] [0,1,2,3,4,5,6,7,8,9,10] ?_ ?_
   ·refine⟨?_,?_,?_,?_,?_,?_,?_,?_,?_,?_,?_,trivial⟩
    ·intro f w2 hG hp hl;simp only[OpGoal];go_simp;exact⟨_,rfl,Ext.refl _,rfl⟩
    ·intro f w2 hG hp hl;simp only[OpGoal];go_simp;exact⟨_,rfl,Ext.refl _,rfl⟩
    ·intro f w2 hG hp hl;simp only[OpGoal];go_simp;exact⟨_,rfl,Ext.refl _,rfl⟩
    ·intro f w2 hG hp hl;have q41:=tE hp 0 1 rfl rfl rfl;have q42:=tE hp 1 2 rfl rfl rfl;simp only[OpGoal];go_simp;exact⟨_,rfl,Ext.refl _,rfl⟩
    ·intro f w2 hG hp hl;have hE:Ext wr w2:=hG;have q43:=tE hp 0 3 rfl rfl rfl;change OpGoal _ _ _ f w2 Ext _;exact og_loadAt (P:=Tryz.prog) _ _ g (h*4) _ _ rfl rfl q43 (fun j v h=>HCh.out _ hE j v h) Tryz.underlying95 rfl (by kernel_rfl) rfl
    ·intro f w2 hG hp hl;simp only[OpGoal];go_simp;exact⟨_,rfl,Ext.refl _,rfl⟩
    ·intro f w2 hG hp hl;simp only[OpGoal];go_simp;exact⟨_,rfl,Ext.refl _,rfl⟩
    ·intro f w2 hG hp hl;have q45:=tE hp 0 5 rfl rfl rfl;have q46:=tE hp 1 6 rfl rfl rfl;simp only[OpGoal];go_simp;exact⟨_,rfl,Ext.refl _,rfl⟩
    ·intro f w2 hG hp hl;have hE:Ext wr w2:=hG;have q47:=tE hp 0 7 rfl rfl rfl;change OpGoal _ _ _ f w2 Ext _;exact og_loadAt (P:=Tryz.prog) _ _ g (a*4) _ _ rfl rfl q47 (fun j v h=>HCa.out _ hE j v h) Tryz.underlying95 rfl (by kernel_rfl) rfl
    ·intro f w2 hG hp hl;have q40:=tE hp 0 0 rfl rfl rfl;have q44:=tE hp 1 4 rfl rfl rfl;have q48:=tE hp 2 8 rfl rfl rfl;change OpGoal _ _ _ f w2 Ext _;refine og_callv (P:=Tryz.prog) _ _ _ _ #[f 4,f 8] Tryz.func157 (by kernel_rfl) (by kernel_rfl) rfl rfl q40 (by kernel_rfl) ?_;rw[q44,q48];refine(cmpT_calls x y _).mono ?_;rintro e w' ⟨z,rfl,h1,h2⟩;exact⟨_,rfl,h2,z,rfl,h1⟩
    ·intro f w2 hG hp hl;have hE:Ext wr w2:=hG;have q49:=tellV hp 0 9 rfl rfl (fun _=>hE);obtain⟨z,hz,hzz⟩:=q49;simp only[OpGoal];go_simp;exact⟨_,rfl,Ext.refl _,congrArg Value.bool (by first | (rw[HR.out];done) | (rw[HR.out];exact decide_eq_decide.2 hzz))⟩
   ·intro f w2 hG hp;have hE:Ext wr w2:=ChgS.nil hG
    have q50:f 10= .bool r:=endV hp 10 (by decide) rfl (fun h=>by cases h)
    try simp only[q50]
    clear hp
    cases r with
    |true=>
     obtain⟨h1,hh1⟩:∃h1:Nat,h1=h+1:=⟨_,rfl⟩
     have hh3:(h:Int)+1=(h1:Int):=by omega
     have HH:=Lib.hid hh1;clear hh1;go_wp2;go_roundw
     case rel=>
      refine⟨h1,j,rfl,rfl,by omega,by omega,hjb,Lib.hid ⟨.inr ⟨x,?_,?_⟩,hF.out.2⟩,hex.trans hE⟩
      ·have:=HX.out.2.2
       rw[show h1 - m - 1=h - m by have:=HH.out;omega];exact this
      ·exact of_decide_eq_true HR.out.symm
     case measure=>simp [intOf];omega
    |false=>
     go_wp2;go_roundw
     case rel=>
      refine⟨i,h,rfl,rfl,hmi,hih,by omega,Lib.hid ⟨hF.out.1,.inr ⟨x,HX.out.2.2,?_⟩⟩,hex.trans hE⟩
      have:=of_decide_eq_false HR.out.symm
      show y.c≤x.c
      omega
     case measure=>simp [intOf];omega
set_option maxHeartbeats 8000000 in
theorem symMerge_last(n cap g:Nat)(rest:List Value)(A L S:List TmC)(y:TmC)(w:World)(a m b:Nat)(hn:n=(A++L++ [y]++S).length)(hN:n≤35184372088832)(ha:a=A.length)(hm:m=a+L.length)(hb:b=m+1)(hL1:1<L.length)(hL:Ris tkey L)(hH:HoldT g rest w (A++L++ [y]++S)):
  Calls Tryz.prog 207 #[.slice (some ⟨g,0,none⟩) n cap,.int .i64 (a:Int),.int .i64 (m:Int),.int .i64 (b:Int),.func (.func 157) #[] #[]] w fun e w'=>e= .returned (.tuple #[])∧Chg g w w'∧∃M,M.Perm (L++ [y])∧Ris tkey M∧HoldT g rest w' (A++M++S):=by
 simp only[List.length_append,List.length_cons,List.length_nil]at hn
 have hbn:b≤n:=by omega
 have hmn:m<n:=by omega
 have ham:a≤m:=by omega
 have hma:¬(m:Int) - (a:Int)=1:=by omega
 have hbm:(b:Int) - (m:Int)=1:=by omega
 have Hl:=Lib.hid (And.intro hn (And.intro ha hm));have HL0:=Lib.hid hL;have Hd:=Lib.hid (show HoldT g rest w ((A++L)++y::S)by simpa[List.append_assoc]using hH);clear hn ha hm hb hL1 hL hH
 go_enter Tryz.func207,Tryz.ntmps207
 go_wp2_with fail
 go_loopw [14,15] (fun s14 s15 wr=>∃(i j:Nat),s14= .int .i64 (i:Int)∧s15= .int .i64 (j:Int)∧a≤i∧i≤j∧j≤m∧Hid ((i=a∨∃x,L[i - a - 1]? =some x∧tkey x≤tkey y)∧(j=m∨∃x,L[j - a]? =some x∧tkey y≤tkey x))∧Ext w wr) (fun s14 s15 _=>(intOf s15 - intOf s14).toNat)
 case atStart=>exact ⟨a,m,rfl,rfl,Nat.le_refl _,ham,Nat.le_refl _,Lib.hid ⟨.inl rfl,.inl rfl⟩,Ext.refl _⟩
 case round=>
  obtain⟨i,j,rfl,rfl,hai,hij,hjm,hF,hex⟩:=hrel
  rcases Nat.eq_or_lt_of_le hij with he |hlt
  ·subst he;obtain⟨d,hd⟩:∃d,d=i - a:=⟨_,rfl⟩
   have HP:Hid (Ris tkey (L.take d++ [y]++L.drop d)∧(L.take d++ [y]++L.drop d).Perm (L++ [y])):=by
    obtain⟨h1,h2⟩:=hF.out;obtain⟨l1,l2,l3⟩:=Hl.out;subst hd;refine Lib.hid ⟨putin HL0.out (i - a) ?_ ?_,putin_perm (i - a)⟩
    ·rcases h1 with h1 |⟨x,h1,h3⟩
     ·exact .inl (by omega)
     ·exact .inr ⟨x,h1,h3⟩
    ·rcases h2 with h2 |⟨x,h2,h3⟩
     ·exact .inl (by omega)
     ·exact .inr ⟨x,h2,h3⟩
   have HIA:=Lib.hid (show i=a+d by omega);have HdL:=Lib.hid (show d≤L.length by have:=Hl.out.2.2;omega);have HD:=Lib.hid (show HoldT g rest wr ((A++L)++y::S)from Hd.out.ext hex);obtain⟨wo,hwo⟩:∃wo,wo=wr:=⟨wr,rfl⟩;subst hwo;clear hF hd;go_wp2_with fail
   go_loopw [17] (fun s17 wq=>∃(t q:Nat),s17= .int .i64 (q:Int)∧Hid (q=a+t)∧q≤m∧i≤q∧d≤t∧t≤m∧Hid (t≤L.length∧HoldT g rest wq ((A++L.take t)++y::(L.drop t++S)))∧Chg g wo wq) (fun s17 _=>(intOf s17).toNat)
   case atStart=>exact ⟨L.length,m,rfl,Lib.hid Hl.out.2.2,Nat.le_refl _,hjm,HdL.out,by have:=Hl.out.2.2;omega,Lib.hid ⟨Nat.le_refl _,by simpa using HD.out⟩,Chg.refl _ _⟩
   case round=>
    obtain⟨t,q,rfl,HQ,hqm,hiq,htd,htm,hHT,hch⟩:=hrel
    rcases Nat.eq_or_lt_of_le htd with he |hlt
    ·subst he
     have hqk:¬(i:Int)<(q:Int):=by have:=HIA.out;have:=HQ.out;omega
     go_wp2;refine bodyPost_ret (results_none (by kernel_rfl) _ _ _) rfl ?_;exact⟨rfl,(hex.chg g).trans hch,_,HP.out.2,HP.out.1,by simpa[List.append_assoc]using hHT.out.2⟩
    ·obtain⟨t0,ht0⟩:∃t0,t=t0+1:=⟨t - 1,by omega⟩;subst ht0
     obtain⟨x,HX⟩:∃x,Hid (L.take (t0+1)=L.take t0++ [x]∧L.drop t0=x::L.drop (t0+1)):=by
      have htl:t0<L.length:=by have:=hHT.out.1;omega
      exact⟨L[t0],Lib.hid ⟨by rw[List.take_add_one,List.getElem?_eq_getElem htl];rfl,List.drop_eq_getElem_cons htl⟩⟩
     have H5:Hid (HoldT g rest wr ((A++L.take t0)++x::([]++y::(L.drop (t0+1)++S)))):=by
      have:=hHT.out.2
      rw[HX.out.1]at this;exact Lib.hid (by simpa[List.append_assoc]using this)
     obtain⟨p,hp⟩:∃p,q=p+1:=⟨q - 1,by have:=HQ.out;omega⟩
     have HLP:Hid (p=(A++L.take t0).length∧q=(A++L.take t0).length+1+([]:List TmC).length∧(((A++L.take t0)++x::([]++y::(L.drop (t0+1)++S))).map tmv).length=n):=by
      obtain⟨l1,l2,l3⟩:=Hl.out
      have:=HQ.out
      have:=hHT.out.1
      simp only[List.length_map,List.length_append,List.length_cons,List.length_nil,List.length_take,List.length_drop];exact Lib.hid ⟨by omega,by omega,by omega⟩
     have HCk:=Lib.hid (H5.out.at (get_at HLP.out.1));have HCi:=Lib.hid (H5.out.at (get_at2 HLP.out.2.1))
     have hqk:(i:Int)<(q:Int):=by have:=HIA.out;have:=HQ.out;omega
     have hp1:(q:Int) - 1=(p:Int):=by omega
     have hqn:q<n:=by omega
     have hpn:p<n:=by omega
     have hqn':(q:Int)<(n:Int):=by omega
     have hpn':(p:Int)<(n:Int):=by omega
     have hqp:q≠p:=by omega
     have HPQ:=Lib.hid hp;clear hp hHT;go_wp2_with fail
     refine wp_region_swpS g n q p 15 17 rest (((A++L.take t0)++x::([]++y::(L.drop (t0+1)++S))).map tmv) (.agg #[.int .i64 y.c,.bool y.b,.slice y.a1 y.n1 y.c1,.slice y.a2 y.n2 y.c2]) (.agg #[.int .i64 x.c,.bool x.b,.slice x.a1 x.n1 x.c1,.slice x.a2 x.n2 x.c2]) [PP.val (.slice (some ⟨g,0,none⟩) n cap),PP.val (.int .i64 (q:Int)),PP.val (.slice (some ⟨g,0,none⟩) n cap),PP.val (.int .i64 (q:Int)),PP.val (.int .i64 (p:Int)),PP.val (.slice (some ⟨g,0,none⟩) n cap),PP.val (.int .i64 (q:Int)),PP.val (.int .i64 (p:Int)),PP.val (.pointer (some ⟨g,p*4,none⟩)),PP.val (.agg #[.int .i64 x.c,.bool x.b,.slice x.a1 x.n1 x.c1,.slice x.a2 x.n2 x.c2]),PP.val (.slice (some ⟨g,0,none⟩) n cap),PP.val (.int .i64 (q:Int)),PP.val (.pointer (some ⟨g,q*4,none⟩)),PP.val (.agg #[.int .i64 y.c,.bool y.b,.slice y.a1 y.n1 y.c1,.slice y.a2 y.n2 y.c2]),PP.val (.pointer (some ⟨g,q*4,none⟩)),PP.any,PP.val (.pointer (some ⟨g,p*4,none⟩)),PP.any] [] [15,14,13,12,11,10,9,8,7,6,5,1,0] (by kernel_rfl) (by kernel_rfl) (fun f=>(by simp only[fillR,fillL,List.setIfInBounds_toArray,List.set_cons_succ,List.set_cons_zero,Nat.reduceAdd];rfl)) hqp (by decide) HLP.out.2.2 H5.out hqn hpn (by intro p hp;simp only[List.mem_cons,List.not_mem_nil,or_false]at hp;rcases hp with rfl |rfl |rfl |rfl |rfl |rfl |rfl |rfl |rfl |rfl |rfl |rfl |rfl |rfl |rfl |rfl |rfl |rfl<;>rfl) ?_ ?_ (by decide) (by decide)
     ·refine⟨?_,?_,?_,?_,?_,?_,?_,?_,?_,?_,?_,?_,?_,?_,?_,?_,?_,?_,trivial⟩
      ·intro f w2 hG hp hl;simp only[OpGoal];go_simp;exact⟨_,rfl,Ext.refl _,rfl⟩
      ·intro f w2 hG hp hl;simp only[OpGoal];go_simp;exact⟨_,rfl,Ext.refl _,rfl⟩
      ·intro f w2 hG hp hl;have hS:wr.heap.size≤w2.heap.size:=hG.2.2.2.1;simp only[OpGoal];go_simp;exact⟨_,rfl,Ext.refl _,rfl⟩
      ·intro f w2 hG hp hl;have hS:wr.heap.size≤w2.heap.size:=hG.2.2.2.1;simp only[OpGoal];go_simp;exact⟨_,rfl,Ext.refl _,rfl⟩
      ·intro f w2 hG hp hl;have hS:wr.heap.size≤w2.heap.size:=hG.2.2.2.1
       have q116:f 3= .int .i64 (q:Int):=tellM hp 0 3 rfl rfl
       simp only[OpGoal];go_simp
       first
       |exact ⟨_,rfl,Ext.refl _,rfl⟩
       |exact ⟨_,rfl,Ext.refl _,congrArg (Value.int .i64) (Go.IntWalk.i64_in _ ⟨by omega,by omega⟩)⟩
      ·intro f w2 hG hp hl;simp only[OpGoal];go_simp;exact⟨_,rfl,Ext.refl _,rfl⟩
      ·intro f w2 hG hp hl;simp only[OpGoal];go_simp;exact⟨_,rfl,Ext.refl _,rfl⟩
      ·intro f w2 hG hp hl;have hE:Ext wr w2:=hG;have hS:=hE.size
       have q119:f 6= .int .i64 (q:Int):=tellM hp 0 6 rfl rfl
       simp only[OpGoal];go_simp
       first
       |exact ⟨_,rfl,Ext.refl _,rfl⟩
       |exact ⟨_,rfl,Ext.refl _,congrArg (Value.int .i64) (Go.IntWalk.i64_in _ ⟨by omega,by omega⟩)⟩
      ·intro f w2 hG hp hl
       have q118:f 5= .slice (some ⟨g,0,none⟩) n cap:=tellM hp 0 5 rfl rfl
       have q120:f 7= .int .i64 (p:Int):=tellM hp 1 7 rfl rfl
       simp only[OpGoal];go_simp;exact⟨_,rfl,Ext.refl _,rfl⟩
      ·intro f w2 hG hp hl;have hE:Ext wr w2:=hG
       have q121:f 8= .pointer (some ⟨g,p*4,none⟩):=tellM hp 0 8 rfl rfl
       change OpGoal _ _ _ f w2 Ext _;exact og_loadAt (P:=Tryz.prog) _ _ g (p*4) _ _ rfl rfl q121 (fun j v h=>HCk.out _ hE j v h) Tryz.underlying95 rfl (by kernel_rfl) rfl
      ·intro f w2 hG hp hl;simp only[OpGoal];go_simp;exact⟨_,rfl,Ext.refl _,rfl⟩
      ·intro f w2 hG hp hl;simp only[OpGoal];go_simp;exact⟨_,rfl,Ext.refl _,rfl⟩
      ·intro f w2 hG hp hl
       have q123:f 10= .slice (some ⟨g,0,none⟩) n cap:=tellM hp 0 10 rfl rfl
       have q124:f 11= .int .i64 (q:Int):=tellM hp 1 11 rfl rfl
       simp only[OpGoal];go_simp;exact⟨_,rfl,Ext.refl _,rfl⟩
      ·intro f w2 hG hp hl;have hE:Ext wr w2:=hG
       have q125:f 12= .pointer (some ⟨g,q*4,none⟩):=tellM hp 0 12 rfl rfl
       change OpGoal _ _ _ f w2 Ext _;exact og_loadAt (P:=Tryz.prog) _ _ g (q*4) _ _ rfl rfl q125 (fun j v h=>HCi.out _ hE j v h) Tryz.underlying95 rfl (by kernel_rfl) rfl
      ·intro f w2 hG hp hl
       have q113:f 0= .slice (some ⟨g,0,none⟩) n cap:=tellM hp 0 0 rfl rfl
       have q114:f 1= .int .i64 (q:Int):=tellM hp 1 1 rfl rfl
       simp only[OpGoal];go_simp;exact⟨_,rfl,Ext.refl _,rfl⟩
      ·intro f w2 hG hp hl
       have q127:f 14= .pointer (some ⟨g,q*4,none⟩):=tellM hp 0 14 rfl rfl
       have q122:f 9= .agg #[.int .i64 x.c,.bool x.b,.slice x.a1 x.n1 x.c1,.slice x.a2 x.n2 x.c2]:=tellM hp 1 9 rfl rfl
       intro hI hU;exact og_stS (P:=Tryz.prog) g n _ _ 15 q _ _ _ _ _ _ rfl rfl q127 q122 hqn (by kernel_rfl) (strN_tmv1 x) hI
      ·intro f w2 hG hp hl;have hS:wr.heap.size≤w2.heap.size:=hG.2.2.2.1
       have q115:f 2= .slice (some ⟨g,0,none⟩) n cap:=tellM hp 0 2 rfl rfl
       have q117:f 4= .int .i64 (p:Int):=tellM hp 1 4 rfl rfl
       simp only[OpGoal];go_simp;exact⟨_,rfl,Ext.refl _,rfl⟩
      ·intro f w2 hG hp hl;have hS:wr.heap.size≤w2.heap.size:=hG.2.2.2.1
       have q128:f 16= .pointer (some ⟨g,p*4,none⟩):=tellM hp 0 16 rfl rfl
       have q126:f 13= .agg #[.int .i64 y.c,.bool y.b,.slice y.a1 y.n1 y.c1,.slice y.a2 y.n2 y.c2]:=tellM hp 1 13 rfl rfl
       intro hI hU;exact og_stS (P:=Tryz.prog) g n _ _ 17 p _ _ _ _ _ _ rfl rfl q128 q126 hpn (by kernel_rfl) (strN_tmv1 y) hI
     ·intro f w2 hC hW hp;clear hp;have HF:Hid (HoldT g rest w2 ((A++L.take t0)++y::([]++x::(L.drop (t0+1)++S)))):=Lib.hid (HoldT.swapped' HLP.out.1 HLP.out.2.1 hW);clear hW;go_wp2;go_roundw
      case rel=>
       refine⟨t0,p,rfl,Lib.hid (by have:=HQ.out;have:=HPQ.out;omega),by have:=HPQ.out;omega,by omega,by omega,by omega,Lib.hid ⟨by have:=congrArg List.length HX.out.2;simp only[List.length_drop,List.length_cons]at this;omega,?_⟩,hch.trans hC⟩;rw[HX.out.2]
       simpa[List.append_assoc]using HF.out
      case measure=>have:=HPQ.out;simp[intOf];omega
  ·obtain⟨h,hh⟩:∃h,h=(i+j) / 2:=⟨_,rfl⟩
   obtain⟨L1,x,L2,HX⟩:∃L1 x L2,Hid (L=L1++x::L2∧L1.length=h - a∧L[h - a]? =some x):=by
    obtain⟨L1,x,L2,h1,h2,h3⟩:=split_at (R:=L) (h:=h - a) (by have:=Hl.out.2.2;omega);exact⟨L1,x,L2,Lib.hid ⟨h1,h2,h3⟩⟩
   have H5:Hid (HoldT g rest wr ((A++L1)++x::(L2++y::S))):=by
    have:=Hd.out.ext hex
    rw[HX.out.1]at this;exact Lib.hid (by simpa[List.append_assoc]using this)
   have HLM:Hid (h=(A++L1).length∧m=(A++L1).length+1+L2.length):=by
    obtain⟨l1,l2,l3⟩:=Hl.out;obtain⟨k1,k2, -⟩:=HX.out;rw[k1]at l3;simp only[List.length_append,List.length_cons]at l3 ⊢;exact Lib.hid ⟨by omega,by omega⟩
   have HCh:=Lib.hid (H5.out.at (get_at HLM.out.1));have HCm:=Lib.hid (H5.out.at (get_at2 HLM.out.2));obtain⟨r,hr⟩:∃r:Bool,r=decide (y.c<x.c):=⟨_,rfl⟩;have HR:=Lib.hid hr
   have hij':(i:Int)<(j:Int):=by omega
   have hhn:h<n:=by omega
   have hhn':(h:Int)<(n:Int):=by omega
   have hmn':(m:Int)<(n:Int):=by omega
   have hh2:((i:Int)+(j:Int)) / 2=(h:Int):=by omega
   have him:h<j:=by omega
   have hih:i≤h:=by omega
   clear hr hh;go_wp2_with fail;refine wpQ [PP.val (.func (.func 157) #[] #[]),PP.val (.slice (some ⟨g,0,none⟩) n cap),PP.val (.int .i64 (m:Int)),PP.val (.pointer (some ⟨g,m*4,none⟩)),PP.val (.agg #[.int .i64 y.c,.bool y.b,.slice y.a1 y.n1 y.c1,.slice y.a2 y.n2 y.c2]),PP.val (.slice (some ⟨g,0,none⟩) n cap),PP.val (.int .i64 (h:Int)),PP.val (.pointer (some ⟨g,h*4,none⟩)),PP.val (.agg #[.int .i64 x.c,.bool x.b,.slice x.a1 x.n1 x.c1,.slice x.a2 x.n2 x.c2]),PP.pred (fun v=>∃z:Int,v= .int .i64 z∧(z<0↔y.c<x.c)),PP.val (.bool r),PP.val (.bool (!r))] [] [0,1,2,3,4,5,6,7,8,9,10,11] ?_ ?_
   ·refine⟨?_,?_,?_,?_,?_,?_,?_,?_,?_,?_,?_,?_,trivial⟩
    ·intro f w2 hG hp hl;simp only[OpGoal];go_simp;exact⟨_,rfl,Ext.refl _,rfl⟩
    ·intro f w2 hG hp hl;simp only[OpGoal];go_simp;exact⟨_,rfl,Ext.refl _,rfl⟩
    ·intro f w2 hG hp hl;simp only[OpGoal];go_simp;exact⟨_,rfl,Ext.refl _,rfl⟩
    ·intro f w2 hG hp hl;have q93:=tE hp 0 1 rfl rfl rfl;have q94:=tE hp 1 2 rfl rfl rfl;simp only[OpGoal];go_simp;exact⟨_,rfl,Ext.refl _,rfl⟩
    ·intro f w2 hG hp hl;have hE:Ext wr w2:=hG;have q95:=tE hp 0 3 rfl rfl rfl;change OpGoal _ _ _ f w2 Ext _;exact og_loadAt (P:=Tryz.prog) _ _ g (m*4) _ _ rfl rfl q95 (fun j v h=>HCm.out _ hE j v h) Tryz.underlying95 rfl (by kernel_rfl) rfl
    ·intro f w2 hG hp hl;simp only[OpGoal];go_simp;exact⟨_,rfl,Ext.refl _,rfl⟩
    ·intro f w2 hG hp hl;simp only[OpGoal];go_simp;exact⟨_,rfl,Ext.refl _,rfl⟩
    ·intro f w2 hG hp hl;have q97:=tE hp 0 5 rfl rfl rfl;have q98:=tE hp 1 6 rfl rfl rfl;simp only[OpGoal];go_simp;exact⟨_,rfl,Ext.refl _,rfl⟩
    ·intro f w2 hG hp hl;have hE:Ext wr w2:=hG;have q99:=tE hp 0 7 rfl rfl rfl;change OpGoal _ _ _ f w2 Ext _;exact og_loadAt (P:=Tryz.prog) _ _ g (h*4) _ _ rfl rfl q99 (fun j v h=>HCh.out _ hE j v h) Tryz.underlying95 rfl (by kernel_rfl) rfl
    ·intro f w2 hG hp hl;have q92:=tE hp 0 0 rfl rfl rfl;have q96:=tE hp 1 4 rfl rfl rfl;have q100:=tE hp 2 8 rfl rfl rfl;change OpGoal _ _ _ f w2 Ext _;refine og_callv (P:=Tryz.prog) _ _ _ _ #[f 4,f 8] Tryz.func157 (by kernel_rfl) (by kernel_rfl) rfl rfl q92 (by kernel_rfl) ?_;rw[q96,q100];refine(cmpT_calls y x _).mono ?_;rintro e w' ⟨z,rfl,h1,h2⟩;exact⟨_,rfl,h2,z,rfl,h1⟩
    ·intro f w2 hG hp hl;have hE:Ext wr w2:=hG;have q101:=tellV hp 0 9 rfl rfl (fun _=>hE);obtain⟨z,hz,hzz⟩:=q101;simp only[OpGoal];go_simp;exact⟨_,rfl,Ext.refl _,congrArg Value.bool (by first | (rw[HR.out];done) | (rw[HR.out];exact decide_eq_decide.2 hzz))⟩
    ·intro f w2 hG hp hl;have q102:=tE hp 0 10 rfl rfl rfl;simp only[OpGoal];go_simp;exact⟨_,rfl,Ext.refl _,rfl⟩
   ·intro f w2 hG hp;have hE:Ext wr w2:=ChgS.nil hG
    have q103:f 11= .bool (!r):=endV hp 11 (by decide) rfl (fun h=>by cases h)
    try simp only[q103]
    clear hp
    cases r with
    |true=>
     go_wp2;go_roundw
     case rel=>
      refine⟨i,h,rfl,rfl,hai,hih,by omega,Lib.hid ⟨hF.out.1,.inr ⟨x,HX.out.2.2,?_⟩⟩,hex.trans hE⟩
      have:=of_decide_eq_true HR.out.symm
      show y.c≤x.c
      omega
     case measure=>simp [intOf];omega
    |false=>
     obtain⟨h1,hh1⟩:∃h1:Nat,h1=h+1:=⟨_,rfl⟩
     have hh3:(h:Int)+1=(h1:Int):=by omega
     have HH:=Lib.hid hh1;clear hh1;go_wp2;go_roundw
     case rel=>
      refine⟨h1,j,rfl,rfl,by omega,by omega,hjm,Lib.hid ⟨.inr ⟨x,?_,?_⟩,hF.out.2⟩,hex.trans hE⟩
      ·have:=HX.out.2.2
       rw[show h1 - a - 1=h - a by have:=HH.out;omega];exact this
      ·have:=of_decide_eq_false HR.out.symm
       show x.c≤y.c
       omega
     case measure=>simp [intOf];omega
end Go.Proofs.YtbmnlaepfckmkaaGreat
