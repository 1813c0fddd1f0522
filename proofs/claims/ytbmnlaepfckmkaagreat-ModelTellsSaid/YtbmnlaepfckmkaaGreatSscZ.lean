/-
 Terms in a list of one's own: a range sorted by putting each at its place.
-/
import Derived.Test.YtbmnlaepfckmkaaGreatSsbZ
namespace Go.Proofs.YtbmnlaepfckmkaaGreat
set_option maxRecDepth 100000
set_option maxHeartbeats 1000000
open Go.RowKit
set_option linter.unusedVariables false
set_option linter.unusedSimpArgs false
theorem cmpT_calls(x y:TmC)(w:World):Calls Tryz.prog 157 #[.agg #[.int .i64 x.c,.bool x.b,.slice x.a1 x.n1 x.c1,.slice x.a2 x.n2 x.c2],.agg #[.int .i64 y.c,.bool y.b,.slice y.a1 y.n1 y.c1,.slice y.a2 y.n2 y.c2]] w fun e w'=>∃z:Int,e= .returned (.int .i64 z)∧(z<0↔x.c<y.c)∧Ext w w':=by
 obtain⟨c,b,a1,n1,c1,a2,n2,c2⟩:=x;obtain⟨d,b',a1',n1',c1',a2',n2',c2'⟩:=y
 simp only
 obtain⟨w1,hw1,e1,b1,b2,s1⟩:=alloc2 w #[.int .i64 c,.bool b,.slice a1 n1 c1,.slice a2 n2 c2] #[.int .i64 d,.bool b',.slice a1' n1' c1',.slice a2' n2' c2'] 95 95
 go_enter Tryz.func157,Tryz.ntmps157
 go_wp2_with fail;rw[←hw1];clear hw1;have hc0:=b1.cell 0;have hd0:=b2.cell 0;go_wp2_with fail;refine(Tryz.cmp_Compare_int c d _).mono ?_
 have hz:Lib.compareInt c d<0↔c<d:=by unfold Lib.compareInt;grind
 have Hz:=Lib.hid hz;clear hz;obtain⟨z,hz⟩:∃z,z=Lib.compareInt c d:=⟨_,rfl⟩;rw[←hz]at Hz ⊢;clear hz;rintro e w3 ⟨rfl,rfl⟩;go_wp2;go_ret;exact⟨z,rfl,Hz.out,e1⟩
set_option maxHeartbeats 8000000 in
theorem insertion_calls(n cap g:Nat)(rest:List Value)(A M S:List TmC)(w:World)(a b:Nat)(hn:n=(A++M++S).length)(hN:n≤35184372088832)(ha:a=A.length)(hb:b=a+M.length)(hH:HoldT g rest w (A++M++S)):
  Calls Tryz.prog 206 #[.slice (some ⟨g,0,none⟩) n cap,.int .i64 (a:Int),.int .i64 (b:Int),.func (.func 157) #[] #[]] w fun e w'=>e= .returned (.tuple #[])∧Chg g w w'∧∃M',M'.Perm M∧Ris tkey M'∧HoldT g rest w' (A++M'++S):=by
 simp only[List.length_append]at hn;obtain⟨m,hm⟩:∃m,m=M.length:=⟨_,rfl⟩
 have hbm:b=a+m:=by omega
 have hbn:b≤n:=by omega
 have Hl:=Lib.hid (And.intro hn (And.intro ha hm));have HBM:=Lib.hid hbm
 have hab:a≤b:=by omega
 have Hd:=Lib.hid hH;clear hn ha hm hb hH hbm;obtain⟨a1,ha1⟩:∃a1:Nat,a1=a+1:=⟨_,rfl⟩
 have ha1':(a:Int)+1=(a1:Int):=by omega
 have HA1:=Lib.hid ha1;clear ha1
 go_enter Tryz.func206,Tryz.ntmps206
 go_wp2_with fail
 go_loopw [8] (fun s8 wr=>∃(i t:Nat) (M1 M2:List TmC),s8= .int .i64 (i:Int)∧i=a+t∧0<t∧i≤b+1∧Hid ((M1++M2).Perm M∧M1.length=min t m∧Ris tkey M1∧HoldT g rest wr (A++(M1++M2)++S))∧Chg g w wr) (fun s8 _=>((b:Int)+1 - intOf s8).toNat)
 case atStart=>
  refine⟨a1,1,M.take 1,M.drop 1,rfl,HA1.out,by omega,by omega,Lib.hid ⟨by rw[List.take_append_drop],by rw[List.length_take,←Hl.out.2.2],Ris.of_short (by rw[List.length_take];omega),by rw[List.take_append_drop];exact Hd.out⟩,Chg.refl _ _⟩
 case round=>
  obtain⟨i,t,M1,M2,rfl,hit,ht0,hib,hH,hch⟩:=hrel
  by_cases hlt:i<b
  case neg=>
   have hlt':¬(i:Int)<(b:Int):=by omega
   have HF:Hid (∃M',M'.Perm M∧Ris tkey M'∧HoldT g rest wr (A++(M'++S))):=by
    obtain⟨h1,h2,h3,h4⟩:=hH.out
    have e2:M2=[]:=List.eq_nil_of_length_eq_zero (by
     have k:=h1.length_eq;have k2:=Hl.out.2.2;have k3:=HBM.out;rw[List.length_append]at k
     omega)
    subst e2;rw[List.append_nil]at h1 h4;exact Lib.hid ⟨M1,h1,h3,by simpa only[List.append_assoc]using h4⟩
   go_wp2
   go_end0
   exact⟨rfl,hch,HF.out⟩
  case pos=>
   have hlt':(i:Int)<(b:Int):=by omega
   obtain⟨y,M3,HM⟩:∃y M3,Hid (M2=y::M3∧M1.length=t∧n=A.length+M1.length+1+M3.length+S.length):=by
    obtain⟨h1,h2,h3,h4⟩:=hH.out;obtain⟨k1,k2,k3⟩:=Hl.out;have k4:=HBM.out;have k:=h1.length_eq;rw[List.length_append]at k
    match M2,k with
    | [],k=>simp only[List.length_nil]at k;omega
    |y::M3,k=>
     simp only[List.length_cons]at k;exact⟨y,M3,Lib.hid ⟨rfl,by omega,by omega⟩⟩
   obtain⟨wo,hwo⟩:∃wo,wo=wr:=⟨wr,rfl⟩;subst hwo;go_wp2_with fail
   go_loopw [9] (fun s9 wq=>∃(j:Nat) (U V:List TmC),s9= .int .i64 (j:Int)∧a≤j∧j≤i∧Hid (j=a+U.length∧M1=U++V∧(∀v∈V,tkey y≤tkey v)∧HoldT g rest wq ((A++U)++y::(V++M3++S)))∧Chg g wo wq) (fun s9 _=>(intOf s9).toNat)
   case atStart=>
    obtain⟨h1,h2,h3,h4⟩:=hH.out;obtain⟨k1,k2,k3⟩:=HM.out;exact⟨i,M1,[],rfl,by omega,by omega,Lib.hid ⟨by omega,by simp,by simp,by rw[k1]at h4;simpa[List.append_assoc]using h4⟩,Chg.refl _ _⟩
   case round=>
    obtain⟨j,U,V,rfl,haj,hji,hI,hcq⟩:=hrel
    have FIN:(j≤a∨∃u,U[U.length - 1]? =some u∧tkey u≤tkey y)→Hid (∃M1',M1'.length=min (t+1) m∧(M1'++M3).Perm M∧Ris tkey M1'∧HoldT g rest wr (A++(M1'++M3)++S)):=by
     intro hs;obtain⟨h1,h2,h3,h4⟩:=hH.out;obtain⟨k1,k2,k3⟩:=HM.out;obtain⟨i1,i2,i3,i4⟩:=hI.out;have hl:=h1.length_eq;have hl2:=Hl.out.2.2;subst i2
     have hp:=putin (key:=tkey) (L:=U++V) (y:=y) h3 U.length (by
      rcases hs with hs |⟨u,hu,hle⟩
      ·exact .inl (by omega)
      ·refine .inr ⟨u,?_,hle⟩
       have:=(List.getElem?_eq_some_iff.1 hu).1
       rw[List.getElem?_append_left this]
       exact hu) (by
      rcases Nat.eq_zero_or_pos V.length with hv |hv
      ·exact .inl (by rw[List.length_append];omega)
      ·refine .inr ⟨V[0],?_,i3 _ (List.getElem_mem _)⟩
       rw[List.getElem?_append_right (Nat.le_refl _),Nat.sub_self,List.getElem?_eq_getElem hv])
     rw[List.take_left,List.drop_left]at hp;refine⟨U++ [y]++V,?_,?_,hp,by simpa[List.append_assoc]using i4⟩
     ·simp only[List.length_append,List.length_cons,List.length_nil]at k2 hl ⊢;rw[k1,List.length_cons]at hl
      omega
     ·refine List.Perm.trans ?_ h1;rw[k1]
      have:=putin_perm (L:=U++V) (y:=y) U.length
      rw[List.take_left,List.drop_left]at this;exact(this.append_right M3).trans (by simp)
    have FINA:=Lib.hid FIN;clear FIN
    rcases Nat.eq_or_lt_of_le haj with hja |hja
    ·subst hja;have HF:=(FINA.out (.inl (Nat.le_refl _))).out;obtain⟨M1',f1,f2,f3,f4⟩:=HF;have HF:=Lib.hid (And.intro f1 (And.intro f2 (And.intro f3 f4)));clear f1 f2 f3 f4 FINA;go_wp2_with fail;refine wpQ [PP.val (.int .i64 (a:Int)),PP.val (.int .i64 (a:Int)),PP.val (.bool false),PP.val (.bool false),PP.any,PP.any,PP.any,PP.any,PP.any,PP.any,PP.any,PP.any,PP.any,PP.any,PP.any,PP.any,PP.val (.bool false)] [] [0,1,2,3,4,5,6,7,8,9,10,11,12,13,14,15,16] ?_ ?_
     ·refine⟨?_,?_,?_,?_,?_,?_,?_,?_,?_,?_,?_,?_,?_,?_,?_,?_,?_,trivial⟩
      ·intro f w2 hG hp hl;simp only[OpGoal];go_simp;exact⟨_,rfl,Ext.refl _,rfl⟩
      ·intro f w2 hG hp hl;simp only[OpGoal];go_simp;exact⟨_,rfl,Ext.refl _,rfl⟩
      ·intro f w2 hG hp hl;have q18:=tE hp 0 0 rfl rfl rfl;have q19:=tE hp 1 1 rfl rfl rfl;simp only[OpGoal];go_simp;exact⟨_,rfl,Ext.refl _,rfl⟩
      ·intro f w2 hG hp hl;have q20:=tE hp 0 2 rfl rfl rfl;simp only[OpGoal];go_simp;exact⟨_,rfl,Ext.refl _,rfl⟩
      ·intro f w2 hG hp hl;have qg:=tE hp 0 3 rfl rfl rfl;exact og_skip rfl qg (by decide) trivial
      ·intro f w2 hG hp hl;have qg:=tE hp 0 3 rfl rfl rfl;exact og_skip rfl qg (by decide) trivial
      ·intro f w2 hG hp hl;have qg:=tE hp 0 3 rfl rfl rfl;exact og_skip rfl qg (by decide) trivial
      ·intro f w2 hG hp hl;have qg:=tE hp 2 3 rfl rfl rfl;exact og_skip rfl qg (by decide) trivial
      ·intro f w2 hG hp hl;have qg:=tE hp 1 3 rfl rfl rfl;exact og_skip rfl qg (by decide) trivial
      ·intro f w2 hG hp hl;have qg:=tE hp 0 3 rfl rfl rfl;exact og_skip rfl qg (by decide) trivial
      ·intro f w2 hG hp hl;have qg:=tE hp 0 3 rfl rfl rfl;exact og_skip rfl qg (by decide) trivial
      ·intro f w2 hG hp hl;have qg:=tE hp 1 3 rfl rfl rfl;exact og_skip rfl qg (by decide) trivial
      ·intro f w2 hG hp hl;have qg:=tE hp 2 3 rfl rfl rfl;exact og_skip rfl qg (by decide) trivial
      ·intro f w2 hG hp hl;have qg:=tE hp 1 3 rfl rfl rfl;exact og_skip rfl qg (by decide) trivial
      ·intro f w2 hG hp hl;have qg:=tE hp 3 3 rfl rfl rfl;exact og_skip rfl qg (by decide) trivial
      ·intro f w2 hG hp hl;have qg:=tE hp 1 3 rfl rfl rfl;exact og_skip rfl qg (by decide) trivial
      ·intro f w2 hG hp hl;have q21:=tE hp 0 3 rfl rfl rfl;simp only[OpGoal];go_simp;exact⟨_,rfl,Ext.refl _,rfl⟩
     ·intro f w2 hG hp;have hE:Ext wr w2:=ChgS.nil hG
      have q34:f 16= .bool false:=endV hp 16 (by decide) rfl (fun h=>by cases h)
      try simp only[q34]
      clear hp;go_wp2;go_roundw
      case rel=>
       obtain⟨f1,f2,f3,f4⟩:=HF.out;exact⟨i+1,t+1,M1',M3,congrArg (Value.int .i64) (by omega),by omega,by omega,by omega,Lib.hid ⟨f2,f1,f3,f4.ext hE⟩,(hch.trans hcq).trans (hE.chg g)⟩
      case measure=>simp [intOf];omega
    ·obtain⟨U',u,HU⟩:∃U' u,Hid (U=U'++ [u]∧j=a+U'.length+1):=by
      obtain⟨i1,i2,i3,i4⟩:=hI.out
      have hne:U≠ []:=fun h=>by rw[h]at i1;simp at i1;omega
      exact⟨U.dropLast,U.getLast hne,Lib.hid ⟨(List.dropLast_concat_getLast hne).symm,by rw[List.length_dropLast];have:=List.length_pos_iff.2 hne;omega⟩⟩
     obtain⟨k,hk⟩:∃k,j=k+1:=⟨j - 1,by omega⟩;subst hk
     have HHT:Hid (HoldT g rest wr ((A++U')++u::([]++y::(V++M3++S)))):=by
      have:=hI.out.2.2.2
      rw[HU.out.1]at this;exact Lib.hid (by simpa[List.append_assoc]using this)
     have HLP:Hid (k=(A++U').length∧k+1=(A++U').length+1+([]:List TmC).length∧((((A++U')++u::([]++y::(V++M3++S)))).map tmv).length=n):=by
      obtain⟨i1,i2,i3,i4⟩:=hI.out;obtain⟨k1,k2,k3⟩:=HM.out;obtain⟨l1,l2⟩:=HU.out
      have:=Hl.out.2.1
      have k4:=HBM.out;rw[i2,l1]at k3;simp only[List.length_map,List.length_append,List.length_cons,List.length_nil]at k3 ⊢;refine Lib.hid ⟨by omega,by omega,by omega⟩
     have HCk:=Lib.hid (HHT.out.at (get_at HLP.out.1));have HCj:=Lib.hid (HHT.out.at (get_at2 HLP.out.2.1))
     have hjn:k+1<n:=by omega
     have hkn:k<n:=by omega
     have hjn':(((k+1:Nat):Nat):Int)<(n:Int):=by omega
     have hkn':(k:Int)<(n:Int):=by omega
     have hja':(a:Int)<((k+1:Nat):Int):=by omega
     have hk1:((k+1:Nat):Int) - 1=(k:Int):=by omega
     obtain⟨r,hr⟩:∃r:Bool,r=decide (y.c<u.c):=⟨_,rfl⟩;have HR:=Lib.hid hr;clear hr;obtain⟨j,hj⟩:∃j,j=k+1:=⟨_,rfl⟩;rw[←hj]at hjn hjn' hja' hk1 HCj haj hji;rw[←hj];have HJ:=Lib.hid hj;clear hj hja;go_wp2_with fail;refine wpQ [PP.val (.int .i64 (j:Int)),PP.val (.int .i64 (a:Int)),PP.val (.bool true),PP.val (.bool true),PP.val (.func (.func 157) #[] #[]),PP.val (.slice (some ⟨g,0,none⟩) n cap),PP.val (.int .i64 (j:Int)),PP.val (.pointer (some ⟨g,j*4,none⟩)),PP.val (.agg #[.int .i64 y.c,.bool y.b,.slice y.a1 y.n1 y.c1,.slice y.a2 y.n2 y.c2]),PP.val (.slice (some ⟨g,0,none⟩) n cap),PP.val (.int .i64 (j:Int)),PP.val (.int .i64 (k:Int)),PP.val (.pointer (some ⟨g,k*4,none⟩)),PP.val (.agg #[.int .i64 u.c,.bool u.b,.slice u.a1 u.n1 u.c1,.slice u.a2 u.n2 u.c2]),PP.pred (fun v=>∃z:Int,v= .int .i64 z∧(z<0↔y.c<u.c)),PP.val (.bool r),PP.val (.bool r)] [] [0,1,2,3,4,5,6,7,8,9,10,11,12,13,14,15,16] ?_ ?_
     ·refine⟨?_,?_,?_,?_,?_,?_,?_,?_,?_,?_,?_,?_,?_,?_,?_,?_,?_,trivial⟩
      ·intro f w2 hG hp hl;simp only[OpGoal];go_simp;exact⟨_,rfl,Ext.refl _,rfl⟩
      ·intro f w2 hG hp hl;simp only[OpGoal];go_simp;exact⟨_,rfl,Ext.refl _,rfl⟩
      ·intro f w2 hG hp hl;have q18:=tE hp 0 0 rfl rfl rfl;have q19:=tE hp 1 1 rfl rfl rfl;simp only[OpGoal];go_simp;exact⟨_,rfl,Ext.refl _,rfl⟩
      ·intro f w2 hG hp hl;have q20:=tE hp 0 2 rfl rfl rfl;simp only[OpGoal];go_simp;exact⟨_,rfl,Ext.refl _,rfl⟩
      ·intro f w2 hG hp hl;have qg:=tE hp 0 3 rfl rfl rfl;change OpGoal _ _ _ f w2 Ext _;refine og_guard (j:=3) (want:=true) rfl qg ?_;simp only[OpGoal];go_simp;exact⟨_,rfl,Ext.refl _,rfl⟩
      ·intro f w2 hG hp hl;have qg:=tE hp 0 3 rfl rfl rfl;change OpGoal _ _ _ f w2 Ext _;refine og_guard (j:=3) (want:=true) rfl qg ?_;simp only[OpGoal];go_simp;exact⟨_,rfl,Ext.refl _,rfl⟩
      ·intro f w2 hG hp hl;have qg:=tE hp 0 3 rfl rfl rfl;change OpGoal _ _ _ f w2 Ext _;refine og_guard (j:=3) (want:=true) rfl qg ?_;simp only[OpGoal];go_simp;exact⟨_,rfl,Ext.refl _,rfl⟩
      ·intro f w2 hG hp hl;have q23:=tE hp 0 5 rfl rfl rfl;have q24:=tE hp 1 6 rfl rfl rfl;have qg:=tE hp 2 3 rfl rfl rfl;change OpGoal _ _ _ f w2 Ext _;refine og_guard (j:=3) (want:=true) rfl qg ?_;simp only[OpGoal];go_simp;exact⟨_,rfl,Ext.refl _,rfl⟩
      ·intro f w2 hG hp hl;have hE:Ext wr w2:=hG;have q25:=tE hp 0 7 rfl rfl rfl;have qg:=tE hp 1 3 rfl rfl rfl;change OpGoal _ _ _ f w2 Ext _;refine og_guard (j:=3) (want:=true) rfl qg ?_;change OpGoal _ _ _ f w2 Ext _;exact og_loadAt (P:=Tryz.prog) _ _ g (j*4) _ _ rfl rfl q25 (fun j v h=>HCj.out _ hE j v h) Tryz.underlying95 rfl (by kernel_rfl) rfl
      ·intro f w2 hG hp hl;have qg:=tE hp 0 3 rfl rfl rfl;change OpGoal _ _ _ f w2 Ext _;refine og_guard (j:=3) (want:=true) rfl qg ?_;simp only[OpGoal];go_simp;exact⟨_,rfl,Ext.refl _,rfl⟩
      ·intro f w2 hG hp hl;have qg:=tE hp 0 3 rfl rfl rfl;change OpGoal _ _ _ f w2 Ext _;refine og_guard (j:=3) (want:=true) rfl qg ?_;simp only[OpGoal];go_simp;exact⟨_,rfl,Ext.refl _,rfl⟩
      ·intro f w2 hG hp hl;have hE:Ext wr w2:=hG;have hS:=hE.size;have q28:=tE hp 0 10 rfl rfl rfl;have qg:=tE hp 1 3 rfl rfl rfl;change OpGoal _ _ _ f w2 Ext _;refine og_guard (j:=3) (want:=true) rfl qg ?_;simp only[OpGoal];go_simp
       first
       |exact ⟨_,rfl,Ext.refl _,rfl⟩
       |exact ⟨_,rfl,Ext.refl _,congrArg (Value.int .i64) (Go.IntWalk.i64_in _ ⟨by omega,by omega⟩)⟩
      ·intro f w2 hG hp hl;have q27:=tE hp 0 9 rfl rfl rfl;have q29:=tE hp 1 11 rfl rfl rfl;have qg:=tE hp 2 3 rfl rfl rfl;change OpGoal _ _ _ f w2 Ext _;refine og_guard (j:=3) (want:=true) rfl qg ?_;simp only[OpGoal];go_simp;exact⟨_,rfl,Ext.refl _,rfl⟩
      ·intro f w2 hG hp hl;have hE:Ext wr w2:=hG;have q30:=tE hp 0 12 rfl rfl rfl;have qg:=tE hp 1 3 rfl rfl rfl;change OpGoal _ _ _ f w2 Ext _;refine og_guard (j:=3) (want:=true) rfl qg ?_;change OpGoal _ _ _ f w2 Ext _;exact og_loadAt (P:=Tryz.prog) _ _ g (k*4) _ _ rfl rfl q30 (fun j v h=>HCk.out _ hE j v h) Tryz.underlying95 rfl (by kernel_rfl) rfl
      ·intro f w2 hG hp hl;have q22:=tE hp 0 4 rfl rfl rfl;have q26:=tE hp 1 8 rfl rfl rfl;have q31:=tE hp 2 13 rfl rfl rfl;have qg:=tE hp 3 3 rfl rfl rfl;change OpGoal _ _ _ f w2 Ext _;refine og_guard (j:=3) (want:=true) rfl qg ?_;change OpGoal _ _ _ f w2 Ext _;refine og_callv (P:=Tryz.prog) _ _ _ _ #[f 8,f 13] Tryz.func157 (by kernel_rfl) (by kernel_rfl) rfl rfl q22 (by kernel_rfl) ?_;rw[q26,q31];refine(cmpT_calls y u _).mono ?_;rintro e w' ⟨z,rfl,h1,h2⟩;exact⟨_,rfl,h2,z,rfl,h1⟩
      ·intro f w2 hG hp hl;have hE:Ext wr w2:=hG;have q32:=tellV hp 0 14 rfl rfl (fun _=>hE);have qg:=tE hp 1 3 rfl rfl rfl;change OpGoal _ _ _ f w2 Ext _;refine og_guard (j:=3) (want:=true) rfl qg ?_;obtain⟨z,hz,hzz⟩:=q32;simp only[OpGoal];go_simp;exact⟨_,rfl,Ext.refl _,congrArg Value.bool (by first | (rw[HR.out];done) | (rw[HR.out];exact decide_eq_decide.2 hzz))⟩
      ·intro f w2 hG hp hl;have q21:=tE hp 0 3 rfl rfl rfl;have q33:=tE hp 1 15 rfl rfl rfl;simp only[OpGoal];go_simp;exact⟨_,rfl,Ext.refl _,rfl⟩
     ·intro f w2 hG hp;have hE:Ext wr w2:=ChgS.nil hG
      have q34:f 16= .bool r:=endV hp 16 (by decide) rfl (fun h=>by cases h)
      try simp only[q34]
      clear hp;have H2:=Lib.hid (HHT.out.ext hE)
      have HLQ:Hid (j=(A++U').length+1+([]:List TmC).length):=Lib.hid (HJ.out.trans HLP.out.2.1)
      have HCi:=Lib.hid (H2.out.at (get_at2 HLQ.out));have HCl:=Lib.hid (H2.out.at (get_at HLP.out.1))
      cases r with
      |false=>
       have hle:tkey u≤tkey y:=by
        have:=HR.out
        have h2:=of_decide_eq_false this.symm
        show u.c≤y.c
        omega
       have HF:=(FINA.out (.inr ⟨u,by rw[HU.out.1];simp,hle⟩)).out;obtain⟨M1',f1,f2,f3,f4⟩:=HF;have HF:=Lib.hid (And.intro f1 (And.intro f2 (And.intro f3 (f4.ext hE))));clear f1 f2 f3 f4 FINA;go_wp2;go_roundw
       case rel=>
        obtain⟨f1,f2,f3,f4⟩:=HF.out;exact⟨i+1,t+1,M1',M3,congrArg (Value.int .i64) (by omega),by omega,by omega,by omega,Lib.hid ⟨f2,f1,f3,f4⟩,(hch.trans hcq).trans (hE.chg g)⟩
       case measure=>simp [intOf];omega
      |true=>
       have hle:Hid (tkey y≤tkey u):=by
        have:=HR.out
        have h2:=of_decide_eq_true this.symm;refine Lib.hid ?_
        show y.c≤u.c
        omega
       have hjk:j≠k:=by have:=HJ.out;omega
       go_wp2_with fail
       refine wp_region_swpS g n j k 15 17 rest (((A++U')++u::([]++y::(V++M3++S))).map tmv) (.agg #[.int .i64 y.c,.bool y.b,.slice y.a1 y.n1 y.c1,.slice y.a2 y.n2 y.c2]) (.agg #[.int .i64 u.c,.bool u.b,.slice u.a1 u.n1 u.c1,.slice u.a2 u.n2 u.c2]) [PP.val (.slice (some ⟨g,0,none⟩) n cap),PP.val (.int .i64 (j:Int)),PP.val (.slice (some ⟨g,0,none⟩) n cap),PP.val (.int .i64 (j:Int)),PP.val (.int .i64 (k:Int)),PP.val (.slice (some ⟨g,0,none⟩) n cap),PP.val (.int .i64 (j:Int)),PP.val (.int .i64 (k:Int)),PP.val (.pointer (some ⟨g,k*4,none⟩)),PP.val (.agg #[.int .i64 u.c,.bool u.b,.slice u.a1 u.n1 u.c1,.slice u.a2 u.n2 u.c2]),PP.val (.slice (some ⟨g,0,none⟩) n cap),PP.val (.int .i64 (j:Int)),PP.val (.pointer (some ⟨g,j*4,none⟩)),PP.val (.agg #[.int .i64 y.c,.bool y.b,.slice y.a1 y.n1 y.c1,.slice y.a2 y.n2 y.c2]),PP.val (.pointer (some ⟨g,j*4,none⟩)),PP.any,PP.val (.pointer (some ⟨g,k*4,none⟩)),PP.any] [] [15,14,13,12,11,10,9,8,7,6,5,1,0] (by kernel_rfl) (by kernel_rfl) (fun f=>(by simp only[fillR,fillL,List.setIfInBounds_toArray,List.set_cons_succ,List.set_cons_zero,Nat.reduceAdd];rfl)) hjk (by decide) HLP.out.2.2 H2.out hjn hkn (by intro p hp;simp only[List.mem_cons,List.not_mem_nil,or_false]at hp;rcases hp with rfl |rfl |rfl |rfl |rfl |rfl |rfl |rfl |rfl |rfl |rfl |rfl |rfl |rfl |rfl |rfl |rfl |rfl<;>rfl) ?_ ?_ (by decide) (by decide)
       ·refine⟨?_,?_,?_,?_,?_,?_,?_,?_,?_,?_,?_,?_,?_,?_,?_,?_,?_,?_,trivial⟩
        ·intro f w3 hG hp hl;simp only[OpGoal];go_simp;exact⟨_,rfl,Ext.refl _,rfl⟩
        ·intro f w3 hG hp hl;simp only[OpGoal];go_simp;exact⟨_,rfl,Ext.refl _,rfl⟩
        ·intro f w3 hG hp hl;have hS:w2.heap.size≤w3.heap.size:=hG.2.2.2.1;simp only[OpGoal];go_simp;exact⟨_,rfl,Ext.refl _,rfl⟩
        ·intro f w3 hG hp hl;have hS:w2.heap.size≤w3.heap.size:=hG.2.2.2.1;simp only[OpGoal];go_simp;exact⟨_,rfl,Ext.refl _,rfl⟩
        ·intro f w3 hG hp hl;have hS:w2.heap.size≤w3.heap.size:=hG.2.2.2.1
         have q40:f 3= .int .i64 (j:Int):=tellM hp 0 3 rfl rfl
         simp only[OpGoal];go_simp
         first
         |exact ⟨_,rfl,Ext.refl _,rfl⟩
         |exact ⟨_,rfl,Ext.refl _,congrArg (Value.int .i64) (Go.IntWalk.i64_in _ ⟨by omega,by omega⟩)⟩
        ·intro f w3 hG hp hl;simp only[OpGoal];go_simp;exact⟨_,rfl,Ext.refl _,rfl⟩
        ·intro f w3 hG hp hl;simp only[OpGoal];go_simp;exact⟨_,rfl,Ext.refl _,rfl⟩
        ·intro f w3 hG hp hl;have hE:Ext w2 w3:=hG;have hS:=hE.size
         have q43:f 6= .int .i64 (j:Int):=tellM hp 0 6 rfl rfl
         simp only[OpGoal];go_simp
         first
         |exact ⟨_,rfl,Ext.refl _,rfl⟩
         |exact ⟨_,rfl,Ext.refl _,congrArg (Value.int .i64) (Go.IntWalk.i64_in _ ⟨by omega,by omega⟩)⟩
        ·intro f w3 hG hp hl
         have q42:f 5= .slice (some ⟨g,0,none⟩) n cap:=tellM hp 0 5 rfl rfl
         have q44:f 7= .int .i64 (k:Int):=tellM hp 1 7 rfl rfl
         simp only[OpGoal];go_simp;exact⟨_,rfl,Ext.refl _,rfl⟩
        ·intro f w3 hG hp hl;have hE:Ext w2 w3:=hG
         have q45:f 8= .pointer (some ⟨g,k*4,none⟩):=tellM hp 0 8 rfl rfl
         change OpGoal _ _ _ f w3 Ext _;exact og_loadAt (P:=Tryz.prog) _ _ g (k*4) _ _ rfl rfl q45 (fun j v h=>HCl.out _ hE j v h) Tryz.underlying95 rfl (by kernel_rfl) rfl
        ·intro f w3 hG hp hl;simp only[OpGoal];go_simp;exact⟨_,rfl,Ext.refl _,rfl⟩
        ·intro f w3 hG hp hl;simp only[OpGoal];go_simp;exact⟨_,rfl,Ext.refl _,rfl⟩
        ·intro f w3 hG hp hl
         have q47:f 10= .slice (some ⟨g,0,none⟩) n cap:=tellM hp 0 10 rfl rfl
         have q48:f 11= .int .i64 (j:Int):=tellM hp 1 11 rfl rfl
         simp only[OpGoal];go_simp;exact⟨_,rfl,Ext.refl _,rfl⟩
        ·intro f w3 hG hp hl;have hE:Ext w2 w3:=hG
         have q49:f 12= .pointer (some ⟨g,j*4,none⟩):=tellM hp 0 12 rfl rfl
         change OpGoal _ _ _ f w3 Ext _;exact og_loadAt (P:=Tryz.prog) _ _ g (j*4) _ _ rfl rfl q49 (fun j v h=>HCi.out _ hE j v h) Tryz.underlying95 rfl (by kernel_rfl) rfl
        ·intro f w3 hG hp hl
         have q37:f 0= .slice (some ⟨g,0,none⟩) n cap:=tellM hp 0 0 rfl rfl
         have q38:f 1= .int .i64 (j:Int):=tellM hp 1 1 rfl rfl
         simp only[OpGoal];go_simp;exact⟨_,rfl,Ext.refl _,rfl⟩
        ·intro f w3 hG hp hl
         have q51:f 14= .pointer (some ⟨g,j*4,none⟩):=tellM hp 0 14 rfl rfl
         have q46:f 9= .agg #[.int .i64 u.c,.bool u.b,.slice u.a1 u.n1 u.c1,.slice u.a2 u.n2 u.c2]:=tellM hp 1 9 rfl rfl
         intro hI hU;exact og_stS (P:=Tryz.prog) g n _ _ 15 j _ _ _ _ _ _ rfl rfl q51 q46 hjn (by kernel_rfl) (strN_tmv1 u) hI
        ·intro f w3 hG hp hl;have hS:w2.heap.size≤w3.heap.size:=hG.2.2.2.1
         have q39:f 2= .slice (some ⟨g,0,none⟩) n cap:=tellM hp 0 2 rfl rfl
         have q41:f 4= .int .i64 (k:Int):=tellM hp 1 4 rfl rfl
         simp only[OpGoal];go_simp;exact⟨_,rfl,Ext.refl _,rfl⟩
        ·intro f w3 hG hp hl;have hS:w2.heap.size≤w3.heap.size:=hG.2.2.2.1
         have q52:f 16= .pointer (some ⟨g,k*4,none⟩):=tellM hp 0 16 rfl rfl
         have q50:f 13= .agg #[.int .i64 y.c,.bool y.b,.slice y.a1 y.n1 y.c1,.slice y.a2 y.n2 y.c2]:=tellM hp 1 13 rfl rfl
         intro hI hU;exact og_stS (P:=Tryz.prog) g n _ _ 17 k _ _ _ _ _ _ rfl rfl q52 q50 hkn (by kernel_rfl) (strN_tmv1 y) hI
       ·intro f w3 hC hW hp;clear hp;have HF:Hid (HoldT g rest w3 ((A++U')++y::([]++u::(V++M3++S)))):=Lib.hid (HoldT.swapped' HLP.out.1 HLQ.out hW);clear hW;go_wp2;go_roundw
        case rel=>
         obtain⟨i1,i2,i3,i4⟩:=hI.out;obtain⟨l1,l2⟩:=HU.out;refine⟨k,U',u::V,rfl,by have:=HJ.out;omega,by have:=HJ.out;omega,Lib.hid ⟨by omega,by rw[i2,l1];simp,fun v hv=> ?_,by simpa[List.append_assoc]using HF.out⟩,(hcq.trans (hE.chg g)).trans hC⟩
         rcases List.mem_cons.1 hv with rfl |hv
         ·exact hle.out
         ·exact i3 v hv
        case measure=>have:=HJ.out;simp[intOf];omega
end Go.Proofs.YtbmnlaepfckmkaaGreat
