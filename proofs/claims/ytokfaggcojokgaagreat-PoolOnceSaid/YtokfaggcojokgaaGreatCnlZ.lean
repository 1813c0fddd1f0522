/-
 The law ConsCombines.
-/
import Derived.Test.YtokfaggcojokgaaGreatCnsZ
import Derived.Test.YtokfaggcojokgaaGreatCnjZ
import Derived.Test.YtokfaggcojokgaaGreatCmaZ
import Derived.Test.YtokfaggcojokgaaGreatCnhZ
import Derived.Test.YtokfaggcojokgaaGreatComZ
import Derived.Deep.AppendSrc
import Derived.Test.YtokfaggcojokgaaGreatCnfZ
import Derived.Test.YtokfaggcojokgaaGreatVfcZ
namespace Go.Proofs.YtokfaggcojokgaaGreat
set_option maxRecDepth 100000
set_option maxHeartbeats 1000000
open Go.RowKit
set_option linter.unusedVariables false
set_option linter.unusedSimpArgs false
theorem cle_new{g N:Nat}{w:World}(vs:List Value)(cs:List CE)(h5:StrN 5 vs)(hb:Bx 36 w g (flatS vs).toArray)(hn:N=vs.length)(hq:N=cs.length)(hN:N≤9223372036854775807)(hR:∀(i:Nat) (u:Value) (y:CE),vs[i]? =some u→cs[i]? =some y→CnE w u y):CLE w (.slice (some ⟨g,0,Option.none⟩) N N) cs:=by
 have:=LS.of_hold (e:=36) (n:=5) (B:=0) (w:=w) (vs:=vs) (g:=g) (cap:=N) (rest:=[]) h5 (Nat.zero_le _) (by omega) hN (by rw[hn];simp) (by rw[List.append_nil];exact hb)
 rw[←hn]at this;exact OL.sl (R:=fun w u y=>CnE w u y) ⟨vs,this,by omega,hR⟩ (by omega)
theorem cle_new1{w:World}{g:Nat}{a:CE}{ax:Option Addr}{nx px:Nat}{bbx:Bool}{a1x:Option Addr}{n1x c1x:Nat}{a2x:Option Addr}{n2x c2x:Nat}(hb:Bx 36 w g #[.int .i64 a.1,.slice ax nx px,.bool bbx,.slice a1x n1x c1x,.slice a2x n2x c2x])(h0:CnE w (.agg #[.int .i64 a.1,.slice ax nx px,.bool bbx,.slice a1x n1x c1x,.slice a2x n2x c2x]) a):CLE w (.slice (some ⟨g,0,none⟩) 1 1) [a]:=by
 refine cle_new [.agg #[.int .i64 a.1,.slice ax nx px,.bool bbx,.slice a1x n1x c1x,.slice a2x n2x c2x]] _ ?_ hb rfl rfl (by omega) ?_
 ·intro v hv;simp only[List.mem_cons,List.not_mem_nil,or_false]at hv
  rcases hv with rfl
  ·exact⟨_,rfl,rfl,all5 rfl rfl rfl rfl rfl⟩
 ·intro i u y hu hy
  match i,hu,hy with
  |0,hu,hy=>
   cases hu
   cases hy
   exact h0
  |i+1,hu,hy=>simp at hu
theorem great_in{l:List CE}{c:CE}(h:greatC l=false)(hc:c∈l):(c.2.1.length≤30∧(ratC c).2.1.length≤30)∧((∀e∈c.2.1,wordsE e.2≤6)∧wordsE c.2.2≤6)∧∀{w:World} {v:Value},CnE w v c→CnR 6 w v (ratC c):=by
 have lim:(100000:Nat)≤LIM:=by rw[LIM_eq];omega
 obtain⟨-,h2⟩:=greatC_not h;obtain⟨h3,h4,h5⟩:=h2 c hc;refine⟨⟨h3,by unfold ratC ratT;rw[List.length_map];exact h3⟩,⟨h4,h5⟩,fun hE=>hE.cnR 6 (by omega) (by omega) h4 h5⟩
theorem CnO.chgB{B k g:Nat}{w w':World}{v:Value}{c:CR}{cs:Array Value}(h:CnO B k w v c)(hc:Chg g w w')(hb:Bx 36 w g cs):CnO B k w' v c:=by
 obtain⟨a,n,cp,b,a1,n1,c1,a2,n2,c2,h1,h2,h3,h4⟩:=h;exact⟨a,n,cp,b,a1,n1,c1,a2,n2,c2,h1,h2.chgB hc hb (by decide) (by decide),h3.chgB hc hb (by decide),h4⟩
theorem Bx.chgK{t t':TypeId}{w w':World}{g g':Nat}{cs cs':Array Value}(h:Bx t w g cs)(hc:Chg g' w w')(hb:Bx t' w g' cs')(ht:t'≠t):Bx t w' g cs:=by
 refine h.chg hc ?_;rintro rfl;unfold Bx at h hb;rw[h]at hb;simp only[Option.some.injEq,Obj.cells.injEq,and_true]at hb;exact ht hb.2.symm
def One1(S:Nat)(q:Rat)(w:World)(u:Value):Prop:=∃g b a1 n1 c1 a2 n2 c2,u= .slice (some ⟨g,0,none⟩) 1 1∧Bx 34 w g #[.bool b,.slice a1 n1 c1,.slice a2 n2 c2]∧FrQ S w (.agg #[.bool b,.slice a1 n1 c1,.slice a2 n2 c2]) q
theorem One1.ql{S k:Nat}{q:Rat}{w:World}{u:Value}(h:One1 S q w u)(hq:szQ q≤k)(hk:k≤LIM):∃g,u= .slice (some ⟨g,0,none⟩) 1 1∧QL k w u [q]:=by
 obtain⟨g,b,a1,n1,c1,a2,n2,c2,rfl,hb,h3⟩:=h;refine⟨g,rfl,?_⟩;refine ql_new [.agg #[.bool b,.slice a1 n1 c1,.slice a2 n2 c2]] _ ?_ hb rfl rfl (by omega) ?_
 ·intro v hv;simp only[List.mem_cons,List.not_mem_nil,or_false]at hv;subst hv;exact⟨_,rfl,rfl,all3 rfl rfl rfl⟩
 ·intro i u y hu hy
  match i,hu,hy with
  |0,hu,hy=>
   cases hu
   cases hy
   exact h3.isR hq hk
  |i+1,hu,hy=>simp at hu
end Go.Proofs.YtokfaggcojokgaaGreat
