/-
 Pools, plainly: a constraint scaled; what a pool holds behind an addition.
-/
import Derived.Test.YtbmnlaepfckmkaaGreatCnaZ
import Derived.Test.YtbmnlaepfckmkaaGreatVfcZ
import Derived.Test.YtbmnlaepfckmkaaGreatCmaZ
import Derived.Test.YtbmnlaepfckmkaaGreatCnhZ
import Derived.Test.YtbmnlaepfckmkaaGreatCnlZ
namespace Go.Proofs.YtbmnlaepfckmkaaGreat
set_option maxRecDepth 100000
set_option maxHeartbeats 1000000
open Go.RowKit
set_option linter.unusedVariables false
set_option linter.unusedSimpArgs false
theorem ownsRow_lenP{B e size n:Nat}{w:World}{v:Value}{xs:List Value}(h:w.ownsRow B e size v n xs):∃ad cap,v= .slice ad n cap:=by
 rcases h.2 with⟨h1,h2⟩ |⟨g,cap,cur,h1, -⟩
 ·exact⟨none,0,by rw[h1,h2]⟩
 ·exact⟨_,cap,h1⟩
def KeepT(w w':World):Prop:=∀t g cs,(t=173∨t=95)→Bx t w g cs→Bx t w' g cs
theorem ChgS.keepT{bs:List Nat}{w w':World}(h:ChgS bs w w')(hb:∀g∈bs,∃t cs,Bx t w g cs∧t≠173∧t≠95):KeepT w w':=by
 intro t g cs ht hx
 refine hx.chgS h fun hm=> ?_
 obtain⟨t',cs',h1,h2,h3⟩:=hb g hm;unfold Bx at hx h1;rw[hx]at h1;simp only[Option.some.injEq,Obj.cells.injEq,and_true]at h1
 rcases ht with rfl |rfl
 ·exact h2 h1.2.symm
 ·exact h3 h1.2.symm
theorem FrL.keepT{k:IntKind}{B0:Nat}{w w':World}{v:Value}{xs:List Nat}(h:FrL 173 k B0 w v xs)(hk:KeepT w w'):FrL 173 k B0 w' v xs:=by
 obtain⟨ad,cap,h1,h2,h3,h4⟩:=h;refine⟨ad,cap,h1,h2,h3,?_⟩
 rcases h4 with h4 |⟨g',cur,h4,h5,h6,h7⟩
 ·exact .inl h4
 ·exact .inr ⟨g',cur,h4,h5,hk _ _ _ (.inl rfl) h6,h7⟩
theorem FrQ.keepT{B0:Nat}{w w':World}{v:Value}{q:Rat}(h:FrQ B0 w v q)(hk:KeepT w w'):FrQ B0 w' v q:=by
 obtain⟨s,t,hst,hs,ht'⟩:=h;exact⟨s,t,hst,FrL.keepT hs hk,FrL.keepT ht' hk⟩
theorem TO.keepT{B k:Nat}{w w':World}{v:Value}{m:List (Int×Rat)}(h:TO B k w v m)(hk:KeepT w w'):TO B k w' v m:=by
 obtain⟨ts,h1,h2,h3⟩:=h;refine⟨ts,h1,⟨h2.1,h2.2.1,?_⟩,fun i t x ht hx=> ?_⟩
 ·rcases h2.2.2 with h2 |⟨g,cap,cur,j1,j2,j3,j4⟩
  ·exact .inl h2
  ·exact .inr ⟨g,cap,cur,j1,j2,hk _ _ _ (.inr rfl) j3,j4⟩
 ·obtain⟨k1,k2,k3⟩:=h3 i t x ht hx;exact⟨k1,k2.keepT hk,k3⟩
theorem Chg.one{g:Nat}{w w':World}(h:Chg g w w'):ChgS [g] w w':=h.chgS (List.mem_singleton.2 rfl)
end Go.Proofs.YtbmnlaepfckmkaaGreat
