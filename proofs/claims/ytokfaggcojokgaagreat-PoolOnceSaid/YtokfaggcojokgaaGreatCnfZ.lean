/-
 Constraints: sums of constraints (cons.Combine).
-/
import Derived.Test.YtokfaggcojokgaaGreatCneZ
namespace Go.Proofs.YtokfaggcojokgaaGreat
set_option maxRecDepth 100000
set_option maxHeartbeats 1000000
open Go.RowKit
set_option linter.unusedVariables false
set_option linter.unusedSimpArgs false
section
variable {P:Program} {o:Oper} {a:Act} {f:Nat→Value} {w:World} {post:Value→World→Prop}
theorem og_storeAt(g off:Nat)(t ty:TypeId)(cur:List Value)(cs:Array Value)(x y:Operand)(hgd:o.guard=none)(ho:o.op= .store ty x y)(hx:a.eval x= .pointer (some ⟨g,off,none⟩))(hy:a.eval y= .agg cs)
  (hty:(P.info? ty).map (·.size)=some cs.size) (hb:Bx t w g cur.toArray) (hfit:off+cs.size≤cur.length) (h1:cs.all (·.oneCell')=true) (h:∀w',Chg g w w'→Bx t w' g (laidS cur off cs.toList).toArray→∀u,post u w'):OpGoal P o a f w (Chg g) post:=by
 have hrun:=run_storeVar_at (P:=P) w g off t ty cur cs hb hty hfit h1;unfold OpGoal;rw[hgd];unfold Oper.wp execOp;simp only[ho,hx,hy,Instr.storeAt,Instr.sureAddr,Sem.run_bind,Sem.run_pure,Result.andThen_ok,hrun];exact⟨_,rfl,Chg.setRow w g _,h _ (Chg.setRow w g _) (Bx.setRow hb _) _⟩
end
theorem ChgS.one{g:Nat}{w w':World}(h:ChgS [g] w w'):Chg g w w':=⟨h.1,h.2.1,h.2.2.1,h.2.2.2.1,fun k hk n=>h.2.2.2.2 k hk (fun hm=>by rw[List.mem_singleton]at hm;subst hm;exact n rfl)⟩
end Go.Proofs.YtokfaggcojokgaaGreat
