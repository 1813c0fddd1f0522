/-
 PROVED HERE: the law ModelMean of the package cutwaterlaw10 returns true for every problem and every two lists of fractions, in any form, and leaves what was there as it was.
 Conditions: none beyond those of the given row.
-/
import Derived.Test.YtbmnlaepfckmkaaGreatRows
import Derived.Test.YtbmnlaepfckmkaaGreatMdvZ
import Derived.Test.YtbmnlaepfckmkaaGreatMdmZ
import Derived.WalkKit
import Derived.ProofKit
import Derived.OpenShut
import Derived.SizedLaws
namespace Go.Proofs.YtbmnlaepfckmkaaGreat.modelMean
set_option maxRecDepth 100000
set_option maxHeartbeats 1000000
open Go.ChangeShapes Go.WideShapes Go.ChangeAt Go.RowKit
set_option linter.unusedVariables false
set_option linter.unusedSimpArgs false
theorem own:ownKnob Tryz.prog.godebug=none:=by kernel_rfl
theorem laid:laidOutB Tryz.prog=true:=by kernel_rfl
theorem rowsprob:Tryz.prog.readableRec 25=true∧25<Tryz.prog.types.size:=⟨by kernel_rfl,by decide+kernel⟩
theorem rowsrats:Tryz.prog.readableRec 49=true∧49<Tryz.prog.types.size:=⟨by kernel_rfl,by decide+kernel⟩
theorem lifted(os:Os)(started:os.Started)(H:Type)(enc:TypeId×Value→H):
  ReturnsInHanded {} Tryz.checked os 5 .any (Rows.modelMeanSpec.pre6 enc Tryz.prog Tryz.f5 Rows.modelMeanRow.domain false) (Rows.modelMeanSpec.post enc Tryz.prog Tryz.f5 false true false false):=by
 refine returnsInHanded_of_change_sized (C:=Tryz.checked) own started (by kernel_rfl) Tryz.func5
  (ChangeSpec.witness6 (enc:=enc) (C:=Tryz.checked) false ⟨#[],#[.agg #[.string ⟨#[]⟩,.string ⟨#[]⟩,.slice none 0 0,.slice none 0 0],.slice none 0 0,.slice none 0 0],[]⟩ 8 (by kernel_rfl) (by kernel_rfl) (by kernel_rfl) (by kernel_rfl)) ?_
 intro W base args ds gs before hval0 hW hcnd hsz _
 have hval:∀(j:Nat) t v,Tryz.f5.params[j]? =some t→args[j]? =some v→Value.okWide Tryz.prog W .any base t v:=hval0
 have hW':=hW;have hlt:=hW.lt;obtain⟨p,q,hA0,hV,rfl,hfz,hnd⟩:=hW
 have hA:DataW.TrodAll enc Tryz.prog W 0 (fun _=>true) true Tryz.f5.params.toList args.toList ds p:=hA0
 rw[Tryz.params5]at hA hval;have hA2:=hA;obtain⟨v0,vs0,d0,ds0,p0,q0,hargs,rfl,rfl,h0,r0⟩:=trodAll_cons hA;obtain⟨v1,vs1,d1,ds1,p1,q1,rfl,rfl,rfl,h1,r1⟩:=trodAll_cons r0;obtain⟨v2,vs2,d2,ds2,p2,q2,rfl,rfl,rfl,h2,r2⟩:=trodAll_cons r1;obtain⟨rfl,rfl,rfl⟩:=trodAll_nil r2
 obtain rfl:args=#[v0,v1,v2]:=by cases args;simp_all
 obtain⟨rfl,rfl⟩:=trodVars_none hV
 have hsz2:(DataW.weightsEach Tryz.prog [25,49,49] [d0,d1,d2]).all (· ≤reachBytes)=true:=hsz
 have hsz':∀n∈DataW.weightsEach Tryz.prog [25,49,49] [d0,d1,d2],n≤reachBytes:=fun n hn=>by
  have:=List.all_eq_true.1 hsz2 n hn
  simpa using this
 have hreach:=reachBytes_lt
 obtain⟨o0,R0⟩:=open_probS (hval 0 25 v0 rfl rfl) h0 reachBytes (by omega) fun n hn=>hsz' n (DataW.weights_mem_each (j:=0) rfl rfl n hn)
 obtain⟨l1,R1,K1⟩:=open_ratsS (hval 1 49 v1 rfl rfl) h1 reachBytes (by omega) fun n hn=>hsz' n (DataW.weights_mem_each (j:=1) rfl rfl n hn)
 obtain⟨l2,R2,K2⟩:=open_ratsS (hval 2 49 v2 rfl rfl) h2 reachBytes (by omega) fun n hn=>hsz' n (DataW.weights_mem_each (j:=2) rfl rfl n hn)
 have hA3:DataW.TrodAll enc Tryz.prog W 0 (fun _=>true) true [25,49,49] [v0,v1,v2] [d0,d1,d2] (p0++(p1++p2)):=by simpa using hA2
 clear hA0 hval0;simp only[List.append_nil]at hW' hlt
 refine(modelMean_calls v0 v1 v2 o0 l1 l2 W R0 R1 R2).mono fun e W' ⟨he,hE⟩=> ?_
 subst he
 exact⟨_,rfl,post_of_ext (s:=Rows.modelMeanSpec) (pa:=p0++(p1++p2)) (pv:=[]) hW' (fun _ _ _=>(trodAll_cons_mk (shut_bool Tryz.underlying4 _) trodAll_mk0))
  (fun sp hsp=>trodAll_ext (ts:=[25,49,49]) laid hE sp (fun t ht=>by
   simp only[List.mem_cons,List.not_mem_nil,or_false]at ht
   rcases ht with rfl |rfl |rfl
   ·exact rowsprob
   ·exact rowsrats
   ·exact rowsrats) hA3 hlt hsp) (fun _ _=>rfl) (by simp)
  hE (ok_one (by kernel_rfl) rfl (okWide_bool_mk Tryz.underlying4 _))⟩
theorem over:Rows.modelMeanRow.holds Tryz.pinned (OpenSpec.ofChange Rows.modelMeanSpec):=
 OpenClaim.holds_of_wide 5 Tryz.f5 rfl rfl rfl rfl rfl rfl rfl ⟨rfl,rfl,rfl,rfl,rfl⟩ rfl rfl rfl rfl rfl (by kernel_rfl) Tryz.func5 (by kernel_rfl)
  (of_decide_eq_true (by kernel_rfl)) (by unfold Func.isWrapper;first | (rw[if_pos (by decide+kernel)];kernel_rfl) | (rw[if_neg (by decide+kernel)];exact⟨rfl,rfl⟩))
  (fun os started H enc _=>lifted os started H enc)
theorem proved:Rows.ModelMeanSaid:=
 over
#print axioms proved
end Go.Proofs.YtbmnlaepfckmkaaGreat.modelMean
