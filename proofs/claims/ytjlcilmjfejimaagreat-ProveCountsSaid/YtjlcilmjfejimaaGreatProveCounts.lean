/-
 PROVED HERE: the law ProveCounts of the package cutwaterlaw25 returns true for every problem and every script, the numbers in any form, and leaves what was there as it was.
 Conditions: none beyond those of the given row.
-/
import Derived.Test.YtjlcilmjfejimaaGreatRows
import Derived.Test.YtjlcilmjfejimaaGreatH
import Derived.WalkKit
import Derived.ProofKit
import Derived.OpenShut
import Derived.SizedLaws
namespace Go.Proofs.YtjlcilmjfejimaaGreat.proveCounts
set_option maxRecDepth 100000
set_option maxHeartbeats 1000000
open Go.ChangeShapes Go.WideShapes Go.ChangeAt Go.RowKit
set_option linter.unusedVariables false
set_option linter.unusedSimpArgs false
theorem own:ownKnob Tryz.prog.godebug=none:=by kernel_rfl
theorem laid:laidOutB Tryz.prog=true:=by kernel_rfl
theorem rowsprobN:Tryz.prog.readableRec 25=true∧25<Tryz.prog.types.size:=⟨by kernel_rfl,by decide+kernel⟩
theorem rowsscript:Tryz.prog.readableRec 26=true∧26<Tryz.prog.types.size:=⟨by kernel_rfl,by decide+kernel⟩
theorem lifted(os:Os)(started:os.Started)(H:Type)(enc:TypeId×Value→H):
  ReturnsInHanded {} Tryz.checked os 3 .any (Rows.proveCountsSpec.pre6 enc Tryz.prog Tryz.f3 Rows.proveCountsRow.domain false) (Rows.proveCountsSpec.post enc Tryz.prog Tryz.f3 false true false false):=by
 refine returnsInHanded_of_change_sized (C:=Tryz.checked) own started (by kernel_rfl) Tryz.func3
  (ChangeSpec.witness6 (enc:=enc) (C:=Tryz.checked) false ⟨#[],#[.agg #[.string ⟨#[]⟩,.string ⟨#[]⟩,.slice none 0 0,.slice none 0 0],.slice none 0 0],[]⟩ 8 (by kernel_rfl) (by kernel_rfl) (by kernel_rfl) (by kernel_rfl)) ?_
 intro W base args ds gs before hval0 hW hcnd hsz _
 have hval:∀(j:Nat) t v,Tryz.f3.params[j]? =some t→args[j]? =some v→Value.okWide Tryz.prog W .any base t v:=hval0
 have hW':=hW;have hlt:=hW.lt;obtain⟨p,q,hA0,hV,rfl,hfz,hnd⟩:=hW
 have hA:DataW.TrodAll enc Tryz.prog W 0 (fun _=>true) true Tryz.f3.params.toList args.toList ds p:=hA0
 rw[Tryz.params3]at hA hval;have hA2:=hA;obtain⟨v0,vs0,d0,ds0,p0,q0,hargs,rfl,rfl,h0,r0⟩:=trodAll_cons hA;obtain⟨v1,vs1,d1,ds1,p1,q1,rfl,rfl,rfl,h1,r1⟩:=trodAll_cons r0;obtain⟨rfl,rfl,rfl⟩:=trodAll_nil r1
 obtain rfl:args=#[v0,v1]:=by cases args;simp_all
 obtain⟨rfl,rfl⟩:=trodVars_none hV
 have hsz2:(DataW.weightsEach Tryz.prog [25,26] [d0,d1]).all (· ≤reachBytes)=true:=hsz
 have hsz':∀n∈DataW.weightsEach Tryz.prog [25,26] [d0,d1],n≤reachBytes:=fun n hn=>by
  have:=List.all_eq_true.1 hsz2 n hn
  simpa using this
 have hreach:=reachBytes_lt
 obtain⟨o0,R0,Y1,Y2,Y3,Y4⟩:=ag7 (hval 0 25 v0 rfl rfl) h0 reachBytes (by omega) fun n hn=>hsz' n (DataW.weights_mem_each (j:=0) rfl rfl n hn)
 obtain⟨l1,R1⟩:=ab2 (hval 1 26 v1 rfl rfl) h1 reachBytes (by unfold reachBytes;omega) fun n hn=>hsz' n (DataW.weights_mem_each (j:=1) rfl rfl n hn)
 have hA3:DataW.TrodAll enc Tryz.prog W 0 (fun _=>true) true [25,26] [v0,v1] [d0,d1] (p0++p1):=by simpa using hA2
 clear hA0 hval0;simp only[List.append_nil]at hW' hlt
 refine(U0 v0 v1 o0 l1 W R0 Y1 Y2 Y3 Y4 R1).mono fun e W' ⟨he,hE⟩=> ?_
 subst he
 exact⟨_,rfl,ae0 (s:=Rows.proveCountsSpec) (pa:=p0++p1) (pv:=[]) hW' (fun _ _ _=>(trodAll_cons_mk (shut_bool Tryz.underlying4 _) trodAll_mk0))
  (fun sp hsp=>PY (ts:=[25,26]) laid hE sp (fun t ht=>by
   simp only[List.mem_cons,List.not_mem_nil,or_false]at ht
   rcases ht with rfl |rfl
   ·exact rowsprobN
   ·exact rowsscript) hA3 hlt hsp) (fun _ _=>rfl) (by simp)
  hE (ok_one (by kernel_rfl) rfl (okWide_bool_mk Tryz.underlying4 _))⟩
theorem over:Rows.proveCountsRow.holds Tryz.pinned (OpenSpec.ofChange Rows.proveCountsSpec):=
 OpenClaim.holds_of_wide 3 Tryz.f3 rfl rfl rfl rfl rfl rfl rfl ⟨rfl,rfl,rfl,rfl,rfl⟩ rfl rfl rfl rfl rfl (by kernel_rfl) Tryz.func3 (by kernel_rfl)
  (of_decide_eq_true (by kernel_rfl)) (by unfold Func.isWrapper;first | (rw[if_pos (by decide+kernel)];kernel_rfl) | (rw[if_neg (by decide+kernel)];exact⟨rfl,rfl⟩))
  (fun os started H enc _=>lifted os started H enc)
theorem proved:Rows.ProveCountsSaid:=
 over
#print axioms proved
end Go.Proofs.YtjlcilmjfejimaaGreat.proveCounts
