/-
 PROVED HERE: the law PoolOnce of the package cutwaterlaw19 returns true for every list of constraints, and leaves what was there as it was.
 Conditions: none beyond those of the given row.
-/
import Derived.Test.YtokfaggcojokgaaGreatRows
import Derived.Test.YtokfaggcojokgaaGreatPllZ
import Derived.Test.YtokfaggcojokgaaGreatCnsZ
import Derived.WalkKit
import Derived.ProofKit
import Derived.OpenShut
import Derived.SizedLaws
namespace Go.Proofs.YtokfaggcojokgaaGreat.poolOnce
set_option maxRecDepth 100000
set_option maxHeartbeats 1000000
open Go.ChangeShapes Go.WideShapes Go.ChangeAt Go.RowKit
set_option linter.unusedVariables false
set_option linter.unusedSimpArgs false
theorem own:ownKnob Tryz.prog.godebug=none:=by kernel_rfl
theorem laid:laidOutB Tryz.prog=true:=by kernel_rfl
theorem rowsconss:Tryz.prog.readableRec 22=true∧22<Tryz.prog.types.size:=⟨by kernel_rfl,by decide+kernel⟩
theorem lifted(os:Os)(started:os.Started)(H:Type)(enc:TypeId×Value→H):
  ReturnsInHanded {} Tryz.checked os 14 .any (Rows.poolOnceSpec.pre6 enc Tryz.prog Tryz.f14 Rows.poolOnceRow.domain false) (Rows.poolOnceSpec.post enc Tryz.prog Tryz.f14 false true false false):=by
 refine returnsInHanded_of_change_sized (C:=Tryz.checked) own started (by kernel_rfl) Tryz.func14
  (ChangeSpec.witness6 (enc:=enc) (C:=Tryz.checked) false ⟨#[],#[.slice none 0 0],[]⟩ 8 (by kernel_rfl) (by kernel_rfl) (by kernel_rfl) (by kernel_rfl)) ?_
 intro W base args ds gs before hval0 hW hcnd hsz _
 have hval:∀(j:Nat) t v,Tryz.f14.params[j]? =some t→args[j]? =some v→Value.okWide Tryz.prog W .any base t v:=hval0
 have hW':=hW;have hlt:=hW.lt;obtain⟨p,q,hA0,hV,rfl,hfz,hnd⟩:=hW
 have hA:DataW.TrodAll enc Tryz.prog W 0 (fun _=>true) true Tryz.f14.params.toList args.toList ds p:=hA0
 rw[Tryz.params14]at hA hval;have hA2:=hA;obtain⟨v0,vs0,d0,ds0,p0,q0,hargs,rfl,rfl,h0,r0⟩:=trodAll_cons hA;obtain⟨rfl,rfl,rfl⟩:=trodAll_nil r0
 obtain rfl:args=#[v0]:=by cases args;simp_all
 obtain⟨rfl,rfl⟩:=trodVars_none hV
 have hsz2:(DataW.weightsEach Tryz.prog [22] [d0]).all (· ≤reachBytes)=true:=hsz
 have hsz':∀n∈DataW.weightsEach Tryz.prog [22] [d0],n≤reachBytes:=fun n hn=>by
  have:=List.all_eq_true.1 hsz2 n hn
  simpa using this
 have hreach:=reachBytes_lt
 obtain⟨l0,R0,K0⟩:=open_conssS (hval 0 22 v0 rfl rfl) h0 reachBytes (by omega) fun n hn=>hsz' n (DataW.weights_mem_each (j:=0) rfl rfl n hn)
 have hA3:DataW.TrodAll enc Tryz.prog W 0 (fun _=>true) true [22] [v0] [d0] (p0):=by simpa using hA2
 clear hA0 hval0;simp only[List.append_nil]at hW' hlt
 refine(poolOnce_calls v0 l0 W R0 (by rw[bytesCn]at K0;unfold reachBytes at K0;omega)).mono fun e W' ⟨he,hE⟩=> ?_
 subst he
 exact⟨_,rfl,post_of_ext (s:=Rows.poolOnceSpec) (pa:=p0) (pv:=[]) hW' (fun _ _ _=>(trodAll_cons_mk (shut_bool Tryz.underlying4 _) trodAll_mk0))
  (fun sp hsp=>trodAll_ext (ts:=[22]) laid hE sp (fun t ht=>by simp only[List.mem_cons,List.not_mem_nil,or_false,or_self]at ht;subst ht;exact rowsconss) hA3 hlt hsp) (fun _ _=>rfl) (by simp)
  hE (ok_one (by kernel_rfl) rfl (okWide_bool_mk Tryz.underlying4 _))⟩
theorem over:Rows.poolOnceRow.holds Tryz.pinned (OpenSpec.ofChange Rows.poolOnceSpec):=
 OpenClaim.holds_of_wide 14 Tryz.f14 rfl rfl rfl rfl rfl rfl rfl ⟨rfl,rfl,rfl,rfl,rfl⟩ rfl rfl rfl rfl rfl (by kernel_rfl) Tryz.func14 (by kernel_rfl)
  (of_decide_eq_true (by kernel_rfl)) (by unfold Func.isWrapper;first | (rw[if_pos (by decide+kernel)];kernel_rfl) | (rw[if_neg (by decide+kernel)];exact⟨rfl,rfl⟩))
  (fun os started H enc _=>lifted os started H enc)
theorem proved:Rows.PoolOnceSaid:=
 over
#print axioms proved
end Go.Proofs.YtokfaggcojokgaaGreat.poolOnce
