/-
 PROVED HERE: the law QueuePlays of the package cutwaterlaw20 returns true for every order and every script, the fractions in any form, and leaves what was there as it was.
 Conditions: none beyond those of the given row.
-/
import Derived.Test.YthoibjnkhkjnjaaGreatRows
import Derived.Test.YthoibjnkhkjnjaaGreatQpnZ
import Derived.Test.YthoibjnkhkjnjaaGreatQpnZ
import Derived.WalkKit
import Derived.ProofKit
import Derived.OpenShut
import Derived.SizedLaws
namespace Go.Proofs.YthoibjnkhkjnjaaGreat.queuePlays
set_option maxRecDepth 100000
set_option maxHeartbeats 1000000
open Go.ChangeShapes Go.WideShapes Go.ChangeAt Go.RowKit
set_option linter.unusedVariables false
set_option linter.unusedSimpArgs false
theorem own:ownKnob Tryz.prog.godebug=none:=by kernel_rfl
theorem laid:laidOutB Tryz.prog=true:=by kernel_rfl
theorem rowsint:Tryz.prog.readableRec 3=true∧3<Tryz.prog.types.size:=⟨by kernel_rfl,by decide+kernel⟩
theorem rowsops:Tryz.prog.readableRec 22=true∧22<Tryz.prog.types.size:=⟨by kernel_rfl,by decide+kernel⟩
theorem lifted(os:Os)(started:os.Started)(H:Type)(enc:TypeId×Value→H):
  ReturnsInHanded {} Tryz.checked os 3 .any (Rows.queuePlaysSpec.pre6 enc Tryz.prog Tryz.f3 Rows.queuePlaysRow.domain false) (Rows.queuePlaysSpec.post enc Tryz.prog Tryz.f3 false true false false):=by
 refine returnsInHanded_of_change_sized (C:=Tryz.checked) own started (by kernel_rfl) Tryz.func3
  (ChangeSpec.witness6 (enc:=enc) (C:=Tryz.checked) false ⟨#[],#[.int .i64 0,.slice none 0 0],[]⟩ 8 (by kernel_rfl) (by kernel_rfl) (by kernel_rfl) (by kernel_rfl)) ?_
 intro W base args ds gs before hval0 hW hcnd hsz _
 have hval:∀(j:Nat) t v,Tryz.f3.params[j]? =some t→args[j]? =some v→Value.okWide Tryz.prog W .any base t v:=hval0
 have hW':=hW;have hlt:=hW.lt;obtain⟨p,q,hA0,hV,rfl,hfz,hnd⟩:=hW
 have hA:DataW.TrodAll enc Tryz.prog W 0 (fun _=>true) true Tryz.f3.params.toList args.toList ds p:=hA0
 rw[Tryz.params3]at hA hval;have hA2:=hA;obtain⟨v0,vs0,d0,ds0,p0,q0,hargs,rfl,rfl,h0,r0⟩:=trodAll_cons hA;obtain⟨v1,vs1,d1,ds1,p1,q1,rfl,rfl,rfl,h1,r1⟩:=trodAll_cons r0;obtain⟨rfl,rfl,rfl⟩:=trodAll_nil r1
 obtain rfl:args=#[v0,v1]:=by cases args;simp_all
 obtain⟨rfl,rfl⟩:=trodVars_none hV;obtain⟨a0,rfl,rfl,rfl,wf0⟩:=open_int Tryz.underlying3 (hval 0 3 v0 rfl rfl) h0;have N0:=bounds_i64 wf0
 have hsz2:(DataW.weightsEach Tryz.prog [3,22] [.lit (.int .i64 a0),d1]).all (· ≤reachBytes)=true:=hsz
 have hsz':∀n∈DataW.weightsEach Tryz.prog [3,22] [.lit (.int .i64 a0),d1],n≤reachBytes:=fun n hn=>by
  have:=List.all_eq_true.1 hsz2 n hn
  simpa using this
 have hreach:=reachBytes_lt
 obtain⟨l1,R1,K1⟩:=open_opsS (hval 1 22 v1 rfl rfl) h1 reachBytes (by omega) fun n hn=>hsz' n (DataW.weights_mem_each (j:=1) rfl rfl n hn)
 have hA3:DataW.TrodAll enc Tryz.prog W 0 (fun _=>true) true [3,22] [.int .i64 a0,v1] [.lit (.int .i64 a0),d1] (p1):=by simpa using hA2
 clear hA0 hval0;simp only[List.append_nil]at hW' hlt
 refine(queuePlays_calls a0 v1 l1 W R1 (by rw[bytesOp]at K1;unfold reachBytes at K1;omega)).mono fun e W' ⟨he,hE⟩=> ?_
 subst he
 exact⟨_,rfl,post_of_ext (s:=Rows.queuePlaysSpec) (pa:=p1) (pv:=[]) hW' (fun _ _ _=>(trodAll_cons_mk (shut_bool Tryz.underlying4 _) trodAll_mk0))
  (fun sp hsp=>trodAll_ext (ts:=[3,22]) laid hE sp (fun t ht=>by
   simp only[List.mem_cons,List.not_mem_nil,or_false]at ht
   rcases ht with rfl |rfl
   ·exact rowsint
   ·exact rowsops) hA3 hlt hsp) (fun _ _=>rfl) (by simp)
  hE (ok_one (by kernel_rfl) rfl (okWide_bool_mk Tryz.underlying4 _))⟩
theorem over:Rows.queuePlaysRow.holds Tryz.pinned (OpenSpec.ofChange Rows.queuePlaysSpec):=
 OpenClaim.holds_of_wide 3 Tryz.f3 rfl rfl rfl rfl rfl rfl rfl ⟨rfl,rfl,rfl,rfl,rfl⟩ rfl rfl rfl rfl rfl (by kernel_rfl) Tryz.func3 (by kernel_rfl)
  (of_decide_eq_true (by kernel_rfl)) (by unfold Func.isWrapper;first | (rw[if_pos (by decide+kernel)];kernel_rfl) | (rw[if_neg (by decide+kernel)];exact⟨rfl,rfl⟩))
  (fun os started H enc _=>lifted os started H enc)
theorem proved:Rows.QueuePlaysSaid:=
 over
#print axioms proved
end Go.Proofs.YthoibjnkhkjnjaaGreat.queuePlays
