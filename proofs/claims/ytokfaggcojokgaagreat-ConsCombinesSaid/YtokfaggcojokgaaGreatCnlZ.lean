/-
 The law ConsCombines.
-/
import Derived.Test.YtokfaggcojokgaaGreatCnsZ
import Derived.Test.YtokfaggcojokgaaGreatCnjZ
import Derived.Test.YtokfaggcojokgaaGreatCmaZ
import Derived.Test.YtokfaggcojokgaaGreatCnhZ
import Derived.Test.YtokfaggcojokgaaGreatComZ
import Derived.Deep.AppendSrc
import Derived.Test.YtokfaggcojokgaaGreatCnfZ
import Derived.Test.YtokfaggcojokgaaGreatVfcZ
import Derived.Test.YtokfaggcojokgaaGreatCneZ
import Derived.Test.YtokfaggcojokgaaGreatCngZ
import Derived.Test.YtokfaggcojokgaaGreatCnkZ
import Derived.Test.YtokfaggcojokgaaGreatCniZ
import Derived.Test.YtokfaggcojokgaaGreatSsbZ
import Derived.Test.YtokfaggcojokgaaGreatCnaZ
namespace Go.Proofs.YtokfaggcojokgaaGreat
set_option maxRecDepth 100000
set_option maxHeartbeats 1000000
open Go.RowKit
set_option linter.unusedVariables false
set_option linter.unusedSimpArgs false
theorem rawq_zero(w:World):RawQ w (.agg #[.bool false,.slice none 0 0,.slice none 0 0]) false [] []:=⟨_,_,rfl,⟨none,0,rfl,Nat.le_refl _,by omega,Rd.nil _ _⟩,⟨none,0,rfl,Nat.le_refl _,by omega,Rd.nil _ _⟩⟩
theorem ratC_len{l:List CE}{n:Nat}(h:∀c∈l,c.2.1.length≤n):∀c∈l.map ratC,c.2.1.length≤n:=by
 intro r hr;obtain⟨c,hc,rfl⟩:=List.mem_map.1 hr;unfold ratC ratT;rw[List.length_map];exact h c hc
set_option maxHeartbeats 16000000 in
theorem consCombines_calls(v u:Value)(cl:List CE)(ql:List RE)(s:Int)(w:World)(hv:CLE w v cl)(hb:cl.length≤281474976710656)(hu:SLQ w u ql):
  Calls Tryz.prog 3 #[v,u,.int .i64 s] w fun e w'=>e= .returned (.bool true)∧Ext w w':=by
 have HV:=Lib.hid hv;have HU:=Lib.hid hu
 have lim:(100000:Nat)≤LIM:=by rw[LIM_eq];omega
 clear hv hu
 go_enter Tryz.func3,Tryz.ntmps3
 go_wp2_with fail;refine(speaksc_calls _).mono ?_;rintro e w2 ⟨rfl,e2⟩;go_wp2_with fail;refine(greatC_calls _ cl w2 (HV.out.ext e2) hb).mono ?_;rintro e w3 ⟨rfl,e3⟩;obtain⟨p,hp⟩:∃p,p=greatC cl:=⟨_,rfl⟩;rw[←hp];have HP:=Lib.hid hp;clear hp;have E3:=e2.trans e3
 cases p with
 |true=>
  go_wp2;go_ret;exact⟨rfl,E3⟩
 |false=>
 go_wp2_with fail;refine(greatAll_calls _ ql w3 (HU.out.ext E3)).mono ?_;rintro e w4 ⟨rfl,e4⟩;obtain⟨q,hq⟩:∃q,q=greatE ql:=⟨_,rfl⟩;rw[←hq];have HQ:=Lib.hid hq;clear hq;have E4:=E3.trans e4
 cases q with
 |true=>
  go_wp2;go_ret;exact⟨rfl,E4⟩
 |false=>
 obtain⟨m1,m2⟩:=greatC_not HP.out.symm;obtain⟨x1,x2⟩:=greatE_not HQ.out.symm;have HM2:=Lib.hid m2;have HX2:=Lib.hid x2;obtain⟨C,hC⟩:∃C,C=cl.map ratC:=⟨_,rfl⟩;obtain⟨X,hX⟩:∃X,X=ql.map ratE:=⟨_,rfl⟩
 have hCl:C.length≤12:=by rw[hC,List.length_map];exact m1
 have HCL:=Lib.hid (show∀c∈C,c.2.1.length≤30 by rw[hC];exact ratC_len fun c hc=>(m2 c hc).1)
 have toC:∀{w':World} {v':Value},CLE w' v' cl→CL 6 w' v' C:=fun h=>by rw[hC];exact h.cl 6 (by omega) (by omega) fun c hc=>(m2 c hc).2
 have toX:∀{w':World} {v':Value},SLQ w' v' ql→QL 6 w' v' X:=fun h=>by rw[hX];exact h.ql 6 (by omega) (by omega) x2
 have TM:=Lib.hid (And.intro @toC @toX);clear m2 x2 hC hX toC toX HP HQ e2 e3 e4 E3;go_wp2_with fail;refine(copyC_calls _ cl w4 (HV.out.ext E4) (by omega) HM2.out).mono ?_;rintro e w5 ⟨v5,rfl,r5,e5⟩;have C5:=Lib.hid r5;have E5:=E4.trans e5;clear r5;go_wp2_with fail;refine(copyAll_calls _ ql w5 (HU.out.ext E5) (by omega) HX2.out).mono ?_;rintro e w6 ⟨v6,rfl,r6,e6⟩;have C6:=Lib.hid r6;have E6:=E5.trans e6;clear r6 E4;go_wp2_with fail;refine(combine_calls 6 6 30 12 4681 157 _ _ C X s w6 (TM.out.1 (C5.out.ext e6)) (TM.out.2 C6.out) HCL.out hCl (by omega) (by omega) (by omega) (by omega) (by omega) (by omega)).mono ?_;rintro e w7 ⟨v7,rfl,e7,hok,hno⟩;have E7:=E6.trans e7;obtain⟨cd,hcd⟩:∃cd,cd=combE C X s:=⟨_,rfl⟩;rw[←hcd]at hok hno ⊢;have HCD:=Lib.hid hcd;clear hcd
 by_cases h0:cd=0
 ·have ho:=hok h0;subst h0;have CA:=Lib.hid (ho.cnE (k:=max 4681 157) (by omega));have SP:=Lib.hid (ho.spc (Nat.le_refl _));obtain⟨a8,n8,p8,b8,a18,n18,c18,a28,n28,c28,rfl, -⟩:=ho;obtain⟨w8,hw8,e8,B8,s8⟩:=alloc1 w7 #[.int .i64 (combV C X s).1,.slice a8 n8 p8,.bool b8,.slice a18 n18 c18,.slice a28 n28 c28] 36;have E8:=E7.trans e8;clear hok hno;go_wp2_with fail;rw[←hw8];refine(combine11_calls 6 6 30 12 4681 157 _ _ C X s w8 (TM.out.1 (HV.out.ext E8)) (TM.out.2 (HU.out.ext E8)) HCL.out hCl (by omega) (by omega) (by omega) (by omega) (by omega) (by omega) (by omega) (by omega)).mono ?_;rintro e w9 ⟨v9,rfl,e9,hok,hno⟩;have ho:=hok HCD.out.symm;rw[←HCD.out];have CB:=Lib.hid (ho.cnE (k:=max 4681 157) (by omega));obtain⟨a9,n9,p9,b9,a19,n19,c19,a29,n29,c29,rfl, -⟩:=ho;obtain⟨w10,hw10,e10,B10,s10⟩:=alloc1 w9 #[.int .i64 (combV C X s).1,.slice a9 n9 p9,.bool b9,.slice a19 n19 c19,.slice a29 n29 c29] 36;have e810:=e9.trans e10;have P10:=B8.ext e810;have hp0:=P10.cell 0;have hp1:=P10.cell 1;have hp2:=P10.cell 2;have hp3:=P10.cell 3;have hp4:=P10.cell 4;rw[hw10]at hp0 hp1 hp2 hp3 hp4;clear hok hno hw8 E7;go_wp2_with fail;rw[←hw10];clear hp0 hp1 hp2 hp3 hp4;refine(sameCons_true _ _ (fmC (combV C X s)) w10 (CA.out.ext (e8.trans e810)) (CB.out.ext e10)).mono ?_;rintro e w11 ⟨rfl,e11⟩;have e711:=(e8.trans e810).trans e11;have P11:=P10.ext e11;have hp0:=P11.cell 0;have hp1:=P11.cell 1
  have hp2:=P11.cell 2;have hp3:=P11.cell 3;have hp4:=P11.cell 4;clear hw10 B10 P10;go_wp2_with fail;refine(spoilCons_calls _ _ w11 (SP.out.ext e711)).mono ?_;rintro e w12 ⟨rfl,h12⟩;have E12:Ext w6 w12:=(e7.trans e711).hurtW h12 (fun k hk=>hk.1);clear hp0 hp1 hp2 hp3 hp4 P11;go_wp2_with fail;refine(sameC_true _ _ cl w12 (C5.out.ext (e6.trans E12)) (HV.out.ext (E6.trans E12))).mono ?_;rintro e w13 ⟨rfl,e13⟩;go_wp2_with fail;refine(sameAll_true _ _ ql w13 (C6.out.ext (E12.trans e13)) (HU.out.ext ((E6.trans E12).trans e13))).mono ?_;rintro e w14 ⟨rfl,e14⟩;go_wp2;go_ret;exact⟨rfl,((E6.trans E12).trans e13).trans e14⟩
 ·have hz:=hno h0;subst hz
  have hz0:(cd !=0)=true:=by rw[bne_iff_ne];exact h0
  have hz1:(cd==0)=false:=by simpa using h0
  obtain⟨w8,hw8,e8,B8,s8⟩:=alloc1 w7 #[.int .i64 0,.slice none 0 0,.bool false,.slice none 0 0,.slice none 0 0] 36;have E8:=E7.trans e8;have HN0:=Lib.hid h0;unfold zeroC;clear hok hno h0;go_wp2_with fail;rw[←hw8];refine(combine11_calls 6 6 30 12 4681 157 _ _ C X s w8 (TM.out.1 (HV.out.ext E8)) (TM.out.2 (HU.out.ext E8)) HCL.out hCl (by omega) (by omega) (by omega) (by omega) (by omega) (by omega) (by omega) (by omega)).mono ?_;rintro e w9 ⟨v9,rfl,e9,hok,hno⟩;have hz:=hno (by rw[←HCD.out];exact HN0.out);subst hz;rw[←HCD.out];obtain⟨w10,hw10,e10,B10,s10⟩:=alloc1 w9 #[.int .i64 0,.slice none 0 0,.bool false,.slice none 0 0,.slice none 0 0] 36;have P10:=B8.ext (e9.trans e10);have hp0:=P10.cell 0;have hp1:=P10.cell 1;have hp2:=P10.cell 2;have hp3:=P10.cell 3;have hp4:=P10.cell 4;rw[hw10]at hp0 hp1 hp2 hp3 hp4;unfold zeroC;have E10:=(E8.trans e9).trans e10;clear hok hno hw8 B8 B10 P10;go_wp2_with fail;rw[←hw10];refine(rqsame3_calls _ _ false false [] [] [] [] w10 (rawq_zero _) (rawq_zero _)).mono ?_;rintro e w11 ⟨rfl,e11⟩;go_wp2;go_ret;exact⟨rfl,E10.trans e11⟩
open Go.ChangeShapes Go.WideShapes Go.ChangeAt
section
variable {H:Type} {enc:TypeId×Value→H} {w:World} {base:Nat} {spare:Nat→Bool} {held:Bool}
end
section
variable {H:Type} {enc:TypeId×Value→H} {w:World} {base:Nat} {spare:Nat→Bool} {held:Bool}
end
end Go.Proofs.YtokfaggcojokgaaGreat
