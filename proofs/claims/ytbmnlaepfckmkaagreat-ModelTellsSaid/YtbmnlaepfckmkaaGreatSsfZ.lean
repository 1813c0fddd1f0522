/-
 Terms in a list of one's own: sorted by their places (slices.SortStableFunc).
-/
import Derived.Test.YtbmnlaepfckmkaaGreatSseZ
namespace Go.Proofs.YtbmnlaepfckmkaaGreat
set_option maxRecDepth 100000
set_option maxHeartbeats 1000000
open Go.RowKit
set_option linter.unusedVariables false
set_option linter.unusedSimpArgs false
theorem split_len{T:List TmC}{k:Nat}(h:k≤T.length):∃C T',T=C++T'∧C.length=k:=⟨T.take k,T.drop k,(List.take_append_drop _ _).symm,by rw[List.length_take];omega⟩
set_option maxHeartbeats 16000000 in
theorem stable_calls(n cap g:Nat)(rest:List Value)(l:List TmC)(w:World)(hn:n=l.length)(hN:n≤35184372088832)(hH:HoldT g rest w l):
  Calls Tryz.prog 190 #[.slice (some ⟨g,0,none⟩) n cap,.int .i64 (n:Int),.func (.func 157) #[] #[]] w fun e w'=>e= .returned (.tuple #[])∧Chg g w w'∧∃l',l'.Perm l∧Ris tkey l'∧HoldT g rest w' l':=by
 have Hn:=Lib.hid hn;have Hd:=Lib.hid hH;clear hn hH
 go_enter Tryz.func190,Tryz.ntmps190
 go_wp2_with fail
 go_loopw [7,8] (fun s7 s8 wr=>∃(a b:Nat),s7= .int .i64 (a:Int)∧s8= .int .i64 (b:Int)∧b=a+20∧a≤n∧Hid (∃F T,Ful tkey 20 F∧(F++T).Perm l∧F.length=a∧HoldT g rest wr (F++T))∧Chg g w wr) (fun s7 s8 _=>((n:Int)+20 - intOf s8).toNat)
 case atStart=>exact ⟨0,20,rfl,rfl,rfl,by omega,Lib.hid ⟨[],l,.nil,List.Perm.refl _,rfl,by simpa using Hd.out⟩,Chg.refl _ _⟩
 case round=>
  obtain⟨a,b,rfl,rfl,hb,ha,hH,hch⟩:=hrel;have HB:=Lib.hid hb;clear hb
  by_cases hbn:b≤n
  ·obtain⟨F,C,T,HF⟩:∃F C T,Hid (Ful tkey 20 F∧(F++C++T).Perm l∧F.length=a∧HoldT g rest wr (F++C++T)∧C.length=20∧n=F.length+C.length+T.length):=by
    obtain⟨F,T,h1,h2,h3,h4⟩:=hH.out;have hl:=h2.length_eq;rw[List.length_append,←Hn.out]at hl;obtain⟨C,T',h5,h6⟩:=split_len (T:=T) (k:=20) (by have:=HB.out;omega);subst h5;rw[List.length_append]at hl;exact⟨F,C,T',Lib.hid ⟨h1,by simpa[List.append_assoc]using h2,h3,by simpa[List.append_assoc]using h4,h6,by omega⟩⟩
   have hbn':(b:Int)≤(n:Int):=by omega
   obtain⟨b2,hb2⟩:∃b2:Nat,b2=b+20:=⟨_,rfl⟩
   have hb2':(b:Int)+20=(b2:Int):=by omega
   have HB2:=Lib.hid hb2;clear hb2 hH;go_wp2_with fail;refine(insertion_calls n cap g rest F C T wr a b (by have:=HF.out.2.2.2.2;simp only[List.length_append];omega) hN HF.out.2.2.1.symm (by have:=HF.out.2.2.2.2.1;have:=HB.out;omega) HF.out.2.2.2.1).mono ?_;rintro ee w2 ⟨rfl,hc2,C',hp2,hs2,hH2⟩;have HC:=Lib.hid (And.intro hp2 (And.intro hs2 hH2));clear hp2 hs2 hH2;go_wp2;go_roundw
   case rel=>
    obtain⟨h1,h2,h3,h4,h5,h6⟩:=HF.out;obtain⟨k1,k2,k3⟩:=HC.out;have k4:=k1.length_eq;refine⟨b,b2,rfl,rfl,HB2.out,hbn,Lib.hid ⟨F++C',T,.snoc F C' (by omega) k2 h1,?_,by rw[List.length_append];have:=HB.out;omega,k3⟩,hch.trans hc2⟩;exact((k1.append_left F).append_right T).trans h2
   case measure=>have:=HB2.out;simp[intOf];omega
  ·have hbn':¬(b:Int)≤(n:Int):=by omega
   obtain⟨F,T,HF⟩:∃F T,Hid (Ful tkey 20 F∧(F++T).Perm l∧F.length=a∧HoldT g rest wr (F++T)∧n=F.length+T.length):=by
    obtain⟨F,T,h1,h2,h3,h4⟩:=hH.out;have hl:=h2.length_eq;rw[List.length_append,←Hn.out]at hl;exact⟨F,T,Lib.hid ⟨h1,h2,h3,h4,by omega⟩⟩
   clear hH;go_wp2_with fail;refine(insertion_calls n cap g rest F T [] wr a n (by have:=HF.out.2.2.2.2;simp only[List.length_append,List.length_nil];omega) hN HF.out.2.2.1.symm (by have:=HF.out.2.2.2.2;have:=HF.out.2.2.1;omega) (by rw[List.append_nil];exact HF.out.2.2.2.1)).mono ?_;rintro ee w2 ⟨rfl,hc2,T',hp2,hs2,hH2⟩;rw[List.append_nil]at hH2
   have HL:Hid (∃l',l'.Perm l∧Blk tkey 20 l'∧HoldT g rest w2 l'):=by
    obtain⟨h1,h2,h3,h4,h5⟩:=HF.out;have k:=hp2.length_eq;exact Lib.hid ⟨F++T',(hp2.append_left F).trans h2,h1.blk (.short T' (by have:=HB.out;omega) hs2),hH2⟩
   have hC2:Chg g w w2:=hch.trans hc2;clear hp2 hs2 hH2 HF HB hch hc2 hbn hbn' ha;go_wp2_with fail
   go_loopw [6] (fun s6 wr=>∃(bs:Nat),s6= .int .i64 (bs:Int)∧20≤bs∧bs≤70368744177664∧Hid (∃l',l'.Perm l∧Blk tkey bs l'∧HoldT g rest wr l')∧Chg g w wr) (fun s6 _=>((n:Int) - intOf s6).toNat)
   case atStart=>exact ⟨20,rfl,Nat.le_refl _,by omega,HL,hC2⟩
   case round=>
    obtain⟨bs,rfl,hbs0,hbs1,hH,hch⟩:=hrel
    by_cases hlt:bs<n
    case neg=>
     have hlt':¬(bs:Int)<(n:Int):=by omega
     have HFF:Hid (∃l',l'.Perm l∧Ris tkey l'∧HoldT g rest wr l'):=by
      obtain⟨l',h1,h2,h3⟩:=hH.out;exact Lib.hid ⟨l',h1,h2.all (by omega) (by rw[h1.length_eq,←Hn.out];omega),h3⟩
     clear hH HL;go_wp2
     go_end0
     exact⟨rfl,hch,HFF.out⟩
    case pos=>
     have hlt':(bs:Int)<(n:Int):=by omega
     obtain⟨bb,hbb⟩:∃bb:Nat,bb=2*bs:=⟨_,rfl⟩
     have hbb1:2*(bs:Int)=(bb:Int):=by omega
     have hbb2:(bs:Int)*2=(bb:Int):=by omega
     have hbbl:bb≤70368744177664:=by omega
     have HBB:=Lib.hid hbb;obtain⟨wo,hwo⟩:∃wo,wo=wr:=⟨wr,rfl⟩;subst hwo;clear hbb HL;go_wp2_with fail
     go_loopw [7,8] (fun s7 s8 wq=>∃(a b:Nat),s7= .int .i64 (a:Int)∧s8= .int .i64 (b:Int)∧Hid (b=a+bb)∧a≤n∧b≤n+bb∧Hid (∃F T,Ful tkey bb F∧Blk tkey bs T∧(F++T).Perm l∧F.length=a∧HoldT g rest wq (F++T))∧Chg g wo wq) (fun s7 s8 _=>((n:Int)+(bb:Int) - intOf s8).toNat)
     case atStart=>
      obtain⟨l',h1,h2,h3⟩:=hH.out;exact⟨0,bb,rfl,rfl,Lib.hid (by omega),by omega,by omega,Lib.hid ⟨[],l',.nil,h2,h1,rfl,h3⟩,Chg.refl _ _⟩
     case round=>
      obtain⟨a,b,rfl,rfl,HB,ha,hbl,hI,hcq⟩:=hrel;obtain⟨m,hm⟩:∃m:Nat,m=a+bs:=⟨_,rfl⟩
      have hm':(a:Int)+(bs:Int)=(m:Int):=by omega
      have hml:m≤n+bs:=by omega
      have HM:=Lib.hid hm;clear hm
      by_cases hbn:b≤n
      ·obtain⟨F,C,D,T,HF⟩:∃F C D T,Hid (Ful tkey bb F∧Blk tkey bs T∧(F++C++D++T).Perm l∧F.length=a∧HoldT g rest wr (F++C++D++T)∧C.length=bs∧D.length=bs∧Ris tkey C∧Ris tkey D∧n=F.length+C.length+D.length+T.length):=by
        obtain⟨F,T,h1,h2,h3,h4,h5⟩:=hI.out;have hl:=h3.length_eq;rw[List.length_append,←Hn.out]at hl;have hb1:=HB.out;have hb2:=HBB.out;obtain⟨C,T',rfl,h6,h7,h8⟩:=h2.first (by omega) (by omega);rw[List.length_append]at hl;obtain⟨D,T2,rfl,h9,h10,h11⟩:=h8.first (by omega) (by omega);rw[List.length_append]at hl;exact⟨F,C,D,T2,Lib.hid ⟨h1,h11,by simpa[List.append_assoc]using h3,h4,by simpa[List.append_assoc]using h5,h6,h9,h7,h10,by omega⟩⟩
       have hbn':(b:Int)≤(n:Int):=by omega
       obtain⟨b2,hb2⟩:∃b2:Nat,b2=b+bb:=⟨_,rfl⟩
       have hb2':(b:Int)+(bb:Int)=(b2:Int):=by omega
       have hb2l:b2≤n+bb:=by omega
       have HB2:=Lib.hid hb2;clear hb2 hI;go_wp2_with fail;refine(symMerge_calls n cap g rest hN _ F C D T wr a m b (Nat.le_refl _) (by have:=HF.out.2.2.2.2.2;simp only[List.length_append];omega) HF.out.2.2.2.1.symm (by have:=HF.out.2.2.2.2.2.1;have:=HM.out;omega) (by have:=HF.out.2.2.2.2.2.2.1;have:=HM.out;have:=HB.out;have:=HBB.out;omega) (by have:=HF.out.2.2.2.2.2.1;omega) (by have:=HF.out.2.2.2.2.2.2.1;omega) HF.out.2.2.2.2.2.2.2.1 HF.out.2.2.2.2.2.2.2.2.1 HF.out.2.2.2.2.1).mono ?_;rintro ee w2 ⟨rfl,hc2,M,hp2,hs2,hH2⟩;have HC:=Lib.hid (And.intro hp2 (And.intro hs2 hH2));clear hp2 hs2 hH2;go_wp2;go_roundw
       case rel=>
        obtain⟨h1,h2,h3,h4,h5,h6,h7,h8,h9,h10⟩:=HF.out;obtain⟨k1,k2,k3⟩:=HC.out;have k4:=k1.length_eq;rw[List.length_append]at k4;have hb1:=HB.out;have hb2:=HBB.out;refine⟨b,b2,rfl,rfl,HB2,hbn,hb2l,Lib.hid ⟨F++M,T,.snoc F M (by omega) k2 h1,h2,?_,by rw[List.length_append];omega,k3⟩,hcq.trans hc2⟩;refine((k1.append_left F).append_right T).trans ?_
        simpa[List.append_assoc]using h3
       case measure=>have:=HB2.out;have:=HBB.out;simp[intOf];omega
      ·have hbn':¬(b:Int)≤(n:Int):=by omega
       by_cases hmn:m<n
       ·obtain⟨F,C,T,HF⟩:∃F C T,Hid (Ful tkey bb F∧(F++C++T).Perm l∧F.length=a∧HoldT g rest wr (F++C++T)∧C.length=bs∧Ris tkey C∧Ris tkey T∧n=F.length+C.length+T.length):=by
         obtain⟨F,T,h1,h2,h3,h4,h5⟩:=hI.out;have hl:=h3.length_eq;rw[List.length_append,←Hn.out]at hl;have hb1:=HB.out;have hb2:=HBB.out;have hm1:=HM.out;obtain⟨C,T',rfl,h6,h7,h8⟩:=h2.first (by omega) (by omega);rw[List.length_append]at hl;exact⟨F,C,T',Lib.hid ⟨h1,by simpa[List.append_assoc]using h3,h4,by simpa[List.append_assoc]using h5,h6,h7,h8.all (by omega) (by omega),by omega⟩⟩
        have hmn':(m:Int)<(n:Int):=by omega
        clear hI;go_wp2_with fail;refine(symMerge_calls n cap g rest hN _ F C T [] wr a m n (Nat.le_refl _) (by have:=HF.out.2.2.2.2;simp only[List.length_append,List.length_nil];omega) HF.out.2.2.1.symm (by have:=HF.out.2.2.2.2.1;have:=HM.out;omega) (by have:=HF.out.2.2.2.2;have:=HF.out.2.2.1;have:=HM.out;omega) (by have:=HF.out.2.2.2.2.1;omega) (by have:=HF.out.2.2.2.2;have:=HF.out.2.2.1;have:=HM.out;omega) HF.out.2.2.2.2.2.1 HF.out.2.2.2.2.2.2.1 (by rw[List.append_nil];exact HF.out.2.2.2.1)).mono ?_;rintro ee w2 ⟨rfl,hc2,M,hp2,hs2,hH2⟩;rw[List.append_nil]at hH2;have HC:=Lib.hid (And.intro hp2 (And.intro hs2 hH2));clear hp2 hs2 hH2;go_wp2;go_roundw
        case rel=>
         obtain⟨h1,h2,h3,h4,h5,h6,h7,h8⟩:=HF.out;obtain⟨k1,k2,k3⟩:=HC.out;have k4:=k1.length_eq;rw[List.length_append]at k4;have hb1:=HB.out;have hb2:=HBB.out;refine⟨bb,rfl,by omega,hbbl,Lib.hid ⟨F++M,(k1.append_left F).trans (by simpa[List.append_assoc]using h2),h1.blk (.short M (by omega) k2),k3⟩,(hch.trans hcq).trans hc2⟩
        case measure=>have:=HBB.out;simp[intOf];omega
       ·have hmn':¬(m:Int)<(n:Int):=by omega
        have HC:Hid (∃l',l'.Perm l∧Blk tkey bb l'∧HoldT g rest wr l'):=by
         obtain⟨F,T,h1,h2,h3,h4,h5⟩:=hI.out;have hl:=h3.length_eq;rw[List.length_append,←Hn.out]at hl;have hb1:=HB.out;have hb2:=HBB.out;have hm1:=HM.out;exact Lib.hid ⟨F++T,h3,h1.blk (.short T (by omega) (h2.all (by omega) (by omega))),h5⟩
        clear hI;go_wp2;go_roundw
        case rel=>exact ⟨bb,rfl,by have:=HBB.out;omega,hbbl,HC,hch.trans hcq⟩
        case measure=>have:=HBB.out;simp[intOf];omega
theorem sortT_calls(n cap g:Nat)(rest:List Value)(l:List TmC)(w:World)(hn:n=l.length)(hN:n≤35184372088832)(hH:HoldT g rest w l):
  Calls Tryz.prog 156 #[.slice (some ⟨g,0,none⟩) n cap,.func (.func 157) #[] #[]] w fun e w'=>e= .returned (.tuple #[])∧Chg g w w'∧∃l',l'.Perm l∧Ris tkey l'∧HoldT g rest w' l':=by
 have Hd:=Lib.hid (stable_calls n cap g rest l w hn hN hH);clear hn hH
 go_enter Tryz.func156,Tryz.ntmps156
 go_wp2_with fail;refine Hd.out.mono ?_;rintro ee w2 ⟨rfl,hc2,hH2⟩;have H2:=Lib.hid hH2;clear hH2 Hd;go_wp2
 go_end0
 exact⟨rfl,hc2,H2.out⟩
end Go.Proofs.YtbmnlaepfckmkaaGreat
