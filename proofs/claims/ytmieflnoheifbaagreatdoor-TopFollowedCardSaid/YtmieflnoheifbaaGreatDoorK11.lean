import Derived.Test.YtmieflnoheifbaaGreatDoorK10
import Derived.Test.YtmieflnoheifbaaGreatDoorK3
import Derived.Test.YtmieflnoheifbaaGreatDoorK5
import Derived.Test.YtmieflnoheifbaaGreatDoorK8
import Derived.Test.YtmieflnoheifbaaGreatDoorProg
import Derived.Test.YtmieflnoheifbaaGreatDoorK9
set_option linter.all false
set_option maxHeartbeats 64000000
set_option maxRecDepth 100000
section
open Go Go.Proofs AF HY LN
namespace RC
theorem tkP(t:Tk)(h:JN)(hz:WM t)(hp:kM SG h):ACalls Tryz.prog 185 [.agg (tkC t)] h (.int .i64 (tkE t)) h:=by
 obtain⟨R,hR⟩:=Qt (tkE t)
 rw[<-hR];unfold tkE at hR
 by_cases g1:t.flags<0
 ·have k1:(t.flags<0)=True:=eqt g1;rw[ipo (.inl g1)]at hR;rw[hR];refine acO jo ?_;simp (disch:=omega) only[kA,tkC,go_sem]
  repeat' first|(apply qa;exact rvk;simp only[go_sem];first|exact qi|apply qe)|(with_reducible first|intro _|apply aiA)|exact clz|fail
 have k1:(t.flags<0)=False:=eqf g1
 by_cases g2:31<t.flags
 ·have k2:((31:Int)<t.flags)=True:=eqt g2;rw[ipo (.inr g2)]at hR;rw[hR];refine acO jo ?_;simp (disch:=omega) only[kA,tkC,go_sem]
  repeat' first|(apply qa;exact rvk;simp only[go_sem];first|exact qi|apply qe)|(with_reducible first|intro _|apply aiA)|exact clz|fail
 have k2:((31:Int)<t.flags)=False:=eqf g2;rw[ine oma]at hR;obtain⟨f,hf⟩: ∃f:Nat,t.flags=(f:Int):=⟨t.flags.toNat,oma⟩
 have hf2:f<32:=by omega
 have e2:=Nl f hf2;have e8:=Np f hf2;have eg:np t.flags=f.testBit 1:=by unfold np;rw[hf,itn]
 have ek:mkB t.flags=f.testBit 3:=by unfold mkB;rw[hf,itn]
 have cI:=λh=>RG t f h hf hf2
 have cP:=λl=>O0 t.page (h++l) hz.pg
 have cM:=λl=>O0 t.name (h++l) hz.na
 have hG:=λl=>SZ t.text (h++l) hz.tx (hp.app l)
 have cK:=λl=>Tv t.text (h++l) hz.tx
 have cW:=λl=>t88 t.text (h++l) hz.tx
 have cN:=λl=>Pe t.norm (h++l) hz.nm
 unfold txB at hR;rw[eg,ek]at hR cI;obtain⟨bp,hbp⟩: ∃b,b=t7 t.page:=⟨_,rfl⟩
 obtain⟨bm,hbm⟩: ∃b,b=t7 t.name:=⟨_,rfl⟩
 obtain⟨bg,hbg⟩: ∃b,b=dX t.text:=⟨_,rfl⟩
 obtain⟨bk,hbk⟩: ∃b,b=Dl t.text:=⟨_,rfl⟩
 obtain⟨bw,hbw⟩: ∃b,b=kp t.text:=⟨_,rfl⟩
 obtain⟨bn,hbn⟩: ∃b,b=Dm t.norm:=⟨_,rfl⟩
 rw[<-hbp,<-hbm,<-hbg,<-hbk,<-hbw,<-hbn]at hR;simp only[<-hbp]at cP;simp only[<-hbm]at cM;simp only[<-hbg]at hG;simp only[<-hbk]at cK;simp only[<-hbw]at cW;simp only[<-hbn]at cN;unfold tkC at cI;rw[hf]at cI k1 k2;cases ga:f.testBit 1<;>cases gb:f.testBit 3<;>rw[ga]at e2 hR cI<;>rw[gb]at e8 hR cI<;>simp only[Bool.false_eq_true,if_true,if_false,and_true,and_false,Bool.not_false,Bool.not_true,Bool.and_false,Bool.and_true]at e2 e8 hR cI
 ·cases bw with
  |false=>
   rw[Bool.false_and,ipo rfl]at hR;rw[hR];refine acO jo ?_;simp (disch:=omega) only[kA,tkC,hf,k1,k2,e2,e8,go_sem]
   repeat' first|(refine qz (cW _) ?_;simp (disch:=omega) only[go_sem])|exact tF|fail
  |true=>
  rw[Bool.true_and]at hR;cases bn with
  |false=>
   rw[ipo rfl]at hR;rw[hR];refine acO jo ?_;simp (disch:=omega) only[kA,tkC,hf,k1,k2,e2,e8,go_sem]
   repeat' first|(refine qz (cW _) ?_;simp (disch:=omega) only[go_sem])|((first|refine cA (cI _) ?_ ?_|refine cG (λe=>cN _) ?_ ?_);exact flk;simp (disch:=omega) only[go_sem])|exact tF|fail
  |true=>
   rw[ine (by simp)]at hR
   by_cases g4:t.line<0
   ·have k4:(t.line<0)=True:=eqt g4;rw[ipo g4]at hR;rw[hR];refine acO jo ?_;simp (disch:=omega) only[kA,tkC,hf,k1,k2,e2,e8,go_sem]
    repeat' first|(refine qz (cW _) ?_;simp (disch:=omega) only[k4,go_sem])|((first|refine cA (cI _) ?_ ?_|refine cG (λe=>cN _) ?_ ?_);exact flk;simp (disch:=omega) only[k4,go_sem])|(apply qa;exact rvk;simp only[go_sem];first|exact qi|apply qe)|(with_reducible first|intro _|apply aiA)|exact clz|fail
   have k4:(t.line<0)=False:=eqf g4;rw[ine g4]at hR;cases bp with
   |false=>
    rw[ipo (.inl rfl)]at hR;rw[hR];refine acO jo ?_;simp (disch:=omega) only[kA,tkC,hf,k1,k2,e2,e8,go_sem]
    repeat' first|(refine qz (cW _) ?_;simp (disch:=omega) only[k4,go_sem])|(refine qj ( .bool false) ?_;simp (disch:=omega) only[go_sem])|((first|refine cA (cI _) ?_ ?_|refine cG (λe=>cN _) ?_ ?_|refine cA (cP _) ?_ ?_);exact flk;simp (disch:=omega) only[k4,go_sem])|(apply qa;exact rvk;simp only[go_sem];first|exact qi|apply qe)|(with_reducible first|intro _|apply aiA)|exact clz|fail
   |true=>
   cases bm with
   |false=>
    rw[ipo (.inr rfl)]at hR;rw[hR];refine acO jo ?_;simp (disch:=omega) only[kA,tkC,hf,k1,k2,e2,e8,go_sem]
    repeat' first|(refine qz (cW _) ?_;simp (disch:=omega) only[k4,go_sem])|((first|refine cA (cI _) ?_ ?_|refine cG (λe=>cN _) ?_ ?_|refine cA (cP _) ?_ ?_|refine cG (λe=>cM _) ?_ ?_);exact flk;simp (disch:=omega) only[k4,go_sem])|(apply qa;exact rvk;simp only[go_sem];first|exact qi|apply qe)|(with_reducible first|intro _|apply aiA)|exact clz|fail
   |true=>
    rw[ine (by simp)]at hR;rw[hR];refine acO jo ?_;simp (disch:=omega) only[kA,tkC,hf,k1,k2,e2,e8,go_sem]
    repeat' first|(refine qz (cW _) ?_;simp (disch:=omega) only[k4,go_sem])|((first|refine cA (cI _) ?_ ?_|refine cG (λe=>cN _) ?_ ?_|refine cA (cP _) ?_ ?_|refine cG (λe=>cM _) ?_ ?_);exact flk;simp (disch:=omega) only[k4,go_sem])|(apply qa;exact rvk;simp only[go_sem];first|exact qi|apply qe)|(with_reducible first|intro _|apply aiA)|exact clz|fail
 ·cases bk with
  |false=>
   rw[Bool.false_and,ipo rfl]at hR;rw[hR];refine acO jo ?_;simp (disch:=omega) only[kA,tkC,hf,k1,k2,e2,e8,go_sem]
   repeat' first|(refine qz (cK _) ?_;simp (disch:=omega) only[go_sem])|(apply qa;exact rvk;simp only[go_sem];first|exact qi|apply qe)|(with_reducible first|intro _|apply aiA)|exact clz|fail
  |true=>
  rw[Bool.true_and]at hR
  by_cases g3:t.norm=t.text
  ·have k3:(t.norm=t.text)=True:=eqt g3;rw[dqt g3,ine (by simp)]at hR
   by_cases g4:t.line<0
   ·have k4:(t.line<0)=True:=eqt g4;rw[ipo g4]at hR;rw[hR];refine acO jo ?_;simp (disch:=omega) only[kA,tkC,hf,k1,k2,e2,e8,go_sem]
    repeat' first|(refine qz (cK _) ?_;simp (disch:=omega) only[k4,go_sem])|(refine qj ( .bool false) ?_;simp (disch:=omega) only[k4,go_sem])|(refine cA (cI _) flk ?_;simp (disch:=omega) only[k3,k4,go_sem])|(apply qa;exact rvk;simp only[go_sem];first|exact qi|apply qe)|(with_reducible first|intro _|apply aiA)|exact clz|fail
   have k4:(t.line<0)=False:=eqf g4;rw[ine g4]at hR;cases bp with
   |false=>
    rw[ipo (.inl rfl)]at hR;rw[hR];refine acO jo ?_;simp (disch:=omega) only[kA,tkC,hf,k1,k2,e2,e8,go_sem]
    repeat' first|(refine qz (cK _) ?_;simp (disch:=omega) only[k4,go_sem])|(refine qj ( .bool false) ?_;simp (disch:=omega) only[k4,go_sem])|((first|refine cA (cI _) ?_ ?_|refine cA (cP _) ?_ ?_);exact flk;simp (disch:=omega) only[k3,k4,go_sem])|(apply qa;exact rvk;simp only[go_sem];first|exact qi|apply qe)|(with_reducible first|intro _|apply aiA)|exact clz|fail
   |true=>
   cases bm with
   |false=>
    rw[ipo (.inr rfl)]at hR;rw[hR];refine acO jo ?_;simp (disch:=omega) only[kA,tkC,hf,k1,k2,e2,e8,go_sem]
    repeat' first|(refine qz (cK _) ?_;simp (disch:=omega) only[k4,go_sem])|(refine qj ( .bool false) ?_;simp (disch:=omega) only[k4,go_sem])|((first|refine cA (cI _) ?_ ?_|refine cA (cP _) ?_ ?_|refine cG (λe=>cM _) ?_ ?_);exact flk;simp (disch:=omega) only[k3,k4,go_sem])|(apply qa;exact rvk;simp only[go_sem];first|exact qi|apply qe)|(with_reducible first|intro _|apply aiA)|exact clz|fail
   |true=>
    rw[ine (by simp)]at hR;rw[hR];refine acO jo ?_;simp (disch:=omega) only[kA,tkC,hf,k1,k2,e2,e8,go_sem]
    repeat' first|(refine qz (cK _) ?_;simp (disch:=omega) only[k4,go_sem])|(refine qj ( .bool false) ?_;simp (disch:=omega) only[k4,go_sem])|((first|refine cA (cI _) ?_ ?_|refine cA (cP _) ?_ ?_|refine cG (λe=>cM _) ?_ ?_);exact flk;simp (disch:=omega) only[k3,k4,go_sem])|(apply qa;exact rvk;simp only[go_sem];first|exact qi|apply qe)|(with_reducible first|intro _|apply aiA)|exact clz|fail
  ·have k3:(t.norm=t.text)=False:=eqf g3;rw[dqf g3,ipo rfl]at hR;rw[hR];refine acO jo ?_;simp (disch:=omega) only[kA,tkC,hf,k1,k2,e2,e8,go_sem]
   repeat' first|(refine qz (cK _) ?_;simp (disch:=omega) only[go_sem])|(refine qj ( .bool false) ?_;simp (disch:=omega) only[go_sem])|(refine cA (cI _) flk ?_;simp (disch:=omega) only[k3,go_sem])|(apply qa;exact rvk;simp only[go_sem];first|exact qi|apply qe)|(with_reducible first|intro _|apply aiA)|exact clz|fail
 ·cases bg with
  |false=>
   rw[Bool.false_and,ipo rfl]at hR;rw[hR];refine acO jo ?_;simp (disch:=omega) only[kA,tkC,hf,k1,k2,e2,e8,go_sem]
   repeat' first|(refine qz (hG _) ?_;simp (disch:=omega) only[go_sem])|exact tF|(with_reducible first|intro _|apply aiA)|exact clz|fail
  |true=>
  rw[Bool.true_and]at hR
  by_cases g3:t.norm=t.text
  ·have k3:(t.norm=t.text)=True:=eqt g3;rw[dqt g3,ine (by simp)]at hR
   by_cases g4:t.line<0
   ·have k4:(t.line<0)=True:=eqt g4;rw[ipo g4]at hR;rw[hR];refine acO jo ?_;simp (disch:=omega) only[kA,tkC,hf,k1,k2,e2,e8,go_sem]
    repeat' first|(refine qz (hG _) ?_;simp (disch:=omega) only[k4,go_sem])|(refine qj ( .bool false) ?_;simp (disch:=omega) only[k4,go_sem])|(refine cA (cI _) flk ?_;simp (disch:=omega) only[k3,k4,go_sem])|exact tF|(with_reducible first|intro _|apply aiA)|exact clz|fail
   have k4:(t.line<0)=False:=eqf g4;rw[ine g4]at hR;cases bp with
   |false=>
    rw[ipo (.inl rfl)]at hR;rw[hR];refine acO jo ?_;simp (disch:=omega) only[kA,tkC,hf,k1,k2,e2,e8,go_sem]
    repeat' first|(refine qz (hG _) ?_;simp (disch:=omega) only[k4,go_sem])|(refine qj ( .bool false) ?_;simp (disch:=omega) only[k4,go_sem])|((first|refine cA (cI _) ?_ ?_|refine cA (cP _) ?_ ?_);exact flk;simp (disch:=omega) only[k3,k4,go_sem])|exact tF|(with_reducible first|intro _|apply aiA)|exact clz|fail
   |true=>
   cases bm with
   |false=>
    rw[ipo (.inr rfl)]at hR;rw[hR];refine acO jo ?_;simp (disch:=omega) only[kA,tkC,hf,k1,k2,e2,e8,go_sem]
    repeat' first|(refine qz (hG _) ?_;simp (disch:=omega) only[k4,go_sem])|(refine qj ( .bool false) ?_;simp (disch:=omega) only[k4,go_sem])|((first|refine cA (cI _) ?_ ?_|refine cA (cP _) ?_ ?_|refine cG (λe=>cM _) ?_ ?_);exact flk;simp (disch:=omega) only[k3,k4,go_sem])|exact tF|(with_reducible first|intro _|apply aiA)|exact clz|fail
   |true=>
    rw[ine (by simp)]at hR;rw[hR];refine acO jo ?_;simp (disch:=omega) only[kA,tkC,hf,k1,k2,e2,e8,go_sem]
    repeat' first|(refine qz (hG _) ?_;simp (disch:=omega) only[k4,go_sem])|(refine qj ( .bool false) ?_;simp (disch:=omega) only[k4,go_sem])|((first|refine cA (cI _) ?_ ?_|refine cA (cP _) ?_ ?_|refine cG (λe=>cM _) ?_ ?_);exact flk;simp (disch:=omega) only[k3,k4,go_sem])|exact tF|(with_reducible first|intro _|apply aiA)|exact clz|fail
  ·have k3:(t.norm=t.text)=False:=eqf g3;rw[dqf g3,ipo rfl]at hR;rw[hR];refine acO jo ?_;simp (disch:=omega) only[kA,tkC,hf,k1,k2,e2,e8,go_sem]
   repeat' first|(refine qz (hG _) ?_;simp (disch:=omega) only[go_sem])|(refine qj ( .bool false) ?_;simp (disch:=omega) only[go_sem])|(refine cA (cI _) flk ?_;simp (disch:=omega) only[k3,go_sem])|exact tF|(with_reducible first|intro _|apply aiA)|exact clz|fail
 ·rw[hR];refine acO jo ?_;simp (disch:=omega) only[kA,tkC,hf,k1,k2,e2,e8,go_sem]
  repeat' first|exact tF|(with_reducible first|intro _|apply aiA)|exact clz|fail
end RC
end
section
open Go Go.Proofs AF
def kY:List Nat:= []
theorem Gp:qK Tryz.prog 14 9 0 [RV.tmp 4] (cCT 65):=fi Tryz.f14 [] kY []
theorem OA:qK Tryz.prog 77 9 0 [RV.tmp 4] (cCT 154):=fi Tryz.f77 [] kY []
theorem Gu:qK Tryz.prog 154 19 0 [RV.tmp 4] (cIF 7 (some 7)):=fi Tryz.f154 [] kY []
theorem Ac:qK Tryz.prog 91 19 0 [RV.tmp 4] (cIF 2 (some 2)):=fi Tryz.f91 [] kY []
theorem Aa:qK Tryz.prog 65 19 0 [RV.tmp 4] (cIF 3 (some 3)):=fi Tryz.f65 [] kY []
theorem W8:qK Tryz.prog 183 9 0 [RV.tmp 4] (cCT 255):=fi Tryz.f183 [] kY []
theorem Xd:qK Tryz.prog 255 19 0 [RV.tmp 4] (cIF 6 (some 6)):=fi Tryz.f255 [] kY []
theorem G5:qK Tryz.prog 261 9 0 [RV.tmp 4] (cCT 310):=fi Tryz.f261 [] kY []
def Yp:C:=
 (pk [MC 6 (.bool false)] ((pk [MV 10 0,O1 11 .len 10,MV 12 1,O1 13 .len 12,BI 14 .neq 11 13] (p7 14 (p9 [MC 6 (.bool false)]))).seq ((pk [MV 15 0,O1 16 .len 15,oF 17 0] (C.block
 0 (pk [BI 18 .lss 17 16] ((p8 18 0).seq ((C.block 1 (pk [MV 19 17,O2 20 (.idxA 2) 15 17,O1 21 (.load (some 2)) 20,⟨some 8,none,.alloc 0 152 [.nl,.nl],[]⟩,MV 7 19,ST 2 8 21] (pk
 [MV 22 1,MV 23 7,O2 24 (.idxA 2) 22 23,O1 25 (.load (some 2)) 24,⟨some 9,none,.alloc 1 152 [.nl,.nl],[]⟩,ST 2 9 25] (pk [MV 26 2,O1 27 (.load (some 2)) 8,O1 28 (.load (some 2))
 9,ON 29 .callv [.t 26,.t 27,.t 28],O1 30 (.un UnOp.not) 29] (p7 30 (p9 [MC 6 (.bool false)])))))).seq (rv [oT 31 .add 17 1,MV 17 31])))).loop)).seq (p9 [MC 6 (.bool true)]))))
theorem Xh:qK Tryz.prog 291 32 2 [RV.tmp 6] Yp:=fi Tryz.f291 [8,9] kY []
theorem Hn:qK Tryz.prog 310 19 0 [RV.tmp 4] (cIF 1 none):=fi Tryz.f310 [] kY []
end
section
open Go Go.Proofs AF HY LN
namespace RC
structure yv (x:Co):Prop where
 sc:x.sec.length<=1000000000
 sg:x.sig.length<=1000000000
 ss: ∀i,(x.sig.getD i []).length<=1000000000
 tk:x.tok.length<=1000000000
 tl: ∀i,(x.tok.getD i []).length<=1000000000
 te: ∀i j,WM ((x.tok.getD i []).getD j default)
 cl:x.col.length<=1000000000
 ce: ∀i,(x.col.getD i []).length<=1000000000
theorem PE(s:Str)(h:JN)(hs:s.length<=1000000000):ACalls Tryz.prog 182 [.str s] h (.bool (VY s)) h:=by
 have c1:=λh=>FM s h hs
 unfold VY;cases g:ir s with
 |true=>
  rw[g]at c1;simp only[if_true]at c1;have c2:=λh=>t44 (s.take (s.length-1)) h (by simp;omega)
  rw[ipo rfl];cases g2:vf (s.take (s.length-1))with
  |true=>
   rw[g2]at c2;have k7:decide ((s.length:Int)<=16)=decide (s.length<=16):=decide_eq_decide.2 oma;refine acO ll ?_;simp (disch:=omega) only[rE,go_sem]
   repeat' first|((first|refine cA (c1 _) ?_ ?_|refine cA (c2 _) ?_ ?_);exact flk;simp (disch:=omega) only[k7,go_sem])|exact tS|with_reducible apply aiA|exact clz|fail
  |false=>
   rw[g2]at c2;refine acO ll ?_;simp (disch:=omega) only[rE,go_sem]
   repeat' first|((first|refine cA (c1 _) ?_ ?_|refine cA (c2 _) ?_ ?_);exact flk;simp (disch:=omega) only[go_sem])|exact tS|with_reducible apply aiA|exact clz|fail
 |false=>
  rw[g]at c1;rw[ine (by simp)]at c1 ⊢;have c2:=λh=>t44 s h hs
  cases g2:vf s with
  |true=>
   rw[g2]at c2;refine acO ll ?_;simp (disch:=omega) only[rE,go_sem]
   repeat' first|((first|refine cA (c1 _) ?_ ?_|refine cA (c2 _) ?_ ?_);exact flk;simp (disch:=omega) only[go_sem])|exact tS|with_reducible apply aiA|exact clz|fail
  |false=>
   rw[g2]at c2;refine acO ll ?_;simp (disch:=omega) only[rE,go_sem]
   repeat' first|((first|refine cA (c1 _) ?_ ?_|refine cA (c2 _) ?_ ?_);exact flk;simp (disch:=omega) only[go_sem])|exact tS|with_reducible apply aiA|exact clz|fail
theorem TU(t:Tk)(h:JN)(hz:WM t)(hp:kM SG h):ACalls Tryz.prog 184 [.agg (tkC t)] h (.bool (!decide (tkE t=0))) h:=by
 have c1:=λl=>tkP t (h++l) hz (hp.app l)
 obtain⟨e,he⟩:=Qt (tkE t)
 rw[<-he]at c1 ⊢;unfold tkC at c1;refine acO Gy ?_;simp (disch:=omega) only[Ej,tkC,go_sem]
 repeat' first|(refine cA (c1 _) flk ?_;simp (disch:=omega) only[go_sem])|exact tF|fail
theorem SB(l:List Tk)(h:JN)(hl:l.length<=1000000000)(hz: ∀j,WM (l.getD j default))(hp:kM SG h):
  ACalls Tryz.prog 183 [zR l,.fn (.func 184) [] []] h (.bool (jm (λj=> !decide (tkE (l.getD j default)=0)) l.length)) h:=by
 unfold zR;refine W4 W8 ⟨rfl,rfl⟩ ⟨rfl,rfl⟩ (y4 Xd l.length (λj=>tkC (l.getD j default)) (λj=> .agg (tkC (l.getD j default))) _ [] [] _ h (λi _=>⟨rfl,by simp[jK,tkC],rfl,rfl,rfl⟩) (λi _=> ?_) oma);exact TU _ h (hz i) hp
theorem TV(x:Co)(h:JN)(hz:yv x)(hp:kM SG h):ACalls Tryz.prog 111 [.str x.sec,strs x.sig,qm x.tok] h (.int .i64 (srE x)) h:=by
 obtain⟨R,hR⟩:=Qt (srE x)
 rw[<-hR];unfold srE at hR;have z1:=hz.sg;have z2:=hz.tk;have cN:=λh=>t44 x.sec h hz.sc
 cases g0:vf x.sec with
 |false=>
  rw[g0]at cN;rw[ipo g0]at hR;rw[hR];refine acO lh ?_;simp (disch:=omega) only[rA,strs,qm,go_sem]
  repeat' first|(refine cA (cN _) flk ?_;simp (disch:=omega) only[go_sem])|exact tS|fail
 |true=>
 rw[g0]at cN;rw[ine (by rw[g0];simp)]at hR
 by_cases g1:x.sig.length=0
 ·have k1:((x.sig.length:Int)=0)=True:=eqt oma;rw[ipo g1]at hR;rw[hR];refine acO lh ?_;simp (disch:=omega) only[rA,strs,qm,go_sem]
  repeat' first|(refine cA (cN _) flk ?_;simp (disch:=omega) only[k1,go_sem])|exact tS|fail
 have k1:((x.sig.length:Int)=0)=False:=eqf oma;rw[ine g1]at hR
 by_cases g2:32<x.sig.length
 ·have k2:((32:Int)<x.sig.length)=True:=eqt oma;rw[ipo g2]at hR;rw[hR];refine acO lh ?_;simp (disch:=omega) only[rA,strs,qm,go_sem]
  repeat' first|(refine cA (cN _) flk ?_;simp (disch:=omega) only[k1,k2,go_sem])|exact tS|fail
 have k2:((32:Int)<x.sig.length)=False:=eqf oma;rw[ine g2]at hR;refine acO lh ?_;simp (disch:=omega) only[rA,strs,qm,go_sem]
 repeat' first|(refine cA (cN _) flk ?_;simp (disch:=omega) only[k1,k2,go_sem])
 refine qr (T:=λi:Nat=>qY 56 [(1,strs x.sig),(2,qm x.tok),(23,strs x.sig),(24,.int .i64 x.sig.length),(25,.int .i64 i)]) (H:=λ_=>h) (inv:=λi=>i<=x.sig.length∧ ∀j,j<i->jB x.sig j=0) (m:=λi=>x.sig.length-i) 0 ⟨nzl _,λj hj=>by omega⟩ (Wk.temps ?_) ?_
 ·(simp only[strs,qm,go_sem,qg,qc,qb,qf];try exact tT)
 rintro i ⟨i1,i2⟩ K hK
 by_cases hi:i<x.sig.length
 ·have k3:((i:Int)<x.sig.length)=True:=eqt oma;have k4:((i:Int)<=x.sig.length)=True:=eqt oma;have hE:=kN (f:=jB x.sig) hi i2;have hs:jB x.sig i=if VY (x.sig.getD i [])=false then 14 else if jm (λj=>decide (x.sig.getD i []=x.sig.getD j [])) i=true then 7 else 0:=rfl
  have c87:=λh=>PE (x.sig.getD i []) h (hz.ss i)
  have c88:=λh=>N1 i (λj=>x.sig.getD j []) (x.sig.getD i []) h oma
  obtain⟨s,hsx⟩:=Qt (x.sig.getD i [])
  have es:=hsx.symm;rw[es]at hs c87;simp only[es]at hs c88;cases g3:VY s with
  |false=>
   rw[g3]at c87;rw[ipo g3]at hs;have hne:we (jB x.sig) 0 x.sig.length≠0:=by rw[hE (by rw[hs];decide),hs];decide
   have hV:R=14:=by rw[hR,ipo hne,hE (by rw[hs];decide),hs]
   rw[hV];simp (disch:=omega) only[strs,qm,k3,es,go_sem]
   repeat' first|(refine cA (c87 _) flk ?_;simp (disch:=omega) only[k4,go_sem])|exact tS|with_reducible apply aiA|exact clz|fail
  |true=>
  rw[g3]at c87;rw[ine (by rw[g3];simp)]at hs;cases g4:jm (λj=>decide (s=x.sig.getD j [])) i with
  |true=>
   rw[g4]at c88;rw[ipo g4]at hs;have hne:we (jB x.sig) 0 x.sig.length≠0:=by rw[hE (by rw[hs];decide),hs];decide
   have hV:R=7:=by rw[hR,ipo hne,hE (by rw[hs];decide),hs]
   rw[hV];simp (disch:=omega) only[strs,qm,k3,es,go_sem]
   repeat' first|((first|refine cA (c87 _) ?_ ?_|refine cA (c88 _) ?_ ?_);exact flk;simp (disch:=omega) only[k4,Nat.sub_zero,go_sem])|exact tS|with_reducible apply aiA|exact clz|fail
  |false=>
   rw[g4]at c88;rw[ine (by rw[g4];simp)]at hs;simp (disch:=omega) only[strs,qm,k3,es,go_sem]
   repeat' first|((first|refine cA (c87 _) ?_ ?_|refine cA (c88 _) ?_ ?_);exact flk;simp (disch:=omega) only[k4,Nat.sub_zero,go_sem])|with_reducible apply aiA|exact clz|fail
   refine hK _ _ (i+1) ⟨hi,λj hj=> ?_⟩ oma (Wk.temps ?_)
   ·by_cases e:j=i
    ·subst e;exact hs
    ·exact i2 j oma
   ·(simp only[strs,qm,go_sem,qg,qc,qb,qf];try exact tT)
 have k3:((i:Int)<x.sig.length)=False:=eqf oma;have hn0:=zZ (f:=jB x.sig) (λj (hj:j<x.sig.length)=>i2 j oma);rw[ine (λhc=>hc hn0)]at hR
 by_cases g5:x.tok.length=x.sig.length
 case neg=>
  have k5:((x.tok.length:Int)=x.sig.length)=False:=eqf oma;rw[ipo g5]at hR;rw[hR];simp (disch:=omega) only[strs,qm,k3,k5,go_sem]
  repeat' first|exact tS|fail
 have k5:((x.tok.length:Int)=x.sig.length)=True:=eqt oma;rw[ine (λhc=>hc g5)]at hR;clear hK;simp (disch:=omega) only[strs,qm,k3,k5,go_sem];obtain⟨rw0,hrw⟩: ∃f:Nat->Int,f=λi=>cQ (x.tok.getD i []):=⟨_,rfl⟩
 have er: ∀i,rw0 i=cQ (x.tok.getD i []):=λi=>by rw[hrw]
 rw[<-hrw]at hR;refine qr (T:=λi:Nat=>qY 56 [(44,qm x.tok),(45,.int .i64 x.tok.length),(46,.int .i64 i)]) (H:=λ_=>h) (inv:=λi=>i<=x.tok.length∧ ∀j,j<i->rw0 j=0) (m:=λi=>x.tok.length-i) 0 ⟨nzl _,λj hj=>by omega⟩ (Wk.temps ?_) ?_
 ·(simp only[qm,go_sem,qg,qc,qb,qf];try exact tT)
 rintro i ⟨i1,i2⟩ K hK
 by_cases hi:i<x.tok.length
 ·have k6:((i:Int)<x.tok.length)=True:=eqt oma;have hE:=kN (f:=rw0) hi i2;have hs:=er i;have zl:=hz.tl i;have zt:=hz.te i;obtain⟨l,hl⟩:=Qt (x.tok.getD i [])
  have el:=hl.symm;rw[el]at hs zl;simp only[el]at zt;unfold cQ at hs
  by_cases g6:1024<l.length
  ·have k7:((1024:Int)<l.length)=True:=eqt oma;rw[ipo g6]at hs;have hV:R=4:=by rw[hR,hE (by rw[hs];decide),hs]
   rw[hV];simp (disch:=omega) only[qm,zR,k6,k7,el,go_sem]
   repeat' first|exact tS|with_reducible apply aiA|exact clz|fail
  have k7:((1024:Int)<l.length)=False:=eqf oma;rw[ine g6]at hs;have cT:=SB l h zl zt hp;have eA:jm (λj=>decide (tkE (l.getD j default)≠0)) l.length=jm (λj=> !decide (tkE (l.getD j default)=0)) l.length:=mB λj _=>by simp
  rw[eA]at hs;unfold zR at cT;obtain⟨b,hb⟩:=Qt (jm (λj=> !decide (tkE (l.getD j default)=0)) l.length)
  rw[<-hb]at hs cT;cases b with
  |true=>
   rw[ipo rfl]at hs;have hV:R=1:=by rw[hR,hE (by rw[hs];decide),hs]
   rw[hV];simp (disch:=omega) only[qm,zR,k6,k7,el,go_sem]
   repeat' first|(refine cA (cT) flk ?_;simp (disch:=omega) only[go_sem])|exact tS|with_reducible apply aiA|exact clz|fail
  |false=>
   rw[ine (by simp)]at hs;simp (disch:=omega) only[qm,zR,k6,k7,el,go_sem]
   repeat' first|(refine cA (cT) flk ?_;simp (disch:=omega) only[go_sem])|with_reducible apply aiA|exact clz|fail
   refine hK _ _ (i+1) ⟨hi,λj hj=> ?_⟩ oma (Wk.temps ?_)
   ·by_cases e:j=i
    ·subst e;exact hs
    ·exact i2 j oma
   ·(simp only[qm,zR,go_sem,qg,qc,qb,qf];try exact tT)
 ·have k6:((i:Int)<x.tok.length)=False:=eqf oma;rw[zZ (λj (hj:j<x.tok.length)=>i2 j oma)]at hR;rw[hR];simp (disch:=omega) only[qm,k6,go_sem]
  repeat' first|exact tS|fail
theorem TA(l:List Tk)(h:JN):ACalls Tryz.prog 262 [zR l] h (.bool (decide (1024<l.length))) h:=by
 have k:decide ((1024:Int)<l.length)=decide (1024<l.length):=decide_eq_decide.2 oma;refine acO G6 ?_;simp (disch:=omega) only[EN,zR,go_sem]
 repeat' first|(apply qh;exact rvk;simp only[go_sem];apply qd)|exact clz|fail
theorem TB(L:List (List Tk))(h:JN)(h1:0<L.length)(h2:L.length<=32)(h3: ∀s,s<L.length->(L.getD s []).length<=1024):ACalls Tryz.prog 186 [qm L] h (.int .i64 0) h:=by
 have k1:((L.length:Int)=0)=False:=eqf oma;have k2:((32:Int)<L.length)=False:=eqf oma;have c: ∀h,ACalls Tryz.prog 261 [qm L,.fn (.func 262) [] []] h (.bool false) h:=λh=>by
  have e:jm (λj=>decide (1024<(L.getD j []).length)) L.length=false:=qq.2 λs hs=>dqf (by have:=h3 s hs;omega)
  rw[<-e];unfold qm;refine W4 G5 ⟨rfl,rfl⟩ ⟨rfl,rfl⟩ (y4 Hn L.length (λj=> [zR (L.getD j [])]) (λj=>zR (L.getD j [])) _ [] [] _ h (λi _=>⟨rfl,by simp[jK],rfl,rfl,rfl⟩) (λi _=> ?_) oma);exact TA _ h
 unfold qm at c;refine acO Gz ?_;simp (disch:=omega) only[Ek,qm,k1,k2,go_sem]
 repeat' first|(refine cG (λe=>c _) flk ?_;simp (disch:=omega) only[go_sem])|exact tS|fail
def gC(g:Nat->AV)(n:Nat):JT:=(List.range n).map g
theorem km(g:Nat->AV)(n:Nat):(gC g n).length=n:=by simp[gC]
theorem vS{g:Nat->AV}{n k:Nat}(hk:k<n):(gC g n)[k]? =some (g k):=by
 unfold gC;rw[List.getElem?_map,List.getElem?_range hk];rfl
theorem wg{p q:Nat->AV}{n:Nat}(h: ∀k,k<n->p k=q k):gC p n=gC q n:=by
 unfold gC;exact List.map_congr_left λk hk=>by rw[h k (List.mem_range.1 hk)]
theorem Xr{g:Nat->AV}{n u:Nat}(x:AV)(hu:u<n):List.take u (gC g n)++ [x]++List.drop (u+1) (gC g n)=gC (λk=>if k=u then x else g k) n:=by
 refine List.ext_getElem? λk=> ?_
 by_cases hk:k<n
 ·rw[vS hk]
  by_cases h1:k<u
  ·rw[List.append_assoc,List.getElem?_append_left (by rw[List.length_take,km];omega),List.getElem?_take_of_lt h1,vS hk,ine oma]
  ·by_cases h2:k=u
   ·subst h2;rw[List.append_assoc,List.getElem?_append_right (by rw[List.length_take,km];omega),List.length_take,km,show k-min k n=0 by omega,ipo rfl];rfl
   ·rw[List.getElem?_append_right (by rw[lap,List.length_take,km];simp only[lco,lnl];omega),lap,List.length_take,km,List.getElem?_drop];simp only[lco,lnl];rw[show u+1+(k-(min u n+(0+1)))=k by omega,vS hk,ine h2]
 ·rw[List.getElem?_eq_none (by simp only[lap,List.length_take,List.length_drop,km,lco,lnl];omega),List.getElem?_eq_none (by rw[km];omega)]
theorem gy(z:AV)(n:Nat):zQ [z] n=gC (λ_=>z) n:=by
 induction n with
 |zero=>rfl
 |succ n ih=>
  have e:gC (λ_=>z) (n+1)=z::gC (λ_=>z) n:=by
   unfold gC;rw[List.range_succ_eq_map,List.map_cons,List.map_map];rfl
  rw[e,<-ih];rfl
section
variable {tok : List (List Tk)} {col : List (List Int)} {i s : Nat}
theorem sk(h:(col.getD i []).length≠tok.length):dP tok col i=false:=by unfold dP;rw[dqf h,Bool.false_and]
theorem WZ(hs:s<tok.length)(h:enB tok col i s=false):dP tok col i=false:=by
 unfold dP;rw[qP.2 ⟨s,hs,by rw[h];rfl⟩];simp
theorem W2(h1:(col.getD i []).length=tok.length)(h2: ∀s,s<tok.length->enB tok col i s=true):dP tok col i=jm (λs=> !decide ((col.getD i []).getD s 0= -1)) tok.length:=by
 unfold dP;rw[dqt h1,qq.2 (λs hs=>by rw[h2 s hs];rfl)];simp
theorem DD(hi:i<col.length)(h:dP tok col i=false):alB tok col=false:=by
 unfold alB;rw[qP.2 ⟨i,hi,by rw[h];rfl⟩];simp
theorem WO(hs:s<tok.length)(h:cnC col s col.length≠(tok.getD s []).length):alB tok col=false:=by
 unfold alB;rw[qP.2 ⟨s,hs,by rw[dqf h];rfl⟩,Bool.not_true,Bool.and_false]
theorem WP(h1: ∀i,i<col.length->dP tok col i=true)(h2: ∀s,s<tok.length->cnC col s col.length=(tok.getD s []).length):alB tok col=true:=by
 unfold alB;rw[qq.2 (λi hi=>by rw[h1 i hi];rfl),qq.2 (λs hs=>by rw[dqt (h2 s hs)];rfl)];rfl
theorem WY: ∀i,cnC col s i<=i:=by
 intro i
 induction i with
 |zero=>exact nlr _
 |succ i ih=>unfold cnC;split<;>omega
def atA(col:List (List Int))(i s k:Nat):AV:= .int .i64 ((if k<s then cnC col k (i+1) else cnC col k i:Nat):Int)
theorem WR:atA col i s s= .int .i64 (cnC col s i:Int):=by unfold atA;rw[ine (Nat.lt_irrefl _)]
theorem DL(n:Nat):gC (atA col 0 0) n=gC (λ_=> .int .i64 0) n:=wg λk _=>by unfold atA;rw[ine (nnz _)];rfl
theorem po(n:Nat):gC (atA col i n) n=gC (atA col (i+1) 0) n:=wg λk hk=>by unfold atA;rw[ipo hk,ine (nnz _)]
theorem iP{n:Nat}(h:(col.getD i []).getD s 0= -1):gC (atA col i s) n=gC (atA col i (s+1)) n:=wg λk hk=>by
 unfold atA
 by_cases e:k=s
 ·subst e;rw[ine (Nat.lt_irrefl _),ipo (Nat.lt_succ_self _)];show _=AV.int .i64 ((cnC col k i+if (col.getD i []).getD k 0= -1 then 0 else 1:Nat):Int);rw[ipo h];rfl
 ·by_cases h1:k<s
  ·rw[ipo h1,ipo oma]
  ·rw[ine h1,ine oma]
theorem iQ{n:Nat}(hs:s<n)(h:(col.getD i []).getD s 0≠ -1):List.take s (gC (atA col i s) n)++ [.int .i64 ((cnC col s i:Int)+1)]++List.drop (s+1) (gC (atA col i s) n)=gC (atA col i (s+1)) n:=by
 rw[Xr _ hs];refine wg λk hk=> ?_
 unfold atA
 by_cases e:k=s
 ·subst e;rw[ipo rfl,ipo (Nat.lt_succ_self _)];show _=AV.int .i64 ((cnC col k i+if (col.getD i []).getD k 0= -1 then 0 else 1:Nat):Int);rw[ine h];rfl
 ·rw[ine e]
  by_cases h1:k<s
  ·rw[ipo h1,ipo oma]
  ·rw[ine h1,ine oma]
theorem dC(p:Nat->Bool)(n:Nat):jm p (n+1)=(jm p n||p n):=by
 cases e:jm p n with
 |true=>obtain⟨i,h1,h2⟩:=qP.1 e;exact qP.2 ⟨i,oma,h2⟩
 |false=>
  have h:=qq.1 e;cases e2:p n with
  |true=>exact qP.2 ⟨n,oma,e2⟩
  |false=>
   refine qq.2 λi hi=> ?_
   by_cases g:i=n
   ·subst g;exact e2
   ·exact h i oma
end
theorem Sj(tok:List (List Tk))(col:List (List Int))(h:JN)(hn:tok.length<=1000000000)(hc:col.length<=1000000000)(hl: ∀s,(tok.getD s []).length<=1000000000)(hm: ∀i,(col.getD i []).length<=1000000000):
  ACalls Tryz.prog 187 [qm tok,qn col] h (.bool (alB tok col)) h:=by
 have k0:(0<=(tok.length:Int))=True:=eqt oma;have k1:((tok.length:Int)<=9223372036854775807)=True:=eqt oma;obtain⟨R,hR⟩:=Qt (alB tok col)
 rw[<-hR];refine acO GE ?_;simp (disch:=omega) only[Em,qm,qn,k0,go_sem]
 repeat' first|with_reducible apply aiA|exact clz|fail
 all_goals try rw[itn]
 rw[gy,<-DL (col:=col)];refine qr (T:=λi:Nat=>qY 76 [(0,qm tok),(5,.osl h.length 1 1 0 tok.length),(15,qn col),(16,.int .i64 col.length),(17,.int .i64 i)])
  (H:=λi=>h++ [.mem 1 3 (gC (atA col i 0) tok.length)])
  (inv:=λi=>i<=col.length∧ ∀j,j<i->dP tok col j=true) (m:=λi=>col.length-i) 0 ⟨nzl _,λj hj=>absurd hj (nnz j)⟩ (Wk.temps ?_) ?_
 ·(simp only[qm,qn,go_sem,qg,qc,qb,qf];try exact tT)
 rintro i ⟨i1,i2⟩ K hK
 by_cases hi:i<col.length
 ·have k2:((i:Int)<col.length)=True:=eqt oma;have hno:dP tok col i=false->R=false:=λhx=>by rw[hR];exact DD hi hx
  have hlen:= @sk tok col i;have hen:= @WZ tok col i;have heq:= @W2 tok col i;have hskip:= @iP col i;have hstep:= @iQ col i;have hmi:=hm i;have hE: ∀s,enB tok col i s=(decide ((col.getD i []).getD s 0= -1)||(decide ((col.getD i []).getD s 0=(cnC col s i:Int))&&decide ((col.getD i []).getD s 0<((tok.getD s []).length:Int)))):=λ_=>rfl
  obtain⟨c,hcx⟩:=Qt (col.getD i [])
  have ec:=hcx.symm;rw[ec]at hlen heq hmi;simp only[ec]at hskip hstep hE
  by_cases g1:c.length=tok.length
  case neg=>
   have k3:((c.length:Int)=tok.length)=False:=eqf oma;rw[hno (hlen g1)];simp (disch:=omega) only[qm,qn,qx,k2,k3,ec,go_sem]
   repeat' first|exact tF|with_reducible apply aiA|exact clz|fail
  have k3:((c.length:Int)=tok.length)=True:=eqt oma;have heq:=heq g1;simp (disch:=omega) only[qm,qn,qx,k2,k3,ec,go_sem]
  repeat' first|with_reducible apply aiA|exact clz|fail
  refine qr (T:=λs:Nat=>qY 76 [(0,qm tok),(5,.osl h.length 1 1 0 tok.length),(8,.bool (jm (λs=> !decide (c.getD s 0= -1)) s)),(15,qn col),(16,.int .i64 col.length),(17,.int .i64 i),(26,qx c),(27,.int .i64 c.length),(28,.int .i64 s)])
   (H:=λs=>h++ [.mem 1 3 (gC (atA col i s) tok.length)])
   (inv:=λs=>s<=c.length∧ ∀j,j<s->enB tok col i j=true) (m:=λs=>c.length-s) 0 ⟨nzl _,λj hj=>absurd hj (nnz j)⟩ (Wk.temps ?_) ?_
  ·(simp only[qm,qn,qx,go_sem,qg,qc,qb,qf];try exact tT)
  rintro s ⟨s1,s2⟩ K2 hK2
  by_cases hs:s<c.length
  ·have t1:((s:Int)<c.length)=True:=eqt oma;have t0:(0<=(s:Int))=True:=eqt oma;have hsn:s<tok.length:=by omega
   have t2:((s:Int)<tok.length)=True:=eqt oma;have t3:(s<tok.length)=True:=eqt hsn;have t4:(s+1<=tok.length)=True:=eqt hsn;have gl:=km (atA col i s) tok.length;have gg:=vS (g:=atA col i s) hsn;rw[WR]at gg;have hsk:=hskip (s:=s) (n:=tok.length);have hst:=hstep (s:=s) hsn;have hcn:= @WY col s i;have hlt:=hl s;have hEs:=hE s;have hap:=dC (λs=> !decide (c.getD s 0= -1)) s;obtain⟨t,ht⟩:=Qt (c.getD s 0)
   obtain⟨l,hlx⟩:=Qt (tok.getD s [])
   have et:=ht.symm;have el:=hlx.symm;rw[et]at hsk hst hEs;rw[el]at hEs hlt;simp only[et]at hap;obtain⟨a,ha⟩:=Qt (jm (λs=> !decide (c.getD s 0= -1)) s)
   have ea:=ha.symm;rw[ea]at hap;obtain⟨q,hq⟩: ∃q:Nat,q=cnC col s i:=⟨_,rfl⟩
   have eq:=hq.symm;rw[eq]at hst hEs hcn gg;have b2:((q:Int)+1<=9223372036854775807)=True:=eqt oma;have b3:(-9223372036854775808<=(q:Int)+1)=True:=eqt oma
   by_cases g2:t= -1
   ·have k4:(t= -1)=True:=eqt g2;rw[dqt g2,Bool.true_or]at hEs;have hap':jm (λs=> !decide (c.getD s 0= -1)) (s+1)=a:=by rw[hap,dqt g2];simp
    simp (disch:=omega) only[qm,qn,qx,t0,t1,t2,t3,k4,et,ea,gl,gg,Nat.mul_one,Nat.zero_add,go_sem]
    repeat' first|with_reducible apply aiA|exact clz|fail
    rw[hsk g2];refine hK2 _ _ (s+1) ⟨hs,λj hj=> ?_⟩ oma (Wk.temps ?_)
    ·by_cases e:j=s
     ·subst e;exact hEs
     ·exact s2 j oma
    ·rw[hap']
     (simp only[qm,qn,qx,go_sem,qg,qc,qb,qf];try exact tT)
   have k4:(t= -1)=False:=eqf g2;rw[dqf g2,Bool.false_or]at hEs;have hap':jm (λs=> !decide (c.getD s 0= -1)) (s+1)=true:=by rw[hap,dqf g2];simp
   by_cases g3:t=(q:Int)
   case neg=>
    have k5:(t=(q:Int))=False:=eqf g3;rw[dqf g3,Bool.false_and]at hEs;rw[hno (hen hsn hEs)];simp (disch:=omega) only[qm,qn,qx,t0,t1,t2,t3,t4,k4,k5,et,ea,gl,gg,Nat.mul_one,Nat.zero_add,go_sem]
    repeat' first|exact tF|with_reducible apply aiA|exact clz|fail
   have k5:(t=(q:Int))=True:=eqt g3;rw[dqt g3,Bool.true_and]at hEs
   by_cases g4:(l.length:Int)<=t
   ·have k6:((l.length:Int)<=t)=True:=eqt g4;rw[dqf oma]at hEs;rw[hno (hen hsn hEs)];simp (disch:=omega) only[qm,zR,qn,qx,t0,t1,t2,t3,t4,k4,k5,k6,et,ea,el,gl,gg,Nat.mul_one,Nat.zero_add,go_sem]
    repeat' first|exact tF|with_reducible apply aiA|exact clz|fail
   ·have k6:((l.length:Int)<=t)=False:=eqf g4;rw[dqt oma]at hEs;have hst:=hst g2;simp (disch:=omega) only[qm,zR,qn,qx,t0,t1,t2,t3,t4,k4,k5,k6,et,ea,el,gl,gg,hst,Nat.mul_one,Nat.zero_add,Option.isSome_some,go_sem]
    repeat' first|with_reducible apply aiA|exact clz|fail
    try rw[hst]
    refine hK2 _ _ (s+1) ⟨hs,λj hj=> ?_⟩ oma (Wk.temps ?_)
    ·by_cases e:j=s
     ·subst e;exact hEs
     ·exact s2 j oma
    ·rw[hap']
     (simp only[qm,zR,qn,qx,go_sem,qg,qc,qb,qf];try exact tT)
  ·have t1:((s:Int)<c.length)=False:=eqf oma;have es:s=tok.length:=by omega
   have heq:=heq λj hj=>s2 j oma
   rw[<-es]at heq;rw[es]at*;cases ga:jm (λs=> !decide (c.getD s 0= -1)) tok.length with
   |false=>
    rw[ga]at heq;rw[hno heq];simp (disch:=omega) only[qm,qn,qx,go_sem]
    repeat' first|exact tF|(with_reducible first|intro _|apply aiA)|exact clz|fail
   |true=>
    rw[ga]at heq;simp (disch:=omega) only[qm,qn,qx,go_sem]
    repeat' first|(with_reducible first|intro _|apply aiA)|exact clz|fail
    rw[po];refine hK _ _ (i+1) ⟨hi,λj hj=> ?_⟩ oma (Wk.temps ?_)
    ·by_cases e:j=i
     ·subst e;exact heq
     ·exact i2 j oma
    ·(simp only[qm,qn,qx,go_sem,qg,qc,qb,qf];try exact tT)
 have k2:((i:Int)<col.length)=False:=eqf oma;obtain rfl:i=col.length:=by omega
 clear hK;simp (disch:=omega) only[qm,qn,k2,go_sem];refine qr (T:=λs:Nat=>qY 76 [(0,qm tok),(5,.osl h.length 1 1 0 tok.length),(61,.int .i64 tok.length),(62,.int .i64 s)])
  (H:=λ_=>h++ [.mem 1 3 (gC (atA col col.length 0) tok.length)])
  (inv:=λs=>s<=tok.length∧ ∀j,j<s->cnC col j col.length=(tok.getD j []).length) (m:=λs=>tok.length-s) 0 ⟨nzl _,λj hj=>absurd hj (nnz j)⟩ (Wk.temps ?_) ?_
 ·(simp only[qm,go_sem,qg,qc,qb,qf];try exact tT)
 rintro s ⟨s1,s2⟩ K hK
 by_cases hs:s<tok.length
 ·have t1:((s:Int)<tok.length)=True:=eqt oma;have t0:(0<=(s:Int))=True:=eqt oma;have t3:(s<tok.length)=True:=eqt hs;have t4:(s+1<=tok.length)=True:=eqt hs;have gl:=km (atA col col.length 0) tok.length;have gg:=vS (g:=atA col col.length 0) hs;have e0:atA col col.length 0 s= .int .i64 (cnC col s col.length:Int):=by unfold atA;rw[ine (nnz _)]
  rw[e0]at gg;have hno:= @WO tok col s hs;obtain⟨q,hq⟩: ∃q:Nat,q=cnC col s col.length:=⟨_,rfl⟩
  have eq:=hq.symm;have hs2:q=(tok.getD s []).length->cnC col s col.length=(tok.getD s []).length:=λe=>by rw[<-hq];exact e
  rw[eq]at gg hno;obtain⟨l,hlx⟩:=Qt (tok.getD s [])
  have el:=hlx.symm;rw[el]at hno hs2
  by_cases g:q=l.length
  ·have k5:((q:Int)=l.length)=True:=eqt oma;simp (disch:=omega) only[qm,zR,t0,t1,t3,k5,el,gl,gg,Nat.mul_one,Nat.zero_add,go_sem]
   repeat' first|with_reducible apply aiA|exact clz|fail
   refine hK _ _ (s+1) ⟨hs,λj hj=> ?_⟩ oma (Wk.temps ?_)
   ·by_cases e:j=s
    ·subst e;rw[el];exact hs2 g
    ·exact s2 j oma
   ·(simp only[qm,zR,go_sem,qg,qc,qb,qf];try exact tT)
  ·have k5:((q:Int)=l.length)=False:=eqf oma;rw[hR,hno g];simp (disch:=omega) only[qm,zR,t0,t1,t3,k5,el,gl,gg,Nat.mul_one,Nat.zero_add,go_sem]
   repeat' first|exact tF|with_reducible apply aiA|exact clz|fail
 ·have t1:((s:Int)<tok.length)=False:=eqf oma;rw[hR,WP i2 (λj hj=>s2 j oma)];simp (disch:=omega) only[qm,t1,go_sem]
  repeat' first|exact tF|fail
theorem Tz(tok:List (List Tk))(col:List (List Int))(h:JN)(h1:0<tok.length)(h2:tok.length<=32)(h3: ∀s,s<tok.length->(tok.getD s []).length<=1024)(hc:col.length<=1000000000)(hl: ∀s,(tok.getD s []).length<=1000000000)(hm: ∀i,(col.getD i []).length<=1000000000):
  ACalls Tryz.prog 112 [qm tok,qn col] h (.int .i64 (if alB tok col=true then 0 else 19)) h:=by
 have c1:=λh=>TB tok h h1 h2 h3
 have c2:=λh=>Sj tok col h oma hc hl hm
 cases g:alB tok col<;>rw[g]at c2
 all_goals
  refine acO F6 ?_;simp (disch:=omega) only[D1,go_sem]
  repeat' first|((first|refine cA (c1 _) ?_ ?_|refine cA (c2 _) ?_ ?_);exact flk;simp (disch:=omega) only[go_sem])|exact tS|fail
theorem XN{x:Co}(h:srE x=0):0<x.sig.length∧x.sig.length<=32∧x.tok.length=x.sig.length∧ ∀s,s<x.tok.length->(x.tok.getD s []).length<=1024:=by
 unfold srE at h;split at h
 ·cases h
 split at h
 ·cases h
 rename_i g2;split at h
 ·cases h
 rename_i g3;split at h
 ·rename_i g4;exact absurd h g4
 split at h
 ·cases h
 rename_i g5;have h3:=jr.1 h;refine⟨oma,oma,Classical.not_not.1 g5,λs hs=> ?_⟩
 have:=h3 s hs
 unfold cQ at this;split at this
 ·cases this
 ·omega
theorem coP(x:Co)(h:JN)(hz:yv x)(hp:kM SG h):ACalls Tryz.prog 47 [.agg (coC x)] h (.int .i64 (coE x)) h:=by
 have c1:=λl=>TV x (h++l) hz (hp.app l)
 unfold coE
 by_cases g:srE x=0
 case neg=>
  have k1:(srE x=0)=False:=eqf g;rw[ipo g];obtain⟨e,he⟩:=Qt (srE x)
  rw[<-he]at c1 k1 ⊢;unfold strs qm at c1;refine acO HM ?_;simp (disch:=omega) only[NB,coC,strs,qm,go_sem]
  repeat' first|(refine cA (c1 _) flk ?_;simp (disch:=omega) only[k1,go_sem])|exact tF|fail
 rw[ine (λhc=>hc g)];obtain⟨o1,o2,o3,o4⟩:=XN g;have c2:=λh=>Tz x.tok x.col h oma oma o4 hz.cl hz.tl hz.ce
 rw[g]at c1;unfold strs qm at c1;unfold qm qn at c2;cases g2:alB x.tok x.col<;>rw[g2]at c2
 all_goals
  refine acO HM ?_;simp (disch:=omega) only[NB,coC,strs,qm,qn,go_sem]
  repeat' first|((first|refine cA (c1 _) ?_ ?_|refine cA (c2 _) ?_ ?_);exact flk;simp (disch:=omega) only[go_sem])|(apply qa;exact rvk;simp only[go_sem];first|exact qi|apply qe)|(with_reducible first|intro _|apply aiA)|exact clz|fail
end RC
end
section
open Go Go.Proofs AF
def z8:List Nat:= []
def Yj:C:=
 (pk [O1 3 (.box 0 26) 0,MC 6 (.str []),MC 7 (.bool false)] (pk [oE 9 3 3,LD 10 9,MV 11 1,O2 12 (.idxA 1) 10 11,LD 13 12,MV 14 2,O2 15 (.idxA 1) 13 14,LD 16 15,MV 8 16] ((pk [MV
 17 8,oT 18 .lss 17 0] (p7 18 (p9 [MC 6 (.str []),MC 7 (.bool false)]))).seq (p9 [oE 19 2 3,LD 20 19,MV 21 2,O2 22 (.idxA 1) 20 21,LD 23 22,MV 24 8,O2 25 (.idxA 6) 23 24,oE 26 0
 25,LD 27 26,MV 6 27,MC 7 (.bool true)]))))
theorem Xa:qK Tryz.prog 215 28 1 [RV.tmp 6,RV.tmp 7] Yj:=fi Tryz.f215 [3] z8 []
def D4:C:=
 (pk [O1 2 (.box 0 26) 0,MC 4 (.bool false)] (pk [O1 11 (.load (some 4)) 2,MV 12 1,ON 13 (.call 215 true) [.t 11,.t 12,.c (i6 0)],MV 10 13,O1 14 (.ext 0) 10,O1 15 (.ext 1) 10,MV
 5 14,MV 6 15] ((pk [oE 16 1 2,LD 17 16,O1 18 .len 17,oF 19 0] (C.block 0 (pk [BI 20 .lss 19 18] ((p8 20 0).seq ((C.block 1 (pk [MV 21 19,MV 7 21] (pk [O1 23 (.load (some 4))
 2,MV 24 1,MV 25 7,ON 26 (.call 215 true) [.t 23,.t 24,.t 25],MV 22 26,O1 27 (.ext 0) 22,O1 28 (.ext 1) 22,MV 8 27,MV 9 28] (pk [MV 29 6,O1 30 (.un UnOp.not) 29,MV 31 30,pc 32
 31 9,oX 33 31 (.un UnOp.not) 32,PT 34 31 33,MV 35 34,pc 36 35 8,pc 37 35 5,pb 38 35 (.bin .neq) 36 37,PT 39 35 38] (p7 39 (p9 [MC 4 (.bool false)])))))).seq (rv [oT 40 .add 19
 1,MV 19 40])))).loop)).seq (p9 [MC 4 (.bool true)]))))
theorem Gf:qK Tryz.prog 140 41 1 [RV.tmp 4] D4:=fi Tryz.f140 [2] z8 []
def Rn:C:=
 (pk [O1 1 (.box 0 26) 0,MC 2 .nilfn] (p9 [O1 3 (.mkfn (Fn.func 139) 0) 1,MV 2 3]))
theorem Ou:qK Tryz.prog 62 4 1 [RV.tmp 2] Rn:=fi Tryz.f62 [1] z8 []
def D2:C:=
 (pk [oF 3 0] (C.block 0 ((pk [MV 5 3,oE 6 3 1,LD 7 6,O1 8 .len 7,BI 9 .lss 5 8] (p8 9 0)).seq (C.block 1 (pk [MV 10 3,MV 4 10] ((C.block 2 ((pk [MV 11 4,oE 12 3 1,LD 13 12,O1 14
 .len 13,BI 15 .lss 11 14,MV 16 15,P1 17 16 true (.load (some 4)) 1,MG 18 16 true 4,P2 19 16 true (.call 140 true) 17 18,P1 20 16 true (.un UnOp.not) 19,PF 21 16 20] (p8 21
 2)).seq (C.block 3 (sm 22 4))).loop).seq ((pk [MV 24 4,MV 25 3,BI 26 .gtr 24 25,MV 27 26,MG 28 27 true 0,MG 29 27 true 3,MG 30 27 true 4,PN 31 27 true .callv [.t 28,.t 29,.t
 30],P1 32 27 true (.un UnOp.not) 31,PF 33 27 32] (p7 33 C.ret)).seq (rv [MV 34 4,oT 35 .add 34 1,MV 3 35])))))).loop))
theorem Ge:qK Tryz.prog 139 36 0 [] D2:=fi Tryz.f139 [] z8 []
def D5:C:=
 (pk [O1 4 (.box 0 26) 0,ON 8 (.nilo 1 1 9) []] (pk [ON 9 (.nilo 2 1 9) []] ((pk [MV 13 1,MV 10 13] (C.block 0 ((pk [MV 14 10,MV 15 2,BI 16 .lss 14 15] (p8 16 0)).seq ((C.block 1
 (pk [O1 20 (.load (some 4)) 4,MV 21 10,MV 22 3,ON 23 (.call 215 true) [.t 20,.t 21,.t 22],MV 19 23,O1 24 (.ext 0) 19,O1 25 (.ext 1) 19,MV 11 24,MV 12 25] (pk [MV 26 12] (p7 26
 (rv [MV 27 9,MV 28 11,⟨some 29,none,.bslc 3 1 1 9 [.str []] [(0,1)],[.t 28]⟩,O2 30 (.app 4 1 9 16) 27 29,MV 9 30]))))).seq (sm 17 10))).loop)).seq (p9 [MV 31 9,MV 8 31]))))
theorem Gg:qK Tryz.prog 141 32 5 [RV.tmp 8] D5:=fi Tryz.f141 [4,8,9,29,30] z8 []
def D6:C:=
 (pk [O1 4 (.box 0 152) 1,O1 5 (.box 1 218) 2,oF 6 0] (p9 [MV 7 0,O2 8 (.mkfn (Fn.func 216) 0) 5 4,O2 9 (.call 91 true) 7 8,MV 6 9]))
theorem Gh:qK Tryz.prog 142 10 2 [RV.tmp 6] D6:=fi Tryz.f142 [4,5] z8 []
def Et:C:=
 (pk [O1 3 (.box 0 152) 0,MC 4 (.bool false)] (p9 [LD 5 1,O1 6 (.load (some 2)) 2,O1 7 (.load (some 2)) 3,ON 8 .callv [.t 5,.t 6,.t 7],MV 4 8]))
theorem GL:qK Tryz.prog 216 9 1 [RV.tmp 4] Et:=fi Tryz.f216 [3] z8 []
def Ro:C:=
 (pk [O1 3 (.box 0 26) 0,ON 6 (.nilo 1 2 152) []] (pk [ON 7 (.nilo 2 2 152) []] ((pk [oE 11 1 3,LD 12 11,O1 13 .len 12,oF 14 0] (C.block 0 (pk [BI 15 .lss 14 13] ((p8 15 0).seq
 ((C.block 1 (pk [MV 16 14,MV 8 16] (pk [O1 17 (.load (some 4)) 3,MV 18 1,MV 19 2,MV 20 8,ON 21 (.call 141 true) [.t 17,.t 18,.t 19,.t 20],MV 22 8,⟨some 23,none,.bslc 3 1 1 3
 [i6 0] [(0,1)],[.t 22]⟩,⟨some 24,none,.build [.nl,.nl] [(0,1),(1,1)],[.t 21,.t 23]⟩,⟨some 9,none,.alloc 4 152 [.nl,.nl],[]⟩,ST 2 9 24] (pk [MV 25 7,O1 26 (.load (some 2)) 9,ON
 27 (.call 142 true) [.t 25,.t 26,.c (.fn (Fn.func 143) [] [])],MV 10 27] ((pk [MV 28 10,oT 29 .lss 28 0] (p7 29 (pk [MV 30 7,O1 31 (.load (some 2)) 9,⟨some 32,none,.bslc 5 2 1
 152 [.nl,.nl] [(0,2)],[.t 31]⟩,O2 33 (.app 6 2 152 48) 30 32,MV 7 33] (C.exit 1)))).seq (rv [MV 34 7,MV 35 10,MV 36 7,MV 37 10,O2 38 (.idxA 2) 36 37,oE 39 1 38,LD 40 39,MV 41
 8,⟨some 42,none,.bslc 7 1 1 3 [i6 0] [(0,1)],[.t 41]⟩,O2 43 (.app 8 1 3 8) 40 42,O2 44 (.idxA 2) 34 35,oE 45 1 44,ST 1 45 43])))))).seq (rv [oT 46 .add 14 1,MV 14
 46])))).loop)).seq (p9 [MV 47 7,MV 6 47]))))
theorem Ov:qK Tryz.prog 63 48 9 [RV.tmp 6] Ro:=fi Tryz.f63 [3,6,7,23,9,32,33,42,43] z8 []
def D7:C:=
 (pk [O1 2 (.box 0 152) 0,O1 3 (.box 1 152) 1,MC 4 (.bool false)] (p9 [oE 5 0 2,LD 6 5,oE 7 0 3,LD 8 7,O2 9 (.call 18 true) 6 8,MV 4 9]))
theorem Gi:qK Tryz.prog 143 10 2 [RV.tmp 4] D7:=fi Tryz.f143 [2,3] z8 []
def ED:C:=
 (pk [MC 4 (.bool false)] (p9 [MV 5 0,MV 6 1,ON 7 (.call 291 true) [.t 5,.t 6,.c (.fn (Fn.func 292) [] [])],MV 4 7]))
theorem GU:qK Tryz.prog 225 8 0 [RV.tmp 4] ED:=fi Tryz.f225 [] z8 []
def Yq:C:=
 (pk [O1 2 (.box 0 152) 0,O1 3 (.box 1 152) 1,MC 4 (.bool false)] (p9 [oE 5 0 2,LD 6 5,oE 7 0 3,LD 8 7,O2 9 (.call 18 true) 6 8,MV 10 9,P1 11 10 true (.fldA 1) 2,P1 12 10 true
 (.load none) 11,P1 13 10 true (.fldA 1) 3,P1 14 10 true (.load none) 13,P2 15 10 true (.call 30 true) 12 14,PF 16 10 15,MV 4 16]))
theorem Xi:qK Tryz.prog 292 17 2 [RV.tmp 4] Yq:=fi Tryz.f292 [2,3] z8 []
def Ef:C:=
 (pk [O1 2 (.box 0 26) 0,O1 3 (.box 1 31) 1,⟨some 4,none,.alloc 2 4 [.bool false],[]⟩] (pk [MC 5 (i6 (-1))] ((pk [LD 10 3,O1 11 .len 10,oF 12 0] (C.block 0 (pk [BI 13 .lss 12 11]
 ((p8 13 0).seq ((C.block 1 (pk [O2 14 (.idxA 3) 10 12,O1 15 (.load (some 3)) 14,⟨some 7,none,.alloc 3 39 [i6 0,i6 0,.nl],[]⟩,ST 3 7 15] ((pk [oE 16 0 7,LD 17 16,MV 18 5,BI 19
 .leq 17 18,MV 20 19,tv 21 20 0 7,tE 22 20 21,ph 23 20 (.bin .lss) 22 (i6 0),PT 24 20 23,MV 25 24,tv 26 25 0 7,tE 27 25 26,tv 28 25 1 7,tE 29 25 28,pb 30 25 (.bin .geq) 27 29,PT
 31 25 30,MV 32 31,tv 33 32 1 7,tE 34 32 33,tv 35 32 3 2,tE 36 32 35,oX 37 32 .len 36,pb 38 32 (.bin .gtr) 34 37,PT 39 32 38,MV 40 39,tv 41 40 2 7,tE 42 40 41,oX 43 40 (.load
 (some 4)) 2,tv 44 40 0 7,tE 45 40 44,tv 46 40 1 7,tE 47 40 46,PN 48 40 false (.call 63 true) [.t 43,.t 45,.t 47],pb 49 40 (.call 225 true) 42 48,oX 50 40 (.un UnOp.not) 49,PT
 51 40 50] (p7 51 (p9 [⟨none,none,.store 1,[.t 4,.c (.bool false)]⟩]))).seq (rv [oE 52 1 7,LD 53 52,MV 5 53])))).seq (rv [oT 54 .add 12 1,MV 12 54])))).loop)).seq ((pk [O1 55
 (.load (some 4)) 2,O1 56 (.call 62 true) 55] (C.block 2 (C.range (.t 56) [57,58] (pk [⟨some 8,none,.alloc 4 3 [i6 0],[]⟩,ST 1 8 57] (rv [⟨some 9,none,.alloc 5 3 [i6 0],[]⟩,ST 1
 9 58])) (C.block 3 (pk [LD 59 3,O2 60 (.mkfn (Fn.func 226) 0) 8 9,O2 61 (.call 14 true) 59 60,O1 62 (.un UnOp.not) 61] (p7 62 (p9 [⟨none,none,.store 1,[.t 4,.c (.bool
 false)]⟩]))))))).seq (p9 [⟨none,none,.store 1,[.t 4,.c (.bool true)]⟩])))))
theorem Gt:qK Tryz.prog 152 63 6 [RV.cell 4 none] Ef:=fi Tryz.f152 [2,3,4,7,8,9] z8 []
def Yl:C:=
 (pk [O1 3 (.box 0 39) 0,MC 4 (.bool false)] (p9 [oE 5 0 3,LD 6 5,LD 7 1,BI 8 .leq 6 7,MV 9 8,P1 10 9 true (.load none) 2,P1 11 9 true (.fldA 1) 3,P1 12 9 true (.load none) 11,P2
 13 9 true (.bin .leq) 10 12,PF 14 9 13,MV 4 14]))
theorem Xc:qK Tryz.prog 226 15 1 [RV.tmp 4] Yl:=fi Tryz.f226 [3] z8 []
def NE:C:=
 (pk [O1 2 (.box 0 26) 0,oF 4 0] ((pk [O1 5 (.load (some 4)) 2,O1 6 (.call 47 true) 5,oT 7 .neq 6 0] (p7 7 (p9 [oF 4 1]))).seq ((pk [O1 8 (.load (some 4)) 2,MV 9 1,O2 10 (.call
 152 true) 8 9,O1 11 (.un UnOp.not) 10] (p7 11 (p9 [oF 4 20]))).seq (p9 [oF 4 0]))))
theorem HQ:qK Tryz.prog 74 12 1 [RV.tmp 4] NE:=fi Tryz.f74 [2] z8 []
def NF:C:=
 (pk [O1 3 (.box 0 3) 1,oF 4 0,oF 5 0] ((pk [LD 6 3,oT 7 .lss 6 0] (p7 7 (p9 [oF 4 0,oF 5 2]))).seq (p9 [MV 8 0,O1 9 (.mkfn (Fn.func 153) 0) 3,O2 10 (.call 65 true) 8 9,MV 4
 10,oF 5 0])))
theorem HS:qK Tryz.prog 76 11 1 [RV.tmp 4,RV.tmp 5] NF:=fi Tryz.f76 [3] z8 []
def Yf:C:=
 (pk [O1 2 (.box 0 39) 0,MC 3 (.bool false)] (p9 [oE 4 0 2,LD 5 4,LD 6 1,BI 7 .leq 5 6,MV 8 7,P1 9 8 true (.load none) 1,P1 10 8 true (.fldA 1) 2,P1 11 8 true (.load none) 10,P2
 12 8 true (.bin .lss) 9 11,PF 13 8 12,MV 3 13]))
theorem W5:qK Tryz.prog 153 14 1 [RV.tmp 3] Yf:=fi Tryz.f153 [2] z8 []
def NH:C:=
 (pk [O1 2 (.box 0 39) 0,O1 3 (.box 1 3) 1,oF 4 0,oF 5 0] (pk [oE 7 2 2,LD 8 7,O1 9 (.mkfn (Fn.func 157) 0) 3,O2 10 (.call 91 true) 8 9,MV 6 10] ((pk [MV 11 6,oT 12 .lss 11 0]
 (p7 12 (p9 [oF 4 0,oF 5 6]))).seq (p9 [MV 13 6,MV 4 13,oF 5 0]))))
theorem HU:qK Tryz.prog 81 14 2 [RV.tmp 4,RV.tmp 5] NH:=fi Tryz.f81 [2,3] z8 []
def Eh:C:=
 (pk [O1 2 (.box 0 152) 0,MC 3 (.bool false)] (p9 [oE 4 1 2,LD 5 4,LD 6 1,O2 7 (.call 22 true) 5 6,MV 3 7]))
theorem Gw:qK Tryz.prog 157 8 1 [RV.tmp 3] Eh:=fi Tryz.f157 [2] z8 []
end
section
open Go Go.Proofs AF
def y6:List Nat:= []
def c9s:C:=
 (pk [O1 1 (.box 0 26) 0,MC 2 (.bool false)] ((pk [oF 3 0] (C.block 0 ((pk [MV 4 3,oE 5 3 1,LD 6 5,O1 7 .len 6,BI 8 .lss 4 7] (p8 8 0)).seq ((C.block 1 (pk [oE 11 3 1,LD 12 11,MV
 13 3,O2 14 (.idxA 1) 12 13,LD 15 14,O1 16 .len 15,oT 17 .gtr 16 36] (p7 17 (p9 [MC 2 (.bool true)])))).seq (sm 9 3))).loop)).seq (p9 [oE 18 2 1,LD 19 18,O1 20 (.call 58 true)
 19,MV 21 20,tv 22 21 3 1,tE 23 21 22,oX 24 21 .len 23,ph 25 21 (.bin .gtr) 24 (i6 24),PT 26 21 25,MV 27 26,tv 28 27 1 1,tE 29 27 28,oX 30 27 .len 29,ph 31 27 (.bin .gtr) 30 (i6
 36),PT 32 27 31,MV 33 32,tv 34 33 0 1,tE 35 33 34,tv 36 33 1 1,tE 37 33 36,pb 38 33 (.call 59 true) 35 37,PT 39 33 38,MV 2 39])))
theorem SV:qK Tryz.prog 9 40 1 [RV.tmp 2] c9s:=fi Tryz.f9 [1] y6 []
def Rk:C:=
 (pk [MC 2 (.bool false)] (pk [oF 3 1] ((pk [oF 4 0] (C.block 0 ((sv 7 4 0 0).seq ((C.block 1 ((pk [MV 13 0,MV 14 4,O2 15 (.idxA 1) 13 14,LD 16 15,O1 17 .len 16,oT 18 .gtr 17
 6,MV 19 18,pc 20 19 4,ph 21 19 (.bin .geq) 20 (i6 4),pc 22 19 21,MG 23 22 true 0,MG 24 22 true 4,P2 25 22 true (.idxA 1) 23 24,P1 26 22 true (.load none) 25,P1 27 22 true .len
 26,PC 28 22 true (.bin .gtr) 27 (i6 1),QF 29 19 false 22 28,PT 30 19 29] (p7 30 (p9 [MC 2 (.bool true)]))).seq ((pk [MV 31 4,oT 32 .lss 31 4] (p7 32 (rv [MV 33 3,MV 34 0,MV 35
 4,O2 36 (.idxA 1) 34 35,LD 37 36,O1 38 .len 37,oT 39 .add 38 1,BI 40 .mul 33 39,MV 3 40]))).seq (pk [oF 5 0] (C.block 2 ((pk [MV 41 5,MV 42 0,MV 43 4,O2 44 (.idxA 1) 42 43,LD
 45 44,O1 46 .len 45,BI 47 .lss 41 46] (p8 47 2)).seq ((C.block 3 (pk [MV 50 0,MV 51 4,O2 52 (.idxA 1) 50 51,LD 53 52,MV 54 5,O2 55 (.idxA 6) 53 54,O1 56 (.load (some 6))
 55,⟨some 6,none,.alloc 0 119 [.str [],.str [],.str [],i6 0,i6 0,.str []],[]⟩,ST 6 6 56] (pk [oE 57 0 6,LD 58 57,O1 59 .slen 58,oT 60 .gtr 59 12,MV 61 60,tv 62 61 1 6,tE 63 61
 62,oX 64 61 .slen 63,ph 65 61 (.bin .gtr) 64 (i6 12),PT 66 61 65,MV 67 66,tv 68 67 2 6,tv 69 67 0 68,tE 70 67 69,oX 71 67 .slen 70,ph 72 67 (.bin .gtr) 71 (i6 20),PT 73 67
 72,MV 74 73,tv 75 74 5 6,tE 76 74 75,oX 77 74 .slen 76,ph 78 74 (.bin .gtr) 77 (i6 20),PT 79 74 78] (p7 79 (p9 [MC 2 (.bool true)]))))).seq (sm 48 5))).loop))))).seq (sm 11
 4))).loop)).seq (p9 [MV 80 3,oT 81 .gtr 80 400,MV 82 81,pc 83 82 0,oX 84 82 .len 83,ph 85 82 (.bin .gtr) 84 (i6 6),pc 86 82 85,MG 87 86 true 0,P1 88 86 true .len 87,PC 89 86
 true (.bin .leq) 88 (i6 32),QF 90 82 false 86 89,PT 91 82 90,MV 92 91,pc 93 92 0,oX 94 92 .len 93,ph 95 92 (.bin .gtr) 94 (i6 34),PT 96 92 95,MV 2 96]))))
theorem Oo:qK Tryz.prog 58 97 1 [RV.tmp 2] Rk:=fi Tryz.f58 [6] y6 []
def Rl:C:=
 (pk [MC 4 (.bool false)] ((pk [oF 5 0] (C.block 0 ((sv 6 5 1 0).seq ((C.block 1 (pk [MV 12 1,MV 13 5,O2 14 (.idxA 1) 12 13,LD 15 14,O1 16 .slen 15,oT 17 .gtr 16 20] (p7 17 (p9
 [MC 4 (.bool true)])))).seq (sm 10 5))).loop)).seq (p9 [MV 18 0,O1 19 .slen 18,oT 20 .gtr 19 20,MV 4 20])))
theorem Oq:qK Tryz.prog 59 21 0 [RV.tmp 4] Rl:=fi Tryz.f59 [] y6 []
def NG:C:=
 (pk [O1 3 (.box 0 133) 0,MC 4 (.bool false)] (p9 [oE 5 1 3,LD 6 5,LD 7 1,BI 8 .eql 6 7,MV 9 8,P1 10 9 true (.fldA 0) 3,P1 11 9 true (.load none) 10,P1 12 9 true (.load none)
 2,P2 13 9 true (.bin .eql) 11 12,PF 14 9 13,MV 4 14]))
theorem HT:qK Tryz.prog 78 15 1 [RV.tmp 4] NG:=fi Tryz.f78 [3] y6 []
def yl:C:=
 (pk [O1 5 (.box 0 26) 0,O1 7 (.box 1 133) 2,O1 8 (.box 2 133) 3,oF 10 0] ((C.block 0 (pk [oE 14 0 7,LD 15 14,BC 16 .eql 15 (.str []),MV 17 16,tv 18 17 0 7,tE 19 17 18,oX 20 17
 .slen 19,ph 21 17 (.bin .gtr) 20 (i6 64),PT 22 17 21,MV 13 22] (C.cond (.t 13) (p9 [oF 10 11]) (pk [oE 24 1 7,LD 25 24,oT 26 .lss 25 0,MV 27 26,tv 28 27 1 7,tE 29 27 28,tv 30
 27 3 5,tE 31 27 30,oX 32 27 .len 31,pb 33 27 (.bin .geq) 29 32,PT 34 27 33,MV 35 34,pc 36 35 4,oX 37 35 (.un UnOp.not) 36,pc 38 35 37,P1 39 38 true (.fldA 1) 7,P1 40 38 true
 (.load none) 39,P1 41 38 true (.fldA 1) 8,P1 42 38 true (.load none) 41,P2 43 38 true (.bin .lss) 40 42,QF 44 35 false 38 43,PT 45 35 44,MV 23 45] (C.cond (.t 23) (p9 [oF 10
 19]) (pk [oE 47 2 7,LD 48 47,BC 49 .lss 48 (i6 (-1)),MV 50 49,tv 51 50 2 7,tE 52 50 51,pc 53 50 1,oX 54 50 .len 53,pb 55 50 (.bin .geq) 52 54,PT 56 50 55,MV 46 56] (p7 46 (p9
 [oF 10 20])))))))).seq ((pk [MV 58 1,oE 59 1 7,LD 60 59,O2 61 (.call 76 true) 58 60,MV 57 61,O1 62 (.ext 0) 57,O1 63 (.ext 1) 57,MV 11 62,MV 12 63] (pk [MV 64 11,oE 65 2 7,LD
 66 65,BI 67 .neq 64 66] (p7 67 (p9 [oF 10 20])))).seq ((pk [oE 68 3 7,LD 69 68,BC 70 .lss 69 (i6 (-1)),MV 71 70,tv 72 71 2 7,tE 73 71 72,ph 74 71 (.bin .lss) 73 (i6 0),pc 75 71
 74,P1 76 75 true (.fldA 3) 7,P1 77 75 true (.load none) 76,PC 78 75 true (.bin .neq) 77 (i6 (-1)),QF 79 71 false 75 78,PT 80 71 79,MV 81 80,pc 82 81 4,oX 83 81 (.un UnOp.not)
 82,pc 84 81 83,P1 85 84 true (.fldA 2) 7,P1 86 84 true (.load none) 85,PC 87 84 true (.bin .geq) 86 (i6 0),QF 88 81 false 84 87,pc 89 81 88,P1 90 89 true (.fldA 2) 7,P1 91 89
 true (.load none) 90,P1 92 89 true (.fldA 2) 8,P1 93 89 true (.load none) 92,P2 94 89 true (.bin .eql) 91 93,QF 95 81 false 89 94,pc 96 81 95,P1 97 96 true (.fldA 3) 7,P1 98 96
 true (.load none) 97,P1 99 96 true (.fldA 3) 8,P1 100 96 true (.load none) 99,P2 101 96 true (.bin .neq) 98 100,QF 102 81 false 96 101,PT 103 81 102] (p7 103 (p9 [oF 10
 2]))).seq (p9 [oF 10 0])))))
theorem kc:qK Tryz.prog 75 104 3 [RV.tmp 10] yl:=fi Tryz.f75 [5,7,8] y6 []
end
section
open Go Go.Proofs AF HY LN
namespace RC
theorem Oe(u:Un)(c:Int)(h:JN):ACalls Tryz.prog 153 [.agg (unC u),.ip [.int .i64 c]] h (.bool (decide (u.frm<=c)&&decide (c<u.to))) h:=by
 by_cases g:u.frm<=c
 ·have k1:(u.frm<=c)=True:=eqt g;rw[dqt g,Bool.true_and];refine acO W5 ?_;simp (disch:=omega) only[Yf,unC,k1,go_sem]
  repeat' first|exact tF|with_reducible apply aiA|exact clz|fail
 ·have k1:(u.frm<=c)=False:=eqf g;rw[dqf g,Bool.false_and];refine acO W5 ?_;simp (disch:=omega) only[Yf,unC,k1,go_sem]
  repeat' first|exact tF|with_reducible apply aiA|exact clz|fail
theorem Td(l:List Un)(c:Int)(k v:Nat)(h:JN)(hk:qu k h=some (.mem v 3 [.int .i64 c]))(hl:l.length<=1000000000):
  ACalls Tryz.prog 65 [qZ l,.fn (.func 153) [] [.op k v 0]] h (.int .i64 (fnU l c)) h:=by
 have hc:=qJ hk;unfold qZ fnU;refine y4 Aa l.length (λj=>unC (l.getD j default)) (λj=> .agg (unC (l.getD j default))) _ [] [.op k v 0] _ h (λi _=>⟨rfl,by simp[jK,unC],rfl,rfl,rfl⟩) (λi _=> ?_) oma;refine ACalls.borrow ?_ rfl;have e:([AV.agg (unC (l.getD i default))]++ [AV.op k v 0]).map (rei (λ_=>true) h 8)= [.agg (unC (l.getD i default)),.ip [.int .i64 c]]:=by
  simp only[lca,lna,List.map_cons,List.map_nil,rei_op,if_true,hc,ipOf_some,List.drop_zero,rei_agg];rfl
 rw[lna,e];exact Oe _ c _
def fnR(l:List Un)(c:Int):Int:=if c<0 then 0 else fnU l c
def fnE(c:Int):Int:=if c<0 then 2 else 0
theorem HW(l:List Un)(c:Int)(h:JN)(hl:l.length<=1000000000):ACalls Tryz.prog 76 [qZ l,.int .i64 c] h (.tup [.int .i64 (fnR l c),.int .i64 (fnE c)]) h:=by
 unfold fnR fnE
 by_cases g:c<0
 ·have k1:(c<0)=True:=eqt g;rw[ipo g,ipo g];refine acO HS ?_;simp (disch:=omega) only[NF,k1,go_sem]
  repeat' first|exact tF|with_reducible apply aiA|exact clz|fail
 ·have k1:(c<0)=False:=eqf g;rw[ine g,ine g];have c1:=Td l c h.length 1 (h++ [.mem 1 3 [.int .i64 c]]) (by rw[getO_app0];rfl) hl;refine acO HS ?_;simp (disch:=omega) only[NF,k1,go_sem]
  repeat' first|(refine cA (c1) flk ?_;simp (disch:=omega) only[go_sem])|exact tF|with_reducible apply aiA|exact clz|fail
theorem TD(r:Rd)(s:Int)(h:JN)(hr:r.src.length<=1000000000):ACalls Tryz.prog 157 [.agg (rdC r),.ip [.int .i64 s]] h (.bool (decide (s∈r.src))) h:=by
 have c1:=λh=>FL r.src s h hr
 unfold qx at c1;refine acO Gw ?_;simp (disch:=omega) only[Eh,rdC,qx,go_sem]
 repeat' first|(refine cA (c1 _) flk ?_;simp (disch:=omega) only[go_sem])|exact tF|with_reducible apply aiA|exact clz|fail
theorem Tf(L:List Rd)(s:Int)(k v:Nat)(h:JN)(hk:qu k h=some (.mem v 3 [.int .i64 s]))(hl:L.length<=1000000000)(hr: ∀j,(L.getD j default).src.length<=1000000000):
  ACalls Tryz.prog 91 [jM L,.fn (.func 157) [] [.op k v 0]] h (.int .i64 (ff L s)) h:=by
 have hc:=qJ hk;unfold jM ff;refine y4 Ac L.length (λj=>rdC (L.getD j default)) (λj=> .agg (rdC (L.getD j default))) _ [] [.op k v 0] _ h (λi _=>⟨rfl,by simp[jK,rdC],rfl,rfl,rfl⟩) (λi _=> ?_) oma;refine ACalls.borrow ?_ rfl;have e:([AV.agg (rdC (L.getD i default))]++ [AV.op k v 0]).map (rei (λ_=>true) h 8)= [.agg (rdC (L.getD i default)),.ip [.int .i64 s]]:=by
  simp only[lca,lna,List.map_cons,List.map_nil,rei_op,if_true,hc,ipOf_some,List.drop_zero,rei_agg];rfl
 rw[lna,e];exact TD _ s _ (hr i)
def aE(L:List Rd)(s:Int):Int:=if ff L s<0 then 0 else ff L s
def IQ(L:List Rd)(s:Int):Int:=if ff L s<0 then 6 else 0
theorem TE(u:Un)(s:Int)(h:JN)(hl:u.rds.length<=1000000000)(hr: ∀j,(u.rds.getD j default).src.length<=1000000000):ACalls Tryz.prog 81 [.agg (unC u),.int .i64 s] h (.tup [.int .i64 (aE u.rds s),.int .i64 (IQ u.rds s)]) h:=by
 have c1:=Tf u.rds s (h.length+1) 1 (h++ [.mem 1 39 (unC u),.mem 1 3 [.int .i64 s]]) (by simp only[go_sem]) hl hr;unfold aE IQ;obtain⟨n,hn⟩:=Qt (ff u.rds s)
 rw[<-hn]at c1 ⊢;unfold unC at c1
 by_cases g:n<0
 ·have k1:(n<0)=True:=eqt g;rw[ipo g,ipo g];refine acO HU ?_;simp (disch:=omega) only[NH,unC,go_sem]
  repeat' first|(refine cA (c1) flk ?_;simp (disch:=omega) only[k1,go_sem])|exact tF|with_reducible apply aiA|exact clz|fail
 ·have k1:(n<0)=False:=eqf g;rw[ine g,ine g];refine acO HU ?_;simp (disch:=omega) only[NH,unC,go_sem]
  repeat' first|(refine cA (c1) flk ?_;simp (disch:=omega) only[k1,go_sem])|exact tF|with_reducible apply aiA|exact clz|fail
theorem Um(x:Co)(l:List Un)(w bef:Wd)(first:Bool)(h:JN)(hl:l.length<=1000000000)(hc:x.col.length<=1000000000)(hw:w.text.length<=1000000000):
  ACalls Tryz.prog 75 [.agg (coC x),qZ l,.agg (wdC w),.agg (wdC bef),.bool first] h (.int .i64 (wdE x l w bef first)) h:=by
 obtain⟨R,hR⟩:=Qt (wdE x l w bef first)
 rw[<-hR];unfold wdE at hR;have cF:=λh=>HW l w.col h hl
 by_cases g0:w.text= []
 ·have k0:(w.text= [])=True:=eqt g0;rw[ipo (.inl g0)]at hR;rw[hR];refine acO kc ?_;simp (disch:=omega) only[yl,coC,wdC,qZ,k0,go_sem]
  repeat' first|exact tF|fail
 have k0:(w.text= [])=False:=eqf g0;simp only[k0,false_or]at hR;obtain⟨p,hp⟩:=Qt (fnU l w.col)
 rw[<-hp]at hR;cases first with
 |true=>
  simp only[Bool.true_eq_false,false_and,or_false]at hR
  by_cases gB:64<w.text.length
  ·have kB:((64:Int)<w.text.length)=True:=eqt (by first|exact gB|omega);have hV:R=11:=by rw[hR];(repeat' split)<;>first|rfl|(exfalso;omega)
   rw[hV];refine acO kc ?_;simp (disch:=omega) only[yl,coC,wdC,qZ,qn,k0,kB,go_sem]
   repeat' first|exact tF|fail
  ·have kB:((64:Int)<w.text.length)=False:=eqf (by first|exact gB|omega)
   by_cases gC:w.col<0
   ·have kC:(w.col<0)=True:=eqt (by first|exact gC|omega);have hV:R=19:=by rw[hR];(repeat' split)<;>first|rfl|(exfalso;omega)
    rw[hV];refine acO kc ?_;simp (disch:=omega) only[yl,coC,wdC,qZ,qn,k0,kB,kC,go_sem]
    repeat' first|exact tF|fail
   ·have kC:(w.col<0)=False:=eqf (by first|exact gC|omega);have eF:fnR l w.col=p:=by unfold fnR;rw[ine gC,hp]
    have eE:fnE w.col=0:=ine gC;simp only[eF,eE]at cF
    by_cases gD:(x.col.length:Int)<=w.col
    ·have kD:((x.col.length:Int)<=w.col)=True:=eqt (by first|exact gD|omega);have hV:R=19:=by rw[hR];(repeat' split)<;>first|rfl|(exfalso;omega)
     rw[hV];refine acO kc ?_;simp (disch:=omega) only[yl,coC,wdC,qZ,qn,k0,kB,kC,kD,go_sem]
     repeat' first|exact tF|with_reducible apply aiA|exact clz|fail
    ·have kD:((x.col.length:Int)<=w.col)=False:=eqf (by first|exact gD|omega)
     by_cases gG:w.unit< -1
     ·have kG:(w.unit< -1)=True:=eqt (by first|exact gG|omega);have hV:R=20:=by rw[hR];(repeat' split)<;>first|rfl|(exfalso;omega)
      rw[hV];refine acO kc ?_;simp (disch:=omega) only[yl,coC,wdC,qZ,qn,k0,kB,kC,kD,kG,go_sem]
      repeat' first|(apply qa;exact rvk;simp only[go_sem];first|exact qi|apply qe)|(with_reducible first|intro _|apply aiA)|exact clz|fail
     ·have kG:(w.unit< -1)=False:=eqf (by first|exact gG|omega)
      by_cases gH:(l.length:Int)<=w.unit
      ·have kH:((l.length:Int)<=w.unit)=True:=eqt (by first|exact gH|omega);have hV:R=20:=by rw[hR];(repeat' split)<;>first|rfl|(exfalso;omega)
       rw[hV];refine acO kc ?_;simp (disch:=omega) only[yl,coC,wdC,qZ,qn,k0,kB,kC,kD,kG,kH,go_sem]
       repeat' first|(apply qa;exact rvk;simp only[go_sem];first|exact qi|apply qe)|(with_reducible first|intro _|apply aiA)|exact clz|fail
      ·have kH:((l.length:Int)<=w.unit)=False:=eqf (by first|exact gH|omega)
       by_cases gI:p=w.unit
       ·have kI:(p=w.unit)=True:=eqt (by first|exact gI|omega)
        by_cases gJ:w.dec< -1
        ·have kJ:(w.dec< -1)=True:=eqt (by first|exact gJ|omega);have hV:R=2:=by rw[hR];(repeat' split)<;>first|rfl|(exfalso;omega)
         rw[hV];refine acO kc ?_;simp (disch:=omega) only[yl,coC,wdC,qZ,qn,k0,kB,kC,kD,kG,kH,go_sem]
         repeat' first|(refine cA (cF _) flk ?_;simp (disch:=omega) only[kI,kJ,go_sem])|(apply qa;exact rvk;simp only[go_sem];first|exact qi|apply qe)|(with_reducible first|intro _|apply aiA)|exact clz|fail
        ·have kJ:(w.dec< -1)=False:=eqf (by first|exact gJ|omega)
         by_cases gK:w.unit<0
         ·have kK:(w.unit<0)=True:=eqt (by first|exact gK|omega);have kKb:(0<=w.unit)=False:=eqf (by first|exact gK|omega)
          by_cases gL:w.dec= -1
          ·have kL:(w.dec= -1)=True:=eqt (by first|exact gL|omega);have hV:R=0:=by rw[hR];(repeat' split)<;>first|rfl|(exfalso;omega)
           rw[hV];refine acO kc ?_;simp (disch:=omega) only[yl,coC,wdC,qZ,qn,k0,kB,kC,kD,kG,kH,go_sem]
           repeat' first|(refine cA (cF _) flk ?_;simp (disch:=omega) only[kI,kJ,kK,kKb,kL,go_sem])|(apply qa;exact rvk;simp only[go_sem];first|exact qi|apply qe)|(with_reducible first|intro _|apply aiA)|exact clz|fail
          ·have kL:(w.dec= -1)=False:=eqf (by first|exact gL|omega);have hV:R=2:=by rw[hR];(repeat' split)<;>first|rfl|(exfalso;omega)
           rw[hV];refine acO kc ?_;simp (disch:=omega) only[yl,coC,wdC,qZ,qn,k0,kB,kC,kD,kG,kH,go_sem]
           repeat' first|(refine cA (cF _) flk ?_;simp (disch:=omega) only[kI,kJ,kK,kKb,kL,go_sem])|(apply qa;exact rvk;simp only[go_sem];first|exact qi|apply qe)|(with_reducible first|intro _|apply aiA)|exact clz|fail
         ·have kK:(w.unit<0)=False:=eqf (by first|exact gK|omega);have kKb:(0<=w.unit)=True:=eqt (by first|exact gK|omega);have hV:R=0:=by rw[hR];(repeat' split)<;>first|rfl|(exfalso;omega)
          rw[hV];refine acO kc ?_;simp (disch:=omega) only[yl,coC,wdC,qZ,qn,k0,kB,kC,kD,kG,kH,go_sem]
          repeat' first|(refine cA (cF _) flk ?_;simp (disch:=omega) only[kI,kJ,kK,kKb,go_sem])|(apply qa;exact rvk;simp only[go_sem];first|exact qi|apply qe)|(with_reducible first|intro _|apply aiA)|exact clz|fail
       ·have kI:(p=w.unit)=False:=eqf (by first|exact gI|omega);have hV:R=20:=by rw[hR];(repeat' split)<;>first|rfl|(exfalso;omega)
        rw[hV];refine acO kc ?_;simp (disch:=omega) only[yl,coC,wdC,qZ,qn,k0,kB,kC,kD,kG,kH,go_sem]
        repeat' first|(refine cA (cF _) flk ?_;simp (disch:=omega) only[kI,go_sem])|(apply qa;exact rvk;simp only[go_sem];first|exact qi|apply qe)|(with_reducible first|intro _|apply aiA)|exact clz|fail
 |false=>
  simp only[true_and]at hR
  by_cases gB:64<w.text.length
  ·have kB:((64:Int)<w.text.length)=True:=eqt (by first|exact gB|omega);have hV:R=11:=by rw[hR];(repeat' split)<;>first|rfl|(exfalso;omega)
   rw[hV];refine acO kc ?_;simp (disch:=omega) only[yl,coC,wdC,qZ,qn,k0,kB,go_sem]
   repeat' first|exact tF|fail
  ·have kB:((64:Int)<w.text.length)=False:=eqf (by first|exact gB|omega)
   by_cases gC:w.col<0
   ·have kC:(w.col<0)=True:=eqt (by first|exact gC|omega);have hV:R=19:=by rw[hR];(repeat' split)<;>first|rfl|(exfalso;omega)
    rw[hV];refine acO kc ?_;simp (disch:=omega) only[yl,coC,wdC,qZ,qn,k0,kB,kC,go_sem]
    repeat' first|exact tF|fail
   ·have kC:(w.col<0)=False:=eqf (by first|exact gC|omega);have eF:fnR l w.col=p:=by unfold fnR;rw[ine gC,hp]
    have eE:fnE w.col=0:=ine gC;simp only[eF,eE]at cF
    by_cases gD:(x.col.length:Int)<=w.col
    ·have kD:((x.col.length:Int)<=w.col)=True:=eqt (by first|exact gD|omega);have hV:R=19:=by rw[hR];(repeat' split)<;>first|rfl|(exfalso;omega)
     rw[hV];refine acO kc ?_;simp (disch:=omega) only[yl,coC,wdC,qZ,qn,k0,kB,kC,kD,go_sem]
     repeat' first|exact tF|with_reducible apply aiA|exact clz|fail
    ·have kD:((x.col.length:Int)<=w.col)=False:=eqf (by first|exact gD|omega)
     by_cases gF:w.col<bef.col
     ·have kF:(w.col<bef.col)=True:=eqt (by first|exact gF|omega);have hV:R=19:=by rw[hR];(repeat' split)<;>first|rfl|(exfalso;omega)
      rw[hV];refine acO kc ?_;simp (disch:=omega) only[yl,coC,wdC,qZ,qn,k0,kB,kC,kD,kF,go_sem]
      repeat' first|exact tF|with_reducible apply aiA|exact clz|fail
     ·have kF:(w.col<bef.col)=False:=eqf (by first|exact gF|omega)
      by_cases gG:w.unit< -1
      ·have kG:(w.unit< -1)=True:=eqt (by first|exact gG|omega);have hV:R=20:=by rw[hR];(repeat' split)<;>first|rfl|(exfalso;omega)
       rw[hV];refine acO kc ?_;simp (disch:=omega) only[yl,coC,wdC,qZ,qn,k0,kB,kC,kD,kF,kG,go_sem]
       repeat' first|exact tF|with_reducible apply aiA|exact clz|fail
      ·have kG:(w.unit< -1)=False:=eqf (by first|exact gG|omega)
       by_cases gH:(l.length:Int)<=w.unit
       ·have kH:((l.length:Int)<=w.unit)=True:=eqt (by first|exact gH|omega);have hV:R=20:=by rw[hR];(repeat' split)<;>first|rfl|(exfalso;omega)
        rw[hV];refine acO kc ?_;simp (disch:=omega) only[yl,coC,wdC,qZ,qn,k0,kB,kC,kD,kF,kG,kH,go_sem]
        repeat' first|exact tF|with_reducible apply aiA|exact clz|fail
       ·have kH:((l.length:Int)<=w.unit)=False:=eqf (by first|exact gH|omega)
        by_cases gI:p=w.unit
        ·have kI:(p=w.unit)=True:=eqt (by first|exact gI|omega)
         by_cases gJ:w.dec< -1
         ·have kJ:(w.dec< -1)=True:=eqt (by first|exact gJ|omega);have hV:R=2:=by rw[hR];(repeat' split)<;>first|rfl|(exfalso;omega)
          rw[hV];refine acO kc ?_;simp (disch:=omega) only[yl,coC,wdC,qZ,qn,k0,kB,kC,kD,kF,kG,kH,go_sem]
          repeat' first|(refine cA (cF _) flk ?_;simp (disch:=omega) only[kI,kJ,go_sem])|exact tF|with_reducible apply aiA|exact clz|fail
         ·have kJ:(w.dec< -1)=False:=eqf (by first|exact gJ|omega)
          by_cases gK:w.unit<0
          ·have kK:(w.unit<0)=True:=eqt (by first|exact gK|omega);have kKb:(0<=w.unit)=False:=eqf (by first|exact gK|omega)
           by_cases gL:w.dec= -1
           ·have kL:(w.dec= -1)=True:=eqt (by first|exact gL|omega);have hV:R=0:=by rw[hR];(repeat' split)<;>first|rfl|(exfalso;omega)
            rw[hV];refine acO kc ?_;simp (disch:=omega) only[yl,coC,wdC,qZ,qn,k0,kB,kC,kD,kF,kG,kH,go_sem]
            repeat' first|(refine cA (cF _) flk ?_;simp (disch:=omega) only[kI,kJ,kK,kKb,kL,go_sem])|(apply qa;exact rvk;simp only[go_sem];first|exact qi|apply qe)|(with_reducible first|intro _|apply aiA)|exact clz|fail
           ·have kL:(w.dec= -1)=False:=eqf (by first|exact gL|omega);have hV:R=2:=by rw[hR];(repeat' split)<;>first|rfl|(exfalso;omega)
            rw[hV];refine acO kc ?_;simp (disch:=omega) only[yl,coC,wdC,qZ,qn,k0,kB,kC,kD,kF,kG,kH,go_sem]
            repeat' first|(refine cA (cF _) flk ?_;simp (disch:=omega) only[kI,kJ,kK,kKb,kL,go_sem])|exact tF|with_reducible apply aiA|exact clz|fail
          ·have kK:(w.unit<0)=False:=eqf (by first|exact gK|omega);have kKb:(0<=w.unit)=True:=eqt (by first|exact gK|omega)
           by_cases gO:w.unit=bef.unit
           ·have kO:(w.unit=bef.unit)=True:=eqt (by first|exact gO|omega)
            by_cases gP:w.dec=bef.dec
            ·have kP:(w.dec=bef.dec)=True:=eqt (by first|exact gP|omega);have hV:R=0:=by rw[hR];(repeat' split)<;>first|rfl|(exfalso;omega)
             rw[hV];refine acO kc ?_;simp (disch:=omega) only[yl,coC,wdC,qZ,qn,k0,kB,kC,kD,kF,kG,kH,go_sem]
             repeat' first|(refine cA (cF _) flk ?_;simp (disch:=omega) only[kI,kJ,kK,kKb,kO,kP,go_sem])|(apply qa;exact rvk;simp only[go_sem];first|exact qi|apply qe)|(with_reducible first|intro _|apply aiA)|exact clz|fail
            ·have kP:(w.dec=bef.dec)=False:=eqf (by first|exact gP|omega);have hV:R=2:=by rw[hR];(repeat' split)<;>first|rfl|(exfalso;omega)
             rw[hV];refine acO kc ?_;simp (disch:=omega) only[yl,coC,wdC,qZ,qn,k0,kB,kC,kD,kF,kG,kH,go_sem]
             repeat' first|(refine cA (cF _) flk ?_;simp (disch:=omega) only[kI,kJ,kK,kKb,kO,kP,go_sem])|(apply qa;exact rvk;simp only[go_sem];first|exact qi|apply qe)|(with_reducible first|intro _|apply aiA)|exact clz|fail
           ·have kO:(w.unit=bef.unit)=False:=eqf (by first|exact gO|omega);have hV:R=0:=by rw[hR];(repeat' split)<;>first|rfl|(exfalso;omega)
            rw[hV];refine acO kc ?_;simp (disch:=omega) only[yl,coC,wdC,qZ,qn,k0,kB,kC,kD,kF,kG,kH,go_sem]
            repeat' first|(refine cA (cF _) flk ?_;simp (disch:=omega) only[kI,kJ,kK,kKb,kO,go_sem])|(apply qa;exact rvk;simp only[go_sem];first|exact qi|apply qe)|(with_reducible first|intro _|apply aiA)|exact clz|fail
        ·have kI:(p=w.unit)=False:=eqf (by first|exact gI|omega);have hV:R=20:=by rw[hR];(repeat' split)<;>first|rfl|(exfalso;omega)
         rw[hV];refine acO kc ?_;simp (disch:=omega) only[yl,coC,wdC,qZ,qn,k0,kB,kC,kD,kF,kG,kH,go_sem]
         repeat' first|(refine cA (cF _) flk ?_;simp (disch:=omega) only[kI,go_sem])|exact tF|with_reducible apply aiA|exact clz|fail
section
variable {x : Co} {k s : Nat}
theorem NT(h:JN)(ho:CoOk x)(hk:k<x.col.length)(hs:s<x.sig.length):ACalls Tryz.prog 215 [.agg (coC x),.int .i64 (k:Int),.int .i64 (s:Int)] h (.tup [.str ((clT x k s).getD []),.bool (clT x k s).isSome]) h:=by
 have hcl:=ho.cl k hk;have hce:=ho.ce k hk s hs;have htn:=ho.tn;unfold clT;obtain⟨c,hc⟩:=Qt (x.col.getD k [])
 have ec:=hc.symm;rw[ec]at hcl hce ⊢;obtain⟨t,ht⟩:=Qt (c.getD s 0)
 have et:=ht.symm;rw[et]at hce ⊢;obtain⟨l,hl⟩:=Qt (x.tok.getD s [])
 have el:=hl.symm;rw[el]at hce ⊢;have k0:(0<=(k:Int))=True:=eqt oma;have k1:((k:Int)<x.col.length)=True:=eqt oma;have k2:((s:Int)<c.length)=True:=eqt oma;have k3:((s:Int)<x.tok.length)=True:=eqt oma;have k4:(0<=(s:Int))=True:=eqt oma
 by_cases g:t<0
 ·have k5:(t<0)=True:=eqt g;rw[ipo g];refine acO Xa ?_;simp (disch:=omega) only[Yj,coC,qn,qx,k0,k1,k2,k4,k5,ec,et,go_sem]
  repeat' first|exact tF|with_reducible apply aiA|exact clz|fail
 ·have k5:(t<0)=False:=eqf g;rw[ine g];have k6:(t<l.length)=True:=eqt (by rcases hce with e|e;omega;omega);have k7:(0<=t)=True:=eqt oma;obtain⟨w,hw⟩:=Qt (l.getD t.toNat default)
  have ew:=hw.symm;rw[ew];refine acO Xa ?_;simp (disch:=omega) only[Yj,coC,qn,qx,qm,zR,tkC,k0,k1,k2,k3,k4,k5,k6,k7,ec,et,el,ew,go_sem]
  repeat' first|exact tF|with_reducible apply aiA|exact clz|fail
theorem cmP(h:JN)(ho:CoOk x)(hk:k<x.col.length):ACalls Tryz.prog 140 [.agg (coC x),.int .i64 (k:Int)] h (.bool (cmB x k)) h:=by
 have hsg:=ho.sg;obtain⟨R,hR⟩:=Qt (cmB x k)
 rw[<-hR];unfold cmB at hR;have c0:=λh=>NT (x:=x) (k:=k) (s:=0) h ho hk hsg.1
 obtain⟨o0,ho0⟩:=Qt (clT x k 0)
 rw[<-ho0]at hR c0;have ez:((0:Nat):Int)=0:=rfl;rw[ez]at c0;have zl: ∀g,valL g .len [strs x.sig]= .int .i64 x.sig.length:=λ_=>rfl
 have zo: ∀g,okL g .len [strs x.sig]=True:=λ_=>eqt trivial
 unfold coC at c0;refine acO Gf ?_;simp (disch:=omega) only[D4,coC,go_sem]
 repeat' first|(refine cA (c0 _) flk ?_;simp (disch:=omega) only[zl,zo,go_sem])|with_reducible apply aiA|exact clz|fail
 refine qr (T:=λi:Nat=>qY 41 [(1,.int .i64 (k:Int)),(2,.op h.length 1 0),(5,.str (o0.getD [])),(6,.bool o0.isSome),(18,.int .i64 x.sig.length),(19,.int .i64 i)]) (H:=λ_=>h++ [.mem 1 26 (coC x)])
  (inv:=λi=>i<=x.sig.length∧ ∀j,j<i->(decide (clT x k j=none)|| !decide (clT x k j=o0))=false) (m:=λi=>x.sig.length-i) 0 ⟨nzl _,λj hj=>absurd hj (nnz j)⟩ (Wk.temps ?_) ?_
 ·(simp only[go_sem,qg,qc,qb,qf];try exact tT)
 rintro i ⟨i1,i2⟩ K hK
 by_cases hi:i<x.sig.length
 ·have k1:((i:Int)<x.sig.length)=True:=eqt oma;have c1:=λh=>NT (x:=x) (k:=k) (s:=i) h ho hk hi
  have hno:(decide (clT x k i=none)|| !decide (clT x k i=o0))=true->R=false:=λhx=>by rw[hR,qP.2 ⟨i,hi,hx⟩];rfl
  have hS:(decide (clT x k i=none)|| !decide (clT x k i=o0))=false-> ∀j,j<i+1->(decide (clT x k j=none)|| !decide (clT x k j=o0))=false:=λhx j hj=>by
   by_cases e:j=i
   ·subst e;exact hx
   ·exact i2 j oma
  obtain⟨o,hox⟩:=Qt (clT x k i)
  rw[<-hox]at hno hS;rw[<-hox]at c1;unfold coC at c1;cases o0 with
  |none=>
   have hV:R=false:=hno (by cases o<;>simp);rw[hV];simp (disch:=omega) only[coC,k1,Option.isSome_none,Option.getD_none,go_sem]
   repeat' first|(refine cA (c1 _) flk ?_;simp (disch:=omega) only[go_sem])|exact tF|with_reducible apply aiA|exact clz|fail
  |some w0=>
  cases o with
  |none=>
   rw[hno rfl];simp (disch:=omega) only[coC,k1,Option.isSome_some,Option.getD_some,go_sem]
   repeat' first|(refine cA (c1 _) flk ?_;simp (disch:=omega) only[Option.isSome_none,Option.getD_none,Option.getD_some,go_sem])|exact tF|with_reducible apply aiA|exact clz|fail
  |some w=>
  by_cases g:w=w0
  ·have q1:(w=w0)=True:=eqt g;simp (disch:=omega) only[coC,k1,Option.isSome_some,Option.getD_some,go_sem]
   repeat' first|(refine cA (c1 _) flk ?_;simp (disch:=omega) only[q1,Option.isSome_some,Option.getD_some,go_sem])|with_reducible apply aiA|exact clz|fail
   refine hK _ _ (i+1) ⟨hi,hS (by rw[g];simp)⟩ oma (Wk.temps ?_)
   (simp only[go_sem,qg,qc,qb,qf];try exact tT)
  ·have q1:(w=w0)=False:=eqf g;rw[hno (by simp[g])];simp (disch:=omega) only[coC,k1,Option.isSome_some,Option.getD_some,go_sem]
   repeat' first|(refine cA (c1 _) flk ?_;simp (disch:=omega) only[q1,Option.isSome_some,Option.getD_some,go_sem])|exact tF|with_reducible apply aiA|exact clz|fail
 ·have k1:((i:Int)<x.sig.length)=False:=eqf oma;have hV:R=true:=by rw[hR,qq.2 λj hj=>i2 j oma];rfl
  rw[hV];simp (disch:=omega) only[coC,k1,go_sem]
  repeat' first|exact tF|fail
end
theorem rdP(x:Co)(f t s:Nat)(h:JN)(ho:CoOk x)(ht:t<=x.col.length)(hs:s<x.sig.length)(hn:x.col.length<=1000000000):ACalls Tryz.prog 141 [.agg (coC x),.int .i64 (f:Int),.int .i64 (t:Int),.int .i64 (s:Int)] h (strs (rdG x s f (t-f))) h:=by
 refine acO Gg ?_;simp (disch:=omega) only[D5,coC,go_sem];refine qr (T:=λi:Nat×Nat×AObj=>qY 32 [(2,.int .i64 (t:Int)),(3,.int .i64 (s:Int)),(4,.op h.length 1 0),(9,.osl (h.length+2) i.2.1 1 0 (rdG x s f i.1).length),(10,.int .i64 ((f+i.1:Nat):Int))])
  (H:=λi=>h++ [.mem 1 26 (coC x),.emp 1,ze i.2.1 9 (jO (rdG x s f i.1)),i.2.2,.emp 0])
  (inv:=λi=>i.1<=t-f∧qG [i.2.2] 0=true) (m:=λi=>t-f-i.1) (0,1,.emp 0) ⟨nzl _,rfl⟩ (Wk.temps ?_) ?_
 ·(simp only[rdG,lnl,Nat.add_zero,go_sem,qg,qc,qb,qf];try exact tT)
 rintro⟨d,v,O⟩ ⟨i1,i2⟩ K hK;simp only at i1 i2 hK;have i2': ∀m,qG (O::m) 0=true:=λ_=>i2
 have hln:=cm x s f d;have hst:rdG x s f (d+1)=rdG x s f d++(clT x (f+d) s).toList:=rfl;obtain⟨L,hL⟩:=Qt (rdG x s f d)
 rw[<-hL]at hln hst;have eL:=hL.symm;have eC:=kW L
 by_cases hi:f+d<t
 ·have k1:(((f+d:Nat):Int)<t)=True:=eqt oma;have c1:=λh=>NT (x:=x) (k:=f+d) (s:=s) h ho oma hs
  obtain⟨o,hox⟩:=Qt (clT x (f+d) s)
  rw[<-hox]at hst c1;unfold coC at c1;have eTk:List.take L.length (jO L)=jO L:=ltl oma;cases o with
  |none=>
   have hst:rdG x s f (d+1)=L:=by rw[hst];simp
   simp (disch:=omega) only[coC,k1,eL,go_sem]
   repeat' first|(refine cA (c1 _) flk ?_;simp (disch:=omega) only[i2',Option.isSome_none,Option.getD_none,go_sem])|with_reducible apply aiA|exact clz|fail
   refine hK _ _ (d+1,v,O) ⟨oma,i2⟩ (by simp only;omega) ?_;simp only[hst];refine Wk.temps ?_
   (simp only[go_sem,qg,qc,qb,qf];try exact tT)
  |some w=>
   have hst:rdG x s f (d+1)=L++ [w]:=hst;simp (disch:=omega) only[coC,k1,eL,Option.isSome_some,Option.getD_some,go_sem]
   repeat' first|(refine cA (c1 _) flk ?_;simp (disch:=omega) only[i2',eC,eTk,Nat.mul_one,Option.isSome_some,Option.getD_some,go_sem])|with_reducible apply aiA|exact clz|fail
   have eA:jO L++ [AV.str w]=jO (rdG x s f (d+1)):=by rw[hst,mb];rfl
   try rw[eA]
   refine hK _ _ (d+1,v+1,.mem (qo (some O)+1) 9 [.str w]) ⟨oma,rfl⟩ (by simp only;omega) ?_;simp only[hst,lap,lco,lnl];refine Wk.temps ?_
   (simp only[go_sem,qg,qc,qb,qf];try exact tT)
 ·have k1:(((f+d:Nat):Int)<t)=False:=eqf oma;obtain rfl:d=t-f:=by omega
  rw[eL];simp (disch:=omega) only[k1,go_sem]
  repeat' first|(apply qa;exact rvk;simp only[go_sem])
  exact xn (λ_=>rfl) rfl
end RC
end
