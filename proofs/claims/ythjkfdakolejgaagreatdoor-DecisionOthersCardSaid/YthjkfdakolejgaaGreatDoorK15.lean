import Derived.Test.YthjkfdakolejgaaGreatDoorK9
import Derived.Test.YthjkfdakolejgaaGreatDoorK10
import Derived.Test.YthjkfdakolejgaaGreatDoorK14
import Derived.Test.YthjkfdakolejgaaGreatDoorK3
import Derived.Test.YthjkfdakolejgaaGreatDoorK5
import Derived.Test.YthjkfdakolejgaaGreatDoorK8
import Derived.Test.YthjkfdakolejgaaGreatDoorProg
import Derived.Test.YthjkfdakolejgaaGreatDoorK11
import Derived.Test.YthjkfdakolejgaaGreatDoorK12
set_option linter.all false
set_option linter.unusedSimpArgs false
set_option linter.unusedVariables false
set_option linter.unusedSectionVars false
set_option maxHeartbeats 256000000
set_option maxRecDepth 100000
section
open Go Go.Proofs AF HY LN
namespace RC
theorem qEE(s:Str)(h:List AObj)(hs:s.length≤1000000000):ACalls Tryz.prog 184 [.str s] h (.bool (qmE s)) h:=by
 have c1:=fun h=>t53 s h hs
 unfold qmE
 by_cases g:s= []
 ·subst g;rw[dqt rfl,Bool.true_or];refine acO qsp ?_;simp (disch:=omega) only[qtr,go_sem]
  repeat' first
   |(refine qj ( .bool false) ?_;simp (disch:=omega) only[go_sem])
   |(apply qd;exact rvk;simp only[go_sem];exact qi)
 ·have k1:(s= [])=False:=eqf g;rw[dqf g,Bool.false_or];refine acO qsp ?_;simp (disch:=omega) only[qtr,k1,go_sem]
  repeat' first
   |(refine cG (fun e=>c1 _) flk ?_;simp (disch:=omega) only[go_sem])
   |(apply qd;exact rvk;simp only[go_sem];exact qi)
theorem quJ(c:UInt8):qaV c=(decide (kind c=1)||(decide (kind c=2)||(decide (kind c=3)||decide (kind c=4)))):=by
 unfold qaV;cases decide (kind c=1)<;>cases decide (kind c=2)<;>cases decide (kind c=3)<;>rfl
theorem qFZ(c:UInt8)(h:List AObj):ACalls Tryz.prog 183 [.int .u8 (c.toNat:Int)] h (.bool (qaV c)) h:=by
 have c5:=fun h=>qdn c h
 rw[quJ];obtain⟨k,hk⟩: ∃k,k=kind c:=⟨_,rfl⟩
 rw[←hk]at c5 ⊢
 by_cases g1:k=1
 ·have q1:(k=1)=True:=eqt g1;rw[dqt g1,Bool.true_or];refine acO qhx ?_;simp (disch:=omega) only[qk2,go_sem]
  repeat' first
   |(refine cA (c5 _) flk ?_;simp (disch:=omega) only[q1,go_sem])
   |(apply qd;exact rvk;simp only[go_sem];exact qi)
 have q1:(k=1)=False:=eqf g1;rw[dqf g1,Bool.false_or]
 by_cases g2:k=2
 ·have q2:(k=2)=True:=eqt g2;rw[dqt g2,Bool.true_or];refine acO qhx ?_;simp (disch:=omega) only[qk2,go_sem]
  repeat' first
   |(refine cA (c5 _) flk ?_;simp (disch:=omega) only[q1,q2,go_sem])
   |(apply qd;exact rvk;simp only[go_sem];exact qi)
 have q2:(k=2)=False:=eqf g2;rw[dqf g2,Bool.false_or]
 by_cases g3:k=3
 ·have q3:(k=3)=True:=eqt g3;rw[dqt g3,Bool.true_or];refine acO qhx ?_;simp (disch:=omega) only[qk2,go_sem]
  repeat' first
   |(refine cA (c5 _) flk ?_;simp (disch:=omega) only[q1,q2,q3,go_sem])
   |(apply qd;exact rvk;simp only[go_sem];exact qi)
 have q3:(k=3)=False:=eqf g3;rw[dqf g3,Bool.false_or];refine acO qhx ?_;simp (disch:=omega) only[qk2,go_sem]
 repeat' first
  |(refine cA (c5 _) flk ?_;simp (disch:=omega) only[q1,q2,q3,go_sem])
  |(apply qd;exact rvk;simp only[go_sem];exact qi)
theorem qCE: ∀f:Nat,f<32→decide ((f:Int)/2%2=1)=f.testBit 1:=by decide+kernel
theorem qCF: ∀f:Nat,f<32→decide ((f:Int)/8%2=1)=f.testBit 3:=by decide+kernel
theorem tkR(t:Tk)(h:List AObj)(hz:qsa t)(hp:kQ SG h):ACalls Tryz.prog 138 [.agg (tkC t)] h (.int .i64 (tkE t)) h:=by
 obtain⟨R,hR⟩: ∃R,R=tkE t:=⟨_,rfl⟩
 rw[←hR];unfold tkE at hR
 by_cases g1:t.flags<0
 ·have k1:(t.flags<0)=True:=eqt g1;rw[ipo (.inl g1)]at hR;rw[hR];refine acO zZ ?_;simp (disch:=omega) only[jX,tkC,go_sem]
  repeat' first
   |(apply qb;exact rvk;simp only[go_sem];exact qi)
   |with_reducible first|intro _|apply aiA
  all_goals try exact clz
 have k1:(t.flags<0)=False:=eqf g1
 by_cases g2:31<t.flags
 ·have k2:((31:Int)<t.flags)=True:=eqt g2;rw[ipo (.inr g2)]at hR;rw[hR];refine acO zZ ?_;simp (disch:=omega) only[jX,tkC,go_sem]
  repeat' first
   |(apply qb;exact rvk;simp only[go_sem];exact qi)
   |with_reducible first|intro _|apply aiA
  all_goals try exact clz
 have k2:((31:Int)<t.flags)=False:=eqf g2;rw[ine om]at hR;obtain⟨f,hf⟩: ∃f:Nat,t.flags=(f:Int):=⟨t.flags.toNat,om⟩
 have hf2:f<32:=by omega
 have eg:qiS t.flags=f.testBit 1:=by unfold qiS;rw[hf,itn]
 have ek:mkB t.flags=f.testBit 3:=by unfold mkB;rw[hf,itn]
 have dA:=fun h=>qEA t.text t.norm t.page t.line t.flags 2 t.name h om om (by decide)
 have dB:=fun h=>qEA t.text t.norm t.page t.line t.flags 8 t.name h om om (by decide)
 have cP:=fun l=>qEE t.page (h++l) hz.pg
 have cM:=fun l=>qEE t.name (h++l) hz.na
 have hG:=fun l=>qFd t.text (h++l) hz.tx (hp.app l)
 have cW:=fun l=>t93 t.text (h++l) hz.tx
 have cK:=fun h=>qdn (ch t.text 0) h
 have e0:(t.text[0]?).getD 0=ch t.text 0:=by simp[ch,gdqA]
 unfold txB at hR;rw[eg,ek]at hR;rw[hf]at dA dB k1 k2;rw[qCE f hf2]at dA;rw[qCF f hf2]at dB;obtain⟨bp,hbp⟩: ∃b,b=qmE t.page:=⟨_,rfl⟩
 obtain⟨bm,hbm⟩: ∃b,b=qmE t.name:=⟨_,rfl⟩
 obtain⟨bg,hbg⟩: ∃b,b=qfu t.text:=⟨_,rfl⟩
 obtain⟨bw,hbw⟩: ∃b,b=kE t.text:=⟨_,rfl⟩
 rw[←hbp,←hbm,←hbg,←hbw]at hR;simp only[←hbp]at cP;simp only[←hbm]at cM;simp only[←hbg]at hG;simp only[←hbw]at cW;have eM:qwz t.text=(decide (t.text.length=1)&&(decide (kind (ch t.text 0)=5)||decide (kind (ch t.text 0)=4))):=rfl;have eN:qwB t.norm=(decide (t.norm≠ [])&&(decide (t.norm.length≤64)&&(List.range t.norm.length).all fun i=>qaV (ch t.norm i))):=rfl;rw[eM,eN]at hR;obtain⟨kd,hkd⟩: ∃kd,kd=kind (ch t.text 0):=⟨_,rfl⟩
 rw[←hkd]at hR cK;have q2:(t.text.length=1)=True→((0:Int)<t.text.length)=True:=fun e=>eqt (by have:=of_eq_true e;omega)
 cases ga:f.testBit 1<;>cases gb:f.testBit 3<;>rw[ga]at hR dA<;>rw[gb]at hR dB<;>simp only[Bool.false_eq_true,if_true,if_false,and_true,and_false,and_self]at hR
 ·cases bw with
  |false=>
   rw[Bool.false_and,ipo rfl]at hR;rw[hR];refine acO zZ ?_;simp (disch:=omega) only[jX,tkC,hf,k1,k2,go_sem]
   repeat' first
    |((first|refine cA (dA _) ?_ ?_|refine cA (dB _) ?_ ?_|refine cA (cW _) ?_ ?_);exact flk;simp (disch:=omega) only[go_sem])
    |(apply qb;exact rvk;simp only[go_sem];exact qi)
  |true=>
  rw[Bool.true_and]at hR
  by_cases g5:t.norm= []
  ·have k5:(t.norm= [])=True:=eqt g5;rw[dqf (fun hc=>hc g5),Bool.false_and,ipo rfl]at hR;rw[hR];refine acO zZ ?_;simp (disch:=omega) only[jX,tkC,hf,k1,k2,go_sem]
   repeat' first
    |((first|refine cA (dA _) ?_ ?_|refine cA (dB _) ?_ ?_|refine cA (cW _) ?_ ?_);exact flk;simp (disch:=omega) only[k5,go_sem])
    |(apply qb;exact rvk;simp only[go_sem];exact qi)
  have k5:(t.norm= [])=False:=eqf g5;rw[dqt g5,Bool.true_and]at hR
  by_cases g6:t.norm.length≤64
  case neg=>
   have k6:((64:Int)<t.norm.length)=True:=eqt om;rw[dqf g6,Bool.false_and,ipo rfl]at hR;rw[hR];refine acO zZ ?_;simp (disch:=omega) only[jX,tkC,hf,k1,k2,go_sem]
   repeat' first
    |((first|refine cA (dA _) ?_ ?_|refine cA (dB _) ?_ ?_|refine cA (cW _) ?_ ?_);exact flk;simp (disch:=omega) only[k5,k6,go_sem])
    |(apply qb;exact rvk;simp only[go_sem];exact qi)
  have k6:((64:Int)<t.norm.length)=False:=eqf om;rw[dqt g6,Bool.true_and]at hR;refine acO zZ ?_;simp (disch:=omega) only[jX,tkC,hf,k1,k2,go_sem]
  repeat' first
   |((first|refine cA (dA _) ?_ ?_|refine cA (dB _) ?_ ?_|refine cA (cW _) ?_ ?_);exact flk;simp (disch:=omega) only[k5,k6,go_sem])
  refine qu (T:=fun i:Nat=>ze 105 [(1,.op h.length 1 0),(5,.int .i64 i)]) (H:=fun _=>h++ [.mem 1 103 [.str t.text,.str t.norm,.str t.page,.int .i64 t.line,.int .i64 (f:Int),.str t.name]]) (inv:=fun i=>i≤t.norm.length∧ ∀j,j<i→qaV (ch t.norm j)=true) (m:=fun i=>t.norm.length-i) 0 ⟨nzl _,fun j hj=>absurd hj (nnz j)⟩ (Wk.temps ?_) ?_
  ·(simp only[go_sem,qg,qc,qa,qf];try (repeat' first|(with_reducible apply aiA)|(apply qh;omega)|(apply qe;rfl)|exact qi))
  rintro i ⟨i1,i2⟩ K hK
  by_cases hi:i<t.norm.length
  ·have r1:((i:Int)<t.norm.length)=True:=eqt om;have r0:(0≤(i:Int))=True:=eqt om;have ei:(t.norm[i]?).getD 0=ch t.norm i:=by unfold ch;exact (gdqA).symm
   have cV:=fun h=>qFZ (ch t.norm i) h
   cases gi:qaV (ch t.norm i)with
   |false=>
    rw[gi]at cV;have hall:((List.range t.norm.length).all fun i=>qaV (ch t.norm i))=false:=by
     rw[List.all_eq_false];exact⟨i,by simpa using hi,by rw[gi];simp⟩
    rw[hall,ipo rfl]at hR;rw[hR];simp (disch:=omega) only[r0,r1,ei,go_sem]
    repeat' first
     |(refine cA (cV _) flk ?_;simp (disch:=omega) only[go_sem])
     |(apply qb;exact rvk;simp only[go_sem];exact qi)
   |true=>
    rw[gi]at cV;simp (disch:=omega) only[r0,r1,ei,go_sem]
    repeat' first
     |(refine cA (cV _) flk ?_;simp (disch:=omega) only[go_sem])
    refine hK _ _ (i+1) ⟨hi,fun j hj=> ?_⟩ om (Wk.temps ?_)
    ·by_cases e:j=i
     ·subst e;exact gi
     ·exact i2 j om
    ·(simp only[go_sem,qg,qc,qa,qf];try (repeat' first|(with_reducible apply aiA)|(apply qh;omega)|(apply qe;rfl)|exact qi))
  have r1:((i:Int)<t.norm.length)=False:=eqf om;have hall:((List.range t.norm.length).all fun i=>qaV (ch t.norm i))=true:=by
   rw[List.all_eq_true];exact fun j hj=>i2 j (by have:=List.mem_range.1 hj;omega)
  rw[hall,ine (by simp)]at hR;clear hK
  by_cases g4:t.line<0
  ·have k4:(t.line<0)=True:=eqt g4;rw[ipo g4]at hR;rw[hR];simp (disch:=omega) only[r1,k4,go_sem]
   repeat' first
    |(apply qb;exact rvk;simp only[go_sem];exact qi)
  have k4:(t.line<0)=False:=eqf g4;rw[ine g4]at hR;cases bp with
  |false=>
   rw[ipo (.inl rfl)]at hR;rw[hR];simp (disch:=omega) only[r1,k4,go_sem]
   repeat' first
    |(refine qj ( .bool false) ?_;simp (disch:=omega) only[go_sem])
    |(refine cA (cP _) flk ?_;simp (disch:=omega) only[go_sem])
    |(apply qb;exact rvk;simp only[go_sem];exact qi)
  |true=>
  cases bm with
  |false=>
   rw[ipo (.inr rfl)]at hR;rw[hR];simp (disch:=omega) only[r1,k4,go_sem]
   repeat' first
    |((first|refine cA (cP _) ?_ ?_|refine cG (fun e=>cM _) ?_ ?_);exact flk;simp (disch:=omega) only[go_sem])
    |(apply qb;exact rvk;simp only[go_sem];exact qi)
    |with_reducible apply aiA
   all_goals try exact clz
  |true=>
  rw[ine (by simp)]at hR;rw[hR];simp (disch:=omega) only[r1,k4,go_sem]
  repeat' first
   |((first|refine cA (cP _) ?_ ?_|refine cG (fun e=>cM _) ?_ ?_);exact flk;simp (disch:=omega) only[go_sem])
   |(apply qb;exact rvk;simp only[go_sem];exact qi)
   |with_reducible apply aiA
  all_goals try exact clz
 ·by_cases g5:t.text.length=1
  case neg=>
   have k5:((t.text.length:Int)=1)=False:=eqf om;rw[dqf g5,Bool.false_and,Bool.false_and,ipo rfl]at hR;rw[hR];refine acO zZ ?_;simp (disch:=omega) only[jX,tkC,hf,k1,k2,go_sem]
   repeat' first
    |(refine qj ( .int .i64 0) ?_;simp (disch:=omega) only[go_sem])
    |((first|refine cA (dA _) ?_ ?_|refine cA (dB _) ?_ ?_);exact flk;simp (disch:=omega) only[k5,go_sem])
    |(apply qb;exact rvk;simp only[go_sem];exact qi)
    |with_reducible first|intro _|apply aiA
   all_goals try exact clz
  have k5:((t.text.length:Int)=1)=True:=eqt om;have k6:((0:Int)<t.text.length)=True:=eqt om;rw[dqt g5,Bool.true_and]at hR
  by_cases g50:kd=5
  ·have k50:(kd=5)=True:=eqt g50;rw[dqt g50,Bool.true_or,Bool.true_and]at hR
   by_cases g7:t.norm=t.text
   case neg=>
    have k7:(t.norm=t.text)=False:=eqf g7;rw[dqf g7,ipo rfl]at hR;rw[hR];refine acO zZ ?_;simp (disch:=omega) only[jX,tkC,hf,k1,k2,false_imp_iff,true_imp_iff,go_sem]
    repeat' first
     |(refine qj ( .int .i64 0) ?_;simp (disch:=omega) only[false_and,false_imp_iff,true_imp_iff,k7,go_sem])
     |((first|refine cA (dA _) ?_ ?_|refine cA (dB _) ?_ ?_|refine cG (fun e=>cK _) ?_ ?_);exact flk;simp (disch:=omega) only[k5,k6,e0,Int.toNat_zero,k50,false_and,false_imp_iff,true_imp_iff,go_sem])
     |(apply qb;exact rvk;simp only[go_sem];exact qi)
     |with_reducible first|intro _|apply aiA
    all_goals try exact clz
   have k7:(t.norm=t.text)=True:=eqt g7;rw[dqt g7,ine (by simp)]at hR
   by_cases g4:t.line<0
   ·have k4:(t.line<0)=True:=eqt g4;rw[ipo g4]at hR;rw[hR];refine acO zZ ?_;simp (disch:=omega) only[jX,tkC,hf,k1,k2,false_imp_iff,true_imp_iff,go_sem]
    repeat' first
     |(refine qj ( .int .i64 0) ?_;simp (disch:=omega) only[false_and,false_imp_iff,true_imp_iff,k7,k4,go_sem])
     |((first|refine cA (dA _) ?_ ?_|refine cA (dB _) ?_ ?_|refine cG (fun e=>cK _) ?_ ?_);exact flk;simp (disch:=omega) only[k5,k6,e0,Int.toNat_zero,k50,false_and,false_imp_iff,true_imp_iff,go_sem])
     |(apply qb;exact rvk;simp only[go_sem];exact qi)
     |with_reducible apply aiA
    all_goals try exact clz
   have k4:(t.line<0)=False:=eqf g4;rw[ine g4]at hR;cases bp with
   |false=>
    rw[ipo (.inl rfl)]at hR;rw[hR];refine acO zZ ?_;simp (disch:=omega) only[jX,tkC,hf,k1,k2,false_imp_iff,true_imp_iff,go_sem]
    repeat' first
     |(refine qj ( .int .i64 0) ?_;simp (disch:=omega) only[false_and,false_imp_iff,true_imp_iff,k7,k4,go_sem])
     |((first|refine cA (dA _) ?_ ?_|refine cA (dB _) ?_ ?_|refine cG (fun e=>cK _) ?_ ?_|refine cA (cP _) ?_ ?_);exact flk;simp (disch:=omega) only[k5,k6,e0,Int.toNat_zero,k50,false_and,false_imp_iff,true_imp_iff,go_sem])
     |(apply qb;exact rvk;simp only[go_sem];exact qi)
     |with_reducible apply aiA
    all_goals try exact clz
   |true=>
   cases bm with
   |false=>
    rw[ipo (.inr rfl)]at hR;rw[hR];refine acO zZ ?_;simp (disch:=omega) only[jX,tkC,hf,k1,k2,false_imp_iff,true_imp_iff,go_sem]
    repeat' first
     |(refine qj ( .int .i64 0) ?_;simp (disch:=omega) only[false_and,false_imp_iff,true_imp_iff,k7,k4,go_sem])
     |((first|refine cA (dA _) ?_ ?_|refine cA (dB _) ?_ ?_|refine cG (fun e=>cK _) ?_ ?_|refine cA (cP _) ?_ ?_|refine cG (fun e=>cM _) ?_ ?_);exact flk;simp (disch:=omega) only[k5,k6,e0,Int.toNat_zero,k50,false_and,false_imp_iff,true_imp_iff,go_sem])
     |(apply qb;exact rvk;simp only[go_sem];exact qi)
     |with_reducible apply aiA
    all_goals try exact clz
   |true=>
   rw[ine (by simp)]at hR;rw[hR];refine acO zZ ?_;simp (disch:=omega) only[jX,tkC,hf,k1,k2,false_imp_iff,true_imp_iff,go_sem]
   repeat' first
    |(refine qj ( .int .i64 0) ?_;simp (disch:=omega) only[false_and,false_imp_iff,true_imp_iff,k7,k4,go_sem])
    |((first|refine cA (dA _) ?_ ?_|refine cA (dB _) ?_ ?_|refine cG (fun e=>cK _) ?_ ?_|refine cA (cP _) ?_ ?_|refine cG (fun e=>cM _) ?_ ?_);exact flk;simp (disch:=omega) only[k5,k6,e0,Int.toNat_zero,k50,false_and,false_imp_iff,true_imp_iff,go_sem])
    |(apply qb;exact rvk;simp only[go_sem];exact qi)
    |with_reducible apply aiA
   all_goals try exact clz
  have k50:(kd=5)=False:=eqf g50;rw[dqf g50,Bool.false_or]at hR
  by_cases g40:kd=4
  ·have k40:(kd=4)=True:=eqt g40;rw[dqt g40,Bool.true_and]at hR
   by_cases g7:t.norm=t.text
   case neg=>
    have k7:(t.norm=t.text)=False:=eqf g7;rw[dqf g7,ipo rfl]at hR;rw[hR];refine acO zZ ?_;simp (disch:=omega) only[jX,tkC,hf,k1,k2,go_sem]
    repeat' first
     |((first|refine cA (dA _) ?_ ?_|refine cA (dB _) ?_ ?_|refine cG (fun e=>cK _) ?_ ?_);exact flk;simp (disch:=omega) only[k5,k6,e0,Int.toNat_zero,k50,k40,k7,go_sem])
     |(apply qb;exact rvk;simp only[go_sem];exact qi)
     |with_reducible apply aiA
    all_goals try exact clz
   have k7:(t.norm=t.text)=True:=eqt g7;rw[dqt g7,ine (by simp)]at hR
   by_cases g4:t.line<0
   ·have k4:(t.line<0)=True:=eqt g4;rw[ipo g4]at hR;rw[hR];refine acO zZ ?_;simp (disch:=omega) only[jX,tkC,hf,k1,k2,go_sem]
    repeat' first
     |((first|refine cA (dA _) ?_ ?_|refine cA (dB _) ?_ ?_|refine cG (fun e=>cK _) ?_ ?_);exact flk;simp (disch:=omega) only[k5,k6,e0,Int.toNat_zero,k50,k40,k7,k4,go_sem])
     |(apply qb;exact rvk;simp only[go_sem];exact qi)
     |with_reducible apply aiA
    all_goals try exact clz
   have k4:(t.line<0)=False:=eqf g4;rw[ine g4]at hR;cases bp with
   |false=>
    rw[ipo (.inl rfl)]at hR;rw[hR];refine acO zZ ?_;simp (disch:=omega) only[jX,tkC,hf,k1,k2,go_sem]
    repeat' first
     |(refine qj ( .bool false) ?_;simp (disch:=omega) only[go_sem])
     |((first|refine cA (dA _) ?_ ?_|refine cA (dB _) ?_ ?_|refine cG (fun e=>cK _) ?_ ?_|refine cA (cP _) ?_ ?_);exact flk;simp (disch:=omega) only[k5,k6,e0,Int.toNat_zero,k50,k40,k7,k4,go_sem])
     |(apply qb;exact rvk;simp only[go_sem];exact qi)
     |with_reducible apply aiA
    all_goals try exact clz
   |true=>
   cases bm with
   |false=>
    rw[ipo (.inr rfl)]at hR;rw[hR];refine acO zZ ?_;simp (disch:=omega) only[jX,tkC,hf,k1,k2,go_sem]
    repeat' first
     |((first|refine cA (dA _) ?_ ?_|refine cA (dB _) ?_ ?_|refine cG (fun e=>cK _) ?_ ?_|refine cA (cP _) ?_ ?_|refine cG (fun e=>cM _) ?_ ?_);exact flk;simp (disch:=omega) only[k5,k6,e0,Int.toNat_zero,k50,k40,k7,k4,go_sem])
     |(apply qb;exact rvk;simp only[go_sem];exact qi)
     |with_reducible apply aiA
    all_goals try exact clz
   |true=>
   rw[ine (by simp)]at hR;rw[hR];refine acO zZ ?_;simp (disch:=omega) only[jX,tkC,hf,k1,k2,go_sem]
   repeat' first
    |((first|refine cA (dA _) ?_ ?_|refine cA (dB _) ?_ ?_|refine cG (fun e=>cK _) ?_ ?_|refine cA (cP _) ?_ ?_|refine cG (fun e=>cM _) ?_ ?_);exact flk;simp (disch:=omega) only[k5,k6,e0,Int.toNat_zero,k50,k40,k7,k4,go_sem])
    |(apply qb;exact rvk;simp only[go_sem];exact qi)
    |with_reducible apply aiA
   all_goals try exact clz
  have k40:(kd=4)=False:=eqf g40;rw[dqf g40,Bool.false_and,ipo rfl]at hR;rw[hR];refine acO zZ ?_;simp (disch:=omega) only[jX,tkC,hf,k1,k2,go_sem]
  repeat' first
   |((first|refine cA (dA _) ?_ ?_|refine cA (dB _) ?_ ?_|refine cG (fun e=>cK _) ?_ ?_);exact flk;simp (disch:=omega) only[k5,k6,e0,Int.toNat_zero,k50,k40,go_sem])
   |(apply qb;exact rvk;simp only[go_sem];exact qi)
   |with_reducible apply aiA
  all_goals try exact clz
 ·cases bg with
  |false=>
   rw[Bool.false_and,ipo rfl]at hR;rw[hR];refine acO zZ ?_;simp (disch:=omega) only[jX,tkC,hf,k1,k2,go_sem]
   repeat' first
    |((first|refine cA (dA _) ?_ ?_|refine cA (dB _) ?_ ?_|refine cA (hG _) ?_ ?_);exact flk;simp (disch:=omega) only[go_sem])
    |(apply qb;exact rvk;simp only[go_sem];exact qi)
  |true=>
  rw[Bool.true_and]at hR
  by_cases g7:t.norm=t.text
  case neg=>
   have k7:(t.norm=t.text)=False:=eqf g7;rw[dqf g7,ipo rfl]at hR;rw[hR];refine acO zZ ?_;simp (disch:=omega) only[jX,tkC,hf,k1,k2,go_sem]
   repeat' first
    |((first|refine cA (dA _) ?_ ?_|refine cA (dB _) ?_ ?_|refine cA (hG _) ?_ ?_);exact flk;simp (disch:=omega) only[k7,go_sem])
    |(apply qb;exact rvk;simp only[go_sem];exact qi)
  have k7:(t.norm=t.text)=True:=eqt g7;rw[dqt g7,ine (by simp)]at hR
  by_cases g4:t.line<0
  ·have k4:(t.line<0)=True:=eqt g4;rw[ipo g4]at hR;rw[hR];refine acO zZ ?_;simp (disch:=omega) only[jX,tkC,hf,k1,k2,go_sem]
   repeat' first
    |((first|refine cA (dA _) ?_ ?_|refine cA (dB _) ?_ ?_|refine cA (hG _) ?_ ?_);exact flk;simp (disch:=omega) only[k7,k4,go_sem])
    |(apply qb;exact rvk;simp only[go_sem];exact qi)
  have k4:(t.line<0)=False:=eqf g4;rw[ine g4]at hR;cases bp with
  |false=>
   rw[ipo (.inl rfl)]at hR;rw[hR];refine acO zZ ?_;simp (disch:=omega) only[jX,tkC,hf,k1,k2,go_sem]
   repeat' first
    |(refine qj ( .bool false) ?_;simp (disch:=omega) only[go_sem])
    |((first|refine cA (dA _) ?_ ?_|refine cA (dB _) ?_ ?_|refine cA (hG _) ?_ ?_|refine cA (cP _) ?_ ?_);exact flk;simp (disch:=omega) only[k7,k4,go_sem])
    |(apply qb;exact rvk;simp only[go_sem];exact qi)
  |true=>
  cases bm with
  |false=>
   rw[ipo (.inr rfl)]at hR;rw[hR];refine acO zZ ?_;simp (disch:=omega) only[jX,tkC,hf,k1,k2,go_sem]
   repeat' first
    |((first|refine cA (dA _) ?_ ?_|refine cA (dB _) ?_ ?_|refine cA (hG _) ?_ ?_|refine cA (cP _) ?_ ?_|refine cG (fun e=>cM _) ?_ ?_);exact flk;simp (disch:=omega) only[k7,k4,go_sem])
    |(apply qb;exact rvk;simp only[go_sem];exact qi)
    |with_reducible apply aiA
   all_goals try exact clz
  |true=>
  rw[ine (by simp)]at hR;rw[hR];refine acO zZ ?_;simp (disch:=omega) only[jX,tkC,hf,k1,k2,go_sem]
  repeat' first
   |((first|refine cA (dA _) ?_ ?_|refine cA (dB _) ?_ ?_|refine cA (hG _) ?_ ?_|refine cA (cP _) ?_ ?_|refine cG (fun e=>cM _) ?_ ?_);exact flk;simp (disch:=omega) only[k7,k4,go_sem])
   |(apply qb;exact rvk;simp only[go_sem];exact qi)
   |with_reducible apply aiA
  all_goals try exact clz
 ·rw[hR];refine acO zZ ?_;simp (disch:=omega) only[jX,tkC,hf,k1,k2,go_sem]
  repeat' first
   |((first|refine cA (dA _) ?_ ?_|refine cA (dB _) ?_ ?_);exact flk;simp (disch:=omega) only[go_sem])
   |(apply qb;exact rvk;simp only[go_sem];exact qi)
theorem qA1(s:Str)(h:List AObj)(hs:s.length≤1000000000):ACalls Tryz.prog 137 [.str s] h (.bool (qrw s)) h:=by
 unfold qrw;have c1:=fun h=>t53 s h hs
 by_cases g:1≤s.length
 ·rw[qrG s g];have k0:((0:Int)<s.length)=True:=eqt om;have k2:((s.length:Int)-1).toNat=s.length-1:=by omega
  have k3:(0≤(s.length:Int)-1)=True:=eqt om;have k4:((s.length:Int)-1≤s.length)=True:=eqt om;have k5:((s.length:Int)-1<s.length)=True:=eqt om;obtain⟨b,hb⟩: ∃b,b=(s[s.length-1]?).getD 0:=⟨_,rfl⟩
  have eb:=hb.symm;rw[eb];have c2:=fun h=>t53 (s.take (s.length-1)) h (by simp;omega)
  by_cases g2:b.toNat=42
  ·have k6:((b.toNat:Int)=42)=True:=eqt om;rw[ipo (by simpa using g2)]
   by_cases g3:s.length≤16
   ·have k7:((s.length:Int)≤16)=True:=eqt om;rw[dqt g3];refine acO qhu ?_;simp (disch:=omega) only[qkZ,k0,k2,k3,k4,k5,eb,k6,k7,go_sem]
    repeat' first
     |(refine cG (fun e=>c2 _) flk ?_;simp (disch:=omega) only[go_sem])
     |(apply qd;exact rvk;simp only[go_sem];exact qi)
     |with_reducible apply aiA
    all_goals try exact clz
   ·have k7:((s.length:Int)≤16)=False:=eqf om;rw[dqf g3];refine acO qhu ?_;simp (disch:=omega) only[qkZ,k0,k2,k3,k4,k5,eb,k6,k7,go_sem]
    repeat' first
     |(refine qj ( .bool false) ?_;simp (disch:=omega) only[go_sem])
     |(apply qd;exact rvk;simp only[go_sem];exact qi)
  ·have k6:((b.toNat:Int)=42)=False:=eqf om;rw[ine (by simpa using g2)];refine acO qhu ?_;simp (disch:=omega) only[qkZ,k0,k2,k3,k4,k5,eb,k6,go_sem]
   repeat' first
    |(refine cA (c1 _) flk ?_;simp (disch:=omega) only[go_sem])
    |(apply qd;exact rvk;simp only[go_sem];exact qi)
 ·have e:s= []:=List.eq_nil_of_length_eq_zero om;subst e;rw[ine (by decide)];refine acO qhu ?_;simp (disch:=omega) only[qkZ,go_sem]
  repeat' first
   |((first|refine cA (c1 _) ?_ ?_|refine cG (fun e=>c1 _) ?_ ?_);exact flk;simp (disch:=omega) only[go_sem])
   |(apply qd;exact rvk;simp only[go_sem];exact qi)
   |with_reducible first|intro _|apply aiA
  all_goals try exact clz
theorem hdR(x:Co)(h:List AObj)(hz:qdE x)(hp:kQ SG h):ACalls Tryz.prog 86 [.str x.sec,strs x.sig,qm x.tok] h (.int .i64 (srE x)) h:=by
 obtain⟨R,hR⟩: ∃R,R=srE x:=⟨_,rfl⟩
 rw[←hR];unfold srE at hR;have z1:=hz.sg;have z2:=hz.tk;have cN:=fun h=>t53 x.sec h hz.sc
 cases g0:qac x.sec with
 |false=>
  rw[g0]at cN;rw[ipo g0]at hR;rw[hR];refine acO qqf ?_;simp (disch:=omega) only[qya,strs,qm,go_sem]
  repeat' first
   |(refine cA (cN _) flk ?_;simp (disch:=omega) only[go_sem])
   |(apply qd;exact rvk;simp only[go_sem];exact qi)
 |true=>
 rw[g0]at cN;rw[ine (by rw[g0];simp)]at hR
 by_cases g1:x.sig.length=0
 ·have k1:((x.sig.length:Int)=0)=True:=eqt om;rw[ipo g1]at hR;rw[hR];refine acO qqf ?_;simp (disch:=omega) only[qya,strs,qm,go_sem]
  repeat' first
   |(refine cA (cN _) flk ?_;simp (disch:=omega) only[k1,go_sem])
   |(apply qd;exact rvk;simp only[go_sem];exact qi)
 have k1:((x.sig.length:Int)=0)=False:=eqf om;rw[ine g1]at hR
 by_cases g2:32<x.sig.length
 ·have k2:((32:Int)<x.sig.length)=True:=eqt om;rw[ipo g2]at hR;rw[hR];refine acO qqf ?_;simp (disch:=omega) only[qya,strs,qm,go_sem]
  repeat' first
   |(refine cA (cN _) flk ?_;simp (disch:=omega) only[k1,k2,go_sem])
   |(apply qd;exact rvk;simp only[go_sem];exact qi)
 have k2:((32:Int)<x.sig.length)=False:=eqf om;rw[ine g2]at hR;refine acO qqf ?_;simp (disch:=omega) only[qya,strs,qm,go_sem]
 repeat' first
  |(refine cA (cN _) flk ?_;simp (disch:=omega) only[k1,k2,go_sem])
 refine qu (T:=fun i:Nat=>ze 81 [(1,strs x.sig),(2,qm x.tok),(7,.int .i64 i)]) (H:=fun _=>h) (inv:=fun i=>i≤x.sig.length∧ ∀j,j<i→j8 x.sig j=0) (m:=fun i=>x.sig.length-i) 0 ⟨nzl _,fun j hj=>by omega⟩ (Wk.temps ?_) ?_
 ·(simp only[strs,qm,go_sem,qg,qc,qa,qf];try (repeat' first|(with_reducible apply aiA)|(apply qh;omega)|(apply qe;rfl)|exact qi))
 rintro i ⟨i1,i2⟩ K hK
 by_cases hi:i<x.sig.length
 ·have k3:((i:Int)<x.sig.length)=True:=eqt om;have hE:=qaU (f:=j8 x.sig) hi i2;have hs:j8 x.sig i=if qrw (x.sig.getD i [])=false then 14 else if ju (fun j=>decide (x.sig.getD i []=x.sig.getD j [])) i=true then 7 else 0:=rfl
  have c87:=fun h=>qA1 (x.sig.getD i []) h (hz.ss i)
  obtain⟨s,hsx⟩: ∃s,s=x.sig.getD i []:=⟨_,rfl⟩
  have es:=hsx.symm;rw[es]at hs c87;cases g3:qrw s with
  |false=>
   rw[g3]at c87;rw[ipo g3]at hs;have hne:qbs (j8 x.sig) 0 x.sig.length≠0:=by rw[hE (by rw[hs];decide),hs];decide
   have hV:R=14:=by rw[hR,ipo hne,hE (by rw[hs];decide),hs]
   rw[hV];simp (disch:=omega) only[strs,qm,k3,es,go_sem]
   repeat' first
    |(refine cA (c87 _) flk ?_;simp (disch:=omega) only[go_sem])
    |(apply qd;exact rvk;simp only[go_sem];exact qi)
    |with_reducible apply aiA
   all_goals try exact clz
  |true=>
  rw[g3]at c87;rw[ine (by rw[g3];simp)]at hs;simp (disch:=omega) only[strs,qm,k3,es,go_sem]
  repeat' first
   |(refine cA (c87 _) flk ?_;simp (disch:=omega) only[go_sem])
   |with_reducible apply aiA
  all_goals try exact clz
  refine qu (T:=fun k:Nat=>ze 81 [(1,strs x.sig),(2,qm x.tok),(7,.int .i64 i),(8,.int .i64 k)]) (H:=fun _=>h) (inv:=fun k=>k≤i∧ ∀j,j<k→ ¬s=x.sig.getD j []) (m:=fun k=>i-k) 0 ⟨nzl _,fun j hj=>by omega⟩ (Wk.temps ?_) ?_
  ·(simp only[strs,qm,go_sem,qg,qc,qa,qf];try (repeat' first|(with_reducible apply aiA)|(apply qh;omega)|(apply qe;rfl)|exact qi))
  rintro k ⟨u1,u2⟩ K2 hK2
  by_cases hk:k<i
  ·have t1:((k:Int)<i)=True:=eqt om;have t2:((k:Int)<x.sig.length)=True:=eqt om;obtain⟨y,hy⟩: ∃y,y=x.sig.getD k []:=⟨_,rfl⟩
   have ey:=hy.symm
   by_cases g4:y=s
   ·have k4:(y=s)=True:=eqt g4;rw[ipo (qR.2 ⟨k,hk,by rw[ey,g4];simp⟩)]at hs;have hne:qbs (j8 x.sig) 0 x.sig.length≠0:=by rw[hE (by rw[hs];decide),hs];decide
    have hV:R=7:=by rw[hR,ipo hne,hE (by rw[hs];decide),hs]
    rw[hV];simp (disch:=omega) only[strs,qm,k3,t1,t2,k4,es,ey,go_sem]
    repeat' first
     |(apply qd;exact rvk;simp only[go_sem];exact qi)
     |with_reducible apply aiA
    all_goals try exact clz
   ·have k4:(y=s)=False:=eqf g4;simp (disch:=omega) only[strs,qm,k3,t1,t2,k4,es,ey,go_sem]
    repeat' first
     |with_reducible apply aiA
    all_goals try exact clz
    refine hK2 _ _ (k+1) ⟨hk,fun j hj=> ?_⟩ om (Wk.temps ?_)
    ·by_cases e:j=k
     ·subst e;rw[ey];exact fun e=>g4 e.symm
     ·exact u2 j om
    ·(simp only[strs,qm,go_sem,qg,qc,qa,qf];try (repeat' first|(with_reducible apply aiA)|(apply qh;omega)|(apply qe;rfl)|exact qi))
  ·have t1:((k:Int)<i)=False:=eqf om;obtain rfl:k=i:=by omega
   rw[ine (by rw[qt.2 fun j hj=>dqf (u2 j hj)];simp)]at hs;simp (disch:=omega) only[strs,qm,t1,go_sem];refine hK _ _ (k+1) ⟨hi,fun j hj=> ?_⟩ om (Wk.temps ?_)
   ·by_cases e:j=k
    ·subst e;exact hs
    ·exact i2 j om
   ·(simp only[strs,qm,go_sem,qg,qc,qa,qf];try (repeat' first|(with_reducible apply aiA)|(apply qh;omega)|(apply qe;rfl)|exact qi))
 have k3:((i:Int)<x.sig.length)=False:=eqf om;have hn0:=jY (f:=j8 x.sig) (fun j (hj:j<x.sig.length)=>i2 j om);rw[ine (fun hc=>hc hn0)]at hR
 by_cases g5:x.tok.length=x.sig.length
 case neg=>
  have k5:((x.tok.length:Int)=x.sig.length)=False:=eqf om;rw[ipo g5]at hR;rw[hR];simp (disch:=omega) only[strs,qm,k3,k5,go_sem]
  repeat' first
   |(apply qd;exact rvk;simp only[go_sem];exact qi)
 have k5:((x.tok.length:Int)=x.sig.length)=True:=eqt om;rw[ine (fun hc=>hc g5)]at hR;clear hK;simp (disch:=omega) only[strs,qm,k3,k5,go_sem];obtain⟨rw0,hrw⟩: ∃f:Nat→Int,f=fun i=>qeO (x.tok.getD i []):=⟨_,rfl⟩
 have er: ∀i,rw0 i=qeO (x.tok.getD i []):=fun i=>by rw[hrw]
 rw[←hrw]at hR;refine qu (T:=fun i:Nat=>ze 81 [(2,qm x.tok),(9,.int .i64 i)]) (H:=fun _=>h) (inv:=fun i=>i≤x.tok.length∧ ∀j,j<i→rw0 j=0) (m:=fun i=>x.tok.length-i) 0 ⟨nzl _,fun j hj=>by omega⟩ (Wk.temps ?_) ?_
 ·(simp only[qm,go_sem,qg,qc,qa,qf];try (repeat' first|(with_reducible apply aiA)|(apply qh;omega)|(apply qe;rfl)|exact qi))
 rintro i ⟨i1,i2⟩ K hK
 by_cases hi:i<x.tok.length
 ·have k6:((i:Int)<x.tok.length)=True:=eqt om;have hE:=qaU (f:=rw0) hi i2;have hs:=er i;have zl:=hz.tl i;have zt:=hz.te i;obtain⟨l,hl⟩: ∃l,l=x.tok.getD i []:=⟨_,rfl⟩
  have el:=hl.symm;rw[el]at hs zl;simp only[el]at zt;unfold qeO at hs
  by_cases g6:1024<l.length
  ·have k7:((1024:Int)<l.length)=True:=eqt om;rw[ipo g6]at hs;have hV:R=4:=by rw[hR,hE (by rw[hs];decide),hs]
   rw[hV];simp (disch:=omega) only[qm,zT,k6,k7,el,go_sem]
   repeat' first
    |(apply qd;exact rvk;simp only[go_sem];exact qi)
    |with_reducible apply aiA
   all_goals try exact clz
  have k7:((1024:Int)<l.length)=False:=eqf om;rw[ine g6]at hs;simp (disch:=omega) only[qm,zT,k6,k7,el,go_sem]
  repeat' first
   |with_reducible apply aiA
  all_goals try exact clz
  refine qu (T:=fun k:Nat=>ze 81 [(2,qm x.tok),(9,.int .i64 i),(10,.int .i64 k)]) (H:=fun _=>h) (inv:=fun k=>k≤l.length∧ ∀j,j<k→tkE (l.getD j default)=0) (m:=fun k=>l.length-k) 0 ⟨nzl _,fun j hj=>by omega⟩ (Wk.temps ?_) ?_
  ·(simp only[qm,zT,go_sem,qg,qc,qa,qf];try (repeat' first|(with_reducible apply aiA)|(apply qh;omega)|(apply qe;rfl)|exact qi))
  rintro k ⟨u1,u2⟩ K2 hK2
  by_cases hk:k<l.length
  ·have t1:((k:Int)<l.length)=True:=eqt om;have cT:=tkR (l.getD k default) h (zt k) hp;obtain⟨t,ht⟩: ∃t,t=l.getD k default:=⟨_,rfl⟩
   have et:=ht.symm;rw[et]at cT;obtain⟨e,he⟩: ∃e,e=tkE t:=⟨_,rfl⟩
   rw[←he]at cT;unfold tkC at cT
   by_cases g7:e=0
   ·have k8:(e=0)=True:=eqt g7;simp (disch:=omega) only[qm,zT,tkC,k6,t1,el,et,go_sem]
    repeat' first
     |(refine cA (cT) flk ?_;simp (disch:=omega) only[k8,go_sem])
     |with_reducible apply aiA
    all_goals try exact clz
    refine hK2 _ _ (k+1) ⟨hk,fun j hj=> ?_⟩ om (Wk.temps ?_)
    ·by_cases e:j=k
     ·subst e;rw[et,←he];exact g7
     ·exact u2 j om
    ·(simp only[qm,zT,go_sem,qg,qc,qa,qf];try (repeat' first|(with_reducible apply aiA)|(apply qh;omega)|(apply qe;rfl)|exact qi))
   ·have k8:(e=0)=False:=eqf g7;rw[ipo (qR.2 ⟨k,hk,by rw[et,←he];simp[g7]⟩)]at hs;have hV:R=1:=by rw[hR,hE (by rw[hs];decide),hs]
    rw[hV];simp (disch:=omega) only[qm,zT,tkC,k6,t1,el,et,go_sem]
    repeat' first
     |(refine cA (cT) flk ?_;simp (disch:=omega) only[k8,go_sem])
     |(apply qd;exact rvk;simp only[go_sem];exact qi)
     |with_reducible apply aiA
    all_goals try exact clz
  ·have t1:((k:Int)<l.length)=False:=eqf om;rw[ine (by rw[qt.2 fun j (hj:j<l.length)=>by rw[u2 j om];simp];simp)]at hs;simp (disch:=omega) only[qm,zT,k6,t1,el,go_sem]
   repeat' first
    |with_reducible apply aiA
   all_goals try exact clz
   refine hK _ _ (i+1) ⟨hi,fun j hj=> ?_⟩ om (Wk.temps ?_)
   ·by_cases e:j=i
    ·subst e;exact hs
    ·exact i2 j om
   ·(simp only[qm,zT,go_sem,qg,qc,qa,qf];try (repeat' first|(with_reducible apply aiA)|(apply qh;omega)|(apply qe;rfl)|exact qi))
 ·have k6:((i:Int)<x.tok.length)=False:=eqf om;rw[jY (fun j (hj:j<x.tok.length)=>i2 j om)]at hR;rw[hR];simp (disch:=omega) only[qm,k6,go_sem]
  repeat' first
   |(apply qd;exact rvk;simp only[go_sem];exact qi)
theorem coR(x:Co)(h:List AObj)(hz:qdE x)(hp:kQ SG h):ACalls Tryz.prog 29 [.agg (coC x)] h (.int .i64 (coE x)) h:=by
 have c1:=fun l=>hdR x (h++l) hz (hp.app l)
 unfold coE
 by_cases g:srE x=0
 case neg=>
  have k1:(srE x=0)=False:=eqf g;rw[ipo g];obtain⟨e,he⟩: ∃e,e=srE x:=⟨_,rfl⟩
  rw[←he]at c1 k1 ⊢;refine acO qzH ?_;simp (disch:=omega) only[qCg,coC,go_sem]
  repeat' first
   |(refine cA (c1 _) flk ?_;simp (disch:=omega) only[k1,go_sem])
   |(apply qb;exact rvk;simp only[go_sem];exact qi)
 rw[ine (fun hc=>hc g)];obtain⟨o1,o2,o3,o4⟩:=qsY g;rw[g]at c1;have zg1: ∀g,valL g .len [strs x.sig]= .int .i64 x.tok.length:=fun _=>by rw[o3];rfl
 have zg2: ∀g,okL g .len [strs x.sig]=True:=fun _=>eqt trivial
 have hn:=hz.tk;have hc:=hz.cl;have hl:=hz.tl;have hm:=hz.ce;obtain⟨R,hR⟩: ∃R,R=if alB x.tok x.col=false then (19:Int) else 0:=⟨_,rfl⟩
 rw[←hR];have k0:(0≤(x.tok.length:Int))=True:=eqt om;have k1:((x.tok.length:Int)≤9223372036854775807)=True:=eqt om;have eS:=o3.symm;refine acO qzH ?_;simp (disch:=omega) only[qCg,coC,go_sem]
 repeat' first
  |(refine cA (c1 _) flk ?_;simp (disch:=omega) only[k0,zg1,zg2,go_sem])
  |with_reducible apply aiA
 all_goals try exact clz
 all_goals try rw[itn]
 rw[qma];obtain⟨tok,htok⟩: ∃tok,tok=x.tok:=⟨_,rfl⟩
 obtain⟨col,hcol⟩: ∃col,col=x.col:=⟨_,rfl⟩
 have eS2:x.sig.length=tok.length:=by rw[htok];exact eS
 rw[←htok,←hcol]at hR;rw[←htok]at k0 k1 hn;simp only[←htok]at hl o4;rw[←hcol]at hc;simp only[←hcol]at hm;have eC:coC x= [.str x.sec,strs x.sig,qm tok,qw col]:=by rw[htok,hcol];rfl
 have zc:qw col= .sl col.length fun i=> [qI (col.getD i [])]:=rfl
 have zt:qm tok= .sl tok.length fun i=> [zT (tok.getD i [])]:=rfl
 try simp only[←htok,←hcol]
 rw[←qwT (col:=col)];refine qu (T:=fun i:Nat=>ze 99 [(1,.op h.length 1 0),(4,.osl (h.length+1) 1 1 0 tok.length),(5,.int .i64 i)])
  (H:=fun i=>h++ [.mem 1 26 [.str x.sec,strs x.sig,qm tok,qw col],.mem 1 3 (gC (atA col i 0) tok.length)])
  (inv:=fun i=>i≤col.length∧ ∀j,j<i→qfn tok col j=true) (m:=fun i=>col.length-i) 0 ⟨nzl _,fun j hj=>absurd hj (nnz j)⟩ (Wk.temps ?_) ?_
 ·(simp only[strs,zt,zc,go_sem,qg,qc,qa,qf];try (repeat' first|(with_reducible apply aiA)|(apply qh;omega)|(apply qe;rfl)|exact qi))
 rintro i ⟨i1,i2⟩ K hK
 by_cases hi:i<col.length
 ·have k2:((i:Int)<col.length)=True:=eqt om;have ki:(0≤(i:Int))=True:=eqt om;have hno:qfn tok col i=false→R=19:=fun hx=>by rw[hR,qwN hi hx,ipo rfl]
  have hlen:= @qlw tok col i;have hen:= @qsk tok col i;have heq:= @qsl tok col i;have hskip:= @qhg col i;have hstep:= @qhh col i;have hmi:=hm i;have hE: ∀s,enB tok col i s=(decide ((col.getD i []).getD s 0= -1)||(decide ((col.getD i []).getD s 0=(cnC col s i:Int))&&decide ((col.getD i []).getD s 0<((tok.getD s []).length:Int)))):=fun _=>rfl
  obtain⟨c,hcx⟩: ∃c,c=col.getD i []:=⟨_,rfl⟩
  have ec:=hcx.symm;rw[ec]at hlen heq hmi;simp only[ec]at hskip hstep hE
  by_cases g1:c.length=tok.length
  case neg=>
   have k3:((c.length:Int)=tok.length)=False:=eqf om;rw[hno (hlen g1)];simp (disch:=omega) only[zc,qI,k2,ki,k3,ec,go_sem]
   repeat' first
    |(apply qb;exact rvk;simp only[go_sem];exact qi)
    |with_reducible apply aiA
   all_goals try exact clz
  have k3:((c.length:Int)=tok.length)=True:=eqt om;have heq:=heq g1;simp (disch:=omega) only[zc,qI,k2,ki,k3,ec,go_sem]
  repeat' first
   |with_reducible apply aiA
  all_goals try exact clz
  refine qu (T:=fun s:Nat=>ze 99 [(1,.op h.length 1 0),(4,.osl (h.length+1) 1 1 0 tok.length),(5,.int .i64 i),(6,qI c),(7,.bool (ju (fun s=> !decide (c.getD s 0= -1)) s)),(8,.int .i64 s)])
   (H:=fun s=>h++ [.mem 1 26 [.str x.sec,strs x.sig,qm tok,qw col],.mem 1 3 (gC (atA col i s) tok.length)])
   (inv:=fun s=>s≤c.length∧ ∀j,j<s→enB tok col i j=true) (m:=fun s=>c.length-s) 0 ⟨nzl _,fun j hj=>absurd hj (nnz j)⟩ (Wk.temps ?_) ?_
  ·(simp only[qI,go_sem,qg,qc,qa,qf];try (repeat' first|(with_reducible apply aiA)|(apply qh;omega)|(apply qe;rfl)|exact qi))
  rintro s ⟨s1,s2⟩ K2 hK2
  by_cases hs:s<c.length
  ·have t1:((s:Int)<c.length)=True:=eqt om;have t0:(0≤(s:Int))=True:=eqt om;have hsn:s<tok.length:=by omega
   have t2:((s:Int)<tok.length)=True:=eqt om;have t3:(s<tok.length)=True:=eqt hsn;have t4:(s+1≤tok.length)=True:=eqt hsn;have gl:=qaa (atA col i s) tok.length;have gg:=qbt (g:=atA col i s) hsn;rw[qse]at gg;have hsk:=hskip (s:=s) (n:=tok.length);have hst:=hstep (s:=s) hsn;have hcn:= @qsj col s i;have hlt:=hl s;have hEs:=hE s;have hap:=qe8 (fun s=> !decide (c.getD s 0= -1)) s;obtain⟨t,ht⟩: ∃t,t=c.getD s 0:=⟨_,rfl⟩
   obtain⟨l,hlx⟩: ∃l,l=tok.getD s []:=⟨_,rfl⟩
   have et:=ht.symm;have el:=hlx.symm;rw[et]at hsk hst hEs;rw[el]at hEs hlt;simp only[et]at hap;obtain⟨a,ha⟩: ∃a,a=ju (fun s=> !decide (c.getD s 0= -1)) s:=⟨_,rfl⟩
   have ea:=ha.symm;rw[ea]at hap;obtain⟨q,hq⟩: ∃q:Nat,q=cnC col s i:=⟨_,rfl⟩
   have eq:=hq.symm;rw[eq]at hst hEs hcn gg;have b2:((q:Int)+1≤9223372036854775807)=True:=eqt om;have b3:(-9223372036854775808≤(q:Int)+1)=True:=eqt om
   by_cases g2:t= -1
   ·have k4:(t= -1)=True:=eqt g2;rw[dqt g2,Bool.true_or]at hEs;have hap':ju (fun s=> !decide (c.getD s 0= -1)) (s+1)=a:=by rw[hap,dqt g2];simp
    simp (disch:=omega) only[qI,t0,t1,t2,t3,k4,et,ea,gl,gg,Nat.mul_one,Nat.zero_add,go_sem]
    repeat' first
     |with_reducible apply aiA
    all_goals try exact clz
    rw[hsk g2];refine hK2 _ _ (s+1) ⟨hs,fun j hj=> ?_⟩ om (Wk.temps ?_)
    ·by_cases e:j=s
     ·subst e;exact hEs
     ·exact s2 j om
    ·rw[hap']
     (simp only[qI,go_sem,qg,qc,qa,qf];try (repeat' first|(with_reducible apply aiA)|(apply qh;omega)|(apply qe;rfl)|exact qi))
   have k4:(t= -1)=False:=eqf g2;rw[dqf g2,Bool.false_or]at hEs;have hap':ju (fun s=> !decide (c.getD s 0= -1)) (s+1)=true:=by rw[hap,dqf g2];simp
   by_cases g3:t=(q:Int)
   case neg=>
    have k5:(t=(q:Int))=False:=eqf g3;rw[dqf g3,Bool.false_and]at hEs;rw[hno (hen hsn hEs)];simp (disch:=omega) only[zt,qI,t0,t1,t2,t3,t4,k4,k5,et,ea,gl,gg,Nat.mul_one,Nat.zero_add,go_sem]
    repeat' first
     |(apply qb;exact rvk;simp only[go_sem];exact qi)
     |with_reducible apply aiA
    all_goals try exact clz
   have k5:(t=(q:Int))=True:=eqt g3;rw[dqt g3,Bool.true_and]at hEs
   by_cases g4:(l.length:Int)≤t
   ·have k6:((l.length:Int)≤t)=True:=eqt g4;rw[dqf om]at hEs;rw[hno (hen hsn hEs)];simp (disch:=omega) only[zt,zT,qI,t0,t1,t2,t3,t4,k4,k5,k6,et,ea,el,gl,gg,Nat.mul_one,Nat.zero_add,go_sem]
    repeat' first
     |(apply qb;exact rvk;simp only[go_sem];exact qi)
     |with_reducible apply aiA
    all_goals try exact clz
   ·have k6:((l.length:Int)≤t)=False:=eqf g4;rw[dqt om]at hEs;have hst:=hst g2;simp (disch:=omega) only[zt,zT,qI,t0,t1,t2,t3,t4,k4,k5,k6,et,ea,el,gl,gg,hst,Nat.mul_one,Nat.zero_add,Option.isSome_some,go_sem]
    repeat' first
     |with_reducible apply aiA
    all_goals try exact clz
    try rw[hst]
    refine hK2 _ _ (s+1) ⟨hs,fun j hj=> ?_⟩ om (Wk.temps ?_)
    ·by_cases e:j=s
     ·subst e;exact hEs
     ·exact s2 j om
    ·rw[hap']
     (simp only[qI,go_sem,qg,qc,qa,qf];try (repeat' first|(with_reducible apply aiA)|(apply qh;omega)|(apply qe;rfl)|exact qi))
  ·have t1:((s:Int)<c.length)=False:=eqf om;have es:s=tok.length:=by omega
   have heq:=heq fun j hj=>s2 j om
   rw[←es]at heq;cases ga:ju (fun s=> !decide (c.getD s 0= -1)) s with
   |false=>
    rw[ga]at heq;rw[hno heq];simp (disch:=omega) only[qI,t1,go_sem]
    repeat' first
     |(apply qb;exact rvk;simp only[go_sem];exact qi)
   |true=>
    rw[ga]at heq;simp (disch:=omega) only[qI,t1,go_sem];have ege:gC (atA col i s) tok.length=gC (atA col (i+1) 0) tok.length:=by rw[es];exact qj7 _
    rw[ege];refine hK _ _ (i+1) ⟨hi,fun j hj=> ?_⟩ om (Wk.temps ?_)
    ·by_cases e:j=i
     ·subst e;exact heq
     ·exact i2 j om
    ·(simp only[go_sem,qg,qc,qa,qf];try (repeat' first|(with_reducible apply aiA)|(apply qh;omega)|(apply qe;rfl)|exact qi))
 have k2:((i:Int)<col.length)=False:=eqf om;obtain rfl:i=col.length:=by omega
 clear hK;simp (disch:=omega) only[zc,k2,go_sem]
 repeat' first
  |with_reducible apply aiA
 all_goals try exact clz
 refine qu (T:=fun s:Nat=>ze 99 [(1,.op h.length 1 0),(4,.osl (h.length+1) 1 1 0 tok.length),(9,.int .i64 s)])
  (H:=fun _=>h++ [.mem 1 26 [.str x.sec,strs x.sig,qm tok,qw col],.mem 1 3 (gC (atA col col.length 0) tok.length)])
  (inv:=fun s=>s≤tok.length∧ ∀j,j<s→cnC col j col.length=(tok.getD j []).length) (m:=fun s=>tok.length-s) 0 ⟨nzl _,fun j hj=>absurd hj (nnz j)⟩ (Wk.temps ?_) ?_
 ·(simp only[go_sem,qg,qc,qa,qf];try (repeat' first|(with_reducible apply aiA)|(apply qh;omega)|(apply qe;rfl)|exact qi))
 rintro s ⟨s1,s2⟩ K hK
 by_cases hs:s<tok.length
 ·have t1:((s:Int)<tok.length)=True:=eqt om;have t0:(0≤(s:Int))=True:=eqt om;have t3:(s<tok.length)=True:=eqt hs;have t4:(s+1≤tok.length)=True:=eqt hs;have gl:=qaa (atA col col.length 0) tok.length;have gg:=qbt (g:=atA col col.length 0) hs;have e0:atA col col.length 0 s= .int .i64 (cnC col s col.length:Int):=by unfold atA;rw[ine (nnz _)]
  rw[e0]at gg;have hno:= @qsb tok col s hs;obtain⟨q,hq⟩: ∃q:Nat,q=cnC col s col.length:=⟨_,rfl⟩
  have eq:=hq.symm;have hs2:q=(tok.getD s []).length→cnC col s col.length=(tok.getD s []).length:=fun e=>by rw[←hq];exact e
  rw[eq]at gg hno;obtain⟨l,hlx⟩: ∃l,l=tok.getD s []:=⟨_,rfl⟩
  have el:=hlx.symm;rw[el]at hno hs2
  by_cases g:q=l.length
  ·have k5:((q:Int)=l.length)=True:=eqt om;simp (disch:=omega) only[zt,zT,t0,t1,t3,k5,el,gl,gg,Nat.mul_one,Nat.zero_add,go_sem]
   repeat' first
    |with_reducible apply aiA
   all_goals try exact clz
   refine hK _ _ (s+1) ⟨hs,fun j hj=> ?_⟩ om (Wk.temps ?_)
   ·by_cases e:j=s
    ·subst e;rw[el];exact hs2 g
    ·exact s2 j om
   ·(simp only[go_sem,qg,qc,qa,qf];try (repeat' first|(with_reducible apply aiA)|(apply qh;omega)|(apply qe;rfl)|exact qi))
  ·have k5:((q:Int)=l.length)=False:=eqf om;rw[hR,hno g,ipo rfl];simp (disch:=omega) only[zt,zT,t0,t1,t3,k5,el,gl,gg,Nat.mul_one,Nat.zero_add,go_sem]
   repeat' first
    |(apply qb;exact rvk;simp only[go_sem];exact qi)
    |with_reducible apply aiA
   all_goals try exact clz
 ·have t1:((s:Int)<tok.length)=False:=eqf om;rw[hR,qsc i2 (fun j hj=>s2 j om),ine (by simp)];simp (disch:=omega) only[t1,go_sem]
  repeat' first
   |(apply qb;exact rvk;simp only[go_sem];exact qi)
end RC
end
section
open Go Go.Proofs AF
end
section
open Go Go.Proofs AF HY LN
namespace RC
end RC
end
section
open Go Go.Proofs AF
end
section
open Go Go.Proofs AF HY LN
namespace RC
theorem qhZ(h:List AObj)(L:List Int):qk h (qI L)=some (L.length,qU L):=by
 show some (L.length,_)=_;rw[fmI]
end RC
end
section
open Go Go.Proofs AF
def qcO:List Nat:= []
def qCm:C:=
 ((C.ops [ON 4 (.nilo 0 1 3) []]).seq (((C.ops [MV 9 1,BC 10 .lss 9 (i6 0)]).seq (C.cond (.t 10) C.bad C.skip)).seq ((C.ops [MV 13 0,O1 14 .len 13,O1 15 (.conv .u64) 14,MV 16 1,
 O1 17 (.conv .u64) 16,O2 18 (.call 128 true) 15 17,MV 12 18,O1 19 (.ext 0) 12,O1 20 (.ext 1) 12,MV 5 19,MV 6 20]).seq (((C.ops [MV 21 5,BC 22 .gtr 21 (.int .u64 0),MV 23
 22,MG 24 23 false 6,PC 25 23 false (.bin .gtr) 24 (.int .u64 9223372036854775807),PT 26 23 25]).seq (C.cond (.t 26) C.bad C.skip)).seq ((C.ops [MV 28 6,O1 29 (.conv .i64) 28,
 ⟨some 30,none,.mkslc 1 1 3 [i6 0] 8,[.t 29,.t 29]⟩,MV 7 30]).seq ((C.ops [MV 31 7,MV 32 0,O2 33 (.cpy 1) 31 32,MV 8 33]).seq ((C.block 0 (((C.ops [MV 34 8,MV 35 7,O1 36
 .len 35,BI 37 .lss 34 36]).seq (C.cond (.t 37) C.skip (C.exit 0))).seq (C.block 1 (C.ops [MV 38 8,MV 39 7,MV 40 8,O2 41 (.slc 1 true false) 39 40,MV 42 7,MV 43 8,O2 44 (.slc
 1 false true) 42 43,O2 45 (.cpy 1) 41 44,BI 46 .add 38 45,MV 8 46]))).loop).seq ((C.ops [MV 47 7,MV 4 47]).seq
 C.ret))))))))
theorem qzR:qM Tryz.prog 78 48 2 [RV.tmp 4] qCm:=fi Tryz.f78 [4,30] qcO []
def qw4:C:=
 ((C.ops [MC 4 (.int .u64 0),MC 5 (.int .u64 0)]).seq ((C.cond (.c (.bool false)) ((C.ops [MV 11 0,O1 12 (.conv .u32) 11,MV 13 1,O1 14 (.conv .u32) 13,O2 15 (.call 174 true) 12
 14,MV 10 15,O1 16 (.ext 0) 10,O1 17 (.ext 1) 10,MV 6 16,MV 7 17]).seq ((C.ops [MV 18 6,O1 19 (.conv .u64) 18,MV 20 7,O1 21 (.conv .u64) 20,MV 4 19,MV 5 21]).seq C.ret))
 C.skip).seq ((C.ops [MV 23 0,MV 24 1,O2 25 (.call 175 true) 23 24,MV 22 25,O1 26 (.ext 0) 22,O1 27 (.ext 1) 22,MV 8 26,MV 9 27]).seq ((C.ops [MV 28 8,MV 29 9,MV 4 28,MV 5
 29]).seq
 C.ret))))
theorem qyC:qM Tryz.prog 128 30 0 [RV.tmp 4,RV.tmp 5] qw4:=fi Tryz.f128 [] qcO []
def qxp:C:=
 ((C.ops [MC 4 (.int .u64 0),MC 5 (.int .u64 0)]).seq ((C.ops [MV 14 0,BC 15 .and 14 (.int .u64 4294967295),MV 6 15]).seq ((C.ops [MV 16 0,BC 17 .shr 16 (.int .u64 32),MV 7
 17]).seq ((C.ops [MV 18 1,BC 19 .and 18 (.int .u64 4294967295),MV 8 19]).seq ((C.ops [MV 20 1,BC 21 .shr 20 (.int .u64 32),MV 9 21]).seq ((C.ops [MV 22 6,MV 23 8,BI 24 .mul
 22 23,MV 10 24]).seq ((C.ops [MV 25 7,MV 26 8,BI 27 .mul 25 26,MV 28 10,BC 29 .shr 28 (.int .u64 32),BI 30 .add 27 29,MV 11 30]).seq ((C.ops [MV 31 11,BC 32 .and 31 (.int
 .u64 4294967295),MV 12 32]).seq ((C.ops [MV 33 11,BC 34 .shr 33 (.int .u64 32),MV 13 34]).seq ((C.ops [MV 35 12,MV 36 6,MV 37 9,BI 38 .mul 36 37,BI 39 .add 35 38,MV 12
 39]).seq ((C.ops [MV 40 7,MV 41 9,BI 42 .mul 40 41,MV 43 13,BI 44 .add 42 43,MV 45 12,BC 46 .shr 45 (.int .u64 32),BI 47 .add 44 46,MV 4 47]).seq ((C.ops [MV 48 0,MV 49 1,
 BI 50 .mul 48 49,MV 5 50]).seq
 C.ret))))))))))))
theorem qyZ:qM Tryz.prog 175 51 0 [RV.tmp 4,RV.tmp 5] qxp:=fi Tryz.f175 [] qcO []
def qB0:C:=
 ((C.ops [ON 2 (.nilo 0 3 64) []]).seq (((C.ops [MV 3 0,O1 4 (.isnil .slice false) 3]).seq (C.cond (.t 4) ((C.ops [ON 2 (.nilo 0 3 64) []]).seq C.ret) C.skip)).seq ((C.ops [⟨some
 5,none,.bslc 1 3 0 64 [i6 0,i6 0,.nl] [],[]⟩,MV 6 0,O2 7 (.app 2 3 64 40) 5 6,MV 2 7]).seq
 C.ret)))
theorem qut:qM Tryz.prog 81 8 3 [RV.tmp 2] qB0:=fi Tryz.f81 [2,5,7] qcO []
end
section
open Go Go.Proofs AF HY LN
namespace RC
def qaZ(L:List Un):List AV:=L.flatMap unC
theorem qor(u:Un):(unC u).length=3:=rfl
theorem qcV(L:List Un):(qaZ L).length=L.length*3:=by
 unfold qaZ
 induction L with
 |nil=>rfl
 |cons a L ih=>rw[List.flatMap_cons,lap,ih,lco,qor];omega
theorem qrW(A B:List Un):qaZ (A++B)=qaZ A++qaZ B:=by simp[qaZ]
theorem qrX(a:Un):qaZ [a]=unC a:=by simp[qaZ]
theorem qos(L:List Un): ∀i,(qaZ L).drop (i*3)=qaZ (L.drop i):=by
 induction L with
 |nil=>intro i;simp[qaZ]
 |cons a L ih=>
  intro i;cases i with
  |zero=>simp
  |succ i=>
   rw[show qaZ (a::L)=unC a++qaZ L from rfl,show (a::L).drop (i+1)=L.drop i from rfl,←ih i];rw[show (i+1)*3=(unC a).length+i*3 by rw[qor];omega,List.drop_append,List.drop_eq_nil_of_le om,lna,Nat.add_sub_cancel_left]
theorem qia{L:List Un}{i:Nat}(hi:i<L.length):((qaZ L).drop (i*3)).take 3=unC (L.getD i default):=by
 rw[qos,List.drop_eq_getElem_cons hi,gdqA,zL hi];rfl
theorem qqb(L:List Un):((List.range L.length).flatMap fun i=>unC (L.getD i default))=qaZ L:=by
 unfold qaZ;have e:L=(List.range L.length).map fun i=>L.getD i default:=by
  apply List.ext_getElem (by simp);intro i h1 h2;simp[gdqA,h1]
 conv=>rhs;rw[e]
 rw[List.flatMap_map]
theorem qn5(h:List AObj)(L:List Un):qk h (zS L)=some (L.length,qaZ L):=by
 show some (L.length,_)=_;rw[qqb]
theorem qeS(L:List Un)(n:Nat): ∀c∈qaZ L,qV n c=true:=by
 intro c hc;unfold qaZ at hc;obtain⟨x,_,hx⟩:=List.mem_flatMap.1 hc;simp only[unC,List.mem_cons,List.not_mem_nil,or_false]at hx;rcases hx with rfl|rfl|rfl<;>rfl
theorem qmu{L:List Un}(h:L≠ []):valP (.isnil .slice false) [zS L]= .bool false:=by
 unfold zS;rw[qat,ine (by simpa using h)];rfl
theorem qE2(L:List Un)(h:List AObj)(k:Nat)(hk:qJ h k=true)(h0:L≠ [])(hl:L.length≤1000000000):
  ACalls Tryz.prog 81 [zS L] h (.osl k (qo (qr k h)+1) 3 0 L.length) (qn k h (.mem (qo (qr k h)+1) 64 (qaZ L))):=by
 have s1:=fun h=>qn5 h L
 have eP:=qcV L;have hp:=List.length_pos_iff.2 h0;have z0:=qmu h0;have z1:okP (.isnil .slice false) [zS L]=True:=eqt trivial;refine qcY qut k (by simp) ?_;simp only[lco,lnl,Nat.reduceAdd,Nat.reduceSub,List.replicate,lca,lna];simp (disch:=omega) only[qB0,s1,z0,z1,go_sem]
 repeat' first
  |(with_reducible apply aiA)
 all_goals first
  |omega
  |contradiction
  |skip
 all_goals try rfl
 exact⟨h.length+1,2,3,0,L.length,64,qaZ L,_,⟨trivial,trivial⟩,rfl,rfl,om,by simp only[go_sem],qeS L _,hk,rfl,rfl⟩
theorem qe2{n:Int}(h0:0≤n)(h1:n<18446744073709551616):IntKind.u64.wrap n=n:=by
 have e1:(2:Int)^IntKind.bits IntKind.u64=18446744073709551616:=rfl;have e3:IntKind.signed IntKind.u64=false:=rfl;unfold IntKind.wrap;rw[e1,e3];simp only[Bool.false_and,Bool.false_eq_true,if_false];omega
theorem qnN{a:Int}:qwH .u64 a 32=a/4294967296:=by
 have e:(2:Int)^(min (32:Int).toNat IntKind.u64.bits)=4294967296:=rfl;unfold qwH;rw[e,Int.fdiv_eq_ediv_of_nonneg _ om]
theorem qwQ{n:Nat}(hn:n≤1000000000):qoY .u64 (n:Int) 4294967295=n:=by
 have e:IntKind.u64.bits=64:=rfl;unfold qoY;rw[e,BitVec.toNat_and,BitVec.toNat_ofInt,BitVec.toNat_ofInt];have e2:((n:Int)%((2^64:Nat):Int)).toNat=n:=by
  rw[show ((2^64:Nat):Int)=18446744073709551616 by rfl];omega
 have e3:((4294967295:Int)%((2^64:Nat):Int)).toNat=2^32-1:=by rfl
 rw[e2,e3,Nat.and_two_pow_sub_one_eq_mod,qe2 om om];omega
theorem qFs(n:Nat)(h:List AObj)(hn:n≤1000000000):ACalls Tryz.prog 175 [.int .u64 1,.int .u64 (n:Int)] h (.tup [.int .u64 0,.int .u64 (n:Int)]) h:=by
 have e0:qwH .u64 1 32=0:=by rw[qnN];rfl
 have e1:qwH .u64 (n:Int) 32=0:=by rw[qnN];omega
 have e2:qwH .u64 0 32=0:=by rw[qnN];rfl
 have e3:qoY .u64 1 4294967295=1:=by decide+kernel
 have e4:qoY .u64 0 4294967295=0:=by decide+kernel
 have e5:IntKind.u64.wrap 0=0:=by decide
 have e6:IntKind.u64.wrap (n:Int)=n:=qe2 om om;refine acO qyZ ?_;simp (disch:=omega) only[qxp,go_sem]
 repeat' first
  |(apply qd;exact rvk;simp only[go_sem])
  |with_reducible apply aiA
 all_goals try exact clz
 have e7:=qwQ hn;simp only[e0,e1,e2,e3,e4,e5,e6,e7,Int.zero_mul,Int.mul_zero,Int.one_mul,Int.add_zero];exact qi
theorem qED(n:Nat)(h:List AObj)(hn:n≤1000000000):ACalls Tryz.prog 128 [.int .u64 1,.int .u64 (n:Int)] h (.tup [.int .u64 0,.int .u64 (n:Int)]) h:=by
 have c1:=fun h=>qFs n h hn
 refine acO qyC ?_;simp (disch:=omega) only[qw4,go_sem]
 repeat' first
  |(refine cA (c1 _) flk ?_;simp (disch:=omega) only[go_sem])
  |(apply qd;exact rvk;simp only[go_sem];exact qi)
  |with_reducible apply aiA
 all_goals try exact clz
def rpC(a:Int)(n i:Nat):List AV:=gC (fun j=> .int .i64 (if j<i then a else 0)) n
theorem qmy(n:Nat):qY [.int .i64 0] n=rpC 0 n 0:=by
 refine List.ext_getElem? fun k=> ?_
 obtain⟨h1,h2⟩:=j6 [AV.int .i64 0] n
 by_cases hk:k<n
 ·unfold rpC;rw[qbt hk,ine (nnz _)]
  have:=h2 k (by simp;omega)
  rw[this,List.length_singleton,Nat.mod_one];rfl
 ·rw[List.getElem?_eq_none (by rw[h1];simp;omega),List.getElem?_eq_none (by unfold rpC;rw[qaa];omega)]
theorem qbd(a:Int)(n i:Nat):(rpC a n i).length=n:=by unfold rpC;rw[qaa]
theorem qbc{a:Int}{n i k:Nat}(hk:k<n):(rpC a n i)[k]? =some (.int .i64 (if k<i then a else 0)):=by unfold rpC;rw[qbt hk]
theorem qrp(a:Int){n i j:Nat}(hj:j≤i)(hi:i+j≤n):(rpC a n i).take i++(rpC a n i).take j++(rpC a n i).drop (i+j)=rpC a n (i+j):=by
 have hl:=qbd a n i;have l1:((rpC a n i).take i).length=i:=by rw[List.length_take];omega
 have l2:((rpC a n i).take j).length=j:=by rw[List.length_take];omega
 refine List.ext_getElem? fun k=> ?_
 by_cases hk:k<n
 ·rw[qbc hk]
  by_cases g1:k<i
  ·rw[List.append_assoc,List.getElem?_append_left om,List.getElem?_take,ipo g1,qbc hk,ipo g1,ipo om]
  ·rw[List.append_assoc,List.getElem?_append_right om,l1]
   by_cases g2:k-i<j
   ·rw[List.getElem?_append_left om,List.getElem?_take,ipo g2,qbc om,ipo om,ipo om]
   ·rw[List.getElem?_append_right om,l2,List.getElem?_drop,show i+j+(k-i-j)=k by omega,qbc hk,ine g1,ine om]
 ·rw[List.getElem?_eq_none (by simp only[lap,l1,l2,List.length_drop,hl];omega),List.getElem?_eq_none (by rw[qbd];omega)]
theorem qvH(a:Int){n:Nat}(hn:0<n):List.take 1 (qU [a])++List.drop 1 (rpC 0 n 0)=rpC a n 1:=by
 refine List.ext_getElem? fun k=> ?_
 by_cases hk:k<n
 ·rw[qbc hk];cases k with
  |zero=>rfl
  |succ k=>
   rw[List.getElem?_append_right (by simp[qU]),List.getElem?_drop];rw[show 1+(k+1-(List.take 1 (qU [a])).length)=k+1 by simp[qU];omega,qbc hk,ine (nnz _),ine om]
 ·rw[List.getElem?_eq_none (by simp[qU,qbd];omega),List.getElem?_eq_none (by rw[qbd];omega)]
theorem qvG(a:Int)(n:Nat):rpC a n n=qU (List.replicate n a):=by
 refine List.ext_getElem? fun k=> ?_
 by_cases hk:k<n
 ·rw[qbc hk,ipo hk];unfold qU;rw[List.getElem?_map,List.getElem?_replicate,ipo hk];rfl
 ·rw[List.getElem?_eq_none (by rw[qbd];omega),List.getElem?_eq_none (by simp[qU];omega)]
theorem qFE(a:Int)(n:Nat)(h:List AObj)(k:Nat)(hk:qJ h k=true)(h0:0<n)(hl:n≤1000000000):
  ACalls Tryz.prog 78 [qI [a],.int .i64 (n:Int)] h (.osl k (qo (qr k h)+1) 1 0 n) (qn k h (.mem (qo (qr k h)+1) 3 (qU (List.replicate n a)))):=by
 have s1:=fun h=>qhZ h [a]
 have c1:=fun h=>qED n h hl
 have k1:((n:Int)<0)=False:=eqf om;have k2:((9223372036854775807:Int)<n)=False:=eqf om;have z1: ∀g,valL g .len [qI [a]]= .int .i64 1:=fun _=>rfl
 have z2: ∀g,okL g .len [qI [a]]=True:=fun _=>eqt trivial
 have e5:IntKind.u64.wrap 1=1:=by decide
 have e6:IntKind.u64.wrap (n:Int)=n:=qe2 om om;refine qcY qzR k (by simp) ?_;simp only[lco,lnl,Nat.reduceAdd,Nat.reduceSub,List.replicate,lca,lna];simp (disch:=omega) only[qCm,z1,z2,k1,e5,e6,go_sem]
 repeat' first
  |(refine cA (c1 _) flk ?_;simp (disch:=omega) only[s1,k2,go_sem])
  |with_reducible first|intro _|apply aiA
 all_goals try exact clz
 ·rw[qmy,qbd];exact nlr _
 ·rfl
 have e8:min 1 n=1:=by omega
 rw[e8,qmy,qvH a h0];refine qu (T:=fun i:Nat=>ze 48 [(7,.osl (h.length+1) 1 1 0 n),(8,.int .i64 i)]) (H:=fun i=>h++ [.emp 1,.mem 1 3 (rpC a n i)])
  (inv:=fun i=>0<i∧i≤n) (m:=fun i=>n-i) 1 ⟨Nat.one_pos,h0⟩ (Wk.temps ?_) ?_
 ·(simp only[go_sem,qg,qc,qa,qf];try (repeat' first|(with_reducible apply aiA)|(apply qh;omega)|(apply qe;rfl)|exact qi))
 rintro i ⟨i1,i2⟩ K hK;have hrl:=qbd a n i
 by_cases hi:i<n
 ·have q1:((i:Int)<n)=True:=eqt om;have q2:(i≤n)=True:=eqt i2;simp (disch:=omega) only[q1,q2,hrl,Nat.sub_zero,Option.isSome_some,Option.getD_some,if_true,go_sem]
  repeat' first
   |with_reducible apply aiA
  all_goals try exact clz
  ·rw[List.length_take,hrl];omega
  have e9:List.take (min i (n-i)) (List.take i (rpC a n i))=List.take (min i (n-i)) (rpC a n i):=by rw[List.take_take,show min (min i (n-i)) i=min i (n-i) by omega]
  rw[e9,qrp a om om];refine hK _ _ (i+min i (n-i)) ⟨om,om⟩ om (Wk.temps ?_)
  (simp only[Int.natCast_add,go_sem,qg,qc,qa,qf];try (repeat' first|(with_reducible apply aiA)|(apply qh;omega)|(apply qe;rfl)|exact qi))
 ·have q1:((i:Int)<n)=False:=eqf om;obtain rfl:i=n:=by omega
  simp (disch:=omega) only[q1,go_sem];rw[qvG];exact⟨h.length+1,1,1,0,i,3,qU (List.replicate i a),_,⟨trivial,trivial⟩,rfl,rfl,om,by simp only[go_sem],fun c hc=>by
   unfold qU at hc;obtain⟨z,_,rfl⟩:=List.mem_map.1 hc
   rfl,hk,rfl,rfl⟩
end RC
end
section
open Go Go.Proofs AF
def qqv:List Nat:= [79,78,81]
def qgb:C:=
 ((C.ops [O1 4 (.box 0 26) 0,ON 8 (.nilo 1 7 36) [],MC 9 (i6 0)]).seq (((C.ops [O1 26 (.load (some 4)) 4,MV 27 1,O2 28 (.call 74 true) 26 27,MV 10 28]).seq ((C.ops [MV 29 10,
 BC 30 .neq 29 (i6 0)]).seq (C.cond (.t 30) ((C.ops [MV 31 10,ON 8 (.nilo 1 7 36) [],MV 9 31]).seq C.ret) C.skip))).seq (((C.ops [MV 32 3,BC 33 .lss 32 (i6 0),MV 34 33,MG 35 34
 false 3,P1 36 34 false (.fldA 1) 4,P1 37 34 false (.load none) 36,P1 38 34 false .len 37,P2 39 34 false (.bin .geq) 35 38,PT 40 34 39]).seq (C.cond (.t 40) ((C.ops [ON 8
 (.nilo 1 7 36) [],MC 9 (i6 2)]).seq C.ret) C.skip)).seq ((C.ops [O1 42 (.load (some 4)) 4,MV 43 1,MV 44 2,ON 45 (.call 77 true) [.t 42,.t 43,.t 44],MV 41 45,O1 46 (.ext 0)
 41,O1 47 (.ext 1) 41,MV 11 46,MV 12 47]).seq (((C.ops [MV 48 12,BC 49 .neq 48 (i6 0)]).seq (C.cond (.t 49) ((C.ops [MV 50 12,ON 8 (.nilo 1 7 36) [],MV 9 50]).seq C.ret)
 C.skip)).seq ((C.ops [⟨some 51,none,.bslc 2 1 1 3 [i6 0] [(0,1)],[.c (i6 (-1))]⟩,MV 52 1,O1 53 .len 52,O2 54 (.call 78 false) 51 53,MV 13 54]).seq (((C.ops [MV 55 11,O1 56
 .len 55,MC 57 (i6 0)]).seq (C.block 0 ((C.ops [BI 58 .lss 57 56]).seq ((C.cond (.t 58) C.skip (C.exit 0)).seq ((C.block 1 ((C.ops [MV 59 57,O2 60 (.idxA 1) 55 57,LD 61 60,MV 14
 59,MV 15 61]).seq (C.ops [MV 62 13,MV 63 15,MV 64 14,O2 65 (.idxA 1) 62 63,ST 1 65 64]))).seq (C.ops [BC 66 .add 57 (i6 1),MV 57 66])))).loop)).seq ((C.ops [⟨some 16,none,
 .alloc 3 29 [.nl],[]⟩]).seq ((C.wk.seq (C.ops [O1 67 (.mkfn (Fn.func 79) 0) 16,⟨some 17,none,.alloc 4 117 [.nilfn],[]⟩,ST 1 17 67])).seq ((C.ops [MC 18 (i6 0)]).seq (((C.draw
 (DT.one ⟨some 68,none,.mv,[.t 1]⟩ (DT.one ⟨some 80,none,.mv,[.c (i6 0)]⟩ ((DT.one ⟨some 69,none,.call 81 false,[.t 68]⟩ (DT.one ⟨some 70,none,.fldA 3,[.t 4]⟩ (DT.one
 ⟨some 71,none,.load none,[.t 70]⟩ (DT.one ⟨some 72,none,.len,[.t 71]⟩ (DT.one ⟨some 73,none,.fldA 3,[.t 4]⟩ (DT.one ⟨some 74,none,.load none,[.t 73]⟩ (DT.one ⟨some 75,
 none,.len,[.t 74]⟩ (DT.one ⟨some 76,none,.build [i6 0,i6 0,.nl] [(0,1),(1,1)],[.t 72,.t 75]⟩ (DT.one ⟨some 77,none,.bslc 5 3 1 64 [i6 0,i6 0,.nl] [(0,3)],[.t 76]⟩
 (DT.one ⟨some 78,none,.app 6 3 64 40,[.t 69,.t 77]⟩ (DT.one ⟨some 79,none,.len,[.t 78]⟩ DT.nil))))))))))).two ((DT.one ⟨some 70,none,.fldA 3,[.t 4]⟩ ((DT.one ⟨some 69,
 none,.call 81 false,[.t 68]⟩ (DT.one ⟨some 71,none,.load none,[.t 70]⟩ (DT.one ⟨some 72,none,.len,[.t 71]⟩ (DT.one ⟨some 73,none,.fldA 3,[.t 4]⟩ (DT.one ⟨some 74,none,
 .load none,[.t 73]⟩ (DT.one ⟨some 75,none,.len,[.t 74]⟩ (DT.one ⟨some 76,none,.build [i6 0,i6 0,.nl] [(0,1),(1,1)],[.t 72,.t 75]⟩ (DT.one ⟨some 77,none,.bslc 5 3 1
 64 [i6 0,i6 0,.nl] [(0,3)],[.t 76]⟩ (DT.one ⟨some 78,none,.app 6 3 64 40,[.t 69,.t 77]⟩ (DT.one ⟨some 79,none,.len,[.t 78]⟩ DT.nil)))))))))).two ((DT.one ⟨some 71,none,
 .load none,[.t 70]⟩ ((DT.one ⟨some 69,none,.call 81 false,[.t 68]⟩ (DT.one ⟨some 72,none,.len,[.t 71]⟩ (DT.one ⟨some 73,none,.fldA 3,[.t 4]⟩ (DT.one ⟨some 74,none,.load
 none,[.t 73]⟩ (DT.one ⟨some 75,none,.len,[.t 74]⟩ (DT.one ⟨some 76,none,.build [i6 0,i6 0,.nl] [(0,1),(1,1)],[.t 72,.t 75]⟩ (DT.one ⟨some 77,none,.bslc 5 3 1 64 [i6
 0,i6 0,.nl] [(0,3)],[.t 76]⟩ (DT.one ⟨some 78,none,.app 6 3 64 40,[.t 69,.t 77]⟩ (DT.one ⟨some 79,none,.len,[.t 78]⟩ DT.nil))))))))).two ((DT.one ⟨some 72,none,.len,
 [.t 71]⟩ ((DT.one ⟨some 69,none,.call 81 false,[.t 68]⟩ (DT.one ⟨some 73,none,.fldA 3,[.t 4]⟩ (DT.one ⟨some 74,none,.load none,[.t 73]⟩ (DT.one ⟨some 75,none,.len,[.t
 74]⟩ (DT.one ⟨some 76,none,.build [i6 0,i6 0,.nl] [(0,1),(1,1)],[.t 72,.t 75]⟩ (DT.one ⟨some 77,none,.bslc 5 3 1 64 [i6 0,i6 0,.nl] [(0,3)],[.t 76]⟩ (DT.one ⟨some
 78,none,.app 6 3 64 40,[.t 69,.t 77]⟩ (DT.one ⟨some 79,none,.len,[.t 78]⟩ DT.nil)))))))).two (DT.one ⟨some 73,none,.fldA 3,[.t 4]⟩ ((DT.one ⟨some 69,none,.call 81
 false,[.t 68]⟩ (DT.one ⟨some 74,none,.load none,[.t 73]⟩ (DT.one ⟨some 75,none,.len,[.t 74]⟩ (DT.one ⟨some 76,none,.build [i6 0,i6 0,.nl] [(0,1),(1,1)],[.t 72,.t
 75]⟩ (DT.one ⟨some 77,none,.bslc 5 3 1 64 [i6 0,i6 0,.nl] [(0,3)],[.t 76]⟩ (DT.one ⟨some 78,none,.app 6 3 64 40,[.t 69,.t 77]⟩ (DT.one ⟨some 79,none,.len,[.t 78]⟩
 DT.nil))))))).two (DT.one ⟨some 74,none,.load none,[.t 73]⟩ ((DT.one ⟨some 69,none,.call 81 false,[.t 68]⟩ (DT.one ⟨some 75,none,.len,[.t 74]⟩ (DT.one ⟨some 76,none,
 .build [i6 0,i6 0,.nl] [(0,1),(1,1)],[.t 72,.t 75]⟩ (DT.one ⟨some 77,none,.bslc 5 3 1 64 [i6 0,i6 0,.nl] [(0,3)],[.t 76]⟩ (DT.one ⟨some 78,none,.app 6 3 64 40,[.t
 69,.t 77]⟩ (DT.one ⟨some 79,none,.len,[.t 78]⟩ DT.nil)))))).two (DT.one ⟨some 75,none,.len,[.t 74]⟩ (DT.one ⟨some 76,none,.build [i6 0,i6 0,.nl] [(0,1),(1,1)],[.t
 72,.t 75]⟩ ((DT.one ⟨some 69,none,.call 81 false,[.t 68]⟩ (DT.one ⟨some 77,none,.bslc 5 3 1 64 [i6 0,i6 0,.nl] [(0,3)],[.t 76]⟩ (DT.one ⟨some 78,none,.app 6 3 64 40,
 [.t 69,.t 77]⟩ (DT.one ⟨some 79,none,.len,[.t 78]⟩ DT.nil)))).two (DT.one ⟨some 77,none,.bslc 5 3 1 64 [i6 0,i6 0,.nl] [(0,3)],[.t 76]⟩ (DT.one ⟨some 69,none,.call 81
 false,[.t 68]⟩ (DT.one ⟨some 78,none,.app 6 3 64 40,[.t 69,.t 77]⟩ (DT.one ⟨some 79,none,.len,[.t 78]⟩ DT.nil))))))))))))).two (DT.one ⟨some 73,none,.fldA 3,[.t 4]⟩
 ((DT.one ⟨some 69,none,.call 81 false,[.t 68]⟩ (DT.one ⟨some 72,none,.len,[.t 71]⟩ (DT.one ⟨some 74,none,.load none,[.t 73]⟩ (DT.one ⟨some 75,none,.len,[.t 74]⟩ (DT.one
 ⟨some 76,none,.build [i6 0,i6 0,.nl] [(0,1),(1,1)],[.t 72,.t 75]⟩ (DT.one ⟨some 77,none,.bslc 5 3 1 64 [i6 0,i6 0,.nl] [(0,3)],[.t 76]⟩ (DT.one ⟨some 78,none,.app
 6 3 64 40,[.t 69,.t 77]⟩ (DT.one ⟨some 79,none,.len,[.t 78]⟩ DT.nil)))))))).two ((DT.one ⟨some 72,none,.len,[.t 71]⟩ ((DT.one ⟨some 69,none,.call 81 false,[.t 68]⟩
 (DT.one ⟨some 74,none,.load none,[.t 73]⟩ (DT.one ⟨some 75,none,.len,[.t 74]⟩ (DT.one ⟨some 76,none,.build [i6 0,i6 0,.nl] [(0,1),(1,1)],[.t 72,.t 75]⟩ (DT.one ⟨some
 77,none,.bslc 5 3 1 64 [i6 0,i6 0,.nl] [(0,3)],[.t 76]⟩ (DT.one ⟨some 78,none,.app 6 3 64 40,[.t 69,.t 77]⟩ (DT.one ⟨some 79,none,.len,[.t 78]⟩ DT.nil))))))).two
 (DT.one ⟨some 74,none,.load none,[.t 73]⟩ ((DT.one ⟨some 69,none,.call 81 false,[.t 68]⟩ (DT.one ⟨some 75,none,.len,[.t 74]⟩ (DT.one ⟨some 76,none,.build [i6 0,i6 0,
 .nl] [(0,1),(1,1)],[.t 72,.t 75]⟩ (DT.one ⟨some 77,none,.bslc 5 3 1 64 [i6 0,i6 0,.nl] [(0,3)],[.t 76]⟩ (DT.one ⟨some 78,none,.app 6 3 64 40,[.t 69,.t 77]⟩ (DT.one
 ⟨some 79,none,.len,[.t 78]⟩ DT.nil)))))).two (DT.one ⟨some 75,none,.len,[.t 74]⟩ (DT.one ⟨some 76,none,.build [i6 0,i6 0,.nl] [(0,1),(1,1)],[.t 72,.t 75]⟩ ((DT.one
 ⟨some 69,none,.call 81 false,[.t 68]⟩ (DT.one ⟨some 77,none,.bslc 5 3 1 64 [i6 0,i6 0,.nl] [(0,3)],[.t 76]⟩ (DT.one ⟨some 78,none,.app 6 3 64 40,[.t 69,.t 77]⟩ (DT.one
 ⟨some 79,none,.len,[.t 78]⟩ DT.nil)))).two (DT.one ⟨some 77,none,.bslc 5 3 1 64 [i6 0,i6 0,.nl] [(0,3)],[.t 76]⟩ (DT.one ⟨some 69,none,.call 81 false,[.t 68]⟩ (DT.one
 ⟨some 78,none,.app 6 3 64 40,[.t 69,.t 77]⟩ (DT.one ⟨some 79,none,.len,[.t 78]⟩ DT.nil))))))))))).two (DT.one ⟨some 74,none,.load none,[.t 73]⟩ ((DT.one ⟨some 69,none,
 .call 81 false,[.t 68]⟩ (DT.one ⟨some 72,none,.len,[.t 71]⟩ (DT.one ⟨some 75,none,.len,[.t 74]⟩ (DT.one ⟨some 76,none,.build [i6 0,i6 0,.nl] [(0,1),(1,1)],[.t 72,.t
 75]⟩ (DT.one ⟨some 77,none,.bslc 5 3 1 64 [i6 0,i6 0,.nl] [(0,3)],[.t 76]⟩ (DT.one ⟨some 78,none,.app 6 3 64 40,[.t 69,.t 77]⟩ (DT.one ⟨some 79,none,.len,[.t 78]⟩
 DT.nil))))))).two ((DT.one ⟨some 72,none,.len,[.t 71]⟩ ((DT.one ⟨some 69,none,.call 81 false,[.t 68]⟩ (DT.one ⟨some 75,none,.len,[.t 74]⟩ (DT.one ⟨some 76,none,.build
 [i6 0,i6 0,.nl] [(0,1),(1,1)],[.t 72,.t 75]⟩ (DT.one ⟨some 77,none,.bslc 5 3 1 64 [i6 0,i6 0,.nl] [(0,3)],[.t 76]⟩ (DT.one ⟨some 78,none,.app 6 3 64 40,[.t 69,.t
 77]⟩ (DT.one ⟨some 79,none,.len,[.t 78]⟩ DT.nil)))))).two (DT.one ⟨some 75,none,.len,[.t 74]⟩ (DT.one ⟨some 76,none,.build [i6 0,i6 0,.nl] [(0,1),(1,1)],[.t 72,.t
 75]⟩ ((DT.one ⟨some 69,none,.call 81 false,[.t 68]⟩ (DT.one ⟨some 77,none,.bslc 5 3 1 64 [i6 0,i6 0,.nl] [(0,3)],[.t 76]⟩ (DT.one ⟨some 78,none,.app 6 3 64 40,[.t 69,
 .t 77]⟩ (DT.one ⟨some 79,none,.len,[.t 78]⟩ DT.nil)))).two (DT.one ⟨some 77,none,.bslc 5 3 1 64 [i6 0,i6 0,.nl] [(0,3)],[.t 76]⟩ (DT.one ⟨some 69,none,.call 81 false,
 [.t 68]⟩ (DT.one ⟨some 78,none,.app 6 3 64 40,[.t 69,.t 77]⟩ (DT.one ⟨some 79,none,.len,[.t 78]⟩ DT.nil))))))))).two (DT.one ⟨some 75,none,.len,[.t 74]⟩ ((DT.one ⟨some
 69,none,.call 81 false,[.t 68]⟩ (DT.one ⟨some 72,none,.len,[.t 71]⟩ (DT.one ⟨some 76,none,.build [i6 0,i6 0,.nl] [(0,1),(1,1)],[.t 72,.t 75]⟩ (DT.one ⟨some 77,none,
 .bslc 5 3 1 64 [i6 0,i6 0,.nl] [(0,3)],[.t 76]⟩ (DT.one ⟨some 78,none,.app 6 3 64 40,[.t 69,.t 77]⟩ (DT.one ⟨some 79,none,.len,[.t 78]⟩ DT.nil)))))).two (DT.one ⟨some
 72,none,.len,[.t 71]⟩ (DT.one ⟨some 76,none,.build [i6 0,i6 0,.nl] [(0,1),(1,1)],[.t 72,.t 75]⟩ ((DT.one ⟨some 69,none,.call 81 false,[.t 68]⟩ (DT.one ⟨some 77,
 none,.bslc 5 3 1 64 [i6 0,i6 0,.nl] [(0,3)],[.t 76]⟩ (DT.one ⟨some 78,none,.app 6 3 64 40,[.t 69,.t 77]⟩ (DT.one ⟨some 79,none,.len,[.t 78]⟩ DT.nil)))).two (DT.one
 ⟨some 77,none,.bslc 5 3 1 64 [i6 0,i6 0,.nl] [(0,3)],[.t 76]⟩ (DT.one ⟨some 69,none,.call 81 false,[.t 68]⟩ (DT.one ⟨some 78,none,.app 6 3 64 40,[.t 69,.t 77]⟩ (DT.one
 ⟨some 79,none,.len,[.t 78]⟩ DT.nil)))))))))))))))))).two (DT.one ⟨some 73,none,.fldA 3,[.t 4]⟩ ((DT.one ⟨some 69,none,.call 81 false,[.t 68]⟩ (DT.one ⟨some 71,none,.load
 none,[.t 70]⟩ (DT.one ⟨some 72,none,.len,[.t 71]⟩ (DT.one ⟨some 74,none,.load none,[.t 73]⟩ (DT.one ⟨some 75,none,.len,[.t 74]⟩ (DT.one ⟨some 76,none,.build [i6 0,i6
 0,.nl] [(0,1),(1,1)],[.t 72,.t 75]⟩ (DT.one ⟨some 77,none,.bslc 5 3 1 64 [i6 0,i6 0,.nl] [(0,3)],[.t 76]⟩ (DT.one ⟨some 78,none,.app 6 3 64 40,[.t 69,.t 77]⟩
 (DT.one ⟨some 79,none,.len,[.t 78]⟩ DT.nil))))))))).two ((DT.one ⟨some 71,none,.load none,[.t 70]⟩ ((DT.one ⟨some 69,none,.call 81 false,[.t 68]⟩ (DT.one ⟨some 72,none,
 .len,[.t 71]⟩ (DT.one ⟨some 74,none,.load none,[.t 73]⟩ (DT.one ⟨some 75,none,.len,[.t 74]⟩ (DT.one ⟨some 76,none,.build [i6 0,i6 0,.nl] [(0,1),(1,1)],[.t 72,.t
 75]⟩ (DT.one ⟨some 77,none,.bslc 5 3 1 64 [i6 0,i6 0,.nl] [(0,3)],[.t 76]⟩ (DT.one ⟨some 78,none,.app 6 3 64 40,[.t 69,.t 77]⟩ (DT.one ⟨some 79,none,.len,[.t 78]⟩
 DT.nil)))))))).two ((DT.one ⟨some 72,none,.len,[.t 71]⟩ ((DT.one ⟨some 69,none,.call 81 false,[.t 68]⟩ (DT.one ⟨some 74,none,.load none,[.t 73]⟩ (DT.one ⟨some 75,none,
 .len,[.t 74]⟩ (DT.one ⟨some 76,none,.build [i6 0,i6 0,.nl] [(0,1),(1,1)],[.t 72,.t 75]⟩ (DT.one ⟨some 77,none,.bslc 5 3 1 64 [i6 0,i6 0,.nl] [(0,3)],[.t 76]⟩
 (DT.one ⟨some 78,none,.app 6 3 64 40,[.t 69,.t 77]⟩ (DT.one ⟨some 79,none,.len,[.t 78]⟩ DT.nil))))))).two (DT.one ⟨some 74,none,.load none,[.t 73]⟩ ((DT.one ⟨some 69,
 none,.call 81 false,[.t 68]⟩ (DT.one ⟨some 75,none,.len,[.t 74]⟩ (DT.one ⟨some 76,none,.build [i6 0,i6 0,.nl] [(0,1),(1,1)],[.t 72,.t 75]⟩ (DT.one ⟨some 77,none,
 .bslc 5 3 1 64 [i6 0,i6 0,.nl] [(0,3)],[.t 76]⟩ (DT.one ⟨some 78,none,.app 6 3 64 40,[.t 69,.t 77]⟩ (DT.one ⟨some 79,none,.len,[.t 78]⟩ DT.nil)))))).two (DT.one ⟨some
 75,none,.len,[.t 74]⟩ (DT.one ⟨some 76,none,.build [i6 0,i6 0,.nl] [(0,1),(1,1)],[.t 72,.t 75]⟩ ((DT.one ⟨some 69,none,.call 81 false,[.t 68]⟩ (DT.one ⟨some 77,
 none,.bslc 5 3 1 64 [i6 0,i6 0,.nl] [(0,3)],[.t 76]⟩ (DT.one ⟨some 78,none,.app 6 3 64 40,[.t 69,.t 77]⟩ (DT.one ⟨some 79,none,.len,[.t 78]⟩ DT.nil)))).two (DT.one
 ⟨some 77,none,.bslc 5 3 1 64 [i6 0,i6 0,.nl] [(0,3)],[.t 76]⟩ (DT.one ⟨some 69,none,.call 81 false,[.t 68]⟩ (DT.one ⟨some 78,none,.app 6 3 64 40,[.t 69,.t 77]⟩ (DT.one
 ⟨some 79,none,.len,[.t 78]⟩ DT.nil))))))))))).two (DT.one ⟨some 74,none,.load none,[.t 73]⟩ ((DT.one ⟨some 69,none,.call 81 false,[.t 68]⟩ (DT.one ⟨some 72,none,.len,
 [.t 71]⟩ (DT.one ⟨some 75,none,.len,[.t 74]⟩ (DT.one ⟨some 76,none,.build [i6 0,i6 0,.nl] [(0,1),(1,1)],[.t 72,.t 75]⟩ (DT.one ⟨some 77,none,.bslc 5 3 1 64 [i6 0,i6
 0,.nl] [(0,3)],[.t 76]⟩ (DT.one ⟨some 78,none,.app 6 3 64 40,[.t 69,.t 77]⟩ (DT.one ⟨some 79,none,.len,[.t 78]⟩ DT.nil))))))).two ((DT.one ⟨some 72,none,.len,[.t 71]⟩
 ((DT.one ⟨some 69,none,.call 81 false,[.t 68]⟩ (DT.one ⟨some 75,none,.len,[.t 74]⟩ (DT.one ⟨some 76,none,.build [i6 0,i6 0,.nl] [(0,1),(1,1)],[.t 72,.t 75]⟩ (DT.one
 ⟨some 77,none,.bslc 5 3 1 64 [i6 0,i6 0,.nl] [(0,3)],[.t 76]⟩ (DT.one ⟨some 78,none,.app 6 3 64 40,[.t 69,.t 77]⟩ (DT.one ⟨some 79,none,.len,[.t 78]⟩ DT.nil)))))).two
 (DT.one ⟨some 75,none,.len,[.t 74]⟩ (DT.one ⟨some 76,none,.build [i6 0,i6 0,.nl] [(0,1),(1,1)],[.t 72,.t 75]⟩ ((DT.one ⟨some 69,none,.call 81 false,[.t 68]⟩ (DT.one
 ⟨some 77,none,.bslc 5 3 1 64 [i6 0,i6 0,.nl] [(0,3)],[.t 76]⟩ (DT.one ⟨some 78,none,.app 6 3 64 40,[.t 69,.t 77]⟩ (DT.one ⟨some 79,none,.len,[.t 78]⟩ DT.nil)))).two
 (DT.one ⟨some 77,none,.bslc 5 3 1 64 [i6 0,i6 0,.nl] [(0,3)],[.t 76]⟩ (DT.one ⟨some 69,none,.call 81 false,[.t 68]⟩ (DT.one ⟨some 78,none,.app 6 3 64 40,[.t 69,.t 77]⟩
 (DT.one ⟨some 79,none,.len,[.t 78]⟩ DT.nil))))))))).two (DT.one ⟨some 75,none,.len,[.t 74]⟩ ((DT.one ⟨some 69,none,.call 81 false,[.t 68]⟩ (DT.one ⟨some 72,none,.len,
 [.t 71]⟩ (DT.one ⟨some 76,none,.build [i6 0,i6 0,.nl] [(0,1),(1,1)],[.t 72,.t 75]⟩ (DT.one ⟨some 77,none,.bslc 5 3 1 64 [i6 0,i6 0,.nl] [(0,3)],[.t 76]⟩ (DT.one
 ⟨some 78,none,.app 6 3 64 40,[.t 69,.t 77]⟩ (DT.one ⟨some 79,none,.len,[.t 78]⟩ DT.nil)))))).two (DT.one ⟨some 72,none,.len,[.t 71]⟩ (DT.one ⟨some 76,none,.build [i6 0,
 i6 0,.nl] [(0,1),(1,1)],[.t 72,.t 75]⟩ ((DT.one ⟨some 69,none,.call 81 false,[.t 68]⟩ (DT.one ⟨some 77,none,.bslc 5 3 1 64 [i6 0,i6 0,.nl] [(0,3)],[.t 76]⟩ (DT.one
 ⟨some 78,none,.app 6 3 64 40,[.t 69,.t 77]⟩ (DT.one ⟨some 79,none,.len,[.t 78]⟩ DT.nil)))).two (DT.one ⟨some 77,none,.bslc 5 3 1 64 [i6 0,i6 0,.nl] [(0,3)],[.t 76]⟩
 (DT.one ⟨some 69,none,.call 81 false,[.t 68]⟩ (DT.one ⟨some 78,none,.app 6 3 64 40,[.t 69,.t 77]⟩ (DT.one ⟨some 79,none,.len,[.t 78]⟩ DT.nil))))))))))))))).two (DT.one
 ⟨some 74,none,.load none,[.t 73]⟩ ((DT.one ⟨some 69,none,.call 81 false,[.t 68]⟩ (DT.one ⟨some 71,none,.load none,[.t 70]⟩ (DT.one ⟨some 72,none,.len,[.t 71]⟩ (DT.one
 ⟨some 75,none,.len,[.t 74]⟩ (DT.one ⟨some 76,none,.build [i6 0,i6 0,.nl] [(0,1),(1,1)],[.t 72,.t 75]⟩ (DT.one ⟨some 77,none,.bslc 5 3 1 64 [i6 0,i6 0,.nl] [(0,3)],
 [.t 76]⟩ (DT.one ⟨some 78,none,.app 6 3 64 40,[.t 69,.t 77]⟩ (DT.one ⟨some 79,none,.len,[.t 78]⟩ DT.nil)))))))).two ((DT.one ⟨some 71,none,.load none,[.t 70]⟩ ((DT.one
 ⟨some 69,none,.call 81 false,[.t 68]⟩ (DT.one ⟨some 72,none,.len,[.t 71]⟩ (DT.one ⟨some 75,none,.len,[.t 74]⟩ (DT.one ⟨some 76,none,.build [i6 0,i6 0,.nl] [(0,1),(1,
 1)],[.t 72,.t 75]⟩ (DT.one ⟨some 77,none,.bslc 5 3 1 64 [i6 0,i6 0,.nl] [(0,3)],[.t 76]⟩ (DT.one ⟨some 78,none,.app 6 3 64 40,[.t 69,.t 77]⟩ (DT.one ⟨some 79,none,
 .len,[.t 78]⟩ DT.nil))))))).two ((DT.one ⟨some 72,none,.len,[.t 71]⟩ ((DT.one ⟨some 69,none,.call 81 false,[.t 68]⟩ (DT.one ⟨some 75,none,.len,[.t 74]⟩ (DT.one ⟨some 76,
 none,.build [i6 0,i6 0,.nl] [(0,1),(1,1)],[.t 72,.t 75]⟩ (DT.one ⟨some 77,none,.bslc 5 3 1 64 [i6 0,i6 0,.nl] [(0,3)],[.t 76]⟩ (DT.one ⟨some 78,none,.app 6 3 64 40,
 [.t 69,.t 77]⟩ (DT.one ⟨some 79,none,.len,[.t 78]⟩ DT.nil)))))).two (DT.one ⟨some 75,none,.len,[.t 74]⟩ (DT.one ⟨some 76,none,.build [i6 0,i6 0,.nl] [(0,1),(1,1)],
 [.t 72,.t 75]⟩ ((DT.one ⟨some 69,none,.call 81 false,[.t 68]⟩ (DT.one ⟨some 77,none,.bslc 5 3 1 64 [i6 0,i6 0,.nl] [(0,3)],[.t 76]⟩ (DT.one ⟨some 78,none,.app 6 3 64
 40,[.t 69,.t 77]⟩ (DT.one ⟨some 79,none,.len,[.t 78]⟩ DT.nil)))).two (DT.one ⟨some 77,none,.bslc 5 3 1 64 [i6 0,i6 0,.nl] [(0,3)],[.t 76]⟩ (DT.one ⟨some 69,none,.call
 81 false,[.t 68]⟩ (DT.one ⟨some 78,none,.app 6 3 64 40,[.t 69,.t 77]⟩ (DT.one ⟨some 79,none,.len,[.t 78]⟩ DT.nil))))))))).two (DT.one ⟨some 75,none,.len,[.t 74]⟩
 ((DT.one ⟨some 69,none,.call 81 false,[.t 68]⟩ (DT.one ⟨some 72,none,.len,[.t 71]⟩ (DT.one ⟨some 76,none,.build [i6 0,i6 0,.nl] [(0,1),(1,1)],[.t 72,.t 75]⟩ (DT.one
 ⟨some 77,none,.bslc 5 3 1 64 [i6 0,i6 0,.nl] [(0,3)],[.t 76]⟩ (DT.one ⟨some 78,none,.app 6 3 64 40,[.t 69,.t 77]⟩ (DT.one ⟨some 79,none,.len,[.t 78]⟩ DT.nil)))))).two
 (DT.one ⟨some 72,none,.len,[.t 71]⟩ (DT.one ⟨some 76,none,.build [i6 0,i6 0,.nl] [(0,1),(1,1)],[.t 72,.t 75]⟩ ((DT.one ⟨some 69,none,.call 81 false,[.t 68]⟩ (DT.one
 ⟨some 77,none,.bslc 5 3 1 64 [i6 0,i6 0,.nl] [(0,3)],[.t 76]⟩ (DT.one ⟨some 78,none,.app 6 3 64 40,[.t 69,.t 77]⟩ (DT.one ⟨some 79,none,.len,[.t 78]⟩ DT.nil)))).two
 (DT.one ⟨some 77,none,.bslc 5 3 1 64 [i6 0,i6 0,.nl] [(0,3)],[.t 76]⟩ (DT.one ⟨some 69,none,.call 81 false,[.t 68]⟩ (DT.one ⟨some 78,none,.app 6 3 64 40,[.t 69,.t 77]⟩
 (DT.one ⟨some 79,none,.len,[.t 78]⟩ DT.nil)))))))))))).two (DT.one ⟨some 75,none,.len,[.t 74]⟩ ((DT.one ⟨some 69,none,.call 81 false,[.t 68]⟩ (DT.one ⟨some 71,none,.load
 none,[.t 70]⟩ (DT.one ⟨some 72,none,.len,[.t 71]⟩ (DT.one ⟨some 76,none,.build [i6 0,i6 0,.nl] [(0,1),(1,1)],[.t 72,.t 75]⟩ (DT.one ⟨some 77,none,.bslc 5 3 1 64 [i6
 0,i6 0,.nl] [(0,3)],[.t 76]⟩ (DT.one ⟨some 78,none,.app 6 3 64 40,[.t 69,.t 77]⟩ (DT.one ⟨some 79,none,.len,[.t 78]⟩ DT.nil))))))).two (DT.one ⟨some 71,none,.load
 none,[.t 70]⟩ ((DT.one ⟨some 69,none,.call 81 false,[.t 68]⟩ (DT.one ⟨some 72,none,.len,[.t 71]⟩ (DT.one ⟨some 76,none,.build [i6 0,i6 0,.nl] [(0,1),(1,1)],[.t 72,
 .t 75]⟩ (DT.one ⟨some 77,none,.bslc 5 3 1 64 [i6 0,i6 0,.nl] [(0,3)],[.t 76]⟩ (DT.one ⟨some 78,none,.app 6 3 64 40,[.t 69,.t 77]⟩ (DT.one ⟨some 79,none,.len,[.t 78]⟩
 DT.nil)))))).two (DT.one ⟨some 72,none,.len,[.t 71]⟩ (DT.one ⟨some 76,none,.build [i6 0,i6 0,.nl] [(0,1),(1,1)],[.t 72,.t 75]⟩ ((DT.one ⟨some 69,none,.call 81 false,
 [.t 68]⟩ (DT.one ⟨some 77,none,.bslc 5 3 1 64 [i6 0,i6 0,.nl] [(0,3)],[.t 76]⟩ (DT.one ⟨some 78,none,.app 6 3 64 40,[.t 69,.t 77]⟩ (DT.one ⟨some 79,none,.len,[.t 78]⟩
 DT.nil)))).two (DT.one ⟨some 77,none,.bslc 5 3 1 64 [i6 0,i6 0,.nl] [(0,3)],[.t 76]⟩ (DT.one ⟨some 69,none,.call 81 false,[.t 68]⟩ (DT.one ⟨some 78,none,.app 6 3 64 40,
 [.t 69,.t 77]⟩ (DT.one ⟨some 79,none,.len,[.t 78]⟩ DT.nil)))))))))))))))))))).two (DT.one ⟨some 73,none,.fldA 3,[.t 4]⟩ ((DT.one ⟨some 69,none,.call 81 false,[.t 68]⟩
 (DT.one ⟨some 70,none,.fldA 3,[.t 4]⟩ (DT.one ⟨some 71,none,.load none,[.t 70]⟩ (DT.one ⟨some 72,none,.len,[.t 71]⟩ (DT.one ⟨some 74,none,.load none,[.t 73]⟩ (DT.one
 ⟨some 75,none,.len,[.t 74]⟩ (DT.one ⟨some 76,none,.build [i6 0,i6 0,.nl] [(0,1),(1,1)],[.t 72,.t 75]⟩ (DT.one ⟨some 77,none,.bslc 5 3 1 64 [i6 0,i6 0,.nl] [(0,3)],
 [.t 76]⟩ (DT.one ⟨some 78,none,.app 6 3 64 40,[.t 69,.t 77]⟩ (DT.one ⟨some 79,none,.len,[.t 78]⟩ DT.nil)))))))))).two ((DT.one ⟨some 70,none,.fldA 3,[.t 4]⟩ ((DT.one
 ⟨some 69,none,.call 81 false,[.t 68]⟩ (DT.one ⟨some 71,none,.load none,[.t 70]⟩ (DT.one ⟨some 72,none,.len,[.t 71]⟩ (DT.one ⟨some 74,none,.load none,[.t 73]⟩ (DT.one
 ⟨some 75,none,.len,[.t 74]⟩ (DT.one ⟨some 76,none,.build [i6 0,i6 0,.nl] [(0,1),(1,1)],[.t 72,.t 75]⟩ (DT.one ⟨some 77,none,.bslc 5 3 1 64 [i6 0,i6 0,.nl] [(0,3)],
 [.t 76]⟩ (DT.one ⟨some 78,none,.app 6 3 64 40,[.t 69,.t 77]⟩ (DT.one ⟨some 79,none,.len,[.t 78]⟩ DT.nil))))))))).two ((DT.one ⟨some 71,none,.load none,[.t 70]⟩ ((DT.one
 ⟨some 69,none,.call 81 false,[.t 68]⟩ (DT.one ⟨some 72,none,.len,[.t 71]⟩ (DT.one ⟨some 74,none,.load none,[.t 73]⟩ (DT.one ⟨some 75,none,.len,[.t 74]⟩ (DT.one ⟨some
 76,none,.build [i6 0,i6 0,.nl] [(0,1),(1,1)],[.t 72,.t 75]⟩ (DT.one ⟨some 77,none,.bslc 5 3 1 64 [i6 0,i6 0,.nl] [(0,3)],[.t 76]⟩ (DT.one ⟨some 78,none,.app 6 3 64
 40,[.t 69,.t 77]⟩ (DT.one ⟨some 79,none,.len,[.t 78]⟩ DT.nil)))))))).two ((DT.one ⟨some 72,none,.len,[.t 71]⟩ ((DT.one ⟨some 69,none,.call 81 false,[.t 68]⟩ (DT.one
 ⟨some 74,none,.load none,[.t 73]⟩ (DT.one ⟨some 75,none,.len,[.t 74]⟩ (DT.one ⟨some 76,none,.build [i6 0,i6 0,.nl] [(0,1),(1,1)],[.t 72,.t 75]⟩ (DT.one ⟨some 77,
 none,.bslc 5 3 1 64 [i6 0,i6 0,.nl] [(0,3)],[.t 76]⟩ (DT.one ⟨some 78,none,.app 6 3 64 40,[.t 69,.t 77]⟩ (DT.one ⟨some 79,none,.len,[.t 78]⟩ DT.nil))))))).two (DT.one
 ⟨some 74,none,.load none,[.t 73]⟩ ((DT.one ⟨some 69,none,.call 81 false,[.t 68]⟩ (DT.one ⟨some 75,none,.len,[.t 74]⟩ (DT.one ⟨some 76,none,.build [i6 0,i6 0,.nl] [(0,
 1),(1,1)],[.t 72,.t 75]⟩ (DT.one ⟨some 77,none,.bslc 5 3 1 64 [i6 0,i6 0,.nl] [(0,3)],[.t 76]⟩ (DT.one ⟨some 78,none,.app 6 3 64 40,[.t 69,.t 77]⟩ (DT.one ⟨some 79,
 none,.len,[.t 78]⟩ DT.nil)))))).two (DT.one ⟨some 75,none,.len,[.t 74]⟩ (DT.one ⟨some 76,none,.build [i6 0,i6 0,.nl] [(0,1),(1,1)],[.t 72,.t 75]⟩ ((DT.one ⟨some 69,
 none,.call 81 false,[.t 68]⟩ (DT.one ⟨some 77,none,.bslc 5 3 1 64 [i6 0,i6 0,.nl] [(0,3)],[.t 76]⟩ (DT.one ⟨some 78,none,.app 6 3 64 40,[.t 69,.t 77]⟩ (DT.one ⟨some 79,
 none,.len,[.t 78]⟩ DT.nil)))).two (DT.one ⟨some 77,none,.bslc 5 3 1 64 [i6 0,i6 0,.nl] [(0,3)],[.t 76]⟩ (DT.one ⟨some 69,none,.call 81 false,[.t 68]⟩ (DT.one ⟨some 78,
 none,.app 6 3 64 40,[.t 69,.t 77]⟩ (DT.one ⟨some 79,none,.len,[.t 78]⟩ DT.nil))))))))))).two (DT.one ⟨some 74,none,.load none,[.t 73]⟩ ((DT.one ⟨some 69,none,.call 81
 false,[.t 68]⟩ (DT.one ⟨some 72,none,.len,[.t 71]⟩ (DT.one ⟨some 75,none,.len,[.t 74]⟩ (DT.one ⟨some 76,none,.build [i6 0,i6 0,.nl] [(0,1),(1,1)],[.t 72,.t 75]⟩
 (DT.one ⟨some 77,none,.bslc 5 3 1 64 [i6 0,i6 0,.nl] [(0,3)],[.t 76]⟩ (DT.one ⟨some 78,none,.app 6 3 64 40,[.t 69,.t 77]⟩ (DT.one ⟨some 79,none,.len,[.t 78]⟩
 DT.nil))))))).two ((DT.one ⟨some 72,none,.len,[.t 71]⟩ ((DT.one ⟨some 69,none,.call 81 false,[.t 68]⟩ (DT.one ⟨some 75,none,.len,[.t 74]⟩ (DT.one ⟨some 76,none,.build
 [i6 0,i6 0,.nl] [(0,1),(1,1)],[.t 72,.t 75]⟩ (DT.one ⟨some 77,none,.bslc 5 3 1 64 [i6 0,i6 0,.nl] [(0,3)],[.t 76]⟩ (DT.one ⟨some 78,none,.app 6 3 64 40,[.t 69,.t
 77]⟩ (DT.one ⟨some 79,none,.len,[.t 78]⟩ DT.nil)))))).two (DT.one ⟨some 75,none,.len,[.t 74]⟩ (DT.one ⟨some 76,none,.build [i6 0,i6 0,.nl] [(0,1),(1,1)],[.t 72,.t
 75]⟩ ((DT.one ⟨some 69,none,.call 81 false,[.t 68]⟩ (DT.one ⟨some 77,none,.bslc 5 3 1 64 [i6 0,i6 0,.nl] [(0,3)],[.t 76]⟩ (DT.one ⟨some 78,none,.app 6 3 64 40,[.t 69,
 .t 77]⟩ (DT.one ⟨some 79,none,.len,[.t 78]⟩ DT.nil)))).two (DT.one ⟨some 77,none,.bslc 5 3 1 64 [i6 0,i6 0,.nl] [(0,3)],[.t 76]⟩ (DT.one ⟨some 69,none,.call 81 false,
 [.t 68]⟩ (DT.one ⟨some 78,none,.app 6 3 64 40,[.t 69,.t 77]⟩ (DT.one ⟨some 79,none,.len,[.t 78]⟩ DT.nil))))))))).two (DT.one ⟨some 75,none,.len,[.t 74]⟩ ((DT.one ⟨some
 69,none,.call 81 false,[.t 68]⟩ (DT.one ⟨some 72,none,.len,[.t 71]⟩ (DT.one ⟨some 76,none,.build [i6 0,i6 0,.nl] [(0,1),(1,1)],[.t 72,.t 75]⟩ (DT.one ⟨some 77,none,
 .bslc 5 3 1 64 [i6 0,i6 0,.nl] [(0,3)],[.t 76]⟩ (DT.one ⟨some 78,none,.app 6 3 64 40,[.t 69,.t 77]⟩ (DT.one ⟨some 79,none,.len,[.t 78]⟩ DT.nil)))))).two (DT.one ⟨some
 72,none,.len,[.t 71]⟩ (DT.one ⟨some 76,none,.build [i6 0,i6 0,.nl] [(0,1),(1,1)],[.t 72,.t 75]⟩ ((DT.one ⟨some 69,none,.call 81 false,[.t 68]⟩ (DT.one ⟨some 77,
 none,.bslc 5 3 1 64 [i6 0,i6 0,.nl] [(0,3)],[.t 76]⟩ (DT.one ⟨some 78,none,.app 6 3 64 40,[.t 69,.t 77]⟩ (DT.one ⟨some 79,none,.len,[.t 78]⟩ DT.nil)))).two (DT.one
 ⟨some 77,none,.bslc 5 3 1 64 [i6 0,i6 0,.nl] [(0,3)],[.t 76]⟩ (DT.one ⟨some 69,none,.call 81 false,[.t 68]⟩ (DT.one ⟨some 78,none,.app 6 3 64 40,[.t 69,.t 77]⟩ (DT.one
 ⟨some 79,none,.len,[.t 78]⟩ DT.nil))))))))))))))).two (DT.one ⟨some 74,none,.load none,[.t 73]⟩ ((DT.one ⟨some 69,none,.call 81 false,[.t 68]⟩ (DT.one ⟨some 71,none,
 .load none,[.t 70]⟩ (DT.one ⟨some 72,none,.len,[.t 71]⟩ (DT.one ⟨some 75,none,.len,[.t 74]⟩ (DT.one ⟨some 76,none,.build [i6 0,i6 0,.nl] [(0,1),(1,1)],[.t 72,.t
 75]⟩ (DT.one ⟨some 77,none,.bslc 5 3 1 64 [i6 0,i6 0,.nl] [(0,3)],[.t 76]⟩ (DT.one ⟨some 78,none,.app 6 3 64 40,[.t 69,.t 77]⟩ (DT.one ⟨some 79,none,.len,[.t 78]⟩
 DT.nil)))))))).two ((DT.one ⟨some 71,none,.load none,[.t 70]⟩ ((DT.one ⟨some 69,none,.call 81 false,[.t 68]⟩ (DT.one ⟨some 72,none,.len,[.t 71]⟩ (DT.one ⟨some 75,none,
 .len,[.t 74]⟩ (DT.one ⟨some 76,none,.build [i6 0,i6 0,.nl] [(0,1),(1,1)],[.t 72,.t 75]⟩ (DT.one ⟨some 77,none,.bslc 5 3 1 64 [i6 0,i6 0,.nl] [(0,3)],[.t 76]⟩
 (DT.one ⟨some 78,none,.app 6 3 64 40,[.t 69,.t 77]⟩ (DT.one ⟨some 79,none,.len,[.t 78]⟩ DT.nil))))))).two ((DT.one ⟨some 72,none,.len,[.t 71]⟩ ((DT.one ⟨some 69,none,
 .call 81 false,[.t 68]⟩ (DT.one ⟨some 75,none,.len,[.t 74]⟩ (DT.one ⟨some 76,none,.build [i6 0,i6 0,.nl] [(0,1),(1,1)],[.t 72,.t 75]⟩ (DT.one ⟨some 77,none,.bslc 5 3
 1 64 [i6 0,i6 0,.nl] [(0,3)],[.t 76]⟩ (DT.one ⟨some 78,none,.app 6 3 64 40,[.t 69,.t 77]⟩ (DT.one ⟨some 79,none,.len,[.t 78]⟩ DT.nil)))))).two (DT.one ⟨some 75,none,
 .len,[.t 74]⟩ (DT.one ⟨some 76,none,.build [i6 0,i6 0,.nl] [(0,1),(1,1)],[.t 72,.t 75]⟩ ((DT.one ⟨some 69,none,.call 81 false,[.t 68]⟩ (DT.one ⟨some 77,none,.bslc 5
 3 1 64 [i6 0,i6 0,.nl] [(0,3)],[.t 76]⟩ (DT.one ⟨some 78,none,.app 6 3 64 40,[.t 69,.t 77]⟩ (DT.one ⟨some 79,none,.len,[.t 78]⟩ DT.nil)))).two (DT.one ⟨some 77,none,
 .bslc 5 3 1 64 [i6 0,i6 0,.nl] [(0,3)],[.t 76]⟩ (DT.one ⟨some 69,none,.call 81 false,[.t 68]⟩ (DT.one ⟨some 78,none,.app 6 3 64 40,[.t 69,.t 77]⟩ (DT.one ⟨some 79,none,
 .len,[.t 78]⟩ DT.nil))))))))).two (DT.one ⟨some 75,none,.len,[.t 74]⟩ ((DT.one ⟨some 69,none,.call 81 false,[.t 68]⟩ (DT.one ⟨some 72,none,.len,[.t 71]⟩ (DT.one ⟨some 76,
 none,.build [i6 0,i6 0,.nl] [(0,1),(1,1)],[.t 72,.t 75]⟩ (DT.one ⟨some 77,none,.bslc 5 3 1 64 [i6 0,i6 0,.nl] [(0,3)],[.t 76]⟩ (DT.one ⟨some 78,none,.app 6 3 64 40,
 [.t 69,.t 77]⟩ (DT.one ⟨some 79,none,.len,[.t 78]⟩ DT.nil)))))).two (DT.one ⟨some 72,none,.len,[.t 71]⟩ (DT.one ⟨some 76,none,.build [i6 0,i6 0,.nl] [(0,1),(1,1)],
 [.t 72,.t 75]⟩ ((DT.one ⟨some 69,none,.call 81 false,[.t 68]⟩ (DT.one ⟨some 77,none,.bslc 5 3 1 64 [i6 0,i6 0,.nl] [(0,3)],[.t 76]⟩ (DT.one ⟨some 78,none,.app 6 3 64
 40,[.t 69,.t 77]⟩ (DT.one ⟨some 79,none,.len,[.t 78]⟩ DT.nil)))).two (DT.one ⟨some 77,none,.bslc 5 3 1 64 [i6 0,i6 0,.nl] [(0,3)],[.t 76]⟩ (DT.one ⟨some 69,none,.call
 81 false,[.t 68]⟩ (DT.one ⟨some 78,none,.app 6 3 64 40,[.t 69,.t 77]⟩ (DT.one ⟨some 79,none,.len,[.t 78]⟩ DT.nil)))))))))))).two (DT.one ⟨some 75,none,.len,[.t 74]⟩
 ((DT.one ⟨some 69,none,.call 81 false,[.t 68]⟩ (DT.one ⟨some 71,none,.load none,[.t 70]⟩ (DT.one ⟨some 72,none,.len,[.t 71]⟩ (DT.one ⟨some 76,none,.build [i6 0,i6 0,
 .nl] [(0,1),(1,1)],[.t 72,.t 75]⟩ (DT.one ⟨some 77,none,.bslc 5 3 1 64 [i6 0,i6 0,.nl] [(0,3)],[.t 76]⟩ (DT.one ⟨some 78,none,.app 6 3 64 40,[.t 69,.t 77]⟩ (DT.one
 ⟨some 79,none,.len,[.t 78]⟩ DT.nil))))))).two (DT.one ⟨some 71,none,.load none,[.t 70]⟩ ((DT.one ⟨some 69,none,.call 81 false,[.t 68]⟩ (DT.one ⟨some 72,none,.len,[.t
 71]⟩ (DT.one ⟨some 76,none,.build [i6 0,i6 0,.nl] [(0,1),(1,1)],[.t 72,.t 75]⟩ (DT.one ⟨some 77,none,.bslc 5 3 1 64 [i6 0,i6 0,.nl] [(0,3)],[.t 76]⟩ (DT.one ⟨some
 78,none,.app 6 3 64 40,[.t 69,.t 77]⟩ (DT.one ⟨some 79,none,.len,[.t 78]⟩ DT.nil)))))).two (DT.one ⟨some 72,none,.len,[.t 71]⟩ (DT.one ⟨some 76,none,.build [i6 0,i6 0,
 .nl] [(0,1),(1,1)],[.t 72,.t 75]⟩ ((DT.one ⟨some 69,none,.call 81 false,[.t 68]⟩ (DT.one ⟨some 77,none,.bslc 5 3 1 64 [i6 0,i6 0,.nl] [(0,3)],[.t 76]⟩ (DT.one ⟨some
 78,none,.app 6 3 64 40,[.t 69,.t 77]⟩ (DT.one ⟨some 79,none,.len,[.t 78]⟩ DT.nil)))).two (DT.one ⟨some 77,none,.bslc 5 3 1 64 [i6 0,i6 0,.nl] [(0,3)],[.t 76]⟩ (DT.one
 ⟨some 69,none,.call 81 false,[.t 68]⟩ (DT.one ⟨some 78,none,.app 6 3 64 40,[.t 69,.t 77]⟩ (DT.one ⟨some 79,none,.len,[.t 78]⟩ DT.nil))))))))))))))))).two (DT.one ⟨some
 74,none,.load none,[.t 73]⟩ ((DT.one ⟨some 69,none,.call 81 false,[.t 68]⟩ (DT.one ⟨some 70,none,.fldA 3,[.t 4]⟩ (DT.one ⟨some 71,none,.load none,[.t 70]⟩ (DT.one ⟨some
 72,none,.len,[.t 71]⟩ (DT.one ⟨some 75,none,.len,[.t 74]⟩ (DT.one ⟨some 76,none,.build [i6 0,i6 0,.nl] [(0,1),(1,1)],[.t 72,.t 75]⟩ (DT.one ⟨some 77,none,.bslc 5 3
 1 64 [i6 0,i6 0,.nl] [(0,3)],[.t 76]⟩ (DT.one ⟨some 78,none,.app 6 3 64 40,[.t 69,.t 77]⟩ (DT.one ⟨some 79,none,.len,[.t 78]⟩ DT.nil))))))))).two ((DT.one ⟨some 70,
 none,.fldA 3,[.t 4]⟩ ((DT.one ⟨some 69,none,.call 81 false,[.t 68]⟩ (DT.one ⟨some 71,none,.load none,[.t 70]⟩ (DT.one ⟨some 72,none,.len,[.t 71]⟩ (DT.one ⟨some 75,none,
 .len,[.t 74]⟩ (DT.one ⟨some 76,none,.build [i6 0,i6 0,.nl] [(0,1),(1,1)],[.t 72,.t 75]⟩ (DT.one ⟨some 77,none,.bslc 5 3 1 64 [i6 0,i6 0,.nl] [(0,3)],[.t 76]⟩
 (DT.one ⟨some 78,none,.app 6 3 64 40,[.t 69,.t 77]⟩ (DT.one ⟨some 79,none,.len,[.t 78]⟩ DT.nil)))))))).two ((DT.one ⟨some 71,none,.load none,[.t 70]⟩ ((DT.one ⟨some 69,
 none,.call 81 false,[.t 68]⟩ (DT.one ⟨some 72,none,.len,[.t 71]⟩ (DT.one ⟨some 75,none,.len,[.t 74]⟩ (DT.one ⟨some 76,none,.build [i6 0,i6 0,.nl] [(0,1),(1,1)],[.t
 72,.t 75]⟩ (DT.one ⟨some 77,none,.bslc 5 3 1 64 [i6 0,i6 0,.nl] [(0,3)],[.t 76]⟩ (DT.one ⟨some 78,none,.app 6 3 64 40,[.t 69,.t 77]⟩ (DT.one ⟨some 79,none,.len,[.t
 78]⟩ DT.nil))))))).two ((DT.one ⟨some 72,none,.len,[.t 71]⟩ ((DT.one ⟨some 69,none,.call 81 false,[.t 68]⟩ (DT.one ⟨some 75,none,.len,[.t 74]⟩ (DT.one ⟨some 76,none,
 .build [i6 0,i6 0,.nl] [(0,1),(1,1)],[.t 72,.t 75]⟩ (DT.one ⟨some 77,none,.bslc 5 3 1 64 [i6 0,i6 0,.nl] [(0,3)],[.t 76]⟩ (DT.one ⟨some 78,none,.app 6 3 64 40,[.t
 69,.t 77]⟩ (DT.one ⟨some 79,none,.len,[.t 78]⟩ DT.nil)))))).two (DT.one ⟨some 75,none,.len,[.t 74]⟩ (DT.one ⟨some 76,none,.build [i6 0,i6 0,.nl] [(0,1),(1,1)],[.t
 72,.t 75]⟩ ((DT.one ⟨some 69,none,.call 81 false,[.t 68]⟩ (DT.one ⟨some 77,none,.bslc 5 3 1 64 [i6 0,i6 0,.nl] [(0,3)],[.t 76]⟩ (DT.one ⟨some 78,none,.app 6 3 64 40,
 [.t 69,.t 77]⟩ (DT.one ⟨some 79,none,.len,[.t 78]⟩ DT.nil)))).two (DT.one ⟨some 77,none,.bslc 5 3 1 64 [i6 0,i6 0,.nl] [(0,3)],[.t 76]⟩ (DT.one ⟨some 69,none,.call 81
 false,[.t 68]⟩ (DT.one ⟨some 78,none,.app 6 3 64 40,[.t 69,.t 77]⟩ (DT.one ⟨some 79,none,.len,[.t 78]⟩ DT.nil))))))))).two (DT.one ⟨some 75,none,.len,[.t 74]⟩ ((DT.one
 ⟨some 69,none,.call 81 false,[.t 68]⟩ (DT.one ⟨some 72,none,.len,[.t 71]⟩ (DT.one ⟨some 76,none,.build [i6 0,i6 0,.nl] [(0,1),(1,1)],[.t 72,.t 75]⟩ (DT.one ⟨some 77,
 none,.bslc 5 3 1 64 [i6 0,i6 0,.nl] [(0,3)],[.t 76]⟩ (DT.one ⟨some 78,none,.app 6 3 64 40,[.t 69,.t 77]⟩ (DT.one ⟨some 79,none,.len,[.t 78]⟩ DT.nil)))))).two (DT.one
 ⟨some 72,none,.len,[.t 71]⟩ (DT.one ⟨some 76,none,.build [i6 0,i6 0,.nl] [(0,1),(1,1)],[.t 72,.t 75]⟩ ((DT.one ⟨some 69,none,.call 81 false,[.t 68]⟩ (DT.one ⟨some
 77,none,.bslc 5 3 1 64 [i6 0,i6 0,.nl] [(0,3)],[.t 76]⟩ (DT.one ⟨some 78,none,.app 6 3 64 40,[.t 69,.t 77]⟩ (DT.one ⟨some 79,none,.len,[.t 78]⟩ DT.nil)))).two (DT.one
 ⟨some 77,none,.bslc 5 3 1 64 [i6 0,i6 0,.nl] [(0,3)],[.t 76]⟩ (DT.one ⟨some 69,none,.call 81 false,[.t 68]⟩ (DT.one ⟨some 78,none,.app 6 3 64 40,[.t 69,.t 77]⟩ (DT.one
 ⟨some 79,none,.len,[.t 78]⟩ DT.nil)))))))))))).two (DT.one ⟨some 75,none,.len,[.t 74]⟩ ((DT.one ⟨some 69,none,.call 81 false,[.t 68]⟩ (DT.one ⟨some 71,none,.load none,
 [.t 70]⟩ (DT.one ⟨some 72,none,.len,[.t 71]⟩ (DT.one ⟨some 76,none,.build [i6 0,i6 0,.nl] [(0,1),(1,1)],[.t 72,.t 75]⟩ (DT.one ⟨some 77,none,.bslc 5 3 1 64 [i6 0,i6
 0,.nl] [(0,3)],[.t 76]⟩ (DT.one ⟨some 78,none,.app 6 3 64 40,[.t 69,.t 77]⟩ (DT.one ⟨some 79,none,.len,[.t 78]⟩ DT.nil))))))).two (DT.one ⟨some 71,none,.load none,[.t
 70]⟩ ((DT.one ⟨some 69,none,.call 81 false,[.t 68]⟩ (DT.one ⟨some 72,none,.len,[.t 71]⟩ (DT.one ⟨some 76,none,.build [i6 0,i6 0,.nl] [(0,1),(1,1)],[.t 72,.t 75]⟩
 (DT.one ⟨some 77,none,.bslc 5 3 1 64 [i6 0,i6 0,.nl] [(0,3)],[.t 76]⟩ (DT.one ⟨some 78,none,.app 6 3 64 40,[.t 69,.t 77]⟩ (DT.one ⟨some 79,none,.len,[.t 78]⟩
 DT.nil)))))).two (DT.one ⟨some 72,none,.len,[.t 71]⟩ (DT.one ⟨some 76,none,.build [i6 0,i6 0,.nl] [(0,1),(1,1)],[.t 72,.t 75]⟩ ((DT.one ⟨some 69,none,.call 81 false,
 [.t 68]⟩ (DT.one ⟨some 77,none,.bslc 5 3 1 64 [i6 0,i6 0,.nl] [(0,3)],[.t 76]⟩ (DT.one ⟨some 78,none,.app 6 3 64 40,[.t 69,.t 77]⟩ (DT.one ⟨some 79,none,.len,[.t 78]⟩
 DT.nil)))).two (DT.one ⟨some 77,none,.bslc 5 3 1 64 [i6 0,i6 0,.nl] [(0,3)],[.t 76]⟩ (DT.one ⟨some 69,none,.call 81 false,[.t 68]⟩ (DT.one ⟨some 78,none,.app 6 3 64 40,
 [.t 69,.t 77]⟩ (DT.one ⟨some 79,none,.len,[.t 78]⟩ DT.nil)))))))))))))).two (DT.one ⟨some 75,none,.len,[.t 74]⟩ ((DT.one ⟨some 69,none,.call 81 false,[.t 68]⟩ (DT.one
 ⟨some 70,none,.fldA 3,[.t 4]⟩ (DT.one ⟨some 71,none,.load none,[.t 70]⟩ (DT.one ⟨some 72,none,.len,[.t 71]⟩ (DT.one ⟨some 76,none,.build [i6 0,i6 0,.nl] [(0,1),(1,
 1)],[.t 72,.t 75]⟩ (DT.one ⟨some 77,none,.bslc 5 3 1 64 [i6 0,i6 0,.nl] [(0,3)],[.t 76]⟩ (DT.one ⟨some 78,none,.app 6 3 64 40,[.t 69,.t 77]⟩ (DT.one ⟨some 79,none,
 .len,[.t 78]⟩ DT.nil)))))))).two (DT.one ⟨some 70,none,.fldA 3,[.t 4]⟩ ((DT.one ⟨some 69,none,.call 81 false,[.t 68]⟩ (DT.one ⟨some 71,none,.load none,[.t 70]⟩ (DT.one
 ⟨some 72,none,.len,[.t 71]⟩ (DT.one ⟨some 76,none,.build [i6 0,i6 0,.nl] [(0,1),(1,1)],[.t 72,.t 75]⟩ (DT.one ⟨some 77,none,.bslc 5 3 1 64 [i6 0,i6 0,.nl] [(0,3)],
 [.t 76]⟩ (DT.one ⟨some 78,none,.app 6 3 64 40,[.t 69,.t 77]⟩ (DT.one ⟨some 79,none,.len,[.t 78]⟩ DT.nil))))))).two (DT.one ⟨some 71,none,.load none,[.t 70]⟩ ((DT.one
 ⟨some 69,none,.call 81 false,[.t 68]⟩ (DT.one ⟨some 72,none,.len,[.t 71]⟩ (DT.one ⟨some 76,none,.build [i6 0,i6 0,.nl] [(0,1),(1,1)],[.t 72,.t 75]⟩ (DT.one ⟨some 77,
 none,.bslc 5 3 1 64 [i6 0,i6 0,.nl] [(0,3)],[.t 76]⟩ (DT.one ⟨some 78,none,.app 6 3 64 40,[.t 69,.t 77]⟩ (DT.one ⟨some 79,none,.len,[.t 78]⟩ DT.nil)))))).two (DT.one
 ⟨some 72,none,.len,[.t 71]⟩ (DT.one ⟨some 76,none,.build [i6 0,i6 0,.nl] [(0,1),(1,1)],[.t 72,.t 75]⟩ ((DT.one ⟨some 69,none,.call 81 false,[.t 68]⟩ (DT.one ⟨some
 77,none,.bslc 5 3 1 64 [i6 0,i6 0,.nl] [(0,3)],[.t 76]⟩ (DT.one ⟨some 78,none,.app 6 3 64 40,[.t 69,.t 77]⟩ (DT.one ⟨some 79,none,.len,[.t 78]⟩ DT.nil)))).two (DT.one
 ⟨some 77,none,.bslc 5 3 1 64 [i6 0,i6 0,.nl] [(0,3)],[.t 76]⟩ (DT.one ⟨some 69,none,.call 81 false,[.t 68]⟩ (DT.one ⟨some 78,none,.app 6 3 64 40,[.t 69,.t 77]⟩ (DT.one
 ⟨some 79,none,.len,[.t 78]⟩ DT.nil)))))))))))))))))))))))).seq (C.block 2 ((C.ops [BI 81 .lss 80 79]).seq ((C.cond (.t 81) C.skip (C.exit 2)).seq ((C.block 3 ((C.ops [MV 82 80,
 O2 83 (.idxA 3) 78 80,O1 84 (.load (some 3)) 83,⟨some 19,none,.alloc 7 3 [i6 0],[]⟩,⟨some 20,none,.alloc 8 64 [i6 0,i6 0,.nl],[]⟩,ST 1 19 82,ST 3 20 84]).seq (((C.ops
 [O1 85 (.load (some 4)) 4,MV 86 18,O1 87 (.fldA 0) 20,LD 88 87,MV 89 3,ON 90 (.call 82 true) [.t 85,.t 86,.t 88,.t 89]]).seq (C.block 4 (C.range (.t 90) [91] (C.ops [⟨some
 21,none,.alloc 9 115 [.str [],.str [],.str [],i6 0,i6 0,.str [],i6 0],[]⟩,ST 7 21 91]) (C.block 5 (C.ops [LD 92 17,O1 93 (.load (some 7)) 21,ON 94 .callv [.t 92,.t 93,
 .c (i6 (-1)),.c (i6 (-1))]]))))).seq ((C.ops [O1 95 (.fldA 1) 20,LD 96 95,MV 18 96]).seq (C.block 6 ((C.ops [LD 127 19,MV 128 1,O1 129 .len 128,BI 130 .eql 127 129,MV 126
 130]).seq (C.cond (.t 126) C.skip ((C.ops [MV 132 13,LD 133 19,O2 134 (.idxA 1) 132 133,LD 135 134,BC 136 .lss 135 (i6 0),MV 131 136]).seq (C.cond (.t 131) ((C.ops [O1 137
 (.load (some 4)) 4,O1 138 (.fldA 0) 20,LD 139 138,O1 140 (.fldA 1) 20,LD 141 140,MV 142 3,ON 143 (.call 82 true) [.t 137,.t 139,.t 141,.t 142]]).seq (C.block 9 (C.range
 (.t 143) [144] (C.ops [⟨some 22,none,.alloc 10 115 [.str [],.str [],.str [],i6 0,i6 0,.str [],i6 0],[]⟩,ST 7 22 144]) (C.block 10 (C.ops [LD 145 17,O1 146 (.load (some
 7)) 22,LD 147 19,ON 148 .callv [.t 145,.t 146,.t 147,.c (i6 (-1))]]))))) ((C.ops [MV 97 2,MV 98 13,LD 99 19,O2 100 (.idxA 1) 98 99,LD 101 100,O2 102 (.idxA 4) 97 101,O1
 103 (.load (some 4)) 102,⟨some 23,none,.alloc 11 43 [i6 0,.str [],i6 0,.str []],[]⟩,ST 4 23 103]).seq ((C.draw (DT.uni ⟨some 104,none,.call 83 true,[]⟩ (DT.one ⟨some
 105,none,.fldA 0,[.t 23]⟩ (DT.one ⟨some 106,none,.load none,[.t 105]⟩ (DT.one ⟨some 107,none,.aidx 4 1 none,[.t 104,.t 106]⟩ (DT.one ⟨some 108,none,.load (some 4),[.t
 4]⟩ (DT.one ⟨some 109,none,.load (some 3),[.t 20]⟩ (DT.one ⟨some 110,none,.load (some 4),[.t 23]⟩ (DT.uni ⟨some 111,none,.callv,[.t 107,.t 108,.t 109,.t 110]⟩ (DT.one
 ⟨some 112,none,.len,[.t 111]⟩ (DT.one ⟨some 113,none,.mv,[.c (i6 0)]⟩ DT.nil))))))))))).seq (C.block 7 ((C.ops [BI 114 .lss 113 112]).seq ((C.cond (.t 114) C.skip (C.exit
 7)).seq ((C.block 8 ((C.ops [O2 115 (.idxA 7) 111 113,O1 116 (.load (some 7)) 115,⟨some 25,none,.alloc 12 115 [.str [],.str [],.str [],i6 0,i6 0,.str [],i6 0],[]⟩,ST 7
 25 116]).seq (C.ops [LD 117 17,O1 118 (.load (some 7)) 25,LD 119 19,MV 120 13,LD 121 19,O2 122 (.idxA 1) 120 121,LD 123 122,ON 124 .callv [.t 117,.t 118,.t 119,.t
 123]]))).seq (C.ops [BC 125 .add 113 (i6 1),MV 113 125])))).loop)))))))))))).seq (C.ops [BC 149 .add 80 (i6 1),MV 80 149])))).loop)).seq (((C.ops [LD 150 16,O1 151 .len 150,BC
 152 .gtr 151 (i6 1024)]).seq (C.cond (.t 152) ((C.ops [ON 8 (.nilo 1 7 36) [],MC 9 (i6 4)]).seq C.ret) C.skip)).seq ((C.ops [LD 153 16,MV 8 153,MC 9 (i6 0)]).seq
 C.ret)))))))))))))
theorem qa8:qM Tryz.prog 25 154 16 [RV.tmp 8,RV.tmp 9] qgb:=fi Tryz.f25 [4,8,51,16,17,77,78,19,20,21,22,23,25,54,69,10] qqv [16]
end
