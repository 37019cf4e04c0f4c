import Derived.Test.YtgoandblgcjleaaGreatDoorK9
import Derived.Test.YtgoandblgcjleaaGreatDoorK5
import Derived.Test.YtgoandblgcjleaaGreatDoorK3
import Derived.Test.YtgoandblgcjleaaGreatDoorK8
import Derived.Test.YtgoandblgcjleaaGreatDoorProg
set_option linter.all false
set_option linter.unusedSimpArgs false
set_option linter.unusedVariables false
set_option linter.unusedSectionVars false
set_option maxHeartbeats 64000000
set_option maxRecDepth 100000
section
open Go Go.Proofs AF HY LN
namespace RC
theorem qgQ{s:Str}{v:Int}(h:Lib.atoiAll s= .ok v): -9223372036854775808≤v∧v≤9223372036854775807:=by
 unfold Lib.atoiAll at h;split at h
 ·cases h
 ·simp only at h;split at h
  ·cases h
  ·cases h
  ·split at h
   ·cases h
   ·split at h
    ·cases h
    ·rename_i h1 h2;cases h;split
     ·rename_i h3;have:=mt (And.intro h3) h2;omega
     ·rename_i h3;have:=mt (And.intro h3) h1;omega
theorem qeb{k:Nat}(h:k≤64):(Lib.itoa (k:Int)).length≤9:=by
 rw[Lib.itoa_nonneg]
 by_cases g:k<10
 ·rw[Lib.decDigits,dif_pos g];simp
 ·rw[Lib.decDigits,dif_neg g,Lib.decDigits,dif_pos (show k/10<10 by omega)];simp
def qtu(s:Str):Bool:=match Lib.atoiAll s with
 | .ok v=>decide (1≤v)&&(decide (s.length≤9)&&decide (Lib.itoa v=s))
 |_=>false
def qv7(s:Str):Int:=match Lib.atoiAll s with
 | .ok v=>v
 |_=>qss s
def SG(w:World):Prop:=qri w∧qwf w
theorem SG.pow{h:List AObj}(hp:qai SG h):qai qri h:=hp.mono fun _ h=>h.1
theorem SG.err{h:List AObj}(hp:qai SG h):qai qwf h:=hp.mono fun _ h=>h.2
theorem qDy(s:Str)(h:List AObj)(hs:s.length≤1000000000)(hp:qai SG h):ACalls Tryz.prog 287 [.str s] h (.tup [.int .i64 (qv7 s),.bool (qtu s)]) h:=by
 have c180:=t50 s h (SG.err hp) (by omega);unfold qv7 qtu;unfold qos at c180;cases ha:Lib.atoiAll s
 ·rename_i v;rw[ha]at c180;simp only at c180;obtain⟨r1,r2⟩:=qgQ ha;have c181:=t48 v h (SG.pow hp) r1 r2;obtain⟨t,ht⟩: ∃t,t=Lib.itoa v:=⟨_,rfl⟩
  rw[←ht]at c181;simp only[←ht]
  by_cases g1:1≤v
  ·have k1:(1≤v)=True:=eqt g1;rw[dqt g1]
   by_cases g2:s.length≤9
   ·have k2:((s.length:Int)≤9)=True:=eqt (by omega);rw[dqt g2];refine acO qeZ ?_;simp (disch:=omega) only[qhY,go_sem]
    repeat' first
     |((first|refine cA (c180) ?_ ?_|refine cG (fun e=>c181) ?_ ?_);exact flk;simp (disch:=omega) only[k1,k2,go_sem])
     |(apply qd;exact rvk;simp only[go_sem];exact qj)
     |with_reducible apply aiA
    all_goals try exact clz
   ·have k2:((s.length:Int)≤9)=False:=eqf (by omega);rw[dqf g2];refine acO qeZ ?_;simp (disch:=omega) only[qhY,go_sem]
    repeat' first
     |(refine qk ( .str []) ?_;simp (disch:=omega) only[go_sem])
     |(refine cA (c180) flk ?_;simp (disch:=omega) only[k1,k2,go_sem])
     |(apply qd;exact rvk;simp only[go_sem];exact qj)
     |with_reducible apply aiA
    all_goals try exact clz
  ·have k1:(1≤v)=False:=eqf g1;rw[dqf g1];refine acO qeZ ?_;simp (disch:=omega) only[qhY,go_sem]
   repeat' first
    |(refine qk ( .str []) ?_;simp (disch:=omega) only[go_sem])
    |(refine cA (c180) flk ?_;simp (disch:=omega) only[k1,go_sem])
    |(apply qd;exact rvk;simp only[go_sem];exact qj)
    |with_reducible first|intro _|apply aiA
   all_goals try exact clz
 ·rw[ha]at c180;simp only at c180;refine acO qeZ ?_;simp (disch:=omega) only[qhY,go_sem]
  repeat' first
   |(refine qk ( .str []) ?_;simp (disch:=omega) only[go_sem])
   |(refine cA (c180) flk ?_;simp (disch:=omega) only[go_sem])
   |(apply qd;exact rvk;simp only[go_sem];exact qj)
   |with_reducible first|intro _|apply aiA
  all_goals try exact clz
 ·rw[ha]at c180;simp only at c180;refine acO qeZ ?_;simp (disch:=omega) only[qhY,go_sem]
  repeat' first
   |(refine qk ( .str []) ?_;simp (disch:=omega) only[go_sem])
   |(refine cA (c180) flk ?_;simp (disch:=omega) only[go_sem])
   |(apply qd;exact rvk;simp only[go_sem];exact qj)
   |with_reducible first|intro _|apply aiA
  all_goals try exact clz
def pre(s:Str):Bool:=decide (1≤s.length)&&decide (s.take 1= [91])
theorem qrU(s:Str)(h:List AObj)(hs:s.length≤1000000000):ACalls Tryz.prog 314 [.str s,.str [91]] h (.bool (pre s)) h:=by
 unfold pre
 by_cases g:1≤s.length
 ·have k1:((1:Int)≤s.length)=True:=eqt (by omega);rw[dqt g];refine acO qrO ?_;simp (disch:=omega) only[qsW,qeh,k1,go_sem]
  repeat' first
   |(apply qd;exact rvk;simp only[go_sem];exact qj)
   |with_reducible apply aiA
  all_goals try exact clz
 ·have k1:((1:Int)≤s.length)=False:=eqf (by omega);rw[dqf g];refine acO qrO ?_;simp (disch:=omega) only[qsW,qeh,k1,go_sem]
  repeat' first
   |(apply qd;exact rvk;simp only[go_sem];exact qj)
theorem qtm(s:Str)(h:List AObj)(hs:s.length≤1000000000):ACalls Tryz.prog 306 [.str s,.str [91]] h (.tup [.str (if pre s=true then s.drop 1 else s),.bool (pre s)]) h:=by
 have c1:=fun h=>qrU s h hs
 cases g:pre s with
 |true=>
  rw[g]at c1;have g1:1≤s.length:=by unfold pre at g;simp at g;omega
  have k4:((1:Int)≤s.length)=True:=eqt (by omega);have k5:List.take (s.length-1) (List.drop 1 s)=s.drop 1:=ltl (by simp);refine acO qrM ?_;simp (disch:=omega) only[qsU,go_sem]
  repeat' first
   |(refine cA (c1 _) flk ?_;simp (disch:=omega) only[qeh,k4,go_sem])
   |(apply qd;exact rvk;simp only[go_sem])
   |with_reducible apply aiA
  all_goals try exact clz
  simp only[Int.toNat_one,k5];exact qj
 |false=>
  rw[g]at c1;refine acO qrM ?_;simp (disch:=omega) only[qsU,go_sem]
  repeat' first
   |(refine cA (c1 _) flk ?_;simp (disch:=omega) only[go_sem])
   |(apply qd;exact rvk;simp only[go_sem];exact qj)
theorem qxC(s:Str)(h:List AObj)(hs:s.length≤1000000000):ACalls Tryz.prog 286 [.str s,.str [91]] h (.tup [.str (if pre s=true then s.drop 1 else s),.bool (pre s)]) h:=by
 have c1:=fun h=>qtm s h hs
 refine acO qyO ?_;simp (disch:=omega) only[qxc,go_sem]
 repeat' first
  |(refine cA (c1 _) flk ?_;simp (disch:=omega) only[go_sem])
  |(apply qd;exact rvk;simp only[go_sem];exact qj)
  |with_reducible apply aiA
 all_goals try exact clz
def qa6(s:Str):Bool:=decide (1≤s.length)&&decide (s.drop (s.length-1)= [93])
theorem qt3(s:Str)(h:List AObj)(hs:s.length≤1000000000):ACalls Tryz.prog 304 [.str s,.str [93]] h (.bool (qa6 s)) h:=by
 unfold qa6
 by_cases g:1≤s.length
 ·have k1:((1:Int)≤s.length)=True:=eqt (by omega);have k2:((s.length:Int)-1).toNat=s.length-1:=by omega
  have k3:(0≤(s.length:Int)-1)=True:=eqt (by omega);have k4:((s.length:Int)-1≤s.length)=True:=eqt (by omega);have k5:List.take (s.length-(s.length-1)) (List.drop (s.length-1) s)=s.drop (s.length-1):=ltl (by simp);rw[dqt g];refine acO qhd ?_;simp (disch:=omega) only[qkH,qeh,k1,k2,k3,k4,k5,go_sem]
  repeat' first
   |(apply qd;exact rvk;simp only[go_sem];exact qj)
   |with_reducible apply aiA
  all_goals try exact clz
 ·have k1:((1:Int)≤s.length)=False:=eqf (by omega);rw[dqf g];refine acO qhd ?_;simp (disch:=omega) only[qkH,qeh,k1,go_sem]
  repeat' first
   |(apply qd;exact rvk;simp only[go_sem];exact qj)
theorem qoX(s:Str)(h:List AObj)(hs:s.length≤1000000000):ACalls Tryz.prog 284 [.str s,.str [93]] h (.tup [.str (if qa6 s=true then s.take (s.length-1) else s),.bool (qa6 s)]) h:=by
 have c1:=fun h=>qt3 s h hs
 cases g:qa6 s with
 |true=>
  rw[g]at c1;have g1:1≤s.length:=by unfold qa6 at g;simp at g;omega
  have k2:((s.length:Int)-1).toNat=s.length-1:=by omega
  have k3:(0≤(s.length:Int)-1)=True:=eqt (by omega);have k4:((s.length:Int)-1≤s.length)=True:=eqt (by omega);refine acO qhc ?_;simp (disch:=omega) only[qkG,go_sem]
  repeat' first
   |(refine cA (c1 _) flk ?_;simp (disch:=omega) only[qeh,k2,k3,k4,Nat.sub_zero,go_sem])
   |(apply qd;exact rvk;simp only[go_sem];exact qj)
   |with_reducible apply aiA
  all_goals try exact clz
 |false=>
  rw[g]at c1;refine acO qhc ?_;simp (disch:=omega) only[qkG,go_sem]
  repeat' first
   |(refine cA (c1 _) flk ?_;simp (disch:=omega) only[go_sem])
   |(apply qd;exact rvk;simp only[go_sem];exact qj)
theorem qto(s:Str)(h:List AObj)(hs:s.length≤1000000000):ACalls Tryz.prog 241 [.str s,.str [93]] h (.tup [.str (if qa6 s=true then s.take (s.length-1) else s),.bool (qa6 s)]) h:=by
 have c1:=fun h=>qoX s h hs
 refine acO qrF ?_;simp (disch:=omega) only[qsN,go_sem]
 repeat' first
  |(refine cA (c1 _) flk ?_;simp (disch:=omega) only[go_sem])
  |(apply qd;exact rvk;simp only[go_sem];exact qj)
  |with_reducible apply aiA
 all_goals try exact clz
def qbJ(s:Str):Bool:=(List.range 64).any fun k=>decide (s=91::(Lib.itoa ((k+1:Nat):Int)++ [93]))
def qdw(s:Str):Bool:=qak s||(if s.length=1 then decide (zG (ch s 0)=5)||decide (zG (ch s 0)=4) else qbJ s)
def qoe(s:Str):Str:=if qa6 (if pre s=true then s.drop 1 else s)=true then (if pre s=true then s.drop 1 else s).take ((if pre s=true then s.drop 1 else s).length-1) else if pre s=true then s.drop 1 else s
def qza(s:Str):Bool:=pre s&&qa6 (if pre s=true then s.drop 1 else s)&&qtu (qoe s)&&decide (qv7 (qoe s)≤64)
theorem qzc(s:Str):qza s=qbJ s:=by
 cases g:qbJ s with
 |true=>
  unfold qbJ at g;rw[List.any_eq_true]at g;obtain⟨k,hk,e⟩:=g;have hk':k<64:=by simpa using hk
  have e:=of_decide_eq_true e;obtain⟨t,ht⟩: ∃t,t=Lib.itoa ((k+1:Nat):Int):=⟨_,rfl⟩
  rw[←ht]at e;have ha:Lib.atoiAll t= .ok ((k+1:Nat):Int):=by rw[ht];exact qeF (by omega) (by omega)
  have hl:t.length≤9:=by
   rw[ht];exact qeb (by omega)
  have p1:pre s=true:=by rw[e];simp[pre]
  have p2:s.drop 1=t++ [93]:=by rw[e];rfl
  have p3:qa6 (t++ [93])=true:=by unfold qa6;simp
  have p4:qoe s=t:=by unfold qoe;rw[ipo p1,p2,ipo p3];simp
  have p5:qtu t=true:=by unfold qtu;rw[ha];simp only;rw[←ht];simp;omega
  have p6:qv7 t=((k+1:Nat):Int):=by unfold qv7;rw[ha]
  unfold qza;rw[p4,p1,ipo rfl,p2,p3,p5,p6];simp;omega
 |false=>
  cases q:qza s with
  |false=>rfl
  |true=>
   exfalso;unfold qza at q;simp only[Bool.and_eq_true,decide_eq_true_eq]at q;obtain⟨⟨⟨q1,q2⟩,q3⟩,q4⟩:=q;rw[ipo q1]at q2;obtain⟨m,hm⟩: ∃m,m=qoe s:=⟨_,rfl⟩
   have hm':=hm;unfold qoe at hm';rw[ipo q1,ipo q2]at hm';rw[←hm]at q3 q4;unfold qtu at q3;unfold qv7 at q4;cases ha:Lib.atoiAll m
   ·rename_i v;rw[ha]at q3 q4;simp only[Bool.and_eq_true,decide_eq_true_eq]at q3 q4;obtain⟨r1,r2,r3⟩:=q3;unfold pre at q1;unfold qa6 at q2;simp only[Bool.and_eq_true,decide_eq_true_eq]at q1 q2;have e1:s=91::s.drop 1:=by
     have:=List.take_append_drop 1 s
     rw[q1.2]at this;exact this.symm
    have e2:s.drop 1=m++ [93]:=by
     have:=List.take_append_drop ((s.drop 1).length-1) (s.drop 1)
     rw[q2.2,←hm']at this;exact this.symm
    have:qbJ s=true:=by
     unfold qbJ;rw[List.any_eq_true];refine⟨v.toNat-1,by simp;omega,dqt ?_⟩;rw[show ((v.toNat-1+1:Nat):Int)=v by omega,r3,←e2,←e1]
    rw[g]at this;cases this
   ·rw[ha]at q3;cases q3
   ·rw[ha]at q3;cases q3
theorem qCx(s:Str)(h:List AObj)(hs:s.length≤1000000000)(hp:qai SG h):ACalls Tryz.prog 244 [.str s] h (.bool (qdw s)) h:=by
 have c167:=fun h=>t88 s h hs
 unfold qdw;cases g:qak s with
 |true=>
  rw[g]at c167;refine acO qlC ?_;simp (disch:=omega) only[qoC,go_sem]
  repeat' first
   |(refine cA (c167 _) flk ?_;simp (disch:=omega) only[go_sem])
   |(apply qd;exact rvk;simp only[go_sem];exact qj)
 |false=>
 rw[g]at c167;rw[Bool.false_or]
 by_cases g1:s.length=1
 ·have k1:((s.length:Int)=1)=True:=eqt (by omega);have k2:((0:Int)<s.length)=True:=eqt (by omega);rw[ipo g1];have e:(s[0]?).getD 0=ch s 0:=by simp[ch,gdqA]
  have c153:=fun h=>qdp (ch s 0) h
  obtain⟨k,hk⟩: ∃k,k=zG (ch s 0):=⟨_,rfl⟩
  rw[←hk]at c153 ⊢;refine acO qlC ?_;simp (disch:=omega) only[qoC,go_sem]
  repeat' first
   |((first|refine cA (c167 _) ?_ ?_|refine cA (c153 _) ?_ ?_);exact flk;simp (disch:=omega) only[k1,k2,e,Int.toNat_zero,go_sem])
   |(apply qd;exact rvk;simp only[go_sem];exact qj)
   |with_reducible apply aiA
  all_goals try exact clz
 ·have k1:((s.length:Int)=1)=False:=eqf (by omega);rw[ine g1,←qzc];have c168:=fun h=>qxC s h hs
  unfold qza;have hm:qoe s=if qa6 (if pre s=true then s.drop 1 else s)=true then (if pre s=true then s.drop 1 else s).take ((if pre s=true then s.drop 1 else s).length-1) else if pre s=true then s.drop 1 else s:=rfl
  obtain⟨u,hu⟩: ∃u,u=if pre s=true then s.drop 1 else s:=⟨_,rfl⟩
  rw[←hu]at c168 hm ⊢;have hul:u.length≤s.length:=by rw[hu];split<;>simp
  have c126:=fun h=>qto u h (by omega)
  rw[←hm]at c126;have hml:(qoe s).length≤u.length:=by rw[hm];split<;>simp
  have c169:=qDy (qoe s) h (by omega) hp;obtain⟨m,hmm⟩: ∃m,m=qoe s:=⟨_,rfl⟩
  rw[←hmm]at c126 c169 ⊢;obtain⟨a,ha⟩: ∃a,a=pre s:=⟨_,rfl⟩
  obtain⟨b,hb⟩: ∃b,b=qa6 u:=⟨_,rfl⟩
  obtain⟨c,hc⟩: ∃c,c=qtu m:=⟨_,rfl⟩
  rw[←ha]at c168 ⊢;rw[←hb]at c126 ⊢;rw[←hc]at c169 ⊢;cases a<;>cases b<;>cases c
  all_goals
   refine acO qlC ?_;simp (disch:=omega) only[qoC,go_sem]
   repeat' first
    |((first|refine cA (c167 _) ?_ ?_|refine cA (c168 _) ?_ ?_|refine cA (c126 _) ?_ ?_|refine cA (c169) ?_ ?_);exact flk;simp (disch:=omega) only[k1,go_sem])
    |(apply qd;exact rvk;simp only[go_sem];exact qj)
    |with_reducible apply aiA
   all_goals try exact clz
def wE(s:Str):Int:=if qdw s=true then 0 else 11
theorem qDU(s:Str)(h:List AObj)(hs:s.length≤1000000000)(hp:qai SG h):ACalls Tryz.prog 194 [.agg [.str s,.str [],.int .i64 0]] h (.int .i64 (wE s)) h:=by
 have c160:=fun l=>qCx s (h++l) hs (hp.app l)
 unfold wE;cases g:qdw s with
 |true=>
  rw[g]at c160;refine acO qrC ?_;simp (disch:=omega) only[qsK,go_sem]
  repeat' first
   |(refine qk ( .bool false) ?_;simp (disch:=omega) only[go_sem])
   |(refine cA (c160 _) flk ?_;simp (disch:=omega) only[go_sem])
   |(apply qb;exact rvk;simp only[go_sem];first|exact qj|apply qg)
   |with_reducible first|intro _|apply aiA
  all_goals try exact clz
 |false=>
  rw[g]at c160;refine acO qrC ?_;simp (disch:=omega) only[qsK,go_sem]
  repeat' first
   |(refine qk ( .bool false) ?_;simp (disch:=omega) only[go_sem])
   |(refine cA (c160 _) flk ?_;simp (disch:=omega) only[go_sem])
   |(apply qb;exact rvk;simp only[go_sem];exact qj)
def jf(L:List Str):Int:=qa9 (fun i=>wE (L.getD i [])) 0 L.length
theorem qDb(L:List Str)(h:List AObj)(hl:L.length≤1000000000)(hs: ∀i,(L.getD i []).length≤1000000000)(hp:qai SG h):ACalls Tryz.prog 138 [strs L] h (.int .i64 (jf L)) h:=by
 obtain⟨R,hR⟩: ∃R,R=jf L:=⟨_,rfl⟩
 rw[←hR];unfold jf at hR;refine acO qx3 ?_;simp (disch:=omega) only[qwy,strs,go_sem];refine qp (T:=fun i:Nat=>qQ 19 [(6,strs L),(7,.int .i64 L.length),(8,.int .i64 i)]) (H:=fun _=>h) (inv:=fun i=>i≤L.length∧ ∀j,j<i→wE (L.getD j [])=0) (m:=fun i=>L.length-i) 0 ⟨nzl _,fun j hj=>absurd hj (nnz j)⟩ (Wk.temps ?_) ?_
 ·(simp only[strs,go_sem,qi,qe,qa,qh];try (repeat' first|(with_reducible apply aiA)|(apply qg;omega)|(apply qf;rfl)|exact qj))
 rintro i ⟨i1,i2⟩ K hK
 by_cases hi:i<L.length
 ·have k1:((i:Int)<L.length)=True:=eqt (by omega);have c145:=qDU (L.getD i []) h (hs i) hp;obtain⟨e,he⟩: ∃e,e=wE (L.getD i []):=⟨_,rfl⟩
  rw[←he]at c145
  by_cases g:e=0
  ·have q1:(e=0)=True:=eqt g;simp (disch:=omega) only[strs,k1,go_sem]
   repeat' first
    |(refine cA (c145) flk ?_;simp (disch:=omega) only[q1,go_sem])
    |with_reducible apply aiA
   all_goals try exact clz
   refine hK _ _ (i+1) ⟨hi,fun j hj=> ?_⟩ (by omega) (Wk.temps ?_)
   ·by_cases e':j=i
    ·subst e';rw[←he,g]
    ·exact i2 j (by omega)
   ·(simp only[strs,go_sem,qi,qe,qa,qh];try (repeat' first|(with_reducible apply aiA)|(apply qg;omega)|(apply qf;rfl)|exact qj))
  ·have q1:(e=0)=False:=eqf g;have hV:R=e:=by rw[hR,zC (f:=fun i=>wE (L.getD i [])) hi i2 (by rw[←he];exact g),he]
   rw[hV];simp (disch:=omega) only[strs,k1,go_sem]
   repeat' first
    |(refine cA (c145) flk ?_;simp (disch:=omega) only[q1,go_sem])
    |(apply qd;exact rvk;simp only[go_sem];exact qj)
    |with_reducible apply aiA
   all_goals try exact clz
 ·have k1:((i:Int)<L.length)=False:=eqf (by omega);have hV:R=0:=by rw[hR,qI (f:=fun i=>wE (L.getD i [])) (fun j hj=>i2 j (by omega))]
  rw[hV];simp (disch:=omega) only[strs,k1,go_sem]
  repeat' first
   |(apply qd;exact rvk;simp only[go_sem];exact qj)
theorem qr3(h:List AObj):ACalls Tryz.prog 259 [.str []] h (.bool true) h:=by
 refine acO qyH ?_;simp (disch:=omega) only[qw5,go_sem]
 repeat' first
  |(refine qk ( .bool false) ?_;simp (disch:=omega) only[go_sem])
  |(apply qd;exact rvk;simp only[go_sem];exact qj)
theorem qAP(a b c:Str)(n f g:Int)(d:Str)(h:List AObj)(hf:0≤f)(hf2:f≤31)(hg:0<g):ACalls Tryz.prog 255 [.agg [.str a,.str b,.str c,.int .i64 n,.int .i64 f,.str d],.int .i64 g] h (.bool (decide (f/g%2=1))) h:=by
 have k1:(g=0)=False:=eqf (by omega);have k2:0≤f/g:=Int.ediv_nonneg hf (by omega);have k3:f/g≤f:=Int.ediv_le_self _ hf;refine acO qyE ?_;simp (disch:=omega) only[qw2,go_sem]
 repeat' first
  |(apply qb;exact rvk;simp only[go_sem];exact qj)
  |with_reducible apply aiA
 all_goals try exact clz
theorem qDK(s:Str)(h:List AObj)(hs:s.length≤1000000000)(hp:qai SG h):ACalls Tryz.prog 256 [.str s] h (.bool (qbJ s)) h:=by
 refine acO qyF ?_;simp (disch:=omega) only[qw3,go_sem];refine qp (T:=fun i:Nat=>qQ 14 [(0,.str s),(3,.int .i64 ((i+1:Nat):Int))]) (H:=fun _=>h) (inv:=fun i=>i≤64∧ ∀j,j<i→s≠91::(Lib.itoa ((j+1:Nat):Int)++ [93])) (m:=fun i=>64-i) 0 ⟨nzl _,fun j hj=>absurd hj (nnz j)⟩ (Wk.temps ?_) ?_
 ·(simp only[go_sem,qi,qe,qa,qh];try (repeat' first|(with_reducible apply aiA)|(apply qg;omega)|(apply qf;rfl)|exact qj))
 rintro i ⟨i1,i2⟩ K hK;have ec:((i+1:Nat):Int)=(i:Int)+1:=by omega
 by_cases hi:i<64
 ·have k1:((i:Int)+1≤64)=True:=eqt (by omega);have c181:=t48 ((i:Int)+1) h (SG.pow hp) (by omega) (by omega);have hl:(Lib.itoa ((i:Int)+1)).length≤9:=by rw[←ec];exact qeb (by omega)
  obtain⟨t,ht⟩: ∃t,t=Lib.itoa ((i:Int)+1):=⟨_,rfl⟩
  rw[←ht]at c181 hl
  by_cases g:s=91::(t++ [93])
  ·have q1:(s=91::(t++ [93]))=True:=eqt g;have hV:qbJ s=true:=by
    unfold qbJ;rw[List.any_eq_true];exact⟨i,by simpa using hi,dqt (by rw[ec,←ht];exact g)⟩
   rw[hV];simp (disch:=omega) only[ec,k1,go_sem]
   repeat' first
    |(refine cA (c181) flk ?_;simp (disch:=omega) only[q1,go_sem])
    |(apply qd;exact rvk;simp only[go_sem];exact qj)
    |with_reducible apply aiA
   all_goals try exact clz
  ·have q1:(s=91::(t++ [93]))=False:=eqf g;simp (disch:=omega) only[ec,k1,go_sem]
   repeat' first
    |(refine cA (c181) flk ?_;simp (disch:=omega) only[q1,go_sem])
    |with_reducible apply aiA
   all_goals try exact clz
   refine hK _ _ (i+1) ⟨hi,fun j hj=> ?_⟩ (by omega) (Wk.temps ?_)
   ·by_cases e':j=i
    ·subst e';rw[ec,←ht];exact g
    ·exact i2 j (by omega)
   ·(simp only[go_sem,qi,qe,qa,qh];try (repeat' first|(with_reducible apply aiA)|(apply qg;omega)|(apply qf;rfl)|exact qj))
 ·have k1:((i:Int)+1≤64)=False:=eqf (by omega);have hV:qbJ s=false:=by
   cases e:qbJ s with
   |false=>rfl
   |true=>
    unfold qbJ at e;rw[List.any_eq_true]at e;obtain⟨j,hj,e⟩:=e;exact absurd (of_decide_eq_true e) (i2 j (by have:j<64:=(by simpa using hj);omega))
  rw[hV];simp (disch:=omega) only[ec,k1,go_sem]
  repeat' first
   |(apply qd;exact rvk;simp only[go_sem];exact qj)
theorem qxw(s:Str)(h:List AObj)(hs:s.length≤1000000000)(hp:qai SG h):ACalls Tryz.prog 211 [.agg [.str s,.str s,.str [],.int .i64 0,.int .i64 2,.str []]] h (.int .i64 (if qbJ s=true then 0 else 11)) h:=by
 have d1:decide ((2:Int)/2%2=1)=true:=rfl;have d2:decide ((2:Int)/8%2=1)=false:=rfl;have c1:=fun h=>qAP s s [] 0 2 2 [] h (by decide) (by decide) (by decide)
 have c2:=fun h=>qAP s s [] 0 2 8 [] h (by decide) (by decide) (by decide)
 rw[d1]at c1;rw[d2]at c2;have c3:=fun l=>qDK s (h++l) hs (hp.app l)
 have c4:=fun h=>qr3 h
 cases g:qbJ s with
 |true=>
  rw[g]at c3;refine acO qdF ?_;simp (disch:=omega) only[qfU,go_sem]
  repeat' first
   |((first|refine cA (c1 _) ?_ ?_|refine cA (c2 _) ?_ ?_|refine cA (c3 _) ?_ ?_|refine cA (c4 _) ?_ ?_|refine cG (fun e=>c4 _) ?_ ?_);exact flk;simp (disch:=omega) only[go_sem])
   |(apply qb;exact rvk;simp only[go_sem];first|exact qj|apply qg)
   |with_reducible first|intro _|apply aiA
  all_goals try exact clz
 |false=>
  rw[g]at c3;refine acO qdF ?_;simp (disch:=omega) only[qfU,go_sem]
  repeat' first
   |((first|refine cA (c1 _) ?_ ?_|refine cA (c2 _) ?_ ?_|refine cA (c3 _) ?_ ?_);exact flk;simp (disch:=omega) only[go_sem])
   |(apply qb;exact rvk;simp only[go_sem];first|exact qj|apply qg)
   |with_reducible first|intro _|apply aiA
  all_goals try exact clz
theorem qxx(s:Str)(h:List AObj)(hs:s.length≤1):ACalls Tryz.prog 211 [.agg [.str s,.str s,.str [],.int .i64 0,.int .i64 8,.str []]] h (.int .i64 (if s.length=1∧(zG (ch s 0)=5∨zG (ch s 0)=4) then 0 else 11)) h:=by
 have d1:decide ((8:Int)/2%2=1)=false:=rfl;have d2:decide ((8:Int)/8%2=1)=true:=rfl;have c1:=fun h=>qAP s s [] 0 8 2 [] h (by decide) (by decide) (by decide)
 have c2:=fun h=>qAP s s [] 0 8 8 [] h (by decide) (by decide) (by decide)
 rw[d1]at c1;rw[d2]at c2;have c4:=fun h=>qr3 h
 by_cases g:s.length=1
 ·have k1:((s.length:Int)=1)=True:=eqt (by omega);have k2:((0:Int)<s.length)=True:=eqt (by omega);have e:(s[0]?).getD 0=ch s 0:=by simp[ch,gdqA]
  have c5:=fun h=>qdq (ch s 0) h
  obtain⟨k,hk⟩: ∃k,k=zG (ch s 0):=⟨_,rfl⟩
  rw[←hk]at c5 ⊢
  by_cases g1:k=5
  ·have q1:(k=5)=True:=eqt g1;rw[ipo ⟨g,.inl g1⟩];refine acO qdF ?_;simp (disch:=omega) only[qfU,go_sem]
   repeat' first
    |(refine qk ( .int .i64 0) ?_;simp (disch:=omega) only[go_sem])
    |((first|refine cA (c1 _) ?_ ?_|refine cA (c2 _) ?_ ?_|refine cG (fun e=>c5 _) ?_ ?_|refine cA (c4 _) ?_ ?_|refine cG (fun e=>c4 _) ?_ ?_);exact flk;simp (disch:=omega) only[k1,k2,e,q1,Int.toNat_zero,go_sem])
    |(apply qb;exact rvk;simp only[go_sem];first|exact qj|apply qg)
    |with_reducible first|intro _|apply aiA
   all_goals try exact clz
  ·have q1:(k=5)=False:=eqf g1
   by_cases g2:k=4
   ·have q2:(k=4)=True:=eqt g2;rw[ipo ⟨g,.inr g2⟩];refine acO qdF ?_;simp (disch:=omega) only[qfU,go_sem]
    repeat' first
     |((first|refine cA (c1 _) ?_ ?_|refine cA (c2 _) ?_ ?_|refine cG (fun e=>c5 _) ?_ ?_|refine cA (c4 _) ?_ ?_|refine cG (fun e=>c4 _) ?_ ?_);exact flk;simp (disch:=omega) only[k1,k2,e,q1,q2,Int.toNat_zero,go_sem])
     |(apply qb;exact rvk;simp only[go_sem];first|exact qj|apply qg)
     |with_reducible first|intro _|apply aiA
    all_goals try exact clz
   ·have q2:(k=4)=False:=eqf g2;rw[ine (by rintro⟨_,h|h⟩<;>contradiction)];refine acO qdF ?_;simp (disch:=omega) only[qfU,go_sem]
    repeat' first
     |((first|refine cA (c1 _) ?_ ?_|refine cA (c2 _) ?_ ?_|refine cG (fun e=>c5 _) ?_ ?_);exact flk;simp (disch:=omega) only[k1,k2,e,q1,q2,Int.toNat_zero,go_sem])
     |(apply qb;exact rvk;simp only[go_sem];first|exact qj|apply qg)
     |with_reducible first|intro _|apply aiA
    all_goals try exact clz
 ·have k1:((s.length:Int)=1)=False:=eqf (by omega);rw[ine (fun hc=>g hc.1)];refine acO qdF ?_;simp (disch:=omega) only[qfU,go_sem]
  repeat' first
   |(refine qk ( .int .i64 0) ?_;simp (disch:=omega) only[go_sem])
   |((first|refine cA (c1 _) ?_ ?_|refine cA (c2 _) ?_ ?_);exact flk;simp (disch:=omega) only[k1,go_sem])
   |(apply qb;exact rvk;simp only[go_sem];first|exact qj|apply qg)
   |with_reducible first|intro _|apply aiA
  all_goals try exact clz
theorem qCy(s:Str)(h:List AObj)(hs:s.length≤1000000000)(hp:qai SG h):ACalls Tryz.prog 193 [.str s] h (.bool (qdw s)) h:=by
 have c1:=fun h=>t93 s h hs
 unfold qdw;cases g:qak s with
 |true=>
  rw[g]at c1;refine acO qeX ?_;simp (disch:=omega) only[qhW,go_sem]
  repeat' first
   |(refine cA (c1 _) flk ?_;simp (disch:=omega) only[go_sem])
   |(apply qd;exact rvk;simp only[go_sem];exact qj)
 |false=>
 rw[g]at c1;rw[Bool.false_or]
 by_cases g1:1<s.length
 ·have k1:((1:Int)<s.length)=True:=eqt (by omega);rw[ine (by omega)];have c2:=qxw s h hs hp;cases g2:qbJ s with
  |true=>
   rw[g2]at c2;refine acO qeX ?_;simp (disch:=omega) only[qhW,go_sem]
   repeat' first
    |((first|refine cA (c1 _) ?_ ?_|refine cA (c2) ?_ ?_);exact flk;simp (disch:=omega) only[k1,go_sem])
    |(apply qd;exact rvk;simp only[go_sem];exact qj)
  |false=>
   rw[g2]at c2;refine acO qeX ?_;simp (disch:=omega) only[qhW,go_sem]
   repeat' first
    |((first|refine cA (c1 _) ?_ ?_|refine cA (c2) ?_ ?_);exact flk;simp (disch:=omega) only[k1,go_sem])
    |(apply qd;exact rvk;simp only[go_sem];exact qj)
 ·have k1:((1:Int)<s.length)=False:=eqf (by omega);have c2:=qxx s h (by omega)
  by_cases g2:s.length=1∧(zG (ch s 0)=5∨zG (ch s 0)=4)
  ·rw[ipo g2]at c2;rw[ipo g2.1,show (decide (zG (ch s 0)=5)||decide (zG (ch s 0)=4))=true by simpa using g2.2];refine acO qeX ?_;simp (disch:=omega) only[qhW,go_sem]
   repeat' first
    |((first|refine cA (c1 _) ?_ ?_|refine cA (c2) ?_ ?_);exact flk;simp (disch:=omega) only[k1,go_sem])
    |(apply qd;exact rvk;simp only[go_sem];exact qj)
  ·rw[ine g2]at c2;have hV:(if s.length=1 then decide (zG (ch s 0)=5)||decide (zG (ch s 0)=4) else qbJ s)=false:=by
    by_cases g3:s.length=1
    ·rw[ipo g3];simp only[Bool.or_eq_false_iff,decide_eq_false_iff_not];exact⟨fun hc=>g2 ⟨g3,.inl hc⟩,fun hc=>g2 ⟨g3,.inr hc⟩⟩
    ·rw[ine g3]
     have:s= []:=List.eq_nil_of_length_eq_zero (by omega)
     subst this;unfold qbJ;rw[List.any_eq_false];intro k _;simp
   rw[hV];refine acO qeX ?_;simp (disch:=omega) only[qhW,go_sem]
   repeat' first
    |((first|refine cA (c1 _) ?_ ?_|refine cA (c2) ?_ ?_);exact flk;simp (disch:=omega) only[k1,go_sem])
    |(apply qd;exact rvk;simp only[go_sem];exact qj)
theorem qDV(s:Str)(h:List AObj)(hs:s.length≤1000000000)(hp:qai SG h):ACalls Tryz.prog 137 [.agg [.str s,.str [],.int .i64 0]] h (.int .i64 (wE s)) h:=by
 have c1:=fun l=>qCy s (h++l) hs (hp.app l)
 unfold wE;cases g:qdw s with
 |true=>
  rw[g]at c1;refine acO qry ?_;simp (disch:=omega) only[qsG,go_sem]
  repeat' first
   |(refine qk ( .bool false) ?_;simp (disch:=omega) only[go_sem])
   |(refine cA (c1 _) flk ?_;simp (disch:=omega) only[go_sem])
   |(apply qb;exact rvk;simp only[go_sem];first|exact qj|apply qg)
   |with_reducible first|intro _|apply aiA
  all_goals try exact clz
 |false=>
  rw[g]at c1;refine acO qry ?_;simp (disch:=omega) only[qsG,go_sem]
  repeat' first
   |(refine qk ( .bool false) ?_;simp (disch:=omega) only[go_sem])
   |(refine cA (c1 _) flk ?_;simp (disch:=omega) only[go_sem])
   |(apply qb;exact rvk;simp only[go_sem];exact qj)
end RC
end
section
open Go Go.Proofs AF HY LN
namespace RC
theorem gt1(n:Int)(h:List AObj):ACalls Tryz.prog 191 [.int .i64 n] h (.bool (decide (1<n))) h:=by
 refine acO qyi ?_;simp (disch:=omega) only[qwK,go_sem]
 repeat' first
  |(apply qd;exact rvk;simp only[go_sem];exact qj)
theorem qBd(cs:List Int)(h:List AObj)(hl:cs.length≤1000000):ACalls Tryz.prog 190 [qn cs,.fn (.func 191) [] []] h (.bool (qZ (fun i=>decide (1<cs.getD i 0)) cs.length)) h:=
 qib qyh ⟨rfl,rfl⟩ ⟨rfl,rfl⟩ (qaO qyx cs.length (fun i=> [.int .i64 (cs.getD i 0)]) (fun i=> .int .i64 (cs.getD i 0)) _ [] [] _ h (fun i _=>⟨rfl,by simp[zZ],rfl,rfl,rfl⟩) (fun i _=>gt1 _ _) (by omega))
open Go.Shelf Go.RowKit in
theorem qoP(cs:List Int)(w:World)(b:Nat)(hl:cs.length=32)(hb:b<w.heap.size)(hc: ∀i,i<32→w.cell? ⟨b,i,none⟩=some (.int .i64 (cs.getD i 0))):
  Calls Tryz.prog 190 #[.slice (some ⟨b,0,none⟩) 32 32,.func (.func 191) #[] #[]] w fun e w'=>e= .returned (.bool (qZ (fun i=>decide (1<cs.getD i 0)) cs.length))∧Below w.heap.size w w':=by
 have H0:HR w [] []:=⟨rfl,by simp,by simp,by simp⟩
 have h0: ∀b,¬own [] b:=fun b ⟨k,o,h1,_⟩=>by simp at h1
 have hI:qn cs= .sl 32 (fun i=> [.int .i64 (cs.getD i 0)]):=by unfold qn;rw[hl]
 have h3:=qBd cs [] (by omega);rw[hI]at h3;have h3:=h3.2 w [] [.slice (some ⟨b,0,none⟩) 32 32,.func (.func 191) #[] #[]] H0 ⟨rfl,fun i c x hc' hx=>by
  match i with
  |0=>
   simp at hc' hx;subst hc' hx;refine .imm (.sl 1 b 0 32 (fun i j=> .int .i64 (cs.getD i 0)) (nlr _) (by decide) (fun _=>h0 b) hb (fun i _=>rfl) (fun i j hi hj=> ?_) (fun i j _ _=>rfl) (fun i j c hi hj=> ?_))
   ·have:j=0:=by omega
    subst this;simpa using hc i (by omega)
   ·match j with
    |0=>simp at hj;subst hj;exact .int
    |j+1=>simp at hj
  |1=>
   simp at hc' hx;subst hc' hx;exact .imm (.fn rfl rfl (by simp) (by simp))
  |i+2=>simp at hc'⟩
 refine (callsIn_wide.1 h3).mono ?_;rintro e w' ⟨v,σ',rfl,g1,g2,g3⟩;obtain rfl:=zY g2;exact⟨rfl,⟨g3.os,g3.tape,g3.output,g3.size,fun k hk=>g3.keep k hk (h0 k)⟩⟩
open Go.Shelf Go.RowKit in
theorem qq1(cs:List Int)(w:World)(hl:cs.length=32):
  Calls Tryz.prog 133 #[.agg (cs.map fun n=>Value.int .i64 n).toArray] w fun e w'=>e= .returned (.bool (qZ (fun i=>decide (1<cs.getD i 0)) cs.length))∧Below w.heap.size w w':=by
 go_enter Tryz.func133,Tryz.ntmps133
 go_wp2_with (go_at_fn 190)
 have hh: ∀o:Obj,(w.alloc o).heap[w.heap.size]? =some o:=fun o=>by
  show (w.heap.push o)[w.heap.size]? =some o;simp
 refine (qoP cs _ _ hl ?_ ?_).mono ?_
 ·show w.heap.size<(w.heap.push _).size;simp
 ·intro i hi;simp only[World.cell?,hh];simp[gdqA,hl,hi]
 ·rintro e w' ⟨rfl,hb⟩;simp only
  go_wp2
  go_ret
  exact⟨rfl,((Below.refl _ _).alloc (nlr _) _).trans (hb.mono (by show w.heap.size≤(w.heap.push _).size;simp))⟩
theorem twP(cs:List Int)(h:List AObj)(hl:cs.length=32):ACalls Tryz.prog 133 [.agg (cs.map fun n=>AV.int .i64 n)] h (.bool (qZ (fun i=>decide (1<cs.getD i 0)) cs.length)) h:=by
 refine⟨qwb Tryz.func133 (by kernel_rfl) (by kernel_rfl),fun w σ xs H hv=> ?_⟩;obtain⟨x,rfl,hx⟩:=hv.one;obtain⟨vs,rfl,hvl,_,hvv⟩:=qbA hx;have e:vs=(cs.map fun n=>Value.int .i64 n).toArray:=by
  apply Array.ext
  ·simpa using hvl
  ·intro i h1 h2;have hi:i<cs.length:=by simpa using h2
   have:=hvv i (.int .i64 cs[i]) vs[i] (by simp[hi]) (by simp[h1])
   rw[zf this];simp
 subst e;refine (callsIn_wide.2 (qq1 cs w hl)).mono ?_;rintro e w' ⟨rfl,hb⟩;obtain⟨g1,g2⟩:=Ext.ofBelow H hb;exact⟨_,σ,rfl,g1,.imm .bool,g2⟩
end RC
end
section
open Go Go.Proofs AF HY LN
namespace RC
def qbG(C L:List Int):List Int:=L.foldl (fun C n=>C.set n.toNat (C.getD n.toNat 0+1)) C
theorem qcq(L:List Int): ∀C:List Int,(qbG C L).length=C.length:=by
 induction L with
 |nil=>intro C;rfl
 |cons n L ih=>intro C;show (qbG (C.set _ _) L).length=_;rw[ih];simp
theorem qeL{C L:List Int}{i:Nat}(hi:i<L.length):qbG C (L.take (i+1))=(qbG C (L.take i)).set (L.getD i 0).toNat ((qbG C (L.take i)).getD (L.getD i 0).toNat 0+1):=by
 unfold qbG;rw[List.take_add_one,qY hi,List.foldl_append,gdqA,qY hi];rfl
theorem qlV{C:List Int}{n:Nat}(x:Int)(h:n<C.length):List.take n (qx C)++ [AV.int .i64 x]++List.drop (n+1) (qx C)=qx (C.set n x):=by
 unfold qx;rw[←List.map_take,←List.map_drop,List.set_eq_take_append_cons_drop,ipo h];simp
theorem qe7{C:List Int}{n:Nat}(h:n<C.length):(qx C)[n]? =some (.int .i64 (C.getD n 0)):=by
 unfold qx;rw[List.getElem?_map,qY h,gdqA,qY h];rfl
theorem ql2{L:List Int}{n:Nat}{c:AV}(h:c∈qx L):jb n c=true:=by
 unfold qx at h;obtain⟨x,_,rfl⟩:=List.mem_map.1 h;rfl
theorem qpc{names:List Str}{gs:List Gr}{sg:List Str}:inB names.length (zN names gs sg)∧ ∀i,0<i→i<(zN names gs sg).length→(zN names gs sg).getD (i-1) 0<(zN names gs sg).getD i 0:=by
 unfold zN;split
 ·rename_i h;have h':=h;unfold kQ at h';split at h'
  ·cases h'
  rename_i h1;have hok:=qda (by simpa using h1);have hz:=jo.1 h';obtain⟨m1,m2⟩:=qfN hok hz;have hsort:(zD (qfM names gs sg sg.length).testBit 64).Pairwise (· < ·):=by
   unfold zD;rw[List.pairwise_map];exact (List.pairwise_lt_range.filter _).imp (fun h=>Int.ofNat_lt.2 h)
  have hmem: ∀n∈zD (qfM names gs sg sg.length).testBit 64,0≤n∧n<names.length:=by
   intro n hn;unfold zD at hn;obtain⟨k,hk,rfl⟩:=List.mem_map.1 hn;have hk2:=(List.mem_filter.1 hk).2;rw[m2 k]at hk2;obtain⟨j,hj,hm⟩:=of_decide_eq_true hk2;have hf: ¬(nIx names (sg.getD j [])<0∧gIx gs (sg.getD j [])<0):=by
    intro hc
    have:=hz j hj
    unfold qep at this;rw[ipo hc]at this;cases this
   exact jQ (qlh hok hf) _ hm
  refine⟨fun i hi=> ?_,fun i h0 hi=> ?_⟩
  ·rw[gdqA,qY hi];exact hmem _ (List.getElem_mem hi)
  ·rw[gdqA,gdqA,qY hi,qY (show i-1<_ by omega)];exact List.pairwise_iff_getElem.1 hsort (i-1) i (by omega) hi (by omega)
 ·exact⟨fun i hi=>absurd hi (nnz i),fun i _ hi=>absurd hi (nnz i)⟩
theorem qg4{names:List Str}{gs:List Gr}{sg:List Str}:inB 32 (zN names gs sg):=by
 by_cases h:kQ names gs sg=0
 ·have h':=h;unfold kQ at h';split at h'
  ·cases h'
  rename_i h1;have hok:=qda (by simpa using h1);exact qd8 qpc.1 (by have:=hok.n32;omega)
 ·have:zN names gs sg= []:=by unfold zN;rw[ine h]
  rw[this];exact fun i hi=>absurd hi (nnz i)
theorem qd7{names:List Str}{gs:List Gr}{sg:List Str}:(zN names gs sg).length≤64:=by
 unfold zN;split
 ·exact zk _ _
 ·simp
theorem qdY{C L:List Int}{B:Int}(hc: ∀i,0≤C.getD i 0∧C.getD i 0≤B): ∀(i:Nat),i≤L.length→ ∀j,0≤(qbG C (L.take i)).getD j 0∧(qbG C (L.take i)).getD j 0≤B+i:=by
 intro i
 induction i with
 |zero=>intro _ j;simpa[qbG] using hc j
 |succ i ih=>
  intro hi j;rw[qeL (by omega)];have h1:=ih (by omega) j;have h2:=ih (by omega) (L.getD i 0).toNat;rw[gdqA,List.getElem?_set];split
  ·rename_i e1;split
   ·simp only[Option.getD_some];omega
   ·simp;omega
  ·rw[←gdqA];omega
theorem qBf(names:List Str)(gs:List Gr)(sg:List Str)(C:List Int)(k v:Nat)(ty:TypeId)(h:List AObj)(hz:Szs names gs)(hs:sg.length≤1000000000)(hk:getO k h=some (.mem v ty (qx C)))(hC:C.length=32)(B:Int)(hB0:B≤1000000000000000000)(hc: ∀i,0≤C.getD i 0∧C.getD i 0≤B):
  ACalls Tryz.prog 132 [strs names,qL gs,strs sg,.op k v 0] h (.int .i64 (kQ names gs sg)) (setO k h (.mem v ty (qx (qbG C (zN names gs sg))))):=by
 have c62:=fun h=>qDF names gs sg h hz hs
 have hB:= @qg4 names gs sg;have hL:= @qd7 names gs sg;obtain⟨L,hLx⟩: ∃L,L=zN names gs sg:=⟨_,rfl⟩
 rw[←hLx]at c62 hB hL ⊢;obtain⟨e,he⟩: ∃e,e=kQ names gs sg:=⟨_,rfl⟩
 rw[←he]at c62 ⊢;have hkl:=jp hk;have bnd:=qdY (L:=L) hc;refine acO qx2 ?_;simp (disch:=omega) only[qwx,go_sem]
 repeat' first
  |(refine cA (c62 _) flk ?_;simp (disch:=omega) only[qn,go_sem])
  |with_reducible apply aiA
 all_goals try exact clz
 refine qp (T:=fun i:Nat=>qQ 36 [(3,.op k v 0),(10,.int .i64 e),(20,qn L),(21,.int .i64 L.length),(22,.int .i64 i)]) (H:=fun i=>setO k h (.mem v ty (qx (qbG C (L.take i))))) (inv:=fun i=>i≤L.length) (m:=fun i=>L.length-i) 0 (nzl _) ?_ ?_
 ·have e0:setO k h (.mem v ty (qx (qbG C (L.take 0))))=h:=setO_same hk;rw[e0];refine Wk.temps ?_
  (simp only[qn,go_sem,qi,qe,qa,qh];try (repeat' first|(with_reducible apply aiA)|(apply qg;omega)|(apply qf;rfl)|exact qj))
 rintro i i1 K hK;have hl:=qcq (L.take i) C;rw[hC]at hl;have bn:=bnd i i1;have hst:= @qeL C L i;obtain⟨D,hD⟩: ∃D,D=qbG C (L.take i):=⟨_,rfl⟩
 have eD:=hD.symm;rw[eD]at hl bn hst;have f1:cellsOf (setO k h (.mem v ty (qx D))) k v=some (qx D):=qU (qbl hkl);have f2:=qbl (o:= .mem v ty (qx D)) hkl;have f3: ∀o',setO k (setO k h (.mem v ty (qx D))) o'=setO k h o':=fun _=>qm3
 by_cases hi:i<L.length
 ·have k1:((i:Int)<L.length)=True:=eqt (by omega);have hv:=hB i hi;have hst:=hst hi;obtain⟨n,hn⟩: ∃n,n=L.getD i 0:=⟨_,rfl⟩
  have en:=hn.symm;rw[en]at hv hst;obtain⟨u,rfl⟩: ∃u:Nat,n=(u:Int):=⟨n.toNat,by omega⟩
  rw[Int.toNat_natCast]at hst;have hu:u<D.length:=by omega
  have k2:(0≤(u:Int))=True:=eqt (by omega);have k3:((u:Int)<32)=True:=eqt (by omega);have k4:(u<D.length)=True:=eqt hu;have k5:(u+1≤D.length)=True:=eqt hu;have g1:=qe7 hu;have g2:=qlV (D.getD u 0+1) hu;have g3:=qT D;have b1:=bn u;have b2:(D.getD u 0+1≤9223372036854775807)=True:=eqt (by omega);have b3:(-9223372036854775808≤D.getD u 0+1)=True:=eqt (by omega);simp (disch:=omega) only[qn,k1,k2,k4,k5,en,eD,f1,f2,f3,g1,g2,g3,Nat.mul_one,Nat.zero_add,Option.getD_some,Option.isSome_some,go_sem]
  repeat' first
   |with_reducible apply aiA
  all_goals try exact clz
  rw[←hst];refine hK _ _ (i+1) hi (by omega) (Wk.temps ?_)
  (simp only[qn,go_sem,qi,qe,qa,qh];try (repeat' first|(with_reducible apply aiA)|(apply qg;omega)|(apply qf;rfl)|exact qj))
 ·have k1:((i:Int)<L.length)=False:=eqf (by omega);have e':i=L.length:=by omega
  subst e';rw[List.take_length]at hD;rw[List.take_length,←hD];simp (disch:=omega) only[qn,k1,go_sem];refine qhe ⟨trivial,trivial⟩ qbo (fun o ho=> ?_) ⟨rfl,rfl⟩ (qj);rcases qhm ho with h1|rfl
  ·exact .inl h1
  ·exact .inr (fun c hc=>ql2 hc)
structure Tk where
 text:Str
 norm:Str
 page:Str
 line:Int
 flags:Int
 name:Str
 deriving Inhabited, DecidableEq
def tkC(t:Tk):List AV:= [.str t.text,.str t.norm,.str t.page,.int .i64 t.line,.int .i64 t.flags,.str t.name]
def jS(l:List Tk):AV:= .sl l.length fun i=>tkC (l.getD i default)
def qt(L:List (List Tk)):AV:= .sl L.length fun i=> [jS (L.getD i [])]
def qu(L:List (List Int)):AV:= .sl L.length fun i=> [qn (L.getD i [])]
structure Co where
 sec:Str
 sig:List Str
 tok:List (List Tk)
 col:List (List Int)
 deriving Inhabited
def coC(x:Co):List AV:= [.str x.sec,strs x.sig,qt x.tok,qu x.col]
structure Rd where
 words:List Str
 src:List Int
 deriving Inhabited, DecidableEq
def rdC(r:Rd):List AV:= [strs r.words,qn r.src]
def jc(l:List Rd):AV:= .sl l.length fun i=>rdC (l.getD i default)
structure Un where
 frm:Int
 to:Int
 rds:List Rd
 deriving Inhabited, DecidableEq
def unC(u:Un):List AV:= [.int .i64 u.frm,.int .i64 u.to,jc u.rds]
def qO(l:List Un):AV:= .sl l.length fun i=>unC (l.getD i default)
structure Wd where
 text:Str
 col:Int
 unit:Int
 dec:Int
 joined:Bool
 verse:Bool
 name:Str
 deriving Inhabited, DecidableEq
def wdC(w:Wd):List AV:= [.str w.text,.int .i64 w.col,.int .i64 w.unit,.int .i64 w.dec,.bool w.joined,.bool w.verse,.str w.name]
def zc(l:List Wd):AV:= .sl l.length fun i=>wdC (l.getD i default)
theorem flag_tksV(L:List Tk):(jS L).flag=true:=rfl
theorem strip_tksV(L:List Tk):(jS L).strip=jS L:=rfl
theorem flag_tkssV(L:List (List Tk)):(qt L).flag=true:=rfl
theorem strip_tkssV(L:List (List Tk)):(qt L).strip=qt L:=rfl
theorem flag_colsV(L:List (List Int)):(qu L).flag=true:=rfl
theorem strip_colsV(L:List (List Int)):(qu L).strip=qu L:=rfl
theorem flag_rdsV(L:List Rd):(jc L).flag=true:=rfl
theorem strip_rdsV(L:List Rd):(jc L).strip=jc L:=rfl
theorem flag_unsV(L:List Un):(qO L).flag=true:=rfl
theorem strip_unsV(L:List Un):(qO L).strip=qO L:=rfl
theorem flag_wdsV(L:List Wd):(zc L).flag=true:=rfl
theorem strip_wdsV(L:List Wd):(zc L).strip=zc L:=rfl
section
variable {fz : Nat → Bool} {h : List AObj} {n : Nat}
theorem rei_tksV(L:List Tk):rei fz h (n+1) (jS L)=jS L:=rfl
theorem rei_tkssV(L:List (List Tk)):rei fz h (n+1) (qt L)=qt L:=rfl
theorem rei_colsV(L:List (List Int)):rei fz h (n+1) (qu L)=qu L:=rfl
theorem rei_rdsV(L:List Rd):rei fz h (n+1) (jc L)=jc L:=rfl
theorem rei_unsV(L:List Un):rei fz h (n+1) (qO L)=qO L:=rfl
theorem rei_wdsV(L:List Wd):rei fz h (n+1) (zc L)=zc L:=rfl
theorem frz_tksV(L:List Tk):frz fz h (n+1) (jS L)=jS L:=rfl
theorem frz_tkssV(L:List (List Tk)):frz fz h (n+1) (qt L)=qt L:=rfl
theorem frz_colsV(L:List (List Int)):frz fz h (n+1) (qu L)=qu L:=rfl
theorem frz_rdsV(L:List Rd):frz fz h (n+1) (jc L)=jc L:=rfl
theorem frz_unsV(L:List Un):frz fz h (n+1) (qO L)=qO L:=rfl
theorem frz_wdsV(L:List Wd):frz fz h (n+1) (zc L)=zc L:=rfl
end
attribute [go_sem] flag_tksV strip_tksV flag_tkssV strip_tkssV flag_colsV strip_colsV flag_rdsV strip_rdsV flag_unsV strip_unsV flag_wdsV strip_wdsV rei_tksV rei_tkssV rei_colsV rei_rdsV rei_unsV rei_wdsV frz_tksV frz_tkssV frz_colsV frz_rdsV frz_unsV frz_wdsV
def qtZ(f:Int):Bool:=f.toNat.testBit 1
def mkB(f:Int):Bool:=f.toNat.testBit 3
def qv9(s:Str):Bool:=decide (s= [])||jL s
def qzw(s:Str):Bool:=decide (s.length=1)&&(decide (zG (ch s 0)=5)||decide (zG (ch s 0)=4))
def qua(c:UInt8):Bool:=decide (zG c=1)||(decide (zG c=3)||(decide (zG c=2)||decide (zG c=4)))
def qzx(s:Str):Bool:=decide (s≠ [])&&(decide (s.length≤64)&&(List.range s.length).all fun i=>qua (ch s i))
def txB(t:Tk):Bool:=if qtZ t.flags=true then qbJ t.text&&decide (t.norm=t.text) else if mkB t.flags=true then qzw t.text&&decide (t.norm=t.text) else qak t.text&&qzx t.norm
def tkE(t:Tk):Int:=
 if t.flags<0∨31<t.flags then 2 else if qtZ t.flags=true∧mkB t.flags=true then 8 else if txB t=false then 11 else if t.line<0 then 2 else if qv9 t.page=false∨qv9 t.name=false then 14 else 0
def qjg(l:List Tk):Int:=if 1024<l.length then 4 else if qZ (fun j=>decide (tkE (l.getD j default)≠0)) l.length=true then 1 else 0
def srE(x:Co):Int:=
 if jL x.sec=false then 14 else if x.sig.length=0 then 5 else if 32<x.sig.length then 4 else if qa9 (jM x.sig) 0 x.sig.length≠0 then qa9 (jM x.sig) 0 x.sig.length else
  if x.tok.length≠x.sig.length then 9 else qa9 (fun i=>qjg (x.tok.getD i [])) 0 x.tok.length
def cnC(col:List (List Int))(s:Nat):Nat→Nat
 |0=>0
 |i+1=>cnC col s i+if (col.getD i []).getD s 0= -1 then 0 else 1
def enB(tok:List (List Tk))(col:List (List Int))(i s:Nat):Bool:=
 decide ((col.getD i []).getD s 0= -1)||(decide ((col.getD i []).getD s 0=(cnC col s i:Int))&&decide ((col.getD i []).getD s 0<((tok.getD s []).length:Int)))
def qf0(tok:List (List Tk))(col:List (List Int))(i:Nat):Bool:=
 decide ((col.getD i []).length=tok.length)&&(!qZ (fun s=> !enB tok col i s) tok.length&&qZ (fun s=> !decide ((col.getD i []).getD s 0= -1)) tok.length)
def alB(tok:List (List Tk))(col:List (List Int)):Bool:=
 !qZ (fun i=> !qf0 tok col i) col.length&& !qZ (fun s=> !decide (cnC col s col.length=(tok.getD s []).length)) tok.length
def coE(x:Co):Int:=if srE x≠0 then srE x else if alB x.tok x.col=false then 19 else 0
structure CoOk (x:Co):Prop where
 sg:0<x.sig.length∧x.sig.length≤32
 tn:x.tok.length=x.sig.length
 tl: ∀s,s<x.tok.length→(x.tok.getD s []).length≤1024
 te: ∀s,s<x.tok.length→ ∀j,j<(x.tok.getD s []).length→tkE ((x.tok.getD s []).getD j default)=0
 cl: ∀i,i<x.col.length→(x.col.getD i []).length=x.sig.length
 ce: ∀i,i<x.col.length→ ∀s,s<x.sig.length→(x.col.getD i []).getD s 0= -1∨((x.col.getD i []).getD s 0=(cnC x.col s i:Int)∧(x.col.getD i []).getD s 0<((x.tok.getD s []).length:Int))
 cs: ∀i,i<x.col.length→ ∃s,s<x.sig.length∧(x.col.getD i []).getD s 0≠ -1
 ct: ∀s,s<x.sig.length→cnC x.col s x.col.length=(x.tok.getD s []).length
theorem qgX{x:Co}(h:coE x=0):CoOk x:=by
 unfold coE at h;split at h
 ·rename_i h1;exact absurd h h1
 rename_i h1;have h1:=Classical.not_not.1 h1;split at h
 ·cases h
 rename_i h2;unfold srE at h1;split at h1
 ·cases h1
 split at h1
 ·cases h1
 rename_i g2;split at h1
 ·cases h1
 rename_i g3;split at h1
 ·rename_i g4;exact absurd h1 g4
 split at h1
 ·cases h1
 rename_i g5;have g5:=Classical.not_not.1 g5;have h3:=jo.1 h1;have h2:alB x.tok x.col=true:=by simpa using h2
 unfold alB at h2;rw[Bool.and_eq_true,Bool.not_eq_true',Bool.not_eq_true',ql,ql]at h2;obtain⟨h4,h5⟩:=h2;have h6: ∀i,i<x.col.length→qf0 x.tok x.col i=true:=fun i hi=>by simpa using h4 i hi
 have hrow: ∀s,s<x.tok.length→(x.tok.getD s []).length≤1024∧ ∀j,j<(x.tok.getD s []).length→tkE ((x.tok.getD s []).getD j default)=0:=fun s hs=>by
  have:=h3 s hs
  unfold qjg at this;split at this
  ·cases this
  rename_i k1;split at this
  ·cases this
  rename_i k2;refine⟨by omega,fun j hj=> ?_⟩
  have:=ql.1 (by simpa using k2) j hj
  simpa using this
 refine⟨by omega,g5,fun s hs=>(hrow s hs).1,fun s hs=>(hrow s hs).2,fun i hi=> ?_,fun i hi s hs=> ?_,fun i hi=> ?_,fun s hs=> ?_⟩
 ·have:=h6 i hi
  unfold qf0 at this;rw[Bool.and_eq_true,decide_eq_true_iff]at this;omega
 ·have:=h6 i hi
  unfold qf0 at this;rw[Bool.and_eq_true,Bool.and_eq_true,Bool.not_eq_true',ql]at this
  have:=this.2.1 s (by omega)
  have this:enB x.tok x.col i s=true:=by simpa using this
  unfold enB at this;simpa[Bool.or_eq_true,Bool.and_eq_true] using this
 ·have:=h6 i hi
  unfold qf0 at this;rw[Bool.and_eq_true,Bool.and_eq_true]at this;obtain⟨s,hs,hv⟩:=qy.1 this.2.2;exact⟨s,by omega,by simpa using hv⟩
 ·have:=h5 s (by omega)
  simpa using this
def clT(x:Co)(k s:Nat):Option Str:=if (x.col.getD k []).getD s 0<0 then none else some ((x.tok.getD s []).getD ((x.col.getD k []).getD s 0).toNat default).text
def cmB(x:Co)(k:Nat):Bool:= !qZ (fun s=>decide (clT x k s=none)|| !decide (clT x k s=clT x k 0)) x.sig.length
def rdG(x:Co)(s f:Nat):Nat→List Str
 |0=> []
 |d+1=>rdG x s f d++(clT x (f+d) s).toList
theorem qek(x:Co)(s f:Nat): ∀d,(rdG x s f d).length≤d:=by
 intro d
 induction d with
 |zero=>exact nlr _
 |succ d ih=>
  unfold rdG;rw[List.length_append];cases clT x (f+d) s with
  |none=>simp only[Option.toList_none,List.length_nil];omega
  |some w=>simp only[Option.toList_some,List.length_cons,List.length_nil];omega
def qjC(L:List Rd)(w:List Str):Int:=qam (fun j=>decide (w=(L.getD j default).words)) L.length 0
def qfG(L:List Rd)(w:List Str)(s:Nat):List Rd:=if qjC L w<0 then L++ [⟨w,[(s:Int)]⟩] else L.set (qjC L w).toNat ⟨w,(L.getD (qjC L w).toNat default).src++ [(s:Int)]⟩
def qcc(x:Co)(f d:Nat):Nat→List Rd
 |0=> []
 |s+1=>qfG (qcc x f d s) (rdG x s f d) s
def qhu(x:Co)(f t:Nat):List Rd:=qcc x f (t-f) x.sig.length
theorem qol(L:List Rd)(w:List Str)(s:Nat):(qfG L w s).length≤L.length+1:=by
 unfold qfG;split
 ·simp
 ·rw[List.length_set];omega
theorem qhw(x:Co)(f d:Nat): ∀s,(qcc x f d s).length≤s:=by
 intro s
 induction s with
 |zero=>exact nlr _
 |succ s ih=>
  have:=qol (qcc x f d s) (rdG x s f d) s
  unfold qcc;omega
def unB(x:Co)(beh:Int)(u:Un):Bool:= !(decide (u.frm≤beh)||(decide (u.frm<0)||(decide (u.to≤u.frm)||(decide ((x.col.length:Int)<u.to)|| !decide (u.rds=qhu x u.frm.toNat u.to.toNat)))))
def beH(l:List Un)(i:Nat):Int:=if i=0 then-1 else (l.getD (i-1) default).to
def qnG(x:Co)(l:List Un):Bool:= !qZ (fun i=> !unB x (beH l i) (l.getD i default)) l.length
def cvB(l:List Un)(k:Nat):Bool:=qZ (fun i=>decide ((l.getD i default).frm≤k)&&decide ((k:Int)<(l.getD i default).to)) l.length
def cvA(x:Co)(l:List Un):Bool:= !qZ (fun k=> !cvB l k&& !cmB x k) x.col.length
def rgB(x:Co)(l:List Un):Bool:=qnG x l&&cvA x l
def vaE(x:Co)(l:List Un):Int:=if coE x≠0 then 1 else if rgB x l=false then 20 else 0
def nxt(p:Nat→Bool):Nat→Nat→Nat
 |0,k=>k
 |d+1,k=>if p k=true then k else nxt p d (k+1)
theorem qee(p:Nat→Bool): ∀d k,k≤nxt p d k∧nxt p d k≤k+d∧(∀j,k≤j→j<nxt p d k→p j=false)∧(nxt p d k<k+d→p (nxt p d k)=true):=by
 intro d
 induction d with
 |zero=>intro k;exact⟨nlr _,nlr _,fun j h1 h2=>by unfold nxt at h2;omega,fun h=>by unfold nxt at h;omega⟩
 |succ d ih=>
  intro k;unfold nxt;split
  ·rename_i h;exact⟨nlr _,by omega,fun j h1 h2=>by omega,fun _=>h⟩
  ·rename_i h;obtain⟨h1,h2,h3,h4⟩:=ih (k+1);refine⟨by omega,by omega,fun j g1 g2=> ?_,fun g=>h4 (by omega)⟩
   by_cases e:j=k
   ·subst e;simpa using h
   ·exact h3 j (by omega) g2
def kY(p:Nat→Bool)(n:Nat):Nat→Nat→List (Nat×Nat)
 |0,_=> []
 |d+1,f=>if n≤f then [] else (if f<nxt p (n-f) f then [(f,nxt p (n-f) f)] else [])++kY p n d (nxt p (n-f) f+1)
def qgi(p:Nat→Bool)(n:Nat):List (Nat×Nat):=kY p n (n+1) 0
theorem qhB(p:Nat→Bool)(n:Nat): ∀d f,(∀r∈kY p n d f,f≤r.1∧r.1<r.2∧r.2≤n∧ ∀k,r.1≤k→k<r.2→p k=false)∧(n-f<d→ ∀k,f≤k→k<n→p k=false→ ∃r∈kY p n d f,r.1≤k∧k<r.2):=by
 intro d
 induction d with
 |zero=>intro f;exact⟨fun r hr=>absurd hr List.not_mem_nil,fun h=>absurd h (nnz _)⟩
 |succ d ih=>
  intro f;unfold kY;split
  ·rename_i h;exact⟨fun r hr=>absurd hr List.not_mem_nil,fun _ k h1 h2=>by omega⟩
  ·rename_i h;obtain⟨h1,h2,h3,h4⟩:=qee p (n-f) f;obtain⟨i1,i2⟩:=ih (nxt p (n-f) f+1);obtain⟨t,ht⟩: ∃t,t=nxt p (n-f) f:=⟨_,rfl⟩
   rw[←ht]at h1 h2 h3 h4 i1 i2 ⊢;refine⟨fun r hr=> ?_,fun hd k k1 k2 k3=> ?_⟩
   ·rcases List.mem_append.1 hr with hr|hr
    ·split at hr
     ·rename_i hft;rw[List.mem_singleton]at hr;subst hr;exact⟨nlr _,hft,by simp only;omega,h3⟩
     ·cases hr
    ·obtain⟨g1,g2⟩:=i1 r hr;exact⟨by omega,g2⟩
   ·by_cases hk:k<t
    ·refine⟨(f,t),List.mem_append_left _ ?_,k1,hk⟩;rw[ipo (by omega)];exact List.mem_singleton.2 rfl
    ·have hne:k≠t:=fun e=>by
      subst e;rw[h4 (by omega)]at k3;cases k3
     obtain⟨r,hr,g⟩:=i2 (by omega) k (by omega) k2 k3;exact⟨r,List.mem_append_right _ hr,g⟩
theorem quV{p:Nat→Bool}{n:Nat}{r:Nat×Nat}(hr:r∈qgi p n):r.1<r.2∧r.2≤n∧ ∀k,r.1≤k→k<r.2→p k=false:=((qhB p n (n+1) 0).1 r hr).2
theorem qqt{p:Nat→Bool}{n k:Nat}(hk:k<n)(hp:p k=false): ∃r∈qgi p n,r.1≤k∧k<r.2:=(qhB p n (n+1) 0).2 (by omega) k (nzl _) hk hp
structure qDe (x:Co) (l:List Un):Prop where
 pw:l.Pairwise fun a b=>a.to<b.frm
 rg: ∀u∈l,0≤u.frm∧u.frm<u.to∧u.to≤x.col.length∧u.rds=qhu x u.frm.toNat u.to.toNat
theorem qve{x:Co}{beh:Int}{u:Un}:unB x beh u=true↔beh<u.frm∧0≤u.frm∧u.frm<u.to∧u.to≤x.col.length∧u.rds=qhu x u.frm.toNat u.to.toNat:=by
 unfold unB;simp only[Bool.not_eq_true',Bool.or_eq_false_iff,decide_eq_false_iff_not,Bool.not_eq_false',decide_eq_true_eq];constructor
 ·rintro⟨h1,h2,h3,h4,h5⟩;exact⟨by omega,by omega,by omega,by omega,h5⟩
 ·rintro⟨h1,h2,h3,h4,h5⟩;exact⟨by omega,by omega,by omega,by omega,h5⟩
theorem qa8{x:Co}{l:List Un}(h:qnG x l=true):qDe x l:=by
 unfold qnG at h;rw[Bool.not_eq_true',ql]at h;have h1: ∀i,i<l.length→beH l i<(l.getD i default).frm∧0≤(l.getD i default).frm∧(l.getD i default).frm<(l.getD i default).to∧(l.getD i default).to≤x.col.length∧(l.getD i default).rds=qhu x (l.getD i default).frm.toNat (l.getD i default).to.toNat:=fun i hi=>
  qve.1 (by simpa using h i hi)
 have g: ∀i (hi:i<l.length),l.getD i default=l[i]:=fun i hi=>by rw[gdqA,qY hi];rfl
 refine⟨List.pairwise_iff_getElem.2 fun i j hi hj hij=> ?_,fun u hu=> ?_⟩
 ·have key: ∀d,i+1+d<l.length→(l.getD i default).to<(l.getD (i+1+d) default).frm:=by
   intro d
   induction d with
   |zero=>
    intro hd
    have:=(h1 (i+1) hd).1
    unfold beH at this;rw[ine (by omega),Nat.add_sub_cancel]at this;exact this
   |succ d ih=>
    intro hd;have h2:=ih (by omega);have h3:=(h1 (i+1+d) (by omega)).2.2.1;have h4:=(h1 (i+1+d+1) (by omega)).1;unfold beH at h4;rw[ine (by omega),Nat.add_sub_cancel]at h4;rw[←Nat.add_assoc];omega
  have:=key (j-(i+1)) (by omega)
  rw[show i+1+(j-(i+1))=j by omega,g i hi,g j hj]at this;exact this
 ·obtain⟨i,hi,rfl⟩:=List.getElem_of_mem hu
  have:=(h1 i hi).2
  rw[g i hi]at this;exact this
theorem qk9{l:List Un}{k:Nat}:cvB l k=true↔ ∃u∈l,u.frm≤k∧(k:Int)<u.to:=by
 unfold cvB;rw[qy];constructor
 ·rintro⟨i,hi,h⟩;rw[gdqA,qY hi,Bool.and_eq_true,decide_eq_true_iff,decide_eq_true_iff]at h;exact⟨_,List.getElem_mem hi,h⟩
 ·rintro⟨u,hu,h⟩;obtain⟨i,hi,rfl⟩:=List.getElem_of_mem hu;refine⟨i,hi,?_⟩;rw[gdqA,qY hi,Bool.and_eq_true,decide_eq_true_iff,decide_eq_true_iff];exact h
def rnB(l:List Un)(r:Nat×Nat):Bool:=qZ (fun i=>decide ((l.getD i default).frm≤r.1)&&decide ((r.2:Int)≤(l.getD i default).to)) l.length
theorem qmU{l:List Un}{r:Nat×Nat}:rnB l r=true↔ ∃u∈l,u.frm≤r.1∧(r.2:Int)≤u.to:=by
 unfold rnB;rw[qy];constructor
 ·rintro⟨i,hi,h⟩;rw[gdqA,qY hi,Bool.and_eq_true,decide_eq_true_iff,decide_eq_true_iff]at h;exact⟨_,List.getElem_mem hi,h⟩
 ·rintro⟨u,hu,h⟩;obtain⟨i,hi,rfl⟩:=List.getElem_of_mem hu;refine⟨i,hi,?_⟩;rw[gdqA,qY hi,Bool.and_eq_true,decide_eq_true_iff,decide_eq_true_iff];exact h
theorem qpI{α:Type}{L:List α}{R:α→α→Prop}(h:L.Pairwise R){a b:α}(ha:a∈L)(hb:b∈L)(hne:a≠b):R a b∨R b a:=by
 induction L with
 |nil=>cases ha
 |cons c r ih=>
  obtain⟨h1,h2⟩:=List.pairwise_cons.1 h;rcases List.mem_cons.1 ha with ea|na
  ·rcases List.mem_cons.1 hb with eb|nb
   ·exact absurd (ea.trans eb.symm) hne
   ·rw[ea];exact .inl (h1 b nb)
  ·rcases List.mem_cons.1 hb with eb|nb
   ·rw[eb];exact .inr (h1 a na)
   ·exact ih h2 na nb
theorem qtt{x:Co}{l:List Un}(h:qnG x l=true):((qgi (cmB x) x.col.length).all (rnB l)=true)↔cvA x l=true:=by
 have ho:=qa8 h;unfold cvA;rw[List.all_eq_true,Bool.not_eq_true',ql];constructor
 ·intro hr k hk;cases hc:cmB x k with
  |true=>simp
  |false=>
   obtain⟨r,hr1,r1,r2⟩:=qqt hk hc;obtain⟨u,hu,u1,u2⟩:=qmU.1 (hr r hr1);rw[qk9.2 ⟨u,hu,by omega,by omega⟩];rfl
 ·intro hk r hr;obtain⟨r1,r2,r3⟩:=quV hr;have cov: ∀k,r.1≤k→k<r.2→ ∃u∈l,u.frm≤(k:Int)∧(k:Int)<u.to:=fun k h1 h2=>by
   have h3:=hk k (by omega);rw[r3 k h1 h2,Bool.not_false,Bool.and_true,Bool.not_eq_false']at h3;exact qk9.1 h3
  obtain⟨u,hu,u1,u2⟩:=cov r.1 (nlr _) r1;refine qmU.2 ⟨u,hu,u1,?_⟩
  by_cases ht:(r.2:Int)≤u.to
  ·exact ht
  ·exfalso;have hur:=ho.rg u hu;obtain⟨k,hk2⟩: ∃k:Nat,u.to=(k:Int):=⟨u.to.toNat,by omega⟩
   obtain⟨v,hv,v1,v2⟩:=cov k (by omega) (by omega);have hvr:=ho.rg v hv
   by_cases e:u=v
   ·subst e;omega
   ·rcases qpI ho.pw hu hv e with h1|h1
    ·omega
    ·omega
def fnU(l:List Un)(c:Int):Int:=qam (fun i=>decide ((l.getD i default).frm≤c)&&decide (c<(l.getD i default).to)) l.length 0
theorem qhf{l:List Un}{c:Int}{k:Nat}(h:fnU l c=k):k<l.length∧(l.getD k default).frm≤c∧c<(l.getD k default).to:=by
 unfold fnU at h;rcases zh (fun i=>decide ((l.getD i default).frm≤c)&&decide (c<(l.getD i default).to)) l.length with⟨i,h1,h2,_,h4⟩|⟨_,h2⟩
 ·rw[h4]at h;have e:i=k:=by omega
  subst e;rw[Bool.and_eq_true,decide_eq_true_iff,decide_eq_true_iff]at h2;exact⟨h1,h2⟩
 ·rw[h2]at h;omega
theorem qrP{l:List Un}{c:Int}(h:fnU l c<0){i:Nat}(hi:i<l.length): ¬((l.getD i default).frm≤c∧c<(l.getD i default).to):=by
 unfold fnU at h;rcases zh (fun i=>decide ((l.getD i default).frm≤c)&&decide (c<(l.getD i default).to)) l.length with⟨j,_,_,_,h4⟩|⟨h1,_⟩
 ·rw[h4]at h;omega
 ·have:=h1 i hi
  rw[Bool.and_eq_false_iff,decide_eq_false_iff_not,decide_eq_false_iff_not]at this;omega
theorem qy5{x:Co}{l:List Un}(h:qnG x l=true){c:Int}{k:Nat}(hk:k<l.length)(h1:(l.getD k default).frm≤c)(h2:c<(l.getD k default).to):fnU l c=k:=by
 have ho:=qa8 h;rcases Int.lt_or_le (fnU l c) 0 with hn|hn
 ·exact absurd ⟨h1,h2⟩ (qrP hn hk)
 ·obtain⟨j,hj⟩: ∃j:Nat,fnU l c=j:=⟨(fnU l c).toNat,by omega⟩
  obtain⟨j1,j2,j3⟩:=qhf hj;rw[hj];have g: ∀i (hi:i<l.length),l.getD i default=l[i]:=fun i hi=>by rw[gdqA,qY hi];rfl
  rw[g k hk]at h1 h2;rw[g j j1]at j2 j3;rcases Nat.lt_trichotomy j k with e|e|e
  ·have:=List.pairwise_iff_getElem.1 ho.pw j k j1 hk e;omega
  ·omega
  ·have:=List.pairwise_iff_getElem.1 ho.pw k j hk j1 e;omega
def wdE(x:Co)(l:List Un)(w bef:Wd)(first:Bool):Int:=
 if w.text= []∨64<w.text.length then 11 else if w.col<0∨(x.col.length:Int)≤w.col∨(first=false∧w.col<bef.col) then 19 else if w.unit< -1∨(l.length:Int)≤w.unit then 20 else
  if fnU l w.col≠w.unit then 20 else if w.dec< -1∨(w.unit<0∧w.dec≠ -1)∨(first=false∧0≤w.unit∧w.unit=bef.unit∧w.dec≠bef.dec) then 2 else 0
def qjJ(b:List Wd)(i:Nat):Wd:=if i=0 then default else b.getD (i-1) default
def qog(x:Co)(l:List Un)(b:List Wd)(i:Nat):Int:=wdE x l (b.getD i default) (qjJ b i) (decide (i=0))
def cW(b:List Wd)(c:Int):Nat→Nat
 |0=>0
 |i+1=>cW b c i+if (b.getD i default).col=c then 1 else 0
def txA(x:Co)(c:Nat):Str:=((x.tok.getD 0 []).getD ((x.col.getD c []).getD 0 0).toNat default).text
def ccB(x:Co)(b:List Wd)(c:Nat):Bool:=decide (cW b c b.length=1)&&qZ (fun i=>decide ((b.getD i default).col=c)&&decide ((b.getD i default).text=txA x c)) b.length
def qBc(x:Co)(l:List Un)(b:List Wd)(c:Nat):Int:=if 0≤fnU l c then 0 else if ccB x b c=true then 0 else 9
def pvE(x:Co)(l:List Un)(b:List Wd):Int:=
 if vaE x l≠0 then vaE x l else if qa9 (qog x l b) 0 b.length≠0 then qa9 (qog x l b) 0 b.length else qa9 (qBc x l b) 0 x.col.length
structure qoi (x:Co) (l:List Un) (b:List Wd):Prop where
 co:coE x=0
 un:qnG x l=true
 cv:cvA x l=true
 tx: ∀i,i<b.length→(b.getD i default).text≠ []∧(b.getD i default).text.length≤64
 cl: ∀i,i<b.length→0≤(b.getD i default).col∧(b.getD i default).col<x.col.length
 ord: ∀i,i+1<b.length→(b.getD i default).col≤(b.getD (i+1) default).col
 un2: ∀i,i<b.length→fnU l (b.getD i default).col=(b.getD i default).unit
 cc: ∀c,c<x.col.length→fnU l c<0→ccB x b c=true
theorem qsa{x:Co}{l:List Un}{b:List Wd}(h:pvE x l b=0):qoi x l b:=by
 unfold pvE at h;split at h
 ·rename_i h1;exact absurd h h1
 rename_i h1;have h1:=Classical.not_not.1 h1;split at h
 ·rename_i h2;exact absurd h h2
 rename_i h2;have h2:=jo.1 (Classical.not_not.1 h2);have h3:=jo.1 h;unfold vaE at h1;split at h1
 ·cases h1
 rename_i g1;split at h1
 ·cases h1
 rename_i g2;have g2:rgB x l=true:=by simpa using g2
 unfold rgB at g2;rw[Bool.and_eq_true]at g2;have hw: ∀i,i<b.length→((b.getD i default).text≠ []∧(b.getD i default).text.length≤64)∧(0≤(b.getD i default).col∧(b.getD i default).col<x.col.length)∧(0<i→(qjJ b i).col≤(b.getD i default).col)∧fnU l (b.getD i default).col=(b.getD i default).unit:=fun i hi=>by
  have:=h2 i hi
  unfold qog wdE at this;split at this
  ·cases this
  rename_i k1;split at this
  ·cases this
  rename_i k2;split at this
  ·cases this
  split at this
  ·cases this
  rename_i k4;refine⟨⟨fun e=>k1 (.inl e),Nat.le_of_not_lt fun e=>k1 (.inr e)⟩,⟨by omega,by omega⟩,fun h0=> ?_,Classical.not_not.1 k4⟩;refine Int.not_lt.1 fun hc=>k2 (.inr (.inr ⟨dqf (by omega),hc⟩))
 refine⟨Classical.not_not.1 g1,g2.1,g2.2,fun i hi=>(hw i hi).1,fun i hi=>(hw i hi).2.1,fun i hi=> ?_,fun i hi=>(hw i hi).2.2.2,fun c hc hn=> ?_⟩
 ·have:=(hw (i+1) hi).2.2.1 (by omega)
  unfold qjJ at this;rw[ine (by omega),Nat.add_sub_cancel]at this;exact this
 ·have:=h3 c hc
  unfold qBc at this;rw[ine (by omega)]at this;split at this
  ·assumption
  ·cases this
def cP(p:Nat→Bool):Nat→Nat
 |0=>0
 |i+1=>cP p i+if p i=true then 1 else 0
theorem qoF(p:Nat→Bool): ∀n,cP p n≤n:=by
 intro n
 induction n with
 |zero=>exact nlr _
 |succ n ih=>unfold cP;split<;>omega
theorem qxn{p:Nat→Bool}: ∀ {n:Nat},(∀i,i<n→p i=true)→cP p n=n:=by
 intro n
 induction n with
 |zero=>intro _;rfl
 |succ n ih=>intro h;unfold cP;rw[ih fun i hi=>h i (by omega),ipo (h n (by omega))]
theorem qxp{p:Nat→Bool}: ∀ {n:Nat},(∀i,i+1<n→p (i+1)=true→p i=true)→ ∀i,i<n→(p i=true↔i<cP p n):=by
 intro n
 induction n with
 |zero=>intro _ i h;exact absurd h (nnz i)
 |succ n ih=>
  intro hm i hi;have h0:=ih fun j hj=>hm j (by omega)
  unfold cP;cases hn:p n with
  |true=>
   rw[ipo rfl];have hall: ∀d,d≤n→p (n-d)=true:=by
    intro d
    induction d with
    |zero=>intro _;exact hn
    |succ d ihd=>
     intro hd;refine hm (n-(d+1)) (by omega) ?_;rw[show n-(d+1)+1=n-d by omega];exact ihd (by omega)
   have hp: ∀j,j≤n→p j=true:=fun j hj=>by
    have:=hall (n-j) (by omega)
    rwa [show n-(n-j)=j by omega]at this
   rw[qxn fun j hj=>hp j (by omega),hp i (by omega)];exact⟨fun _=>by omega,fun _=>rfl⟩
  |false=>
   rw[ine (by simp),Nat.add_zero]
   by_cases e:i=n
   ·subst e
    have:=qoF p i
    rw[hn];exact⟨fun h=>absurd h (by simp),fun h=>by omega⟩
   ·exact h0 i (by omega)
theorem qxo{q:Nat→Bool}{F G:Nat}(hFG:F≤G): ∀ {n:Nat},(∀i,i<n→(q i=true↔F≤i∧i<G))→cP q n=min n G-min n F:=by
 intro n
 induction n with
 |zero=>intro _;simp[cP]
 |succ n ih=>
  intro h;unfold cP;rw[ih fun i hi=>h i (by omega)];have hn:=h n (by omega);split
  ·rename_i hq
   have:=hn.1 hq
   omega
  ·rename_i hq
   have: ¬(F≤n∧n<G):=fun hc=>hq (hn.2 hc)
   omega
theorem qt4{q:Nat→Bool}{F G n:Nat}(hGn:G≤n)(h: ∀i,i<n→(q i=true↔F≤i∧i<G)):qam q n 0=if F<G then (F:Int) else-1:=by
 split
 ·rename_i hl;exact qae (by omega) (fun j hj=>by
   cases hq:q j with
   |false=>rfl
   |true=>have:=(h j (by omega)).1 hq;omega) ((h F (by omega)).2 ⟨nlr _,hl⟩)
 ·rename_i hl;refine qay fun j hj=> ?_
  cases hq:q j with
  |false=>rfl
  |true=>have:=(h j hj).1 hq;omega
def qfS(q:Nat→Bool)(n f:Nat):Nat:=nxt (fun i=> !q i) (n-f) f
theorem qkw(q:Nat→Bool){n f:Nat}(hf:f≤n):f≤qfS q n f∧qfS q n f≤n∧(∀j,f≤j→j<qfS q n f→q j=true)∧(qfS q n f<n→q (qfS q n f)=false):=by
 obtain⟨h1,h2,h3,h4⟩:=qee (fun i=> !q i) (n-f) f;refine⟨h1,by unfold qfS;omega,fun j g1 g2=>by simpa using h3 j g1 g2,fun g=> ?_⟩
 have:=h4 (by unfold qfS at g;omega)
 simpa[qfS] using this
def qv5(q:Nat→Bool)(n f:Nat):Bool:=qZ (fun i=>decide (qfS q n f≤i)&&q i) n
def qnl(q:Nat→Bool)(n:Nat):Int:=if qam q n 0<0 then 6 else if qv5 q n (qam q n 0).toNat=true then 10 else 0
def qz8(q:Nat→Bool)(n:Nat):Int:=if qnl q n=0 then qam q n 0 else 0
def qz9(q:Nat→Bool)(n:Nat):Int:=if qnl q n=0 then (qfS q n (qam q n 0).toNat:Int) else 0
def inU(b:List Wd)(k:Int)(i:Nat):Bool:=decide ((b.getD i default).unit=k)
def bfU(b:List Wd)(c:Int)(i:Nat):Bool:=decide ((b.getD i default).col<c)
theorem qhE{x:Co}{l:List Un}{b:List Wd}(h:qoi x l b){k:Nat}(hk:k<l.length):
  ∃F G,F≤G∧G≤b.length∧(∀i,i<b.length→(bfU b (l.getD k default).frm i=true↔i<F))∧(∀i,i<b.length→(inU b k i=true↔F≤i∧i<G))∧cP (bfU b (l.getD k default).frm) b.length=F∧cP (inU b k) b.length=G-F:=by
 obtain⟨u,hu⟩: ∃u,u=l.getD k default:=⟨_,rfl⟩
 have hur:=(qa8 h.un).rg u (by rw[hu,gdqA,qY hk];exact List.getElem_mem hk);have hpre: ∀c,∀i,i<b.length→(bfU b c i=true↔i<cP (bfU b c) b.length):=fun c=>qxp fun i hi hp=>by
  have:=h.ord i hi
  unfold bfU at hp ⊢;rw[decide_eq_true_iff]at hp ⊢;omega
 have h1:=hpre u.frm;have h2:=hpre u.to;have hq: ∀i,i<b.length→(inU b k i=true↔cP (bfU b u.frm) b.length≤i∧i<cP (bfU b u.to) b.length):=fun i hi=>by
  have g1:=h1 i hi;have g2:=h2 i hi;unfold bfU at g1 g2;rw[decide_eq_true_iff]at g1 g2;unfold inU;rw[decide_eq_true_iff];constructor
  ·intro e;obtain⟨_,k2,k3⟩:=qhf (show fnU l (b.getD i default).col=k by rw[h.un2 i hi,e]);rw[←hu]at k2 k3;exact⟨Nat.le_of_not_lt fun hc=>absurd (g1.2 hc) (by omega),g2.1 k3⟩
  ·rintro⟨e1,e2⟩;have k2:u.frm≤(b.getD i default).col:=Int.not_lt.1 fun hc=>by have:=g1.1 hc;exact absurd this (Nat.not_lt.2 e1)
   have k3:=g2.2 e2;rw[←h.un2 i hi];exact qy5 h.un hk (by rw[←hu];exact k2) (by rw[←hu];exact k3)
 have hle:cP (bfU b u.frm) b.length≤cP (bfU b u.to) b.length:=by
  rcases Nat.lt_or_ge (cP (bfU b u.to) b.length) (cP (bfU b u.frm) b.length)with hlt|hge
  ·have hi:cP (bfU b u.to) b.length<b.length:=by have:=qoF (bfU b u.frm) b.length;omega
   have g1:=(h1 _ hi).2 hlt;have g2: ¬_:=fun hc=>absurd ((h2 _ hi).1 hc) (Nat.lt_irrefl _)
   unfold bfU at g1 g2;rw[decide_eq_true_iff]at g1 g2;omega
  ·exact hge
 have hGn:=qoF (bfU b u.to) b.length;refine⟨cP (bfU b u.frm) b.length,cP (bfU b u.to) b.length,hle,hGn,by rw[←hu];exact h1,hq,by rw[←hu],?_⟩;rw[qxo hle hq];omega
structure Va where
 words:List Str
 sigla:List Str
 deriving Inhabited
structure En where
 layer:Int
 frm:Int
 to:Int
 pos:Bool
 sup:List Str
 vars:List Va
 deriving Inhabited
def vaC(v:Va):List AV:= [strs v.words,strs v.sigla]
def zM(vs:List Va):AV:= .sl vs.length fun i=>vaC (vs.getD i default)
def enC(e:En):List AV:= [.int .i64 e.layer,.int .i64 e.frm,.int .i64 e.to,.bool e.pos,strs e.sup,zM e.vars]
def jl(l:List En):AV:= .sl l.length fun i=>enC (l.getD i default)
theorem qly(L:List Va):(zM L).flag=true:=rfl
theorem qjd(L:List Va):(zM L).strip=zM L:=rfl
theorem qpw{fz:Nat→Bool}{h:List AObj}{n:Nat}(L:List Va):frz fz h (n+1) (zM L)=zM L:=rfl
theorem qqm{fz:Nat→Bool}{h:List AObj}{n:Nat}(L:List Va):rei fz h (n+1) (zM L)=zM L:=rfl
theorem qlu(L:List En):(jl L).flag=true:=rfl
theorem qi9(L:List En):(jl L).strip=jl L:=rfl
theorem qpt{fz:Nat→Bool}{h:List AObj}{n:Nat}(L:List En):frz fz h (n+1) (jl L)=jl L:=rfl
theorem qqj{fz:Nat→Bool}{h:List AObj}{n:Nat}(L:List En):rei fz h (n+1) (jl L)=jl L:=rfl
attribute [go_sem] qly qjd qpw qqm qlu qi9 qpt qqj
theorem qxQ(ws:List Str)(m:Nat)(k:Nat→Str)(h:List AObj)(h1:ws.length≤1000000000)(h2:m≤1000000000):
  ACalls Tryz.prog 53 [strs ws,.sl m (fun j=> [.str (k j)])] h (.bool (decide (ws.length=m∧ ∀i,i<ws.length→ws.getD i []=k i))) h:=by
 unfold strs
 have:=qCW qBv ws.length m (fun j=> .s (ws.getD j [])) (fun j=> .s (k j)) h (fun _ _ _=>rfl) (by omega) (by omega)
 simpa only[At.v,At.s.injEq] using this
theorem quW(ws:List Str)(m:Nat)(k:Nat→Str)(h:List AObj)(h1:ws.length≤1000000000)(h2:m≤1000000000):
  ACalls Tryz.prog 139 [strs ws,.sl m (fun j=> [.str (k j)])] h (.bool (decide (ws.length=m∧ ∀i,i<ws.length→ws.getD i []=k i))) h:=by
 have c22:=fun h=>qxQ ws m k h h1 h2
 refine acO qx4 ?_;simp (disch:=omega) only[qwz,go_sem]
 repeat' first
  |(refine cA (c22 _) flk ?_;simp (disch:=omega) only[go_sem])
  |(apply qd;exact rvk;simp only[go_sem];exact qj)
theorem jd{α:Type}[Inhabited α]{a b:List α}(d:α):a=b↔a.length=b.length∧ ∀i,i<a.length→a.getD i d=b.getD i d:=by
 constructor
 ·rintro rfl;exact⟨rfl,fun _ _=>rfl⟩
 ·rintro⟨h1,h2⟩;apply List.ext_getElem h1;intro i h3 h4
  have:=h2 i h3
  rw[gdqA,gdqA,qY h3,qY h4]at this;exact this
def qa7(t:List Str)(f g:Nat):List Str:=(t.drop f).take (g-f)
theorem qet{t:List Str}{f g:Nat}(h1:f≤g)(h2:g≤t.length):(qa7 t f g).length=g-f:=by unfold qa7;simp;omega
theorem qhG{t:List Str}{f g i:Nat}(h1:f≤g)(h2:g≤t.length)(hi:i<g-f):(qa7 t f g).getD i []=t.getD (f+i) []:=by
 unfold qa7;rw[gdqA,List.getElem?_take,ipo hi,List.getElem?_drop,←gdqA]
theorem qqv{ws t:List Str}{f g:Nat}(h1:f≤g)(h2:g≤t.length):decide (ws.length=g-f∧ ∀i,i<ws.length→ws.getD i []=t.getD (f+i) [])=decide (ws=qa7 t f g):=by
 refine decide_eq_decide.2 ?_;rw[jd (b:=qa7 t f g) ([]:Str),qet h1 h2];constructor
 ·rintro⟨p,q⟩;exact⟨p,fun i hi=>by rw[q i hi,qhG h1 h2 (by omega)]⟩
 ·rintro⟨p,q⟩;exact⟨p,fun i hi=>by rw[q i hi,qhG h1 h2 (by omega)]⟩
theorem qDs(x:Va)(y:List Str)(c:AV)(h:List AObj)(h1:y.length≤1000000000)(h2:x.words.length≤1000000000):ACalls Tryz.prog 140 [.agg (vaC x),.ip [strs y,c]] h (.bool (decide (y=x.words))) h:=by
 have c117:=fun h=>quW y x.words.length (fun j=>x.words.getD j []) h h1 h2
 have e:decide (y.length=x.words.length∧ ∀i,i<y.length→y.getD i []=x.words.getD i [])=decide (y=x.words):=decide_eq_decide.2 (jd ([]:Str)).symm;rw[e]at c117;have e2:AV.sl x.words.length (fun j=> [AV.str (x.words.getD j [])])=strs x.words:=rfl;rw[e2]at c117;refine acO qx5 ?_;simp (disch:=omega) only[qwA,vaC,go_sem]
 repeat' first
  |(refine cA (c117 _) flk ?_;simp (disch:=omega) only[go_sem])
  |(apply qb;exact rvk;simp only[go_sem];exact qj)
theorem qDo(n:Nat)(vs:List Va)(y:List Str)(k v:Nat)(c:AV)(h:List AObj)(hk:getO k h=some (.mem v 85 [strs y,c]))(hn:n≤vs.length)(hl:vs.length≤1000000000)(h1:y.length≤1000000000)(h2: ∀i,(vs.getD i default).words.length≤1000000000):
  ACalls Tryz.prog 56 [.sl n (fun j=>vaC (vs.getD j default)),.fn (.func 140) [] [.op k v 0]] h (.bool (qZ (fun j=>decide (y=(vs.getD j default).words)) n)) h:=by
 have hc:=qU hk;refine qib qBx ⟨rfl,rfl⟩ ⟨rfl,rfl⟩ (qaO qx1 n (fun j=>vaC (vs.getD j default)) (fun j=> .agg (vaC (vs.getD j default))) _ [] [.op k v 0] _ h (fun i _=>⟨rfl,by simp[zZ,vaC],rfl,rfl,rfl⟩) (fun i _=> ?_) (by omega));refine ACalls.borrow ?_ rfl;have e:([AV.agg (vaC (vs.getD i default))]++ [AV.op k v 0]).map (rei (fun _=>true) h 8)= [.agg (vaC (vs.getD i default)),.ip [strs y,rei (fun _=>true) h 7 c]]:=by
  simp only[List.cons_append,List.nil_append,List.map_cons,List.map_nil,rei_op,if_true,hc,ipOf_some,List.drop_zero,rei_agg];rfl
 rw[List.nil_append,e];exact qDs _ y _ _ h1 (h2 i)
def qfD(t:List Str)(e:En)(i:Nat):Int:=
 if jf (e.vars.getD i default).words≠0 then 11 else if (e.vars.getD i default).words=qa7 t e.frm.toNat e.to.toNat then 9 else
  if qZ (fun j=>decide ((e.vars.getD i default).words=(e.vars.getD j default).words)) i=true then 7 else if (e.vars.getD i default).sigla.length=0 then 5 else 0
def cnt(names:List Str)(gs:List Gr)(e:En):Nat→List Int
 |0=>qbG (List.replicate 32 0) (zN names gs e.sup)
 |i+1=>qbG (cnt names gs e i) (zN names gs (e.vars.getD i default).sigla)
def qji(C:List Int):Bool:=qZ (fun i=>decide (1<C.getD i 0)) C.length
def qqs(t:List Str)(e:En):Prop:=e.layer<0∨16≤e.layer∨e.frm<0∨e.to<e.frm∨(t.length:Int)<e.to
instance (t:List Str) (e:En):Decidable (qqs t e):=by unfold qqs;infer_instance
def qh7(names:List Str)(gs:List Gr)(t:List Str)(e:En):Int:=
 if sgE names gs≠0 then 1 else if 4096<t.length then 4 else if jf t≠0 then 11 else if qqs t e then 2 else
  if 0<e.sup.length∧e.pos=false then 1 else if e.vars.length=0 then 5 else
   if qa9 (qfD t e) 0 e.vars.length≠0 then qa9 (qfD t e) 0 e.vars.length else
    if kQ names gs e.sup≠0 then kQ names gs e.sup else
     if qa9 (fun i=>kQ names gs (e.vars.getD i default).sigla) 0 e.vars.length≠0 then qa9 (fun i=>kQ names gs (e.vars.getD i default).sigla) 0 e.vars.length else
      if qji (cnt names gs e e.vars.length)=true then 17 else 0
structure TSz (t:List Str):Prop where
 n:t.length≤1000000000
 s: ∀j,(t.getD j []).length≤1000000000
structure ESz (e:En):Prop where
 sup:e.sup.length≤1000000000
 vs:e.vars.length≤1000000000
 w: ∀i,TSz (e.vars.getD i default).words
 sg: ∀i,(e.vars.getD i default).sigla.length≤1000000000
theorem qd1(names:List Str)(gs:List Gr)(e:En): ∀i,(cnt names gs e i).length=32:=by
 intro i
 induction i with
 |zero=>unfold cnt;rw[qcq];simp
 |succ i ih=>unfold cnt;rw[qcq,ih]
theorem qk5(names:List Str)(gs:List Gr)(e:En): ∀i j:Nat,0≤(cnt names gs e i).getD j 0∧(cnt names gs e i).getD j 0≤64*((i:Int)+1):=by
 intro i
 induction i with
 |zero=>
  intro j;unfold cnt
  have:=qdY (C:=List.replicate 32 0) (L:=zN names gs e.sup) (B:=0) (fun i=>by
   rw[gdqA,List.getElem?_replicate]
   split<;>simp) _ (nlr _) j
  rw[List.take_length]at this;have h2:= @qd7 names gs e.sup;omega
 |succ i ih=>
  intro j;unfold cnt
  have:=qdY (C:=cnt names gs e i) (L:=zN names gs (e.vars.getD i default).sigla) (B:=64*((i:Int)+1)) ih _ (nlr _) j
  rw[List.take_length]at this;have h2:= @qd7 names gs (e.vars.getD i default).sigla;omega
theorem _root_.AF.Wk.kill3{t:List AV}{h l:List AObj}{a b c:AObj}{v:Nat}{ty:TypeId}{cs:List AV}:Wk t (h++a::b::c:: .mem v ty cs::l) t (h++a::b::c:: .emp (v+1)::l):=by
 have:=Wk.kill0 (t:=t) (h:=h++ [a,b,c]) (l:=l) (v:=v) (ty:=ty) (cs:=cs)
 simpa using this
theorem qDr(names:List Str)(gs:List Gr)(t:List Str)(e:En)(h:List AObj)(hz:Szs names gs)(ht:TSz t)(he:ESz e)(hp:qai SG h):
  ACalls Tryz.prog 65 [strs names,qL gs,strs t,.agg (enC e)] h (.int .i64 (qh7 names gs t e)) h:=by
 have c59:=fun h=>sgP names gs h hz
 have cw:=fun l=>qDb t (h++l) ht.n ht.s (hp.app l)
 have t1:=ht.n;obtain⟨R,hR⟩: ∃R,R=qh7 names gs t e:=⟨_,rfl⟩
 rw[←hR];unfold qh7 at hR;obtain⟨s,hs⟩: ∃s,s=sgE names gs:=⟨_,rfl⟩
 rw[←hs]at c59 hR;obtain⟨w,hw⟩: ∃w,w=jf t:=⟨_,rfl⟩
 rw[←hw]at cw hR
 by_cases g0:s≠0
 ·have k0:(s=0)=False:=eqf g0;rw[ipo g0]at hR;rw[hR];refine acO qcl ?_;simp (disch:=omega) only[qhZ,enC,go_sem]
  repeat' first
   |(refine cA (c59 _) flk ?_;simp (disch:=omega) only[k0,go_sem])
   |(apply qb;exact rvk;simp only[go_sem];exact qj)
 have g0:s=0:=Classical.not_not.1 g0;have k0:(s=0)=True:=eqt g0;rw[ine (fun hc=>hc g0)]at hR
 by_cases g1:4096<t.length
 ·have k1:((4096:Int)<t.length)=True:=eqt (by omega);rw[ipo g1]at hR;rw[hR];refine acO qcl ?_;simp (disch:=omega) only[qhZ,enC,strs,go_sem];unfold strs at c59
  repeat' first
   |(refine cA (c59 _) flk ?_;simp (disch:=omega) only[k0,k1,go_sem])
   |(apply qb;exact rvk;simp only[go_sem];exact qj)
 have k1:((4096:Int)<t.length)=False:=eqf (by omega);rw[ine g1]at hR;unfold strs at c59 cw
 by_cases g2:w≠0
 ·have k2:(w=0)=False:=eqf g2;rw[ipo g2]at hR;rw[hR];refine acO qcl ?_;simp (disch:=omega) only[qhZ,enC,strs,go_sem]
  repeat' first
   |((first|refine cA (c59 _) ?_ ?_|refine cA (cw _) ?_ ?_);exact flk;simp (disch:=omega) only[k0,k1,k2,go_sem])
   |(apply qb;exact rvk;simp only[go_sem];exact qj)
 have g2:w=0:=Classical.not_not.1 g2;have k2:(w=0)=True:=eqt g2;rw[ine (fun hc=>hc g2)]at hR
 by_cases g3:qqs t e
 ·rw[ipo g3]at hR;rw[hR]
  by_cases a1:e.layer<0
  ·have q1:(e.layer<0)=True:=eqt a1;refine acO qcl ?_;simp (disch:=omega) only[qhZ,enC,strs,go_sem]
   repeat' first
    |((first|refine cA (c59 _) ?_ ?_|refine cA (cw _) ?_ ?_);exact flk;simp (disch:=omega) only[k0,k1,k2,q1,go_sem])
    |(apply qb;exact rvk;simp only[go_sem];exact qj)
  have q1:(e.layer<0)=False:=eqf a1
  by_cases a2:16≤e.layer
  ·have q2:(16≤e.layer)=True:=eqt a2;refine acO qcl ?_;simp (disch:=omega) only[qhZ,enC,strs,go_sem]
   repeat' first
    |((first|refine cA (c59 _) ?_ ?_|refine cA (cw _) ?_ ?_);exact flk;simp (disch:=omega) only[k0,k1,k2,q1,q2,go_sem])
    |(apply qb;exact rvk;simp only[go_sem];exact qj)
  have q2:(16≤e.layer)=False:=eqf a2
  by_cases a3:e.frm<0
  ·have q3:(e.frm<0)=True:=eqt a3;refine acO qcl ?_;simp (disch:=omega) only[qhZ,enC,strs,go_sem]
   repeat' first
    |((first|refine cA (c59 _) ?_ ?_|refine cA (cw _) ?_ ?_);exact flk;simp (disch:=omega) only[k0,k1,k2,q1,q2,q3,go_sem])
    |(apply qb;exact rvk;simp only[go_sem];exact qj)
  have q3:(e.frm<0)=False:=eqf a3
  by_cases a4:e.to<e.frm
  ·have q4:(e.to<e.frm)=True:=eqt a4;refine acO qcl ?_;simp (disch:=omega) only[qhZ,enC,strs,go_sem]
   repeat' first
    |((first|refine cA (c59 _) ?_ ?_|refine cA (cw _) ?_ ?_);exact flk;simp (disch:=omega) only[k0,k1,k2,q1,q2,q3,q4,go_sem])
    |(apply qb;exact rvk;simp only[go_sem];exact qj)
  have q4:(e.to<e.frm)=False:=eqf a4;have q5:((t.length:Int)<e.to)=True:=eqt (by unfold qqs at g3;omega);refine acO qcl ?_;simp (disch:=omega) only[qhZ,enC,strs,go_sem]
  repeat' first
   |((first|refine cA (c59 _) ?_ ?_|refine cA (cw _) ?_ ?_);exact flk;simp (disch:=omega) only[k0,k1,k2,q1,q2,q3,q4,q5,go_sem])
   |(apply qb;exact rvk;simp only[go_sem];exact qj)
 rw[ine g3]at hR;unfold qqs at g3;have q1:(e.layer<0)=False:=eqf (by omega);have q2:(16≤e.layer)=False:=eqf (by omega);have q3:(e.frm<0)=False:=eqf (by omega);have q4:(e.to<e.frm)=False:=eqf (by omega);have q5:((t.length:Int)<e.to)=False:=eqf (by omega)
 by_cases g4:0<e.sup.length∧e.pos=false
 ·have q6:((0:Int)<e.sup.length)=True:=eqt (by omega);have q7:=g4.2;rw[ipo g4]at hR;rw[hR];refine acO qcl ?_;simp (disch:=omega) only[qhZ,enC,strs,q7,go_sem]
  repeat' first
   |((first|refine cA (c59 _) ?_ ?_|refine cA (cw _) ?_ ?_);exact flk;simp (disch:=omega) only[k0,k1,k2,q1,q2,q3,q4,q5,q6,go_sem])
   |(apply qb;exact rvk;simp only[go_sem];exact qj)
 rw[ine g4]at hR
 by_cases g5:e.vars.length=0
 ·have q8:((e.vars.length:Int)=0)=True:=eqt (by omega);rw[ipo g5]at hR;rw[hR]
  by_cases g6:0<e.sup.length
  ·have q6:((0:Int)<e.sup.length)=True:=eqt (by omega);have q7:e.pos=true:=by
    cases hq:e.pos with
    |true=>rfl
    |false=>exact absurd ⟨g6,hq⟩ g4
   refine acO qcl ?_;simp (disch:=omega) only[qhZ,enC,strs,zM,q7,go_sem]
   repeat' first
    |((first|refine cA (c59 _) ?_ ?_|refine cA (cw _) ?_ ?_);exact flk;simp (disch:=omega) only[k0,k1,k2,q1,q2,q3,q4,q5,q6,q8,go_sem])
    |(apply qb;exact rvk;simp only[go_sem];exact qj)
    |with_reducible apply aiA
   all_goals try exact clz
  ·have q6:((0:Int)<e.sup.length)=False:=eqf (by omega);refine acO qcl ?_;simp (disch:=omega) only[qhZ,enC,strs,zM,go_sem]
   repeat' first
    |((first|refine cA (c59 _) ?_ ?_|refine cA (cw _) ?_ ?_);exact flk;simp (disch:=omega) only[k0,k1,k2,q1,q2,q3,q4,q5,q6,q8,go_sem])
    |(apply qb;exact rvk;simp only[go_sem];first|exact qj|apply qg)
    |with_reducible first|intro _|apply aiA
   all_goals try exact clz
 have q8:((e.vars.length:Int)=0)=False:=eqf (by omega);rw[ine g5]at hR;obtain⟨C0,hC0⟩: ∃C0:List AV,C0= [.int .i64 e.layer,.int .i64 e.frm,.int .i64 e.to,.bool e.pos,strs e.sup,zM e.vars]:=⟨_,rfl⟩
 obtain⟨fr,hfr⟩: ∃fr:Nat,e.frm=fr:=⟨e.frm.toNat,by omega⟩
 obtain⟨tt,htt⟩: ∃tt:Nat,e.to=tt:=⟨e.to.toNat,by omega⟩
 obtain⟨E1,hE1⟩: ∃E1:AObj,E1= .mem 1 58 [.int .i64 e.layer,.int .i64 e.frm,.int .i64 e.to,.bool e.pos,strs e.sup,zM e.vars]:=⟨_,rfl⟩
 refine acO qcl ?_;simp (disch:=omega) only[qhZ,enC,strs,zM,go_sem]
 repeat' first
  |((first|refine cA (c59 _) ?_ ?_|refine cA (cw _) ?_ ?_);exact flk;simp (disch:=omega) only[k0,k1,k2,q1,q2,q3,q4,q5,q8,go_sem])
  |(apply qb;exact rvk;simp only[go_sem];apply qg)
  |with_reducible first|intro _|apply aiA
 all_goals try exact clz
 ·rename_i hx;exact absurd ⟨by omega,hx.2⟩ g4
 refine qp (T:=fun i:Nat×Nat=>qQ 134 [(0,strs names),(1,qL gs),(2,strs t),(7,.op h.length 1 0),(73,zM e.vars),(74,.int .i64 e.vars.length),(75,.int .i64 i.1)])
  (H:=fun i=>h++ [.mem 1 58 [.int .i64 e.layer,.int .i64 e.frm,.int .i64 e.to,.bool e.pos,strs e.sup,zM e.vars],.emp i.2,.emp 0,.emp 0])
  (inv:=fun i=>i.1≤e.vars.length∧ ∀j,j<i.1→qfD t e j=0) (m:=fun i=>e.vars.length-i.1) (0,0) ⟨nzl _,fun j hj=>absurd hj (nnz j)⟩ (Wk.temps ?_) ?_
 ·(simp only[strs,zM,go_sem,qi,qe,qa,qh];try (repeat' first|(with_reducible apply aiA)|(apply qg;omega)|(apply qf;rfl)|exact qj))
 rintro⟨i,v⟩ ⟨i1,i2⟩ K hK;simp only at i1 i2 hK;have z2:=he.vs
 by_cases hi:i<e.vars.length
 ·have r1:((i:Int)<e.vars.length)=True:=eqt (by omega);have r2:((i:Int)≤e.vars.length)=True:=eqt (by omega);have r3:(0≤(fr:Int))=True:=eqt (by omega);have r4:((fr:Int)≤tt)=True:=eqt (by omega);have r5:((tt:Int)≤t.length)=True:=eqt (by omega);have hE:=zC (f:=qfD t e) hi i2;have hv:qfD t e i=if jf (e.vars.getD i default).words≠0 then 11 else if (e.vars.getD i default).words=qa7 t e.frm.toNat e.to.toNat then 9 else
   if qZ (fun j=>decide ((e.vars.getD i default).words=(e.vars.getD j default).words)) i=true then 7 else if (e.vars.getD i default).sigla.length=0 then 5 else 0:=rfl
  have zw:=he.w i;have zs:=he.sg i;have zv:=fun j=>(he.w j).n
  obtain⟨x,hx⟩: ∃x,x=e.vars.getD i default:=⟨_,rfl⟩
  have ex:=hx.symm;simp only[ex]at hv zw zs;rw[hfr,htt,Int.toNat_natCast,Int.toNat_natCast]at hv;have zn:=zw.n;have c116:=fun l=>qDb x.words (h++l) zw.n zw.s (hp.app l)
  have c117:=fun h=>quW x.words (tt-fr) (fun j=>t.getD (fr+j) []) h zw.n (by omega)
  rw[qqv (by omega) (by omega)]at c117;have c118:=qDo i e.vars x.words (h.length+1) (v+1) (strs x.sigla) (h++ [.mem 1 58 [.int .i64 e.layer,.int .i64 e.frm,.int .i64 e.to,.bool e.pos,strs e.sup,zM e.vars],.mem (v+1) 85 [strs x.words,strs x.sigla],.emp 0,.emp 0]) (by rw[getO_app];rfl) (by omega) z2 zw.n zv;obtain⟨u,hu⟩: ∃u,u=jf x.words:=⟨_,rfl⟩
  rw[←hu]at c116 hv;unfold strs zM at c118;unfold strs at c116 c117
  by_cases a1:u≠0
  ·have p1:(u=0)=False:=eqf a1;rw[ipo a1]at hv;have hE:=hE (by rw[hv];decide);rw[hE,hv,ipo (by decide)]at hR;rw[hR];simp (disch:=omega) only[strs,zM,vaC,r1,ex,go_sem]
   repeat' first
    |(refine cA (c116 _) flk ?_;simp (disch:=omega) only[p1,go_sem])
    |(apply qb;exact rvk;simp only[go_sem];exact qj)
    |with_reducible apply aiA
   all_goals try exact clz
  have a1:u=0:=Classical.not_not.1 a1;have p1:(u=0)=True:=eqt a1;rw[ine (fun hc=>hc a1)]at hv
  by_cases a2:x.words=qa7 t fr tt
  ·rw[dqt a2]at c117;rw[ipo a2]at hv;have hE:=hE (by rw[hv];decide);rw[hE,hv,ipo (by decide)]at hR;rw[hR];simp (disch:=omega) only[strs,zM,vaC,r1,ex,go_sem]
   repeat' first
    |((first|refine cA (c116 _) ?_ ?_|refine cA (c117 _) ?_ ?_);exact flk;simp (disch:=omega) only[r2,p1,hfr,htt,r3,r4,r5,go_sem])
    |(apply qb;exact rvk;simp only[go_sem];exact qj)
    |with_reducible apply aiA
   all_goals try exact clz
  rw[dqf a2]at c117;rw[ine a2]at hv;cases a3:qZ (fun j=>decide (x.words=(e.vars.getD j default).words)) i with
  |true=>
   rw[a3]at c118;rw[ipo a3]at hv;have hE:=hE (by rw[hv];decide);rw[hE,hv,ipo (by decide)]at hR;rw[hR];simp only[hfr,htt]at c118;simp (disch:=omega) only[strs,zM,vaC,r1,ex,hfr,htt,go_sem]
   repeat' first
    |((first|refine cA (c116 _) ?_ ?_|refine cA (c117 _) ?_ ?_|refine cA (c118) ?_ ?_);exact flk;simp (disch:=omega) only[r2,p1,r3,r4,r5,Nat.sub_zero,Nat.zero_add,go_sem])
    |(apply qb;exact rvk;simp only[go_sem];exact qj)
    |with_reducible apply aiA
   all_goals try exact clz
  |false=>
  rw[a3]at c118;rw[ine (by rw[a3];simp)]at hv;simp only[hfr,htt]at c118
  by_cases a4:x.sigla.length=0
  ·have p4:((x.sigla.length:Int)=0)=True:=eqt (by omega);rw[ipo a4]at hv;have hE:=hE (by rw[hv];decide);rw[hE,hv,ipo (by decide)]at hR;rw[hR];simp (disch:=omega) only[strs,zM,vaC,r1,ex,hfr,htt,go_sem]
   repeat' first
    |((first|refine cA (c116 _) ?_ ?_|refine cA (c117 _) ?_ ?_|refine cA (c118) ?_ ?_);exact flk;simp (disch:=omega) only[r2,p1,p4,r3,r4,r5,Nat.sub_zero,Nat.zero_add,go_sem])
    |(apply qb;exact rvk;simp only[go_sem];exact qj)
    |with_reducible apply aiA
   all_goals try exact clz
  ·have p4:((x.sigla.length:Int)=0)=False:=eqf (by omega);rw[ine a4]at hv;simp (disch:=omega) only[strs,zM,vaC,r1,ex,hfr,htt,go_sem]
   repeat' first
    |((first|refine cA (c116 _) ?_ ?_|refine cA (c117 _) ?_ ?_|refine cA (c118) ?_ ?_);exact flk;simp (disch:=omega) only[r2,p1,p4,r3,r4,r5,Nat.sub_zero,Nat.zero_add,go_sem])
    |with_reducible apply aiA
   all_goals try exact clz
   simp only[hfr,htt]at hK;refine hK _ _ (i+1,v+1+1) ⟨hi,fun j hj=> ?_⟩ (by simp only;omega) (Wk.trans Wk.kill1 (Wk.temps ?_))
   ·by_cases e':j=i
    ·subst e';exact hv
    ·exact i2 j (by simp only at hj;omega)
   ·(simp only[strs,zM,go_sem,qi,qe,qa,qh];try (repeat' first|(with_reducible apply aiA)|(apply qg;omega)|(apply qf;rfl)|exact qj))
 have r1:((i:Int)<e.vars.length)=False:=eqf (by omega);rw[ine (fun hc=>hc (qI (f:=qfD t e) (fun j hj=>i2 j (by omega))))]at hR;simp (disch:=omega) only[strs,zM,r1,go_sem];refine cE (qBf names gs e.sup (List.replicate 32 0) (h.length+2) 1 174 _ hz he.sup (by rw[getO_app];rfl) (by simp) 0 (by decide) (fun i=>by
  rw[gdqA,List.getElem?_replicate]
  split<;>simp)) (by exact flk) ?_
 have c0:qbG (List.replicate 32 0) (zN names gs e.sup)=cnt names gs e 0:=rfl;rw[c0];obtain⟨y,hy⟩: ∃y,y=kQ names gs e.sup:=⟨_,rfl⟩
 rw[←hy]at hR ⊢
 by_cases b1:y≠0
 ·have p1:(y=0)=False:=eqf b1;rw[ipo b1]at hR;rw[hR];simp (disch:=omega) only[strs,zM,p1,go_sem]
  repeat' first
   |(apply qb;exact rvk;simp only[go_sem];exact qj)
 have b1:y=0:=Classical.not_not.1 b1;have p1:(y=0)=True:=eqt b1;rw[ine (fun hc=>hc b1)]at hR;simp (disch:=omega) only[strs,zM,p1,go_sem]
 repeat' first
  |with_reducible apply aiA
 all_goals try exact clz
 refine qp (T:=fun i:Nat×Nat=>qQ 134 [(0,strs names),(1,qL gs),(11,.op (h.length+2) 1 0),(117,zM e.vars),(118,.int .i64 e.vars.length),(119,.int .i64 i.1)])
  (H:=fun i=>h++ [.mem 1 58 [.int .i64 e.layer,.int .i64 e.frm,.int .i64 e.to,.bool e.pos,strs e.sup,zM e.vars],.emp v,.mem 1 174 (qx (cnt names gs e i.1)),.emp i.2])
  (inv:=fun i=>i.1≤e.vars.length∧ ∀j,j<i.1→kQ names gs (e.vars.getD j default).sigla=0) (m:=fun i=>e.vars.length-i.1) (0,0) ⟨nzl _,fun j hj=>absurd hj (nnz j)⟩ (Wk.temps ?_) ?_
 ·(simp only[strs,zM,go_sem,qi,qe,qa,qh];try (repeat' first|(with_reducible apply aiA)|(apply qg;omega)|(apply qf;rfl)|exact qj))
 clear hK;rintro⟨n,w'⟩ ⟨n1,n2⟩ K hK;simp only at n1 n2 hK
 by_cases hn:n<e.vars.length
 ·have r2:((n:Int)<e.vars.length)=True:=eqt (by omega);have hE:=zC (f:=fun i=>kQ names gs (e.vars.getD i default).sigla) hn n2;have zs:=he.sg n;have hcs:cnt names gs e (n+1)=qbG (cnt names gs e n) (zN names gs (e.vars.getD n default).sigla):=rfl;have hbn:=qk5 names gs e n;have hln:=qd1 names gs e n;obtain⟨D,hD⟩: ∃D,D=cnt names gs e n:=⟨_,rfl⟩
  have eD:=hD.symm;rw[eD]at hcs hbn hln;obtain⟨x,hx⟩: ∃x,x=e.vars.getD n default:=⟨_,rfl⟩
  have ex:=hx.symm;simp only[ex]at hE hcs zs;simp (disch:=omega) only[strs,zM,vaC,r2,ex,eD,go_sem]
  repeat' first
   |with_reducible apply aiA
  all_goals try exact clz
  refine cE (qBf names gs x.sigla D (h.length+2) 1 174 _ hz zs (by rw[getO_app];rfl) hln (64*((n:Int)+1)) (by omega) hbn) (by exact flk) ?_;rw[←hcs];obtain⟨q,hq⟩: ∃q,q=kQ names gs x.sigla:=⟨_,rfl⟩
  rw[←hq]at hE ⊢
  by_cases b2:q≠0
  ·have p2:(q=0)=False:=eqf b2;rw[hE b2,ipo b2]at hR;rw[hR];simp (disch:=omega) only[strs,zM,p2,go_sem]
   repeat' first
    |(apply qb;exact rvk;simp only[go_sem];exact qj)
  ·have b2:q=0:=Classical.not_not.1 b2;have p2:(q=0)=True:=eqt b2;simp (disch:=omega) only[strs,zM,p2,go_sem];refine hK _ _ (n+1,w'+1+1) ⟨hn,fun j hj=> ?_⟩ (by simp only;omega) (Wk.trans (Wk.kill3 ) (Wk.temps ?_))
   ·by_cases e':j=n
    ·subst e';rw[ex,←hq,b2]
    ·exact n2 j (by simp only at hj;omega)
   ·(simp only[strs,zM,go_sem,qi,qe,qa,qh];try (repeat' first|(with_reducible apply aiA)|(apply qg;omega)|(apply qf;rfl)|exact qj))
 ·have r2:((n:Int)<e.vars.length)=False:=eqf (by omega);have e':n=e.vars.length:=by omega
  subst e';rw[ine (fun hc=>hc (qI (f:=fun i=>kQ names gs (e.vars.getD i default).sigla) (fun j hj=>n2 j hj)))]at hR;have hln:=qd1 names gs e e.vars.length;unfold qji at hR;rw[hln]at hR;have c94:=fun h=>twP (cnt names gs e e.vars.length) h hln
  rw[hln]at c94;obtain⟨D,hD⟩: ∃D,D=cnt names gs e e.vars.length:=⟨_,rfl⟩
  have eD:=hD.symm;simp only[eD]at hR hln c94;have fT:List.take 32 (qx D)=List.map (fun n=>AV.int .i64 n) D:=ltl (by rw[qT];omega);have fL:=qT D;rw[hln]at fL;cases b3:qZ (fun i=>decide (1<D.getD i 0)) 32 with
  |true=>
   rw[b3]at c94 hR;rw[ipo rfl]at hR;rw[hR];simp (disch:=omega) only[strs,zM,r2,eD,fT,fL,go_sem]
   repeat' first
    |(refine cA (c94 _) flk ?_;simp (disch:=omega) only[go_sem])
    |(apply qb;exact rvk;simp only[go_sem];exact qj)
  |false=>
   rw[b3]at c94 hR;rw[ine (by simp)]at hR;rw[hR];simp (disch:=omega) only[strs,zM,r2,eD,fT,fL,go_sem]
   repeat' first
    |(refine cA (c94 _) flk ?_;simp (disch:=omega) only[go_sem])
    |(apply qb;exact rvk;simp only[go_sem];exact qj)
theorem qdH{p q:Nat→Bool}{n:Nat}(h: ∀k,k<n→p k=q k):zD p n=zD q n:=by
 unfold zD;congr 1;refine List.filter_congr fun k hk=>h k (List.mem_range.1 hk)
theorem jj{p:Nat→Bool}{n:Nat}{x:Int}:x∈zD p n↔ ∃k:Nat,k<n∧p k=true∧x=k:=by
 unfold zD;constructor
 ·intro h;obtain⟨k,hk,rfl⟩:=List.mem_map.1 h;obtain⟨h1,h2⟩:=List.mem_filter.1 hk;exact⟨k,List.mem_range.1 h1,h2,rfl⟩
 ·rintro⟨k,h1,h2,rfl⟩;exact List.mem_map.2 ⟨k,List.mem_filter.2 ⟨List.mem_range.2 h1,h2⟩,rfl⟩
theorem qhl{p:Nat→Bool}{n:Nat}(hn:n≤64):qdn 64 (zD p n)=0:=by
 unfold qdn;refine qI fun i hi=> ?_
 have hpw:(zD p n).Pairwise (· < ·):=by
  unfold zD;rw[List.pairwise_map];refine List.Pairwise.imp ?_ (List.Pairwise.filter _ List.pairwise_lt_range);intro a b hab;show (a:Int)<(b:Int);omega
 have g: ∀j (hj:j<(zD p n).length),(zD p n).getD j 0=(zD p n)[j]:=fun j hj=>by rw[gdqA,qY hj];rfl
 unfold qen;obtain⟨k,h1,h2,h3⟩:=jj.1 (List.getElem_mem hi);rw[g i hi,ine (by rw[h3];omega)];split
 ·rename_i hc;obtain⟨h4,h5⟩:=hc;rw[g (i-1) (by omega)]at h5
  have:=List.pairwise_iff_getElem.1 hpw (i-1) i (by omega) hi (by omega)
  omega
 ·rfl
theorem smw(ws:List Str)(m:Nat)(k:Nat→Str)(h:List AObj)(h1:ws.length≤1000000000)(h2:m≤1000000000):
  ACalls Tryz.prog 103 [strs ws,.sl m (fun j=> [.str (k j)])] h (.bool (decide (ws.length=m∧ ∀i,i<ws.length→ws.getD i []=k i))) h:=by
 obtain⟨R,hR⟩: ∃R,R=decide (ws.length=m∧ ∀i,i<ws.length→ws.getD i []=k i):=⟨_,rfl⟩
 rw[←hR]
 by_cases g:ws.length=m
 ·have k0:((ws.length:Int)=m)=True:=eqt (by omega);refine acO qrp ?_;simp (disch:=omega) only[qsA,strs,k0,go_sem];refine qp (T:=fun i:Nat=>qQ 26 [(0,strs ws),(1,.sl m (fun j=> [.str (k j)])),(5,.int .i64 i)]) (H:=fun _=>h) (inv:=fun i=>i≤ws.length∧ ∀j,j<i→ws.getD j []=k j) (m:=fun i=>ws.length-i) 0 ⟨nzl _,fun j hj=>by omega⟩ (Wk.temps ?_) ?_
  ·(simp only[strs,go_sem,qi,qe,qa,qh];try (repeat' first|(with_reducible apply aiA)|(apply qg;omega)|(apply qf;rfl)|exact qj))
  rintro i ⟨i1,i2⟩ K hK
  by_cases hi:i<ws.length
  ·have k1:((i:Int)<ws.length)=True:=eqt (by omega);have k3:((i:Int)<m)=True:=eqt (by omega);obtain⟨x,hx⟩: ∃x,x=ws.getD i []:=⟨_,rfl⟩
   have ex:=hx.symm
   by_cases e:x=k i
   ·have k2:(x=k i)=True:=eqt e;simp (disch:=omega) only[strs,k1,k2,k3,ex,go_sem]
    repeat' first
     |with_reducible apply aiA
    all_goals try exact clz
    refine hK _ _ (i+1) ⟨hi,fun j hj=> ?_⟩ (by omega) (Wk.temps ?_)
    ·by_cases e':j=i
     ·subst e';rw[ex];exact e
     ·exact i2 j (by omega)
    ·(simp only[strs,go_sem,qi,qe,qa,qh];try (repeat' first|(with_reducible apply aiA)|(apply qg;omega)|(apply qf;rfl)|exact qj))
   ·have k2:(x=k i)=False:=eqf e;have hV:R=false:=by rw[hR];exact dqf fun hc=>e (by rw[←ex];exact hc.2 i hi)
    rw[hV];simp (disch:=omega) only[strs,k1,k2,k3,ex,go_sem]
    repeat' first
     |(apply qd;exact rvk;simp only[go_sem];exact qj)
     |with_reducible apply aiA
    all_goals try exact clz
  ·have k1:((i:Int)<ws.length)=False:=eqf (by omega);have hV:R=true:=by rw[hR];exact dqt ⟨g,fun j hj=>i2 j (by omega)⟩
   rw[hV];simp (disch:=omega) only[strs,k1,go_sem]
   repeat' first
    |(apply qd;exact rvk;simp only[go_sem];exact qj)
 ·have k0:((ws.length:Int)=m)=False:=eqf (by omega);have hV:R=false:=by rw[hR];exact dqf fun hc=>g hc.1
  rw[hV];refine acO qrp ?_;simp (disch:=omega) only[qsA,strs,k0,go_sem]
  repeat' first
   |(apply qd;exact rvk;simp only[go_sem];exact qj)
theorem qCb(a b:List Str)(h:List AObj)(h1:a.length≤1000000000)(h2:b.length≤1000000000):
  ACalls Tryz.prog 103 [strs a,strs b] h (.bool (decide (a=b))) h:=by
 have c:=smw a b.length (fun j=>b.getD j []) h h1 h2;have e:decide (a.length=b.length∧ ∀i,i<a.length→a.getD i []=b.getD i [])=decide (a=b):=decide_eq_decide.2 (jd ([]:Str)).symm;rw[e]at c;exact c
def qba(names:List Str)(gs:List Gr)(e:En):Nat→List Int×Bool
 |0=>(zN names gs e.sup,false)
 |i+1=>(zD (fun k=>decide ((k:Int)∈(qba names gs e i).1)||decide ((k:Int)∈zN names gs (e.vars.getD i default).sigla)) 64,(qba names gs e i).2||(qba names gs e i).1.any fun x=>decide (x∈zN names gs (e.vars.getD i default).sigla))
theorem qaa(names:List Str)(gs:List Gr)(e:En)(i:Nat):qba names gs e (i+1)=(zD (fun k=>decide ((k:Int)∈(qba names gs e i).1)||decide ((k:Int)∈zN names gs (e.vars.getD i default).sigla)) 64,(qba names gs e i).2||(qba names gs e i).1.any fun x=>decide (x∈zN names gs (e.vars.getD i default).sigla)):=rfl
theorem qg5(names:List Str)(gs:List Gr)(sg:List Str):qdn 64 (zN names gs sg)=0∧(zN names gs sg).length≤64:=by
 unfold zN;split
 ·exact⟨qhl (by omega),zk _ _⟩
 ·exact⟨rfl,nzl _⟩
theorem qsm(names:List Str)(gs:List Gr)(e:En)(i:Nat):qdn 64 (qba names gs e i).1=0∧(qba names gs e i).1.length≤64:=by
 cases i with
 |zero=>exact qg5 _ _ _
 |succ i=>rw[qaa];exact⟨qhl (by omega),zk _ _⟩
theorem qoz(L:List Int): ∀(C:List Int) (j:Nat),L.Nodup→(∀x∈L,0≤x∧x<C.length)→j<C.length→(qbG C L).getD j 0=C.getD j 0+if (j:Int)∈L then 1 else 0:=by
 induction L with
 |nil=>intro C j _ _ _;simp[qbG]
 |cons n L ih=>
  intro C j hn hL hj;obtain⟨h1,h2⟩:=List.nodup_cons.1 hn;have hb:=hL n (by simp);show (qbG (C.set n.toNat (C.getD n.toNat 0+1)) L).getD j 0=_;rw[ih _ j h2 (fun x hx=>by rw[List.length_set];exact hL x (by simp[hx])) (by rw[List.length_set];exact hj)]
  by_cases e:(j:Int)=n
  ·have e2:n.toNat=j:=by omega
   have e3: ¬(j:Int)∈L:=by rw[e];exact h1
   rw[ine e3,ipo (by rw[e];simp),e2]
   have:(C.set j (C.getD j 0+1)).getD j 0=C.getD j 0+1:=by
    rw[gdqA,List.getElem?_set_self hj];rfl
   rw[this];omega
  ·have e2: ¬n.toNat=j:=by omega
   have:(C.set n.toNat (C.getD n.toNat 0+1)).getD j 0=C.getD j 0:=by
    rw[gdqA,List.getElem?_set_ne e2,←gdqA]
   rw[this];congr 1;simp[e]
theorem qaJ(p:Nat→Bool)(n:Nat):(zD p n).Nodup:=by
 unfold zD;rw[List.Nodup,List.pairwise_map];refine List.Pairwise.imp ?_ (List.Pairwise.filter _ List.nodup_range);intro a b hab hc;exact hab (by have hx:(a:Int)=(b:Int):=hc;omega)
theorem qdE(names:List Str)(gs:List Gr)(sg:List Str):(zN names gs sg).Nodup:=by
 unfold zN;split
 ·exact qaJ _ _
 ·exact List.nodup_nil
structure qAN (A:List Int) (B:Bool) (C:List Int):Prop where
 len:C.length=32
 rng: ∀x∈A,0≤x∧x<32
 mem: ∀k:Nat,k<32→((k:Int)∈A↔1≤C.getD k 0)
 nn: ∀k:Nat,k<32→0≤C.getD k 0
 tw:B=true↔ ∃k:Nat,k<32∧1<C.getD k 0
theorem qhi{A O A' C:List Int}{B:Bool}(h:qAN A B C)(ho:O.Nodup)(hr: ∀x∈O,0≤x∧x<32)(hA: ∀x,x∈A'↔x∈A∨x∈O):qAN A' (B||A.any fun x=>decide (x∈O)) (qbG C O):=by
 have hl:=h.len;have hg:=fun (k:Nat) (hk:k<32)=>qoz O C k ho (fun x hx=>by have:=hr x hx;omega) (by omega)
 refine⟨by rw[qcq,hl],fun x hx=> ?_,fun k hk=> ?_,fun k hk=> ?_,?_⟩
 ·rcases (hA x).1 hx with hx|hx
  ·exact h.rng x hx
  ·exact hr x hx
 ·rw[hA,h.mem k hk,hg k hk]
  have:=h.nn k hk
  by_cases e:(k:Int)∈O
  ·rw[ipo e];exact⟨fun _=>by omega,fun _=> .inr e⟩
  ·rw[ine e];constructor
   ·rintro (h1|h1)
    ·omega
    ·exact absurd h1 e
   ·intro h1;exact .inl (by omega)
 ·rw[hg k hk]
  have:=h.nn k hk
  split<;>omega
 ·rw[Bool.or_eq_true,h.tw,List.any_eq_true];constructor
  ·rintro (⟨k,hk,h1⟩|⟨x,hx,h1⟩)
   ·refine⟨k,hk,?_⟩;rw[hg k hk];split<;>omega
   ·have h1:=of_decide_eq_true h1;have hx2:=h.rng x hx;have e:((x.toNat:Nat):Int)=x:=by omega
    refine⟨x.toNat,by omega,?_⟩;rw[hg _ (by omega),e,ipo h1]
    have:=(h.mem x.toNat (by omega)).1 (by rw[e];exact hx)
    omega
  ·rintro⟨k,hk,h1⟩;rw[hg k hk]at h1
   by_cases e:(k:Int)∈O
   ·rw[ipo e]at h1;exact .inr ⟨(k:Int),(h.mem k hk).2 (by omega),dqt e⟩
   ·rw[ine e]at h1;exact .inl ⟨k,hk,by omega⟩
theorem qub:qAN [] false (List.replicate 32 0):=by
 have g: ∀k:Nat,k<32→(List.replicate 32 (0:Int)).getD k 0=0:=fun k hk=>by
  rw[gdqA,List.getElem?_replicate,ipo hk];rfl
 refine⟨by simp,fun x hx=>by simp at hx,fun k hk=> ?_,fun k hk=> ?_,?_⟩
 ·rw[g k hk];simp
 ·rw[g k hk];omega
 ·constructor
  ·intro h;cases h
  ·rintro⟨k,hk,h1⟩;rw[g k hk]at h1;omega
theorem qfL(names:List Str)(gs:List Gr)(e:En): ∀i,qAN (qba names gs e i).1 (qba names gs e i).2 (cnt names gs e i):=by
 have hO:=fun sg=>jQ (@qg4 names gs sg)
 intro i
 induction i with
 |zero=>
  have:=qhi (A':=zN names gs e.sup) qub (qdE names gs e.sup) (hO e.sup) (fun x=>by simp)
  exact this
 |succ i ih=>
  rw[qaa];unfold cnt;refine qhi ih (qdE _ _ _) (hO _) (fun x=> ?_);rw[jj];constructor
  ·rintro⟨k,hk,h1,rfl⟩;simpa using h1
  ·intro hx;have hb:0≤x∧x<32:=by
    rcases hx with hx|hx
    ·exact ih.rng x hx
    ·exact hO _ x hx
   have e:((x.toNat:Nat):Int)=x:=by omega
   refine⟨x.toNat,by omega,?_,e.symm⟩;simp only[e];simpa using hx
theorem qbb(names:List Str)(gs:List Gr)(e:En)(i:Nat):qji (cnt names gs e i)=(qba names gs e i).2:=by
 have h:=qfL names gs e i;unfold qji;rw[h.len,Bool.eq_iff_iff,h.tw,qy];simp only[decide_eq_true_eq]
def inV(names:List Str)(gs:List Gr)(e:En)(src:Int)(i:Nat):Bool:=decide (src∈zN names gs (e.vars.getD i default).sigla)
def vIx(names:List Str)(gs:List Gr)(e:En)(src:Int):Int:=qam (inV names gs e src) e.vars.length 0
def qgR(a b:En):Bool:=decide (a.frm<b.frm)||decide (a.frm=b.frm)&&decide (a.to<b.to)
end RC
end
section
open Go Go.Proofs AF
def qlQ:List Nat:= [132,109,174,220,68]
def qCL:C:=
 ((C.ops [ON 2 (.nilo 0 6 58) []]).seq (((C.ops [MV 3 0,O1 4 (.isnil .slice false) 3]).seq (C.cond (.t 4) ((C.ops [ON 2 (.nilo 0 6 58) []]).seq C.ret) C.skip)).seq ((C.ops [⟨some
 5,none,.bslc 1 6 0 58 [i6 0,i6 0,i6 0,.bool false,.nl,.nl] [],[]⟩,MV 6 0,O2 7 (.app 2 6 58 80) 5 6,MV 2 7]).seq
 C.ret)))
theorem qBz:qE Tryz.prog 68 8 3 [RV.tmp 2] qCL:=fi Tryz.f68 [2,5,7] qlQ []
def qwL:C:=
 ((C.ops [MC 2 (.bool false)]).seq ((C.ops [MV 3 0,MV 4 0,BI 5 .neq 3 4,MV 2 5]).seq
 C.ret))
theorem qyj:qE Tryz.prog 195 6 0 [RV.tmp 2] qwL:=fi Tryz.f195 [] qlQ []
end
