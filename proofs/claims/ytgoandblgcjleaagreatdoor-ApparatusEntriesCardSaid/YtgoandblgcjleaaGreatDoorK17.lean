import Derived.Test.YtgoandblgcjleaaGreatDoorK13
import Derived.Test.YtgoandblgcjleaaGreatDoorK16
import Derived.Test.YtgoandblgcjleaaGreatDoorK14
import Derived.Test.YtgoandblgcjleaaGreatDoorK3
import Derived.Test.YtgoandblgcjleaaGreatDoorK5
import Derived.Test.YtgoandblgcjleaaGreatDoorK8
import Derived.Test.YtgoandblgcjleaaGreatDoorProg
set_option linter.all false
set_option linter.unusedSimpArgs false
set_option linter.unusedVariables false
set_option linter.unusedSectionVars false
set_option maxHeartbeats 256000000
set_option maxRecDepth 100000
section
open Go Go.Proofs AF HY LN
namespace RC
theorem qy4(s:Str)(h:List AObj)(hs:s.length≤1000000000):ACalls Tryz.prog 210 [.str s] h (.bool (qeW s)) h:=by
 unfold qeW;have c1:=fun h=>t53 s h hs
 by_cases g:1≤s.length
 ·rw[qhe s g];have k0:((0:Int)<s.length)=True:=eq_true (by omega);have k2:((s.length:Int)-1).toNat=s.length-1:=by omega
  have k3:(0≤(s.length:Int)-1)=True:=eq_true (by omega);have k4:((s.length:Int)-1≤s.length)=True:=eq_true (by omega);have k5:((s.length:Int)-1<s.length)=True:=eq_true (by omega);obtain⟨b,hb⟩: ∃b,b=(s[s.length-1]?).getD 0:=⟨_,rfl⟩
  have eb:=hb.symm;rw[eb];have c2:=fun h=>t53 (s.take (s.length-1)) h (by simp;omega)
  by_cases g2:b.toNat=42
  ·have k6:((b.toNat:Int)=42)=True:=eq_true (by omega);rw[if_pos (by simpa using g2)]
   by_cases g3:s.length≤16
   ·have k7:((s.length:Int)≤16)=True:=eq_true (by omega);rw[decide_eq_true g3];refine acO qgH ?_;simp (disch:=omega) only[qj6,k0,k2,k3,k4,k5,eb,k6,k7,go_sem]
    repeat' first
     |(refine cG (fun e=>c2 _) ?_ ?_;exact flk;simp (disch:=omega) only[go_sem])
     |(apply qf;exact rvk;simp only[go_sem];exact qj)
     |with_reducible apply aiA
    all_goals try exact clz
   ·have k7:((s.length:Int)≤16)=False:=eq_false (by omega);rw[decide_eq_false g3];refine acO qgH ?_;simp (disch:=omega) only[qj6,k0,k2,k3,k4,k5,eb,k6,k7,go_sem]
    repeat' first
     |(refine qk ( .bool false) ?_;simp (disch:=omega) only[go_sem])
     |(apply qf;exact rvk;simp only[go_sem];exact qj)
  ·have k6:((b.toNat:Int)=42)=False:=eq_false (by omega);rw[if_neg (by simpa using g2)];refine acO qgH ?_;simp (disch:=omega) only[qj6,k0,k2,k3,k4,k5,eb,k6,go_sem]
   repeat' first
    |(refine cA (c1 _) ?_ ?_;exact flk;simp (disch:=omega) only[go_sem])
    |(apply qf;exact rvk;simp only[go_sem];exact qj)
 ·have e:s= []:=List.eq_nil_of_length_eq_zero (by omega);subst e;rw[if_neg (by decide)];refine acO qgH ?_;simp (disch:=omega) only[qj6,go_sem]
  repeat' first
   |((first|refine cA (c1 _) ?_ ?_|refine cG (fun e=>c1 _) ?_ ?_);exact flk;simp (disch:=omega) only[go_sem])
   |(apply qf;exact rvk;simp only[go_sem];exact qj)
   |with_reducible first|intro _|apply aiA
  all_goals try exact clz
theorem hdR(x:Co)(h:List AObj)(hz:qnz x)(hp:qaz SG h):ACalls Tryz.prog 154 [.str x.sec,strs x.sig,qo x.tok] h (.int .i64 (srE x)) h:=by
 obtain⟨R,hR⟩: ∃R,R=srE x:=⟨_,rfl⟩
 rw[←hR];unfold srE at hR;have z1:=hz.sg;have z2:=hz.tk;have cN:=fun h=>t53 x.sec h hz.sc
 cases g0:jk x.sec with
 |false=>
  rw[g0]at cN;rw[if_pos g0]at hR;rw[hR];refine acO qgC ?_;simp (disch:=omega) only[qj1,strs,qo,go_sem]
  repeat' first
   |(refine cA (cN _) ?_ ?_;exact flk;simp (disch:=omega) only[go_sem])
   |(apply qf;exact rvk;simp only[go_sem];exact qj)
 |true=>
 rw[g0]at cN;rw[if_neg (by rw[g0];simp)]at hR
 by_cases g1:x.sig.length=0
 ·have k1:((x.sig.length:Int)=0)=True:=eq_true (by omega);rw[if_pos g1]at hR;rw[hR];refine acO qgC ?_;simp (disch:=omega) only[qj1,strs,qo,go_sem]
  repeat' first
   |(refine cA (cN _) ?_ ?_;exact flk;simp (disch:=omega) only[k1,go_sem])
   |(apply qf;exact rvk;simp only[go_sem];exact qj)
 have k1:((x.sig.length:Int)=0)=False:=eq_false (by omega);rw[if_neg g1]at hR
 by_cases g2:32<x.sig.length
 ·have k2:((32:Int)<x.sig.length)=True:=eq_true (by omega);rw[if_pos g2]at hR;rw[hR];refine acO qgC ?_;simp (disch:=omega) only[qj1,strs,qo,go_sem]
  repeat' first
   |(refine cA (cN _) ?_ ?_;exact flk;simp (disch:=omega) only[k1,k2,go_sem])
   |(apply qf;exact rvk;simp only[go_sem];exact qj)
 have k2:((32:Int)<x.sig.length)=False:=eq_false (by omega);rw[if_neg g2]at hR;refine acO qgC ?_;simp (disch:=omega) only[qj1,strs,qo,go_sem]
 repeat' first
  |(refine cA (cN _) ?_ ?_;exact flk;simp (disch:=omega) only[k1,k2,go_sem])
 refine qm (T:=fun i:Nat=>qI 81 [(1,strs x.sig),(2,qo x.tok),(7,.int .i64 i)]) (H:=fun _=>h) (inv:=fun i=>i≤x.sig.length∧ ∀j,j<i→zO x.sig j=0) (m:=fun i=>x.sig.length-i) 0 ⟨Nat.zero_le _,fun j hj=>by omega⟩ (Wk.temps ?_) ?_
 ·(simp only[strs,qo,go_sem,qh,qd,qa,qg];try (repeat' first|(with_reducible apply aiA)|(apply qi;omega)|(apply qe;rfl)|exact qj))
 rintro i ⟨i1,i2⟩ K hK
 by_cases hi:i<x.sig.length
 ·have k3:((i:Int)<x.sig.length)=True:=eq_true (by omega);have hE:=zr (f:=zO x.sig) hi i2;have hs:zO x.sig i=if qeW (x.sig.getD i [])=false then 14 else if qY (fun j=>decide (x.sig.getD i []=x.sig.getD j [])) i=true then 7 else 0:=rfl
  have c87:=fun h=>qy4 (x.sig.getD i []) h (hz.ss i)
  obtain⟨s,hsx⟩: ∃s,s=x.sig.getD i []:=⟨_,rfl⟩
  have es:=hsx.symm;rw[es]at hs c87;cases g3:qeW s with
  |false=>
   rw[g3]at c87;rw[if_pos g3]at hs;have hne:qa5 (zO x.sig) 0 x.sig.length≠0:=by rw[hE (by rw[hs];decide),hs];decide
   have hV:R=14:=by rw[hR,if_pos hne,hE (by rw[hs];decide),hs]
   rw[hV];simp (disch:=omega) only[strs,qo,k3,es,go_sem]
   repeat' first
    |(refine cA (c87 _) ?_ ?_;exact flk;simp (disch:=omega) only[go_sem])
    |(apply qf;exact rvk;simp only[go_sem];exact qj)
    |with_reducible apply aiA
   all_goals try exact clz
  |true=>
  rw[g3]at c87;rw[if_neg (by rw[g3];simp)]at hs;simp (disch:=omega) only[strs,qo,k3,es,go_sem]
  repeat' first
   |(refine cA (c87 _) ?_ ?_;exact flk;simp (disch:=omega) only[go_sem])
   |with_reducible apply aiA
  all_goals try exact clz
  refine qm (T:=fun k:Nat=>qI 81 [(1,strs x.sig),(2,qo x.tok),(7,.int .i64 i),(8,.int .i64 k)]) (H:=fun _=>h) (inv:=fun k=>k≤i∧ ∀j,j<k→ ¬s=x.sig.getD j []) (m:=fun k=>i-k) 0 ⟨Nat.zero_le _,fun j hj=>by omega⟩ (Wk.temps ?_) ?_
  ·(simp only[strs,qo,go_sem,qh,qd,qa,qg];try (repeat' first|(with_reducible apply aiA)|(apply qi;omega)|(apply qe;rfl)|exact qj))
  rintro k ⟨u1,u2⟩ K2 hK2
  by_cases hk:k<i
  ·have t1:((k:Int)<i)=True:=eq_true (by omega);have t2:((k:Int)<x.sig.length)=True:=eq_true (by omega);obtain⟨y,hy⟩: ∃y,y=x.sig.getD k []:=⟨_,rfl⟩
   have ey:=hy.symm
   by_cases g4:y=s
   ·have k4:(y=s)=True:=eq_true g4;rw[if_pos (qv.2 ⟨k,hk,by rw[ey,g4];simp⟩)]at hs;have hne:qa5 (zO x.sig) 0 x.sig.length≠0:=by rw[hE (by rw[hs];decide),hs];decide
    have hV:R=7:=by rw[hR,if_pos hne,hE (by rw[hs];decide),hs]
    rw[hV];simp (disch:=omega) only[strs,qo,k3,t1,t2,k4,es,ey,go_sem]
    repeat' first
     |(apply qf;exact rvk;simp only[go_sem];exact qj)
     |with_reducible apply aiA
    all_goals try exact clz
   ·have k4:(y=s)=False:=eq_false g4;simp (disch:=omega) only[strs,qo,k3,t1,t2,k4,es,ey,go_sem]
    repeat' first
     |with_reducible apply aiA
    all_goals try exact clz
    refine hK2 _ _ (k+1) ⟨hk,fun j hj=> ?_⟩ (by omega) (Wk.temps ?_)
    ·by_cases e:j=k
     ·subst e;rw[ey];exact fun e=>g4 e.symm
     ·exact u2 j (by omega)
    ·(simp only[strs,qo,go_sem,qh,qd,qa,qg];try (repeat' first|(with_reducible apply aiA)|(apply qi;omega)|(apply qe;rfl)|exact qj))
  ·have t1:((k:Int)<i)=False:=eq_false (by omega);obtain rfl:k=i:=by omega
   rw[if_neg (by rw[qn.2 fun j hj=>decide_eq_false (u2 j hj)];simp)]at hs;simp (disch:=omega) only[strs,qo,t1,go_sem];refine hK _ _ (k+1) ⟨hi,fun j hj=> ?_⟩ (by omega) (Wk.temps ?_)
   ·by_cases e:j=k
    ·subst e;exact hs
    ·exact i2 j (by omega)
   ·(simp only[strs,qo,go_sem,qh,qd,qa,qg];try (repeat' first|(with_reducible apply aiA)|(apply qi;omega)|(apply qe;rfl)|exact qj))
 have k3:((i:Int)<x.sig.length)=False:=eq_false (by omega);have hn0:=qP (f:=zO x.sig) (fun j (hj:j<x.sig.length)=>i2 j (by omega));rw[if_neg (fun hc=>hc hn0)]at hR
 by_cases g5:x.tok.length=x.sig.length
 case neg=>
  have k5:((x.tok.length:Int)=x.sig.length)=False:=eq_false (by omega);rw[if_pos g5]at hR;rw[hR];simp (disch:=omega) only[strs,qo,k3,k5,go_sem]
  repeat' first
   |(apply qf;exact rvk;simp only[go_sem];exact qj)
 have k5:((x.tok.length:Int)=x.sig.length)=True:=eq_true (by omega);rw[if_neg (fun hc=>hc g5)]at hR;clear hK;simp (disch:=omega) only[strs,qo,k3,k5,go_sem];obtain⟨rw0,hrw⟩: ∃f:Nat→Int,f=fun i=>qdY (x.tok.getD i []):=⟨_,rfl⟩
 have er: ∀i,rw0 i=qdY (x.tok.getD i []):=fun i=>by rw[hrw]
 rw[←hrw]at hR;refine qm (T:=fun i:Nat=>qI 81 [(2,qo x.tok),(9,.int .i64 i)]) (H:=fun _=>h) (inv:=fun i=>i≤x.tok.length∧ ∀j,j<i→rw0 j=0) (m:=fun i=>x.tok.length-i) 0 ⟨Nat.zero_le _,fun j hj=>by omega⟩ (Wk.temps ?_) ?_
 ·(simp only[qo,go_sem,qh,qd,qa,qg];try (repeat' first|(with_reducible apply aiA)|(apply qi;omega)|(apply qe;rfl)|exact qj))
 rintro i ⟨i1,i2⟩ K hK
 by_cases hi:i<x.tok.length
 ·have k6:((i:Int)<x.tok.length)=True:=eq_true (by omega);have hE:=zr (f:=rw0) hi i2;have hs:=er i;have zl:=hz.tl i;have zt:=hz.te i;obtain⟨l,hl⟩: ∃l,l=x.tok.getD i []:=⟨_,rfl⟩
  have el:=hl.symm;rw[el]at hs zl;simp only[el]at zt;unfold qdY at hs
  by_cases g6:1024<l.length
  ·have k7:((1024:Int)<l.length)=True:=eq_true (by omega);rw[if_pos g6]at hs;have hV:R=4:=by rw[hR,hE (by rw[hs];decide),hs]
   rw[hV];simp (disch:=omega) only[qo,jc,k6,k7,el,go_sem]
   repeat' first
    |(apply qf;exact rvk;simp only[go_sem];exact qj)
    |with_reducible apply aiA
   all_goals try exact clz
  have k7:((1024:Int)<l.length)=False:=eq_false (by omega);rw[if_neg g6]at hs;simp (disch:=omega) only[qo,jc,k6,k7,el,go_sem]
  repeat' first
   |with_reducible apply aiA
  all_goals try exact clz
  refine qm (T:=fun k:Nat=>qI 81 [(2,qo x.tok),(9,.int .i64 i),(10,.int .i64 k)]) (H:=fun _=>h) (inv:=fun k=>k≤l.length∧ ∀j,j<k→tkE (l.getD j default)=0) (m:=fun k=>l.length-k) 0 ⟨Nat.zero_le _,fun j hj=>by omega⟩ (Wk.temps ?_) ?_
  ·(simp only[qo,jc,go_sem,qh,qd,qa,qg];try (repeat' first|(with_reducible apply aiA)|(apply qi;omega)|(apply qe;rfl)|exact qj))
  rintro k ⟨u1,u2⟩ K2 hK2
  by_cases hk:k<l.length
  ·have t1:((k:Int)<l.length)=True:=eq_true (by omega);have cT:=tkR (l.getD k default) h (zt k) hp;obtain⟨t,ht⟩: ∃t,t=l.getD k default:=⟨_,rfl⟩
   have et:=ht.symm;rw[et]at cT;obtain⟨e,he⟩: ∃e,e=tkE t:=⟨_,rfl⟩
   rw[←he]at cT;unfold tkC at cT
   by_cases g7:e=0
   ·have k8:(e=0)=True:=eq_true g7;simp (disch:=omega) only[qo,jc,tkC,k6,t1,el,et,go_sem]
    repeat' first
     |(refine cA (cT) ?_ ?_;exact flk;simp (disch:=omega) only[k8,go_sem])
     |with_reducible apply aiA
    all_goals try exact clz
    refine hK2 _ _ (k+1) ⟨hk,fun j hj=> ?_⟩ (by omega) (Wk.temps ?_)
    ·by_cases e:j=k
     ·subst e;rw[et,←he];exact g7
     ·exact u2 j (by omega)
    ·(simp only[qo,jc,go_sem,qh,qd,qa,qg];try (repeat' first|(with_reducible apply aiA)|(apply qi;omega)|(apply qe;rfl)|exact qj))
   ·have k8:(e=0)=False:=eq_false g7;rw[if_pos (qv.2 ⟨k,hk,by rw[et,←he];simp[g7]⟩)]at hs;have hV:R=1:=by rw[hR,hE (by rw[hs];decide),hs]
    rw[hV];simp (disch:=omega) only[qo,jc,tkC,k6,t1,el,et,go_sem]
    repeat' first
     |(refine cA (cT) ?_ ?_;exact flk;simp (disch:=omega) only[k8,go_sem])
     |(apply qf;exact rvk;simp only[go_sem];exact qj)
     |with_reducible apply aiA
    all_goals try exact clz
  ·have t1:((k:Int)<l.length)=False:=eq_false (by omega);rw[if_neg (by rw[qn.2 fun j (hj:j<l.length)=>by rw[u2 j (by omega)];simp];simp)]at hs;simp (disch:=omega) only[qo,jc,k6,t1,el,go_sem]
   repeat' first
    |with_reducible apply aiA
   all_goals try exact clz
   refine hK _ _ (i+1) ⟨hi,fun j hj=> ?_⟩ (by omega) (Wk.temps ?_)
   ·by_cases e:j=i
    ·subst e;exact hs
    ·exact i2 j (by omega)
   ·(simp only[qo,jc,go_sem,qh,qd,qa,qg];try (repeat' first|(with_reducible apply aiA)|(apply qi;omega)|(apply qe;rfl)|exact qj))
 ·have k6:((i:Int)<x.tok.length)=False:=eq_false (by omega);rw[qP (fun j (hj:j<x.tok.length)=>i2 j (by omega))]at hR;rw[hR];simp (disch:=omega) only[qo,k6,go_sem]
  repeat' first
   |(apply qf;exact rvk;simp only[go_sem];exact qj)
theorem coR(x:Co)(h:List AObj)(hz:qnz x)(hp:qaz SG h):ACalls Tryz.prog 82 [.agg (coC x)] h (.int .i64 (coE x)) h:=by
 have c1:=fun l=>hdR x (h++l) hz (hp.app l)
 unfold coE
 by_cases g:srE x=0
 case neg=>
  have k1:(srE x=0)=False:=eq_false g;rw[if_pos g];obtain⟨e,he⟩: ∃e,e=srE x:=⟨_,rfl⟩
  rw[←he]at c1 k1 ⊢;refine acO qx4 ?_;simp (disch:=omega) only[qAg,coC,go_sem]
  repeat' first
   |(refine cA (c1 _) ?_ ?_;exact flk;simp (disch:=omega) only[k1,go_sem])
   |(apply qb;exact rvk;simp only[go_sem];exact qj)
 rw[if_neg (fun hc=>hc g)];obtain⟨o1,o2,o3,o4⟩:=qrv g;rw[g]at c1;have zg1: ∀g,valL g .len [strs x.sig]= .int .i64 x.tok.length:=fun _=>by rw[o3];rfl
 have zg2: ∀g,okL g .len [strs x.sig]=True:=fun _=>eq_true trivial
 have hn:=hz.tk;have hc:=hz.cl;have hl:=hz.tl;have hm:=hz.ce;obtain⟨R,hR⟩: ∃R,R=if alB x.tok x.col=false then (19:Int) else 0:=⟨_,rfl⟩
 rw[←hR];have k0:(0≤(x.tok.length:Int))=True:=eq_true (by omega);have k1:((x.tok.length:Int)≤9223372036854775807)=True:=eq_true (by omega);have eS:=o3.symm;refine acO qx4 ?_;simp (disch:=omega) only[qAg,coC,go_sem]
 repeat' first
  |(refine cA (c1 _) ?_ ?_;exact flk;simp (disch:=omega) only[k0,zg1,zg2,go_sem])
  |with_reducible apply aiA
 all_goals try exact clz
 all_goals try rw[Int.toNat_natCast]
 rw[qfA];obtain⟨tok,htok⟩: ∃tok,tok=x.tok:=⟨_,rfl⟩
 obtain⟨col,hcol⟩: ∃col,col=x.col:=⟨_,rfl⟩
 have eS2:x.sig.length=tok.length:=by rw[htok];exact eS
 rw[←htok,←hcol]at hR;rw[←htok]at k0 k1 hn;simp only[←htok]at hl o4;rw[←hcol]at hc;simp only[←hcol]at hm;have eC:coC x= [.str x.sec,strs x.sig,qo tok,qr col]:=by rw[htok,hcol];rfl
 have zc:qr col= .sl col.length fun i=> [ql (col.getD i [])]:=rfl
 have zt:qo tok= .sl tok.length fun i=> [jc (tok.getD i [])]:=rfl
 try simp only[←htok,←hcol]
 rw[←qvm (col:=col)];refine qm (T:=fun i:Nat=>qI 99 [(1,.op h.length 1 0),(4,.osl (h.length+1) 1 1 0 tok.length),(5,.int .i64 i)])
  (H:=fun i=>h++ [.mem 1 26 [.str x.sec,strs x.sig,qo tok,qr col],.mem 1 3 (gC (atA col i 0) tok.length)])
  (inv:=fun i=>i≤col.length∧ ∀j,j<i→qem tok col j=true) (m:=fun i=>col.length-i) 0 ⟨Nat.zero_le _,fun j hj=>absurd hj (Nat.not_lt_zero j)⟩ (Wk.temps ?_) ?_
 ·(simp only[strs,zt,zc,go_sem,qh,qd,qa,qg];try (repeat' first|(with_reducible apply aiA)|(apply qi;omega)|(apply qe;rfl)|exact qj))
 rintro i ⟨i1,i2⟩ K hK
 by_cases hi:i<col.length
 ·have k2:((i:Int)<col.length)=True:=eq_true (by omega);have ki:(0≤(i:Int))=True:=eq_true (by omega);have hno:qem tok col i=false→R=19:=fun hx=>by rw[hR,qvi hi hx,if_pos rfl]
  have hlen:= @qkB tok col i;have hen:= @qqB tok col i;have heq:= @qqC tok col i;have hskip:= @qgn col i;have hstep:= @qgo col i;have hmi:=hm i;have hE: ∀s,enB tok col i s=(decide ((col.getD i []).getD s 0= -1)||(decide ((col.getD i []).getD s 0=(cnC col s i:Int))&&decide ((col.getD i []).getD s 0<((tok.getD s []).length:Int)))):=fun _=>rfl
  obtain⟨c,hcx⟩: ∃c,c=col.getD i []:=⟨_,rfl⟩
  have ec:=hcx.symm;rw[ec]at hlen heq hmi;simp only[ec]at hskip hstep hE
  by_cases g1:c.length=tok.length
  case neg=>
   have k3:((c.length:Int)=tok.length)=False:=eq_false (by omega);rw[hno (hlen g1)];simp (disch:=omega) only[zc,ql,k2,ki,k3,ec,go_sem]
   repeat' first
    |(apply qb;exact rvk;simp only[go_sem];exact qj)
    |with_reducible apply aiA
   all_goals try exact clz
  have k3:((c.length:Int)=tok.length)=True:=eq_true (by omega);have heq:=heq g1;simp (disch:=omega) only[zc,ql,k2,ki,k3,ec,go_sem]
  repeat' first
   |with_reducible apply aiA
  all_goals try exact clz
  refine qm (T:=fun s:Nat=>qI 99 [(1,.op h.length 1 0),(4,.osl (h.length+1) 1 1 0 tok.length),(5,.int .i64 i),(6,ql c),(7,.bool (qY (fun s=> !decide (c.getD s 0= -1)) s)),(8,.int .i64 s)])
   (H:=fun s=>h++ [.mem 1 26 [.str x.sec,strs x.sig,qo tok,qr col],.mem 1 3 (gC (atA col i s) tok.length)])
   (inv:=fun s=>s≤c.length∧ ∀j,j<s→enB tok col i j=true) (m:=fun s=>c.length-s) 0 ⟨Nat.zero_le _,fun j hj=>absurd hj (Nat.not_lt_zero j)⟩ (Wk.temps ?_) ?_
  ·(simp only[ql,go_sem,qh,qd,qa,qg];try (repeat' first|(with_reducible apply aiA)|(apply qi;omega)|(apply qe;rfl)|exact qj))
  rintro s ⟨s1,s2⟩ K2 hK2
  by_cases hs:s<c.length
  ·have t1:((s:Int)<c.length)=True:=eq_true (by omega);have t0:(0≤(s:Int))=True:=eq_true (by omega);have hsn:s<tok.length:=by omega
   have t2:((s:Int)<tok.length)=True:=eq_true (by omega);have t3:(s<tok.length)=True:=eq_true hsn;have t4:(s+1≤tok.length)=True:=eq_true hsn;have gl:=ky (atA col i s) tok.length;have gg:=qa6 (g:=atA col i s) hsn;rw[qqu]at gg;have hsk:=hskip (s:=s) (n:=tok.length);have hst:=hstep (s:=s) hsn;have hcn:= @qqA col s i;have hlt:=hl s;have hEs:=hE s;have hap:=qcj (fun s=> !decide (c.getD s 0= -1)) s;obtain⟨t,ht⟩: ∃t,t=c.getD s 0:=⟨_,rfl⟩
   obtain⟨l,hlx⟩: ∃l,l=tok.getD s []:=⟨_,rfl⟩
   have et:=ht.symm;have el:=hlx.symm;rw[et]at hsk hst hEs;rw[el]at hEs hlt;simp only[et]at hap;obtain⟨a,ha⟩: ∃a,a=qY (fun s=> !decide (c.getD s 0= -1)) s:=⟨_,rfl⟩
   have ea:=ha.symm;rw[ea]at hap;obtain⟨q,hq⟩: ∃q:Nat,q=cnC col s i:=⟨_,rfl⟩
   have eq:=hq.symm;rw[eq]at hst hEs hcn gg;have b2:((q:Int)+1≤9223372036854775807)=True:=eq_true (by omega);have b3:(-9223372036854775808≤(q:Int)+1)=True:=eq_true (by omega)
   by_cases g2:t= -1
   ·have k4:(t= -1)=True:=eq_true g2;rw[decide_eq_true g2,Bool.true_or]at hEs;have hap':qY (fun s=> !decide (c.getD s 0= -1)) (s+1)=a:=by rw[hap,decide_eq_true g2];simp
    simp (disch:=omega) only[ql,t0,t1,t2,t3,k4,et,ea,gl,gg,Nat.mul_one,Nat.zero_add,go_sem]
    repeat' first
     |with_reducible apply aiA
    all_goals try exact clz
    rw[hsk g2];refine hK2 _ _ (s+1) ⟨hs,fun j hj=> ?_⟩ (by omega) (Wk.temps ?_)
    ·by_cases e:j=s
     ·subst e;exact hEs
     ·exact s2 j (by omega)
    ·rw[hap']
     (simp only[ql,go_sem,qh,qd,qa,qg];try (repeat' first|(with_reducible apply aiA)|(apply qi;omega)|(apply qe;rfl)|exact qj))
   have k4:(t= -1)=False:=eq_false g2;rw[decide_eq_false g2,Bool.false_or]at hEs;have hap':qY (fun s=> !decide (c.getD s 0= -1)) (s+1)=true:=by rw[hap,decide_eq_false g2];simp
   by_cases g3:t=(q:Int)
   case neg=>
    have k5:(t=(q:Int))=False:=eq_false g3;rw[decide_eq_false g3,Bool.false_and]at hEs;rw[hno (hen hsn hEs)];simp (disch:=omega) only[zt,ql,t0,t1,t2,t3,t4,k4,k5,et,ea,gl,gg,Nat.mul_one,Nat.zero_add,go_sem]
    repeat' first
     |(apply qb;exact rvk;simp only[go_sem];exact qj)
     |with_reducible apply aiA
    all_goals try exact clz
   have k5:(t=(q:Int))=True:=eq_true g3;rw[decide_eq_true g3,Bool.true_and]at hEs
   by_cases g4:(l.length:Int)≤t
   ·have k6:((l.length:Int)≤t)=True:=eq_true g4;rw[decide_eq_false (by omega)]at hEs;rw[hno (hen hsn hEs)];simp (disch:=omega) only[zt,jc,ql,t0,t1,t2,t3,t4,k4,k5,k6,et,ea,el,gl,gg,Nat.mul_one,Nat.zero_add,go_sem]
    repeat' first
     |(apply qb;exact rvk;simp only[go_sem];exact qj)
     |with_reducible apply aiA
    all_goals try exact clz
   ·have k6:((l.length:Int)≤t)=False:=eq_false g4;rw[decide_eq_true (by omega)]at hEs;have hst:=hst g2;simp (disch:=omega) only[zt,jc,ql,t0,t1,t2,t3,t4,k4,k5,k6,et,ea,el,gl,gg,hst,Nat.mul_one,Nat.zero_add,Option.isSome_some,go_sem]
    repeat' first
     |with_reducible apply aiA
    all_goals try exact clz
    try rw[hst]
    refine hK2 _ _ (s+1) ⟨hs,fun j hj=> ?_⟩ (by omega) (Wk.temps ?_)
    ·by_cases e:j=s
     ·subst e;exact hEs
     ·exact s2 j (by omega)
    ·rw[hap']
     (simp only[ql,go_sem,qh,qd,qa,qg];try (repeat' first|(with_reducible apply aiA)|(apply qi;omega)|(apply qe;rfl)|exact qj))
  ·have t1:((s:Int)<c.length)=False:=eq_false (by omega);have es:s=tok.length:=by omega
   have heq:=heq fun j hj=>s2 j (by omega)
   rw[←es]at heq;cases ga:qY (fun s=> !decide (c.getD s 0= -1)) s with
   |false=>
    rw[ga]at heq;rw[hno heq];simp (disch:=omega) only[ql,t1,go_sem]
    repeat' first
     |(apply qb;exact rvk;simp only[go_sem];exact qj)
   |true=>
    rw[ga]at heq;simp (disch:=omega) only[ql,t1,go_sem];have ege:gC (atA col i s) tok.length=gC (atA col (i+1) 0) tok.length:=by rw[es];exact qi5 _
    rw[ege];refine hK _ _ (i+1) ⟨hi,fun j hj=> ?_⟩ (by omega) (Wk.temps ?_)
    ·by_cases e:j=i
     ·subst e;exact heq
     ·exact i2 j (by omega)
    ·(simp only[go_sem,qh,qd,qa,qg];try (repeat' first|(with_reducible apply aiA)|(apply qi;omega)|(apply qe;rfl)|exact qj))
 have k2:((i:Int)<col.length)=False:=eq_false (by omega);obtain rfl:i=col.length:=by omega
 clear hK;simp (disch:=omega) only[zc,k2,go_sem]
 repeat' first
  |with_reducible apply aiA
 all_goals try exact clz
 refine qm (T:=fun s:Nat=>qI 99 [(1,.op h.length 1 0),(4,.osl (h.length+1) 1 1 0 tok.length),(9,.int .i64 s)])
  (H:=fun _=>h++ [.mem 1 26 [.str x.sec,strs x.sig,qo tok,qr col],.mem 1 3 (gC (atA col col.length 0) tok.length)])
  (inv:=fun s=>s≤tok.length∧ ∀j,j<s→cnC col j col.length=(tok.getD j []).length) (m:=fun s=>tok.length-s) 0 ⟨Nat.zero_le _,fun j hj=>absurd hj (Nat.not_lt_zero j)⟩ (Wk.temps ?_) ?_
 ·(simp only[go_sem,qh,qd,qa,qg];try (repeat' first|(with_reducible apply aiA)|(apply qi;omega)|(apply qe;rfl)|exact qj))
 rintro s ⟨s1,s2⟩ K hK
 by_cases hs:s<tok.length
 ·have t1:((s:Int)<tok.length)=True:=eq_true (by omega);have t0:(0≤(s:Int))=True:=eq_true (by omega);have t3:(s<tok.length)=True:=eq_true hs;have t4:(s+1≤tok.length)=True:=eq_true hs;have gl:=ky (atA col col.length 0) tok.length;have gg:=qa6 (g:=atA col col.length 0) hs;have e0:atA col col.length 0 s= .int .i64 (cnC col s col.length:Int):=by unfold atA;rw[if_neg (Nat.not_lt_zero _)]
  rw[e0]at gg;have hno:= @qqp tok col s hs;obtain⟨q,hq⟩: ∃q:Nat,q=cnC col s col.length:=⟨_,rfl⟩
  have eq:=hq.symm;have hs2:q=(tok.getD s []).length→cnC col s col.length=(tok.getD s []).length:=fun e=>by rw[←hq];exact e
  rw[eq]at gg hno;obtain⟨l,hlx⟩: ∃l,l=tok.getD s []:=⟨_,rfl⟩
  have el:=hlx.symm;rw[el]at hno hs2
  by_cases g:q=l.length
  ·have k5:((q:Int)=l.length)=True:=eq_true (by omega);simp (disch:=omega) only[zt,jc,t0,t1,t3,k5,el,gl,gg,Nat.mul_one,Nat.zero_add,go_sem]
   repeat' first
    |with_reducible apply aiA
   all_goals try exact clz
   refine hK _ _ (s+1) ⟨hs,fun j hj=> ?_⟩ (by omega) (Wk.temps ?_)
   ·by_cases e:j=s
    ·subst e;rw[el];exact hs2 g
    ·exact s2 j (by omega)
   ·(simp only[go_sem,qh,qd,qa,qg];try (repeat' first|(with_reducible apply aiA)|(apply qi;omega)|(apply qe;rfl)|exact qj))
  ·have k5:((q:Int)=l.length)=False:=eq_false (by omega);rw[hR,hno g,if_pos rfl];simp (disch:=omega) only[zt,jc,t0,t1,t3,k5,el,gl,gg,Nat.mul_one,Nat.zero_add,go_sem]
   repeat' first
    |(apply qb;exact rvk;simp only[go_sem];exact qj)
    |with_reducible apply aiA
   all_goals try exact clz
 ·have t1:((s:Int)<tok.length)=False:=eq_false (by omega);rw[hR,qqq i2 (fun j hj=>s2 j (by omega)),if_neg (by simp)];simp (disch:=omega) only[t1,go_sem]
  repeat' first
   |(apply qb;exact rvk;simp only[go_sem];exact qj)
def cvN(l:List Un)(i k:Nat):Bool:=qY (fun j=>decide ((l.getD j default).frm≤k)&&decide ((k:Int)<(l.getD j default).to)) i
theorem qsL(l:List Un)(k:Nat):cvN l l.length k=cvB l k:=rfl
theorem qBr(x:Co)(l:List Un)(h:List AObj)(hz:qnz x)(hu:qrB l)(hp:qaz SG h):ACalls Tryz.prog 115 [.agg (coC x),qy l] h (.int .i64 (vaE x l)) h:=by
 have c82:=fun l'=>coR x (h++l') hz (hp.app l')
 obtain⟨R,hR⟩: ∃R,R=vaE x l:=⟨_,rfl⟩
 rw[←hR];unfold vaE rgB qi0 cvA at hR;obtain⟨e,he⟩: ∃e,e=coE x:=⟨_,rfl⟩
 have eh:=he.symm;rw[eh]at c82 hR;unfold coC at c82
 by_cases g:e=0
 case neg=>
  have k1:(e=0)=False:=eq_false g;rw[if_pos g]at hR;rw[hR];refine acO qqJ ?_;simp (disch:=omega) only[qrW,coC,go_sem]
  repeat' first
   |(refine cA (c82 _) ?_ ?_;exact flk;simp (disch:=omega) only[k1,go_sem])
   |(apply qb;exact rvk;simp only[go_sem];exact qj)
 have k1:(e=0)=True:=eq_true g;rw[if_neg (fun hc=>hc g)]at hR;have ho:=qc6 (eh.trans g);have hcl:=hz.cl;have hn:=hu.n;have zl: ∀g,valL g .len [qr x.col]= .int .i64 x.col.length:=fun _=>rfl
 have zo: ∀g,okL g .len [qr x.col]=True:=fun _=>eq_true trivial
 have k0:(0≤(x.col.length:Int))=True:=eq_true (by omega);have k2:((x.col.length:Int)≤9223372036854775807)=True:=eq_true (by omega);refine acO qqJ ?_;simp (disch:=omega) only[qrW,coC,go_sem]
 repeat' first
  |(refine cA (c82 _) ?_ ?_;exact flk;simp (disch:=omega) only[k1,k0,zl,zo,go_sem])
  |with_reducible apply aiA
 all_goals try exact clz
 all_goals try rw[Int.toNat_natCast]
 rw[qrK];have p0:bC (fun _=>false) x.col.length=bC (cvN l 0) x.col.length:=rfl;rw[p0];refine qm (T:=fun i:Nat×AObj=>qI 105 [(1,qy l),(2,.op h.length 1 0),(5,.osl (h.length+1) 1 1 0 x.col.length),(6,.int .i64 i.1)])
  (H:=fun i=>h++ [.mem 1 26 (coC x),.mem 1 4 (bC (cvN l i.1) x.col.length),i.2])
  (inv:=fun i=>i.1≤l.length∧qz [i.2] 0=true∧ ∀j,j<i.1→unB x (beH l j) (l.getD j default)=true) (m:=fun i=>l.length-i.1) (0,.emp 0) ⟨Nat.zero_le _,rfl,fun j hj=>absurd hj (Nat.not_lt_zero j)⟩ (Wk.temps ?_) ?_
 ·(simp only[qy,go_sem,qh,qd,qa,qg];try (repeat' first|(with_reducible apply aiA)|(apply qi;omega)|(apply qe;rfl)|exact qj))
 rintro⟨i,O⟩ ⟨i1,i2,i3⟩ K hK;simp only at i1 i2 i3 hK;have i2': ∀m,qz (O::m) 0=true:=fun _=>i2
 by_cases hi:i<l.length
 ·have t1:((i:Int)<l.length)=True:=eq_true (by omega);have t0:(0≤(i:Int))=True:=eq_true (by omega);have hno:unB x (beH l i) (l.getD i default)=false→R=20:=fun hx=>by
   rw[hR,if_pos];rw[qv.2 ⟨i,hi,by rw[hx];rfl⟩];rfl
  have hun:unB x (beH l i) (l.getD i default)= !(decide ((l.getD i default).frm≤beH l i)||(decide ((l.getD i default).frm<0)||(decide ((l.getD i default).to≤(l.getD i default).frm)||(decide ((x.col.length:Int)<(l.getD i default).to)|| !decide ((l.getD i default).rds=qdj x (l.getD i default).frm.toNat (l.getD i default).to.toNat))))):=rfl;have hbe:beH l i=if i=0 then-1 else (l.getD (i-1) default).to:=rfl
  have hcs: ∀k,cvN l (i+1) k=(cvN l i k||(decide ((l.getD i default).frm≤k)&&decide ((k:Int)<(l.getD i default).to))):=fun k=>qcj _ _
  have hrs:qi1 (l.getD i default).rds:=⟨hu.rd i,hu.sr i,hu.wd i⟩
  have hS:unB x (beH l i) (l.getD i default)=true→ ∀j,j<i+1→unB x (beH l j) (l.getD j default)=true:=fun hx j hj=>by
   by_cases e:j=i
   ·subst e;exact hx
   ·exact i3 j (by omega)
  obtain⟨u,hux⟩: ∃u,u=l.getD i default:=⟨_,rfl⟩
  have eu:=hux.symm;simp only[eu]at hno hun hcs hrs hS
  by_cases a1:u.frm<0
  ·have q1:(u.frm<0)=True:=eq_true a1;rw[hno (by rw[hun,decide_eq_true a1];simp)];simp (disch:=omega) only[coC,qy,unC,t0,t1,eu,i2',q1,go_sem]
   repeat' first
    |(refine qk ( .bool false) ?_;simp (disch:=omega) only[zl,go_sem])
    |(apply qb;exact rvk;simp only[go_sem];exact qj)
    |with_reducible first|intro _|apply aiA
   all_goals try exact clz
  have q1:(u.frm<0)=False:=eq_false a1
  by_cases a2:u.to≤u.frm
  ·have q2:(u.to≤u.frm)=True:=eq_true a2;rw[hno (by rw[hun,decide_eq_true a2];simp)];simp (disch:=omega) only[coC,qy,unC,t0,t1,eu,i2',q1,q2,go_sem]
   repeat' first
    |(refine qk ( .bool false) ?_;simp (disch:=omega) only[zl,go_sem])
    |(apply qb;exact rvk;simp only[go_sem];exact qj)
    |with_reducible first|intro _|apply aiA
   all_goals try exact clz
  have q2:(u.to≤u.frm)=False:=eq_false a2
  by_cases a3:(x.col.length:Int)<u.to
  ·have q3:((x.col.length:Int)<u.to)=True:=eq_true a3;rw[hno (by rw[hun,decide_eq_true a3];simp)];simp (disch:=omega) only[coC,qy,unC,t0,t1,eu,i2',q1,q2,q3,zl,zo,go_sem]
   repeat' first
    |(refine qk ( .bool false) ?_;simp (disch:=omega) only[go_sem])
    |(apply qb;exact rvk;simp only[go_sem];exact qj)
    |with_reducible first|intro _|apply aiA
   all_goals try exact clz
  have q3:((x.col.length:Int)<u.to)=False:=eq_false a3;obtain⟨F,hF⟩: ∃F:Nat,u.frm=(F:Int):=⟨u.frm.toNat,by omega⟩
  obtain⟨G,hG⟩: ∃G:Nat,u.to=(G:Int):=⟨u.to.toNat,by omega⟩
  have c180:=fun h=>qDg x F G h ho (by omega) hcl
  have hsz:qi1 (qdj x F G):=qmd x F (G-F) (by omega) x.sig.length (by have:=ho.sg;omega);have c179:=fun h=>qDp u.rds (qdj x F G) h hrs hsz
  unfold coC at c180;rw[hF,hG,Int.toNat_natCast,Int.toNat_natCast]at hun;simp only[hF,hG]at q1 q2 q3 a1 a2 a3 hcs;have fin:unB x (beH l i) u=true→True:=fun _=>trivial
  have hlast: ∀(B:Bool),B=decide (u.rds=qdj x F G)→(¬(i≠0∧(F:Int)≤(l.getD (i-1) default).to))→unB x (beH l i) u=B:=fun B hB hg=>by
   have e1:decide ((F:Int)≤beH l i)=false:=decide_eq_false (by
    rw[hbe];split
    ·omega
    ·rename_i hx
     exact fun hc=>hg ⟨hx,hc⟩)
   rw[hun,e1,decide_eq_false a1,decide_eq_false a2,decide_eq_false a3,←hB];simp
  obtain⟨D,hD⟩: ∃D,D=qdj x F G:=⟨_,rfl⟩
  rw[←hD]at hlast;simp only[←hD]at c180 c179
  --behind the head of the condition:the rest
  by_cases a4:i≠0∧(F:Int)≤(l.getD (i-1) default).to
  ·obtain⟨b1,b2⟩:=a4;have hm:((i:Int)-1)=((i-1:Nat):Int):=by omega
   have m1:(((i-1:Nat):Int)<l.length)=True:=eq_true (by omega);have m0:(0≤((i-1:Nat):Int))=True:=eq_true (by omega);have t2:((0:Int)<i)=True:=eq_true (by omega);have hV:R=20:=hno (by
    rw[hun,hbe,if_neg b1,decide_eq_true b2]
    rfl)
   obtain⟨u0,hu0⟩: ∃u0,u0=l.getD (i-1) default:=⟨_,rfl⟩
   have eu0:=hu0.symm;rw[eu0]at b2;have q4:((F:Int)≤u0.to)=True:=eq_true b2;rw[hV];simp (disch:=omega) only[coC,qy,unC,t0,t1,t2,hm,m0,m1,eu,eu0,i2',hF,hG,q1,q2,q3,q4,zl,zo,go_sem]
   repeat' first
    |(refine qk ( .bool false) ?_;simp (disch:=omega) only[go_sem])
    |(apply qb;exact rvk;simp only[go_sem];exact qj)
    |with_reducible apply aiA
   all_goals try exact clz
  have hlast:=fun B hB=>hlast B hB a4
  have hst: ∀(z:Bool),z=decide (u.rds=D)→(z=true→ ∀j,j<i+1→unB x (beH l j) (l.getD j default)=true)∧(z=false→R=20):=fun z hz=>⟨fun e=>hS (by rw[hlast z hz,e]),fun e=>hno (by rw[hlast z hz,e])⟩
  obtain⟨z,hzz⟩: ∃z,z=decide (u.rds=D):=⟨_,rfl⟩
  obtain⟨hst1,hst2⟩:=hst z hzz;simp only[←hzz]at c179;have inner:z=true→ ∀(K2:Prop) ,True:=fun _ _=>trivial
  by_cases b0:i=0
  ·have t2:((0:Int)<i)=False:=eq_false (by omega);cases z with
   |false=>
    rw[hst2 rfl];simp (disch:=omega) only[coC,qy,unC,t0,t1,t2,eu,i2',hF,hG,q1,q2,q3,zl,zo,go_sem]
    repeat' first
     |((first|refine cG (fun e=>c180 _) ?_ ?_|refine cG (fun e=>c179 _) ?_ ?_);exact flk;simp (disch:=omega) only[go_sem])
     |(apply qb;exact rvk;simp only[go_sem];exact qj)
     |with_reducible first|intro _|apply aiA
    all_goals try exact clz
   |true=>
   simp (disch:=omega) only[coC,qy,unC,t0,t1,t2,eu,i2',hF,hG,q1,q2,q3,zl,zo,go_sem]
   repeat' first
    |((first|refine cG (fun e=>c180 _) ?_ ?_|refine cG (fun e=>c179 _) ?_ ?_);exact flk;simp (disch:=omega) only[go_sem])
    |(apply qb;exact rvk;simp only[go_sem];apply qi)
    |with_reducible first|intro _|apply aiA
   all_goals try exact clz
   obtain⟨pf,hpf⟩: ∃pf:Nat→Nat→Bool,pf=fun m k=>cvN l i k||(decide (F≤k)&&decide (k<m)):=⟨_,rfl⟩
   have p1:bC (cvN l i) x.col.length=bC (pf F) x.col.length:=qaA fun k _=>by
    rw[hpf];dsimp only
    by_cases h1:F≤k
    ·rw[decide_eq_false (by omega: ¬k<F)];simp
    ·rw[decide_eq_false h1];simp
   rw[p1];refine qm (T:=fun m:Nat=>qI 105 [(1,qy l),(2,.op h.length 1 0),(5,.osl (h.length+1) 1 1 0 x.col.length),(6,.int .i64 i),(7,.op (h.length+2) (qq (some O)+1) 0),(8,.int .i64 m)])
    (H:=fun m=>h++ [.mem 1 26 (coC x),.mem 1 4 (bC (pf m) x.col.length),.mem (qq (some O)+1) 83 [.int .i64 (F:Int),.int .i64 (G:Int),zx u.rds]])
    (inv:=fun m=>F≤m∧m≤G) (m:=fun m=>G-m) F ⟨Nat.le_refl _,by omega⟩ (Wk.temps ?_) ?_
   ·(simp only[qy,unC,go_sem,qh,qd,qa,qg];try (repeat' first|(with_reducible apply aiA)|(apply qi;omega)|(apply qe;rfl)|exact qj))
   rintro m ⟨m1',m2'⟩ K2 hK2
   by_cases hm':m<G
   ·have r1:((m:Int)<G)=True:=eq_true (by omega);have r0:(0≤(m:Int))=True:=eq_true (by omega);have r2:((m:Int)<x.col.length)=True:=eq_true (by omega);have mn:m<x.col.length:=by omega
    have r3:(m<x.col.length)=True:=eq_true mn;have r4:(m+1≤x.col.length)=True:=eq_true mn;have gl:=qaN (pf m) x.col.length;have gs1:=qqv (p:=pf m) mn;have hpn:bC (fun k=>pf m k||decide (k=m)) x.col.length=bC (pf (m+1)) x.col.length:=qaA fun k _=>by
     rw[hpf];dsimp only
     by_cases h1:k=m
     ·subst h1;rw[decide_eq_true (by omega:F≤k),decide_eq_true (by omega:k<k+1)];simp
     ·rw[decide_eq_false h1,Bool.or_false]
      by_cases h2:k<m
      ·rw[decide_eq_true h2,decide_eq_true (by omega:k<m+1)]
      ·rw[decide_eq_false h2,decide_eq_false (by omega: ¬k<m+1)]
    simp (disch:=omega) only[coC,qy,unC,r0,r1,r2,r4,gl,gs1,Nat.mul_one,Nat.zero_add,Int.toNat_natCast,Option.isSome_some,go_sem]
    try rw[hpn]
    refine hK2 _ _ (m+1) ⟨by omega,hm'⟩ (by omega) (Wk.temps ?_)
    (simp only[qy,unC,go_sem,qh,qd,qa,qg];try (repeat' first|(with_reducible apply aiA)|(apply qi;omega)|(apply qe;rfl)|exact qj))
   obtain rfl:m=G:=by omega
   have r1:((m:Int)<m)=False:=eq_false (by omega);have p2:bC (pf m) x.col.length=bC (cvN l (i+1)) x.col.length:=qaA fun k _=>by
    rw[hcs,hpf];dsimp only;have e1:decide ((F:Int)≤(k:Int))=decide (F≤k):=decide_eq_decide.2 (by omega);have e2:decide ((k:Int)<(m:Int))=decide (k<m):=decide_eq_decide.2 (by omega);rw[e1,e2]
   rw[p2];simp (disch:=omega) only[r1,go_sem];refine hK _ _ (i+1,.mem (qq (some O)+1) 83 [.int .i64 (F:Int),.int .i64 (m:Int),zx u.rds]) ⟨hi,rfl,hst1 rfl⟩ (by simp only;omega) (Wk.temps ?_)
   (simp only[qy,unC,go_sem,qh,qd,qa,qg];try (repeat' first|(with_reducible apply aiA)|(apply qi;omega)|(apply qe;rfl)|exact qj))
  have t2:((0:Int)<i)=True:=eq_true (by omega);have hm:((i:Int)-1)=((i-1:Nat):Int):=by omega
  have m1:(((i-1:Nat):Int)<l.length)=True:=eq_true (by omega);have m0:(0≤((i-1:Nat):Int))=True:=eq_true (by omega);have b4: ¬(F:Int)≤(l.getD (i-1) default).to:=fun hc=>a4 ⟨b0,hc⟩
  obtain⟨u0,hu0⟩: ∃u0,u0=l.getD (i-1) default:=⟨_,rfl⟩
  have eu0:=hu0.symm;rw[eu0]at b4;have q4:((F:Int)≤u0.to)=False:=eq_false b4;cases z with
  |false=>
   rw[hst2 rfl];simp (disch:=omega) only[coC,qy,unC,t0,t1,t2,eu,i2',hF,hG,q1,q2,q3,zl,zo,hm,m0,m1,eu0,q4,go_sem]
   repeat' first
    |((first|refine cG (fun e=>c180 _) ?_ ?_|refine cG (fun e=>c179 _) ?_ ?_);exact flk;simp (disch:=omega) only[go_sem])
    |(apply qb;exact rvk;simp only[go_sem];exact qj)
    |with_reducible apply aiA
   all_goals try exact clz
  |true=>
  simp (disch:=omega) only[coC,qy,unC,t0,t1,t2,eu,i2',hF,hG,q1,q2,q3,zl,zo,hm,m0,m1,eu0,q4,go_sem]
  repeat' first
   |((first|refine cG (fun e=>c180 _) ?_ ?_|refine cG (fun e=>c179 _) ?_ ?_);exact flk;simp (disch:=omega) only[go_sem])
   |with_reducible apply aiA
  all_goals try exact clz
  obtain⟨pf,hpf⟩: ∃pf:Nat→Nat→Bool,pf=fun m k=>cvN l i k||(decide (F≤k)&&decide (k<m)):=⟨_,rfl⟩
  have p1:bC (cvN l i) x.col.length=bC (pf F) x.col.length:=qaA fun k _=>by
   rw[hpf];dsimp only
   by_cases h1:F≤k
   ·rw[decide_eq_false (by omega: ¬k<F)];simp
   ·rw[decide_eq_false h1];simp
  rw[p1];refine qm (T:=fun m:Nat=>qI 105 [(1,qy l),(2,.op h.length 1 0),(5,.osl (h.length+1) 1 1 0 x.col.length),(6,.int .i64 i),(7,.op (h.length+2) (qq (some O)+1) 0),(8,.int .i64 m)])
   (H:=fun m=>h++ [.mem 1 26 (coC x),.mem 1 4 (bC (pf m) x.col.length),.mem (qq (some O)+1) 83 [.int .i64 (F:Int),.int .i64 (G:Int),zx u.rds]])
   (inv:=fun m=>F≤m∧m≤G) (m:=fun m=>G-m) F ⟨Nat.le_refl _,by omega⟩ (Wk.temps ?_) ?_
  ·(simp only[qy,unC,go_sem,qh,qd,qa,qg];try (repeat' first|(with_reducible apply aiA)|(apply qi;omega)|(apply qe;rfl)|exact qj))
  rintro m ⟨m1',m2'⟩ K2 hK2
  by_cases hm':m<G
  ·have r1:((m:Int)<G)=True:=eq_true (by omega);have r0:(0≤(m:Int))=True:=eq_true (by omega);have r2:((m:Int)<x.col.length)=True:=eq_true (by omega);have mn:m<x.col.length:=by omega
   have r3:(m<x.col.length)=True:=eq_true mn;have r4:(m+1≤x.col.length)=True:=eq_true mn;have gl:=qaN (pf m) x.col.length;have gs1:=qqv (p:=pf m) mn;have hpn:bC (fun k=>pf m k||decide (k=m)) x.col.length=bC (pf (m+1)) x.col.length:=qaA fun k _=>by
    rw[hpf];dsimp only
    by_cases h1:k=m
    ·subst h1;rw[decide_eq_true (by omega:F≤k),decide_eq_true (by omega:k<k+1)];simp
    ·rw[decide_eq_false h1,Bool.or_false]
     by_cases h2:k<m
     ·rw[decide_eq_true h2,decide_eq_true (by omega:k<m+1)]
     ·rw[decide_eq_false h2,decide_eq_false (by omega: ¬k<m+1)]
   simp (disch:=omega) only[coC,qy,unC,r0,r1,r2,r4,gl,gs1,Nat.mul_one,Nat.zero_add,Int.toNat_natCast,Option.isSome_some,go_sem]
   try rw[hpn]
   refine hK2 _ _ (m+1) ⟨by omega,hm'⟩ (by omega) (Wk.temps ?_)
   (simp only[qy,unC,go_sem,qh,qd,qa,qg];try (repeat' first|(with_reducible apply aiA)|(apply qi;omega)|(apply qe;rfl)|exact qj))
  obtain rfl:m=G:=by omega
  have r1:((m:Int)<m)=False:=eq_false (by omega);have p2:bC (pf m) x.col.length=bC (cvN l (i+1)) x.col.length:=qaA fun k _=>by
   rw[hcs,hpf];dsimp only;have e1:decide ((F:Int)≤(k:Int))=decide (F≤k):=decide_eq_decide.2 (by omega);have e2:decide ((k:Int)<(m:Int))=decide (k<m):=decide_eq_decide.2 (by omega);rw[e1,e2]
  rw[p2];simp (disch:=omega) only[r1,go_sem];refine hK _ _ (i+1,.mem (qq (some O)+1) 83 [.int .i64 (F:Int),.int .i64 (m:Int),zx u.rds]) ⟨hi,rfl,hst1 rfl⟩ (by simp only;omega) (Wk.temps ?_)
  (simp only[qy,unC,go_sem,qh,qd,qa,qg];try (repeat' first|(with_reducible apply aiA)|(apply qi;omega)|(apply qe;rfl)|exact qj))
 have t1:((i:Int)<l.length)=False:=eq_false (by omega);obtain rfl:i=l.length:=by omega
 rw[qn.2 fun j hj=>by rw[i3 j hj];rfl]at hR;clear hK;simp (disch:=omega) only[qy,t1,zl,zo,coC,go_sem];refine qm (T:=fun k:Nat=>qI 105 [(2,.op h.length 1 0),(5,.osl (h.length+1) 1 1 0 x.col.length),(9,.int .i64 k)])
  (H:=fun _=>h++ [.mem 1 26 (coC x),.mem 1 4 (bC (cvN l l.length) x.col.length),O])
  (inv:=fun k=>k≤x.col.length∧ ∀j,j<k→(!cvB l j&& !cmB x j)=false) (m:=fun k=>x.col.length-k) 0 ⟨Nat.zero_le _,fun j hj=>absurd hj (Nat.not_lt_zero j)⟩ (Wk.temps ?_) ?_
 ·(simp only[go_sem,qh,qd,qa,qg];try (repeat' first|(with_reducible apply aiA)|(apply qi;omega)|(apply qe;rfl)|exact qj))
 rintro k ⟨k1',k2'⟩ K hK
 by_cases hk:k<x.col.length
 ·have t1:((k:Int)<x.col.length)=True:=eq_true (by omega);have t0:(0≤(k:Int))=True:=eq_true (by omega);have r3:(k<x.col.length)=True:=eq_true hk;have r4:(k+1≤x.col.length)=True:=eq_true hk;have gl:=qaN (cvN l l.length) x.col.length;have gg:=qgp (p:=cvN l l.length) hk;rw[qsL]at gg;have c181:=fun h=>qCM x k h ho hk
  have hno:(!cvB l k&& !cmB x k)=true→R=20:=fun hx=>by
   rw[hR,qv.2 ⟨k,hk,hx⟩];rfl
  have hS:(!cvB l k&& !cmB x k)=false→ ∀j,j<k+1→(!cvB l j&& !cmB x j)=false:=fun hx j hj=>by
   by_cases e:j=k
   ·subst e;exact hx
   ·exact k2' j (by omega)
  obtain⟨A,hA⟩: ∃A,A=cvB l k:=⟨_,rfl⟩
  obtain⟨B,hB⟩: ∃B,B=cmB x k:=⟨_,rfl⟩
  rw[←hA,←hB]at hno hS;rw[←hA]at gg;simp only[←hB]at c181;obtain⟨c,hcx⟩: ∃c,c=x.col.getD k []:=⟨_,rfl⟩
  have ec:=hcx.symm;simp only[ec]at c181;unfold coC at c181;have zc:qr x.col= .sl x.col.length fun i=> [ql (x.col.getD i [])]:=rfl
  cases A with
  |true=>
   simp (disch:=omega) only[coC,zc,t0,t1,r3,gl,gg,ec,Nat.mul_one,Nat.zero_add,Int.toNat_natCast,Option.isSome_some,Option.getD_some,go_sem]
   repeat' first
    |(refine qk ( .bool false) ?_;simp (disch:=omega) only[go_sem])
    |with_reducible apply aiA
   all_goals try exact clz
   refine hK _ _ (k+1) ⟨hk,hS rfl⟩ (by omega) (Wk.temps ?_)
   (simp only[go_sem,qh,qd,qa,qg];try (repeat' first|(with_reducible apply aiA)|(apply qi;omega)|(apply qe;rfl)|exact qj))
  |false=>
   cases B with
   |true=>
    simp (disch:=omega) only[coC,zc,t0,t1,r3,gl,gg,ec,Nat.mul_one,Nat.zero_add,Int.toNat_natCast,Option.isSome_some,Option.getD_some,go_sem]
    repeat' first
     |(refine cG (fun e=>c181 _) ?_ ?_;exact flk;simp (disch:=omega) only[go_sem])
     |with_reducible apply aiA
    all_goals try exact clz
    refine hK _ _ (k+1) ⟨hk,hS rfl⟩ (by omega) (Wk.temps ?_)
    (simp only[go_sem,qh,qd,qa,qg];try (repeat' first|(with_reducible apply aiA)|(apply qi;omega)|(apply qe;rfl)|exact qj))
   |false=>
    rw[hno rfl];simp (disch:=omega) only[coC,zc,t0,t1,r3,gl,gg,ec,Nat.mul_one,Nat.zero_add,Int.toNat_natCast,Option.isSome_some,Option.getD_some,go_sem]
    repeat' first
     |(refine cG (fun e=>c181 _) ?_ ?_;exact flk;simp (disch:=omega) only[go_sem])
     |(apply qb;exact rvk;simp only[go_sem];exact qj)
     |with_reducible apply aiA
    all_goals try exact clz
 have t1:((k:Int)<x.col.length)=False:=eq_false (by omega);have hV:R=0:=by
  rw[hR,qn.2 fun j hj=>k2' j (by omega)];rfl
 rw[hV];simp (disch:=omega) only[t1,zl,zo,coC,go_sem]
 repeat' first
  |(apply qb;exact rvk;simp only[go_sem];exact qj)
  |with_reducible apply aiA
 all_goals try exact clz
theorem qql{x:Co}{l:List Un}{w b:Wd}{f:Bool}(h:w.text= []∨64<w.text.length):wdE x l w b f=11:=if_pos h
theorem qnx{x:Co}{l:List Un}{w b:Wd}{f:Bool}(h1: ¬(w.text= []∨64<w.text.length))(h:w.col<0∨(x.col.length:Int)≤w.col∨(f=false∧w.col<b.col)):wdE x l w b f=19:=by
 unfold wdE;rw[if_neg h1,if_pos h]
theorem qzx{x:Co}{l:List Un}{w b:Wd}{f:Bool}(h1: ¬(w.text= []∨64<w.text.length))(h2: ¬(w.col<0∨(x.col.length:Int)≤w.col∨(f=false∧w.col<b.col)))(h:fnU l w.col≠w.unit):wdE x l w b f=20:=by
 unfold wdE;rw[if_neg h1,if_neg h2,if_pos h];split<;>rfl
theorem qiW{x:Co}{l:List Un}{w b:Wd}{f:Bool}(h1: ¬(w.text= []∨64<w.text.length))(h2: ¬(w.col<0∨(x.col.length:Int)≤w.col∨(f=false∧w.col<b.col)))(h3:fnU l w.col=w.unit)
  (h:w.dec< -1∨(0≤w.dec∧w.unit<0)∨(f=false∧0≤w.unit∧w.unit=b.unit∧w.dec≠b.dec)):wdE x l w b f=2:=by
 have:=qfz l w.col
 unfold wdE;rw[if_neg h1,if_neg h2,if_neg (by omega),if_neg (fun hc=>hc h3),if_pos];rcases h with h|h|h
 ·exact .inl h
 ·exact .inr (.inl ⟨h.2,by omega⟩)
 ·exact .inr (.inr h)
theorem qe8{x:Co}{l:List Un}{w b:Wd}{f:Bool}(h1: ¬(w.text= []∨64<w.text.length))(h2: ¬(w.col<0∨(x.col.length:Int)≤w.col∨(f=false∧w.col<b.col)))(h3:fnU l w.col=w.unit)
  (h: ¬(w.dec< -1∨(0≤w.dec∧w.unit<0)∨(f=false∧0≤w.unit∧w.unit=b.unit∧w.dec≠b.dec))):wdE x l w b f=0:=by
 have:=qfz l w.col
 unfold wdE;rw[if_neg h1,if_neg h2,if_neg (by omega),if_neg (fun hc=>hc h3),if_neg];rintro (g|g|g)
 ·exact h (.inl g)
 ·exact h (.inr (.inl ⟨by omega,g.1⟩))
 ·exact h (.inr (.inr g))
theorem qBb(x:Co)(l:List Un)(b:List Wd)(h:List AObj)(hz:qnz x)(hu:qrB l)(hb:b.length≤1000000000)(ht: ∀i,(b.getD i default).text.length≤1000000000)(hp:qaz SG h):
  ACalls Tryz.prog 39 [.agg (coC x),qy l,qU b] h (.int .i64 (pvE x l b)) h:=by
 have c1:=fun l'=>qBr x l (h++l') hz hu (hp.app l')
 obtain⟨R,hR⟩: ∃R,R=pvE x l b:=⟨_,rfl⟩
 rw[←hR];unfold pvE at hR
 by_cases g:vaE x l=0
 case neg=>
  have k1:(vaE x l=0)=False:=eq_false g;rw[if_pos g]at hR;rw[hR];obtain⟨e,he⟩: ∃e,e=vaE x l:=⟨_,rfl⟩
  rw[←he]at c1 k1 ⊢;unfold coC at c1;refine acO qx2 ?_;simp (disch:=omega) only[qAe,coC,go_sem]
  repeat' first
   |(refine cA (c1 _) ?_ ?_;exact flk;simp (disch:=omega) only[k1,go_sem])
   |(apply qb;exact rvk;simp only[go_sem];exact qj)
 rw[if_neg (fun hc=>hc g)]at hR;rw[g]at c1;unfold coC at c1;have hv:coE x=0∧qi0 x l=true∧cvA x l=true:=by
  unfold vaE at g;split at g
  ·cases g
  rename_i g1;split at g
  ·cases g
  rename_i g2;have g2:rgB x l=true:=by simpa using g2
  unfold rgB at g2;rw[Bool.and_eq_true]at g2;exact⟨Classical.not_not.1 g1,g2⟩
 have ho:=qc6 hv.1;have hcl:=hz.cl;have zl: ∀g,valL g .len [qr x.col]= .int .i64 x.col.length:=fun _=>rfl
 have zo: ∀g,okL g .len [qr x.col]=True:=fun _=>eq_true trivial
 have zw:qU b= .sl b.length fun i=>wdC (b.getD i default):=rfl
 refine acO qx2 ?_;simp (disch:=omega) only[qAe,coC,zw,go_sem]
 repeat' first
  |(refine cA (c1 _) ?_ ?_;exact flk;simp (disch:=omega) only[go_sem])
 obtain⟨wa,hwa⟩: ∃f:Nat→Int,f=qnw x l b:=⟨_,rfl⟩
 rw[←hwa]at hR;have hwd: ∀i,wa i=wdE x l (b.getD i default) (qgt b i) (decide (i=0)):=fun i=>by rw[hwa];rfl
 refine qm (T:=fun i:Nat×AObj=>qI 175 [(1,qy l),(2,qU b),(3,.op h.length 1 0),(8,.int .i64 i.1)])
  (H:=fun i=>h++ [.mem 1 26 (coC x),i.2])
  (inv:=fun i=>i.1≤b.length∧qz [i.2] 0=true∧ ∀j,j<i.1→wa j=0) (m:=fun i=>b.length-i.1) (0,.emp 0) ⟨Nat.zero_le _,rfl,fun j hj=>absurd hj (Nat.not_lt_zero j)⟩ (Wk.temps ?_) ?_
 ·(simp only[zw,qy,go_sem,qh,qd,qa,qg];try (repeat' first|(with_reducible apply aiA)|(apply qi;omega)|(apply qe;rfl)|exact qj))
 rintro⟨i,O⟩ ⟨i1,i2,i3⟩ K hK;simp only at i1 i2 i3 hK;have i2': ∀m,qz (O::m) 0=true:=fun _=>i2
 by_cases hi:i<b.length
 ·have t1:((i:Int)<b.length)=True:=eq_true (by omega);have t0:(0≤(i:Int))=True:=eq_true (by omega);have hE:=zr (f:=wa) hi i3;have hS:wa i=0→ ∀j,j<i+1→wa j=0:=fun hx j hj=>by
   by_cases e:j=i
   ·subst e;exact hx
   ·exact i3 j (by omega)
  have hbad: ∀e:Int,e≠0→wa i=e→R=e:=fun e he hx=>by
   rw[hR,if_pos (by rw[hE (by rw[hx];exact he),hx];exact he),hE (by rw[hx];exact he),hx]
  have hw:=hwd i;obtain⟨w,hwx⟩: ∃w,w=b.getD i default:=⟨_,rfl⟩
  have ew:=hwx.symm;rw[ew]at hw;have c3:=fun h=>qCa l w.col h hu.n
  have eF:0≤w.col→fnR l w.col=fnU l w.col:=fun hc=>if_neg (by omega)
  have eE:0≤w.col→fnE w.col=0:=fun hc=>if_neg (by omega)
  have hrg:=qfz l w.col;obtain⟨p,hpx⟩: ∃p,p=fnU l w.col:=⟨_,rfl⟩
  have ep:=hpx.symm
  by_cases b0:i=0
  case pos=>
   have t2:((0:Int)<i)=False:=eq_false (by omega);rw[decide_eq_true b0]at hw
   by_cases a1:w.text= []
   ·have p1:(w.text= [])=True:=eq_true a1;rw[hbad 11 (by decide) (by rw[hw];exact qql (.inl a1))];simp (disch:=omega) only[coC,zw,wdC,t0,t1,ew,i2',zl,zo,t2,p1,go_sem]
    repeat' first
     |(apply qb;exact rvk;simp only[go_sem];exact qj)
   have p1:(w.text= [])=False:=eq_false a1
   by_cases a2:64<w.text.length
   ·have p2:((64:Int)<w.text.length)=True:=eq_true (by omega);rw[hbad 11 (by decide) (by rw[hw];exact qql (.inr a2))];simp (disch:=omega) only[coC,zw,wdC,t0,t1,ew,i2',zl,zo,t2,p1,p2,go_sem]
    repeat' first
     |(apply qb;exact rvk;simp only[go_sem];exact qj)
   have p2:((64:Int)<w.text.length)=False:=eq_false (by omega);have n1: ¬(w.text= []∨64<w.text.length):=fun hc=>hc.elim a1 a2
   by_cases a3:w.col<0
   ·have p3:(w.col<0)=True:=eq_true a3;rw[hbad 19 (by decide) (by rw[hw];exact qnx n1 (.inl a3))];simp (disch:=omega) only[coC,zw,wdC,t0,t1,ew,i2',zl,zo,t2,p1,p2,p3,go_sem]
    repeat' first
     |(apply qb;exact rvk;simp only[go_sem];exact qj)
   have p3:(w.col<0)=False:=eq_false a3
   by_cases a4:(x.col.length:Int)≤w.col
   ·have p4:((x.col.length:Int)≤w.col)=True:=eq_true a4;rw[hbad 19 (by decide) (by rw[hw];exact qnx n1 (.inr (.inl a4)))];simp (disch:=omega) only[coC,zw,wdC,t0,t1,ew,i2',zl,zo,t2,p1,p2,p3,p4,go_sem]
    repeat' first
     |(apply qb;exact rvk;simp only[go_sem];exact qj)
     |with_reducible apply aiA
    all_goals try exact clz
   have p4:((x.col.length:Int)≤w.col)=False:=eq_false a4;have n2: ¬(w.col<0∨(x.col.length:Int)≤w.col∨(true=false∧w.col<(qgt b i).col)):=by simp only[Bool.true_eq_false,false_and,or_false];omega
   have eF:=eF (by omega);have eE:=eE (by omega);rw[ep]at eF;simp only[eF,eE]at c3
   by_cases a6:w.unit=p
   case neg=>
    have p6:(w.unit=p)=False:=eq_false a6;rw[hbad 20 (by decide) (by rw[hw];exact qzx n1 n2 (by rw[ep];omega))];simp (disch:=omega) only[coC,zw,wdC,t0,t1,ew,i2',zl,zo,t2,p1,p2,p3,p4,go_sem]
    repeat' first
     |(refine cA (c3 _) ?_ ?_;exact flk;simp (disch:=omega) only[t2,p6,go_sem])
     |(apply qb;exact rvk;simp only[go_sem];first|exact qj|apply qi)
     |with_reducible first|intro _|apply aiA
    all_goals try exact clz
   have p6:(w.unit=p)=True:=eq_true a6;have n3:fnU l w.col=w.unit:=by rw[ep];exact a6.symm
   by_cases a7:w.dec< -1
   ·have p7:(w.dec< -1)=True:=eq_true a7;rw[hbad 2 (by decide) (by rw[hw];exact qiW n1 n2 n3 (.inl a7))];simp (disch:=omega) only[coC,zw,wdC,t0,t1,ew,i2',zl,zo,t2,p1,p2,p3,p4,go_sem]
    repeat' first
     |(refine cA (c3 _) ?_ ?_;exact flk;simp (disch:=omega) only[t2,p6,p7,go_sem])
     |(apply qb;exact rvk;simp only[go_sem];first|exact qj|apply qi)
     |with_reducible first|intro _|apply aiA
    all_goals try exact clz
   have p7:(w.dec< -1)=False:=eq_false a7
   by_cases a8:0≤w.dec
   ·have p8:(0≤w.dec)=True:=eq_true a8;have p8':(w.dec<0)=False:=eq_false (by omega)
    by_cases a9:w.unit<0
    ·have p9:(w.unit<0)=True:=eq_true a9;rw[hbad 2 (by decide) (by rw[hw];exact qiW n1 n2 n3 (.inr (.inl ⟨a8,a9⟩)))];simp (disch:=omega) only[coC,zw,wdC,t0,t1,ew,i2',zl,zo,t2,p1,p2,p3,p4,go_sem]
     repeat' first
      |(refine cA (c3 _) ?_ ?_;exact flk;simp (disch:=omega) only[t2,p6,p7,p8,p9,go_sem])
      |(apply qb;exact rvk;simp only[go_sem];first|exact qj|apply qi)
      |with_reducible first|intro _|apply aiA
     all_goals try exact clz
    have p9:(w.unit<0)=False:=eq_false a9;have p9':(0≤w.unit)=True:=eq_true (by omega);have hok:wa i=0:=by rw[hw];exact qe8 n1 n2 n3 (by simp only[Bool.true_eq_false,false_and,or_false];omega)
    simp (disch:=omega) only[coC,zw,wdC,t0,t1,ew,i2',zl,zo,t2,p1,p2,p3,p4,go_sem]
    repeat' first
     |(refine cA (c3 _) ?_ ?_;exact flk;simp (disch:=omega) only[t2,p6,p7,p8,p9,p9',go_sem])
     |(apply qb;exact rvk;simp only[go_sem];apply qi)
     |with_reducible first|intro _|apply aiA
    all_goals try exact clz
    refine hK _ _ (i+1,.mem (qq (some O)+1) 64 (wdC w)) ⟨hi,rfl,hS hok⟩ (by simp only;omega) ?_;simp only[wdC];refine Wk.temps ?_
    (simp only[zw,qy,go_sem,qh,qd,qa,qg];try (repeat' first|(with_reducible apply aiA)|(apply qi;omega)|(apply qe;rfl)|exact qj))
   have p8:(0≤w.dec)=False:=eq_false a8;have p8':(w.dec<0)=True:=eq_true (by omega)
   by_cases a9:w.unit<0
   ·have p9:(w.unit<0)=True:=eq_true a9;have p9':(0≤w.unit)=False:=eq_false (by omega);have hok:wa i=0:=by rw[hw];exact qe8 n1 n2 n3 (by simp only[Bool.true_eq_false,false_and,or_false];omega)
    simp (disch:=omega) only[coC,zw,wdC,t0,t1,ew,i2',zl,zo,t2,p1,p2,p3,p4,go_sem]
    repeat' first
     |(refine cA (c3 _) ?_ ?_;exact flk;simp (disch:=omega) only[t2,p6,p7,p8,p9,p9',go_sem])
     |(apply qb;exact rvk;simp only[go_sem];apply qi)
     |with_reducible first|intro _|apply aiA
    all_goals try exact clz
    refine hK _ _ (i+1,.mem (qq (some O)+1) 64 (wdC w)) ⟨hi,rfl,hS hok⟩ (by simp only;omega) ?_;simp only[wdC];refine Wk.temps ?_
    (simp only[zw,qy,go_sem,qh,qd,qa,qg];try (repeat' first|(with_reducible apply aiA)|(apply qi;omega)|(apply qe;rfl)|exact qj))
   have p9:(w.unit<0)=False:=eq_false a9;have p9':(0≤w.unit)=True:=eq_true (by omega);have hok:wa i=0:=by rw[hw];exact qe8 n1 n2 n3 (by simp only[Bool.true_eq_false,false_and,or_false];omega)
   simp (disch:=omega) only[coC,zw,wdC,t0,t1,ew,i2',zl,zo,t2,p1,p2,p3,p4,go_sem]
   repeat' first
    |(refine cA (c3 _) ?_ ?_;exact flk;simp (disch:=omega) only[t2,p6,p7,p8,p9,p9',go_sem])
    |(apply qb;exact rvk;simp only[go_sem];apply qi)
    |with_reducible first|intro _|apply aiA
   all_goals try exact clz
   refine hK _ _ (i+1,.mem (qq (some O)+1) 64 (wdC w)) ⟨hi,rfl,hS hok⟩ (by simp only;omega) ?_;simp only[wdC];refine Wk.temps ?_
   (simp only[zw,qy,go_sem,qh,qd,qa,qg];try (repeat' first|(with_reducible apply aiA)|(apply qi;omega)|(apply qe;rfl)|exact qj))
  have t2:((0:Int)<i)=True:=eq_true (by omega);have hm:((i:Int)-1)=((i-1:Nat):Int):=by omega
  have m1:(((i-1:Nat):Int)<b.length)=True:=eq_true (by omega);have m0:(0≤((i-1:Nat):Int))=True:=eq_true (by omega);have hb1:qgt b i=b.getD (i-1) default:=if_neg b0;rw[hb1,decide_eq_false b0]at hw;obtain⟨w0,hw0⟩: ∃w0,w0=b.getD (i-1) default:=⟨_,rfl⟩
  have ew0:=hw0.symm;rw[ew0]at hw
  by_cases a1:w.text= []
  ·have p1:(w.text= [])=True:=eq_true a1;rw[hbad 11 (by decide) (by rw[hw];exact qql (.inl a1))];simp (disch:=omega) only[coC,zw,wdC,t0,t1,ew,i2',zl,zo,t2,hm,m0,m1,ew0,p1,go_sem]
   repeat' first
    |(apply qb;exact rvk;simp only[go_sem];exact qj)
  have p1:(w.text= [])=False:=eq_false a1
  by_cases a2:64<w.text.length
  ·have p2:((64:Int)<w.text.length)=True:=eq_true (by omega);rw[hbad 11 (by decide) (by rw[hw];exact qql (.inr a2))];simp (disch:=omega) only[coC,zw,wdC,t0,t1,ew,i2',zl,zo,t2,hm,m0,m1,ew0,p1,p2,go_sem]
   repeat' first
    |(apply qb;exact rvk;simp only[go_sem];exact qj)
  have p2:((64:Int)<w.text.length)=False:=eq_false (by omega);have n1: ¬(w.text= []∨64<w.text.length):=fun hc=>hc.elim a1 a2
  by_cases a3:w.col<0
  ·have p3:(w.col<0)=True:=eq_true a3;rw[hbad 19 (by decide) (by rw[hw];exact qnx n1 (.inl a3))];simp (disch:=omega) only[coC,zw,wdC,t0,t1,ew,i2',zl,zo,t2,hm,m0,m1,ew0,p1,p2,p3,go_sem]
   repeat' first
    |(apply qb;exact rvk;simp only[go_sem];exact qj)
  have p3:(w.col<0)=False:=eq_false a3
  by_cases a4:(x.col.length:Int)≤w.col
  ·have p4:((x.col.length:Int)≤w.col)=True:=eq_true a4;rw[hbad 19 (by decide) (by rw[hw];exact qnx n1 (.inr (.inl a4)))];simp (disch:=omega) only[coC,zw,wdC,t0,t1,ew,i2',zl,zo,t2,hm,m0,m1,ew0,p1,p2,p3,p4,go_sem]
   repeat' first
    |(apply qb;exact rvk;simp only[go_sem];exact qj)
    |with_reducible apply aiA
   all_goals try exact clz
  have p4:((x.col.length:Int)≤w.col)=False:=eq_false a4
  by_cases a5:w.col<w0.col
  ·have p5:(w.col<w0.col)=True:=eq_true a5;rw[hbad 19 (by decide) (by rw[hw];exact qnx n1 (.inr (.inr ⟨rfl,a5⟩)))];simp (disch:=omega) only[coC,zw,wdC,t0,t1,ew,i2',zl,zo,t2,hm,m0,m1,ew0,p1,p2,p3,p4,p5,go_sem]
   repeat' first
    |(apply qb;exact rvk;simp only[go_sem];exact qj)
    |with_reducible apply aiA
   all_goals try exact clz
  have p5:(w.col<w0.col)=False:=eq_false a5;have n2: ¬(w.col<0∨(x.col.length:Int)≤w.col∨(false=false∧w.col<w0.col)):=by omega
  have eF:=eF (by omega);have eE:=eE (by omega);rw[ep]at eF;simp only[eF,eE]at c3
  by_cases a6:w.unit=p
  case neg=>
   have p6:(w.unit=p)=False:=eq_false a6;rw[hbad 20 (by decide) (by rw[hw];exact qzx n1 n2 (by rw[ep];omega))];simp (disch:=omega) only[coC,zw,wdC,t0,t1,ew,i2',zl,zo,t2,hm,m0,m1,ew0,p1,p2,p3,p4,p5,go_sem]
   repeat' first
    |(refine cA (c3 _) ?_ ?_;exact flk;simp (disch:=omega) only[t2,hm,m0,m1,ew0,p6,go_sem])
    |(apply qb;exact rvk;simp only[go_sem];exact qj)
    |with_reducible apply aiA
   all_goals try exact clz
  have p6:(w.unit=p)=True:=eq_true a6;have n3:fnU l w.col=w.unit:=by rw[ep];exact a6.symm
  by_cases a7:w.dec< -1
  ·have p7:(w.dec< -1)=True:=eq_true a7;rw[hbad 2 (by decide) (by rw[hw];exact qiW n1 n2 n3 (.inl a7))];simp (disch:=omega) only[coC,zw,wdC,t0,t1,ew,i2',zl,zo,t2,hm,m0,m1,ew0,p1,p2,p3,p4,p5,go_sem]
   repeat' first
    |(refine cA (c3 _) ?_ ?_;exact flk;simp (disch:=omega) only[t2,hm,m0,m1,ew0,p6,p7,go_sem])
    |(apply qb;exact rvk;simp only[go_sem];exact qj)
    |with_reducible apply aiA
   all_goals try exact clz
  have p7:(w.dec< -1)=False:=eq_false a7
  by_cases a8:0≤w.dec
  ·have p8:(0≤w.dec)=True:=eq_true a8;have p8':(w.dec<0)=False:=eq_false (by omega)
   by_cases a9:w.unit<0
   ·have p9:(w.unit<0)=True:=eq_true a9;rw[hbad 2 (by decide) (by rw[hw];exact qiW n1 n2 n3 (.inr (.inl ⟨a8,a9⟩)))];simp (disch:=omega) only[coC,zw,wdC,t0,t1,ew,i2',zl,zo,t2,hm,m0,m1,ew0,p1,p2,p3,p4,p5,go_sem]
    repeat' first
     |(refine cA (c3 _) ?_ ?_;exact flk;simp (disch:=omega) only[t2,hm,m0,m1,ew0,p6,p7,p8,p9,go_sem])
     |(apply qb;exact rvk;simp only[go_sem];exact qj)
     |with_reducible apply aiA
    all_goals try exact clz
   have p9:(w.unit<0)=False:=eq_false a9;have p9':(0≤w.unit)=True:=eq_true (by omega)
   by_cases a10:w0.unit=w.unit
   case neg=>
    have p10:(w0.unit=w.unit)=False:=eq_false a10;have p10':(w0.unit=p)=False:=eq_false (by omega);have hok:wa i=0:=by rw[hw];exact qe8 n1 n2 n3 (by omega)
    simp (disch:=omega) only[coC,zw,wdC,t0,t1,ew,i2',zl,zo,t2,hm,m0,m1,ew0,p1,p2,p3,p4,p5,go_sem]
    repeat' first
     |(refine cA (c3 _) ?_ ?_;exact flk;simp (disch:=omega) only[t2,hm,m0,m1,ew0,p6,p7,p8,p9,p9',p10,go_sem])
     |(apply qb;exact rvk;simp only[go_sem];apply qi)
     |with_reducible first|intro _|apply aiA
    all_goals try exact clz
    refine hK _ _ (i+1,.mem (qq (some O)+1) 64 (wdC w)) ⟨hi,rfl,hS hok⟩ (by simp only;omega) ?_;simp only[wdC];refine Wk.temps ?_
    (simp only[zw,qy,go_sem,qh,qd,qa,qg];try (repeat' first|(with_reducible apply aiA)|(apply qi;omega)|(apply qe;rfl)|exact qj))
   have p10:(w0.unit=w.unit)=True:=eq_true a10;have p10':(w0.unit=p)=True:=eq_true (by omega)
   by_cases a11:w0.dec=w.dec
   ·have p11:(w0.dec=w.dec)=True:=eq_true a11;have hok:wa i=0:=by rw[hw];exact qe8 n1 n2 n3 (by omega)
    simp (disch:=omega) only[coC,zw,wdC,t0,t1,ew,i2',zl,zo,t2,hm,m0,m1,ew0,p1,p2,p3,p4,p5,go_sem]
    repeat' first
     |(refine cA (c3 _) ?_ ?_;exact flk;simp (disch:=omega) only[t2,hm,m0,m1,ew0,p6,p7,p8,p9,p9',p10,p11,go_sem])
     |with_reducible apply aiA
    all_goals try exact clz
    refine hK _ _ (i+1,.mem (qq (some O)+1) 64 (wdC w)) ⟨hi,rfl,hS hok⟩ (by simp only;omega) ?_;simp only[wdC];refine Wk.temps ?_
    (simp only[zw,qy,go_sem,qh,qd,qa,qg];try (repeat' first|(with_reducible apply aiA)|(apply qi;omega)|(apply qe;rfl)|exact qj))
   have p11:(w0.dec=w.dec)=False:=eq_false a11;rw[hbad 2 (by decide) (by rw[hw];exact qiW n1 n2 n3 (.inr (.inr ⟨rfl,by omega,by omega,by omega⟩)))];simp (disch:=omega) only[coC,zw,wdC,t0,t1,ew,i2',zl,zo,t2,hm,m0,m1,ew0,p1,p2,p3,p4,p5,go_sem]
   repeat' first
    |(refine cA (c3 _) ?_ ?_;exact flk;simp (disch:=omega) only[t2,hm,m0,m1,ew0,p6,p7,p8,p9,p9',p10,p11,go_sem])
    |(apply qb;exact rvk;simp only[go_sem];exact qj)
    |with_reducible apply aiA
   all_goals try exact clz
  have p8:(0≤w.dec)=False:=eq_false a8;have p8':(w.dec<0)=True:=eq_true (by omega)
  by_cases a9:w.unit<0
  ·have p9:(w.unit<0)=True:=eq_true a9;have p9':(0≤w.unit)=False:=eq_false (by omega);have hok:wa i=0:=by rw[hw];exact qe8 n1 n2 n3 (by omega)
   simp (disch:=omega) only[coC,zw,wdC,t0,t1,ew,i2',zl,zo,t2,hm,m0,m1,ew0,p1,p2,p3,p4,p5,go_sem]
   repeat' first
    |(refine cA (c3 _) ?_ ?_;exact flk;simp (disch:=omega) only[t2,hm,m0,m1,ew0,p6,p7,p8,p9,p9',go_sem])
    |(apply qb;exact rvk;simp only[go_sem];apply qi)
    |with_reducible first|intro _|apply aiA
   all_goals try exact clz
   refine hK _ _ (i+1,.mem (qq (some O)+1) 64 (wdC w)) ⟨hi,rfl,hS hok⟩ (by simp only;omega) ?_;simp only[wdC];refine Wk.temps ?_
   (simp only[zw,qy,go_sem,qh,qd,qa,qg];try (repeat' first|(with_reducible apply aiA)|(apply qi;omega)|(apply qe;rfl)|exact qj))
  have p9:(w.unit<0)=False:=eq_false a9;have p9':(0≤w.unit)=True:=eq_true (by omega)
  by_cases a10:w0.unit=w.unit
  case neg=>
   have p10:(w0.unit=w.unit)=False:=eq_false a10;have p10':(w0.unit=p)=False:=eq_false (by omega);have hok:wa i=0:=by rw[hw];exact qe8 n1 n2 n3 (by omega)
   simp (disch:=omega) only[coC,zw,wdC,t0,t1,ew,i2',zl,zo,t2,hm,m0,m1,ew0,p1,p2,p3,p4,p5,go_sem]
   repeat' first
    |(refine cA (c3 _) ?_ ?_;exact flk;simp (disch:=omega) only[t2,hm,m0,m1,ew0,p6,p7,p8,p9,p9',p10,go_sem])
    |(apply qb;exact rvk;simp only[go_sem];apply qi)
    |with_reducible first|intro _|apply aiA
   all_goals try exact clz
   refine hK _ _ (i+1,.mem (qq (some O)+1) 64 (wdC w)) ⟨hi,rfl,hS hok⟩ (by simp only;omega) ?_;simp only[wdC];refine Wk.temps ?_
   (simp only[zw,qy,go_sem,qh,qd,qa,qg];try (repeat' first|(with_reducible apply aiA)|(apply qi;omega)|(apply qe;rfl)|exact qj))
  have p10:(w0.unit=w.unit)=True:=eq_true a10;have p10':(w0.unit=p)=True:=eq_true (by omega)
  by_cases a11:w0.dec=w.dec
  ·have p11:(w0.dec=w.dec)=True:=eq_true a11;have hok:wa i=0:=by rw[hw];exact qe8 n1 n2 n3 (by omega)
   simp (disch:=omega) only[coC,zw,wdC,t0,t1,ew,i2',zl,zo,t2,hm,m0,m1,ew0,p1,p2,p3,p4,p5,go_sem]
   repeat' first
    |(refine cA (c3 _) ?_ ?_;exact flk;simp (disch:=omega) only[t2,hm,m0,m1,ew0,p6,p7,p8,p9,p9',p10,p11,go_sem])
    |with_reducible apply aiA
   all_goals try exact clz
   refine hK _ _ (i+1,.mem (qq (some O)+1) 64 (wdC w)) ⟨hi,rfl,hS hok⟩ (by simp only;omega) ?_;simp only[wdC];refine Wk.temps ?_
   (simp only[zw,qy,go_sem,qh,qd,qa,qg];try (repeat' first|(with_reducible apply aiA)|(apply qi;omega)|(apply qe;rfl)|exact qj))
  have p11:(w0.dec=w.dec)=False:=eq_false a11;rw[hbad 2 (by decide) (by rw[hw];exact qiW n1 n2 n3 (.inr (.inr ⟨rfl,by omega,by omega,by omega⟩)))];simp (disch:=omega) only[coC,zw,wdC,t0,t1,ew,i2',zl,zo,t2,hm,m0,m1,ew0,p1,p2,p3,p4,p5,go_sem]
  repeat' first
   |(refine cA (c3 _) ?_ ?_;exact flk;simp (disch:=omega) only[t2,hm,m0,m1,ew0,p6,p7,p8,p9,p9',p10,p11,go_sem])
   |(apply qb;exact rvk;simp only[go_sem];exact qj)
   |with_reducible apply aiA
  all_goals try exact clz
 have t1:((i:Int)<b.length)=False:=eq_false (by omega);obtain rfl:i=b.length:=by omega
 have hn0:=qP (f:=wa) (fun j (hj:j<b.length)=>i3 j hj);rw[if_neg (fun hc=>hc hn0)]at hR;clear hK;simp (disch:=omega) only[coC,zw,t1,i2',go_sem];obtain⟨cb,hcb⟩: ∃f:Nat→Int,f=qz1 x l b:=⟨_,rfl⟩
 rw[←hcb]at hR;have hto:0<x.tok.length:=by have:=ho.tn;have:=ho.sg;omega
 refine qm (T:=fun k:Nat=>qI 175 [(1,qy l),(2,qU b),(3,.op h.length 1 0),(12,.int .i64 k)])
  (H:=fun _=>h++ [.mem 1 26 (coC x),O])
  (inv:=fun k=>k≤x.col.length∧ ∀j,j<k→cb j=0) (m:=fun k=>x.col.length-k) 0 ⟨Nat.zero_le _,fun j hj=>absurd hj (Nat.not_lt_zero j)⟩ (Wk.temps ?_) ?_
 ·(simp only[zw,qy,go_sem,qh,qd,qa,qg];try (repeat' first|(with_reducible apply aiA)|(apply qi;omega)|(apply qe;rfl)|exact qj))
 rintro k ⟨k1,k2⟩ K hK
 by_cases hk:k<x.col.length
 ·have t1:((k:Int)<x.col.length)=True:=eq_true (by omega);have t0:(0≤(k:Int))=True:=eq_true (by omega);have hE:=zr (f:=cb) hk k2;have hS:cb k=0→ ∀j,j<k+1→cb j=0:=fun hx j hj=>by
   by_cases e:j=k
   ·subst e;exact hx
   ·exact k2 j (by omega)
  have hci:cb k=if 0≤fnU l (k:Int) then 0 else if ccB x b k=true then 0 else 9:=by rw[hcb];rfl
  have hcc:=qwy x b k;have hto2:= @qlQ x l ho hv.2.2 k hk;have eF:fnR l (k:Int)=fnU l (k:Int):=if_neg (by omega);have eE:fnE (k:Int)=0:=if_neg (by omega);have c3:=fun h=>qCa l (k:Int) h hu.n
  simp only[eF,eE]at c3;have htx:txA x k=((x.tok.getD 0 []).getD ((x.col.getD k []).getD 0 0).toNat default).text:=rfl;have hcl0:=ho.cl k hk;obtain⟨c,hcx⟩: ∃c,c=x.col.getD k []:=⟨_,rfl⟩
  have ec:=hcx.symm;rw[ec]at hto2 htx hcl0;obtain⟨t,htt⟩: ∃t,t=c.getD 0 0:=⟨_,rfl⟩
  have et:=htt.symm;rw[et]at hto2 htx;obtain⟨tk,htk⟩: ∃tk,tk=x.tok.getD 0 []:=⟨_,rfl⟩
  have etk:=htk.symm;rw[etk]at hto2 htx;obtain⟨p,hpx⟩: ∃p,p=fnU l (k:Int):=⟨_,rfl⟩
  rw[←hpx]at hci hto2;simp only[←hpx]at c3
  by_cases g1:0≤p
  ·have q4:(0≤p)=True:=eq_true g1;rw[if_pos g1]at hci;simp (disch:=omega) only[coC,t1,zl,zo,go_sem]
   repeat' first
    |(refine cA (c3 _) ?_ ?_;exact flk;simp (disch:=omega) only[q4,go_sem])
    |with_reducible apply aiA
   all_goals try exact clz
   refine hK _ _ (k+1) ⟨hk,hS hci⟩ (by omega) (Wk.temps ?_)
   (simp only[zw,qy,go_sem,qh,qd,qa,qg];try (repeat' first|(with_reducible apply aiA)|(apply qi;omega)|(apply qe;rfl)|exact qj))
  have q4:(0≤p)=False:=eq_false g1;rw[if_neg g1]at hci;obtain⟨o1,o2⟩:=hto2 (by omega);have q5:(0≤t)=True:=eq_true o1;have q6:(t<tk.length)=True:=eq_true o2;have q7:((0:Int)<c.length)=True:=eq_true (by have:=ho.sg;omega);have q8:((0:Int)<x.tok.length)=True:=eq_true (by omega);have z0:Int.toNat 0=0:=rfl;obtain⟨tt,htt2⟩: ∃tt,tt=tk.getD t.toNat default:=⟨_,rfl⟩
  have ett:=htt2.symm;rw[ett]at htx;rw[htx]at hcc;simp (disch:=omega) only[coC,t1,zl,zo,go_sem]
  repeat' first
   |(refine cA (c3 _) ?_ ?_;exact flk;simp (disch:=omega) only[q4,go_sem])
   |with_reducible apply aiA
  all_goals try exact clz
  refine qm (T:=fun i:Nat=>qI 175 [(1,qy l),(2,qU b),(3,.op h.length 1 0),(12,.int .i64 k),(15,.int .i64 (cW b (k:Int) i:Int)),(16,.int .i64 i)])
   (H:=fun _=>h++ [.mem 1 26 (coC x),O])
   (inv:=fun i=>i≤b.length∧ ∀j,j<i→(decide ((b.getD j default).col=(k:Int))&& !decide ((b.getD j default).text=tt.text))=false) (m:=fun i=>b.length-i) 0 ⟨Nat.zero_le _,fun j hj=>absurd hj (Nat.not_lt_zero j)⟩ (Wk.temps ?_) ?_
  ·(simp only[zw,qy,cW,go_sem,qh,qd,qa,qg];try (repeat' first|(with_reducible apply aiA)|(apply qi;omega)|(apply qe;rfl)|exact qj))
  rintro i ⟨m1,m2⟩ K2 hK2
  by_cases hi:i<b.length
  ·have r1:((i:Int)<b.length)=True:=eq_true (by omega);have r0:(0≤(i:Int))=True:=eq_true (by omega);have hle:=qws b (k:Int) i;have hcs:cW b (k:Int) (i+1)=cW b (k:Int) i+if (b.getD i default).col=(k:Int) then 1 else 0:=rfl
   have hS2:(decide ((b.getD i default).col=(k:Int))&& !decide ((b.getD i default).text=tt.text))=false→ ∀j,j<i+1→(decide ((b.getD j default).col=(k:Int))&& !decide ((b.getD j default).text=tt.text))=false:=fun hx j hj=>by
    by_cases e:j=i
    ·subst e;exact hx
    ·exact m2 j (by omega)
   have hno:(decide ((b.getD i default).col=(k:Int))&& !decide ((b.getD i default).text=tt.text))=true→R=9:=fun hx=>by
    have h9:cb k=9:=by
     rw[hci,if_neg];rw[hcc,qv.2 ⟨i,hi,hx⟩];simp
    rw[hR,hE (by rw[h9];decide),h9]
   obtain⟨w,hwx⟩: ∃w,w=b.getD i default:=⟨_,rfl⟩
   have ew:=hwx.symm;rw[ew]at hcs hS2 hno;obtain⟨N,hN⟩: ∃N,N=cW b (k:Int) i:=⟨_,rfl⟩
   rw[←hN]at hle hcs ⊢
   by_cases a1:w.col=(k:Int)
   case neg=>
    have p1:(w.col=(k:Int))=False:=eq_false a1;rw[if_neg a1]at hcs;simp (disch:=omega) only[coC,zw,wdC,r0,r1,ew,p1,go_sem];refine hK2 _ _ (i+1) ⟨hi,hS2 (by rw[decide_eq_false a1];rfl)⟩ (by omega) (Wk.temps ?_);rw[hcs]
    (simp only[zw,qy,go_sem,qh,qd,qa,qg];try (repeat' first|(with_reducible apply aiA)|(apply qi;omega)|(apply qe;rfl)|exact qj))
   have p1:(w.col=(k:Int))=True:=eq_true a1;rw[if_pos a1]at hcs
   by_cases a2:w.text=tt.text
   ·have p2:(w.text=tt.text)=True:=eq_true a2;simp (disch:=omega) only[coC,qr,ql,qo,jc,tkC,zw,wdC,r0,r1,t0,t1,ew,p1,p2,ec,et,etk,ett,q5,q6,q7,q8,z0,go_sem]
    repeat' first
     |with_reducible apply aiA
    all_goals try exact clz
    refine hK2 _ _ (i+1) ⟨hi,hS2 (by rw[decide_eq_true a2];simp)⟩ (by omega) (Wk.temps ?_);rw[hcs]
    (simp only[zw,qy,go_sem,qh,qd,qa,qg];try (repeat' first|(with_reducible apply aiA)|(apply qi;omega)|(apply qe;rfl)|exact qj))
   ·have p2:(w.text=tt.text)=False:=eq_false a2;rw[hno (by rw[decide_eq_true a1,decide_eq_false a2];rfl)];simp (disch:=omega) only[coC,qr,ql,qo,jc,tkC,zw,wdC,r0,r1,t0,t1,ew,p1,p2,ec,et,etk,ett,q5,q6,q7,q8,z0,go_sem]
    repeat' first
     |(apply qb;exact rvk;simp only[go_sem];exact qj)
     |with_reducible apply aiA
    all_goals try exact clz
  have r1:((i:Int)<b.length)=False:=eq_false (by omega);obtain rfl:i=b.length:=by omega
  rw[qn.2 fun j hj=>m2 j (by omega),Bool.not_false,Bool.and_true]at hcc;obtain⟨N,hN⟩: ∃N,N=cW b (k:Int) b.length:=⟨_,rfl⟩
  rw[←hN]at hcc ⊢
  by_cases a1:N=1
  ·have p1:((N:Int)=1)=True:=eq_true (by omega);rw[decide_eq_true a1]at hcc;rw[if_pos hcc]at hci;simp (disch:=omega) only[zw,r1,p1,go_sem];refine hK _ _ (k+1) ⟨hk,hS hci⟩ (by omega) (Wk.temps ?_)
   (simp only[zw,qy,go_sem,qh,qd,qa,qg];try (repeat' first|(with_reducible apply aiA)|(apply qi;omega)|(apply qe;rfl)|exact qj))
  ·have p1:((N:Int)=1)=False:=eq_false (by omega);rw[decide_eq_false a1]at hcc;rw[if_neg (by rw[hcc];simp)]at hci;have hV:R=9:=by rw[hR,hE (by rw[hci];decide),hci]
   rw[hV];simp (disch:=omega) only[zw,r1,p1,go_sem]
   repeat' first
    |(apply qb;exact rvk;simp only[go_sem];exact qj)
 have t1:((k:Int)<x.col.length)=False:=eq_false (by omega);rw[qP (fun j (hj:j<x.col.length)=>k2 j (by omega))]at hR;rw[hR];simp (disch:=omega) only[coC,t1,zl,zo,go_sem]
 repeat' first
  |(apply qb;exact rvk;simp only[go_sem];exact qj)
  |with_reducible apply aiA
 all_goals try exact clz
end RC
end
section
open Go Go.Proofs AF
def qoU:List Nat:= []
def qsc:C:=
 ((C.ops [O1 7 (.box 0 26) 0,ON 14 (.nilo 1 6 58) [],MC 15 (i6 0)]).seq (((C.ops [O1 32 (.load (some 4)) 7,MV 33 1,MV 34 3,ON 35 (.call 39 true) [.t 32,.t 33,.t 34],MV 16
 35]).seq ((C.ops [MV 36 16,BC 37 .neq 36 (i6 0)]).seq (C.cond (.t 37) ((C.ops [MV 38 16,ON 14 (.nilo 1 6 58) [],MV 15 38]).seq C.ret) C.skip))).seq (((C.ops [O1 39 (.fldA 1) 7,
 LD 40 39,MV 41 4,O2 42 (.call 98 true) 40 41,BC 43 .neq 42 (i6 0)]).seq (C.cond (.t 43) ((C.ops [ON 14 (.nilo 1 6 58) [],MC 15 (i6 1)]).seq C.ret) C.skip)).seq (((C.ops [MV 44
 5,O1 45 (.call 99 true) 44,MV 17 45]).seq ((C.ops [MV 46 17,BC 47 .neq 46 (i6 0)]).seq (C.cond (.t 47) ((C.ops [MV 48 17,ON 14 (.nilo 1 6 58) [],MV 15 48]).seq C.ret)
 C.skip))).seq (((C.ops [MV 49 6,O1 50 .len 49,MV 51 5,O1 52 .len 51,BI 53 .neq 50 52,MV 54 53,MG 55 54 false 2,P1 56 54 false .len 55,MG 57 54 false 1,P1 58 54 false .len
 57,P2 59 54 false (.bin .neq) 56 58,PT 60 54 59]).seq (C.cond (.t 60) ((C.ops [ON 14 (.nilo 1 6 58) [],MC 15 (i6 9)]).seq C.ret) C.skip)).seq (((C.ops [MC 18 (i6 0)]).seq
 (C.block 0 (((C.ops [MV 61 18,MV 62 1,O1 63 .len 62,BI 64 .lss 61 63]).seq (C.cond (.t 64) C.skip (C.exit 0))).seq ((C.block 1 ((C.ops [MV 67 2,MV 68 18,O2 69 (.idxA 1) 67 68,
 LD 70 69,O1 71 .len 70,MV 72 1,MV 73 18,O2 74 (.idxA 3) 72 73,O1 75 (.fldA 2) 74,LD 76 75,O1 77 .len 76,BI 78 .neq 71 77]).seq (C.cond (.t 78) ((C.ops [ON 14 (.nilo 1 6 58)
 [],MC 15 (i6 9)]).seq C.ret) C.skip))).seq (C.ops [MV 65 18,BC 66 .add 65 (i6 1),MV 18 66]))).loop)).seq ((C.ops [⟨some 79,none,.bslc 2 6 0 58 [i6 0,i6 0,i6 0,.bool false,
 .nl,.nl] [],[]⟩,MV 19 79]).seq (((C.ops [MC 20 (i6 0)]).seq (C.block 2 (((C.ops [MV 80 20,MV 81 1,O1 82 .len 81,BI 83 .lss 80 82]).seq (C.cond (.t 83) C.skip (C.exit 2))).seq
 ((C.block 3 ((C.ops [MV 86 3,MV 87 20,O2 88 (.call 100 true) 86 87,MV 21 88]).seq ((C.ops [MV 90 3,MV 91 1,MV 92 20,O2 93 (.idxA 3) 91 92,O1 94 (.load (some 3)) 93,MV 95
 20,ON 96 (.call 101 true) [.t 90,.t 94,.t 95],MV 89 96,O1 97 (.ext 0) 89,O1 98 (.ext 1) 89,MV 22 97,MV 23 98]).seq ((C.ops [MC 24 (i6 0)]).seq (C.block 4 (((C.ops [MV 99
 24,MV 100 5,O1 101 .len 100,BI 102 .lss 99 101]).seq (C.cond (.t 102) C.skip (C.exit 4))).seq ((C.block 5 ((C.ops [MV 105 24,MV 106 22,MV 107 23,MV 108 6,MV 109 24,O2 110
 (.idxA 1) 108 109,LD 111 110,⟨some 112,none,.build [i6 0,i6 0,i6 0,.bool false,.nl,.nl] [(0,1),(1,1),(2,1),(3,1)],[.t 105,.t 106,.t 107,.t 111]⟩,⟨some 25,
 none,.alloc 3 58 [i6 0,i6 0,i6 0,.bool false,.nl,.nl],[]⟩,ST 6 25 112]).seq (((C.ops [MC 26 (i6 0)]).seq (C.block 6 (((C.ops [MV 113 26,MV 114 1,MV 115 20,O2 116 (.idxA
 3) 114 115,O1 117 (.fldA 2) 116,LD 118 117,O1 119 .len 118,BI 120 .lss 113 119]).seq (C.cond (.t 120) C.skip (C.exit 6))).seq ((C.block 7 ((C.ops [MV 123 1,MV 124 20,O2 125
 (.idxA 3) 123 124,O1 126 (.fldA 2) 125,LD 127 126,MV 128 26,O2 129 (.idxA 2) 127 128,O1 130 (.load (some 2)) 129,⟨some 27,none,.alloc 4 89 [.nl,.nl],[]⟩,ST 2 27
 130]).seq ((C.ops [O1 132 (.fldA 1) 7,LD 133 132,MV 134 4,O1 135 (.fldA 1) 27,LD 136 135,ON 137 (.call 102 true) [.t 133,.t 134,.t 136],MV 131 137,O1 138 (.ext 0) 131,O1
 139 (.ext 1) 131,MV 28 138,MV 29 139]).seq (((C.ops [O1 140 (.fldA 0) 27,LD 141 140,MV 142 21,O2 143 (.call 103 true) 141 142]).seq (C.cond (.t 143) (((C.ops [MV 144 6,MV 145
 24,O2 146 (.idxA 1) 144 145,LD 147 146]).seq (C.cond (.t 147) (C.ops [MV 148 28,O1 149 (.fldA 4) 25,ST 1 149 148]) C.skip)).seq (C.exit 7)) C.skip)).seq ((C.ops [MV 151 5,MV
 152 2,MV 153 20,O2 154 (.idxA 1) 152 153,LD 155 154,MV 156 26,O2 157 (.idxA 1) 155 156,LD 158 157,O2 159 (.call 28 true) 151 158,MV 150 159,O1 160 (.ext 0) 150,O1 161
 (.ext 1) 150,MV 30 160,MV 31 161]).seq ((C.ops [MV 162 30,MV 163 24,BI 164 .eql 162 163]).seq (C.cond (.t 164) (C.ops [O1 165 (.fldA 5) 25,LD 166 165,O1 167 (.fldA 0) 27,LD
 168 167,MV 169 28,⟨some 170,none,.build [.nl,.nl] [(0,1),(1,1)],[.t 168,.t 169]⟩,⟨some 171,none,.bslc 5 2 1 85 [.nl,.nl] [(0,2)],[.t 170]⟩,O2 172 (.app 6 2 85 48)
 166 171,O1 173 (.fldA 5) 25,ST 1 173 172]) C.skip))))))).seq (C.ops [MV 121 26,BC 122 .add 121 (i6 1),MV 26 122]))).loop)).seq ((C.wk.seq (C.ops [O1 174 (.fldA 5) 25,LD 175
 174,O1 176 .len 175,BC 177 .gtr 176 (i6 0)])).seq (C.cond (.t 177) (C.ops [MV 178 19,O1 179 (.load (some 6)) 25,⟨some 180,none,.bslc 7 6 1 58 [i6 0,i6 0,i6 0,.bool false,
 .nl,.nl] [(0,6)],[.t 179]⟩,O2 181 (.app 8 6 58 80) 178 180,MV 19 181]) C.skip))))).seq (C.ops [MV 103 24,BC 104 .add 103 (i6 1),MV 24 104]))).loop))))).seq (C.ops [MV 84 20,
 BC 85 .add 84 (i6 1),MV 20 85]))).loop)).seq ((C.ops [MV 182 19,MV 14 182,MC 15 (i6 0)]).seq
 C.ret)))))))))
theorem qhT:qG Tryz.prog 26 183 9 [RV.tmp 14,RV.tmp 15] qsc:=fi Tryz.f26 [7,14,79,25,27,171,172,180,181] qoU [37]
end
