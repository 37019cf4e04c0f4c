import Derived.Test.YtgoandblgcjleaaGreatDoorK13
import Derived.Test.YtgoandblgcjleaaGreatDoorK11
import Derived.Test.YtgoandblgcjleaaGreatDoorK10
import Derived.Test.YtgoandblgcjleaaGreatDoorK3
import Derived.Test.YtgoandblgcjleaaGreatDoorK5
import Derived.Test.YtgoandblgcjleaaGreatDoorK8
import Derived.Test.YtgoandblgcjleaaGreatDoorProg
import Derived.Test.YtgoandblgcjleaaGreatDoorK12
import Derived.Test.YtgoandblgcjleaaGreatDoorK7
set_option linter.all false
set_option linter.unusedSimpArgs false
set_option linter.unusedVariables false
set_option linter.unusedSectionVars false
set_option maxHeartbeats 64000000
set_option maxRecDepth 100000
section
open Go Go.Proofs AF HY LN
namespace RC
def rnX (x:Co):List (List AV):=(qf0 (cmB x) x.col.length).map fun r=> [.int .i64 (r.1:Int),.int .i64 (r.2:Int)]
theorem qDh (x:Co) (h:List AObj):ACalls Tryz.prog 233 [.agg (coC x)] h (.fn (.func 277) [] [.ip (coC x)]) h:=by
 unfold coC
 refine acO qxQ ?_
 simp (disch:=omega) only [qwe,go_sem]
 repeat' first
  |((first|apply qd|apply qb);exact rvk;simp only [go_sem];first|exact ql|apply qe|apply qa|apply qf|skip)
  |with_reducible first|intro _|apply aiA
 all_goals try exact clz
theorem qDf (u:Un) (f t:Int) (h:List AObj):ACalls Tryz.prog 234 [.agg (unC u),.ip [.int .i64 f],.ip [.int .i64 t]] h (.bool (decide (u.frm≤f)&&decide (t≤u.to))) h:=by
 by_cases g:u.frm≤f
 ·have k1:(u.frm≤f)=True:=eq_true g
  rw [decide_eq_true g,Bool.true_and]
  refine acO qq0 ?_
  simp (disch:=omega) only [qr6,unC,k1,go_sem]
  repeat' first
   |((first|apply qd|apply qb);exact rvk;simp only [go_sem];first|exact ql|apply qe|apply qa|apply qf|skip)
   |with_reducible first|intro _|apply aiA
  all_goals try exact clz
 ·have k1:(u.frm≤f)=False:=eq_false g
  rw [decide_eq_false g,Bool.false_and]
  refine acO qq0 ?_
  simp (disch:=omega) only [qr6,unC,k1,go_sem]
  repeat' first
   |((first|apply qd|apply qb);exact rvk;simp only [go_sem];first|exact ql|apply qe|apply qa|apply qf|skip)
   |with_reducible first|intro _|apply aiA
  all_goals try exact clz
theorem qyT {p:Nat→Bool} {n f t:Nat} (h1:f≤t) (h2:t≤n) (h3: ∀j,f≤j→j<t→p j=false) (h4:t<n→p t=true):nxt p (n-f) f=t:=by
 obtain ⟨a1,a2,a3,a4⟩:=qdR p (n-f) f
 rcases Nat.lt_trichotomy (nxt p (n-f) f) t with h|h|h
 ·have:=a4 (by omega)
  rw [h3 _ a1 h]at this
  cases this
 ·exact h
 ·have:=h4 (by omega)
  rw [a3 t h1 h]at this
  cases this
theorem qzf {x:Co} {pre rest:List (Nat×Nat)} {r:Nat×Nat} (h:qf0 (cmB x) x.col.length=pre++r::rest): ∃g:pre.length<(rnX x).length,(rnX x)[pre.length]= [.int .i64 (r.1:Int),.int .i64 (r.2:Int)]:=by
 unfold rnX
 refine ⟨by rw [h];simp,?_⟩
 simp only [h,List.getElem_map]
 rw [List.getElem_append_right (Nat.le_refl _)]
 simp
structure RnS where
 f:Nat
 D:Nat
 pre:List (Nat×Nat)
 hh:List AObj
theorem itR (x:Co) (ho:CoOk x) (hn:x.col.length≤1000000000):qvi Tryz.prog 277 [.ip (coC x)] (rnX x):=by
 intro h ts LI S E hS hE body start hts
 have hcom:=fun k h hk=>cmP (x:=x) (k:=k) h ho hk
 obtain ⟨p,hp⟩: ∃p,p=cmB x:=⟨_,rfl⟩
 have hxl:(rnX x).length=(qf0 p x.col.length).length:=by rw [hp];simp [rnX]
 have hat:= @qzf x
 rw [←hp]at hat
 rw [←hp]at hcom
 refine acQ qx6 ?_
 simp (disch:=omega) only [qwr,coC,go_sem]
 repeat' first
  |((first|apply qd|apply qb);exact rvk;simp only [go_sem];first|exact ql|apply qe|apply qa|apply qf|skip)
  |with_reducible first|intro _|apply aiA
 all_goals try exact clz
 refine qu (T:=fun i:RnS=>qT 36 [(0,.yld h.length),(1,.ip (coC x)),(3,.int .i64 i.f)]) (H:=fun i=>i.hh++ [.lp .ready ts LI])
  (inv:=fun i=>i.f≤x.col.length+1∧x.col.length-i.f<i.D∧qf0 p x.col.length=i.pre++ky p x.col.length i.D i.f∧S i.pre.length i.hh) (m:=fun i=>x.col.length+1-i.f) ⟨0,x.col.length+1,[],h⟩ ⟨Nat.zero_le _,by simp only;omega,rfl,start⟩ (Wk.temps ?_) ?_
 ·(simp only [coC,go_sem,qk,qh,qg,qj];try (repeat' first|(with_reducible apply aiA)|(apply qe;omega)|(apply qa;rfl)|exact ql))
 rintro ⟨f,D,pre,hh⟩ ⟨i1,i2,i3,i4⟩ K hK
 simp only at i1 i2 i3 i4 hK
 obtain ⟨hlen,hlow⟩:=hS _ _ i4
 have hb:(h++ [AObj.lp LS.ready ts LI]).length=(hh++ [AObj.lp LS.ready ts LI]).length:=by simp [hlen]
 by_cases hi:f<x.col.length
 ·have q0:((f:Int)<x.col.length)=True:=eq_true (by omega)
  obtain ⟨D',rfl⟩: ∃D',D=D'+1:=⟨D-1,by omega⟩
  have hD:ky p x.col.length (D'+1) f=(if f<nxt p (x.col.length-f) f then [(f,nxt p (x.col.length-f) f)] else [])++ky p x.col.length D' (nxt p (x.col.length-f) f+1):=by
   conv=>lhs;unfold ky
   rw [if_neg (by omega)]
  simp (disch:=omega) only [coC,qp,q0,go_sem]
  repeat' first
   |((first|apply qd|apply qb);exact rvk;simp only [go_sem];first|exact ql|apply qe|apply qa|apply qf|skip)
   |with_reducible first|intro _|apply aiA
  all_goals try exact clz
  refine qu (T:=fun t:Nat=>qT 36 [(0,.yld h.length),(1,.ip (coC x)),(3,.int .i64 f),(4,.int .i64 t)]) (H:=fun _=>hh++ [.lp .ready ts LI])
   (inv:=fun t=>f≤t∧t≤x.col.length∧ ∀j,f≤j→j<t→p j=false) (m:=fun t=>x.col.length-t) f ⟨Nat.le_refl _,by omega,fun j h1 h2=>by omega⟩ (Wk.temps ?_) ?_
  ·(simp only [coC,go_sem,qk,qh,qg,qj];try (repeat' first|(with_reducible apply aiA)|(apply qe;omega)|(apply qa;rfl)|exact ql))
  rintro t ⟨t1,t2,t3⟩ K2 hK2
  have fin:(t<x.col.length→p t=true)→ky p x.col.length (D'+1) f=(if f<t then [(f,t)] else [])++ky p x.col.length D' (t+1):=fun h4=>by
   rw [hD,qyT t1 t2 t3 h4]
  have hend: ∀hh',ky p x.col.length (D'+1) f=(if f<t then [(f,t)] else [])++ky p x.col.length D' (t+1)→S (pre++if f<t then [(f,t)] else []).length hh'→qf0 p x.col.length=(pre++if f<t then [(f,t)] else [])++ky p x.col.length D' (t+1):=fun hh' h1 _=>by
   rw [i3,h1,List.append_assoc]
  by_cases ht:t<x.col.length
  ·have q1:((t:Int)<x.col.length)=True:=eq_true (by omega)
   have c1:=fun h=>hcom t h ht
   cases hpt:p t with
   |false=>
    rw [hpt]at c1
    unfold coC qp at c1
    simp (disch:=omega) only [coC,qp,q1,go_sem]
    repeat' first
     |((first|refine cA (c1 _) ?_ ?_|refine cG (fun e=>c1 _) ?_ ?_|refine cU (fun _=>c1 _) ?_ ?_);exact flk;simp (disch:=omega) only [coC,qp,q1,go_sem])
     |((first|apply qd|apply qb);exact rvk;simp only [go_sem];first|exact ql|apply qe|apply qa|apply qf|skip)
     |with_reducible first|intro _|apply aiA
    all_goals try exact clz
    refine hK2 _ _ (t+1) ⟨by omega,ht,fun j h1 h2=> ?_⟩ (by omega) (Wk.temps ?_)
    ·by_cases e:j=t
     ·subst e;exact hpt
     ·exact t3 j h1 (by omega)
    ·(simp only [coC,go_sem,qk,qh,qg,qj];try (repeat' first|(with_reducible apply aiA)|(apply qe;omega)|(apply qa;rfl)|exact ql))
   |true=>
    rw [hpt]at c1
    have hf:=fin fun _=>hpt
    unfold coC qp at c1
    by_cases gt:f<t
    ·have q2:((f:Int)<t)=True:=eq_true (by omega)
     rw [if_pos gt]at hf
     rw [hf]at i3
     obtain ⟨hdl,hxx⟩:=hat (pre:=pre) (r:=(f,t)) (rest:=ky p x.col.length D' (t+1)) i3
     have hb':=body pre.length hh [] hdl i4
     rw [hxx]at hb'
     have i5:qf0 p x.col.length=(pre++ [(f,t)])++ky p x.col.length D' (t+1):=by rw [i3];simp
     simp (disch:=omega) only [coC,qp,q1,q2,go_sem]
     repeat' first
      |((first|refine cA (c1 _) ?_ ?_|refine cG (fun e=>c1 _) ?_ ?_|refine cU (fun _=>c1 _) ?_ ?_);exact flk;simp (disch:=omega) only [coC,qp,q1,q2,go_sem])
      |((first|apply qd|apply qb);exact rvk;simp only [go_sem];first|exact ql|apply qe|apply qa|apply qf|skip)
      |with_reducible first|intro _|apply aiA
     all_goals try exact clz
     ·exact ⟨.ready,ts,LI,kq hlen⟩
     ·refine km.mono ?_ hb'
      rintro v h' ⟨hh',⟨rfl,hn',rfl⟩|⟨st,rfl,hs',rfl⟩⟩
      ·simp (disch:=omega) only [q2,go_sem]
       repeat' first
        |((first|apply qd|apply qb);exact rvk;simp only [go_sem];first|exact ql|apply qe|apply qa|apply qf|skip)
        |with_reducible first|intro _|apply aiA
       all_goals try exact clz
       refine hK _ _ ⟨t+1,D',pre++ [(f,t)],hh'⟩ ⟨by simp only;omega,by simp only;omega,i5,by simp only [List.length_append,List.length_cons,List.length_nil];exact hn'⟩ (by simp only;omega) (Wk.temps ?_)
       (simp only [coC,go_sem,qk,qh,qg,qj];try (repeat' first|(with_reducible apply aiA)|(apply qe;omega)|(apply qa;rfl)|exact ql))
      ·simp (disch:=omega) only [q2,go_sem]
       obtain ⟨r1,r2⟩:=(hE _ _ hs').ret (L:=LI) st hts
       exact kp trivial r1 r2 ⟨_,.inr ⟨st,hs',rfl⟩⟩ (ql)
    ·have q2:((f:Int)<t)=False:=eq_false (by omega)
     rw [if_neg gt,List.nil_append]at hf
     rw [hf]at i3
     simp (disch:=omega) only [coC,qp,q1,q2,go_sem]
     repeat' first
      |((first|refine cA (c1 _) ?_ ?_|refine cG (fun e=>c1 _) ?_ ?_|refine cU (fun _=>c1 _) ?_ ?_);exact flk;simp (disch:=omega) only [coC,qp,q1,q2,go_sem])
      |((first|apply qd|apply qb);exact rvk;simp only [go_sem];first|exact ql|apply qe|apply qa|apply qf|skip)
      |with_reducible first|intro _|apply aiA
     all_goals try exact clz
     refine hK _ _ ⟨t+1,D',pre,hh⟩ ⟨by simp only;omega,by simp only;omega,i3,i4⟩ (by simp only;omega) (Wk.temps ?_)
     (simp only [coC,go_sem,qk,qh,qg,qj];try (repeat' first|(with_reducible apply aiA)|(apply qe;omega)|(apply qa;rfl)|exact ql))
  ·have q1:((t:Int)<x.col.length)=False:=eq_false (by omega)
   have hf:=fin fun hx=>absurd hx ht
   by_cases gt:f<t
   ·have q2:((f:Int)<t)=True:=eq_true (by omega)
    rw [if_pos gt]at hf
    rw [hf]at i3
    obtain ⟨hdl,hxx⟩:=hat (pre:=pre) (r:=(f,t)) (rest:=ky p x.col.length D' (t+1)) i3
    have hb':=body pre.length hh [] hdl i4
    rw [hxx]at hb'
    have i5:qf0 p x.col.length=(pre++ [(f,t)])++ky p x.col.length D' (t+1):=by rw [i3];simp
    simp (disch:=omega) only [coC,qp,q1,q2,go_sem]
    repeat' first
     |(refine qn ( .bool false) ?_;simp (disch:=omega) only [coC,qp,q1,q2,go_sem])
     |((first|apply qd|apply qb);exact rvk;simp only [go_sem];first|exact ql|apply qe|apply qa|apply qf|skip)
     |with_reducible first|intro _|apply aiA
    all_goals try exact clz
    ·exact ⟨.ready,ts,LI,kq hlen⟩
    ·refine km.mono ?_ hb'
     rintro v h' ⟨hh',⟨rfl,hn',rfl⟩|⟨st,rfl,hs',rfl⟩⟩
     ·simp (disch:=omega) only [q2,go_sem]
      repeat' first
       |((first|apply qd|apply qb);exact rvk;simp only [go_sem];first|exact ql|apply qe|apply qa|apply qf|skip)
       |with_reducible first|intro _|apply aiA
      all_goals try exact clz
      refine hK _ _ ⟨t+1,D',pre++ [(f,t)],hh'⟩ ⟨by simp only;omega,by simp only;omega,i5,by simp only [List.length_append,List.length_cons,List.length_nil];exact hn'⟩ (by simp only;omega) (Wk.temps ?_)
      (simp only [coC,go_sem,qk,qh,qg,qj];try (repeat' first|(with_reducible apply aiA)|(apply qe;omega)|(apply qa;rfl)|exact ql))
     ·simp (disch:=omega) only [q2,go_sem]
      obtain ⟨r1,r2⟩:=(hE _ _ hs').ret (L:=LI) st hts
      exact kp trivial r1 r2 ⟨_,.inr ⟨st,hs',rfl⟩⟩ (ql)
   ·exact absurd (show f<t by omega) gt
 ·have q0:((f:Int)<x.col.length)=False:=eq_false (by omega)
  have hD:ky p x.col.length D f= []:=by
   cases D with
   |zero=>rfl
   |succ D=>unfold ky;rw [if_pos (by omega)]
  rw [hD,List.append_nil]at i3
  simp (disch:=omega) only [coC,qp,q0,go_sem]
  repeat' first
   |((first|apply qd|apply qb);exact rvk;simp only [go_sem];first|exact ql|apply qe|apply qa|apply qf|skip)
   |with_reducible first|intro _|apply aiA
  all_goals try exact clz
  obtain ⟨r1,r2⟩:=(hS _ _ i4).ret (L:=LI) .ready hts
  exact kp trivial r1 r2 ⟨hh,.inl ⟨by rw [hxl,i3];exact i4,rfl⟩⟩ (ql)
structure qvz (l:List Un):Prop where
 n:l.length≤1000000000
 rd: ∀i,(l.getD i default).rds.length≤1000000000
 sr: ∀i j,((l.getD i default).rds.getD j default).src.length≤1000000000
 wd: ∀i j,((l.getD i default).rds.getD j default).words.length≤1000000000
structure qrD (L:List Rd):Prop where
 n:L.length≤1000000000
 sr: ∀j,(L.getD j default).src.length≤1000000000
 wd: ∀j,(L.getD j default).words.length≤1000000000
theorem qB9 (a b:List Str) (h:List AObj) (h1:a.length≤1000000000) (h2:b.length≤1000000000):ACalls Tryz.prog 53 [strs a,strs b] h (.bool (decide (a=b))) h:=by
 have c:=qxb a b.length (fun j=>b.getD j []) h h1 h2
 have e:decide (a.length=b.length∧ ∀i,i<a.length→a.getD i []=b.getD i [])=decide (a=b):=decide_eq_decide.2 (jb ([]:Str)).symm
 rw [e]at c
 exact c
theorem qCN (a b:List Int) (h:List AObj) (h1:a.length≤1000000000) (h2:b.length≤1000000000):ACalls Tryz.prog 40 [qq a,qq b] h (.bool (decide (a=b))) h:=by
 have c:=qB8 qAH a.length b.length (fun j=> .i (a.getD j 0)) (fun j=> .i (b.getD j 0)) h (fun _ _ _=>rfl) (by omega) (by omega)
 simp only [At.v,At.i.injEq]at c
 have e:decide (a.length=b.length∧ ∀i,i<a.length→a.getD i 0=b.getD i 0)=decide (a=b):=decide_eq_decide.2 (jb (0:Int)).symm
 rw [e]at c
 exact c
theorem qBi {r s:Rd}:r=s↔r.words=s.words∧r.src=s.src:=by
 cases r;cases s;simp
theorem qDi (r s:Rd) (h:List AObj) (h1:r.words.length≤1000000000) (h2:s.words.length≤1000000000) (h3:r.src.length≤1000000000) (h4:s.src.length≤1000000000):ACalls Tryz.prog 273 [.agg (rdC r),.agg (rdC s)] h (.bool (decide (r=s))) h:=by
 have c1:=fun h=>qB9 r.words s.words h h1 h2
 have c2:=fun h=>qCN r.src s.src h h3 h4
 have e:decide (r=s)=(decide (r.words=s.words)&&decide (r.src=s.src)):=by rw [←Bool.decide_and];exact decide_eq_decide.2 qBi
 rw [e]
 obtain ⟨a,ha⟩: ∃a,a=decide (r.words=s.words):=⟨_,rfl⟩
 obtain ⟨b,hb⟩: ∃b,b=decide (r.src=s.src):=⟨_,rfl⟩
 rw [←ha,←hb]
 simp only [←ha]at c1
 simp only [←hb]at c2
 cases a with
 |true=>
  rw [Bool.true_and]
  refine acO qq5 ?_
  simp (disch:=omega) only [qsb,rdC,go_sem]
  repeat' first
   |((first|refine cA (c1 _) ?_ ?_|refine cG (fun e=>c1 _) ?_ ?_|refine cA (c2 _) ?_ ?_|refine cG (fun e=>c2 _) ?_ ?_|refine cU (fun _=>c1 _) ?_ ?_|refine cU (fun _=>c2 _) ?_ ?_);exact flk;simp (disch:=omega) only [rdC,go_sem])
   |((first|apply qd|apply qb);exact rvk;simp only [go_sem];first|exact ql|apply qe|apply qa|apply qf|skip)
   |with_reducible first|intro _|apply aiA
  all_goals try exact clz
 |false=>
  rw [Bool.false_and]
  refine acO qq5 ?_
  simp (disch:=omega) only [qsb,rdC,go_sem]
  repeat' first
   |(refine qn ( .bool false) ?_;simp (disch:=omega) only [rdC,go_sem])
   |((first|refine cA (c1 _) ?_ ?_|refine cG (fun e=>c1 _) ?_ ?_|refine cU (fun _=>c1 _) ?_ ?_);exact flk;simp (disch:=omega) only [rdC,go_sem])
   |((first|apply qd|apply qb);exact rvk;simp only [go_sem];first|exact ql|apply qe|apply qa|apply qf|skip)
   |with_reducible first|intro _|apply aiA
  all_goals try exact clz
theorem efP (a b:List Rd) (h:List AObj) (za:qrD a) (zb:qrD b):ACalls Tryz.prog 272 [zC a,zC b,.fn (.func 273) [] []] h (.bool (decide (a=b))) h:=by
 have ha:=za.n
 have hb:=zb.n
 have he:decide (a=b)=decide (a.length=b.length∧ ∀i,i<a.length→a.getD i default=b.getD i default):=decide_eq_decide.2 (jb (default:Rd))
 obtain ⟨R,hR⟩: ∃R,R=decide (a=b):=⟨_,rfl⟩
 rw [←hR]at he ⊢
 by_cases g:a.length=b.length
 case neg=>
  have k1:((a.length:Int)=b.length)=False:=eq_false (by omega)
  rw [decide_eq_false (fun hc=>g hc.1)]at he
  rw [he]
  refine acO qq4 ?_
  simp (disch:=omega) only [qsa,zC,k1,go_sem]
  repeat' first
   |((first|apply qd|apply qb);exact rvk;simp only [go_sem];first|exact ql|apply qe|apply qa|apply qf|skip)
   |with_reducible first|intro _|apply aiA
  all_goals try exact clz
 have k1:((a.length:Int)=b.length)=True:=eq_true (by omega)
 refine acO qq4 ?_
 simp (disch:=omega) only [qsa,zC,k1,go_sem]
 repeat' first
  |((first|apply qd|apply qb);exact rvk;simp only [go_sem];first|exact ql|apply qe|apply qa|apply qf|skip)
  |with_reducible first|intro _|apply aiA
 all_goals try exact clz
 refine qu (T:=fun i:Nat×AObj×AObj=>qT 32 [(1,zC b),(2,.fn (.func 273) [] []),(15,zC a),(16,.int .i64 a.length),(17,.int .i64 i.1)]) (H:=fun i=>h++ [i.2.1,i.2.2])
  (inv:=fun i=>i.1≤a.length∧qP [i.2.1] 0=true∧qP [i.2.2] 0=true∧ ∀j,j<i.1→a.getD j default=b.getD j default) (m:=fun i=>a.length-i.1) (0,.emp 0,.emp 0) ⟨Nat.zero_le _,rfl,rfl,fun j hj=>absurd hj (Nat.not_lt_zero j)⟩ (Wk.temps ?_) ?_
 ·(simp only [zC,go_sem,qk,qh,qg,qj];try (repeat' first|(with_reducible apply aiA)|(apply qe;omega)|(apply qa;rfl)|exact ql))
 rintro ⟨i,O1,O2⟩ ⟨i1,j1,j2,i2⟩ K hK
 simp only at i1 j1 j2 i2 hK
 have j1': ∀m,qP (O1::m) 0=true:=fun _=>j1
 have j2': ∀m,qP (O2::m) 0=true:=fun _=>j2
 by_cases hi:i<a.length
 ·have k2:((i:Int)<a.length)=True:=eq_true (by omega)
  have k3:((i:Int)<b.length)=True:=eq_true (by omega)
  have c1:=fun h=>qDi (a.getD i default) (b.getD i default) h (za.wd i) (zb.wd i) (za.sr i) (zb.sr i)
  have hno: ¬a.getD i default=b.getD i default→R=false:=fun hx=>by rw [he];exact decide_eq_false fun hc=>hx (hc.2 i hi)
  have hS:a.getD i default=b.getD i default→ ∀j,j<i+1→a.getD j default=b.getD j default:=fun hx j hj=>by
   by_cases e:j=i
   ·subst e;exact hx
   ·exact i2 j (by omega)
  obtain ⟨r,hr⟩: ∃r,r=a.getD i default:=⟨_,rfl⟩
  obtain ⟨s,hs⟩: ∃s,s=b.getD i default:=⟨_,rfl⟩
  have er:=hr.symm
  have es:=hs.symm
  rw [er,es]at hno hS
  simp only [er,es]at c1
  unfold rdC at c1
  by_cases g2:r=s
  ·have k4:decide (r=s)=true:=decide_eq_true g2
   simp only [k4]at c1
   simp (disch:=omega) only [zC,rdC,k2,k3,er,es,j1',j2',go_sem]
   repeat' first
    |(refine qz (c1 _) ?_;simp (disch:=omega) only [zC,rdC,k2,k3,er,es,j1',j2',go_sem])
    |((first|apply qd|apply qb);exact rvk;simp only [go_sem];first|exact ql|apply qe|apply qa|apply qf|skip)
    |with_reducible first|intro _|apply aiA
   all_goals try exact clz
   refine hK _ _ (i+1,_,_) ⟨hi,rfl,rfl,hS g2⟩ (by simp only;omega) (Wk.temps ?_)
   (simp only [zC,go_sem,qk,qh,qg,qj];try (repeat' first|(with_reducible apply aiA)|(apply qe;omega)|(apply qa;rfl)|exact ql))
  ·have k4:decide (r=s)=false:=decide_eq_false g2
   simp only [k4]at c1
   rw [hno g2]
   simp (disch:=omega) only [zC,rdC,k2,k3,er,es,j1',j2',go_sem]
   repeat' first
    |(refine qz (c1 _) ?_;simp (disch:=omega) only [zC,rdC,k2,k3,er,es,j1',j2',go_sem])
    |((first|apply qd|apply qb);exact rvk;simp only [go_sem];first|exact ql|apply qe|apply qa|apply qf|skip)
    |with_reducible first|intro _|apply aiA
   all_goals try exact clz
 ·have k2:((i:Int)<a.length)=False:=eq_false (by omega)
  rw [he,decide_eq_true ⟨g,fun j hj=>i2 j (by omega)⟩]
  simp (disch:=omega) only [zC,k2,go_sem]
  repeat' first
   |((first|apply qd|apply qb);exact rvk;simp only [go_sem];first|exact ql|apply qe|apply qa|apply qf|skip)
   |with_reducible first|intro _|apply aiA
  all_goals try exact clz
theorem qDj (a b:List Rd) (h:List AObj) (za:qrD a) (zb:qrD b):ACalls Tryz.prog 231 [zC a,zC b] h (.bool (decide (a=b))) h:=by
 have c1:=fun h=>efP a b h za zb
 refine acO qxO ?_
 simp (disch:=omega) only [qwc,go_sem]
 repeat' first
  |((first|refine cA (c1 _) ?_ ?_|refine cG (fun e=>c1 _) ?_ ?_|refine cU (fun _=>c1 _) ?_ ?_);exact flk;simp (disch:=omega) only [go_sem])
  |((first|apply qd|apply qb);exact rvk;simp only [go_sem];first|exact ql|apply qe|apply qa|apply qf|skip)
  |with_reducible first|intro _|apply aiA
 all_goals try exact clz
theorem qDd (r s:Rd) (h:List AObj) (h1:r.words.length≤1000000000) (h2:s.words.length≤1000000000):ACalls Tryz.prog 276 [.agg (rdC r),.agg (rdC s)] h (.bool (decide (r.words=s.words))) h:=by
 have c1:=fun h=>qB9 r.words s.words h h1 h2
 refine acO qx5 ?_
 simp (disch:=omega) only [qwq,rdC,go_sem]
 repeat' first
  |((first|refine cA (c1 _) ?_ ?_|refine cG (fun e=>c1 _) ?_ ?_|refine cU (fun _=>c1 _) ?_ ?_);exact flk;simp (disch:=omega) only [rdC,go_sem])
  |((first|apply qd|apply qb);exact rvk;simp only [go_sem];first|exact ql|apply qe|apply qa|apply qf|skip)
  |with_reducible first|intro _|apply aiA
 all_goals try exact clz
theorem fd1 (r y:Rd) (h:List AObj) (h1:r.words.length≤1000000000) (h2:y.words.length≤1000000000):ACalls Tryz.prog 301 [.agg (rdC y),.ip [.fn (.func 276) [] []],.ip (rdC r)] h (.bool (decide (r.words=y.words))) h:=by
 have c1:=fun h=>qDd r y h h1 h2
 unfold rdC at c1
 refine acO qye ?_
 simp (disch:=omega) only [qwy,rdC,go_sem]
 repeat' first
  |(refine qz (c1 _) ?_;simp (disch:=omega) only [rdC,go_sem])
  |((first|apply qd|apply qb);exact rvk;simp only [go_sem];first|exact ql|apply qe|apply qa|apply qf|skip)
  |with_reducible first|intro _|apply aiA
 all_goals try exact clz
theorem fdP (L:List Rd) (r:Rd) (h:List AObj) (hL:L.length≤1000000000) (h1:r.words.length≤1000000000) (h2: ∀j,(L.getD j default).words.length≤1000000000):ACalls Tryz.prog 275 [zC L,.agg (rdC r),.fn (.func 276) [] []] h (.int .i64 (qja L r.words)) h:=by
 have c1: ∀k v k2 v2 H,getO k H=some (.mem v 89 (rdC r))→getO k2 H=some (.mem v2 280 [.fn (.func 276) [] []])→
   ACalls Tryz.prog 127 [zC L,.fn (.func 301) [] [.op k2 v2 0,.op k v 0]] H (.int .i64 (qja L r.words)) H:=fun k v k2 v2 H hk hk2=>by
  have hc:=qX hk
  have hc2:=qX hk2
  unfold zC qja
  refine qaD qqR L.length (fun j=>rdC (L.getD j default)) (fun j=> .agg (rdC (L.getD j default))) _ [] [.op k2 v2 0,.op k v 0] _ H (fun i _=>⟨rfl,by simp [zZ,rdC],rfl,rfl,rfl⟩) (fun i _=> ?_) (by omega)
  refine ACalls.borrow ?_ rfl
  have e:([AV.agg (rdC (L.getD i default))]++ [AV.op k2 v2 0,AV.op k v 0]).map (rei (fun _=>true) H 8)= [.agg (rdC (L.getD i default)),.ip [.fn (.func 276) [] []],.ip (rdC r)]:=by
   simp only [List.cons_append,List.nil_append,List.map_cons,List.map_nil,rei_op,if_true,hc,hc2,ipOf_some,List.drop_zero,rei_agg]
   rfl
  rw [List.nil_append,e]
  exact fd1 r _ _ h1 (h2 i)
 have c2:=c1 h.length 1 (h.length+1) 1 (h++ [.mem 1 89 (rdC r),.mem 1 280 [.fn (.func 276) [] []]]) (by rw [getO_app0];rfl) (by simp only [go_sem])
 unfold rdC at c2
 refine acO qx4 ?_
 simp (disch:=omega) only [qwp,rdC,go_sem]
 repeat' first
  |((first|refine cA (c2) ?_ ?_|refine cG (fun e=>c2) ?_ ?_);exact flk;simp (disch:=omega) only [rdC,go_sem])
  |((first|apply qd|apply qb);exact rvk;simp only [go_sem];first|exact ql|apply qe|apply qa|apply qf|skip)
  |with_reducible first|intro _|apply aiA
 all_goals try exact clz
def gnB (sec:Str) (sig:List Str):Bool:=zd (fun i=>decide (20<(sig.getD i []).length)) sig.length||decide (20<sec.length)
theorem gnP (sec:Str) (sig:List Str) (h:List AObj) (hn:sig.length≤9223372036854775807):ACalls Tryz.prog 150 [.str sec,strs sig] h (.bool (gnB sec sig)) h:=by
 obtain ⟨R,hR⟩: ∃R,R=gnB sec sig:=⟨_,rfl⟩
 rw [←hR]
 unfold gnB at hR
 refine acO qxs ?_
 simp (disch:=omega) only [qvU,strs,go_sem]
 repeat' first
  |((first|apply qd|apply qb);exact rvk;simp only [go_sem];first|exact ql|apply qe|apply qa|apply qf|skip)
  |with_reducible first|intro _|apply aiA
 all_goals try exact clz
 refine qu (T:=fun i:Nat=>qT 21 [(0,.str sec),(1,strs sig),(5,.int .i64 i)]) (H:=fun _=>h) (inv:=fun i=>i≤sig.length∧ ∀j,j<i→(fun i=>decide (20<(sig.getD i []).length)) j=false) (m:=fun i=>sig.length-i) 0 ⟨Nat.zero_le _,fun j hj=>absurd hj (Nat.not_lt_zero j)⟩ (Wk.temps ?_) ?_
 ·(simp only [strs,go_sem,qk,qh,qg,qj];try (repeat' first|(with_reducible apply aiA)|(apply qe;omega)|(apply qa;rfl)|exact ql))
 rintro i ⟨i1,i2⟩ K hK
 by_cases hi:i<sig.length
 ·have k1:((i:Int)<sig.length)=True:=eq_true (by omega)
  by_cases g:20<(sig.getD i []).length
  ·have hV:R=true:=by rw [hR,qG.2 ⟨i,hi,decide_eq_true g⟩];rfl
   obtain ⟨s,hs⟩: ∃s,s=sig.getD i []:=⟨_,rfl⟩
   have es:=hs.symm
   rw [es]at g
   have k2:((20:Int)<s.length)=True:=eq_true (by omega)
   rw [hV]
   simp (disch:=omega) only [strs,k1,k2,es,go_sem]
   repeat' first
    |((first|apply qd|apply qb);exact rvk;simp only [go_sem];first|exact ql|apply qe|apply qa|apply qf|skip)
    |with_reducible first|intro _|apply aiA
   all_goals try exact clz
  ·have i3:=jp i2 (decide_eq_false g)
   obtain ⟨s,hs⟩: ∃s,s=sig.getD i []:=⟨_,rfl⟩
   have es:=hs.symm
   rw [es]at g
   have k2:((20:Int)<s.length)=False:=eq_false (by omega)
   simp (disch:=omega) only [strs,k1,k2,es,go_sem]
   repeat' first
    |((first|apply qd|apply qb);exact rvk;simp only [go_sem];first|exact ql|apply qe|apply qa|apply qf|skip)
    |with_reducible first|intro _|apply aiA
   all_goals try exact clz
   refine hK _ _ (i+1) ⟨hi,i3⟩ (by omega) (Wk.temps ?_)
   (simp only [strs,go_sem,qk,qh,qg,qj];try (repeat' first|(with_reducible apply aiA)|(apply qe;omega)|(apply qa;rfl)|exact ql))
 have k1:((i:Int)<sig.length)=False:=eq_false (by omega)
 rw [qo.2 (fun j hj=>i2 j (by omega)),Bool.false_or]at hR
 have e1:decide ((20:Int)<sec.length)=decide (20<sec.length):=decide_eq_decide.2 (by omega)
 rw [hR,←e1]
 simp (disch:=omega) only [strs,k1,go_sem]
 repeat' first
  |((first|apply qd|apply qb);exact rvk;simp only [go_sem];first|exact ql|apply qe|apply qa|apply qf|skip)
  |with_reducible first|intro _|apply aiA
 all_goals try exact clz
def qbN (t:Tk):Bool:=decide (12<t.text.length)||(decide (12<t.norm.length)||(decide (20<t.page.length)||decide (20<t.name.length)))
def qcY (i:Nat) (r:List Tk):Bool:=decide (6<r.length)||((decide (4≤i)&&decide (1<r.length))||zd (fun k=>qbN (r.getD k default)) r.length)
def prN (L:List (List Tk)):Nat→Nat
 |0=>1
 |i+1=>if i<4 then prN L i*((L.getD i []).length+1) else prN L i
def gtB (L:List (List Tk)):Bool:=zd (fun i=>qcY i (L.getD i [])) L.length||(decide (400<prN L L.length)||((decide (6<L.length)&&decide (L.length≤32))||decide (34<L.length)))
theorem qy2 {L:List (List Tk)}: ∀ {n:Nat},(∀i,i<n→(L.getD i []).length≤6)→prN L n≤7^min n 4:=by
 intro n
 induction n with
 |zero=>intro _;exact Nat.le_refl _
 |succ n ih=>
  intro h
  have h1:=ih fun i hi=>h i (by omega)
  have h2:=h n (by omega)
  unfold prN
  split
  ·rename_i g
   rw [show min n 4=n by omega]at h1
   rw [show min (n+1) 4=n+1 by omega,Nat.pow_succ]
   exact Nat.mul_le_mul h1 (by omega)
  ·rename_i g
   rw [show min n 4=4 by omega]at h1
   rw [show min (n+1) 4=4 by omega]
   exact h1
theorem gtP (L:List (List Tk)) (h:List AObj) (hn:L.length≤9223372036854775807):ACalls Tryz.prog 149 [qr L] h (.bool (gtB L)) h:=by
 obtain ⟨R,hR⟩: ∃R,R=gtB L:=⟨_,rfl⟩
 rw [←hR]
 unfold gtB at hR
 refine acO qxr ?_
 simp (disch:=omega) only [qvT,qr,go_sem]
 repeat' first
  |((first|apply qd|apply qb);exact rvk;simp only [go_sem];first|exact ql|apply qe|apply qa|apply qf|skip)
  |with_reducible first|intro _|apply aiA
 all_goals try exact clz
 refine qu (T:=fun i:Nat×AObj=>qT 97 [(0,qr L),(3,.int .i64 (prN L i.1:Int)),(4,.int .i64 i.1)]) (H:=fun i=>h++ [i.2]) (inv:=fun i=>i.1≤L.length∧qP [i.2] 0=true∧ ∀j,j<i.1→(fun i=>qcY i (L.getD i [])) j=false) (m:=fun i=>L.length-i.1) (0,.emp 0) ⟨Nat.zero_le _,rfl,fun j hj=>absurd hj (Nat.not_lt_zero j)⟩ (Wk.temps ?_) ?_
 ·(simp only [qr,prN,go_sem,qk,qh,qg,qj];try (repeat' first|(with_reducible apply aiA)|(apply qe;omega)|(apply qa;rfl)|exact ql))
 rintro ⟨i,O⟩ ⟨i1,i2,i3⟩ K hK
 simp only at i1 i2 i3 hK
 have i2': ∀m,qP (O::m) 0=true:=fun _=>i2
 have h6: ∀j,j<i→(L.getD j []).length≤6:=fun j hj=>by
  have:=i3 j hj
  unfold qcY at this
  simp only [Bool.or_eq_false_iff,decide_eq_false_iff_not]at this
  omega
 have hp:=qy2 h6
 have hp2:prN L i≤2401:=by
  have:7^min i 4≤7^4:=Nat.pow_le_pow_right (by omega) (Nat.min_le_right _ _)
  have h3:(7:Nat)^4=2401:=rfl
  omega
 have hst:prN L (i+1)=if i<4 then prN L i*((L.getD i []).length+1) else prN L i:=rfl
 obtain ⟨q,hq⟩: ∃q,q=prN L i:=⟨_,rfl⟩
 have eq:=hq.symm
 rw [eq]at hp2 hst
 by_cases hi:i<L.length
 ·have k1:((i:Int)<L.length)=True:=eq_true (by omega)
  have hit:qcY i (L.getD i [])=true→R=true:=fun hc=>by rw [hR,qG.2 ⟨i,hi,hc⟩];rfl
  have i4:=fun hc=>jp (p:=fun i=>qcY i (L.getD i [])) i3 hc
  obtain ⟨r,hr⟩: ∃r,r=L.getD i []:=⟨_,rfl⟩
  have er:=hr.symm
  rw [er]at hst hit
  simp only [er]at i4
  have hB:qcY i r=(decide (6<r.length)||((decide (4≤i)&&decide (1<r.length))||zd (fun k=>qbN (r.getD k default)) r.length)):=rfl
  by_cases g1:6<r.length
  ·have k2:((6:Int)<r.length)=True:=eq_true (by omega)
   rw [hit (by rw [hB,decide_eq_true g1];rfl)]
   simp (disch:=omega) only [qr,jE,k1,k2,er,eq,go_sem]
   repeat' first
    |((first|apply qd|apply qb);exact rvk;simp only [go_sem];first|exact ql|apply qe|apply qa|apply qf|skip)
    |with_reducible first|intro _|apply aiA
   all_goals try exact clz
  have k2:((6:Int)<r.length)=False:=eq_false (by omega)
  rw [decide_eq_false g1,Bool.false_or]at hB
  have hq':q*(r.length+1)≤2401*7:=Nat.mul_le_mul hp2 (by omega)
  have hmul:(q:Int)*((r.length:Int)+1)=((q*(r.length+1):Nat):Int):=by push_cast;rfl
  have m2:(((q*(r.length+1):Nat):Int)≤9223372036854775807)=True:=eq_true (by omega)
  have m3:(-9223372036854775808≤((q*(r.length+1):Nat):Int))=True:=eq_true (by omega)
  by_cases gg:4≤i∧1<r.length
  ·have k3:((4:Int)≤i)=True:=eq_true (by omega)
   have k5:((1:Int)<r.length)=True:=eq_true (by omega)
   rw [hit (by rw [hB,decide_eq_true gg.1,decide_eq_true gg.2];rfl)]
   simp (disch:=omega) only [qr,jE,k1,k2,k3,k5,er,eq,go_sem]
   repeat' first
    |((first|apply qd|apply qb);exact rvk;simp only [go_sem];first|exact ql|apply qe|apply qa|apply qf|skip)
    |with_reducible first|intro _|apply aiA
   all_goals try exact clz
  have hB':qcY i r=zd (fun k=>qbN (r.getD k default)) r.length:=by
   rw [hB]
   have:(decide (4≤i)&&decide (1<r.length))=false:=by
    rw [←Bool.decide_and]
    exact decide_eq_false gg
   rw [this,Bool.false_or]
  rcases Nat.lt_or_ge i 4 with gi|gi
  ·have k3:((4:Int)≤i)=False:=eq_false (by omega)
   have k4:((i:Int)<4)=True:=eq_true (by omega)
   rw [if_pos gi]at hst
   simp (disch:=omega) only [qr,jE,k1,k2,k3,k4,er,eq,i2',hmul,m2,m3,go_sem]
   repeat' first
    |((first|apply qd|apply qb);exact rvk;simp only [go_sem];first|exact ql|apply qe|apply qa|apply qf|skip)
    |with_reducible first|intro _|apply aiA
   all_goals try exact clz
   refine qu (T:=fun k:Nat×AObj=>qT 97 [(0,qr L),(3,.int .i64 ((q*(r.length+1):Nat):Int)),(4,.int .i64 i),(5,.int .i64 k.1)]) (H:=fun k=>h++ [k.2]) (inv:=fun k=>k.1≤r.length∧qP [k.2] 0=true∧ ∀j,j<k.1→(fun k=>qbN (r.getD k default)) j=false) (m:=fun k=>r.length-k.1) (0,O) ⟨Nat.zero_le _,i2,fun j hj=>absurd hj (Nat.not_lt_zero j)⟩ (Wk.temps ?_) ?_
   ·(simp only [qr,go_sem,qk,qh,qg,qj];try (repeat' first|(with_reducible apply aiA)|(apply qe;omega)|(apply qa;rfl)|exact ql))
   rintro ⟨k,O'⟩ ⟨u1,u2,u3⟩ K2 hK2
   simp only at u1 u2 u3 hK2
   have u2': ∀m,qP (O'::m) 0=true:=fun _=>u2
   by_cases hk:k<r.length
   ·have t1:((k:Int)<r.length)=True:=eq_true (by omega)
    have hbit:qbN (r.getD k default)=true→R=true:=fun hc=>hit (by rw [hB',qG];exact ⟨k,hk,hc⟩)
    have u4:=fun hc=>jp (p:=fun k=>qbN (r.getD k default)) u3 hc
    obtain ⟨t,ht⟩: ∃t,t=r.getD k default:=⟨_,rfl⟩
    have et:=ht.symm
    rw [et]at hbit
    simp only [et]at u4
    have hT:qbN t=(decide (12<t.text.length)||(decide (12<t.norm.length)||(decide (20<t.page.length)||decide (20<t.name.length)))):=rfl
    by_cases gA:12<t.text.length
    ·have qA:((12:Int)<t.text.length)=True:=eq_true (by omega)
     rw [hbit (by rw [hT,decide_eq_true gA];simp)]
     simp (disch:=omega) only [qr,jE,tkC,k1,t1,er,et,u2',qA,go_sem]
     repeat' first
      |((first|apply qd|apply qb);exact rvk;simp only [go_sem];first|exact ql|apply qe|apply qa|apply qf|skip)
      |with_reducible first|intro _|apply aiA
     all_goals try exact clz
    have qA:((12:Int)<t.text.length)=False:=eq_false (by omega)
    by_cases gB:12<t.norm.length
    ·have qB:((12:Int)<t.norm.length)=True:=eq_true (by omega)
     rw [hbit (by rw [hT,decide_eq_true gB];simp)]
     simp (disch:=omega) only [qr,jE,tkC,k1,t1,er,et,u2',qA,qB,go_sem]
     repeat' first
      |((first|apply qd|apply qb);exact rvk;simp only [go_sem];first|exact ql|apply qe|apply qa|apply qf|skip)
      |with_reducible first|intro _|apply aiA
     all_goals try exact clz
    have qB:((12:Int)<t.norm.length)=False:=eq_false (by omega)
    by_cases gC:20<t.page.length
    ·have qC:((20:Int)<t.page.length)=True:=eq_true (by omega)
     rw [hbit (by rw [hT,decide_eq_true gC];simp)]
     simp (disch:=omega) only [qr,jE,tkC,k1,t1,er,et,u2',qA,qB,qC,go_sem]
     repeat' first
      |((first|apply qd|apply qb);exact rvk;simp only [go_sem];first|exact ql|apply qe|apply qa|apply qf|skip)
      |with_reducible first|intro _|apply aiA
     all_goals try exact clz
    have qC:((20:Int)<t.page.length)=False:=eq_false (by omega)
    by_cases gD:20<t.name.length
    ·have qD:((20:Int)<t.name.length)=True:=eq_true (by omega)
     rw [hbit (by rw [hT,decide_eq_true gD];simp)]
     simp (disch:=omega) only [qr,jE,tkC,k1,t1,er,et,u2',qA,qB,qC,qD,go_sem]
     repeat' first
      |((first|apply qd|apply qb);exact rvk;simp only [go_sem];first|exact ql|apply qe|apply qa|apply qf|skip)
      |with_reducible first|intro _|apply aiA
     all_goals try exact clz
    have qD:((20:Int)<t.name.length)=False:=eq_false (by omega)
    simp (disch:=omega) only [qr,jE,tkC,k1,t1,er,et,u2',qA,qB,qC,qD,go_sem]
    repeat' first
     |((first|apply qd|apply qb);exact rvk;simp only [go_sem];first|exact ql|apply qe|apply qa|apply qf|skip)
     |with_reducible first|intro _|apply aiA
    all_goals try exact clz
    refine hK2 _ _ (k+1,_) ⟨hk,rfl,u4 (by rw [hT,decide_eq_false gA,decide_eq_false gB,decide_eq_false gC,decide_eq_false gD];rfl)⟩ (by simp only;omega) (Wk.temps ?_)
    (simp only [qr,jE,tkC,go_sem,qk,qh,qg,qj];try (repeat' first|(with_reducible apply aiA)|(apply qe;omega)|(apply qa;rfl)|exact ql))
   ·have t1:((k:Int)<r.length)=False:=eq_false (by omega)
    have hz:qcY i r=false:=by rw [hB',qo];exact fun j hj=>u3 j (by omega)
    simp (disch:=omega) only [qr,jE,t1,er,go_sem]
    repeat' first
     |((first|apply qd|apply qb);exact rvk;simp only [go_sem];first|exact ql|apply qe|apply qa|apply qf|skip)
     |with_reducible first|intro _|apply aiA
    all_goals try exact clz
    refine hK _ _ (i+1,O') ⟨hi,u2,i4 hz⟩ (by simp only;omega) ?_
    simp only [hst]
    refine Wk.temps ?_
    (simp only [qr,go_sem,qk,qh,qg,qj];try (repeat' first|(with_reducible apply aiA)|(apply qe;omega)|(apply qa;rfl)|exact ql))
  ·have k3:((4:Int)≤i)=True:=eq_true (by omega)
   have k4:((i:Int)<4)=False:=eq_false (by omega)
   have k5:((1:Int)<r.length)=False:=eq_false (by omega)
   rw [if_neg (by omega)]at hst
   simp (disch:=omega) only [qr,jE,k1,k2,k3,k4,k5,er,eq,i2',hmul,m2,m3,go_sem]
   repeat' first
    |((first|apply qd|apply qb);exact rvk;simp only [go_sem];first|exact ql|apply qe|apply qa|apply qf|skip)
    |with_reducible first|intro _|apply aiA
   all_goals try exact clz
   refine qu (T:=fun k:Nat×AObj=>qT 97 [(0,qr L),(3,.int .i64 (q:Int)),(4,.int .i64 i),(5,.int .i64 k.1)]) (H:=fun k=>h++ [k.2]) (inv:=fun k=>k.1≤r.length∧qP [k.2] 0=true∧ ∀j,j<k.1→(fun k=>qbN (r.getD k default)) j=false) (m:=fun k=>r.length-k.1) (0,O) ⟨Nat.zero_le _,i2,fun j hj=>absurd hj (Nat.not_lt_zero j)⟩ (Wk.temps ?_) ?_
   ·(simp only [qr,go_sem,qk,qh,qg,qj];try (repeat' first|(with_reducible apply aiA)|(apply qe;omega)|(apply qa;rfl)|exact ql))
   rintro ⟨k,O'⟩ ⟨u1,u2,u3⟩ K2 hK2
   simp only at u1 u2 u3 hK2
   have u2': ∀m,qP (O'::m) 0=true:=fun _=>u2
   by_cases hk:k<r.length
   ·have t1:((k:Int)<r.length)=True:=eq_true (by omega)
    have hbit:qbN (r.getD k default)=true→R=true:=fun hc=>hit (by rw [hB',qG];exact ⟨k,hk,hc⟩)
    have u4:=fun hc=>jp (p:=fun k=>qbN (r.getD k default)) u3 hc
    obtain ⟨t,ht⟩: ∃t,t=r.getD k default:=⟨_,rfl⟩
    have et:=ht.symm
    rw [et]at hbit
    simp only [et]at u4
    have hT:qbN t=(decide (12<t.text.length)||(decide (12<t.norm.length)||(decide (20<t.page.length)||decide (20<t.name.length)))):=rfl
    by_cases gA:12<t.text.length
    ·have qA:((12:Int)<t.text.length)=True:=eq_true (by omega)
     rw [hbit (by rw [hT,decide_eq_true gA];simp)]
     simp (disch:=omega) only [qr,jE,tkC,k1,t1,er,et,u2',qA,go_sem]
     repeat' first
      |((first|apply qd|apply qb);exact rvk;simp only [go_sem];first|exact ql|apply qe|apply qa|apply qf|skip)
      |with_reducible first|intro _|apply aiA
     all_goals try exact clz
    have qA:((12:Int)<t.text.length)=False:=eq_false (by omega)
    by_cases gB:12<t.norm.length
    ·have qB:((12:Int)<t.norm.length)=True:=eq_true (by omega)
     rw [hbit (by rw [hT,decide_eq_true gB];simp)]
     simp (disch:=omega) only [qr,jE,tkC,k1,t1,er,et,u2',qA,qB,go_sem]
     repeat' first
      |((first|apply qd|apply qb);exact rvk;simp only [go_sem];first|exact ql|apply qe|apply qa|apply qf|skip)
      |with_reducible first|intro _|apply aiA
     all_goals try exact clz
    have qB:((12:Int)<t.norm.length)=False:=eq_false (by omega)
    by_cases gC:20<t.page.length
    ·have qC:((20:Int)<t.page.length)=True:=eq_true (by omega)
     rw [hbit (by rw [hT,decide_eq_true gC];simp)]
     simp (disch:=omega) only [qr,jE,tkC,k1,t1,er,et,u2',qA,qB,qC,go_sem]
     repeat' first
      |((first|apply qd|apply qb);exact rvk;simp only [go_sem];first|exact ql|apply qe|apply qa|apply qf|skip)
      |with_reducible first|intro _|apply aiA
     all_goals try exact clz
    have qC:((20:Int)<t.page.length)=False:=eq_false (by omega)
    by_cases gD:20<t.name.length
    ·have qD:((20:Int)<t.name.length)=True:=eq_true (by omega)
     rw [hbit (by rw [hT,decide_eq_true gD];simp)]
     simp (disch:=omega) only [qr,jE,tkC,k1,t1,er,et,u2',qA,qB,qC,qD,go_sem]
     repeat' first
      |((first|apply qd|apply qb);exact rvk;simp only [go_sem];first|exact ql|apply qe|apply qa|apply qf|skip)
      |with_reducible first|intro _|apply aiA
     all_goals try exact clz
    have qD:((20:Int)<t.name.length)=False:=eq_false (by omega)
    simp (disch:=omega) only [qr,jE,tkC,k1,t1,er,et,u2',qA,qB,qC,qD,go_sem]
    repeat' first
     |((first|apply qd|apply qb);exact rvk;simp only [go_sem];first|exact ql|apply qe|apply qa|apply qf|skip)
     |with_reducible first|intro _|apply aiA
    all_goals try exact clz
    refine hK2 _ _ (k+1,_) ⟨hk,rfl,u4 (by rw [hT,decide_eq_false gA,decide_eq_false gB,decide_eq_false gC,decide_eq_false gD];rfl)⟩ (by simp only;omega) (Wk.temps ?_)
    (simp only [qr,jE,tkC,go_sem,qk,qh,qg,qj];try (repeat' first|(with_reducible apply aiA)|(apply qe;omega)|(apply qa;rfl)|exact ql))
   ·have t1:((k:Int)<r.length)=False:=eq_false (by omega)
    have hz:qcY i r=false:=by rw [hB',qo];exact fun j hj=>u3 j (by omega)
    simp (disch:=omega) only [qr,jE,t1,er,go_sem]
    repeat' first
     |((first|apply qd|apply qb);exact rvk;simp only [go_sem];first|exact ql|apply qe|apply qa|apply qf|skip)
     |with_reducible first|intro _|apply aiA
    all_goals try exact clz
    refine hK _ _ (i+1,O') ⟨hi,u2,i4 hz⟩ (by simp only;omega) ?_
    simp only [hst]
    refine Wk.temps ?_
    (simp only [qr,go_sem,qk,qh,qg,qj];try (repeat' first|(with_reducible apply aiA)|(apply qe;omega)|(apply qa;rfl)|exact ql))
 have k1:((i:Int)<L.length)=False:=eq_false (by omega)
 obtain rfl:i=L.length:=by omega
 rw [qo.2 (fun j hj=>i3 j hj),Bool.false_or,←hq]at hR
 by_cases g1:400<q
 ·have k2:((400:Int)<q)=True:=eq_true (by omega)
  rw [hR,decide_eq_true g1,Bool.true_or]
  simp (disch:=omega) only [qr,k1,k2,eq,go_sem]
  repeat' first
   |((first|apply qd|apply qb);exact rvk;simp only [go_sem];first|exact ql|apply qe|apply qa|apply qf|skip)
   |with_reducible first|intro _|apply aiA
  all_goals try exact clz
 have k2:((400:Int)<q)=False:=eq_false (by omega)
 rw [decide_eq_false g1,Bool.false_or]at hR
 by_cases g2:6<L.length
 ·have k3:((6:Int)<L.length)=True:=eq_true (by omega)
  by_cases g3:L.length≤32
  ·have k4:((L.length:Int)≤32)=True:=eq_true (by omega)
   rw [hR,decide_eq_true g2,decide_eq_true g3]
   simp (disch:=omega) only [qr,k1,k2,k3,k4,eq,go_sem]
   repeat' first
    |((first|apply qd|apply qb);exact rvk;simp only [go_sem];first|exact ql|apply qe|apply qa|apply qf|skip)
    |with_reducible first|intro _|apply aiA
   all_goals try exact clz
  have k4:((L.length:Int)≤32)=False:=eq_false (by omega)
  have e1:decide ((34:Int)<L.length)=decide (34<L.length):=decide_eq_decide.2 (by omega)
  rw [hR,decide_eq_true g2,decide_eq_false g3,←e1]
  simp (disch:=omega) only [qr,k1,k2,k3,k4,eq,go_sem]
  repeat' first
   |((first|apply qd|apply qb);exact rvk;simp only [go_sem];first|exact ql|apply qe|apply qa|apply qf|skip)
   |with_reducible first|intro _|apply aiA
  all_goals try exact clz
 have k3:((6:Int)<L.length)=False:=eq_false (by omega)
 have e1:decide ((34:Int)<L.length)=decide (34<L.length):=decide_eq_decide.2 (by omega)
 rw [hR,decide_eq_false g2,←e1]
 simp (disch:=omega) only [qr,k1,k2,k3,eq,go_sem]
 repeat' first
  |((first|apply qd|apply qb);exact rvk;simp only [go_sem];first|exact ql|apply qe|apply qa|apply qf|skip)
  |with_reducible first|intro _|apply aiA
 all_goals try exact clz
structure CoB (x:Co):Prop where
 sg:x.sig.length≤9223372036854775807
 tk:x.tok.length≤9223372036854775807
 cl:x.col.length≤9223372036854775807
def qtf (x:Co):Bool:=zd (fun i=>decide (36<(x.col.getD i []).length)) x.col.length||(gtB x.tok||(decide (24<x.col.length)||(decide (36<x.sig.length)||gnB x.sec x.sig)))
theorem qCT (x:Co) (h:List AObj) (hb:CoB x):ACalls Tryz.prog 77 [.agg (coC x)] h (.bool (qtf x)) h:=by
 have c1:=fun h=>gtP x.tok h hb.tk
 have c2:=fun h=>gnP x.sec x.sig h hb.sg
 have hc:=hb.cl
 obtain ⟨R,hR⟩: ∃R,R=qtf x:=⟨_,rfl⟩
 rw [←hR]
 unfold qtf at hR
 unfold qr at c1
 unfold strs at c2
 refine acO qAS ?_
 simp (disch:=omega) only [qBY,coC,qp,go_sem]
 repeat' first
  |((first|apply qd|apply qb);exact rvk;simp only [go_sem];first|exact ql|apply qe|apply qa|apply qf|skip)
  |with_reducible first|intro _|apply aiA
 all_goals try exact clz
 refine qu (T:=fun i:Nat=>qT 40 [(1,.op h.length 1 0),(3,.int .i64 i)]) (H:=fun _=>h++ [.mem 1 26 (coC x)]) (inv:=fun i=>i≤x.col.length∧ ∀j,j<i→(fun i=>decide (36<(x.col.getD i []).length)) j=false) (m:=fun i=>x.col.length-i) 0 ⟨Nat.zero_le _,fun j hj=>absurd hj (Nat.not_lt_zero j)⟩ (Wk.temps ?_) ?_
 ·(simp only [go_sem,qk,qh,qg,qj];try (repeat' first|(with_reducible apply aiA)|(apply qe;omega)|(apply qa;rfl)|exact ql))
 rintro i ⟨i1,i2⟩ K hK
 by_cases hi:i<x.col.length
 ·have k1:((i:Int)<x.col.length)=True:=eq_true (by omega)
  by_cases g:36<(x.col.getD i []).length
  ·have hV:R=true:=by rw [hR,qG.2 ⟨i,hi,decide_eq_true g⟩];rfl
   obtain ⟨s,hs⟩: ∃s,s=x.col.getD i []:=⟨_,rfl⟩
   have es:=hs.symm
   rw [es]at g
   have k2:((36:Int)<s.length)=True:=eq_true (by omega)
   rw [hV]
   simp (disch:=omega) only [coC,qp,qq,k1,k2,es,go_sem]
   repeat' first
    |((first|apply qd|apply qb);exact rvk;simp only [go_sem];first|exact ql|apply qe|apply qa|apply qf|skip)
    |with_reducible first|intro _|apply aiA
   all_goals try exact clz
  ·have i3:=jp i2 (decide_eq_false g)
   obtain ⟨s,hs⟩: ∃s,s=x.col.getD i []:=⟨_,rfl⟩
   have es:=hs.symm
   rw [es]at g
   have k2:((36:Int)<s.length)=False:=eq_false (by omega)
   simp (disch:=omega) only [coC,qp,qq,k1,k2,es,go_sem]
   repeat' first
    |((first|apply qd|apply qb);exact rvk;simp only [go_sem];first|exact ql|apply qe|apply qa|apply qf|skip)
    |with_reducible first|intro _|apply aiA
   all_goals try exact clz
   refine hK _ _ (i+1) ⟨hi,i3⟩ (by omega) (Wk.temps ?_)
   (simp only [go_sem,qk,qh,qg,qj];try (repeat' first|(with_reducible apply aiA)|(apply qe;omega)|(apply qa;rfl)|exact ql))
 have k1:((i:Int)<x.col.length)=False:=eq_false (by omega)
 rw [qo.2 (fun j hj=>i2 j (by omega)),Bool.false_or]at hR
 cases gA:gtB x.tok with
 |true=>
  rw [gA]at hR c1
  rw [hR,Bool.true_or]
  simp (disch:=omega) only [coC,qp,k1,qr,go_sem]
  repeat' first
   |(refine qn ( .bool false) ?_;simp (disch:=omega) only [coC,qp,qr,k1,go_sem])
   |((first|refine cA (c1 _) ?_ ?_|refine cG (fun e=>c1 _) ?_ ?_|refine cU (fun _=>c1 _) ?_ ?_);exact flk;simp (disch:=omega) only [coC,qp,qr,k1,go_sem])
   |((first|apply qd|apply qb);exact rvk;simp only [go_sem];first|exact ql|apply qe|apply qa|apply qf|skip)
   |with_reducible first|intro _|apply aiA
  all_goals try exact clz
 |false=>
 rw [gA]at hR c1
 rw [Bool.false_or]at hR
 by_cases g2:24<x.col.length
 ·have k2:((24:Int)<x.col.length)=True:=eq_true (by omega)
  rw [hR,decide_eq_true g2,Bool.true_or]
  simp (disch:=omega) only [coC,qp,k1,qr,k2,go_sem]
  repeat' first
   |(refine qn ( .bool false) ?_;simp (disch:=omega) only [coC,qp,qr,k1,k2,go_sem])
   |((first|refine cA (c1 _) ?_ ?_|refine cG (fun e=>c1 _) ?_ ?_|refine cU (fun _=>c1 _) ?_ ?_);exact flk;simp (disch:=omega) only [coC,qp,qr,k1,k2,go_sem])
   |((first|apply qd|apply qb);exact rvk;simp only [go_sem];first|exact ql|apply qe|apply qa|apply qf|skip)
   |with_reducible first|intro _|apply aiA
  all_goals try exact clz
 have k2:((24:Int)<x.col.length)=False:=eq_false (by omega)
 rw [decide_eq_false g2,Bool.false_or]at hR
 by_cases g3:36<x.sig.length
 ·have k3:((36:Int)<x.sig.length)=True:=eq_true (by omega)
  rw [hR,decide_eq_true g3,Bool.true_or]
  simp (disch:=omega) only [coC,qp,k1,qr,strs,k2,k3,go_sem]
  repeat' first
   |(refine qn ( .bool false) ?_;simp (disch:=omega) only [coC,qp,qr,strs,k1,k2,k3,go_sem])
   |((first|refine cA (c1 _) ?_ ?_|refine cG (fun e=>c1 _) ?_ ?_|refine cU (fun _=>c1 _) ?_ ?_);exact flk;simp (disch:=omega) only [coC,qp,qr,strs,k1,k2,k3,go_sem])
   |((first|apply qd|apply qb);exact rvk;simp only [go_sem];first|exact ql|apply qe|apply qa|apply qf|skip)
   |with_reducible first|intro _|apply aiA
  all_goals try exact clz
 have k3:((36:Int)<x.sig.length)=False:=eq_false (by omega)
 rw [decide_eq_false g3,Bool.false_or]at hR
 rw [hR]
 simp (disch:=omega) only [coC,qp,k1,qr,strs,k2,k3,go_sem]
 repeat' first
  |((first|refine cA (c1 _) ?_ ?_|refine cG (fun e=>c1 _) ?_ ?_|refine cA (c2 _) ?_ ?_|refine cG (fun e=>c2 _) ?_ ?_|refine cU (fun _=>c1 _) ?_ ?_|refine cU (fun _=>c2 _) ?_ ?_);exact flk;simp (disch:=omega) only [coC,qp,qr,strs,k1,k2,k3,go_sem])
  |((first|apply qd|apply qb);exact rvk;simp only [go_sem];first|exact ql|apply qe|apply qa|apply qf|skip)
  |with_reducible first|intro _|apply aiA
 all_goals try exact clz
def guR (u:Un) (k:Nat):Bool:=decide (8<(u.rds.getD k default).src.length)||gwB (u.rds.getD k default).words 8
def guB (u:Un):Bool:=decide (6<u.rds.length)||zd (guR u) u.rds.length
def qrc (l:List Un):Bool:=zd (fun i=>guB (l.getD i default)) l.length||decide (12<l.length)
structure UnB (l:List Un):Prop where
 n:l.length≤9223372036854775807
 rd: ∀i,(l.getD i default).rds.length≤9223372036854775807
 wd: ∀i j,((l.getD i default).rds.getD j default).words.length≤9223372036854775807
theorem qCU (l:List Un) (h:List AObj) (hb:UnB l):ACalls Tryz.prog 78 [qE l] h (.bool (qrc l)) h:=by
 have hn:=hb.n
 obtain ⟨R,hR⟩: ∃R,R=qrc l:=⟨_,rfl⟩
 rw [←hR]
 unfold qrc at hR
 refine acO qAT ?_
 simp (disch:=omega) only [qBZ,qE,go_sem]
 repeat' first
  |((first|apply qd|apply qb);exact rvk;simp only [go_sem];first|exact ql|apply qe|apply qa|apply qf|skip)
  |with_reducible first|intro _|apply aiA
 all_goals try exact clz
 refine qu (T:=fun i:Nat=>qT 54 [(0,qE l),(3,.int .i64 i)]) (H:=fun _=>h) (inv:=fun i=>i≤l.length∧ ∀j,j<i→(fun i=>guB (l.getD i default)) j=false) (m:=fun i=>l.length-i) 0 ⟨Nat.zero_le _,fun j hj=>absurd hj (Nat.not_lt_zero j)⟩ (Wk.temps ?_) ?_
 ·(simp only [qE,go_sem,qk,qh,qg,qj];try (repeat' first|(with_reducible apply aiA)|(apply qe;omega)|(apply qa;rfl)|exact ql))
 rintro i ⟨i1,i2⟩ K hK
 by_cases hi:i<l.length
 ·have k1:((i:Int)<l.length)=True:=eq_true (by omega)
  have hit:guB (l.getD i default)=true→R=true:=fun hc=>by rw [hR,qG.2 ⟨i,hi,hc⟩];rfl
  have i3:=fun hc=>jp (p:=fun i=>guB (l.getD i default)) i2 hc
  have hrd:=hb.rd i
  have hwd:=hb.wd i
  obtain ⟨u,hu⟩: ∃u,u=l.getD i default:=⟨_,rfl⟩
  have eu:=hu.symm
  rw [eu]at hit hrd
  simp only [eu]at i3 hwd
  have hB:guB u=(decide (6<u.rds.length)||zd (guR u) u.rds.length):=rfl
  by_cases g1:6<u.rds.length
  ·have k2:((6:Int)<u.rds.length)=True:=eq_true (by omega)
   rw [hit (by rw [hB,decide_eq_true g1];rfl)]
   simp (disch:=omega) only [qE,unC,zC,k1,k2,eu,go_sem]
   repeat' first
    |((first|apply qd|apply qb);exact rvk;simp only [go_sem];first|exact ql|apply qe|apply qa|apply qf|skip)
    |with_reducible first|intro _|apply aiA
   all_goals try exact clz
  have k2:((6:Int)<u.rds.length)=False:=eq_false (by omega)
  rw [decide_eq_false g1,Bool.false_or]at hB
  simp (disch:=omega) only [qE,unC,zC,k1,k2,eu,go_sem]
  repeat' first
   |((first|apply qd|apply qb);exact rvk;simp only [go_sem];first|exact ql|apply qe|apply qa|apply qf|skip)
   |with_reducible first|intro _|apply aiA
  all_goals try exact clz
  refine qu (T:=fun k:Nat=>qT 54 [(0,qE l),(3,.int .i64 i),(4,.int .i64 k)]) (H:=fun _=>h) (inv:=fun k=>k≤u.rds.length∧ ∀j,j<k→guR u j=false) (m:=fun k=>u.rds.length-k) 0 ⟨Nat.zero_le _,fun j hj=>absurd hj (Nat.not_lt_zero j)⟩ (Wk.temps ?_) ?_
  ·(simp only [qE,go_sem,qk,qh,qg,qj];try (repeat' first|(with_reducible apply aiA)|(apply qe;omega)|(apply qa;rfl)|exact ql))
  rintro k ⟨u1,u2⟩ K2 hK2
  by_cases hk:k<u.rds.length
  ·have t1:((k:Int)<u.rds.length)=True:=eq_true (by omega)
   have hkit:guR u k=true→R=true:=fun hc=>hit (by rw [hB,qG];exact ⟨k,hk,hc⟩)
   have u3:=fun hc=>jp (p:=guR u) u2 hc
   have hG:guR u k=(decide (8<(u.rds.getD k default).src.length)||gwB (u.rds.getD k default).words 8):=rfl
   have c1:=fun h=>gwP (u.rds.getD k default).words 8 h (hwd k)
   obtain ⟨r,hr⟩: ∃r,r=u.rds.getD k default:=⟨_,rfl⟩
   have er:=hr.symm
   simp only [er]at hG c1
   unfold strs at c1
   have z8:((8:Nat):Int)=8:=rfl
   simp only [z8]at c1
   by_cases g2:8<r.src.length
   ·have t2:((8:Int)<r.src.length)=True:=eq_true (by omega)
    rw [hkit (by rw [hG,decide_eq_true g2];rfl)]
    simp (disch:=omega) only [qE,unC,zC,rdC,qq,t1,eu,er,k1,t2,go_sem]
    repeat' first
     |(refine qn ( .bool false) ?_;simp (disch:=omega) only [qE,unC,zC,rdC,qq,k1,t1,t2,eu,er,go_sem])
     |((first|apply qd|apply qb);exact rvk;simp only [go_sem];first|exact ql|apply qe|apply qa|apply qf|skip)
     |with_reducible first|intro _|apply aiA
    all_goals try exact clz
   have t2:((8:Int)<r.src.length)=False:=eq_false (by omega)
   rw [decide_eq_false g2,Bool.false_or]at hG
   cases g3:gwB r.words 8 with
   |true=>
    rw [g3]at hG c1
    rw [hkit hG]
    simp (disch:=omega) only [qE,unC,zC,rdC,qq,t1,eu,er,strs,k1,t2,go_sem]
    repeat' first
     |((first|refine cA (c1 _) ?_ ?_|refine cG (fun e=>c1 _) ?_ ?_|refine cU (fun _=>c1 _) ?_ ?_);exact flk;simp (disch:=omega) only [qE,unC,zC,rdC,qq,strs,k1,t1,t2,eu,er,go_sem])
     |((first|apply qd|apply qb);exact rvk;simp only [go_sem];first|exact ql|apply qe|apply qa|apply qf|skip)
     |with_reducible first|intro _|apply aiA
    all_goals try exact clz
   |false=>
    rw [g3]at hG c1
    simp (disch:=omega) only [qE,unC,zC,rdC,qq,t1,eu,er,strs,k1,t2,go_sem]
    repeat' first
     |((first|refine cA (c1 _) ?_ ?_|refine cG (fun e=>c1 _) ?_ ?_|refine cU (fun _=>c1 _) ?_ ?_);exact flk;simp (disch:=omega) only [qE,unC,zC,rdC,qq,strs,k1,t1,t2,eu,er,go_sem])
     |((first|apply qd|apply qb);exact rvk;simp only [go_sem];first|exact ql|apply qe|apply qa|apply qf|skip)
     |with_reducible first|intro _|apply aiA
    all_goals try exact clz
    refine hK2 _ _ (k+1) ⟨hk,u3 hG⟩ (by omega) (Wk.temps ?_)
    (simp only [qE,go_sem,qk,qh,qg,qj];try (repeat' first|(with_reducible apply aiA)|(apply qe;omega)|(apply qa;rfl)|exact ql))
  ·have t1:((k:Int)<u.rds.length)=False:=eq_false (by omega)
   have hz:guB u=false:=by rw [hB,qo];exact fun j hj=>u2 j (by omega)
   simp (disch:=omega) only [qE,unC,zC,k1,t1,eu,go_sem]
   repeat' first
    |((first|apply qd|apply qb);exact rvk;simp only [go_sem];first|exact ql|apply qe|apply qa|apply qf|skip)
    |with_reducible first|intro _|apply aiA
   all_goals try exact clz
   refine hK _ _ (i+1) ⟨hi,i3 hz⟩ (by omega) (Wk.temps ?_)
   (simp only [qE,go_sem,qk,qh,qg,qj];try (repeat' first|(with_reducible apply aiA)|(apply qe;omega)|(apply qa;rfl)|exact ql))
 have k1:((i:Int)<l.length)=False:=eq_false (by omega)
 rw [qo.2 (fun j hj=>i2 j (by omega)),Bool.false_or]at hR
 have e1:decide ((12:Int)<l.length)=decide (12<l.length):=decide_eq_decide.2 (by omega)
 rw [hR,←e1]
 simp (disch:=omega) only [qE,k1,go_sem]
 repeat' first
  |((first|apply qd|apply qb);exact rvk;simp only [go_sem];first|exact ql|apply qe|apply qa|apply qf|skip)
  |with_reducible first|intro _|apply aiA
 all_goals try exact clz
end RC
end
section
open Go Go.Proofs AF
def qao:List Nat:= []
def qi7:C:=
 ((C.ops [O1 1 (.box 0 47) 0,MC 2 (.bool false)]).seq ((C.ops [O1 3 (.fldA 0) 1,O1 4 (.load (some 4)) 3,O1 5 (.call 77 true) 4,MV 6 5,P1 7 6 false (.fldA 4) 1,P1 8 6 false
 (.load none) 7,P1 9 6 false (.call 78 true) 8,PT 10 6 9,MV 11 10,P1 12 11 false (.fldA 0) 1,P1 13 11 false (.fldA 1) 12,P1 14 11 false (.load none) 13,P1 15 11 false (.fldA
 7) 1,P1 16 11 false (.load none) 15,P2 17 11 false (.call 69 true) 14 16,PT 18 11 17,MV 19 18,P1 20 19 false (.fldA 7) 1,P1 21 19 false (.load none) 20,P1 22 19 false .len
 21,PC 23 19 false (.bin .gtr) 22 (i6 18),PT 24 19 23,MV 25 24,P1 26 25 false (.fldA 5) 1,P1 27 25 false (.load none) 26,P1 28 25 false .len 27,PC 29 25 false (.bin .gtr) 28
 (i6 12),PT 30 25 29,MV 31 30,P1 32 31 false (.fldA 5) 1,P1 33 31 false (.load none) 32,PC 34 31 false (.call 90 true) 33 (.fn (Fn.func 91) [] []),PT 35 31 34,MV 36 35,P1 37
 36 false (.fldA 6) 1,P1 38 36 false (.load none) 37,P1 39 36 false .len 38,PC 40 36 false (.bin .gtr) 39 (i6 14),PT 41 36 40,MV 42 41,P1 43 42 false (.fldA 6) 1,P1 44 42
 false (.load none) 43,PC 45 42 false (.call 92 true) 44 (.fn (Fn.func 93) [] []),PT 46 42 45,MV 47 46,P1 48 47 false (.fldA 8) 1,P1 49 47 false (.load none) 48,P1 50 47 false
 .len 49,PC 51 47 false (.bin .gtr) 50 (i6 18),PT 52 47 51,MV 53 52,P1 54 53 false (.fldA 8) 1,P1 55 53 false (.load none) 54,PC 56 53 false (.call 94 true) 55 (.fn (Fn.func
 95) [] []),PT 57 53 56,MV 58 57,P1 59 58 false (.fldA 9) 1,P1 60 58 false (.load none) 59,P1 61 58 false .len 60,PC 62 58 false (.bin .gtr) 61 (i6 20),PT 63 58 62,MV 2
 63]).seq
 C.ret))
theorem qcB:qK Tryz.prog 23 64 1 [RV.tmp 2] qi7:=fi Tryz.f23 [1] qao []
def qBQ:C:=
 ((C.ops [O1 1 (.box 0 47) 0,ON 2 (.nilo 1 6 58) [],MC 3 (i6 0)]).seq ((C.ops [O1 4 (.fldA 0) 1,O1 5 (.load (some 4)) 4,O1 6 (.fldA 4) 1,LD 7 6,O1 8 (.fldA 5) 1,LD 9 8,O1 10
 (.fldA 6) 1,LD 11 10,O1 12 (.fldA 7) 1,LD 13 12,O1 14 (.fldA 8) 1,LD 15 14,O1 16 (.fldA 9) 1,LD 17 16,ON 18 (.call 96 true) [.t 5,.t 7,.t 9,.t 11,.t 13,.t 15,.t 17],
 O1 19 (.ext 0) 18,O1 20 (.ext 1) 18,MV 2 19,MV 3 20]).seq
 C.ret))
theorem qAE:qK Tryz.prog 25 21 2 [RV.tmp 2,RV.tmp 3] qBQ:=fi Tryz.f25 [1,2] qao []
def qB3:C:=
 ((C.ops [⟨some 0,none,.alloc 0 26 [.str [],.nl,.nl,.nl],[]⟩]).seq ((C.ops [⟨some 1,none,.bslc 1 1 2 9 [.str []] [(0,1),(1,1)],[.c (.str [65]),.c (.str [66])]⟩,ON 2
 (.call 163 true) [.c (.str [100,101,117,115])],ON 3 (.call 163 true) [.c (.str [101,115,116])],ON 4 (.call 163 true) [.c (.str [98,111,110,117,115])],⟨some 5,none,
 .bslc 2 6 3 124 [.str [],.str [],.str [],i6 0,i6 0,.str []] [(0,6),(6,6),(12,6)],[.t 2,.t 3,.t 4]⟩,ON 6 (.call 163 true) [.c (.str [100,101,117,115])],ON 7 (.call
 163 true) [.c (.str [98,111,110,117,115])],⟨some 8,none,.bslc 3 6 2 124 [.str [],.str [],.str [],i6 0,i6 0,.str []] [(0,6),(6,6)],[.t 6,.t 7]⟩,⟨some 9,none,
 .bslc 4 1 2 125 [.nl] [(0,1),(1,1)],[.t 5,.t 8]⟩,⟨some 10,none,.bslc 5 1 2 3 [i6 0] [(0,1),(1,1)],[.c (i6 0),.c (i6 0)]⟩,⟨some 11,none,.bslc 6 1 2 3 [i6 0] [(0,1),
 (1,1)],[.c (i6 1),.c (i6 (-1))]⟩,⟨some 12,none,.bslc 7 1 2 3 [i6 0] [(0,1),(1,1)],[.c (i6 2),.c (i6 1)]⟩,⟨some 13,none,.bslc 8 1 3 62 [.nl] [(0,1),(1,1),(2,1)],
 [.t 10,.t 11,.t 12]⟩,⟨some 14,none,.build [.str [],.nl,.nl,.nl] [(0,1),(1,1),(2,1),(3,1)],[.c (.str [97]),.t 1,.t 9,.t 13]⟩,ST 4 0 14]).seq
 C.ret))
theorem qAZ:qK Tryz.prog 97 15 9 [RV.cell 0 (some 4)] qB3:=fi Tryz.f97 [0,1,5,8,9,10,11,12,13] qao []
def qvY:C:=
 ((C.ops [⟨some 2,none,.alloc 0 124 [.str [],.str [],.str [],i6 0,i6 0,.str []],[]⟩]).seq ((C.ops [MV 3 0,MV 4 0,⟨some 5,none,.build [.str [],.str [],.str [],i6 0,i6
 0,.str []] [(0,1),(1,1)],[.t 3,.t 4]⟩,ST 6 2 5]).seq
 C.ret))
theorem qxx:qK Tryz.prog 163 6 1 [RV.cell 2 (some 6)] qvY:=fi Tryz.f163 [2] qao []
def qB0:C:=
 ((C.ops [MC 2 (.bool false)]).seq ((C.ops [MV 3 0,OC 4 (.call 70 true) 3 (i6 8),MV 2 4]).seq
 C.ret))
theorem qAV:qK Tryz.prog 91 5 0 [RV.tmp 2] qB0:=fi Tryz.f91 [] qao []
def qB1:C:=
 ((C.ops [O1 1 (.box 0 64) 0,MC 2 (.bool false)]).seq ((C.ops [O1 3 (.fldA 0) 1,LD 4 3,O1 5 .slen 4,BC 6 .gtr 5 (i6 30),MV 2 6]).seq
 C.ret))
theorem qAW:qK Tryz.prog 93 7 1 [RV.tmp 2] qB1:=fi Tryz.f93 [1] qao []
def qB2:C:=
 ((C.ops [MC 2 (.bool false)]).seq ((C.ops [MV 3 0,O1 4 .slen 3,BC 5 .gtr 4 (i6 40),MV 2 5]).seq
 C.ret))
theorem qAY:qK Tryz.prog 95 6 0 [RV.tmp 2] qB2:=fi Tryz.f95 [] qao []
def qBU:C:=
 ((C.ops [ON 2 (.nilo 0 1 9) []]).seq ((C.ops [ON 3 (.nilo 1 1 9) []]).seq (((C.ops [MV 6 0,O1 7 .len 6,MC 8 (i6 0)]).seq (C.block 0 ((C.ops [BI 9 .lss 8 7]).seq ((C.cond (.t 9)
 C.skip (C.exit 0)).seq ((C.block 1 ((C.ops [O2 10 (.idxA 7) 6 8,O1 11 (.load (some 7)) 10,⟨some 5,none,.alloc 2 64 [.str [],i6 0,i6 0,i6 0,.bool false,.bool false,.str
 []],[]⟩,ST 7 5 11]).seq (C.ops [MV 12 3,O1 13 (.fldA 0) 5,LD 14 13,⟨some 15,none,.bslc 3 1 1 9 [.str []] [(0,1)],[.t 14]⟩,O2 16 (.app 4 1 9 16) 12 15,MV 3 16]))).seq
 (C.ops [BC 17 .add 8 (i6 1),MV 8 17])))).loop)).seq ((C.ops [MV 18 3,MV 2 18]).seq
 C.ret))))
theorem qAL:qK Tryz.prog 48 19 5 [RV.tmp 2] qBU:=fi Tryz.f48 [2,3,5,15,16] qao []
end
section
open Go Go.Proofs AF HY LN
namespace RC
def zj (L:List (List Str)):AV:= .sl L.length fun i=> [strs (L.getD i [])]
def zk (L:List Bool):AV:= .sl L.length fun i=> [.bool (L.getD i false)]
theorem flag_clsV (L:List (List Str)):(zj L).flag=true:=rfl
theorem strip_clsV (L:List (List Str)):(zj L).strip=zj L:=rfl
theorem flag_bolV (L:List Bool):(zk L).flag=true:=rfl
theorem strip_bolV (L:List Bool):(zk L).strip=zk L:=rfl
section
variable {fz : Nat → Bool} {h : List AObj} {n : Nat}
theorem rei_clsV (L:List (List Str)):rei fz h (n+1) (zj L)=zj L:=rfl
theorem rei_bolV (L:List Bool):rei fz h (n+1) (zk L)=zk L:=rfl
theorem frz_clsV (L:List (List Str)):frz fz h (n+1) (zj L)=zj L:=rfl
theorem frz_bolV (L:List Bool):frz fz h (n+1) (zk L)=zk L:=rfl
end
attribute [go_sem] flag_clsV strip_clsV flag_bolV strip_bolV rei_clsV rei_bolV frz_clsV frz_bolV
def apC (a:Ap):List AV:= [.str a.x.sec,strs a.x.sig,qr a.x.tok,qp a.x.col,qE a.l,zj a.cls,qM a.b,qF a.gs,strs a.lay,zk a.pos]
structure ApB (a:Ap):Prop where
 x:CoB a.x
 l:UnB a.l
 c:a.cls.length≤9223372036854775807
 cw: ∀i,(a.cls.getD i []).length≤9223372036854775807
 b:a.b.length≤9223372036854775807
 g:a.gs.length≤9223372036854775807
 y:a.lay.length≤9223372036854775807
 p:a.pos.length≤9223372036854775807
theorem gr1 (w:List Str) (h:List AObj) (hn:w.length≤9223372036854775807):ACalls Tryz.prog 91 [strs w] h (.bool (gwB w 8)) h:=by
 have c1:=fun h=>gwP w 8 h hn
 have z8:((8:Nat):Int)=8:=rfl
 simp only [z8]at c1
 refine acO qAV ?_
 simp (disch:=omega) only [qB0,go_sem]
 repeat' first
  |((first|refine cA (c1 _) ?_ ?_|refine cG (fun e=>c1 _) ?_ ?_|refine cU (fun _=>c1 _) ?_ ?_);exact flk;simp (disch:=omega) only [go_sem])
  |((first|apply qd|apply qb);exact rvk;simp only [go_sem];first|exact ql|apply qe|apply qa|apply qf|skip)
  |with_reducible first|intro _|apply aiA
 all_goals try exact clz
theorem gr2 (w:Wd) (h:List AObj):ACalls Tryz.prog 93 [.agg (wdC w)] h (.bool (decide (30<w.text.length))) h:=by
 have e1:decide ((30:Int)<w.text.length)=decide (30<w.text.length):=decide_eq_decide.2 (by omega)
 rw [←e1]
 refine acO qAW ?_
 simp (disch:=omega) only [qB1,wdC,go_sem]
 repeat' first
  |((first|apply qd|apply qb);exact rvk;simp only [go_sem];first|exact ql|apply qe|apply qa|apply qf|skip)
  |with_reducible first|intro _|apply aiA
 all_goals try exact clz
theorem gr3 (s:Str) (h:List AObj):ACalls Tryz.prog 95 [.str s] h (.bool (decide (40<s.length))) h:=by
 have e1:decide ((40:Int)<s.length)=decide (40<s.length):=decide_eq_decide.2 (by omega)
 rw [←e1]
 refine acO qAY ?_
 simp (disch:=omega) only [qB2,go_sem]
 repeat' first
  |((first|apply qd|apply qb);exact rvk;simp only [go_sem];first|exact ql|apply qe|apply qa|apply qf|skip)
  |with_reducible first|intro _|apply aiA
 all_goals try exact clz
theorem gc1 (L:List (List Str)) (h:List AObj) (hn:L.length≤9223372036854775807) (hw: ∀i,(L.getD i []).length≤9223372036854775807):
  ACalls Tryz.prog 90 [zj L,.fn (.func 91) [] []] h (.bool (zd (fun j=>gwB (L.getD j []) 8) L.length)) h:=by
 unfold zj
 refine qhK qAU ⟨rfl,rfl⟩ ⟨rfl,rfl⟩ (qaD qxu L.length (fun j=> [strs (L.getD j [])]) (fun j=>strs (L.getD j [])) _ [] [] _ h (fun i _=>⟨rfl,by simp [zZ],rfl,rfl,rfl⟩) (fun i _=> ?_) (by omega))
 exact gr1 _ h (hw i)
theorem gc2 (b:List Wd) (h:List AObj) (hn:b.length≤9223372036854775807):
  ACalls Tryz.prog 92 [qM b,.fn (.func 93) [] []] h (.bool (zd (fun j=>decide (30<(b.getD j default).text.length)) b.length)) h:=by
 unfold qM
 refine qhK qoO ⟨rfl,rfl⟩ ⟨rfl,rfl⟩ (qaD qgK b.length (fun j=>wdC (b.getD j default)) (fun j=> .agg (wdC (b.getD j default))) _ [] [] _ h (fun i _=>⟨rfl,by simp [zZ,wdC],rfl,rfl,rfl⟩) (fun i _=> ?_) (by omega))
 exact gr2 _ h
theorem gc3 (L:List Str) (h:List AObj) (hn:L.length≤9223372036854775807):
  ACalls Tryz.prog 94 [strs L,.fn (.func 95) [] []] h (.bool (zd (fun j=>decide (40<(L.getD j []).length)) L.length)) h:=by
 unfold strs
 refine qhK qAX ⟨rfl,rfl⟩ ⟨rfl,rfl⟩ (qaD qAI L.length (fun j=> [.str (L.getD j [])]) (fun j=> .str (L.getD j [])) _ [] [] _ h (fun i _=>⟨rfl,by simp [zZ],rfl,rfl,rfl⟩) (fun i _=> ?_) (by omega))
 exact gr3 _ h
def qnA (a:Ap):Bool:=qtf a.x||(qrc a.l||(qle a.x.sig a.gs||(decide (18<a.gs.length)||(decide (12<a.cls.length)||(zd (fun j=>gwB (a.cls.getD j []) 8) a.cls.length||(decide (14<a.b.length)||(zd (fun j=>decide (30<(a.b.getD j default).text.length)) a.b.length||(decide (18<a.lay.length)||(zd (fun j=>decide (40<(a.lay.getD j []).length)) a.lay.length||decide (20<a.pos.length))))))))))
theorem grP (a:Ap) (h:List AObj) (hb:ApB a):ACalls Tryz.prog 23 [.agg (apC a)] h (.bool (qnA a)) h:=by
 have c1:=fun h=>qCT a.x h hb.x
 have c2:=fun h=>qCU a.l h hb.l
 have c3:=fun h=>qCV a.x.sig a.gs h hb.x.sg hb.g
 have c4:=fun h=>gc1 a.cls h hb.c hb.cw
 have c5:=fun h=>gc2 a.b h hb.b
 have c6:=fun h=>gc3 a.lay h hb.y
 obtain ⟨bA,hA⟩: ∃b,b=qtf a.x:=⟨_,rfl⟩
 simp only [←hA]at c1
 obtain ⟨bB,hB⟩: ∃b,b=qrc a.l:=⟨_,rfl⟩
 simp only [←hB]at c2
 obtain ⟨bC,hC⟩: ∃b,b=qle a.x.sig a.gs:=⟨_,rfl⟩
 simp only [←hC]at c3
 obtain ⟨bF,hF⟩: ∃b,b=zd (fun j=>gwB (a.cls.getD j []) 8) a.cls.length:=⟨_,rfl⟩
 simp only [←hF]at c4
 obtain ⟨bH,hH⟩: ∃b,b=zd (fun j=>decide (30<(a.b.getD j default).text.length)) a.b.length:=⟨_,rfl⟩
 simp only [←hH]at c5
 obtain ⟨bJ,hJ⟩: ∃b,b=zd (fun j=>decide (40<(a.lay.getD j []).length)) a.lay.length:=⟨_,rfl⟩
 simp only [←hJ]at c6
 unfold coC strs qr qp at c1
 unfold qE at c2
 unfold strs qF at c3
 unfold zj at c4
 unfold qM at c5
 unfold strs at c6
 obtain ⟨R,hR⟩: ∃R,R=qnA a:=⟨_,rfl⟩
 rw [←hR]
 unfold qnA at hR
 rw [←hA]at hR
 rw [←hB]at hR
 rw [←hC]at hR
 rw [←hF]at hR
 rw [←hH]at hR
 rw [←hJ]at hR
 cases bA with
 |true=>
  rw [Bool.true_or]at hR
  rw [hR]
  refine acO qcB ?_
  simp (disch:=omega) only [qi7,apC,coC,strs,qr,qp,qE,zj,qM,qF,zk,go_sem]
  repeat' first
   |(refine qn ( .bool false) ?_;simp (disch:=omega) only [apC,coC,strs,qr,qp,qE,zj,qM,qF,zk,go_sem])
   |(refine qn ( .bool false) ?_;simp (disch:=omega) only [apC,coC,strs,qr,qp,qE,zj,qM,qF,zk,go_sem])
   |(refine qn ( .bool false) ?_;simp (disch:=omega) only [apC,coC,strs,qr,qp,qE,zj,qM,qF,zk,go_sem])
   |(refine qn ( .bool false) ?_;simp (disch:=omega) only [apC,coC,strs,qr,qp,qE,zj,qM,qF,zk,go_sem])
   |(refine qn ( .bool false) ?_;simp (disch:=omega) only [apC,coC,strs,qr,qp,qE,zj,qM,qF,zk,go_sem])
   |((first|refine cA (c1 _) ?_ ?_|refine cG (fun e=>c1 _) ?_ ?_|refine cU (fun _=>c1 _) ?_ ?_);exact flk;simp (disch:=omega) only [apC,coC,strs,qr,qp,qE,zj,qM,qF,zk,go_sem])
   |((first|apply qd|apply qb);exact rvk;simp only [go_sem];first|exact ql|apply qe|apply qa|apply qf|skip)
   |with_reducible first|intro _|apply aiA
  all_goals try exact clz
 |false=>
 rw [Bool.false_or]at hR
 cases bB with
 |true=>
  rw [Bool.true_or]at hR
  rw [hR]
  refine acO qcB ?_
  simp (disch:=omega) only [qi7,apC,coC,strs,qr,qp,qE,zj,qM,qF,zk,go_sem]
  repeat' first
   |(refine qn ( .bool false) ?_;simp (disch:=omega) only [apC,coC,strs,qr,qp,qE,zj,qM,qF,zk,go_sem])
   |(refine qn ( .bool false) ?_;simp (disch:=omega) only [apC,coC,strs,qr,qp,qE,zj,qM,qF,zk,go_sem])
   |(refine qn ( .bool false) ?_;simp (disch:=omega) only [apC,coC,strs,qr,qp,qE,zj,qM,qF,zk,go_sem])
   |(refine qn ( .bool false) ?_;simp (disch:=omega) only [apC,coC,strs,qr,qp,qE,zj,qM,qF,zk,go_sem])
   |((first|refine cA (c1 _) ?_ ?_|refine cG (fun e=>c1 _) ?_ ?_|refine cA (c2 _) ?_ ?_|refine cG (fun e=>c2 _) ?_ ?_|refine cU (fun _=>c1 _) ?_ ?_|refine cU (fun _=>c2 _) ?_ ?_);exact flk;simp (disch:=omega) only [apC,coC,strs,qr,qp,qE,zj,qM,qF,zk,go_sem])
   |((first|apply qd|apply qb);exact rvk;simp only [go_sem];first|exact ql|apply qe|apply qa|apply qf|skip)
   |with_reducible first|intro _|apply aiA
  all_goals try exact clz
 |false=>
 rw [Bool.false_or]at hR
 cases bC with
 |true=>
  rw [Bool.true_or]at hR
  rw [hR]
  refine acO qcB ?_
  simp (disch:=omega) only [qi7,apC,coC,strs,qr,qp,qE,zj,qM,qF,zk,go_sem]
  repeat' first
   |(refine qn ( .bool false) ?_;simp (disch:=omega) only [apC,coC,strs,qr,qp,qE,zj,qM,qF,zk,go_sem])
   |(refine qn ( .bool false) ?_;simp (disch:=omega) only [apC,coC,strs,qr,qp,qE,zj,qM,qF,zk,go_sem])
   |(refine qn ( .bool false) ?_;simp (disch:=omega) only [apC,coC,strs,qr,qp,qE,zj,qM,qF,zk,go_sem])
   |((first|refine cA (c1 _) ?_ ?_|refine cG (fun e=>c1 _) ?_ ?_|refine cA (c2 _) ?_ ?_|refine cG (fun e=>c2 _) ?_ ?_|refine cA (c3 _) ?_ ?_|refine cG (fun e=>c3 _) ?_ ?_|refine cU (fun _=>c1 _) ?_ ?_|refine cU (fun _=>c2 _) ?_ ?_|refine cU (fun _=>c3 _) ?_ ?_);exact flk;simp (disch:=omega) only [apC,coC,strs,qr,qp,qE,zj,qM,qF,zk,go_sem])
   |((first|apply qd|apply qb);exact rvk;simp only [go_sem];first|exact ql|apply qe|apply qa|apply qf|skip)
   |with_reducible first|intro _|apply aiA
  all_goals try exact clz
 |false=>
 rw [Bool.false_or]at hR
 by_cases gD:18<a.gs.length
 ·have kD:((18:Int)<a.gs.length)=True:=eq_true (by omega)
  rw [decide_eq_true gD,Bool.true_or]at hR
  rw [hR]
  refine acO qcB ?_
  simp (disch:=omega) only [qi7,apC,coC,strs,qr,qp,qE,zj,qM,qF,zk,kD,go_sem]
  repeat' first
   |(refine qn ( .bool false) ?_;simp (disch:=omega) only [apC,coC,strs,qr,qp,qE,zj,qM,qF,zk,kD,go_sem])
   |(refine qn ( .bool false) ?_;simp (disch:=omega) only [apC,coC,strs,qr,qp,qE,zj,qM,qF,zk,kD,go_sem])
   |(refine qn ( .bool false) ?_;simp (disch:=omega) only [apC,coC,strs,qr,qp,qE,zj,qM,qF,zk,kD,go_sem])
   |((first|refine cA (c1 _) ?_ ?_|refine cG (fun e=>c1 _) ?_ ?_|refine cA (c2 _) ?_ ?_|refine cG (fun e=>c2 _) ?_ ?_|refine cA (c3 _) ?_ ?_|refine cG (fun e=>c3 _) ?_ ?_|refine cU (fun _=>c1 _) ?_ ?_|refine cU (fun _=>c2 _) ?_ ?_|refine cU (fun _=>c3 _) ?_ ?_);exact flk;simp (disch:=omega) only [apC,coC,strs,qr,qp,qE,zj,qM,qF,zk,kD,go_sem])
   |((first|apply qd|apply qb);exact rvk;simp only [go_sem];first|exact ql|apply qe|apply qa|apply qf|skip)
   |with_reducible first|intro _|apply aiA
  all_goals try exact clz
 have kD:((18:Int)<a.gs.length)=False:=eq_false (by omega)
 rw [decide_eq_false gD,Bool.false_or]at hR
 by_cases gE:12<a.cls.length
 ·have kE:((12:Int)<a.cls.length)=True:=eq_true (by omega)
  rw [decide_eq_true gE,Bool.true_or]at hR
  rw [hR]
  refine acO qcB ?_
  simp (disch:=omega) only [qi7,apC,coC,strs,qr,qp,qE,zj,qM,qF,zk,kD,kE,go_sem]
  repeat' first
   |(refine qn ( .bool false) ?_;simp (disch:=omega) only [apC,coC,strs,qr,qp,qE,zj,qM,qF,zk,kD,kE,go_sem])
   |(refine qn ( .bool false) ?_;simp (disch:=omega) only [apC,coC,strs,qr,qp,qE,zj,qM,qF,zk,kD,kE,go_sem])
   |(refine qn ( .bool false) ?_;simp (disch:=omega) only [apC,coC,strs,qr,qp,qE,zj,qM,qF,zk,kD,kE,go_sem])
   |((first|refine cA (c1 _) ?_ ?_|refine cG (fun e=>c1 _) ?_ ?_|refine cA (c2 _) ?_ ?_|refine cG (fun e=>c2 _) ?_ ?_|refine cA (c3 _) ?_ ?_|refine cG (fun e=>c3 _) ?_ ?_|refine cU (fun _=>c1 _) ?_ ?_|refine cU (fun _=>c2 _) ?_ ?_|refine cU (fun _=>c3 _) ?_ ?_);exact flk;simp (disch:=omega) only [apC,coC,strs,qr,qp,qE,zj,qM,qF,zk,kD,kE,go_sem])
   |((first|apply qd|apply qb);exact rvk;simp only [go_sem];first|exact ql|apply qe|apply qa|apply qf|skip)
   |with_reducible first|intro _|apply aiA
  all_goals try exact clz
 have kE:((12:Int)<a.cls.length)=False:=eq_false (by omega)
 rw [decide_eq_false gE,Bool.false_or]at hR
 cases bF with
 |true=>
  rw [Bool.true_or]at hR
  rw [hR]
  refine acO qcB ?_
  simp (disch:=omega) only [qi7,apC,coC,strs,qr,qp,qE,zj,qM,qF,zk,kD,kE,go_sem]
  repeat' first
   |(refine qn ( .bool false) ?_;simp (disch:=omega) only [apC,coC,strs,qr,qp,qE,zj,qM,qF,zk,kD,kE,go_sem])
   |(refine qn ( .bool false) ?_;simp (disch:=omega) only [apC,coC,strs,qr,qp,qE,zj,qM,qF,zk,kD,kE,go_sem])
   |((first|refine cA (c1 _) ?_ ?_|refine cG (fun e=>c1 _) ?_ ?_|refine cA (c2 _) ?_ ?_|refine cG (fun e=>c2 _) ?_ ?_|refine cA (c3 _) ?_ ?_|refine cG (fun e=>c3 _) ?_ ?_|refine cA (c4 _) ?_ ?_|refine cG (fun e=>c4 _) ?_ ?_|refine cU (fun _=>c1 _) ?_ ?_|refine cU (fun _=>c2 _) ?_ ?_|refine cU (fun _=>c3 _) ?_ ?_|refine cU (fun _=>c4 _) ?_ ?_);exact flk;simp (disch:=omega) only [apC,coC,strs,qr,qp,qE,zj,qM,qF,zk,kD,kE,go_sem])
   |((first|apply qd|apply qb);exact rvk;simp only [go_sem];first|exact ql|apply qe|apply qa|apply qf|skip)
   |with_reducible first|intro _|apply aiA
  all_goals try exact clz
 |false=>
 rw [Bool.false_or]at hR
 by_cases gG:14<a.b.length
 ·have kG:((14:Int)<a.b.length)=True:=eq_true (by omega)
  rw [decide_eq_true gG,Bool.true_or]at hR
  rw [hR]
  refine acO qcB ?_
  simp (disch:=omega) only [qi7,apC,coC,strs,qr,qp,qE,zj,qM,qF,zk,kD,kE,kG,go_sem]
  repeat' first
   |(refine qn ( .bool false) ?_;simp (disch:=omega) only [apC,coC,strs,qr,qp,qE,zj,qM,qF,zk,kD,kE,kG,go_sem])
   |(refine qn ( .bool false) ?_;simp (disch:=omega) only [apC,coC,strs,qr,qp,qE,zj,qM,qF,zk,kD,kE,kG,go_sem])
   |((first|refine cA (c1 _) ?_ ?_|refine cG (fun e=>c1 _) ?_ ?_|refine cA (c2 _) ?_ ?_|refine cG (fun e=>c2 _) ?_ ?_|refine cA (c3 _) ?_ ?_|refine cG (fun e=>c3 _) ?_ ?_|refine cA (c4 _) ?_ ?_|refine cG (fun e=>c4 _) ?_ ?_|refine cU (fun _=>c1 _) ?_ ?_|refine cU (fun _=>c2 _) ?_ ?_|refine cU (fun _=>c3 _) ?_ ?_|refine cU (fun _=>c4 _) ?_ ?_);exact flk;simp (disch:=omega) only [apC,coC,strs,qr,qp,qE,zj,qM,qF,zk,kD,kE,kG,go_sem])
   |((first|apply qd|apply qb);exact rvk;simp only [go_sem];first|exact ql|apply qe|apply qa|apply qf|skip)
   |with_reducible first|intro _|apply aiA
  all_goals try exact clz
 have kG:((14:Int)<a.b.length)=False:=eq_false (by omega)
 rw [decide_eq_false gG,Bool.false_or]at hR
 cases bH with
 |true=>
  rw [Bool.true_or]at hR
  rw [hR]
  refine acO qcB ?_
  simp (disch:=omega) only [qi7,apC,coC,strs,qr,qp,qE,zj,qM,qF,zk,kD,kE,kG,go_sem]
  repeat' first
   |(refine qn ( .bool false) ?_;simp (disch:=omega) only [apC,coC,strs,qr,qp,qE,zj,qM,qF,zk,kD,kE,kG,go_sem])
   |((first|refine cA (c1 _) ?_ ?_|refine cG (fun e=>c1 _) ?_ ?_|refine cA (c2 _) ?_ ?_|refine cG (fun e=>c2 _) ?_ ?_|refine cA (c3 _) ?_ ?_|refine cG (fun e=>c3 _) ?_ ?_|refine cA (c4 _) ?_ ?_|refine cG (fun e=>c4 _) ?_ ?_|refine cA (c5 _) ?_ ?_|refine cG (fun e=>c5 _) ?_ ?_|refine cU (fun _=>c1 _) ?_ ?_|refine cU (fun _=>c2 _) ?_ ?_|refine cU (fun _=>c3 _) ?_ ?_|refine cU (fun _=>c4 _) ?_ ?_|refine cU (fun _=>c5 _) ?_ ?_);exact flk;simp (disch:=omega) only [apC,coC,strs,qr,qp,qE,zj,qM,qF,zk,kD,kE,kG,go_sem])
   |((first|apply qd|apply qb);exact rvk;simp only [go_sem];first|exact ql|apply qe|apply qa|apply qf|skip)
   |with_reducible first|intro _|apply aiA
  all_goals try exact clz
 |false=>
 rw [Bool.false_or]at hR
 by_cases gI:18<a.lay.length
 ·have kI:((18:Int)<a.lay.length)=True:=eq_true (by omega)
  rw [decide_eq_true gI,Bool.true_or]at hR
  rw [hR]
  refine acO qcB ?_
  simp (disch:=omega) only [qi7,apC,coC,strs,qr,qp,qE,zj,qM,qF,zk,kD,kE,kG,kI,go_sem]
  repeat' first
   |(refine qn ( .bool false) ?_;simp (disch:=omega) only [apC,coC,strs,qr,qp,qE,zj,qM,qF,zk,kD,kE,kG,kI,go_sem])
   |((first|refine cA (c1 _) ?_ ?_|refine cG (fun e=>c1 _) ?_ ?_|refine cA (c2 _) ?_ ?_|refine cG (fun e=>c2 _) ?_ ?_|refine cA (c3 _) ?_ ?_|refine cG (fun e=>c3 _) ?_ ?_|refine cA (c4 _) ?_ ?_|refine cG (fun e=>c4 _) ?_ ?_|refine cA (c5 _) ?_ ?_|refine cG (fun e=>c5 _) ?_ ?_|refine cU (fun _=>c1 _) ?_ ?_|refine cU (fun _=>c2 _) ?_ ?_|refine cU (fun _=>c3 _) ?_ ?_|refine cU (fun _=>c4 _) ?_ ?_|refine cU (fun _=>c5 _) ?_ ?_);exact flk;simp (disch:=omega) only [apC,coC,strs,qr,qp,qE,zj,qM,qF,zk,kD,kE,kG,kI,go_sem])
   |((first|apply qd|apply qb);exact rvk;simp only [go_sem];first|exact ql|apply qe|apply qa|apply qf|skip)
   |with_reducible first|intro _|apply aiA
  all_goals try exact clz
 have kI:((18:Int)<a.lay.length)=False:=eq_false (by omega)
 rw [decide_eq_false gI,Bool.false_or]at hR
 cases bJ with
 |true=>
  rw [Bool.true_or]at hR
  rw [hR]
  refine acO qcB ?_
  simp (disch:=omega) only [qi7,apC,coC,strs,qr,qp,qE,zj,qM,qF,zk,kD,kE,kG,kI,go_sem]
  repeat' first
   |((first|refine cA (c1 _) ?_ ?_|refine cG (fun e=>c1 _) ?_ ?_|refine cA (c2 _) ?_ ?_|refine cG (fun e=>c2 _) ?_ ?_|refine cA (c3 _) ?_ ?_|refine cG (fun e=>c3 _) ?_ ?_|refine cA (c4 _) ?_ ?_|refine cG (fun e=>c4 _) ?_ ?_|refine cA (c5 _) ?_ ?_|refine cG (fun e=>c5 _) ?_ ?_|refine cA (c6 _) ?_ ?_|refine cG (fun e=>c6 _) ?_ ?_|refine cU (fun _=>c1 _) ?_ ?_|refine cU (fun _=>c2 _) ?_ ?_|refine cU (fun _=>c3 _) ?_ ?_|refine cU (fun _=>c4 _) ?_ ?_|refine cU (fun _=>c5 _) ?_ ?_|refine cU (fun _=>c6 _) ?_ ?_);exact flk;simp (disch:=omega) only [apC,coC,strs,qr,qp,qE,zj,qM,qF,zk,kD,kE,kG,kI,go_sem])
   |((first|apply qd|apply qb);exact rvk;simp only [go_sem];first|exact ql|apply qe|apply qa|apply qf|skip)
   |with_reducible first|intro _|apply aiA
  all_goals try exact clz
 |false=>
 rw [Bool.false_or]at hR
 have e1:decide ((20:Int)<a.pos.length)=decide (20<a.pos.length):=decide_eq_decide.2 (by omega)
 rw [hR,←e1]
 refine acO qcB ?_
 simp (disch:=omega) only [qi7,apC,coC,strs,qr,qp,qE,zj,qM,qF,zk,kD,kE,kG,kI,go_sem]
 repeat' first
  |((first|refine cA (c1 _) ?_ ?_|refine cG (fun e=>c1 _) ?_ ?_|refine cA (c2 _) ?_ ?_|refine cG (fun e=>c2 _) ?_ ?_|refine cA (c3 _) ?_ ?_|refine cG (fun e=>c3 _) ?_ ?_|refine cA (c4 _) ?_ ?_|refine cG (fun e=>c4 _) ?_ ?_|refine cA (c5 _) ?_ ?_|refine cG (fun e=>c5 _) ?_ ?_|refine cA (c6 _) ?_ ?_|refine cG (fun e=>c6 _) ?_ ?_|refine cU (fun _=>c1 _) ?_ ?_|refine cU (fun _=>c2 _) ?_ ?_|refine cU (fun _=>c3 _) ?_ ?_|refine cU (fun _=>c4 _) ?_ ?_|refine cU (fun _=>c5 _) ?_ ?_|refine cU (fun _=>c6 _) ?_ ?_);exact flk;simp (disch:=omega) only [apC,coC,strs,qr,qp,qE,zj,qM,qF,zk,kD,kE,kG,kI,go_sem])
  |((first|apply qd|apply qb);exact rvk;simp only [go_sem];first|exact ql|apply qe|apply qa|apply qf|skip)
  |with_reducible first|intro _|apply aiA
 all_goals try exact clz
theorem qY {α:Type} {d:α} (L:List α) (P:α→Prop) (hd:P d) (h: ∀i,i<L.length→P (L.getD i d)): ∀i,P (L.getD i d):=by
 intro i
 by_cases hi:i<L.length
 ·exact h i hi
 ·rw [gdqA,List.getElem?_eq_none (by omega)]
  exact hd
theorem qys {x:Co} (h:qtf x=false):qvh x∧x.col.length≤24∧x.sig.length≤36:=by
 unfold qtf at h
 rw [Bool.or_eq_false_iff,Bool.or_eq_false_iff,Bool.or_eq_false_iff,Bool.or_eq_false_iff,qo,decide_eq_false_iff_not,decide_eq_false_iff_not]at h
 obtain ⟨h1,h2,h3,h4,h5⟩:=h
 unfold gtB at h2
 rw [Bool.or_eq_false_iff,qo,Bool.or_eq_false_iff,Bool.or_eq_false_iff,decide_eq_false_iff_not,decide_eq_false_iff_not]at h2
 obtain ⟨t1,t2,t3,t4⟩:=h2
 unfold gnB at h5
 rw [Bool.or_eq_false_iff,qo,decide_eq_false_iff_not]at h5
 obtain ⟨n1,n2⟩:=h5
 have hrow: ∀i,i<x.tok.length→(x.tok.getD i []).length≤6∧ ∀j,j<(x.tok.getD i []).length→qbN ((x.tok.getD i []).getD j default)=false:=fun i hi=>by
  have:=t1 i hi
  unfold qcY at this
  rw [Bool.or_eq_false_iff,Bool.or_eq_false_iff,decide_eq_false_iff_not,qo]at this
  exact ⟨by omega,this.2.2⟩
 have hd0:qrE (default:Tk):=⟨by decide,by decide,by decide,by decide⟩
 refine ⟨⟨by omega,by omega,?_,by omega,?_,?_,by omega,?_⟩,by omega,by omega⟩
 ·exact qY x.sig (fun s=>s.length≤1000000000) (by decide) fun i hi=>by
   have:=of_decide_eq_false (n1 i hi)
   omega
 ·exact qY x.tok (fun s=>s.length≤1000000000) (by decide) fun i hi=>by have:=(hrow i hi).1;omega
 ·exact qY x.tok (fun s=> ∀j,qrE (s.getD j default)) (fun j=>by simpa using hd0) fun i hi=>qY _ qrE hd0 fun j hj=>by
   have:=(hrow i hi).2 j hj
   unfold qbN at this
   simp only [Bool.or_eq_false_iff,decide_eq_false_iff_not]at this
   exact ⟨by omega,by omega,by omega,by omega⟩
 ·exact qY x.col (fun s=>s.length≤1000000000) (by decide) fun i hi=>by
   have:=of_decide_eq_false (h1 i hi)
   omega
theorem qyt {l:List Un} (h:qrc l=false):qvz l∧l.length≤12:=by
 unfold qrc at h
 rw [Bool.or_eq_false_iff,qo,decide_eq_false_iff_not]at h
 obtain ⟨h1,h2⟩:=h
 have hu: ∀i,i<l.length→(l.getD i default).rds.length≤6∧ ∀j,j<(l.getD i default).rds.length→((l.getD i default).rds.getD j default).src.length≤8∧((l.getD i default).rds.getD j default).words.length≤8:=fun i hi=>by
  have:=h1 i hi
  unfold guB at this
  rw [Bool.or_eq_false_iff,decide_eq_false_iff_not,qo]at this
  refine ⟨by omega,fun j hj=> ?_⟩
  have h3:=this.2 j hj
  unfold guR at h3
  rw [Bool.or_eq_false_iff,decide_eq_false_iff_not]at h3
  have:=(qlm h3.2).1
  exact ⟨by omega,by omega⟩
 refine ⟨⟨by omega,?_,?_,?_⟩,by omega⟩
 ·exact qY l (fun u=>u.rds.length≤1000000000) (by decide) fun i hi=>by have:=(hu i hi).1;omega
 ·exact qY l (fun u=> ∀j,(u.rds.getD j default).src.length≤1000000000) (fun j=>by simp [show (default:Un).rds= []from rfl,show (default:Rd).src= []from rfl]) fun i hi=>qY _ (fun r:Rd=>r.src.length≤1000000000) (by decide) fun j hj=>by have:=(hu i hi).2 j hj;omega
 ·exact qY l (fun u=> ∀j,(u.rds.getD j default).words.length≤1000000000) (fun j=>by simp [show (default:Un).rds= []from rfl,show (default:Rd).words= []from rfl]) fun i hi=>qY _ (fun r:Rd=>r.words.length≤1000000000) (by decide) fun j hj=>by have:=(hu i hi).2 j hj;omega
structure qrC (a:Ap):Prop where
 co:qvh a.x
 un:qvz a.l
 l12:a.l.length≤12
 b14:a.b.length≤14
 bt: ∀i,(a.b.getD i default).text.length≤30
 y18:a.lay.length≤18
 yl: ∀i,(a.lay.getD i []).length≤40
 p20:a.pos.length≤20
 c12:a.cls.length≤12
 cw: ∀i,(a.cls.getD i []).length≤8
 g42:qle a.x.sig a.gs=false
theorem qlg {a:Ap} (h:qnA a=false):qrC a:=by
 unfold qnA at h
 simp only [Bool.or_eq_false_iff,decide_eq_false_iff_not]at h
 obtain ⟨h1,h2,h3,h4,h5,h6,h7,h8,h9,h10,h11⟩:=h
 obtain ⟨o1,o2,o3⟩:=qys h1
 obtain ⟨u1,u2⟩:=qyt h2
 refine ⟨o1,u1,u2,by omega,?_,by omega,?_,by omega,by omega,?_,h3⟩
 ·exact qY a.b (fun w=>w.text.length≤30) (by decide) fun i hi=>by have:=of_decide_eq_false (qo.1 h8 i hi);omega
 ·exact qY a.lay (fun s=>s.length≤40) (by decide) fun i hi=>by have:=of_decide_eq_false (qo.1 h10 i hi);omega
 ·exact qY a.cls (fun w=>w.length≤8) (by decide) fun i hi=>(qlm (qo.1 h6 i hi)).1
end RC
end
section
namespace AF
open Go
theorem Wk.moveCell {t:List AV} {h:List AObj} {i j a w v:Nat} {ty ty':TypeId} {ds cs:List AV} {sz off len:Nat}
  (hi:getO i h=some (.mem w ty' ds)) (ha:ds[a]? =some (.osl j v sz off len)) (hj:getO j h=some (.mem v ty cs)) (hne:i≠j):
  Wk t h t (setO i (setO j h (.emp (v+1))) (.mem w ty' (ds.set a (.osl h.length 1 sz off len)))++ [.mem 1 ty cs]):=by
 intro N W σ A H
 obtain ⟨p1,p2⟩:=H.hr.pushN 1
 have hjl:=kk hj
 have hil:=kk hi
 have hj':getO j (h++ [.emp 0])=some (.mem v ty cs):=by rw [qeF hjl];exact hj
 have hg:getO h.length (h++ [AObj.emp 0])=some (.emp 0):=by unfold getO;rw [List.getElem?_append_right (Nat.le_refl _),Nat.sub_self];rfl
 have hk':qP (h++ [.emp 0]) h.length=true:=by unfold qP;rw [hg]
 obtain ⟨σ2,q1,q2,q3⟩:=HR.move (h:=h++ [.emp 0]) p1 hj' hk' (by omega)
 have e0:setO h.length (setO j (h++ [.emp 0]) (.emp (v+1))) (.mem (qx (getO h.length (h++ [.emp 0]))+1) ty cs)=setO j h (.emp (v+1))++ [.mem 1 ty cs]:=by
  rw [hg]
  unfold setO
  rw [List.set_append_left _ _ hjl,List.set_append_right _ _ (by rw [List.length_set];exact Nat.le_refl _),List.length_set,Nat.sub_self]
  rfl
 rw [e0]at q1
 rw [hg]at q3
 have ee:=p2.trans q2
 have hiq:getO i (setO j h (.emp (v+1))++ [.mem 1 ty cs])=some (.mem w ty' ds):=by
  rw [qeF (by rw [qci];exact hil),qbS (by exact hne)]
  exact hi
 obtain ⟨o,b,arr,o1,o2,o3,o4,o5,o6,o7,o8,o9⟩:=jc q1 (qX hiq)
 obtain ⟨o',b',arr',r1,r2,r3,r4,r5,r6,r7,r8,r9⟩:=jc H.hr (qX hi)
 obtain ⟨o2',s1,s2,s3⟩:=ee.obj i o' r1
 rw [o1]at s1
 cases s1
 have eo:o=o':=s3 (o2.trans r2.symm)
 subst eo
 rw [o4]at r4
 cases r4
 have earr:arr=arr':=by
  obtain ⟨T,fz,_,x1⟩:=o5
  obtain ⟨T',fz',_,x2⟩:=r5
  rw [x1]at x2
  cases x2
  rfl
 subst earr
 have q:=q1.recell (cs':=ds.set a (.osl h.length 1 sz off len)) hiq o1 o4 o5 o6 (by simpa using o7) (fun n x hn hx=>o8 n x (by simpa using hn) hx) (fun n d x hd hx=>by
  rw [List.getElem?_set]at hd
  split at hd
  ·rename_i e
   subst e
   split at hd
   ·cases hd
    exact q3 sz off len x ((r9 a _ x ha hx).ext p2)
   ·cases hd
  ·exact o9 n d x hd hx)
 have e1:setO i (setO j h (.emp (v+1))++ [.mem 1 ty cs]) (.mem w ty' (ds.set a (.osl h.length 1 sz off len)))=setO i (setO j h (.emp (v+1))) (.mem w ty' (ds.set a (.osl h.length 1 sz off len)))++ [.mem 1 ty cs]:=by
  unfold setO
  rw [List.set_append_left _ _ (by rw [List.length_set];exact hil)]
 rw [e1]at q
 exact ⟨σ2,⟨q,H.sz,fun n d x hd hx=>(H.tm n d x hd hx).ext ee,qaK ee H.df⟩,ee⟩
end AF
end
section
open Go Go.Proofs AF HY LN
namespace RC
def qar (base:Nat) (L:List Rd):List AV:=(List.range L.length).flatMap fun j=> [strs (L.getD j default).words,.osl (base+j) (L.getD j default).src.length 1 0 (L.getD j default).src.length]
def qg6 (L:List Rd):List AObj:=L.map fun r=> .mem r.src.length 3 (qH r.src)
theorem qpC (L:List Rd):(qg6 L).length=L.length:=by simp [qg6]
theorem qmi {L:List Rd} {j:Nat} (hj:j<L.length):(qg6 L)[j]? =some (.mem (L.getD j default).src.length 3 (qH (L.getD j default).src)):=by
 unfold qg6
 rw [List.getElem?_map,zf hj,gdqA,zf hj]
 rfl
theorem qpB (L M:List Rd):qg6 (L++M)=qg6 L++qg6 M:=by simp [qg6]
theorem qpD {L:List Rd} {j:Nat} (r:Rd):(qg6 L).set j (.mem r.src.length 3 (qH r.src))=qg6 (L.set j r):=by
 unfold qg6
 rw [List.map_set]
theorem qdn {α:Type} (f g:Nat→List α): ∀n,(∀i,i<n→f i=g i)→(List.range n).flatMap f=(List.range n).flatMap g:=fun n h=>by
 rw [List.flatMap_def,List.flatMap_def]
 congr 1
 exact List.map_congr_left fun i hi=>h i (List.mem_range.1 hi)
theorem qmh (base:Nat) (L:List Rd) (r:Rd):qar base (L++ [r])=qar base L++ [strs r.words,.osl (base+L.length) r.src.length 1 0 r.src.length]:=by
 unfold qar
 rw [List.length_append,List.length_singleton,List.range_succ,List.flatMap_append]
 congr 1
 ·refine qdn _ _ _ fun i hi=> ?_
  rw [gdqA,List.getElem?_append_left hi,←gdqA]
 ·simp
theorem qcm (base:Nat) (L:List Rd):(qar base L).length=2*L.length:=by
 unfold qar
 generalize L.length=n
 generalize hf:(fun j=> [strs (L.getD j default).words,AV.osl (base+j) (L.getD j default).src.length 1 0 (L.getD j default).src.length])=f
 have h2: ∀j,(f j).length=2:=fun j=>by rw [←hf];rfl
 induction n with
 |zero=>rfl
 |succ n ih=>rw [List.range_succ,List.flatMap_append,List.length_append,ih];simp [h2];omega
theorem qdo (base:Nat) (L:List Rd) {k:Nat} (hk:k<L.length): ∃A B,A.length=2*k∧qar base L=A++ [strs (L.getD k default).words,.osl (base+k) (L.getD k default).src.length 1 0 (L.getD k default).src.length]++B∧
  ∀s,qar base (L.set k ⟨(L.getD k default).words,s⟩)=A++ [strs (L.getD k default).words,.osl (base+k) s.length 1 0 s.length]++B:=by
 have e:List.range L.length=List.range k++k::(List.range (L.length-(k+1))).map (fun i=>k+1+i):=by
  conv=>lhs;rw [show L.length=k+1+(L.length-(k+1)) by omega,List.range_add,List.range_succ,List.append_assoc]
  rfl
 refine ⟨(List.range k).flatMap fun j=> [strs (L.getD j default).words,.osl (base+j) (L.getD j default).src.length 1 0 (L.getD j default).src.length],((List.range (L.length-(k+1))).map (fun i=>k+1+i)).flatMap fun j=> [strs (L.getD j default).words,.osl (base+j) (L.getD j default).src.length 1 0 (L.getD j default).src.length],?_,?_,fun s=> ?_⟩
 ·have h2: ∀(f:Nat→List AV),(∀j,(f j).length=2)→ ∀n,((List.range n).flatMap f).length=2*n:=fun f hf n=>by
   induction n with
   |zero=>rfl
   |succ n ih=>rw [List.range_succ,List.flatMap_append,List.length_append,ih];simp [hf];omega
  exact h2 _ (fun _=>rfl) _
 ·unfold qar
  rw [e,List.flatMap_append,List.flatMap_cons,List.append_assoc]
 ·unfold qar
  rw [List.length_set,e,List.flatMap_append,List.flatMap_cons,List.append_assoc]
  have g: ∀j,(L.set k ⟨(L.getD k default).words,s⟩).getD j default=if j=k then ⟨(L.getD k default).words,s⟩ else L.getD j default:=fun j=>jR hk
  congr 1
  ·refine qdn _ _ _ fun i hi=> ?_
   rw [g,if_neg (by omega)]
  ·rw [g,if_pos rfl]
   show _::_::_=_::_::_
   congr 2
   rw [List.flatMap_def,List.flatMap_def,List.map_map,List.map_map]
   refine congrArg List.flatten (List.map_congr_left fun i _=> ?_)
   simp only [Function.comp]
   rw [g,if_neg (by omega)]
theorem qpA {base:Nat} {L:List Rd} {i:Nat} (hi:i<L.length):((qar base L).drop (i*2)).take 2= [strs (L.getD i default).words,.osl (base+i) (L.getD i default).src.length 1 0 (L.getD i default).src.length]:=by
 obtain ⟨A,B,h1,h2,_⟩:=qdo base L hi
 rw [h2,show i*2=A.length by omega,List.append_assoc,List.drop_append,Nat.sub_self]
 simp
theorem qo0 {L:List Int} {n:Nat} {g:AV→AV} (hg: ∀x,g (.int .i64 x)= .int .i64 x) (hn:n=L.length):ILe (qef (some (.mem n 3 (qH L))) n 1 0 n g) (qq L):=by
 subst hn
 rw [slOf_mem,if_pos ⟨rfl,by rw [zq];omega⟩]
 refine ILe.sl_eq fun i hi=> ?_
 simp only [Nat.zero_add,Nat.mul_one]
 have e:((qH L).drop i).take 1= [.int .i64 (L.getD i 0)]:=by
  rw [List.drop_eq_getElem_cons (by rw [zq];exact hi),List.take_succ_cons,List.take_zero]
  have h:=qeK (C:=L) hi
  rw [zf (by rw [zq];exact hi)]at h
  rw [Option.some.inj h]
 rw [e,List.map_cons,List.map_nil,hg]
theorem qmj {base v:Nat} {L:List Rd} {n:Nat} {fz:Nat→Bool} {H:List AObj} {d:Nat} (hn:n=L.length) (hf: ∀j,j<L.length→fz (base+j)=true) (hj: ∀j,j<L.length→getO (base+j) H=some (.mem (L.getD j default).src.length 3 (qH (L.getD j default).src))):
  VLe (qef (some (zM v 89 (qar base L))) v 2 0 n (rei fz H (d+2))) (zC L):=by
 subst hn
 by_cases h0:L= []
 ·subst h0
  show VLe (qef (some (.emp v)) v 2 0 0 _) _
  rw [slOf_emp,if_pos rfl]
  exact kZ
 ·have e0:zM v 89 (qar base L)= .mem v 89 (qar base L):=jB (fun e=>h0 (by
   have:=qcm base L
   rw [e]at this
   exact List.eq_nil_of_length_eq_zero (by simp at this;omega)))
  rw [e0,slOf_mem,if_pos ⟨rfl,by rw [qcm];omega⟩]
  refine VLe.sl (fun i hi=> ?_)
  simp only [Nat.zero_add]
  rw [qpA hi]
  refine ⟨ILe.refl _,?_,trivial⟩
  show ILe (rei fz H (d+1+1) (.osl (base+i) _ 1 0 _)) _
  rw [rei_osl,if_pos (hf i hi),hj i hi]
  exact qo0 (fun _=>rfl) rfl
theorem qsK {A B:List AV} {a b c:AV} {n:Nat} (hn:n=A.length+1):List.take n (A++ [a,b]++B)++ [c]++List.drop (n+1) (A++ [a,b]++B)=A++ [a,c]++B:=by
 have e1:A++ [a,b]++B=(A++ [a])++(b::B):=by simp
 have e2:A++ [a,b]++B=(A++ [a]++ [b])++B:=by simp
 have h1:List.take n (A++ [a,b]++B)=A++ [a]:=by rw [e1];exact List.take_left' (by rw [List.length_append,List.length_singleton,hn])
 have h2:List.drop (n+1) (A++ [a,b]++B)=B:=by rw [e2];exact List.drop_left' (by rw [List.length_append,List.length_append,List.length_singleton,List.length_singleton,hn])
 rw [h1,h2]
 simp
theorem qfu {hi:Int}: ∀ {S:List Int} {lo:Int},S.Pairwise (· < ·)→(∀x∈S,lo≤x∧x<hi)→S.length≤(hi-lo).toNat:=by
 intro S
 induction S with
 |nil=>intro lo _ _;exact Nat.zero_le _
 |cons a S ih=>
  intro lo h1 h2
  obtain ⟨p1,p2⟩:=List.pairwise_cons.1 h1
  have ha:=h2 a List.mem_cons_self
  have:=ih (lo:=a+1) p2 fun x hx=>⟨by have:=p1 x hx;omega,(h2 x (List.mem_cons_of_mem _ hx)).2⟩
  rw [List.length_cons]
  omega
theorem qA8 {h M:List AObj} {a0 a1 a2 a3 a4 a5 a6 a7 a8:AObj}:(h++a0::a1::a2::a3::a4::a5::a6::a7::a8::M).length=h.length+9+M.length:=by
 simp only [List.length_append,List.length_cons]
 omega
theorem qeE {h M:List AObj} {a0 a1 a2 a3 a4 a5 a6 a7 a8:AObj} {j:Nat}:getO (h.length+9+j) (h++a0::a1::a2::a3::a4::a5::a6::a7::a8::M)=M[j]? :=by
 unfold getO
 rw [List.getElem?_append_right (by omega),show h.length+9+j-h.length=j+9 by omega]
 rfl
theorem qzp {h M:List AObj} {a0 a1 a2 a3 a4 a5 a6 a7 a8 o:AObj} {j:Nat}:setO (h.length+9+j) (h++a0::a1::a2::a3::a4::a5::a6::a7::a8::M) o=h++a0::a1::a2::a3::a4::a5::a6::a7::a8::M.set j o:=by
 unfold setO
 rw [List.set_append_right _ _ (by omega),show h.length+9+j-h.length=j+9 by omega]
 rfl
theorem qDe (x:Co) (f t:Nat) (h:List AObj) (ho:CoOk x) (ht:t≤x.col.length) (hn:x.col.length≤1000000000):ACalls Tryz.prog 232 [.agg (coC x),.int .i64 (f:Int),.int .i64 (t:Int)] h (zC (qg7 x f t)) h:=by
 have zl: ∀g,valL g .len [strs x.sig]= .int .i64 x.sig.length:=fun _=>rfl
 have zo: ∀g,okL g .len [strs x.sig]=True:=fun _=>eq_true trivial
 refine acO qxP ?_
 simp (disch:=omega) only [qwd,coC,zl,zo,go_sem]
 repeat' first
  |((first|apply qd|apply qb);exact rvk;simp only [go_sem];first|exact ql|apply qe|apply qa|apply qf|skip)
  |with_reducible first|intro _|apply aiA
 all_goals try exact clz
 refine qu (T:=fun i:Nat×Nat×AObj×AObj×AObj×AObj=>qT 48 [(1,.int .i64 (f:Int)),(2,.int .i64 (t:Int)),(3,.op h.length 1 0),(7,.osl (h.length+2) i.2.1 2 0 (qbY x f (t-f) i.1).length),(13,.int .i64 x.sig.length),(14,.int .i64 i.1)])
  (H:=fun i=>h++ .mem 1 26 (coC x):: .emp 1::zM i.2.1 89 (qar (h.length+9) (qbY x f (t-f) i.1))::i.2.2.1::i.2.2.2.1::i.2.2.2.2.1:: .emp 0::i.2.2.2.2.2:: .emp 0::qg6 (qbY x f (t-f) i.1))
  (inv:=fun i=>i.1≤x.sig.length∧qP [i.2.2.1] 0=true∧qP [i.2.2.2.1] 0=true∧qP [i.2.2.2.2.1] 0=true∧qP [i.2.2.2.2.2] 0=true) (m:=fun i=>x.sig.length-i.1) (0,1,.emp 0,.emp 0,.emp 0,.emp 0) ⟨Nat.zero_le _,rfl,rfl,rfl,rfl⟩ (Wk.temps ?_) ?_
 ·(simp only [qbY,List.length_nil,go_sem,qk,qh,qg,qj];try (repeat' first|(with_reducible apply aiA)|(apply qe;omega)|(apply qa;rfl)|exact ql))
 rintro ⟨s,v,O3,O4,O5,O7⟩ ⟨i1,j3,j4,j5,j7⟩ K hK
 simp only at i1 j3 j4 j5 j7 hK
 have j3': ∀m,qP (O3::m) 0=true:=fun _=>j3
 have j4': ∀m,qP (O4::m) 0=true:=fun _=>j4
 have j5': ∀m,qP (O5::m) 0=true:=fun _=>j5
 have j7': ∀m,qP (O7::m) 0=true:=fun _=>j7
 have hst:qbY x f (t-f) (s+1)=qfm (qbY x f (t-f) s) (rdG x s f (t-f)) s:=rfl
 have hln:=qg9 x f (t-f) s
 have hsg:=ho.sg
 obtain ⟨L,hL⟩: ∃L,L=qbY x f (t-f) s:=⟨_,rfl⟩
 rw [←hL]at hst hln
 have eL:=hL.symm
 by_cases hs:s<x.sig.length
 ·have k1:((s:Int)<x.sig.length)=True:=eq_true (by omega)
  have c21:=fun h=>rdP x f t s h ho ht hs hn
  obtain ⟨w,hw⟩: ∃w,w=rdG x s f (t-f):=⟨_,rfl⟩
  rw [←hw]at hst
  simp only [←hw]at c21
  unfold coC at c21
  simp (disch:=omega) only [coC,k1,eL,j3',j4',j5',j7',go_sem]
  repeat' first
   |((first|refine cA (c21 _) ?_ ?_|refine cG (fun e=>c21 _) ?_ ?_|refine cU (fun _=>c21 _) ?_ ?_);exact flk;simp (disch:=omega) only [coC,k1,eL,j3',j4',j5',j7',go_sem])
   |((first|apply qd|apply qb);exact rvk;simp only [go_sem];first|exact ql|apply qe|apply qa|apply qf|skip)
   |with_reducible first|intro _|apply aiA
  all_goals try exact clz
  have hwl:w.length≤1000000000:=by have:=qdX x s f (t-f);rw [←hw]at this;omega
  have hRd:=qdY x f (t-f) s
  rw [eL]at hRd
  have hwL: ∀j,(L.getD j default).words.length≤1000000000:=qY L (fun r=>r.words.length≤1000000000) (by decide) fun j hj=>by
   have h1:=hRd.nn j hj
   obtain ⟨y,ys,e⟩:=List.exists_cons_of_ne_nil h1
   have h2:=hRd.wd j hj y (by rw [e];exact List.mem_cons_self)
   rw [h2]
   have:=qdX x y.toNat f (t-f)
   omega
  have hob:= @qmi L
  refine cA (r:= .int .i64 (qja L w)) ?c (by exact flk) ?_
  case c=>
   refine ACalls.borrow ((fdP L ⟨w,[(s:Int)]⟩ [] (by omega) hwl hwL).le ?v (ql)) rfl
   simp only [List.map_cons,List.map_nil,go_sem]
   refine ⟨qmj rfl (fun _ _=>rfl) (fun j hj=>by rw [qeE];exact hob hj),VLe.agg ⟨ql,VLe.sl_eq rfl (fun i hi=> ?_),trivial⟩,ql,trivial⟩
   obtain rfl:i=0:=by simpa using hi
   rfl
  have eKl:=qcm (h.length+9) L
  rcases qbA L w with ⟨k,b1,b2,b3⟩|⟨b1,b2⟩
  ·have q1:(qja L w<0)=False:=eq_false (by omega)
   have hst2:qbY x f (t-f) (s+1)=L.set k ⟨w,(L.getD k default).src++ [(s:Int)]⟩:=by
    rw [hst]
    unfold qfm
    rw [b3,if_neg (by omega),Int.toNat_natCast]
   obtain ⟨A,B,a1,a2,a3⟩:=qdo (h.length+9) L b1
   have a3:=a3 ((L.getD k default).src++ [(s:Int)])
   have hne:(qar (h.length+9) L≠ [])=True:=eq_true fun e=>by rw [e]at eKl;simp at eKl;omega
   have hob:=hob b1
   rw [b2]at a2 a3
   have hos:= @qpD L k ⟨w,(L.getD k default).src++ [(s:Int)]⟩
   rw [←hst2]at hos a3
   dsimp only at hos
   obtain ⟨S,hS⟩: ∃S,S=(L.getD k default).src:=⟨_,rfl⟩
   rw [←hS]at a2 a3 hob hos
   rw [List.length_append,List.length_singleton]at a3 hos
   rw [jT,show qH [(s:Int)]= [AV.int .i64 (s:Int)]from rfl]at hos
   have gg:(qar (h.length+9) L)[k*2+1]? =some (.osl (h.length+9+k) S.length 1 0 S.length):=by
    rw [a2,List.append_assoc,List.getElem?_append_right (by omega),show k*2+1-A.length=1 by omega]
    rfl
   have gs:List.take (k*2+1) (qar (h.length+9) L)++ [.osl (h.length+9+k) (S.length+1) 1 0 (S.length+1)]++List.drop (k*2+1+1) (qar (h.length+9) L)=qar (h.length+9) (qbY x f (t-f) (s+1)):=by
    rw [a2,a3]
    exact qsK (by omega)
   have eI:=zq S
   have hSl:S.length≤1000:=by
    have:=(qdZ x f (t-f) s).src (L.getD k default) (by rw [eL,gdqA,zf b1];exact List.getElem_mem b1)
    have:=qfu (hi:=(s:Int)) (lo:=0) this.1 this.2
    rw [←hS]at this
    omega
   have eown:zM v 89 (qar (h.length+9) L)= .mem v 89 (qar (h.length+9) L):=jB (of_eq_true hne)
   have el2:(qbY x f (t-f) (s+1)).length=L.length:=by rw [hst2,List.length_set]
   have eown2:zM v 89 (qar (h.length+9) (qbY x f (t-f) (s+1)))= .mem v 89 (qar (h.length+9) (qbY x f (t-f) (s+1))):=jB fun e=>by
    have:=qcm (h.length+9) (qbY x f (t-f) (s+1))
    rw [e,el2]at this
    simp at this
    omega
   have eTi:List.take S.length (qH S)=qH S:=List.take_of_length_le (by omega)
   have kL:((k:Int)<L.length)=True:=eq_true (by omega)
   have k0:(0≤(k:Int))=True:=eq_true (by omega)
   rw [eown]
   simp (disch:=omega) only [b3,q1,j7',gg,eKl,kL,k0,Option.getD_some,Option.isSome_some,qeE,qzp,hob,eI,eTi,Nat.mul_one,Int.toNat_natCast,go_sem]
   repeat' first
    |((first|apply qd|apply qb);exact rvk;simp only [go_sem];first|exact ql|apply qe|apply qa|apply qf|skip)
    |with_reducible first|intro _|apply aiA
   all_goals try exact clz
   all_goals try (simp only [qeR,qcw,qeE,hob,qdk,qcv,if_true,Option.getD_some,eI,beq_self_eq_true];done)
   all_goals try (simp only [bne_iff_ne];omega)
   all_goals try (simp only [qeR,qcw,qeE,hob,qdk,qcv,if_true,Option.getD_some,eI,beq_self_eq_true];exact Nat.le_refl _)
   rw [gs]
   have eD:(AV.int .i64 (s:Int)::List.drop 1 (zu [i6 0] 1))= [AV.int .i64 (s:Int)]:=rfl
   simp only [eD]
   rw [hos]
   refine hK _ _ (s+1,v,.mem (qx (some O3)+1) 3 [.int .i64 (s:Int)],.mem (qx (some O4)+1) 89 [strs w,.osl (h.length+3) (qx (some O3)+1) 1 0 1],O5,.mem (qx (some O7)+1) 3 [.int .i64 (s:Int)]) ⟨hs,rfl,rfl,j5,rfl⟩ (by simp only;omega) ?_
   simp only [eown2,el2,coC]
   refine Wk.temps ?_
   (simp only [go_sem,qk,qh,qg,qj];try (repeat' first|(with_reducible apply aiA)|(apply qe;omega)|(apply qa;rfl)|exact ql))
  ·have q1:(qja L w<0)=True:=eq_true b2
   have hst2:qbY x f (t-f) (s+1)=L++ [⟨w,[(s:Int)]⟩]:=by
    rw [hst]
    unfold qfm
    rw [if_pos b2]
   have eTk:List.take (L.length*2) (qar (h.length+9) L)=qar (h.length+9) L:=List.take_of_length_le (by omega)
   simp (disch:=omega) only [q1,j5',eTk,eKl,Nat.mul_one,go_sem]
   repeat' first
    |((first|apply qd|apply qb);exact rvk;simp only [go_sem];first|exact ql|apply qe|apply qa|apply qf|skip)
    |with_reducible first|intro _|apply aiA
   all_goals try exact clz
   have el2:(qbY x f (t-f) (s+1)).length=L.length+1:=by rw [hst2,List.length_append];rfl
   have eo:qg6 (qbY x f (t-f) (s+1))=qg6 L++ [.mem 1 3 [.int .i64 (s:Int)]]:=by rw [hst2,qpB];rfl
   have ek:qar (h.length+9) (qbY x f (t-f) (s+1))=qar (h.length+9) L++ [strs w,.osl (h.length+9+L.length) 1 1 0 1]:=by rw [hst2,qmh];rfl
   have eown:zM (v+1) 89 (qar (h.length+9) L++ [strs w,.osl (h.length+3) (qx (some O3)+1) 1 0 1])= .mem (v+1) 89 (qar (h.length+9) L++ [strs w,.osl (h.length+3) (qx (some O3)+1) 1 0 1]):=jB (by simp)
   have eown2:zM (v+1) 89 (qar (h.length+9) L++ [strs w,.osl (h.length+9+L.length) 1 1 0 1])= .mem (v+1) 89 (qar (h.length+9) L++ [strs w,.osl (h.length+9+L.length) 1 1 0 1]):=jB (by simp)
   have eset:(qar (h.length+9) L++ [strs w,AV.osl (h.length+3) (qx (some O3)+1) 1 0 1]).set (L.length*2+1) (.osl (h.length+9+L.length) 1 1 0 1)=qar (h.length+9) L++ [strs w,.osl (h.length+9+L.length) 1 1 0 1]:=by
    rw [List.set_append_right _ _ (by omega),eKl,show L.length*2+1-2*L.length=1 by omega]
    rfl
   rw [eown]
   refine hK _ _ (s+1,v+1,.emp (qx (some O3)+1+1),.mem (qx (some O4)+1) 89 [strs w,.osl (h.length+3) (qx (some O3)+1) 1 0 1],.mem (qx (some O5)+1) 89 [strs w,.osl (h.length+3) (qx (some O3)+1) 1 0 1],O7) ⟨hs,rfl,rfl,rfl,j7⟩ (by simp only;omega)
    (Wk.trans (Wk.moveCell (i:=h.length+2) (j:=h.length+3) (a:=L.length*2+1) (w:=v+1) (v:=qx (some O3)+1) (ty:=3) (ty':=89) (ds:=qar (h.length+9) L++ [strs w,.osl (h.length+3) (qx (some O3)+1) 1 0 1]) (cs:= [.int .i64 (s:Int)]) (sz:=1) (off:=0) (len:=1) ?m1 ?m2 ?m3 (by omega)) ?m4)
   case m1=>simp only [go_sem]
   case m2=>
    rw [List.getElem?_append_right (by omega),show L.length*2+1-(qar (h.length+9) L).length=1 by omega]
    rfl
   case m3=>simp only [go_sem];rfl
   case m4=>
    have eD:(AV.int .i64 (s:Int)::List.drop 1 (zu [i6 0] 1))= [AV.int .i64 (s:Int)]:=rfl
    have eD2: ∀c:AV,(strs w::c::List.drop 2 (zu [AV.nl,AV.nl] 1))= [strs w,c]:=fun _=>rfl
    simp only [eo,ek,eown2,el2,coC,eD,eD2,qA8,qpC,go_sem,eset,List.append_assoc,List.cons_append]
    refine Wk.temps ?_
    (simp only [go_sem,qk,qh,qg,qj];try (repeat' first|(with_reducible apply aiA)|(apply qe;omega)|(apply qa;rfl)|exact ql))
 ·have k1:((s:Int)<x.sig.length)=False:=eq_false (by omega)
  obtain rfl:s=x.sig.length:=by omega
  have hF:qg7 x f t=L:=by rw [hL];rfl
  rw [hF]
  simp (disch:=omega) only [k1,eL,go_sem]
  repeat' first
   |((first|apply qd|apply qb);exact rvk;simp only [go_sem];first|exact ql|apply qe|apply qa|apply qf|skip)
   |with_reducible first|intro _|apply aiA
  all_goals try exact clz
  exact qmj rfl (fun j _=>decide_eq_true (by omega)) (fun j hj=>by rw [qeE];exact qmi hj)
end RC
end
