import Derived.Test.YthlgfjbghnildaaGreatDoorK11
import Derived.Test.YthlgfjbghnildaaGreatDoorK1
import Derived.Test.YthlgfjbghnildaaGreatDoorK3
import Derived.Test.YthlgfjbghnildaaGreatDoorK6
import Derived.Test.YthlgfjbghnildaaGreatDoorProg
set_option linter.all false
set_option linter.unusedSimpArgs false
set_option linter.unusedVariables false
set_option linter.unusedSectionVars false
set_option maxRecDepth 100000
section
open Go Go.Proofs AF HY LN
namespace RC
set_option maxHeartbeats 8000000
theorem qbd {P:En→Prop} {l:List En} (h: ∀i,P (l.getD i default)): ∀i,P ((zX l).getD i default):=fun i=>by
 by_cases hi:i<(zX l).length
 ·obtain ⟨j,hj,e⟩:=List.getElem_of_mem ((zO l).subset (jw hi))
  have:=h j
  rw [gdqA (l:=l),qR hj]at this
  rw [←e]
  exact this
 ·have:=h l.length
  rw [gdqA,List.getElem?_eq_none (Nat.le_refl _)]at this
  rw [gdqA,List.getElem?_eq_none (by omega)]
  exact this
theorem qxl (a b c d e:AV) (n:Int):VLe (.tup [.agg [a,b,c,d,e],.int .i64 n]) (.tup [.agg [.undef,.undef,.undef,.undef,.undef],.int .i64 n]):=by
 have u: ∀a,VLe a .undef:=fun a w σ x _=> .imm .undef
 exact qT ⟨VLe.agg ⟨u _,u _,u _,u _,u _,trivial⟩,VLe.refl _,trivial⟩
section
variable (names : List Str) (gs : List Gr) (t : List Str) (l : List En) (src : Int) (h : List AObj)
theorem qxg (hc:CSz names gs t l) (hp:ku SG h):qm Tryz.prog 43 [strs names,qu gs,strs t,qy l] h (.tup [rdV names gs t l,.int .i64 (opE (rdE names gs t l))]) h:=by
 have c48:=fun l'=>qyO names gs t l (h++l') hc (hp.app l')
 by_cases g:rdE names gs t l=0
 ·have e1:=qcN g
  simp only [e1,g]at c48
  have e2:opE 0=0:=rfl
  rw [e1,g,e2]
  unfold edL at c48 ⊢
  refine acO qvo ?_
  simp (disch:=omega) only [qxA,List.replicate,go_sem]
  repeat' first
   |((first|refine cA (c48 _) ?_ ?_|refine cG (fun e=>c48 _) ?_ ?_|refine cU (fun _=>c48 _) ?_ ?_);(next=>exact flk);simp (disch:=omega) only [go_sem])
   |((first|apply qc|apply qb);exact rvk;simp only [go_sem];first|exact VLe.refl _|apply qd|apply qa|apply qe|skip)
   |with_reducible first|refine And.intro ?_ ?_|intro _
  all_goals try exact clz
 ·have e1:=qbr g
  have k1:(rdE names gs t l=0)=False:=eq_false g
  have e2:opE (rdE names gs t l)=1:=if_neg g
  simp only [e1]at c48
  rw [e1,e2]
  refine acO qvo ?_
  simp (disch:=omega) only [qxA,List.replicate,k1,go_sem]
  repeat' first
   |((first|refine cA (c48 _) ?_ ?_|refine cG (fun e=>c48 _) ?_ ?_|refine cU (fun _=>c48 _) ?_ ?_);(next=>exact flk);simp (disch:=omega) only [k1,go_sem])
   |((first|apply qc|apply qb);exact rvk;simp only [go_sem];first|exact VLe.refl _|apply qd|apply qa|apply qe|skip)
   |with_reducible first|refine And.intro ?_ ?_|intro _
  all_goals try exact clz
theorem qd5 {n:Nat}:(src<0∧inR names src=false)∨(0≤src∧(names.length:Int)≤src∧inR names src=false)∨(∃s:Nat,src=(s:Int)∧s<names.length∧inR names src=true):=by
 unfold inR
 by_cases h1:0≤src
 ·by_cases h2:src<names.length
  ·refine .inr (.inr ⟨src.toNat,by omega,by omega,by simp [h1,h2]⟩)
  ·refine .inr (.inl ⟨h1,by omega,by simp [h2]⟩)
 ·refine .inl ⟨by omega,by simp [h1]⟩
theorem qyX (hc:CSz names gs t l) (hp:ku SG h):qm Tryz.prog 12 [strs names,qu gs,strs t,qy l,.int .i64 src] h (.tup [strs (qyW names gs t l src),.int .i64 (qmM names gs t l src)]) h:=by
 have c43:=fun l'=>qxg names gs t l (h++l') hc (hp.app l')
 unfold qyW
 have nl0:VLe AV.nl (strs []):=jn
 by_cases g:rdE names gs t l=0
 case neg=>
  have e1:=qbr g
  have e2:opE (rdE names gs t l)=1:=if_neg g
  have e3:qmM names gs t l src=1:=if_neg g
  simp only [e1,e2]at c43
  rw [e3,if_neg (by decide)]
  refine acO qnI ?_
  simp (disch:=omega) only [qtO,List.replicate,go_sem]
  repeat' first
   |((first|refine cA (c43 _) ?_ ?_|refine cG (fun e=>c43 _) ?_ ?_|refine cU (fun _=>c43 _) ?_ ?_);(next=>exact flk);simp (disch:=omega) only [go_sem])
   |((first|apply qc|apply qb);exact rvk;simp only [go_sem];first|exact VLe.refl _|apply qd|apply qa|apply qe|skip)
   |with_reducible first|refine And.intro ?_ ?_|intro _
  all_goals try exact clz
  exact qT ⟨nl0,VLe.refl _,trivial⟩
 have e1:=qcN g
 have e2:opE 0=0:=rfl
 have e3:qmM names gs t l src=if inR names src=true then 0 else 2:=if_pos g
 simp only [e1,g,e2]at c43
 rcases qd5 names src (n:=0)with ⟨i1,i2⟩|⟨i1,i2,i3⟩|⟨s,rfl,i1,i2⟩
 ·rw [e3,i2,if_neg (by simp),if_neg (by decide)]
  have k1:(src<0)=True:=eq_true i1
  unfold edL at c43
  refine acO qnI ?_
  simp (disch:=omega) only [qtO,List.replicate,k1,go_sem]
  repeat' first
   |((first|refine cA (c43 _) ?_ ?_|refine cG (fun e=>c43 _) ?_ ?_|refine cU (fun _=>c43 _) ?_ ?_);(next=>exact flk);simp (disch:=omega) only [k1,go_sem])
   |((first|apply qc|apply qb);exact rvk;simp only [go_sem];first|exact VLe.refl _|apply qd|apply qa|apply qe|skip)
   |with_reducible first|refine And.intro ?_ ?_|intro _
  all_goals try exact clz
  exact qT ⟨nl0,VLe.refl _,trivial⟩
 ·rw [e3,i3,if_neg (by simp),if_neg (by decide)]
  have k1:(src<0)=False:=eq_false (by omega)
  have k2:((names.length:Int)≤src)=True:=eq_true i2
  unfold edL strs at c43
  refine acO qnI ?_
  simp (disch:=omega) only [qtO,List.replicate,k1,strs,go_sem]
  repeat' first
   |((first|refine cA (c43 _) ?_ ?_|refine cG (fun e=>c43 _) ?_ ?_|refine cU (fun _=>c43 _) ?_ ?_);(next=>exact flk);simp (disch:=omega) only [k1,k2,strs,go_sem])
   |((first|apply qc|apply qb);exact rvk;simp only [go_sem];first|exact VLe.refl _|apply qd|apply qa|apply qe|skip)
   |with_reducible first|refine And.intro ?_ ?_|intro _
  all_goals try exact clz
  exact qT ⟨nl0,VLe.refl _,trivial⟩
 ·rw [e3,i2,if_pos rfl,if_pos rfl]
  have k1:((s:Int)<0)=False:=eq_false (by omega)
  have k2:((names.length:Int)≤s)=False:=eq_false (by omega)
  have zl: ∀g,valL g .len [strs names]= .int .i64 names.length:=fun _=>rfl
  have zo: ∀g,okL g .len [strs names]=True:=fun _=>eq_true trivial
  have hLn:=kU l
  have c44:=fun h=>qz4 names gs t (zX l) (s:Int) h (by have:=hc.ln;omega) (qbd (P:=fun e=>e.vars.length≤1000) hc.vl) (qbd (P:=fun e=> ∀j,(e.vars.getD j default).words.length≤1000) hc.wl) hc.tn ((qgs.1 g).tx i1)
  have eT:qpi names gs t (s:Int) ((zX l).filter (qar names gs (s:Int))) 0=qio names gs t l (s:Int):=rfl
  simp only [eT]at c44
  unfold edL at c43 c44
  refine acO qnI ?_
  simp (disch:=omega) only [qtO,List.replicate,k1,zl,zo,go_sem]
  repeat' first
   |((first|refine cA (c43 _) ?_ ?_|refine cG (fun e=>c43 _) ?_ ?_|refine cA (c44 _) ?_ ?_|refine cG (fun e=>c44 _) ?_ ?_|refine cU (fun _=>c43 _) ?_ ?_|refine cU (fun _=>c44 _) ?_ ?_);(next=>exact flk);simp (disch:=omega) only [k1,k2,zl,zo,go_sem])
   |((first|apply qc|apply qb);exact rvk;simp only [go_sem];first|exact VLe.refl _|apply qd|apply qa|apply qe|skip)
   |with_reducible first|refine And.intro ?_ ?_|intro _
  all_goals try exact clz
theorem qxU (hc:CSz names gs t l) (hp:ku SG h):qm Tryz.prog 16 [strs names,qu gs,strs t,qy l,.int .i64 src] h (.tup [.int .i64 (qxT names gs t l src),.int .i64 (qmM names gs t l src)]) h:=by
 have c43:=fun l'=>qxg names gs t l (h++l') hc (hp.app l')
 unfold qxT
 by_cases g:rdE names gs t l=0
 case neg=>
  have e1:=qbr g
  have e2:opE (rdE names gs t l)=1:=if_neg g
  have e3:qmM names gs t l src=1:=if_neg g
  simp only [e1,e2]at c43
  rw [e3,if_neg (by decide)]
  refine acO qnJ ?_
  simp (disch:=omega) only [qtX,List.replicate,go_sem]
  repeat' first
   |((first|refine cA (c43 _) ?_ ?_|refine cG (fun e=>c43 _) ?_ ?_|refine cU (fun _=>c43 _) ?_ ?_);(next=>exact flk);simp (disch:=omega) only [go_sem])
   |((first|apply qc|apply qb);exact rvk;simp only [go_sem];first|exact VLe.refl _|apply qd|apply qa|apply qe|skip)
   |with_reducible first|refine And.intro ?_ ?_|intro _
  all_goals try exact clz
 have e1:=qcN g
 have e2:opE 0=0:=rfl
 have e3:qmM names gs t l src=if inR names src=true then 0 else 2:=if_pos g
 simp only [e1,g,e2]at c43
 rcases qd5 names src (n:=0)with ⟨i1,i2⟩|⟨i1,i2,i3⟩|⟨s,rfl,i1,i2⟩
 ·rw [e3,i2,if_neg (by simp),if_neg (by decide)]
  have k1:(src<0)=True:=eq_true i1
  unfold edL at c43
  refine acO qnJ ?_
  simp (disch:=omega) only [qtX,List.replicate,k1,go_sem]
  repeat' first
   |((first|refine cA (c43 _) ?_ ?_|refine cG (fun e=>c43 _) ?_ ?_|refine cU (fun _=>c43 _) ?_ ?_);(next=>exact flk);simp (disch:=omega) only [k1,go_sem])
   |((first|apply qc|apply qb);exact rvk;simp only [go_sem];first|exact VLe.refl _|apply qd|apply qa|apply qe|skip)
   |with_reducible first|refine And.intro ?_ ?_|intro _
  all_goals try exact clz
 ·rw [e3,i3,if_neg (by simp),if_neg (by decide)]
  have k1:(src<0)=False:=eq_false (by omega)
  have k2:((names.length:Int)≤src)=True:=eq_true i2
  unfold edL strs at c43
  refine acO qnJ ?_
  simp (disch:=omega) only [qtX,List.replicate,k1,strs,go_sem]
  repeat' first
   |((first|refine cA (c43 _) ?_ ?_|refine cG (fun e=>c43 _) ?_ ?_|refine cU (fun _=>c43 _) ?_ ?_);(next=>exact flk);simp (disch:=omega) only [k1,k2,strs,go_sem])
   |((first|apply qc|apply qb);exact rvk;simp only [go_sem];first|exact VLe.refl _|apply qd|apply qa|apply qe|skip)
   |with_reducible first|refine And.intro ?_ ?_|intro _
  all_goals try exact clz
 ·rw [e3,i2,if_pos rfl,if_pos rfl]
  have k1:((s:Int)<0)=False:=eq_false (by omega)
  have k2:((names.length:Int)≤s)=False:=eq_false (by omega)
  have zl: ∀g,valL g .len [strs names]= .int .i64 names.length:=fun _=>rfl
  have zo: ∀g,okL g .len [strs names]=True:=fun _=>eq_true trivial
  have hLn:=kU l
  have c46:=fun h=>qzQ names gs t (zX l) (s:Int) h (by have:=hc.ln;omega) (qbd (P:=fun e=>e.vars.length≤1000000000) (fun i=>by have:=hc.vl i;omega))
  have eT:(zX l).filter (qar names gs (s:Int))=ofE names gs l (s:Int):=rfl
  simp only [eT]at c46
  unfold edL at c43 c46
  refine acO qnJ ?_
  simp (disch:=omega) only [qtX,List.replicate,k1,zl,zo,go_sem]
  repeat' first
   |((first|refine cA (c43 _) ?_ ?_|refine cG (fun e=>c43 _) ?_ ?_|refine cA (c46 _) ?_ ?_|refine cG (fun e=>c46 _) ?_ ?_|refine cU (fun _=>c43 _) ?_ ?_|refine cU (fun _=>c46 _) ?_ ?_);(next=>exact flk);simp (disch:=omega) only [k1,k2,zl,zo,go_sem])
   |((first|apply qc|apply qb);exact rvk;simp only [go_sem];first|exact VLe.refl _|apply qd|apply qa|apply qe|skip)
   |with_reducible first|refine And.intro ?_ ?_|intro _
  all_goals try exact clz
theorem qoU {v n:Nat} {L:List (List Str)} {g:AV→AV} (hg: ∀s,g (strs s)=strs s) (hn:n=L.length):VLe (qex (some (zk v 22 (qdE L))) v 1 0 n g) (je L):=by
 subst hn
 by_cases h:L= []
 ·subst h
  show VLe (qex (some (.emp v)) v 1 0 0 g) _
  rw [slOf_emp,if_pos rfl]
  exact jn
 ·have e0:zk v 22 (qdE L)= .mem v 22 (qdE L):=jA (by simpa [qdE] using h)
  rw [e0,slOf_mem,if_pos ⟨rfl,by rw [qgE];omega⟩]
  simp only [Nat.zero_add,Nat.mul_one]
  exact qpe g hg rfl
theorem kT {v n:Nat} {L:List Int} {g:AV→AV} (hg: ∀s,g (.int .i64 s)= .int .i64 s) (hn:n=L.length):VLe (qex (some (zk v 3 (qp L))) v 1 0 n g) (ql L):=by
 subst hn
 by_cases h:L= []
 ·subst h
  show VLe (qex (some (.emp v)) v 1 0 0 g) _
  rw [slOf_emp,if_pos rfl]
  exact jn
 ·have e0:zk v 3 (qp L)= .mem v 3 (qp L):=jA (fun e=>h (qb9.1 e))
  rw [e0,slOf_mem,if_pos ⟨rfl,by rw [qw];omega⟩]
  simp only [Nat.zero_add,Nat.mul_one]
  exact jd g hg rfl
theorem qtv (hc:CSz names gs t l) (hp:ku SG h):qm Tryz.prog 14 [strs names,qu gs,strs t,qy l] h (.tup [je (qw9 names gs t l),.int .i64 (opE (rdE names gs t l))]) h:=by
 have c43:=fun l'=>qxg names gs t l (h++l') hc (hp.app l')
 unfold qw9
 have nl0:VLe AV.nl (je []):=jn
 have hnn:=hc.nn
 by_cases g:rdE names gs t l=0
 case neg=>
  have e1:=qbr g
  have e2:opE (rdE names gs t l)=1:=if_neg g
  simp only [e1,e2]at c43
  rw [e2,if_neg g]
  refine acO quY ?_
  simp (disch:=omega) only [qxr,List.replicate,go_sem]
  repeat' first
   |((first|refine cA (c43 _) ?_ ?_|refine cG (fun e=>c43 _) ?_ ?_|refine cU (fun _=>c43 _) ?_ ?_);(next=>exact flk);simp (disch:=omega) only [go_sem])
   |((first|apply qc|apply qb);exact rvk;simp only [go_sem];first|exact VLe.refl _|apply qd|apply qa|apply qe|skip)
   |with_reducible first|refine And.intro ?_ ?_|intro _
  all_goals try exact clz
  exact qT ⟨nl0,VLe.refl _,trivial⟩
 have e1:=qcN g
 have e2:opE 0=0:=rfl
 simp only [e1,g,e2]at c43
 rw [if_pos g,g,e2]
 have zl: ∀g,valL g .len [strs names]= .int .i64 names.length:=fun _=>rfl
 have zo: ∀g,okL g .len [strs names]=True:=fun _=>eq_true trivial
 have hLn:=kU l
 have hok:=qgs.1 g
 unfold edL at c43
 refine acO quY ?_
 simp (disch:=omega) only [qxr,List.replicate,zl,zo,go_sem]
 repeat' first
  |((first|refine cA (c43 _) ?_ ?_|refine cG (fun e=>c43 _) ?_ ?_|refine cU (fun _=>c43 _) ?_ ?_);(next=>exact flk);simp (disch:=omega) only [zl,zo,go_sem])
  |((first|apply qc|apply qb);exact rvk;simp only [go_sem];first|exact VLe.refl _|apply qd|apply qa|apply qe|skip)
  |with_reducible first|refine And.intro ?_ ?_|intro _
 all_goals try exact clz
 refine qn (T:=fun i:Nat×Nat×AObj=>qI 38 [(10,.op (h.length+1) 1 0),(12,.osl (h.length+2) i.2.1 1 0 i.1),(26,.int .i64 names.length),(27,.int .i64 i.1)])
  (H:=fun i=>h++ [.emp 1,.mem 1 71 (edL names gs t (zX l)),zk i.2.1 22 (qdE (qcs names gs t l i.1)),i.2.2,.emp 0])
  (inv:=fun i=>i.1≤names.length∧qH [i.2.2] 0=true) (m:=fun i=>names.length-i.1) (0,1,.emp 0) ⟨Nat.zero_le _,rfl⟩ (Wk.temps ?_) ?_
 ·(simp only [List.replicate,go_sem,qj,qh,qg,qi];try (repeat' first|(with_reducible refine And.intro ?_ ?_)|(apply qd;omega)|(apply qa;rfl)|exact VLe.refl _))
 rintro ⟨i,v,O⟩ ⟨i1,i2⟩ K hK
 simp only at i1 i2 hK
 have i2': ∀m,qH (O::m) 0=true:=fun _=>i2
 have hst:=qis names gs t l i
 have hln:=qfW names gs t l i
 by_cases hi:i<names.length
 ·have k1:((i:Int)<names.length)=True:=eq_true (by omega)
  have c44:=fun h=>qz4 names gs t (zX l) (i:Int) h (by have:=hc.ln;omega) (qbd (P:=fun e=>e.vars.length≤1000) hc.vl) (qbd (P:=fun e=> ∀j,(e.vars.getD j default).words.length≤1000) hc.wl) hc.tn (hok.tx hi)
  have eT:qpi names gs t (i:Int) ((zX l).filter (qar names gs (i:Int))) 0=qio names gs t l (i:Int):=rfl
  simp only [eT]at c44
  obtain ⟨L,hL⟩: ∃L,L=qcs names gs t l i:=⟨_,rfl⟩
  rw [←hL]at hst hln
  have eL:=hL.symm
  have eC:=qgE L
  have eTk:List.take i (qdE L)=qdE L:=List.take_of_length_le (by omega)
  unfold edL at c44
  simp (disch:=omega) only [List.replicate,edL,k1,i2',eL,Nat.mul_one,go_sem]
  repeat' first
   |((first|refine cA (c44 _) ?_ ?_|refine cG (fun e=>c44 _) ?_ ?_|refine cU (fun _=>c44 _) ?_ ?_);(next=>exact flk);simp (disch:=omega) only [edL,k1,i2',eL,eC,hln,eTk,Nat.mul_one,go_sem])
   |((first|apply qc|apply qb);exact rvk;simp only [go_sem];first|exact VLe.refl _|apply qd|apply qa|apply qe|skip)
   |with_reducible first|refine And.intro ?_ ?_|intro _
  all_goals try exact clz
  have eA:qdE L++ [strs (qio names gs t l (i:Int))]=qdE (qcs names gs t l (i+1)):=by rw [hst,qpc];rfl
  try rw [eTk]
  rw [eA]
  refine hK _ _ (i+1,v+1,.mem (qv (some O)+1) 22 [strs (qio names gs t l (i:Int))]) ⟨hi,rfl⟩ (by simp only;omega) (Wk.temps ?_)
  (simp only [List.replicate,go_sem,qj,qh,qg,qi];try (repeat' first|(with_reducible refine And.intro ?_ ?_)|(apply qd;omega)|(apply qa;rfl)|exact VLe.refl _))
 ·obtain rfl:i=names.length:=by omega
  have k1:((names.length:Int)<names.length)=False:=eq_false (by omega)
  simp (disch:=omega) only [List.replicate,k1,go_sem]
  repeat' first
   |((first|apply qc|apply qb);exact rvk;simp only [go_sem];first|exact VLe.refl _|apply qd|apply qa|apply qe|skip)
   |with_reducible first|refine And.intro ?_ ?_|intro _
  all_goals try exact clz
  exact qT ⟨qoU (fun _=>rfl) hln.symm,VLe.refl _,trivial⟩
theorem qxp (hc:CSz names gs t l) (hp:ku SG h):qm Tryz.prog 18 [strs names,qu gs,strs t,qy l] h (.tup [ql (qxo names gs t l),.int .i64 (opE (rdE names gs t l))]) h:=by
 have c43:=fun l'=>qxg names gs t l (h++l') hc (hp.app l')
 unfold qxo
 have hnn:=hc.nn
 by_cases g:rdE names gs t l=0
 case neg=>
  have e1:=qbr g
  have e2:opE (rdE names gs t l)=1:=if_neg g
  simp only [e1,e2]at c43
  rw [e2,if_neg g]
  refine acO qvd ?_
  simp (disch:=omega) only [qxs,List.replicate,go_sem]
  repeat' first
   |((first|refine cA (c43 _) ?_ ?_|refine cG (fun e=>c43 _) ?_ ?_|refine cU (fun _=>c43 _) ?_ ?_);(next=>exact flk);simp (disch:=omega) only [go_sem])
   |((first|apply qc|apply qb);exact rvk;simp only [go_sem];first|exact VLe.refl _|apply qd|apply qa|apply qe|skip)
   |with_reducible first|refine And.intro ?_ ?_|intro _
  all_goals try exact clz
  exact zd
 have e1:=qcN g
 have e2:opE 0=0:=rfl
 simp only [e1,g,e2]at c43
 rw [if_pos g,g,e2]
 have zl: ∀g,valL g .len [strs names]= .int .i64 names.length:=fun _=>rfl
 have zo: ∀g,okL g .len [strs names]=True:=fun _=>eq_true trivial
 have hLn:=kU l
 unfold edL at c43
 refine acO qvd ?_
 simp (disch:=omega) only [qxs,List.replicate,zl,zo,go_sem]
 repeat' first
  |((first|refine cA (c43 _) ?_ ?_|refine cG (fun e=>c43 _) ?_ ?_|refine cU (fun _=>c43 _) ?_ ?_);(next=>exact flk);simp (disch:=omega) only [zl,zo,go_sem])
  |((first|apply qc|apply qb);exact rvk;simp only [go_sem];first|exact VLe.refl _|apply qd|apply qa|apply qe|skip)
  |with_reducible first|refine And.intro ?_ ?_|intro _
 all_goals try exact clz
 refine qn (T:=fun i:Nat×Nat×AObj=>qI 40 [(10,.op (h.length+1) 1 0),(12,.osl (h.length+2) i.2.1 1 0 (qY (noE names gs l) i.1).length),(26,.int .i64 names.length),(27,.int .i64 i.1)])
  (H:=fun i=>h++ [.emp 1,.mem 1 71 (edL names gs t (zX l)),zk i.2.1 3 (qp (qY (noE names gs l) i.1)),i.2.2,.emp 0])
  (inv:=fun i=>i.1≤names.length∧qH [i.2.2] 0=true) (m:=fun i=>names.length-i.1) (0,1,.emp 0) ⟨Nat.zero_le _,rfl⟩ (Wk.temps ?_) ?_
 ·(simp only [qY,List.range_zero,List.filter_nil,List.length_nil,List.replicate,go_sem,qj,qh,qg,qi];try (repeat' first|(with_reducible refine And.intro ?_ ?_)|(apply qd;omega)|(apply qa;rfl)|exact VLe.refl _))
 rintro ⟨i,v,O⟩ ⟨i1,i2⟩ K hK
 simp only at i1 i2 hK
 have i2': ∀m,qH (O::m) 0=true:=fun _=>i2
 have hst:=jz (noE names gs l) i
 have hln:=qS (noE names gs l) i
 have hnE:noE names gs l i=decide ((ofE names gs l (i:Int)).length=0):=rfl
 obtain ⟨L,hL⟩: ∃L,L=qY (noE names gs l) i:=⟨_,rfl⟩
 rw [←hL]at hst hln
 have eL:=hL.symm
 have eC:=qw L
 by_cases hi:i<names.length
 ·have k1:((i:Int)<names.length)=True:=eq_true (by omega)
  have c46:=fun h=>qzQ names gs t (zX l) (i:Int) h (by have:=hc.ln;omega) (qbd (P:=fun e=>e.vars.length≤1000000000) (fun i=>by have:=hc.vl i;omega))
  have eF:(zX l).filter (qar names gs (i:Int))=ofE names gs l (i:Int):=rfl
  simp only [eF]at c46
  have eTk:List.take L.length (qp L)=qp L:=List.take_of_length_le (by omega)
  unfold edL at c46
  obtain ⟨q,hq⟩: ∃q,q=(ofE names gs l (i:Int)).length:=⟨_,rfl⟩
  rw [←hq]at hnE
  simp only [←hq]at c46
  by_cases g0:q=0
  ·have k2:((q:Int)=0)=True:=eq_true (by omega)
   rw [if_pos (by rw [hnE];exact decide_eq_true g0)]at hst
   simp (disch:=omega) only [List.replicate,edL,k1,i2',eL,Nat.mul_one,go_sem]
   repeat' first
    |((first|refine cA (c46 _) ?_ ?_|refine cG (fun e=>c46 _) ?_ ?_|refine cU (fun _=>c46 _) ?_ ?_);(next=>exact flk);simp (disch:=omega) only [edL,k1,k2,i2',eL,eC,eTk,Nat.mul_one,go_sem])
    |((first|apply qc|apply qb);exact rvk;simp only [go_sem];first|exact VLe.refl _|apply qd|apply qa|apply qe|skip)
    |with_reducible first|refine And.intro ?_ ?_|intro _
   all_goals try exact clz
   have eA:qp L++ [AV.int .i64 (i:Int)]=qp (qY (noE names gs l) (i+1)):=by rw [hst,qQ];rfl
   rw [eA]
   refine hK _ _ (i+1,v+1,.mem (qv (some O)+1) 3 [.int .i64 (i:Int)]) ⟨hi,rfl⟩ (by simp only;omega) ?_
   simp only [hst,List.length_append,List.length_cons,List.length_nil]
   refine Wk.temps ?_
   (simp only [List.replicate,go_sem,qj,qh,qg,qi];try (repeat' first|(with_reducible refine And.intro ?_ ?_)|(apply qd;omega)|(apply qa;rfl)|exact VLe.refl _))
  ·have k2:((q:Int)=0)=False:=eq_false (by omega)
   rw [if_neg (by rw [hnE];simpa using g0),List.append_nil]at hst
   simp (disch:=omega) only [List.replicate,edL,k1,i2',eL,go_sem]
   repeat' first
    |((first|refine cA (c46 _) ?_ ?_|refine cG (fun e=>c46 _) ?_ ?_|refine cU (fun _=>c46 _) ?_ ?_);(next=>exact flk);simp (disch:=omega) only [edL,k1,k2,i2',eL,go_sem])
    |((first|apply qc|apply qb);exact rvk;simp only [go_sem];first|exact VLe.refl _|apply qd|apply qa|apply qe|skip)
    |with_reducible first|refine And.intro ?_ ?_|intro _
   all_goals try exact clz
   refine hK _ _ (i+1,v,O) ⟨hi,i2⟩ (by simp only;omega) ?_
   simp only [hst]
   refine Wk.temps ?_
   (simp only [List.replicate,go_sem,qj,qh,qg,qi];try (repeat' first|(with_reducible refine And.intro ?_ ?_)|(apply qd;omega)|(apply qa;rfl)|exact VLe.refl _))
 ·obtain rfl:i=names.length:=by omega
  have k1:((names.length:Int)<names.length)=False:=eq_false (by omega)
  rw [eL]
  simp (disch:=omega) only [List.replicate,k1,eL,go_sem]
  repeat' first
   |((first|apply qc|apply qb);exact rvk;simp only [go_sem];first|exact VLe.refl _|apply qd|apply qa|apply qe|skip)
   |with_reducible first|refine And.intro ?_ ?_|intro _
  all_goals try exact clz
  exact qT ⟨kT (fun _=>rfl) rfl,VLe.refl _,trivial⟩
end
end RC
end
section
open Go Go.Proofs AF
def qrF:List Nat:= [93,74,79,120,147,148,161,170,63,105,131,64,31,32,57,58,29,30,1000061,1000062,1000063,1000064,1000068,1000069,1000070,1000071]
def qxt:C:=
 ((C.ops [MC 8 (i6 0)]).seq (((C.ops [MV 16 0,MV 17 1,O2 18 (.call 49 true) 16 17,BC 19 .neq 18 (i6 0)]).seq (C.cond (.t 19) ((C.ops [MC 8 (i6 1)]).seq C.ret) C.skip)).seq
 (((C.ops [MV 20 3,O1 21 .len 20,BC 22 .gtr 21 (i6 4096)]).seq (C.cond (.t 22) ((C.ops [MC 8 (i6 4)]).seq C.ret) C.skip)).seq (((C.ops [MC 9 (i6 0)]).seq (C.block 0 (((C.ops [MV
 23 9,MV 24 3,O1 25 .len 24,BI 26 .lss 23 25]).seq (C.cond (.t 26) C.skip (C.exit 0))).seq ((C.block 1 ((C.ops [MV 29 0,MV 30 1,MV 31 2,MV 32 3,MV 33 9,O2 34 (.idxA 6) 32
 33,O1 35 (.load (some 6)) 34,ON 36 (.call 50 true) [.t 29,.t 30,.t 31,.t 35],MV 10 36]).seq ((C.ops [MV 37 10,BC 38 .neq 37 (i6 0)]).seq (C.cond (.t 38) ((C.ops [MV 39 10,
 MV 8 39]).seq C.ret) C.skip)))).seq (C.ops [MV 27 9,BC 28 .add 27 (i6 1),MV 9 28]))).loop)).seq (((C.ops [MC 11 (i6 0)]).seq (C.block 2 (((C.ops [MV 40 11,MV 41 0,O1 42 .len
 41,BI 43 .lss 40 42]).seq (C.cond (.t 43) C.skip (C.exit 2))).seq ((C.block 3 ((C.ops [MV 46 0,MV 47 1,MV 48 3,MV 49 11,ON 50 (.call 47 true) [.t 46,.t 47,.t 48,.t 49],MV
 12 50]).seq ((C.ops [MC 13 (i6 1)]).seq (C.block 4 (((C.ops [MV 51 13,MV 52 12,O1 53 .len 52,BI 54 .lss 51 53]).seq (C.cond (.t 54) C.skip (C.exit 4))).seq ((C.block 5 ((C.draw
 (DT.one ⟨some 57,none,.mv,[.t 3]⟩ (DT.one ⟨some 58,none,.mv,[.t 12]⟩ (DT.one ⟨some 59,none,.mv,[.t 13]⟩ (DT.one ⟨some 60,none,.bin .sub,[.t 59,.c (i6 1)]⟩ (DT.one
 ⟨some 61,none,.idxI 1,[.t 58,.t 60]⟩ (DT.one ⟨some 62,none,.loadI none,[.t 61]⟩ (DT.one ⟨some 63,none,.idxI 6,[.t 57,.t 62]⟩ (DT.one ⟨some 64,none,.loadI (some 6),[.t
 63]⟩ (DT.one ⟨some 65,none,.mv,[.t 3]⟩ (DT.one ⟨some 66,none,.mv,[.t 12]⟩ (DT.one ⟨some 67,none,.mv,[.t 13]⟩ (DT.one ⟨some 68,none,.idxI 1,[.t 66,.t 67]⟩ (DT.one ⟨some
 69,none,.loadI none,[.t 68]⟩ (DT.one ⟨some 70,none,.idxI 6,[.t 65,.t 69]⟩ (DT.one ⟨some 71,none,.loadI (some 6),[.t 70]⟩ (DT.one ⟨some 14,none,.alloc 0 49 [i6 0,i6 0,
 i6 0,.bool false,.nl,.nl],[]⟩ (DT.one ⟨some 15,none,.alloc 1 49 [i6 0,i6 0,i6 0,.bool false,.nl,.nl],[]⟩ (DT.one ⟨none,none,.store 6,[.t 14,.t 64]⟩ (DT.one ⟨none,
 none,.store 6,[.t 15,.t 71]⟩ DT.nil)))))))))))))))))))).seq ((C.ops [O1 72 (.fldA 1) 15,LD 73 72,O1 74 (.fldA 2) 14,LD 75 74,BI 76 .lss 73 75,MV 77 76,P1 78 77 false
 (.fldA 1) 14,P1 79 77 false (.load none) 78,P1 80 77 false (.fldA 1) 15,P1 81 77 false (.load none) 80,P2 82 77 false (.bin .eql) 79 81,MG 83 77 false 82,P1 84 83 true (.fldA
 2) 14,P1 85 83 true (.load none) 84,P1 86 83 true (.fldA 2) 15,P1 87 83 true (.load none) 86,P2 88 83 true (.bin .eql) 85 87,QF 89 77 false 83 88,PT 90 77 89]).seq (C.cond
 (.t 90) ((C.ops [MC 8 (i6 17)]).seq C.ret) C.skip)))).seq (C.ops [MV 55 13,BC 56 .add 55 (i6 1),MV 13 56]))).loop)))).seq (C.ops [MV 44 11,BC 45 .add 44 (i6 1),MV 11
 45]))).loop)).seq ((C.ops [MC 8 (i6 0)]).seq
 C.ret))))))
theorem qvf:qJ Tryz.prog 21 91 2 [RV.tmp 8] qxt:=fi Tryz.f21 [14,15] qrF [] (by kernel_rfl) (by kernel_rfl) (by kernel_rfl) (by kernel_rfl)
end
section
open Go Go.Proofs AF HY LN
namespace RC
set_option maxHeartbeats 8000000
theorem qv8 (names:List Str) (gs:List Gr) (l:List En) (src:Int) {j:Nat} (hj:j<(qbq names gs l src l.length).length): ∃Y:Nat,Y<l.length∧(qbq names gs l src l.length).getD j 0=(Y:Int)∧(ofE names gs l src).getD j default=l.getD Y default:=by
 have hm:(qbq names gs l src l.length).getD j 0∈qbq names gs l src l.length:=by
  rw [gdqA,qR hj];exact List.getElem_mem hj
 have hr:=qgn names gs l src l.length _ hm
 refine ⟨((qbq names gs l src l.length).getD j 0).toNat,by omega,by omega,?_⟩
 have e:(qbq names gs l src l.length).getD j 0=(qbq names gs l src l.length)[j]:=by rw [gdqA,qR hj];rfl
 rw [←qk8,gdqA,List.getElem?_map,qR hj,e]
 rfl
theorem qsb (names:List Str) (gs:List Gr) (l:List En) (src:Int):(qbq names gs l src l.length).length=(ofE names gs l src).length:=by
 rw [←qk8,List.length_map]
theorem que (names:List Str) (gs:List Gr) (t:List Str) (l:List En) (h:List AObj) (hc:CSz names gs t l) (hp:ku SG h):
  qm Tryz.prog 21 [strs names,qu gs,strs t,qy l] h (.int .i64 (rdE names gs t l)) h:=by
 have c49:=fun h=>sgR names gs h hc.hz
 have c50:=fun i l'=>qAk names gs t (l.getD i default) (h++l') hc.hz hc.ht (hc.he i) hc.gm (fun j=>by have:=hc.sg i j;omega) (by have:=hc.sp i;omega) (hp.app l')
 have c47:=fun (s:Nat) h=>qAQ names gs l (s:Int) h hc.hz (by have:=hc.ln;omega) hc.gm (fun i=>by have:=hc.vl i;omega) (fun i j=>by have:=hc.sg i j;omega)
 have hln:=hc.ln
 have hnn:=hc.nn
 obtain ⟨R,hR⟩: ∃R,R=rdE names gs t l:=⟨_,rfl⟩
 rw [←hR]
 unfold rdE at hR
 by_cases g0:sgE names gs=0
 case neg=>
  rw [if_pos g0]at hR
  rw [hR]
  have k0:(sgE names gs=0)=False:=eq_false g0
  refine acO qvf ?_
  simp (disch:=omega) only [qxt,List.replicate,strs,qu,qy,k0,go_sem]
  unfold strs qu at c49
  repeat' first
   |((first|refine cA (c49 _) ?_ ?_|refine cG (fun e=>c49 _) ?_ ?_|refine cU (fun _=>c49 _) ?_ ?_);(next=>exact flk);simp (disch:=omega) only [strs,qu,qy,k0,go_sem])
   |((first|apply qc|apply qb);exact rvk;simp only [go_sem];first|exact VLe.refl _|apply qd|apply qa|apply qe|skip)
   |with_reducible first|refine And.intro ?_ ?_|intro _
  all_goals try exact clz
 rw [if_neg (fun hc=>hc g0),if_neg (by omega)]at hR
 have k1:((4096:Int)<l.length)=False:=eq_false (by omega)
 rw [g0]at c49
 refine acO qvf ?_
 simp (disch:=omega) only [qxt,List.replicate,qy,k1,go_sem]
 repeat' first
  |((first|refine cA (c49 _) ?_ ?_|refine cG (fun e=>c49 _) ?_ ?_|refine cU (fun _=>c49 _) ?_ ?_);(next=>exact flk);simp (disch:=omega) only [qy,k1,go_sem])
  |((first|apply qc|apply qb);exact rvk;simp only [go_sem];first|exact VLe.refl _|apply qd|apply qa|apply qe|skip)
  |with_reducible first|refine And.intro ?_ ?_|intro _
 all_goals try exact clz
 refine qn (T:=fun i:Nat=>qI 91 [(0,strs names),(1,qu gs),(2,strs t),(3,qy l),(9,.int .i64 i)]) (H:=fun _=>h++ [.emp 0,.emp 0]) (inv:=fun i=>i≤l.length∧ ∀j,j<i→kX names gs t (l.getD j default)=0) (m:=fun i=>l.length-i) 0 ⟨Nat.zero_le _,fun j hj=>by omega⟩ (Wk.temps ?_) ?_
 ·(simp only [qy,List.replicate,go_sem,qj,qh,qg,qi];try (repeat' first|(with_reducible refine And.intro ?_ ?_)|(apply qd;omega)|(apply qa;rfl)|exact VLe.refl _))
 rintro i ⟨i1,i2⟩ K hK
 by_cases hi:i<l.length
 ·have k2:((i:Int)<l.length)=True:=eq_true (by omega)
  have hE:=qP (f:=fun i=>kX names gs t (l.getD i default)) hi i2
  have c50:=c50 i
  obtain ⟨x,hx⟩: ∃x,x=l.getD i default:=⟨_,rfl⟩
  have ex:=hx.symm
  simp only [ex]at hE c50
  simp only [enC]at c50
  by_cases g1:kX names gs t x=0
  ·rw [g1]at c50
   simp (disch:=omega) only [List.replicate,qy,enC,k2,ex,go_sem]
   repeat' first
    |((first|refine cA (c50 _) ?_ ?_|refine cG (fun e=>c50 _) ?_ ?_|refine cU (fun _=>c50 _) ?_ ?_);(next=>exact flk);simp (disch:=omega) only [qy,enC,k2,ex,go_sem])
    |((first|apply qc|apply qb);exact rvk;simp only [go_sem];first|exact VLe.refl _|apply qd|apply qa|apply qe|skip)
    |with_reducible first|refine And.intro ?_ ?_|intro _
   all_goals try exact clz
   refine hK _ _ (i+1) ⟨hi,fun j hj=> ?_⟩ (by omega) (Wk.temps ?_)
   ·by_cases e:j=i
    ·subst e;rw [ex];exact g1
    ·exact i2 j (by omega)
   ·(simp only [qy,List.replicate,go_sem,qj,qh,qg,qi];try (repeat' first|(with_reducible refine And.intro ?_ ?_)|(apply qd;omega)|(apply qa;rfl)|exact VLe.refl _))
  ·have k3:(kX names gs t x=0)=False:=eq_false g1
   rw [if_pos (by rw [hE g1];exact g1),hE g1]at hR
   rw [hR]
   simp (disch:=omega) only [List.replicate,qy,enC,k2,ex,go_sem]
   repeat' first
    |((first|refine cA (c50 _) ?_ ?_|refine cG (fun e=>c50 _) ?_ ?_|refine cU (fun _=>c50 _) ?_ ?_);(next=>exact flk);simp (disch:=omega) only [qy,enC,k2,ex,k3,go_sem])
    |((first|apply qc|apply qb);exact rvk;simp only [go_sem];first|exact VLe.refl _|apply qd|apply qa|apply qe|skip)
    |with_reducible first|refine And.intro ?_ ?_|intro _
   all_goals try exact clz
 have hn0:=qC (f:=fun i=>kX names gs t (l.getD i default)) (fun j (hj:j<l.length)=>i2 j (by omega))
 rw [if_neg (fun hc=>hc hn0)]at hR
 have k2:((i:Int)<l.length)=False:=eq_false (by omega)
 simp (disch:=omega) only [List.replicate,qy,k2,go_sem]
 repeat' first
  |((first|apply qc|apply qb);exact rvk;simp only [go_sem];first|exact VLe.refl _|apply qd|apply qa|apply qe|skip)
  |with_reducible first|refine And.intro ?_ ?_|intro _
 all_goals try exact clz
 refine qn (T:=fun i:Nat×AObj×AObj=>qI 91 [(0,strs names),(1,qu gs),(3,qy l),(11,.int .i64 i.1)]) (H:=fun i=>h++ [i.2.1,i.2.2]) (inv:=fun i=>i.1≤names.length∧(∀j,j<i.1→zQ (ofE names gs l (j:Int))=false)∧qH [i.2.1] 0=true∧qH [i.2.2] 0=true)
  (m:=fun i=>names.length-i.1) (0,.emp 0,.emp 0) ⟨Nat.zero_le _,fun j hj=>by omega,rfl,rfl⟩ (Wk.temps ?_) ?_
 ·(simp only [qy,List.replicate,go_sem,qj,qh,qg,qi];try (repeat' first|(with_reducible refine And.intro ?_ ?_)|(apply qd;omega)|(apply qa;rfl)|exact VLe.refl _))
 rintro ⟨s,O1,O2⟩ ⟨s1,s2,s3,s4⟩ K2 hK2
 simp only at s1 s2 s3 s4 hK2
 by_cases hs:s<names.length
 ·have k3:((s:Int)<names.length)=True:=eq_true (by omega)
  have c47:=c47 s
  have hat:=fun {j}=> @qv8 names gs l (s:Int) j
  have hlen:=qsb names gs l (s:Int)
  have hcl:=qb3 (ofE names gs l (s:Int))
  have hol:=qgm names gs l (s:Int) l.length
  obtain ⟨m,hm⟩: ∃m,m=qbq names gs l (s:Int) l.length:=⟨_,rfl⟩
  obtain ⟨L,hL⟩: ∃L,L=ofE names gs l (s:Int):=⟨_,rfl⟩
  rw [←hm]at c47 hlen hol
  rw [←hL]at hlen hcl
  simp only [←hm,←hL]at hat
  have hstep:zQ L=false→ ∀j,j<s+1→zQ (ofE names gs l (j:Int))=false:=by
   intro hc j hj
   by_cases e:j=s
   ·subst e;rw [←hL];exact hc
   ·exact s2 j (by omega)
  simp (disch:=omega) only [List.replicate,qy,strs,ql,k3,go_sem]
  unfold strs at c47
  repeat' first
   |((first|refine cA (c47 _) ?_ ?_|refine cG (fun e=>c47 _) ?_ ?_|refine cU (fun _=>c47 _) ?_ ?_);(next=>exact flk);simp (disch:=omega) only [qy,strs,ql,k3,go_sem])
   |((first|apply qc|apply qb);exact rvk;simp only [go_sem];first|exact VLe.refl _|apply qd|apply qa|apply qe|skip)
   |with_reducible first|refine And.intro ?_ ?_|intro _
  all_goals try exact clz
  refine qn (T:=fun i:Nat×AObj×AObj=>qI 91 [(0,strs names),(1,qu gs),(3,qy l),(11,.int .i64 s),(12,ql m),(13,.int .i64 ((i.1:Int)+1))]) (H:=fun i=>h++ [i.2.1,i.2.2])
   (inv:=fun i=>(∀j,j<i.1→j+1<L.length→jb (L.getD j default) (L.getD (j+1) default)=false)∧qH [i.2.1] 0=true∧qH [i.2.2] 0=true) (m:=fun i=>L.length-i.1) (0,O1,O2) ⟨fun j hj=>by omega,s3,s4⟩ (Wk.temps ?_) ?_
  ·(simp only [qy,ql,strs,List.replicate,go_sem,qj,qh,qg,qi];try (repeat' first|(with_reducible refine And.intro ?_ ?_)|(apply qd;omega)|(apply qa;rfl)|exact VLe.refl _))
  rintro ⟨i,O1,O2⟩ ⟨i2,i3,i4⟩ K3 hK3
  simp only at i2 i3 i4 hK3
  have i3': ∀m,qH (O1::m) 0=true:=fun _=>i3
  have i4': ∀m,qH (O2::m) 0=true:=fun _=>i4
  by_cases hi:i+1<L.length
  ·have q1:((i:Int)+1<m.length)=True:=eq_true (by omega)
   have q2:((i:Int)<m.length)=True:=eq_true (by omega)
   have q3:(0≤(i:Int)+1)=True:=eq_true (by omega)
   have q4:((i:Int)+1).toNat=i+1:=by omega
   obtain ⟨Y,y1,y2,y3⟩:=hat (j:=i) (by omega)
   obtain ⟨Z,z1,z2,z3⟩:=hat (j:=i+1) (by omega)
   have q5:((Y:Int)<l.length)=True:=eq_true (by omega)
   have q6:((Z:Int)<l.length)=True:=eq_true (by omega)
   have hst:=i2
   obtain ⟨A,hA⟩: ∃A,A=l.getD Y default:=⟨_,rfl⟩
   obtain ⟨B,hB⟩: ∃B,B=l.getD Z default:=⟨_,rfl⟩
   have eA:=hA.symm
   have eB:=hB.symm
   rw [eA]at y3
   rw [eB]at z3
   have hcf:jb A B=(decide (B.frm<A.to)||decide (A.frm=B.frm)&&decide (A.to=B.to)):=rfl
   simp (disch:=omega) only [List.replicate,qy,ql,q1,go_sem]
   repeat' first
    |((first|apply qc|apply qb);exact rvk;simp only [go_sem];first|exact VLe.refl _|apply qd|apply qa|apply qe|skip)
    |with_reducible first|refine And.intro ?_ ?_|intro _
   all_goals try exact clz
   refine qq2 ?T ?H ?h1 ?h2
   case h1=>
    simp (disch:=omega) only [qy,ql,enC,q1,q2,q3,q4,q5,q6,y2,z2,i3',i4',eA,eB,Int.add_sub_cancel,Int.toNat_natCast,go_sem]
    repeat' first
     |((first|apply qc|apply qb);exact rvk;simp only [go_sem];first|exact VLe.refl _|apply qd|apply qa|apply qe|skip)
     |with_reducible first|refine And.intro ?_ ?_|intro _
    all_goals first
     |omega
     |rfl
   case h2=>
   have good:jb A B=false→qO Tryz.prog h.length (C.ops []) (fun _ _ _=>True) [] []:=fun _=>trivial
   have next:jb A B=false→ ∀j,j<i+1→j+1<L.length→jb (L.getD j default) (L.getD (j+1) default)=false:=by
    intro hc j hj hj2
    by_cases e:j=i
    ·subst e;rw [y3,z3];exact hc
    ·exact i2 j (by omega) hj2
   have bad:jb A B=true→R=17:=by
    intro hc
    rw [hR,if_pos]
    unfold zL
    rw [qW]
    refine ⟨s,hs,?_⟩
    rw [←hL,hcl]
    exact ⟨i,hi,by rw [y3,z3];exact hc⟩
   by_cases b1:B.frm<A.to
   ·have r1:(B.frm<A.to)=True:=eq_true b1
    rw [bad (by rw [hcf,decide_eq_true b1];rfl)]
    simp (disch:=omega) only [enC,r1,go_sem]
    repeat' first
     |((first|apply qc|apply qb);exact rvk;simp only [go_sem];first|exact VLe.refl _|apply qd|apply qa|apply qe|skip)
     |with_reducible first|refine And.intro ?_ ?_|intro _
    all_goals try exact clz
   have r1:(B.frm<A.to)=False:=eq_false b1
   by_cases b2:A.frm=B.frm
   ·have r2:(A.frm=B.frm)=True:=eq_true b2
    by_cases b3:A.to=B.to
    ·have r3:(A.to=B.to)=True:=eq_true b3
     rw [bad (by rw [hcf,decide_eq_true b2,decide_eq_true b3,Bool.and_true,Bool.or_true])]
     simp (disch:=omega) only [enC,r1,r2,r3,go_sem]
     repeat' first
      |((first|apply qc|apply qb);exact rvk;simp only [go_sem];first|exact VLe.refl _|apply qd|apply qa|apply qe|skip)
      |with_reducible first|refine And.intro ?_ ?_|intro _
     all_goals try exact clz
    ·have r3:(A.to=B.to)=False:=eq_false b3
     simp (disch:=omega) only [enC,r1,r2,r3,go_sem]
     repeat' first
      |((first|apply qc|apply qb);exact rvk;simp only [go_sem];first|exact VLe.refl _|apply qd|apply qa|apply qe|skip)
      |with_reducible first|refine And.intro ?_ ?_|intro _
     all_goals try exact clz
     refine hK3 _ _ (i+1,_,_) ⟨next (by rw [hcf,decide_eq_false b1,decide_eq_false b3,Bool.and_false,Bool.or_false]),?_,?_⟩ (by simp only;omega) (Wk.temps ?_)
     rotate_left 2
     ·(simp only [qy,ql,strs,List.replicate,go_sem,qj,qh,qg,qi];try (repeat' first|(with_reducible refine And.intro ?_ ?_)|(apply qd;omega)|(apply qa;rfl)|exact VLe.refl _))
     ·rfl
     ·rfl
   ·have r2:(A.frm=B.frm)=False:=eq_false b2
    simp (disch:=omega) only [enC,r1,r2,go_sem]
    repeat' first
     |((first|apply qc|apply qb);exact rvk;simp only [go_sem];first|exact VLe.refl _|apply qd|apply qa|apply qe|skip)
     |with_reducible first|refine And.intro ?_ ?_|intro _
    all_goals try exact clz
    refine hK3 _ _ (i+1,_,_) ⟨next (by rw [hcf,decide_eq_false b1,decide_eq_false b2,Bool.false_and,Bool.or_false]),?_,?_⟩ (by simp only;omega) (Wk.temps ?_)
    rotate_left 2
    ·(simp only [qy,ql,strs,List.replicate,go_sem,qj,qh,qg,qi];try (repeat' first|(with_reducible refine And.intro ?_ ?_)|(apply qd;omega)|(apply qa;rfl)|exact VLe.refl _))
    ·rfl
    ·rfl
  ·have q1:((i:Int)+1<m.length)=False:=eq_false (by omega)
   have hcn:zQ L=false:=by
    cases e:zQ L with
    |false=>rfl
    |true=>
     obtain ⟨j,j1,j2⟩:=hcl.1 e
     rw [i2 j (by omega) j1]at j2;cases j2
   simp (disch:=omega) only [List.replicate,qy,ql,q1,go_sem]
   repeat' first
    |((first|apply qc|apply qb);exact rvk;simp only [go_sem];first|exact VLe.refl _|apply qd|apply qa|apply qe|skip)
    |with_reducible first|refine And.intro ?_ ?_|intro _
   all_goals try exact clz
   refine hK2 _ _ (s+1,O1,O2) ⟨hs,hstep hcn,i3,i4⟩ (by simp only;omega) (Wk.temps ?_)
   (simp only [qy,ql,strs,List.replicate,go_sem,qj,qh,qg,qi];try (repeat' first|(with_reducible refine And.intro ?_ ?_)|(apply qd;omega)|(apply qa;rfl)|exact VLe.refl _))
 ·have k3:((s:Int)<names.length)=False:=eq_false (by omega)
  have hcn:zL names gs l=false:=qD.2 fun j hj=>s2 j (by omega)
  rw [hcn,if_neg (by simp)]at hR
  rw [hR]
  simp (disch:=omega) only [List.replicate,qy,strs,k3,go_sem]
  repeat' first
   |((first|apply qc|apply qb);exact rvk;simp only [go_sem];first|exact VLe.refl _|apply qd|apply qa|apply qe|skip)
   |with_reducible first|refine And.intro ?_ ?_|intro _
  all_goals try exact clz
end RC
end
section
open Go Go.Proofs AF HY LN
namespace RC
set_option maxHeartbeats 8000000
section
variable (names : List Str) (gs : List Gr) (t : List Str) (l : List En) (src : Int) (h : List AObj)
end
end RC
end
section
open Go Go.Proofs AF HY LN
namespace RC
set_option maxHeartbeats 8000000
theorem qAW (a:List Str) (h:List AObj) (hn:a.length≤1000000000):qm Tryz.prog 51 [strs a,strs a] h (.bool true) h:=by
 refine acO qyd ?_
 simp (disch:=omega) only [qzt,List.replicate,strs,go_sem]
 repeat' first
  |((first|apply qc|apply qb);exact rvk;simp only [go_sem];first|exact VLe.refl _|apply qd|apply qa|apply qe|skip)
  |with_reducible first|refine And.intro ?_ ?_|intro _
 all_goals try exact clz
 refine qn (T:=fun i:Nat=>qI 26 [(0,strs a),(1,strs a),(5,.int .i64 i)]) (H:=fun _=>h) (inv:=fun i=>i≤a.length) (m:=fun i=>a.length-i) 0 (Nat.zero_le _) (Wk.temps ?_) ?_
 ·(simp only [strs,List.replicate,go_sem,qj,qh,qg,qi];try (repeat' first|(with_reducible refine And.intro ?_ ?_)|(apply qd;omega)|(apply qa;rfl)|exact VLe.refl _))
 rintro i i1 K hK
 by_cases hi:i<a.length
 ·have k1:((i:Int)<a.length)=True:=eq_true (by omega)
  simp (disch:=omega) only [List.replicate,strs,k1,go_sem]
  repeat' first
   |((first|apply qc|apply qb);exact rvk;simp only [go_sem];first|exact VLe.refl _|apply qd|apply qa|apply qe|skip)
   |with_reducible first|refine And.intro ?_ ?_|intro _
  all_goals try exact clz
  refine hK _ _ (i+1) hi (by omega) (Wk.temps ?_)
  (simp only [strs,List.replicate,go_sem,qj,qh,qg,qi];try (repeat' first|(with_reducible refine And.intro ?_ ?_)|(apply qd;omega)|(apply qa;rfl)|exact VLe.refl _))
 ·have k1:((i:Int)<a.length)=False:=eq_false (by omega)
  simp (disch:=omega) only [List.replicate,strs,k1,go_sem]
  repeat' first
   |((first|apply qc|apply qb);exact rvk;simp only [go_sem];first|exact VLe.refl _|apply qd|apply qa|apply qe|skip)
   |with_reducible first|refine And.intro ?_ ?_|intro _
  all_goals try exact clz
theorem qAY (L:List (List Str)) (h:List AObj) (hn:L.length≤1000000000) (hl: ∀i,(L.getD i []).length≤1000000000):qm Tryz.prog 23 [je L,je L] h (.bool true) h:=by
 have c51:=fun i h=>qAW (L.getD i []) h (hl i)
 refine acO qx3 ?_
 simp (disch:=omega) only [qzl,List.replicate,je,go_sem]
 repeat' first
  |((first|apply qc|apply qb);exact rvk;simp only [go_sem];first|exact VLe.refl _|apply qd|apply qa|apply qe|skip)
  |with_reducible first|refine And.intro ?_ ?_|intro _
 all_goals try exact clz
 refine qn (T:=fun i:Nat=>qI 27 [(0,je L),(1,je L),(5,.int .i64 i)]) (H:=fun _=>h) (inv:=fun i=>i≤L.length) (m:=fun i=>L.length-i) 0 (Nat.zero_le _) (Wk.temps ?_) ?_
 ·(simp only [je,List.replicate,go_sem,qj,qh,qg,qi];try (repeat' first|(with_reducible refine And.intro ?_ ?_)|(apply qd;omega)|(apply qa;rfl)|exact VLe.refl _))
 rintro i i1 K hK
 by_cases hi:i<L.length
 ·have k1:((i:Int)<L.length)=True:=eq_true (by omega)
  have c51:=c51 i
  simp (disch:=omega) only [List.replicate,je,k1,go_sem]
  repeat' first
   |((first|refine cA (c51 _) ?_ ?_|refine cG (fun e=>c51 _) ?_ ?_|refine cU (fun _=>c51 _) ?_ ?_);(next=>exact flk);simp (disch:=omega) only [je,k1,go_sem])
   |((first|apply qc|apply qb);exact rvk;simp only [go_sem];first|exact VLe.refl _|apply qd|apply qa|apply qe|skip)
   |with_reducible first|refine And.intro ?_ ?_|intro _
  all_goals try exact clz
  refine hK _ _ (i+1) hi (by omega) (Wk.temps ?_)
  (simp only [je,List.replicate,go_sem,qj,qh,qg,qi];try (repeat' first|(with_reducible refine And.intro ?_ ?_)|(apply qd;omega)|(apply qa;rfl)|exact VLe.refl _))
 ·have k1:((i:Int)<L.length)=False:=eq_false (by omega)
  simp (disch:=omega) only [List.replicate,je,k1,go_sem]
  repeat' first
   |((first|apply qc|apply qb);exact rvk;simp only [go_sem];first|exact VLe.refl _|apply qd|apply qa|apply qe|skip)
   |with_reducible first|refine And.intro ?_ ?_|intro _
  all_goals try exact clz
theorem eqS (a:List Str) (h:List AObj) (hn:a.length≤1000000000):qm Tryz.prog 22 [strs a,strs a] h (.bool true) h:=by
 have c:=qxY qvg a.length a.length (fun j=> .s (a.getD j [])) (fun j=> .s (a.getD j [])) h (fun _ _ _=>rfl) (by omega) (by omega)
 rw [decide_eq_true ⟨rfl,fun _ _=>rfl⟩]at c
 exact c
theorem eqI (a:List Int) (h:List AObj) (hn:a.length≤1000000000):qm Tryz.prog 24 [ql a,ql a] h (.bool true) h:=by
 have c:=qxY qx4 a.length a.length (fun j=> .i (a.getD j 0)) (fun j=> .i (a.getD j 0)) h (fun _ _ _=>rfl) (by omega) (by omega)
 rw [decide_eq_true ⟨rfl,fun _ _=>rfl⟩]at c
 exact c
def exN:List Str:= [[65],[66],[67]]
def exT:List Str:= [[100,101,117,115],[101,115,116]]
def exL:List En:= [⟨0,0,1,false,[],[⟨[[100,111,109,105,110,117,115]],[[66]]⟩]⟩,⟨0,2,2,false,[],[⟨[[118,101,114,101]],[[66],[67]]⟩]⟩]
def exA:List (List Str):= [[[100,101,117,115],[101,115,116]],[[100,111,109,105,110,117,115],[101,115,116],[118,101,114,101]],[[100,101,117,115],[101,115,116],[118,101,114,101]]]
theorem quA:rdE exN [] exT exL=0:=by decide+kernel
theorem qux:qw9 exN [] exT exL=exA:=by decide+kernel
theorem quB:qyW exN [] exT exL 2=exA.getD 2 []:=by decide+kernel
theorem qrg:qmM exN [] exT exL 2=0:=by decide+kernel
theorem quz:qxT exN [] exT exL 1=2:=by decide+kernel
theorem qrf:qmM exN [] exT exL 1=0:=by decide+kernel
theorem quy:qxo exN [] exT exL= [0]:=by decide+kernel
theorem qns:qeH exN [] exT exL=false:=by decide+kernel
theorem qAV (h:List AObj):qm Tryz.prog 42 [] h (.tup [strs exN,strs exT,qy exL]) h:=by
 refine acO qx9 ?_
 simp (disch:=omega) only [qzp,List.replicate,go_sem]
 repeat' first
  |((first|apply qc|apply qb);exact rvk;simp only [go_sem];first|exact VLe.refl _|apply qd|apply qa|apply qe|skip)
  |with_reducible first|refine And.intro ?_ ?_|intro _
 all_goals try exact clz
 have one: ∀ {f g:Nat→List AV},f 0=g 0→ILe (.sl 1 f) (.sl 1 g):=fun h=>ILe.sl_eq fun i hi=>by
  obtain rfl:i=0:=by omega
  exact h
 have two: ∀ {f g:Nat→List AV},f 0=g 0→f 1=g 1→ILe (.sl 2 f) (.sl 2 g):=fun h1 h2=>ILe.sl_eq fun i hi=>by
  match i,hi with
  |0,_=>exact h1
  |1,_=>exact h2
  |n+2,hi=>exact absurd hi (by omega)
 have one': ∀ {f g:Nat→List AV},qcq (f 0) (g 0)→ILe (.sl 1 f) (.sl 1 g):=fun h=>ILe.sl fun i hi=>by
  obtain rfl:i=0:=by omega
  exact h
 refine qT ⟨VLe.sl_eq rfl (fun i hi=> ?_),VLe.sl_eq rfl (fun i hi=> ?_),VLe.sl (fun i hi=> ?_),trivial⟩
 ·match i,hi with
  |0,_=>rfl
  |1,_=>rfl
  |2,_=>rfl
  |n+3,hi=>exact absurd hi (by omega)
 ·match i,hi with
  |0,_=>rfl
  |1,_=>rfl
  |n+2,hi=>exact absurd hi (by omega)
 ·match i,hi with
  |0,_=>
   refine ⟨ILe.refl _,ILe.refl _,ILe.refl _,ILe.refl _,ILe.nl,?_,trivial⟩
   simp only [go_sem]
   refine one' ⟨?_,?_,trivial⟩
   ·simp only [go_sem]
    exact one rfl
   ·simp only [go_sem]
    exact one rfl
  |1,_=>
   refine ⟨ILe.refl _,ILe.refl _,ILe.refl _,ILe.refl _,ILe.nl,?_,trivial⟩
   simp only [go_sem]
   refine one' ⟨?_,?_,trivial⟩
   ·simp only [go_sem]
    exact one rfl
   ·simp only [go_sem]
    exact two rfl rfl
  |n+2,hi=>exact absurd hi (by omega)
end RC
end
section
open Go Go.Proofs AF HY LN
namespace RC
set_option maxHeartbeats 8000000
theorem qz6 (names:List Str) (t:List Str) (l:List En):kw [strs names,.nl,strs t,qy l] [strs names,qu [],strs t,qy l]:=⟨VLe.refl _,jn,VLe.refl _,VLe.refl _,trivial⟩
theorem qwD (names:List Str) (t:List Str) (l:List En) (n:Int):kw [strs names,.nl,strs t,qy l,.int .i64 n] [strs names,qu [],strs t,qy l,.int .i64 n]:=⟨VLe.refl _,jn,VLe.refl _,VLe.refl _,VLe.refl _,trivial⟩
theorem qAX {L:List (List Str)} {X:AV} {h:List AObj} (hv:kw ([je L,X].map (rei (fun _=>true) h 8)) [je L,je L]) (hn:L.length≤1000000000) (hl: ∀i,(L.getD i []).length≤1000000000):qm Tryz.prog 23 [je L,X] h (.bool true) h:=
 qm.borrow ((qAY L [] hn hl).le hv (VLe.refl _)) rfl
theorem qAu {L:List Str} {X:AV} {h:List AObj} (hv:kw ([strs L,X].map (rei (fun _=>true) h 8)) [strs L,strs L]) (hn:L.length≤1000000000):qm Tryz.prog 22 [strs L,X] h (.bool true) h:=
 qm.borrow ((eqS L [] hn).le hv (VLe.refl _)) rfl
theorem qAt {L:List Int} {X:AV} {h:List AObj} (hv:kw ([ql L,X].map (rei (fun _=>true) h 8)) [ql L,ql L]) (hn:L.length≤1000000000):qm Tryz.prog 24 [ql L,X] h (.bool true) h:=
 qm.borrow ((eqI L [] hn).le hv (VLe.refl _)) rfl
theorem qAc (h:List AObj) (hp:ku SG h):qm Tryz.prog 11 [] h (.bool true) h:=by
 have hc:CSz exN [] exT exL:=qdb qns
 have c42:=fun h=>qAV h
 have c14:=fun l=>(qtv exN [] exT exL (h++l) hc (hp.app l)).le (qz6 _ _ _) (VLe.refl _)
 have c12:=fun l=>(qyX exN [] exT exL 2 (h++l) hc (hp.app l)).le (qwD _ _ _ _) (VLe.refl _)
 have c18:=fun l=>(qxp exN [] exT exL (h++l) hc (hp.app l)).le (qz6 _ _ _) (VLe.refl _)
 have c16:=fun l=>(qxU exN [] exT exL 1 (h++l) hc (hp.app l)).le (qwD _ _ _ _) (VLe.refl _)
 have e0:opE 0=0:=rfl
 simp only [quA,qux,e0]at c14
 simp only [quB,qrg]at c12
 simp only [quA,quy,e0]at c18
 simp only [quz,qrf]at c16
 have zm:valP (.mm true) [.int .i64 0,.int .i64 0,.int .i64 0,.int .i64 0]= .int .i64 0:=rfl
 have zn:okP (.mm true) [.int .i64 0,.int .i64 0,.int .i64 0,.int .i64 0]=True:=eq_true (by simp [okP,kR])
 refine acO qx2 ?_
 simp (disch:=omega) only [qzk,List.replicate,zm,zn,go_sem]
 repeat' first
  |((first|refine cA (c42 _) ?_ ?_|refine cG (fun e=>c42 _) ?_ ?_|refine cA (c14 _) ?_ ?_|refine cG (fun e=>c14 _) ?_ ?_|refine cA (c12 _) ?_ ?_|refine cG (fun e=>c12 _) ?_ ?_|refine cA (c18 _) ?_ ?_|refine cG (fun e=>c18 _) ?_ ?_|refine cA (c16 _) ?_ ?_|refine cG (fun e=>c16 _) ?_ ?_|refine cU (fun _=>c42 _) ?_ ?_|refine cU (fun _=>c14 _) ?_ ?_|refine cU (fun _=>c12 _) ?_ ?_|refine cU (fun _=>c18 _) ?_ ?_|refine cU (fun _=>c16 _) ?_ ?_);(next=>exact flk);simp (disch:=omega) only [zm,zn,go_sem])
  |((first|apply qc|apply qb);exact rvk;simp only [go_sem];first|exact VLe.refl _|apply qd|apply qa|apply qe|skip)
  |with_reducible first|refine And.intro ?_ ?_|intro _
 all_goals try exact clz
 refine cG (fun _=>qAX (L:=exA) (X:= .osl (h.length+3) 1 1 0 3) ?s1 (by decide) ?s2) (fun _=>by exact flk) ?_
 case s2=>
  intro i
  match i with
  |0=>decide
  |1=>decide
  |2=>decide
  |n+3=>exact Nat.zero_le _
 case s1=>
  simp only [List.map_cons,List.map_nil,go_sem]
  refine ⟨VLe.refl _,VLe.sl (fun i hi=> ?_),trivial⟩
  match i,hi with
  |0,_=>
   refine ⟨?_,trivial⟩
   simp only [go_sem]
   refine ILe.sl_eq fun j hj=> ?_
   match j,hj with
   |0,_=>rfl
   |1,_=>rfl
   |n+2,hj=>exact absurd hj (by omega)
  |1,_=>
   refine ⟨?_,trivial⟩
   simp only [go_sem]
   refine ILe.sl_eq fun j hj=> ?_
   match j,hj with
   |0,_=>rfl
   |1,_=>rfl
   |2,_=>rfl
   |n+3,hj=>exact absurd hj (by omega)
  |2,_=>
   refine ⟨?_,trivial⟩
   simp only [go_sem]
   refine ILe.sl_eq fun j hj=> ?_
   match j,hj with
   |0,_=>rfl
   |1,_=>rfl
   |2,_=>rfl
   |n+3,hj=>exact absurd hj (by omega)
  |n+3,hi=>exact absurd hi (by omega)
 simp (disch:=omega) only [go_sem]
 repeat' first
  |((first|apply qc|apply qb);exact rvk;simp only [go_sem];first|exact VLe.refl _|apply qd|apply qa|apply qe|skip)
  |with_reducible first|refine And.intro ?_ ?_|intro _
 all_goals try exact clz
 refine cG (fun _=>qAu (L:=exA.getD 2 []) (X:= .osl (h.length+4) 1 1 0 3) ?s3 (by decide)) (fun _=>by exact flk) ?_
 case s3=>
  simp only [List.map_cons,List.map_nil,go_sem]
  refine ⟨VLe.refl _,VLe.sl_eq rfl (fun j hj=> ?_),trivial⟩
  match j,hj with
  |0,_=>rfl
  |1,_=>rfl
  |2,_=>rfl
  |n+3,hj=>exact absurd hj (by omega)
 simp (disch:=omega) only [go_sem]
 repeat' first
  |((first|apply qc|apply qb);exact rvk;simp only [go_sem];first|exact VLe.refl _|apply qd|apply qa|apply qe|skip)
  |with_reducible first|refine And.intro ?_ ?_|intro _
 all_goals try exact clz
 refine cG (fun _=>qAt (L:= [0]) (X:= .osl (h.length+5) 1 1 0 1) ?s4 (by decide)) (fun _=>by exact flk) ?_
 case s4=>
  simp only [List.map_cons,List.map_nil,go_sem]
  refine ⟨VLe.refl _,VLe.sl_eq rfl (fun j hj=> ?_),trivial⟩
  match j,hj with
  |0,_=>rfl
  |n+1,hj=>exact absurd hj (by omega)
 simp (disch:=omega) only [go_sem]
 repeat' first
  |((first|apply qc|apply qb);exact rvk;simp only [go_sem];first|exact VLe.refl _|apply qd|apply qa|apply qe|skip)
  |with_reducible first|refine And.intro ?_ ?_|intro _
 all_goals try exact clz
end RC
end
section
open Go Go.Proofs AF HY LN
namespace RC
set_option maxHeartbeats 8000000
theorem qmQ {names:List Str} {gs:List Gr} {t:List Str} {l:List En} {n i:Nat} (hi:i<n):(qcs names gs t l n).getD i []=qio names gs t l (i:Int):=by
 unfold qcs
 rw [gdqA,List.getElem?_map,List.getElem?_range hi]
 rfl
end RC
end
section
open Go Go.Proofs AF HY LN
namespace RC
set_option maxHeartbeats 8000000
theorem fnP (names:List Str) (gs:List Gr) (t:List Str) (l:List En) (h:List AObj) (hb:CB names gs t l) (hp:ku SG h):
  qm Tryz.prog 25 [.agg (zx names gs t l)] h (.bool (!qeH names gs t l&&decide (rdE names gs t l=0))) h:=by
 have c10:=fun h=>qAE names gs t l h hb
 unfold zx at c10
 cases hg:qeH names gs t l with
 |true=>
  rw [hg]at c10
  refine acO qvh ?_
  simp (disch:=omega) only [qxu,List.replicate,zx,go_sem]
  repeat' first
   |(refine qo (.int .i64 0) ?_;simp (disch:=omega) only [zx,go_sem])
   |((first|refine cA (c10 _) ?_ ?_|refine cG (fun e=>c10 _) ?_ ?_|refine cU (fun _=>c10 _) ?_ ?_);(next=>exact flk);simp (disch:=omega) only [zx,go_sem])
   |((first|apply qc|apply qb);exact rvk;simp only [go_sem];first|exact VLe.refl _|apply qd|apply qa|apply qe|skip)
   |with_reducible first|refine And.intro ?_ ?_|intro _
  all_goals try exact clz
 |false=>
  rw [hg]at c10
  have c21:=fun l'=>que names gs t l (h++l') (qdb hg) (hp.app l')
  refine acO qvh ?_
  simp (disch:=omega) only [qxu,List.replicate,zx,go_sem]
  repeat' first
   |((first|refine cA (c10 _) ?_ ?_|refine cG (fun e=>c10 _) ?_ ?_|refine cA (c21 _) ?_ ?_|refine cG (fun e=>c21 _) ?_ ?_|refine cU (fun _=>c10 _) ?_ ?_|refine cU (fun _=>c21 _) ?_ ?_);(next=>exact flk);simp (disch:=omega) only [zx,go_sem])
   |((first|apply qc|apply qb);exact rvk;simp only [go_sem];first|exact VLe.refl _|apply qd|apply qa|apply qe|skip)
   |with_reducible first|refine And.intro ?_ ?_|intro _
  all_goals try exact clz
theorem qv2 {names:List Str} {gs:List Gr} {t:List Str} {l:List En} {s:Int} (h:(ofE names gs l s).length=0):qio names gs t l s=t:=by
 unfold qio
 rw [List.length_eq_zero_iff.1 h]
 rfl
end RC
namespace RC
set_option maxHeartbeats 8000000
end RC
end
section
open Go Go.Proofs AF
end
section
open Go Go.Proofs AF HY LN
namespace AF
structure qtg (E:AV) (n:Nat) (cs:List AV):Prop where
 fl:E.flag=true
 st:E.strip=E
 vl: ∀g,valL g .len [E]= .int .i64 n
 ok: ∀g,okL g .len [E]=True
 sc: ∀g,qs g E=some (n,cs)
 ap: ∀k v z p m,qas (.osl k v z p m) E=true
theorem qtg.sl (n:Nat) (f:Nat→List AV):qtg (.sl n f) n ((List.range n).flatMap f):=⟨rfl,rfl,fun _=>rfl,fun _=>eq_true trivial,fun _=>rfl,fun _ _ _ _ _=>rfl⟩
structure Src (h:List AObj) (e:AV) (n:Nat) (cs:List AV):Prop where
 flag:e.flag=true
 strip:e.strip=e
 lenOk: ∀X,okL (h++X) .len [e]=True
 len: ∀X,valL (h++X) .len [e]= .int .i64 n
 cells: ∀X,qs (h++X) e=some (n,cs)
 apart: ∀k v z p m,h.length≤k→qas (.osl k v z p m) e=true
theorem qAD {P:Program} {f:FuncId} {args:List AV} {h h':List AObj} {r:AV} (ks:List Nat) (hs:jF ks h=true) (hc:qm P f (args.map (frz (fun k=>ks.contains k) h 8)) (qbC ks h) r h'):qm P f args h r h':=by
 refine ⟨hc.1,fun w σ xs H hv=> ?_⟩
 obtain ⟨σ',g1,g2,g3,g4⟩:=qcb ks H hs
 refine (hc.2 w σ' xs g1 ⟨by rw [hv.1];simp,fun i c x hcc hx=> ?_⟩).mono ?_
 ·rw [List.getElem?_map,Option.map_eq_some_iff]at hcc
  obtain ⟨c0,hcc,rfl⟩:=hcc
  exact qga H (fun b hb=>(g4 b hb).elim fun j ⟨o,h1,h2,h3⟩=>⟨j,o,by simpa using h1,h2,h3⟩) (fun j o hj ho=>g3 j o (by simpa using hj) ho) 8 (hv.2 i c0 x hcc hx)
 ·rintro e w' ⟨v,σ2,rfl,k1,k2,k3⟩
  exact ⟨v,σ2,rfl,k1,k2,g2.trans k3⟩
end AF
namespace RC
set_option maxHeartbeats 8000000
theorem qtg.strs (L:List Str):qtg (strs L) L.length (jH L):=⟨rfl,rfl,fun _=>rfl,fun _=>eq_true trivial,fun g=>qgB g L,fun _ _ _ _ _=>rfl⟩
theorem qtg.sub {t:List Str} {a b:Nat} (h1:a≤b) (h2:b≤t.length):qtg (.sl (b-a) fun i=> [.str (t.getD (a+i) [])]) (j8 t a b).length (jH (j8 t a b)):=by
 rw [qbV h1 h2]
 exact ⟨rfl,rfl,fun _=>rfl,fun _=>eq_true trivial,fun g=>qfu g h1 h2,fun _ _ _ _ _=>rfl⟩
end RC
end
