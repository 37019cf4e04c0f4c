import Derived.Test.YtgoandblgcjleaaGreatDoorK0
import Derived.Test.YtgoandblgcjleaaGreatDoorK15
import Derived.Test.YtgoandblgcjleaaGreatDoorK8
import Derived.Test.YtgoandblgcjleaaGreatDoorK6
import Derived.Test.YtgoandblgcjleaaGreatDoorRows
import Derived.Test.YtgoandblgcjleaaGreatDoorTie
import Derived.Test.YtgoandblgcjleaaGreatDoorCards
import Derived.ProofKit
import Derived.ChangeMaps5
import Derived.OpenShut
import Derived.LaidMore
import Derived.Lay
import Derived.SevenTiedAt
import Derived.Stop.Joined
set_option linter.all false
set_option linter.unusedSimpArgs false
set_option linter.unusedVariables false
set_option linter.unusedSectionVars false
open Go Go.Proofs AF HY RC LN Go.ChangeShapes Go.WideShapes Go.ChangeAt Go.RowKit
set_option maxRecDepth 100000
namespace Go.Proofs.YtgoandblgcjleaaGreatDoor
theorem own:ownKnob Tryz.prog.godebug=none:=by kernel_rfl
theorem laid:laidOutB Tryz.prog=true:=wp1
theorem qlL{H:Type}{enc:TypeId×Value→H}{P:Program}{w:World}{base:Nat}{spare:Nat→Bool}{held:Bool}{t0 t1 t2 t3 t4:TypeId}{args:Array Value}{ds:List (DataW H)}{ps:List MemPlace}
  (h:DataW.TrodAll enc P w base spare held [t0,t1,t2,t3,t4] args.toList ds ps):
  ∃v0 v1 v2 v3 v4 d0 d1 d2 d3 d4 p0 p1 p2 p3 p4,args= #[v0,v1,v2,v3,v4]∧ds= [d0,d1,d2,d3,d4]∧DataW.Trod enc P w base spare held t0 v0 d0 p0∧DataW.Trod enc P w base spare held t1 v1 d1 p1∧DataW.Trod enc P w base spare held t2 v2 d2 p2∧DataW.Trod enc P w base spare held t3 v3 d3 p3∧DataW.Trod enc P w base spare held t4 v4 d4 p4:=by
 obtain⟨v0,vs0,d0,ds0,p0,q0,hargs,rfl,rfl,hd0,hr0⟩:=trodAll_cons h;obtain⟨v1,vs1,d1,ds1,p1,q1,rfl,rfl,rfl,hd1,hr1⟩:=trodAll_cons hr0;obtain⟨v2,vs2,d2,ds2,p2,q2,rfl,rfl,rfl,hd2,hr2⟩:=trodAll_cons hr1;obtain⟨v3,vs3,d3,ds3,p3,q3,rfl,rfl,rfl,hd3,hr3⟩:=trodAll_cons hr2;obtain⟨v4,vs4,d4,ds4,p4,q4,rfl,rfl,rfl,hd4,hr4⟩:=trodAll_cons hr3;obtain⟨rfl,rfl,rfl⟩:=trodAll_nil hr4;exact⟨v0,v1,v2,v3,v4,d0,d1,d2,d3,d4,p0,p1,p2,p3,p4,by cases args;simp_all,rfl,hd0,hd1,hd2,hd3,hd4⟩
theorem qfD:Tryz.prog.cellsOf 3=1:=by kernel_rfl
theorem quq:Tryz.prog.cellsOf 4=1:=by kernel_rfl
theorem qfE:Tryz.prog.cellsOf 9=1:=by kernel_rfl
theorem qjb:Tryz.prog.cellsOf 22=1:=by kernel_rfl
theorem qqC:Tryz.prog.cellsOf 23=1:=by kernel_rfl
theorem qqD:Tryz.prog.cellsOf 24=1:=by kernel_rfl
theorem qqE:Tryz.prog.cellsOf 26=4:=by kernel_rfl
theorem qqF:Tryz.prog.cellsOf 34=2:=by kernel_rfl
theorem qqG:Tryz.prog.cellsOf 62=1:=by kernel_rfl
theorem qqH:Tryz.prog.cellsOf 64=7:=by kernel_rfl
theorem qqI:Tryz.prog.cellsOf 81=1:=by kernel_rfl
theorem qqJ:Tryz.prog.cellsOf 83=3:=by kernel_rfl
theorem qqK:Tryz.prog.cellsOf 89=2:=by kernel_rfl
theorem qmH:Tryz.prog.cellsOf 124=6:=by kernel_rfl
theorem quw:kV Tryz.prog 8 29=true:=by kernel_rfl
theorem quv:kV Tryz.prog 8 27=true:=by kernel_rfl
theorem quu:kV Tryz.prog 8 26=true:=by kernel_rfl
theorem jd{d:Nat}{t:TypeId}{fs:Array Field}{zs:List AV}(ht:Tryz.prog.underlying t=some (.struct fs))(h:zn Tryz.prog (d+1) t zs):zs.length=Tryz.prog.cellsOf t∧ ∀f∈fs.toList,zn Tryz.prog d f.type ((zs.drop f.offset).take (Tryz.prog.cellsOf f.type)):=by
 unfold zn at h;rw[ht]at h;exact h
theorem zW{d:Nat}{t e:TypeId}{zs:List AV}(ht:Tryz.prog.underlying t=some (.slice e))(h:zn Tryz.prog (d+1) t zs): ∃(n:Nat) (f:Nat→List AV),zs= [.sl n f]∧n≤maxLen∧ ∀i,i<n→zn Tryz.prog d e (f i):=by
 unfold zn at h;rw[ht]at h;exact h
theorem jO{d:Nat}{t:TypeId}{k:IntKind}{zs:List AV}(ht:Tryz.prog.underlying t=some (.int k))(h:zn Tryz.prog (d+1) t zs): ∃n,zs= [.int k n]:=by
 unfold zn at h;rw[ht]at h;obtain⟨n,h,_⟩:=h;exact⟨n,h⟩
theorem qdM{d:Nat}{t:TypeId}{zs:List AV}(ht:Tryz.prog.underlying t=some .bool)(h:zn Tryz.prog (d+1) t zs): ∃n,zs= [.bool n]:=by
 unfold zn at h;rw[ht]at h;exact h
theorem jP{d:Nat}{t:TypeId}{zs:List AV}(ht:Tryz.prog.underlying t=some .string)(h:zn Tryz.prog (d+1) t zs): ∃n,zs= [.str n]:=by
 unfold zn at h;rw[ht]at h;obtain⟨n,h,_⟩:=h;exact⟨n,h⟩
theorem qy4{d:Nat}{zs:List AV}(h:zn Tryz.prog (d+2) 64 zs): ∃x:Wd,zs=wdC x:=by
 obtain⟨hl,hf⟩:=jd Tryz.underlying64 h;simp only[List.mem_cons,List.not_mem_nil,or_false,forall_eq_or_imp,forall_eq,qfD,quq,qfE]at hf;obtain⟨h0,h1,h2,h3,h4,h5,h6⟩:=hf;rw[qqH]at hl
 match zs,hl with
 | [z0,z1,z2,z3,z4,z5,z6],_=>
  obtain⟨x0,e0⟩:=jP Tryz.underlying9 h0;obtain⟨x1,e1⟩:=jO Tryz.underlying3 h1;obtain⟨x2,e2⟩:=jO Tryz.underlying3 h2;obtain⟨x3,e3⟩:=jO Tryz.underlying3 h3;obtain⟨x4,e4⟩:=qdM Tryz.underlying4 h4;obtain⟨x5,e5⟩:=qdM Tryz.underlying4 h5;obtain⟨x6,e6⟩:=jP Tryz.underlying9 h6;simp at e0 e1 e2 e3 e4 e5 e6;subst e0 e1 e2 e3 e4 e5 e6;exact⟨⟨x0,x1,x2,x3,x4,x5,x6⟩,rfl⟩
theorem qxb{d:Nat}{zs:List AV}(h:zn Tryz.prog (d+3) 29 zs): ∃(a:AV) (l:List Wd),zs= [a]∧l.length≤9223372036854775807∧ILe a (qV l):=by
 obtain⟨n,f,rfl,hn,hfi⟩:=zW Tryz.underlying29 h;have key: ∀i,i<n→ ∃x:Wd,f i=wdC x:=fun i hi=>qy4 (hfi i hi)
 let l:List Wd:=(List.range n).map fun i=>if hi:i<n then (key i hi).choose else default
 have hln:l.length=n:=by simp[l]
 have hg: ∀i (hi:i<n),l.getD i default=(key i hi).choose:=fun i hi=>by simp[l,gdqA,hi]
 refine⟨_,l,rfl,by rw[hln];unfold maxLen at hn;omega,?_⟩
 ·unfold qV;rw[hln];refine ILe.sl_eq (fun i hi=> ?_);rw[hg i hi];exact (key i hi).choose_spec
theorem qf1{W:World}{base:Nat}{t e:TypeId}{v:Value}(ht:Tryz.prog.underlying t=some (.slice e))(hval:Value.okWide Tryz.prog W .any base t v):v.cells= #[v]:=by
 unfold Value.okWide at hval;rw[ht]at hval;simp only at hval;unfold Cell.okWide Cell.ok at hval;rw[ht]at hval;cases v<;>first|rfl|(exfalso;simp at hval)
theorem qkZ{H:Type}{enc:TypeId×Value→H}{W:World}{base:Nat}{v:Value}{d:DataW H}{ps:List MemPlace}(hval:Value.okWide Tryz.prog W .any base 29 v)(h:DataW.Trod enc Tryz.prog W 0 (fun _=>true) true 29 v d ps):
  ∃l:List Wd,l.length≤9223372036854775807∧VR W [] (qV l) v:=by
 obtain⟨z,hg,hvi⟩:=qgb (ow:=AF.own []) qeW quw (qf1 Tryz.underlying29 hval) h;obtain⟨a,ps,e,hl,hil⟩:=qxb hg;simp at e;subst e;exact⟨ps,hl,.imm (hil _ _ _ hvi)⟩
theorem qfk{d:Nat}{zs:List AV}(h:zn Tryz.prog (d+2) 22 zs): ∃(a:AV) (l:List (List UInt8)),zs= [a]∧l.length≤9223372036854775807∧ILe a (HY.strs l):=by
 obtain⟨n,f,rfl,hn,hfi⟩:=zW Tryz.underlying22 h;have key: ∀i,i<n→ ∃x:(List UInt8),f i= [.str x]:=fun i hi=>jP Tryz.underlying9 (hfi i hi)
 let l:List (List UInt8):=(List.range n).map fun i=>if hi:i<n then (key i hi).choose else []
 have hln:l.length=n:=by simp[l]
 have hg: ∀i (hi:i<n),l.getD i []=(key i hi).choose:=fun i hi=>by simp[l,gdqA,hi]
 refine⟨_,l,rfl,by rw[hln];unfold maxLen at hn;omega,?_⟩
 ·unfold HY.strs;rw[hln];refine ILe.sl_eq (fun i hi=> ?_);rw[hg i hi];exact (key i hi).choose_spec
theorem qka{d:Nat}{zs:List AV}(h:zn Tryz.prog (d+2) 62 zs): ∃(a:AV) (l:List Int),zs= [a]∧l.length≤9223372036854775807∧ILe a (qr l):=by
 obtain⟨n,f,rfl,hn,hfi⟩:=zW Tryz.underlying62 h;have key: ∀i,i<n→ ∃x:Int,f i= [.int .i64 x]:=fun i hi=>jO Tryz.underlying3 (hfi i hi)
 let l:List Int:=(List.range n).map fun i=>if hi:i<n then (key i hi).choose else 0
 have hln:l.length=n:=by simp[l]
 have hg: ∀i (hi:i<n),l.getD i 0=(key i hi).choose:=fun i hi=>by simp[l,gdqA,hi]
 refine⟨_,l,rfl,by rw[hln];unfold maxLen at hn;omega,?_⟩
 ·unfold qr;rw[hln];refine ILe.sl_eq (fun i hi=> ?_);rw[hg i hi];exact (key i hi).choose_spec
theorem qnA{d:Nat}{zs:List AV}(h:zn Tryz.prog (d+2) 62 zs): ∃l:List Int,l.length≤9223372036854775807∧qaT zs [qr l]:=by
 obtain⟨a,l,rfl,hl,hi⟩:=qka h;exact⟨l,hl,hi,trivial⟩
theorem qyR{d:Nat}{zs:List AV}(h:zn Tryz.prog (d+3) 124 zs): ∃x:Tk,zs=tkC x:=by
 obtain⟨hl,hf⟩:=jd Tryz.underlying124 h;simp only[List.mem_cons,List.not_mem_nil,or_false,forall_eq_or_imp,forall_eq,qfD,qfE,qqF]at hf;obtain⟨h0,h1,h2,h3,h4⟩:=hf;rw[qmH]at hl
 match zs,hl with
 | [z0,z1,z2,z3,z4,z5],_=>
  obtain⟨hp,hg⟩:=jd Tryz.underlying34 h2;simp only[List.mem_cons,List.not_mem_nil,or_false,forall_eq_or_imp,forall_eq,qfE,qfD]at hg;obtain⟨g0,g1⟩:=hg;obtain⟨x0,e0⟩:=jP Tryz.underlying9 h0;obtain⟨x1,e1⟩:=jP Tryz.underlying9 h1;obtain⟨x2,e2⟩:=jP Tryz.underlying9 g0;obtain⟨x3,e3⟩:=jO Tryz.underlying3 g1;obtain⟨x4,e4⟩:=jO Tryz.underlying3 h3;obtain⟨x5,e5⟩:=jP Tryz.underlying9 h4;simp at e0 e1 e2 e3 e4 e5;subst e0 e1 e2 e3 e4 e5;exact⟨⟨x0,x1,x2,x3,x4,x5⟩,rfl⟩
theorem qwK{d:Nat}{zs:List AV}(h:zn Tryz.prog (d+4) 125 zs): ∃(a:AV) (l:List Tk),zs= [a]∧l.length≤9223372036854775807∧ILe a (zQ l):=by
 obtain⟨n,f,rfl,hn,hfi⟩:=zW Tryz.underlying125 h;have key: ∀i,i<n→ ∃x:Tk,f i=tkC x:=fun i hi=>qyR (hfi i hi)
 let l:List Tk:=(List.range n).map fun i=>if hi:i<n then (key i hi).choose else default
 have hln:l.length=n:=by simp[l]
 have hg: ∀i (hi:i<n),l.getD i default=(key i hi).choose:=fun i hi=>by simp[l,gdqA,hi]
 refine⟨_,l,rfl,by rw[hln];unfold maxLen at hn;omega,?_⟩
 ·unfold zQ;rw[hln];refine ILe.sl_eq (fun i hi=> ?_);rw[hg i hi];exact (key i hi).choose_spec
theorem qsr{d:Nat}{zs:List AV}(h:zn Tryz.prog (d+4) 125 zs): ∃l:List Tk,l.length≤9223372036854775807∧qaT zs [zQ l]:=by
 obtain⟨a,l,rfl,hl,hi⟩:=qwK h;exact⟨l,hl,hi,trivial⟩
theorem qss{d:Nat}{zs:List AV}(h:zn Tryz.prog (d+5) 23 zs): ∃(a:AV) (l:List (List Tk)),zs= [a]∧l.length≤9223372036854775807∧(∀i,(l.getD i []).length≤9223372036854775807)∧ILe a (ql l):=by
 obtain⟨n,f,rfl,hn,hfi⟩:=zW Tryz.underlying23 h;have key: ∀i,i<n→ ∃x:(List Tk),x.length≤9223372036854775807∧qaT (f i) [zQ x]:=fun i hi=>qsr (hfi i hi)
 let l:List (List Tk):=(List.range n).map fun i=>if hi:i<n then (key i hi).choose else []
 have hln:l.length=n:=by simp[l]
 have hg: ∀i (hi:i<n),l.getD i []=(key i hi).choose:=fun i hi=>by simp[l,gdqA,hi]
 refine⟨_,l,rfl,by rw[hln];unfold maxLen at hn;omega,?_,?_⟩
 ·intro i
  by_cases hi:i<n
  ·rw[hg i hi];exact (key i hi).choose_spec.1
  ·rw[gdqA,List.getElem?_eq_none om]
   first|exact nzl _|exact⟨nzl _,nzl _,fun _=>nzl _,fun _=>nzl _⟩
 ·unfold ql;rw[hln];refine ILe.sl (fun i hi=> ?_);rw[hg i hi];exact (key i hi).choose_spec.2
theorem qqQ{d:Nat}{zs:List AV}(h:zn Tryz.prog (d+3) 24 zs): ∃(a:AV) (l:List (List Int)),zs= [a]∧l.length≤9223372036854775807∧(∀i,(l.getD i []).length≤9223372036854775807)∧ILe a (qp l):=by
 obtain⟨n,f,rfl,hn,hfi⟩:=zW Tryz.underlying24 h;have key: ∀i,i<n→ ∃x:(List Int),x.length≤9223372036854775807∧qaT (f i) [qr x]:=fun i hi=>qnA (hfi i hi)
 let l:List (List Int):=(List.range n).map fun i=>if hi:i<n then (key i hi).choose else []
 have hln:l.length=n:=by simp[l]
 have hg: ∀i (hi:i<n),l.getD i []=(key i hi).choose:=fun i hi=>by simp[l,gdqA,hi]
 refine⟨_,l,rfl,by rw[hln];unfold maxLen at hn;omega,?_,?_⟩
 ·intro i
  by_cases hi:i<n
  ·rw[hg i hi];exact (key i hi).choose_spec.1
  ·rw[gdqA,List.getElem?_eq_none om]
   first|exact nzl _|exact⟨nzl _,nzl _,fun _=>nzl _,fun _=>nzl _⟩
 ·unfold qp;rw[hln];refine ILe.sl (fun i hi=> ?_);rw[hg i hi];exact (key i hi).choose_spec.2
theorem qyK{d:Nat}{zs:List AV}(h:zn Tryz.prog (d+3) 89 zs): ∃r:Rd,r.words.length≤9223372036854775807∧qaT zs (rdC r):=by
 obtain⟨hl,hf⟩:=jd Tryz.underlying89 h;simp only[List.mem_cons,List.not_mem_nil,or_false,forall_eq_or_imp,forall_eq,qjb,qqG]at hf;obtain⟨h0,h1⟩:=hf;rw[qqK]at hl
 match zs,hl with
 | [a,b],_=>
  obtain⟨x,w,e0,l0,i0⟩:=qfk h0;obtain⟨y,s,e1,l1,i1⟩:=qka h1;simp at e0 e1;subst e0 e1;exact⟨⟨w,s⟩,l0,i0,i1,trivial⟩
theorem qwn{d:Nat}{zs:List AV}(h:zn Tryz.prog (d+4) 81 zs): ∃(a:AV) (l:List Rd),zs= [a]∧l.length≤9223372036854775807∧(∀i,(l.getD i default).words.length≤9223372036854775807)∧ILe a (zB l):=by
 obtain⟨n,f,rfl,hn,hfi⟩:=zW Tryz.underlying81 h;have key: ∀i,i<n→ ∃x:Rd,x.words.length≤9223372036854775807∧qaT (f i) (rdC x):=fun i hi=>qyK (hfi i hi)
 let l:List Rd:=(List.range n).map fun i=>if hi:i<n then (key i hi).choose else default
 have hln:l.length=n:=by simp[l]
 have hg: ∀i (hi:i<n),l.getD i default=(key i hi).choose:=fun i hi=>by simp[l,gdqA,hi]
 refine⟨_,l,rfl,by rw[hln];unfold maxLen at hn;omega,?_,?_⟩
 ·intro i
  by_cases hi:i<n
  ·rw[hg i hi];exact (key i hi).choose_spec.1
  ·rw[gdqA,List.getElem?_eq_none om]
   first|exact nzl _|exact⟨nzl _,nzl _,fun _=>nzl _,fun _=>nzl _⟩
 ·unfold zB;rw[hln];refine ILe.sl (fun i hi=> ?_);rw[hg i hi];exact (key i hi).choose_spec.2
theorem qyT{d:Nat}{zs:List AV}(h:zn Tryz.prog (d+5) 83 zs): ∃u:Un,(u.rds.length≤9223372036854775807∧ ∀j,(u.rds.getD j default).words.length≤9223372036854775807)∧qaT zs (unC u):=by
 obtain⟨hl,hf⟩:=jd Tryz.underlying83 h;simp only[List.mem_cons,List.not_mem_nil,or_false,forall_eq_or_imp,forall_eq,qfD,qqI]at hf;obtain⟨h0,h1,h2⟩:=hf;rw[qqJ]at hl
 match zs,hl with
 | [a,b,c],_=>
  obtain⟨x0,e0⟩:=jO Tryz.underlying3 h0;obtain⟨x1,e1⟩:=jO Tryz.underlying3 h1;obtain⟨y,s,e2,l2,b2,i2⟩:=qwn h2;simp at e0 e1 e2;subst e0 e1 e2;exact⟨⟨x0,x1,s⟩,⟨l2,b2⟩,ILe.refl _,ILe.refl _,i2,trivial⟩
theorem qwN{d:Nat}{zs:List AV}(h:zn Tryz.prog (d+6) 27 zs): ∃(a:AV) (l:List Un),zs= [a]∧l.length≤9223372036854775807∧(∀i,(l.getD i default).rds.length≤9223372036854775807∧ ∀j,((l.getD i default).rds.getD j default).words.length≤9223372036854775807)∧ILe a (qx l):=by
 obtain⟨n,f,rfl,hn,hfi⟩:=zW Tryz.underlying27 h;have key: ∀i,i<n→ ∃x:Un,(x.rds.length≤9223372036854775807∧ ∀j,(x.rds.getD j default).words.length≤9223372036854775807)∧qaT (f i) (unC x):=fun i hi=>qyT (hfi i hi)
 let l:List Un:=(List.range n).map fun i=>if hi:i<n then (key i hi).choose else default
 have hln:l.length=n:=by simp[l]
 have hg: ∀i (hi:i<n),l.getD i default=(key i hi).choose:=fun i hi=>by simp[l,gdqA,hi]
 refine⟨_,l,rfl,by rw[hln];unfold maxLen at hn;omega,?_,?_⟩
 ·intro i
  by_cases hi:i<n
  ·rw[hg i hi];exact (key i hi).choose_spec.1
  ·rw[gdqA,List.getElem?_eq_none om]
   first|exact nzl _|exact⟨nzl _,fun _=>nzl _⟩|exact⟨nzl _,nzl _,fun _=>nzl _,fun _=>nzl _⟩
 ·unfold qx;rw[hln];refine ILe.sl (fun i hi=> ?_);rw[hg i hi];exact (key i hi).choose_spec.2
theorem qx2{d:Nat}{zs:List AV}(h:zn Tryz.prog (d+6) 26 zs): ∃x:Co,CoB x∧qaT zs (coC x):=by
 obtain⟨hl,hf⟩:=jd Tryz.underlying26 h;simp only[List.mem_cons,List.not_mem_nil,or_false,forall_eq_or_imp,forall_eq,qfE,qjb,qqC,qqD]at hf;obtain⟨h0,h1,h2,h3⟩:=hf;rw[qqE]at hl
 match zs,hl with
 | [a,b,c,e],_=>
  obtain⟨x0,e0⟩:=jP Tryz.underlying9 h0;obtain⟨a1,x1,e1,l1,i1⟩:=qfk h1;obtain⟨a2,x2,e2,l2,_,i2⟩:=qss h2;obtain⟨a3,x3,e3,l3,_,i3⟩:=qqQ h3;simp at e0 e1 e2 e3;subst e0 e1 e2 e3;exact⟨⟨x0,x1,x2,x3⟩,⟨l1,l2,l3⟩,ILe.refl _,i1,i2,i3,trivial⟩
theorem qhh{H:Type}{enc:TypeId×Value→H}{W:World}{base:Nat}{v:Value}{d:DataW H}{ps:List MemPlace}(hval:Value.okWide Tryz.prog W .any base 27 v)(h:DataW.Trod enc Tryz.prog W 0 (fun _=>true) true 27 v d ps):
  ∃l:List Un,l.length≤9223372036854775807∧(∀i,(l.getD i default).rds.length≤9223372036854775807∧ ∀j,((l.getD i default).rds.getD j default).words.length≤9223372036854775807)∧VR W [] (qx l) v:=by
 obtain⟨z,hg,hvi⟩:=qgb (ow:=AF.own []) qeW quv (qf1 Tryz.underlying27 hval) h;obtain⟨a,ps,e,hl,hb,hil⟩:=qwN hg;simp at e;subst e;exact⟨ps,hl,hb,.imm (hil _ _ _ hvi)⟩
theorem qk0{H:Type}{enc:TypeId×Value→H}{W:World}{base:Nat}{v:Value}{d:DataW H}{ps:List MemPlace}(hval:Value.okWide Tryz.prog W .any base 26 v)(h:DataW.Trod enc Tryz.prog W 0 (fun _=>true) true 26 v d ps):
  ∃x:Co,CoB x∧VR W [] (.agg (coC x)) v:=by
 unfold Value.okWide at hval;rw[Tryz.underlying26]at hval;simp only at hval;obtain⟨cs,rfl,_,_⟩:=hval;obtain⟨zs,hg,hvi⟩:=qoa (ow:=AF.own []) qeW quu h;obtain⟨a,h1,hil⟩:=qx2 hg;exact⟨a,h1,.imm (ILe.agg hil _ _ _ hvi)⟩
theorem qcj(os:Os)(started:os.Started)(H:Type)(enc:TypeId×Value→H):
  ReturnsInHanded {} Tryz.checked os 7 .any (fun w args=>(Rows.provenanceSourcesSpec.pre enc Tryz.prog Tryz.f7 Rows.provenanceSourcesRow.domain false w args∧laidMetH Tryz.prog Rows.provenanceSourcesRow.laid w)∧sizedMet enc Tryz.prog Tryz.f7 (OpenSpec.ofChange Rows.provenanceSourcesSpec) false w args)
   (Rows.provenanceSourcesSpec.post enc Tryz.prog Tryz.f7 false true false false):=by
 refine returnsInHanded_of_change_and (C:=Tryz.checked) (X:=fun w _=>laidMetH Tryz.prog Rows.provenanceSourcesRow.laid w) (fun _ _ _ hh h=>h.of_heap hh) own started (by kernel_rfl) Tryz.func7
  (ChangeSpec.witness_shaped (enc:=enc) (C:=Tryz.checked) (os:=os) (X:=fun w _=>laidMetH Tryz.prog Rows.provenanceSourcesRow.laid w) false (World.laidAll Tryz.prog os Rows.provenanceSourcesRow.laid) #[.agg #[.string ByteArray.empty,.slice none 0 0,.slice none 0 0,.slice none 0 0],.slice none 0 0,.slice none 0 0,.int .i64 0,.int .i64 0] 8 (World.laidAll_os _ _ _)
   (World.shaped_of_ZipB (by kernel_rfl) (by kernel_rfl)) (by kernel_rfl) (by kernel_rfl) (by kernel_rfl)
   (by rw[MakeChecks.laidMetH_plain _ _ _ (by kernel_rfl)];exact laidMet_laidAll _ (by kernel_rfl) (by kernel_rfl))) ?_
 intro W base args ds gs before hval hW _ _ hX _;have hX:laidMetH Tryz.prog Rows.provenanceSourcesRow.laid W:=hX;rw[MakeChecks.laidMetH_plain _ _ _ (by kernel_rfl)]at hX;refine qdX (tb:=4) (bs:=qdc) (G:=qxG) laid rfl ?_ (by kernel_rfl) Tryz.underlying4 ?_ hW (qow hX) (qsm hX) ?_
 ·intro ds' h'
  match ds',h' with
  | [a0,a1,a2,a3,a4],_=>rfl
 ·intro t ht;rw[show Tryz.f7.params.toList= [26,27,29,3,3] by rw[Tryz.params7]]at ht;simp only[List.mem_cons,List.not_mem_nil,or_false]at ht;rcases ht with rfl|rfl|rfl|rfl|rfl<;>exact⟨by kernel_rfl,of_decide_eq_true (by kernel_rfl)⟩
 ·intro p hA;rw[Tryz.params7]at hA hval;obtain⟨v0,v1,v2,v3,v4,d0,d1,d2,d3,d4,p0,p1,p2,p3,p4,rfl,rfl,h0,h1,h2,h3,h4⟩:=qlL hA;obtain⟨x0,hb0,hv0⟩:=qk0 (hval 0 26 v0 rfl rfl) h0;obtain⟨l1,hl1,hu1,hv1⟩:=qhh (hval 1 27 v1 rfl rfl) h1;obtain⟨l2,hl2,hv2⟩:=qkZ (hval 2 29 v2 rfl rfl) h2;obtain⟨n3,rfl,_,_,w3⟩:=open_int Tryz.underlying3 (hval 3 3 v3 rfl rfl) h3;have hl3:(-9223372036854775808:Int)≤n3∧n3≤9223372036854775807:=by simpa[Lit.wf,IntKind.min,IntKind.max,IntKind.signed,IntKind.bits] using w3
  obtain⟨n4,rfl,_,_,w4⟩:=open_int Tryz.underlying3 (hval 4 3 v4 rfl rfl) h4;have hl4:(-9223372036854775808:Int)≤n4∧n4≤9223372036854775807:=by simpa[Lit.wf,IntKind.min,IntKind.max,IntKind.signed,IntKind.bits] using w4
  refine⟨by rw[Tryz.params7];rfl,[(.agg (coC x0)),qx l1,qV l2,.int .i64 n3,.int .i64 n4],?_,qv3 x0 l1 l2 n3 n4 [.pin qdc qxG] qsj hb0 ⟨hl1,fun i=>(hu1 i).1,fun i=>(hu1 i).2⟩ hl2⟩;exact VRs.cons' hv0 (VRs.cons' hv1 (VRs.cons' hv2 (VRs.cons' (.imm .int) (VRs.cons' (.imm .int) (VRs.nil')))))
end Go.Proofs.YtgoandblgcjleaaGreatDoor
