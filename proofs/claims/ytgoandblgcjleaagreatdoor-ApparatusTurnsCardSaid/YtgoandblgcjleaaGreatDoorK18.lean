import Derived.Test.YtgoandblgcjleaaGreatDoorK0
import Derived.Test.YtgoandblgcjleaaGreatDoorK17
import Derived.Test.YtgoandblgcjleaaGreatDoorK9
import Derived.Test.YtgoandblgcjleaaGreatDoorK6
import Derived.Test.YtgoandblgcjleaaGreatDoorRows
import Derived.Test.YtgoandblgcjleaaGreatDoorTie
import Derived.Test.YtgoandblgcjleaaGreatDoorCards
import Derived.ProofKit
import Derived.ChangeMaps5
import Derived.OpenShut
import Derived.LaidMore
import Derived.Lay
import Derived.SevenTiedAt
import Derived.Stop.Joined
set_option linter.all false
set_option linter.unusedSimpArgs false
set_option linter.unusedVariables false
set_option linter.unusedSectionVars false
open Go Go.Proofs AF HY RC LN Go.ChangeShapes Go.WideShapes Go.ChangeAt Go.RowKit
set_option maxRecDepth 100000
namespace Go.Proofs.YtgoandblgcjleaaGreatDoor
theorem own:ownKnob Tryz.prog.godebug=none:=by kernel_rfl
theorem laid:laidOutB Tryz.prog=true:=wp1
theorem qnF{H:Type}{enc:TypeId×Value→H}{P:Program}{w:World}{base:Nat}{spare:Nat→Bool}{held:Bool}{t0 t1:TypeId}{args:Array Value}{ds:List (DataW H)}{ps:List MemPlace}
  (h:DataW.TrodAll enc P w base spare held [t0,t1] args.toList ds ps):
  ∃v0 v1 d0 d1 p0 p1,args= #[v0,v1]∧ds= [d0,d1]∧DataW.Trod enc P w base spare held t0 v0 d0 p0∧DataW.Trod enc P w base spare held t1 v1 d1 p1:=by
 obtain⟨v0,vs0,d0,ds0,p0,q0,hargs,rfl,rfl,hd0,hr0⟩:=trodAll_cons h;obtain⟨v1,vs1,d1,ds1,p1,q1,rfl,rfl,rfl,hd1,hr1⟩:=trodAll_cons hr0;obtain⟨rfl,rfl,rfl⟩:=trodAll_nil hr1;exact⟨v0,v1,d0,d1,p0,p1,by cases args;simp_all,rfl,hd0,hd1⟩
theorem qgU:Tryz.prog.cellsOf 3=1:=by kernel_rfl
theorem qxv:Tryz.prog.cellsOf 4=1:=by kernel_rfl
theorem qeN:Tryz.prog.cellsOf 9=1:=by kernel_rfl
theorem qfV:Tryz.prog.cellsOf 22=1:=by kernel_rfl
theorem qs2:Tryz.prog.cellsOf 23=1:=by kernel_rfl
theorem qs3:Tryz.prog.cellsOf 24=1:=by kernel_rfl
theorem qkO:Tryz.prog.cellsOf 26=4:=by kernel_rfl
theorem qs4:Tryz.prog.cellsOf 27=1:=by kernel_rfl
theorem qs5:Tryz.prog.cellsOf 29=1:=by kernel_rfl
theorem qs6:Tryz.prog.cellsOf 34=2:=by kernel_rfl
theorem qs7:Tryz.prog.cellsOf 43=1:=by kernel_rfl
theorem qs8:Tryz.prog.cellsOf 44=1:=by kernel_rfl
theorem qs9:Tryz.prog.cellsOf 45=1:=by kernel_rfl
theorem qta:Tryz.prog.cellsOf 47=10:=by kernel_rfl
theorem qkP:Tryz.prog.cellsOf 62=1:=by kernel_rfl
theorem qtb:Tryz.prog.cellsOf 64=7:=by kernel_rfl
theorem qtc:Tryz.prog.cellsOf 81=1:=by kernel_rfl
theorem qtd:Tryz.prog.cellsOf 83=3:=by kernel_rfl
theorem qte:Tryz.prog.cellsOf 89=2:=by kernel_rfl
theorem qoI:Tryz.prog.cellsOf 124=6:=by kernel_rfl
theorem qoJ:Tryz.prog.cellsOf 167=2:=by kernel_rfl
theorem qxF:qcb Tryz.prog 8 47=true:=by kernel_rfl
theorem zQ{d:Nat}{t:TypeId}{fs:Array Field}{zs:List AV}(ht:Tryz.prog.underlying t=some (.struct fs))(h:zj Tryz.prog (d+1) t zs):zs.length=Tryz.prog.cellsOf t∧ ∀f∈fs.toList,zj Tryz.prog d f.type ((zs.drop f.offset).take (Tryz.prog.cellsOf f.type)):=by
 unfold zj at h;rw[ht]at h;exact h
theorem zq{d:Nat}{t e:TypeId}{zs:List AV}(ht:Tryz.prog.underlying t=some (.slice e))(h:zj Tryz.prog (d+1) t zs): ∃(n:Nat) (f:Nat→List AV),zs= [.sl n f]∧n≤maxLen∧ ∀i,i<n→zj Tryz.prog d e (f i):=by
 unfold zj at h;rw[ht]at h;exact h
theorem kp{d:Nat}{t:TypeId}{k:IntKind}{zs:List AV}(ht:Tryz.prog.underlying t=some (.int k))(h:zj Tryz.prog (d+1) t zs): ∃n,zs= [.int k n]:=by
 unfold zj at h;rw[ht]at h;obtain⟨n,h,_⟩:=h;exact⟨n,h⟩
theorem qcX{d:Nat}{t:TypeId}{zs:List AV}(ht:Tryz.prog.underlying t=some .bool)(h:zj Tryz.prog (d+1) t zs): ∃n,zs= [.bool n]:=by
 unfold zj at h;rw[ht]at h;exact h
theorem jP{d:Nat}{t:TypeId}{zs:List AV}(ht:Tryz.prog.underlying t=some .string)(h:zj Tryz.prog (d+1) t zs): ∃n,zs= [.str n]:=by
 unfold zj at h;rw[ht]at h;obtain⟨n,h,_⟩:=h;exact⟨n,h⟩
theorem qCu{d:Nat}{zs:List AV}(h:zj Tryz.prog (d+2) 64 zs): ∃x:Wd,zs=wdC x:=by
 obtain⟨hl,hf⟩:=zQ Tryz.underlying64 h;simp only[List.mem_cons,List.not_mem_nil,or_false,forall_eq_or_imp,forall_eq,qgU,qxv,qeN]at hf;obtain⟨h0,h1,h2,h3,h4,h5,h6⟩:=hf;rw[qtb]at hl
 match zs,hl with
 | [z0,z1,z2,z3,z4,z5,z6],_=>
  obtain⟨x0,e0⟩:=jP Tryz.underlying9 h0;obtain⟨x1,e1⟩:=kp Tryz.underlying3 h1;obtain⟨x2,e2⟩:=kp Tryz.underlying3 h2;obtain⟨x3,e3⟩:=kp Tryz.underlying3 h3;obtain⟨x4,e4⟩:=qcX Tryz.underlying4 h4;obtain⟨x5,e5⟩:=qcX Tryz.underlying4 h5;obtain⟨x6,e6⟩:=jP Tryz.underlying9 h6;simp at e0 e1 e2 e3 e4 e5 e6;subst e0 e1 e2 e3 e4 e5 e6;exact⟨⟨x0,x1,x2,x3,x4,x5,x6⟩,rfl⟩
theorem qAD{d:Nat}{zs:List AV}(h:zj Tryz.prog (d+3) 29 zs): ∃(a:AV) (l:List Wd),zs= [a]∧l.length≤9223372036854775807∧ILe a (zc l):=by
 obtain⟨n,f,rfl,hn,hfi⟩:=zq Tryz.underlying29 h;have key: ∀i,i<n→ ∃x:Wd,f i=wdC x:=fun i hi=>qCu (hfi i hi)
 let l:List Wd:=(List.range n).map fun i=>if hi:i<n then (key i hi).choose else default
 have hln:l.length=n:=by simp[l]
 have hg: ∀i (hi:i<n),l.getD i default=(key i hi).choose:=fun i hi=>by simp[l,gdqA,hi]
 refine⟨_,l,rfl,by rw[hln];unfold maxLen at hn;omega,?_⟩
 ·unfold zc;rw[hln];refine ILe.sl_eq (fun i hi=> ?_);rw[hg i hi];exact (key i hi).choose_spec
theorem qb0{d:Nat}{zs:List AV}(h:zj Tryz.prog (d+2) 22 zs): ∃(a:AV) (l:List (List UInt8)),zs= [a]∧l.length≤9223372036854775807∧ILe a (HY.strs l):=by
 obtain⟨n,f,rfl,hn,hfi⟩:=zq Tryz.underlying22 h;have key: ∀i,i<n→ ∃x:(List UInt8),f i= [.str x]:=fun i hi=>jP Tryz.underlying9 (hfi i hi)
 let l:List (List UInt8):=(List.range n).map fun i=>if hi:i<n then (key i hi).choose else []
 have hln:l.length=n:=by simp[l]
 have hg: ∀i (hi:i<n),l.getD i []=(key i hi).choose:=fun i hi=>by simp[l,gdqA,hi]
 refine⟨_,l,rfl,by rw[hln];unfold maxLen at hn;omega,?_⟩
 ·unfold HY.strs;rw[hln];refine ILe.sl_eq (fun i hi=> ?_);rw[hg i hi];exact (key i hi).choose_spec
theorem qf8{d:Nat}{zs:List AV}(h:zj Tryz.prog (d+2) 62 zs): ∃(a:AV) (l:List Int),zs= [a]∧l.length≤9223372036854775807∧ILe a (qn l):=by
 obtain⟨n,f,rfl,hn,hfi⟩:=zq Tryz.underlying62 h;have key: ∀i,i<n→ ∃x:Int,f i= [.int .i64 x]:=fun i hi=>kp Tryz.underlying3 (hfi i hi)
 let l:List Int:=(List.range n).map fun i=>if hi:i<n then (key i hi).choose else 0
 have hln:l.length=n:=by simp[l]
 have hg: ∀i (hi:i<n),l.getD i 0=(key i hi).choose:=fun i hi=>by simp[l,gdqA,hi]
 refine⟨_,l,rfl,by rw[hln];unfold maxLen at hn;omega,?_⟩
 ·unfold qn;rw[hln];refine ILe.sl_eq (fun i hi=> ?_);rw[hg i hi];exact (key i hi).choose_spec
theorem qsy{d:Nat}{zs:List AV}(h:zj Tryz.prog (d+2) 45 zs): ∃(a:AV) (l:List Bool),zs= [a]∧l.length≤9223372036854775807∧ILe a (km l):=by
 obtain⟨n,f,rfl,hn,hfi⟩:=zq Tryz.underlying45 h;have key: ∀i,i<n→ ∃x:Bool,f i= [.bool x]:=fun i hi=>qcX Tryz.underlying4 (hfi i hi)
 let l:List Bool:=(List.range n).map fun i=>if hi:i<n then (key i hi).choose else false
 have hln:l.length=n:=by simp[l]
 have hg: ∀i (hi:i<n),l.getD i false=(key i hi).choose:=fun i hi=>by simp[l,gdqA,hi]
 refine⟨_,l,rfl,by rw[hln];unfold maxLen at hn;omega,?_⟩
 ·unfold km;rw[hln];refine ILe.sl_eq (fun i hi=> ?_);rw[hg i hi];exact (key i hi).choose_spec
theorem qqX{d:Nat}{zs:List AV}(h:zj Tryz.prog (d+2) 22 zs): ∃l:List (List UInt8),l.length≤9223372036854775807∧qah zs [HY.strs l]:=by
 obtain⟨a,l,rfl,hl,hi⟩:=qb0 h;exact⟨l,hl,hi,trivial⟩
theorem qpD{d:Nat}{zs:List AV}(h:zj Tryz.prog (d+2) 62 zs): ∃l:List Int,l.length≤9223372036854775807∧qah zs [qn l]:=by
 obtain⟨a,l,rfl,hl,hi⟩:=qf8 h;exact⟨l,hl,hi,trivial⟩
theorem qCe{d:Nat}{zs:List AV}(h:zj Tryz.prog (d+3) 124 zs): ∃x:Tk,zs=tkC x:=by
 obtain⟨hl,hf⟩:=zQ Tryz.underlying124 h;simp only[List.mem_cons,List.not_mem_nil,or_false,forall_eq_or_imp,forall_eq,qgU,qeN,qs6]at hf;obtain⟨h0,h1,h2,h3,h4⟩:=hf;rw[qoI]at hl
 match zs,hl with
 | [z0,z1,z2,z3,z4,z5],_=>
  obtain⟨hp,hg⟩:=zQ Tryz.underlying34 h2;simp only[List.mem_cons,List.not_mem_nil,or_false,forall_eq_or_imp,forall_eq,qeN,qgU]at hg;obtain⟨g0,g1⟩:=hg;obtain⟨x0,e0⟩:=jP Tryz.underlying9 h0;obtain⟨x1,e1⟩:=jP Tryz.underlying9 h1;obtain⟨x2,e2⟩:=jP Tryz.underlying9 g0;obtain⟨x3,e3⟩:=kp Tryz.underlying3 g1;obtain⟨x4,e4⟩:=kp Tryz.underlying3 h3;obtain⟨x5,e5⟩:=jP Tryz.underlying9 h4;simp at e0 e1 e2 e3 e4 e5;subst e0 e1 e2 e3 e4 e5;exact⟨⟨x0,x1,x2,x3,x4,x5⟩,rfl⟩
theorem qAc{d:Nat}{zs:List AV}(h:zj Tryz.prog (d+4) 125 zs): ∃(a:AV) (l:List Tk),zs= [a]∧l.length≤9223372036854775807∧ILe a (jS l):=by
 obtain⟨n,f,rfl,hn,hfi⟩:=zq Tryz.underlying125 h;have key: ∀i,i<n→ ∃x:Tk,f i=tkC x:=fun i hi=>qCe (hfi i hi)
 let l:List Tk:=(List.range n).map fun i=>if hi:i<n then (key i hi).choose else default
 have hln:l.length=n:=by simp[l]
 have hg: ∀i (hi:i<n),l.getD i default=(key i hi).choose:=fun i hi=>by simp[l,gdqA,hi]
 refine⟨_,l,rfl,by rw[hln];unfold maxLen at hn;omega,?_⟩
 ·unfold jS;rw[hln];refine ILe.sl_eq (fun i hi=> ?_);rw[hg i hi];exact (key i hi).choose_spec
theorem qu9{d:Nat}{zs:List AV}(h:zj Tryz.prog (d+4) 125 zs): ∃l:List Tk,l.length≤9223372036854775807∧qah zs [jS l]:=by
 obtain⟨a,l,rfl,hl,hi⟩:=qAc h;exact⟨l,hl,hi,trivial⟩
theorem qva{d:Nat}{zs:List AV}(h:zj Tryz.prog (d+5) 23 zs): ∃(a:AV) (l:List (List Tk)),zs= [a]∧l.length≤9223372036854775807∧(∀i,(l.getD i []).length≤9223372036854775807)∧ILe a (qt l):=by
 obtain⟨n,f,rfl,hn,hfi⟩:=zq Tryz.underlying23 h;have key: ∀i,i<n→ ∃x:(List Tk),x.length≤9223372036854775807∧qah (f i) [jS x]:=fun i hi=>qu9 (hfi i hi)
 let l:List (List Tk):=(List.range n).map fun i=>if hi:i<n then (key i hi).choose else []
 have hln:l.length=n:=by simp[l]
 have hg: ∀i (hi:i<n),l.getD i []=(key i hi).choose:=fun i hi=>by simp[l,gdqA,hi]
 refine⟨_,l,rfl,by rw[hln];unfold maxLen at hn;omega,?_,?_⟩
 ·intro i
  by_cases hi:i<n
  ·rw[hg i hi];exact (key i hi).choose_spec.1
  ·rw[gdqA,List.getElem?_eq_none (by omega)]
   first|exact nzl _|exact⟨nzl _,nzl _,fun _=>nzl _,fun _=>nzl _⟩
 ·unfold qt;rw[hln];refine ILe.sl (fun i hi=> ?_);rw[hg i hi];exact (key i hi).choose_spec.2
theorem qtj{d:Nat}{zs:List AV}(h:zj Tryz.prog (d+3) 24 zs): ∃(a:AV) (l:List (List Int)),zs= [a]∧l.length≤9223372036854775807∧(∀i,(l.getD i []).length≤9223372036854775807)∧ILe a (qu l):=by
 obtain⟨n,f,rfl,hn,hfi⟩:=zq Tryz.underlying24 h;have key: ∀i,i<n→ ∃x:(List Int),x.length≤9223372036854775807∧qah (f i) [qn x]:=fun i hi=>qpD (hfi i hi)
 let l:List (List Int):=(List.range n).map fun i=>if hi:i<n then (key i hi).choose else []
 have hln:l.length=n:=by simp[l]
 have hg: ∀i (hi:i<n),l.getD i []=(key i hi).choose:=fun i hi=>by simp[l,gdqA,hi]
 refine⟨_,l,rfl,by rw[hln];unfold maxLen at hn;omega,?_,?_⟩
 ·intro i
  by_cases hi:i<n
  ·rw[hg i hi];exact (key i hi).choose_spec.1
  ·rw[gdqA,List.getElem?_eq_none (by omega)]
   first|exact nzl _|exact⟨nzl _,nzl _,fun _=>nzl _,fun _=>nzl _⟩
 ·unfold qu;rw[hln];refine ILe.sl (fun i hi=> ?_);rw[hg i hi];exact (key i hi).choose_spec.2
theorem qxy{d:Nat}{zs:List AV}(h:zj Tryz.prog (d+3) 43 zs): ∃(a:AV) (l:List (List (List UInt8))),zs= [a]∧l.length≤9223372036854775807∧(∀i,(l.getD i []).length≤9223372036854775807)∧ILe a (jO l):=by
 obtain⟨n,f,rfl,hn,hfi⟩:=zq Tryz.underlying43 h;have key: ∀i,i<n→ ∃x:(List (List UInt8)),x.length≤9223372036854775807∧qah (f i) [HY.strs x]:=fun i hi=>qqX (hfi i hi)
 let l:List (List (List UInt8)):=(List.range n).map fun i=>if hi:i<n then (key i hi).choose else []
 have hln:l.length=n:=by simp[l]
 have hg: ∀i (hi:i<n),l.getD i []=(key i hi).choose:=fun i hi=>by simp[l,gdqA,hi]
 refine⟨_,l,rfl,by rw[hln];unfold maxLen at hn;omega,?_,?_⟩
 ·intro i
  by_cases hi:i<n
  ·rw[hg i hi];exact (key i hi).choose_spec.1
  ·rw[gdqA,List.getElem?_eq_none (by omega)]
   first|exact nzl _|exact⟨nzl _,nzl _,fun _=>nzl _,fun _=>nzl _⟩
 ·unfold jO;rw[hln];refine ILe.sl (fun i hi=> ?_);rw[hg i hi];exact (key i hi).choose_spec.2
theorem qB3{d:Nat}{zs:List AV}(h:zj Tryz.prog (d+3) 89 zs): ∃r:Rd,r.words.length≤9223372036854775807∧qah zs (rdC r):=by
 obtain⟨hl,hf⟩:=zQ Tryz.underlying89 h;simp only[List.mem_cons,List.not_mem_nil,or_false,forall_eq_or_imp,forall_eq,qfV,qkP]at hf;obtain⟨h0,h1⟩:=hf;rw[qte]at hl
 match zs,hl with
 | [a,b],_=>
  obtain⟨x,w,e0,l0,i0⟩:=qb0 h0;obtain⟨y,s,e1,l1,i1⟩:=qf8 h1;simp at e0 e1;subst e0 e1;exact⟨⟨w,s⟩,l0,i0,i1,trivial⟩
theorem qzL{d:Nat}{zs:List AV}(h:zj Tryz.prog (d+4) 81 zs): ∃(a:AV) (l:List Rd),zs= [a]∧l.length≤9223372036854775807∧(∀i,(l.getD i default).words.length≤9223372036854775807)∧ILe a (jc l):=by
 obtain⟨n,f,rfl,hn,hfi⟩:=zq Tryz.underlying81 h;have key: ∀i,i<n→ ∃x:Rd,x.words.length≤9223372036854775807∧qah (f i) (rdC x):=fun i hi=>qB3 (hfi i hi)
 let l:List Rd:=(List.range n).map fun i=>if hi:i<n then (key i hi).choose else default
 have hln:l.length=n:=by simp[l]
 have hg: ∀i (hi:i<n),l.getD i default=(key i hi).choose:=fun i hi=>by simp[l,gdqA,hi]
 refine⟨_,l,rfl,by rw[hln];unfold maxLen at hn;omega,?_,?_⟩
 ·intro i
  by_cases hi:i<n
  ·rw[hg i hi];exact (key i hi).choose_spec.1
  ·rw[gdqA,List.getElem?_eq_none (by omega)]
   first|exact nzl _|exact⟨nzl _,nzl _,fun _=>nzl _,fun _=>nzl _⟩
 ·unfold jc;rw[hln];refine ILe.sl (fun i hi=> ?_);rw[hg i hi];exact (key i hi).choose_spec.2
theorem qCh{d:Nat}{zs:List AV}(h:zj Tryz.prog (d+5) 83 zs): ∃u:Un,(u.rds.length≤9223372036854775807∧ ∀j,(u.rds.getD j default).words.length≤9223372036854775807)∧qah zs (unC u):=by
 obtain⟨hl,hf⟩:=zQ Tryz.underlying83 h;simp only[List.mem_cons,List.not_mem_nil,or_false,forall_eq_or_imp,forall_eq,qgU,qtc]at hf;obtain⟨h0,h1,h2⟩:=hf;rw[qtd]at hl
 match zs,hl with
 | [a,b,c],_=>
  obtain⟨x0,e0⟩:=kp Tryz.underlying3 h0;obtain⟨x1,e1⟩:=kp Tryz.underlying3 h1;obtain⟨y,s,e2,l2,b2,i2⟩:=qzL h2;simp at e0 e1 e2;subst e0 e1 e2;exact⟨⟨x0,x1,s⟩,⟨l2,b2⟩,ILe.refl _,ILe.refl _,i2,trivial⟩
theorem qAf{d:Nat}{zs:List AV}(h:zj Tryz.prog (d+6) 27 zs): ∃(a:AV) (l:List Un),zs= [a]∧l.length≤9223372036854775807∧(∀i,(l.getD i default).rds.length≤9223372036854775807∧ ∀j,((l.getD i default).rds.getD j default).words.length≤9223372036854775807)∧ILe a (qO l):=by
 obtain⟨n,f,rfl,hn,hfi⟩:=zq Tryz.underlying27 h;have key: ∀i,i<n→ ∃x:Un,(x.rds.length≤9223372036854775807∧ ∀j,(x.rds.getD j default).words.length≤9223372036854775807)∧qah (f i) (unC x):=fun i hi=>qCh (hfi i hi)
 let l:List Un:=(List.range n).map fun i=>if hi:i<n then (key i hi).choose else default
 have hln:l.length=n:=by simp[l]
 have hg: ∀i (hi:i<n),l.getD i default=(key i hi).choose:=fun i hi=>by simp[l,gdqA,hi]
 refine⟨_,l,rfl,by rw[hln];unfold maxLen at hn;omega,?_,?_⟩
 ·intro i
  by_cases hi:i<n
  ·rw[hg i hi];exact (key i hi).choose_spec.1
  ·rw[gdqA,List.getElem?_eq_none (by omega)]
   first|exact nzl _|exact⟨nzl _,fun _=>nzl _⟩|exact⟨nzl _,nzl _,fun _=>nzl _,fun _=>nzl _⟩
 ·unfold qO;rw[hln];refine ILe.sl (fun i hi=> ?_);rw[hg i hi];exact (key i hi).choose_spec.2
theorem qBO{d:Nat}{zs:List AV}(h:zj Tryz.prog (d+3) 167 zs): ∃g:Gr,qah zs (grC g):=by
 obtain⟨hl,hf⟩:=zQ Tryz.underlying167 h;simp only[List.mem_cons,List.not_mem_nil,or_false,forall_eq_or_imp,forall_eq,qeN,qkP]at hf;obtain⟨h0,h1⟩:=hf;rw[qoJ]at hl
 match zs,hl with
 | [a,b],_=>
  obtain⟨w,e0⟩:=jP Tryz.underlying9 h0;obtain⟨y,s,e1,l1,i1⟩:=qf8 h1;simp at e0 e1;subst e0 e1;exact⟨⟨w,s⟩,ILe.refl _,i1,trivial⟩
theorem qzn{d:Nat}{zs:List AV}(h:zj Tryz.prog (d+4) 44 zs): ∃(a:AV) (l:List Gr),zs= [a]∧l.length≤9223372036854775807∧ILe a (qL l):=by
 obtain⟨n,f,rfl,hn,hfi⟩:=zq Tryz.underlying44 h;have key: ∀i,i<n→ ∃x:Gr,qah (f i) (grC x):=fun i hi=>qBO (hfi i hi)
 let l:List Gr:=(List.range n).map fun i=>if hi:i<n then (key i hi).choose else default
 have hln:l.length=n:=by simp[l]
 have hg: ∀i (hi:i<n),l.getD i default=(key i hi).choose:=fun i hi=>by simp[l,gdqA,hi]
 refine⟨_,l,rfl,by rw[hln];unfold maxLen at hn;omega,?_⟩
 ·unfold qL;rw[hln];refine ILe.sl (fun i hi=> ?_);rw[hg i hi];exact (key i hi).choose_spec
theorem qBg{d:Nat}{zs:List AV}(h:zj Tryz.prog (d+6) 26 zs): ∃x:Co,CoB x∧qah zs (coC x):=by
 obtain⟨hl,hf⟩:=zQ Tryz.underlying26 h;simp only[List.mem_cons,List.not_mem_nil,or_false,forall_eq_or_imp,forall_eq,qeN,qfV,qs2,qs3]at hf;obtain⟨h0,h1,h2,h3⟩:=hf;rw[qkO]at hl
 match zs,hl with
 | [a,b,c,e],_=>
  obtain⟨x0,e0⟩:=jP Tryz.underlying9 h0;obtain⟨a1,x1,e1,l1,i1⟩:=qb0 h1;obtain⟨a2,x2,e2,l2,_,i2⟩:=qva h2;obtain⟨a3,x3,e3,l3,_,i3⟩:=qtj h3;simp at e0 e1 e2 e3;subst e0 e1 e2 e3;exact⟨⟨x0,x1,x2,x3⟩,⟨l1,l2,l3⟩,ILe.refl _,i1,i2,i3,trivial⟩
theorem qs1{d:Nat}{zs:List AV}(h:zj Tryz.prog (d+7) 47 zs): ∃a:Ap,ApB a∧qah zs (apC a):=by
 obtain⟨hl,hf⟩:=zQ Tryz.underlying47 h;simp only[List.mem_cons,List.not_mem_nil,or_false,forall_eq_or_imp,forall_eq,qfV,qkO,qs4,qs5,qs7,qs8,qs9]at hf;obtain⟨h0,h1,h2,h3,h4,h5,h6⟩:=hf;rw[qta]at hl
 match zs,hl with
 | [z0,z1,z2,z3,z4,z5,z6,z7,z8,z9],_=>
  obtain⟨x,xb,xi⟩:=qBg h0;have xi:qah [z0,z1,z2,z3] (coC x):=xi;obtain⟨j0,j1,j2,j3,_⟩:=xi;obtain⟨a1,y1,e1,l1,b1,i1⟩:=qAf h1;obtain⟨a2,y2,e2,l2,b2,i2⟩:=qxy h2;obtain⟨a3,y3,e3,l3,i3⟩:=qAD h3;obtain⟨a4,y4,e4,l4,i4⟩:=qzn h4;obtain⟨a5,y5,e5,l5,i5⟩:=qb0 h5;obtain⟨a6,y6,e6,l6,i6⟩:=qsy h6;simp at e1 e2 e3 e4 e5 e6;subst e1 e2 e3 e4 e5 e6;exact⟨⟨x,y1,y2,y3,y4,y5,y6⟩,⟨xb,⟨l1,fun i=>(b1 i).1,fun i=>(b1 i).2⟩,l2,b2,l3,l4,l5,l6⟩,j0,j1,j2,j3,i1,i2,i3,i4,i5,i6,trivial⟩
theorem quM{H:Type}{enc:TypeId×Value→H}{W:World}{base:Nat}{v:Value}{d:DataW H}{ps:List MemPlace}(hval:Value.okWide Tryz.prog W .any base 47 v)(h:DataW.Trod enc Tryz.prog W 0 (fun _=>true) true 47 v d ps):
  ∃a:Ap,ApB a∧VR W [] (.agg (apC a)) v:=by
 unfold Value.okWide at hval;rw[Tryz.underlying47]at hval;simp only at hval;obtain⟨cs,rfl,_,_⟩:=hval;obtain⟨zs,hg,hvi⟩:=qqi (ow:=AF.own []) qux qxF h;obtain⟨a,h1,hil⟩:=qs1 hg;exact⟨a,h1,.imm (ILe.agg hil _ _ _ hvi)⟩
theorem qfB(os:Os)(started:os.Started)(H:Type)(enc:TypeId×Value→H):
  ReturnsInHanded {} Tryz.checked os 12 .any (fun w args=>(Rows.apparatusTurnsSpec.pre enc Tryz.prog Tryz.f12 Rows.apparatusTurnsRow.domain false w args∧laidMetH Tryz.prog Rows.apparatusTurnsRow.laid w)∧sizedMet enc Tryz.prog Tryz.f12 (OpenSpec.ofChange Rows.apparatusTurnsSpec) false w args)
   (Rows.apparatusTurnsSpec.post enc Tryz.prog Tryz.f12 false true false false):=by
 refine returnsInHanded_of_change_and (C:=Tryz.checked) (X:=fun w _=>laidMetH Tryz.prog Rows.apparatusTurnsRow.laid w) (fun _ _ _ hh h=>h.of_heap hh) own started (by kernel_rfl) Tryz.func12
  (ChangeSpec.witness_shaped (enc:=enc) (C:=Tryz.checked) (os:=os) (X:=fun w _=>laidMetH Tryz.prog Rows.apparatusTurnsRow.laid w) false (World.laidAll Tryz.prog os Rows.apparatusTurnsRow.laid) #[.agg #[.string ByteArray.empty,.slice none 0 0,.slice none 0 0,.slice none 0 0,.slice none 0 0,.slice none 0 0,.slice none 0 0,.slice none 0 0,.slice none 0 0,.slice none 0 0],.int .u8 0] 8 (World.laidAll_os _ _ _)
   (World.shaped_of_ZipB (by kernel_rfl) (by kernel_rfl)) (by kernel_rfl) (by kernel_rfl) (by kernel_rfl)
   (by rw[MakeChecks.laidMetH_plain _ _ _ (by kernel_rfl)];exact laidMet_laidAll _ (by kernel_rfl) (by kernel_rfl))) ?_
 intro W base args ds gs before hval hW _ _ hX _;have hX:laidMetH Tryz.prog Rows.apparatusTurnsRow.laid W:=hX;rw[MakeChecks.laidMetH_plain _ _ _ (by kernel_rfl)]at hX;refine qfc (tb:=4) (bs:=qeo) (G:=qAS) laid rfl ?_ (by kernel_rfl) Tryz.underlying4 ?_ hW (qqA hX) (quZ hX) ?_
 ·intro ds' h'
  match ds',h' with
  | [a0,a1],_=>rfl
 ·intro t ht;rw[show Tryz.f12.params.toList= [47,5] by rw[Tryz.params12]]at ht;simp only[List.mem_cons,List.not_mem_nil,or_false]at ht;rcases ht with rfl|rfl<;>exact⟨by kernel_rfl,of_decide_eq_true (by kernel_rfl)⟩
 ·intro p hA;rw[Tryz.params12]at hA hval;obtain⟨v0,v1,d0,d1,p0,p1,rfl,rfl,h0,h1⟩:=qnF hA;obtain⟨ap0,hb0,hv0⟩:=quM (hval 0 47 v0 rfl rfl) h0;obtain⟨n1,rfl,_,_,w1⟩:=open_int Tryz.underlying5 (hval 1 5 v1 rfl rfl) h1;have hl1:(0:Int)≤n1∧n1≤255:=by simpa[Lit.wf,IntKind.min,IntKind.max,IntKind.signed,IntKind.bits] using w1
  refine⟨by rw[Tryz.params12];rfl,[(.agg (apC ap0)),.int .u8 n1],?_,qBS ap0 n1 [.pin qeo qAS] quY hb0 hl1⟩;exact VRs.cons' hv0 (VRs.cons' (.imm .int) (VRs.nil'))
end Go.Proofs.YtgoandblgcjleaaGreatDoor
