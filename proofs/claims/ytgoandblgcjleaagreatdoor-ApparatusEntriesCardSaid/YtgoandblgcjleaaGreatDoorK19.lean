import Derived.Test.YtgoandblgcjleaaGreatDoorK0
import Derived.Test.YtgoandblgcjleaaGreatDoorK18
import Derived.Test.YtgoandblgcjleaaGreatDoorK9
import Derived.Test.YtgoandblgcjleaaGreatDoorK6
import Derived.Test.YtgoandblgcjleaaGreatDoorRows
import Derived.Test.YtgoandblgcjleaaGreatDoorTie
import Derived.Test.YtgoandblgcjleaaGreatDoorCards
import Derived.ProofKit
import Derived.ChangeMaps5
import Derived.OpenShut
import Derived.LaidMore
import Derived.Lay
import Derived.SevenTiedAt
import Derived.Stop.Joined
set_option linter.all false
set_option linter.unusedSimpArgs false
set_option linter.unusedVariables false
set_option linter.unusedSectionVars false
open Go Go.Proofs AF HY RC LN Go.ChangeShapes Go.WideShapes Go.ChangeAt Go.RowKit
set_option maxRecDepth 100000
namespace Go.Proofs.YtgoandblgcjleaaGreatDoor
theorem own:ownKnob Tryz.prog.godebug=none:=by kernel_rfl
theorem laid:laidOutB Tryz.prog=true:=wp1
theorem qm3{H:Type}{enc:TypeId×Value→H}{P:Program}{w:World}{base:Nat}{spare:Nat→Bool}{held:Bool}{t0 t1:TypeId}{args:Array Value}{ds:List (DataW H)}{ps:List MemPlace}
  (h:DataW.TrodAll enc P w base spare held [t0,t1] args.toList ds ps):
  ∃v0 v1 d0 d1 p0 p1,args= #[v0,v1]∧ds= [d0,d1]∧DataW.Trod enc P w base spare held t0 v0 d0 p0∧DataW.Trod enc P w base spare held t1 v1 d1 p1:=by
 obtain⟨v0,vs0,d0,ds0,p0,q0,hargs,rfl,rfl,hd0,hr0⟩:=trodAll_cons h;obtain⟨v1,vs1,d1,ds1,p1,q1,rfl,rfl,rfl,hd1,hr1⟩:=trodAll_cons hr0;obtain⟨rfl,rfl,rfl⟩:=trodAll_nil hr1;exact⟨v0,v1,d0,d1,p0,p1,by cases args;simp_all,rfl,hd0,hd1⟩
theorem qgu:Tryz.prog.cellsOf 3=1:=by kernel_rfl
theorem qwz:Tryz.prog.cellsOf 4=1:=by kernel_rfl
theorem qei:Tryz.prog.cellsOf 9=1:=by kernel_rfl
theorem qfm:Tryz.prog.cellsOf 22=1:=by kernel_rfl
theorem qsq:Tryz.prog.cellsOf 23=1:=by kernel_rfl
theorem qsr:Tryz.prog.cellsOf 24=1:=by kernel_rfl
theorem qki:Tryz.prog.cellsOf 26=4:=by kernel_rfl
theorem qss:Tryz.prog.cellsOf 27=1:=by kernel_rfl
theorem qst:Tryz.prog.cellsOf 29=1:=by kernel_rfl
theorem qsu:Tryz.prog.cellsOf 34=2:=by kernel_rfl
theorem qsv:Tryz.prog.cellsOf 43=1:=by kernel_rfl
theorem qsw:Tryz.prog.cellsOf 44=1:=by kernel_rfl
theorem qsx:Tryz.prog.cellsOf 45=1:=by kernel_rfl
theorem qsy:Tryz.prog.cellsOf 47=10:=by kernel_rfl
theorem qkj:Tryz.prog.cellsOf 62=1:=by kernel_rfl
theorem qsz:Tryz.prog.cellsOf 64=7:=by kernel_rfl
theorem qsA:Tryz.prog.cellsOf 81=1:=by kernel_rfl
theorem qsB:Tryz.prog.cellsOf 83=3:=by kernel_rfl
theorem qsC:Tryz.prog.cellsOf 89=2:=by kernel_rfl
theorem qn3:Tryz.prog.cellsOf 124=6:=by kernel_rfl
theorem qn4:Tryz.prog.cellsOf 167=2:=by kernel_rfl
theorem qwD:qbS Tryz.prog 8 47=true:=by kernel_rfl
theorem zT{d:Nat}{t:TypeId}{fs:Array Field}{zs:List AV}(ht:Tryz.prog.underlying t=some (.struct fs))(h:zy Tryz.prog (d+1) t zs):zs.length=Tryz.prog.cellsOf t∧ ∀f∈fs.toList,zy Tryz.prog d f.type ((zs.drop f.offset).take (Tryz.prog.cellsOf f.type)):=by
 unfold zy at h;rw[ht]at h;exact h
theorem zE{d:Nat}{t e:TypeId}{zs:List AV}(ht:Tryz.prog.underlying t=some (.slice e))(h:zy Tryz.prog (d+1) t zs): ∃(n:Nat) (f:Nat→List AV),zs= [.sl n f]∧n≤maxLen∧ ∀i,i<n→zy Tryz.prog d e (f i):=by
 unfold zy at h;rw[ht]at h;exact h
theorem kg{d:Nat}{t:TypeId}{k:IntKind}{zs:List AV}(ht:Tryz.prog.underlying t=some (.int k))(h:zy Tryz.prog (d+1) t zs): ∃n,zs= [.int k n]:=by
 unfold zy at h;rw[ht]at h;obtain⟨n,h,_⟩:=h;exact⟨n,h⟩
theorem qcx{d:Nat}{t:TypeId}{zs:List AV}(ht:Tryz.prog.underlying t=some .bool)(h:zy Tryz.prog (d+1) t zs): ∃n,zs= [.bool n]:=by
 unfold zy at h;rw[ht]at h;exact h
theorem jN{d:Nat}{t:TypeId}{zs:List AV}(ht:Tryz.prog.underlying t=some .string)(h:zy Tryz.prog (d+1) t zs): ∃n,zs= [.str n]:=by
 unfold zy at h;rw[ht]at h;obtain⟨n,h,_⟩:=h;exact⟨n,h⟩
theorem qBC{d:Nat}{zs:List AV}(h:zy Tryz.prog (d+2) 64 zs): ∃x:Wd,zs=wdC x:=by
 obtain⟨hl,hf⟩:=zT Tryz.underlying64 h;simp only[List.mem_cons,List.not_mem_nil,or_false,forall_eq_or_imp,forall_eq,qgu,qwz,qei]at hf;obtain⟨h0,h1,h2,h3,h4,h5,h6⟩:=hf;rw[qsz]at hl
 match zs,hl with
 | [z0,z1,z2,z3,z4,z5,z6],_=>
  obtain⟨x0,e0⟩:=jN Tryz.underlying9 h0;obtain⟨x1,e1⟩:=kg Tryz.underlying3 h1;obtain⟨x2,e2⟩:=kg Tryz.underlying3 h2;obtain⟨x3,e3⟩:=kg Tryz.underlying3 h3;obtain⟨x4,e4⟩:=qcx Tryz.underlying4 h4;obtain⟨x5,e5⟩:=qcx Tryz.underlying4 h5;obtain⟨x6,e6⟩:=jN Tryz.underlying9 h6;simp at e0 e1 e2 e3 e4 e5 e6;subst e0 e1 e2 e3 e4 e5 e6;exact⟨⟨x0,x1,x2,x3,x4,x5,x6⟩,rfl⟩
theorem qzy{d:Nat}{zs:List AV}(h:zy Tryz.prog (d+3) 29 zs): ∃(a:AV) (l:List Wd),zs= [a]∧l.length≤9223372036854775807∧ILe a (qU l):=by
 obtain⟨n,f,rfl,hn,hfi⟩:=zE Tryz.underlying29 h;have key: ∀i,i<n→ ∃x:Wd,f i=wdC x:=fun i hi=>qBC (hfi i hi)
 let l:List Wd:=(List.range n).map fun i=>if hi:i<n then (key i hi).choose else default
 have hln:l.length=n:=by simp[l]
 have hg: ∀i (hi:i<n),l.getD i default=(key i hi).choose:=fun i hi=>by simp[l,gdqA,hi]
 refine⟨_,l,rfl,by rw[hln];unfold maxLen at hn;omega,?_⟩
 ·unfold qU;rw[hln];refine ILe.sl_eq (fun i hi=> ?_);rw[hg i hi];exact (key i hi).choose_spec
theorem qbI{d:Nat}{zs:List AV}(h:zy Tryz.prog (d+2) 22 zs): ∃(a:AV) (l:List (List UInt8)),zs= [a]∧l.length≤9223372036854775807∧ILe a (HY.strs l):=by
 obtain⟨n,f,rfl,hn,hfi⟩:=zE Tryz.underlying22 h;have key: ∀i,i<n→ ∃x:(List UInt8),f i= [.str x]:=fun i hi=>jN Tryz.underlying9 (hfi i hi)
 let l:List (List UInt8):=(List.range n).map fun i=>if hi:i<n then (key i hi).choose else []
 have hln:l.length=n:=by simp[l]
 have hg: ∀i (hi:i<n),l.getD i []=(key i hi).choose:=fun i hi=>by simp[l,gdqA,hi]
 refine⟨_,l,rfl,by rw[hln];unfold maxLen at hn;omega,?_⟩
 ·unfold HY.strs;rw[hln];refine ILe.sl_eq (fun i hi=> ?_);rw[hg i hi];exact (key i hi).choose_spec
theorem qfE{d:Nat}{zs:List AV}(h:zy Tryz.prog (d+2) 62 zs): ∃(a:AV) (l:List Int),zs= [a]∧l.length≤9223372036854775807∧ILe a (ql l):=by
 obtain⟨n,f,rfl,hn,hfi⟩:=zE Tryz.underlying62 h;have key: ∀i,i<n→ ∃x:Int,f i= [.int .i64 x]:=fun i hi=>kg Tryz.underlying3 (hfi i hi)
 let l:List Int:=(List.range n).map fun i=>if hi:i<n then (key i hi).choose else 0
 have hln:l.length=n:=by simp[l]
 have hg: ∀i (hi:i<n),l.getD i 0=(key i hi).choose:=fun i hi=>by simp[l,gdqA,hi]
 refine⟨_,l,rfl,by rw[hln];unfold maxLen at hn;omega,?_⟩
 ·unfold ql;rw[hln];refine ILe.sl_eq (fun i hi=> ?_);rw[hg i hi];exact (key i hi).choose_spec
theorem qrP{d:Nat}{zs:List AV}(h:zy Tryz.prog (d+2) 45 zs): ∃(a:AV) (l:List Bool),zs= [a]∧l.length≤9223372036854775807∧ILe a (jD l):=by
 obtain⟨n,f,rfl,hn,hfi⟩:=zE Tryz.underlying45 h;have key: ∀i,i<n→ ∃x:Bool,f i= [.bool x]:=fun i hi=>qcx Tryz.underlying4 (hfi i hi)
 let l:List Bool:=(List.range n).map fun i=>if hi:i<n then (key i hi).choose else false
 have hln:l.length=n:=by simp[l]
 have hg: ∀i (hi:i<n),l.getD i false=(key i hi).choose:=fun i hi=>by simp[l,gdqA,hi]
 refine⟨_,l,rfl,by rw[hln];unfold maxLen at hn;omega,?_⟩
 ·unfold jD;rw[hln];refine ILe.sl_eq (fun i hi=> ?_);rw[hg i hi];exact (key i hi).choose_spec
theorem qp8{d:Nat}{zs:List AV}(h:zy Tryz.prog (d+2) 22 zs): ∃l:List (List UInt8),l.length≤9223372036854775807∧qae zs [HY.strs l]:=by
 obtain⟨a,l,rfl,hl,hi⟩:=qbI h;exact⟨l,hl,hi,trivial⟩
theorem qoX{d:Nat}{zs:List AV}(h:zy Tryz.prog (d+2) 62 zs): ∃l:List Int,l.length≤9223372036854775807∧qae zs [ql l]:=by
 obtain⟨a,l,rfl,hl,hi⟩:=qfE h;exact⟨l,hl,hi,trivial⟩
theorem qBo{d:Nat}{zs:List AV}(h:zy Tryz.prog (d+3) 124 zs): ∃x:Tk,zs=tkC x:=by
 obtain⟨hl,hf⟩:=zT Tryz.underlying124 h;simp only[List.mem_cons,List.not_mem_nil,or_false,forall_eq_or_imp,forall_eq,qgu,qei,qsu]at hf;obtain⟨h0,h1,h2,h3,h4⟩:=hf;rw[qn3]at hl
 match zs,hl with
 | [z0,z1,z2,z3,z4,z5],_=>
  obtain⟨hp,hg⟩:=zT Tryz.underlying34 h2;simp only[List.mem_cons,List.not_mem_nil,or_false,forall_eq_or_imp,forall_eq,qei,qgu]at hg;obtain⟨g0,g1⟩:=hg;obtain⟨x0,e0⟩:=jN Tryz.underlying9 h0;obtain⟨x1,e1⟩:=jN Tryz.underlying9 h1;obtain⟨x2,e2⟩:=jN Tryz.underlying9 g0;obtain⟨x3,e3⟩:=kg Tryz.underlying3 g1;obtain⟨x4,e4⟩:=kg Tryz.underlying3 h3;obtain⟨x5,e5⟩:=jN Tryz.underlying9 h4;simp at e0 e1 e2 e3 e4 e5;subst e0 e1 e2 e3 e4 e5;exact⟨⟨x0,x1,x2,x3,x4,x5⟩,rfl⟩
theorem qza{d:Nat}{zs:List AV}(h:zy Tryz.prog (d+4) 125 zs): ∃(a:AV) (l:List Tk),zs= [a]∧l.length≤9223372036854775807∧ILe a (jc l):=by
 obtain⟨n,f,rfl,hn,hfi⟩:=zE Tryz.underlying125 h;have key: ∀i,i<n→ ∃x:Tk,f i=tkC x:=fun i hi=>qBo (hfi i hi)
 let l:List Tk:=(List.range n).map fun i=>if hi:i<n then (key i hi).choose else default
 have hln:l.length=n:=by simp[l]
 have hg: ∀i (hi:i<n),l.getD i default=(key i hi).choose:=fun i hi=>by simp[l,gdqA,hi]
 refine⟨_,l,rfl,by rw[hln];unfold maxLen at hn;omega,?_⟩
 ·unfold jc;rw[hln];refine ILe.sl_eq (fun i hi=> ?_);rw[hg i hi];exact (key i hi).choose_spec
theorem quw{d:Nat}{zs:List AV}(h:zy Tryz.prog (d+4) 125 zs): ∃l:List Tk,l.length≤9223372036854775807∧qae zs [jc l]:=by
 obtain⟨a,l,rfl,hl,hi⟩:=qza h;exact⟨l,hl,hi,trivial⟩
theorem qux{d:Nat}{zs:List AV}(h:zy Tryz.prog (d+5) 23 zs): ∃(a:AV) (l:List (List Tk)),zs= [a]∧l.length≤9223372036854775807∧(∀i,(l.getD i []).length≤9223372036854775807)∧ILe a (qo l):=by
 obtain⟨n,f,rfl,hn,hfi⟩:=zE Tryz.underlying23 h;have key: ∀i,i<n→ ∃x:(List Tk),x.length≤9223372036854775807∧qae (f i) [jc x]:=fun i hi=>quw (hfi i hi)
 let l:List (List Tk):=(List.range n).map fun i=>if hi:i<n then (key i hi).choose else []
 have hln:l.length=n:=by simp[l]
 have hg: ∀i (hi:i<n),l.getD i []=(key i hi).choose:=fun i hi=>by simp[l,gdqA,hi]
 refine⟨_,l,rfl,by rw[hln];unfold maxLen at hn;omega,?_,?_⟩
 ·intro i
  by_cases hi:i<n
  ·rw[hg i hi];exact (key i hi).choose_spec.1
  ·rw[gdqA,List.getElem?_eq_none (by omega)]
   first|exact Nat.zero_le _|exact⟨Nat.zero_le _,Nat.zero_le _,fun _=>Nat.zero_le _,fun _=>Nat.zero_le _⟩
 ·unfold qo;rw[hln];refine ILe.sl (fun i hi=> ?_);rw[hg i hi];exact (key i hi).choose_spec.2
theorem qsH{d:Nat}{zs:List AV}(h:zy Tryz.prog (d+3) 24 zs): ∃(a:AV) (l:List (List Int)),zs= [a]∧l.length≤9223372036854775807∧(∀i,(l.getD i []).length≤9223372036854775807)∧ILe a (qr l):=by
 obtain⟨n,f,rfl,hn,hfi⟩:=zE Tryz.underlying24 h;have key: ∀i,i<n→ ∃x:(List Int),x.length≤9223372036854775807∧qae (f i) [ql x]:=fun i hi=>qoX (hfi i hi)
 let l:List (List Int):=(List.range n).map fun i=>if hi:i<n then (key i hi).choose else []
 have hln:l.length=n:=by simp[l]
 have hg: ∀i (hi:i<n),l.getD i []=(key i hi).choose:=fun i hi=>by simp[l,gdqA,hi]
 refine⟨_,l,rfl,by rw[hln];unfold maxLen at hn;omega,?_,?_⟩
 ·intro i
  by_cases hi:i<n
  ·rw[hg i hi];exact (key i hi).choose_spec.1
  ·rw[gdqA,List.getElem?_eq_none (by omega)]
   first|exact Nat.zero_le _|exact⟨Nat.zero_le _,Nat.zero_le _,fun _=>Nat.zero_le _,fun _=>Nat.zero_le _⟩
 ·unfold qr;rw[hln];refine ILe.sl (fun i hi=> ?_);rw[hg i hi];exact (key i hi).choose_spec.2
theorem qwA{d:Nat}{zs:List AV}(h:zy Tryz.prog (d+3) 43 zs): ∃(a:AV) (l:List (List (List UInt8))),zs= [a]∧l.length≤9223372036854775807∧(∀i,(l.getD i []).length≤9223372036854775807)∧ILe a (jm l):=by
 obtain⟨n,f,rfl,hn,hfi⟩:=zE Tryz.underlying43 h;have key: ∀i,i<n→ ∃x:(List (List UInt8)),x.length≤9223372036854775807∧qae (f i) [HY.strs x]:=fun i hi=>qp8 (hfi i hi)
 let l:List (List (List UInt8)):=(List.range n).map fun i=>if hi:i<n then (key i hi).choose else []
 have hln:l.length=n:=by simp[l]
 have hg: ∀i (hi:i<n),l.getD i []=(key i hi).choose:=fun i hi=>by simp[l,gdqA,hi]
 refine⟨_,l,rfl,by rw[hln];unfold maxLen at hn;omega,?_,?_⟩
 ·intro i
  by_cases hi:i<n
  ·rw[hg i hi];exact (key i hi).choose_spec.1
  ·rw[gdqA,List.getElem?_eq_none (by omega)]
   first|exact Nat.zero_le _|exact⟨Nat.zero_le _,Nat.zero_le _,fun _=>Nat.zero_le _,fun _=>Nat.zero_le _⟩
 ·unfold jm;rw[hln];refine ILe.sl (fun i hi=> ?_);rw[hg i hi];exact (key i hi).choose_spec.2
theorem qBd{d:Nat}{zs:List AV}(h:zy Tryz.prog (d+3) 89 zs): ∃r:Rd,r.words.length≤9223372036854775807∧qae zs (rdC r):=by
 obtain⟨hl,hf⟩:=zT Tryz.underlying89 h;simp only[List.mem_cons,List.not_mem_nil,or_false,forall_eq_or_imp,forall_eq,qfm,qkj]at hf;obtain⟨h0,h1⟩:=hf;rw[qsC]at hl
 match zs,hl with
 | [a,b],_=>
  obtain⟨x,w,e0,l0,i0⟩:=qbI h0;obtain⟨y,s,e1,l1,i1⟩:=qfE h1;simp at e0 e1;subst e0 e1;exact⟨⟨w,s⟩,l0,i0,i1,trivial⟩
theorem qyI{d:Nat}{zs:List AV}(h:zy Tryz.prog (d+4) 81 zs): ∃(a:AV) (l:List Rd),zs= [a]∧l.length≤9223372036854775807∧(∀i,(l.getD i default).words.length≤9223372036854775807)∧ILe a (zx l):=by
 obtain⟨n,f,rfl,hn,hfi⟩:=zE Tryz.underlying81 h;have key: ∀i,i<n→ ∃x:Rd,x.words.length≤9223372036854775807∧qae (f i) (rdC x):=fun i hi=>qBd (hfi i hi)
 let l:List Rd:=(List.range n).map fun i=>if hi:i<n then (key i hi).choose else default
 have hln:l.length=n:=by simp[l]
 have hg: ∀i (hi:i<n),l.getD i default=(key i hi).choose:=fun i hi=>by simp[l,gdqA,hi]
 refine⟨_,l,rfl,by rw[hln];unfold maxLen at hn;omega,?_,?_⟩
 ·intro i
  by_cases hi:i<n
  ·rw[hg i hi];exact (key i hi).choose_spec.1
  ·rw[gdqA,List.getElem?_eq_none (by omega)]
   first|exact Nat.zero_le _|exact⟨Nat.zero_le _,Nat.zero_le _,fun _=>Nat.zero_le _,fun _=>Nat.zero_le _⟩
 ·unfold zx;rw[hln];refine ILe.sl (fun i hi=> ?_);rw[hg i hi];exact (key i hi).choose_spec.2
theorem qBq{d:Nat}{zs:List AV}(h:zy Tryz.prog (d+5) 83 zs): ∃u:Un,(u.rds.length≤9223372036854775807∧ ∀j,(u.rds.getD j default).words.length≤9223372036854775807)∧qae zs (unC u):=by
 obtain⟨hl,hf⟩:=zT Tryz.underlying83 h;simp only[List.mem_cons,List.not_mem_nil,or_false,forall_eq_or_imp,forall_eq,qgu,qsA]at hf;obtain⟨h0,h1,h2⟩:=hf;rw[qsB]at hl
 match zs,hl with
 | [a,b,c],_=>
  obtain⟨x0,e0⟩:=kg Tryz.underlying3 h0;obtain⟨x1,e1⟩:=kg Tryz.underlying3 h1;obtain⟨y,s,e2,l2,b2,i2⟩:=qyI h2;simp at e0 e1 e2;subst e0 e1 e2;exact⟨⟨x0,x1,s⟩,⟨l2,b2⟩,ILe.refl _,ILe.refl _,i2,trivial⟩
theorem qzb{d:Nat}{zs:List AV}(h:zy Tryz.prog (d+6) 27 zs): ∃(a:AV) (l:List Un),zs= [a]∧l.length≤9223372036854775807∧(∀i,(l.getD i default).rds.length≤9223372036854775807∧ ∀j,((l.getD i default).rds.getD j default).words.length≤9223372036854775807)∧ILe a (qy l):=by
 obtain⟨n,f,rfl,hn,hfi⟩:=zE Tryz.underlying27 h;have key: ∀i,i<n→ ∃x:Un,(x.rds.length≤9223372036854775807∧ ∀j,(x.rds.getD j default).words.length≤9223372036854775807)∧qae (f i) (unC x):=fun i hi=>qBq (hfi i hi)
 let l:List Un:=(List.range n).map fun i=>if hi:i<n then (key i hi).choose else default
 have hln:l.length=n:=by simp[l]
 have hg: ∀i (hi:i<n),l.getD i default=(key i hi).choose:=fun i hi=>by simp[l,gdqA,hi]
 refine⟨_,l,rfl,by rw[hln];unfold maxLen at hn;omega,?_,?_⟩
 ·intro i
  by_cases hi:i<n
  ·rw[hg i hi];exact (key i hi).choose_spec.1
  ·rw[gdqA,List.getElem?_eq_none (by omega)]
   first|exact Nat.zero_le _|exact⟨Nat.zero_le _,fun _=>Nat.zero_le _⟩|exact⟨Nat.zero_le _,Nat.zero_le _,fun _=>Nat.zero_le _,fun _=>Nat.zero_le _⟩
 ·unfold qy;rw[hln];refine ILe.sl (fun i hi=> ?_);rw[hg i hi];exact (key i hi).choose_spec.2
theorem qAV{d:Nat}{zs:List AV}(h:zy Tryz.prog (d+3) 167 zs): ∃g:Gr,qae zs (grC g):=by
 obtain⟨hl,hf⟩:=zT Tryz.underlying167 h;simp only[List.mem_cons,List.not_mem_nil,or_false,forall_eq_or_imp,forall_eq,qei,qkj]at hf;obtain⟨h0,h1⟩:=hf;rw[qn4]at hl
 match zs,hl with
 | [a,b],_=>
  obtain⟨w,e0⟩:=jN Tryz.underlying9 h0;obtain⟨y,s,e1,l1,i1⟩:=qfE h1;simp at e0 e1;subst e0 e1;exact⟨⟨w,s⟩,ILe.refl _,i1,trivial⟩
theorem qyk{d:Nat}{zs:List AV}(h:zy Tryz.prog (d+4) 44 zs): ∃(a:AV) (l:List Gr),zs= [a]∧l.length≤9223372036854775807∧ILe a (qF l):=by
 obtain⟨n,f,rfl,hn,hfi⟩:=zE Tryz.underlying44 h;have key: ∀i,i<n→ ∃x:Gr,qae (f i) (grC x):=fun i hi=>qAV (hfi i hi)
 let l:List Gr:=(List.range n).map fun i=>if hi:i<n then (key i hi).choose else default
 have hln:l.length=n:=by simp[l]
 have hg: ∀i (hi:i<n),l.getD i default=(key i hi).choose:=fun i hi=>by simp[l,gdqA,hi]
 refine⟨_,l,rfl,by rw[hln];unfold maxLen at hn;omega,?_⟩
 ·unfold qF;rw[hln];refine ILe.sl (fun i hi=> ?_);rw[hg i hi];exact (key i hi).choose_spec
theorem qAn{d:Nat}{zs:List AV}(h:zy Tryz.prog (d+6) 26 zs): ∃x:Co,CoB x∧qae zs (coC x):=by
 obtain⟨hl,hf⟩:=zT Tryz.underlying26 h;simp only[List.mem_cons,List.not_mem_nil,or_false,forall_eq_or_imp,forall_eq,qei,qfm,qsq,qsr]at hf;obtain⟨h0,h1,h2,h3⟩:=hf;rw[qki]at hl
 match zs,hl with
 | [a,b,c,e],_=>
  obtain⟨x0,e0⟩:=jN Tryz.underlying9 h0;obtain⟨a1,x1,e1,l1,i1⟩:=qbI h1;obtain⟨a2,x2,e2,l2,_,i2⟩:=qux h2;obtain⟨a3,x3,e3,l3,_,i3⟩:=qsH h3;simp at e0 e1 e2 e3;subst e0 e1 e2 e3;exact⟨⟨x0,x1,x2,x3⟩,⟨l1,l2,l3⟩,ILe.refl _,i1,i2,i3,trivial⟩
theorem qsp{d:Nat}{zs:List AV}(h:zy Tryz.prog (d+7) 47 zs): ∃a:Ap,ApB a∧qae zs (apC a):=by
 obtain⟨hl,hf⟩:=zT Tryz.underlying47 h;simp only[List.mem_cons,List.not_mem_nil,or_false,forall_eq_or_imp,forall_eq,qfm,qki,qss,qst,qsv,qsw,qsx]at hf;obtain⟨h0,h1,h2,h3,h4,h5,h6⟩:=hf;rw[qsy]at hl
 match zs,hl with
 | [z0,z1,z2,z3,z4,z5,z6,z7,z8,z9],_=>
  obtain⟨x,xb,xi⟩:=qAn h0;have xi:qae [z0,z1,z2,z3] (coC x):=xi;obtain⟨j0,j1,j2,j3,_⟩:=xi;obtain⟨a1,y1,e1,l1,b1,i1⟩:=qzb h1;obtain⟨a2,y2,e2,l2,b2,i2⟩:=qwA h2;obtain⟨a3,y3,e3,l3,i3⟩:=qzy h3;obtain⟨a4,y4,e4,l4,i4⟩:=qyk h4;obtain⟨a5,y5,e5,l5,i5⟩:=qbI h5;obtain⟨a6,y6,e6,l6,i6⟩:=qrP h6;simp at e1 e2 e3 e4 e5 e6;subst e1 e2 e3 e4 e5 e6;exact⟨⟨x,y1,y2,y3,y4,y5,y6⟩,⟨xb,⟨l1,fun i=>(b1 i).1,fun i=>(b1 i).2⟩,l2,b2,l3,l4,l5,l6⟩,j0,j1,j2,j3,i1,i2,i3,i4,i5,i6,trivial⟩
theorem qt8{H:Type}{enc:TypeId×Value→H}{W:World}{base:Nat}{v:Value}{d:DataW H}{ps:List MemPlace}(hval:Value.okWide Tryz.prog W .any base 47 v)(h:DataW.Trod enc Tryz.prog W 0 (fun _=>true) true 47 v d ps):
  ∃a:Ap,ApB a∧VR W [] (.agg (apC a)) v:=by
 unfold Value.okWide at hval;rw[Tryz.underlying47]at hval;simp only at hval;obtain⟨cs,rfl,_,_⟩:=hval;obtain⟨zs,hg,hvi⟩:=qpz (ow:=AF.own []) qtS qwD h;obtain⟨a,h1,hil⟩:=qsp hg;exact⟨a,h1,.imm (ILe.agg hil _ _ _ hvi)⟩
theorem qcO(os:Os)(started:os.Started)(H:Type)(enc:TypeId×Value→H):
  ReturnsInHanded {} Tryz.checked os 4 .any (fun w args=>(Rows.apparatusEntriesSpec.pre enc Tryz.prog Tryz.f4 Rows.apparatusEntriesRow.domain false w args∧laidMetH Tryz.prog Rows.apparatusEntriesRow.laid w)∧sizedMet enc Tryz.prog Tryz.f4 (OpenSpec.ofChange Rows.apparatusEntriesSpec) false w args)
   (Rows.apparatusEntriesSpec.post enc Tryz.prog Tryz.f4 false true false false):=by
 refine returnsInHanded_of_change_and (C:=Tryz.checked) (X:=fun w _=>laidMetH Tryz.prog Rows.apparatusEntriesRow.laid w) (fun _ _ _ hh h=>h.of_heap hh) own started (by kernel_rfl) Tryz.func4
  (ChangeSpec.witness_shaped (enc:=enc) (C:=Tryz.checked) (os:=os) (X:=fun w _=>laidMetH Tryz.prog Rows.apparatusEntriesRow.laid w) false (World.laidAll Tryz.prog os Rows.apparatusEntriesRow.laid) #[.agg #[.string ByteArray.empty,.slice none 0 0,.slice none 0 0,.slice none 0 0,.slice none 0 0,.slice none 0 0,.slice none 0 0,.slice none 0 0,.slice none 0 0,.slice none 0 0],.string ByteArray.empty] 8 (World.laidAll_os _ _ _)
   (World.shaped_of_ZipB (by kernel_rfl) (by kernel_rfl)) (by kernel_rfl) (by kernel_rfl) (by kernel_rfl)
   (by rw[MakeChecks.laidMetH_plain _ _ _ (by kernel_rfl)];exact laidMet_laidAll _ (by kernel_rfl) (by kernel_rfl))) ?_
 intro W base args ds gs before hval hW _ _ hX _;have hX:laidMetH Tryz.prog Rows.apparatusEntriesRow.laid W:=hX;rw[MakeChecks.laidMetH_plain _ _ _ (by kernel_rfl)]at hX;refine qeF (tb:=4) (bs:=qdT) (G:=qz3) laid rfl ?_ (by kernel_rfl) Tryz.underlying4 ?_ hW (qpN hX) (quk hX) ?_
 ·intro ds' h'
  match ds',h' with
  | [a0,a1],_=>rfl
 ·intro t ht;rw[show Tryz.f4.params.toList= [47,9] by rw[Tryz.params4]]at ht;simp only[List.mem_cons,List.not_mem_nil,or_false]at ht;rcases ht with rfl|rfl<;>exact⟨by kernel_rfl,of_decide_eq_true (by kernel_rfl)⟩
 ·intro p hA;rw[Tryz.params4]at hA hval;obtain⟨v0,v1,d0,d1,p0,p1,rfl,rfl,h0,h1⟩:=qm3 hA;obtain⟨ap0,hb0,hv0⟩:=qt8 (hval 0 47 v0 rfl rfl) h0;obtain⟨s1,rfl,rfl,rfl,ws1⟩:=Go.ChangeMaps.open_string Tryz.underlying9 (hval 1 9 v1 rfl rfl) h1;have hl1:s1.data.toList.length≤9223372036854775807:=by unfold maxLen at ws1;simpa using ws1
  refine⟨by rw[Tryz.params4];rfl,[(.agg (apC ap0)),.str s1.data.toList],?_,qA0 ap0 s1.data.toList [.pin qdT qz3] quj hb0 hl1⟩;exact VRs.cons' hv0 (VRs.cons' (.imm .str) (VRs.nil'))
end Go.Proofs.YtgoandblgcjleaaGreatDoor
