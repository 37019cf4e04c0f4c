import Derived.Test.YtgoandblgcjleaaGreatDoorK0
import Derived.Test.YtgoandblgcjleaaGreatDoorK16
import Derived.Test.YtgoandblgcjleaaGreatDoorK8
import Derived.Test.YtgoandblgcjleaaGreatDoorK6
import Derived.Test.YtgoandblgcjleaaGreatDoorRows
import Derived.Test.YtgoandblgcjleaaGreatDoorTie
import Derived.Test.YtgoandblgcjleaaGreatDoorCards
import Derived.ProofKit
import Derived.ChangeMaps5
import Derived.OpenShut
import Derived.LaidMore
import Derived.Lay
import Derived.SevenTiedAt
import Derived.Stop.Joined
set_option linter.all false
set_option linter.unusedSimpArgs false
set_option linter.unusedVariables false
set_option linter.unusedSectionVars false
open Go Go.Proofs AF HY RC LN Go.ChangeShapes Go.WideShapes Go.ChangeAt Go.RowKit
set_option maxRecDepth 100000
namespace Go.Proofs.YtgoandblgcjleaaGreatDoor
theorem own:ownKnob Tryz.prog.godebug=none:=by kernel_rfl
theorem laid:laidOutB Tryz.prog=true:=wp1
theorem qlC{H:Type}{enc:TypeId×Value→H}{P:Program}{w:World}{base:Nat}{spare:Nat→Bool}{held:Bool}{t0 t1 t2 t3 t4 t5:TypeId}{args:Array Value}{ds:List (DataW H)}{ps:List MemPlace}
  (h:DataW.TrodAll enc P w base spare held [t0,t1,t2,t3,t4,t5] args.toList ds ps):
  ∃v0 v1 v2 v3 v4 v5 d0 d1 d2 d3 d4 d5 p0 p1 p2 p3 p4 p5,args= #[v0,v1,v2,v3,v4,v5]∧ds= [d0,d1,d2,d3,d4,d5]∧DataW.Trod enc P w base spare held t0 v0 d0 p0∧DataW.Trod enc P w base spare held t1 v1 d1 p1∧DataW.Trod enc P w base spare held t2 v2 d2 p2∧DataW.Trod enc P w base spare held t3 v3 d3 p3∧DataW.Trod enc P w base spare held t4 v4 d4 p4∧DataW.Trod enc P w base spare held t5 v5 d5 p5:=by
 obtain⟨v0,vs0,d0,ds0,p0,q0,hargs,rfl,rfl,hd0,hr0⟩:=trodAll_cons h;obtain⟨v1,vs1,d1,ds1,p1,q1,rfl,rfl,rfl,hd1,hr1⟩:=trodAll_cons hr0;obtain⟨v2,vs2,d2,ds2,p2,q2,rfl,rfl,rfl,hd2,hr2⟩:=trodAll_cons hr1;obtain⟨v3,vs3,d3,ds3,p3,q3,rfl,rfl,rfl,hd3,hr3⟩:=trodAll_cons hr2;obtain⟨v4,vs4,d4,ds4,p4,q4,rfl,rfl,rfl,hd4,hr4⟩:=trodAll_cons hr3;obtain⟨v5,vs5,d5,ds5,p5,q5,rfl,rfl,rfl,hd5,hr5⟩:=trodAll_cons hr4;obtain⟨rfl,rfl,rfl⟩:=trodAll_nil hr5;exact⟨v0,v1,v2,v3,v4,v5,d0,d1,d2,d3,d4,d5,p0,p1,p2,p3,p4,p5,by cases args;simp_all,rfl,hd0,hd1,hd2,hd3,hd4,hd5⟩
theorem qdu:Tryz.prog.cellsOf 3=1:=by kernel_rfl
theorem qtW:Tryz.prog.cellsOf 4=1:=by kernel_rfl
theorem qdv:Tryz.prog.cellsOf 9=1:=by kernel_rfl
theorem qiX:Tryz.prog.cellsOf 22=1:=by kernel_rfl
theorem qqj:Tryz.prog.cellsOf 23=1:=by kernel_rfl
theorem qqk:Tryz.prog.cellsOf 24=1:=by kernel_rfl
theorem qql:Tryz.prog.cellsOf 26=4:=by kernel_rfl
theorem qqm:Tryz.prog.cellsOf 34=2:=by kernel_rfl
theorem qqn:Tryz.prog.cellsOf 62=1:=by kernel_rfl
theorem qqo:Tryz.prog.cellsOf 64=7:=by kernel_rfl
theorem qqp:Tryz.prog.cellsOf 81=1:=by kernel_rfl
theorem qqq:Tryz.prog.cellsOf 83=3:=by kernel_rfl
theorem qqr:Tryz.prog.cellsOf 89=2:=by kernel_rfl
theorem qmx:Tryz.prog.cellsOf 119=4:=by kernel_rfl
theorem qmy:Tryz.prog.cellsOf 124=6:=by kernel_rfl
theorem qt6:kw Tryz.prog 8 29=true:=by kernel_rfl
theorem qt4:kw Tryz.prog 8 27=true:=by kernel_rfl
theorem qt3:kw Tryz.prog 8 26=true:=by kernel_rfl
theorem qt5:kw Tryz.prog 8 28=true:=by kernel_rfl
theorem zV{d:Nat}{t:TypeId}{fs:Array Field}{zs:List AV}(ht:Tryz.prog.underlying t=some (.struct fs))(h:zh Tryz.prog (d+1) t zs):zs.length=Tryz.prog.cellsOf t∧ ∀f∈fs.toList,zh Tryz.prog d f.type ((zs.drop f.offset).take (Tryz.prog.cellsOf f.type)):=by
 unfold zh at h;rw[ht]at h;exact h
theorem zN{d:Nat}{t e:TypeId}{zs:List AV}(ht:Tryz.prog.underlying t=some (.slice e))(h:zh Tryz.prog (d+1) t zs): ∃(n:Nat) (f:Nat→List AV),zs= [.sl n f]∧n≤maxLen∧ ∀i,i<n→zh Tryz.prog d e (f i):=by
 unfold zh at h;rw[ht]at h;exact h
theorem jk{d:Nat}{t:TypeId}{k:IntKind}{zs:List AV}(ht:Tryz.prog.underlying t=some (.int k))(h:zh Tryz.prog (d+1) t zs): ∃n,zs= [.int k n]:=by
 unfold zh at h;rw[ht]at h;obtain⟨n,h,_⟩:=h;exact⟨n,h⟩
theorem qdI{d:Nat}{t:TypeId}{zs:List AV}(ht:Tryz.prog.underlying t=some .bool)(h:zh Tryz.prog (d+1) t zs): ∃n,zs= [.bool n]:=by
 unfold zh at h;rw[ht]at h;exact h
theorem jl{d:Nat}{t:TypeId}{zs:List AV}(ht:Tryz.prog.underlying t=some .string)(h:zh Tryz.prog (d+1) t zs): ∃n,zs= [.str n]:=by
 unfold zh at h;rw[ht]at h;obtain⟨n,h,_⟩:=h;exact⟨n,h⟩
theorem qyB{d:Nat}{zs:List AV}(h:zh Tryz.prog (d+2) 64 zs): ∃x:Wd,zs=wdC x:=by
 obtain⟨hl,hf⟩:=zV Tryz.underlying64 h;simp only[List.mem_cons,List.not_mem_nil,or_false,forall_eq_or_imp,forall_eq,qdu,qtW,qdv]at hf;obtain⟨h0,h1,h2,h3,h4,h5,h6⟩:=hf;rw[qqo]at hl
 match zs,hl with
 | [z0,z1,z2,z3,z4,z5,z6],_=>
  obtain⟨x0,e0⟩:=jl Tryz.underlying9 h0;obtain⟨x1,e1⟩:=jk Tryz.underlying3 h1;obtain⟨x2,e2⟩:=jk Tryz.underlying3 h2;obtain⟨x3,e3⟩:=jk Tryz.underlying3 h3;obtain⟨x4,e4⟩:=qdI Tryz.underlying4 h4;obtain⟨x5,e5⟩:=qdI Tryz.underlying4 h5;obtain⟨x6,e6⟩:=jl Tryz.underlying9 h6;simp at e0 e1 e2 e3 e4 e5 e6;subst e0 e1 e2 e3 e4 e5 e6;exact⟨⟨x0,x1,x2,x3,x4,x5,x6⟩,rfl⟩
theorem qwF{d:Nat}{zs:List AV}(h:zh Tryz.prog (d+3) 29 zs): ∃(a:AV) (l:List Wd),zs= [a]∧l.length≤9223372036854775807∧ILe a (qZ l):=by
 obtain⟨n,f,rfl,hn,hfi⟩:=zN Tryz.underlying29 h;have key: ∀i,i<n→ ∃x:Wd,f i=wdC x:=fun i hi=>qyB (hfi i hi)
 let l:List Wd:=(List.range n).map fun i=>if hi:i<n then (key i hi).choose else default
 have hln:l.length=n:=by simp[l]
 have hg: ∀i (hi:i<n),l.getD i default=(key i hi).choose:=fun i hi=>by simp[l,gdqA,hi]
 refine⟨_,l,rfl,by rw[hln];unfold maxLen at hn;omega,?_⟩
 ·unfold qZ;rw[hln];refine ILe.sl_eq (fun i hi=> ?_);rw[hg i hi];exact (key i hi).choose_spec
theorem qcZ{W:World}{base:Nat}{t e:TypeId}{v:Value}(ht:Tryz.prog.underlying t=some (.slice e))(hval:Value.okWide Tryz.prog W .any base t v):v.cells= #[v]:=by
 unfold Value.okWide at hval;rw[ht]at hval;simp only at hval;unfold Cell.okWide Cell.ok at hval;rw[ht]at hval;cases v<;>first|rfl|(exfalso;simp at hval)
theorem qxu{d:Nat}{zs:List AV}(h:zh Tryz.prog (d+2) 119 zs): ∃x:Dc,zs=dcC x:=by
 obtain⟨hl,hf⟩:=zV Tryz.underlying119 h;simp only[List.mem_cons,List.not_mem_nil,or_false,forall_eq_or_imp,forall_eq,qdu,qdv]at hf;obtain⟨h0,h1,h2,h3⟩:=hf;rw[qmx]at hl
 match zs,hl with
 | [z0,z1,z2,z3],_=>
  obtain⟨x0,e0⟩:=jk Tryz.underlying3 h0;obtain⟨x1,e1⟩:=jl Tryz.underlying9 h1;obtain⟨x2,e2⟩:=jk Tryz.underlying3 h2;obtain⟨x3,e3⟩:=jl Tryz.underlying9 h3;simp at e0 e1 e2 e3;subst e0 e1 e2 e3;exact⟨⟨x0,x1,x2,x3⟩,rfl⟩
theorem qt0{d:Nat}{zs:List AV}(h:zh Tryz.prog (d+3) 28 zs): ∃(a:AV) (l:List Dc),zs= [a]∧l.length≤9223372036854775807∧ILe a (qaR l):=by
 obtain⟨n,f,rfl,hn,hfi⟩:=zN Tryz.underlying28 h;have key: ∀i,i<n→ ∃x:Dc,f i=dcC x:=fun i hi=>qxu (hfi i hi)
 let l:List Dc:=(List.range n).map fun i=>if hi:i<n then (key i hi).choose else default
 have hln:l.length=n:=by simp[l]
 have hg: ∀i (hi:i<n),l.getD i default=(key i hi).choose:=fun i hi=>by simp[l,gdqA,hi]
 refine⟨_,l,rfl,by rw[hln];unfold maxLen at hn;omega,?_⟩
 ·unfold qaR;rw[hln];refine ILe.sl_eq (fun i hi=> ?_);rw[hg i hi];exact (key i hi).choose_spec
theorem qkR{H:Type}{enc:TypeId×Value→H}{W:World}{base:Nat}{v:Value}{d:DataW H}{ps:List MemPlace}(hval:Value.okWide Tryz.prog W .any base 28 v)(h:DataW.Trod enc Tryz.prog W 0 (fun _=>true) true 28 v d ps):
  ∃l:List Dc,l.length≤9223372036854775807∧VR W [] (qaR l) v:=by
 obtain⟨z,hg,hvi⟩:=qc8 (ow:=AF.own []) qc1 qt5 (qcZ Tryz.underlying28 hval) h;obtain⟨a,ps,e,hl,hil⟩:=qt0 hg;simp at e;subst e;exact⟨ps,hl,.imm (hil _ _ _ hvi)⟩
theorem qkP{H:Type}{enc:TypeId×Value→H}{W:World}{base:Nat}{v:Value}{d:DataW H}{ps:List MemPlace}(hval:Value.okWide Tryz.prog W .any base 29 v)(h:DataW.Trod enc Tryz.prog W 0 (fun _=>true) true 29 v d ps):
  ∃l:List Wd,l.length≤9223372036854775807∧VR W [] (qZ l) v:=by
 obtain⟨z,hg,hvi⟩:=qc8 (ow:=AF.own []) qc1 qt6 (qcZ Tryz.underlying29 hval) h;obtain⟨a,ps,e,hl,hil⟩:=qwF hg;simp at e;subst e;exact⟨ps,hl,.imm (hil _ _ _ hvi)⟩
theorem qfe{d:Nat}{zs:List AV}(h:zh Tryz.prog (d+2) 22 zs): ∃(a:AV) (l:List (List UInt8)),zs= [a]∧l.length≤9223372036854775807∧ILe a (HY.strs l):=by
 obtain⟨n,f,rfl,hn,hfi⟩:=zN Tryz.underlying22 h;have key: ∀i,i<n→ ∃x:(List UInt8),f i= [.str x]:=fun i hi=>jl Tryz.underlying9 (hfi i hi)
 let l:List (List UInt8):=(List.range n).map fun i=>if hi:i<n then (key i hi).choose else []
 have hln:l.length=n:=by simp[l]
 have hg: ∀i (hi:i<n),l.getD i []=(key i hi).choose:=fun i hi=>by simp[l,gdqA,hi]
 refine⟨_,l,rfl,by rw[hln];unfold maxLen at hn;omega,?_⟩
 ·unfold HY.strs;rw[hln];refine ILe.sl_eq (fun i hi=> ?_);rw[hg i hi];exact (key i hi).choose_spec
theorem qj0{d:Nat}{zs:List AV}(h:zh Tryz.prog (d+2) 62 zs): ∃(a:AV) (l:List Int),zs= [a]∧l.length≤9223372036854775807∧ILe a (qq l):=by
 obtain⟨n,f,rfl,hn,hfi⟩:=zN Tryz.underlying62 h;have key: ∀i,i<n→ ∃x:Int,f i= [.int .i64 x]:=fun i hi=>jk Tryz.underlying3 (hfi i hi)
 let l:List Int:=(List.range n).map fun i=>if hi:i<n then (key i hi).choose else 0
 have hln:l.length=n:=by simp[l]
 have hg: ∀i (hi:i<n),l.getD i 0=(key i hi).choose:=fun i hi=>by simp[l,gdqA,hi]
 refine⟨_,l,rfl,by rw[hln];unfold maxLen at hn;omega,?_⟩
 ·unfold qq;rw[hln];refine ILe.sl_eq (fun i hi=> ?_);rw[hg i hi];exact (key i hi).choose_spec
theorem qnp{d:Nat}{zs:List AV}(h:zh Tryz.prog (d+2) 62 zs): ∃l:List Int,l.length≤9223372036854775807∧qaQ zs [qq l]:=by
 obtain⟨a,l,rfl,hl,hi⟩:=qj0 h;exact⟨l,hl,hi,trivial⟩
theorem qyn{d:Nat}{zs:List AV}(h:zh Tryz.prog (d+3) 124 zs): ∃x:Tk,zs=tkC x:=by
 obtain⟨hl,hf⟩:=zV Tryz.underlying124 h;simp only[List.mem_cons,List.not_mem_nil,or_false,forall_eq_or_imp,forall_eq,qdu,qdv,qqm]at hf;obtain⟨h0,h1,h2,h3,h4⟩:=hf;rw[qmy]at hl
 match zs,hl with
 | [z0,z1,z2,z3,z4,z5],_=>
  obtain⟨hp,hg⟩:=zV Tryz.underlying34 h2;simp only[List.mem_cons,List.not_mem_nil,or_false,forall_eq_or_imp,forall_eq,qdv,qdu]at hg;obtain⟨g0,g1⟩:=hg;obtain⟨x0,e0⟩:=jl Tryz.underlying9 h0;obtain⟨x1,e1⟩:=jl Tryz.underlying9 h1;obtain⟨x2,e2⟩:=jl Tryz.underlying9 g0;obtain⟨x3,e3⟩:=jk Tryz.underlying3 g1;obtain⟨x4,e4⟩:=jk Tryz.underlying3 h3;obtain⟨x5,e5⟩:=jl Tryz.underlying9 h4;simp at e0 e1 e2 e3 e4 e5;subst e0 e1 e2 e3 e4 e5;exact⟨⟨x0,x1,x2,x3,x4,x5⟩,rfl⟩
theorem qwj{d:Nat}{zs:List AV}(h:zh Tryz.prog (d+4) 125 zs): ∃(a:AV) (l:List Tk),zs= [a]∧l.length≤9223372036854775807∧ILe a (zM l):=by
 obtain⟨n,f,rfl,hn,hfi⟩:=zN Tryz.underlying125 h;have key: ∀i,i<n→ ∃x:Tk,f i=tkC x:=fun i hi=>qyn (hfi i hi)
 let l:List Tk:=(List.range n).map fun i=>if hi:i<n then (key i hi).choose else default
 have hln:l.length=n:=by simp[l]
 have hg: ∀i (hi:i<n),l.getD i default=(key i hi).choose:=fun i hi=>by simp[l,gdqA,hi]
 refine⟨_,l,rfl,by rw[hln];unfold maxLen at hn;omega,?_⟩
 ·unfold zM;rw[hln];refine ILe.sl_eq (fun i hi=> ?_);rw[hg i hi];exact (key i hi).choose_spec
theorem qr9{d:Nat}{zs:List AV}(h:zh Tryz.prog (d+4) 125 zs): ∃l:List Tk,l.length≤9223372036854775807∧qaQ zs [zM l]:=by
 obtain⟨a,l,rfl,hl,hi⟩:=qwj h;exact⟨l,hl,hi,trivial⟩
theorem qsa{d:Nat}{zs:List AV}(h:zh Tryz.prog (d+5) 23 zs): ∃(a:AV) (l:List (List Tk)),zs= [a]∧l.length≤9223372036854775807∧(∀i,(l.getD i []).length≤9223372036854775807)∧ILe a (qm l):=by
 obtain⟨n,f,rfl,hn,hfi⟩:=zN Tryz.underlying23 h;have key: ∀i,i<n→ ∃x:(List Tk),x.length≤9223372036854775807∧qaQ (f i) [zM x]:=fun i hi=>qr9 (hfi i hi)
 let l:List (List Tk):=(List.range n).map fun i=>if hi:i<n then (key i hi).choose else []
 have hln:l.length=n:=by simp[l]
 have hg: ∀i (hi:i<n),l.getD i []=(key i hi).choose:=fun i hi=>by simp[l,gdqA,hi]
 refine⟨_,l,rfl,by rw[hln];unfold maxLen at hn;omega,?_,?_⟩
 ·intro i
  by_cases hi:i<n
  ·rw[hg i hi];exact (key i hi).choose_spec.1
  ·rw[gdqA,List.getElem?_eq_none om]
   first|exact nzl _|exact⟨nzl _,nzl _,fun _=>nzl _,fun _=>nzl _⟩
 ·unfold qm;rw[hln];refine ILe.sl (fun i hi=> ?_);rw[hg i hi];exact (key i hi).choose_spec.2
theorem qqw{d:Nat}{zs:List AV}(h:zh Tryz.prog (d+3) 24 zs): ∃(a:AV) (l:List (List Int)),zs= [a]∧l.length≤9223372036854775807∧(∀i,(l.getD i []).length≤9223372036854775807)∧ILe a (qp l):=by
 obtain⟨n,f,rfl,hn,hfi⟩:=zN Tryz.underlying24 h;have key: ∀i,i<n→ ∃x:(List Int),x.length≤9223372036854775807∧qaQ (f i) [qq x]:=fun i hi=>qnp (hfi i hi)
 let l:List (List Int):=(List.range n).map fun i=>if hi:i<n then (key i hi).choose else []
 have hln:l.length=n:=by simp[l]
 have hg: ∀i (hi:i<n),l.getD i []=(key i hi).choose:=fun i hi=>by simp[l,gdqA,hi]
 refine⟨_,l,rfl,by rw[hln];unfold maxLen at hn;omega,?_,?_⟩
 ·intro i
  by_cases hi:i<n
  ·rw[hg i hi];exact (key i hi).choose_spec.1
  ·rw[gdqA,List.getElem?_eq_none om]
   first|exact nzl _|exact⟨nzl _,nzl _,fun _=>nzl _,fun _=>nzl _⟩
 ·unfold qp;rw[hln];refine ILe.sl (fun i hi=> ?_);rw[hg i hi];exact (key i hi).choose_spec.2
theorem qyg{d:Nat}{zs:List AV}(h:zh Tryz.prog (d+3) 89 zs): ∃r:Rd,r.words.length≤9223372036854775807∧qaQ zs (rdC r):=by
 obtain⟨hl,hf⟩:=zV Tryz.underlying89 h;simp only[List.mem_cons,List.not_mem_nil,or_false,forall_eq_or_imp,forall_eq,qiX,qqn]at hf;obtain⟨h0,h1⟩:=hf;rw[qqr]at hl
 match zs,hl with
 | [a,b],_=>
  obtain⟨x,w,e0,l0,i0⟩:=qfe h0;obtain⟨y,s,e1,l1,i1⟩:=qj0 h1;simp at e0 e1;subst e0 e1;exact⟨⟨w,s⟩,l0,i0,i1,trivial⟩
theorem qvW{d:Nat}{zs:List AV}(h:zh Tryz.prog (d+4) 81 zs): ∃(a:AV) (l:List Rd),zs= [a]∧l.length≤9223372036854775807∧(∀i,(l.getD i default).words.length≤9223372036854775807)∧ILe a (zL l):=by
 obtain⟨n,f,rfl,hn,hfi⟩:=zN Tryz.underlying81 h;have key: ∀i,i<n→ ∃x:Rd,x.words.length≤9223372036854775807∧qaQ (f i) (rdC x):=fun i hi=>qyg (hfi i hi)
 let l:List Rd:=(List.range n).map fun i=>if hi:i<n then (key i hi).choose else default
 have hln:l.length=n:=by simp[l]
 have hg: ∀i (hi:i<n),l.getD i default=(key i hi).choose:=fun i hi=>by simp[l,gdqA,hi]
 refine⟨_,l,rfl,by rw[hln];unfold maxLen at hn;omega,?_,?_⟩
 ·intro i
  by_cases hi:i<n
  ·rw[hg i hi];exact (key i hi).choose_spec.1
  ·rw[gdqA,List.getElem?_eq_none om]
   first|exact nzl _|exact⟨nzl _,nzl _,fun _=>nzl _,fun _=>nzl _⟩
 ·unfold zL;rw[hln];refine ILe.sl (fun i hi=> ?_);rw[hg i hi];exact (key i hi).choose_spec.2
theorem qyp{d:Nat}{zs:List AV}(h:zh Tryz.prog (d+5) 83 zs): ∃u:Un,(u.rds.length≤9223372036854775807∧ ∀j,(u.rds.getD j default).words.length≤9223372036854775807)∧qaQ zs (unC u):=by
 obtain⟨hl,hf⟩:=zV Tryz.underlying83 h;simp only[List.mem_cons,List.not_mem_nil,or_false,forall_eq_or_imp,forall_eq,qdu,qqp]at hf;obtain⟨h0,h1,h2⟩:=hf;rw[qqq]at hl
 match zs,hl with
 | [a,b,c],_=>
  obtain⟨x0,e0⟩:=jk Tryz.underlying3 h0;obtain⟨x1,e1⟩:=jk Tryz.underlying3 h1;obtain⟨y,s,e2,l2,b2,i2⟩:=qvW h2;simp at e0 e1 e2;subst e0 e1 e2;exact⟨⟨x0,x1,s⟩,⟨l2,b2⟩,ILe.refl _,ILe.refl _,i2,trivial⟩
theorem qwk{d:Nat}{zs:List AV}(h:zh Tryz.prog (d+6) 27 zs): ∃(a:AV) (l:List Un),zs= [a]∧l.length≤9223372036854775807∧(∀i,(l.getD i default).rds.length≤9223372036854775807∧ ∀j,((l.getD i default).rds.getD j default).words.length≤9223372036854775807)∧ILe a (qz l):=by
 obtain⟨n,f,rfl,hn,hfi⟩:=zN Tryz.underlying27 h;have key: ∀i,i<n→ ∃x:Un,(x.rds.length≤9223372036854775807∧ ∀j,(x.rds.getD j default).words.length≤9223372036854775807)∧qaQ (f i) (unC x):=fun i hi=>qyp (hfi i hi)
 let l:List Un:=(List.range n).map fun i=>if hi:i<n then (key i hi).choose else default
 have hln:l.length=n:=by simp[l]
 have hg: ∀i (hi:i<n),l.getD i default=(key i hi).choose:=fun i hi=>by simp[l,gdqA,hi]
 refine⟨_,l,rfl,by rw[hln];unfold maxLen at hn;omega,?_,?_⟩
 ·intro i
  by_cases hi:i<n
  ·rw[hg i hi];exact (key i hi).choose_spec.1
  ·rw[gdqA,List.getElem?_eq_none om]
   first|exact nzl _|exact⟨nzl _,fun _=>nzl _⟩|exact⟨nzl _,nzl _,fun _=>nzl _,fun _=>nzl _⟩
 ·unfold qz;rw[hln];refine ILe.sl (fun i hi=> ?_);rw[hg i hi];exact (key i hi).choose_spec.2
theorem qxs{d:Nat}{zs:List AV}(h:zh Tryz.prog (d+6) 26 zs): ∃x:Co,CoB x∧qaQ zs (coC x):=by
 obtain⟨hl,hf⟩:=zV Tryz.underlying26 h;simp only[List.mem_cons,List.not_mem_nil,or_false,forall_eq_or_imp,forall_eq,qdv,qiX,qqj,qqk]at hf;obtain⟨h0,h1,h2,h3⟩:=hf;rw[qql]at hl
 match zs,hl with
 | [a,b,c,e],_=>
  obtain⟨x0,e0⟩:=jl Tryz.underlying9 h0;obtain⟨a1,x1,e1,l1,i1⟩:=qfe h1;obtain⟨a2,x2,e2,l2,_,i2⟩:=qsa h2;obtain⟨a3,x3,e3,l3,_,i3⟩:=qqw h3;simp at e0 e1 e2 e3;subst e0 e1 e2 e3;exact⟨⟨x0,x1,x2,x3⟩,⟨l1,l2,l3⟩,ILe.refl _,i1,i2,i3,trivial⟩
theorem qg2{H:Type}{enc:TypeId×Value→H}{W:World}{base:Nat}{v:Value}{d:DataW H}{ps:List MemPlace}(hval:Value.okWide Tryz.prog W .any base 27 v)(h:DataW.Trod enc Tryz.prog W 0 (fun _=>true) true 27 v d ps):
  ∃l:List Un,l.length≤9223372036854775807∧(∀i,(l.getD i default).rds.length≤9223372036854775807∧ ∀j,((l.getD i default).rds.getD j default).words.length≤9223372036854775807)∧VR W [] (qz l) v:=by
 obtain⟨z,hg,hvi⟩:=qc8 (ow:=AF.own []) qc1 qt4 (qcZ Tryz.underlying27 hval) h;obtain⟨a,ps,e,hl,hb,hil⟩:=qwk hg;simp at e;subst e;exact⟨ps,hl,hb,.imm (hil _ _ _ hvi)⟩
theorem qkQ{H:Type}{enc:TypeId×Value→H}{W:World}{base:Nat}{v:Value}{d:DataW H}{ps:List MemPlace}(hval:Value.okWide Tryz.prog W .any base 26 v)(h:DataW.Trod enc Tryz.prog W 0 (fun _=>true) true 26 v d ps):
  ∃x:Co,CoB x∧VR W [] (.agg (coC x)) v:=by
 unfold Value.okWide at hval;rw[Tryz.underlying26]at hval;simp only at hval;obtain⟨cs,rfl,_,_⟩:=hval;obtain⟨zs,hg,hvi⟩:=qnX (ow:=AF.own []) qc1 qt3 h;obtain⟨a,h1,hil⟩:=qxs hg;exact⟨a,h1,.imm (ILe.agg hil _ _ _ hvi)⟩
theorem qc0(os:Os)(started:os.Started)(H:Type)(enc:TypeId×Value→H):
  ReturnsInHanded {} Tryz.checked os 3 .any (fun w args=>(Rows.provenanceOthersSpec.pre enc Tryz.prog Tryz.f3 Rows.provenanceOthersRow.domain false w args∧laidMetH Tryz.prog Rows.provenanceOthersRow.laid w)∧sizedMet enc Tryz.prog Tryz.f3 (OpenSpec.ofChange Rows.provenanceOthersSpec) false w args)
   (Rows.provenanceOthersSpec.post enc Tryz.prog Tryz.f3 false true false false):=by
 refine returnsInHanded_of_change_and (C:=Tryz.checked) (X:=fun w _=>laidMetH Tryz.prog Rows.provenanceOthersRow.laid w) (fun _ _ _ hh h=>h.of_heap hh) own started (by kernel_rfl) Tryz.func3
  (ChangeSpec.witness_shaped (enc:=enc) (C:=Tryz.checked) (os:=os) (X:=fun w _=>laidMetH Tryz.prog Rows.provenanceOthersRow.laid w) false (World.laidAll Tryz.prog os Rows.provenanceOthersRow.laid) #[.agg #[.string ByteArray.empty,.slice none 0 0,.slice none 0 0,.slice none 0 0],.slice none 0 0,.slice none 0 0,.slice none 0 0,.int .i64 0,.int .i64 0] 8 (World.laidAll_os _ _ _)
   (World.shaped_of_ZipB (by kernel_rfl) (by kernel_rfl)) (by kernel_rfl) (by kernel_rfl) (by kernel_rfl)
   (by rw[MakeChecks.laidMetH_plain _ _ _ (by kernel_rfl)];exact laidMet_laidAll _ (by kernel_rfl) (by kernel_rfl))) ?_
 intro W base args ds gs before hval hW _ _ hX _;have hX:laidMetH Tryz.prog Rows.provenanceOthersRow.laid W:=hX;rw[MakeChecks.laidMetH_plain _ _ _ (by kernel_rfl)]at hX;refine qdQ (tb:=4) (bs:=qc9) (G:=qxa) laid rfl ?_ (by kernel_rfl) Tryz.underlying4 ?_ hW (qoe hX) (qr5 hX) ?_
 ·intro ds' h'
  match ds',h' with
  | [a0,a1,a2,a3,a4,a5],_=>rfl
 ·intro t ht;rw[show Tryz.f3.params.toList= [26,27,28,29,3,3] by rw[Tryz.params3]]at ht;simp only[List.mem_cons,List.not_mem_nil,or_false]at ht;rcases ht with rfl|rfl|rfl|rfl|rfl|rfl<;>exact⟨by kernel_rfl,of_decide_eq_true (by kernel_rfl)⟩
 ·intro p hA;rw[Tryz.params3]at hA hval;obtain⟨v0,v1,v2,v3,v4,v5,d0,d1,d2,d3,d4,d5,p0,p1,p2,p3,p4,p5,rfl,rfl,h0,h1,h2,h3,h4,h5⟩:=qlC hA;obtain⟨x0,hb0,hv0⟩:=qkQ (hval 0 26 v0 rfl rfl) h0;obtain⟨l1,hl1,hu1,hv1⟩:=qg2 (hval 1 27 v1 rfl rfl) h1;obtain⟨l2,hl2,hv2⟩:=qkR (hval 2 28 v2 rfl rfl) h2;obtain⟨l3,hl3,hv3⟩:=qkP (hval 3 29 v3 rfl rfl) h3;obtain⟨n4,rfl,_,_,w4⟩:=open_int Tryz.underlying3 (hval 4 3 v4 rfl rfl) h4;have hl4:(-9223372036854775808:Int)≤n4∧n4≤9223372036854775807:=by simpa[Lit.wf,IntKind.min,IntKind.max,IntKind.signed,IntKind.bits] using w4
  obtain⟨n5,rfl,_,_,w5⟩:=open_int Tryz.underlying3 (hval 5 3 v5 rfl rfl) h5;have hl5:(-9223372036854775808:Int)≤n5∧n5≤9223372036854775807:=by simpa[Lit.wf,IntKind.min,IntKind.max,IntKind.signed,IntKind.bits] using w5
  refine⟨by rw[Tryz.params3];rfl,[(.agg (coC x0)),qz l1,qaR l2,qZ l3,.int .i64 n4,.int .i64 n5],?_,qvC x0 l1 l2 l3 n4 n5 [.pin qc9 qxa] qr2 hb0 ⟨hl1,fun i=>(hu1 i).1,fun i=>(hu1 i).2⟩ hl2 hl3⟩;exact VRs.cons' hv0 (VRs.cons' hv1 (VRs.cons' hv2 (VRs.cons' hv3 (VRs.cons' (.imm .int) (VRs.cons' (.imm .int) (VRs.nil'))))))
end Go.Proofs.YtgoandblgcjleaaGreatDoor
