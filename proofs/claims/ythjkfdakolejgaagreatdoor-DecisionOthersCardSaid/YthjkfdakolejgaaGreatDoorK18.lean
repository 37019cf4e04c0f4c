import Derived.Test.YthjkfdakolejgaaGreatDoorK0
import Derived.Test.YthjkfdakolejgaaGreatDoorK17
import Derived.Test.YthjkfdakolejgaaGreatDoorK9
import Derived.Test.YthjkfdakolejgaaGreatDoorK6
import Derived.Test.YthjkfdakolejgaaGreatDoorRows
import Derived.Test.YthjkfdakolejgaaGreatDoorTie
import Derived.Test.YthjkfdakolejgaaGreatDoorCards
import Derived.ProofKit
import Derived.ChangeMaps5
import Derived.OpenShut
import Derived.LaidMore
import Derived.Lay
import Derived.SevenTiedAt
import Derived.Stop.Joined
set_option linter.all false
set_option linter.unusedSimpArgs false
set_option linter.unusedVariables false
set_option linter.unusedSectionVars false
open Go Go.Proofs AF HY RC LN Go.ChangeShapes Go.WideShapes Go.ChangeAt Go.RowKit
set_option maxRecDepth 100000
namespace Go.Proofs.YthjkfdakolejgaaGreatDoor
theorem own:ownKnob Tryz.prog.godebug=none:=by kernel_rfl
theorem laid:laidOutB Tryz.prog=true:=wp1
theorem qon{H:Type}{enc:TypeId×Value→H}{P:Program}{w:World}{base:Nat}{spare:Nat→Bool}{held:Bool}{t0 t1:TypeId}{args:Array Value}{ds:List (DataW H)}{ps:List MemPlace}
  (h:DataW.TrodAll enc P w base spare held [t0,t1] args.toList ds ps):
  ∃v0 v1 d0 d1 p0 p1,args= #[v0,v1]∧ds= [d0,d1]∧DataW.Trod enc P w base spare held t0 v0 d0 p0∧DataW.Trod enc P w base spare held t1 v1 d1 p1:=by
 obtain⟨v0,vs0,d0,ds0,p0,q0,hargs,rfl,rfl,hd0,hr0⟩:=trodAll_cons h;obtain⟨v1,vs1,d1,ds1,p1,q1,rfl,rfl,rfl,hd1,hr1⟩:=trodAll_cons hr0;obtain⟨rfl,rfl,rfl⟩:=trodAll_nil hr1;exact⟨v0,v1,d0,d1,p0,p1,by cases args;simp_all,rfl,hd0,hd1⟩
theorem qfj:Tryz.prog.cellsOf 3=1:=by kernel_rfl
theorem qho:Tryz.prog.cellsOf 9=1:=by kernel_rfl
theorem qle:Tryz.prog.cellsOf 22=1:=by kernel_rfl
theorem qtF:Tryz.prog.cellsOf 23=1:=by kernel_rfl
theorem qtG:Tryz.prog.cellsOf 24=1:=by kernel_rfl
theorem qlf:Tryz.prog.cellsOf 26=4:=by kernel_rfl
theorem qtH:Tryz.prog.cellsOf 27=1:=by kernel_rfl
theorem qtI:Tryz.prog.cellsOf 28=1:=by kernel_rfl
theorem qtJ:Tryz.prog.cellsOf 39=1:=by kernel_rfl
theorem qtK:Tryz.prog.cellsOf 43=4:=by kernel_rfl
theorem qtL:Tryz.prog.cellsOf 62=1:=by kernel_rfl
theorem qtM:Tryz.prog.cellsOf 64=3:=by kernel_rfl
theorem qtN:Tryz.prog.cellsOf 75=7:=by kernel_rfl
theorem qtO:Tryz.prog.cellsOf 87=2:=by kernel_rfl
theorem qpx:Tryz.prog.cellsOf 101=2:=by kernel_rfl
theorem qpy:Tryz.prog.cellsOf 103=6:=by kernel_rfl
theorem qym:qbE Tryz.prog 8 43=true:=by kernel_rfl
theorem qyn:qbE Tryz.prog 8 75=true:=by kernel_rfl
theorem jv{d:Nat}{t:TypeId}{fs:Array Field}{zs:List AV}(ht:Tryz.prog.underlying t=some (.struct fs))(h:jg Tryz.prog (d+1) t zs):zs.length=Tryz.prog.cellsOf t∧ ∀f∈fs.toList,jg Tryz.prog d f.type ((zs.drop f.offset).take (Tryz.prog.cellsOf f.type)):=by
 unfold jg at h;rw[ht]at h;exact h
theorem jA{d:Nat}{t e:TypeId}{zs:List AV}(ht:Tryz.prog.underlying t=some (.slice e))(h:jg Tryz.prog (d+1) t zs): ∃(n:Nat) (f:Nat→List AV),zs= [.sl n f]∧n≤maxLen∧ ∀i,i<n→jg Tryz.prog d e (f i):=by
 unfold jg at h;rw[ht]at h;exact h
theorem kS{d:Nat}{t:TypeId}{k:IntKind}{zs:List AV}(ht:Tryz.prog.underlying t=some (.int k))(h:jg Tryz.prog (d+1) t zs): ∃n,zs= [.int k n]:=by
 unfold jg at h;rw[ht]at h;obtain⟨n,h,_⟩:=h;exact⟨n,h⟩
theorem kT{d:Nat}{t:TypeId}{zs:List AV}(ht:Tryz.prog.underlying t=some .string)(h:jg Tryz.prog (d+1) t zs): ∃n,zs= [.str n]:=by
 unfold jg at h;rw[ht]at h;obtain⟨n,h,_⟩:=h;exact⟨n,h⟩
theorem qyj{d:Nat}{zs:List AV}(h:jg Tryz.prog (d+2) 43 zs): ∃x:Dc,zs=dcC x:=by
 obtain⟨hl,hf⟩:=jv Tryz.underlying43 h;simp only[List.mem_cons,List.not_mem_nil,or_false,forall_eq_or_imp,forall_eq,qfj,qho]at hf;obtain⟨h0,h1,h2,h3⟩:=hf;rw[qtK]at hl
 match zs,hl with
 | [z0,z1,z2,z3],_=>
  obtain⟨x0,e0⟩:=kS Tryz.underlying3 h0;obtain⟨x1,e1⟩:=kT Tryz.underlying9 h1;obtain⟨x2,e2⟩:=kS Tryz.underlying3 h2;obtain⟨x3,e3⟩:=kT Tryz.underlying9 h3;simp at e0 e1 e2 e3;subst e0 e1 e2 e3;exact⟨⟨x0,x1,x2,x3⟩,rfl⟩
theorem qyk{d:Nat}{zs:List AV}(h:jg Tryz.prog (d+3) 27 zs): ∃(a:AV) (l:List Dc),zs= [a]∧l.length≤9223372036854775807∧ILe a (kl l):=by
 obtain⟨n,f,rfl,hn,hfi⟩:=jA Tryz.underlying27 h;have key: ∀i,i<n→ ∃x:Dc,f i=dcC x:=fun i hi=>qyj (hfi i hi)
 let l:List Dc:=(List.range n).map fun i=>if hi:i<n then (key i hi).choose else default
 have hln:l.length=n:=by simp[l]
 have hg: ∀i (hi:i<n),l.getD i default=(key i hi).choose:=fun i hi=>by simp[l,gdqA,hi]
 refine⟨_,l,rfl,by rw[hln];unfold maxLen at hn;omega,?_⟩
 ·unfold kl;rw[hln];refine ILe.sl_eq (fun i hi=> ?_);rw[hg i hi];exact (key i hi).choose_spec
theorem qrf{H:Type}{enc:TypeId×Value→H}{W:World}{base:Nat}{v:Value}{d:DataW H}{ps:List MemPlace}(hval:Value.okWide Tryz.prog W .any base 43 v)(h:DataW.Trod enc Tryz.prog W 0 (fun _=>true) true 43 v d ps):
  ∃x:Dc,VR W [] (.agg (dcC x)) v:=by
 unfold Value.okWide at hval;rw[Tryz.underlying43]at hval;simp only at hval;obtain⟨cs,rfl,_,_⟩:=hval;obtain⟨zs,hg,hvi⟩:=qhR (ow:=AF.own []) qmZ qym h;obtain⟨x,rfl⟩:=qyj hg;exact⟨x,.imm hvi⟩
theorem qg1{d:Nat}{zs:List AV}(h:jg Tryz.prog (d+2) 22 zs): ∃(a:AV) (l:List (List UInt8)),zs= [a]∧l.length≤9223372036854775807∧ILe a (HY.strs l):=by
 obtain⟨n,f,rfl,hn,hfi⟩:=jA Tryz.underlying22 h;have key: ∀i,i<n→ ∃x:(List UInt8),f i= [.str x]:=fun i hi=>kT Tryz.underlying9 (hfi i hi)
 let l:List (List UInt8):=(List.range n).map fun i=>if hi:i<n then (key i hi).choose else []
 have hln:l.length=n:=by simp[l]
 have hg: ∀i (hi:i<n),l.getD i []=(key i hi).choose:=fun i hi=>by simp[l,gdqA,hi]
 refine⟨_,l,rfl,by rw[hln];unfold maxLen at hn;omega,?_⟩
 ·unfold HY.strs;rw[hln];refine ILe.sl_eq (fun i hi=> ?_);rw[hg i hi];exact (key i hi).choose_spec
theorem qmr{d:Nat}{zs:List AV}(h:jg Tryz.prog (d+2) 39 zs): ∃(a:AV) (l:List Int),zs= [a]∧l.length≤9223372036854775807∧ILe a (qI l):=by
 obtain⟨n,f,rfl,hn,hfi⟩:=jA Tryz.underlying39 h;have key: ∀i,i<n→ ∃x:Int,f i= [.int .i64 x]:=fun i hi=>kS Tryz.underlying3 (hfi i hi)
 let l:List Int:=(List.range n).map fun i=>if hi:i<n then (key i hi).choose else 0
 have hln:l.length=n:=by simp[l]
 have hg: ∀i (hi:i<n),l.getD i 0=(key i hi).choose:=fun i hi=>by simp[l,gdqA,hi]
 refine⟨_,l,rfl,by rw[hln];unfold maxLen at hn;omega,?_⟩
 ·unfold qI;rw[hln];refine ILe.sl_eq (fun i hi=> ?_);rw[hg i hi];exact (key i hi).choose_spec
theorem qqy{d:Nat}{zs:List AV}(h:jg Tryz.prog (d+2) 39 zs): ∃l:List Int,l.length≤9223372036854775807∧qbi zs [qI l]:=by
 obtain⟨a,l,rfl,hl,hi⟩:=qmr h;exact⟨l,hl,hi,trivial⟩
theorem qDJ{d:Nat}{zs:List AV}(h:jg Tryz.prog (d+3) 103 zs): ∃x:Tk,zs=tkC x:=by
 obtain⟨hl,hf⟩:=jv Tryz.underlying103 h;simp only[List.mem_cons,List.not_mem_nil,or_false,forall_eq_or_imp,forall_eq,qfj,qho,qpx]at hf;obtain⟨h0,h1,h2,h3,h4⟩:=hf;rw[qpy]at hl
 match zs,hl with
 | [z0,z1,z2,z3,z4,z5],_=>
  obtain⟨hp,hg⟩:=jv Tryz.underlying101 h2;simp only[List.mem_cons,List.not_mem_nil,or_false,forall_eq_or_imp,forall_eq,qho,qfj]at hg;obtain⟨g0,g1⟩:=hg;obtain⟨x0,e0⟩:=kT Tryz.underlying9 h0;obtain⟨x1,e1⟩:=kT Tryz.underlying9 h1;obtain⟨x2,e2⟩:=kT Tryz.underlying9 g0;obtain⟨x3,e3⟩:=kS Tryz.underlying3 g1;obtain⟨x4,e4⟩:=kS Tryz.underlying3 h3;obtain⟨x5,e5⟩:=kT Tryz.underlying9 h4;simp at e0 e1 e2 e3 e4 e5;subst e0 e1 e2 e3 e4 e5;exact⟨⟨x0,x1,x2,x3,x4,x5⟩,rfl⟩
theorem qA7{d:Nat}{zs:List AV}(h:jg Tryz.prog (d+4) 105 zs): ∃(a:AV) (l:List Tk),zs= [a]∧l.length≤9223372036854775807∧ILe a (zT l):=by
 obtain⟨n,f,rfl,hn,hfi⟩:=jA Tryz.underlying105 h;have key: ∀i,i<n→ ∃x:Tk,f i=tkC x:=fun i hi=>qDJ (hfi i hi)
 let l:List Tk:=(List.range n).map fun i=>if hi:i<n then (key i hi).choose else default
 have hln:l.length=n:=by simp[l]
 have hg: ∀i (hi:i<n),l.getD i default=(key i hi).choose:=fun i hi=>by simp[l,gdqA,hi]
 refine⟨_,l,rfl,by rw[hln];unfold maxLen at hn;omega,?_⟩
 ·unfold zT;rw[hln];refine ILe.sl_eq (fun i hi=> ?_);rw[hg i hi];exact (key i hi).choose_spec
theorem qv0{d:Nat}{zs:List AV}(h:jg Tryz.prog (d+4) 105 zs): ∃l:List Tk,l.length≤9223372036854775807∧qbi zs [zT l]:=by
 obtain⟨a,l,rfl,hl,hi⟩:=qA7 h;exact⟨l,hl,hi,trivial⟩
theorem qv1{d:Nat}{zs:List AV}(h:jg Tryz.prog (d+5) 23 zs): ∃(a:AV) (l:List (List Tk)),zs= [a]∧l.length≤9223372036854775807∧(∀i,(l.getD i []).length≤9223372036854775807)∧ILe a (qm l):=by
 obtain⟨n,f,rfl,hn,hfi⟩:=jA Tryz.underlying23 h;have key: ∀i,i<n→ ∃x:(List Tk),x.length≤9223372036854775807∧qbi (f i) [zT x]:=fun i hi=>qv0 (hfi i hi)
 let l:List (List Tk):=(List.range n).map fun i=>if hi:i<n then (key i hi).choose else []
 have hln:l.length=n:=by simp[l]
 have hg: ∀i (hi:i<n),l.getD i []=(key i hi).choose:=fun i hi=>by simp[l,gdqA,hi]
 refine⟨_,l,rfl,by rw[hln];unfold maxLen at hn;omega,?_,?_⟩
 ·intro i
  by_cases hi:i<n
  ·rw[hg i hi];exact (key i hi).choose_spec.1
  ·rw[gdqA,List.getElem?_eq_none om]
   first|exact nzl _|exact⟨nzl _,nzl _,fun _=>nzl _,fun _=>nzl _⟩
 ·unfold qm;rw[hln];refine ILe.sl (fun i hi=> ?_);rw[hg i hi];exact (key i hi).choose_spec.2
theorem qtU{d:Nat}{zs:List AV}(h:jg Tryz.prog (d+3) 24 zs): ∃(a:AV) (l:List (List Int)),zs= [a]∧l.length≤9223372036854775807∧(∀i,(l.getD i []).length≤9223372036854775807)∧ILe a (qw l):=by
 obtain⟨n,f,rfl,hn,hfi⟩:=jA Tryz.underlying24 h;have key: ∀i,i<n→ ∃x:(List Int),x.length≤9223372036854775807∧qbi (f i) [qI x]:=fun i hi=>qqy (hfi i hi)
 let l:List (List Int):=(List.range n).map fun i=>if hi:i<n then (key i hi).choose else []
 have hln:l.length=n:=by simp[l]
 have hg: ∀i (hi:i<n),l.getD i []=(key i hi).choose:=fun i hi=>by simp[l,gdqA,hi]
 refine⟨_,l,rfl,by rw[hln];unfold maxLen at hn;omega,?_,?_⟩
 ·intro i
  by_cases hi:i<n
  ·rw[hg i hi];exact (key i hi).choose_spec.1
  ·rw[gdqA,List.getElem?_eq_none om]
   first|exact nzl _|exact⟨nzl _,nzl _,fun _=>nzl _,fun _=>nzl _⟩
 ·unfold qw;rw[hln];refine ILe.sl (fun i hi=> ?_);rw[hg i hi];exact (key i hi).choose_spec.2
theorem qDA{d:Nat}{zs:List AV}(h:jg Tryz.prog (d+3) 87 zs): ∃r:Rd,r.words.length≤9223372036854775807∧qbi zs (rdC r):=by
 obtain⟨hl,hf⟩:=jv Tryz.underlying87 h;simp only[List.mem_cons,List.not_mem_nil,or_false,forall_eq_or_imp,forall_eq,qle,qtJ]at hf;obtain⟨h0,h1⟩:=hf;rw[qtO]at hl
 match zs,hl with
 | [a,b],_=>
  obtain⟨x,w,e0,l0,i0⟩:=qg1 h0;obtain⟨y,s,e1,l1,i1⟩:=qmr h1;simp at e0 e1;subst e0 e1;exact⟨⟨w,s⟩,l0,i0,i1,trivial⟩
theorem qAD{d:Nat}{zs:List AV}(h:jg Tryz.prog (d+4) 62 zs): ∃(a:AV) (l:List Rd),zs= [a]∧l.length≤9223372036854775807∧(∀i,(l.getD i default).words.length≤9223372036854775807)∧ILe a (jV l):=by
 obtain⟨n,f,rfl,hn,hfi⟩:=jA Tryz.underlying62 h;have key: ∀i,i<n→ ∃x:Rd,x.words.length≤9223372036854775807∧qbi (f i) (rdC x):=fun i hi=>qDA (hfi i hi)
 let l:List Rd:=(List.range n).map fun i=>if hi:i<n then (key i hi).choose else default
 have hln:l.length=n:=by simp[l]
 have hg: ∀i (hi:i<n),l.getD i default=(key i hi).choose:=fun i hi=>by simp[l,gdqA,hi]
 refine⟨_,l,rfl,by rw[hln];unfold maxLen at hn;omega,?_,?_⟩
 ·intro i
  by_cases hi:i<n
  ·rw[hg i hi];exact (key i hi).choose_spec.1
  ·rw[gdqA,List.getElem?_eq_none om]
   first|exact nzl _|exact⟨nzl _,nzl _,fun _=>nzl _,fun _=>nzl _⟩
 ·unfold jV;rw[hln];refine ILe.sl (fun i hi=> ?_);rw[hg i hi];exact (key i hi).choose_spec.2
theorem qDN{d:Nat}{zs:List AV}(h:jg Tryz.prog (d+5) 64 zs): ∃u:Un,(u.rds.length≤9223372036854775807∧ ∀j,(u.rds.getD j default).words.length≤9223372036854775807)∧qbi zs (unC u):=by
 obtain⟨hl,hf⟩:=jv Tryz.underlying64 h;simp only[List.mem_cons,List.not_mem_nil,or_false,forall_eq_or_imp,forall_eq,qfj,qtL]at hf;obtain⟨h0,h1,h2⟩:=hf;rw[qtM]at hl
 match zs,hl with
 | [a,b,c],_=>
  obtain⟨x0,e0⟩:=kS Tryz.underlying3 h0;obtain⟨x1,e1⟩:=kS Tryz.underlying3 h1;obtain⟨y,s,e2,l2,b2,i2⟩:=qAD h2;simp at e0 e1 e2;subst e0 e1 e2;exact⟨⟨x0,x1,s⟩,⟨l2,b2⟩,ILe.refl _,ILe.refl _,i2,trivial⟩
theorem qBb{d:Nat}{zs:List AV}(h:jg Tryz.prog (d+6) 28 zs): ∃(a:AV) (l:List Un),zs= [a]∧l.length≤9223372036854775807∧(∀i,(l.getD i default).rds.length≤9223372036854775807∧ ∀j,((l.getD i default).rds.getD j default).words.length≤9223372036854775807)∧ILe a (zS l):=by
 obtain⟨n,f,rfl,hn,hfi⟩:=jA Tryz.underlying28 h;have key: ∀i,i<n→ ∃x:Un,(x.rds.length≤9223372036854775807∧ ∀j,(x.rds.getD j default).words.length≤9223372036854775807)∧qbi (f i) (unC x):=fun i hi=>qDN (hfi i hi)
 let l:List Un:=(List.range n).map fun i=>if hi:i<n then (key i hi).choose else default
 have hln:l.length=n:=by simp[l]
 have hg: ∀i (hi:i<n),l.getD i default=(key i hi).choose:=fun i hi=>by simp[l,gdqA,hi]
 refine⟨_,l,rfl,by rw[hln];unfold maxLen at hn;omega,?_,?_⟩
 ·intro i
  by_cases hi:i<n
  ·rw[hg i hi];exact (key i hi).choose_spec.1
  ·rw[gdqA,List.getElem?_eq_none om]
   first|exact nzl _|exact⟨nzl _,fun _=>nzl _⟩|exact⟨nzl _,nzl _,fun _=>nzl _,fun _=>nzl _⟩
 ·unfold zS;rw[hln];refine ILe.sl (fun i hi=> ?_);rw[hg i hi];exact (key i hi).choose_spec.2
theorem qCA{d:Nat}{zs:List AV}(h:jg Tryz.prog (d+6) 26 zs): ∃x:Co,CoB x∧qbi zs (coC x):=by
 obtain⟨hl,hf⟩:=jv Tryz.underlying26 h;simp only[List.mem_cons,List.not_mem_nil,or_false,forall_eq_or_imp,forall_eq,qho,qle,qtF,qtG]at hf;obtain⟨h0,h1,h2,h3⟩:=hf;rw[qlf]at hl
 match zs,hl with
 | [a,b,c,e],_=>
  obtain⟨x0,e0⟩:=kT Tryz.underlying9 h0;obtain⟨a1,x1,e1,l1,i1⟩:=qg1 h1;obtain⟨a2,x2,e2,l2,_,i2⟩:=qv1 h2;obtain⟨a3,x3,e3,l3,_,i3⟩:=qtU h3;simp at e0 e1 e2 e3;subst e0 e1 e2 e3;exact⟨⟨x0,x1,x2,x3⟩,⟨l1,l2,l3⟩,ILe.refl _,i1,i2,i3,trivial⟩
theorem qCC{d:Nat}{zs:List AV}(h:jg Tryz.prog (d+7) 75 zs): ∃a:Cq,CqB a∧qbi zs (cqC a):=by
 obtain⟨hl,hf⟩:=jv Tryz.underlying75 h;simp only[List.mem_cons,List.not_mem_nil,or_false,forall_eq_or_imp,forall_eq,qfj,qlf,qtH,qtI]at hf;obtain⟨h0,h1,h2,h3⟩:=hf;rw[qtN]at hl
 match zs,hl with
 | [z0,z1,z2,z3,z4,z5,z6],_=>
  obtain⟨x,xb,xi⟩:=qCA h0;have xi:qbi [z0,z1,z2,z3] (coC x):=xi;obtain⟨j0,j1,j2,j3,_⟩:=xi;obtain⟨a1,y1,e1,l1,b1,i1⟩:=qBb h1;obtain⟨a2,y2,e2,l2,i2⟩:=qyk h2;obtain⟨x3,e3⟩:=kS Tryz.underlying3 h3;simp at e1 e2 e3;subst e1 e2 e3;exact⟨⟨x,y1,y2,x3⟩,⟨xb,⟨l1,fun i=>(b1 i).1,fun i=>(b1 i).2⟩,l2⟩,j0,j1,j2,j3,i1,i2,ILe.refl _,trivial⟩
theorem qvC{H:Type}{enc:TypeId×Value→H}{W:World}{base:Nat}{v:Value}{d:DataW H}{ps:List MemPlace}(hval:Value.okWide Tryz.prog W .any base 75 v)(h:DataW.Trod enc Tryz.prog W 0 (fun _=>true) true 75 v d ps):
  ∃a:Cq,CqB a∧VR W [] (.agg (cqC a)) v:=by
 unfold Value.okWide at hval;rw[Tryz.underlying75]at hval;simp only at hval;obtain⟨cs,rfl,_,_⟩:=hval;obtain⟨zs,hg,hvi⟩:=qhR (ow:=AF.own []) qmZ qyn h;obtain⟨a,h1,hil⟩:=qCC hg;exact⟨a,h1,.imm (ILe.agg hil _ _ _ hvi)⟩
theorem qez(os:Os)(started:os.Started)(H:Type)(enc:TypeId×Value→H):
  ReturnsInHanded {} Tryz.checked os 7 .any (fun w args=>(Rows.decisionOthersSpec.pre enc Tryz.prog Tryz.f7 Rows.decisionOthersRow.domain false w args∧laidMetH Tryz.prog Rows.decisionOthersRow.laid w)∧sizedMet enc Tryz.prog Tryz.f7 (OpenSpec.ofChange Rows.decisionOthersSpec) false w args)
   (Rows.decisionOthersSpec.post enc Tryz.prog Tryz.f7 false true false false):=by
 refine returnsInHanded_of_change_and (C:=Tryz.checked) (X:=fun w _=>laidMetH Tryz.prog Rows.decisionOthersRow.laid w) (fun _ _ _ hh h=>h.of_heap hh) own started (by kernel_rfl) Tryz.func7
  (ChangeSpec.witness_shaped (enc:=enc) (C:=Tryz.checked) (os:=os) (X:=fun w _=>laidMetH Tryz.prog Rows.decisionOthersRow.laid w) false (World.laidAll Tryz.prog os Rows.decisionOthersRow.laid) #[.agg #[.string ByteArray.empty,.slice none 0 0,.slice none 0 0,.slice none 0 0,.slice none 0 0,.slice none 0 0,.int .i64 0],.agg #[.int .i64 0,.string ByteArray.empty,.int .i64 0,.string ByteArray.empty]] 8 (World.laidAll_os _ _ _)
   (World.shaped_of_ZipB (by kernel_rfl) (by kernel_rfl)) (by kernel_rfl) (by kernel_rfl) (by kernel_rfl)
   (by rw[MakeChecks.laidMetH_plain _ _ _ (by kernel_rfl)];exact laidMet_laidAll _ (by kernel_rfl) (by kernel_rfl))) ?_
 intro W base args ds gs before hval hW _ _ hX _;have hX:laidMetH Tryz.prog Rows.decisionOthersRow.laid W:=hX;rw[MakeChecks.laidMetH_plain _ _ _ (by kernel_rfl)]at hX;refine qfD (tb:=4) (bs:=qcD) (G:=qAZ) laid rfl ?_ (by kernel_rfl) Tryz.underlying4 ?_ hW (qru hX) (qvT hX) ?_
 ·intro ds' h'
  match ds',h' with
  | [a0,a1],_=>rfl
 ·intro t ht;rw[show Tryz.f7.params.toList= [75,43] by rw[Tryz.params7]]at ht;simp only[List.mem_cons,List.not_mem_nil,or_false]at ht;rcases ht with rfl|rfl<;>exact⟨by kernel_rfl,of_decide_eq_true (by kernel_rfl)⟩
 ·intro p hA;rw[Tryz.params7]at hA hval;obtain⟨v0,v1,d0,d1,p0,p1,rfl,rfl,h0,h1⟩:=qon hA;obtain⟨cq0,hb0,hv0⟩:=qvC (hval 0 75 v0 rfl rfl) h0;obtain⟨o1,hv1⟩:=qrf (hval 1 43 v1 rfl rfl) h1;refine⟨by rw[Tryz.params7];rfl,[(.agg (cqC cq0)),(.agg (dcC o1))],?_,qAf cq0 o1 [.pin qcD qAZ] qvS qvR hb0⟩;exact VRs.cons' hv0 (VRs.cons' hv1 (VRs.nil'))
end Go.Proofs.YthjkfdakolejgaaGreatDoor
