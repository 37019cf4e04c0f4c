import Derived.Test.YtmieflnoheifbaaGreatDoorK0
import Derived.Test.YtmieflnoheifbaaGreatDoorK18
import Derived.Test.YtmieflnoheifbaaGreatDoorK9
import Derived.Test.YtmieflnoheifbaaGreatDoorK6
import Derived.Test.YtmieflnoheifbaaGreatDoorRows
import Derived.Test.YtmieflnoheifbaaGreatDoorTie
import Derived.Test.YtmieflnoheifbaaGreatDoorCards
import Derived.ProofKit
import Derived.ChangeMaps5
import Derived.OpenShut
import Derived.LaidMore
import Derived.Lay
import Derived.SevenTiedAt
import Derived.Stop.Joined
set_option linter.all false
open Go Go.Proofs AF HY RC LN Go.ChangeShapes Go.WideShapes Go.ChangeAt Go.RowKit
set_option maxRecDepth 100000
namespace Go.Proofs.YtmieflnoheifbaaGreatDoor
theorem own:ownKnob Tryz.prog.godebug=none:=by kernel_rfl
theorem laid:laidOutB Tryz.prog=true:=wp1
theorem qmT{H:Type}{enc:TypeId×Value->H}{P:Program}{w:World}{base:Nat}{spare:Nat->Bool}{held:Bool}{t0 t1 t2 t3:TypeId}{args:Array Value}{ds:List (DataW H)}{ps:List MemPlace}
  (h:DataW.TrodAll enc P w base spare held [t0,t1,t2,t3] args.toList ds ps):
  ∃v0 v1 v2 v3 d0 d1 d2 d3 p0 p1 p2 p3,args= #[v0,v1,v2,v3]∧ds= [d0,d1,d2,d3]∧DataW.Trod enc P w base spare held t0 v0 d0 p0∧DataW.Trod enc P w base spare held t1 v1 d1 p1∧DataW.Trod enc P w base spare held t2 v2 d2 p2∧DataW.Trod enc P w base spare held t3 v3 d3 p3:=by
 obtain⟨v0,vs0,d0,ds0,p0,q0,hargs,rfl,rfl,hd0,hr0⟩:=trodAll_cons h;obtain⟨v1,vs1,d1,ds1,p1,q1,rfl,rfl,rfl,hd1,hr1⟩:=trodAll_cons hr0;obtain⟨v2,vs2,d2,ds2,p2,q2,rfl,rfl,rfl,hd2,hr2⟩:=trodAll_cons hr1;obtain⟨v3,vs3,d3,ds3,p3,q3,rfl,rfl,rfl,hd3,hr3⟩:=trodAll_cons hr2;obtain⟨rfl,rfl,rfl⟩:=trodAll_nil hr3;exact⟨v0,v1,v2,v3,d0,d1,d2,d3,p0,p1,p2,p3,by cases args;simp_all,rfl,hd0,hd1,hd2,hd3⟩
theorem qcN:Tryz.prog.cellsOf 3=1:=by kernel_rfl
theorem qw1:Tryz.prog.cellsOf 4=1:=by kernel_rfl
theorem qeh:Tryz.prog.cellsOf 9=1:=by kernel_rfl
theorem qj2:Tryz.prog.cellsOf 22=1:=by kernel_rfl
theorem qsu:Tryz.prog.cellsOf 23=1:=by kernel_rfl
theorem qsv:Tryz.prog.cellsOf 24=1:=by kernel_rfl
theorem qj3:Tryz.prog.cellsOf 26=4:=by kernel_rfl
theorem qsw:Tryz.prog.cellsOf 31=1:=by kernel_rfl
theorem qsx:Tryz.prog.cellsOf 37=1:=by kernel_rfl
theorem qsy:Tryz.prog.cellsOf 39=3:=by kernel_rfl
theorem qsz:Tryz.prog.cellsOf 41=1:=by kernel_rfl
theorem qsA:Tryz.prog.cellsOf 51=1:=by kernel_rfl
theorem qsB:Tryz.prog.cellsOf 59=7:=by kernel_rfl
theorem qsC:Tryz.prog.cellsOf 65=4:=by kernel_rfl
theorem qn6:Tryz.prog.cellsOf 117=2:=by kernel_rfl
theorem qn7:Tryz.prog.cellsOf 119=6:=by kernel_rfl
theorem qn8:Tryz.prog.cellsOf 133=7:=by kernel_rfl
theorem qn9:Tryz.prog.cellsOf 152=2:=by kernel_rfl
theorem qxc:UL Tryz.prog 8 45=true:=by kernel_rfl
theorem qxe:UL Tryz.prog 8 65=true:=by kernel_rfl
theorem qxd:UL Tryz.prog 8 59=true:=by kernel_rfl
theorem jj{d:Nat}{t:TypeId}{fs:Array Field}{zs:wj}(ht:Tryz.prog.underlying t=some (.struct fs))(h:zX Tryz.prog (d+1) t zs):zs.length=Tryz.prog.cellsOf t∧ ∀f∈fs.toList,zX Tryz.prog d f.type ((zs.drop f.offset).take (Tryz.prog.cellsOf f.type)):=by
 unfold zX at h;rw[ht]at h;exact h
theorem jm{d:Nat}{t e:TypeId}{zs:wj}(ht:Tryz.prog.underlying t=some (.slice e))(h:zX Tryz.prog (d+1) t zs): ∃(n:Nat) (f:Nat->wj),zs= [.sl n f]∧n<=maxLen∧ ∀i,i<n->zX Tryz.prog d e (f i):=by
 unfold zX at h;rw[ht]at h;exact h
theorem jI{d:Nat}{t:TypeId}{k:IntKind}{zs:wj}(ht:Tryz.prog.underlying t=some (.int k))(h:zX Tryz.prog (d+1) t zs): ∃n,zs= [.int k n]:=by
 unfold zX at h;rw[ht]at h;obtain⟨n,h,_⟩:=h;exact⟨n,h⟩
theorem qet{d:Nat}{t:TypeId}{zs:wj}(ht:Tryz.prog.underlying t=some .bool)(h:zX Tryz.prog (d+1) t zs): ∃n,zs= [.bool n]:=by
 unfold zX at h;rw[ht]at h;exact h
theorem jW{d:Nat}{t:TypeId}{zs:wj}(ht:Tryz.prog.underlying t=some .string)(h:zX Tryz.prog (d+1) t zs): ∃n,zs= [.str n]:=by
 unfold zX at h;rw[ht]at h;obtain⟨n,h,_⟩:=h;exact⟨n,h⟩
theorem qDl{d:Nat}{zs:wj}(h:zX Tryz.prog (d+2) 133 zs): ∃x:Wd,zs=wdC x:=by
 obtain⟨hl,hf⟩:=jj Tryz.underlying133 h;simp only[List.mem_cons,List.not_mem_nil,or_false,forall_eq_or_imp,forall_eq,qcN,qw1,qeh]at hf;obtain⟨h0,h1,h2,h3,h4,h5,h6⟩:=hf;rw[qn8]at hl
 match zs,hl with
 | [z0,z1,z2,z3,z4,z5,z6],_=>
  obtain⟨x0,e0⟩:=jW Tryz.underlying9 h0;obtain⟨x1,e1⟩:=jI Tryz.underlying3 h1;obtain⟨x2,e2⟩:=jI Tryz.underlying3 h2;obtain⟨x3,e3⟩:=jI Tryz.underlying3 h3;obtain⟨x4,e4⟩:=qet Tryz.underlying4 h4;obtain⟨x5,e5⟩:=qet Tryz.underlying4 h5;obtain⟨x6,e6⟩:=jW Tryz.underlying9 h6;simp at e0 e1 e2 e3 e4 e5 e6;subst e0 e1 e2 e3 e4 e5 e6;exact⟨⟨x0,x1,x2,x3,x4,x5,x6⟩,rfl⟩
theorem qAG{d:Nat}{zs:wj}(h:zX Tryz.prog (d+3) 45 zs): ∃(a:AV) (l:List Wd),zs= [a]∧l.length<=9223372036854775807∧ILe a (kn l):=by
 obtain⟨n,f,rfl,hn,hfi⟩:=jm Tryz.underlying45 h;have key: ∀i,i<n-> ∃x:Wd,f i=wdC x:=λi hi=>qDl (hfi i hi)
 let l:List Wd:=(List.range n).map λi=>if hi:i<n then (key i hi).choose else default
 have hln:l.length=n:=by simp[l]
 have hg: ∀i (hi:i<n),l.getD i default=(key i hi).choose:=λi hi=>by simp[l,gdqA,hi]
 refine⟨_,l,rfl,by rw[hln];unfold maxLen at hn;omega,?_⟩
 ·unfold kn;rw[hln];refine ILe.sl_eq (λi hi=> ?_);rw[hg i hi];exact (key i hi).choose_spec
theorem qpA{W:World}{base:Nat}{t e:TypeId}{v:Value}(ht:Tryz.prog.underlying t=some (.slice e))(hval:Value.okWide Tryz.prog W .any base t v):v.cells= #[v]:=by
 unfold Value.okWide at hval;rw[ht]at hval;simp only at hval;unfold Cell.okWide Cell.ok at hval;rw[ht]at hval;cases v<;>first|rfl|(exfalso;simp at hval)
theorem qw9{d:Nat}{zs:wj}(h:zX Tryz.prog (d+2) 65 zs): ∃x:Dc,zs=dcC x:=by
 obtain⟨hl,hf⟩:=jj Tryz.underlying65 h;simp only[List.mem_cons,List.not_mem_nil,or_false,forall_eq_or_imp,forall_eq,qcN,qeh]at hf;obtain⟨h0,h1,h2,h3⟩:=hf;rw[qsC]at hl
 match zs,hl with
 | [z0,z1,z2,z3],_=>
  obtain⟨x0,e0⟩:=jI Tryz.underlying3 h0;obtain⟨x1,e1⟩:=jW Tryz.underlying9 h1;obtain⟨x2,e2⟩:=jI Tryz.underlying3 h2;obtain⟨x3,e3⟩:=jW Tryz.underlying9 h3;simp at e0 e1 e2 e3;subst e0 e1 e2 e3;exact⟨⟨x0,x1,x2,x3⟩,rfl⟩
theorem qxa{d:Nat}{zs:wj}(h:zX Tryz.prog (d+3) 41 zs): ∃(a:AV) (l:List Dc),zs= [a]∧l.length<=9223372036854775807∧ILe a (kq l):=by
 obtain⟨n,f,rfl,hn,hfi⟩:=jm Tryz.underlying41 h;have key: ∀i,i<n-> ∃x:Dc,f i=dcC x:=λi hi=>qw9 (hfi i hi)
 let l:List Dc:=(List.range n).map λi=>if hi:i<n then (key i hi).choose else default
 have hln:l.length=n:=by simp[l]
 have hg: ∀i (hi:i<n),l.getD i default=(key i hi).choose:=λi hi=>by simp[l,gdqA,hi]
 refine⟨_,l,rfl,by rw[hln];unfold maxLen at hn;omega,?_⟩
 ·unfold kq;rw[hln];refine ILe.sl_eq (λi hi=> ?_);rw[hg i hi];exact (key i hi).choose_spec
theorem qpO{H:Type}{enc:TypeId×Value->H}{W:World}{base:Nat}{v:Value}{d:DataW H}{ps:List MemPlace}(hval:Value.okWide Tryz.prog W .any base 65 v)(h:DataW.Trod enc Tryz.prog W 0 (λ_=>true) true 65 v d ps):
  ∃x:Dc,VR W [] (.agg (dcC x)) v:=by
 unfold Value.okWide at hval;rw[Tryz.underlying65]at hval;simp only at hval;obtain⟨cs,rfl,_,_⟩:=hval;obtain⟨zs,hg,hvi⟩:=qgS (ow:=AF.own []) qfy qxe h;obtain⟨x,rfl⟩:=qw9 hg;exact⟨x,.imm hvi⟩
theorem ql2{H:Type}{enc:TypeId×Value->H}{W:World}{base:Nat}{v:Value}{d:DataW H}{ps:List MemPlace}(hval:Value.okWide Tryz.prog W .any base 45 v)(h:DataW.Trod enc Tryz.prog W 0 (λ_=>true) true 45 v d ps):
  ∃l:List Wd,l.length<=9223372036854775807∧VR W [] (kn l) v:=by
 obtain⟨z,hg,hvi⟩:=qpP (ow:=AF.own []) qfy qxc (qpA Tryz.underlying45 hval) h;obtain⟨a,ps,e,hl,hil⟩:=qAG hg;simp at e;subst e;exact⟨ps,hl,.imm (hil _ _ _ hvi)⟩
theorem qf0{d:Nat}{zs:wj}(h:zX Tryz.prog (d+2) 22 zs): ∃(a:AV) (l:List (List UInt8)),zs= [a]∧l.length<=9223372036854775807∧ILe a (HY.strs l):=by
 obtain⟨n,f,rfl,hn,hfi⟩:=jm Tryz.underlying22 h;have key: ∀i,i<n-> ∃x:(List UInt8),f i= [.str x]:=λi hi=>jW Tryz.underlying9 (hfi i hi)
 let l:List (List UInt8):=(List.range n).map λi=>if hi:i<n then (key i hi).choose else []
 have hln:l.length=n:=by simp[l]
 have hg: ∀i (hi:i<n),l.getD i []=(key i hi).choose:=λi hi=>by simp[l,gdqA,hi]
 refine⟨_,l,rfl,by rw[hln];unfold maxLen at hn;omega,?_⟩
 ·unfold HY.strs;rw[hln];refine ILe.sl_eq (λi hi=> ?_);rw[hg i hi];exact (key i hi).choose_spec
theorem qk9{d:Nat}{zs:wj}(h:zX Tryz.prog (d+2) 51 zs): ∃(a:AV) (l:List Int),zs= [a]∧l.length<=9223372036854775807∧ILe a (qv l):=by
 obtain⟨n,f,rfl,hn,hfi⟩:=jm Tryz.underlying51 h;have key: ∀i,i<n-> ∃x:Int,f i= [.int .i64 x]:=λi hi=>jI Tryz.underlying3 (hfi i hi)
 let l:List Int:=(List.range n).map λi=>if hi:i<n then (key i hi).choose else 0
 have hln:l.length=n:=by simp[l]
 have hg: ∀i (hi:i<n),l.getD i 0=(key i hi).choose:=λi hi=>by simp[l,gdqA,hi]
 refine⟨_,l,rfl,by rw[hln];unfold maxLen at hn;omega,?_⟩
 ·unfold qv;rw[hln];refine ILe.sl_eq (λi hi=> ?_);rw[hg i hi];exact (key i hi).choose_spec
theorem qo6{d:Nat}{zs:wj}(h:zX Tryz.prog (d+2) 51 zs): ∃l:List Int,l.length<=9223372036854775807∧qan zs [qv l]:=by
 obtain⟨a,l,rfl,hl,hi⟩:=qk9 h;exact⟨l,hl,hi,trivial⟩
theorem qC4{d:Nat}{zs:wj}(h:zX Tryz.prog (d+3) 119 zs): ∃x:Tk,zs=tkC x:=by
 obtain⟨hl,hf⟩:=jj Tryz.underlying119 h;simp only[List.mem_cons,List.not_mem_nil,or_false,forall_eq_or_imp,forall_eq,qcN,qeh,qn6]at hf;obtain⟨h0,h1,h2,h3,h4⟩:=hf;rw[qn7]at hl
 match zs,hl with
 | [z0,z1,z2,z3,z4,z5],_=>
  obtain⟨hp,hg⟩:=jj Tryz.underlying117 h2;simp only[List.mem_cons,List.not_mem_nil,or_false,forall_eq_or_imp,forall_eq,qeh,qcN]at hg;obtain⟨g0,g1⟩:=hg;obtain⟨x0,e0⟩:=jW Tryz.underlying9 h0;obtain⟨x1,e1⟩:=jW Tryz.underlying9 h1;obtain⟨x2,e2⟩:=jW Tryz.underlying9 g0;obtain⟨x3,e3⟩:=jI Tryz.underlying3 g1;obtain⟨x4,e4⟩:=jI Tryz.underlying3 h3;obtain⟨x5,e5⟩:=jW Tryz.underlying9 h4;simp at e0 e1 e2 e3 e4 e5;subst e0 e1 e2 e3 e4 e5;exact⟨⟨x0,x1,x2,x3,x4,x5⟩,rfl⟩
theorem qAh{d:Nat}{zs:wj}(h:zX Tryz.prog (d+4) 115 zs): ∃(a:AV) (l:List Tk),zs= [a]∧l.length<=9223372036854775807∧ILe a (zJ l):=by
 obtain⟨n,f,rfl,hn,hfi⟩:=jm Tryz.underlying115 h;have key: ∀i,i<n-> ∃x:Tk,f i=tkC x:=λi hi=>qC4 (hfi i hi)
 let l:List Tk:=(List.range n).map λi=>if hi:i<n then (key i hi).choose else default
 have hln:l.length=n:=by simp[l]
 have hg: ∀i (hi:i<n),l.getD i default=(key i hi).choose:=λi hi=>by simp[l,gdqA,hi]
 refine⟨_,l,rfl,by rw[hln];unfold maxLen at hn;omega,?_⟩
 ·unfold zJ;rw[hln];refine ILe.sl_eq (λi hi=> ?_);rw[hg i hi];exact (key i hi).choose_spec
theorem quH{d:Nat}{zs:wj}(h:zX Tryz.prog (d+4) 115 zs): ∃l:List Tk,l.length<=9223372036854775807∧qan zs [zJ l]:=by
 obtain⟨a,l,rfl,hl,hi⟩:=qAh h;exact⟨l,hl,hi,trivial⟩
theorem quI{d:Nat}{zs:wj}(h:zX Tryz.prog (d+5) 23 zs): ∃(a:AV) (l:List (List Tk)),zs= [a]∧l.length<=9223372036854775807∧(∀i,(l.getD i []).length<=9223372036854775807)∧ILe a (qm l):=by
 obtain⟨n,f,rfl,hn,hfi⟩:=jm Tryz.underlying23 h;have key: ∀i,i<n-> ∃x:(List Tk),x.length<=9223372036854775807∧qan (f i) [zJ x]:=λi hi=>quH (hfi i hi)
 let l:List (List Tk):=(List.range n).map λi=>if hi:i<n then (key i hi).choose else []
 have hln:l.length=n:=by simp[l]
 have hg: ∀i (hi:i<n),l.getD i []=(key i hi).choose:=λi hi=>by simp[l,gdqA,hi]
 refine⟨_,l,rfl,by rw[hln];unfold maxLen at hn;omega,?_,?_⟩
 ·intro i
  by_cases hi:i<n
  ·rw[hg i hi];exact (key i hi).choose_spec.1
  ·rw[gdqA,List.getElem?_eq_none om]
   first|exact nzl _|exact⟨nzl _,nzl _,λ_=>nzl _,λ_=>nzl _⟩
 ·unfold qm;rw[hln];refine ILe.sl (λi hi=> ?_);rw[hg i hi];exact (key i hi).choose_spec.2
theorem qsI{d:Nat}{zs:wj}(h:zX Tryz.prog (d+3) 24 zs): ∃(a:AV) (l:List (List Int)),zs= [a]∧l.length<=9223372036854775807∧(∀i,(l.getD i []).length<=9223372036854775807)∧ILe a (qu l):=by
 obtain⟨n,f,rfl,hn,hfi⟩:=jm Tryz.underlying24 h;have key: ∀i,i<n-> ∃x:(List Int),x.length<=9223372036854775807∧qan (f i) [qv x]:=λi hi=>qo6 (hfi i hi)
 let l:List (List Int):=(List.range n).map λi=>if hi:i<n then (key i hi).choose else []
 have hln:l.length=n:=by simp[l]
 have hg: ∀i (hi:i<n),l.getD i []=(key i hi).choose:=λi hi=>by simp[l,gdqA,hi]
 refine⟨_,l,rfl,by rw[hln];unfold maxLen at hn;omega,?_,?_⟩
 ·intro i
  by_cases hi:i<n
  ·rw[hg i hi];exact (key i hi).choose_spec.1
  ·rw[gdqA,List.getElem?_eq_none om]
   first|exact nzl _|exact⟨nzl _,nzl _,λ_=>nzl _,λ_=>nzl _⟩
 ·unfold qu;rw[hln];refine ILe.sl (λi hi=> ?_);rw[hg i hi];exact (key i hi).choose_spec.2
theorem qCY{d:Nat}{zs:wj}(h:zX Tryz.prog (d+3) 152 zs): ∃r:Rd,r.words.length<=9223372036854775807∧qan zs (rdC r):=by
 obtain⟨hl,hf⟩:=jj Tryz.underlying152 h;simp only[List.mem_cons,List.not_mem_nil,or_false,forall_eq_or_imp,forall_eq,qj2,qsA]at hf;obtain⟨h0,h1⟩:=hf;rw[qn9]at hl
 match zs,hl with
 | [a,b],_=>
  obtain⟨x,w,e0,l0,i0⟩:=qf0 h0;obtain⟨y,s,e1,l1,i1⟩:=qk9 h1;simp at e0 e1;subst e0 e1;exact⟨⟨w,s⟩,l0,i0,i1,trivial⟩
theorem qzK{d:Nat}{zs:wj}(h:zX Tryz.prog (d+4) 37 zs): ∃(a:AV) (l:List Rd),zs= [a]∧l.length<=9223372036854775807∧(∀i,(l.getD i default).words.length<=9223372036854775807)∧ILe a (ji l):=by
 obtain⟨n,f,rfl,hn,hfi⟩:=jm Tryz.underlying37 h;have key: ∀i,i<n-> ∃x:Rd,x.words.length<=9223372036854775807∧qan (f i) (rdC x):=λi hi=>qCY (hfi i hi)
 let l:List Rd:=(List.range n).map λi=>if hi:i<n then (key i hi).choose else default
 have hln:l.length=n:=by simp[l]
 have hg: ∀i (hi:i<n),l.getD i default=(key i hi).choose:=λi hi=>by simp[l,gdqA,hi]
 refine⟨_,l,rfl,by rw[hln];unfold maxLen at hn;omega,?_,?_⟩
 ·intro i
  by_cases hi:i<n
  ·rw[hg i hi];exact (key i hi).choose_spec.1
  ·rw[gdqA,List.getElem?_eq_none om]
   first|exact nzl _|exact⟨nzl _,nzl _,λ_=>nzl _,λ_=>nzl _⟩
 ·unfold ji;rw[hln];refine ILe.sl (λi hi=> ?_);rw[hg i hi];exact (key i hi).choose_spec.2
theorem qC8{d:Nat}{zs:wj}(h:zX Tryz.prog (d+5) 39 zs): ∃u:Un,(u.rds.length<=9223372036854775807∧ ∀j,(u.rds.getD j default).words.length<=9223372036854775807)∧qan zs (unC u):=by
 obtain⟨hl,hf⟩:=jj Tryz.underlying39 h;simp only[List.mem_cons,List.not_mem_nil,or_false,forall_eq_or_imp,forall_eq,qcN,qsx]at hf;obtain⟨h0,h1,h2⟩:=hf;rw[qsy]at hl
 match zs,hl with
 | [a,b,c],_=>
  obtain⟨x0,e0⟩:=jI Tryz.underlying3 h0;obtain⟨x1,e1⟩:=jI Tryz.underlying3 h1;obtain⟨y,s,e2,l2,b2,i2⟩:=qzK h2;simp at e0 e1 e2;subst e0 e1 e2;exact⟨⟨x0,x1,s⟩,⟨l2,b2⟩,ILe.refl _,ILe.refl _,i2,trivial⟩
theorem qAl{d:Nat}{zs:wj}(h:zX Tryz.prog (d+6) 31 zs): ∃(a:AV) (l:List Un),zs= [a]∧l.length<=9223372036854775807∧(∀i,(l.getD i default).rds.length<=9223372036854775807∧ ∀j,((l.getD i default).rds.getD j default).words.length<=9223372036854775807)∧ILe a (ze l):=by
 obtain⟨n,f,rfl,hn,hfi⟩:=jm Tryz.underlying31 h;have key: ∀i,i<n-> ∃x:Un,(x.rds.length<=9223372036854775807∧ ∀j,(x.rds.getD j default).words.length<=9223372036854775807)∧qan (f i) (unC x):=λi hi=>qC8 (hfi i hi)
 let l:List Un:=(List.range n).map λi=>if hi:i<n then (key i hi).choose else default
 have hln:l.length=n:=by simp[l]
 have hg: ∀i (hi:i<n),l.getD i default=(key i hi).choose:=λi hi=>by simp[l,gdqA,hi]
 refine⟨_,l,rfl,by rw[hln];unfold maxLen at hn;omega,?_,?_⟩
 ·intro i
  by_cases hi:i<n
  ·rw[hg i hi];exact (key i hi).choose_spec.1
  ·rw[gdqA,List.getElem?_eq_none om]
   first|exact nzl _|exact⟨nzl _,λ_=>nzl _⟩|exact⟨nzl _,nzl _,λ_=>nzl _,λ_=>nzl _⟩
 ·unfold ze;rw[hln];refine ILe.sl (λi hi=> ?_);rw[hg i hi];exact (key i hi).choose_spec.2
theorem qBW{d:Nat}{zs:wj}(h:zX Tryz.prog (d+6) 26 zs): ∃x:Co,CoB x∧qan zs (coC x):=by
 obtain⟨hl,hf⟩:=jj Tryz.underlying26 h;simp only[List.mem_cons,List.not_mem_nil,or_false,forall_eq_or_imp,forall_eq,qeh,qj2,qsu,qsv]at hf;obtain⟨h0,h1,h2,h3⟩:=hf;rw[qj3]at hl
 match zs,hl with
 | [a,b,c,e],_=>
  obtain⟨x0,e0⟩:=jW Tryz.underlying9 h0;obtain⟨a1,x1,e1,l1,i1⟩:=qf0 h1;obtain⟨a2,x2,e2,l2,_,i2⟩:=quI h2;obtain⟨a3,x3,e3,l3,_,i3⟩:=qsI h3;simp at e0 e1 e2 e3;subst e0 e1 e2 e3;exact⟨⟨x0,x1,x2,x3⟩,⟨l1,l2,l3⟩,ILe.refl _,i1,i2,i3,trivial⟩
theorem qBY{d:Nat}{zs:wj}(h:zX Tryz.prog (d+7) 59 zs): ∃a:Cq,CqB a∧qan zs (cqC a):=by
 obtain⟨hl,hf⟩:=jj Tryz.underlying59 h;simp only[List.mem_cons,List.not_mem_nil,or_false,forall_eq_or_imp,forall_eq,qcN,qj3,qsw,qsz]at hf;obtain⟨h0,h1,h2,h3⟩:=hf;rw[qsB]at hl
 match zs,hl with
 | [z0,z1,z2,z3,z4,z5,z6],_=>
  obtain⟨x,xb,xi⟩:=qBW h0;have xi:qan [z0,z1,z2,z3] (coC x):=xi;obtain⟨j0,j1,j2,j3,_⟩:=xi;obtain⟨a1,y1,e1,l1,b1,i1⟩:=qAl h1;obtain⟨a2,y2,e2,l2,i2⟩:=qxa h2;obtain⟨x3,e3⟩:=jI Tryz.underlying3 h3;simp at e1 e2 e3;subst e1 e2 e3;exact⟨⟨x,y1,y2,x3⟩,⟨xb,⟨l1,λi=>(b1 i).1,λi=>(b1 i).2⟩,l2⟩,j0,j1,j2,j3,i1,i2,ILe.refl _,trivial⟩
theorem qui{H:Type}{enc:TypeId×Value->H}{W:World}{base:Nat}{v:Value}{d:DataW H}{ps:List MemPlace}(hval:Value.okWide Tryz.prog W .any base 59 v)(h:DataW.Trod enc Tryz.prog W 0 (λ_=>true) true 59 v d ps):
  ∃a:Cq,CqB a∧VR W [] (.agg (cqC a)) v:=by
 unfold Value.okWide at hval;rw[Tryz.underlying59]at hval;simp only at hval;obtain⟨cs,rfl,_,_⟩:=hval;obtain⟨zs,hg,hvi⟩:=qgS (ow:=AF.own []) qfy qxd h;obtain⟨a,h1,hil⟩:=qBY hg;exact⟨a,h1,.imm (ILe.agg hil _ _ _ hvi)⟩
theorem qdk(os:Os)(started:os.Started)(H:Type)(enc:TypeId×Value->H):
  ReturnsInHanded {} Tryz.checked os 5 .any (λw args=>(Rows.decisionChecksSpec.pre enc Tryz.prog Tryz.f5 Rows.decisionChecksRow.domain false w args∧laidMetH Tryz.prog Rows.decisionChecksRow.laid w)∧sizedMet enc Tryz.prog Tryz.f5 (OpenSpec.ofChange Rows.decisionChecksSpec) false w args)
   (Rows.decisionChecksSpec.post enc Tryz.prog Tryz.f5 false true false false):=by
 refine returnsInHanded_of_change_and (C:=Tryz.checked) (X:=λw _=>laidMetH Tryz.prog Rows.decisionChecksRow.laid w) (λ_ _ _ hh h=>h.of_heap hh) own started (by kernel_rfl) Tryz.func5
  (ChangeSpec.witness_shaped (enc:=enc) (C:=Tryz.checked) (os:=os) (X:=λw _=>laidMetH Tryz.prog Rows.decisionChecksRow.laid w) false (World.laidAll Tryz.prog os Rows.decisionChecksRow.laid) #[.agg #[.string ByteArray.empty,.slice none 0 0,.slice none 0 0,.slice none 0 0,.slice none 0 0,.slice none 0 0,.int .i64 0],.agg #[.int .i64 0,.string ByteArray.empty,.int .i64 0,.string ByteArray.empty],.slice none 0 0,.int .i64 0] 8 (World.laidAll_os _ _ _)
   (World.shaped_of_ZipB (by kernel_rfl) (by kernel_rfl)) (by kernel_rfl) (by kernel_rfl) (by kernel_rfl)
   (by rw[MakeChecks.laidMetH_plain _ _ _ (by kernel_rfl)];exact laidMet_laidAll _ (by kernel_rfl) (by kernel_rfl))) ?_
 intro W base args ds gs before hval hW _ _ hX _;have hX:laidMetH Tryz.prog Rows.decisionChecksRow.laid W:=hX;rw[MakeChecks.laidMetH_plain _ _ _ (by kernel_rfl)]at hX;refine qeA (tb:=4) (bs:=qbH) (G:=qz6) laid rfl ?_ (by kernel_rfl) Tryz.underlying4 ?_ hW (qp7 hX) (quz hX) ?_
 ·intro ds' h'
  match ds',h' with
  | [a0,a1,a2,a3],_=>rfl
 ·intro t ht;rw[show Tryz.f5.params.toList= [59,65,45,3] by rw[Tryz.params5]]at ht;simp only[List.mem_cons,List.not_mem_nil,or_false]at ht;rcases ht with rfl|rfl|rfl|rfl<;>exact⟨by kernel_rfl,of_decide_eq_true (by kernel_rfl)⟩
 ·intro p hA;rw[Tryz.params5]at hA hval;obtain⟨v0,v1,v2,v3,d0,d1,d2,d3,p0,p1,p2,p3,rfl,rfl,h0,h1,h2,h3⟩:=qmT hA;obtain⟨cq0,hb0,hv0⟩:=qui (hval 0 59 v0 rfl rfl) h0;obtain⟨o1,hv1⟩:=qpO (hval 1 65 v1 rfl rfl) h1;obtain⟨l2,hl2,hv2⟩:=ql2 (hval 2 45 v2 rfl rfl) h2;obtain⟨n3,rfl,_,_,w3⟩:=open_int Tryz.underlying3 (hval 3 3 v3 rfl rfl) h3;have hl3:(-9223372036854775808:Int)<=n3∧n3<=9223372036854775807:=by simpa[Lit.wf,IntKind.min,IntKind.max,IntKind.signed,IntKind.bits] using w3
  refine⟨by rw[Tryz.params5];rfl,[(.agg (cqC cq0)),(.agg (dcC o1)),kn l2,.int .i64 n3],?_,qzi cq0 o1 l2 n3 [.pin qbH qz6] quy qux hb0 hl2⟩;exact VRs.cons' hv0 (VRs.cons' hv1 (VRs.cons' hv2 (VRs.cons' (.imm .int) (VRs.nil'))))
end Go.Proofs.YtmieflnoheifbaaGreatDoor
