import Derived.Test.YtgoandblgcjleaaGreatDoorK0
import Derived.Test.YtgoandblgcjleaaGreatDoorK18
import Derived.Test.YtgoandblgcjleaaGreatDoorK10
import Derived.Test.YtgoandblgcjleaaGreatDoorK6
import Derived.Test.YtgoandblgcjleaaGreatDoorRows
import Derived.Test.YtgoandblgcjleaaGreatDoorTie
import Derived.Test.YtgoandblgcjleaaGreatDoorCards
import Derived.ProofKit
import Derived.ChangeMaps5
import Derived.OpenShut
import Derived.LaidMore
import Derived.Lay
import Derived.SevenTiedAt
import Derived.Stop.Joined
set_option linter.all false
set_option linter.unusedSimpArgs false
set_option linter.unusedVariables false
set_option linter.unusedSectionVars false
open Go Go.Proofs AF HY RC LN Go.ChangeShapes Go.WideShapes Go.ChangeAt Go.RowKit
set_option maxRecDepth 100000
namespace Go.Proofs.YtgoandblgcjleaaGreatDoor
theorem own:ownKnob Tryz.prog.godebug=none:=by kernel_rfl
theorem laid:laidOutB Tryz.prog=true:=wp1
theorem qnS{H:Type}{enc:TypeId×Value→H}{P:Program}{w:World}{base:Nat}{spare:Nat→Bool}{held:Bool}{t0 t1 t2 t3 t4 t5 t6:TypeId}{args:Array Value}{ds:List (DataW H)}{ps:List MemPlace}
  (h:DataW.TrodAll enc P w base spare held [t0,t1,t2,t3,t4,t5,t6] args.toList ds ps):
  ∃v0 v1 v2 v3 v4 v5 v6 d0 d1 d2 d3 d4 d5 d6 p0 p1 p2 p3 p4 p5 p6,args= #[v0,v1,v2,v3,v4,v5,v6]∧ds= [d0,d1,d2,d3,d4,d5,d6]∧DataW.Trod enc P w base spare held t0 v0 d0 p0∧DataW.Trod enc P w base spare held t1 v1 d1 p1∧DataW.Trod enc P w base spare held t2 v2 d2 p2∧DataW.Trod enc P w base spare held t3 v3 d3 p3∧DataW.Trod enc P w base spare held t4 v4 d4 p4∧DataW.Trod enc P w base spare held t5 v5 d5 p5∧DataW.Trod enc P w base spare held t6 v6 d6 p6:=by
 obtain⟨v0,vs0,d0,ds0,p0,q0,hargs,rfl,rfl,hd0,hr0⟩:=trodAll_cons h;obtain⟨v1,vs1,d1,ds1,p1,q1,rfl,rfl,rfl,hd1,hr1⟩:=trodAll_cons hr0;obtain⟨v2,vs2,d2,ds2,p2,q2,rfl,rfl,rfl,hd2,hr2⟩:=trodAll_cons hr1;obtain⟨v3,vs3,d3,ds3,p3,q3,rfl,rfl,rfl,hd3,hr3⟩:=trodAll_cons hr2;obtain⟨v4,vs4,d4,ds4,p4,q4,rfl,rfl,rfl,hd4,hr4⟩:=trodAll_cons hr3;obtain⟨v5,vs5,d5,ds5,p5,q5,rfl,rfl,rfl,hd5,hr5⟩:=trodAll_cons hr4;obtain⟨v6,vs6,d6,ds6,p6,q6,rfl,rfl,rfl,hd6,hr6⟩:=trodAll_cons hr5;obtain⟨rfl,rfl,rfl⟩:=trodAll_nil hr6;exact⟨v0,v1,v2,v3,v4,v5,v6,d0,d1,d2,d3,d4,d5,d6,p0,p1,p2,p3,p4,p5,p6,by cases args;simp_all,rfl,hd0,hd1,hd2,hd3,hd4,hd5,hd6⟩
theorem qc6:qpB Tryz.prog 9=some [.str]:=by kernel_rfl
theorem qfi{zs:List AV}(h:qc3 [.str] zs): ∃x:(List UInt8),zs= [.str x]:=by
 have hl:=qlt h
 match zs,hl with
 | [a],_=>
  obtain⟨⟨a',ha,_⟩,_⟩:=h;exact⟨a',by rw[ha]⟩
theorem qfh{H:Type}{enc:TypeId×Value→H}{W:World}{base:Nat}{v:Value}{d:DataW H}{ps:List MemPlace}(hval:Value.okWide Tryz.prog W .any base 22 v)(h:DataW.Trod enc Tryz.prog W 0 (fun _=>true) true 22 v d ps):
  ∃l:List (List UInt8),l.length≤9223372036854775807∧VR W [] (strs l) v:=by
 obtain⟨n,f,hn,hvi,hf⟩:=qiT (ow:=AF.own []) Tryz.underlying22 qc6 (by decide) hval qd9 h;have key: ∀i,i<n→ ∃x:(List UInt8),f i= [.str x]:=fun i hi=>qfi (hf i hi)
 let l:List (List UInt8):=(List.range n).map fun i=>if hi:i<n then (key i hi).choose else []
 have hl:l.length=n:=by simp[l]
 refine⟨l,by rw[hl];unfold maxLen at hn;omega,?_⟩;refine qrx hl.symm (fun i hi=> ?_) W [] v (.imm hvi);rw[hl]at hi;have e:l.getD i []=(key i hi).choose:=by
  simp[l,gdqA,hi]
 rw[e];exact (key i hi).choose_spec
theorem qrC:Tryz.prog.cellsOf 3=1:=by kernel_rfl
theorem qrD:Tryz.prog.cellsOf 4=1:=by kernel_rfl
theorem qrE:Tryz.prog.cellsOf 9=1:=by kernel_rfl
theorem qkQ:Tryz.prog.cellsOf 22=1:=by kernel_rfl
theorem qtB:Tryz.prog.cellsOf 56=1:=by kernel_rfl
theorem qtC:Tryz.prog.cellsOf 58=6:=by kernel_rfl
theorem qtD:Tryz.prog.cellsOf 62=1:=by kernel_rfl
theorem qtE:Tryz.prog.cellsOf 64=7:=by kernel_rfl
theorem qtF:Tryz.prog.cellsOf 85=2:=by kernel_rfl
theorem qoW:Tryz.prog.cellsOf 167=2:=by kernel_rfl
theorem qyf:qaP Tryz.prog 8 29=true:=by kernel_rfl
theorem qyg:qaP Tryz.prog 8 44=true:=by kernel_rfl
theorem qyh:qaP Tryz.prog 8 49=true:=by kernel_rfl
theorem kY{d:Nat}{t:TypeId}{fs:Array Field}{zs:List AV}(ht:Tryz.prog.underlying t=some (.struct fs))(h:jc Tryz.prog (d+1) t zs):zs.length=Tryz.prog.cellsOf t∧ ∀f∈fs.toList,jc Tryz.prog d f.type ((zs.drop f.offset).take (Tryz.prog.cellsOf f.type)):=by
 unfold jc at h;rw[ht]at h;exact h
theorem jP{d:Nat}{t e:TypeId}{zs:List AV}(ht:Tryz.prog.underlying t=some (.slice e))(h:jc Tryz.prog (d+1) t zs): ∃(n:Nat) (f:Nat→List AV),zs= [.sl n f]∧n≤maxLen∧ ∀i,i<n→jc Tryz.prog d e (f i):=by
 unfold jc at h;rw[ht]at h;exact h
theorem kX{d:Nat}{t:TypeId}{k:IntKind}{zs:List AV}(ht:Tryz.prog.underlying t=some (.int k))(h:jc Tryz.prog (d+1) t zs): ∃n,zs= [.int k n]:=by
 unfold jc at h;rw[ht]at h;obtain⟨n,h,_⟩:=h;exact⟨n,h⟩
theorem qcJ{d:Nat}{t:TypeId}{zs:List AV}(ht:Tryz.prog.underlying t=some .bool)(h:jc Tryz.prog (d+1) t zs): ∃n,zs= [.bool n]:=by
 unfold jc at h;rw[ht]at h;exact h
theorem qcj{d:Nat}{t:TypeId}{zs:List AV}(ht:Tryz.prog.underlying t=some .string)(h:jc Tryz.prog (d+1) t zs): ∃n,zs= [.str n]:=by
 unfold jc at h;rw[ht]at h;obtain⟨n,h,_⟩:=h;exact⟨n,h⟩
theorem qDa{d:Nat}{zs:List AV}(h:jc Tryz.prog (d+2) 64 zs): ∃x:Wd,zs=wdC x:=by
 obtain⟨hl,hf⟩:=kY Tryz.underlying64 h;simp only[List.mem_cons,List.not_mem_nil,or_false,forall_eq_or_imp,forall_eq,qrC,qrD,qrE]at hf;obtain⟨h0,h1,h2,h3,h4,h5,h6⟩:=hf;rw[qtE]at hl
 match zs,hl with
 | [z0,z1,z2,z3,z4,z5,z6],_=>
  obtain⟨x0,e0⟩:=qcj Tryz.underlying9 h0;obtain⟨x1,e1⟩:=kX Tryz.underlying3 h1;obtain⟨x2,e2⟩:=kX Tryz.underlying3 h2;obtain⟨x3,e3⟩:=kX Tryz.underlying3 h3;obtain⟨x4,e4⟩:=qcJ Tryz.underlying4 h4;obtain⟨x5,e5⟩:=qcJ Tryz.underlying4 h5;obtain⟨x6,e6⟩:=qcj Tryz.underlying9 h6;simp at e0 e1 e2 e3 e4 e5 e6;subst e0 e1 e2 e3 e4 e5 e6;exact⟨⟨x0,x1,x2,x3,x4,x5,x6⟩,rfl⟩
theorem qBl{d:Nat}{zs:List AV}(h:jc Tryz.prog (d+3) 29 zs): ∃(a:AV) (l:List Wd),zs= [a]∧l.length≤9223372036854775807∧ILe a (qZ l):=by
 obtain⟨n,f,rfl,hn,hfi⟩:=jP Tryz.underlying29 h;have key: ∀i,i<n→ ∃x:Wd,f i=wdC x:=fun i hi=>qDa (hfi i hi)
 let l:List Wd:=(List.range n).map fun i=>if hi:i<n then (key i hi).choose else default
 have hln:l.length=n:=by simp[l]
 have hg: ∀i (hi:i<n),l.getD i default=(key i hi).choose:=fun i hi=>by simp[l,gdqA,hi]
 refine⟨_,l,rfl,by rw[hln];unfold maxLen at hn;omega,?_⟩
 ·unfold qZ;rw[hln];refine ILe.sl_eq (fun i hi=> ?_);rw[hg i hi];exact (key i hi).choose_spec
theorem qd7{W:World}{base:Nat}{t e:TypeId}{v:Value}(ht:Tryz.prog.underlying t=some (.slice e))(hval:Value.okWide Tryz.prog W .any base t v):v.cells= #[v]:=by
 unfold Value.okWide at hval;rw[ht]at hval;simp only at hval;unfold Cell.okWide Cell.ok at hval;rw[ht]at hval;cases v<;>first|rfl|(exfalso;simp at hval)
theorem qm1{H:Type}{enc:TypeId×Value→H}{W:World}{base:Nat}{v:Value}{d:DataW H}{ps:List MemPlace}(hval:Value.okWide Tryz.prog W .any base 29 v)(h:DataW.Trod enc Tryz.prog W 0 (fun _=>true) true 29 v d ps):
  ∃l:List Wd,l.length≤9223372036854775807∧VR W [] (qZ l) v:=by
 obtain⟨z,hg,hvi⟩:=qef (ow:=AF.own []) qd9 qyf (qd7 Tryz.underlying29 hval) h;obtain⟨a,ps,e,hl,hil⟩:=qBl hg;simp at e;subst e;exact⟨ps,hl,.imm (hil _ _ _ hvi)⟩
theorem qcW{d:Nat}{zs:List AV}(h:jc Tryz.prog (d+2) 22 zs): ∃(a:AV) (l:List (List UInt8)),zs= [a]∧l.length≤9223372036854775807∧ILe a (HY.strs l):=by
 obtain⟨n,f,rfl,hn,hfi⟩:=jP Tryz.underlying22 h;have key: ∀i,i<n→ ∃x:(List UInt8),f i= [.str x]:=fun i hi=>qcj Tryz.underlying9 (hfi i hi)
 let l:List (List UInt8):=(List.range n).map fun i=>if hi:i<n then (key i hi).choose else []
 have hln:l.length=n:=by simp[l]
 have hg: ∀i (hi:i<n),l.getD i []=(key i hi).choose:=fun i hi=>by simp[l,gdqA,hi]
 refine⟨_,l,rfl,by rw[hln];unfold maxLen at hn;omega,?_⟩
 ·unfold HY.strs;rw[hln];refine ILe.sl_eq (fun i hi=> ?_);rw[hg i hi];exact (key i hi).choose_spec
theorem quC{d:Nat}{zs:List AV}(h:jc Tryz.prog (d+2) 62 zs): ∃(a:AV) (l:List Int),zs= [a]∧l.length≤9223372036854775807∧ILe a (ql l):=by
 obtain⟨n,f,rfl,hn,hfi⟩:=jP Tryz.underlying62 h;have key: ∀i,i<n→ ∃x:Int,f i= [.int .i64 x]:=fun i hi=>kX Tryz.underlying3 (hfi i hi)
 let l:List Int:=(List.range n).map fun i=>if hi:i<n then (key i hi).choose else 0
 have hln:l.length=n:=by simp[l]
 have hg: ∀i (hi:i<n),l.getD i 0=(key i hi).choose:=fun i hi=>by simp[l,gdqA,hi]
 refine⟨_,l,rfl,by rw[hln];unfold maxLen at hn;omega,?_⟩
 ·unfold ql;rw[hln];refine ILe.sl_eq (fun i hi=> ?_);rw[hg i hi];exact (key i hi).choose_spec
theorem qCx{d:Nat}{zs:List AV}(h:jc Tryz.prog (d+3) 167 zs): ∃g:Gr,qa0 zs (grC g):=by
 obtain⟨hl,hf⟩:=kY Tryz.underlying167 h;simp only[List.mem_cons,List.not_mem_nil,or_false,forall_eq_or_imp,forall_eq,qrE,qtD]at hf;obtain⟨h0,h1⟩:=hf;rw[qoW]at hl
 match zs,hl with
 | [a,b],_=>
  obtain⟨w,e0⟩:=qcj Tryz.underlying9 h0;obtain⟨y,s,e1,l1,i1⟩:=quC h1;simp at e0 e1;subst e0 e1;exact⟨⟨w,s⟩,ILe.refl _,i1,trivial⟩
theorem qAb{d:Nat}{zs:List AV}(h:jc Tryz.prog (d+4) 44 zs): ∃(a:AV) (l:List Gr),zs= [a]∧l.length≤9223372036854775807∧ILe a (qu l):=by
 obtain⟨n,f,rfl,hn,hfi⟩:=jP Tryz.underlying44 h;have key: ∀i,i<n→ ∃x:Gr,qa0 (f i) (grC x):=fun i hi=>qCx (hfi i hi)
 let l:List Gr:=(List.range n).map fun i=>if hi:i<n then (key i hi).choose else default
 have hln:l.length=n:=by simp[l]
 have hg: ∀i (hi:i<n),l.getD i default=(key i hi).choose:=fun i hi=>by simp[l,gdqA,hi]
 refine⟨_,l,rfl,by rw[hln];unfold maxLen at hn;omega,?_⟩
 ·unfold qu;rw[hln];refine ILe.sl (fun i hi=> ?_);rw[hg i hi];exact (key i hi).choose_spec
theorem qCZ{d:Nat}{zs:List AV}(h:jc Tryz.prog (d+3) 85 zs): ∃v:Va,v.words.length≤9223372036854775807∧v.sigla.length≤9223372036854775807∧qa0 zs (vaC v):=by
 obtain⟨hl,hf⟩:=kY Tryz.underlying85 h;simp only[List.mem_cons,List.not_mem_nil,or_false,forall_eq_or_imp,forall_eq,qkQ]at hf;obtain⟨h0,h1⟩:=hf;rw[qtF]at hl
 match zs,hl with
 | [a,b],_=>
  obtain⟨x,w,e0,l0,i0⟩:=qcW h0;obtain⟨y,s,e1,l1,i1⟩:=qcW h1;simp at e0 e1;subst e0 e1;exact⟨⟨w,s⟩,l0,l1,i0,i1,trivial⟩
theorem qAZ{d:Nat}{zs:List AV}(h:jc Tryz.prog (d+4) 56 zs): ∃(a:AV) (l:List Va),zs= [a]∧l.length≤9223372036854775807∧(∀i,(l.getD i default).words.length≤9223372036854775807)∧(∀i,(l.getD i default).sigla.length≤9223372036854775807)∧ILe a (qW l):=by
 obtain⟨n,f,rfl,hn,hfi⟩:=jP Tryz.underlying56 h;have key: ∀i,i<n→ ∃x:Va,x.words.length≤9223372036854775807∧x.sigla.length≤9223372036854775807∧qa0 (f i) (vaC x):=fun i hi=>qCZ (hfi i hi)
 let l:List Va:=(List.range n).map fun i=>if hi:i<n then (key i hi).choose else default
 have hln:l.length=n:=by simp[l]
 have hg: ∀i (hi:i<n),l.getD i default=(key i hi).choose:=fun i hi=>by simp[l,gdqA,hi]
 refine⟨_,l,rfl,by rw[hln];unfold maxLen at hn;omega,?_,?_,?_⟩
 ·intro i
  by_cases hi:i<n
  ·rw[hg i hi];exact (key i hi).choose_spec.1
  ·rw[gdqA,List.getElem?_eq_none om]
   first|exact nzl _|exact⟨nzl _,nzl _,fun _=>nzl _,fun _=>nzl _⟩
 ·intro i
  by_cases hi:i<n
  ·rw[hg i hi];exact (key i hi).choose_spec.2.1
  ·rw[gdqA,List.getElem?_eq_none om]
   first|exact nzl _|exact⟨nzl _,nzl _,fun _=>nzl _,fun _=>nzl _⟩
 ·unfold qW;rw[hln];refine ILe.sl (fun i hi=> ?_);rw[hg i hi];exact (key i hi).choose_spec.2.2
theorem qB9{d:Nat}{zs:List AV}(h:jc Tryz.prog (d+5) 58 zs): ∃e:En,EnB e∧qa0 zs (enC e):=by
 obtain⟨hl,hf⟩:=kY Tryz.underlying58 h;simp only[List.mem_cons,List.not_mem_nil,or_false,forall_eq_or_imp,forall_eq,qrC,qrD,qkQ,qtB]at hf;obtain⟨h0,h1,h2,h3,h4,h5⟩:=hf;rw[qtC]at hl
 match zs,hl with
 | [z0,z1,z2,z3,z4,z5],_=>
  obtain⟨x0,e0⟩:=kX Tryz.underlying3 h0;obtain⟨x1,e1⟩:=kX Tryz.underlying3 h1;obtain⟨x2,e2⟩:=kX Tryz.underlying3 h2;obtain⟨x3,e3⟩:=qcJ Tryz.underlying4 h3;obtain⟨a4,x4,e4,l4,i4⟩:=qcW h4;obtain⟨a5,x5,e5,l5,b5,c5,i5⟩:=qAZ h5;simp at e0 e1 e2 e3 e4 e5;subst e0 e1 e2 e3 e4 e5;exact⟨⟨x0,x1,x2,x3,x4,x5⟩,⟨l5,l4,b5,c5⟩,ILe.refl _,ILe.refl _,ILe.refl _,ILe.refl _,i4,i5,trivial⟩
theorem qyo{d:Nat}{zs:List AV}(h:jc Tryz.prog (d+6) 49 zs): ∃(a:AV) (l:List En),zs= [a]∧l.length≤9223372036854775807∧(∀i,EnB (l.getD i default))∧ILe a (zg l):=by
 obtain⟨n,f,rfl,hn,hfi⟩:=jP Tryz.underlying49 h;have key: ∀i,i<n→ ∃x:En,EnB x∧qa0 (f i) (enC x):=fun i hi=>qB9 (hfi i hi)
 let l:List En:=(List.range n).map fun i=>if hi:i<n then (key i hi).choose else default
 have hln:l.length=n:=by simp[l]
 have hg: ∀i (hi:i<n),l.getD i default=(key i hi).choose:=fun i hi=>by simp[l,gdqA,hi]
 refine⟨_,l,rfl,by rw[hln];unfold maxLen at hn;omega,?_,?_⟩
 ·intro i
  by_cases hi:i<n
  ·rw[hg i hi];exact (key i hi).choose_spec.1
  ·rw[gdqA,List.getElem?_eq_none om]
   first|exact nzl _|exact⟨nzl _,nzl _,fun _=>nzl _,fun _=>nzl _⟩
 ·unfold zg;rw[hln];refine ILe.sl (fun i hi=> ?_);rw[hg i hi];exact (key i hi).choose_spec.2
theorem qm2{H:Type}{enc:TypeId×Value→H}{W:World}{base:Nat}{v:Value}{d:DataW H}{ps:List MemPlace}(hval:Value.okWide Tryz.prog W .any base 49 v)(h:DataW.Trod enc Tryz.prog W 0 (fun _=>true) true 49 v d ps):
  ∃l:List En,l.length≤9223372036854775807∧(∀i,EnB (l.getD i default))∧VR W [] (zg l) v:=by
 obtain⟨z,hg,hvi⟩:=qef (ow:=AF.own []) qd9 qyh (qd7 Tryz.underlying49 hval) h;obtain⟨a,ps,e,hl,hb,hil⟩:=qyo hg;simp at e;subst e;exact⟨ps,hl,hb,.imm (hil _ _ _ hvi)⟩
theorem qgg{H:Type}{enc:TypeId×Value→H}{W:World}{base:Nat}{v:Value}{d:DataW H}{ps:List MemPlace}(hval:Value.okWide Tryz.prog W .any base 44 v)(h:DataW.Trod enc Tryz.prog W 0 (fun _=>true) true 44 v d ps):
  ∃l:List Gr,l.length≤9223372036854775807∧VR W [] (qu l) v:=by
 obtain⟨z,hg,hvi⟩:=qef (ow:=AF.own []) qd9 qyg (qd7 Tryz.underlying44 hval) h;obtain⟨a,ps,e,hl,hil⟩:=qAb hg;simp at e;subst e;exact⟨ps,hl,.imm (hil _ _ _ hvi)⟩
theorem qdJ(os:Os)(started:os.Started)(H:Type)(enc:TypeId×Value→H):
  ReturnsInHanded {} Tryz.checked os 13 .any (fun w args=>(Rows.apparatusChecksSpec.pre enc Tryz.prog Tryz.f13 Rows.apparatusChecksRow.domain false w args∧laidMetH Tryz.prog Rows.apparatusChecksRow.laid w)∧sizedMet enc Tryz.prog Tryz.f13 (OpenSpec.ofChange Rows.apparatusChecksSpec) false w args)
   (Rows.apparatusChecksSpec.post enc Tryz.prog Tryz.f13 false true false false):=by
 refine returnsInHanded_of_change_and (C:=Tryz.checked) (X:=fun w _=>laidMetH Tryz.prog Rows.apparatusChecksRow.laid w) (fun _ _ _ hh h=>h.of_heap hh) own started (by kernel_rfl) Tryz.func13
  (ChangeSpec.witness_shaped (enc:=enc) (C:=Tryz.checked) (os:=os) (X:=fun w _=>laidMetH Tryz.prog Rows.apparatusChecksRow.laid w) false (World.laidAll Tryz.prog os Rows.apparatusChecksRow.laid) #[.slice none 0 0,.slice none 0 0,.slice none 0 0,.slice none 0 0,.slice none 0 0,.int .i64 0,.int .i64 0] 8 (World.laidAll_os _ _ _)
   (World.shaped_of_ZipB (by kernel_rfl) (by kernel_rfl)) (by kernel_rfl) (by kernel_rfl) (by kernel_rfl)
   (by rw[MakeChecks.laidMetH_plain _ _ _ (by kernel_rfl)];exact laidMet_laidAll _ (by kernel_rfl) (by kernel_rfl))) ?_
 intro W base args ds gs before hval hW _ _ hX _;have hX:laidMetH Tryz.prog Rows.apparatusChecksRow.laid W:=hX;rw[MakeChecks.laidMetH_plain _ _ _ (by kernel_rfl)]at hX;refine qe8 (tb:=4) (bs:=qeg) (G:=qBD) laid rfl ?_ (by kernel_rfl) Tryz.underlying4 ?_ hW (qqR hX) (qvo hX) ?_
 ·intro ds' h'
  match ds',h' with
  | [a0,a1,a2,a3,a4,a5,a6],_=>rfl
 ·intro t ht;rw[show Tryz.f13.params.toList= [22,44,22,49,29,3,3] by rw[Tryz.params13]]at ht;simp only[List.mem_cons,List.not_mem_nil,or_false]at ht;rcases ht with rfl|rfl|rfl|rfl|rfl|rfl|rfl<;>exact⟨by kernel_rfl,of_decide_eq_true (by kernel_rfl)⟩
 ·intro p hA;rw[Tryz.params13]at hA hval;obtain⟨v0,v1,v2,v3,v4,v5,v6,d0,d1,d2,d3,d4,d5,d6,p0,p1,p2,p3,p4,p5,p6,rfl,rfl,h0,h1,h2,h3,h4,h5,h6⟩:=qnS hA;obtain⟨l0,hl0,hv0⟩:=qfh (hval 0 22 v0 rfl rfl) h0;obtain⟨l1,hl1,hv1⟩:=qgg (hval 1 44 v1 rfl rfl) h1;obtain⟨l2,hl2,hv2⟩:=qfh (hval 2 22 v2 rfl rfl) h2;obtain⟨l3,hl3,he3,hv3⟩:=qm2 (hval 3 49 v3 rfl rfl) h3;obtain⟨l4,hl4,hv4⟩:=qm1 (hval 4 29 v4 rfl rfl) h4;obtain⟨n5,rfl,_,_,w5⟩:=open_int Tryz.underlying3 (hval 5 3 v5 rfl rfl) h5;have hl5:(-9223372036854775808:Int)≤n5∧n5≤9223372036854775807:=by simpa[Lit.wf,IntKind.min,IntKind.max,IntKind.signed,IntKind.bits] using w5
  obtain⟨n6,rfl,_,_,w6⟩:=open_int Tryz.underlying3 (hval 6 3 v6 rfl rfl) h6;have hl6:(-9223372036854775808:Int)≤n6∧n6≤9223372036854775807:=by simpa[Lit.wf,IntKind.min,IntKind.max,IntKind.signed,IntKind.bits] using w6
  refine⟨by rw[Tryz.params13];rfl,[strs l0,qu l1,strs l2,zg l3,qZ l4,.int .i64 n5,.int .i64 n6],?_,qCB l0 l1 l2 l3 l4 n5 n6 [.pin qeg qBD] qvn ⟨hl0,hl1,hl2,he3,hl3,hl4⟩⟩;exact VRs.cons' hv0 (VRs.cons' hv1 (VRs.cons' hv2 (VRs.cons' hv3 (VRs.cons' hv4 (VRs.cons' (.imm .int) (VRs.cons' (.imm .int) (VRs.nil')))))))
end Go.Proofs.YtgoandblgcjleaaGreatDoor
