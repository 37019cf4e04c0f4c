import Derived.Test.YtiiegfkjmnoijaaGreatDoorK0
import Derived.Test.YtiiegfkjmnoijaaGreatDoorK17
import Derived.Test.YtiiegfkjmnoijaaGreatDoorK9
import Derived.Test.YtiiegfkjmnoijaaGreatDoorK6
import Derived.Test.YtiiegfkjmnoijaaGreatDoorRows
import Derived.Test.YtiiegfkjmnoijaaGreatDoorTie
import Derived.Test.YtiiegfkjmnoijaaGreatDoorCards
import Derived.ProofKit
import Derived.ChangeMaps5
import Derived.OpenShut
import Derived.LaidMore
import Derived.Lay
import Derived.SevenTiedAt
import Derived.Stop.Joined
set_option linter.all false
open Go Go.Proofs AF HY RC LN Go.ChangeShapes Go.WideShapes Go.ChangeAt Go.RowKit
set_option maxRecDepth 100000
namespace Go.Proofs.YtiiegfkjmnoijaaGreatDoor
theorem own:ownKnob Tryz.prog.godebug=none:=by kernel_rfl
theorem laid:laidOutB Tryz.prog=true:=wp1
theorem qlj{H:Type}{enc:TypeId×Value->H}{P:Program}{w:World}{base:Nat}{spare:Nat->Bool}{held:Bool}{t0:TypeId}{args:Array Value}{ds:List (DataW H)}{ps:List MemPlace}
  (h:DataW.TrodAll enc P w base spare held [t0] args.toList ds ps):
  ∃v0 d0 p0,args= #[v0]∧ds= [d0]∧DataW.Trod enc P w base spare held t0 v0 d0 p0:=by
 obtain⟨v0,vs0,d0,ds0,p0,q0,hargs,rfl,rfl,hd0,hr0⟩:=trodAll_cons h;obtain⟨rfl,rfl,rfl⟩:=trodAll_nil hr0;exact⟨v0,d0,p0,by cases args;simp_all,rfl,hd0⟩
theorem qcG:Tryz.prog.cellsOf 3=1:=by kernel_rfl
theorem qeH:Tryz.prog.cellsOf 9=1:=by kernel_rfl
theorem qip:Tryz.prog.cellsOf 22=1:=by kernel_rfl
theorem qqN:Tryz.prog.cellsOf 23=1:=by kernel_rfl
theorem qqO:Tryz.prog.cellsOf 24=1:=by kernel_rfl
theorem qiq:Tryz.prog.cellsOf 26=4:=by kernel_rfl
theorem qqP:Tryz.prog.cellsOf 27=1:=by kernel_rfl
theorem qqQ:Tryz.prog.cellsOf 28=1:=by kernel_rfl
theorem qqR:Tryz.prog.cellsOf 39=1:=by kernel_rfl
theorem qqS:Tryz.prog.cellsOf 43=4:=by kernel_rfl
theorem qqT:Tryz.prog.cellsOf 62=1:=by kernel_rfl
theorem qqU:Tryz.prog.cellsOf 64=3:=by kernel_rfl
theorem qqV:Tryz.prog.cellsOf 75=7:=by kernel_rfl
theorem qqW:Tryz.prog.cellsOf 88=2:=by kernel_rfl
theorem qqX:Tryz.prog.cellsOf 92=6:=by kernel_rfl
theorem qqY:Tryz.prog.cellsOf 97=2:=by kernel_rfl
theorem qvF:UQ Tryz.prog 8 75=true:=by kernel_rfl
theorem jr{d:Nat}{t:TypeId}{fs:Array Field}{zs:wg}(ht:Tryz.prog.underlying t=some (.struct fs))(h:je Tryz.prog (d+1) t zs):zs.length=Tryz.prog.cellsOf t∧ ∀f∈fs.toList,je Tryz.prog d f.type ((zs.drop f.offset).take (Tryz.prog.cellsOf f.type)):=by
 unfold je at h;rw[ht]at h;exact h
theorem jz{d:Nat}{t e:TypeId}{zs:wg}(ht:Tryz.prog.underlying t=some (.slice e))(h:je Tryz.prog (d+1) t zs): ∃(n:Nat) (f:Nat->wg),zs= [.sl n f]∧n<=maxLen∧ ∀i,i<n->je Tryz.prog d e (f i):=by
 unfold je at h;rw[ht]at h;exact h
theorem kD{d:Nat}{t:TypeId}{k:IntKind}{zs:wg}(ht:Tryz.prog.underlying t=some (.int k))(h:je Tryz.prog (d+1) t zs): ∃n,zs= [.int k n]:=by
 unfold je at h;rw[ht]at h;obtain⟨n,h,_⟩:=h;exact⟨n,h⟩
theorem kE{d:Nat}{t:TypeId}{zs:wg}(ht:Tryz.prog.underlying t=some .string)(h:je Tryz.prog (d+1) t zs): ∃n,zs= [.str n]:=by
 unfold je at h;rw[ht]at h;obtain⟨n,h,_⟩:=h;exact⟨n,h⟩
theorem qzT{d:Nat}{zs:wg}(h:je Tryz.prog (d+2) 43 zs): ∃x:Dc,zs=dcC x:=by
 obtain⟨hl,hf⟩:=jr Tryz.underlying43 h;simp only[List.mem_cons,List.not_mem_nil,or_false,forall_eq_or_imp,forall_eq,qcG,qeH]at hf;obtain⟨h0,h1,h2,h3⟩:=hf;rw[qqS]at hl
 match zs,hl with
 | [z0,z1,z2,z3],_=>
  obtain⟨x0,e0⟩:=kD Tryz.underlying3 h0;obtain⟨x1,e1⟩:=kE Tryz.underlying9 h1;obtain⟨x2,e2⟩:=kD Tryz.underlying3 h2;obtain⟨x3,e3⟩:=kE Tryz.underlying9 h3;simp at e0 e1 e2 e3;subst e0 e1 e2 e3;exact⟨⟨x0,x1,x2,x3⟩,rfl⟩
theorem qvD{d:Nat}{zs:wg}(h:je Tryz.prog (d+3) 27 zs): ∃(a:AV) (l:List Dc),zs= [a]∧l.length<=9223372036854775807∧ILe a (kB l):=by
 obtain⟨n,f,rfl,hn,hfi⟩:=jz Tryz.underlying27 h;have key: ∀i,i<n-> ∃x:Dc,f i=dcC x:=λi hi=>qzT (hfi i hi)
 let l:List Dc:=(List.range n).map λi=>if hi:i<n then (key i hi).choose else default
 have hln:l.length=n:=by simp[l]
 have hg: ∀i (hi:i<n),l.getD i default=(key i hi).choose:=λi hi=>by simp[l,gdqA,hi]
 refine⟨_,l,rfl,by rw[hln];unfold maxLen at hn;omega,?_⟩
 ·unfold kB;rw[hln];refine ILe.sl_eq (λi hi=> ?_);rw[hg i hi];exact (key i hi).choose_spec
theorem qel{d:Nat}{zs:wg}(h:je Tryz.prog (d+2) 22 zs): ∃(a:AV) (l:List (List UInt8)),zs= [a]∧l.length<=9223372036854775807∧ILe a (HY.strs l):=by
 obtain⟨n,f,rfl,hn,hfi⟩:=jz Tryz.underlying22 h;have key: ∀i,i<n-> ∃x:(List UInt8),f i= [.str x]:=λi hi=>kE Tryz.underlying9 (hfi i hi)
 let l:List (List UInt8):=(List.range n).map λi=>if hi:i<n then (key i hi).choose else []
 have hln:l.length=n:=by simp[l]
 have hg: ∀i (hi:i<n),l.getD i []=(key i hi).choose:=λi hi=>by simp[l,gdqA,hi]
 refine⟨_,l,rfl,by rw[hln];unfold maxLen at hn;omega,?_⟩
 ·unfold HY.strs;rw[hln];refine ILe.sl_eq (λi hi=> ?_);rw[hg i hi];exact (key i hi).choose_spec
theorem qju{d:Nat}{zs:wg}(h:je Tryz.prog (d+2) 39 zs): ∃(a:AV) (l:List Int),zs= [a]∧l.length<=9223372036854775807∧ILe a (qG l):=by
 obtain⟨n,f,rfl,hn,hfi⟩:=jz Tryz.underlying39 h;have key: ∀i,i<n-> ∃x:Int,f i= [.int .i64 x]:=λi hi=>kD Tryz.underlying3 (hfi i hi)
 let l:List Int:=(List.range n).map λi=>if hi:i<n then (key i hi).choose else 0
 have hln:l.length=n:=by simp[l]
 have hg: ∀i (hi:i<n),l.getD i 0=(key i hi).choose:=λi hi=>by simp[l,gdqA,hi]
 refine⟨_,l,rfl,by rw[hln];unfold maxLen at hn;omega,?_⟩
 ·unfold qG;rw[hln];refine ILe.sl_eq (λi hi=> ?_);rw[hg i hi];exact (key i hi).choose_spec
theorem qns{d:Nat}{zs:wg}(h:je Tryz.prog (d+2) 39 zs): ∃l:List Int,l.length<=9223372036854775807∧TB zs [qG l]:=by
 obtain⟨a,l,rfl,hl,hi⟩:=qju h;exact⟨l,hl,hi,trivial⟩
theorem qA3{d:Nat}{zs:wg}(h:je Tryz.prog (d+3) 92 zs): ∃x:Tk,zs=tkC x:=by
 obtain⟨hl,hf⟩:=jr Tryz.underlying92 h;simp only[List.mem_cons,List.not_mem_nil,or_false,forall_eq_or_imp,forall_eq,qcG,qeH,qqW]at hf;obtain⟨h0,h1,h2,h3,h4⟩:=hf;rw[qqX]at hl
 match zs,hl with
 | [z0,z1,z2,z3,z4,z5],_=>
  obtain⟨hp,hg⟩:=jr Tryz.underlying88 h2;simp only[List.mem_cons,List.not_mem_nil,or_false,forall_eq_or_imp,forall_eq,qeH,qcG]at hg;obtain⟨g0,g1⟩:=hg;obtain⟨x0,e0⟩:=kE Tryz.underlying9 h0;obtain⟨x1,e1⟩:=kE Tryz.underlying9 h1;obtain⟨x2,e2⟩:=kE Tryz.underlying9 g0;obtain⟨x3,e3⟩:=kD Tryz.underlying3 g1;obtain⟨x4,e4⟩:=kD Tryz.underlying3 h3;obtain⟨x5,e5⟩:=kE Tryz.underlying9 h4;simp at e0 e1 e2 e3 e4 e5;subst e0 e1 e2 e3 e4 e5;exact⟨⟨x0,x1,x2,x3,x4,x5⟩,rfl⟩
theorem qyC{d:Nat}{zs:wg}(h:je Tryz.prog (d+4) 93 zs): ∃(a:AV) (l:List Tk),zs= [a]∧l.length<=9223372036854775807∧ILe a (zP l):=by
 obtain⟨n,f,rfl,hn,hfi⟩:=jz Tryz.underlying93 h;have key: ∀i,i<n-> ∃x:Tk,f i=tkC x:=λi hi=>qA3 (hfi i hi)
 let l:List Tk:=(List.range n).map λi=>if hi:i<n then (key i hi).choose else default
 have hln:l.length=n:=by simp[l]
 have hg: ∀i (hi:i<n),l.getD i default=(key i hi).choose:=λi hi=>by simp[l,gdqA,hi]
 refine⟨_,l,rfl,by rw[hln];unfold maxLen at hn;omega,?_⟩
 ·unfold zP;rw[hln];refine ILe.sl_eq (λi hi=> ?_);rw[hg i hi];exact (key i hi).choose_spec
theorem qsX{d:Nat}{zs:wg}(h:je Tryz.prog (d+4) 93 zs): ∃l:List Tk,l.length<=9223372036854775807∧TB zs [zP l]:=by
 obtain⟨a,l,rfl,hl,hi⟩:=qyC h;exact⟨l,hl,hi,trivial⟩
theorem qsY{d:Nat}{zs:wg}(h:je Tryz.prog (d+5) 23 zs): ∃(a:AV) (l:List (List Tk)),zs= [a]∧l.length<=9223372036854775807∧(∀i,(l.getD i []).length<=9223372036854775807)∧ILe a (qm l):=by
 obtain⟨n,f,rfl,hn,hfi⟩:=jz Tryz.underlying23 h;have key: ∀i,i<n-> ∃x:(List Tk),x.length<=9223372036854775807∧TB (f i) [zP x]:=λi hi=>qsX (hfi i hi)
 let l:List (List Tk):=(List.range n).map λi=>if hi:i<n then (key i hi).choose else []
 have hln:l.length=n:=by simp[l]
 have hg: ∀i (hi:i<n),l.getD i []=(key i hi).choose:=λi hi=>by simp[l,gdqA,hi]
 refine⟨_,l,rfl,by rw[hln];unfold maxLen at hn;omega,?_,?_⟩
 ·intro i
  by_cases hi:i<n
  ·rw[hg i hi];exact (key i hi).choose_spec.1
  ·rw[gdqA,List.getElem?_eq_none om]
   first|exact nzl _|exact⟨nzl _,nzl _,λ_=>nzl _,λ_=>nzl _⟩
 ·unfold qm;rw[hln];refine ILe.sl (λi hi=> ?_);rw[hg i hi];exact (key i hi).choose_spec.2
theorem qq3{d:Nat}{zs:wg}(h:je Tryz.prog (d+3) 24 zs): ∃(a:AV) (l:List (List Int)),zs= [a]∧l.length<=9223372036854775807∧(∀i,(l.getD i []).length<=9223372036854775807)∧ILe a (qw l):=by
 obtain⟨n,f,rfl,hn,hfi⟩:=jz Tryz.underlying24 h;have key: ∀i,i<n-> ∃x:(List Int),x.length<=9223372036854775807∧TB (f i) [qG x]:=λi hi=>qns (hfi i hi)
 let l:List (List Int):=(List.range n).map λi=>if hi:i<n then (key i hi).choose else []
 have hln:l.length=n:=by simp[l]
 have hg: ∀i (hi:i<n),l.getD i []=(key i hi).choose:=λi hi=>by simp[l,gdqA,hi]
 refine⟨_,l,rfl,by rw[hln];unfold maxLen at hn;omega,?_,?_⟩
 ·intro i
  by_cases hi:i<n
  ·rw[hg i hi];exact (key i hi).choose_spec.1
  ·rw[gdqA,List.getElem?_eq_none om]
   first|exact nzl _|exact⟨nzl _,nzl _,λ_=>nzl _,λ_=>nzl _⟩
 ·unfold qw;rw[hln];refine ILe.sl (λi hi=> ?_);rw[hg i hi];exact (key i hi).choose_spec.2
theorem qAS{d:Nat}{zs:wg}(h:je Tryz.prog (d+3) 97 zs): ∃r:Rd,r.words.length<=9223372036854775807∧TB zs (rdC r):=by
 obtain⟨hl,hf⟩:=jr Tryz.underlying97 h;simp only[List.mem_cons,List.not_mem_nil,or_false,forall_eq_or_imp,forall_eq,qip,qqR]at hf;obtain⟨h0,h1⟩:=hf;rw[qqY]at hl
 match zs,hl with
 | [a,b],_=>
  obtain⟨x,w,e0,l0,i0⟩:=qel h0;obtain⟨y,s,e1,l1,i1⟩:=qju h1;simp at e0 e1;subst e0 e1;exact⟨⟨w,s⟩,l0,i0,i1,trivial⟩
theorem qx9{d:Nat}{zs:wg}(h:je Tryz.prog (d+4) 62 zs): ∃(a:AV) (l:List Rd),zs= [a]∧l.length<=9223372036854775807∧(∀i,(l.getD i default).words.length<=9223372036854775807)∧ILe a (jq l):=by
 obtain⟨n,f,rfl,hn,hfi⟩:=jz Tryz.underlying62 h;have key: ∀i,i<n-> ∃x:Rd,x.words.length<=9223372036854775807∧TB (f i) (rdC x):=λi hi=>qAS (hfi i hi)
 let l:List Rd:=(List.range n).map λi=>if hi:i<n then (key i hi).choose else default
 have hln:l.length=n:=by simp[l]
 have hg: ∀i (hi:i<n),l.getD i default=(key i hi).choose:=λi hi=>by simp[l,gdqA,hi]
 refine⟨_,l,rfl,by rw[hln];unfold maxLen at hn;omega,?_,?_⟩
 ·intro i
  by_cases hi:i<n
  ·rw[hg i hi];exact (key i hi).choose_spec.1
  ·rw[gdqA,List.getElem?_eq_none om]
   first|exact nzl _|exact⟨nzl _,nzl _,λ_=>nzl _,λ_=>nzl _⟩
 ·unfold jq;rw[hln];refine ILe.sl (λi hi=> ?_);rw[hg i hi];exact (key i hi).choose_spec.2
theorem qA6{d:Nat}{zs:wg}(h:je Tryz.prog (d+5) 64 zs): ∃u:Un,(u.rds.length<=9223372036854775807∧ ∀j,(u.rds.getD j default).words.length<=9223372036854775807)∧TB zs (unC u):=by
 obtain⟨hl,hf⟩:=jr Tryz.underlying64 h;simp only[List.mem_cons,List.not_mem_nil,or_false,forall_eq_or_imp,forall_eq,qcG,qqT]at hf;obtain⟨h0,h1,h2⟩:=hf;rw[qqU]at hl
 match zs,hl with
 | [a,b,c],_=>
  obtain⟨x0,e0⟩:=kD Tryz.underlying3 h0;obtain⟨x1,e1⟩:=kD Tryz.underlying3 h1;obtain⟨y,s,e2,l2,b2,i2⟩:=qx9 h2;simp at e0 e1 e2;subst e0 e1 e2;exact⟨⟨x0,x1,s⟩,⟨l2,b2⟩,ILe.refl _,ILe.refl _,i2,trivial⟩
theorem qyH{d:Nat}{zs:wg}(h:je Tryz.prog (d+6) 28 zs): ∃(a:AV) (l:List Un),zs= [a]∧l.length<=9223372036854775807∧(∀i,(l.getD i default).rds.length<=9223372036854775807∧ ∀j,((l.getD i default).rds.getD j default).words.length<=9223372036854775807)∧ILe a (zM l):=by
 obtain⟨n,f,rfl,hn,hfi⟩:=jz Tryz.underlying28 h;have key: ∀i,i<n-> ∃x:Un,(x.rds.length<=9223372036854775807∧ ∀j,(x.rds.getD j default).words.length<=9223372036854775807)∧TB (f i) (unC x):=λi hi=>qA6 (hfi i hi)
 let l:List Un:=(List.range n).map λi=>if hi:i<n then (key i hi).choose else default
 have hln:l.length=n:=by simp[l]
 have hg: ∀i (hi:i<n),l.getD i default=(key i hi).choose:=λi hi=>by simp[l,gdqA,hi]
 refine⟨_,l,rfl,by rw[hln];unfold maxLen at hn;omega,?_,?_⟩
 ·intro i
  by_cases hi:i<n
  ·rw[hg i hi];exact (key i hi).choose_spec.1
  ·rw[gdqA,List.getElem?_eq_none om]
   first|exact nzl _|exact⟨nzl _,λ_=>nzl _⟩|exact⟨nzl _,nzl _,λ_=>nzl _,λ_=>nzl _⟩
 ·unfold zM;rw[hln];refine ILe.sl (λi hi=> ?_);rw[hg i hi];exact (key i hi).choose_spec.2
theorem qzO{d:Nat}{zs:wg}(h:je Tryz.prog (d+6) 26 zs): ∃x:Co,CoB x∧TB zs (coC x):=by
 obtain⟨hl,hf⟩:=jr Tryz.underlying26 h;simp only[List.mem_cons,List.not_mem_nil,or_false,forall_eq_or_imp,forall_eq,qeH,qip,qqN,qqO]at hf;obtain⟨h0,h1,h2,h3⟩:=hf;rw[qiq]at hl
 match zs,hl with
 | [a,b,c,e],_=>
  obtain⟨x0,e0⟩:=kE Tryz.underlying9 h0;obtain⟨a1,x1,e1,l1,i1⟩:=qel h1;obtain⟨a2,x2,e2,l2,_,i2⟩:=qsY h2;obtain⟨a3,x3,e3,l3,_,i3⟩:=qq3 h3;simp at e0 e1 e2 e3;subst e0 e1 e2 e3;exact⟨⟨x0,x1,x2,x3⟩,⟨l1,l2,l3⟩,ILe.refl _,i1,i2,i3,trivial⟩
theorem qzQ{d:Nat}{zs:wg}(h:je Tryz.prog (d+7) 75 zs): ∃a:Cq,CqB a∧TB zs (cqC a):=by
 obtain⟨hl,hf⟩:=jr Tryz.underlying75 h;simp only[List.mem_cons,List.not_mem_nil,or_false,forall_eq_or_imp,forall_eq,qcG,qiq,qqP,qqQ]at hf;obtain⟨h0,h1,h2,h3⟩:=hf;rw[qqV]at hl
 match zs,hl with
 | [z0,z1,z2,z3,z4,z5,z6],_=>
  obtain⟨x,xb,xi⟩:=qzO h0;have xi:TB [z0,z1,z2,z3] (coC x):=xi;obtain⟨j0,j1,j2,j3,_⟩:=xi;obtain⟨a1,y1,e1,l1,b1,i1⟩:=qyH h1;obtain⟨a2,y2,e2,l2,i2⟩:=qvD h2;obtain⟨x3,e3⟩:=kD Tryz.underlying3 h3;simp at e1 e2 e3;subst e1 e2 e3;exact⟨⟨x,y1,y2,x3⟩,⟨xb,⟨l1,λi=>(b1 i).1,λi=>(b1 i).2⟩,l2⟩,j0,j1,j2,j3,i1,i2,ILe.refl _,trivial⟩
theorem qsA{H:Type}{enc:TypeId×Value->H}{W:World}{base:Nat}{v:Value}{d:DataW H}{ps:List MemPlace}(hval:Value.okWide Tryz.prog W .any base 75 v)(h:DataW.Trod enc Tryz.prog W 0 (λ_=>true) true 75 v d ps):
  ∃a:Cq,CqB a∧VR W [] (.agg (cqC a)) v:=by
 unfold Value.okWide at hval;rw[Tryz.underlying75]at hval;simp only at hval;obtain⟨cs,rfl,_,_⟩:=hval;obtain⟨zs,hg,hvi⟩:=qog (ow:=AF.own []) qsd qvF h;obtain⟨a,h1,hil⟩:=qzQ hg;exact⟨a,h1,.imm (ILe.agg hil _ _ _ hvi)⟩
theorem qaG(os:Os)(started:os.Started)(H:Type)(enc:TypeId×Value->H):
  ReturnsInHanded {} Tryz.checked os 13 .any (λw args=>(Rows.decisionReadingsSpec.pre enc Tryz.prog Tryz.f13 Rows.decisionReadingsRow.domain false w args∧laidMetH Tryz.prog Rows.decisionReadingsRow.laid w)∧sizedMet enc Tryz.prog Tryz.f13 (OpenSpec.ofChange Rows.decisionReadingsSpec) false w args)
   (Rows.decisionReadingsSpec.post enc Tryz.prog Tryz.f13 false true false false):=by
 refine returnsInHanded_of_change_and (C:=Tryz.checked) (X:=λw _=>laidMetH Tryz.prog Rows.decisionReadingsRow.laid w) (λ_ _ _ hh h=>h.of_heap hh) own started (by kernel_rfl) Tryz.func13
  (ChangeSpec.witness_shaped (enc:=enc) (C:=Tryz.checked) (os:=os) (X:=λw _=>laidMetH Tryz.prog Rows.decisionReadingsRow.laid w) false (World.laidAll Tryz.prog os Rows.decisionReadingsRow.laid) #[.agg #[.string ByteArray.empty,.slice none 0 0,.slice none 0 0,.slice none 0 0,.slice none 0 0,.slice none 0 0,.int .i64 0]] 8 (World.laidAll_os _ _ _)
   (World.shaped_of_ZipB (by kernel_rfl) (by kernel_rfl)) (by kernel_rfl) (by kernel_rfl) (by kernel_rfl)
   (by rw[MakeChecks.laidMetH_plain _ _ _ (by kernel_rfl)];exact laidMet_laidAll _ (by kernel_rfl) (by kernel_rfl))) ?_
 intro W base args ds gs before hval hW _ _ hX _;have hX:laidMetH Tryz.prog Rows.decisionReadingsRow.laid W:=hX;rw[MakeChecks.laidMetH_plain _ _ _ (by kernel_rfl)]at hX;refine qc2 (tb:=4) (bs:=U3) (G:=qyv) laid rfl ?_ (by kernel_rfl) Tryz.underlying4 ?_ hW (qoH hX) (qsT hX) ?_
 ·intro ds' h'
  match ds',h' with
  | [a0],_=>rfl
 ·intro t ht;rw[show Tryz.f13.params.toList= [75] by rw[Tryz.params13]]at ht;simp only[List.mem_cons,List.not_mem_nil,or_false]at ht;rcases ht with rfl<;>exact⟨by kernel_rfl,of_decide_eq_true (by kernel_rfl)⟩
 ·intro p hA;rw[Tryz.params13]at hA hval;obtain⟨v0,d0,p0,rfl,rfl,h0⟩:=qlj hA;obtain⟨cq0,hb0,hv0⟩:=qsA (hval 0 75 v0 rfl rfl) h0;refine⟨by rw[Tryz.params13];rfl,[(.agg (cqC cq0))],?_,qxG cq0 [.pin U3 qyv] qsP qsO hb0⟩;exact VRs.cons' hv0 (VRs.nil')
end Go.Proofs.YtiiegfkjmnoijaaGreatDoor
