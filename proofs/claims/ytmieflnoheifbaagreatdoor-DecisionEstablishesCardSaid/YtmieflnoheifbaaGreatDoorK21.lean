import Derived.Test.YtmieflnoheifbaaGreatDoorK0
import Derived.Test.YtmieflnoheifbaaGreatDoorK20
import Derived.Test.YtmieflnoheifbaaGreatDoorK9
import Derived.Test.YtmieflnoheifbaaGreatDoorK6
import Derived.Test.YtmieflnoheifbaaGreatDoorRows
import Derived.Test.YtmieflnoheifbaaGreatDoorTie
import Derived.Test.YtmieflnoheifbaaGreatDoorCards
import Derived.ProofKit
import Derived.ChangeMaps5
import Derived.OpenShut
import Derived.LaidMore
import Derived.Lay
import Derived.SevenTiedAt
import Derived.Stop.Joined
set_option linter.all false
open Go Go.Proofs AF HY RC LN Go.ChangeShapes Go.WideShapes Go.ChangeAt Go.RowKit
set_option maxRecDepth 100000
namespace Go.Proofs.YtmieflnoheifbaaGreatDoor
theorem own:ownKnob Tryz.prog.godebug=none:=by kernel_rfl
theorem laid:laidOutB Tryz.prog=true:=wp1
theorem qm8{H:Type}{enc:TypeId×Value->H}{P:Program}{w:World}{base:Nat}{spare:Nat->Bool}{held:Bool}{t0:TypeId}{args:Array Value}{ds:List (DataW H)}{ps:List MemPlace}
  (h:DataW.TrodAll enc P w base spare held [t0] args.toList ds ps):
  ∃v0 d0 p0,args= #[v0]∧ds= [d0]∧DataW.Trod enc P w base spare held t0 v0 d0 p0:=by
 obtain⟨v0,vs0,d0,ds0,p0,q0,hargs,rfl,rfl,hd0,hr0⟩:=trodAll_cons h;obtain⟨rfl,rfl,rfl⟩:=trodAll_nil hr0;exact⟨v0,d0,p0,by cases args;simp_all,rfl,hd0⟩
theorem qev:Tryz.prog.cellsOf 3=1:=by kernel_rfl
theorem qgC:Tryz.prog.cellsOf 9=1:=by kernel_rfl
theorem qkf:Tryz.prog.cellsOf 22=1:=by kernel_rfl
theorem qsK:Tryz.prog.cellsOf 23=1:=by kernel_rfl
theorem qsL:Tryz.prog.cellsOf 24=1:=by kernel_rfl
theorem qkg:Tryz.prog.cellsOf 26=4:=by kernel_rfl
theorem qsM:Tryz.prog.cellsOf 31=1:=by kernel_rfl
theorem qsN:Tryz.prog.cellsOf 37=1:=by kernel_rfl
theorem qsO:Tryz.prog.cellsOf 39=3:=by kernel_rfl
theorem qsP:Tryz.prog.cellsOf 41=1:=by kernel_rfl
theorem qsQ:Tryz.prog.cellsOf 51=1:=by kernel_rfl
theorem qsR:Tryz.prog.cellsOf 59=7:=by kernel_rfl
theorem qsS:Tryz.prog.cellsOf 65=4:=by kernel_rfl
theorem qon:Tryz.prog.cellsOf 117=2:=by kernel_rfl
theorem qoo:Tryz.prog.cellsOf 119=6:=by kernel_rfl
theorem qop:Tryz.prog.cellsOf 152=2:=by kernel_rfl
theorem qxQ:qbJ Tryz.prog 8 59=true:=by kernel_rfl
theorem jI{d:Nat}{t:TypeId}{fs:Array Field}{zs:wi}(ht:Tryz.prog.underlying t=some (.struct fs))(h:jo Tryz.prog (d+1) t zs):zs.length=Tryz.prog.cellsOf t∧ ∀f∈fs.toList,jo Tryz.prog d f.type ((zs.drop f.offset).take (Tryz.prog.cellsOf f.type)):=by
 unfold jo at h;rw[ht]at h;exact h
theorem jM{d:Nat}{t e:TypeId}{zs:wi}(ht:Tryz.prog.underlying t=some (.slice e))(h:jo Tryz.prog (d+1) t zs): ∃(n:Nat) (f:Nat->wi),zs= [.sl n f]∧n<=maxLen∧ ∀i,i<n->jo Tryz.prog d e (f i):=by
 unfold jo at h;rw[ht]at h;exact h
theorem kU{d:Nat}{t:TypeId}{k:IntKind}{zs:wi}(ht:Tryz.prog.underlying t=some (.int k))(h:jo Tryz.prog (d+1) t zs): ∃n,zs= [.int k n]:=by
 unfold jo at h;rw[ht]at h;obtain⟨n,h,_⟩:=h;exact⟨n,h⟩
theorem kV{d:Nat}{t:TypeId}{zs:wi}(ht:Tryz.prog.underlying t=some .string)(h:jo Tryz.prog (d+1) t zs): ∃n,zs= [.str n]:=by
 unfold jo at h;rw[ht]at h;obtain⟨n,h,_⟩:=h;exact⟨n,h⟩
theorem qCY{d:Nat}{zs:wi}(h:jo Tryz.prog (d+2) 65 zs): ∃x:Dc,zs=dcC x:=by
 obtain⟨hl,hf⟩:=jI Tryz.underlying65 h;simp only[List.mem_cons,List.not_mem_nil,or_false,forall_eq_or_imp,forall_eq,qev,qgC]at hf;obtain⟨h0,h1,h2,h3⟩:=hf;rw[qsS]at hl
 match zs,hl with
 | [z0,z1,z2,z3],_=>
  obtain⟨x0,e0⟩:=kU Tryz.underlying3 h0;obtain⟨x1,e1⟩:=kV Tryz.underlying9 h1;obtain⟨x2,e2⟩:=kU Tryz.underlying3 h2;obtain⟨x3,e3⟩:=kV Tryz.underlying9 h3;simp at e0 e1 e2 e3;subst e0 e1 e2 e3;exact⟨⟨x0,x1,x2,x3⟩,rfl⟩
theorem qxO{d:Nat}{zs:wi}(h:jo Tryz.prog (d+3) 41 zs): ∃(a:AV) (l:List Dc),zs= [a]∧l.length<=9223372036854775807∧ILe a (kz l):=by
 obtain⟨n,f,rfl,hn,hfi⟩:=jM Tryz.underlying41 h;have key: ∀i,i<n-> ∃x:Dc,f i=dcC x:=λi hi=>qCY (hfi i hi)
 let l:List Dc:=(List.range n).map λi=>if hi:i<n then (key i hi).choose else default
 have hln:l.length=n:=by simp[l]
 have hg: ∀i (hi:i<n),l.getD i default=(key i hi).choose:=λi hi=>by simp[l,gdqA,hi]
 refine⟨_,l,rfl,by rw[hln];unfold maxLen at hn;omega,?_⟩
 ·unfold kz;rw[hln];refine ILe.sl_eq (λi hi=> ?_);rw[hg i hi];exact (key i hi).choose_spec
theorem qgf{d:Nat}{zs:wi}(h:jo Tryz.prog (d+2) 22 zs): ∃(a:AV) (l:List (List UInt8)),zs= [a]∧l.length<=9223372036854775807∧ILe a (HY.strs l):=by
 obtain⟨n,f,rfl,hn,hfi⟩:=jM Tryz.underlying22 h;have key: ∀i,i<n-> ∃x:(List UInt8),f i= [.str x]:=λi hi=>kV Tryz.underlying9 (hfi i hi)
 let l:List (List UInt8):=(List.range n).map λi=>if hi:i<n then (key i hi).choose else []
 have hln:l.length=n:=by simp[l]
 have hg: ∀i (hi:i<n),l.getD i []=(key i hi).choose:=λi hi=>by simp[l,gdqA,hi]
 refine⟨_,l,rfl,by rw[hln];unfold maxLen at hn;omega,?_⟩
 ·unfold HY.strs;rw[hln];refine ILe.sl_eq (λi hi=> ?_);rw[hg i hi];exact (key i hi).choose_spec
theorem qlo{d:Nat}{zs:wi}(h:jo Tryz.prog (d+2) 51 zs): ∃(a:AV) (l:List Int),zs= [a]∧l.length<=9223372036854775807∧ILe a (qx l):=by
 obtain⟨n,f,rfl,hn,hfi⟩:=jM Tryz.underlying51 h;have key: ∀i,i<n-> ∃x:Int,f i= [.int .i64 x]:=λi hi=>kU Tryz.underlying3 (hfi i hi)
 let l:List Int:=(List.range n).map λi=>if hi:i<n then (key i hi).choose else 0
 have hln:l.length=n:=by simp[l]
 have hg: ∀i (hi:i<n),l.getD i 0=(key i hi).choose:=λi hi=>by simp[l,gdqA,hi]
 refine⟨_,l,rfl,by rw[hln];unfold maxLen at hn;omega,?_⟩
 ·unfold qx;rw[hln];refine ILe.sl_eq (λi hi=> ?_);rw[hg i hi];exact (key i hi).choose_spec
theorem qpk{d:Nat}{zs:wi}(h:jo Tryz.prog (d+2) 51 zs): ∃l:List Int,l.length<=9223372036854775807∧qax zs [qx l]:=by
 obtain⟨a,l,rfl,hl,hi⟩:=qlo h;exact⟨l,hl,hi,trivial⟩
theorem qD7{d:Nat}{zs:wi}(h:jo Tryz.prog (d+3) 119 zs): ∃x:Tk,zs=tkC x:=by
 obtain⟨hl,hf⟩:=jI Tryz.underlying119 h;simp only[List.mem_cons,List.not_mem_nil,or_false,forall_eq_or_imp,forall_eq,qev,qgC,qon]at hf;obtain⟨h0,h1,h2,h3,h4⟩:=hf;rw[qoo]at hl
 match zs,hl with
 | [z0,z1,z2,z3,z4,z5],_=>
  obtain⟨hp,hg⟩:=jI Tryz.underlying117 h2;simp only[List.mem_cons,List.not_mem_nil,or_false,forall_eq_or_imp,forall_eq,qgC,qev]at hg;obtain⟨g0,g1⟩:=hg;obtain⟨x0,e0⟩:=kV Tryz.underlying9 h0;obtain⟨x1,e1⟩:=kV Tryz.underlying9 h1;obtain⟨x2,e2⟩:=kV Tryz.underlying9 g0;obtain⟨x3,e3⟩:=kU Tryz.underlying3 g1;obtain⟨x4,e4⟩:=kU Tryz.underlying3 h3;obtain⟨x5,e5⟩:=kV Tryz.underlying9 h4;simp at e0 e1 e2 e3 e4 e5;subst e0 e1 e2 e3 e4 e5;exact⟨⟨x0,x1,x2,x3,x4,x5⟩,rfl⟩
theorem qBm{d:Nat}{zs:wi}(h:jo Tryz.prog (d+4) 115 zs): ∃(a:AV) (l:List Tk),zs= [a]∧l.length<=9223372036854775807∧ILe a (zy l):=by
 obtain⟨n,f,rfl,hn,hfi⟩:=jM Tryz.underlying115 h;have key: ∀i,i<n-> ∃x:Tk,f i=tkC x:=λi hi=>qD7 (hfi i hi)
 let l:List Tk:=(List.range n).map λi=>if hi:i<n then (key i hi).choose else default
 have hln:l.length=n:=by simp[l]
 have hg: ∀i (hi:i<n),l.getD i default=(key i hi).choose:=λi hi=>by simp[l,gdqA,hi]
 refine⟨_,l,rfl,by rw[hln];unfold maxLen at hn;omega,?_⟩
 ·unfold zy;rw[hln];refine ILe.sl_eq (λi hi=> ?_);rw[hg i hi];exact (key i hi).choose_spec
theorem qu2{d:Nat}{zs:wi}(h:jo Tryz.prog (d+4) 115 zs): ∃l:List Tk,l.length<=9223372036854775807∧qax zs [zy l]:=by
 obtain⟨a,l,rfl,hl,hi⟩:=qBm h;exact⟨l,hl,hi,trivial⟩
theorem qu3{d:Nat}{zs:wi}(h:jo Tryz.prog (d+5) 23 zs): ∃(a:AV) (l:List (List Tk)),zs= [a]∧l.length<=9223372036854775807∧(∀i,(l.getD i []).length<=9223372036854775807)∧ILe a (qn l):=by
 obtain⟨n,f,rfl,hn,hfi⟩:=jM Tryz.underlying23 h;have key: ∀i,i<n-> ∃x:(List Tk),x.length<=9223372036854775807∧qax (f i) [zy x]:=λi hi=>qu2 (hfi i hi)
 let l:List (List Tk):=(List.range n).map λi=>if hi:i<n then (key i hi).choose else []
 have hln:l.length=n:=by simp[l]
 have hg: ∀i (hi:i<n),l.getD i []=(key i hi).choose:=λi hi=>by simp[l,gdqA,hi]
 refine⟨_,l,rfl,by rw[hln];unfold maxLen at hn;omega,?_,?_⟩
 ·intro i
  by_cases hi:i<n
  ·rw[hg i hi];exact (key i hi).choose_spec.1
  ·rw[gdqA,List.getElem?_eq_none om]
   first|exact nzl _|exact⟨nzl _,nzl _,λ_=>nzl _,λ_=>nzl _⟩
 ·unfold qn;rw[hln];refine ILe.sl (λi hi=> ?_);rw[hg i hi];exact (key i hi).choose_spec.2
theorem qsZ{d:Nat}{zs:wi}(h:jo Tryz.prog (d+3) 24 zs): ∃(a:AV) (l:List (List Int)),zs= [a]∧l.length<=9223372036854775807∧(∀i,(l.getD i []).length<=9223372036854775807)∧ILe a (qv l):=by
 obtain⟨n,f,rfl,hn,hfi⟩:=jM Tryz.underlying24 h;have key: ∀i,i<n-> ∃x:(List Int),x.length<=9223372036854775807∧qax (f i) [qx x]:=λi hi=>qpk (hfi i hi)
 let l:List (List Int):=(List.range n).map λi=>if hi:i<n then (key i hi).choose else []
 have hln:l.length=n:=by simp[l]
 have hg: ∀i (hi:i<n),l.getD i []=(key i hi).choose:=λi hi=>by simp[l,gdqA,hi]
 refine⟨_,l,rfl,by rw[hln];unfold maxLen at hn;omega,?_,?_⟩
 ·intro i
  by_cases hi:i<n
  ·rw[hg i hi];exact (key i hi).choose_spec.1
  ·rw[gdqA,List.getElem?_eq_none om]
   first|exact nzl _|exact⟨nzl _,nzl _,λ_=>nzl _,λ_=>nzl _⟩
 ·unfold qv;rw[hln];refine ILe.sl (λi hi=> ?_);rw[hg i hi];exact (key i hi).choose_spec.2
theorem qDW{d:Nat}{zs:wi}(h:jo Tryz.prog (d+3) 152 zs): ∃r:Rd,r.words.length<=9223372036854775807∧qax zs (rdC r):=by
 obtain⟨hl,hf⟩:=jI Tryz.underlying152 h;simp only[List.mem_cons,List.not_mem_nil,or_false,forall_eq_or_imp,forall_eq,qkf,qsQ]at hf;obtain⟨h0,h1⟩:=hf;rw[qop]at hl
 match zs,hl with
 | [a,b],_=>
  obtain⟨x,w,e0,l0,i0⟩:=qgf h0;obtain⟨y,s,e1,l1,i1⟩:=qlo h1;simp at e0 e1;subst e0 e1;exact⟨⟨w,s⟩,l0,i0,i1,trivial⟩
theorem qAM{d:Nat}{zs:wi}(h:jo Tryz.prog (d+4) 37 zs): ∃(a:AV) (l:List Rd),zs= [a]∧l.length<=9223372036854775807∧(∀i,(l.getD i default).words.length<=9223372036854775807)∧ILe a (jh l):=by
 obtain⟨n,f,rfl,hn,hfi⟩:=jM Tryz.underlying37 h;have key: ∀i,i<n-> ∃x:Rd,x.words.length<=9223372036854775807∧qax (f i) (rdC x):=λi hi=>qDW (hfi i hi)
 let l:List Rd:=(List.range n).map λi=>if hi:i<n then (key i hi).choose else default
 have hln:l.length=n:=by simp[l]
 have hg: ∀i (hi:i<n),l.getD i default=(key i hi).choose:=λi hi=>by simp[l,gdqA,hi]
 refine⟨_,l,rfl,by rw[hln];unfold maxLen at hn;omega,?_,?_⟩
 ·intro i
  by_cases hi:i<n
  ·rw[hg i hi];exact (key i hi).choose_spec.1
  ·rw[gdqA,List.getElem?_eq_none om]
   first|exact nzl _|exact⟨nzl _,nzl _,λ_=>nzl _,λ_=>nzl _⟩
 ·unfold jh;rw[hln];refine ILe.sl (λi hi=> ?_);rw[hg i hi];exact (key i hi).choose_spec.2
theorem qEb{d:Nat}{zs:wi}(h:jo Tryz.prog (d+5) 39 zs): ∃u:Un,(u.rds.length<=9223372036854775807∧ ∀j,(u.rds.getD j default).words.length<=9223372036854775807)∧qax zs (unC u):=by
 obtain⟨hl,hf⟩:=jI Tryz.underlying39 h;simp only[List.mem_cons,List.not_mem_nil,or_false,forall_eq_or_imp,forall_eq,qev,qsN]at hf;obtain⟨h0,h1,h2⟩:=hf;rw[qsO]at hl
 match zs,hl with
 | [a,b,c],_=>
  obtain⟨x0,e0⟩:=kU Tryz.underlying3 h0;obtain⟨x1,e1⟩:=kU Tryz.underlying3 h1;obtain⟨y,s,e2,l2,b2,i2⟩:=qAM h2;simp at e0 e1 e2;subst e0 e1 e2;exact⟨⟨x0,x1,s⟩,⟨l2,b2⟩,ILe.refl _,ILe.refl _,i2,trivial⟩
theorem qBr{d:Nat}{zs:wi}(h:jo Tryz.prog (d+6) 31 zs): ∃(a:AV) (l:List Un),zs= [a]∧l.length<=9223372036854775807∧(∀i,(l.getD i default).rds.length<=9223372036854775807∧ ∀j,((l.getD i default).rds.getD j default).words.length<=9223372036854775807)∧ILe a (qZ l):=by
 obtain⟨n,f,rfl,hn,hfi⟩:=jM Tryz.underlying31 h;have key: ∀i,i<n-> ∃x:Un,(x.rds.length<=9223372036854775807∧ ∀j,(x.rds.getD j default).words.length<=9223372036854775807)∧qax (f i) (unC x):=λi hi=>qEb (hfi i hi)
 let l:List Un:=(List.range n).map λi=>if hi:i<n then (key i hi).choose else default
 have hln:l.length=n:=by simp[l]
 have hg: ∀i (hi:i<n),l.getD i default=(key i hi).choose:=λi hi=>by simp[l,gdqA,hi]
 refine⟨_,l,rfl,by rw[hln];unfold maxLen at hn;omega,?_,?_⟩
 ·intro i
  by_cases hi:i<n
  ·rw[hg i hi];exact (key i hi).choose_spec.1
  ·rw[gdqA,List.getElem?_eq_none om]
   first|exact nzl _|exact⟨nzl _,λ_=>nzl _⟩|exact⟨nzl _,nzl _,λ_=>nzl _,λ_=>nzl _⟩
 ·unfold qZ;rw[hln];refine ILe.sl (λi hi=> ?_);rw[hg i hi];exact (key i hi).choose_spec.2
theorem qCU{d:Nat}{zs:wi}(h:jo Tryz.prog (d+6) 26 zs): ∃x:Co,CoB x∧qax zs (coC x):=by
 obtain⟨hl,hf⟩:=jI Tryz.underlying26 h;simp only[List.mem_cons,List.not_mem_nil,or_false,forall_eq_or_imp,forall_eq,qgC,qkf,qsK,qsL]at hf;obtain⟨h0,h1,h2,h3⟩:=hf;rw[qkg]at hl
 match zs,hl with
 | [a,b,c,e],_=>
  obtain⟨x0,e0⟩:=kV Tryz.underlying9 h0;obtain⟨a1,x1,e1,l1,i1⟩:=qgf h1;obtain⟨a2,x2,e2,l2,_,i2⟩:=qu3 h2;obtain⟨a3,x3,e3,l3,_,i3⟩:=qsZ h3;simp at e0 e1 e2 e3;subst e0 e1 e2 e3;exact⟨⟨x0,x1,x2,x3⟩,⟨l1,l2,l3⟩,ILe.refl _,i1,i2,i3,trivial⟩
theorem qCW{d:Nat}{zs:wi}(h:jo Tryz.prog (d+7) 59 zs): ∃a:Cq,CqB a∧qax zs (cqC a):=by
 obtain⟨hl,hf⟩:=jI Tryz.underlying59 h;simp only[List.mem_cons,List.not_mem_nil,or_false,forall_eq_or_imp,forall_eq,qev,qkg,qsM,qsP]at hf;obtain⟨h0,h1,h2,h3⟩:=hf;rw[qsR]at hl
 match zs,hl with
 | [z0,z1,z2,z3,z4,z5,z6],_=>
  obtain⟨x,xb,xi⟩:=qCU h0;have xi:qax [z0,z1,z2,z3] (coC x):=xi;obtain⟨j0,j1,j2,j3,_⟩:=xi;obtain⟨a1,y1,e1,l1,b1,i1⟩:=qBr h1;obtain⟨a2,y2,e2,l2,i2⟩:=qxO h2;obtain⟨x3,e3⟩:=kU Tryz.underlying3 h3;simp at e1 e2 e3;subst e1 e2 e3;exact⟨⟨x,y1,y2,x3⟩,⟨xb,⟨l1,λi=>(b1 i).1,λi=>(b1 i).2⟩,l2⟩,j0,j1,j2,j3,i1,i2,ILe.refl _,trivial⟩
theorem quC{H:Type}{enc:TypeId×Value->H}{W:World}{base:Nat}{v:Value}{d:DataW H}{ps:List MemPlace}(hval:Value.okWide Tryz.prog W .any base 59 v)(h:DataW.Trod enc Tryz.prog W 0 (λ_=>true) true 59 v d ps):
  ∃a:Cq,CqB a∧VR W [] (.agg (cqC a)) v:=by
 unfold Value.okWide at hval;rw[Tryz.underlying59]at hval;simp only at hval;obtain⟨cs,rfl,_,_⟩:=hval;obtain⟨zs,hg,hvi⟩:=qp0 (ow:=AF.own []) quj qxQ h;obtain⟨a,h1,hil⟩:=qCW hg;exact⟨a,h1,.imm (ILe.agg hil _ _ _ hvi)⟩
theorem qaJ(os:Os)(started:os.Started)(H:Type)(enc:TypeId×Value->H):
  ReturnsInHanded {} Tryz.checked os 4 .any (λw args=>(Rows.decisionEstablishesSpec.pre enc Tryz.prog Tryz.f4 Rows.decisionEstablishesRow.domain false w args∧laidMetH Tryz.prog Rows.decisionEstablishesRow.laid w)∧sizedMet enc Tryz.prog Tryz.f4 (OpenSpec.ofChange Rows.decisionEstablishesSpec) false w args)
   (Rows.decisionEstablishesSpec.post enc Tryz.prog Tryz.f4 false true false false):=by
 refine returnsInHanded_of_change_and (C:=Tryz.checked) (X:=λw _=>laidMetH Tryz.prog Rows.decisionEstablishesRow.laid w) (λ_ _ _ hh h=>h.of_heap hh) own started (by kernel_rfl) Tryz.func4
  (ChangeSpec.witness_shaped (enc:=enc) (C:=Tryz.checked) (os:=os) (X:=λw _=>laidMetH Tryz.prog Rows.decisionEstablishesRow.laid w) false (World.laidAll Tryz.prog os Rows.decisionEstablishesRow.laid) #[.agg #[.string ByteArray.empty,.slice none 0 0,.slice none 0 0,.slice none 0 0,.slice none 0 0,.slice none 0 0,.int .i64 0]] 8 (World.laidAll_os _ _ _)
   (World.shaped_of_ZipB (by kernel_rfl) (by kernel_rfl)) (by kernel_rfl) (by kernel_rfl) (by kernel_rfl)
   (by rw[MakeChecks.laidMetH_plain _ _ _ (by kernel_rfl)];exact laidMet_laidAll _ (by kernel_rfl) (by kernel_rfl))) ?_
 intro W base args ds gs before hval hW _ _ hX _;have hX:laidMetH Tryz.prog Rows.decisionEstablishesRow.laid W:=hX;rw[MakeChecks.laidMetH_plain _ _ _ (by kernel_rfl)]at hX;refine qeO (tb:=4) (bs:=qbX) (G:=qA9) laid rfl ?_ (by kernel_rfl) Tryz.underlying4 ?_ hW (qqk hX) (quT hX) ?_
 ·intro ds' h'
  match ds',h' with
  | [a0],_=>rfl
 ·intro t ht;rw[show Tryz.f4.params.toList= [59] by rw[Tryz.params4]]at ht;simp only[List.mem_cons,List.not_mem_nil,or_false]at ht;rcases ht with rfl<;>exact⟨by kernel_rfl,of_decide_eq_true (by kernel_rfl)⟩
 ·intro p hA;rw[Tryz.params4]at hA hval;obtain⟨v0,d0,p0,rfl,rfl,h0⟩:=qm8 hA;obtain⟨cq0,hb0,hv0⟩:=quC (hval 0 59 v0 rfl rfl) h0;refine⟨by rw[Tryz.params4];rfl,[(.agg (cqC cq0))],?_,qAh cq0 [.pin qbX qA9] quS quR hb0⟩;exact VRs.cons' hv0 (VRs.nil')
end Go.Proofs.YtmieflnoheifbaaGreatDoor
