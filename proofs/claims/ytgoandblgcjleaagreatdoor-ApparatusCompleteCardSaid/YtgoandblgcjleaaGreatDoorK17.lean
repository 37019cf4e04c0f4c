import Derived.Test.YtgoandblgcjleaaGreatDoorK0
import Derived.Test.YtgoandblgcjleaaGreatDoorK16
import Derived.Test.YtgoandblgcjleaaGreatDoorK9
import Derived.Test.YtgoandblgcjleaaGreatDoorK6
import Derived.Test.YtgoandblgcjleaaGreatDoorRows
import Derived.Test.YtgoandblgcjleaaGreatDoorTie
import Derived.Test.YtgoandblgcjleaaGreatDoorCards
import Derived.ProofKit
import Derived.ChangeMaps5
import Derived.OpenShut
import Derived.LaidMore
import Derived.Lay
import Derived.SevenTiedAt
import Derived.Stop.Joined
set_option linter.all false
set_option linter.unusedSimpArgs false
set_option linter.unusedVariables false
set_option linter.unusedSectionVars false
open Go Go.Proofs AF HY RC LN Go.ChangeShapes Go.WideShapes Go.ChangeAt Go.RowKit
set_option maxRecDepth 100000
namespace Go.Proofs.YtgoandblgcjleaaGreatDoor
theorem own:ownKnob Tryz.prog.godebug=none:=by kernel_rfl
theorem laid:laidOutB Tryz.prog=true:=wp1
theorem qnD {H:Type} {enc:TypeId×Value→H} {P:Program} {w:World} {base:Nat} {spare:Nat→Bool} {held:Bool} {t0:TypeId} {args:Array Value} {ds:List (DataW H)} {ps:List MemPlace}
  (h:DataW.TrodAll enc P w base spare held [t0] args.toList ds ps):
  ∃v0 d0 p0,args= #[v0]∧ds= [d0]∧DataW.Trod enc P w base spare held t0 v0 d0 p0:=by
 obtain ⟨v0,vs0,d0,ds0,p0,q0,hargs,rfl,rfl,hd0,hr0⟩:=trodAll_cons h
 obtain ⟨rfl,rfl,rfl⟩:=trodAll_nil hr0
 exact ⟨v0,d0,p0,by cases args;simp_all,rfl,hd0⟩
theorem qgU:Tryz.prog.cellsOf 3=1:=by kernel_rfl
theorem qxb:Tryz.prog.cellsOf 4=1:=by kernel_rfl
theorem qeN:Tryz.prog.cellsOf 9=1:=by kernel_rfl
theorem qfU:Tryz.prog.cellsOf 22=1:=by kernel_rfl
theorem qsT:Tryz.prog.cellsOf 23=1:=by kernel_rfl
theorem qsU:Tryz.prog.cellsOf 24=1:=by kernel_rfl
theorem qkE:Tryz.prog.cellsOf 26=4:=by kernel_rfl
theorem qsV:Tryz.prog.cellsOf 27=1:=by kernel_rfl
theorem qsW:Tryz.prog.cellsOf 29=1:=by kernel_rfl
theorem qsX:Tryz.prog.cellsOf 34=2:=by kernel_rfl
theorem qsY:Tryz.prog.cellsOf 43=1:=by kernel_rfl
theorem qsZ:Tryz.prog.cellsOf 44=1:=by kernel_rfl
theorem qs0:Tryz.prog.cellsOf 45=1:=by kernel_rfl
theorem qs1:Tryz.prog.cellsOf 47=10:=by kernel_rfl
theorem qkF:Tryz.prog.cellsOf 62=1:=by kernel_rfl
theorem qs2:Tryz.prog.cellsOf 64=7:=by kernel_rfl
theorem qs3:Tryz.prog.cellsOf 81=1:=by kernel_rfl
theorem qs4:Tryz.prog.cellsOf 83=3:=by kernel_rfl
theorem qs5:Tryz.prog.cellsOf 89=2:=by kernel_rfl
theorem qoG:Tryz.prog.cellsOf 124=6:=by kernel_rfl
theorem qoH:Tryz.prog.cellsOf 167=2:=by kernel_rfl
theorem qxk:qcc Tryz.prog 8 47=true:=by kernel_rfl
theorem zV {d:Nat} {t:TypeId} {fs:Array Field} {zs:List AV} (ht:Tryz.prog.underlying t=some (.struct fs)) (h:zC Tryz.prog (d+1) t zs):zs.length=Tryz.prog.cellsOf t∧ ∀f∈fs.toList,zC Tryz.prog d f.type ((zs.drop f.offset).take (Tryz.prog.cellsOf f.type)):=by
 unfold zC at h;rw [ht]at h;exact h
theorem zH {d:Nat} {t e:TypeId} {zs:List AV} (ht:Tryz.prog.underlying t=some (.slice e)) (h:zC Tryz.prog (d+1) t zs): ∃(n:Nat) (f:Nat→List AV),zs= [.sl n f]∧n≤maxLen∧ ∀i,i<n→zC Tryz.prog d e (f i):=by
 unfold zC at h;rw [ht]at h;exact h
theorem km {d:Nat} {t:TypeId} {k:IntKind} {zs:List AV} (ht:Tryz.prog.underlying t=some (.int k)) (h:zC Tryz.prog (d+1) t zs): ∃n,zs= [.int k n]:=by
 unfold zC at h;rw [ht]at h;obtain ⟨n,h,_⟩:=h;exact ⟨n,h⟩
theorem qcW {d:Nat} {t:TypeId} {zs:List AV} (ht:Tryz.prog.underlying t=some .bool) (h:zC Tryz.prog (d+1) t zs): ∃n,zs= [.bool n]:=by
 unfold zC at h;rw [ht]at h;exact h
theorem jR {d:Nat} {t:TypeId} {zs:List AV} (ht:Tryz.prog.underlying t=some .string) (h:zC Tryz.prog (d+1) t zs): ∃n,zs= [.str n]:=by
 unfold zC at h;rw [ht]at h;obtain ⟨n,h,_⟩:=h;exact ⟨n,h⟩
theorem qCe {d:Nat} {zs:List AV} (h:zC Tryz.prog (d+2) 64 zs): ∃x:Wd,zs=wdC x:=by
 obtain ⟨hl,hf⟩:=zV Tryz.underlying64 h
 simp only [List.mem_cons,List.not_mem_nil,or_false,forall_eq_or_imp,forall_eq,qgU,qxb,qeN]at hf
 obtain ⟨h0,h1,h2,h3,h4,h5,h6⟩:=hf
 rw [qs2]at hl
 match zs,hl with
 | [z0,z1,z2,z3,z4,z5,z6],_=>
  obtain ⟨x0,e0⟩:=jR Tryz.underlying9 h0
  obtain ⟨x1,e1⟩:=km Tryz.underlying3 h1
  obtain ⟨x2,e2⟩:=km Tryz.underlying3 h2
  obtain ⟨x3,e3⟩:=km Tryz.underlying3 h3
  obtain ⟨x4,e4⟩:=qcW Tryz.underlying4 h4
  obtain ⟨x5,e5⟩:=qcW Tryz.underlying4 h5
  obtain ⟨x6,e6⟩:=jR Tryz.underlying9 h6
  simp at e0 e1 e2 e3 e4 e5 e6
  subst e0 e1 e2 e3 e4 e5 e6
  exact ⟨⟨x0,x1,x2,x3,x4,x5,x6⟩,rfl⟩
theorem qAk {d:Nat} {zs:List AV} (h:zC Tryz.prog (d+3) 29 zs): ∃(a:AV) (l:List Wd),zs= [a]∧l.length≤9223372036854775807∧ILe a (qK l):=by
 obtain ⟨n,f,rfl,hn,hfi⟩:=zH Tryz.underlying29 h
 have key: ∀i,i<n→ ∃x:Wd,f i=wdC x:=fun i hi=>qCe (hfi i hi)
 let l:List Wd:=(List.range n).map fun i=>if hi:i<n then (key i hi).choose else default
 have hln:l.length=n:=by simp [l]
 have hg: ∀i (hi:i<n),l.getD i default=(key i hi).choose:=fun i hi=>by simp [l,gdqA,hi]
 refine ⟨_,l,rfl,by rw [hln];unfold maxLen at hn;omega,?_⟩
 ·unfold qK
  rw [hln]
  refine ILe.sl_eq (fun i hi=> ?_)
  rw [hg i hi]
  exact (key i hi).choose_spec
theorem qbX {d:Nat} {zs:List AV} (h:zC Tryz.prog (d+2) 22 zs): ∃(a:AV) (l:List (List UInt8)),zs= [a]∧l.length≤9223372036854775807∧ILe a (HY.strs l):=by
 obtain ⟨n,f,rfl,hn,hfi⟩:=zH Tryz.underlying22 h
 have key: ∀i,i<n→ ∃x:(List UInt8),f i= [.str x]:=fun i hi=>jR Tryz.underlying9 (hfi i hi)
 let l:List (List UInt8):=(List.range n).map fun i=>if hi:i<n then (key i hi).choose else []
 have hln:l.length=n:=by simp [l]
 have hg: ∀i (hi:i<n),l.getD i []=(key i hi).choose:=fun i hi=>by simp [l,gdqA,hi]
 refine ⟨_,l,rfl,by rw [hln];unfold maxLen at hn;omega,?_⟩
 ·unfold HY.strs
  rw [hln]
  refine ILe.sl_eq (fun i hi=> ?_)
  rw [hg i hi]
  exact (key i hi).choose_spec
theorem qga {d:Nat} {zs:List AV} (h:zC Tryz.prog (d+2) 62 zs): ∃(a:AV) (l:List Int),zs= [a]∧l.length≤9223372036854775807∧ILe a (qo l):=by
 obtain ⟨n,f,rfl,hn,hfi⟩:=zH Tryz.underlying62 h
 have key: ∀i,i<n→ ∃x:Int,f i= [.int .i64 x]:=fun i hi=>km Tryz.underlying3 (hfi i hi)
 let l:List Int:=(List.range n).map fun i=>if hi:i<n then (key i hi).choose else 0
 have hln:l.length=n:=by simp [l]
 have hg: ∀i (hi:i<n),l.getD i 0=(key i hi).choose:=fun i hi=>by simp [l,gdqA,hi]
 refine ⟨_,l,rfl,by rw [hln];unfold maxLen at hn;omega,?_⟩
 ·unfold qo
  rw [hln]
  refine ILe.sl_eq (fun i hi=> ?_)
  rw [hg i hi]
  exact (key i hi).choose_spec
theorem qsu {d:Nat} {zs:List AV} (h:zC Tryz.prog (d+2) 45 zs): ∃(a:AV) (l:List Bool),zs= [a]∧l.length≤9223372036854775807∧ILe a (zy l):=by
 obtain ⟨n,f,rfl,hn,hfi⟩:=zH Tryz.underlying45 h
 have key: ∀i,i<n→ ∃x:Bool,f i= [.bool x]:=fun i hi=>qcW Tryz.underlying4 (hfi i hi)
 let l:List Bool:=(List.range n).map fun i=>if hi:i<n then (key i hi).choose else false
 have hln:l.length=n:=by simp [l]
 have hg: ∀i (hi:i<n),l.getD i false=(key i hi).choose:=fun i hi=>by simp [l,gdqA,hi]
 refine ⟨_,l,rfl,by rw [hln];unfold maxLen at hn;omega,?_⟩
 ·unfold zy
  rw [hln]
  refine ILe.sl_eq (fun i hi=> ?_)
  rw [hg i hi]
  exact (key i hi).choose_spec
theorem qqT {d:Nat} {zs:List AV} (h:zC Tryz.prog (d+2) 22 zs): ∃l:List (List UInt8),l.length≤9223372036854775807∧qak zs [HY.strs l]:=by
 obtain ⟨a,l,rfl,hl,hi⟩:=qbX h
 exact ⟨l,hl,hi,trivial⟩
theorem qpA {d:Nat} {zs:List AV} (h:zC Tryz.prog (d+2) 62 zs): ∃l:List Int,l.length≤9223372036854775807∧qak zs [qo l]:=by
 obtain ⟨a,l,rfl,hl,hi⟩:=qga h
 exact ⟨l,hl,hi,trivial⟩
theorem qB1 {d:Nat} {zs:List AV} (h:zC Tryz.prog (d+3) 124 zs): ∃x:Tk,zs=tkC x:=by
 obtain ⟨hl,hf⟩:=zV Tryz.underlying124 h
 simp only [List.mem_cons,List.not_mem_nil,or_false,forall_eq_or_imp,forall_eq,qgU,qeN,qsX]at hf
 obtain ⟨h0,h1,h2,h3,h4⟩:=hf
 rw [qoG]at hl
 match zs,hl with
 | [z0,z1,z2,z3,z4,z5],_=>
  obtain ⟨hp,hg⟩:=zV Tryz.underlying34 h2
  simp only [List.mem_cons,List.not_mem_nil,or_false,forall_eq_or_imp,forall_eq,qeN,qgU]at hg
  obtain ⟨g0,g1⟩:=hg
  obtain ⟨x0,e0⟩:=jR Tryz.underlying9 h0
  obtain ⟨x1,e1⟩:=jR Tryz.underlying9 h1
  obtain ⟨x2,e2⟩:=jR Tryz.underlying9 g0
  obtain ⟨x3,e3⟩:=km Tryz.underlying3 g1
  obtain ⟨x4,e4⟩:=km Tryz.underlying3 h3
  obtain ⟨x5,e5⟩:=jR Tryz.underlying9 h4
  simp at e0 e1 e2 e3 e4 e5
  subst e0 e1 e2 e3 e4 e5
  exact ⟨⟨x0,x1,x2,x3,x4,x5⟩,rfl⟩
theorem qzT {d:Nat} {zs:List AV} (h:zC Tryz.prog (d+4) 125 zs): ∃(a:AV) (l:List Tk),zs= [a]∧l.length≤9223372036854775807∧ILe a (jL l):=by
 obtain ⟨n,f,rfl,hn,hfi⟩:=zH Tryz.underlying125 h
 have key: ∀i,i<n→ ∃x:Tk,f i=tkC x:=fun i hi=>qB1 (hfi i hi)
 let l:List Tk:=(List.range n).map fun i=>if hi:i<n then (key i hi).choose else default
 have hln:l.length=n:=by simp [l]
 have hg: ∀i (hi:i<n),l.getD i default=(key i hi).choose:=fun i hi=>by simp [l,gdqA,hi]
 refine ⟨_,l,rfl,by rw [hln];unfold maxLen at hn;omega,?_⟩
 ·unfold jL
  rw [hln]
  refine ILe.sl_eq (fun i hi=> ?_)
  rw [hg i hi]
  exact (key i hi).choose_spec
theorem quY {d:Nat} {zs:List AV} (h:zC Tryz.prog (d+4) 125 zs): ∃l:List Tk,l.length≤9223372036854775807∧qak zs [jL l]:=by
 obtain ⟨a,l,rfl,hl,hi⟩:=qzT h
 exact ⟨l,hl,hi,trivial⟩
theorem quZ {d:Nat} {zs:List AV} (h:zC Tryz.prog (d+5) 23 zs): ∃(a:AV) (l:List (List Tk)),zs= [a]∧l.length≤9223372036854775807∧(∀i,(l.getD i []).length≤9223372036854775807)∧ILe a (qq l):=by
 obtain ⟨n,f,rfl,hn,hfi⟩:=zH Tryz.underlying23 h
 have key: ∀i,i<n→ ∃x:(List Tk),x.length≤9223372036854775807∧qak (f i) [jL x]:=fun i hi=>quY (hfi i hi)
 let l:List (List Tk):=(List.range n).map fun i=>if hi:i<n then (key i hi).choose else []
 have hln:l.length=n:=by simp [l]
 have hg: ∀i (hi:i<n),l.getD i []=(key i hi).choose:=fun i hi=>by simp [l,gdqA,hi]
 refine ⟨_,l,rfl,by rw [hln];unfold maxLen at hn;omega,?_,?_⟩
 ·intro i
  by_cases hi:i<n
  ·rw [hg i hi];exact (key i hi).choose_spec.1
  ·rw [gdqA,List.getElem?_eq_none (by omega)]
   first|exact Nat.zero_le _|exact ⟨Nat.zero_le _,Nat.zero_le _,fun _=>Nat.zero_le _,fun _=>Nat.zero_le _⟩
 ·unfold qq
  rw [hln]
  refine ILe.sl (fun i hi=> ?_)
  rw [hg i hi]
  exact (key i hi).choose_spec.2
theorem qtc {d:Nat} {zs:List AV} (h:zC Tryz.prog (d+3) 24 zs): ∃(a:AV) (l:List (List Int)),zs= [a]∧l.length≤9223372036854775807∧(∀i,(l.getD i []).length≤9223372036854775807)∧ILe a (qn l):=by
 obtain ⟨n,f,rfl,hn,hfi⟩:=zH Tryz.underlying24 h
 have key: ∀i,i<n→ ∃x:(List Int),x.length≤9223372036854775807∧qak (f i) [qo x]:=fun i hi=>qpA (hfi i hi)
 let l:List (List Int):=(List.range n).map fun i=>if hi:i<n then (key i hi).choose else []
 have hln:l.length=n:=by simp [l]
 have hg: ∀i (hi:i<n),l.getD i []=(key i hi).choose:=fun i hi=>by simp [l,gdqA,hi]
 refine ⟨_,l,rfl,by rw [hln];unfold maxLen at hn;omega,?_,?_⟩
 ·intro i
  by_cases hi:i<n
  ·rw [hg i hi];exact (key i hi).choose_spec.1
  ·rw [gdqA,List.getElem?_eq_none (by omega)]
   first|exact Nat.zero_le _|exact ⟨Nat.zero_le _,Nat.zero_le _,fun _=>Nat.zero_le _,fun _=>Nat.zero_le _⟩
 ·unfold qn
  rw [hln]
  refine ILe.sl (fun i hi=> ?_)
  rw [hg i hi]
  exact (key i hi).choose_spec.2
theorem qxc {d:Nat} {zs:List AV} (h:zC Tryz.prog (d+3) 43 zs): ∃(a:AV) (l:List (List (List UInt8))),zs= [a]∧l.length≤9223372036854775807∧(∀i,(l.getD i []).length≤9223372036854775807)∧ILe a (zr l):=by
 obtain ⟨n,f,rfl,hn,hfi⟩:=zH Tryz.underlying43 h
 have key: ∀i,i<n→ ∃x:(List (List UInt8)),x.length≤9223372036854775807∧qak (f i) [HY.strs x]:=fun i hi=>qqT (hfi i hi)
 let l:List (List (List UInt8)):=(List.range n).map fun i=>if hi:i<n then (key i hi).choose else []
 have hln:l.length=n:=by simp [l]
 have hg: ∀i (hi:i<n),l.getD i []=(key i hi).choose:=fun i hi=>by simp [l,gdqA,hi]
 refine ⟨_,l,rfl,by rw [hln];unfold maxLen at hn;omega,?_,?_⟩
 ·intro i
  by_cases hi:i<n
  ·rw [hg i hi];exact (key i hi).choose_spec.1
  ·rw [gdqA,List.getElem?_eq_none (by omega)]
   first|exact Nat.zero_le _|exact ⟨Nat.zero_le _,Nat.zero_le _,fun _=>Nat.zero_le _,fun _=>Nat.zero_le _⟩
 ·unfold zr
  rw [hln]
  refine ILe.sl (fun i hi=> ?_)
  rw [hg i hi]
  exact (key i hi).choose_spec.2
theorem qBR {d:Nat} {zs:List AV} (h:zC Tryz.prog (d+3) 89 zs): ∃r:Rd,r.words.length≤9223372036854775807∧qak zs (rdC r):=by
 obtain ⟨hl,hf⟩:=zV Tryz.underlying89 h
 simp only [List.mem_cons,List.not_mem_nil,or_false,forall_eq_or_imp,forall_eq,qfU,qkF]at hf
 obtain ⟨h0,h1⟩:=hf
 rw [qs5]at hl
 match zs,hl with
 | [a,b],_=>
  obtain ⟨x,w,e0,l0,i0⟩:=qbX h0
  obtain ⟨y,s,e1,l1,i1⟩:=qga h1
  simp at e0 e1
  subst e0 e1
  exact ⟨⟨w,s⟩,l0,i0,i1,trivial⟩
theorem qzu {d:Nat} {zs:List AV} (h:zC Tryz.prog (d+4) 81 zs): ∃(a:AV) (l:List Rd),zs= [a]∧l.length≤9223372036854775807∧(∀i,(l.getD i default).words.length≤9223372036854775807)∧ILe a (zD l):=by
 obtain ⟨n,f,rfl,hn,hfi⟩:=zH Tryz.underlying81 h
 have key: ∀i,i<n→ ∃x:Rd,x.words.length≤9223372036854775807∧qak (f i) (rdC x):=fun i hi=>qBR (hfi i hi)
 let l:List Rd:=(List.range n).map fun i=>if hi:i<n then (key i hi).choose else default
 have hln:l.length=n:=by simp [l]
 have hg: ∀i (hi:i<n),l.getD i default=(key i hi).choose:=fun i hi=>by simp [l,gdqA,hi]
 refine ⟨_,l,rfl,by rw [hln];unfold maxLen at hn;omega,?_,?_⟩
 ·intro i
  by_cases hi:i<n
  ·rw [hg i hi];exact (key i hi).choose_spec.1
  ·rw [gdqA,List.getElem?_eq_none (by omega)]
   first|exact Nat.zero_le _|exact ⟨Nat.zero_le _,Nat.zero_le _,fun _=>Nat.zero_le _,fun _=>Nat.zero_le _⟩
 ·unfold zD
  rw [hln]
  refine ILe.sl (fun i hi=> ?_)
  rw [hg i hi]
  exact (key i hi).choose_spec.2
theorem qB3 {d:Nat} {zs:List AV} (h:zC Tryz.prog (d+5) 83 zs): ∃u:Un,(u.rds.length≤9223372036854775807∧ ∀j,(u.rds.getD j default).words.length≤9223372036854775807)∧qak zs (unC u):=by
 obtain ⟨hl,hf⟩:=zV Tryz.underlying83 h
 simp only [List.mem_cons,List.not_mem_nil,or_false,forall_eq_or_imp,forall_eq,qgU,qs3]at hf
 obtain ⟨h0,h1,h2⟩:=hf
 rw [qs4]at hl
 match zs,hl with
 | [a,b,c],_=>
  obtain ⟨x0,e0⟩:=km Tryz.underlying3 h0
  obtain ⟨x1,e1⟩:=km Tryz.underlying3 h1
  obtain ⟨y,s,e2,l2,b2,i2⟩:=qzu h2
  simp at e0 e1 e2
  subst e0 e1 e2
  exact ⟨⟨x0,x1,s⟩,⟨l2,b2⟩,ILe.refl _,ILe.refl _,i2,trivial⟩
theorem qzU {d:Nat} {zs:List AV} (h:zC Tryz.prog (d+6) 27 zs): ∃(a:AV) (l:List Un),zs= [a]∧l.length≤9223372036854775807∧(∀i,(l.getD i default).rds.length≤9223372036854775807∧ ∀j,((l.getD i default).rds.getD j default).words.length≤9223372036854775807)∧ILe a (qz l):=by
 obtain ⟨n,f,rfl,hn,hfi⟩:=zH Tryz.underlying27 h
 have key: ∀i,i<n→ ∃x:Un,(x.rds.length≤9223372036854775807∧ ∀j,(x.rds.getD j default).words.length≤9223372036854775807)∧qak (f i) (unC x):=fun i hi=>qB3 (hfi i hi)
 let l:List Un:=(List.range n).map fun i=>if hi:i<n then (key i hi).choose else default
 have hln:l.length=n:=by simp [l]
 have hg: ∀i (hi:i<n),l.getD i default=(key i hi).choose:=fun i hi=>by simp [l,gdqA,hi]
 refine ⟨_,l,rfl,by rw [hln];unfold maxLen at hn;omega,?_,?_⟩
 ·intro i
  by_cases hi:i<n
  ·rw [hg i hi];exact (key i hi).choose_spec.1
  ·rw [gdqA,List.getElem?_eq_none (by omega)]
   first|exact Nat.zero_le _|exact ⟨Nat.zero_le _,fun _=>Nat.zero_le _⟩|exact ⟨Nat.zero_le _,Nat.zero_le _,fun _=>Nat.zero_le _,fun _=>Nat.zero_le _⟩
 ·unfold qz
  rw [hln]
  refine ILe.sl (fun i hi=> ?_)
  rw [hg i hi]
  exact (key i hi).choose_spec.2
theorem qBB {d:Nat} {zs:List AV} (h:zC Tryz.prog (d+3) 167 zs): ∃g:Gr,qak zs (grC g):=by
 obtain ⟨hl,hf⟩:=zV Tryz.underlying167 h
 simp only [List.mem_cons,List.not_mem_nil,or_false,forall_eq_or_imp,forall_eq,qeN,qkF]at hf
 obtain ⟨h0,h1⟩:=hf
 rw [qoH]at hl
 match zs,hl with
 | [a,b],_=>
  obtain ⟨w,e0⟩:=jR Tryz.underlying9 h0
  obtain ⟨y,s,e1,l1,i1⟩:=qga h1
  simp at e0 e1
  subst e0 e1
  exact ⟨⟨w,s⟩,ILe.refl _,i1,trivial⟩
theorem qy2 {d:Nat} {zs:List AV} (h:zC Tryz.prog (d+4) 44 zs): ∃(a:AV) (l:List Gr),zs= [a]∧l.length≤9223372036854775807∧ILe a (qE l):=by
 obtain ⟨n,f,rfl,hn,hfi⟩:=zH Tryz.underlying44 h
 have key: ∀i,i<n→ ∃x:Gr,qak (f i) (grC x):=fun i hi=>qBB (hfi i hi)
 let l:List Gr:=(List.range n).map fun i=>if hi:i<n then (key i hi).choose else default
 have hln:l.length=n:=by simp [l]
 have hg: ∀i (hi:i<n),l.getD i default=(key i hi).choose:=fun i hi=>by simp [l,gdqA,hi]
 refine ⟨_,l,rfl,by rw [hln];unfold maxLen at hn;omega,?_⟩
 ·unfold qE
  rw [hln]
  refine ILe.sl (fun i hi=> ?_)
  rw [hg i hi]
  exact (key i hi).choose_spec
theorem qA4 {d:Nat} {zs:List AV} (h:zC Tryz.prog (d+6) 26 zs): ∃x:Co,CoB x∧qak zs (coC x):=by
 obtain ⟨hl,hf⟩:=zV Tryz.underlying26 h
 simp only [List.mem_cons,List.not_mem_nil,or_false,forall_eq_or_imp,forall_eq,qeN,qfU,qsT,qsU]at hf
 obtain ⟨h0,h1,h2,h3⟩:=hf
 rw [qkE]at hl
 match zs,hl with
 | [a,b,c,e],_=>
  obtain ⟨x0,e0⟩:=jR Tryz.underlying9 h0
  obtain ⟨a1,x1,e1,l1,i1⟩:=qbX h1
  obtain ⟨a2,x2,e2,l2,_,i2⟩:=quZ h2
  obtain ⟨a3,x3,e3,l3,_,i3⟩:=qtc h3
  simp at e0 e1 e2 e3
  subst e0 e1 e2 e3
  exact ⟨⟨x0,x1,x2,x3⟩,⟨l1,l2,l3⟩,ILe.refl _,i1,i2,i3,trivial⟩
theorem qsS {d:Nat} {zs:List AV} (h:zC Tryz.prog (d+7) 47 zs): ∃a:Ap,ApB a∧qak zs (apC a):=by
 obtain ⟨hl,hf⟩:=zV Tryz.underlying47 h
 simp only [List.mem_cons,List.not_mem_nil,or_false,forall_eq_or_imp,forall_eq,qfU,qkE,qsV,qsW,qsY,qsZ,qs0]at hf
 obtain ⟨h0,h1,h2,h3,h4,h5,h6⟩:=hf
 rw [qs1]at hl
 match zs,hl with
 | [z0,z1,z2,z3,z4,z5,z6,z7,z8,z9],_=>
  obtain ⟨x,xb,xi⟩:=qA4 h0
  have xi:qak [z0,z1,z2,z3] (coC x):=xi
  obtain ⟨j0,j1,j2,j3,_⟩:=xi
  obtain ⟨a1,y1,e1,l1,b1,i1⟩:=qzU h1
  obtain ⟨a2,y2,e2,l2,b2,i2⟩:=qxc h2
  obtain ⟨a3,y3,e3,l3,i3⟩:=qAk h3
  obtain ⟨a4,y4,e4,l4,i4⟩:=qy2 h4
  obtain ⟨a5,y5,e5,l5,i5⟩:=qbX h5
  obtain ⟨a6,y6,e6,l6,i6⟩:=qsu h6
  simp at e1 e2 e3 e4 e5 e6
  subst e1 e2 e3 e4 e5 e6
  exact ⟨⟨x,y1,y2,y3,y4,y5,y6⟩,⟨xb,⟨l1,fun i=>(b1 i).1,fun i=>(b1 i).2⟩,l2,b2,l3,l4,l5,l6⟩,j0,j1,j2,j3,i1,i2,i3,i4,i5,i6,trivial⟩
theorem quD {H:Type} {enc:TypeId×Value→H} {W:World} {base:Nat} {v:Value} {d:DataW H} {ps:List MemPlace} (hval:Value.okWide Tryz.prog W .any base 47 v) (h:DataW.Trod enc Tryz.prog W 0 (fun _=>true) true 47 v d ps):
  ∃a:Ap,ApB a∧VR W [] (.agg (apC a)) v:=by
 unfold Value.okWide at hval
 rw [Tryz.underlying47]at hval
 simp only at hval
 obtain ⟨cs,rfl,_,_⟩:=hval
 obtain ⟨zs,hg,hvi⟩:=qqh (ow:=AF.own []) qup qxk h
 obtain ⟨a,h1,hil⟩:=qsS hg
 exact ⟨a,h1,.imm (ILe.agg hil _ _ _ hvi)⟩
theorem qcN (os:Os) (started:os.Started) (H:Type) (enc:TypeId×Value→H):
  ReturnsInHanded {} Tryz.checked os 10 .any (fun w args=>(Rows.apparatusCompleteSpec.pre enc Tryz.prog Tryz.f10 Rows.apparatusCompleteRow.domain false w args∧laidMetH Tryz.prog Rows.apparatusCompleteRow.laid w)∧sizedMet enc Tryz.prog Tryz.f10 (OpenSpec.ofChange Rows.apparatusCompleteSpec) false w args)
   (Rows.apparatusCompleteSpec.post enc Tryz.prog Tryz.f10 false true false false):=by
 refine returnsInHanded_of_change_and (C:=Tryz.checked) (X:=fun w _=>laidMetH Tryz.prog Rows.apparatusCompleteRow.laid w) (fun _ _ _ hh h=>h.of_heap hh) own started (by kernel_rfl) Tryz.func10
  (ChangeSpec.witness_shaped (enc:=enc) (C:=Tryz.checked) (os:=os) (X:=fun w _=>laidMetH Tryz.prog Rows.apparatusCompleteRow.laid w) false (World.laidAll Tryz.prog os Rows.apparatusCompleteRow.laid) #[.agg #[.string ByteArray.empty,.slice none 0 0,.slice none 0 0,.slice none 0 0,.slice none 0 0,.slice none 0 0,.slice none 0 0,.slice none 0 0,.slice none 0 0,.slice none 0 0]] 8 (World.laidAll_os _ _ _)
   (World.shaped_of_ZipB (by kernel_rfl) (by kernel_rfl)) (by kernel_rfl) (by kernel_rfl) (by kernel_rfl)
   (by rw [MakeChecks.laidMetH_plain _ _ _ (by kernel_rfl)];exact laidMet_laidAll _ (by kernel_rfl) (by kernel_rfl))) ?_
 intro W base args ds gs before hval hW _ _ hX _
 have hX:laidMetH Tryz.prog Rows.apparatusCompleteRow.laid W:=hX
 rw [MakeChecks.laidMetH_plain _ _ _ (by kernel_rfl)]at hX
 refine qfa (tb:=4) (bs:=qeq) (G:=qAC) laid rfl ?_ (by kernel_rfl) Tryz.underlying4 ?_ hW (qqw hX) (quO hX) ?_
 ·intro ds' h'
  match ds',h' with
  | [a0],_=>rfl
 ·intro t ht
  rw [show Tryz.f10.params.toList= [47] by rw [Tryz.params10]]at ht
  simp only [List.mem_cons,List.not_mem_nil,or_false]at ht
  rcases ht with rfl<;>exact ⟨by kernel_rfl,of_decide_eq_true (by kernel_rfl)⟩
 ·intro p hA
  rw [Tryz.params10]at hA hval
  obtain ⟨v0,d0,p0,rfl,rfl,h0⟩:=qnD hA
  obtain ⟨ap0,hb0,hv0⟩:=quD (hval 0 47 v0 rfl rfl) h0
  refine ⟨by rw [Tryz.params10];rfl,[(.agg (apC ap0))],?_,qBE ap0 [.pin qeq qAC] quN hb0⟩
  exact VRs.cons' hv0 (VRs.nil')
end Go.Proofs.YtgoandblgcjleaaGreatDoor
