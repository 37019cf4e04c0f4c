import Derived.Test.YtgoandblgcjleaaGreatDoorK0
import Derived.Test.YtgoandblgcjleaaGreatDoorK16
import Derived.Test.YtgoandblgcjleaaGreatDoorK9
import Derived.Test.YtgoandblgcjleaaGreatDoorK6
import Derived.Test.YtgoandblgcjleaaGreatDoorRows
import Derived.Test.YtgoandblgcjleaaGreatDoorTie
import Derived.Test.YtgoandblgcjleaaGreatDoorCards
import Derived.ProofKit
import Derived.ChangeMaps5
import Derived.OpenShut
import Derived.LaidMore
import Derived.Lay
import Derived.SevenTiedAt
import Derived.Stop.Joined
set_option linter.all false
set_option linter.unusedSimpArgs false
set_option linter.unusedVariables false
set_option linter.unusedSectionVars false
open Go Go.Proofs AF HY RC LN Go.ChangeShapes Go.WideShapes Go.ChangeAt Go.RowKit
set_option maxRecDepth 100000
namespace Go.Proofs.YtgoandblgcjleaaGreatDoor
theorem own:ownKnob Tryz.prog.godebug=none:=by kernel_rfl
theorem laid:laidOutB Tryz.prog=true:=wp1
theorem qm5 {H:Type} {enc:TypeId×Value→H} {P:Program} {w:World} {base:Nat} {spare:Nat→Bool} {held:Bool} {t0:TypeId} {args:Array Value} {ds:List (DataW H)} {ps:List MemPlace}
  (h:DataW.TrodAll enc P w base spare held [t0] args.toList ds ps):
  ∃v0 d0 p0,args= #[v0]∧ds= [d0]∧DataW.Trod enc P w base spare held t0 v0 d0 p0:=by
 obtain ⟨v0,vs0,d0,ds0,p0,q0,hargs,rfl,rfl,hd0,hr0⟩:=trodAll_cons h
 obtain ⟨rfl,rfl,rfl⟩:=trodAll_nil hr0
 exact ⟨v0,d0,p0,by cases args;simp_all,rfl,hd0⟩
theorem qgB:Tryz.prog.cellsOf 3=1:=by kernel_rfl
theorem qwM:Tryz.prog.cellsOf 4=1:=by kernel_rfl
theorem qer:Tryz.prog.cellsOf 9=1:=by kernel_rfl
theorem qfz:Tryz.prog.cellsOf 22=1:=by kernel_rfl
theorem qsm:Tryz.prog.cellsOf 23=1:=by kernel_rfl
theorem qsn:Tryz.prog.cellsOf 24=1:=by kernel_rfl
theorem qkk:Tryz.prog.cellsOf 26=4:=by kernel_rfl
theorem qso:Tryz.prog.cellsOf 27=1:=by kernel_rfl
theorem qsp:Tryz.prog.cellsOf 29=1:=by kernel_rfl
theorem qsq:Tryz.prog.cellsOf 34=2:=by kernel_rfl
theorem qsr:Tryz.prog.cellsOf 43=1:=by kernel_rfl
theorem qss:Tryz.prog.cellsOf 44=1:=by kernel_rfl
theorem qst:Tryz.prog.cellsOf 45=1:=by kernel_rfl
theorem qsu:Tryz.prog.cellsOf 47=10:=by kernel_rfl
theorem qkl:Tryz.prog.cellsOf 62=1:=by kernel_rfl
theorem qsv:Tryz.prog.cellsOf 64=7:=by kernel_rfl
theorem qsw:Tryz.prog.cellsOf 81=1:=by kernel_rfl
theorem qsx:Tryz.prog.cellsOf 83=3:=by kernel_rfl
theorem qsy:Tryz.prog.cellsOf 89=2:=by kernel_rfl
theorem qn5:Tryz.prog.cellsOf 124=6:=by kernel_rfl
theorem qn6:Tryz.prog.cellsOf 167=2:=by kernel_rfl
theorem qwX:qbX Tryz.prog 8 47=true:=by kernel_rfl
theorem zO {d:Nat} {t:TypeId} {fs:Array Field} {zs:List AV} (ht:Tryz.prog.underlying t=some (.struct fs)) (h:zr Tryz.prog (d+1) t zs):zs.length=Tryz.prog.cellsOf t∧ ∀f∈fs.toList,zr Tryz.prog d f.type ((zs.drop f.offset).take (Tryz.prog.cellsOf f.type)):=by
 unfold zr at h;rw [ht]at h;exact h
theorem zy {d:Nat} {t e:TypeId} {zs:List AV} (ht:Tryz.prog.underlying t=some (.slice e)) (h:zr Tryz.prog (d+1) t zs): ∃(n:Nat) (f:Nat→List AV),zs= [.sl n f]∧n≤maxLen∧ ∀i,i<n→zr Tryz.prog d e (f i):=by
 unfold zr at h;rw [ht]at h;exact h
theorem j8 {d:Nat} {t:TypeId} {k:IntKind} {zs:List AV} (ht:Tryz.prog.underlying t=some (.int k)) (h:zr Tryz.prog (d+1) t zs): ∃n,zs= [.int k n]:=by
 unfold zr at h;rw [ht]at h;obtain ⟨n,h,_⟩:=h;exact ⟨n,h⟩
theorem qcF {d:Nat} {t:TypeId} {zs:List AV} (ht:Tryz.prog.underlying t=some .bool) (h:zr Tryz.prog (d+1) t zs): ∃n,zs= [.bool n]:=by
 unfold zr at h;rw [ht]at h;exact h
theorem jJ {d:Nat} {t:TypeId} {zs:List AV} (ht:Tryz.prog.underlying t=some .string) (h:zr Tryz.prog (d+1) t zs): ∃n,zs= [.str n]:=by
 unfold zr at h;rw [ht]at h;obtain ⟨n,h,_⟩:=h;exact ⟨n,h⟩
theorem qBF {d:Nat} {zs:List AV} (h:zr Tryz.prog (d+2) 64 zs): ∃x:Wd,zs=wdC x:=by
 obtain ⟨hl,hf⟩:=zO Tryz.underlying64 h
 simp only [List.mem_cons,List.not_mem_nil,or_false,forall_eq_or_imp,forall_eq,qgB,qwM,qer]at hf
 obtain ⟨h0,h1,h2,h3,h4,h5,h6⟩:=hf
 rw [qsv]at hl
 match zs,hl with
 | [z0,z1,z2,z3,z4,z5,z6],_=>
  obtain ⟨x0,e0⟩:=jJ Tryz.underlying9 h0
  obtain ⟨x1,e1⟩:=j8 Tryz.underlying3 h1
  obtain ⟨x2,e2⟩:=j8 Tryz.underlying3 h2
  obtain ⟨x3,e3⟩:=j8 Tryz.underlying3 h3
  obtain ⟨x4,e4⟩:=qcF Tryz.underlying4 h4
  obtain ⟨x5,e5⟩:=qcF Tryz.underlying4 h5
  obtain ⟨x6,e6⟩:=jJ Tryz.underlying9 h6
  simp at e0 e1 e2 e3 e4 e5 e6
  subst e0 e1 e2 e3 e4 e5 e6
  exact ⟨⟨x0,x1,x2,x3,x4,x5,x6⟩,rfl⟩
theorem qzT {d:Nat} {zs:List AV} (h:zr Tryz.prog (d+3) 29 zs): ∃(a:AV) (l:List Wd),zs= [a]∧l.length≤9223372036854775807∧ILe a (qM l):=by
 obtain ⟨n,f,rfl,hn,hfi⟩:=zy Tryz.underlying29 h
 have key: ∀i,i<n→ ∃x:Wd,f i=wdC x:=fun i hi=>qBF (hfi i hi)
 let l:List Wd:=(List.range n).map fun i=>if hi:i<n then (key i hi).choose else default
 have hln:l.length=n:=by simp [l]
 have hg: ∀i (hi:i<n),l.getD i default=(key i hi).choose:=fun i hi=>by simp [l,gdqA,hi]
 refine ⟨_,l,rfl,by rw [hln];unfold maxLen at hn;omega,?_⟩
 ·unfold qM
  rw [hln]
  refine ILe.sl_eq (fun i hi=> ?_)
  rw [hg i hi]
  exact (key i hi).choose_spec
theorem qbM {d:Nat} {zs:List AV} (h:zr Tryz.prog (d+2) 22 zs): ∃(a:AV) (l:List (List UInt8)),zs= [a]∧l.length≤9223372036854775807∧ILe a (HY.strs l):=by
 obtain ⟨n,f,rfl,hn,hfi⟩:=zy Tryz.underlying22 h
 have key: ∀i,i<n→ ∃x:(List UInt8),f i= [.str x]:=fun i hi=>jJ Tryz.underlying9 (hfi i hi)
 let l:List (List UInt8):=(List.range n).map fun i=>if hi:i<n then (key i hi).choose else []
 have hln:l.length=n:=by simp [l]
 have hg: ∀i (hi:i<n),l.getD i []=(key i hi).choose:=fun i hi=>by simp [l,gdqA,hi]
 refine ⟨_,l,rfl,by rw [hln];unfold maxLen at hn;omega,?_⟩
 ·unfold HY.strs
  rw [hln]
  refine ILe.sl_eq (fun i hi=> ?_)
  rw [hg i hi]
  exact (key i hi).choose_spec
theorem qfR {d:Nat} {zs:List AV} (h:zr Tryz.prog (d+2) 62 zs): ∃(a:AV) (l:List Int),zs= [a]∧l.length≤9223372036854775807∧ILe a (qq l):=by
 obtain ⟨n,f,rfl,hn,hfi⟩:=zy Tryz.underlying62 h
 have key: ∀i,i<n→ ∃x:Int,f i= [.int .i64 x]:=fun i hi=>j8 Tryz.underlying3 (hfi i hi)
 let l:List Int:=(List.range n).map fun i=>if hi:i<n then (key i hi).choose else 0
 have hln:l.length=n:=by simp [l]
 have hg: ∀i (hi:i<n),l.getD i 0=(key i hi).choose:=fun i hi=>by simp [l,gdqA,hi]
 refine ⟨_,l,rfl,by rw [hln];unfold maxLen at hn;omega,?_⟩
 ·unfold qq
  rw [hln]
  refine ILe.sl_eq (fun i hi=> ?_)
  rw [hg i hi]
  exact (key i hi).choose_spec
theorem qrT {d:Nat} {zs:List AV} (h:zr Tryz.prog (d+2) 45 zs): ∃(a:AV) (l:List Bool),zs= [a]∧l.length≤9223372036854775807∧ILe a (zk l):=by
 obtain ⟨n,f,rfl,hn,hfi⟩:=zy Tryz.underlying45 h
 have key: ∀i,i<n→ ∃x:Bool,f i= [.bool x]:=fun i hi=>qcF Tryz.underlying4 (hfi i hi)
 let l:List Bool:=(List.range n).map fun i=>if hi:i<n then (key i hi).choose else false
 have hln:l.length=n:=by simp [l]
 have hg: ∀i (hi:i<n),l.getD i false=(key i hi).choose:=fun i hi=>by simp [l,gdqA,hi]
 refine ⟨_,l,rfl,by rw [hln];unfold maxLen at hn;omega,?_⟩
 ·unfold zk
  rw [hln]
  refine ILe.sl_eq (fun i hi=> ?_)
  rw [hg i hi]
  exact (key i hi).choose_spec
theorem qqk {d:Nat} {zs:List AV} (h:zr Tryz.prog (d+2) 22 zs): ∃l:List (List UInt8),l.length≤9223372036854775807∧kX zs [HY.strs l]:=by
 obtain ⟨a,l,rfl,hl,hi⟩:=qbM h
 exact ⟨l,hl,hi,trivial⟩
theorem qo1 {d:Nat} {zs:List AV} (h:zr Tryz.prog (d+2) 62 zs): ∃l:List Int,l.length≤9223372036854775807∧kX zs [qq l]:=by
 obtain ⟨a,l,rfl,hl,hi⟩:=qfR h
 exact ⟨l,hl,hi,trivial⟩
theorem qBs {d:Nat} {zs:List AV} (h:zr Tryz.prog (d+3) 124 zs): ∃x:Tk,zs=tkC x:=by
 obtain ⟨hl,hf⟩:=zO Tryz.underlying124 h
 simp only [List.mem_cons,List.not_mem_nil,or_false,forall_eq_or_imp,forall_eq,qgB,qer,qsq]at hf
 obtain ⟨h0,h1,h2,h3,h4⟩:=hf
 rw [qn5]at hl
 match zs,hl with
 | [z0,z1,z2,z3,z4,z5],_=>
  obtain ⟨hp,hg⟩:=zO Tryz.underlying34 h2
  simp only [List.mem_cons,List.not_mem_nil,or_false,forall_eq_or_imp,forall_eq,qer,qgB]at hg
  obtain ⟨g0,g1⟩:=hg
  obtain ⟨x0,e0⟩:=jJ Tryz.underlying9 h0
  obtain ⟨x1,e1⟩:=jJ Tryz.underlying9 h1
  obtain ⟨x2,e2⟩:=jJ Tryz.underlying9 g0
  obtain ⟨x3,e3⟩:=j8 Tryz.underlying3 g1
  obtain ⟨x4,e4⟩:=j8 Tryz.underlying3 h3
  obtain ⟨x5,e5⟩:=jJ Tryz.underlying9 h4
  simp at e0 e1 e2 e3 e4 e5
  subst e0 e1 e2 e3 e4 e5
  exact ⟨⟨x0,x1,x2,x3,x4,x5⟩,rfl⟩
theorem qzx {d:Nat} {zs:List AV} (h:zr Tryz.prog (d+4) 125 zs): ∃(a:AV) (l:List Tk),zs= [a]∧l.length≤9223372036854775807∧ILe a (jE l):=by
 obtain ⟨n,f,rfl,hn,hfi⟩:=zy Tryz.underlying125 h
 have key: ∀i,i<n→ ∃x:Tk,f i=tkC x:=fun i hi=>qBs (hfi i hi)
 let l:List Tk:=(List.range n).map fun i=>if hi:i<n then (key i hi).choose else default
 have hln:l.length=n:=by simp [l]
 have hg: ∀i (hi:i<n),l.getD i default=(key i hi).choose:=fun i hi=>by simp [l,gdqA,hi]
 refine ⟨_,l,rfl,by rw [hln];unfold maxLen at hn;omega,?_⟩
 ·unfold jE
  rw [hln]
  refine ILe.sl_eq (fun i hi=> ?_)
  rw [hg i hi]
  exact (key i hi).choose_spec
theorem qur {d:Nat} {zs:List AV} (h:zr Tryz.prog (d+4) 125 zs): ∃l:List Tk,l.length≤9223372036854775807∧kX zs [jE l]:=by
 obtain ⟨a,l,rfl,hl,hi⟩:=qzx h
 exact ⟨l,hl,hi,trivial⟩
theorem qus {d:Nat} {zs:List AV} (h:zr Tryz.prog (d+5) 23 zs): ∃(a:AV) (l:List (List Tk)),zs= [a]∧l.length≤9223372036854775807∧(∀i,(l.getD i []).length≤9223372036854775807)∧ILe a (qr l):=by
 obtain ⟨n,f,rfl,hn,hfi⟩:=zy Tryz.underlying23 h
 have key: ∀i,i<n→ ∃x:(List Tk),x.length≤9223372036854775807∧kX (f i) [jE x]:=fun i hi=>qur (hfi i hi)
 let l:List (List Tk):=(List.range n).map fun i=>if hi:i<n then (key i hi).choose else []
 have hln:l.length=n:=by simp [l]
 have hg: ∀i (hi:i<n),l.getD i []=(key i hi).choose:=fun i hi=>by simp [l,gdqA,hi]
 refine ⟨_,l,rfl,by rw [hln];unfold maxLen at hn;omega,?_,?_⟩
 ·intro i
  by_cases hi:i<n
  ·rw [hg i hi];exact (key i hi).choose_spec.1
  ·rw [gdqA,List.getElem?_eq_none (by omega)]
   first|exact Nat.zero_le _|exact ⟨Nat.zero_le _,Nat.zero_le _,fun _=>Nat.zero_le _,fun _=>Nat.zero_le _⟩
 ·unfold qr
  rw [hln]
  refine ILe.sl (fun i hi=> ?_)
  rw [hg i hi]
  exact (key i hi).choose_spec.2
theorem qsE {d:Nat} {zs:List AV} (h:zr Tryz.prog (d+3) 24 zs): ∃(a:AV) (l:List (List Int)),zs= [a]∧l.length≤9223372036854775807∧(∀i,(l.getD i []).length≤9223372036854775807)∧ILe a (qp l):=by
 obtain ⟨n,f,rfl,hn,hfi⟩:=zy Tryz.underlying24 h
 have key: ∀i,i<n→ ∃x:(List Int),x.length≤9223372036854775807∧kX (f i) [qq x]:=fun i hi=>qo1 (hfi i hi)
 let l:List (List Int):=(List.range n).map fun i=>if hi:i<n then (key i hi).choose else []
 have hln:l.length=n:=by simp [l]
 have hg: ∀i (hi:i<n),l.getD i []=(key i hi).choose:=fun i hi=>by simp [l,gdqA,hi]
 refine ⟨_,l,rfl,by rw [hln];unfold maxLen at hn;omega,?_,?_⟩
 ·intro i
  by_cases hi:i<n
  ·rw [hg i hi];exact (key i hi).choose_spec.1
  ·rw [gdqA,List.getElem?_eq_none (by omega)]
   first|exact Nat.zero_le _|exact ⟨Nat.zero_le _,Nat.zero_le _,fun _=>Nat.zero_le _,fun _=>Nat.zero_le _⟩
 ·unfold qp
  rw [hln]
  refine ILe.sl (fun i hi=> ?_)
  rw [hg i hi]
  exact (key i hi).choose_spec.2
theorem qwP {d:Nat} {zs:List AV} (h:zr Tryz.prog (d+3) 43 zs): ∃(a:AV) (l:List (List (List UInt8))),zs= [a]∧l.length≤9223372036854775807∧(∀i,(l.getD i []).length≤9223372036854775807)∧ILe a (zj l):=by
 obtain ⟨n,f,rfl,hn,hfi⟩:=zy Tryz.underlying43 h
 have key: ∀i,i<n→ ∃x:(List (List UInt8)),x.length≤9223372036854775807∧kX (f i) [HY.strs x]:=fun i hi=>qqk (hfi i hi)
 let l:List (List (List UInt8)):=(List.range n).map fun i=>if hi:i<n then (key i hi).choose else []
 have hln:l.length=n:=by simp [l]
 have hg: ∀i (hi:i<n),l.getD i []=(key i hi).choose:=fun i hi=>by simp [l,gdqA,hi]
 refine ⟨_,l,rfl,by rw [hln];unfold maxLen at hn;omega,?_,?_⟩
 ·intro i
  by_cases hi:i<n
  ·rw [hg i hi];exact (key i hi).choose_spec.1
  ·rw [gdqA,List.getElem?_eq_none (by omega)]
   first|exact Nat.zero_le _|exact ⟨Nat.zero_le _,Nat.zero_le _,fun _=>Nat.zero_le _,fun _=>Nat.zero_le _⟩
 ·unfold zj
  rw [hln]
  refine ILe.sl (fun i hi=> ?_)
  rw [hg i hi]
  exact (key i hi).choose_spec.2
theorem qBj {d:Nat} {zs:List AV} (h:zr Tryz.prog (d+3) 89 zs): ∃r:Rd,r.words.length≤9223372036854775807∧kX zs (rdC r):=by
 obtain ⟨hl,hf⟩:=zO Tryz.underlying89 h
 simp only [List.mem_cons,List.not_mem_nil,or_false,forall_eq_or_imp,forall_eq,qfz,qkl]at hf
 obtain ⟨h0,h1⟩:=hf
 rw [qsy]at hl
 match zs,hl with
 | [a,b],_=>
  obtain ⟨x,w,e0,l0,i0⟩:=qbM h0
  obtain ⟨y,s,e1,l1,i1⟩:=qfR h1
  simp at e0 e1
  subst e0 e1
  exact ⟨⟨w,s⟩,l0,i0,i1,trivial⟩
theorem qy7 {d:Nat} {zs:List AV} (h:zr Tryz.prog (d+4) 81 zs): ∃(a:AV) (l:List Rd),zs= [a]∧l.length≤9223372036854775807∧(∀i,(l.getD i default).words.length≤9223372036854775807)∧ILe a (zC l):=by
 obtain ⟨n,f,rfl,hn,hfi⟩:=zy Tryz.underlying81 h
 have key: ∀i,i<n→ ∃x:Rd,x.words.length≤9223372036854775807∧kX (f i) (rdC x):=fun i hi=>qBj (hfi i hi)
 let l:List Rd:=(List.range n).map fun i=>if hi:i<n then (key i hi).choose else default
 have hln:l.length=n:=by simp [l]
 have hg: ∀i (hi:i<n),l.getD i default=(key i hi).choose:=fun i hi=>by simp [l,gdqA,hi]
 refine ⟨_,l,rfl,by rw [hln];unfold maxLen at hn;omega,?_,?_⟩
 ·intro i
  by_cases hi:i<n
  ·rw [hg i hi];exact (key i hi).choose_spec.1
  ·rw [gdqA,List.getElem?_eq_none (by omega)]
   first|exact Nat.zero_le _|exact ⟨Nat.zero_le _,Nat.zero_le _,fun _=>Nat.zero_le _,fun _=>Nat.zero_le _⟩
 ·unfold zC
  rw [hln]
  refine ILe.sl (fun i hi=> ?_)
  rw [hg i hi]
  exact (key i hi).choose_spec.2
theorem qBu {d:Nat} {zs:List AV} (h:zr Tryz.prog (d+5) 83 zs): ∃u:Un,(u.rds.length≤9223372036854775807∧ ∀j,(u.rds.getD j default).words.length≤9223372036854775807)∧kX zs (unC u):=by
 obtain ⟨hl,hf⟩:=zO Tryz.underlying83 h
 simp only [List.mem_cons,List.not_mem_nil,or_false,forall_eq_or_imp,forall_eq,qgB,qsw]at hf
 obtain ⟨h0,h1,h2⟩:=hf
 rw [qsx]at hl
 match zs,hl with
 | [a,b,c],_=>
  obtain ⟨x0,e0⟩:=j8 Tryz.underlying3 h0
  obtain ⟨x1,e1⟩:=j8 Tryz.underlying3 h1
  obtain ⟨y,s,e2,l2,b2,i2⟩:=qy7 h2
  simp at e0 e1 e2
  subst e0 e1 e2
  exact ⟨⟨x0,x1,s⟩,⟨l2,b2⟩,ILe.refl _,ILe.refl _,i2,trivial⟩
theorem qzy {d:Nat} {zs:List AV} (h:zr Tryz.prog (d+6) 27 zs): ∃(a:AV) (l:List Un),zs= [a]∧l.length≤9223372036854775807∧(∀i,(l.getD i default).rds.length≤9223372036854775807∧ ∀j,((l.getD i default).rds.getD j default).words.length≤9223372036854775807)∧ILe a (qE l):=by
 obtain ⟨n,f,rfl,hn,hfi⟩:=zy Tryz.underlying27 h
 have key: ∀i,i<n→ ∃x:Un,(x.rds.length≤9223372036854775807∧ ∀j,(x.rds.getD j default).words.length≤9223372036854775807)∧kX (f i) (unC x):=fun i hi=>qBu (hfi i hi)
 let l:List Un:=(List.range n).map fun i=>if hi:i<n then (key i hi).choose else default
 have hln:l.length=n:=by simp [l]
 have hg: ∀i (hi:i<n),l.getD i default=(key i hi).choose:=fun i hi=>by simp [l,gdqA,hi]
 refine ⟨_,l,rfl,by rw [hln];unfold maxLen at hn;omega,?_,?_⟩
 ·intro i
  by_cases hi:i<n
  ·rw [hg i hi];exact (key i hi).choose_spec.1
  ·rw [gdqA,List.getElem?_eq_none (by omega)]
   first|exact Nat.zero_le _|exact ⟨Nat.zero_le _,fun _=>Nat.zero_le _⟩|exact ⟨Nat.zero_le _,Nat.zero_le _,fun _=>Nat.zero_le _,fun _=>Nat.zero_le _⟩
 ·unfold qE
  rw [hln]
  refine ILe.sl (fun i hi=> ?_)
  rw [hg i hi]
  exact (key i hi).choose_spec.2
theorem qA3 {d:Nat} {zs:List AV} (h:zr Tryz.prog (d+3) 167 zs): ∃g:Gr,kX zs (grC g):=by
 obtain ⟨hl,hf⟩:=zO Tryz.underlying167 h
 simp only [List.mem_cons,List.not_mem_nil,or_false,forall_eq_or_imp,forall_eq,qer,qkl]at hf
 obtain ⟨h0,h1⟩:=hf
 rw [qn6]at hl
 match zs,hl with
 | [a,b],_=>
  obtain ⟨w,e0⟩:=jJ Tryz.underlying9 h0
  obtain ⟨y,s,e1,l1,i1⟩:=qfR h1
  simp at e0 e1
  subst e0 e1
  exact ⟨⟨w,s⟩,ILe.refl _,i1,trivial⟩
theorem qyI {d:Nat} {zs:List AV} (h:zr Tryz.prog (d+4) 44 zs): ∃(a:AV) (l:List Gr),zs= [a]∧l.length≤9223372036854775807∧ILe a (qF l):=by
 obtain ⟨n,f,rfl,hn,hfi⟩:=zy Tryz.underlying44 h
 have key: ∀i,i<n→ ∃x:Gr,kX (f i) (grC x):=fun i hi=>qA3 (hfi i hi)
 let l:List Gr:=(List.range n).map fun i=>if hi:i<n then (key i hi).choose else default
 have hln:l.length=n:=by simp [l]
 have hg: ∀i (hi:i<n),l.getD i default=(key i hi).choose:=fun i hi=>by simp [l,gdqA,hi]
 refine ⟨_,l,rfl,by rw [hln];unfold maxLen at hn;omega,?_⟩
 ·unfold qF
  rw [hln]
  refine ILe.sl (fun i hi=> ?_)
  rw [hg i hi]
  exact (key i hi).choose_spec
theorem qAx {d:Nat} {zs:List AV} (h:zr Tryz.prog (d+6) 26 zs): ∃x:Co,CoB x∧kX zs (coC x):=by
 obtain ⟨hl,hf⟩:=zO Tryz.underlying26 h
 simp only [List.mem_cons,List.not_mem_nil,or_false,forall_eq_or_imp,forall_eq,qer,qfz,qsm,qsn]at hf
 obtain ⟨h0,h1,h2,h3⟩:=hf
 rw [qkk]at hl
 match zs,hl with
 | [a,b,c,e],_=>
  obtain ⟨x0,e0⟩:=jJ Tryz.underlying9 h0
  obtain ⟨a1,x1,e1,l1,i1⟩:=qbM h1
  obtain ⟨a2,x2,e2,l2,_,i2⟩:=qus h2
  obtain ⟨a3,x3,e3,l3,_,i3⟩:=qsE h3
  simp at e0 e1 e2 e3
  subst e0 e1 e2 e3
  exact ⟨⟨x0,x1,x2,x3⟩,⟨l1,l2,l3⟩,ILe.refl _,i1,i2,i3,trivial⟩
theorem qsl {d:Nat} {zs:List AV} (h:zr Tryz.prog (d+7) 47 zs): ∃a:Ap,ApB a∧kX zs (apC a):=by
 obtain ⟨hl,hf⟩:=zO Tryz.underlying47 h
 simp only [List.mem_cons,List.not_mem_nil,or_false,forall_eq_or_imp,forall_eq,qfz,qkk,qso,qsp,qsr,qss,qst]at hf
 obtain ⟨h0,h1,h2,h3,h4,h5,h6⟩:=hf
 rw [qsu]at hl
 match zs,hl with
 | [z0,z1,z2,z3,z4,z5,z6,z7,z8,z9],_=>
  obtain ⟨x,xb,xi⟩:=qAx h0
  have xi:kX [z0,z1,z2,z3] (coC x):=xi
  obtain ⟨j0,j1,j2,j3,_⟩:=xi
  obtain ⟨a1,y1,e1,l1,b1,i1⟩:=qzy h1
  obtain ⟨a2,y2,e2,l2,b2,i2⟩:=qwP h2
  obtain ⟨a3,y3,e3,l3,i3⟩:=qzT h3
  obtain ⟨a4,y4,e4,l4,i4⟩:=qyI h4
  obtain ⟨a5,y5,e5,l5,i5⟩:=qbM h5
  obtain ⟨a6,y6,e6,l6,i6⟩:=qrT h6
  simp at e1 e2 e3 e4 e5 e6
  subst e1 e2 e3 e4 e5 e6
  exact ⟨⟨x,y1,y2,y3,y4,y5,y6⟩,⟨xb,⟨l1,fun i=>(b1 i).1,fun i=>(b1 i).2⟩,l2,b2,l3,l4,l5,l6⟩,j0,j1,j2,j3,i1,i2,i3,i4,i5,i6,trivial⟩
theorem qt3 {H:Type} {enc:TypeId×Value→H} {W:World} {base:Nat} {v:Value} {d:DataW H} {ps:List MemPlace} (hval:Value.okWide Tryz.prog W .any base 47 v) (h:DataW.Trod enc Tryz.prog W 0 (fun _=>true) true 47 v d ps):
  ∃a:Ap,ApB a∧VR W [] (.agg (apC a)) v:=by
 unfold Value.okWide at hval
 rw [Tryz.underlying47]at hval
 simp only at hval
 obtain ⟨cs,rfl,_,_⟩:=hval
 obtain ⟨zs,hg,hvi⟩:=qpH (ow:=AF.own []) qtN qwX h
 obtain ⟨a,h1,hil⟩:=qsl hg
 exact ⟨a,h1,.imm (ILe.agg hil _ _ _ hvi)⟩
theorem qfi (os:Os) (started:os.Started) (H:Type) (enc:TypeId×Value→H):
  ReturnsInHanded {} Tryz.checked os 11 .any (fun w args=>(Rows.apparatusValidSpec.pre enc Tryz.prog Tryz.f11 Rows.apparatusValidRow.domain false w args∧laidMetH Tryz.prog Rows.apparatusValidRow.laid w)∧sizedMet enc Tryz.prog Tryz.f11 (OpenSpec.ofChange Rows.apparatusValidSpec) false w args)
   (Rows.apparatusValidSpec.post enc Tryz.prog Tryz.f11 false true false false):=by
 refine returnsInHanded_of_change_and (C:=Tryz.checked) (X:=fun w _=>laidMetH Tryz.prog Rows.apparatusValidRow.laid w) (fun _ _ _ hh h=>h.of_heap hh) own started (by kernel_rfl) Tryz.func11
  (ChangeSpec.witness_shaped (enc:=enc) (C:=Tryz.checked) (os:=os) (X:=fun w _=>laidMetH Tryz.prog Rows.apparatusValidRow.laid w) false (World.laidAll Tryz.prog os Rows.apparatusValidRow.laid) #[.agg #[.string ByteArray.empty,.slice none 0 0,.slice none 0 0,.slice none 0 0,.slice none 0 0,.slice none 0 0,.slice none 0 0,.slice none 0 0,.slice none 0 0,.slice none 0 0]] 8 (World.laidAll_os _ _ _)
   (World.shaped_of_ZipB (by kernel_rfl) (by kernel_rfl)) (by kernel_rfl) (by kernel_rfl) (by kernel_rfl)
   (by rw [MakeChecks.laidMetH_plain _ _ _ (by kernel_rfl)];exact laidMet_laidAll _ (by kernel_rfl) (by kernel_rfl))) ?_
 intro W base args ds gs before hval hW _ _ hX _
 have hX:laidMetH Tryz.prog Rows.apparatusValidRow.laid W:=hX
 rw [MakeChecks.laidMetH_plain _ _ _ (by kernel_rfl)]at hX
 refine qeP (tb:=4) (bs:=qd2) (G:=qz8) laid rfl ?_ (by kernel_rfl) Tryz.underlying4 ?_ hW (qpX hX) (quf hX) ?_
 ·intro ds' h'
  match ds',h' with
  | [a0],_=>rfl
 ·intro t ht
  rw [show Tryz.f11.params.toList= [47] by rw [Tryz.params11]]at ht
  simp only [List.mem_cons,List.not_mem_nil,or_false]at ht
  rcases ht with rfl<;>exact ⟨by kernel_rfl,of_decide_eq_true (by kernel_rfl)⟩
 ·intro p hA
  rw [Tryz.params11]at hA hval
  obtain ⟨v0,d0,p0,rfl,rfl,h0⟩:=qm5 hA
  obtain ⟨ap0,hb0,hv0⟩:=qt3 (hval 0 47 v0 rfl rfl) h0
  refine ⟨by rw [Tryz.params11];rfl,[(.agg (apC ap0))],?_,qA7 ap0 [.pin qd2 qz8] que hb0⟩
  exact VRs.cons' hv0 (VRs.nil')
end Go.Proofs.YtgoandblgcjleaaGreatDoor
