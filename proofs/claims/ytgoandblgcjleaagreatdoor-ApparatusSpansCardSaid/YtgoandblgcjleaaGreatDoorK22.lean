import Derived.Test.YtgoandblgcjleaaGreatDoorK13
import Derived.Test.YtgoandblgcjleaaGreatDoorK21
import Derived.Test.YtgoandblgcjleaaGreatDoorK8
import Derived.Test.YtgoandblgcjleaaGreatDoorK5
import Derived.Test.YtgoandblgcjleaaGreatDoorRows
import Derived.Test.YtgoandblgcjleaaGreatDoorTie
import Derived.Test.YtgoandblgcjleaaGreatDoorCards
import Derived.ProofKit
import Derived.ChangeMaps5
import Derived.OpenShut
import Derived.LaidMore
import Derived.Lay
import Derived.SevenTiedAt
import Derived.Stop.Joined
set_option linter.all false
set_option linter.unusedSimpArgs false
set_option linter.unusedVariables false
set_option linter.unusedSectionVars false
open Go Go.Proofs AF HY RC LN Go.ChangeShapes Go.WideShapes Go.ChangeAt Go.RowKit
set_option maxRecDepth 100000
namespace Go.Proofs.YtgoandblgcjleaaGreatDoor
theorem own:ownKnob Tryz.prog.godebug=none:=by kernel_rfl
theorem laid:laidOutB Tryz.prog=true:=wp1
theorem qln {H:Type} {enc:TypeId×Value→H} {P:Program} {w:World} {base:Nat} {spare:Nat→Bool} {held:Bool} {t0 t1:TypeId} {args:Array Value} {ds:List (DataW H)} {ps:List MemPlace}
  (h:DataW.TrodAll enc P w base spare held [t0,t1] args.toList ds ps):
  ∃v0 v1 d0 d1 p0 p1,args= #[v0,v1]∧ds= [d0,d1]∧DataW.Trod enc P w base spare held t0 v0 d0 p0∧DataW.Trod enc P w base spare held t1 v1 d1 p1:=by
 obtain ⟨v0,vs0,d0,ds0,p0,q0,hargs,rfl,rfl,hd0,hr0⟩:=trodAll_cons h
 obtain ⟨v1,vs1,d1,ds1,p1,q1,rfl,rfl,rfl,hd1,hr1⟩:=trodAll_cons hr0
 obtain ⟨rfl,rfl,rfl⟩:=trodAll_nil hr1
 exact ⟨v0,v1,d0,d1,p0,p1,by cases args;simp_all,rfl,hd0,hd1⟩
theorem qtZ:Tryz.prog.cellsOf 3=1:=by kernel_rfl
theorem qt0:Tryz.prog.cellsOf 4=1:=by kernel_rfl
theorem qt1:Tryz.prog.cellsOf 9=1:=by kernel_rfl
theorem qqu:Tryz.prog.cellsOf 64=7:=by kernel_rfl
theorem qt8:qa7 Tryz.prog 8 29=true:=by kernel_rfl
theorem qeo {d:Nat} {t:TypeId} {fs:Array Field} {zs:List AV} (ht:Tryz.prog.underlying t=some (.struct fs)) (h:jk Tryz.prog (d+1) t zs):zs.length=Tryz.prog.cellsOf t∧ ∀f∈fs.toList,jk Tryz.prog d f.type ((zs.drop f.offset).take (Tryz.prog.cellsOf f.type)):=by
 unfold jk at h;rw [ht]at h;exact h
theorem qgm {d:Nat} {t e:TypeId} {zs:List AV} (ht:Tryz.prog.underlying t=some (.slice e)) (h:jk Tryz.prog (d+1) t zs): ∃(n:Nat) (f:Nat→List AV),zs= [.sl n f]∧n≤maxLen∧ ∀i,i<n→jk Tryz.prog d e (f i):=by
 unfold jk at h;rw [ht]at h;exact h
theorem qcC {d:Nat} {t:TypeId} {k:IntKind} {zs:List AV} (ht:Tryz.prog.underlying t=some (.int k)) (h:jk Tryz.prog (d+1) t zs): ∃n,zs= [.int k n]:=by
 unfold jk at h;rw [ht]at h;obtain ⟨n,h,_⟩:=h;exact ⟨n,h⟩
theorem qdt {d:Nat} {t:TypeId} {zs:List AV} (ht:Tryz.prog.underlying t=some .bool) (h:jk Tryz.prog (d+1) t zs): ∃n,zs= [.bool n]:=by
 unfold jk at h;rw [ht]at h;exact h
theorem qfh {d:Nat} {t:TypeId} {zs:List AV} (ht:Tryz.prog.underlying t=some .string) (h:jk Tryz.prog (d+1) t zs): ∃n,zs= [.str n]:=by
 unfold jk at h;rw [ht]at h;obtain ⟨n,h,_⟩:=h;exact ⟨n,h⟩
theorem qyx {d:Nat} {zs:List AV} (h:jk Tryz.prog (d+2) 64 zs): ∃x:Wd,zs=wdC x:=by
 obtain ⟨hl,hf⟩:=qeo Tryz.underlying64 h
 simp only [List.mem_cons,List.not_mem_nil,or_false,forall_eq_or_imp,forall_eq,qtZ,qt0,qt1]at hf
 obtain ⟨h0,h1,h2,h3,h4,h5,h6⟩:=hf
 rw [qqu]at hl
 match zs,hl with
 | [z0,z1,z2,z3,z4,z5,z6],_=>
  obtain ⟨x0,e0⟩:=qfh Tryz.underlying9 h0
  obtain ⟨x1,e1⟩:=qcC Tryz.underlying3 h1
  obtain ⟨x2,e2⟩:=qcC Tryz.underlying3 h2
  obtain ⟨x3,e3⟩:=qcC Tryz.underlying3 h3
  obtain ⟨x4,e4⟩:=qdt Tryz.underlying4 h4
  obtain ⟨x5,e5⟩:=qdt Tryz.underlying4 h5
  obtain ⟨x6,e6⟩:=qfh Tryz.underlying9 h6
  simp at e0 e1 e2 e3 e4 e5 e6
  subst e0 e1 e2 e3 e4 e5 e6
  exact ⟨⟨x0,x1,x2,x3,x4,x5,x6⟩,rfl⟩
theorem qwK {d:Nat} {zs:List AV} (h:jk Tryz.prog (d+3) 29 zs): ∃(a:AV) (l:List Wd),zs= [a]∧l.length≤9223372036854775807∧ILe a (qN l):=by
 obtain ⟨n,f,rfl,hn,hfi⟩:=qgm Tryz.underlying29 h
 have key: ∀i,i<n→ ∃x:Wd,f i=wdC x:=fun i hi=>qyx (hfi i hi)
 let l:List Wd:=(List.range n).map fun i=>if hi:i<n then (key i hi).choose else default
 have hln:l.length=n:=by simp [l]
 have hg: ∀i (hi:i<n),l.getD i default=(key i hi).choose:=fun i hi=>by simp [l,gdqA,hi]
 refine ⟨_,l,rfl,by rw [hln];unfold maxLen at hn;omega,?_⟩
 ·unfold qN
  rw [hln]
  refine ILe.sl_eq (fun i hi=> ?_)
  rw [hg i hi]
  exact (key i hi).choose_spec
theorem qnT {W:World} {base:Nat} {t e:TypeId} {v:Value} (ht:Tryz.prog.underlying t=some (.slice e)) (hval:Value.okWide Tryz.prog W .any base t v):v.cells= #[v]:=by
 unfold Value.okWide at hval
 rw [ht]at hval
 simp only at hval
 unfold Cell.okWide Cell.ok at hval
 rw [ht]at hval
 cases v<;>first|rfl|(exfalso;simp at hval)
theorem qkB {H:Type} {enc:TypeId×Value→H} {W:World} {base:Nat} {v:Value} {d:DataW H} {ps:List MemPlace} (hval:Value.okWide Tryz.prog W .any base 29 v) (h:DataW.Trod enc Tryz.prog W 0 (fun _=>true) true 29 v d ps):
  ∃l:List Wd,l.length≤9223372036854775807∧VR W [] (qN l) v:=by
 obtain ⟨z,hg,hvi⟩:=qn7 (ow:=AF.own []) qrK qt8 (qnT Tryz.underlying29 hval) h
 obtain ⟨a,ps,e,hl,hil⟩:=qwK hg
 simp at e
 subst e
 exact ⟨ps,hl,.imm (hil _ _ _ hvi)⟩
theorem qdV (os:Os) (started:os.Started) (H:Type) (enc:TypeId×Value→H):
  ReturnsInHanded {} Tryz.checked os 6 .any (fun w args=>(Rows.apparatusSpansSpec.pre enc Tryz.prog Tryz.f6 Rows.apparatusSpansRow.domain false w args∧laidMetH Tryz.prog Rows.apparatusSpansRow.laid w)∧sizedMet enc Tryz.prog Tryz.f6 (OpenSpec.ofChange Rows.apparatusSpansSpec) false w args)
   (Rows.apparatusSpansSpec.post enc Tryz.prog Tryz.f6 false true false false):=by
 refine returnsInHanded_of_change_and (C:=Tryz.checked) (X:=fun w _=>laidMetH Tryz.prog Rows.apparatusSpansRow.laid w) (fun _ _ _ hh h=>h.of_heap hh) own started (by kernel_rfl) Tryz.func6
  (ChangeSpec.witness_shaped (enc:=enc) (C:=Tryz.checked) (os:=os) (X:=fun w _=>laidMetH Tryz.prog Rows.apparatusSpansRow.laid w) false (World.laidAll Tryz.prog os Rows.apparatusSpansRow.laid) #[.slice none 0 0,.int .i64 0] 8 (World.laidAll_os _ _ _)
   (World.shaped_of_ZipB (by kernel_rfl) (by kernel_rfl)) (by kernel_rfl) (by kernel_rfl) (by kernel_rfl)
   (by rw [MakeChecks.laidMetH_plain _ _ _ (by kernel_rfl)];exact laidMet_laidAll _ (by kernel_rfl) (by kernel_rfl))) ?_
 intro W base args ds gs before hval hW _ _ hX _
 have hX:laidMetH Tryz.prog Rows.apparatusSpansRow.laid W:=hX
 rw [MakeChecks.laidMetH_plain _ _ _ (by kernel_rfl)]at hX
 refine qdA (tb:=4) (bs:=qcS) (G:=qxh) laid rfl ?_ (by kernel_rfl) Tryz.underlying4 ?_ hW (qoj hX) (qr9 hX) ?_
 ·intro ds' h'
  match ds',h' with
  | [a0,a1],_=>rfl
 ·intro t ht
  rw [show Tryz.f6.params.toList= [29,3] by rw [Tryz.params6]]at ht
  simp only [List.mem_cons,List.not_mem_nil,or_false]at ht
  rcases ht with rfl|rfl<;>exact ⟨by kernel_rfl,of_decide_eq_true (by kernel_rfl)⟩
 ·intro p hA
  rw [Tryz.params6]at hA hval
  obtain ⟨v0,v1,d0,d1,p0,p1,rfl,rfl,h0,h1⟩:=qln hA
  obtain ⟨l0,hl0,hv0⟩:=qkB (hval 0 29 v0 rfl rfl) h0
  obtain ⟨n1,rfl,_,_,w1⟩:=open_int Tryz.underlying3 (hval 1 3 v1 rfl rfl) h1
  have hl1:(-9223372036854775808:Int)≤n1∧n1≤9223372036854775807:=by simpa [Lit.wf,IntKind.min,IntKind.max,IntKind.signed,IntKind.bits] using w1
  refine ⟨by rw [Tryz.params6];rfl,[qN l0,.int .i64 n1],?_,qzO l0 n1 [.pin qcS qxh] qr8 hl0⟩
  exact VRs.cons' hv0 (VRs.cons' (.imm .int) (VRs.nil'))
end Go.Proofs.YtgoandblgcjleaaGreatDoor
