import Derived.Test.YtgoandblgcjleaaGreatDoorRows
import Derived.JoinedOf
import Derived.KernelRfl
import Derived.Test.YtgoandblgcjleaaGreatDoorK14
import Derived.Test.YtgoandblgcjleaaGreatDoorK15
import Derived.Test.YtgoandblgcjleaaGreatDoorK16
import Derived.Test.YtgoandblgcjleaaGreatDoorK17
import Derived.Test.YtgoandblgcjleaaGreatDoorK18
import Derived.Test.YtgoandblgcjleaaGreatDoorK19
import Derived.Test.YtgoandblgcjleaaGreatDoorK20
import Derived.Test.YtgoandblgcjleaaGreatDoorK8
import Derived.LaidLaws
set_option linter.all false
set_option linter.unusedSimpArgs false
set_option linter.unusedVariables false
set_option linter.unusedSectionVars false
set_option maxRecDepth 100000
section
namespace Go.Proofs.YtgoandblgcjleaaGreatDoor
open Go
theorem qyy:(fun (P:Program) (f:FuncId) (fn:Func) (s:ChangeSpec) (c:OpenClaim)=>(c.wf (OpenSpec.ofChange s):Bool)) Tryz.prog 6 Tryz.f6 Rows.apparatusSpansSpec Rows.apparatusSpansRow=true:=by kernel_rfl
theorem qyz:(fun (P:Program) (f:FuncId) (fn:Func) (s:ChangeSpec) (c:OpenClaim)=>(fn.params.all (P.readableRec ·):Bool)) Tryz.prog 6 Tryz.f6 Rows.apparatusSpansSpec Rows.apparatusSpansRow=true:=by kernel_rfl
theorem qyA:(fun (P:Program) (f:FuncId) (fn:Func) (s:ChangeSpec) (c:OpenClaim)=>(namedTie P c.named s.vars:Bool)) Tryz.prog 6 Tryz.f6 Rows.apparatusSpansSpec Rows.apparatusSpansRow=true:=by kernel_rfl
theorem qyB:(fun (P:Program) (f:FuncId) (fn:Func) (s:ChangeSpec) (c:OpenClaim)=>((c.stops== []):Bool)) Tryz.prog 6 Tryz.f6 Rows.apparatusSpansSpec Rows.apparatusSpansRow=true:=by kernel_rfl
theorem qyC:(fun (P:Program) (f:FuncId) (fn:Func) (s:ChangeSpec) (c:OpenClaim)=>((c.knobs== []):Bool)) Tryz.prog 6 Tryz.f6 Rows.apparatusSpansSpec Rows.apparatusSpansRow=true:=by kernel_rfl
theorem qwO:(fun (P:Program) (f:FuncId) (fn:Func) (s:ChangeSpec) (c:OpenClaim)=>((c.maps==(fn.params.toList++s.plain.varTypes P).any (P.mapsRec ·)):Bool)) Tryz.prog 6 Tryz.f6 Rows.apparatusSpansSpec Rows.apparatusSpansRow=true:=by kernel_rfl
theorem qwP:(fun (P:Program) (f:FuncId) (fn:Func) (s:ChangeSpec) (c:OpenClaim)=>((c.ifaces==(fn.params.toList++s.plain.varTypes P).any (P.ifacesRec ·)):Bool)) Tryz.prog 6 Tryz.f6 Rows.apparatusSpansSpec Rows.apparatusSpansRow=true:=by kernel_rfl
theorem qwQ:(fun (P:Program) (f:FuncId) (fn:Func) (s:ChangeSpec) (c:OpenClaim)=>((c.mapsOut==P.mapsAmong fn.resultTypes.toList):Bool)) Tryz.prog 6 Tryz.f6 Rows.apparatusSpansSpec Rows.apparatusSpansRow=true:=by kernel_rfl
theorem qwR:(fun (P:Program) (f:FuncId) (fn:Func) (s:ChangeSpec) (c:OpenClaim)=>((c.loops==(fn.params.toList++s.plain.varTypes P).any (P.loopsFrom ·)):Bool)) Tryz.prog 6 Tryz.f6 Rows.apparatusSpansSpec Rows.apparatusSpansRow=true:=by kernel_rfl
theorem qwS:(fun (P:Program) (f:FuncId) (fn:Func) (s:ChangeSpec) (c:OpenClaim)=>((c.wideKeys==(fn.params.toList++s.plain.varTypes P++fn.resultTypes.toList).any (P.wideKeysFrom ·)):Bool)) Tryz.prog 6 Tryz.f6 Rows.apparatusSpansSpec Rows.apparatusSpansRow=true:=by kernel_rfl
theorem qwT:(fun (P:Program) (f:FuncId) (fn:Func) (s:ChangeSpec) (c:OpenClaim)=>(s.vars.all (P.varReadable ·):Bool)) Tryz.prog 6 Tryz.f6 Rows.apparatusSpansSpec Rows.apparatusSpansRow=true:=by kernel_rfl
theorem qwU:(fun (P:Program) (f:FuncId) (fn:Func) (s:ChangeSpec) (c:OpenClaim)=>(fn.resultTypes.all (fun t=>P.readableRec t&&decide (t<P.types.size)):Bool)) Tryz.prog 6 Tryz.f6 Rows.apparatusSpansSpec Rows.apparatusSpansRow=true:=by kernel_rfl
theorem qwV:(fun (P:Program) (f:FuncId) (fn:Func) (s:ChangeSpec) (c:OpenClaim)=>((c.ifacesOut==fn.resultTypes.toList.any (P.ifacesRec ·)):Bool)) Tryz.prog 6 Tryz.f6 Rows.apparatusSpansSpec Rows.apparatusSpansRow=true:=by kernel_rfl
theorem qwW:(fun (P:Program) (f:FuncId) (fn:Func) (s:ChangeSpec) (c:OpenClaim)=>((c.loopsOut==fn.resultTypes.toList.any (P.loopsFrom ·)):Bool)) Tryz.prog 6 Tryz.f6 Rows.apparatusSpansSpec Rows.apparatusSpansRow=true:=by kernel_rfl
theorem qwX:(fun (P:Program) (f:FuncId) (fn:Func) (s:ChangeSpec) (c:OpenClaim)=>((c.plainKeys==P.plainKeys):Bool)) Tryz.prog 6 Tryz.f6 Rows.apparatusSpansSpec Rows.apparatusSpansRow=true:=by kernel_rfl
theorem qwY:(fun (P:Program) (f:FuncId) (fn:Func) (s:ChangeSpec) (c:OpenClaim)=>(c.shortTexts.isNone:Bool)) Tryz.prog 6 Tryz.f6 Rows.apparatusSpansSpec Rows.apparatusSpansRow=true:=by kernel_rfl
theorem qw1:(fun (P:Program) (f:FuncId) (fn:Func) (s:ChangeSpec) (c:OpenClaim)=>((c.kinds==(if c.domain.isEmpty then [] else fn.params.toList.map fun t=>match P.underlying t with|some (.int k)=>some k|_=>none)):Bool)) Tryz.prog 6 Tryz.f6 Rows.apparatusSpansSpec Rows.apparatusSpansRow=true:=by kernel_rfl
theorem qw2:(fun (P:Program) (f:FuncId) (fn:Func) (s:ChangeSpec) (c:OpenClaim)=>((c.pinned==c.pinnedBy):Bool)) Tryz.prog 6 Tryz.f6 Rows.apparatusSpansSpec Rows.apparatusSpansRow=true:=by kernel_rfl
theorem qw3:(fun (P:Program) (f:FuncId) (fn:Func) (s:ChangeSpec) (c:OpenClaim)=>((c.veiled==(fn.params.toList++s.plain.varTypes P++fn.resultTypes.toList).any (P.veiledRec ·)):Bool)) Tryz.prog 6 Tryz.f6 Rows.apparatusSpansSpec Rows.apparatusSpansRow=true:=by kernel_rfl
theorem qw4:(fun (P:Program) (f:FuncId) (fn:Func) (s:ChangeSpec) (c:OpenClaim)=>(c.veiledFits P fn.params.toList (fn.params.toList++s.plain.varTypes P++fn.resultTypes.toList):Bool)) Tryz.prog 6 Tryz.f6 Rows.apparatusSpansSpec Rows.apparatusSpansRow=true:=by kernel_rfl
theorem qu {a b:Bool} (h1:a=true) (h2:b=true):(a&&b)=true:=by rw [h1,h2];rfl
theorem qqw:joinedFacts Tryz.prog 6 Tryz.f6 Rows.apparatusSpansSpec Rows.apparatusSpansRow=true:=by
 unfold joinedFacts
 refine qu ?_ (by exact qw4)
 refine qu ?_ (by exact qw3)
 refine qu ?_ (by exact qw2)
 refine qu ?_ (by exact qw1)
 refine qu ?_ (by exact qw0)
 refine qu ?_ (by exact qwZ)
 refine qu ?_ (by exact qAf)
 refine qu ?_ (by exact qAe)
 refine qu ?_ (by exact qwY)
 refine qu ?_ (by exact qwX)
 refine qu ?_ (by exact qwW)
 refine qu ?_ (by exact qwV)
 refine qu ?_ (by exact qwU)
 refine qu ?_ (by exact qwT)
 refine qu ?_ (by exact qwS)
 refine qu ?_ (by exact qwR)
 refine qu ?_ (by exact qwQ)
 refine qu ?_ (by exact qwP)
 refine qu ?_ (by exact qwO)
 refine qu ?_ (by exact qwN)
 refine qu ?_ (by exact qwM)
 refine qu ?_ (by exact qwL)
 refine qu ?_ (by exact qyD)
 refine qu ?_ (by exact wp8)
 refine qu ?_ (by exact qyC)
 refine qu ?_ (by exact wp6)
 refine qu ?_ (by exact qyB)
 refine qu ?_ (by exact qyA)
 refine qu ?_ (by exact qyz)
 refine qu ?_ (by exact wp2)
 refine qu ?_ (by exact wp1)
 exact qyy
end Go.Proofs.YtgoandblgcjleaaGreatDoor
end
section
open Go Go.Proofs AF HY Go.ChangeShapes Go.RowKit
namespace LN
theorem qxU : Tryz.prog.globalNamed "internal/strconv.uint64pow10" = some 1 := by kernel_rfl
theorem qxW : Tryz.prog.globalNamed "strconv.ErrSyntax" = some 6 := by kernel_rfl
theorem qxV : Tryz.prog.globalNamed "strconv.ErrRange" = some 7 := by kernel_rfl
theorem qnW {w w':World} (h:qo4 w) (e:w'.heap[1]? =w.heap[1]?):qo4 w':=by
 unfold qo4 Lib.TabIs at*
 rw [qc0 qxU e]
 exact h
theorem qfF : "*" ++ "errors.errorString" = "*errors.errorString" := by decide
theorem qpP (u : TypeId) (h : Tryz.prog.typeName? 3 u = some "*errors.errorString") : u = 323 :=
 typeName_ptr_named (nm := "errors.errorString") (by rw [qfF]; kernel_rfl) (by kernel_rfl) (by decide) u (by rw [qfF]; exact h)
def qcS:List Nat:= [1,6,7]
def qxh (w:World):Prop:=qo4 w∧qsW w
theorem qwg {W:World} (h:laidMet Tryz.prog YtgoandblgcjleaaGreatDoor.Rows.apparatusSpansRow.laid W):qo4 W∧qsW W:=by
 have h2:=laidMet.tail (laidMet.tail h)
 have h3:=laidMet.tail (laidMet.tail h2)
 have h4:=laidMet.tail h3
 obtain ⟨a,s,e1,_⟩:=laid_sentinel (g:=7) (ti:=192) (tp:=323) (te:=325) (ts:=9) h3 qxV (by kernel_rfl) Tryz.underlying192 qpP Tryz.underlying323 Tryz.underlying325 rfl rfl Tryz.underlying9 (by kernel_rfl) (by kernel_rfl)
 obtain ⟨b,t,e2,_⟩:=laid_sentinel (g:=6) (ti:=192) (tp:=323) (te:=325) (ts:=9) h4 qxW (by kernel_rfl) Tryz.underlying192 qpP Tryz.underlying323 Tryz.underlying325 rfl rfl Tryz.underlying9 (by kernel_rfl) (by kernel_rfl)
 exact ⟨Lib.tabIs_of_head (t:=288) (e:=164) (n:=20) qxU (by kernel_rfl) Tryz.underlying288 Tryz.underlying164 (by kernel_rfl) (by kernel_rfl) h2,⟨_,_,e2⟩,_,_,e1⟩
theorem qoj {W:World} (h:laidMet Tryz.prog YtgoandblgcjleaaGreatDoor.Rows.apparatusSpansRow.laid W): ∀b,b∈qcS→ ∃arr T fz,W.heap[b]? =some (.cells arr T fz):=by
 intro b hb
 obtain ⟨h1,⟨_,_,h2⟩,_,_,h3⟩:=qwg h
 have e:b=1∨b=6∨b=7:=by simpa [qcS] using hb
 rcases e with rfl|rfl|rfl
 ·exact qbV qxU h1
 ·exact qbV qxW h2
 ·exact qbV qxV h3
theorem qr9 {W:World} (h:laidMet Tryz.prog YtgoandblgcjleaaGreatDoor.Rows.apparatusSpansRow.laid W): ∀w':World,(∀b,b∈qcS→w'.heap[b]? =W.heap[b]?)→qxh w':=by
 intro w' hs
 obtain ⟨h1,⟨t1,p1,h2⟩,t2,p2,h3⟩:=qwg h
 refine ⟨qnW h1 (hs 1 (by simp [qcS])),⟨t1,p1,?_⟩,t2,p2,?_⟩
 ·rw [qc0 qxW (hs 6 (by simp [qcS]))];exact h2
 ·rw [qc0 qxV (hs 7 (by simp [qcS]))];exact h3
theorem qr8:qaZ RC.SG [.pin qcS qxh]:=⟨0,_,_,rfl,fun _ h=>h⟩
end LN
end
