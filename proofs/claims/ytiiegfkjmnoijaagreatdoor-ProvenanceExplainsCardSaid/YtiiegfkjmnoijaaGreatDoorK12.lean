import Derived.Test.YtiiegfkjmnoijaaGreatDoorK10
import Derived.Test.YtiiegfkjmnoijaaGreatDoorK11
import Derived.Shelf.Slices.In.SortAlone
import Derived.Shelf.Slices.In.CompactI
import Derived.Test.YtiiegfkjmnoijaaGreatDoorProg
import Derived.Test.YtiiegfkjmnoijaaGreatDoorK9
import Derived.Sort.OwnSortedInts
import Derived.Test.YtiiegfkjmnoijaaGreatDoorK3
import Derived.Test.YtiiegfkjmnoijaaGreatDoorK5
import Derived.Test.YtiiegfkjmnoijaaGreatDoorK8
import Derived.Lib.IndexMore
import Derived.Lib.CountLaws
import Derived.Laws.Strings3
import Derived.Test.YtiiegfkjmnoijaaGreatDoorK7
import Derived.Shelf.Strings.BuilderX
import Derived.Shelf.RegionOpenPlain
import Derived.Lib.Strings
import Derived.Lib.Slices
import Derived.Lib.Walk
import Derived.Lib.Builder
import Derived.Lib.AppendStr
import Derived.Lib.UnsafeStr
import Derived.Lib.MakeNoZero
import Derived.WalkKit
import Derived.Laws.Externs
import Derived.RangeFuncBox
import Derived.Laws.Rows
set_option linter.all false
set_option maxHeartbeats 128000000
set_option maxRecDepth 100000
section
open Go Go.Proofs AF HY LN
namespace RC
theorem qzp{t:Tk}(h:tkE t=0):txB t=true:=by
 unfold tkE at h;split at h
 ·cases h
 split at h
 ·cases h
 split at h
 ·cases h
 rename_i h3;simpa using h3
end RC
end
section
namespace Go.Proofs
open Go.Shelf
end Go.Proofs
end
section
open Go Go.Proofs Go.Sort AF HY LN
namespace RC
end RC
end
section
open Go Go.Proofs AF HY LN
namespace RC
theorem qbI{a b:En}:qar a b=false↔a.to<=b.frm∧ ¬(a.frm=b.frm∧a.to=b.to):=by
 unfold qar;rw[Bool.or_eq_false_iff,decide_eq_false_iff_not,Bool.and_eq_false_iff,decide_eq_false_iff_not,decide_eq_false_iff_not];omega
theorem qBI{L:List En}(hs:L.Pairwise λa b=>qeG b a=false)(hr: ∀e∈L,e.frm<=e.to)(hc:RX L=false):L.Pairwise λa b=>qar a b=false:=by
 induction L with
 |nil=>exact List.Pairwise.nil
 |cons a r ih=>
  have h0:=qle hs hc;obtain⟨h1,h2⟩:=List.pairwise_cons.1 hs;have h3:=ih h2 (λe he=>hr e (List.mem_cons_of_mem _ he)) (qba hc);refine List.pairwise_cons.2 ⟨?_,h3⟩;cases r with
  |nil=>intro z hz;cases hz
  |cons b r=>
   have hab:qar a b=false:=by
    rw[RX,Bool.or_eq_false_iff]at hc;exact hc.1
   intro z hz;have g0:=Tt.1 ((List.pairwise_cons.1 h0).1 z hz);rcases List.mem_cons.1 hz with rfl|hz'
   ·exact hab
   ·have g1:=qbI.1 ((List.pairwise_cons.1 h3).1 z hz');have g2:=qbI.1 hab;have g3:=hr b (by simp);rw[qbI];omega
theorem qeN: ∀ {L:List En},(L.Pairwise λa b=>qar a b=false)->RX L=false
 | [],_=>rfl
 | [_],_=>rfl
 |a::b::r,h=>by
  obtain⟨h1,h2⟩:=List.pairwise_cons.1 h;rw[RX,h1 b (by simp),qeN h2];rfl
theorem qge(names:List Str)(gs:List Gr)(l:List En)(src:Int)(p:En->Bool):ofE names gs (l.filter p) src=(ofE names gs l src).filter p:=by
 have h:=qcS qeI qeH p l [] List.Pairwise.nil;unfold ofE quu;rw[List.filter_nil]at h;rw[<-h,List.filter_reverse,List.filter_reverse,List.filter_reverse,List.filter_filter,List.filter_filter];congr 2;funext x;exact Bool.and_comm _ _
theorem qBE{names:List Str}{gs:List Gr}{t:List Str}{l:List En}(h:qug names gs t l){s:Nat}(hs:s<names.length):(ofE names gs l (s:Int)).Pairwise λa b=>qar a b=false:=by
 refine qBI (qgf names gs l s) (λe he=> ?_) (SQ h.cl hs);have h1:e∈quu l:=(List.mem_filter.1 he).1;have h2:=qiy.1 (h.ck e ((qdo l).subset h1));exact h2.rng.2.1
theorem qug.filter{names:List Str}{gs:List Gr}{t:List Str}{l:List En}(h:qug names gs t l)(p:En->Bool):qug names gs t (l.filter p):=
 ⟨h.sg,Nat.le_trans (List.length_filter_le _ _) h.n,λe he=>h.ck e ((List.mem_filter.1 he).1),qt.2 λs hs=>by
  rw[qge]
  exact qeN (List.Pairwise.filter _ (qBE h hs))⟩
theorem qD6(x:Co)(l:List Un)(w bef:Wd)(first:Bool)(h:wh)(hl:l.length<=1000000000)(hc:x.col.length<=1000000000)(hw:w.text.length<=1000000000):
  ACalls Tryz.prog 70 [.agg (coC x),zA l,.agg (wdC w),.agg (wdC bef),.bool first] h (.int .i64 (wdE x l w bef first)) h:=by
 obtain⟨R,hR⟩:=wg (wdE x l w bef first)
 rw[<-hR];unfold wdE at hR;have cF:=λh=>qx5 l w.col h hl
 by_cases g0:w.text= []
 ·have k0:(w.text= [])=True:=eqt g0;rw[ipo (.inl g0)]at hR;rw[hR];refine acO ke ?_;simp (disch:=omega) only[UW,coC,wdC,zA,k0,go_sem]
  repeat' first|exact wa|fail
 have k0:(w.text= [])=False:=eqf g0;simp only[k0,false_or]at hR;obtain⟨p,hp⟩:=wg (fnU l w.col)
 rw[<-hp]at hR;cases first with
 |true=>
  simp only[Bool.true_eq_false,false_and,or_false]at hR
  by_cases gB:64<w.text.length
  ·have kB:((64:Int)<w.text.length)=True:=eqt (by first|exact gB|omega);have hV:R=11:=by rw[hR];(repeat' split)<;>first|rfl|(exfalso;omega)
   rw[hV];refine acO ke ?_;simp (disch:=omega) only[UW,coC,wdC,zA,qp,k0,kB,go_sem]
   repeat' first|exact wa|fail
  ·have kB:((64:Int)<w.text.length)=False:=eqf (by first|exact gB|omega)
   by_cases gC:w.col<0
   ·have kC:(w.col<0)=True:=eqt (by first|exact gC|omega);have hV:R=19:=by rw[hR];(repeat' split)<;>first|rfl|(exfalso;omega)
    rw[hV];refine acO ke ?_;simp (disch:=omega) only[UW,coC,wdC,zA,qp,k0,kB,kC,go_sem]
    repeat' first|exact wa|fail
   ·have kC:(w.col<0)=False:=eqf (by first|exact gC|omega);have eF:fnR l w.col=p:=by unfold fnR;rw[ine gC,hp]
    have eE:fnE w.col=0:=ine gC;simp only[eF,eE]at cF
    by_cases gD:(x.col.length:Int)<=w.col
    ·have kD:((x.col.length:Int)<=w.col)=True:=eqt (by first|exact gD|omega);have hV:R=19:=by rw[hR];(repeat' split)<;>first|rfl|(exfalso;omega)
     rw[hV];refine acO ke ?_;simp (disch:=omega) only[UW,coC,wdC,zA,qp,k0,kB,kC,kD,go_sem]
     repeat' first|exact wa|with_reducible apply aiA|exact clz|fail
    ·have kD:((x.col.length:Int)<=w.col)=False:=eqf (by first|exact gD|omega)
     by_cases gG:w.unit< -1
     ·have kG:(w.unit< -1)=True:=eqt (by first|exact gG|omega);have hV:R=20:=by rw[hR];(repeat' split)<;>first|rfl|(exfalso;omega)
      rw[hV];refine acO ke ?_;simp (disch:=omega) only[UW,coC,wdC,zA,qp,k0,kB,kC,kD,kG,go_sem]
      repeat' first|(apply qa;exact rvk;simp only[go_sem];first|exact qi|apply qh)|(with_reducible first|intro _|apply aiA)|exact clz|fail
     ·have kG:(w.unit< -1)=False:=eqf (by first|exact gG|omega)
      by_cases gH:(l.length:Int)<=w.unit
      ·have kH:((l.length:Int)<=w.unit)=True:=eqt (by first|exact gH|omega);have hV:R=20:=by rw[hR];(repeat' split)<;>first|rfl|(exfalso;omega)
       rw[hV];refine acO ke ?_;simp (disch:=omega) only[UW,coC,wdC,zA,qp,k0,kB,kC,kD,kG,kH,go_sem]
       repeat' first|(apply qa;exact rvk;simp only[go_sem];first|exact qi|apply qh)|(with_reducible first|intro _|apply aiA)|exact clz|fail
      ·have kH:((l.length:Int)<=w.unit)=False:=eqf (by first|exact gH|omega)
       by_cases gI:p=w.unit
       ·have kI:(p=w.unit)=True:=eqt (by first|exact gI|omega)
        by_cases gJ:w.dec< -1
        ·have kJ:(w.dec< -1)=True:=eqt (by first|exact gJ|omega);have hV:R=2:=by rw[hR];(repeat' split)<;>first|rfl|(exfalso;omega)
         rw[hV];refine acO ke ?_;simp (disch:=omega) only[UW,coC,wdC,zA,qp,k0,kB,kC,kD,kG,kH,go_sem]
         repeat' first|(refine cA (cF _) flk ?_;simp (disch:=omega) only[kI,kJ,go_sem])|(apply qa;exact rvk;simp only[go_sem];first|exact qi|apply qh)|(with_reducible first|intro _|apply aiA)|exact clz|fail
        ·have kJ:(w.dec< -1)=False:=eqf (by first|exact gJ|omega)
         by_cases gK:w.unit<0
         ·have kK:(w.unit<0)=True:=eqt (by first|exact gK|omega);have kKb:(0<=w.unit)=False:=eqf (by first|exact gK|omega)
          by_cases gL:w.dec= -1
          ·have kL:(w.dec= -1)=True:=eqt (by first|exact gL|omega);have hV:R=0:=by rw[hR];(repeat' split)<;>first|rfl|(exfalso;omega)
           rw[hV];refine acO ke ?_;simp (disch:=omega) only[UW,coC,wdC,zA,qp,k0,kB,kC,kD,kG,kH,go_sem]
           repeat' first|(refine cA (cF _) flk ?_;simp (disch:=omega) only[kI,kJ,kK,kKb,kL,go_sem])|(apply qa;exact rvk;simp only[go_sem];first|exact qi|apply qh)|(with_reducible first|intro _|apply aiA)|exact clz|fail
          ·have kL:(w.dec= -1)=False:=eqf (by first|exact gL|omega);have hV:R=2:=by rw[hR];(repeat' split)<;>first|rfl|(exfalso;omega)
           rw[hV];refine acO ke ?_;simp (disch:=omega) only[UW,coC,wdC,zA,qp,k0,kB,kC,kD,kG,kH,go_sem]
           repeat' first|(refine cA (cF _) flk ?_;simp (disch:=omega) only[kI,kJ,kK,kKb,kL,go_sem])|(apply qa;exact rvk;simp only[go_sem];first|exact qi|apply qh)|(with_reducible first|intro _|apply aiA)|exact clz|fail
         ·have kK:(w.unit<0)=False:=eqf (by first|exact gK|omega);have kKb:(0<=w.unit)=True:=eqt (by first|exact gK|omega);have hV:R=0:=by rw[hR];(repeat' split)<;>first|rfl|(exfalso;omega)
          rw[hV];refine acO ke ?_;simp (disch:=omega) only[UW,coC,wdC,zA,qp,k0,kB,kC,kD,kG,kH,go_sem]
          repeat' first|(refine cA (cF _) flk ?_;simp (disch:=omega) only[kI,kJ,kK,kKb,go_sem])|(apply qa;exact rvk;simp only[go_sem];first|exact qi|apply qh)|(with_reducible first|intro _|apply aiA)|exact clz|fail
       ·have kI:(p=w.unit)=False:=eqf (by first|exact gI|omega);have hV:R=20:=by rw[hR];(repeat' split)<;>first|rfl|(exfalso;omega)
        rw[hV];refine acO ke ?_;simp (disch:=omega) only[UW,coC,wdC,zA,qp,k0,kB,kC,kD,kG,kH,go_sem]
        repeat' first|(refine cA (cF _) flk ?_;simp (disch:=omega) only[kI,go_sem])|(apply qa;exact rvk;simp only[go_sem];first|exact qi|apply qh)|(with_reducible first|intro _|apply aiA)|exact clz|fail
 |false=>
  simp only[true_and]at hR
  by_cases gB:64<w.text.length
  ·have kB:((64:Int)<w.text.length)=True:=eqt (by first|exact gB|omega);have hV:R=11:=by rw[hR];(repeat' split)<;>first|rfl|(exfalso;omega)
   rw[hV];refine acO ke ?_;simp (disch:=omega) only[UW,coC,wdC,zA,qp,k0,kB,go_sem]
   repeat' first|exact wa|fail
  ·have kB:((64:Int)<w.text.length)=False:=eqf (by first|exact gB|omega)
   by_cases gC:w.col<0
   ·have kC:(w.col<0)=True:=eqt (by first|exact gC|omega);have hV:R=19:=by rw[hR];(repeat' split)<;>first|rfl|(exfalso;omega)
    rw[hV];refine acO ke ?_;simp (disch:=omega) only[UW,coC,wdC,zA,qp,k0,kB,kC,go_sem]
    repeat' first|exact wa|fail
   ·have kC:(w.col<0)=False:=eqf (by first|exact gC|omega);have eF:fnR l w.col=p:=by unfold fnR;rw[ine gC,hp]
    have eE:fnE w.col=0:=ine gC;simp only[eF,eE]at cF
    by_cases gD:(x.col.length:Int)<=w.col
    ·have kD:((x.col.length:Int)<=w.col)=True:=eqt (by first|exact gD|omega);have hV:R=19:=by rw[hR];(repeat' split)<;>first|rfl|(exfalso;omega)
     rw[hV];refine acO ke ?_;simp (disch:=omega) only[UW,coC,wdC,zA,qp,k0,kB,kC,kD,go_sem]
     repeat' first|exact wa|with_reducible apply aiA|exact clz|fail
    ·have kD:((x.col.length:Int)<=w.col)=False:=eqf (by first|exact gD|omega)
     by_cases gF:w.col<bef.col
     ·have kF:(w.col<bef.col)=True:=eqt (by first|exact gF|omega);have hV:R=19:=by rw[hR];(repeat' split)<;>first|rfl|(exfalso;omega)
      rw[hV];refine acO ke ?_;simp (disch:=omega) only[UW,coC,wdC,zA,qp,k0,kB,kC,kD,kF,go_sem]
      repeat' first|exact wa|with_reducible apply aiA|exact clz|fail
     ·have kF:(w.col<bef.col)=False:=eqf (by first|exact gF|omega)
      by_cases gG:w.unit< -1
      ·have kG:(w.unit< -1)=True:=eqt (by first|exact gG|omega);have hV:R=20:=by rw[hR];(repeat' split)<;>first|rfl|(exfalso;omega)
       rw[hV];refine acO ke ?_;simp (disch:=omega) only[UW,coC,wdC,zA,qp,k0,kB,kC,kD,kF,kG,go_sem]
       repeat' first|exact wa|with_reducible apply aiA|exact clz|fail
      ·have kG:(w.unit< -1)=False:=eqf (by first|exact gG|omega)
       by_cases gH:(l.length:Int)<=w.unit
       ·have kH:((l.length:Int)<=w.unit)=True:=eqt (by first|exact gH|omega);have hV:R=20:=by rw[hR];(repeat' split)<;>first|rfl|(exfalso;omega)
        rw[hV];refine acO ke ?_;simp (disch:=omega) only[UW,coC,wdC,zA,qp,k0,kB,kC,kD,kF,kG,kH,go_sem]
        repeat' first|exact wa|with_reducible apply aiA|exact clz|fail
       ·have kH:((l.length:Int)<=w.unit)=False:=eqf (by first|exact gH|omega)
        by_cases gI:p=w.unit
        ·have kI:(p=w.unit)=True:=eqt (by first|exact gI|omega)
         by_cases gJ:w.dec< -1
         ·have kJ:(w.dec< -1)=True:=eqt (by first|exact gJ|omega);have hV:R=2:=by rw[hR];(repeat' split)<;>first|rfl|(exfalso;omega)
          rw[hV];refine acO ke ?_;simp (disch:=omega) only[UW,coC,wdC,zA,qp,k0,kB,kC,kD,kF,kG,kH,go_sem]
          repeat' first|(refine cA (cF _) flk ?_;simp (disch:=omega) only[kI,kJ,go_sem])|exact wa|with_reducible apply aiA|exact clz|fail
         ·have kJ:(w.dec< -1)=False:=eqf (by first|exact gJ|omega)
          by_cases gK:w.unit<0
          ·have kK:(w.unit<0)=True:=eqt (by first|exact gK|omega);have kKb:(0<=w.unit)=False:=eqf (by first|exact gK|omega)
           by_cases gL:w.dec= -1
           ·have kL:(w.dec= -1)=True:=eqt (by first|exact gL|omega);have hV:R=0:=by rw[hR];(repeat' split)<;>first|rfl|(exfalso;omega)
            rw[hV];refine acO ke ?_;simp (disch:=omega) only[UW,coC,wdC,zA,qp,k0,kB,kC,kD,kF,kG,kH,go_sem]
            repeat' first|(refine cA (cF _) flk ?_;simp (disch:=omega) only[kI,kJ,kK,kKb,kL,go_sem])|(apply qa;exact rvk;simp only[go_sem];first|exact qi|apply qh)|(with_reducible first|intro _|apply aiA)|exact clz|fail
           ·have kL:(w.dec= -1)=False:=eqf (by first|exact gL|omega);have hV:R=2:=by rw[hR];(repeat' split)<;>first|rfl|(exfalso;omega)
            rw[hV];refine acO ke ?_;simp (disch:=omega) only[UW,coC,wdC,zA,qp,k0,kB,kC,kD,kF,kG,kH,go_sem]
            repeat' first|(refine cA (cF _) flk ?_;simp (disch:=omega) only[kI,kJ,kK,kKb,kL,go_sem])|exact wa|with_reducible apply aiA|exact clz|fail
          ·have kK:(w.unit<0)=False:=eqf (by first|exact gK|omega);have kKb:(0<=w.unit)=True:=eqt (by first|exact gK|omega)
           by_cases gO:w.unit=bef.unit
           ·have kO:(w.unit=bef.unit)=True:=eqt (by first|exact gO|omega)
            by_cases gP:w.dec=bef.dec
            ·have kP:(w.dec=bef.dec)=True:=eqt (by first|exact gP|omega);have hV:R=0:=by rw[hR];(repeat' split)<;>first|rfl|(exfalso;omega)
             rw[hV];refine acO ke ?_;simp (disch:=omega) only[UW,coC,wdC,zA,qp,k0,kB,kC,kD,kF,kG,kH,go_sem]
             repeat' first|(refine cA (cF _) flk ?_;simp (disch:=omega) only[kI,kJ,kK,kKb,kO,kP,go_sem])|(apply qa;exact rvk;simp only[go_sem];first|exact qi|apply qh)|(with_reducible first|intro _|apply aiA)|exact clz|fail
            ·have kP:(w.dec=bef.dec)=False:=eqf (by first|exact gP|omega);have hV:R=2:=by rw[hR];(repeat' split)<;>first|rfl|(exfalso;omega)
             rw[hV];refine acO ke ?_;simp (disch:=omega) only[UW,coC,wdC,zA,qp,k0,kB,kC,kD,kF,kG,kH,go_sem]
             repeat' first|(refine cA (cF _) flk ?_;simp (disch:=omega) only[kI,kJ,kK,kKb,kO,kP,go_sem])|(apply qa;exact rvk;simp only[go_sem];first|exact qi|apply qh)|(with_reducible first|intro _|apply aiA)|exact clz|fail
           ·have kO:(w.unit=bef.unit)=False:=eqf (by first|exact gO|omega);have hV:R=0:=by rw[hR];(repeat' split)<;>first|rfl|(exfalso;omega)
            rw[hV];refine acO ke ?_;simp (disch:=omega) only[UW,coC,wdC,zA,qp,k0,kB,kC,kD,kF,kG,kH,go_sem]
            repeat' first|(refine cA (cF _) flk ?_;simp (disch:=omega) only[kI,kJ,kK,kKb,kO,go_sem])|(apply qa;exact rvk;simp only[go_sem];first|exact qi|apply qh)|(with_reducible first|intro _|apply aiA)|exact clz|fail
        ·have kI:(p=w.unit)=False:=eqf (by first|exact gI|omega);have hV:R=20:=by rw[hR];(repeat' split)<;>first|rfl|(exfalso;omega)
         rw[hV];refine acO ke ?_;simp (disch:=omega) only[UW,coC,wdC,zA,qp,k0,kB,kC,kD,kF,kG,kH,go_sem]
         repeat' first|(refine cA (cF _) flk ?_;simp (disch:=omega) only[kI,go_sem])|exact wa|with_reducible apply aiA|exact clz|fail
end RC
end
section
open Go Go.Proofs AF
def qrT:List Nat:= [1000072,1000073,1000075,1000076,1000077,1000078,1000079]
@[go_sem]def vf:DT:= DT.one ⟨none,none,.store 1,[.t 17,.t 79]⟩ DT.nil
@[go_sem]def vd:DT:= DT.one ⟨some 71,none,.load none,[.t 70]⟩ (DT.one ⟨some 72,none,.idxI 1,[.t 71,.c (i6 0)]⟩ (DT.one ⟨some 73,none,.loadI none,[.t 72]⟩ (DT.one ⟨some 77,none,.idxI 6,[.t 73,.t 76]⟩
 (DT.one ⟨some 78,none,.fldI 0,[.t 77]⟩ (DT.one ⟨some 79,none,.loadI none,[.t 78]⟩ vf)))))
def qAn:C:=
 (vU [O1 3 (.box 0 26) 0,vO 6 0] ((vU [O1 18 (.load (some 4)) 3,MV 19 1,O2 20 (.call 69 true) 18 19,MV 7 20] (vU [MV 21 7,vP 22 .neq 21 0] (vV 22 (vX [MV 23 7,MV 6 23])))).seq
 (vU [vN 24 3 3,LD 25 24,O1 26 .len 25,⟨some 27,none,.mkslc 1 1 3 [i6 0] 8,[.t 26,.t 26]⟩,MV 8 27] (vU [⟨some 9,none,.alloc 2 36 [.str [],i6 0,i6 0,i6 0,.bool false,.bool
 false,.str []],[]⟩] ((vU [MV 28 2,O1 29 .len 28,vO 30 0] (C.block 0 (vU [BI 31 .lss 30 29] ((vW 31 0).seq ((C.block 1 (vU [MV 32 30,O2 33 (.idxA 7) 28 30,O1 34 (.load (some 7))
 33,⟨some 11,none,.alloc 3 36 [.str [],i6 0,i6 0,i6 0,.bool false,.bool false,.str []],[]⟩,MV 10 32,ST 7 11 34] ((vU [O1 35 (.load (some 4)) 3,MV 36 1,O1 37 (.load (some 7))
 11,O1 38 (.load (some 7)) 9,MV 39 10,vP 40 .eql 39 0,ON 41 (.call 70 true) [.t 35,.t 36,.t 37,.t 38,.t 40],MV 12 41] (vU [MV 42 12,vP 43 .neq 42 0] (vV 43 (vX [MV 44 12,MV 6
 44])))).seq (vU [O1 45 (.load (some 7)) 11,ST 7 9 45] (vY [MV 46 8,vN 47 1 11,LD 48 47,O2 49 (.idxA 1) 46 48,LD 50 49,vP 51 .add 50 1,O2 52 (.idxA 1) 46 48,ST 1 52 51]))))).seq
 (vY [vP 53 .add 30 1,MV 30 53])))).loop)).seq ((vU [vN 54 3 3,LD 55 54,O1 56 .len 55,vO 57 0] (C.block 2 (vU [BI 58 .lss 57 56] ((vW 58 2).seq ((C.block 3 (vU [MV 59 57,O2 60
 (.idxA 1) 55 57,LD 61 60,⟨some 13,none,.alloc 4 3 [i6 0],[]⟩,ST 1 13 59,MV 14 61] ((vU [MV 63 1,LD 64 13,O2 65 (.call 71 true) 63 64,MV 62 65,O1 66 (.ext 0) 62,O1 67 (.ext 1)
 62,MV 15 66,MV 16 67] (vU [MV 68 15,vP 69 .geq 68 0] (vV 69 (C.exit 3)))).seq ((C.draw (DT.one ⟨some 74,none,.mv,[.t 14]⟩ (DT.one ⟨some 75,none,.idxI 1,[.t 74,.c (i6 0)]⟩
 (DT.one ⟨some 76,none,.loadI none,[.t 75]⟩ ((DT.one ⟨some 70,none,.fldA 2,[.t 3]⟩ ((DT.one ⟨some 71,none,.load none,[.t 70]⟩ (DT.one ⟨some 72,none,.idxI 1,[.t 71,.c (i6 0)]⟩
 (DT.one ⟨some 73,none,.loadI none,[.t 72]⟩ (DT.one ⟨some 77,none,.idxI 6,[.t 73,.t 76]⟩ (DT.one ⟨some 78,none,.fldI 0,[.t 77]⟩ (DT.one ⟨some 79,none,.loadI none,[.t 78]⟩
 (DT.one ⟨some 17,none,.alloc 5 9 [.str []],[]⟩ vf))))))).two (DT.one ⟨some 17,none,.alloc 5 9 [.str []],[]⟩ vd))).two (DT.one ⟨some 17,none,.alloc 5 9 [.str []],[]⟩ (DT.one
 ⟨some 70,none,.fldA 2,[.t 3]⟩ vd))))))).seq (vU [MV 80 8,LD 81 13,O2 82 (.idxA 1) 80 81,LD 83 82,vP 84 .neq 83 1,MV 85 84,vS 86 85 2,vR 87 85 (.mkfn (Fn.func 73) 0) 13 17,vR 88
 85 (.call 72 true) 86 87,vQ 89 85 (.un UnOp.not) 88,PT 90 85 89] (vV 90 (vX [vO 6 9]))))))).seq (vY [vP 91 .add 57 1,MV 57 91])))).loop)).seq (vX [vO 6 0])))))))
theorem qw6:qM Tryz.prog 17 92 6 [RV.tmp 6] qAn:=fi Tryz.f17 [3,27,9,11,13,17] qrT []
end
section
open Go Go.Proofs AF HY LN
namespace RC
theorem pc1(w:Wd)(c:Int)(s:Str)(h:wh):ACalls Tryz.prog 73 [.agg (wdC w),.ip [.int .i64 c],.ip [.str s]] h (.bool (decide (w.col=c)&&decide (w.text=s))) h:=by
 by_cases g:w.col=c
 ·have k1:(w.col=c)=True:=eqt g;rw[dqt g,Bool.true_and];refine acO qx0 ?_;simp (disch:=omega) only[qAt,wdC,k1,go_sem]
  repeat' first|exact wa|with_reducible apply aiA|exact clz|fail
 ·have k1:(w.col=c)=False:=eqf g;rw[dqf g,Bool.false_and];refine acO qx0 ?_;simp (disch:=omega) only[qAt,wdC,k1,go_sem]
  repeat' first|exact wa|with_reducible apply aiA|exact clz|fail
theorem qCU(b:List Wd)(c:Int)(s:Str)(k v k2 v2:Nat)(h:wh)(hk:qr k h=some (.mem v 3 [.int .i64 c]))(hk2:qr k2 h=some (.mem v2 9 [.str s]))(hn:b.length<=1000000000):
  ACalls Tryz.prog 72 [jD b,.fn (.func 73) [] [.op k v 0,.op k2 v2 0]] h (.bool (jp (λi=>decide ((b.getD i default).col=c)&&decide ((b.getD i default).text=s)) b.length)) h:=by
 have hc:=qG hk;have hc2:=qG hk2;unfold jD;refine qum qBa ⟨rfl,rfl⟩ ⟨rfl,rfl⟩ (qbP qwH b.length (λj=>wdC (b.getD j default)) (λj=> .agg (wdC (b.getD j default))) _ [] [.op k v 0,.op k2 v2 0] _ h (λi _=>⟨rfl,by simp[jU,wdC],rfl,rfl,rfl⟩) (λi _=> ?_) om);refine ACalls.borrow ?_ rfl;have e:([AV.agg (wdC (b.getD i default))]++ [AV.op k v 0,AV.op k2 v2 0]).map (rei (λ_=>true) h 8)= [.agg (wdC (b.getD i default)),.ip [.int .i64 c],.ip [.str s]]:=by
  simp only[lca,lna,List.map_cons,List.map_nil,rei_op,if_true,hc,hc2,ipOf_some,List.drop_zero,rei_agg];rfl
 rw[lna,e];exact pc1 _ c s _
theorem qtI{x:Co}{l:List Un}{w bef:Wd}{first:Bool}(h:wdE x l w bef first=0):0<=w.col∧w.col<x.col.length:=by
 unfold wdE at h;split at h
 ·cases h
 split at h
 ·cases h
 ·omega
theorem qsB{x:Co}{l:List Un}(ho:CoOk x)(hv:cvA x l=true){c:Nat}(hc:c<x.col.length)(hf:fnU l c<0):0<=(x.col.getD c []).getD 0 0∧(x.col.getD c []).getD 0 0<((x.tok.getD 0 []).length:Int):=by
 unfold cvA at hv;rw[Bool.not_eq_true',qt]at hv;have h1:=hv c hc;have h2:cvB l c=false:=by
  cases e:cvB l c with
  |false=>rfl
  |true=>
   unfold cvB at e;obtain⟨i,hi,hp⟩:=qR.1 e;rw[Bool.and_eq_true,decide_eq_true_iff,decide_eq_true_iff]at hp;exact absurd hp (qjf hf hi)
 rw[h2,Bool.not_false,Bool.true_and,Bool.not_eq_false']at h1;unfold cmB at h1;rw[Bool.not_eq_true',qt]at h1;have h3:=h1 0 ho.sg.1;rw[Bool.or_eq_false_iff]at h3;have h4:clT x c 0≠none:=of_decide_eq_false h3.1;unfold clT at h4;split at h4
 ·exact absurd rfl h4
 ·rename_i g;rcases ho.ce c hc 0 ho.sg.1 with e|⟨_,e⟩
  ·omega
  ·exact⟨om,e⟩
def cwA(b:List Wd)(i k:Nat):AV:= .int .i64 (cW b (k:Int) i:Int)
theorem qAw(b:List Wd)(c:Int): ∀i,cW b c i<=i:=by
 intro i
 induction i with
 |zero=>exact nlr _
 |succ i ih=>unfold cW;split<;>omega
theorem qmT{b:List Wd}{i u n:Nat}(hu:u<n)(h:(b.getD i default).col=(u:Int)):List.take u (gC (cwA b i) n)++ [.int .i64 ((cW b (u:Int) i:Int)+1)]++List.drop (u+1) (gC (cwA b i) n)=gC (cwA b (i+1)) n:=by
 rw[qpY _ hu];refine SH λk hk=> ?_
 unfold cwA;have e:cW b (k:Int) (i+1)=cW b (k:Int) i+if (b.getD i default).col=(k:Int) then 1 else 0:=rfl
 rw[e]
 by_cases g:k=u
 ·subst g;rw[ipo rfl,ipo h];rfl
 ·rw[ine g,ine (by rw[h];omega)];rfl
theorem pvP(x:Co)(l:List Un)(b:List Wd)(h:wh)(hz:qaN x)(hu:qbx l)(hb:b.length<=1000000000)(ht: ∀i,(b.getD i default).text.length<=1000000000)(hp:kY SG h):
  ACalls Tryz.prog 17 [.agg (coC x),zA l,jD b] h (.int .i64 (pvE x l b)) h:=by
 have c1:=λl'=>vaP x l (h++l') hz hu (hp.app l')
 obtain⟨R,hR⟩:=wg (pvE x l b)
 rw[<-hR];unfold pvE at hR
 by_cases g:vaE x l=0
 case neg=>
  have k1:(vaE x l=0)=False:=eqf g;rw[ipo g]at hR;rw[hR];obtain⟨e,he⟩:=wg (vaE x l)
  rw[<-he]at c1 k1 ⊢;unfold coC at c1;refine acO qw6 ?_;simp (disch:=omega) only[qAn,coC,go_sem]
  repeat' first|(refine cA (c1 _) flk ?_;simp (disch:=omega) only[k1,go_sem])|exact wa|fail
 rw[ine (λhc=>hc g)]at hR;rw[g]at c1;unfold coC qp at c1;have hv:coE x=0∧UG x l=true∧cvA x l=true:=by
  unfold vaE at g;split at g
  ·cases g
  rename_i g1;split at g
  ·cases g
  rename_i g2;have g2:rgB x l=true:=by simpa using g2
  unfold rgB at g2;rw[Bool.and_eq_true]at g2;exact⟨Classical.not_not.1 g1,g2⟩
 have ho:=SU hv.1;have hcl:=hz.cl;have k0:(0<=(x.col.length:Int))=True:=wj;have k1:((x.col.length:Int)<=9223372036854775807)=True:=wj;refine acO qw6 ?_;simp (disch:=omega) only[qAn,coC,qp,jD,go_sem]
 repeat' first|(refine cA (c1 _) flk ?_;simp (disch:=omega) only[k0,go_sem])|with_reducible apply aiA|exact clz|fail
 all_goals try rw[itn]
 rw[qdW];have e0:gC (λ_=>AV.int .i64 0) x.col.length=gC (cwA b 0) x.col.length:=SH λk _=>rfl
 rw[e0];refine qu (T:=λi:Nat×Nat×AObj=>zf 92 [(1,zA l),(2,jD b),(3,.op h.length 1 0),(8,.osl (h.length+1) 1 1 0 x.col.length),(9,.op (h.length+2) i.2.1 0),(28,jD b),(29,.int .i64 b.length),(30,.int .i64 i.1)])
  (H:=λi=>h++ [.mem 1 26 (coC x),.mem 1 3 (gC (cwA b i.1) x.col.length),.mem i.2.1 36 (wdC (qdz b i.1)),i.2.2,.emp 0,.emp 0])
  (inv:=λi=>i.1<=b.length∧qJ [i.2.2] 0=true∧ ∀j,j<i.1->qg7 x l b j=0) (m:=λi=>b.length-i.1) (0,1,.emp 0) ⟨nzl _,rfl,λj hj=>absurd hj (nnz j)⟩ (Wk.temps ?_) ?_
 ·(simp only[jD,zA,go_sem,qg,qc,qb,qf];try exact we)
 rintro⟨i,v,O⟩ ⟨i1,i2,i3⟩ K hK;simp only at i1 i2 i3 hK;have i2': ∀m,qJ (O::m) 0=true:=λ_=>i2
 by_cases hi:i<b.length
 ·have k2:((i:Int)<b.length)=True:=wj;have hE:=kM (f:=qg7 x l b) hi i3;have hS:qg7 x l b i=0-> ∀j,j<i+1->qg7 x l b j=0:=λhx j hj=>by
   by_cases e:j=i
   ·subst e;exact hx
   ·exact i3 j om
  have c2:=λh=>qD6 x l (b.getD i default) (qdz b i) (decide (i=0)) h hu.n hcl (ht i)
  have hw:qg7 x l b i=wdE x l (b.getD i default) (qdz b i) (decide (i=0)):=rfl;have hrg:= @qtI x l (b.getD i default) (qdz b i) (decide (i=0));have hbn:qdz b (i+1)=b.getD i default:=by unfold qdz;rw[ine om,Nat.add_sub_cancel]
  have hcs:=λu=> @qmT b i u x.col.length
  have hle:=λc=>qAw b c i
  have ei:decide ((i:Int)=0)=decide (i=0):=decide_eq_decide.2 om;obtain⟨w,hwx⟩:=wg (b.getD i default)
  have ew:=hwx.symm;obtain⟨w0,hw0⟩:=wg (qdz b i)
  have ew0:=hw0.symm;simp only[ew]at c2 hw hrg hbn hcs;simp only[ew0]at c2 hw hrg;rw[<-hw]at hrg;simp only[<-hw]at c2;obtain⟨e,he⟩:=wg (qg7 x l b i)
  rw[<-he]at hE hS hrg;simp only[<-he]at c2;obtain⟨fb,hfb⟩:=wg (decide (i=0))
  rw[<-hfb]at ei;simp only[<-hfb]at c2;unfold coC qp wdC at c2
  by_cases g1:e=0
  case neg=>
   have k3:(e=0)=False:=eqf g1;have hV:R=e:=by rw[hR,ipo (by rw[hE g1];exact g1),hE g1]
   rw[hV];simp (disch:=omega) only[coC,qp,jD,wdC,k2,ew,ew0,ei,i2',go_sem]
   repeat' first|(refine cA (c2 _) flk ?_;simp (disch:=omega) only[k3,go_sem])|exact wa|with_reducible apply aiA|exact clz|fail
  have k3:(e=0)=True:=eqt g1;obtain⟨r1,r2⟩:=hrg g1;obtain⟨u,hu'⟩: ∃u:Nat,w.col=(u:Int):=⟨w.col.toNat,om⟩
  simp only[hu']at c2;have un:u<x.col.length:=by omega
  have t2:(0<=(u:Int))=True:=wj;have t3:((u:Int)<x.col.length)=True:=wj;have t4:(u<x.col.length)=True:=eqt un;have t5:(u+1<=x.col.length)=True:=eqt un;have gl:=kn (cwA b i) x.col.length;have gg:=RZ (g:=cwA b i) un;have hst:=hcs u un hu';have hle:=hle (u:Int);have hcw:cwA b i u= .int .i64 (cW b (u:Int) i:Int):=rfl;rw[hcw]at gg;obtain⟨q,hq⟩:=wg (cW b (u:Int) i)
  rw[<-hq]at gg hst hle;have b2:((q:Int)+1<=9223372036854775807)=True:=wj;have b3:(-9223372036854775808<=(q:Int)+1)=True:=wj;simp (disch:=omega) only[coC,qp,jD,wdC,k2,ew,ew0,ei,i2',hu',Nat.zero_add,Option.isSome_some,go_sem]
  repeat' first|(refine cA (c2 _) flk ?_;simp (disch:=omega) only[k3,t2,t3,t4,t5,gl,gg,hst,Nat.mul_one,Nat.zero_add,Option.isSome_some,go_sem])|with_reducible apply aiA|exact clz|fail
  try rw[hst]
  refine hK _ _ (i+1,v,.mem (qn (some O)+1) 36 (wdC w)) ⟨hi,rfl,hS g1⟩ (by simp only;omega) ?_;simp only[hbn,wdC,hu'];refine Wk.temps ?_
  (simp only[jD,zA,go_sem,qg,qc,qb,qf];try exact we)
 have k2:((i:Int)<b.length)=False:=wm;obtain rfl:i=b.length:=by omega
 have hn0:=z8 (f:=qg7 x l b) (λj (hj:j<b.length)=>i3 j hj);rw[ine (λhc=>hc hn0)]at hR;clear hK;obtain⟨w0,hw0⟩:=wg (qdz b b.length)
 have ew0:=hw0.symm;rw[ew0];simp (disch:=omega) only[coC,qp,jD,k2,i2',go_sem]
 repeat' first|with_reducible apply aiA|exact clz|fail
 obtain⟨cb,hcb⟩: ∃f:Nat->Int,f=qz6 x l b:=⟨_,rfl⟩
 rw[<-hcb]at hR;have z0:((0:Nat):Int)=0:=rfl;have hto:0<x.tok.length:=by have:=ho.tn;have:=ho.sg;omega
 refine qu (T:=λi:Nat×AObj×AObj=>zf 92 [(1,zA l),(2,jD b),(3,.op h.length 1 0),(8,.osl (h.length+1) 1 1 0 x.col.length),(55,qp x.col),(56,.int .i64 x.col.length),(57,.int .i64 i.1)])
  (H:=λi=>h++ [.mem 1 26 (coC x),.mem 1 3 (gC (cwA b b.length) x.col.length),.mem v 36 (wdC w0),O,i.2.1,i.2.2])
  (inv:=λi=>i.1<=x.col.length∧qJ [i.2.1] 0=true∧qJ [i.2.2] 0=true∧ ∀j,j<i.1->cb j=0) (m:=λi=>x.col.length-i.1) (0,.emp 0,.emp 0) ⟨nzl _,rfl,rfl,λj hj=>absurd hj (nnz j)⟩ (Wk.temps ?_) ?_
 ·(simp only[jD,zA,qp,go_sem,qg,qc,qb,qf];try exact we)
 rintro⟨i,O1,O2⟩ ⟨i1,j1,j2,j3⟩ K hK;simp only at i1 j1 j2 j3 hK;have j1': ∀m,qJ (O1::m) 0=true:=λ_=>j1
 have j2': ∀m,qJ (O2::m) 0=true:=λ_=>j2
 by_cases hi:i<x.col.length
 ·have k3:((i:Int)<x.col.length)=True:=wj;have t2:(0<=(i:Int))=True:=wj;have hE:=kM (f:=cb) hi j3;have hS:cb i=0-> ∀j,j<i+1->cb j=0:=λhx j hj=>by
   by_cases e:j=i
   ·subst e;exact hx
   ·exact j3 j om
  have hci:cb i=if 0<=fnU l (i:Int) then 0 else if ccB x b i=true then 0 else 9:=by rw[hcb];rfl
  have hcc:ccB x b i=(decide (cW b (i:Int) b.length=1)&&jp (λj=>decide ((b.getD j default).col=(i:Int))&&decide ((b.getD j default).text=txA x i)) b.length):=rfl;have hto2:= @qsB x l ho hv.2.2 i hi;have eF:fnR l (i:Int)=fnU l (i:Int):=ine om;have eE:fnE (i:Int)=0:=ine om;have c3:=λh=>qx5 l (i:Int) h hu.n
  simp only[eF,eE]at c3;have htx:txA x i=((x.tok.getD 0 []).getD ((x.col.getD i []).getD 0 0).toNat default).text:=rfl;have hcl0:=ho.cl i hi;obtain⟨c,hcx⟩:=wg (x.col.getD i [])
  have ec:=hcx.symm;rw[ec]at hto2 htx hcl0;obtain⟨t,htt⟩:=wg (c.getD 0 0)
  have et:=htt.symm;rw[et]at hto2 htx;obtain⟨tk,htk⟩:=wg (x.tok.getD 0 [])
  have etk:=htk.symm;rw[etk]at hto2 htx;obtain⟨p,hpx⟩:=wg (fnU l (i:Int))
  rw[<-hpx]at hci hto2;simp only[<-hpx]at c3;unfold zA at c3
  by_cases g1:0<=p
  ·have k4:(0<=p)=True:=eqt g1;rw[ipo g1]at hci;simp (disch:=omega) only[coC,qp,zA,qy,k3,ec,j1',go_sem]
   repeat' first|(refine cA (c3 _) flk ?_;simp (disch:=omega) only[k4,go_sem])|with_reducible apply aiA|exact clz|fail
   refine hK _ _ (i+1,.mem (qn (some O1)+1) 3 [.int .i64 (i:Int)],O2) ⟨hi,rfl,j2,hS hci⟩ (by simp only;omega) (Wk.temps ?_)
   (simp only[jD,zA,qp,go_sem,qg,qc,qb,qf];try exact we)
  have k4:(0<=p)=False:=eqf g1;rw[ine g1]at hci;obtain⟨o1,o2⟩:=hto2 om;have k5:(0<=t)=True:=eqt o1;have k6:(t<tk.length)=True:=eqt o2;have k7:((0:Int)<c.length)=True:=eqt (by have:=ho.sg;omega);have k8:((0:Int)<x.tok.length)=True:=wj;obtain⟨tt,htt2⟩:=wg (tk.getD t.toNat default)
  have ett:=htt2.symm;rw[ett]at htx;rw[htx]at hcc;have gl:=kn (cwA b b.length) x.col.length;have gg:=RZ (g:=cwA b b.length) hi;have hcw:cwA b b.length i= .int .i64 (cW b (i:Int) b.length:Int):=rfl;rw[hcw]at gg;have t4:(i<x.col.length)=True:=eqt hi;have t5:(i+1<=x.col.length)=True:=eqt hi;obtain⟨q,hq⟩:=wg (cW b (i:Int) b.length)
  rw[<-hq]at gg hcc;have c4:=λv v2 H hk hk2=>qCU b (i:Int) tt.text (h.length+4) v (h.length+5) v2 H hk hk2 hb
  simp (disch:=omega) only[coC,qp,zA,qy,k3,ec,j1',go_sem]
  repeat' first|(refine cA (c3 _) flk ?_;simp (disch:=omega) only[k4,go_sem])|with_reducible apply aiA|exact clz|fail
  refine jV ?T ?H ?h1 ?h2
  case h1=>
   simp (disch:=omega) only[qm,zT,tkC,k5,k6,k7,k8,et,etk,ett,j2',Int.toNat_zero,go_sem]
   repeat' first|with_reducible apply aiA
   all_goals first
    |omega
    |rfl
  case h2=>
  by_cases g2:q=1
  case neg=>
   have k9:((q:Int)=1)=False:=wm;rw[dqf g2,Bool.false_and]at hcc;rw[hcc,ine (by simp)]at hci;have hV:R=9:=by rw[hR,hE (by rw[hci];decide),hci]
   rw[hV];simp (disch:=omega) only[k9,t2,t4,gl,gg,Nat.mul_one,Nat.zero_add,go_sem]
   repeat' first|(refine qj ( .bool false) ?_;simp (disch:=omega) only[go_sem])|exact wa|with_reducible apply aiA|exact clz|fail
  have k9:((q:Int)=1)=True:=wj;rw[dqt g2,Bool.true_and]at hcc;have c4:=c4 (qn (some O1)+1) (qn (some O2)+1);obtain⟨B,hB⟩:=wg (jp (λj=>decide ((b.getD j default).col=(i:Int))&&decide ((b.getD j default).text=tt.text)) b.length)
  rw[<-hB]at hcc;simp only[<-hB]at c4;unfold jD at c4;simp (disch:=omega) only[k9,t2,t4,gl,gg,Nat.mul_one,Nat.zero_add,jD,go_sem]
  repeat' first|with_reducible apply aiA|exact clz|fail
  refine cG (λ_=>c4 _ ?ka ?kb) (λ_=>by exact flk) ?_
  case ka=>simp only[go_sem]
  case kb=>simp only[go_sem]
  cases B with
  |false=>
   rw[hcc,ine (by simp)]at hci;have hV:R=9:=by rw[hR,hE (by rw[hci];decide),hci]
   rw[hV];simp (disch:=omega) only[go_sem]
   repeat' first|exact wa|fail
  |true=>
   rw[hcc,ipo rfl]at hci;simp (disch:=omega) only[go_sem];refine hK _ _ (i+1,.mem (qn (some O1)+1) 3 [.int .i64 (i:Int)],.mem (qn (some O2)+1) 9 [.str tt.text]) ⟨hi,rfl,rfl,hS hci⟩ (by simp only;omega) (Wk.temps ?_)
   (simp only[jD,zA,qp,go_sem,qg,qc,qb,qf];try exact we)
 ·have k3:((i:Int)<x.col.length)=False:=wm;rw[z8 (λj (hj:j<x.col.length)=>j3 j om)]at hR;rw[hR];simp (disch:=omega) only[coC,qp,k3,go_sem]
  repeat' first|exact wa|fail
end RC
end
section
namespace Go.Proofs
open Go.Shelf Go.RowKit Go.Lib
set_option maxHeartbeats 2000000 in
set_option maxRecDepth 100000 in
theorem qjz(s:ByteArray)(c:UInt8)(w:World):
  Calls Tryz.prog 162 #[.string s,.string ⟨#[c]⟩] w λe w'=>e= .returned (.int .i64 (Lib.indexByte s.data.toList c))∧w'=w:=by
 have e95: ∀args w,(callFunc 210 args).run Tryz.prog w= .ok (.enter 210 args) w:=enters_of Tryz.func210 (by kernel_rfl) rfl
 go_enter Tryz.func162,Tryz.ntmps162
 go_wp2_with (go_at_fn 210;refine (qeY _ _ _).mono ?_;rintro e w' ⟨rfl,rfl⟩)
 ·have h:([c]==s.toList)=true:=by assumption
  go_ret
  refine⟨?_,rfl⟩;have e:s.data.toList= [c]:=by rw[<-Lib.toList_data];exact (beq_iff_eq.1 h).symm
  rw[e];simp[Lib.indexByte]
 ·go_ret
  exact⟨rfl,rfl⟩
set_option maxHeartbeats 1000000 in
theorem qnD(s:ByteArray)(c:UInt8)(w:World):
  Calls Tryz.prog 120 #[.string s,.string ⟨#[c]⟩] w λe w'=>e= .returned (.int .i64 (Lib.indexByte s.data.toList c))∧w'=w:=by
 have e114: ∀args w,(callFunc 162 args).run Tryz.prog w= .ok (.enter 162 args) w:=enters_of Tryz.func162 (by kernel_rfl) rfl
 go_enter Tryz.func120,Tryz.ntmps120
 go_wp2_with (go_at_fn 162;refine (qjz _ _ _).mono ?_;rintro e w' ⟨rfl,rfl⟩)
 go_ret
 exact⟨rfl,rfl⟩
end Go.Proofs
end
section
open Go Go.Proofs AF HY
namespace HY
theorem qDX(s:List UInt8)(c:UInt8)(h:wh):ACalls Tryz.prog 120 [.str s,.str [c]] h (.int .i64 (Go.Lib.indexByte s c)) h:=by
 refine⟨qjL Tryz.func120 (by kernel_rfl) (by kernel_rfl),λw σ xs H hv=> ?_⟩;obtain⟨x,y,rfl,hx,hy⟩:=hv.two;rw[jx hx,jx hy];refine (callsIn_wide.2 (qnD ⟨s.toArray⟩ c w)).mono ?_;rintro e w' ⟨rfl,rfl⟩;exact⟨_,σ,rfl,H,.imm .int,Ext.refl _ _⟩
end HY
end
section
open Go Go.Proofs AF HY LN
namespace HY
end HY
namespace RC
end RC
end
section
open Go Go.Proofs AF HY LN
namespace RC
def flG{α:Type}(p:Nat->Bool)(g:Nat->α):Nat->List α
 |0=> []
 |i+1=>flG p g i++if p i=true then [g i] else []
theorem qwx{α:Type}{p:Nat->Bool}{g:Nat->α}{i:Nat}(hp:p i=true): ∀ {n:Nat},i<n-> ∃h:(flG p g i).length<(flG p g n).length,(flG p g n)[(flG p g i).length]=g i:=by
 intro n
 induction n with
 |zero=>intro h;exact absurd h (nnz _)
 |succ n ih=>
  intro hi
  by_cases e:i=n
  ·subst e;have e1:flG p g (i+1)=flG p g i++ [g i]:=by
    show flG p g i++(if p i=true then [g i] else [])=_;rw[ipo hp]
   refine⟨by rw[e1];simp,?_⟩;simp only[e1];rw[List.getElem_append_right (nlr _)];simp
  ·obtain⟨h1,h2⟩:=ih om;have e1:flG p g (n+1)=flG p g n++(if p n=true then [g n] else []):=rfl;refine⟨by rw[e1,lap];omega,?_⟩;simp only[e1];rw[List.getElem_append_left h1];exact h2
theorem qiW{α β:Type}(p:Nat->Bool)(g:Nat->α)(k:Nat->β): ∀n,(flG p g n).length=(flG p k n).length:=by
 intro n
 induction n with
 |zero=>rfl
 |succ n ih=>
  show (flG p g n++if p n=true then [g n] else []).length=(flG p k n++if p n=true then [k n] else []).length;rw[lap,lap,ih];split<;>rfl
theorem qwy{α β:Type}{p:Nat->Bool}{g:Nat->α}{k:Nat->β}: ∀ {n i:Nat} (hi:i<(flG p g n).length),∃r,r<n∧p r=true∧(flG p g n)[i]=g r∧(flG p k n)[i]? =some (k r):=by
 intro n
 induction n with
 |zero=>intro i hi;exact absurd hi (nnz _)
 |succ n ih=>
  intro i hi;have e1:flG p g (n+1)=flG p g n++(if p n=true then [g n] else []):=rfl;have e2:flG p k (n+1)=flG p k n++(if p n=true then [k n] else []):=rfl;have el:=qiW p g k n
  by_cases hl:i<(flG p g n).length
  ·obtain⟨r,r1,r2,r3,r4⟩:=ih hl;refine⟨r,om,r2,?_,?_⟩
   ·simp only[e1];rw[List.getElem_append_left hl];exact r3
   ·rw[e2,List.getElem?_append_left om];exact r4
  ·cases hp:p n with
   |false=>
    rw[e1,hp,ine (by simp),lan]at hi;exact absurd hi hl
   |true=>
    have hi2:i=(flG p g n).length:=by
     rw[e1,hp,ipo rfl,lap,List.length_singleton]at hi;omega
    refine⟨n,om,hp,?_,?_⟩
    ·simp only[e1,hp,if_true];rw[List.getElem_append_right om];simp[hi2]
    ·rw[e2,hp,ipo rfl,List.getElem?_append_right om];simp[hi2,el]
deriving instance DecidableEq for Va
deriving instance DecidableEq for En
def tkS(s:Str):Tk:=⟨s,s,[],0,0,[]⟩
def qoC:Str:= [100,101,117,115]
def qBM:Str:= [101,115,116]
end RC
end
section
namespace AF
open Go
end AF
end
section
open Go Go.Proofs AF HY LN
namespace RC
theorem il1{f g:Nat->wi}(h:f 0=g 0):ILe (.sl 1 f) (.sl 1 g):=ILe.sl_eq λi hi=>by
 obtain rfl:i=0:=by omega
 exact h
theorem il2{f g:Nat->wi}(h0:f 0=g 0)(h1:f 1=g 1):ILe (.sl 2 f) (.sl 2 g):=ILe.sl_eq λi hi=>by
 match i,hi with
 |0,_=>exact h0
 |1,_=>exact h1
 |n+2,hi=>exact absurd hi om
theorem im2{f g:Nat->wi}(h0:U3 (f 0) (g 0))(h1:U3 (f 1) (g 1)):ILe (.sl 2 f) (.sl 2 g):=ILe.sl λi hi=>by
 match i,hi with
 |0,_=>exact h0
 |1,_=>exact h1
 |n+2,hi=>exact absurd hi om
theorem vl1{f g:Nat->wi}(h:U3 (f 0) (g 0)):VLe (.sl 1 f) (.sl 1 g):=VLe.sl λi hi=>by
 obtain rfl:i=0:=by omega
 exact h
theorem vl2{f g:Nat->wi}(h0:U3 (f 0) (g 0))(h1:U3 (f 1) (g 1)):VLe (.sl 2 f) (.sl 2 g):=VLe.sl λi hi=>by
 match i,hi with
 |0,_=>exact h0
 |1,_=>exact h1
 |n+2,hi=>exact absurd hi om
theorem ie{a b:AV}(h:a=b):ILe a b:=by rw[h];exact ILe.refl _
section
variable {q : En -> Bool} {L : List En} {J : Nat}
end
section
variable {k v w : Nat} {h l : wh} {ty : TypeId} {cs : wi}
end
def qDa(names:List Str)(gs:List Gr)(p:Un)(v:Va):Bool:=decide (qfU names gs v.sigla=0)&&jp (λj=>decide ((p.rds.getD j default).words=v.words)&&decide ((p.rds.getD j default).src=qaO names gs v.sigla)) p.rds.length
def qCF(p:Un)(w:List Str):Nat->List Int
 |0=> []
 |j+1=>if (p.rds.getD j default).words=w then (p.rds.getD j default).src else qCF p w j
def okB(names:List Str)(gs:List Gr)(w:List Str)(p:Un)(e:En):Bool:=
 if jp (λj=> !qDa names gs p (e.vars.getD j default)) e.vars.length=true then false else if e.pos=false then decide (e.sup.length=0) else
  decide (qfU names gs e.sup=0)&&decide (qaO names gs e.sup=qCF p (ql8 w e.frm.toNat e.to.toNat) p.rds.length)
def jB(L:List Wd):wi:=L.flatMap wdC
theorem qeA(e:Wd):(wdC e).length=7:=rfl
theorem qfx(L:List Wd):(jB L).length=L.length*7:=by
 unfold jB
 induction L with
 |nil=>rfl
 |cons a L ih=>rw[List.flatMap_cons,lap,ih,lco,qeA];omega
theorem qph(A B:List Wd):jB (A++B)=jB A++jB B:=by simp[jB]
theorem qpi(a:Wd):jB [a]=wdC a:=by simp[jB]
theorem qlZ(L:List Wd): ∀i,(jB L).drop (i*7)=jB (L.drop i):=by
 induction L with
 |nil=>intro i;simp[jB]
 |cons a L ih=>
  intro i;cases i with
  |zero=>simp
  |succ i=>
   have e:jB (a::L)=wdC a++jB L:=rfl;rw[List.drop_succ_cons,e,List.drop_append,qeA,show (i+1)*7-7=i*7 by omega,ih];rw[List.drop_eq_nil_of_le (by rw[qeA];omega)];rfl
theorem qfw{L:List Wd}{i:Nat}(hi:i<L.length):((jB L).drop (i*7)).take 7=wdC (L.getD i default):=by
 rw[qlZ,List.drop_eq_getElem_cons hi,gdqA,zn hi];rfl
theorem qai(L:List Wd)(n:Nat): ∀c∈jB L,qS n c=true:=by
 intro c hc;unfold jB at hc;obtain⟨x,_,hx⟩:=List.mem_flatMap.1 hc;simp only[wdC,List.mem_cons,List.not_mem_nil,or_false]at hx;rcases hx with rfl|rfl|rfl|rfl|rfl|rfl|rfl<;>rfl
section
variable {q : Wd -> Bool} {L : List Wd} {J : Nat}
end
end RC
end
section
open Go Go.Proofs AF
def zK:List Nat:= []
def qvA:C:=
 (vU [⟨some 2,none,.alloc 0 33 [i6 0],[]⟩] (vU [⟨some 3,none,.alloc 1 3 [i6 0],[]⟩,⟨none,none,.store 1,[.t 3,.c (i6 4096)]⟩] (vU [O1 8 (.mkfn (Fn.func 275) 0) 3,⟨some
 4,none,.alloc 2 32 [.nilfn],[]⟩,ST 1 4 8] ((vU [MV 9 0,O1 10 (.call 276 true) 9] (C.block 0 (C.range (.t 10) [11] (vY [⟨some 5,none,.alloc 3 303 [i6 0,.str [],i6 0,.nl,i6
 0,.bool false],[]⟩,ST 6 5 11]) (C.block 1 (vU [LD 12 4,O1 13 .callv 12,O1 14 (.un UnOp.not) 13,MV 15 14,v7 16 15 4 5,v8 17 15 16,vT 18 15 (.bin .geq) 17 (i6 16),vS 19 15 18,P1
 20 19 true (.fldA 0) 5,P1 21 19 true (.fldA 3) 20,P1 22 19 true (.load none) 21,P1 23 19 true .len 22,PC 24 19 true (.bin .gtr) 23 (i6 0),QF 25 15 false 19 24,PT 26 15 25] (vV
 26 (vX [⟨none,none,.store 1,[.t 2,.c (i6 4)]⟩]))))))).seq ((vU [MV 27 0,O1 28 (.call 276 true) 27] (C.block 2 (C.range (.t 28) [29] (vY [⟨some 6,none,.alloc 4 303 [i6 0,.str
 [],i6 0,.nl,i6 0,.bool false],[]⟩,ST 6 6 29]) (C.block 3 (vU [O1 30 (.load (some 6)) 6,O1 31 (.call 277 true) 30,MV 7 31] (vU [MV 32 7,vP 33 .neq 32 0] (vV 33 (vX [MV 34 7,ST 1
 2 34])))))))).seq ((vU [MV 35 0,O1 36 (.call 278 true) 35,O1 37 .slen 36,vP 38 .gtr 37 65536] (vV 38 (vX [⟨none,none,.store 1,[.t 2,.c (i6 4)]⟩]))).seq (vX [⟨none,none,.store
 1,[.t 2,.c (i6 0)]⟩])))))))
theorem qxq:qM Tryz.prog 240 39 5 [RV.cell 2 none] qvA:=fi Tryz.f240 [2,3,4,5,6] zK []
def qvK:C:=
 (vU [MC 1 (.bool false)] (vU [LD 2 0,vP 3 .sub 2 1,ST 1 0 3] (vX [LD 4 0,vP 5 .geq 4 0,MV 1 5])))
theorem qxB:qM Tryz.prog 275 6 0 [RV.tmp 1] qvK:=fi Tryz.f275 [] zK []
def qvL:C:=
 (vU [O1 1 (.box 0 196) 0,MC 2 .nilfn] (vX [O1 3 (.mkfn (Fn.func 302) 0) 1,MV 2 3]))
theorem qxC:qM Tryz.prog 276 4 1 [RV.tmp 2] qvL:=fi Tryz.f276 [1] zK []
def qvT:C:=
 (vU [O1 2 (.box 0 321) 0] (vU [⟨some 3,none,.alloc 1 322 [.nilfn],[]⟩] (vU [O2 4 (.mkfn (Fn.func 303) 0) 2 3,ST 1 3 4] (vY [LD 5 3,LD 6 1,ON 7 .callv [.t 5,.t 6,.c (i6 0)]]))))
theorem qxL:qM Tryz.prog 302 8 2 [] qvT:=fi Tryz.f302 [2,3] zK []
def qqW:C:=
 (vU [MC 6 (.bool false)] (vU [MC 7 (.bool false)] ((vU [MV 10 0,O1 11 .len 10,vO 12 0] (C.block 0 (vU [BI 13 .lss 12 11] ((vW 13 0).seq ((C.block 1 (vU [O2 14 (.idxA 4) 10 12,O1
 15 (.load (some 4)) 14,⟨some 9,none,.alloc 0 198 [i6 0,.str [],i6 0,.nl],[]⟩,ST 4 9 15] ((vU [LD 16 2,O1 17 (.load (some 4)) 9,MV 18 1,MV 19 7,⟨some 20,none,.build [i6 0,.str
 [],i6 0,.nl,i6 0,.bool false] [(0,4),(4,1),(5,1)],[.t 17,.t 18,.t 19]⟩,O2 21 .callv 16 20,O1 22 (.un UnOp.not) 21,MV 23 22,vS 24 23 1,vT 25 23 (.bin .leq) 24 (i6 16),vS 26 23
 25,P1 27 26 true (.load none) 3,P1 28 26 true (.fldA 3) 9,P1 29 26 true (.load none) 28,MG 30 26 true 1,PC 31 26 true (.bin .add) 30 (i6 1),PN 32 26 true .callv [.t 27,.t 29,.t
 31],P1 33 26 true (.un UnOp.not) 32,QF 34 23 false 26 33,PT 35 23 34] (vV 35 (vX [MC 6 (.bool false)]))).seq (vY [vN 36 0 9,LD 37 36,vP 38 .eql 37 1,MV 7 38])))).seq (vY [vP 39
 .add 12 1,MV 12 39])))).loop)).seq (vX [MC 6 (.bool true)]))))
theorem qpT:qM Tryz.prog 303 40 1 [RV.tmp 6] qqW:=fi Tryz.f303 [9] zK []
def qvM:C:=
 (vU [O1 1 (.box 0 303) 0,vO 2 0] (vU [vN 6 0 1,O1 7 (.load (some 4)) 6,⟨some 3,none,.alloc 1 198 [i6 0,.str [],i6 0,.nl],[]⟩,ST 4 3 7] ((vU [vN 8 0 3,LD 9 8,vP 10 .lss 9 1,MV 11
 10,v7 12 11 0 3,v8 13 11 12,vT 14 11 (.bin .gtr) 13 (i6 11),PT 15 11 14] (vV 15 (vX [vO 2 8]))).seq (vU [vN 16 0 3,LD 17 16,O1 18 (.gix 4 12 4) 17,O1 19 (.load (some 4))
 18,⟨some 4,none,.alloc 2 324 [.str [],.bool false,.bool false,.bool false],[]⟩,ST 4 4 19] (vU [vN 20 0 3,LD 21 20,vP 22 .eql 21 6,MV 5 22] ((C.block 0 (vU [vN 24 1 4,LD 25
 24,O1 26 (.un UnOp.not) 25,MV 27 26,P1 28 27 true (.fldA 1) 3,P1 29 27 true (.load none) 28,PC 30 27 true (.bin .neq) 29 (.str []),PF 31 27 30,MV 32 31,v7 33 32 2 4,v8 34 32
 33,vQ 35 32 (.un UnOp.not) 34,vS 36 32 35,P1 37 36 true (.fldA 2) 3,P1 38 36 true (.load none) 37,PC 39 36 true (.bin .neq) 38 (i6 0),QF 40 32 false 36 39,PT 41 32 40,MV 42
 41,v7 43 42 3 4,v8 44 42 43,vQ 45 42 (.un UnOp.not) 44,vS 46 42 45,P1 47 46 true (.fldA 3) 3,P1 48 46 true (.load none) 47,P1 49 46 true .len 48,PC 50 46 true (.bin .gtr) 49
 (i6 0),QF 51 42 false 46 50,PT 52 42 51,MV 23 52] (C.cond (.t 23) (vX [vO 2 8]) (vU [vN 54 0 3,LD 55 54,vP 56 .eql 55 1,MV 57 56,P1 58 57 true (.fldA 1) 3,P1 59 57 true (.load
 none) 58,PC 60 57 true (.bin .eql) 59 (.str []),PF 61 57 60,MV 62 61,v7 63 62 3 4,v8 64 62 63,vS 65 62 64,P1 66 65 true (.fldA 3) 3,P1 67 65 true (.load none) 66,P1 68 65 true
 .len 67,PC 69 65 true (.bin .eql) 68 (i6 0),QF 70 62 false 65 69,PT 71 62 70,MV 53 71] (C.cond (.t 53) (vX [vO 2 5]) (vU [vN 73 0 3,LD 74 73,vP 75 .eql 74 1,MV 76 75,P1 77 76
 true (.fldA 1) 3,P1 78 76 true (.load none) 77,P1 79 76 true (.call 181 true) 78,PC 80 76 true (.bin .neq) 79 (i6 0),PF 81 76 80,MV 72 81] (C.cond (.t 72) (vX [vO 2 11]) ((vU
 [vN 83 0 3,LD 84 83,vP 85 .eql 84 10,MV 86 85,P1 87 86 true (.fldA 1) 3,P1 88 86 true (.load none) 87,P1 89 86 true (.call 134 true) 88,P1 90 86 true (.un UnOp.not) 89,PF 91 86
 90,MV 82 91] (C.cond (.t 82) C.skip (vY [vN 92 1 4,LD 93 92,MV 94 93,P1 95 94 true (.fldA 0) 3,P1 96 94 true (.load none) 95,PC 97 94 true (.bin .neq) 96 (i6 1),PF 98 94 97,MV
 99 98,P1 100 99 true (.fldA 0) 3,P1 101 99 true (.load none) 100,PC 102 99 true (.bin .neq) 101 (i6 10),PF 103 99 102,MV 104 103,P1 105 104 true (.fldA 1) 3,P1 106 104 true
 (.load none) 105,P1 107 104 true (.call 169 true) 106,P1 108 104 true (.un UnOp.not) 107,PF 109 104 108,MV 82 109]))).seq (C.cond (.t 82) (vX [vO 2 14]) ((vU [vN 111 2 4,LD 112
 111,MV 113 112,P1 114 113 true (.fldA 2) 3,P1 115 113 true (.load none) 114,PC 116 113 true (.bin .lss) 115 (i6 1),PF 117 113 116,MV 110 117] (C.cond (.t 110) C.skip (vU [MV
 118 5,MV 119 118,P1 120 119 true (.fldA 2) 3,P1 121 119 true (.load none) 120,PC 122 119 true (.bin .gtr) 121 (i6 64),PF 123 119 122,MV 110 123] (C.cond (.t 110) C.skip (vY [vN
 124 2 4,LD 125 124,MV 126 125,MG 127 126 true 5,P1 128 126 true (.un UnOp.not) 127,PF 129 126 128,MV 130 129,P1 131 130 true (.fldA 2) 3,P1 132 130 true (.load none) 131,PC 133
 130 true (.bin .gtr) 132 (i6 8),PF 134 130 133,MV 110 134]))))).seq (C.cond (.t 110) (vX [vO 2 2]) (vU [vN 136 0 3,LD 137 136,vP 138 .eql 137 1,MV 139 138,P1 140 139 true
 (.fldA 5) 1,P1 141 139 true (.load none) 140,PF 142 139 141,MV 135 142] (C.cond (.t 135) (vX [vO 2 10]) (vU [vN 144 0 3,LD 145 144,vP 146 .eql 145 4,MV 147 146,P1 148 147 true
 (.fldA 4) 1,P1 149 147 true (.load none) 148,PC 150 147 true (.bin .gtr) 149 (i6 0),PF 151 147 150,MV 143 151] (vV 143 (vX [vO 2 12])))))))))))))))).seq (vX [vO 2 0])))))))
theorem qxD:qM Tryz.prog 277 152 3 [RV.tmp 2] qvM:=fi Tryz.f277 [1,3,4] zK []
def qvC:C:=
 (vU [O1 3 (.box 0 3) 1,vO 4 0,vO 5 0] ((vU [MV 8 0,O1 9 (.call 240 true) 8,vP 10 .neq 9 0] (vV 10 (vX [vO 4 0,vO 5 1]))).seq ((vU [LD 11 3,vP 12 .lss 11 1,MV 13 12,v8 14 13 3,vT
 15 13 (.bin .gtr) 14 (i6 11),PT 16 13 15] (vV 16 (vX [vO 4 0,vO 5 8]))).seq (vU [⟨some 6,none,.alloc 1 3 [i6 0],[]⟩,⟨none,none,.store 1,[.t 6,.c (i6 0)]⟩] ((vU [MV 17 0,O1 18
 (.call 276 true) 17] (C.block 0 (C.range (.t 18) [19] (vY [⟨some 7,none,.alloc 2 303 [i6 0,.str [],i6 0,.nl,i6 0,.bool false],[]⟩,ST 6 7 19]) (C.block 1 (vU [vN 20 0 7,vN 21 0
 20,LD 22 21,LD 23 3,BI 24 .eql 22 23] (vV 24 (vY [LD 25 6,vP 26 .add 25 1,ST 1 6 26]))))))).seq (vX [LD 27 6,MV 4 27,vO 5 0]))))))
theorem qxs:qM Tryz.prog 242 28 3 [RV.tmp 4,RV.tmp 5] qvC:=fi Tryz.f242 [3,6,7] zK []
def qvB:C:=
 (vU [vO 2 0] ((vU [MV 6 0,O1 7 .len 6,vP 8 .gtr 7 64] (vV 8 (vX [vO 2 4]))).seq ((vU [MV 9 0,O1 10 .len 9,vO 11 0] (C.block 0 (vU [BI 12 .lss 11 10] ((vW 12 0).seq ((C.block 1
 (vU [O2 13 (.idxA 2) 9 11,O1 14 (.load (some 2)) 13,⟨some 4,none,.alloc 0 277 [.str [],.str []],[]⟩,ST 2 4 14] (vU [O1 15 (.load (some 2)) 4,O1 16 (.call 279 true) 15,MV 5 16]
 (vU [MV 17 5,vP 18 .neq 17 0] (vV 18 (vX [MV 19 5,MV 2 19])))))).seq (vY [vP 20 .add 11 1,MV 11 20])))).loop)).seq (vX [vO 2 0]))))
theorem qxr:qM Tryz.prog 241 21 1 [RV.tmp 2] qvB:=fi Tryz.f241 [4] zK []
def qvS:C:=
 (vU [MC 4 (.str []),vO 5 0] (vU [MV 9 0,MV 10 1,O2 11 (.call 308 true) 9 10,MV 8 11,O1 12 (.ext 0) 8,O1 13 (.ext 1) 8,MV 6 12,MV 7 13] ((vU [MV 14 7,vP 15 .neq 14 0] (vV 15 (vX
 [MV 16 7,MC 4 (.str []),MV 5 16]))).seq (vX [MV 17 6,MV 18 6,O1 19 .len 18,vP 20 .sub 19 1,O2 21 (.idxA 1) 17 20,LD 22 21,MV 4 22,vO 5 0]))))
theorem qxJ:qM Tryz.prog 286 23 0 [RV.tmp 4,RV.tmp 5] qvS:=fi Tryz.f286 [] zK []
def qvX:C:=
 (vU [ON 4 (.nilo 0 1 9) [],vO 5 0] ((vU [MV 7 0,MV 8 1,O2 9 (.call 318 true) 7 8,MV 6 9] (vU [MV 10 6,vP 11 .neq 10 0] (vV 11 (vX [MV 12 6,ON 4 (.nilo 0 1 9) [],MV 5 12])))).seq
 (vX [MV 13 0,MV 14 1,O2 15 (.call 319 true) 13 14,O1 16 (.ext 0) 15,O1 17 (.ext 1) 15,MV 4 16,MV 5 17])))
theorem qxP:qM Tryz.prog 308 18 1 [RV.tmp 4,RV.tmp 5] qvX:=fi Tryz.f308 [4] zK []
def qvZ:C:=
 (vU [ON 4 (.nilo 0 1 9) [],vO 5 0] (vU [MV 9 1,⟨some 10,none,.bslc 1 1 1 9 [.str []] [(0,1)],[.t 9]⟩,MV 6 10] (C.block 0 (C.block 1 (vU [MV 12 0,MV 13 6,MV 14 6,O1 15 .len 14,vP
 16 .sub 15 1,O2 17 (.idxA 1) 13 16,LD 18 17,O2 19 (.call 325 true) 12 18,MV 11 19,O1 20 (.ext 0) 11,O1 21 (.ext 1) 11,MV 7 20,MV 8 21] ((vU [MV 22 8,O1 23 (.un UnOp.not) 22]
 (vV 23 (vX [MV 24 6,MV 4 24,vO 5 0]))).seq ((vU [MV 25 6,O1 26 .len 25,vP 27 .eql 26 4096] (vV 27 (vX [ON 4 (.nilo 0 1 9) [],vO 5 4]))).seq (vY [MV 28 6,MV 29 7,⟨some
 30,none,.bslc 2 1 1 9 [.str []] [(0,1)],[.t 29]⟩,O2 31 (.app 3 1 9 16) 28 30,MV 6 31]))))).loop)))
theorem qxR:qM Tryz.prog 319 32 4 [RV.tmp 4,RV.tmp 5] qvZ:=fi Tryz.f319 [4,10,30,31] zK []
def qvY:C:=
 (vU [vO 4 0] ((C.block 0 (vU [MV 6 0,O1 7 (.call 241 true) 6,vP 8 .neq 7 0,MV 5 8] (C.cond (.t 5) (vX [vO 4 1]) (vU [MV 10 1,O1 11 .slen 10,vP 12 .gtr 11 64,MV 9 12] (C.cond (.t
 9) (vX [vO 4 4]) (vU [MV 14 1,O1 15 (.call 306 true) 14,O1 16 (.un UnOp.not) 15,MV 13 16] (vV 13 (vX [vO 4 11])))))))).seq (vX [vO 4 0])))
theorem qxQ:qM Tryz.prog 318 17 0 [RV.tmp 4] qvY:=fi Tryz.f318 [] zK []
def qvV:C:=
 (vU [MC 2 (.bool false)] ((vU [MV 4 0,O1 5 .slen 4,vO 6 0] (C.block 0 (vU [BI 7 .lss 6 5] ((vW 7 0).seq ((C.block 1 (vU [MV 8 6,MV 3 8] (vU [MV 9 0,MV 10 3,O2 11 .sidx 9 10,O1
 12 (.call 185 true) 11] (C.block 2 ((vU [vP 14 .eql 12 1,MV 13 14] (C.cond (.t 13) C.skip (vU [vP 15 .eql 12 2,MV 13 15] (C.cond (.t 13) C.skip (vU [vP 16 .eql 12 3,MV 13 16]
 (C.cond (.t 13) C.skip (vY [vP 17 .eql 12 4,MV 13 17]))))))).seq (C.cond (.t 13) C.skip (vX [MC 2 (.bool false)]))))))).seq (vY [vP 18 .add 6 1,MV 6 18])))).loop)).seq (vX [MC
 2 (.bool true)])))
theorem qxN:qM Tryz.prog 306 19 0 [RV.tmp 2] qvV:=fi Tryz.f306 [] zK []
def qv0:C:=
 (vU [⟨some 4,none,.alloc 0 9 [.str []],[]⟩,⟨some 5,none,.alloc 1 4 [.bool false],[]⟩] ((vU [MV 7 0,MV 8 1,O2 9 (.call 328 true) 7 8] (C.block 0 (C.range (.t 9) [10] (vY [MV 6
 10]) (C.block 1 (vX [MV 11 6,ST 1 4 11,⟨none,none,.store 1,[.t 5,.c (.bool true)]⟩]))))).seq (vX [MV 12 1,ST 1 4 12,⟨none,none,.store 1,[.t 5,.c (.bool false)]⟩])))
theorem qxT:qM Tryz.prog 325 13 2 [RV.cell 4 none,RV.cell 5 none] qv0:=fi Tryz.f325 [4,5] zK []
def qv1:C:=
 (vU [O1 2 (.box 0 229) 0,O1 3 (.box 1 9) 1,MC 4 .nilfn] (vX [O2 5 (.mkfn (Fn.func 329) 0) 3 2,MV 4 5]))
theorem qxU:qM Tryz.prog 328 6 2 [RV.tmp 4] qv1:=fi Tryz.f328 [2,3] zK []
def qv2:C:=
 (vU [LD 9 1,O1 10 .slen 9,vO 11 0] (C.block 0 (vU [BI 12 .lss 11 10] ((vW 12 0).seq ((C.block 1 (vU [MV 13 11,MV 4 13] (vU [LD 14 2,O1 15 .len 14,vO 16 0] (C.block 2 (vU [BI 17
 .lss 16 15] ((vW 17 2).seq ((C.block 3 (vU [O2 18 (.idxA 2) 14 16,O1 19 (.load (some 2)) 18,⟨some 6,none,.alloc 0 277 [.str [],.str []],[]⟩,ST 2 6 19] (vU [LD 21 1,MV 22 4,O2
 23 (.sslc true false) 21 22,vN 24 0 6,LD 25 24,O2 26 (.call 62 true) 23 25,MV 20 26,O1 27 (.ext 0) 20,O1 28 (.ext 1) 20,MV 7 27,MV 8 28] (vU [MV 29 8,MV 30 29,MG 31 30 true
 0,P1 32 30 true (.load none) 1,MG 33 30 true 4,P2 34 30 true (.sslc false true) 32 33,P1 35 30 true (.fldA 1) 6,P1 36 30 true (.load none) 35,P2 37 30 true (.bin .add) 34 36,MG
 38 30 true 7,P2 39 30 true (.bin .add) 37 38,P2 40 30 true .callv 31 39,P1 41 30 true (.un UnOp.not) 40,PF 42 30 41] (vV 42 C.ret))))).seq (vY [vP 43 .add 16 1,MV 16
 43])))).loop)))).seq (vY [vP 44 .add 11 1,MV 11 44])))).loop))
theorem qxV:qM Tryz.prog 329 45 1 [] qv2:=fi Tryz.f329 [6] zK []
def qvD:C:=
 (vU [O1 2 (.box 0 88) 0,O1 3 (.box 1 196) 1,MC 4 .nilfn] (vX [O2 5 (.mkfn (Fn.func 280) 0) 2 3,MV 4 5]))
theorem qxt:qM Tryz.prog 243 6 2 [RV.tmp 4] qvD:=fi Tryz.f243 [2,3] zK []
def qvO:C:=
 (vU [O1 3 (.box 0 306) 0] (vU [O1 6 (.load (some 2)) 1,⟨some 7,none,.build [i6 0,.int .u8 0,i6 0,.str [],i6 0,.bool false,.str []] [(3,2)],[.t 6]⟩,⟨some 4,none,.alloc 1 269 [i6
 0,.int .u8 0,i6 0,.str [],i6 0,.bool false,.str []],[]⟩,ST 7 4 7] (vU [⟨some 5,none,.alloc 2 307 [.nilfn],[]⟩] (vU [ON 8 (.mkfn (Fn.func 281) 0) [.t 4,.t 3,.t 5],ST 1 5 8] (vY
 [LD 9 5,LD 10 2,O2 11 .callv 9 10])))))
theorem qxF:qM Tryz.prog 280 12 3 [] qvO:=fi Tryz.f280 [3,4,5] zK []
@[go_sem]def vg:DT:= DT.one ⟨some 22,none,.fldA 2,[.t 1]⟩ (DT.one ⟨none,none,.store 1,[.t 22,.t 20]⟩ DT.nil)
@[go_sem]def vh:DT:= DT.one ⟨some 49,none,.fldA 6,[.t 1]⟩ (DT.one ⟨none,none,.store 1,[.t 49,.t 47]⟩ DT.nil)
def qvP:C:=
 (vU [MC 5 (.bool false)] ((vU [MV 11 0,O1 12 .len 11,vO 13 0] (C.block 0 (vU [BI 14 .lss 13 12] ((vW 14 0).seq ((C.block 1 (vU [O2 15 (.idxA 4) 11 13,O1 16 (.load (some 4))
 15,⟨some 7,none,.alloc 0 198 [i6 0,.str [],i6 0,.nl],[]⟩,ST 4 7 16] ((C.draw (DT.one ⟨some 17,none,.fldA 0,[.t 7]⟩ (DT.one ⟨some 18,none,.load none,[.t 17]⟩ (DT.one ⟨some
 21,none,.fldA 0,[.t 1]⟩ ((DT.one ⟨some 19,none,.fldA 2,[.t 7]⟩ ((DT.one ⟨some 20,none,.load none,[.t 19]⟩ (DT.one ⟨none,none,.store 1,[.t 21,.t 18]⟩ vg)).two (DT.one
 ⟨none,none,.store 1,[.t 21,.t 18]⟩ (DT.one ⟨some 20,none,.load none,[.t 19]⟩ vg)))).two (DT.one ⟨none,none,.store 1,[.t 21,.t 18]⟩ (DT.one ⟨some 19,none,.fldA 2,[.t 7]⟩ (DT.one
 ⟨some 20,none,.load none,[.t 19]⟩ vg)))))))).seq (vU [vN 23 0 7,LD 24 23] (C.block 2 (vU [vP 53 .eql 24 2,MV 52 53] (C.cond (.t 52) (vY [vN 54 3 1,vN 55 1 54,LD 56 55,vP 57
 .add 56 1,vN 58 3 1,vN 59 1 58,ST 1 59 57]) (vU [vP 61 .eql 24 3,MV 60 61] (C.cond (.t 60) (vY [vN 62 1 7,LD 63 62,⟨some 64,none,.build [.str [],i6 0] [(0,1)],[.t 63]⟩,vN 65 3
 1,ST 2 65 64]) (vU [vP 67 .eql 24 1,MV 66 67] (C.cond (.t 66) (vU [vN 68 1 7,LD 69 68,O1 70 .slen 69,vO 71 0] (C.block 3 (vU [BI 72 .lss 71 70] ((vW 72 3).seq ((C.block 4 (vU
 [MV 73 71,MV 8 73] (vU [vN 74 1 7,LD 75 74,MV 76 8,O2 77 .sidx 75 76,vN 78 1 1,ST 1 78 77] (vU [LD 79 2,O1 80 (.load (some 7)) 1,O2 81 .callv 79 80,O1 82 (.un UnOp.not) 81] (vV
 82 (vX [MC 5 (.bool false)])))))).seq (vY [vP 83 .add 71 1,MV 71 83])))).loop)) ((vU [vP 85 .eql 24 6,MV 84 85] (C.cond (.t 84) C.skip (vU [vP 86 .eql 24 5,MV 84 86] (C.cond
 (.t 84) C.skip (vY [vP 87 .eql 24 4,MV 84 87]))))).seq (C.cond (.t 84) (vU [LD 88 2,O1 89 (.load (some 7)) 1,O2 90 .callv 88 89,O1 91 (.un UnOp.not) 90] (vV 91 (vX [MC 5 (.bool
 false)]))) (vU [O1 25 (.load (some 7)) 1,⟨some 9,none,.alloc 1 269 [i6 0,.int .u8 0,i6 0,.str [],i6 0,.bool false,.str []],[]⟩,ST 7 9 25] (vU [vN 26 5 1,LD 27 26,MV 28 27,v7 29
 28 0 7,v8 30 28 29,vT 31 28 (.bin .eql) 30 (i6 7),PT 32 28 31,vN 33 5 1,ST 1 33 32] ((vU [vN 34 0 7,LD 35 34,vP 36 .eql 35 11] (vV 36 (vY [vN 37 1 7,LD 38 37,vN 39 6 1,ST 1 39
 38]))).seq (vU [LD 40 3,vN 41 3 7,LD 42 41,O2 43 .callv 40 42,MV 10 43] ((C.draw (DT.one ⟨some 44,none,.fldA 5,[.t 9]⟩ (DT.one ⟨some 45,none,.load none,[.t 44]⟩ (DT.one ⟨some
 48,none,.fldA 5,[.t 1]⟩ ((DT.one ⟨some 46,none,.fldA 6,[.t 9]⟩ ((DT.one ⟨some 47,none,.load none,[.t 46]⟩ (DT.one ⟨none,none,.store 1,[.t 48,.t 45]⟩ vh)).two (DT.one
 ⟨none,none,.store 1,[.t 48,.t 45]⟩ (DT.one ⟨some 47,none,.load none,[.t 46]⟩ vh)))).two (DT.one ⟨none,none,.store 1,[.t 48,.t 45]⟩ (DT.one ⟨some 46,none,.fldA 6,[.t 9]⟩ (DT.one
 ⟨some 47,none,.load none,[.t 46]⟩ vh)))))))).seq (vU [MV 50 10,O1 51 (.un UnOp.not) 50] (vV 51 (vX [MC 5 (.bool false)]))))))))))))))))))))).seq (vY [vP 92 .add 13 1,MV 13
 92])))).loop)).seq (vX [MC 5 (.bool true)])))
theorem qxG:qM Tryz.prog 281 93 2 [RV.tmp 5] qvP:=fi Tryz.f281 [7,9] zK []
def qvQ:C:=
 (vU [MC 2 .nilp] (vX [MV 3 0,O1 4 .nilchk 3,vN 5 0 4,LD 6 5,MV 7 0,O1 8 .nilchk 7,vN 9 0 8,LD 10 9,O1 11 .len 10,vP 12 .sub 11 1,O2 13 (.idxA 6) 6 12,MV 2 13]))
theorem qxH:qM Tryz.prog 284 14 0 [RV.tmp 2] qvQ:=fi Tryz.f284 [] zK []
def qqS:C:=
 (vU [O1 1 (.box 0 92) 0,MC 2 (.bool false)] (vX [vN 3 0 1,LD 4 3,O1 5 .slen 4,vP 6 .gtr 5 64,MV 2 6]))
theorem qpP:qM Tryz.prog 246 7 1 [RV.tmp 2] qqS:=fi Tryz.f246 [1] zK []
def qCn:C:=
 (vU [ON 2 (.nilo 0 1 9) []] (vU [ON 3 (.nilo 1 1 9) []] ((vU [MV 6 0,O1 7 .len 6,vO 8 0] (C.block 0 (vU [BI 9 .lss 8 7] ((vW 9 0).seq ((C.block 1 (vU [O2 10 (.idxA 6) 6 8,O1 11
 (.load (some 6)) 10,⟨some 5,none,.alloc 2 92 [.str [],.str [],.str [],i6 0,i6 0,.str []],[]⟩,ST 6 5 11] (vY [MV 12 3,vN 13 0 5,LD 14 13,⟨some 15,none,.bslc 3 1 1 9 [.str []]
 [(0,1)],[.t 14]⟩,O2 16 (.app 4 1 9 16) 12 15,MV 3 16]))).seq (vY [vP 17 .add 8 1,MV 8 17])))).loop)).seq (vX [MV 18 3,MV 2 18]))))
theorem qBh:qM Tryz.prog 91 19 5 [RV.tmp 2] qCn:=fi Tryz.f91 [2,3,5,15,16] zK []
end
section
open Go Go.Proofs AF HY LN
namespace RC
abbrev frmN:Nat:=4
def frmC:wi:= [.str [],.bool false,.bool false,.bool false,.str [],.bool true,.bool false,.bool false,.str [108,98],.bool false,.bool false,.bool false,.str [112,98],.bool true,.bool false,.bool false,
 .str [115,101,99],.bool true,.bool false,.bool false,.str [118],.bool false,.bool false,.bool false,.str [103,97,112],.bool false,.bool true,.bool false,.str [117,110,99,108,101,97,114],.bool false,.bool false,.bool true,
 .str [97,100,100],.bool false,.bool true,.bool true,.str [100,101,108],.bool false,.bool true,.bool true,.str [97,98],.bool true,.bool false,.bool true,.str [110,97,109,101],.bool true,.bool false,.bool true]
def qx9:wi:= [.str [],.bool true,.bool false,.bool false]
theorem qpW:(frmC.drop ((1:Int).toNat*4)).take 4=qx9:=rfl
def PF(h:wh):Prop:=kY SG h∧jh h frmN frmC
theorem PF.app{h:wh}(hp:PF h)(l:wh):PF (h++l):=⟨hp.1.app l,hp.2.app⟩
def ndC(s:Str):wi:= [.int .i64 1,.str s,.int .i64 0,.nl]
def jZ(s:Str):AV:= .sl 1 λ_=>ndC s
def plC(s:Str):wi:= [.int .i64 1,.str s,.int .i64 0,.nl,.int .i64 0,.bool false]
theorem qDC(s:Str)(h:wh)(hs:s≠ [])(hl:s.length<=1000000)(hc:zM s=0)(hg:jh h frmN frmC):ACalls Tryz.prog 277 [.agg (plC s)] h (.int .i64 0) h:=by
 have c1:=λh=>qBO s h om
 rw[hc]at c1;have k1:(s= [])=False:=eqf hs;refine acO qxD ?_;simp (disch:=omega) only[qvM,plC,go_sem]
 repeat' first|(apply qa;exact rvk;simp only[go_sem];apply qh)|(with_reducible first|intro _|apply aiA)|exact clz|fail
 refine qp0 (cs:=frmC) hg.app ⟨by decide,by decide⟩ rfl ?_;rw[qpW];simp (disch:=omega) only[qx9,k1,go_sem]
 repeat' first|(refine qj ( .bool false) ?_;simp (disch:=omega) only[go_sem])|(refine cG (λe=>c1 _) flk ?_;simp (disch:=omega) only[go_sem])|(apply qa;exact rvk;simp only[go_sem];first|exact qi|apply qh)|(with_reducible first|intro _|apply aiA)|exact clz|fail
end RC
end
section
open Go Go.Proofs AF HY LN
namespace AF
mutual
theorem kq{n m:Nat}(h:n<=m): ∀c,qS n c=true->qS m c=true
 | .osl k v z o l,hc=>by simp only[qS,decide_eq_true_eq]at*;omega
 | .op k v o,hc=>by simp only[qS,decide_eq_true_eq]at*;omega
 | .mp k v,hc=>by simp only[qS,decide_eq_true_eq]at*;omega
 | .yld k,hc=>by simp only[qS,decide_eq_true_eq]at*;omega
 | .agg cs,hc=>by simp only[qS]at*;exact yl h cs hc
 | .tup cs,hc=>by simp only[qS]at*;exact yl h cs hc
 | .fn f a b,hc=>by simp only[qS,Bool.and_eq_true]at*;exact⟨yl h a hc.1,yl h b hc.2⟩
 | .gd g v,hc=>by
  cases g with
  |false=>rfl
  |true=>simp only[qS,Bool.not_true,Bool.false_or]at*;exact kq h v hc
 | .undef,_=>rfl
 | .bool _,_=>rfl
 | .int _ _,_=>rfl
 | .str _,_=>rfl
 | .sl _ _,_=>rfl
 | .ip _,_=>rfl
 | .nilp,_=>rfl
 | .nl,_=>rfl
 | .el,_=>rfl
 | .nilfn,_=>rfl
 | .ifc,_=>rfl
 | .nilif,_=>rfl
 | .anyb,_=>rfl
theorem yl{n m:Nat}(h:n<=m): ∀cs,qS.lowVs n cs=true->qS.lowVs m cs=true
 | [],_=>rfl
 |c::r,hc=>by simp only[qS.lowVs,Bool.and_eq_true]at*;exact⟨kq h c hc.1,yl h r hc.2⟩
end
theorem lowO_mono{n m:Nat}(h:n<=m){o:AObj}(ho:lowO n o):lowO m o:=by
 cases o with
 |mem v ty cs=>exact λc hc=>kq h c (ho c hc)
 |emp v=>trivial
 |lp s ts L=>exact λc hc=>kq h c (ho c hc)
 |map v es=>exact λp hp=>kq h p.2 (ho p hp)
 |pin bs G=>trivial
theorem LowI.retX{h hh xs:wh}{ts:wi}{L:LInfo}(s:LS)(hl:LowI h hh)(hts: ∀c∈ts,qS (h.length+1) c=true):
  (hh++ .lp s ts L::xs).length=(h++ .lp .ready ts L::xs).length∧ ∀o∈hh++ .lp s ts L::xs,o∈h++ .lp .ready ts L::xs∨lowO (h++ .lp .ready ts L::xs).length o:=by
 refine⟨by simp[hl.1],λo ho=> ?_⟩;rcases List.mem_append.1 ho with ho|ho
 ·rcases hl.2 o ho with h1|⟨h1,_⟩
  ·exact .inl (List.mem_append_left _ h1)
  ·exact .inr (lowO_mono (by simp) h1)
 ·rcases List.mem_cons.1 ho with rfl|ho
  ·exact .inr (λc hc=>kq (by simp) c (hts c hc))
  ·exact .inl (List.mem_append_right _ (List.mem_cons_of_mem _ ho))
end AF
namespace RC
theorem qD2(d:Int)(a b:AV)(h:wh):ACalls Tryz.prog 303 [.nl,.int .i64 d,a,b] h (.bool true) h:=by
 refine acO qpT ?_;simp (disch:=omega) only[qqW,go_sem];refine qu (T:=λ_:Unit=>zf 40 [(1,.int .i64 d),(2,a),(3,b),(7,.bool false),(10,.nl),(11,.int .i64 0),(12,.int .i64 0)]) (H:=λ_=>h++ [.emp 0]) (inv:=λ_=>True) (m:=λ_=>0) () trivial (Wk.temps ?_) ?_
 ·(simp only[go_sem,qg,qc,qb,qf];try exact we)
 rintro⟨⟩ _ K hK;simp (disch:=omega) only[go_sem]
 repeat' first|exact wa|(with_reducible first|intro _|apply aiA)|exact clz|fail
def cyl(n:Nat):AObj:= .mem 1 321 [.yld n]
def cwk(n:Nat):AObj:= .mem 1 322 [.fn (.func 303) [] [.op (n+1) 1 0,.op (n+2) 1 0]]
section
variable {n : Nat} {hh m : wh} {st : LS} {ts : wi} {LI : LInfo}
theorem qyL(hl:hh.length=n):cellsOf (hh++ .lp st ts LI::cyl n::cwk n::m) (n+1) 1=some [.yld n]:=qG (show qr _ _=some (cyl n) by subst hl;unfold qr;simp)
theorem qyM(hl:hh.length=n):cellsOf (hh++ .lp st ts LI::cyl n::cwk n::m) (n+2) 1=some [.fn (.func 303) [] [.op (n+1) 1 0,.op (n+2) 1 0]]:=qG (show qr _ _=some (cwk n) by subst hl;unfold qr;simp)
end
theorem wlk1(s:Str)(h:wh)(ts:wi)(LI:LInfo)(S:Nat->wh->Prop)(E:LS->wh->Prop)(hS: ∀i hh,S i hh->LowI h hh)(hE: ∀s hh,E s hh->LowI h hh)
  (body: ∀i hh tl,(hi:i< [[AV.agg (plC s)]].length)->S i hh->jP Tryz.prog h.length ([[AV.agg (plC s)]][i]) (hh++ .lp .ready ts LI::tl) (λr h'=> ∃hh',(r= .bool true∧S (i+1) hh'∧h'=hh'++ .lp .ready ts LI::tl)∨(∃s,r= .bool false∧E s hh'∧h'=hh'++ .lp s ts LI::tl)))
  (start:S 0 h) (hts: ∀c∈ts,qS (h.length+1) c=true):
  je Tryz.prog 303 [jZ s,.int .i64 0,.op (h.length+1) 1 0,.op (h.length+2) 1 0] (h++ [.lp .ready ts LI,cyl h.length,cwk h.length])
   (λr h'=> ∃hh',(r= .bool true∧S 1 hh'∧h'=hh'++ [.lp .ready ts LI,cyl h.length,cwk h.length])∨(∃st,r= .bool false∧E st hh'∧h'=hh'++ [.lp st ts LI,cyl h.length,cwk h.length])):=by
 refine acQ qpT ?_;simp (disch:=omega) only[qqW,jZ,ndC,go_sem];refine qu (T:=λi:Nat×wh×AObj=>zf 40 [(1,.int .i64 0),(2,.op (h.length+1) 1 0),(3,.op (h.length+2) 1 0),(7,.bool (decide (i.1=1))),(10,jZ s),(11,.int .i64 ((1:Nat):Int)),(12,.int .i64 i.1)])
  (H:=λi=>i.2.1++ [.lp .ready ts LI,cyl h.length,cwk h.length]++ [i.2.2])
  (inv:=λi=>i.1<=1∧S i.1 i.2.1∧qJ [i.2.2] 0=true) (m:=λi=>1-i.1) (0,h,.emp 0) ⟨nzl _,start,rfl⟩ (Wk.temps ?_) ?_
 ·(simp only[jZ,ndC,go_sem,qg,qc,qb,qf];try exact we)
 rintro⟨i,hh,O⟩ ⟨i1,i2,i3⟩ K hK;simp only at i1 i2 i3 hK;obtain⟨hlen,hlow⟩:=hS _ _ i2;have hb:(h++ [AObj.lp LS.ready ts LI,cyl h.length,cwk h.length]).length=(hh++ [AObj.lp LS.ready ts LI,cyl h.length,cwk h.length]).length:=by simp[hlen]
 rw[hb];have i3': ∀m,qJ (O::m) 0=true:=λ_=>i3
 have ea: ∀(g:wh) m,g++ [AObj.lp LS.ready ts LI,cyl h.length,cwk h.length]++m=g++ .lp .ready ts LI::cyl h.length::cwk h.length::m:=λg m=>by simp
 have d1: ∀m,cellsOf (hh++ [AObj.lp LS.ready ts LI,cyl h.length,cwk h.length]++m) (h.length+1) 1=some [.yld h.length]:=λm=>by rw[ea];exact qyL hlen
 have d2: ∀m,cellsOf (hh++ [AObj.lp LS.ready ts LI,cyl h.length,cwk h.length]++m) (h.length+2) 1=some [.fn (.func 303) [] [.op (h.length+1) 1 0,.op (h.length+2) 1 0]]:=λm=>by rw[ea];exact qyM hlen
 by_cases hi:i<1
 ·obtain rfl:i=0:=by omega
  have hb':=λO'=>body 0 hh [cyl h.length,cwk h.length,O'] (by simp) i2
  simp (disch:=omega) only[jZ,ndC,i3',d1,go_sem]
  repeat' first|(with_reducible first|intro _|apply aiA)|exact clz|fail
  ·exact⟨.ready,ts,LI,by rw[ea];exact kp hlen⟩
  ·rw[ea];refine jP.mono ?_ (hb' _);rintro v h' ⟨hh',⟨rfl,hn,rfl⟩|⟨st,rfl,hs',rfl⟩⟩
   ·have hl':=(hS _ _ hn).1;have hq:(hh++ [AObj.lp LS.ready ts LI,cyl h.length,cwk h.length]).length=(hh'++ [AObj.lp LS.ready ts LI,cyl h.length,cwk h.length]).length:=by simp[hlen,hl']
    rw[<-ea,hq];have e1: ∀m,cellsOf (hh'++ [AObj.lp LS.ready ts LI,cyl h.length,cwk h.length]++m) (h.length+1) 1=some [.yld h.length]:=λm=>by rw[ea];exact qyL hl'
    have e2: ∀m,cellsOf (hh'++ [AObj.lp LS.ready ts LI,cyl h.length,cwk h.length]++m) (h.length+2) 1=some [.fn (.func 303) [] [.op (h.length+1) 1 0,.op (h.length+2) 1 0]]:=λm=>by rw[ea];exact qyM hl'
    simp (disch:=omega) only[e2,go_sem]
    repeat' first|(refine qE (qD2 _ _ _ _) ?_;simp (disch:=omega) only[go_sem])|(with_reducible first|intro _|apply aiA)|exact clz|fail
    refine hK _ _ (1,hh',.mem (qn (some O)+1) 198 (ndC s)) ⟨nlr _,hn,rfl⟩ (by simp only;omega) (Wk.temps ?_)
    (simp only[jZ,ndC,go_sem,qg,qc,qb,qf];try exact we)
   ·simp (disch:=omega) only[go_sem]
    repeat' first|(with_reducible first|intro _|apply aiA)|exact clz|fail
    obtain⟨r1,r2⟩:=(hE _ _ hs').retX (L:=LI) (xs:= [cyl h.length,cwk h.length]) st hts;have eO: ∀O',hh'++ .lp st ts LI::cyl h.length::cwk h.length:: [O']=(hh'++ [.lp st ts LI,cyl h.length,cwk h.length])++ [O']:=λ_=>by simp
    rw[eO];exact jX ⟨trivial,trivial⟩ r1 r2 ⟨hh',.inr ⟨st,rfl,hs',rfl⟩⟩ (qi)
 ·obtain rfl:i=1:=by omega
  simp (disch:=omega) only[jZ,ndC,go_sem]
  repeat' first|(with_reducible first|intro _|apply aiA)|exact clz|fail
  obtain⟨r1,r2⟩:=(hS _ _ i2).retX (L:=LI) (xs:= [cyl h.length,cwk h.length]) .ready hts;exact jX ⟨trivial,trivial⟩ r1 r2 ⟨hh,.inl ⟨rfl,i2,rfl⟩⟩ (qi)
end RC
end
section
namespace Go.Proofs
open Go.Shelf Go.RowKit
set_option maxHeartbeats 1000000 in
set_option maxRecDepth 100000 in
theorem qdL(b d:Nat)(w:World)(h0:w.cell? ⟨b,d,none⟩=some (.pointer (some ⟨b,d,none⟩))):
  Calls Tryz.prog 159 #[.pointer (some ⟨b,d,none⟩)] w λe w'=>e= .returned (.tuple #[])∧w'=w:=by
 obtain⟨j,hj,_⟩:=Option.map_eq_some_iff.1 (show (Tryz.prog.info? 158).map (·.size)=some 2 by kernel_rfl)
 go_enter Tryz.func159,Tryz.ntmps159
 go_wp2
 rw[Lib.run_neq_ptr_same w _ Tryz.underlying155 hj]
 go_wp2
 go_end0
 exact⟨rfl,rfl⟩
set_option maxHeartbeats 1000000 in
set_option maxRecDepth 100000 in
theorem qbG(b d ty n:Nat)(w:World)(h0:w.cell? ⟨b,d,none⟩=some (.pointer none))(hn:d+2<=n)(hsh:w.shape? b=some (ty,n))(hfz:w.frozen? ⟨b,d,none⟩=false)
  (hl:liesAt Tryz.prog Tryz.prog.depth ty (n/Tryz.prog.cellsOf ty) d 158 1=true):
  Calls Tryz.prog 159 #[.pointer (some ⟨b,d,none⟩)] w λe w'=>e= .returned (.tuple #[])∧w'=w.setCell ⟨b,d,none⟩ (.pointer (some ⟨b,d,none⟩)):=by
 obtain⟨j,hj,hjs⟩:=Option.map_eq_some_iff.1 (show (Tryz.prog.info? 158).map (·.size)=some 2 by kernel_rfl)
 go_enter Tryz.func159,Tryz.ntmps159
 go_wp2
 rw[Lib.run_to_unsafe w ⟨b,d,none⟩ Tryz.underlying155 Tryz.underlying240 hj (by rw[hjs];decide) hsh (show d<n by omega)];simp only[Result.andThen];rw[Oper.upon_value]
 go_wp2
 rw[run_callFunc_extern Tryz.func208 (by kernel_rfl) (by kernel_rfl) (by kernel_rfl) (e:=Extern.AbiNoEscape.same) (by kernel_rfl)];rw[Lib.run_noEscape];simp only[Result.andThen];rw[Oper.upon_value]
 go_wp2
 rw[Lib.run_from_unsafe w ⟨b,d,none⟩ Tryz.underlying240 Tryz.underlying155 hj hsh hl];simp only[Result.andThen];rw[Oper.upon_value]
 go_wp2
 go_end0
 exact⟨rfl,rfl⟩
set_option maxHeartbeats 1000000 in
set_option maxRecDepth 100000 in
theorem qcg(b d g cap:Nat)(l:List UInt8)(cur:Array Value)(w:World)(h0:l≠ [])(c0:w.cell? ⟨b,d+1,none⟩=some (.slice (some ⟨g,0,none⟩) l.length cap))(hg:w.heap[g]? =some (.cells cur 5 (0,0)))
  (hnc:l.length<=cap) (hcm:cap<=maxLen) (hcs:cap<=cur.size) (hcell: ∀(j:Nat) x,l[j]? =some x->w.cell? ⟨g,j,none⟩=some (.int .u8 x.toNat)):
  Calls Tryz.prog 116 #[.pointer (some ⟨b,d,none⟩)] w λe w'=>e= .returned (.string ⟨l.toArray⟩)∧w'=w.drew.freeze ⟨g,0,none⟩ l.length:=by
 have hl0:l.length≠0:=by simpa using h0
 have c1:w.drew.cell? ⟨b,d+1,none⟩=some (.slice (some ⟨g,0,none⟩) l.length cap):=c0;have hSD:(Builtin.unsafeSliceData_ #[156] 202 #[.slice (some ⟨g,0,none⟩) l.length cap]).run Tryz.prog w.drew= .ok (.pointer (some ⟨g,0,none⟩)) w.drew:=
  Lib.run_unsafeSliceData_row _ _ _ _ _ _ om
 have hUS:(Builtin.unsafeString_ #[202,3] 9 #[.pointer (some ⟨g,0,none⟩),.int .i64 l.length]).run Tryz.prog w.drew= .ok (.string ⟨l.toArray⟩) (w.drew.freeze ⟨g,0,none⟩ l.length):=by
  refine Lib.run_unsafeString_row w.drew 202 3 9 5 Tryz.underlying202 (by kernel_rfl) g cur.size (by have hg':w.drew.heap[g]? =some (.cells cur 5 (0,0)):=hg;simp[World.shape?,hg']) l h0 om (by unfold maxLen at hcm;omega) ?_;intro j x hx
  have:=hcell j x hx
  cases j with
  |zero=>exact this
  |succ j=>
   have e:(⟨g,0,none⟩:Addr).add (j+1)=⟨g,j+1,none⟩:=by
    unfold Addr.add;rw[ine (Nat.succ_ne_zero j)];simp only[Nat.zero_add]
   rw[e];exact this
 have mixed:Tryz.prog.follows .mixedOrders=true:=by kernel_rfl
 go_enter Tryz.func116,Tryz.ntmps116
 go_wp2
 go_region_o
 all_goals (go_wp2;go_ret;exact⟨rfl,rfl⟩)
set_option maxHeartbeats 2000000 in
set_option maxRecDepth 100000 in
theorem qcf(b d:Nat)(w:World)(c0:w.cell? ⟨b,d+1,none⟩=some (.slice none 0 0)):
  Calls Tryz.prog 116 #[.pointer (some ⟨b,d,none⟩)] w λe w'=>e= .returned (.string ⟨#[]⟩)∧w'=w.drew:=by
 have hUS: ∀(W:World) (q:Option Addr),(Builtin.unsafeString_ #[202,3] 9 #[.pointer q,.int .i64 0]).run Tryz.prog W= .ok (.string .empty) W:=λW q=>Lib.run_unsafeString_none W _ _ _ q
 have c1:w.drew.cell? ⟨b,d+1,none⟩=some (.slice none 0 0):=c0;have hSD:(Builtin.unsafeSliceData_ #[156] 202 #[.slice none 0 0]).run Tryz.prog w.drew= .ok (.pointer none) w.drew:=rfl;have mixed:Tryz.prog.follows .mixedOrders=true:=by kernel_rfl
 go_enter Tryz.func116,Tryz.ntmps116
 go_wp2
 go_region_o
 all_goals (go_wp2;go_ret;exact⟨rfl,rfl⟩)
end Go.Proofs
end
section
open Go Go.Proofs AF
def qjo:List Nat:= [159,118,307,116,285]
def qqG:C:=
 (vU [vO 4 0,MC 5 .nilif] (vU [MV 6 0,O1 7 (.call 159 false) 6] (vU [MV 8 0,MV 9 0,O1 10 .nilchk 9,vN 11 1 10,LD 12 11,MV 13 1,O2 14 (.apps 0 5) 12 13,O1 15 .nilchk 8,vN 16 1
 15,ST 1 16 14] (vX [MV 17 1,O1 18 .slen 17,MV 4 18,MC 5 .nilif]))))
theorem qpB:qM Tryz.prog 118 19 1 [RV.tmp 4,RV.tmp 5] qqG:=fi Tryz.f118 [14] qjo []
def qvW:C:=
 (vU [MC 4 .nilif] (vU [MV 5 0,O1 6 (.call 159 false) 5] (vU [MV 7 0,MV 8 0,O1 9 .nilchk 8,vN 10 1 9,LD 11 10,MV 12 1,⟨some 13,none,.bslc 0 1 1 5 [.int .u8 0] [(0,1)],[.t 12]⟩,O2
 14 (.app 1 1 5 1) 11 13,O1 15 .nilchk 7,vN 16 1 15,ST 1 16 14] (vX [MC 4 .nilif]))))
theorem qxO:qM Tryz.prog 307 17 2 [RV.tmp 4] qvW:=fi Tryz.f307 [13,14] qjo []
end
section
open Go Go.Proofs AF HY RC LN
namespace HY
def S7(v:Nat)(s:List UInt8):AObj:=if s= [] then .emp v else .mem v 5 (zC s)
theorem SB(v:Nat):S7 v []= .emp v:=rfl
theorem kV{s:List UInt8}(h:s≠ [])(v:Nat):S7 v s= .mem v 5 (zC s):=ine h
theorem Ub(s u:List UInt8):zC (s++u)=zC s++zC u:=by simp[zC]
theorem qfF(s:List UInt8)(n:Nat): ∀c∈zC s,qS n c=true:=by
 intro c hc;unfold zC at hc;rw[List.mem_map]at hc;obtain⟨a,_,rfl⟩:=hc;rfl
theorem zY(v:Nat)(s:List UInt8)(n:Nat):lowO n (S7 v s):=by
 unfold S7;split
 ·trivial
 ·exact qfF s n
theorem S4{kb kj:Nat}{h:wh}{X Y Z:AObj}(hne:kb≠kj):qq kb (qq kj (qq kb h X) Y) Z=qq kj (qq kb h Z) Y:=by
 rw[ku hne,kv]
theorem qh5(v:Nat)(u:List UInt8):(if u.length=0 then AObj.emp v else AObj.mem v 5 (zC u))=S7 v u:=by
 unfold S7
 by_cases h:u= []
 ·simp[h]
 ·rw[ine h,ine (by simpa using h)]
theorem R1(w:World)(g n:Nat):w.grownBy (w.drew.freeze ⟨g,0,none⟩ n) (some g):=by
 unfold World.freeze;split
 ·exact⟨rfl,rfl,rfl,nlr _,λ_ _ _=>rfl⟩
 ·refine⟨rfl,rfl,rfl,?_,λk hk hne=> ?_⟩
  ·show w.heap.size<=(w.heap.modify g _).size;rw[Array.size_modify];exact nlr _
  ·have:g≠k:=λe=>hne (by rw[e])
   show (w.heap.modify g _)[k]? =w.heap[k]?;rw[Array.getElem?_modify,ine this]
theorem qgo{p:Program}{fits:TypeId->Bool}{e:TypeId}{c c' off n:Nat}(hc:c<=c'): ∀d,rowAt p fits d e c off n=true->rowAt p fits d e c' off n=true:=by
 intro d;cases d with
 |zero=>exact id
 |succ d=>
  unfold rowAt;simp only;split
  ·exact id
  ·intro h;rw[Bool.or_eq_true]at h ⊢;rcases h with h|h
   ·refine .inl ?_;simp only[Bool.and_eq_true,decide_eq_true_iff]at h ⊢;exact⟨⟨h.1.1,om⟩,h.2⟩
   ·refine .inr ?_;rw[Bool.and_eq_true]at h ⊢;exact⟨by simp only[decide_eq_true_iff]at h ⊢;omega,h.2⟩
theorem S9{p:Program}{e u:TypeId}{c c' off n:Nat}(hc:c<=c'): ∀d,liesAt p d e c off u n=true->liesAt p d e c' off u n=true:=by
 intro d
 induction d generalizing u n with
 |zero=>exact id
 |succ d ih=>
  unfold liesAt;intro h;rw[Bool.or_eq_true]at h ⊢;rcases h with h|h
  ·exact .inl (qgo hc _ h)
  ·refine .inr ?_;split at h
   ·exact ih h
   ·cases h
theorem qBu(n:Nat)(hn:2<=n):liesAt Tryz.prog Tryz.prog.depth 160 (n/Tryz.prog.cellsOf 160) 0 158 1=true:=by
 have e1:Tryz.prog.cellsOf 160=2:=by kernel_rfl
 have h1:liesAt Tryz.prog Tryz.prog.depth 160 1 0 158 1=true:=by kernel_rfl
 rw[e1];exact S9 om _ h1
theorem ccB(kb vb:Nat)(A B:AV)(h:wh)(hk:qr kb h=some (.mem vb 160 [A,B]))(hA:A= .nilp∨A= .op kb vb 0):ACalls Tryz.prog 159 [.op kb vb 0] h (.tup []) (qq kb h (.mem vb 160 [.op kb vb 0,B])):=by
 refine⟨qjL Tryz.func159 (by kernel_rfl) (by kernel_rfl),λw σ xs H hv=> ?_⟩;obtain⟨x,rfl,hx⟩:=hv.one;have hc:=qG hk;obtain⟨cs,o,b,arr,g1,rfl,g2,g3,g4,g5,g6,g7,g9,g8⟩:=jM H hx (by rw[hc];rfl);rw[hc]at g1;cases g1;have hobj:=H.obj kb _ o hk g2;obtain⟨_,hty,_⟩:=hobj;rw[hty]at g5;have g5b:=g5;have g5:=g5.plain (by decide);have hsz:2<=arr.size:=g7;have hc0:w.cell? ⟨b,0,none⟩=some arr[0]:=by rw[jz g5b];simp
 have hA0:=g8 0 A arr[0] rfl (by simp);have hsh:w.shape? b=some (160,arr.size):=by simp[World.shape?,g5]
 have hfz:w.frozen? ⟨b,0,none⟩=false:=by simp[World.frozen?,g5]
 have hkl:=qV hk;rcases hA with rfl|rfl
 ·rw[qaM hA0]at hc0;refine (callsIn_wide.2 (qbG b 0 160 arr.size w hc0 om hsh hfz (qBu _ hsz))).mono ?_;rintro e w' ⟨rfl,rfl⟩;have hg:w.grownBy (w.setCell ⟨b,0,none⟩ (.pointer (some ⟨b,0,none⟩))) o.blk:=by rw[g4];exact grownBy_setCell' w b _
  have hh:=heap_setCell_same w b 0 arr 160 (.pointer (some ⟨b,0,none⟩)) g5;obtain⟨u1,u2⟩:=H.update (o':=o) (a':= .mem vb 160 [.op kb vb 0,B]) g2 hg (nlr _) (λ_=>rfl)
   (by intro b' e;rw[g4]at e;cases e;exact⟨.inl g4,(Array.getElem?_eq_some_iff.1 hh).1⟩) (λb' r e hr=>by rw[g4]at e;cases e;rw[g5]at hr;cases hr)
   (λe=>⟨g3,hty,b,_,g4,by rw[hty];exact .mk hh,by simp[g6],by simp;exact hsz,λi y hi hy=>by
    simp only[Array.getElem?_setIfInBounds]at hy;split at hy
    ·split at hy
     ·cases hy;rfl
     ·cases hy
    ·exact g9 i y (by simpa using hi) hy,λi c y hc hy=>by
    simp only[Array.getElem?_setIfInBounds]at hy;split at hy
    ·rename_i e0;split at hy
     ·cases hy;subst e0;simp at hc;subst hc;have hko:(σ.set kb o)[kb]? =some o:=by rw[List.getElem?_set_self (by rw[H.len];exact hkl)]
      exact .op o hko ⟨_,rfl⟩ om (λ_=>⟨b,g4,rfl⟩)
     ·cases hy
    ·rename_i e0;have hne:i≠0:=λe1=>e0 e1.symm
     have hcs: [.op kb vb 0,B]= [.nilp,B].set 0 (.op kb vb 0):=rfl;rw[hcs,List.getElem?_set_ne (λe1=>hne e1.symm)]at hc
     exact (g8 i c y hc hy).ext e⟩)
  exact⟨_,_,rfl,u1,.imm (.tup rfl (λi c x hc=>by simp at hc)),u2⟩
 ·obtain⟨o',q1,q2,q3⟩:=qpf hA0;rw[g2]at q1;cases q1;obtain⟨b',q4,q5⟩:=q3 g3;rw[g4]at q4;cases q4;rw[q5]at hc0;refine (callsIn_wide.2 (qdL b 0 w hc0)).mono ?_;rintro e w' ⟨rfl,rfl⟩;rw[jc hk];exact⟨_,σ,rfl,H,.imm (.tup rfl (λi c x hc=>by simp at hc)),Ext.refl w' σ⟩
theorem qbC{kb vb kj v m:Nat}{h:wh}{s:List UInt8}(hkl:kb<h.length)(hjl:kj<h.length): ∀o∈qq kj (qq kb h (.mem vb 160 [.op kb vb 0,.osl kj v 1 0 m])) (S7 v s),o∈h∨lowO h.length o:=by
 intro o ho;rcases z6 ho with h1|rfl
 ·rcases z6 h1 with h2|rfl
  ·exact .inl h2
  ·right;intro c hc;simp only[List.mem_cons,List.not_mem_nil,or_false]at hc;rcases hc with rfl|rfl
   ·simpa[qS] using hkl
   ·simpa[qS] using hjl
 ·exact .inr (zY v s _)
theorem qD8(kb vb kj v:Nat)(A:AV)(s u:List UInt8)(h:wh)(hne:kj≠kb)(hk:qr kb h=some (.mem vb 160 [A,.osl kj v 1 0 s.length]))(hA:A= .nilp∨A= .op kb vb 0)(hj:qr kj h=some (S7 v s))(hl:s.length+u.length<=140737488355328):
  ACalls Tryz.prog 118 [.op kb vb 0,.str u] h (.tup [.int .i64 u.length,.nilif]) (qq kj (qq kb h (.mem vb 160 [.op kb vb 0,.osl kj (v+1) 1 0 (s.length+u.length)])) (S7 (v+1) (s++u))):=by
 have hkl:=qV hk;have hjl:=qV hj;have hne':kb≠kj:=λe=>hne e.symm
 have hk1: ∀l,qr kb (h++l)=some (.mem vb 160 [A,.osl kj v 1 0 s.length]):=λl=>by rw[zw hkl,hk]
 refine acO qpB ?_;simp (disch:=omega) only[qqG,go_sem];refine qv (ccB kb vb A _ _ (hk1 _) hA) ⟨rfl,trivial⟩ ?_
 by_cases hs:s= []
 ·subst hs;rw[SB]at hj;simp (disch:=omega) only[zg,zO,qH,Ue,Uf,UA,UB,zy,ja,ql,Ul,hj,go_sem];refine⟨om,⟨by simp,by simp at hl;omega⟩,?_⟩;rw[S4 hne',qh5];refine jX ⟨trivial,trivial,trivial⟩ (by simp only[qK]) (qbC hkl hjl) ⟨rfl,?_⟩ (qi);simp
 ·rw[kV hs]at hj;simp (disch:=omega) only[zg,zO,qH,Ue,Uf,UA,UB,zy,ja,ql,wl,hj,zL,go_sem]
  repeat' first|(with_reducible apply aiA)
  all_goals first
   |omega
   |(simp[zL];done)
   |skip
  rw[S4 hne',ltl (by simp[zL]),<-Ub,<-kV (by simp[hs])];exact jX ⟨trivial,trivial,trivial⟩ (by simp only[qK]) (qbC hkl hjl) ⟨rfl,rfl⟩ (qi)
theorem qqn(kb vb kj v:Nat)(A:AV)(s:List UInt8)(h:wh)(hne:kj≠kb)(hk:qr kb h=some (.mem vb 160 [A,.osl kj v 1 0 s.length]))(hj:qr kj h=some (S7 v s)):
  ACalls Tryz.prog 116 [.op kb vb 0] h (.str s) (qq kj h (.emp (v+1))):=by
 refine⟨qjL Tryz.func116 (by kernel_rfl) (by kernel_rfl),λw σ xs H hv=> ?_⟩;obtain⟨x,rfl,hx⟩:=hv.one;have hc:=qG hk;obtain⟨cs,o,b,arr,g1,rfl,g2,g3,g4,g5,g6,g7,g9,g8⟩:=jM H hx (by rw[hc];rfl);rw[hc]at g1;cases g1;have hty:=(H.obj kb _ o hk g2).2.1;rw[hty]at g5;have g5b:=g5;have g5:=g5.plain (by decide);have hsz:2<=arr.size:=g7;have hc1:w.cell? ⟨b,0+1,none⟩=some arr[0+1]:=by rw[jz g5b];simp
 have hB:=g8 (0+1) _ arr[0+1] rfl (by simp);obtain⟨oj,j1,j2,j3⟩:=qfv hB;have hobj:=H.obj kj _ oj hj j1;have hkj:=qV hj
 by_cases hs:s= []
 ·subst hs;rw[SB]at hj hobj;obtain⟨m1,m2⟩:=hobj;rcases j3 m1 with⟨_,_,_,e⟩|⟨b',cap,e,_⟩
  ·rw[e]at hc1;refine (callsIn_wide.2 (qcf b 0 w hc1)).mono ?_;rintro e w' ⟨rfl,rfl⟩;obtain⟨u1,u2⟩:=H.update (w':=w.drew) (o':= { oj with blk:=none,ver:=v+1 }) (a':= .emp (v+1)) j1 ⟨rfl,rfl,rfl,nlr _,λ_ _ _=>rfl⟩ (by simp only;omega) (by simp only;omega) (by intro b' e;cases e) (λb' r e hr=>⟨r,hr⟩) (λ_=>⟨rfl,rfl⟩);exact⟨_,_,rfl,u1,.imm .str,u2⟩
  ·rw[m2]at e;cases e
 ·rw[kV hs]at hj hobj;obtain⟨m1,m2,bj,arrj,m3,m4,m5,m6,m7,m8⟩:=hobj;rcases j3 m1 with⟨e,_⟩|⟨b',cap,e1,e2,e3,e4,e5⟩
  ·rw[m3]at e;cases e
  ·rw[m3]at e1;cases e1;rw[e2]at hc1;rw[m2]at m4;have m4b:=m4;have m4:=m4.plain (by decide);rw[zL]at m6;refine (callsIn_wide.2 (qcg b 0 bj cap s arrj w hs hc1 m4 e3 e4 om (λj x hx=> ?_))).mono ?_
   ·have hjl:j<s.length:=(lgs.1 hx).1;rw[jz m4b];have ea:arrj[j]? =some arrj[j]:=by simp
    have:=m8 j (.int .u8 x.toNat) arrj[j] (by simp[zC,hx]) ea
    rw[ea,zH this]
   ·rintro e w' ⟨rfl,rfl⟩;have hg:w.grownBy (w.drew.freeze ⟨bj,0,none⟩ s.length) oj.blk:=by
     rw[m3];exact R1 w bj s.length
    obtain⟨u1,u2⟩:=H.update (o':= { oj with blk:=none,ver:=v+1 }) (a':= .emp (v+1)) j1 hg (by simp only;omega) (by simp only;omega) (by intro b' e;cases e)
     (λb' r e hr=>by rw[m3]at e;cases e;rw[m4]at hr;cases hr) (λ_=>⟨rfl,rfl⟩)
    exact⟨_,_,rfl,u1,.imm .str,u2⟩
theorem qBv(n:Nat)(hn:2<=n):liesAt Tryz.prog Tryz.prog.depth 158 (n/Tryz.prog.cellsOf 158) 0 158 1=true:=by
 have e1:Tryz.prog.cellsOf 158=2:=by kernel_rfl
 have h1:liesAt Tryz.prog Tryz.prog.depth 158 1 0 158 1=true:=by kernel_rfl
 rw[e1];exact S9 om _ h1
theorem ccS(kb vb:Nat)(A B:AV)(h:wh)(hk:qr kb h=some (.mem vb 158 [A,B]))(hA:A= .nilp∨A= .op kb vb 0):ACalls Tryz.prog 159 [.op kb vb 0] h (.tup []) (qq kb h (.mem vb 158 [.op kb vb 0,B])):=by
 refine⟨qjL Tryz.func159 (by kernel_rfl) (by kernel_rfl),λw σ xs H hv=> ?_⟩;obtain⟨x,rfl,hx⟩:=hv.one;have hc:=qG hk;obtain⟨cs,o,b,arr,g1,rfl,g2,g3,g4,g5,g6,g7,g9,g8⟩:=jM H hx (by rw[hc];rfl);rw[hc]at g1;cases g1;have hobj:=H.obj kb _ o hk g2;obtain⟨_,hty,_⟩:=hobj;rw[hty]at g5;have g5b:=g5;have g5:=g5.plain (by decide);have hsz:2<=arr.size:=g7;have hc0:w.cell? ⟨b,0,none⟩=some arr[0]:=by rw[jz g5b];simp
 have hA0:=g8 0 A arr[0] rfl (by simp);have hsh:w.shape? b=some (158,arr.size):=by simp[World.shape?,g5]
 have hfz:w.frozen? ⟨b,0,none⟩=false:=by simp[World.frozen?,g5]
 have hkl:=qV hk;rcases hA with rfl|rfl
 ·rw[qaM hA0]at hc0;refine (callsIn_wide.2 (qbG b 0 158 arr.size w hc0 om hsh hfz (qBv _ hsz))).mono ?_;rintro e w' ⟨rfl,rfl⟩;have hg:w.grownBy (w.setCell ⟨b,0,none⟩ (.pointer (some ⟨b,0,none⟩))) o.blk:=by rw[g4];exact grownBy_setCell' w b _
  have hh:=heap_setCell_same w b 0 arr 158 (.pointer (some ⟨b,0,none⟩)) g5;obtain⟨u1,u2⟩:=H.update (o':=o) (a':= .mem vb 158 [.op kb vb 0,B]) g2 hg (nlr _) (λ_=>rfl)
   (by intro b' e;rw[g4]at e;cases e;exact⟨.inl g4,(Array.getElem?_eq_some_iff.1 hh).1⟩) (λb' r e hr=>by rw[g4]at e;cases e;rw[g5]at hr;cases hr)
   (λe=>⟨g3,hty,b,_,g4,by rw[hty];exact .mk hh,by simp[g6],by simp;exact hsz,λi y hi hy=>by
    simp only[Array.getElem?_setIfInBounds]at hy;split at hy
    ·split at hy
     ·cases hy;rfl
     ·cases hy
    ·exact g9 i y (by simpa using hi) hy,λi c y hc hy=>by
    simp only[Array.getElem?_setIfInBounds]at hy;split at hy
    ·rename_i e0;split at hy
     ·cases hy;subst e0;simp at hc;subst hc;have hko:(σ.set kb o)[kb]? =some o:=by rw[List.getElem?_set_self (by rw[H.len];exact hkl)]
      exact .op o hko ⟨_,rfl⟩ om (λ_=>⟨b,g4,rfl⟩)
     ·cases hy
    ·rename_i e0;have hne:i≠0:=λe1=>e0 e1.symm
     have hcs: [.op kb vb 0,B]= [.nilp,B].set 0 (.op kb vb 0):=rfl;rw[hcs,List.getElem?_set_ne (λe1=>hne e1.symm)]at hc
     exact (g8 i c y hc hy).ext e⟩)
  exact⟨_,_,rfl,u1,.imm (.tup rfl (λi c x hc=>by simp at hc)),u2⟩
 ·obtain⟨o',q1,q2,q3⟩:=qpf hA0;rw[g2]at q1;cases q1;obtain⟨b',q4,q5⟩:=q3 g3;rw[g4]at q4;cases q4;rw[q5]at hc0;refine (callsIn_wide.2 (qdL b 0 w hc0)).mono ?_;rintro e w' ⟨rfl,rfl⟩;rw[jc hk];exact⟨_,σ,rfl,H,.imm (.tup rfl (λi c x hc=>by simp at hc)),Ext.refl w' σ⟩
theorem qbD{kb vb kj v m:Nat}{h:wh}{s:List UInt8}(hkl:kb<h.length)(hjl:kj<h.length): ∀o∈qq kj (qq kb h (.mem vb 158 [.op kb vb 0,.osl kj v 1 0 m])) (S7 v s),o∈h∨lowO h.length o:=by
 intro o ho;rcases z6 ho with h1|rfl
 ·rcases z6 h1 with h2|rfl
  ·exact .inl h2
  ·right;intro c hc;simp only[List.mem_cons,List.not_mem_nil,or_false]at hc;rcases hc with rfl|rfl
   ·simpa[qS] using hkl
   ·simpa[qS] using hjl
 ·exact .inr (zY v s _)
theorem qEa(kb vb kj v:Nat)(A:AV)(s u:List UInt8)(h:wh)(hne:kj≠kb)(hk:qr kb h=some (.mem vb 158 [A,.osl kj v 1 0 s.length]))(hA:A= .nilp∨A= .op kb vb 0)(hj:qr kj h=some (S7 v s))(hl:s.length+u.length<=140737488355328):
  ACalls Tryz.prog 118 [.op kb vb 0,.str u] h (.tup [.int .i64 u.length,.nilif]) (qq kj (qq kb h (.mem vb 158 [.op kb vb 0,.osl kj (v+1) 1 0 (s.length+u.length)])) (S7 (v+1) (s++u))):=by
 have hkl:=qV hk;have hjl:=qV hj;have hne':kb≠kj:=λe=>hne e.symm
 have hk1: ∀l,qr kb (h++l)=some (.mem vb 158 [A,.osl kj v 1 0 s.length]):=λl=>by rw[zw hkl,hk]
 refine acO qpB ?_;simp (disch:=omega) only[qqG,go_sem];refine qv (ccS kb vb A _ _ (hk1 _) hA) ⟨rfl,trivial⟩ ?_
 by_cases hs:s= []
 ·subst hs;rw[SB]at hj;simp (disch:=omega) only[zg,zO,qH,Ue,Uf,UA,UB,zy,ja,ql,Ul,hj,go_sem];refine⟨om,⟨by simp,by simp at hl;omega⟩,?_⟩;rw[S4 hne',qh5];refine jX ⟨trivial,trivial,trivial⟩ (by simp only[qK]) (qbD hkl hjl) ⟨rfl,?_⟩ (qi);simp
 ·rw[kV hs]at hj;simp (disch:=omega) only[zg,zO,qH,Ue,Uf,UA,UB,zy,ja,ql,wl,hj,zL,go_sem]
  repeat' first|(with_reducible apply aiA)
  all_goals first
   |omega
   |(simp[zL];done)
   |skip
  rw[S4 hne',ltl (by simp[zL]),<-Ub,<-kV (by simp[hs])];exact jX ⟨trivial,trivial,trivial⟩ (by simp only[qK]) (qbD hkl hjl) ⟨rfl,rfl⟩ (qi)
theorem qDN(kb vb kj v:Nat)(A:AV)(s:List UInt8)(h:wh)(hne:kj≠kb)(hk:qr kb h=some (.mem vb 158 [A,.osl kj v 1 0 s.length]))(hj:qr kj h=some (S7 v s)):
  ACalls Tryz.prog 116 [.op kb vb 0] h (.str s) (qq kj h (.emp (v+1))):=by
 refine⟨qjL Tryz.func116 (by kernel_rfl) (by kernel_rfl),λw σ xs H hv=> ?_⟩;obtain⟨x,rfl,hx⟩:=hv.one;have hc:=qG hk;obtain⟨cs,o,b,arr,g1,rfl,g2,g3,g4,g5,g6,g7,g9,g8⟩:=jM H hx (by rw[hc];rfl);rw[hc]at g1;cases g1;have hty:=(H.obj kb _ o hk g2).2.1;rw[hty]at g5;have g5b:=g5;have g5:=g5.plain (by decide);have hsz:2<=arr.size:=g7;have hc1:w.cell? ⟨b,0+1,none⟩=some arr[0+1]:=by rw[jz g5b];simp
 have hB:=g8 (0+1) _ arr[0+1] rfl (by simp);obtain⟨oj,j1,j2,j3⟩:=qfv hB;have hobj:=H.obj kj _ oj hj j1;have hkj:=qV hj
 by_cases hs:s= []
 ·subst hs;rw[SB]at hj hobj;obtain⟨m1,m2⟩:=hobj;rcases j3 m1 with⟨_,_,_,e⟩|⟨b',cap,e,_⟩
  ·rw[e]at hc1;refine (callsIn_wide.2 (qcf b 0 w hc1)).mono ?_;rintro e w' ⟨rfl,rfl⟩;obtain⟨u1,u2⟩:=H.update (w':=w.drew) (o':= { oj with blk:=none,ver:=v+1 }) (a':= .emp (v+1)) j1 ⟨rfl,rfl,rfl,nlr _,λ_ _ _=>rfl⟩ (by simp only;omega) (by simp only;omega) (by intro b' e;cases e) (λb' r e hr=>⟨r,hr⟩) (λ_=>⟨rfl,rfl⟩);exact⟨_,_,rfl,u1,.imm .str,u2⟩
  ·rw[m2]at e;cases e
 ·rw[kV hs]at hj hobj;obtain⟨m1,m2,bj,arrj,m3,m4,m5,m6,m7,m8⟩:=hobj;rcases j3 m1 with⟨e,_⟩|⟨b',cap,e1,e2,e3,e4,e5⟩
  ·rw[m3]at e;cases e
  ·rw[m3]at e1;cases e1;rw[e2]at hc1;rw[m2]at m4;have m4b:=m4;have m4:=m4.plain (by decide);rw[zL]at m6;refine (callsIn_wide.2 (qcg b 0 bj cap s arrj w hs hc1 m4 e3 e4 om (λj x hx=> ?_))).mono ?_
   ·have hjl:j<s.length:=(lgs.1 hx).1;rw[jz m4b];have ea:arrj[j]? =some arrj[j]:=by simp
    have:=m8 j (.int .u8 x.toNat) arrj[j] (by simp[zC,hx]) ea
    rw[ea,zH this]
   ·rintro e w' ⟨rfl,rfl⟩;have hg:w.grownBy (w.drew.freeze ⟨bj,0,none⟩ s.length) oj.blk:=by
     rw[m3];exact R1 w bj s.length
    obtain⟨u1,u2⟩:=H.update (o':= { oj with blk:=none,ver:=v+1 }) (a':= .emp (v+1)) j1 hg (by simp only;omega) (by simp only;omega) (by intro b' e;cases e)
     (λb' r e hr=>by rw[m3]at e;cases e;rw[m4]at hr;cases hr) (λ_=>⟨rfl,rfl⟩)
    exact⟨_,_,rfl,u1,.imm .str,u2⟩
end HY
end
section
open Go Go.Proofs AF
def Ui:List Nat:= [118,116,307,285,244,282,245,283,247]
def qvU:C:=
 (vU [MV 7 0,O1 8 .len 7,vO 9 0] (C.block 0 (vU [BI 10 .lss 9 8] ((vW 10 0).seq ((C.block 1 (vU [O2 11 (.idxA 4) 7 9,O1 12 (.load (some 4)) 11,⟨some 5,none,.alloc 0 198 [i6
 0,.str [],i6 0,.nl],[]⟩,ST 4 5 12] (vU [vN 13 0 5,LD 14 13,O1 15 (.gix 4 12 4) 14,O1 16 (.load (some 4)) 15,⟨some 6,none,.alloc 1 324 [.str [],.bool false,.bool false,.bool
 false],[]⟩,ST 4 6 16] (C.block 2 (vU [vN 26 0 5,LD 27 26,vP 28 .eql 27 1,MV 25 28] (C.cond (.t 25) (vY [vN 29 1 5,LD 30 29,O2 31 (.call 118 false) 1 30]) (vU [vN 33 3 6,LD 34
 33,MV 32 34] (C.cond (.t 32) (vU [vN 35 0 6,LD 36 35,ON 37 (.bin .add) [.c (.str [60]),.t 36],O1 38 (.load (some 4)) 5,O1 39 (.call 305 true) 38,BI 40 .add 37 39,BC 41 .add 40
 (.str [62]),O2 42 (.call 118 false) 1 41] (vU [LD 43 2,vN 44 3 5,LD 45 44,O2 46 .callv 43 45] (vY [vN 47 0 6,LD 48 47,ON 49 (.bin .add) [.c (.str [60,47]),.t 48],BC 50 .add 49
 (.str [62]),O2 51 (.call 118 false) 1 50]))) (vY [vN 17 0 6,LD 18 17,ON 19 (.bin .add) [.c (.str [60]),.t 18],O1 20 (.load (some 4)) 5,O1 21 (.call 305 true) 20,BI 22 .add 19
 21,BC 23 .add 22 (.str [47,62]),O2 24 (.call 118 false) 1 23]))))))))).seq (vY [vP 52 .add 9 1,MV 9 52])))).loop))
theorem qxM:qM Tryz.prog 304 53 2 [] qvU:=fi Tryz.f304 [5,6] Ui []
@[go_sem]def vm:DT:= DT.one ⟨some 22,none,.nilchk,[.t 10]⟩ (DT.one ⟨some 23,none,.fldA 5,[.t 22]⟩ (DT.one ⟨none,none,.store 1,[.t 23,.t 19]⟩ DT.nil))
@[go_sem]def vk:DT:= DT.one ⟨some 17,some (15,false),.load none,[.t 16]⟩ (DT.one ⟨some 18,some (15,false),.bin .eql,[.t 17,.c (i6 5)]⟩ (DT.one ⟨some 19,none,.pick,[.t 15,.c (.bool true),.t 18]⟩ vm))
def qvE:C:=
 (vU [O1 3 (.box 0 269) 1] (vU [vN 5 0 3,LD 6 5] (C.block 0 (vU [vP 25 .eql 6 1,MV 24 25] (C.cond (.t 24) (vY [MV 26 0,O1 27 (.load (some 7)) 3,O2 28 (.call 282 false) 26 27])
 (vU [vP 30 .eql 6 6,MV 29 30] (C.cond (.t 29) (vU [MV 31 0,O1 32 (.call 245 false) 31] (vU [vO 4 2] ((vU [vN 33 5 3,LD 34 33] (vV 34 (vY [MV 35 4,vP 36 .or 35 1,MV 4 36]))).seq
 (vU [MV 37 0,O1 38 (.load (some 7)) 3,MV 39 4,ON 40 (.call 283 false) [.t 37,.t 38,.t 39]] (vY [MV 41 0,O1 42 (.call 284 true) 41,vN 43 2 3,LD 44 43,O1 45 (.call 115 true)
 44,ON 46 (.bin .add) [.c (.str [91]),.t 45],BC 47 .add 46 (.str [93]),O1 48 .nilchk 42,vN 49 0 48,ST 1 49 47]))))) (vU [MV 7 0,O1 8 (.call 245 false) 7] (C.draw (DT.one ⟨some
 9,none,.mv,[.t 0]⟩ (DT.one ⟨some 10,none,.mv,[.t 0]⟩ (DT.one ⟨some 11,none,.mv,[.t 0]⟩ (DT.one ⟨some 12,none,.nilchk,[.t 11]⟩ (DT.one ⟨some 13,none,.fldA 5,[.t 12]⟩ (DT.one
 ⟨some 14,none,.load none,[.t 13]⟩ (DT.one ⟨some 15,none,.mv,[.t 14]⟩ (DT.one ⟨some 20,none,.nilchk,[.t 9]⟩ (DT.one ⟨some 21,none,.fldA 4,[.t 20]⟩ ((DT.one ⟨some 16,some
 (15,false),.fldA 0,[.t 3]⟩ ((DT.one ⟨some 17,some (15,false),.load none,[.t 16]⟩ (DT.one ⟨some 18,some (15,false),.bin .eql,[.t 17,.c (i6 5)]⟩ (DT.one ⟨some 19,none,.pick,[.t
 15,.c (.bool true),.t 18]⟩ (DT.one ⟨none,none,.store 1,[.t 21,.c (.bool false)]⟩ vm)))).two (DT.one ⟨none,none,.store 1,[.t 21,.c (.bool false)]⟩ vk))).two (DT.one
 ⟨none,none,.store 1,[.t 21,.c (.bool false)]⟩ (DT.one ⟨some 16,some (15,false),.fldA 0,[.t 3]⟩ vk)))))))))))))))))))))
theorem qxu:qM Tryz.prog 244 50 1 [] qvE:=fi Tryz.f244 [3] Ui []
def qqR:C:=
 ((vU [MV 2 0,O1 3 .nilchk 2,vN 4 3 3,LD 5 4] (vV 5 (vY [MV 6 0,O1 7 (.call 284 true) 6,MV 8 0,O1 9 .nilchk 8,vN 10 1 9,O1 11 (.call 116 false) 10,O1 12 .nilchk 7,vN 13 0 12,ST 1
 13 11]))).seq (vU [MV 14 0,O1 15 .nilchk 14,vN 16 3 15,⟨none,none,.store 1,[.t 16,.c (.bool false)]⟩] (vY [MV 17 0,O1 18 .nilchk 17,vN 19 1 18,O1 20 (.call 285 false) 19])))
theorem qpO:qM Tryz.prog 245 21 0 [] qqR:=fi Tryz.f245 [] Ui []
@[go_sem]def vn:DT:= DT.one ⟨some 38,none,.app 2 6 92 80,[.t 30,.t 37]⟩ (DT.one ⟨some 39,none,.nilchk,[.t 26]⟩ (DT.one ⟨some 40,none,.fldA 0,[.t 39]⟩ (DT.one ⟨none,none,.store 1,[.t 40,.t 38]⟩
 DT.nil)))
@[go_sem]def vp:DT:= DT.one ⟨some 30,none,.load none,[.t 29]⟩ vn
def qmz:C:=
 (vU [O1 4 (.box 0 269) 1] ((vU [MV 6 0,O1 7 .nilchk 6,vN 8 4 7,LD 9 8,MV 10 9,MG 11 10 true 0,P1 12 10 true .nilchk 11,P1 13 10 true (.fldA 0) 12,P1 14 10 true (.load none)
 13,P1 15 10 true .len 14,PC 16 10 true (.bin .gtr) 15 (i6 0),PF 17 10 16] (vV 17 (vY [MV 18 2,vP 19 .or 18 16,MV 2 19]))).seq ((vU [MV 20 0,O1 21 .nilchk 20,vN 22 5 21,LD 23
 22] (vV 23 (vY [MV 24 2,vP 25 .or 24 4,MV 2 25]))).seq ((C.draw (DT.one ⟨some 26,none,.mv,[.t 0]⟩ (DT.one ⟨some 27,none,.mv,[.t 0]⟩ (DT.one ⟨some 31,none,.fldA 3,[.t 4]⟩
 (DT.one ⟨some 32,none,.load (some 2),[.t 31]⟩ (DT.one ⟨some 33,none,.mv,[.t 2]⟩ (DT.one ⟨some 34,none,.fldA 6,[.t 4]⟩ (DT.one ⟨some 35,none,.load none,[.t 34]⟩ (DT.one ⟨some
 36,none,.build [.str [],.str [],.str [],i6 0,i6 0,.str []] [(2,2),(4,1),(5,1)],[.t 32,.t 33,.t 35]⟩ ((DT.one ⟨some 28,none,.nilchk,[.t 27]⟩ ((DT.one ⟨some 29,none,.fldA 0,[.t
 28]⟩ ((DT.one ⟨some 30,none,.load none,[.t 29]⟩ (DT.one ⟨some 37,none,.bslc 1 6 1 92 [.str [],.str [],.str [],i6 0,i6 0,.str []] [(0,6)],[.t 36]⟩ vn)).two (DT.one ⟨some
 37,none,.bslc 1 6 1 92 [.str [],.str [],.str [],i6 0,i6 0,.str []] [(0,6)],[.t 36]⟩ vp))).two (DT.one ⟨some 37,none,.bslc 1 6 1 92 [.str [],.str [],.str [],i6 0,i6 0,.str []]
 [(0,6)],[.t 36]⟩ (DT.one ⟨some 29,none,.fldA 0,[.t 28]⟩ vp)))).two (DT.one ⟨some 37,none,.bslc 1 6 1 92 [.str [],.str [],.str [],i6 0,i6 0,.str []] [(0,6)],[.t 36]⟩ (DT.one
 ⟨some 28,none,.nilchk,[.t 27]⟩ (DT.one ⟨some 29,none,.fldA 0,[.t 28]⟩ vp))))))))))))).seq (vY [MV 41 0,MV 42 0,O1 43 .nilchk 41,vN 44 4 43,⟨none,none,.store 1,[.t 44,.c (.bool
 true)]⟩,O1 45 .nilchk 42,vN 46 5 45,⟨none,none,.store 1,[.t 46,.c (.bool false)]⟩])))))
theorem qjb:qM Tryz.prog 283 47 3 [] qmz:=fi Tryz.f283 [4,37,38] Ui []
def qvR:C:=
 (vU [MV 2 0,O1 3 .nilchk 2,vN 4 0 3,⟨none,none,.store 1,[.t 4,.c .nilp]⟩] (vY [MV 5 0,O1 6 .nilchk 5,vN 7 1 6,⟨none,none,.store 1,[.t 7,.c .nl]⟩]))
theorem qxI:qM Tryz.prog 285 8 0 [] qvR:=fi Tryz.f285 [] Ui []
def qvF:C:=
 (vU [ON 4 (.nilo 0 6 92) [],vO 5 0] ((vU [MV 9 1,O1 10 .len 9,vO 11 0] (C.block 0 (vU [BI 12 .lss 11 10] ((vW 12 0).seq ((C.block 1 (vU [MV 13 11,MV 6 13] (vU [MV 14 1,MV 15
 6,MV 16 1,MV 17 6,O2 18 (.idxA 6) 16 17,vN 19 0 18,LD 20 19,O2 21 (.idxA 6) 14 15,vN 22 1 21,ST 1 22 20] ((vU [MV 23 1,MV 24 6,O2 25 (.idxA 6) 23 24,O1 26 (.load (some 6))
 25,O1 27 (.call 232 true) 26,O1 28 (.un UnOp.not) 27] (vV 28 (C.exit 1))).seq (vU [MV 30 0,MV 31 1,MV 32 6,O2 33 (.idxA 6) 31 32,vN 34 0 33,LD 35 34,O2 36 (.call 286 true) 30
 35,MV 29 36,O1 37 (.ext 0) 29,O1 38 (.ext 1) 29,MV 7 37,MV 8 38] ((vU [MV 39 8,vP 40 .neq 39 0] (vV 40 (vX [MV 41 8,ON 4 (.nilo 0 6 92) [],MV 5 41]))).seq (vY [MV 42 1,MV 43
 6,MV 44 7,O2 45 (.idxA 6) 42 43,vN 46 1 45,ST 1 46 44]))))))).seq (vY [vP 47 .add 11 1,MV 11 47])))).loop)).seq (vX [MV 48 1,MV 4 48,vO 5 0])))
theorem qxv:qM Tryz.prog 247 49 1 [RV.tmp 4,RV.tmp 5] qvF:=fi Tryz.f247 [4] Ui []
end
