import Derived.Test.YtiiegfkjmnoijaaGreatDoorK3
import Derived.Test.YtiiegfkjmnoijaaGreatDoorK5
import Derived.Test.YtiiegfkjmnoijaaGreatDoorK8
import Derived.Test.YtiiegfkjmnoijaaGreatDoorProg
import Derived.Test.YtiiegfkjmnoijaaGreatDoorK15
import Derived.Test.YtiiegfkjmnoijaaGreatDoorK14
import Derived.Test.YtiiegfkjmnoijaaGreatDoorK11
import Derived.Test.YtiiegfkjmnoijaaGreatDoorK12
import Derived.Test.YtiiegfkjmnoijaaGreatDoorK10
import Derived.Shelf.Strings.OnBuilder
import Derived.Test.YtiiegfkjmnoijaaGreatDoorK9
import Derived.Shelf.Slices.In.SortNone
import Derived.Lib.ItoaLen
set_option linter.all false
set_option maxHeartbeats 256000000
set_option maxRecDepth 100000
section
open Go Go.Proofs AF
def qno:List Nat:= [80,79,82]
@[go_sem]def vA:DT:= DT.one ⟨some 78,none,.app 6 3 64 40,[.t 69,.t 77]⟩ (DT.one ⟨some 79,none,.len,[.t 78]⟩ DT.nil)
@[go_sem]def vJ:DT:= DT.one ⟨some 77,none,.bslc 5 3 1 64 [i6 0,i6 0,.nl] [(0,3)],[.t 76]⟩ vA
@[go_sem]def vq:DT:= DT.one ⟨some 76,none,.build [i6 0,i6 0,.nl] [(0,1),(1,1)],[.t 72,.t 75]⟩ vJ
@[go_sem]def vr:DT:= DT.one ⟨some 76,none,.build [i6 0,i6 0,.nl] [(0,1),(1,1)],[.t 72,.t 75]⟩ ((DT.one ⟨some 69,none,.call 82 false,[.t 68]⟩ vJ).two (DT.one ⟨some 77,none,.bslc 5 3 1 64 [i6 0,i6
 0,.nl] [(0,3)],[.t 76]⟩ (DT.one ⟨some 69,none,.call 82 false,[.t 68]⟩ vA)))
@[go_sem]def vB:DT:= DT.one ⟨some 75,none,.len,[.t 74]⟩ vq
@[go_sem]def vv:DT:= DT.one ⟨some 74,none,.load none,[.t 73]⟩ vB
@[go_sem]def vD:DT:= DT.one ⟨some 72,none,.len,[.t 71]⟩ (DT.one ⟨some 73,none,.fldA 3,[.t 4]⟩ vv)
@[go_sem]def vE:DT:= (DT.one ⟨some 69,none,.call 82 false,[.t 68]⟩ (DT.one ⟨some 72,none,.len,[.t 71]⟩ vq)).two (DT.one ⟨some 72,none,.len,[.t 71]⟩ vr)
@[go_sem]def vF:DT:= (DT.one ⟨some 69,none,.call 82 false,[.t 68]⟩ vB).two (DT.one ⟨some 75,none,.len,[.t 74]⟩ vr)
@[go_sem]def vu:DT:= (DT.one ⟨some 69,none,.call 82 false,[.t 68]⟩ (DT.one ⟨some 72,none,.len,[.t 71]⟩ vB)).two ((DT.one ⟨some 72,none,.len,[.t 71]⟩ vF).two (DT.one ⟨some 75,none,.len,[.t 74]⟩ vE))
@[go_sem]def vy:DT:= (DT.one ⟨some 69,none,.call 82 false,[.t 68]⟩ vv).two (DT.one ⟨some 74,none,.load none,[.t 73]⟩ vF)
@[go_sem]def vC:DT:= (DT.one ⟨some 69,none,.call 82 false,[.t 68]⟩ (DT.one ⟨some 72,none,.len,[.t 71]⟩ vv)).two ((DT.one ⟨some 72,none,.len,[.t 71]⟩ vy).two (DT.one ⟨some 74,none,.load none,[.t 73]⟩
 vu))
@[go_sem]def vG:DT:= DT.one ⟨some 71,none,.load none,[.t 70]⟩ (DT.one ⟨some 72,none,.len,[.t 71]⟩ vv)
@[go_sem]def vH:DT:= DT.one ⟨some 71,none,.load none,[.t 70]⟩ (DT.one ⟨some 72,none,.len,[.t 71]⟩ vB)
@[go_sem]def vI:DT:= DT.one ⟨some 71,none,.load none,[.t 70]⟩ (DT.one ⟨some 72,none,.len,[.t 71]⟩ vq)
@[go_sem]def vx:DT:= (DT.one ⟨some 69,none,.call 82 false,[.t 68]⟩ vI).two (DT.one ⟨some 71,none,.load none,[.t 70]⟩ vE)
@[go_sem]def vz:DT:= (DT.one ⟨some 69,none,.call 82 false,[.t 68]⟩ vH).two ((DT.one ⟨some 71,none,.load none,[.t 70]⟩ vu).two (DT.one ⟨some 75,none,.len,[.t 74]⟩ vx))
@[go_sem]def vt:DT:= (DT.one ⟨some 69,none,.call 82 false,[.t 68]⟩ vG).two ((DT.one ⟨some 71,none,.load none,[.t 70]⟩ vC).two (DT.one ⟨some 74,none,.load none,[.t 73]⟩ vz))
def qdy:C:=
 (vS [O1 4 (.box 0 26) 0,ON 8 (.nilo 1 7 36) [],vM 9 0] ((vS [O1 26 (.load (some 4)) 4,MV 27 1,O2 28 (.call 75 true) 26 27,MV 10 28] (vS [MV 29 10,vN 30 .neq 29 0] (vT 30 (vV [MV
 31 10,ON 8 (.nilo 1 7 36) [],MV 9 31])))).seq ((vS [MV 32 3,vN 33 .lss 32 0,MV 34 33,vQ 35 34 3,vZ 36 34 1 4,v6 37 34 36,vO 38 34 .len 37,vP 39 34 (.bin .geq) 35 38,PT 40 34
 39] (vT 40 (vV [ON 8 (.nilo 1 7 36) [],vM 9 2]))).seq (vS [O1 42 (.load (some 4)) 4,MV 43 1,MV 44 2,ON 45 (.call 78 true) [.t 42,.t 43,.t 44],MV 41 45,O1 46 (.ext 0) 41,O1 47
 (.ext 1) 41,MV 11 46,MV 12 47] ((vS [MV 48 12,vN 49 .neq 48 0] (vT 49 (vV [MV 50 12,ON 8 (.nilo 1 7 36) [],MV 9 50]))).seq (vS [⟨some 51,none,.bslc 2 1 1 3 [i6 0] [(0,1)],[.c
 (i6 (-1))]⟩,MV 52 1,O1 53 .len 52,O2 54 (.call 79 false) 51 53,MV 13 54] ((vS [MV 55 11,O1 56 .len 55,vM 57 0] (C.block 0 (vS [BI 58 .lss 57 56] ((vU 58 0).seq ((C.block 1 (vS
 [MV 59 57,O2 60 (.idxA 1) 55 57,LD 61 60,MV 14 59,MV 15 61] (vW [MV 62 13,MV 63 15,MV 64 14,O2 65 (.idxA 1) 62 63,ST 1 65 64]))).seq (vW [vN 66 .add 57 1,MV 57
 66])))).loop)).seq (vS [⟨some 16,none,.alloc 3 29 [.nl],[]⟩] ((C.wk.seq (vW [O1 67 (.mkfn (Fn.func 80) 0) 16,⟨some 17,none,.alloc 4 121 [.nilfn],[]⟩,ST 1 17 67])).seq (vS [vM
 18 0] (((C.draw (DT.one ⟨some 68,none,.mv,[.t 1]⟩ (DT.one ⟨some 80,none,.mv,[.c (i6 0)]⟩ ((DT.one ⟨some 69,none,.call 82 false,[.t 68]⟩ (DT.one ⟨some 70,none,.fldA 3,[.t 4]⟩
 (DT.one ⟨some 71,none,.load none,[.t 70]⟩ vD))).two ((DT.one ⟨some 70,none,.fldA 3,[.t 4]⟩ ((DT.one ⟨some 69,none,.call 82 false,[.t 68]⟩ (DT.one ⟨some 71,none,.load none,[.t
 70]⟩ vD)).two ((DT.one ⟨some 71,none,.load none,[.t 70]⟩ ((DT.one ⟨some 69,none,.call 82 false,[.t 68]⟩ vD).two ((DT.one ⟨some 72,none,.len,[.t 71]⟩ ((DT.one ⟨some
 69,none,.call 82 false,[.t 68]⟩ (DT.one ⟨some 73,none,.fldA 3,[.t 4]⟩ vv)).two (DT.one ⟨some 73,none,.fldA 3,[.t 4]⟩ vy))).two (DT.one ⟨some 73,none,.fldA 3,[.t 4]⟩ vC)))).two
 (DT.one ⟨some 73,none,.fldA 3,[.t 4]⟩ vt)))).two (DT.one ⟨some 73,none,.fldA 3,[.t 4]⟩ ((DT.one ⟨some 69,none,.call 82 false,[.t 68]⟩ (DT.one ⟨some 70,none,.fldA 3,[.t 4]⟩
 vG)).two ((DT.one ⟨some 70,none,.fldA 3,[.t 4]⟩ vt).two (DT.one ⟨some 74,none,.load none,[.t 73]⟩ ((DT.one ⟨some 69,none,.call 82 false,[.t 68]⟩ (DT.one ⟨some 70,none,.fldA
 3,[.t 4]⟩ vH)).two ((DT.one ⟨some 70,none,.fldA 3,[.t 4]⟩ vz).two (DT.one ⟨some 75,none,.len,[.t 74]⟩ ((DT.one ⟨some 69,none,.call 82 false,[.t 68]⟩ (DT.one ⟨some 70,none,.fldA
 3,[.t 4]⟩ vI)).two (DT.one ⟨some 70,none,.fldA 3,[.t 4]⟩ vx)))))))))))))).seq (C.block 2 (vS [BI 81 .lss 80 79] ((vU 81 2).seq ((C.block 3 (vS [MV 82 80,O2 83 (.idxA 3) 78
 80,O1 84 (.load (some 3)) 83,⟨some 19,none,.alloc 7 3 [i6 0],[]⟩,⟨some 20,none,.alloc 8 64 [i6 0,i6 0,.nl],[]⟩,ST 1 19 82,ST 3 20 84] ((vS [O1 85 (.load (some 4)) 4,MV 86 18,vL
 87 0 20,LD 88 87,MV 89 3,ON 90 (.call 83 true) [.t 85,.t 86,.t 88,.t 89]] (C.block 4 (C.range (.t 90) [91] (vW [⟨some 21,none,.alloc 9 120 [.str [],.str [],.str [],i6 0,i6
 0,.str [],i6 0],[]⟩,ST 7 21 91]) (C.block 5 (vW [LD 92 17,O1 93 (.load (some 7)) 21,ON 94 .callv [.t 92,.t 93,.c (i6 (-1)),.c (i6 (-1))]]))))).seq (vS [vL 95 1 20,LD 96 95,MV
 18 96] (C.block 6 (vS [LD 127 19,MV 128 1,O1 129 .len 128,BI 130 .eql 127 129,MV 126 130] (C.cond (.t 126) C.skip (vS [MV 132 13,LD 133 19,O2 134 (.idxA 1) 132 133,LD 135
 134,vN 136 .lss 135 0,MV 131 136] (C.cond (.t 131) (vS [O1 137 (.load (some 4)) 4,vL 138 0 20,LD 139 138,vL 140 1 20,LD 141 140,MV 142 3,ON 143 (.call 83 true) [.t 137,.t
 139,.t 141,.t 142]] (C.block 9 (C.range (.t 143) [144] (vW [⟨some 22,none,.alloc 10 120 [.str [],.str [],.str [],i6 0,i6 0,.str [],i6 0],[]⟩,ST 7 22 144]) (C.block 10 (vW [LD
 145 17,O1 146 (.load (some 7)) 22,LD 147 19,ON 148 .callv [.t 145,.t 146,.t 147,.c (i6 (-1))]]))))) (vS [MV 97 2,MV 98 13,LD 99 19,O2 100 (.idxA 1) 98 99,LD 101 100,O2 102
 (.idxA 4) 97 101,O1 103 (.load (some 4)) 102,⟨some 23,none,.alloc 11 43 [i6 0,.str [],i6 0,.str []],[]⟩,ST 4 23 103] ((C.draw (DT.uni ⟨some 104,none,.call 84 true,[]⟩ (DT.one
 ⟨some 105,none,.fldA 0,[.t 23]⟩ (DT.one ⟨some 106,none,.load none,[.t 105]⟩ (DT.one ⟨some 107,none,.aidx 4 1 none,[.t 104,.t 106]⟩ (DT.one ⟨some 108,none,.load (some 4),[.t 4]⟩
 (DT.one ⟨some 109,none,.load (some 3),[.t 20]⟩ (DT.one ⟨some 110,none,.load (some 4),[.t 23]⟩ (DT.uni ⟨some 111,none,.callv,[.t 107,.t 108,.t 109,.t 110]⟩ (DT.one ⟨some
 112,none,.len,[.t 111]⟩ (DT.one ⟨some 113,none,.mv,[.c (i6 0)]⟩ DT.nil))))))))))).seq (C.block 7 (vS [BI 114 .lss 113 112] ((vU 114 7).seq ((C.block 8 (vS [O2 115 (.idxA 7) 111
 113,O1 116 (.load (some 7)) 115,⟨some 25,none,.alloc 12 120 [.str [],.str [],.str [],i6 0,i6 0,.str [],i6 0],[]⟩,ST 7 25 116] (vW [LD 117 17,O1 118 (.load (some 7)) 25,LD 119
 19,MV 120 13,LD 121 19,O2 122 (.idxA 1) 120 121,LD 123 122,ON 124 .callv [.t 117,.t 118,.t 119,.t 123]]))).seq (vW [vN 125 .add 113 1,MV 113 125])))).loop)))))))))))).seq (vW
 [vN 149 .add 80 1,MV 80 149])))).loop)).seq ((vS [LD 150 16,O1 151 .len 150,vN 152 .gtr 151 1024] (vT 152 (vV [ON 8 (.nilo 1 7 36) [],vM 9 4]))).seq (vV [LD 153 16,MV 8 153,vM
 9 0])))))))))))))
theorem Tn:qJ Tryz.prog 25 154 16 [RV.tmp 8,RV.tmp 9] qdy:=fi Tryz.f25 [4,8,51,16,17,77,78,19,20,21,22,23,25,54,69,10] qno [16]
end
section
open Go Go.Proofs AF HY LN
namespace RC
def TT(x:Co)(l:List Un)(d:List Dc)(n:Nat):List Int:=(List.range l.length).map λk=>Sj x l d k n
theorem qeY(x:Co)(l:List Un)(d:List Dc)(n:Nat):(TT x l d n).length=l.length:=by unfold TT;simp
theorem qrT{x:Co}{l:List Un}{d:List Dc}{n k:Nat}(hk:k<l.length):(TT x l d n).getD k 0=Sj x l d k n:=by
 unfold TT;rw[gdqA,List.getElem?_map,List.getElem?_range hk];rfl
theorem qxL(x:Co)(l:List Un)(d:List Dc):TT x l d 0=List.replicate l.length (-1):=by
 unfold TT;refine List.ext_getElem (by simp) (λi h1 h2=> ?_);simp[Sj]
theorem qjB{x:Co}{l:List Un}{d:List Dc}{n k:Nat}(hk:k<l.length)(he:kK x l (d.getD n default)=k):TT x l d (n+1)=(TT x l d n).set k (n:Int):=by
 unfold TT;refine List.ext_getElem (by simp) (λi h1 h2=> ?_);rw[List.getElem_set];simp only[List.getElem_map,List.getElem_range]
 by_cases g:k=i
 ·subst g;rw[ipo rfl];unfold Sj;rw[ipo he]
 ·rw[ine g]
  conv=>lhs;unfold Sj
  rw[ine (by rw[he];omega)]
theorem qxZ{x:Co}{l:List Un}{d:List Dc}{i:Nat}(hi:i<d.length):(plG x l d d.length).getD i 0=kK x l (d.getD i default):=by
 unfold plG;rw[List.take_length,gdqA,List.getElem?_map,zG hi,gdqA,zG hi];rfl
structure EsS where
 k:Nat
 vb:Nat
 O7:AObj
 O8:AObj
 O9:AObj
 O10:AObj
 O11:AObj
 O12:AObj
def rwK(x:Co)(l:List Un)(d:List Dc)(s k:Nat):List Rw:=if k<=l.length then rwL x l d s k else rwA x l d s
def nxT(x:Co)(l:List Un)(k:Nat):Nat:=if k<=l.length then ju l k else x.col.length
theorem qb6{v n:Nat}{L:List Wd}{ty:TypeId}{fz:Nat->Bool}{h:we}{d:Nat}(hn:n=L.length):VLe (qfd (some (ze v ty (jv L))) v 7 0 n (rei fz h (d+1))) (Sl L):=by
 subst hn;unfold ze;split
 ·rename_i e
  have:L= []:=by
   cases L with
   |nil=>rfl
   |cons a r=>exact absurd e (by simp[jv,wdC])
  subst this;rw[slOf_emp,ipo rfl];exact qZ
 ·rw[slOf_mem,ipo ⟨rfl,by rw[qfw];omega⟩];refine VLe.sl_eq rfl (λi hi=> ?_);simp only[Nat.zero_add];rw[qfv hi];rfl
theorem qyl{x:Co}{l:List Un}{d:List Dc}{s:Nat}: ∀ {j k:Nat},k<=j->(rwL x l d s k).length<=(rwL x l d s j).length:=by
 intro j
 induction j with
 |zero=>
  intro k h;obtain rfl:k=0:=by omega
  exact nlr _
 |succ j ih=>
  intro k h
  by_cases e:k=j+1
  ·subst e;exact nlr _
  ·refine Nat.le_trans (ih (show k<=j by omega)) ?_
   conv=>rhs;unfold rwL
   rw[lap];omega
theorem qkA{x:Co}{l:List Un}{d:List Dc}{s k:Nat}(h:k<=l.length):(rwL x l d s k).length<=(rwA x l d s).length:=by
 refine Nat.le_trans (qyl h) ?_;unfold rwA;rw[lap];omega
theorem qsf{x:Co}{l:List Un}(ho:CoOk x)(hus:qal x l=true){k:Nat}(hk:k<l.length){o:Dc}(hE:qaF x l o=0): ∀p∈qg8 x l k o,PcF p:=by
 obtain⟨a1,a2,a3,a4,_⟩:=kA hus hk;obtain⟨p1,p2,p3,p4,p5,p6⟩:=Tq hE;intro p hp;unfold qg8 at hp;split at hp
 ·have:=(qdp p4).2.1
  exact SH ho this om p hp
 ·split at hp
  ·rename_i g;obtain⟨r1,r2,r3,r4⟩:=qeI p6 g;exact qp1 r2 p hp
  ·cases hp
theorem qsg{x:Co}{l:List Un}{d:List Dc}{s:Nat}(ho:CoOk x)(hus:qal x l=true)(hs:s<x.sig.length)(hpl: ∀i,i<d.length->qaF x l (d.getD i default)=0){k:Nat}(hk:k<l.length): ∀r∈rwU x l d s k,PcF r.p:=by
 obtain⟨a1,a2,a3,a4,_⟩:=kA hus hk;intro r hr;unfold rwU at hr;split at hr
 ·exact SH ho hs om _ (jL.1 hr).1
 ·rename_i g
  have:=qad x l d k d.length
  exact qsf ho hus hk (hpl _ om) _ (jL.1 hr).1
theorem qdW{x:Co}{l:List Un}{d:List Dc}{s:Nat}(ho:CoOk x)(hus:qal x l=true)(hs:s<x.sig.length)(hpl: ∀i,i<d.length->qaF x l (d.getD i default)=0): ∀ {k:Nat},k<=l.length-> ∀r∈rwL x l d s k,PcF r.p:=by
 intro k
 induction k with
 |zero=>intro _ r hr;cases hr
 |succ k ih=>
  intro hk r hr;obtain⟨a1,a2,a3,a4,_⟩:=kA hus (show k<l.length by omega);have a5:=qe2 hus (show k<l.length by omega);unfold rwL at hr;rcases List.mem_append.1 hr with hr|hr
  ·exact ih om r hr
  ·rcases List.mem_append.1 hr with hr|hr
   ·exact SH ho hs om _ (jL.1 hr).1
   ·exact qsg ho hus hs hpl om r hr
theorem qCP{hh:we}{j k v w:Nat}(n:Nat)(a:Int)(cs:wg)(hj:qt j hh=some (.mem v 3 (.int .i64 a::cs)))(hk:qt k hh=some (.emp w))(h0:0<n)(hl:n<=1000000000):
  ACalls Tryz.prog 79 [.osl j v 1 0 1,.int .i64 (n:Int)] hh (.osl k (w+1) 1 0 n) (qo k (qo j hh (.emp (v+1))) (.mem (w+1) 3 (qQ (List.replicate n a)))):=by
 have hne:j≠k:=λe=>by subst e;rw[hj]at hk;cases hk
 have hs:qI hh j=true:=by unfold qI;rw[hj]
 have e1:qaU [j] hh=qo j hh (.emp (v+1)):=by show qo j hh (.emp (qq (qt j hh)+1))=_;rw[hj];rfl
 have hk1:qt k (qo j hh (.emp (v+1)))=some (.emp w):=by rw[qP (λe=>hne e.symm)];exact hk
 refine ACalls.frzd [j] (by show (qI hh j&&true)=true;rw[hs];rfl) ?_;rw[e1];have h1:=qCQ a n (qo j hh (.emp (v+1))) k (by unfold qI;rw[hk1]) h0 hl;rw[hk1]at h1;refine h1.le ⟨?_,qi,trivial⟩ (qi);have hc:=qM hj;have e: [j].contains j=true:=by simp
 simp only[go_sem,e,if_true,hc];rw[hj,slOf_mem,ipo ⟨rfl,by simp⟩];refine VLe.sl_eq rfl (λi hi=> ?_);obtain rfl:i=0:=by omega
 rfl
theorem qCb(x:Co)(l:List Un)(d:List Dc)(s:Int)(h:we)(hz:qaN x)(hu:qdB l)(hp:kJ SG h)(hg:zQ h frmN frmC)(hl0:l≠ [])(hd:d.length<=1000000)(ht: ∀o∈d,o.txt.length<=1000)(hN0:vaE x l=0->(rwA x l d s.toNat).length<=1000000000):
  ACalls Tryz.prog 25 [.agg (coC x),zM l,kB d,.int .i64 s] h (.tup [Sl (esR x l d s),.int .i64 (esE x l d s)]) h:=by
 have c1:=λl'=>qmD x l (h++l') hz hu (hp.app l')
 have zu: ∀g l,valL g .len [zM l]= .int .i64 l.length:=λ_ _=>rfl
 have zv: ∀g l,okL g .len [zM l]=True:=λ_ _=>eqt trivial
 have zu1: ∀g l,valL g .len [strs l]= .int .i64 l.length:=λ_ _=>rfl
 have zv1: ∀g l,okL g .len [strs l]=True:=λ_ _=>eqt trivial
 have hE:esE x l d s=(if vaE x l≠0 then vaE x l else if s<0∨(x.sig.length:Int)<=s then 2 else if Ut x l d≠0 then Ut x l d else if 1024<(rwA x l d s.toNat).length then 4 else 0):=rfl;unfold esR
 by_cases g:vaE x l=0
 case neg=>
  have k1:(vaE x l=0)=False:=eqf g;rw[ipo g]at hE;rw[hE,ine g];unfold coC at c1;refine acO Tn ?_;simp (disch:=omega) only[qdy,coC,go_sem]
  repeat' first|(refine cA (c1 _) flk ?_;simp (disch:=omega) only[k1,go_sem])|(apply qb;exact rvk;simp only[go_sem])
  exact VLe.tup ⟨qZ,qi,trivial⟩
 rw[ine (by simpa using g)]at hE;have hN:=hN0 g;simp only[g]at c1;obtain⟨hca,hus,hcv⟩:=qdt g;have ho:=UH hca
 by_cases g2:s<0
 ·have k2:(s<0)=True:=eqt g2;rw[ipo (.inl g2)]at hE;rw[hE,ine (by decide)];unfold coC at c1;refine acO Tn ?_;simp (disch:=omega) only[qdy,coC,go_sem]
  repeat' first|(refine cA (c1 _) flk ?_;simp (disch:=omega) only[k2,go_sem])|(apply qb;exact rvk;simp only[go_sem])
  exact VLe.tup ⟨qZ,qi,trivial⟩
 have k2:(s<0)=False:=eqf g2
 by_cases g3:(x.sig.length:Int)<=s
 ·have k3:((x.sig.length:Int)<=s)=True:=eqt g3;rw[ipo (.inr g3)]at hE;rw[hE,ine (by decide)];unfold coC at c1;refine acO Tn ?_;simp (disch:=omega) only[qdy,coC,go_sem]
  repeat' first|(refine cA (c1 _) flk ?_;simp (disch:=omega) only[k2,k3,zu1,zv1,go_sem])|(apply qb;exact rvk;simp only[go_sem])
  exact VLe.tup ⟨qZ,qi,trivial⟩
 have k3:((x.sig.length:Int)<=s)=False:=eqf g3;rw[ine (λe=>e.elim g2 g3)]at hE;have c2:=λl'=>qAO x l d (h++l') hz hu (hp.app l') hg.app hca hd ht
 unfold qx2 at c2
 by_cases g4:Ut x l d=0
 case neg=>
  have k4:(Ut x l d=0)=False:=eqf g4;simp only[ine g4]at c2;rw[ipo g4]at hE;rw[hE,ine g4];unfold coC at c1 c2;refine acO Tn ?_;simp (disch:=omega) only[qdy,coC,go_sem]
  repeat' first|((first|refine cA (c1 _) ?_ ?_|refine cA (c2 _) ?_ ?_);exact flk;simp (disch:=omega) only[k2,k3,k4,zu1,zv1,go_sem])|(apply qb;exact rvk;simp only[go_sem])|with_reducible apply aiA|exact clz|fail
  exact VLe.tup ⟨qZ,qi,trivial⟩
 rw[ine (by simpa using g4)]at hE;simp only[g4,if_true]at c2;rw[hE];unfold coC at c1 c2;refine acO Tn ?_;simp (disch:=omega) only[qdy,coC,go_sem]
 repeat' first|((first|refine cA (c1 _) ?_ ?_|refine cA (c2 _) ?_ ?_);exact flk;simp (disch:=omega) only[k2,k3,zu1,zv1,zu,zv,go_sem])|with_reducible apply aiA|exact clz|fail
 have hlp:0<l.length:=List.length_pos_iff.2 hl0;refine qy (qCP (j:=h.length+2) (k:=h.length+13) (w:=0) l.length (-1) (List.drop 1 (zS [.int .i64 0] 1)) ?j1 ?j2 hlp hu.n) (by exact flk) ?_
 case j1=>simp only[go_sem]
 case j2=>simp only[go_sem]
 have zi: ∀g l,valL g .len [qG l]= .int .i64 l.length:=λ_ _=>rfl
 have zj: ∀g l,okL g .len [qG l]=True:=λ_ _=>eqt trivial
 have ePL:(plG x l d d.length).length=d.length:=by unfold plG;rw[List.length_map,List.take_length]
 simp (disch:=omega) only[zi,zj,ePL,go_sem];rw[<-qxL x l d];have hpl: ∀i,i<d.length->qaF x l (d.getD i default)=0:=by
  have:=g4
  unfold Ut at this;split at this
  ·cases this
  ·intro i hi;exact jJ.1 this i hi
 refine qr (T:=λi:Nat=>qX 154 [(1,zM l),(2,kB d),(3,.int .i64 s),(4,.op h.length 1 0),(13,.osl (h.length+13) 1 1 0 l.length),(55,.sl d.length λi=> [.int .i64 ((plG x l d d.length).getD i 0)]),(56,.int .i64 d.length),(57,.int .i64 i)])
  (H:=λi=>h++ [.mem 1 26 [.str x.sec,strs x.sig,qm x.tok,qw x.col],.emp 1,.emp 2,.emp 0,.emp 0,.emp 0,.emp 0,.emp 0,.emp 0,.emp 0,.emp 0,.emp 0,.emp 0,.mem 1 3 (qQ (TT x l d i)),.emp 0,.emp 0])
  (inv:=λi=>i<=d.length) (m:=λi=>d.length-i) 0 (nzl _) (Wk.temps ?_) ?_
 ·(simp only[go_sem,qg,qc,qa,qf];try (repeat' first|(with_reducible apply aiA)|(apply qh;omega)|(apply qd;rfl)|exact qi))
  have eI:qG (plG x l d d.length)= .sl d.length λi=> [.int .i64 ((plG x l d d.length).getD i 0)]:=by unfold qG;rw[ePL]
  rw[eI];exact qi
 rintro i i1 K hK;have hll:=qeY x l d i;have hlc:=jQ (TT x l d i)
 by_cases hi:i<d.length
 ·have q1:((i:Int)<d.length)=True:=wh;have q2:(0<=(i:Int))=True:=wh;have e0:=hpl i hi;obtain⟨_,_,_,_,p5,_⟩:=Tq e0;obtain⟨k,hk⟩: ∃k:Nat,kK x l (d.getD i default)=k:=⟨(kK x l (d.getD i default)).toNat,om⟩
  have hkl:k<l.length:=by
   have:=(qjc l (RQ x (zC x (d.getD i default).sig).toNat (d.getD i default).tok)).2
   have h2:fnU l (RQ x (zC x (d.getD i default).sig).toNat (d.getD i default).tok)=k:=hk;omega
  have q3:((k:Int)<l.length)=True:=wh;have q4:(0<=(k:Int))=True:=wh;have eA:=qxZ (x:=x) (l:=l) hi;rw[hk]at eA;have hst:=qjB (n:=i) hkl hk;simp (disch:=omega) only[q1,q2,q3,q4,eA,hlc,hll,go_sem]
  repeat' first|with_reducible apply aiA|exact clz|fail
  have eB:List.take k (qQ (TT x l d i))++ [AV.int .i64 (i:Int)]++List.drop (k+1) (qQ (TT x l d i))=qQ (TT x l d (i+1)):=by
   rw[hst];unfold qQ;rw[List.set_eq_take_append_cons_drop,ipo (by rw[hll];exact hkl)];simp[List.map_append,List.map_take,List.map_drop]
  rw[eB];refine hK _ _ (i+1) hi om (Wk.temps ?_)
  (simp only[go_sem,qg,qc,qa,qf];try (repeat' first|(with_reducible apply aiA)|(apply qh;omega)|(apply qd;rfl)|exact qi))
 ·have q1:((i:Int)<d.length)=False:=wi;obtain rfl:i=d.length:=by omega
  simp (disch:=omega) only[q1,go_sem];refine⟨_,_,Wk.ownNil (j:=h.length+3) (i:=0) (k:=h.length+15) (v:=1) (ty:=29) (cs:= [.nl]) (ve:=0) (sz:=7) ?m1 rfl ?m2,?_⟩
  case m1=>simp only[go_sem]
  case m2=>simp only[go_sem]
  have s1:=λh=>qk0 h l
  have eP:=qak l;simp (disch:=omega) only[List.set_cons_zero,go_sem];have hun:=hu.n;have bne5:(h.length+14 !=h.length+5)=true:=by simp
  have zc: ∀g l,valL g .len [qw l]= .int .i64 l.length:=λ_ _=>rfl
  have zd: ∀g l,okL g .len [qw l]=True:=λ_ _=>eqt trivial
  refine kh ?T ?H ?h1 ?h2
  case h1=>
   simp (disch:=omega) only[List.set_cons_zero,zc,zd,go_sem]
   repeat' first|(with_reducible apply aiA)|(refine qy (qB8 l _ (h.length+14) (by simp only[go_sem]) hl0 hu.n) (by exact flk) ?_;simp (disch:=omega) only[List.set_cons_zero,eP,zc,zd,go_sem])
   all_goals first
    |omega
    |rfl
    |exact bne5
  case h2=>
  simp (disch:=omega) only[go_sem];obtain⟨S,hS⟩: ∃S:Nat,s=S:=⟨s.toNat,om⟩
  subst hS;rw[itn]at hN ⊢;have hSl:S<x.sig.length:=by omega
  have eTk:List.take (l.length*3) (S4 l)=S4 l:=ltl om;rw[eTk];obtain⟨MC,hMC⟩:=wc (S4 l++ [AV.int .i64 x.col.length,.int .i64 x.col.length,.nl])
  have hMl:MC.length=(l.length+1)*3:=by rw[hMC];simp[eP];omega
  have eM1: ∀k,k<l.length->List.take 3 (List.drop (k*3) MC)=unC (l.getD k default):=λk hk=>by
   rw[hMC,List.drop_append_of_le_length om,List.take_append_of_le_length (by rw[List.length_drop];omega)];exact qfr hk
  have eM2:List.take 3 (List.drop (l.length*3) MC)= [AV.int .i64 x.col.length,.int .i64 x.col.length,.nl]:=by
   rw[hMC,List.drop_append,List.drop_eq_nil_of_le om,lna,eP,Nat.sub_self];rfl
  rw[<-hMC];obtain⟨O5,hO5⟩:=wc (AObj.mem 1 64 (AV.int .i64 x.col.length:: .int .i64 x.col.length:: .nl::List.drop 3 (zS [.int .i64 0,.int .i64 0,.nl] 1)))
  rw[<-hO5];obtain⟨LST,hLST⟩: ∃L,L=AObj.mem 1 3 (qQ (TT x l d d.length)):=⟨_,rfl⟩
  have hll:=qeY x l d d.length;have hlc:=jQ (TT x l d d.length);obtain⟨X0,hX0⟩:=wc (AObj.mem 1 26 [.str x.sec,strs x.sig,qm x.tok,qw x.col])
  have lX0: ∀n,lowO n X0:=by
   intro n;rw[hX0];intro c hc;simp at hc;rcases hc with rfl|rfl|rfl|rfl<;>rfl
  refine qr (T:=λi:EsS=>qX 154 [(1,zM l),(2,kB d),(3,.int .i64 (S:Int)),(4,.op h.length 1 0),(13,.osl (h.length+13) 1 1 0 l.length),(16,.op (h.length+3) 1 0),(17,.op (h.length+4) 1 0),(18,.int .i64 (nxT x l i.k:Int)),(78,.osl (h.length+14) 2 3 0 (l.length+1)),(79,.int .i64 ((l.length+1:Nat):Int)),(80,.int .i64 i.k)])
   (H:=λi=>h++ [.mem 1 26 [.str x.sec,strs x.sig,qm x.tok,qw x.col],.emp 1,.emp 2,.mem 1 29 [.osl (h.length+15) i.vb 7 0 (rwK x l d S i.k).length],.mem 1 121 [.fn (.func 80) [] [.op (h.length+3) 1 0]],O5,.emp 0,i.O7,i.O8,i.O9,i.O10,i.O11,i.O12,.mem 1 3 (qQ (TT x l d d.length)),.mem 2 64 MC,ze i.vb 36 (jv (bsW (rwK x l d S i.k)))])
   (inv:=λi=>i.k<=l.length+1∧ ∀O∈ [i.O7,i.O8,i.O9,i.O10,i.O11,i.O12],qI [O] 0=true∧ ∀n,lowO n O) (m:=λi=>l.length+1-i.k) ⟨0,0,.emp 0,.emp 0,.emp 0,.emp 0,.emp 0,.emp 0⟩ ⟨nzl _,λO hO=>by
    simp at hO;subst hO;exact⟨rfl,λ_=>trivial⟩⟩ (Wk.temps ?_) ?_
  ·(simp only[go_sem,qg,qc,qa,qf];try (repeat' first|(with_reducible apply aiA)|(apply qh;omega)|(apply qd;rfl)|exact qi))
   done
  rintro⟨k,vb,O7,O8,O9,O10,O11,O12⟩ ⟨i1,i2⟩ K hK;simp only at i1 i2 hK;obtain⟨s7,l7⟩:=i2 O7 (by simp);obtain⟨s8,l8⟩:=i2 O8 (by simp);obtain⟨s9,l9⟩:=i2 O9 (by simp);obtain⟨s10,l10⟩:=i2 O10 (by simp);obtain⟨s11,l11⟩:=i2 O11 (by simp);obtain⟨s12,l12⟩:=i2 O12 (by simp);have s7': ∀m,qI (O7::m) 0=true:=λ_=>s7
  have s8': ∀m,qI (O8::m) 0=true:=λ_=>s8
  by_cases hk:k<=l.length
  case neg=>
   have q1:((k:Int)<((l.length+1:Nat):Int))=False:=wi;have eR:rwK x l d S k=rwA x l d S:=by unfold rwK;rw[ine hk]
   rw[eR]
   by_cases g5:1024<(rwA x l d S).length
   ·have q5:((1024:Int)<(rwA x l d S).length)=True:=wh;simp only[ipo g5];simp (disch:=omega) only[q1,q5,go_sem]
    repeat' first|(apply qb;exact rvk;simp only[go_sem])|with_reducible apply aiA|exact clz|fail
    exact VLe.tup ⟨qZ,qi,trivial⟩
   ·have q5:((1024:Int)<(rwA x l d S).length)=False:=wi;simp only[ine g5];simp (disch:=omega) only[q1,q5,go_sem]
    repeat' first|(apply qb;exact rvk;simp only[go_sem])|with_reducible apply aiA|exact clz|fail
    exact VLe.tup ⟨qb6 (kX _).symm,qi,trivial⟩
  have q1:((k:Int)<((l.length+1:Nat):Int))=True:=wh;have q2:(0<=(k:Int))=True:=wh;have q3:(k*3+3<=MC.length)=True:=wh;have eR:rwK x l d S k=rwL x l d S k:=by unfold rwK;rw[ipo hk]
  have eN:nxT x l k=ju l k:=by unfold nxT;rw[ipo hk]
  rw[eR,eN];obtain⟨f,t',RV,eM,a5,a6,lRV,hA,hB⟩: ∃(f t':Nat) (RV:AV),List.take 3 (List.drop (k*3) MC)= [.int .i64 (f:Int),.int .i64 (t':Int),RV]∧ju l k<=f∧f<=x.col.length∧(∀n,qR n RV=true)∧(k<l.length->f=frN l k∧t'=toN l k∧RV=jq (l.getD k default).rds)∧(k=l.length->f=x.col.length∧t'=x.col.length):=by
   by_cases hkl:k<l.length
   ·obtain⟨a1,a2,a3,a4,_⟩:=kA hus hkl;have eM:=eM1 k hkl;unfold unC at eM;rw[a1,a2]at eM;exact⟨frN l k,toN l k,_,eM,qe2 hus hkl,om,λ_=>rfl,λ_=>⟨rfl,rfl,rfl⟩,λe=>by omega⟩
   ·obtain rfl:k=l.length:=by omega
    exact⟨x.col.length,x.col.length,.nl,eM2,qdY hus (nlr _),nlr _,λ_=>rfl,λe=>by omega,λ_=>⟨rfl,rfl⟩⟩
  have c3:=λh=>qyy x (ju l k) f S h
  have hit:=itS x S (ju l k) f hz ho hSl a6 a5;have hpF:=SH ho hSl (f:=ju l k) (d:=f-ju l k) om;obtain⟨ps,hps⟩:=wc (spk x S (ju l k) (f-ju l k))
  have hxl:(spX x S (ju l k) (f-ju l k))=ps.map λp=> [.agg (pcC p)]:=by unfold spX;rw[hps]
  rw[hxl]at hit;rw[<-hps]at hpF;unfold coC at c3 hit;simp (disch:=omega) only[q1,q2,q3,eM,s7',s8',go_sem]
  repeat' first|(refine cA (c3 _) flk ?_;simp (disch:=omega) only[go_sem])
  obtain⟨L0,hL0⟩:=wc (rwL x l d S k)
  have hLF: ∀r∈L0,PcF r.p:=by rw[hL0];exact qdW ho hus hSl hpl hk
  have hLn:(L0++rwM ps (-1) (-1)).length<=1000000000:=by
   refine Nat.le_trans ?_ hN
   by_cases hkl:k<l.length
   ·obtain⟨b1,_⟩:=hA hkl;refine Nat.le_trans ?_ (qkA (show k+1<=l.length by omega));rw[hL0,hps,b1]
    conv=>rhs;unfold rwL
    rw[lap,lap,lap];show _<=_+((rwM _ _ _).length+_);omega
   ·obtain⟨b1,_⟩:=hB om;have hke:k=l.length:=by omega
    rw[hL0,hps,b1,hke];exact nlr _
  rw[<-hL0];obtain⟨P7,hP7⟩:=wc (AObj.mem (qq (some O7)+1) 3 [.int .i64 (k:Int)])
  obtain⟨P8,hP8⟩:=wc (AObj.mem (qq (some O8)+1) 64 [.int .i64 (f:Int),.int .i64 (t':Int),RV])
  have hP7l:qI [P7] 0=true∧ ∀n,lowO n P7:=by
   rw[hP7];refine⟨rfl,λn c hc=> ?_⟩;rw[List.mem_singleton]at hc;subst hc;rfl
  have hP8l:qI [P8] 0=true∧ ∀n,lowO n P8:=by
   rw[hP8];refine⟨rfl,λn c hc=> ?_⟩;simp only[List.mem_cons,List.not_mem_nil,or_false]at hc;rcases hc with rfl|rfl|rfl
   ·rfl
   ·rfl
   ·exact lRV n
  have cP7: ∀m,cellsOf (P7::m) 0 (qq (some O7)+1)=some [.int .i64 (k:Int)]:=λm=>by rw[hP7];simp only[go_sem]
  rw[<-hP7,<-hP8];have lP: ∀L:List Rw,∀v n,lowO n (ze v 36 (jv (bsW L))):=λL v n=>jp (qam _ n)
  have hLow: ∀(L M:List Rw) (v w:Nat) O A,(∀n,lowO n A)->LowI (h++ [.mem 1 26 [.str x.sec,strs x.sig,qm x.tok,qw x.col],.emp 1,.emp 2,.mem 1 29 [.osl (h.length+15) w 7 0 M.length],.mem 1 121 [.fn (.func 80) [] [.op (h.length+3) 1 0]],O5,.emp 0,P7,P8,O,O10,O11,O12,.mem 1 3 (qQ (TT x l d d.length)),.mem 2 64 MC,ze w 36 (jv (bsW M))])
    (h++ [.mem 1 26 [.str x.sec,strs x.sig,qm x.tok,qw x.col],.emp 1,.emp 2,.mem 1 29 [.osl (h.length+15) v 7 0 L.length],.mem 1 121 [.fn (.func 80) [] [.op (h.length+3) 1 0]],O5,.emp 0,P7,P8,A,O10,O11,O12,.mem 1 3 (qQ (TT x l d d.length)),.mem 2 64 MC,ze v 36 (jv (bsW L))]):=λL M v w O A lA=>by
   refine⟨by simp,λo ho=> ?_⟩;rcases List.mem_append.1 ho with h1|h1
   ·exact .inl (List.mem_append_left _ h1)
   ·simp only[List.mem_cons,List.not_mem_nil,or_false]at h1;rcases h1 with rfl|rfl|rfl|rfl|rfl|rfl|rfl|rfl|rfl|rfl|rfl|rfl|rfl|rfl|rfl|rfl
    ·left;simp
    ·left;simp
    ·left;simp
    ·right;refine⟨λc hc=> ?_,λc hc=> ?_⟩<;>
     ·rw[List.mem_singleton]at hc;subst hc;simp[qR]
      try omega
    ·left;simp
    ·left;simp
    ·left;simp
    ·left;simp
    ·left;simp
    ·right;exact⟨lA _,lA _⟩
    ·left;simp
    ·left;simp
    ·left;simp
    ·left;simp
    ·left;simp
    ·right;exact⟨lP _ _ _,lP _ _ _⟩
  refine zg hit (λa ha=> ?_)
   (S:=λi hh=> ∃A,qI [A] 0=true∧(∀n,lowO n A)∧hh=h++ [.mem 1 26 [.str x.sec,strs x.sig,qm x.tok,qw x.col],.emp 1,.emp 2,.mem 1 29 [.osl (h.length+15) (vb+i) 7 0 (L0++rwM (ps.take i) (-1) (-1)).length],.mem 1 121 [.fn (.func 80) [] [.op (h.length+3) 1 0]],O5,.emp 0,P7,P8,A,O10,O11,O12,.mem 1 3 (qQ (TT x l d d.length)),.mem 2 64 MC,ze (vb+i) 36 (jv (bsW (L0++rwM (ps.take i) (-1) (-1))))]) (E:=λ_ _=>False) ?_ ?_ ?_ ?_ ?_ ?_ ?_
  ·obtain⟨c,_,rfl⟩:=List.mem_map.1 ha;rfl
  ·rintro i hh ⟨A,_,lA,rfl⟩;exact hLow _ _ _ _ _ _ lA
  ·intro s hh hf;exact hf.elim
  ·exact⟨O9,s9,l9,by simp[rwM]⟩
  ·simp[qR,qR.lowVs]
   repeat' apply aiA
   all_goals first|rfl|omega|exact lRV _
  ·rintro i hh tl LI TS hi ⟨A,sA,lA,rfl⟩ hlen K1 K2 hK1 hN1 hR1 hX1;have hi':i<ps.length:=by rw[List.length_map]at hi;exact hi
   rw[List.getElem_map];have sA': ∀m,qI (A::m) 0=true:=λ_=>sA
   have hS:L0++rwM (ps.take (i+1)) (-1) (-1)=(L0++rwM (ps.take i) (-1) (-1))++ [⟨ps.getD i default,-1,-1⟩]:=by
    unfold rwM;rw[List.take_add_one,zG hi',List.map_append,gdqA,zG hi',List.append_assoc];rfl
   have eG:ps[i]=ps.getD i default:=by rw[gdqA,zG hi'];rfl
   rw[eG];have hpm:ps.getD i default∈ps:=jc hi';obtain⟨p,hp'⟩:=wc (ps.getD i default)
   rw[<-hp']at hS hpm ⊢;obtain⟨M,hM⟩:=wc (L0++rwM (ps.take i) (-1) (-1))
   have hMF: ∀r∈M,PcF r.p:=λr hr=>by
    rw[hM]at hr;rcases List.mem_append.1 hr with hr|hr
    ·exact hLF r hr
    ·exact hpF _ (List.mem_of_mem_take (jL.1 hr).1)
   have hMn:M.length<=1000000000:=by
    rw[hM,lap,jD,List.length_take];rw[lap,jD]at hLn;omega
   rw[<-hM]at hS ⊢;simp only[kr,List.append_assoc,lca,lna];simp (disch:=omega) only[sA',pcC,tkC,go_sem];refine hK1 _ _ (h++ [.mem 1 26 [.str x.sec,strs x.sig,qm x.tok,qw x.col],.emp 1,.emp 2,.mem 1 29 [.osl (h.length+15) (vb+i) 7 0 M.length],.mem 1 121 [.fn (.func 80) [] [.op (h.length+3) 1 0]],O5,.emp 0,P7,P8,(.mem (qq (some A)+1) 120 (pcC p)),O10,O11,O12,.mem 1 3 (qQ (TT x l d d.length)),.mem 2 64 MC,ze (vb+i) 36 (jv (bsW M))]) ?_ ?_ ?_
   ·simp[pcC,tkC]
   ·simp
   ·simp only[List.append_assoc,lca,lna];simp (disch:=omega) only[pcC,tkC,go_sem]
    repeat' first|with_reducible apply aiA|exact clz|fail
    refine kg (qt2 (a:=h.length+3) (b:=h.length+15) (c:=h.length) (va:=1) (vb:=vb+i) (Z:= .mem 1 26 [.str x.sec,strs x.sig,qm x.tok,qw x.col]) ⟨by simp,by simp,by simp,om,om,om⟩ M p (-1) (-1) (by simp only[go_sem]) (by simp only[go_sem]) (by simp only[go_sem]) (by rw[<-hX0];exact lX0) (hpF p hpm) hMn hMF) ?_;simp (disch:=omega) only[go_sem];refine hN1 _ _ (h++ [.mem 1 26 [.str x.sec,strs x.sig,qm x.tok,qw x.col],.emp 1,.emp 2,.mem 1 29 [.osl (h.length+15) (vb+(i+1)) 7 0 (M++ [(⟨p,-1,-1⟩:Rw)]).length],.mem 1 121 [.fn (.func 80) [] [.op (h.length+3) 1 0]],O5,.emp 0,P7,P8,(.mem (qq (some A)+1) 120 (pcC p)),O10,O11,O12,.mem 1 3 (qQ (TT x l d d.length)),.mem 2 64 MC,ze (vb+(i+1)) 36 (jv (bsW (M++ [(⟨p,-1,-1⟩:Rw)])))]) ?_ ?_ ⟨_,rfl,?_,by rw[hS]⟩
    ·simp[pcC,tkC,Nat.add_assoc]
    ·simp
    ·intro n c hc;simp[pcC,tkC]at hc;rcases hc with rfl|rfl|rfl|rfl|rfl|rfl|rfl<;>rfl
  ·rintro hh ⟨A,sA,lA,rfl⟩;rw[List.length_map,List.take_length];obtain⟨L1,hL1⟩:=wc (L0++rwM ps (-1) (-1))
   rw[<-hL1]
   by_cases hkl:k<l.length
   case neg=>
    have hke:k=l.length:=by omega
    obtain⟨b1,b2⟩:=hB hke;have q4:((k:Int)=l.length)=True:=wh;rw[hP7,hP8];simp (disch:=omega) only[q4,zu,zv,go_sem]
    repeat' first|with_reducible apply aiA|exact clz|fail
    rw[<-hP7,<-hP8];have e1:rwK x l d S (k+1)=L1:=by
     unfold rwK;rw[ine om,hL1,hL0,hps,b1,hke];rfl
    have e2:nxT x l (k+1)=t':=by unfold nxT;rw[ine om,b2]
    refine hK _ _ ⟨k+1,vb+ps.length,P7,P8,A,O10,O11,O12⟩ ⟨by simp only;omega,λO hO=> ?_⟩ (by simp only;omega) ?_
    ·simp only[List.mem_cons,List.not_mem_nil,or_false]at hO;rcases hO with rfl|rfl|rfl|rfl|rfl|rfl
     ·exact hP7l
     ·exact hP8l
     ·exact⟨sA,lA⟩
     ·exact⟨s10,l10⟩
     ·exact⟨s11,l11⟩
     ·exact⟨s12,l12⟩
    ·simp only[e1,e2];refine Wk.temps ?_
     (simp only[go_sem,qg,qc,qa,qf];try (repeat' first|(with_reducible apply aiA)|(apply qh;omega)|(apply qd;rfl)|exact qi))
   obtain⟨b1,b2,b3⟩:=hA hkl;have q4:((k:Int)=l.length)=False:=wi;have q5:((k:Int)<l.length)=True:=wh;have q6:(k<l.length)=True:=eqt hkl;have eLs:(qQ (TT x l d d.length))[k]? =some (.int .i64 (Sj x l d k d.length)):=by
    unfold qQ
    have:=qrT (x:=x) (d:=d) (n:=d.length) hkl
    rw[List.getElem?_map,zG (by rw[hll];exact hkl)];rw[gdqA,zG (by rw[hll];exact hkl)]at this;rw[<-this];rfl
   obtain⟨D,hD⟩:=wc (Sj x l d k d.length)
   rw[<-hD]at eLs;rw[hP7,hP8]
   by_cases g6:D<0
   ·have q7:(D<0)=True:=eqt g6;have c4:=λh=>qyy x f t' S h
    unfold coC at c4;simp (disch:=omega) only[q2,q4,q5,q6,q7,hlc,hll,eLs,zu,zv,go_sem]
    repeat' first|(refine cA (c4 _) flk ?_;simp (disch:=omega) only[go_sem])|with_reducible apply aiA|exact clz|fail
    rw[<-hP7,<-hP8];obtain⟨A0,hA0⟩:=wc A
    rw[<-hA0];obtain⟨vc,hvc⟩:=wc (vb+ps.length)
    rw[<-hvc];obtain⟨_,_,a3,a4,_⟩:=kA hus hkl;have hit2:=itS x S f t' hz ho hSl om om;have hpF2:=SH ho hSl (f:=f) (d:=t'-f) om;obtain⟨qs,hqs⟩:=wc (spk x S f (t'-f))
    have hxl2:(spX x S f (t'-f))=qs.map λp=> [.agg (pcC p)]:=by unfold spX;rw[hqs]
    rw[hxl2]at hit2;rw[<-hqs]at hpF2;unfold coC at hit2;have eR1:rwK x l d S (k+1)=L1++rwM qs (k:Int) (-1):=by
     unfold rwK;rw[ipo om];show rwL x l d S k++(rwC x S (ju l k) (frN l k)++rwU x l d S k)=_;unfold rwU;rw[ipo (by rw[<-hD];exact g6),hL1,hL0,hps,hqs,b1,b2,List.append_assoc];rfl
    have hLF2: ∀r∈L1,PcF r.p:=λr hr=>by
     rw[hL1]at hr;rcases List.mem_append.1 hr with hr|hr
     ·exact hLF r hr
     ·exact hpF _ (jL.1 hr).1
    have hLn2:(L1++rwM qs (k:Int) (-1)).length<=1000000000:=by
     rw[<-eR1];unfold rwK;rw[ipo om];exact Nat.le_trans (qkA (show k+1<=l.length by omega)) hN
    have hLow2: ∀(L M:List Rw) (v w:Nat) O A,(∀n,lowO n A)->LowI (h++ [.mem 1 26 [.str x.sec,strs x.sig,qm x.tok,qw x.col],.emp 1,.emp 2,.mem 1 29 [.osl (h.length+15) w 7 0 M.length],.mem 1 121 [.fn (.func 80) [] [.op (h.length+3) 1 0]],O5,.emp 0,P7,P8,A0,O,O11,O12,.mem 1 3 (qQ (TT x l d d.length)),.mem 2 64 MC,ze w 36 (jv (bsW M))])
      (h++ [.mem 1 26 [.str x.sec,strs x.sig,qm x.tok,qw x.col],.emp 1,.emp 2,.mem 1 29 [.osl (h.length+15) v 7 0 L.length],.mem 1 121 [.fn (.func 80) [] [.op (h.length+3) 1 0]],O5,.emp 0,P7,P8,A0,A,O11,O12,.mem 1 3 (qQ (TT x l d d.length)),.mem 2 64 MC,ze v 36 (jv (bsW L))]):=λL M v w O A lA=>by
     refine⟨by simp,λo ho=> ?_⟩;rcases List.mem_append.1 ho with h1|h1
     ·exact .inl (List.mem_append_left _ h1)
     ·simp only[List.mem_cons,List.not_mem_nil,or_false]at h1;rcases h1 with rfl|rfl|rfl|rfl|rfl|rfl|rfl|rfl|rfl|rfl|rfl|rfl|rfl|rfl|rfl|rfl
      ·left;simp
      ·left;simp
      ·left;simp
      ·right;refine⟨λc hc=> ?_,λc hc=> ?_⟩<;>
       ·rw[List.mem_singleton]at hc;subst hc;simp[qR]
        try omega
      ·left;simp
      ·left;simp
      ·left;simp
      ·left;simp
      ·left;simp
      ·left;simp
      ·right;exact⟨lA _,lA _⟩
      ·left;simp
      ·left;simp
      ·left;simp
      ·left;simp
      ·right;exact⟨lP _ _ _,lP _ _ _⟩
    refine zg hit2 (λa ha=> ?_)
     (S:=λi hh=> ∃A,qI [A] 0=true∧(∀n,lowO n A)∧hh=h++ [.mem 1 26 [.str x.sec,strs x.sig,qm x.tok,qw x.col],.emp 1,.emp 2,.mem 1 29 [.osl (h.length+15) (vc+i) 7 0 (L1++rwM (qs.take i) (k:Int) (-1)).length],.mem 1 121 [.fn (.func 80) [] [.op (h.length+3) 1 0]],O5,.emp 0,P7,P8,A0,A,O11,O12,.mem 1 3 (qQ (TT x l d d.length)),.mem 2 64 MC,ze (vc+i) 36 (jv (bsW (L1++rwM (qs.take i) (k:Int) (-1))))]) (E:=λ_ _=>False) ?_ ?_ ?_ ?_ ?_ ?_ ?_
    ·obtain⟨c,_,rfl⟩:=List.mem_map.1 ha;rfl
    ·rintro i hh ⟨A,_,lA,rfl⟩;exact hLow2 _ _ _ _ _ _ lA
    ·intro s hh hf;exact hf.elim
    ·exact⟨O10,s10,l10,by simp[rwM]⟩
    ·simp[qR,qR.lowVs]
     repeat' apply aiA
     all_goals first|rfl|omega|exact lRV _
    ·rintro i hh tl LI TS hi ⟨A,sA,lA,rfl⟩ hlen K1 K2 hK1 hN1 hR1 hX1;have hi':i<qs.length:=by rw[List.length_map]at hi;exact hi
     rw[List.getElem_map];have sA': ∀m,qI (A::m) 0=true:=λ_=>sA
     have hS:L1++rwM (qs.take (i+1)) (k:Int) (-1)=(L1++rwM (qs.take i) (k:Int) (-1))++ [⟨qs.getD i default,(k:Int),-1⟩]:=by
      unfold rwM;rw[List.take_add_one,zG hi',List.map_append,gdqA,zG hi',List.append_assoc];rfl
     have eG:qs[i]=qs.getD i default:=by rw[gdqA,zG hi'];rfl
     rw[eG];have hpm:qs.getD i default∈qs:=jc hi';obtain⟨p,hp'⟩:=wc (qs.getD i default)
     rw[<-hp']at hS hpm ⊢;obtain⟨M,hM⟩:=wc (L1++rwM (qs.take i) (k:Int) (-1))
     have hMF: ∀r∈M,PcF r.p:=λr hr=>by
      rw[hM]at hr;rcases List.mem_append.1 hr with hr|hr
      ·exact hLF2 r hr
      ·exact hpF2 _ (List.mem_of_mem_take (jL.1 hr).1)
     have hMn:M.length<=1000000000:=by
      rw[hM,lap,jD,List.length_take];rw[lap,jD]at hLn2;omega
     rw[<-hM]at hS ⊢;simp only[kr,List.append_assoc,lca,lna];simp (disch:=omega) only[sA',pcC,tkC,go_sem];refine hK1 _ _ (h++ [.mem 1 26 [.str x.sec,strs x.sig,qm x.tok,qw x.col],.emp 1,.emp 2,.mem 1 29 [.osl (h.length+15) (vc+i) 7 0 M.length],.mem 1 121 [.fn (.func 80) [] [.op (h.length+3) 1 0]],O5,.emp 0,P7,P8,A0,(.mem (qq (some A)+1) 120 (pcC p)),O11,O12,.mem 1 3 (qQ (TT x l d d.length)),.mem 2 64 MC,ze (vc+i) 36 (jv (bsW M))]) ?_ ?_ ?_
     ·simp[pcC,tkC]
     ·simp
     ·simp only[List.append_assoc,lca,lna];simp (disch:=omega) only[pcC,tkC,cP7,go_sem]
      repeat' first|with_reducible apply aiA|exact clz|fail
      refine kg (qt2 (a:=h.length+3) (b:=h.length+15) (c:=h.length) (va:=1) (vb:=vc+i) (Z:= .mem 1 26 [.str x.sec,strs x.sig,qm x.tok,qw x.col]) ⟨by simp,by simp,by simp,om,om,om⟩ M p (k:Int) (-1) (by simp only[go_sem]) (by simp only[go_sem]) (by simp only[go_sem]) (by rw[<-hX0];exact lX0) (hpF2 p hpm) hMn hMF) ?_;simp (disch:=omega) only[go_sem];refine hN1 _ _ (h++ [.mem 1 26 [.str x.sec,strs x.sig,qm x.tok,qw x.col],.emp 1,.emp 2,.mem 1 29 [.osl (h.length+15) (vc+(i+1)) 7 0 (M++ [(⟨p,(k:Int),-1⟩:Rw)]).length],.mem 1 121 [.fn (.func 80) [] [.op (h.length+3) 1 0]],O5,.emp 0,P7,P8,A0,(.mem (qq (some A)+1) 120 (pcC p)),O11,O12,.mem 1 3 (qQ (TT x l d d.length)),.mem 2 64 MC,ze (vc+(i+1)) 36 (jv (bsW (M++ [(⟨p,(k:Int),-1⟩:Rw)])))]) ?_ ?_ ⟨_,rfl,?_,by rw[hS]⟩
      ·simp[pcC,tkC,Nat.add_assoc]
      ·simp
      ·intro n c hc;simp[pcC,tkC]at hc;rcases hc with rfl|rfl|rfl|rfl|rfl|rfl|rfl<;>rfl
    ·rintro hh ⟨B,sB,lB,rfl⟩;rw[List.length_map,List.take_length];simp (disch:=omega) only[go_sem];have e2:nxT x l (k+1)=t':=by
      unfold nxT;rw[ipo om,b2];unfold ju;rw[ine om,Nat.add_sub_cancel]
     refine hK _ _ ⟨k+1,vc+qs.length,P7,P8,A0,B,O11,O12⟩ ⟨by simp only;omega,λO hO=> ?_⟩ (by simp only;omega) ?_
     ·simp only[List.mem_cons,List.not_mem_nil,or_false]at hO;rcases hO with rfl|rfl|rfl|rfl|rfl|rfl
      ·exact hP7l
      ·exact hP8l
      ·rw[hA0];exact⟨sA,lA⟩
      ·exact⟨sB,lB⟩
      ·exact⟨s11,l11⟩
      ·exact⟨s12,l12⟩
     ·simp only[eR1,e2];refine Wk.temps ?_
      (simp only[go_sem,qg,qc,qa,qf];try (repeat' first|(with_reducible apply aiA)|(apply qh;omega)|(apply qd;rfl)|exact qi))
    ·intro e hh hf;exact hf.elim
   ·have q7:(D<0)=False:=eqf g6;obtain⟨j,hj⟩: ∃j:Nat,D=j:=⟨D.toNat,om⟩
    have hjd:j<d.length:=by
     have:=(qad x l d k d.length).2
     omega
    rw[hj]at eLs hD q7;have q8:(0<=(j:Int))=True:=wh;have q9:((j:Int)<d.length)=True:=wh;have s11': ∀m,qI (O11::m) 0=true:=λ_=>s11
    have e0:=hpl j hjd;have eU:kK x l (d.getD j default)=k:=qjA (n:=d.length) hD.symm;obtain⟨o,ho'⟩:=wc (d.getD j default)
    have eo:=ho'.symm;rw[eo]at e0 eU;have hot:o.txt.length<=1000:=ht o (by rw[ho'];exact jc hjd);obtain⟨p1,p2,p3,p4,p5,p6⟩:=Tq e0;have c5:=λh=>qCy h
    have zp: ∀g l,valL g .len [qcu l]= .int .i64 l.length:=λ_ _=>rfl
    have zq: ∀g l,okL g .len [qcu l]=True:=λ_ _=>eqt trivial
    have k7:(0<=o.kind)=True:=wh;have k8:(o.kind<4)=True:=wh;obtain⟨_,_,a3,a4,_⟩:=kA hus hkl;obtain⟨fid,qs,eIx,c6,eqs,hpF2⟩: ∃(fid:Nat) (qs:List Pc),[AV.nilfn,AV.fn (.func 136) [] [],AV.fn (.func 138) [] [],AV.fn (.func 140) [] []][Int.toNat o.kind]?.getD AV.undef= .fn (.func fid) [] []∧(∀l',ACalls Tryz.prog fid [.agg [.str x.sec,strs x.sig,qm x.tok,qw x.col],.agg [.int .i64 (f:Int),.int .i64 (t':Int),RV],.agg [.int .i64 o.kind,.str o.sig,.int .i64 o.tok,.str o.txt]] (h++l') (qcu qs) (h++l'))∧qs=qg8 x l k o∧ ∀p∈qs,PcF p:=by
     obtain⟨a1,a2,_⟩:=kA hus hkl;rcases (show o.kind=1∨o.kind=2∨o.kind=3 by omega)with g7|g7|g7
     ·obtain⟨S1,hS1⟩: ∃S1:Nat,zC x o.sig=S1:=⟨(zC x o.sig).toNat,by have:=(qdp p4).1;omega⟩
      have hS1l:S1<x.sig.length:=by have:=(qdp p4).2.1;omega
      refine⟨136,spk x S1 f (t'-f),by rw[g7];rfl,λl'=> ?_,?_,SH ho hS1l om⟩
      ·have c6:=qCv x (l.getD k default) o S1 f t' (h++l') hz ho hS1 hS1l (by rw[a1,b1]) (by rw[a2,b2]) om om;unfold coC unC dcC at c6;rw[a1,a2,<-b1,<-b2,<-b3]at c6;exact c6
      ·unfold qg8;rw[ipo g7,hS1,itn,b1,b2]
     ·obtain⟨r1,r2,r3,r4⟩:=qeI p6 g7;refine⟨138,cjP (qaJ o.txt) (f:Int),by rw[g7];rfl,λl'=> ?_,?_,qp1 r2⟩
      ·have c6:=qCw x (l.getD k default) o (h++l') hot r4 r1 r2 hg.app;unfold coC unC dcC at c6;rw[a1,a2,<-b1,<-b2,<-b3]at c6;exact c6
      ·unfold qg8 cjP;rw[ine (by rw[g7];decide),ipo g7,a1,b1]
     ·refine⟨140,[],by rw[g7];rfl,λl'=> ?_,?_,λp hp=>by cases hp⟩
      ·have c6:=qCx x (l.getD k default) o (h++l');unfold coC unC dcC at c6;rw[a1,a2,<-b1,<-b2,<-b3]at c6;exact c6
      ·unfold qg8;rw[ine (by rw[g7];decide),ine (by rw[g7];decide)]
    simp (disch:=omega) only[q2,q4,q5,q6,q7,q8,q9,hlc,hll,eLs,zu,zv,kB,dcC,eo,s11',go_sem]
    repeat' first|with_reducible apply aiA|exact clz|fail
    refine kh ?Ta ?Ha ?h1 ?h2
    case h1=>
     simp (disch:=omega) only[go_sem]
     repeat' first|(refine cU (λ_=>c5 _) flk ?_;simp (disch:=omega) only[k7,go_sem])|with_reducible apply aiA
     all_goals first
      |omega
      |rfl
      |skip
     rw[eIx];refine qih (c6 _) (by exact flk) ?_;simp (disch:=omega) only[zp,zq,go_sem]
     repeat' first|with_reducible apply aiA
     all_goals first
      |omega
      |rfl
      |skip
    case h2=>
    rw[<-hP7,<-hP8];obtain⟨P11,hP11⟩:=wc (AObj.mem (qq (some O11)+1) 43 [.int .i64 o.kind,.str o.sig,.int .i64 o.tok,.str o.txt])
    rw[<-hP11];have eR1:rwK x l d S (k+1)=L1++rwM qs (k:Int) (j:Int):=by
     unfold rwK;rw[ipo om];show rwL x l d S k++(rwC x S (ju l k) (frN l k)++rwU x l d S k)=_;unfold rwU;rw[<-hD,ine om,itn,eo,hL1,hL0,hps,eqs,b1,List.append_assoc];rfl
    have hLF2: ∀r∈L1,PcF r.p:=λr hr=>by
     rw[hL1]at hr;rcases List.mem_append.1 hr with hr|hr
     ·exact hLF r hr
     ·exact hpF _ (jL.1 hr).1
    have hLn2:(L1++rwM qs (k:Int) (j:Int)).length<=1000000000:=by
     rw[<-eR1];unfold rwK;rw[ipo om];exact Nat.le_trans (qkA (show k+1<=l.length by omega)) hN
    simp (disch:=omega) only[go_sem];have hqn:qs.length<=1000000000:=by rw[lap,jD]at hLn2;omega
    refine qr (T:=λi:Nat×AObj=>qX 154 [(1,zM l),(2,kB d),(3,.int .i64 (S:Int)),(4,.op h.length 1 0),(13,.osl (h.length+13) 1 1 0 l.length),(16,.op (h.length+3) 1 0),(17,.op (h.length+4) 1 0),(18,.int .i64 (t':Int)),(19,.op (h.length+7) (qq (some O7)+1) 0),(78,.osl (h.length+14) 2 3 0 (l.length+1)),(79,.int .i64 ((l.length+1:Nat):Int)),(80,.int .i64 (k:Int)),(111,qcu qs),(112,.int .i64 qs.length),(113,.int .i64 i.1)])
     (H:=λi=>h++ [.mem 1 26 [.str x.sec,strs x.sig,qm x.tok,qw x.col],.emp 1,.emp 2,.mem 1 29 [.osl (h.length+15) (vb+ps.length+i.1) 7 0 (L1++rwM (qs.take i.1) (k:Int) (j:Int)).length],.mem 1 121 [.fn (.func 80) [] [.op (h.length+3) 1 0]],O5,.emp 0,P7,P8,A,O10,P11,i.2,.mem 1 3 (qQ (TT x l d d.length)),.mem 2 64 MC,ze (vb+ps.length+i.1) 36 (jv (bsW (L1++rwM (qs.take i.1) (k:Int) (j:Int))))])
     (inv:=λi=>i.1<=qs.length∧qI [i.2] 0=true∧ ∀n,lowO n i.2) (m:=λi=>qs.length-i.1) (0,O12) ⟨nzl _,s12,l12⟩ ?_ ?_
    ·simp only[List.take_zero,rwM,List.map_nil,lan,Nat.add_zero];refine Wk.temps ?_
     (simp only[kB,dcC,go_sem,qg,qc,qa,qf];try (repeat' first|(with_reducible apply aiA)|(apply qh;omega)|(apply qd;rfl)|exact qi))
    rintro⟨i,B⟩ ⟨j1,j2,j3⟩ K3 hK3;simp only at j1 j2 j3 hK3;have j2': ∀m,qI (B::m) 0=true:=λ_=>j2
    by_cases hi:i<qs.length
    ·have w1:((i:Int)<qs.length)=True:=wh;have w2:(0<=(i:Int))=True:=wh;have hS:L1++rwM (qs.take (i+1)) (k:Int) (j:Int)=(L1++rwM (qs.take i) (k:Int) (j:Int))++ [⟨qs.getD i default,(k:Int),(j:Int)⟩]:=by
      unfold rwM;rw[List.take_add_one,zG hi,List.map_append,gdqA,zG hi,List.append_assoc];rfl
     have hpm:qs.getD i default∈qs:=jc hi;obtain⟨p,hp'⟩:=wc (qs.getD i default)
     have ep:=hp'.symm;rw[<-hp']at hS hpm;obtain⟨M,hM⟩:=wc (L1++rwM (qs.take i) (k:Int) (j:Int))
     have hMF: ∀r∈M,PcF r.p:=λr hr=>by
      rw[hM]at hr;rcases List.mem_append.1 hr with hr|hr
      ·exact hLF2 r hr
      ·exact hpF2 _ (List.mem_of_mem_take (jL.1 hr).1)
     have hMn:M.length<=1000000000:=by
      rw[hM,lap,jD,List.length_take];rw[lap,jD]at hLn2;omega
     rw[<-hM]at hS ⊢;simp (disch:=omega) only[qcu,pcC,tkC,w1,w2,ep,j2',cP7,q2,q5,q6,eLs,hlc,hll,go_sem]
     repeat' first|with_reducible apply aiA|exact clz|fail
     refine kg (qt2 (a:=h.length+3) (b:=h.length+15) (c:=h.length) (va:=1) (vb:=vb+ps.length+i) (Z:= .mem 1 26 [.str x.sec,strs x.sig,qm x.tok,qw x.col]) ⟨by simp,by simp,by simp,om,om,om⟩ M p (k:Int) (j:Int) (by simp only[go_sem]) (by simp only[go_sem]) (by simp only[go_sem]) (by rw[<-hX0];exact lX0) (hpF2 p hpm) hMn hMF) ?_;simp (disch:=omega) only[go_sem];refine hK3 _ _ (i+1,.mem (qq (some B)+1) 120 (pcC p)) ⟨hi,rfl,λn c hc=> ?_⟩ (by simp only;omega) ?_
     ·simp[pcC,tkC]at hc;rcases hc with rfl|rfl|rfl|rfl|rfl|rfl|rfl<;>rfl
     ·simp only[hS,pcC,tkC,lap,lco,lnl,lca,lna,Nat.zero_add];refine Wk.temps ?_
      (simp only[kB,dcC,go_sem,qg,qc,qa,qf];try (repeat' first|(with_reducible apply aiA)|(apply qh;omega)|(apply qd;rfl)|exact qi))
    ·have w1:((i:Int)<qs.length)=False:=wi;obtain rfl:i=qs.length:=by omega
     rw[List.take_length];simp (disch:=omega) only[w1,go_sem];have e2:nxT x l (k+1)=t':=by
      unfold nxT;rw[ipo om,b2];unfold ju;rw[ine om,Nat.add_sub_cancel]
     refine hK _ _ ⟨k+1,vb+ps.length+qs.length,P7,P8,A,O10,P11,B⟩ ⟨by simp only;omega,λO hO=> ?_⟩ (by simp only;omega) ?_
     ·simp only[List.mem_cons,List.not_mem_nil,or_false]at hO;rcases hO with rfl|rfl|rfl|rfl|rfl|rfl
      ·exact hP7l
      ·exact hP8l
      ·exact⟨sA,lA⟩
      ·exact⟨s10,l10⟩
      ·rw[hP11];refine⟨rfl,λn c hc=> ?_⟩;simp at hc;rcases hc with rfl|rfl|rfl|rfl<;>rfl
      ·exact⟨j2,j3⟩
     ·simp only[eR1,e2];refine Wk.temps ?_
      (simp only[go_sem,qg,qc,qa,qf];try (repeat' first|(with_reducible apply aiA)|(apply qh;omega)|(apply qd;rfl)|exact qi))
  ·intro e hh hf;exact hf.elim
def txG(p:Int->Bool)(b:List Wd):Nat->List Str
 |0=> []
 |i+1=>txG p b i++if p (b.getD i default).unit=true then [(b.getD i default).text] else []
theorem qs5(b:List Wd)(k:Int): ∀n,owG b k n=txG (λu=>decide (u=k)) b n:=by
 intro n
 induction n with
 |zero=>rfl
 |succ n ih=>
  unfold owG txG;rw[ih];congr 1
  by_cases g:(b.getD n default).unit=k
  ·rw[ipo g,ipo (dqt g)]
  ·rw[ine g,ine (by rw[dqf g];simp)]
def rwT(r:Rw):Str:=r.p.t.text
theorem qyG(p:Int->Bool)(L:List Rw): ∀n,n<=L.length->txG p (bsW L) n=((L.take n).filter λr=>p r.u).map rwT:=by
 intro n
 induction n with
 |zero=>intro _;rfl
 |succ n ih=>
  intro hn;unfold txG;rw[ih om,List.take_add_one,zG hn,Option.toList_some,List.filter_append,List.map_append,qpp hn];congr 1;have e:L.getD n default=L[n]:=by rw[gdqA,zG hn];rfl
  rw[e];show (if p L[n].u=true then [L[n].p.t.text] else [])=_;cases g:p L[n].u with
  |true=>rw[ipo rfl,List.filter_cons_of_pos (by rw[g])];rfl
  |false=>rw[ine (by simp),List.filter_cons_of_neg (by rw[g];simp)];rfl
theorem qs4(p:Int->Bool)(L:List Rw):txG p (bsW L) (bsW L).length=(L.filter λr=>p r.u).map rwT:=by
 rw[kX,qyG p L _ (nlr _),List.take_length]
theorem qcO{L:List Rw}{p:Rw->Bool}(h: ∀r∈L,p r=false):L.filter p= []:=List.filter_eq_nil_iff.2 λr hr=>by rw[h r hr];simp
theorem qmT{L:List Rw}{p:Rw->Bool}(h: ∀r∈L,p r=true):L.filter p=L:=List.filter_eq_self.2 h
def rwZ(x:Co)(l:List Un)(d:List Dc)(s k:Nat):Nat->List Rw
 |0=> []
 |n+1=>rwZ x l d s k n++(rwC x s (ju l (k+n)) (frN l (k+n))++rwU x l d s (k+n))
theorem qsJ(x:Co)(l:List Un)(d:List Dc)(s k:Nat): ∀n,rwL x l d s (k+n)=rwL x l d s k++rwZ x l d s k n:=by
 intro n
 induction n with
 |zero=>rw[Nat.add_zero];unfold rwZ;rw[lan]
 |succ n ih=>
  show rwL x l d s (k+n)++(rwC x s (ju l (k+n)) (frN l (k+n))++rwU x l d s (k+n))=rwL x l d s k++(rwZ x l d s k n++(rwC x s (ju l (k+n)) (frN l (k+n))++rwU x l d s (k+n)));rw[ih,List.append_assoc]
def rwF(x:Co)(l:List Un)(d:List Dc)(s k:Nat):List Rw:=rwL x l d s k++rwC x s (ju l k) (frN l k)
def rwE(x:Co)(l:List Un)(d:List Dc)(s k:Nat):List Rw:=rwZ x l d s (k+1) (l.length-(k+1))++rwC x s (ju l l.length) x.col.length
theorem qkC(x:Co)(l:List Un)(d:List Dc)(s:Nat){k:Nat}(hk:k<l.length):rwA x l d s=rwF x l d s k++(rwU x l d s k++rwE x l d s k):=by
 unfold rwA;have e:l.length=(k+1)+(l.length-(k+1)):=by omega
 have e1:=qsJ x l d s (k+1) (l.length-(k+1));rw[<-e]at e1;rw[e1];show (rwL x l d s k++(rwC x s (ju l k) (frN l k)++rwU x l d s k))++_++_=_;unfold rwF rwE;simp only[List.append_assoc]
theorem qAX{x:Co}{l:List Un}{d:List Dc}{s:Nat}(h:qaP x l d s){k:Nat}(hk:k<l.length){r:Rw}(hr:r∈rwF x l d s k):r.u<k:=by
 rcases List.mem_append.1 (show r∈rwL x l d s k++_ from hr)with hr|hr
 ·exact ((qyk h k om).1 r hr).2.2
 ·have:=(qdg h (show frN l k<=x.col.length by have:=kA h.us hk;omega) hr).1
  omega
theorem qAZ{x:Co}{l:List Un}{d:List Dc}{s:Nat}(h:qaP x l d s){k:Nat}: ∀n,k+n<=l.length-> ∀r∈rwZ x l d s k n,r.u<0∨(k:Int)<=r.u:=by
 intro n
 induction n with
 |zero=>intro _ r hr;cases hr
 |succ n ih=>
  intro hn r hr;rcases List.mem_append.1 (show r∈rwZ x l d s k n++_ from hr)with hr|hr
  ·exact ih om r hr
  ·rcases List.mem_append.1 hr with hr|hr
   ·have:=(qdg h (show frN l (k+n)<=x.col.length by have:=kA h.us (show k+n<l.length by omega);omega) hr).1
    omega
   ·have:=(qkF h (show k+n<l.length by omega) hr).u
    omega
theorem qAW{x:Co}{l:List Un}{d:List Dc}{s:Nat}(h:qaP x l d s){k:Nat}(hk:k<l.length){r:Rw}(hr:r∈rwE x l d s k):r.u<0∨(k:Int)<r.u:=by
 rcases List.mem_append.1 (show r∈rwZ x l d s (k+1) (l.length-(k+1))++_ from hr)with hr|hr
 ·have:=qAZ h (l.length-(k+1)) om r hr
  omega
 ·have:=(qdg h (nlr _) hr).1
  omega
theorem qxU{x:Co}{l:List Un}{d:List Dc}{s:Nat}(h:qaP x l d s){k:Nat}(hk:k<l.length):owG (bsW (rwA x l d s)) k (bsW (rwA x l d s)).length=(rwU x l d s k).map rwT:=by
 rw[qs5,qs4,qkC x l d s hk,List.filter_append,List.filter_append];rw[qcO (L:=rwF x l d s k) (λr hr=>dqf (by have:=qAX h hk hr;omega)),qmT (L:=rwU x l d s k) (λr hr=>dqt (qkF h hk hr).u),
  qcO (L:=rwE x l d s k) (λr hr=>dqf (by have:=qAW h hk hr;omega)),lna,lan]
theorem qfc(ps:List Pc)(u d:Int):(rwM ps u d).map rwT=ps.map λp=>p.t.text:=by unfold rwM;rw[List.map_map];rfl
theorem qou{x:Co}{l:List Un}{d:List Dc}{s k:Nat}:(rwU x l d s k).map rwT=
  if Sj x l d k d.length<0 then rdG x s (frN l k) (toN l k-frN l k)
  else if (d.getD (Sj x l d k d.length).toNat default).kind=1 then rdG x (zC x (d.getD (Sj x l d k d.length).toNat default).sig).toNat (frN l k) (toN l k-frN l k)
  else if (d.getD (Sj x l d k d.length).toNat default).kind=2 then (qaJ (d.getD (Sj x l d k d.length).toNat default).txt).map Tk.text else []:=by
 unfold rwU;split
 ·rw[qfc,qfg]
 ·rw[qfc];unfold qg8;split
  ·rw[qfg]
  ·split
   ·rw[List.map_map];rfl
   ·rfl
theorem qx8{x:Co}{l:List Un}(h:qal x l=true){k s:Nat}(hk:k<l.length)(hs:s<x.sig.length):
  ∃j,qoa (l.getD k default).rds s=(j:Nat)∧j<(l.getD k default).rds.length∧((l.getD k default).rds.getD j default).words=rdG x s (frN l k) (toN l k-frN l k)∧qe6 (l.getD k default).rds (rdG x s (frN l k) (toN l k-frN l k))=(j:Nat):=by
 obtain⟨_,_,_,_,e⟩:=kA h hk;have hi:=qoe x (frN l k) (toN l k);have hh:=qod x (frN l k) (toN l k);rw[e];obtain⟨j,h1,h2,h3,h4,h5⟩:=qsv hh hi hs;refine⟨j,h1,h2,h4,?_⟩;unfold qe6;refine SV h2 (λi hij=>dqf λhw=>hi.ne i j hij h2 ?_) (dqt h4.symm);rw[<-hw,h4]
def unF(x:Co)(r:Nat×Nat):Un:=⟨(r.1:Int),(r.2:Int),qbj x r.1 r.2⟩
def rnL(x:Co):List (Nat×Nat):=qbr (cmB x) x.col.length
def qhb(x:Co):List Un:=(rnL x).map (unF x)
theorem qos(p:Nat->Bool)(n:Nat): ∀d f,(kz p n d f).Pairwise λa b=>a.2<b.1:=by
 intro d
 induction d with
 |zero=>intro f;exact List.Pairwise.nil
 |succ d ih=>
  intro f;unfold kz;split
  ·exact List.Pairwise.nil
  ·rw[List.pairwise_append];refine⟨?_,ih _,λa ha b hb=> ?_⟩
   ·split
    ·exact List.pairwise_singleton _ _
    ·exact List.Pairwise.nil
   ·split at ha
    ·rw[List.mem_singleton]at ha;subst ha
     have:=((qb1 p n d (nxt p (n-f) f+1)).1 b hb).1
     show nxt p (n-f) f<b.1;omega
    ·cases ha
theorem qfs(x:Co):(qhb x).length=(rnL x).length:=by unfold qhb;rw[List.length_map]
theorem qeo{x:Co}{k:Nat}(hk:k<(rnL x).length):(qhb x).getD k default=unF x (rnL x)[k]:=by
 unfold qhb;rw[gdqA,List.getElem?_map,zG hk];rfl
theorem qp5{x:Co}{k:Nat}(hk:k<(rnL x).length):(rnL x)[k].1<(rnL x)[k].2∧(rnL x)[k].2<=x.col.length∧ ∀c,(rnL x)[k].1<=c->c<(rnL x)[k].2->cmB x c=false:=qky (List.getElem_mem hk)
theorem qlp(x:Co):qal x (qhb x)=true:=by
 unfold qal;rw[Bool.not_eq_true',qp];intro k hk;rw[qfs]at hk;rw[Bool.not_eq_false'];obtain⟨h1,h2,_⟩:=qp5 hk;refine qlm.2 ?_;rw[qeo hk];have hb:beH (qhb x) k<((rnL x)[k].1:Int):=by
  unfold beH;split
  ·omega
  ·rename_i h0;rw[qeo (show k-1<(rnL x).length by omega)]
   have:=List.pairwise_iff_getElem.1 (qos (cmB x) x.col.length (x.col.length+1) 0) (k-1) k (by show _<(rnL x).length;omega) hk om
   show ((rnL x)[k-1].2:Int)<_;have this:(rnL x)[k-1].2<(rnL x)[k].1:=this;omega
 refine⟨hb,?_,?_,?_,?_⟩
 ·show (0:Int)<=((rnL x)[k].1:Nat);omega
 ·show ((rnL x)[k].1:Int)<((rnL x)[k].2:Nat);omega
 ·show ((rnL x)[k].2:Int)<=_;omega
 ·show qbj x (rnL x)[k].1 (rnL x)[k].2=qbj x (((rnL x)[k].1:Nat):Int).toNat (((rnL x)[k].2:Nat):Int).toNat;rw[itn,itn]
theorem qnj{d:List Dc}{j:Nat}(ht: ∀o∈d,o.txt.length<=1000):(d.getD j default).txt.length<=1000:=by
 by_cases hj:j<d.length
 ·exact ht _ (jc hj)
 ·rw[gdqA,List.getElem?_eq_none om];exact nzl _
theorem qsK{x:Co}{l:List Un}{d:List Dc}{s k:Nat}(ht: ∀o∈d,o.txt.length<=1000):(rwU x l d s k).length<=(toN l k-frN l k)+1000:=by
 unfold rwU;split
 ·rw[jD]
  have:=qca x s (frN l k) (toN l k-frN l k)
  omega
 ·rw[jD];unfold qg8;split
  ·have:=qca x (zC x (d.getD (Sj x l d k d.length).toNat default).sig).toNat (frN l k) (toN l k-frN l k)
   omega
  ·split
   ·rw[List.length_map];have h1:=qce (d.getD (Sj x l d k d.length).toNat default).txt;have h2:=qnj (j:=(Sj x l d k d.length).toNat) ht;omega
   ·exact nzl _
theorem qkD(x:Co)(s f t:Nat):(rwC x s f t).length<=t-f:=by
 unfold rwC;rw[jD];exact qca x s f _
theorem qkE{x:Co}{l:List Un}{d:List Dc}{s:Nat}(h:qal x l=true)(ht: ∀o∈d,o.txt.length<=1000): ∀k,k<=l.length->(rwL x l d s k).length<=ju l k+1000*k∧k<=ju l k:=by
 intro k
 induction k with
 |zero=>intro _;exact⟨nzl _,nzl _⟩
 |succ k ih=>
  intro hk;obtain⟨i1,i2⟩:=ih om;have hp:=qe2 h (show k<l.length by omega);obtain⟨_,_,a3,a4,_⟩:=kA h (show k<l.length by omega);have u:=qsK (x:=x) (l:=l) (s:=s) (k:=k) ht;have c:=qkD x s (ju l k) (frN l k);rw[qe3];refine⟨?_,om⟩;show (rwL x l d s k++(rwC x s (ju l k) (frN l k)++rwU x l d s k)).length<=_;rw[lap,lap];omega
theorem qsI{x:Co}{l:List Un}{d:List Dc}{s:Nat}(h:qal x l=true)(ht: ∀o∈d,o.txt.length<=1000):(rwA x l d s).length<=1001*x.col.length:=by
 obtain⟨h1,h2⟩:=qkE (d:=d) (s:=s) h ht l.length (nlr _);have hp:=qdY h (nlr l.length);have c:=qkD x s (ju l l.length) x.col.length;unfold rwA;rw[lap];omega
theorem qkB{x:Co}{l:List Un}{d:List Dc}{s:Nat}(hc:x.col.length<=10000)(ht: ∀o∈d,o.txt.length<=1000)(h:vaE x l=0):(rwA x l d s).length<=1000000000:=by
 have:=qsI (d:=d) (s:=s) (qdt h).2.1 ht
 omega
end RC
end
section
open Go Go.Proofs AF
def qrK:List Nat:= []
@[go_sem]def vK:DT:= DT.one ⟨some 23,none,.app 4 3 64 40,[.t 14,.t 22]⟩ (DT.one ⟨none,none,.store 1,[.t 4,.t 23]⟩ DT.nil)
def qzz:C:=
 (vS [O1 1 (.box 0 26) 0,ON 2 (.nilo 1 3 64) [],vM 3 0] ((vS [O1 7 (.load (some 4)) 1,O1 8 (.call 67 true) 7,vN 9 .neq 8 0] (vT 9 (vV [ON 2 (.nilo 1 3 64) [],vM 3 1]))).seq (vS
 [⟨some 4,none,.alloc 2 28 [.nl],[]⟩] (((C.wk.seq (vW [O1 10 (.load (some 4)) 1,O1 11 (.call 89 true) 10])).seq (C.block 0 (C.range (.t 11) [12,13] (vS [MV 5 12] (vW [MV 6 13]))
 (C.block 1 (C.draw (DT.one ⟨some 15,none,.mv,[.t 5]⟩ (DT.one ⟨some 16,none,.mv,[.t 6]⟩ (DT.one ⟨some 17,none,.load (some 4),[.t 1]⟩ (DT.one ⟨some 18,none,.mv,[.t 5]⟩ (DT.one
 ⟨some 19,none,.mv,[.t 6]⟩ (DT.uni ⟨some 20,none,.call 90 true,[.t 17,.t 18,.t 19]⟩ (DT.one ⟨some 21,none,.build [i6 0,i6 0,.nl] [(0,1),(1,1),(2,1)],[.t 15,.t 16,.t 20]⟩
 ((DT.one ⟨some 14,none,.load none,[.t 4]⟩ (DT.one ⟨some 22,none,.bslc 3 3 1 64 [i6 0,i6 0,.nl] [(0,3)],[.t 21]⟩ vK)).two (DT.one ⟨some 22,none,.bslc 3 3 1 64 [i6 0,i6 0,.nl]
 [(0,3)],[.t 21]⟩ (DT.one ⟨some 14,none,.load none,[.t 4]⟩ vK))))))))))))))).seq (vV [LD 24 4,MV 2 24,vM 3 0])))))
theorem qw5:qJ Tryz.prog 31 25 5 [RV.tmp 2,RV.tmp 3] qzz:=fi Tryz.f31 [1,2,4,22,23] qrK [4]
end
section
open Go Go.Proofs AF HY LN
namespace RC
def utE(x:Co):Int:=if coE x=0 then 0 else 1
def utR(x:Co):List Un:=if coE x=0 then qhb x else []
theorem qoA{v n:Nat}{L:List Un}{ty:TypeId}{fz:Nat->Bool}{h:we}{d:Nat}(hn:n=L.length):VLe (qfd (some (ze v ty (S4 L))) v 3 0 n (rei fz h (d+1))) (zM L):=by
 subst hn;unfold ze;split
 ·rename_i e
  have:L= []:=by
   cases L with
   |nil=>rfl
   |cons a r=>exact absurd e (by simp[S4,unC])
  subst this;rw[slOf_emp,ipo rfl];exact qZ
 ·rw[slOf_mem,ipo ⟨rfl,by rw[qak];omega⟩];refine VLe.sl_eq rfl (λi hi=> ?_);simp only[Nat.zero_add];rw[qfr hi];rfl
theorem qA7(x:Co)(h:we)(hz:qaN x)(hp:kJ SG h):ACalls Tryz.prog 31 [.agg (coC x)] h (.tup [zM (utR x),.int .i64 (utE x)]) h:=by
 have c1:=λl'=>coP x (h++l') hz (hp.app l')
 unfold utE utR
 by_cases g:coE x=0
 case neg=>
  have k1:(coE x=0)=False:=eqf g;rw[ine g,ine g];obtain⟨e,he⟩:=wc (coE x)
  rw[<-he]at c1 k1;unfold coC at c1;refine acO qw5 ?_;simp (disch:=omega) only[qzz,coC,go_sem]
  repeat' first|(refine cA (c1 _) flk ?_;simp (disch:=omega) only[k1,go_sem])|(apply qb;exact rvk;simp only[go_sem])
  exact VLe.tup ⟨qZ,qi,trivial⟩
 rw[ipo g,ipo g];simp only[g]at c1;have ho:=UH g;have hn:=hz.cl;have c2:=λh=>qBL x h
 have lx: ∀n v ty,lowO n (.mem v ty (coC x)):=λn v ty=>qrR x n v ty
 unfold coC at c1 c2;refine acO qw5 ?_;simp (disch:=omega) only[qzz,coC,go_sem]
 repeat' first|(refine cA (c1 _) flk ?_;simp (disch:=omega) only[go_sem])
 refine⟨_,_,Wk.ownNil (j:=h.length+2) (i:=0) (k:=h.length+4) (v:=1) (ty:=28) (cs:= [.nl]) (ve:=0) (sz:=3) ?m1 rfl ?m2,?_⟩
 case m1=>simp only[go_sem]
 case m2=>simp only[go_sem]
 simp (disch:=omega) only[List.set_cons_zero,go_sem]
 repeat' first|(refine cA (c2 _) flk ?_;simp (disch:=omega) only[go_sem])
 have hrl:=qd0 x;have hrg:=λi hi=>qkt (x:=x) (i:=i) hi
 have hul:(qhb x).length=(qbr (cmB x) x.col.length).length:=qfs x;have hue:=λi (hi:i<(qbr (cmB x) x.col.length).length)=>qeo (x:=x) (k:=i) hi
 have hin:=λi (hi:i<(qbr (cmB x) x.col.length).length)=>qp5 (x:=x) (k:=i) hi
 have hle:(qhb x).length<=1000000000:=by
  have h1:=qkE (s:=0) (qlp x) (d:= []) (by simp) (qhb x).length (nlr _);have h2:=qdY (qlp x) (nlr (qhb x).length);omega
 unfold rnL at hue hin;obtain⟨rs,hrs⟩:=wc (qbr (cmB x) x.col.length)
 simp only[<-hrs]at hrl hrg hul hue hin;obtain⟨L,hL⟩:=wc (qhb x)
 simp only[<-hL]at hul hue hle ⊢;obtain⟨X0,hX0⟩:=wc (AObj.mem 1 26 [.str x.sec,strs x.sig,qm x.tok,qw x.col])
 refine zg (xs:=rnX x) (itR x ho hn) (qku x)
  (S:=λi hh=> ∃w O1,qI [O1] 0=true∧(∀n,lowO n O1)∧hh=h++ [.mem 1 26 (coC x),.emp 1,.mem 1 28 [.osl (h.length+4) w 3 0 i],O1,ze w 64 (S4 (L.take i))])
  (E:=λ_ _=>False) ?e1 (λ_ _ h=>h.elim) ?e2 ?e3 ?e4 ?e5 (λ_ _ h=>h.elim)
 case e1=>
  rintro i hh ⟨w,O1,_,l1,rfl⟩;refine LowI.app rfl (λo ho=> ?_);simp only[List.mem_cons,List.not_mem_nil,or_false]at ho;rcases ho with rfl|rfl|rfl|rfl|rfl
  ·left;simp[coC]
  ·left;simp
  ·right;constructor<;>(intro c hc;simp only[List.mem_cons,List.not_mem_nil,or_false]at hc;rcases hc with rfl;simp[qR])
  ·right;exact⟨l1 _,l1 _⟩
  ·right;exact⟨jp (qcf _ _),jp (qcf _ _)⟩
 case e2=>exact⟨0,.emp 0,rfl,λ_=>trivial,rfl⟩
 case e3=>
  have lt: ∀n,qR n (qm x.tok)=true:=λ_=>rfl
  have lc: ∀n,qR n (qw x.col)=true:=λ_=>rfl
  simp[qR,qR.lowVs,lt,lc,qeX]
  try omega
 case e4=>
  rintro i hh tl LI TS hi ⟨w,O1,p1,l1,rfl⟩ hlen K4 K5 hK4 hN hR' hX;rw[hrg i hi];rw[hrl]at hi;have e5:=hue i hi;obtain⟨f1,f2,_⟩:=hin i hi;have e6:rs.getD i (0,0)=rs[i]:=by rw[gdqA,zG hi];rfl
  rw[e6];have p1': ∀m,qI (O1::m) 0=true:=λ_=>p1
  have hTk:L.take (i+1)=L.take i++ [L.getD i default]:=by
   rw[List.take_add_one,zG om,gdqA,zG om];rfl
  rw[e5]at hTk;have hTl:(L.take i).length=i:=by rw[List.length_take];omega
  have eVl:=qak (L.take i);rw[hTl]at eVl;have eVk:List.take (i*3) (S4 (L.take i))=S4 (L.take i):=ltl om;obtain⟨⟨f,t⟩,hr⟩: ∃r,r=rs[i]:=⟨_,rfl⟩
  rw[<-hr]at hTk f1 f2 ⊢;have eVn:S4 (L.take (i+1))=S4 (L.take i)++ [.int .i64 (f:Int),.int .i64 (t:Int),jq (qbj x f t)]:=by rw[hTk,qo1,qo2];rfl
  have c48:=λh=>qBK x f t h ho f2 hn
  unfold coC at c48;have zr: ∀X,(jq X).cells= [jq X]:=λ_=>rfl
  have zm:List.drop 3 (zS [AV.int .i64 0,.int .i64 0,.nl] 1)= []:=rfl;have hi9:((i:Int)+1)*24<=140737488355328:=by omega
  simp only[kr];simp (disch:=omega) only[List.append_assoc,coC,go_sem];refine hK4 _ _ (h++ [.mem 1 26 (coC x),.emp 1,.mem 1 28 [.osl (h.length+4) w 3 0 i],O1,ze w 64 (S4 (L.take i))]) (by simp[coC]) (by simp) ?_;simp (disch:=omega) only[List.append_assoc,coC,go_sem];refine kh ?T ?H ?h1 ?h2
  case h1=>
   simp (disch:=omega) only[go_sem]
   repeat' first|(refine cU (λ_=>c48 _) flk ?_;simp (disch:=omega) only[p1',eVl,eVk,List.set_cons_zero,zr,zm,go_sem])|with_reducible apply aiA
   all_goals first
    |omega
    |rfl
    |(rw[bne_iff_ne];omega)
    |skip
  case h2=>
  simp (disch:=omega) only[go_sem];refine hN _ _ (h++ [.mem 1 26 (coC x),.emp 1,.mem 1 28 [.osl (h.length+4) (w+1) 3 0 (i+1)],.mem (qq (some O1)+1) 64 [.int .i64 (f:Int),.int .i64 (t:Int),jq (qbj x f t)],ze (w+1) 64 (S4 (L.take (i+1)))]) (by rw[eVn];simp[coC]) (by simp)
   ⟨w+1,_,rfl,?lw,rfl⟩
  case lw=>
  intro n c hc;simp only[List.mem_cons,List.not_mem_nil,or_false]at hc;rcases hc with rfl|rfl|rfl<;>rfl
 case e5=>
  rintro hh ⟨w,O1,p1,l1,rfl⟩;rw[hrl,<-hul,List.take_length];simp (disch:=omega) only[go_sem]
  repeat' first|(apply qb;exact rvk;simp only[go_sem])|with_reducible apply aiA|exact clz|fail
  exact VLe.tup ⟨qoA rfl,qi,trivial⟩
end RC
end
section
open Go Go.Proofs AF
end
section
open Go Go.Proofs AF HY LN
namespace RC
end RC
end
section
namespace Go.Proofs
open Go.Shelf
def Tryz.laysJ156_ren:Go.Shelf.Ren:=⟨fun|156=>61|165=>117|166=>118|169=>116|240=>159|241=>160|276=>208|277=>209|n=>n,fun|31=>22|9=>9|3=>3|4=>4|0=>0|20=>20|72=>158|76=>167|70=>155|37=>156|75=>166|127=>202|164=>240|5=>5|80=>163|n=>n,fun|n=>n⟩
theorem Tryz.laysJ156:Go.Proofs.Lays.n156 Tryz.prog Tryz.laysJ156_ren:= {
 mixed:=by kernel_rfl
 f156:=Tryz.func61.trans (congrArg some (by kernel_rfl))
 f165:=Tryz.func117.trans (congrArg some (by kernel_rfl))
 f166:=Tryz.func118.trans (congrArg some (by kernel_rfl))
 f169:=Tryz.func116.trans (congrArg some (by kernel_rfl))
 f240:=Tryz.func159.trans (congrArg some (by kernel_rfl))
 f241:=Tryz.func160.trans (congrArg some (by kernel_rfl))
 f276:=Tryz.func208.trans (congrArg some (by kernel_rfl))
 f277:=Tryz.func209.trans (congrArg some (by kernel_rfl))
 t0:=Tryz.underlying0
 a0:=Tryz.isAgg0
 z0:=Tryz.sizeOf0
 v0:=Tryz.zeroValue0
 t3:=Tryz.underlying3
 a3:=Tryz.isAgg3
 z3:=Tryz.sizeOf3
 v3:=Tryz.zeroValue3
 t4:=Tryz.underlying4
 a4:=Tryz.isAgg4
 z4:=Tryz.sizeOf4
 v4:=Tryz.zeroValue4
 t9:=Tryz.underlying9
 a9:=Tryz.isAgg9
 z9:=Tryz.sizeOf9
 v9:=Tryz.zeroValue9
 t20:=Tryz.underlying20
 a20:=Tryz.isAgg20
 z20:=Tryz.sizeOf20
 v20:=Tryz.zeroValue20
 t31:=Tryz.underlying22
 a31:=Tryz.isAgg22
 z31:=Tryz.sizeOf22
 v31:=Tryz.zeroValue22
 t37:=Tryz.underlying156
 a37:=Tryz.isAgg156
 z37:=Tryz.sizeOf156
 v37:=Tryz.zeroValue156
 t70:=Tryz.underlying155
 a70:=Tryz.isAgg155
 z70:=Tryz.sizeOf155
 v70:=Tryz.zeroValue155
 t72:=Tryz.underlying158
 a72:=Tryz.isAgg158
 z72:=Tryz.sizeOf158
 v72:=Tryz.zeroValue158
 t75:=Tryz.underlying166
 a75:=Tryz.isAgg166
 z75:=Tryz.sizeOf166
 v75:=Tryz.zeroValue166
 t76:=Tryz.underlying167
 a76:=Tryz.isAgg167
 z76:=Tryz.sizeOf167
 v76:=Tryz.zeroValue167
 t127:=Tryz.underlying202
 a127:=Tryz.isAgg202
 z127:=Tryz.sizeOf202
 v127:=Tryz.zeroValue202
 t164:=Tryz.underlying240
 a164:=Tryz.isAgg240
 z164:=Tryz.sizeOf240
 v164:=Tryz.zeroValue240 }
end Go.Proofs
end
section
open Go Go.Proofs AF HY LN
namespace RC
theorem Tryz.joinX:Builder.Extra Tryz.prog Tryz.laysJ156_ren:= {
 sizeBuilder:=by kernel_rfl
 liesBuilder:=by kernel_rfl
 t5:=Tryz.underlying5
 a5:=Tryz.isAgg5
 z5:=Tryz.sizeOf5
 v5:=Tryz.zeroValue5
 infoByte:=by kernel_rfl
 cellsByte:=by kernel_rfl
 sizeByte:=by kernel_rfl
 neB5:=by decide }
theorem qvG(l:List UInt8):(ByteArray.mk l.toArray).data.toList=l:=by simp
theorem joP(L:List Str)(sep:Str)(h:we)(hl:(Lib.join L sep).length<=1000000000)(hn:L.length<=1000000000):ACalls Tryz.prog 61 [strs L,.str sep] h (.str (Lib.join L sep)) h:=by
 refine⟨qnE Tryz.func61 (by kernel_rfl) (by kernel_rfl),λw σ xs H hv=> ?_⟩;obtain⟨x,y,rfl,hx,hy⟩:=hv.two;rw[jh hy];have hm:(L.map λs=>ByteArray.mk s.toArray).map (·.data.toList)=L:=by
  rw[List.map_map];exact (List.map_congr_left (λi _=>qvG i)).trans (List.map_id _)
 have hd:(ByteArray.mk sep.toArray).data.toList=sep:=qvG sep;have key:CallsIn Fence.wide 0 Tryz.prog 61 #[x,.string ⟨sep.toArray⟩] w λe w'=>e= .returned (.string ⟨(Lib.join L sep).toArray⟩)∧Go.RowKit.Below w.heap.size w w':=by
  rcases qtb hx with⟨h0,a,rfl⟩|⟨b,off,cap,rfl,h1,h2,h3⟩
  ·obtain rfl:=List.eq_nil_of_length_eq_zero h0;refine (callsIn_wide.2 (Any.strings_Join_none Tryz.laysJ156 Tryz.joinX a 0 ⟨sep.toArray⟩ w)).mono ?_;rintro e w' ⟨rfl,rfl⟩;exact⟨rfl,Go.RowKit.Below.refl _ _⟩
  ·have hln:(L.map λs=>ByteArray.mk s.toArray).length=L.length:=by simp
   have hc:=Any.strings_Join Tryz.laysJ156 Tryz.joinX b off cap (L.map λs=>ByteArray.mk s.toArray) ⟨sep.toArray⟩ w (λj x hj=>by
    rw[List.getElem?_map,Option.map_eq_some_iff]at hj;obtain⟨i,hi,rfl⟩:=hj;obtain⟨hlt,e⟩:=lgs.1 hi
    have:=h3 j hlt
    rw[this,gdqA,hi]
    rfl) h2 om om (by rw[hm,hd];omega)
   rw[hln,hm,hd]at hc;exact callsIn_wide.2 hc
 refine key.mono ?_;rintro e w' ⟨rfl,hb⟩;obtain⟨H',e'⟩:=Ext.ofBelow H hb;exact⟨_,σ,rfl,H',.imm .str,e'⟩
end RC
end
section
open Go Go.Proofs AF
end
section
open Go Go.Proofs AF HY LN
namespace RC
end RC
end
section
open Go Go.Proofs AF
end
section
open Go Go.Proofs AF HY LN
namespace RC
end RC
end
section
open Go Go.Proofs AF
def qrG:List Nat:= []
def qBn:C:=
 (vS [MC 2 (.bool false)] ((vS [vM 3 0] (C.block 0 ((vY 4 3 0 0).seq ((C.block 1 (vS [MV 10 0,MV 11 3,O2 12 (.idxA 4) 10 11,vL 13 1 12,LD 14 13,O1 15 .slen 14,vN 16 .gtr 15 30,MV
 17 16,vQ 18 17 0,vQ 19 17 3,vP 20 17 (.idxA 4) 18 19,vZ 21 17 3 20,v6 22 17 21,vO 23 17 .slen 22,vR 24 17 (.bin .gtr) 23 (i6 30),PT 25 17 24] (vT 25 (vV [MC 2 (.bool
 true)])))).seq (vX 8 3))).loop)).seq (vV [MV 26 0,O1 27 .len 26,vN 28 .gtr 27 6,MV 2 28])))
theorem qz9:qJ Tryz.prog 23 29 0 [RV.tmp 2] qBn:=fi Tryz.f23 [] qrG []
end
section
open Go Go.Proofs AF HY LN
namespace RC
def gDc(d:List Dc)(i:Nat):Bool:=decide (30<(d.getD i default).sig.length)||decide (30<(d.getD i default).txt.length)
def qrB(d:List Dc):Bool:=jo (gDc d) d.length||decide (6<d.length)
theorem qAw(b:List Dc)(h:we)(hn:b.length<=9223372036854775807):ACalls Tryz.prog 23 [kB b] h (.bool (qrB b)) h:=by
 obtain⟨R,hR⟩:=wc (qrB b)
 rw[<-hR];unfold qrB at hR;have zb:kB b= .sl b.length λi=>dcC (b.getD i default):=rfl
 refine acO qz9 ?_;simp (disch:=omega) only[qBn,go_sem];refine qr (T:=λi:Nat=>qX 29 [(0,kB b),(3,.int .i64 i)]) (H:=λ_=>h) (inv:=λi=>i<=b.length∧ ∀j,j<i->gDc b j=false) (m:=λi=>b.length-i) 0 ⟨nzl _,λj hj=>absurd hj (nnz j)⟩ (Wk.temps ?_) ?_
 ·(simp only[go_sem,qg,qc,qa,qf];try exact wa)
 rintro i ⟨i1,i2⟩ K hK
 by_cases hi:i<b.length
 ·have k1:((i:Int)<b.length)=True:=wh;have k0:(0<=(i:Int))=True:=wh;have hit:gDc b i=true->R=true:=λhc=>by rw[hR,qN.2 ⟨i,hi,hc⟩];rfl
  have i3:=λhc=>j9 (p:=gDc b) i2 hc
  have hG:gDc b i=(decide (30<(b.getD i default).sig.length)||decide (30<(b.getD i default).txt.length)):=rfl;obtain⟨w,hw⟩:=wc (b.getD i default)
  have ew:=hw.symm;rw[ew]at hG
  by_cases g1:30<w.sig.length
  ·have q1:((30:Int)<w.sig.length)=True:=wh;rw[hit (by rw[hG,dqt g1];rfl)];simp (disch:=omega) only[zb,dcC,k0,k1,ew,q1,go_sem]
   repeat' first|exact v8|fail
  have q1:((30:Int)<w.sig.length)=False:=wi
  by_cases g2:30<w.txt.length
  ·have q2:((30:Int)<w.txt.length)=True:=wh;rw[hit (by rw[hG,dqt g2,Bool.or_true])];simp (disch:=omega) only[zb,dcC,k0,k1,ew,q1,q2,go_sem]
   repeat' first|exact v8|with_reducible apply aiA|exact clz|fail
  have q2:((30:Int)<w.txt.length)=False:=wi;simp (disch:=omega) only[zb,dcC,k0,k1,ew,q1,q2,go_sem]
  repeat' first|with_reducible apply aiA|exact clz|fail
  refine hK _ _ (i+1) ⟨hi,i3 (by rw[hG,dqf g1,dqf g2];rfl)⟩ om (Wk.temps ?_)
  (simp only[zb,dcC,go_sem,qg,qc,qa,qf];try (repeat' first|(with_reducible apply aiA)|(apply qh;omega)|(apply qd;rfl)|exact qi))
 obtain rfl:i=b.length:=by omega
 have k1:((b.length:Int)<b.length)=False:=wi;rw[qp.2 (λj hj=>i2 j hj),Bool.false_or]at hR
 by_cases g:6<b.length
 ·have q:((6:Int)<b.length)=True:=wh;rw[dqt g]at hR;rw[hR];simp (disch:=omega) only[zb,k1,q,go_sem]
  repeat' first|exact v8|fail
 ·have q:((6:Int)<b.length)=False:=wi;rw[dqf g]at hR;rw[hR];simp (disch:=omega) only[zb,k1,q,go_sem]
  repeat' first|exact v8|fail
theorem qrC{d:List Dc}(h:qrB d=false):d.length<=6∧(∀j,(d.getD j default).sig.length<=30)∧ ∀o∈d,o.txt.length<=30:=by
 unfold qrB at h;rw[Bool.or_eq_false_iff,decide_eq_false_iff_not]at h;have key: ∀i,i<d.length-> ¬30<(d.getD i default).sig.length∧ ¬30<(d.getD i default).txt.length:=λi hi=>by
  have:=qp.1 h.1 i hi
  unfold gDc at this;rw[Bool.or_eq_false_iff,decide_eq_false_iff_not,decide_eq_false_iff_not]at this;exact this
 refine⟨om,jB d (λd=>d.sig.length<=30) (by decide) λi hi=>by have:=(key i hi).1;omega,λo ho=> ?_⟩;obtain⟨i,hi,rfl⟩:=List.getElem_of_mem ho
 have:=(key i hi).2
 rw[gdqA,zG hi]at this;simp only[Option.getD_some]at this;omega
structure Cq where
 x:Co
 l:List Un
 d:List Dc
 lead:Int
def cqC(a:Cq):wg:= [.str a.x.sec,strs a.x.sig,qm a.x.tok,qw a.x.col,zM a.l,kB a.d,.int .i64 a.lead]
structure CqB (a:Cq):Prop where
 x:CoB a.x
 l:UnB a.l
 d:a.d.length<=9223372036854775807
def qrA(a:Cq):Bool:=qry a.x||(qrz a.l||qrB a.d)
structure CqS (a:Cq):Prop where
 x:qaN a.x
 l:qdB a.l
 cl:a.x.col.length<=24
 sl:a.x.sig.length<=36
 ll:a.l.length<=12
 d:a.d.length<=6
 g: ∀j,(a.d.getD j default).sig.length<=30
 t: ∀o∈a.d,o.txt.length<=30
theorem qpR{a:Cq}(h:qrA a=false):CqS a:=by
 unfold qrA at h;rw[Bool.or_eq_false_iff,Bool.or_eq_false_iff]at h;obtain⟨h1,h2,h3⟩:=h;obtain⟨o1,o2,o3⟩:=qpP h1;obtain⟨u1,u2⟩:=qpQ h2;obtain⟨d1,d2,d3⟩:=qrC h3;exact⟨o1,u1,o2,o3,u2,d1,d2,d3⟩
theorem CqS.lim{a:Cq}(h:CqS a)(s:Nat)(g:vaE a.x a.l=0):(rwA a.x a.l a.d s).length<=1000000000:=
 qkB (by have:=h.cl;omega) (λo ho=>by have:=h.t o ho;omega) g
end RC
end
