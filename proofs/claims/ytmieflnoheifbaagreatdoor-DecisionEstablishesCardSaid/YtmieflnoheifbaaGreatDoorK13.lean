import Derived.Test.YtmieflnoheifbaaGreatDoorK12
import Derived.Test.YtmieflnoheifbaaGreatDoorK3
import Derived.Test.YtmieflnoheifbaaGreatDoorK5
import Derived.Test.YtmieflnoheifbaaGreatDoorK8
import Derived.Test.YtmieflnoheifbaaGreatDoorProg
set_option linter.all false
set_option maxHeartbeats 128000000
set_option maxRecDepth 100000
section
open Go Go.Proofs AF HY RC LN
namespace HY
theorem qDG(n:Nat)(hn:2<=n):liesAt Tryz.prog Tryz.prog.depth 333 (n/Tryz.prog.cellsOf 333) 0 333 1=true:=by
 have e1:Tryz.prog.cellsOf 333=2:=by kernel_rfl
 have h1:liesAt Tryz.prog Tryz.prog.depth 333 1 0 333 1=true:=by kernel_rfl
 rw[e1];exact qcu om _ h1
theorem ccS(kb vb:Nat)(A B:AV)(h:wh)(hk:qu kb h=some (.mem vb 333 [A,B]))(hA:A= .nilp∨A= .op kb vb 0):ACalls Tryz.prog 333 [.op kb vb 0] h (.tup []) (qt kb h (.mem vb 333 [.op kb vb 0,B])):=by
 refine⟨qt9 Tryz.func333 (by kernel_rfl) (by kernel_rfl),λw σ xs H hv=> ?_⟩;obtain⟨x,rfl,hx⟩:=hv.one;have hc:=qR hk;obtain⟨cs,o,b,arr,g1,rfl,g2,g3,g4,g5,g6,g7,g9,g8⟩:=kH H hx (by rw[hc];rfl);rw[hc]at g1;cases g1;have hobj:=H.obj kb _ o hk g2;obtain⟨_,hty,_⟩:=hobj;rw[hty]at g5;have g5b:=g5;have g5:=g5.plain (by decide);have hsz:2<=arr.size:=g7;have hc0:w.cell? ⟨b,0,none⟩=some arr[0]:=by rw[kh g5b];simp
 have hA0:=g8 0 A arr[0] rfl (by simp);have hsh:w.shape? b=some (333,arr.size):=by simp[World.shape?,g5]
 have hfz:w.frozen? ⟨b,0,none⟩=false:=by simp[World.frozen?,g5]
 have hkl:=zR hk;rcases hA with rfl|rfl
 ·rw[qed hA0]at hc0;refine (callsIn_wide.2 (qgB b 0 333 arr.size w hc0 om hsh hfz (qDG _ hsz))).mono ?_;rintro e w' ⟨rfl,rfl⟩;have hg:w.grownBy (w.setCell ⟨b,0,none⟩ (.pointer (some ⟨b,0,none⟩))) o.blk:=by rw[g4];exact grownBy_setCell' w b _
  have hh:=heap_setCell_same w b 0 arr 333 (.pointer (some ⟨b,0,none⟩)) g5;obtain⟨u1,u2⟩:=H.update (o':=o) (a':= .mem vb 333 [.op kb vb 0,B]) g2 hg (nlr _) (λ_=>rfl)
   (by intro b' e;rw[g4]at e;cases e;exact⟨.inl g4,(Array.getElem?_eq_some_iff.1 hh).1⟩) (λb' r e hr=>by rw[g4]at e;cases e;rw[g5]at hr;cases hr)
   (λe=>⟨g3,hty,b,_,g4,by rw[hty];exact .mk hh,by simp[g6],by simp;exact hsz,λi y hi hy=>by
    simp only[Array.getElem?_setIfInBounds]at hy;split at hy
    ·split at hy
     ·cases hy;rfl
     ·cases hy
    ·exact g9 i y (by simpa using hi) hy,λi c y hc hy=>by
    simp only[Array.getElem?_setIfInBounds]at hy;split at hy
    ·rename_i e0;split at hy
     ·cases hy;subst e0;simp at hc;subst hc;have hko:(σ.set kb o)[kb]? =some o:=by rw[List.getElem?_set_self (by rw[H.len];exact hkl)]
      exact .op o hko ⟨_,rfl⟩ om (λ_=>⟨b,g4,rfl⟩)
     ·cases hy
    ·rename_i e0;have hne:i≠0:=λe1=>e0 e1.symm
     have hcs: [.op kb vb 0,B]= [.nilp,B].set 0 (.op kb vb 0):=rfl;rw[hcs,List.getElem?_set_ne (λe1=>hne e1.symm)]at hc
     exact (g8 i c y hc hy).ext e⟩)
  exact⟨_,_,rfl,u1,.imm (.tup rfl (λi c x hc=>by simp at hc)),u2⟩
 ·obtain⟨o',q1,q2,q3⟩:=qvd hA0;rw[g2]at q1;cases q1;obtain⟨b',q4,q5⟩:=q3 g3;rw[g4]at q4;cases q4;rw[q5]at hc0;refine (callsIn_wide.2 (qkd b 0 w hc0)).mono ?_;rintro e w' ⟨rfl,rfl⟩;rw[jR hk];exact⟨_,σ,rfl,H,.imm (.tup rfl (λi c x hc=>by simp at hc)),Ext.refl w' σ⟩
theorem qdq{kb vb kj v m:Nat}{h:wh}{s:List UInt8}(hkl:kb<h.length)(hjl:kj<h.length): ∀o∈qt kj (qt kb h (.mem vb 333 [.op kb vb 0,.osl kj v 1 0 m])) (qcG v s),o∈h∨lowO h.length o:=by
 intro o ho;rcases jt ho with h1|rfl
 ·rcases jt h1 with h2|rfl
  ·exact .inl h2
  ·right;intro c hc;simp only[List.mem_cons,List.not_mem_nil,or_false]at hc;rcases hc with rfl|rfl
   ·simpa[qV] using hkl
   ·simpa[qV] using hjl
 ·exact .inr (jl v s _)
theorem qGP(kb vb kj v:Nat)(A:AV)(s u:List UInt8)(h:wh)(hne:kj≠kb)(hk:qu kb h=some (.mem vb 333 [A,.osl kj v 1 0 s.length]))(hA:A= .nilp∨A= .op kb vb 0)(hj:qu kj h=some (qcG v s))(hl:s.length+u.length<=140737488355328):
  ACalls Tryz.prog 277 [.op kb vb 0,.str u] h (.tup [.int .i64 u.length,.nilif]) (qt kj (qt kb h (.mem vb 333 [.op kb vb 0,.osl kj (v+1) 1 0 (s.length+u.length)])) (qcG (v+1) (s++u))):=by
 have hkl:=zR hk;have hjl:=zR hj;have hne':kb≠kj:=λe=>hne e.symm
 have hk1: ∀l,qu kb (h++l)=some (.mem vb 333 [A,.osl kj v 1 0 s.length]):=λl=>by rw[zL hkl,hk]
 refine acO qyV ?_;simp (disch:=omega) only[qwT,go_sem];refine qE (ccS kb vb A _ _ (hk1 _) hA) ⟨rfl,trivial⟩ ?_
 by_cases hs:s= []
 ·subst hs;rw[qb0]at hj;simp (disch:=omega) only[zN,jA,qT,qdA,qdB,qdT,qdU,zH,jp,qm,qc6,hj,go_sem];refine⟨om,⟨by simp,by simp at hl;omega⟩,?_⟩;rw[qdr hne',qsm];refine DV ⟨trivial,trivial,trivial⟩ (by simp only[qO]) (qdq hkl hjl) ⟨rfl,?_⟩ (qi);simp
 ·rw[qam hs]at hj;simp (disch:=omega) only[zN,jA,qT,qdA,qdB,qdT,qdU,zH,jp,qm,gG,hj,jK,go_sem]
  repeat' first|(with_reducible apply aiA)
  all_goals first
   |omega
   |(simp[jK];done)
   |skip
  rw[qdr hne',ltl (by simp[jK]),<-qcW,<-qam (by simp[hs])];exact DV ⟨trivial,trivial,trivial⟩ (by simp only[qO]) (qdq hkl hjl) ⟨rfl,rfl⟩ (qi)
theorem qGv(kb vb kj v:Nat)(A:AV)(s:List UInt8)(h:wh)(hne:kj≠kb)(hk:qu kb h=some (.mem vb 333 [A,.osl kj v 1 0 s.length]))(hj:qu kj h=some (qcG v s)):
  ACalls Tryz.prog 278 [.op kb vb 0] h (.str s) (qt kj h (.emp (v+1))):=by
 refine⟨qt9 Tryz.func278 (by kernel_rfl) (by kernel_rfl),λw σ xs H hv=> ?_⟩;obtain⟨x,rfl,hx⟩:=hv.one;have hc:=qR hk;obtain⟨cs,o,b,arr,g1,rfl,g2,g3,g4,g5,g6,g7,g9,g8⟩:=kH H hx (by rw[hc];rfl);rw[hc]at g1;cases g1;have hty:=(H.obj kb _ o hk g2).2.1;rw[hty]at g5;have g5b:=g5;have g5:=g5.plain (by decide);have hsz:2<=arr.size:=g7;have hc1:w.cell? ⟨b,0+1,none⟩=some arr[0+1]:=by rw[kh g5b];simp
 have hB:=g8 (0+1) _ arr[0+1] rfl (by simp);obtain⟨oj,j1,j2,j3⟩:=qnD hB;have hobj:=H.obj kj _ oj hj j1;have hkj:=zR hj
 by_cases hs:s= []
 ·subst hs;rw[qb0]at hj hobj;obtain⟨m1,m2⟩:=hobj;rcases j3 m1 with⟨_,_,_,e⟩|⟨b',cap,e,_⟩
  ·rw[e]at hc1;refine (callsIn_wide.2 (qhi b 0 w hc1)).mono ?_;rintro e w' ⟨rfl,rfl⟩;obtain⟨u1,u2⟩:=H.update (w':=w.drew) (o':= { oj with blk:=none,ver:=v+1 }) (a':= .emp (v+1)) j1 ⟨rfl,rfl,rfl,nlr _,λ_ _ _=>rfl⟩ (by simp only;omega) (by simp only;omega) (by intro b' e;cases e) (λb' r e hr=>⟨r,hr⟩) (λ_=>⟨rfl,rfl⟩);exact⟨_,_,rfl,u1,.imm .str,u2⟩
  ·rw[m2]at e;cases e
 ·rw[qam hs]at hj hobj;obtain⟨m1,m2,bj,arrj,m3,m4,m5,m6,m7,m8⟩:=hobj;rcases j3 m1 with⟨e,_⟩|⟨b',cap,e1,e2,e3,e4,e5⟩
  ·rw[m3]at e;cases e
  ·rw[m3]at e1;cases e1;rw[e2]at hc1;rw[m2]at m4;have m4b:=m4;have m4:=m4.plain (by decide);rw[jK]at m6;refine (callsIn_wide.2 (qhj b 0 bj cap s arrj w hs hc1 m4 e3 e4 om (λj x hx=> ?_))).mono ?_
   ·have hjl:j<s.length:=(lgs.1 hx).1;rw[kh m4b];have ea:arrj[j]? =some arrj[j]:=by simp
    have:=m8 j (.int .u8 x.toNat) arrj[j] (by simp[zQ,hx]) ea
    rw[ea,zV this]
   ·rintro e w' ⟨rfl,rfl⟩;have hg:w.grownBy (w.drew.freeze ⟨bj,0,none⟩ s.length) oj.blk:=by
     rw[m3];exact qbD w bj s.length
    obtain⟨u1,u2⟩:=H.update (o':= { oj with blk:=none,ver:=v+1 }) (a':= .emp (v+1)) j1 hg (by simp only;omega) (by simp only;omega) (by intro b' e;cases e)
     (λb' r e hr=>by rw[m3]at e;cases e;rw[m4]at hr;cases hr) (λ_=>⟨rfl,rfl⟩)
    exact⟨_,_,rfl,u1,.imm .str,u2⟩
end HY
end
section
open Go Go.Proofs AF
def qbj:List Nat:= [277,278,377,347,287,344,288,345,290]
def qxp:C:=
 (vU [MV 7 0,O1 8 .len 7,vO 9 0] (C.block 0 (vU [BI 10 .lss 9 8] ((vW 10 0).seq ((C.block 1 (vU [O2 11 (.idxA 4) 7 9,O1 12 (.load (some 4)) 11,⟨some 5,none,.alloc 0 234 [i6
 0,.str [],i6 0,.nl],[]⟩,ST 4 5 12] (vU [vN 13 0 5,LD 14 13,O1 15 (.gix 4 12 4) 14,O1 16 (.load (some 4)) 15,⟨some 6,none,.alloc 1 414 [.str [],.bool false,.bool false,.bool
 false],[]⟩,ST 4 6 16] (C.block 2 (vU [vN 26 0 5,LD 27 26,vP 28 .eql 27 1,MV 25 28] (C.cond (.t 25) (vY [vN 29 1 5,LD 30 29,O2 31 (.call 277 false) 1 30]) (vU [vN 33 3 6,LD 34
 33,MV 32 34] (C.cond (.t 32) (vU [vN 35 0 6,LD 36 35,ON 37 (.bin .add) [.c (.str [60]),.t 36],O1 38 (.load (some 4)) 5,O1 39 (.call 375 true) 38,BI 40 .add 37 39,BC 41 .add 40
 (.str [62]),O2 42 (.call 277 false) 1 41] (vU [LD 43 2,vN 44 3 5,LD 45 44,O2 46 .callv 43 45] (vY [vN 47 0 6,LD 48 47,ON 49 (.bin .add) [.c (.str [60,47]),.t 48],BC 50 .add 49
 (.str [62]),O2 51 (.call 277 false) 1 50]))) (vY [vN 17 0 6,LD 18 17,ON 19 (.bin .add) [.c (.str [60]),.t 18],O1 20 (.load (some 4)) 5,O1 21 (.call 375 true) 20,BI 22 .add 19
 21,BC 23 .add 22 (.str [47,62]),O2 24 (.call 277 false) 1 23]))))))))).seq (vY [vP 52 .add 9 1,MV 9 52])))).loop))
theorem qzv:qG Tryz.prog 374 53 2 [] qxp:=fi Tryz.f374 [5,6] qbj []
@[go_sem]def vh:DT:= DT.one ⟨some 22,none,.nilchk,[.t 10]⟩ (DT.one ⟨some 23,none,.fldA 5,[.t 22]⟩ (DT.one ⟨none,none,.store 1,[.t 23,.t 19]⟩ DT.nil))
@[go_sem]def vg:DT:= DT.one ⟨some 17,some (15,false),.load none,[.t 16]⟩ (DT.one ⟨some 18,some (15,false),.bin .eql,[.t 17,.c (i6 5)]⟩ (DT.one ⟨some 19,none,.pick,[.t 15,.c (.bool true),.t 18]⟩ vh))
def qw1:C:=
 (vU [O1 3 (.box 0 348) 1] (vU [vN 5 0 3,LD 6 5] (C.block 0 (vU [vP 25 .eql 6 1,MV 24 25] (C.cond (.t 24) (vY [MV 26 0,O1 27 (.load (some 7)) 3,O2 28 (.call 344 false) 26 27])
 (vU [vP 30 .eql 6 6,MV 29 30] (C.cond (.t 29) (vU [MV 31 0,O1 32 (.call 288 false) 31] (vU [vO 4 2] ((vU [vN 33 5 3,LD 34 33] (vV 34 (vY [MV 35 4,vP 36 .or 35 1,MV 4 36]))).seq
 (vU [MV 37 0,O1 38 (.load (some 7)) 3,MV 39 4,ON 40 (.call 345 false) [.t 37,.t 38,.t 39]] (vY [MV 41 0,O1 42 (.call 346 true) 41,vN 43 2 3,LD 44 43,O1 45 (.call 116 true)
 44,ON 46 (.bin .add) [.c (.str [91]),.t 45],BC 47 .add 46 (.str [93]),O1 48 .nilchk 42,vN 49 0 48,ST 1 49 47]))))) (vU [MV 7 0,O1 8 (.call 288 false) 7] (C.draw (DT.one ⟨some
 9,none,.mv,[.t 0]⟩ (DT.one ⟨some 10,none,.mv,[.t 0]⟩ (DT.one ⟨some 11,none,.mv,[.t 0]⟩ (DT.one ⟨some 12,none,.nilchk,[.t 11]⟩ (DT.one ⟨some 13,none,.fldA 5,[.t 12]⟩ (DT.one
 ⟨some 14,none,.load none,[.t 13]⟩ (DT.one ⟨some 15,none,.mv,[.t 14]⟩ (DT.one ⟨some 20,none,.nilchk,[.t 9]⟩ (DT.one ⟨some 21,none,.fldA 4,[.t 20]⟩ ((DT.one ⟨some 16,some
 (15,false),.fldA 0,[.t 3]⟩ ((DT.one ⟨some 17,some (15,false),.load none,[.t 16]⟩ (DT.one ⟨some 18,some (15,false),.bin .eql,[.t 17,.c (i6 5)]⟩ (DT.one ⟨some 19,none,.pick,[.t
 15,.c (.bool true),.t 18]⟩ (DT.one ⟨none,none,.store 1,[.t 21,.c (.bool false)]⟩ vh)))).two (DT.one ⟨none,none,.store 1,[.t 21,.c (.bool false)]⟩ vg))).two (DT.one
 ⟨none,none,.store 1,[.t 21,.c (.bool false)]⟩ (DT.one ⟨some 16,some (15,false),.fldA 0,[.t 3]⟩ vg)))))))))))))))))))))
theorem qy4:qG Tryz.prog 287 50 1 [] qw1:=fi Tryz.f287 [3] qbj []
def qsy:C:=
 ((vU [MV 2 0,O1 3 .nilchk 2,vN 4 3 3,LD 5 4] (vV 5 (vY [MV 6 0,O1 7 (.call 346 true) 6,MV 8 0,O1 9 .nilchk 8,vN 10 1 9,O1 11 (.call 278 false) 10,O1 12 .nilchk 7,vN 13 0 12,ST 1
 13 11]))).seq (vU [MV 14 0,O1 15 .nilchk 14,vN 16 3 15,⟨none,none,.store 1,[.t 16,.c (.bool false)]⟩] (vY [MV 17 0,O1 18 .nilchk 17,vN 19 1 18,O1 20 (.call 347 false) 19])))
theorem qrv:qG Tryz.prog 288 21 0 [] qsy:=fi Tryz.f288 [] qbj []
@[go_sem]def vk:DT:= DT.one ⟨some 38,none,.app 2 6 119 80,[.t 30,.t 37]⟩ (DT.one ⟨some 39,none,.nilchk,[.t 26]⟩ (DT.one ⟨some 40,none,.fldA 0,[.t 39]⟩ (DT.one ⟨none,none,.store 1,[.t 40,.t 38]⟩
 DT.nil)))
@[go_sem]def vm:DT:= DT.one ⟨some 30,none,.load none,[.t 29]⟩ vk
def qoi:C:=
 (vU [O1 4 (.box 0 348) 1] ((vU [MV 6 0,O1 7 .nilchk 6,vN 8 4 7,LD 9 8,MV 10 9,MG 11 10 true 0,P1 12 10 true .nilchk 11,P1 13 10 true (.fldA 0) 12,P1 14 10 true (.load none)
 13,P1 15 10 true .len 14,PC 16 10 true (.bin .gtr) 15 (i6 0),PF 17 10 16] (vV 17 (vY [MV 18 2,vP 19 .or 18 16,MV 2 19]))).seq ((vU [MV 20 0,O1 21 .nilchk 20,vN 22 5 21,LD 23
 22] (vV 23 (vY [MV 24 2,vP 25 .or 24 4,MV 2 25]))).seq ((C.draw (DT.one ⟨some 26,none,.mv,[.t 0]⟩ (DT.one ⟨some 27,none,.mv,[.t 0]⟩ (DT.one ⟨some 31,none,.fldA 3,[.t 4]⟩
 (DT.one ⟨some 32,none,.load (some 2),[.t 31]⟩ (DT.one ⟨some 33,none,.mv,[.t 2]⟩ (DT.one ⟨some 34,none,.fldA 6,[.t 4]⟩ (DT.one ⟨some 35,none,.load none,[.t 34]⟩ (DT.one ⟨some
 36,none,.build [.str [],.str [],.str [],i6 0,i6 0,.str []] [(2,2),(4,1),(5,1)],[.t 32,.t 33,.t 35]⟩ ((DT.one ⟨some 28,none,.nilchk,[.t 27]⟩ ((DT.one ⟨some 29,none,.fldA 0,[.t
 28]⟩ ((DT.one ⟨some 30,none,.load none,[.t 29]⟩ (DT.one ⟨some 37,none,.bslc 1 6 1 119 [.str [],.str [],.str [],i6 0,i6 0,.str []] [(0,6)],[.t 36]⟩ vk)).two (DT.one ⟨some
 37,none,.bslc 1 6 1 119 [.str [],.str [],.str [],i6 0,i6 0,.str []] [(0,6)],[.t 36]⟩ vm))).two (DT.one ⟨some 37,none,.bslc 1 6 1 119 [.str [],.str [],.str [],i6 0,i6 0,.str []]
 [(0,6)],[.t 36]⟩ (DT.one ⟨some 29,none,.fldA 0,[.t 28]⟩ vm)))).two (DT.one ⟨some 37,none,.bslc 1 6 1 119 [.str [],.str [],.str [],i6 0,i6 0,.str []] [(0,6)],[.t 36]⟩ (DT.one
 ⟨some 28,none,.nilchk,[.t 27]⟩ (DT.one ⟨some 29,none,.fldA 0,[.t 28]⟩ vm))))))))))))).seq (vY [MV 41 0,MV 42 0,O1 43 .nilchk 41,vN 44 4 43,⟨none,none,.store 1,[.t 44,.c (.bool
 true)]⟩,O1 45 .nilchk 42,vN 46 5 45,⟨none,none,.store 1,[.t 46,.c (.bool false)]⟩])))))
theorem qk7:qG Tryz.prog 345 47 3 [] qoi:=fi Tryz.f345 [4,37,38] qbj []
def qxh:C:=
 (vU [MV 2 0,O1 3 .nilchk 2,vN 4 0 3,⟨none,none,.store 1,[.t 4,.c .nilp]⟩] (vY [MV 5 0,O1 6 .nilchk 5,vN 7 1 6,⟨none,none,.store 1,[.t 7,.c .nl]⟩]))
theorem qzn:qG Tryz.prog 347 8 0 [] qxh:=fi Tryz.f347 [] qbj []
def qw2:C:=
 (vU [ON 4 (.nilo 0 6 119) [],vO 5 0] ((vU [MV 9 1,O1 10 .len 9,vO 11 0] (C.block 0 (vU [BI 12 .lss 11 10] ((vW 12 0).seq ((C.block 1 (vU [MV 13 11,MV 6 13] (vU [MV 14 1,MV 15
 6,MV 16 1,MV 17 6,O2 18 (.idxA 6) 16 17,vN 19 0 18,LD 20 19,O2 21 (.idxA 6) 14 15,vN 22 1 21,ST 1 22 20] ((vU [MV 23 1,MV 24 6,O2 25 (.idxA 6) 23 24,O1 26 (.load (some 6))
 25,O1 27 (.call 258 true) 26,O1 28 (.un UnOp.not) 27] (vV 28 (C.exit 1))).seq (vU [MV 30 0,MV 31 1,MV 32 6,O2 33 (.idxA 6) 31 32,vN 34 0 33,LD 35 34,O2 36 (.call 348 true) 30
 35,MV 29 36,O1 37 (.ext 0) 29,O1 38 (.ext 1) 29,MV 7 37,MV 8 38] ((vU [MV 39 8,vP 40 .neq 39 0] (vV 40 (vX [MV 41 8,ON 4 (.nilo 0 6 119) [],MV 5 41]))).seq (vY [MV 42 1,MV 43
 6,MV 44 7,O2 45 (.idxA 6) 42 43,vN 46 1 45,ST 1 46 44]))))))).seq (vY [vP 47 .add 11 1,MV 11 47])))).loop)).seq (vX [MV 48 1,MV 4 48,vO 5 0])))
theorem qy6:qG Tryz.prog 290 49 1 [RV.tmp 4,RV.tmp 5] qw2:=fi Tryz.f290 [4] qbj []
end
section
open Go Go.Proofs AF HY LN
namespace RC
theorem itN(s:Str):qnH Tryz.prog 372 [.ip [zY s]] [[.agg (plC s)]]:=by
 intro h ts LI S E hS hE body start hts;have hb:(h++ [AObj.lp LS.ready ts LI]).length=h.length+1:=by simp
 have ea: ∀st,h++ [AObj.lp st ts LI]++ [.mem 1 411 [.yld h.length],.mem 1 412 [.fn (.func 373) [] [.op (h.length+1) 1 0,.op (h.length+2) 1 0]]]=h++ [AObj.lp st ts LI,cyl h.length,cwk h.length]:=λst=>by simp[cyl,cwk]
 refine acQ qzu ?_;simp (disch:=omega) only[qxo,zY,go_sem]
 repeat' first|with_reducible apply aiA|exact clz|fail
 simp only[hb,Nat.add_assoc,Nat.reduceAdd,ea];refine qj8 (wlk1 s h ts LI S E hS hE body start hts) ?_;rintro v h' ⟨hh',⟨rfl,hn,rfl⟩|⟨st,rfl,hs',rfl⟩⟩
 ·simp (disch:=omega) only[go_sem];obtain⟨r1,r2⟩:=(hS _ _ hn).retX (L:=LI) (xs:= []) .ready hts;have eO:hh'++ [.lp .ready ts LI,cyl h.length,cwk h.length]=(hh'++ [.lp .ready ts LI])++ [cyl h.length,cwk h.length]:=by simp
  rw[eO];exact zX trivial r1 r2 ⟨hh',.inl ⟨hn,rfl⟩⟩ (qi)
 ·simp (disch:=omega) only[go_sem];obtain⟨r1,r2⟩:=(hE _ _ hs').retX (L:=LI) (xs:= []) st hts;have eO:hh'++ [.lp st ts LI,cyl h.length,cwk h.length]=(hh'++ [.lp st ts LI])++ [cyl h.length,cwk h.length]:=by simp
  rw[eO];exact zX trivial r1 r2 ⟨hh',.inr ⟨st,hs',rfl⟩⟩ (qi)
theorem quq(s:Str)(h:wh):ACalls Tryz.prog 338 [zY s] h (.fn (.func 372) [] [.ip [zY s]]) h:=by
 refine acO qzh ?_;simp (disch:=omega) only[qxb,zY,ndC,go_sem]
 repeat' first|exact wa|fail
theorem qGr(n:Int)(k v:Nat)(h:wh)(hk:qu k h=some (.mem v 3 [.int .i64 n]))(h0:1<=n)(h1:n<=4096):ACalls Tryz.prog 337 [.op k v 0] h (.bool true) (qt k h (.mem v 3 [.int .i64 (n-1)])):=by
 have hkl:=zR hk;have c1:=qR hk;have k1:(0<=n-1)=True:=wj;have ht:qnO (qu k h)=3:=by rw[hk];rfl
 refine acO qzg ?_;simp (disch:=omega) only[qxa,c1,k1,go_sem]
 repeat' first|with_reducible apply aiA|exact clz|fail
 rw[ht];exact qgN ⟨trivial,trivial⟩ qO (qpn (λn c hc=>by simp at hc;subst hc;rfl)) ⟨rfl,rfl⟩ (qi)
theorem qfS(s:Str)(v:Nat)(ty:TypeId): ∀n,lowO n (.mem v ty (plC s)):=λn c hc=>by
 simp[plC]at hc;rcases hc with rfl|rfl|rfl|rfl|rfl|rfl<;>rfl
theorem qEW(s:Str)(k:Int)(h:wh)(h1:2<=k)(h2:k<=11)(hc: ∀l,ACalls Tryz.prog 283 [zY s] (h++l) (.int .i64 0) (h++l)):ACalls Tryz.prog 285 [zY s,.int .i64 k] h (.tup [.int .i64 0,.int .i64 0]) h:=by
 have c1:=λh=>quq s h
 have k1:(k<1)=False:=wl;have k2:(11<k)=False:=wl;have k3:((1:Int)=k)=False:=wl;unfold zY at c1 hc;refine acO qy2 ?_;simp (disch:=omega) only[qwZ,zY,go_sem]
 repeat' first|((first|refine cA (hc _) ?_ ?_|refine cA (c1 _) ?_ ?_);exact flk;simp (disch:=omega) only[k1,k2,go_sem])|with_reducible apply aiA|exact clz|fail
 refine zJ (xs:= [[.agg (plC s)]]) (itN s) (by simp)
  (S:=λi hh=> ∃O,qz [O] 0=true∧(∀n,lowO n O)∧hh=h++ [.mem 1 3 [.int .i64 k],.mem 1 3 [.int .i64 0],O]) (E:=λ_ _=>False) ?_ ?_ ?_ ?_ ?_ ?_ ?_
 ·rintro i hh ⟨O,_,l1,rfl⟩;refine LowI.app rfl (λo ho=> ?_);simp only[List.mem_cons,List.not_mem_nil,or_false]at ho;rcases ho with rfl|rfl|rfl
  ·left;simp
  ·left;simp
  ·right;exact⟨l1 _,l1 _⟩
 ·intro s hh hf;exact hf.elim
 ·exact⟨.emp 0,rfl,λ_=>trivial,rfl⟩
 ·simp[qV,qV.lowVs]
  try omega
 ·rintro i hh tl LI TS hi ⟨O,s1,l1,rfl⟩ hlen K K2 hK hN hR' hX;obtain rfl:i=0:=by simp at hi;omega
  have s1': ∀m,qz (O::m) 0=true:=λ_=>s1
  show ze _ _ _ _ (kN _ _ [.agg (plC s)]) _;simp only[kN];simp (disch:=omega) only[List.append_assoc,plC,s1',go_sem];refine hK _ _ (h++ [.mem 1 3 [.int .i64 k],.mem 1 3 [.int .i64 0],.mem (qo (some O)+1) 386 (plC s)]) (by simp[plC]) (by simp) ?_;simp (disch:=omega) only[List.append_assoc,plC,k3,go_sem]
  repeat' first|with_reducible apply aiA|exact clz|fail
  refine hN _ _ (h++ [.mem 1 3 [.int .i64 k],.mem 1 3 [.int .i64 0],.mem (qo (some O)+1) 386 (plC s)]) (by simp[plC]) (by simp) ⟨.mem (qo (some O)+1) 386 (plC s),rfl,qfS s _ _,rfl⟩
 ·rintro hh ⟨O,s1,l1,rfl⟩;simp (disch:=omega) only[go_sem]
  repeat' first|exact wa|with_reducible apply aiA|exact clz|fail
 ·intro e hh hf;exact hf.elim
end RC
end
section
open Go Go.Proofs AF
def qtE:List Nat:= [277,278,377,347,287,344,288,345,290]
def qxd:C:=
 (vU [MC 2 (.str [])] (vU [⟨some 3,none,.alloc 0 333 [.nilp,.nl],[]⟩] (vU [⟨some 4,none,.alloc 1 416 [.nilfn],[]⟩] (vU [O2 5 (.mkfn (Fn.func 374) 0) 3 4,ST 1 4 5] ((C.wk.seq (vY
 [LD 6 4,MV 7 0,O2 8 .callv 6 7])).seq (vX [O1 9 (.call 278 false) 3,MV 2 9]))))))
theorem qzj:qG Tryz.prog 340 10 3 [RV.tmp 2] qxd:=fi Tryz.f340 [3,4,8] qtE [4]
end
section
open Go Go.Proofs AF HY LN
namespace RC
theorem qGQ(s:Str)(kb vb kj v kw:Nat)(h:wh)(hne:kj≠kb)(hk:qu kb h=some (.mem vb 333 [.nilp,.osl kj v 1 0 0]))(hj:qu kj h=some (.emp v))(hl:s.length<=1000000)(hs:s≠ [])(hg:jf h frmN frmC):
  ACalls Tryz.prog 374 [zY s,.op kb vb 0,.op kw 1 0] h (.tup []) (qt kj (qt kb h (.mem vb 333 [.op kb vb 0,.osl kj (v+1) 1 0 s.length])) (qcG (v+1) s)):=by
 have hkl:=zR hk;have hjl:=zR hj;refine acO qzv ?_;simp (disch:=omega) only[qxp,zY,ndC,go_sem];obtain⟨H1,hH1⟩:=wg (qt kj (qt kb h (.mem vb 333 [.op kb vb 0,.osl kj (v+1) 1 0 s.length])) (qcG (v+1) s))
 rw[<-hH1];have hH1l:H1.length=h.length:=by rw[hH1];simp only[qO]
 refine qk (T:=λi:Nat×AObj×AObj=>qP 53 [(1,.op kb vb 0),(2,.op kw 1 0),(7,zY s),(8,.int .i64 ((1:Nat):Int)),(9,.int .i64 i.1)])
  (H:=λi=>(if i.1=0 then h else H1)++ [i.2.1,i.2.2])
  (inv:=λi=>i.1<=1∧qz [i.2.1] 0=true∧qz [i.2.2] 0=true) (m:=λi=>1-i.1) (0,.emp 0,.emp 0) ⟨nzl _,rfl,rfl⟩ (Wk.temps ?_) ?_
 ·(simp only[zY,ndC,go_sem,qf,qc,qa,qe];try exact we)
 rintro⟨i,O5,O6⟩ ⟨i1,i2,i3⟩ K hK;simp only at i1 i2 i3 hK;have i2': ∀m,qz (O5::m) 0=true:=λ_=>i2
 have i3': ∀m,qz (O6::m) 0=true:=λ_=>i3
 by_cases hi:i<1
 ·obtain rfl:i=0:=by omega
  simp only[if_true];simp (disch:=omega) only[zY,ndC,i2',go_sem]
  repeat' first|(with_reducible first|intro _|apply aiA)|exact clz|fail
  refine qrI (cs:=frmC) hg.app ⟨by decide,by decide⟩ rfl ?_;rw[qrF];simp (disch:=omega) only[qzW,i3',go_sem];refine qE (qGP kb vb kj v .nilp [] s _ hne (by rw[zL hkl];exact hk) (.inl rfl) (by rw[zL hjl];exact hj) (by simp;omega)) (by exact flk) ?_;have eH: ∀l,qt kj (qt kb (h++l) (.mem vb 333 [.op kb vb 0,.osl kj (v+1) 1 0 (([]:Str).length+s.length)])) (qcG (v+1) ([]++s))=H1++l:=λl=>by
   rw[hH1,lnl,Nat.zero_add,lna,zN hkl,zN (by rw[qO];exact hjl)]
  rw[eH];simp (disch:=omega) only[go_sem];refine hK _ _ (1,.mem (qo (some O5)+1) 234 (ndC s),.mem (qo (some O6)+1) 414 qzW) ⟨nlr _,rfl,rfl⟩ (by simp only;omega) ?_;rw[ine (by simp)];simp only[ndC,qzW];refine Wk.temps ?_
  (simp only[zY,ndC,go_sem,qf,qc,qa,qe];try exact we)
 ·obtain rfl:i=1:=by omega
  rw[ine (by simp)];simp (disch:=omega) only[zY,ndC,go_sem]
  repeat' first|(with_reducible first|intro _|apply aiA)|exact clz|fail
  refine zX trivial hH1l ?_ ⟨rfl,rfl⟩ (qi);rw[hH1];exact qdq hkl hjl
theorem qDJ(s:Str)(h:wh)(hl:s.length<=1000000)(hs:s≠ [])(hg:jf h frmN frmC):ACalls Tryz.prog 340 [zY s] h (.str s) h:=by
 refine acO qzj ?_;simp (disch:=omega) only[qxd,zY,go_sem];refine⟨_,_,Wk.ownNil (j:=h.length) (i:=1) (k:=h.length+2) (v:=1) (ty:=333) (cs:= [.nilp,.nl]) (ve:=0) (sz:=1) ?m1 rfl ?m2,?_⟩
 case m1=>simp only[go_sem]
 case m2=>simp only[go_sem]
 simp (disch:=omega) only[List.set_cons_zero,List.set_cons_succ,go_sem]
 repeat' first|with_reducible apply aiA|exact clz|fail
 refine kC (qGQ s h.length 1 (h.length+2) 0 (h.length+1) _ om (by simp only[go_sem]) (by simp only[go_sem]) hl hs hg.app) ?_;simp (disch:=omega) only[go_sem];refine qE (qGv h.length 1 (h.length+2) 1 (.op h.length 1 0) s _ om (by simp only[go_sem]) (by simp only[go_sem])) (by exact flk) ?_;simp (disch:=omega) only[go_sem]
 repeat' first|exact wa|fail
theorem qCO(s:Str)(h:wh)(hl:s.length<=1000000)(hl2:s.length<=65536)(hs:s≠ [])(hc:zz s=0)(hg:jf h frmN frmC):ACalls Tryz.prog 283 [zY s] h (.int .i64 0) h:=by
 have c1:=λh=>quq s h
 unfold zY at c1;obtain⟨cs,hcs⟩:=wg (AObj.mem 1 30 [.fn (.func 337) [] [.op (h.length+1) 1 0]])
 refine acO qy0 ?_;simp (disch:=omega) only[qwX,zY,go_sem]
 repeat' first|(refine cA (c1 _) flk ?_;simp (disch:=omega) only[go_sem])
 refine zJ (xs:= [[.agg (plC s)]]) (itN s) (by simp)
  (S:=λi hh=> ∃O,qz [O] 0=true∧(∀n,lowO n O)∧hh=h++ [.mem 1 28 [.int .i64 0],.mem 1 3 [.int .i64 (4096-i)],cs,O,.emp 0]) (E:=λ_ _=>False) ?_ ?_ ?_ ?_ ?_ ?_ ?_
 ·rintro i hh ⟨O,_,l1,rfl⟩;refine LowI.app rfl (λo ho=> ?_);simp only[List.mem_cons,List.not_mem_nil,or_false]at ho;rcases ho with rfl|rfl|rfl|rfl|rfl
  ·left;simp
  ·right;exact⟨λc hc=>(by simp at hc;subst hc;rfl),λc hc=>(by simp at hc;subst hc;rfl)⟩
  ·left;rw[hcs];simp
  ·right;exact⟨l1 _,l1 _⟩
  ·left;simp
 ·intro s hh hf;exact hf.elim
 ·exact⟨.emp 0,rfl,λ_=>trivial,by rw[hcs];rfl⟩
 ·simp[qV,qV.lowVs]
  try omega
 ·rintro i hh tl LI TS hi ⟨O,s1,l1,rfl⟩ hlen K K2 hK hN hR' hX;obtain rfl:i=0:=by simp at hi;omega
  have s1': ∀m,qz (O::m) 0=true:=λ_=>s1
  show ze _ _ _ _ (kN _ _ [.agg (plC s)]) _;simp only[kN];simp (disch:=omega) only[List.append_assoc,plC,s1',go_sem];refine hK _ _ (h++ [.mem 1 28 [.int .i64 0],.mem 1 3 [.int .i64 4096],cs,.mem (qo (some O)+1) 386 (plC s),.emp 0]) (by simp[plC]) (by simp) ?_;rw[hcs];simp (disch:=omega) only[List.append_assoc,plC,go_sem]
  repeat' first|with_reducible apply aiA|exact clz|fail
  refine kC (qGr 4096 (h.length+1) 1 _ (by simp only[go_sem]) om om) ?_;simp (disch:=omega) only[go_sem]
  repeat' first|(with_reducible first|intro _|apply aiA)|exact clz|fail
  refine hN _ _ (h++ [.mem 1 28 [.int .i64 0],.mem 1 3 [.int .i64 4095],cs,.mem (qo (some O)+1) 386 (plC s),.emp 0]) (by rw[hcs];simp[plC]) (by simp) ⟨.mem (qo (some O)+1) 386 (plC s),rfl,qfS s _ _,rfl⟩
 ·rintro hh ⟨O,s1,l1,rfl⟩;have c2:=λh=>quq s h
  unfold zY at c2;rw[hcs];simp (disch:=omega) only[go_sem]
  repeat' first|(refine cA (c2 _) flk ?_;simp (disch:=omega) only[go_sem])
  have c5:=λl=>qGf s (h++l) hs hl hc hg.app
  have c6:=λl=>qDJ s (h++l) hl hs hg.app
  unfold zY at c6;unfold plC at c5;refine zJ (xs:= [[.agg (plC s)]]) (itN s) (by simp)
   (S:=λi hh=> ∃O6,qz [O6] 0=true∧(∀n,lowO n O6)∧hh=h++ [.mem 1 28 [.int .i64 0],.mem 1 3 [.int .i64 4095],cs,O,O6]) (E:=λ_ _=>False) ?_ ?_ ?_ ?_ ?_ ?_ ?_
  ·rintro i hh ⟨O6,_,l2,rfl⟩;refine LowI.app rfl (λo ho=> ?_);simp only[List.mem_cons,List.not_mem_nil,or_false]at ho;rcases ho with rfl|rfl|rfl|rfl|rfl
   ·left;simp
   ·left;simp
   ·left;rw[hcs];simp
   ·left;simp
   ·right;exact⟨l2 _,l2 _⟩
  ·intro s hh hf;exact hf.elim
  ·exact⟨.emp 0,rfl,λ_=>trivial,by rw[hcs];rfl⟩
  ·simp[qV,qV.lowVs]
   try omega
  ·rintro i hh tl LI TS hi ⟨O6,s6,l6,rfl⟩ hlen K K2 hK hN hR' hX;obtain rfl:i=0:=by simp at hi;omega
   have s6': ∀m,qz (O6::m) 0=true:=λ_=>s6
   show ze _ _ _ _ (kN _ _ [.agg (plC s)]) _;simp only[kN];simp (disch:=omega) only[List.append_assoc,plC,s6',go_sem];refine hK _ _ (h++ [.mem 1 28 [.int .i64 0],.mem 1 3 [.int .i64 4095],cs,O,.mem (qo (some O6)+1) 386 (plC s)]) (by simp[plC]) (by simp) ?_;simp (disch:=omega) only[List.append_assoc,plC,go_sem]
   repeat' first|(refine cA (c5 _) flk ?_;simp (disch:=omega) only[go_sem])
   refine hN _ _ (h++ [.mem 1 28 [.int .i64 0],.mem 1 3 [.int .i64 4095],cs,O,.mem (qo (some O6)+1) 386 (plC s)]) (by simp[plC]) (by simp) ⟨.mem (qo (some O6)+1) 386 (plC s),rfl,qfS s _ _,rfl⟩
  ·rintro hh ⟨O6,s6,l6,rfl⟩;have k1:((65536:Int)<s.length)=False:=wl;simp (disch:=omega) only[go_sem]
   repeat' first|(refine cA (c6 _) flk ?_;simp (disch:=omega) only[k1,go_sem])|exact wa|fail
  ·intro e hh hf;exact hf.elim
 ·intro e hh hf;exact hf.elim
theorem qE7(h:wh):ACalls Tryz.prog 284 [.nl] h (.int .i64 0) h:=by
 refine acO qy1 ?_;simp (disch:=omega) only[qwY,go_sem]
 repeat' first|(apply qb;exact rvk;simp only[go_sem];apply qg)|(with_reducible first|intro _|apply aiA)|exact clz|fail
 refine qk (T:=λ_:Unit=>qP 21 [(9,.nl),(10,.int .i64 0),(11,.int .i64 0)]) (H:=λ_=>h++ [.emp 0]) (inv:=λ_=>True) (m:=λ_=>0) () trivial (Wk.temps ?_) ?_
 ·(simp only[go_sem,qf,qc,qa,qe];try exact we)
 rintro⟨⟩ _ K hK;simp (disch:=omega) only[go_sem]
 repeat' first|exact wa|(with_reducible first|intro _|apply aiA)|exact clz|fail
theorem qGI(s:Str)(h:wh)(hs:s.length<=1000000)(hw: ∀i,i<s.length->ko (ch s i)=true):ACalls Tryz.prog 376 [.str s] h (.bool true) h:=by
 refine acO qzw ?_;simp (disch:=omega) only[qxq,go_sem];refine qk (T:=λi:Nat=>qP 19 [(0,.str s),(4,.str s),(5,.int .i64 s.length),(6,.int .i64 i)]) (H:=λ_=>h) (inv:=λi=>i<=s.length) (m:=λi=>s.length-i) 0 (nzl _) (Wk.temps ?_) ?_
 ·(simp only[go_sem,qf,qc,qa,qe];try exact we)
 rintro i i1 K hK
 by_cases hi:i<s.length
 ·have k1:((i:Int)<s.length)=True:=wj;have e:(s[i]?).getD 0=ch s i:=by simp[ch,gdqA]
  have c1:=λh=>qbY (ch s i) h
  have g:=hw i hi;unfold ko at g;simp only[Bool.or_eq_true,decide_eq_true_eq]at g;obtain⟨k,hk⟩:=wg (kind (ch s i))
  rw[<-hk]at g;simp only[<-hk]at c1
  by_cases g1:k=1
  ·subst g1;simp (disch:=omega) only[k1,e,go_sem]
   repeat' first|(refine cA (c1 _) flk ?_;simp (disch:=omega) only[go_sem])|with_reducible apply aiA|exact clz|fail
   refine hK _ _ (i+1) hi om (Wk.temps ?_)
   (simp only[go_sem,qf,qc,qa,qe];try exact we)
  by_cases g2:k=2
  ·subst g2;simp (disch:=omega) only[k1,e,go_sem]
   repeat' first|(refine cA (c1 _) flk ?_;simp (disch:=omega) only[go_sem])|(apply qh;exact rvk;simp only[go_sem];apply qd)|(with_reducible first|intro _|apply aiA)|exact clz|fail
   refine hK _ _ (i+1) hi om (Wk.temps ?_)
   (simp only[go_sem,qf,qc,qa,qe];try exact we)
  by_cases g3:k=3
  ·subst g3;simp (disch:=omega) only[k1,e,go_sem]
   repeat' first|(refine cA (c1 _) flk ?_;simp (disch:=omega) only[go_sem])|(apply qh;exact rvk;simp only[go_sem];apply qd)|(with_reducible first|intro _|apply aiA)|exact clz|fail
   refine hK _ _ (i+1) hi om (Wk.temps ?_)
   (simp only[go_sem,qf,qc,qa,qe];try exact we)
  obtain rfl:k=4:=by omega
  simp (disch:=omega) only[k1,e,go_sem]
  repeat' first|(refine cA (c1 _) flk ?_;simp (disch:=omega) only[go_sem])|(apply qh;exact rvk;simp only[go_sem];apply qd)|(with_reducible first|intro _|apply aiA)|exact clz|fail
  refine hK _ _ (i+1) hi om (Wk.temps ?_)
  (simp only[go_sem,qf,qc,qa,qe];try exact we)
 have k1:((i:Int)<s.length)=False:=wl;simp (disch:=omega) only[k1,go_sem]
 repeat' first|exact wc|fail
theorem qFQ(s:Str)(hs:s.length<=1000000):qnH Tryz.prog 392 [.ip [.str s],.ip [.nl]] []:=by
 intro h ts LI S E hS hE body start hts;refine acQ qzF ?_;simp (disch:=omega) only[qxz,go_sem]
 repeat' first|with_reducible apply aiA|exact clz|fail
 refine qk (T:=λi:Nat=>qP 45 [(0,.yld h.length),(1,.ip [.str s]),(2,.ip [.nl]),(10,.int .i64 s.length),(11,.int .i64 i)]) (H:=λ_=>h++ [.lp .ready ts LI]++ [.emp 0]) (inv:=λi=>i<=s.length) (m:=λi=>s.length-i) 0 (nzl _) (Wk.temps ?_) ?_
 ·(simp only[go_sem,qf,qc,qa,qe];try exact we)
 rintro i i1 K hK
 by_cases hi:i<s.length
 ·have k1:((i:Int)<s.length)=True:=wj;simp (disch:=omega) only[k1,go_sem]
  repeat' first|with_reducible apply aiA|exact clz|fail
  refine qk (T:=λ_:Unit=>qP 45 [(0,.yld h.length),(1,.ip [.str s]),(2,.ip [.nl]),(4,.int .i64 i),(10,.int .i64 s.length),(11,.int .i64 i),(14,.nl),(15,.int .i64 0),(16,.int .i64 0)]) (H:=λ_=>h++ [.lp .ready ts LI]++ [.emp 0]) (inv:=λ_=>True) (m:=λ_=>0) () trivial (Wk.temps ?_) ?_
  ·(simp only[go_sem,qf,qc,qa,qe];try exact we)
  rintro⟨⟩ _ K' hK';simp (disch:=omega) only[go_sem]
  repeat' first|(with_reducible first|intro _|apply aiA)|exact clz|fail
  refine hK _ _ (i+1) hi om (Wk.temps ?_)
  (simp only[go_sem,qf,qc,qa,qe];try exact we)
 have k1:((i:Int)<s.length)=False:=wl;simp (disch:=omega) only[k1,go_sem];obtain⟨r1,r2⟩:=(hS _ _ start).retX (L:=LI) (xs:= []) .ready hts;exact zX trivial r1 r2 ⟨h,.inl ⟨start,rfl⟩⟩ (qi)
theorem qGc(s:Str)(h:wh):ACalls Tryz.prog 391 [.nl,.str s] h (.fn (.func 392) [] [.ip [.str s],.ip [.nl]]) h:=by
 refine acO qzE ?_;simp (disch:=omega) only[qxy,go_sem]
 repeat' first|exact wa|fail
theorem qGu(s:Str)(h:wh)(hs:s.length<=1000000):ACalls Tryz.prog 390 [.nl,.str s] h (.tup [.str s,.bool false]) h:=by
 have c1:=λh=>qGc s h
 refine acO qzD ?_;simp (disch:=omega) only[qxx,go_sem]
 repeat' first|(refine cA (c1 _) flk ?_;simp (disch:=omega) only[go_sem])
 refine zJ (xs:= []) (qFQ s hs) (by simp) (S:=λi hh=>hh=h++ [.mem 1 9 [.str []],.mem 1 4 [.bool false]]) (E:=λ_ _=>False) ?_ ?_ ?_ ?_ ?_ ?_ ?_
 ·rintro i hh rfl;exact LowI.refl _
 ·intro s hh hf;exact hf.elim
 ·rfl
 ·simp[qV,qV.lowVs]
  try omega
 ·rintro i hh tl LI TS hi;exact absurd hi (by simp)
 ·rintro hh rfl;simp (disch:=omega) only[go_sem]
  repeat' first|exact wa|fail
 ·intro e hh hf;exact hf.elim
theorem qGD(s:Str)(h:wh)(hs:s.length<=1000000):ACalls Tryz.prog 387 [.nl,.str s] h (.tup [strs [s],.int .i64 0]) h:=by
 have c1:=λh=>qGu s h hs
 refine acO qzC ?_;simp (disch:=omega) only[qxw,go_sem];refine qk (T:=λ_:Unit=>qP 32 [(0,.nl),(6,.osl (h.length+1) 1 1 0 1)]) (H:=λ_=>h++ [.emp 1,.mem 1 9 [.str s],.emp 0,.emp 0]) (inv:=λ_=>True) (m:=λ_=>0) () trivial (Wk.temps ?_) ?_
 ·(simp only[go_sem,qf,qc,qa,qe];try exact we)
 rintro⟨⟩ _ K hK;simp (disch:=omega) only[go_sem]
 repeat' first|(refine cA (c1 _) flk ?_;simp (disch:=omega) only[go_sem])|(apply qb;exact rvk;simp only[go_sem])|with_reducible apply aiA|exact clz|fail
 refine qr8 ⟨VLe.sl_eq rfl (λi hi=> ?_),qi,trivial⟩;obtain rfl:i=0:=by simp at hi;omega
 rfl
theorem qFf(s:Str)(h:wh)(hs:s.length<=64)(hw: ∀i,i<s.length->ko (ch s i)=true):ACalls Tryz.prog 378 [.nl,.str s] h (.tup [strs [s],.int .i64 0]) h:=by
 have c1:=λh=>qGD s h om
 have c2: ∀h,ACalls Tryz.prog 386 [.nl,.str s] h (.int .i64 0) h:=λh=>by
  have d1:=λh=>qE7 h
  have d2:=λh=>qGI s h om hw
  have k1:((64:Int)<s.length)=False:=wl;refine acO qzB ?_;simp (disch:=omega) only[qxv,go_sem]
  repeat' first|((first|refine cA (d1 _) ?_ ?_|refine cA (d2 _) ?_ ?_);exact flk;simp (disch:=omega) only[k1,go_sem])|exact wc|fail
 refine acO qzy ?_;simp (disch:=omega) only[qxs,go_sem]
 repeat' first|((first|refine cA (c1 _) ?_ ?_|refine cA (c2 _) ?_ ?_);exact flk;simp (disch:=omega) only[go_sem])|exact wa|with_reducible apply aiA|exact clz|fail
theorem qDP(s:Str)(h:wh)(hs:s.length<=64)(hw: ∀i,i<s.length->ko (ch s i)=true):ACalls Tryz.prog 348 [.nl,.str s] h (.tup [.str s,.int .i64 0]) h:=by
 have c1:=λh=>qFf s h hs hw
 unfold strs at c1;refine acO qzo ?_;simp (disch:=omega) only[qxi,go_sem]
 repeat' first|(refine cA (c1 _) flk ?_;simp (disch:=omega) only[go_sem])|exact wc|with_reducible apply aiA|exact clz|fail
end RC
end
section
open Go Go.Proofs AF HY LN
namespace AF
theorem LowI.retY{h hh xs ys:wh}{ts:wi}{L:LInfo}(s:LS)(hl:LowI h hh)(hts: ∀c∈ts,qV (h.length+1) c=true)(hy:ys.length=xs.length)(hz: ∀o∈ys,o∈xs∨ ∀n,lowO n o):
  (hh++ .lp s ts L::ys).length=(h++ .lp .ready ts L::xs).length∧ ∀o∈hh++ .lp s ts L::ys,o∈h++ .lp .ready ts L::xs∨lowO (h++ .lp .ready ts L::xs).length o:=by
 refine⟨by simp[hl.1,hy],λo ho=> ?_⟩;rcases List.mem_append.1 ho with ho|ho
 ·rcases hl.2 o ho with h1|⟨h1,_⟩
  ·exact .inl (List.mem_append_left _ h1)
  ·exact .inr (lowO_mono (by simp) h1)
 ·rcases List.mem_cons.1 ho with rfl|ho
  ·exact .inr (λc hc=>kG (by simp) c (hts c hc))
  ·rcases hz o ho with h1|h1
   ·exact .inl (List.mem_append_right _ (List.mem_cons_of_mem _ h1))
   ·exact .inr (h1 _)
end AF
namespace RC
def atC(k:Int)(c:UInt8):wi:= [.int .i64 k,.int .u8 (c.toNat:Int),.int .i64 0,.str [],.int .i64 0,.bool false,.str []]
def atX(s:Str):List wi:=s.map λc=> [.agg (atC 1 c)]
theorem qci(s:Str):(atX s).length=s.length:=by unfold atX;simp
theorem qq9{s:Str}{i:Nat}(hi:i<(atX s).length):(atX s)[i]= [.agg (atC 1 (ch s i))]:=by
 have:i<s.length:=by rw[qci]at hi;exact hi
 simp[atX,ch,gdqA,this]
def qur(s:Str)(j:Nat):UInt8:=if j=0 then 0 else ch s (j-1)
def cyA(n:Nat):AObj:= .mem 1 389 [.yld n]
def cxA(k:Int)(c:UInt8):AObj:= .mem 1 348 (atC k c)
def ceA(n:Nat):AObj:= .mem 1 390 [.fn (.func 343) [] [.op (n+2) 1 0,.op (n+1) 1 0,.op (n+3) 1 0]]
theorem qkE(k:Int)(c:UInt8): ∀n,lowO n (cxA k c):=λn d hd=>by
 simp[atC]at hd;rcases hd with rfl|rfl|rfl|rfl|rfl|rfl|rfl<;>rfl
section
variable {n : Nat} {hh m : wh} {st : LS} {ts : wi} {LI : LInfo} {k : Int} {c : UInt8} {X : AObj}
theorem qCq(hl:hh.length=n):cellsOf (hh++ .lp st ts LI::cyA n::X::ceA n::m) (n+1) 1=some [.yld n]:=qR (show qu _ _=some (cyA n) by subst hl;unfold qu;simp)
theorem qCr(hl:hh.length=n):qu (n+2) (hh++ .lp st ts LI::cyA n::X::ceA n::m)=some X:=by subst hl;unfold qu;simp
theorem qv0{Y:AObj}(hl:hh.length=n):qt (n+2) (hh++ .lp st ts LI::cyA n::X::ceA n::m) Y=hh++ .lp st ts LI::cyA n::Y::ceA n::m:=by subst hl;unfold qt;simp
end
theorem eachT(s:Str)(hl:s.length<=1000000)(h:wh)(ts:wi)(LI:LInfo)(S:Nat->wh->Prop)(E:LS->wh->Prop)(hS: ∀i hh,S i hh->LowI h hh)(hE: ∀s hh,E s hh->LowI h hh)
  (body: ∀i hh tl,(hi:i<(atX s).length)->S i hh->kr Tryz.prog h.length ((atX s)[i]) (hh++ .lp .ready ts LI::tl) (λr h'=> ∃hh',(r= .bool true∧S (i+1) hh'∧h'=hh'++ .lp .ready ts LI::tl)∨(∃s,r= .bool false∧E s hh'∧h'=hh'++ .lp s ts LI::tl)))
  (start:S 0 h) (hts: ∀c∈ts,qV (h.length+1) c=true):
  jj Tryz.prog 343 [zY s,.op (h.length+2) 1 0,.op (h.length+1) 1 0,.op (h.length+3) 1 0] (h++ [.lp .ready ts LI,cyA h.length,cxA 0 0,ceA h.length])
   (λr h'=> ∃hh' c,(r= .bool true∧S s.length hh'∧h'=hh'++ [.lp .ready ts LI,cyA h.length,cxA 1 c,ceA h.length])∨(∃st,r= .bool false∧E st hh'∧h'=hh'++ [.lp st ts LI,cyA h.length,cxA 1 c,ceA h.length])):=by
 refine acQ qzl ?_;simp (disch:=omega) only[qxf,zY,ndC,go_sem];have key: ∀(hh:wh) (k:Int) (c:UInt8),hh.length=h.length-> ∃B,B=hh++ [AObj.lp LS.ready ts LI,cyA h.length,cxA k c,ceA h.length]∧B.length=h.length+4∧qu (h.length+2) B=some (cxA k c)∧(∀Y m,cellsOf (qt (h.length+2) B Y++m) (h.length+1) 1=some [.yld h.length])∧
   (∀Y m,qt (h.length+2) B Y++m=hh++ [AObj.lp LS.ready ts LI,cyA h.length,Y,ceA h.length]++m):=λhh k c hl=>by
  refine⟨_,rfl,by simp[hl],qCr (m:= []) hl,λY m=> ?_,λY m=> ?_⟩
  ·rw[qv0 (m:= []) hl];have e:hh++ [AObj.lp LS.ready ts LI,cyA h.length,Y,ceA h.length]++m=hh++ .lp .ready ts LI::cyA h.length::Y::ceA h.length::m:=by simp
   rw[e];exact qCq hl
  ·rw[qv0 (m:= []) hl]
 have ea: ∀(g:wh) st (X:AObj) m,g++ [AObj.lp st ts LI,cyA h.length,X,ceA h.length]++m=g++ .lp st ts LI::cyA h.length::X::ceA h.length::m:=λg st X m=>by simp
 refine qk (T:=λi:Nat×wh×AObj×AObj×UInt8=>qP 93 [(1,.op (h.length+2) 1 0),(2,.op (h.length+1) 1 0),(3,.op (h.length+3) 1 0),(11,zY s),(12,.int .i64 ((1:Nat):Int)),(13,.int .i64 i.1)])
  (H:=λi=>i.2.1++ [.lp .ready ts LI,cyA h.length,cxA (if i.1=0 then 0 else 1) i.2.2.2.2,ceA h.length]++ [i.2.2.1,i.2.2.2.1])
  (inv:=λi=>i.1<=1∧S (if i.1=0 then 0 else s.length) i.2.1∧qz [i.2.2.1] 0=true∧qz [i.2.2.2.1] 0=true∧(i.1=0->i.2.2.2.2=0)) (m:=λi=>1-i.1) (0,h,.emp 0,.emp 0,0) ⟨nzl _,start,rfl,rfl,λ_=>rfl⟩ (Wk.temps ?_) ?_
 ·(simp only[zY,ndC,go_sem,qf,qc,qa,qe];try exact we)
 rintro⟨i,hh,O7,O9,c⟩ ⟨i1,i2,i3,i4,i5⟩ K hK;simp only at i1 i2 i3 i4 i5 hK;obtain⟨hlen,hlow⟩:=hS _ _ i2;have i3': ∀m,qz (O7::m) 0=true:=λ_=>i3
 have i4': ∀m,qz (O9::m) 0=true:=λ_=>i4
 by_cases hi:i<1
 ·obtain rfl:i=0:=by omega
  obtain rfl:=i5 rfl;rw[ipo rfl]at i2;obtain⟨B,hB,hBl,hk,d1,d2⟩:=key hh 0 0 hlen;have hb:(h++ [AObj.lp LS.ready ts LI,cyA h.length,cxA 0 0,ceA h.length]).length=B.length:=by rw[hBl];simp
  have hkl:h.length+2<B.length:=by omega
  have s1: ∀ {l w cs z},cellsOf (qt (h.length+2) B (.mem w 348 cs)++l) (h.length+2) z=if w=z then some cs else none:=KD hkl
  have s2: ∀ {l o o'},qt (h.length+2) (qt (h.length+2) B o++l) o'=qt (h.length+2) B o'++l:=qdV hkl;have s4: ∀ {l o},qu (h.length+2) (qt (h.length+2) B o++l)=some o:=qb4 hkl;show ze _ _ _ _ _ (hh++ [.lp .ready ts LI,cyA h.length,cxA 0 0,ceA h.length]++ [O7,O9]);rw[hb,<-hB];have hB0:B=qt (h.length+2) B (.mem 1 348 (atC 0 0)):=(jR hk).symm;rw[show B++ [O7,O9]=qt (h.length+2) B (.mem 1 348 (atC 0 0))++ [O7,O9]from by rw[<-hB0]];unfold atC;simp (disch:=omega) only[zY,ndC,i3',go_sem]
  repeat' first|(with_reducible first|intro _|apply aiA)|exact clz|fail
  refine kl ?T ?H ?h1 ?h2
  case h1=>
   simp (disch:=omega) only[s1,s2,s4,go_sem]
   repeat' first|with_reducible apply aiA
   all_goals first
    |omega
    |rfl
    |skip
  case h2=>
  simp (disch:=omega) only[s1,s2,s4,go_sem]
  repeat' first|(with_reducible first|intro _|apply aiA)|exact clz|fail
  rw[d2];obtain⟨O7',hO7⟩:=wg (AObj.mem (qo (some O7)+1) 234 (ndC s))
  refine qk (T:=λj:Nat×wh=>qP 93 [(1,.op (h.length+2) 1 0),(2,.op (h.length+1) 1 0),(3,.op (h.length+3) 1 0),(7,.op B.length (qo (some O7)+1) 0),(11,zY s),(12,.int .i64 ((1:Nat):Int)),(13,.int .i64 ((0:Nat):Int)),(70,.int .i64 s.length),(71,.int .i64 j.1)])
   (H:=λj=>j.2++ [.lp .ready ts LI,cyA h.length,cxA 1 (qur s j.1),ceA h.length]++ [O7',O9])
   (inv:=λj=>j.1<=s.length∧S j.1 j.2) (m:=λj=>s.length-j.1) (0,hh) ⟨nzl _,i2⟩ ?_ ?_
  ·rw[hO7];refine Wk.temps ?_
   (simp only[zY,ndC,go_sem,qf,qc,qa,qe];try exact we)
  rintro⟨j,hj⟩ ⟨j1,j2⟩ K' hK';simp only at j1 j2 hK';obtain⟨jlen,jlow⟩:=hS _ _ j2;obtain⟨C,hC,hCl,ck,e1,e2⟩:=key hj 1 (qur s j) jlen;have ckl:h.length+2<C.length:=by omega
  have t1: ∀ {l w cs z},cellsOf (qt (h.length+2) C (.mem w 348 cs)++l) (h.length+2) z=if w=z then some cs else none:=KD ckl
  have t2: ∀ {l o o'},qt (h.length+2) (qt (h.length+2) C o++l) o'=qt (h.length+2) C o'++l:=qdV ckl;have t4: ∀ {l o},qu (h.length+2) (qt (h.length+2) C o++l)=some o:=qb4 ckl;show ze _ _ _ _ _ (hj++ [.lp .ready ts LI,cyA h.length,cxA 1 (qur s j),ceA h.length]++ [O7',O9]);have hbc:B.length=C.length:=by rw[hBl,hCl]
  simp only[hbc];rw[<-hC];have hC0:C=qt (h.length+2) C (.mem 1 348 (atC 1 (qur s j))):=(jR ck).symm;rw[show C++ [O7',O9]=qt (h.length+2) C (.mem 1 348 (atC 1 (qur s j)))++ [O7',O9]from by rw[<-hC0]];unfold atC;rw[hO7]
  by_cases hjl:j<s.length
  ·have k1:((j:Int)<s.length)=True:=wj;have e:(s[j]?).getD 0=ch s j:=by simp[ch,gdqA]
   have hb':=λtl=>body j hj tl (by rw[qci];exact hjl) j2
   simp only[qq9,atC]at hb';simp (disch:=omega) only[zY,ndC,t1,t2,t4,k1,e,e1,go_sem]
   repeat' first|with_reducible apply aiA|exact clz|fail
   ·rw[e2,ea];exact⟨.ready,ts,LI,kT jlen⟩
   ·rw[e2,ea];refine kr.mono ?_ (hb' _);rintro v h' ⟨hh',⟨rfl,hn,rfl⟩|⟨st,rfl,hs',rfl⟩⟩
    ·simp (disch:=omega) only[go_sem];rw[<-ea];refine hK' _ _ (j+1,hh') ⟨hjl,hn⟩ (by simp only;omega) ?_;simp only[hO7,qur,Nat.add_sub_cancel,hbc];rw[ine om];refine Wk.temps ?_
     (simp only[zY,ndC,go_sem,qf,qc,qa,qe];try exact we)
    ·simp (disch:=omega) only[go_sem];rw[<-ea hh' st];obtain⟨r1,r2⟩:=(hE _ _ hs').retY (L:=LI) (xs:= [cyA h.length,cxA 0 0,ceA h.length]) (ys:= [cyA h.length,cxA 1 (ch s j),ceA h.length]) st hts rfl (λo ho=>by
      simp only[List.mem_cons,List.not_mem_nil,or_false]at ho;rcases ho with rfl|rfl|rfl
      ·left;simp
      ·right;exact qkE 1 _
      ·left;simp)
     exact DV ⟨trivial,trivial⟩ r1 r2 ⟨hh',ch s j,.inr ⟨st,rfl,hs',rfl⟩⟩ (qi)
  have k1:((j:Int)<s.length)=False:=wl;obtain rfl:j=s.length:=by omega
  simp (disch:=omega) only[zY,ndC,k1,go_sem];rw[e2];refine hK _ _ (1,hj,O7',O9,qur s s.length) ⟨nlr _,j2,by rw[hO7];rfl,i4,λh=>absurd h (by simp)⟩ (by simp only;omega) ?_;simp only[hO7];refine Wk.temps ?_
  (simp only[zY,ndC,go_sem,qf,qc,qa,qe];try exact we)
 ·obtain rfl:i=1:=by omega
  have i2:S s.length hh:=i2;show ze _ _ _ _ _ (hh++ [.lp .ready ts LI,cyA h.length,cxA 1 c,ceA h.length]++ [O7,O9]);simp (disch:=omega) only[zY,ndC,go_sem]
  repeat' first|(with_reducible first|intro _|apply aiA)|exact clz|fail
  obtain⟨r1,r2⟩:=(hS _ _ i2).retY (L:=LI) (xs:= [cyA h.length,cxA 0 0,ceA h.length]) (ys:= [cyA h.length,cxA 1 c,ceA h.length]) .ready hts rfl (λo ho=>by
   simp only[List.mem_cons,List.not_mem_nil,or_false]at ho;rcases ho with rfl|rfl|rfl
   ·left;simp
   ·right;exact qkE 1 c
   ·left;simp)
  exact DV ⟨trivial,trivial⟩ r1 r2 ⟨hh,c,.inl ⟨rfl,i2,rfl⟩⟩ (qi)
end RC
end
section
open Go Go.Proofs AF HY LN
namespace RC
theorem itA(s:Str)(hl:s.length<=1000000):qnH Tryz.prog 342 [.ip [.str [],.int .i64 0],.ip [zY s]] (atX s):=by
 intro h ts LI S E hS hE body start hts;have hb:(h++ [AObj.lp LS.ready ts LI]).length=h.length+1:=by simp
 have ea: ∀st,h++ [AObj.lp st ts LI]++ [.mem 1 389 [.yld h.length],.mem 1 348 [.int .i64 0,.int .u8 0,.int .i64 0,.str [],.int .i64 0,.bool false,.str []],.mem 1 390 [.fn (.func 343) [] [.op (h.length+2) 1 0,.op (h.length+1) 1 0,.op (h.length+3) 1 0]]]=h++ [AObj.lp st ts LI,cyA h.length,cxA 0 0,ceA h.length]:=λst=>by simp[cyA,cxA,ceA,atC]
 refine acQ qzk ?_;simp (disch:=omega) only[qxe,zY,go_sem]
 repeat' first|with_reducible apply aiA|exact clz|fail
 simp only[hb,Nat.add_assoc,Nat.reduceAdd,ea];refine qj8 (eachT s hl h ts LI S E hS hE body start hts) ?_;rintro v h' ⟨hh',c,⟨rfl,hn,rfl⟩|⟨st,rfl,hs',rfl⟩⟩
 ·simp (disch:=omega) only[go_sem];obtain⟨r1,r2⟩:=(hS _ _ hn).retX (L:=LI) (xs:= []) .ready hts;have eO:hh'++ [.lp .ready ts LI,cyA h.length,cxA 1 c,ceA h.length]=(hh'++ [.lp .ready ts LI])++ [cyA h.length,cxA 1 c,ceA h.length]:=by simp
  rw[eO];exact zX trivial r1 r2 ⟨hh',.inl ⟨by rw[qci];exact hn,rfl⟩⟩ (qi)
 ·simp (disch:=omega) only[go_sem];obtain⟨r1,r2⟩:=(hE _ _ hs').retX (L:=LI) (xs:= []) st hts;have eO:hh'++ [.lp st ts LI,cyA h.length,cxA 1 c,ceA h.length]=(hh'++ [.lp st ts LI])++ [cyA h.length,cxA 1 c,ceA h.length]:=by simp
  rw[eO];exact zX trivial r1 r2 ⟨hh',.inr ⟨st,hs',rfl⟩⟩ (qi)
theorem qFq(s:Str)(h:wh):ACalls Tryz.prog 286 [.agg [.str [],.int .i64 0],zY s] h (.fn (.func 342) [] [.ip [.str [],.int .i64 0],.ip [zY s]]) h:=by
 refine acO qy3 ?_;simp (disch:=omega) only[qw0,zY,ndC,go_sem]
 repeat' first|exact wa|fail
end RC
end
section
open Go Go.Proofs AF HY RC LN
namespace HY
theorem qbi(w:World)(b d:Nat)(v:Value):w.grownBy (w.setCell ⟨b,d,none⟩ v) (some b):=by
 unfold World.setCell;refine⟨rfl,rfl,rfl,?_,λk hk hne=> ?_⟩
 ·simp
 ·have:b≠k:=λe=>hne (by rw[e])
  simp[Array.getElem?_modify,this]
theorem qDH(n:Nat)(hn:6<=n):liesAt Tryz.prog Tryz.prog.depth 343 (n/Tryz.prog.cellsOf 343) 1 333 1=true:=by
 have e1:Tryz.prog.cellsOf 343=6:=by kernel_rfl
 have h1:liesAt Tryz.prog Tryz.prog.depth 343 1 1 333 1=true:=by kernel_rfl
 rw[e1];exact qcu om _ h1
theorem ccT(kb vb:Nat)(z0 z1 z2 z3:AV)(A B:AV)(h:wh)(hk:qu kb h=some (.mem vb 343 [z0,A,B,z1,z2,z3]))(hA:A= .nilp∨A= .op kb vb 1):ACalls Tryz.prog 333 [.op kb vb 1] h (.tup []) (qt kb h (.mem vb 343 [z0,.op kb vb 1,B,z1,z2,z3])):=by
 refine⟨qt9 Tryz.func333 (by kernel_rfl) (by kernel_rfl),λw σ xs H hv=> ?_⟩;obtain⟨x,rfl,hx⟩:=hv.one;have hc:=qR hk;obtain⟨cs,o,b,arr,g1,rfl,g2,g3,g4,g5,g6,g7,g9,g8⟩:=kH H hx (by rw[hc];rfl);rw[hc]at g1;cases g1;have hobj:=H.obj kb _ o hk g2;obtain⟨_,hty,_⟩:=hobj;rw[hty]at g5;have g5b:=g5;have g5:=g5.plain (by decide);have hsz:6<=arr.size:=g7;have hc0:w.cell? ⟨b,1,none⟩=some arr[1]:=by rw[kh g5b];simp
 have hA0:=g8 1 A arr[1] rfl (by simp);have hsh:w.shape? b=some (343,arr.size):=by simp[World.shape?,g5]
 have hfz:w.frozen? ⟨b,1,none⟩=false:=by simp[World.frozen?,g5]
 have hkl:=zR hk;rcases hA with rfl|rfl
 ·rw[qed hA0]at hc0;refine (callsIn_wide.2 (qgB b 1 343 arr.size w hc0 om hsh hfz (qDH _ hsz))).mono ?_;rintro e w' ⟨rfl,rfl⟩;have hg:w.grownBy (w.setCell ⟨b,1,none⟩ (.pointer (some ⟨b,1,none⟩))) o.blk:=by rw[g4];exact qbi w b 1 _
  have hh:=heap_setCell_same w b 1 arr 343 (.pointer (some ⟨b,1,none⟩)) g5;obtain⟨u1,u2⟩:=H.update (o':=o) (a':= .mem vb 343 [z0,.op kb vb 1,B,z1,z2,z3]) g2 hg (nlr _) (λ_=>rfl)
   (by intro b' e;rw[g4]at e;cases e;exact⟨.inl g4,(Array.getElem?_eq_some_iff.1 hh).1⟩) (λb' r e hr=>by rw[g4]at e;cases e;rw[g5]at hr;cases hr)
   (λe=>⟨g3,hty,b,_,g4,by rw[hty];exact .mk hh,by simp[g6],by simp;exact hsz,λi y hi hy=>by
    simp only[Array.getElem?_setIfInBounds]at hy;split at hy
    ·split at hy
     ·cases hy;rfl
     ·cases hy
    ·exact g9 i y (by simpa using hi) hy,λi c y hc hy=>by
    simp only[Array.getElem?_setIfInBounds]at hy;split at hy
    ·rename_i e0;split at hy
     ·cases hy;subst e0;simp at hc;subst hc;have hko:(σ.set kb o)[kb]? =some o:=by rw[List.getElem?_set_self (by rw[H.len];exact hkl)]
      exact .op o hko ⟨_,rfl⟩ om (λ_=>⟨b,g4,rfl⟩)
     ·cases hy
    ·rename_i e0;have hne:i≠1:=λe1=>e0 e1.symm
     have hcs: [z0,.op kb vb 1,B,z1,z2,z3]= [z0,.nilp,B,z1,z2,z3].set 1 (.op kb vb 1):=rfl;rw[hcs,List.getElem?_set_ne (λe1=>hne e1.symm)]at hc
     exact (g8 i c y hc hy).ext e⟩)
  exact⟨_,_,rfl,u1,.imm (.tup rfl (λi c x hc=>by simp at hc)),u2⟩
 ·obtain⟨o',q1,q2,q3⟩:=qvd hA0;rw[g2]at q1;cases q1;obtain⟨b',q4,q5⟩:=q3 g3;rw[g4]at q4;cases q4;rw[q5]at hc0;refine (callsIn_wide.2 (qkd b 1 w hc0)).mono ?_;rintro e w' ⟨rfl,rfl⟩;rw[jR hk];exact⟨_,σ,rfl,H,.imm (.tup rfl (λi c x hc=>by simp at hc)),Ext.refl w' σ⟩
theorem qgA{kb vb kj v m:Nat}{z0 z1 z2 z3:AV}{h:wh}{s:List UInt8}(lz0:qV h.length z0=true)(lz1:qV h.length z1=true)(lz2:qV h.length z2=true)(lz3:qV h.length z3=true)(hkl:kb<h.length)(hjl:kj<h.length): ∀o∈qt kj (qt kb h (.mem vb 343 [z0,.op kb vb 1,.osl kj v 1 0 m,z1,z2,z3])) (qcG v s),o∈h∨lowO h.length o:=by
 intro o ho;rcases jt ho with h1|rfl
 ·rcases jt h1 with h2|rfl
  ·exact .inl h2
  ·right;intro c hc;simp only[List.mem_cons,List.not_mem_nil,or_false]at hc;rcases hc with rfl|rfl|rfl|rfl|rfl|rfl
   ·exact lz0
   ·simpa[qV] using hkl
   ·simpa[qV] using hjl
   ·exact lz1
   ·exact lz2
   ·exact lz3
 ·exact .inr (jl v s _)
theorem qGM(kb vb kj v:Nat)(z0 z1 z2 z3:AV)(A:AV)(s:List UInt8)(u:UInt8)(h:wh)(lz0:qV h.length z0=true)(lz1:qV h.length z1=true)(lz2:qV h.length z2=true)(lz3:qV h.length z3=true)(hne:kj≠kb)(hk:qu kb h=some (.mem vb 343 [z0,A,.osl kj v 1 0 s.length,z1,z2,z3]))(hA:A= .nilp∨A= .op kb vb 1)(hj:qu kj h=some (qcG v s))(hl:s.length+1<=140737488355328):
  ACalls Tryz.prog 377 [.op kb vb 1,.int .u8 u.toNat] h .nilif (qt kj (qt kb h (.mem vb 343 [z0,.op kb vb 1,.osl kj (v+1) 1 0 (s.length+1),z1,z2,z3])) (qcG (v+1) (s++ [u]))):=by
 have hkl:=zR hk;have hjl:=zR hj;have hne':kb≠kj:=λe=>hne e.symm
 have hj0:kj≠h.length:=by omega
 have hj1:kj≠h.length+1:=by omega
 have hk1: ∀l,qu kb (h++l)=some (.mem vb 343 [z0,A,.osl kj v 1 0 s.length,z1,z2,z3]):=λl=>by rw[zL hkl,hk]
 refine acO qzx ?_;simp (disch:=omega) only[qxr,go_sem];refine qE (ccT kb vb z0 z1 z2 z3 A _ _ (hk1 _) hA) ⟨rfl,trivial⟩ ?_
 by_cases hs:s= []
 ·subst hs;rw[qb0]at hj;simp (disch:=omega) only[zN,jA,qT,qdA,qdB,qdT,qdU,zH,jp,qm,qc6,hj,zM,go_sem]
  repeat' first|(with_reducible apply aiA)
  all_goals first
   |omega
   |(rw[bne_iff_ne];exact hj0)
   |(simp;done)
   |skip
  rw[qdr hne',show AObj.mem (v+1) 5 [AV.int IntKind.u8 u.toNat]=qcG (v+1) [u]from (qam (s:= [u]) (by simp) _).symm];exact DV ⟨trivial,trivial⟩ (by simp only[qO]) (qgA lz0 lz1 lz2 lz3 hkl hjl) ⟨rfl,rfl⟩ (qi)
 ·rw[qam hs]at hj;simp (disch:=omega) only[zN,jA,qT,qdA,qdB,qdT,qdU,zH,jp,qm,gG,hj,jK,zM,go_sem]
  repeat' first|(with_reducible apply aiA)
  all_goals first
   |omega
   |(rw[bne_iff_ne];exact hj0)
   |(simp[jK];done)
   |skip
  rw[qdr hne',ltl (by simp[jK]),show zQ s++ [AV.int IntKind.u8 u.toNat]=zQ (s++ [u])from (qcW s [u]).symm,<-qam (s:=s++ [u]) (by simp)];exact DV ⟨trivial,trivial⟩ (by simp only[qO]) (qgA lz0 lz1 lz2 lz3 hkl hjl) ⟨rfl,rfl⟩ (qi)
theorem qGw(kb vb kj v:Nat)(z0 z1 z2 z3:AV)(A:AV)(s:List UInt8)(h:wh)(hne:kj≠kb)(hk:qu kb h=some (.mem vb 343 [z0,A,.osl kj v 1 0 s.length,z1,z2,z3]))(hj:qu kj h=some (qcG v s)):
  ACalls Tryz.prog 278 [.op kb vb 1] h (.str s) (qt kj h (.emp (v+1))):=by
 refine⟨qt9 Tryz.func278 (by kernel_rfl) (by kernel_rfl),λw σ xs H hv=> ?_⟩;obtain⟨x,rfl,hx⟩:=hv.one;have hc:=qR hk;obtain⟨cs,o,b,arr,g1,rfl,g2,g3,g4,g5,g6,g7,g9,g8⟩:=kH H hx (by rw[hc];rfl);rw[hc]at g1;cases g1;have hty:=(H.obj kb _ o hk g2).2.1;rw[hty]at g5;have g5b:=g5;have g5:=g5.plain (by decide);have hsz:6<=arr.size:=g7;have hc1:w.cell? ⟨b,1+1,none⟩=some arr[1+1]:=by rw[kh g5b];simp
 have hB:=g8 (1+1) _ arr[1+1] rfl (by simp);obtain⟨oj,j1,j2,j3⟩:=qnD hB;have hobj:=H.obj kj _ oj hj j1;have hkj:=zR hj
 by_cases hs:s= []
 ·subst hs;rw[qb0]at hj hobj;obtain⟨m1,m2⟩:=hobj;rcases j3 m1 with⟨_,_,_,e⟩|⟨b',cap,e,_⟩
  ·rw[e]at hc1;refine (callsIn_wide.2 (qhi b 1 w hc1)).mono ?_;rintro e w' ⟨rfl,rfl⟩;obtain⟨u1,u2⟩:=H.update (w':=w.drew) (o':= { oj with blk:=none,ver:=v+1 }) (a':= .emp (v+1)) j1 ⟨rfl,rfl,rfl,nlr _,λ_ _ _=>rfl⟩ (by simp only;omega) (by simp only;omega) (by intro b' e;cases e) (λb' r e hr=>⟨r,hr⟩) (λ_=>⟨rfl,rfl⟩);exact⟨_,_,rfl,u1,.imm .str,u2⟩
  ·rw[m2]at e;cases e
 ·rw[qam hs]at hj hobj;obtain⟨m1,m2,bj,arrj,m3,m4,m5,m6,m7,m8⟩:=hobj;rcases j3 m1 with⟨e,_⟩|⟨b',cap,e1,e2,e3,e4,e5⟩
  ·rw[m3]at e;cases e
  ·rw[m3]at e1;cases e1;rw[e2]at hc1;rw[m2]at m4;have m4b:=m4;have m4:=m4.plain (by decide);rw[jK]at m6;refine (callsIn_wide.2 (qhj b 1 bj cap s arrj w hs hc1 m4 e3 e4 om (λj x hx=> ?_))).mono ?_
   ·have hjl:j<s.length:=(lgs.1 hx).1;rw[kh m4b];have ea:arrj[j]? =some arrj[j]:=by simp
    have:=m8 j (.int .u8 x.toNat) arrj[j] (by simp[zQ,hx]) ea
    rw[ea,zV this]
   ·rintro e w' ⟨rfl,rfl⟩;have hg:w.grownBy (w.drew.freeze ⟨bj,0,none⟩ s.length) oj.blk:=by
     rw[m3];exact qbD w bj s.length
    obtain⟨u1,u2⟩:=H.update (o':= { oj with blk:=none,ver:=v+1 }) (a':= .emp (v+1)) j1 hg (by simp only;omega) (by simp only;omega) (by intro b' e;cases e)
     (λb' r e hr=>by rw[m3]at e;cases e;rw[m4]at hr;cases hr) (λ_=>⟨rfl,rfl⟩)
    exact⟨_,_,rfl,u1,.imm .str,u2⟩
end HY
end
section
open Go Go.Proofs AF HY LN
namespace AF
def tri(h:wh)(a b c:Nat)(X Y Z:AObj):wh:=qt c (qt b (qt a h X) Y) Z
structure T3 (h:wh) (a b c:Nat):Prop where
 la:a<h.length
 lb:b<h.length
 lc:c<h.length
 ab:a≠b
 ac:a≠c
 bc:b≠c
section
variable {h l : wh} {a b c n v : Nat} {X Y Z o : AObj}
theorem T3.app(t:T3 h a b c)(l:wh):T3 (h++l) a b c:=by
 have:=t.la;have:=t.lb;have:=t.lc
 exact⟨by rw[lap];omega,by rw[lap];omega,by rw[lap];omega,t.ab,t.ac,t.bc⟩
theorem tri_len:(tri h a b c X Y Z).length=h.length:=by unfold tri;simp only[qO]
theorem qu7(t:T3 h a b c):tri (h++l) a b c X Y Z=tri h a b c X Y Z++l:=by
 unfold tri;rw[zN t.la,zN (by rw[qO];exact t.lb),zN (by rw[qO,qO];exact t.lc)]
theorem UG(t:T3 h a b c):qu a (tri h a b c X Y Z++l)=some X:=by
 rw[zL (by rw[tri_len];exact t.la)];unfold tri;rw[qT t.ac,qT t.ab,jA t.la]
theorem U0(t:T3 h a b c):qu b (tri h a b c X Y Z++l)=some Y:=by
 rw[zL (by rw[tri_len];exact t.lb)];unfold tri;rw[qT t.bc,jA (by rw[qO];exact t.lb)]
theorem UH(t:T3 h a b c):qu c (tri h a b c X Y Z++l)=some Z:=by
 rw[zL (by rw[tri_len];exact t.lc)];unfold tri;rw[jA (by rw[qO,qO];exact t.lc)]
theorem U1(t:T3 h a b c):qt a (tri h a b c X Y Z++l) o=tri h a b c o Y Z++l:=by
 rw[zN (by rw[tri_len];exact t.la)];unfold tri;rw[kM t.ac,kM t.ab,gL]
theorem qaj(t:T3 h a b c):qt b (tri h a b c X Y Z++l) o=tri h a b c X o Z++l:=by
 rw[zN (by rw[tri_len];exact t.lb)];unfold tri;rw[kM t.bc,gL]
theorem qak(t:T3 h a b c):qt c (tri h a b c X Y Z++l) o=tri h a b c X Y o++l:=by
 rw[zN (by rw[tri_len];exact t.lc)];unfold tri;rw[gL]
theorem tri_go:qu (h.length+n) (tri h a b c X Y Z++l)=l[n]? :=by
 have:= @getO_app (tri h a b c X Y Z) l n
 rwa [tri_len]at this
theorem tri_go0:qu h.length (tri h a b c X Y Z++l)=l[0]? :=by
 have:= @getO_app0 (tri h a b c X Y Z) l
 rwa [tri_len]at this
theorem tri_so:qt (h.length+n) (tri h a b c X Y Z++l) o=tri h a b c X Y Z++l.set n o:=by
 have:= @setO_app (tri h a b c X Y Z) l n o
 rwa [tri_len]at this
theorem tri_so0:qt h.length (tri h a b c X Y Z++l) o=tri h a b c X Y Z++l.set 0 o:=by
 have:= @setO_app0 (tri h a b c X Y Z) l o
 rwa [tri_len]at this
theorem tri_co:cellsOf (tri h a b c X Y Z++l) (h.length+n) v=cellsOf l n v:=by unfold cellsOf;rw[tri_go];rfl
theorem tri_co0:cellsOf (tri h a b c X Y Z++l) h.length v=cellsOf l 0 v:=by unfold cellsOf;rw[tri_go0];rfl
theorem tri_to:qz (tri h a b c X Y Z++l) (h.length+n)=qz l n:=by unfold qz;rw[tri_go];rfl
theorem tri_to0:qz (tri h a b c X Y Z++l) h.length=qz l 0:=by unfold qz;rw[tri_go0];rfl
theorem tri_lo:qH (tri h a b c X Y Z++l) (h.length+n) v=qH l n v:=by unfold qH;rw[tri_go];rfl
theorem qa4(t:T3 h a b c):cellsOf (tri h a b c X Y Z++l) a v=qw (some X) v:=by rw[zH,UG t]
theorem qa5(t:T3 h a b c):cellsOf (tri h a b c X Y Z++l) b v=qw (some Y) v:=by rw[zH,U0 t]
theorem qa6(t:T3 h a b c):cellsOf (tri h a b c X Y Z++l) c v=qw (some Z) v:=by rw[zH,UH t]
theorem qa7(t:T3 h a b c):qH (tri h a b c X Y Z++l) a v=qJ (some X) v:=by rw[jp,UG t]
theorem qa8(t:T3 h a b c):qH (tri h a b c X Y Z++l) b v=qJ (some Y) v:=by rw[jp,U0 t]
theorem qa9(t:T3 h a b c):qH (tri h a b c X Y Z++l) c v=qJ (some Z) v:=by rw[jp,UH t]
theorem qu9(t:T3 h a b c){X' Y' Z':AObj}:tri (tri h a b c X Y Z) a b c X' Y' Z'=tri h a b c X' Y' Z':=by
 have e1:=U1 (X:=X) (Y:=Y) (Z:=Z) (l:= []) (o:=X') t;have e2:=qaj (X:=X') (Y:=Y) (Z:=Z) (l:= []) (o:=Y') t;have e3:=qak (X:=X') (Y:=Y') (Z:=Z) (l:= []) (o:=Z') t;simp only[lan]at e1 e2 e3
 conv=>lhs;unfold tri
 rw[show qt c (qt b (qt a h X) Y) Z=tri h a b c X Y Z from rfl,e1,e2,e3]
theorem jS(t:T3 h a b c){X' Y' Z':AObj}(hx:lowO h.length X')(hy:lowO h.length Y')(hz:lowO h.length Z'): ∀o∈tri h a b c X' Y' Z',o∈tri h a b c X Y Z∨lowO (tri h a b c X Y Z).length o:=by
 intro o ho;rw[tri_len];rw[<-qu9 (X:=X) (Y:=Y) (Z:=Z) t]at ho;unfold tri at ho;rcases jt ho with h1|rfl
 ·rcases jt h1 with h1|rfl
  ·rcases jt h1 with h1|rfl
   ·exact .inl h1
   ·exact .inr hx
  ·exact .inr hy
 ·exact .inr hz
end
attribute [go_sem] tri_len tri_go tri_go0 tri_so tri_so0 tri_co tri_co0 tri_to tri_to0 tri_lo
theorem ACalls.wk{P:Program}{f:FuncId}{args:wi}{h h' h'':wh}{r:AV}(hc:ACalls P f args h r h')(hw:Wk [] h' [] h''):ACalls P f args h r h'':=by
 refine⟨hc.1,λw σ xs H hv=>(hc.2 w σ xs H hv).mono ?_⟩;rintro e w' ⟨v,σ',rfl,g1,g2,g3⟩;obtain⟨σ2,s1,s2⟩:=hw w'.heap.size w' σ' { tmps:= #[],defers:= [] } ⟨g1,rfl,λi c x hc=>(by simp at hc),⟨[],rfl,.nil,nlr _,λr hr=>(by cases hr)⟩⟩;exact⟨v,σ2,rfl,s1.hr,g2.ext s2,g3.trans s2⟩
end AF
namespace RC
def z7(L:List Tk):wi:=L.flatMap tkC
theorem qgg(t:Tk):(tkC t).length=6:=rfl
theorem ju(L:List Tk):(z7 L).length=L.length*6:=by
 unfold z7
 induction L with
 |nil=>rfl
 |cons a L ih=>rw[List.flatMap_cons,lap,ih,lco,qgg];omega
theorem UB(A B:List Tk):z7 (A++B)=z7 A++z7 B:=by simp[z7]
theorem U7(a:Tk):z7 [a]=tkC a:=by simp[z7]
theorem qm6(L:List Tk): ∀i,(z7 L).take (i*6)=z7 (L.take i):=by
 induction L with
 |nil=>intro i;simp[z7]
 |cons a L ih=>
  intro i;cases i with
  |zero=>simp[z7]
  |succ i=>
   rw[show z7 (a::L)=tkC a++z7 L from rfl,show (a::L).take (i+1)=a::L.take i from rfl,show z7 (a::L.take i)=tkC a++z7 (L.take i)from rfl,<-ih i];rw[show (i+1)*6=(tkC a).length+i*6 by rw[qgg];omega,List.take_append,ltl om,Nat.add_sub_cancel_left]
theorem qfc(L:List Tk): ∀i,(z7 L).drop (i*6)=z7 (L.drop i):=by
 induction L with
 |nil=>intro i;simp[z7]
 |cons a L ih=>
  intro i;cases i with
  |zero=>simp
  |succ i=>
   rw[show z7 (a::L)=tkC a++z7 L from rfl,show (a::L).drop (i+1)=L.drop i from rfl,<-ih i];rw[show (i+1)*6=(tkC a).length+i*6 by rw[qgg];omega,List.drop_append,List.drop_eq_nil_of_le om,lna,Nat.add_sub_cancel_left]
theorem qa3{L:List Tk}{i:Nat}(hi:i<L.length):((z7 L).drop (i*6)).take 6=tkC (L.getD i default):=by
 rw[qfc,List.drop_eq_getElem_cons hi,gdqA,zD hi];rfl
theorem qhk{L:List Tk}{i:Nat}(e:Tk)(hi:i<L.length):(z7 L).take (i*6)++(tkC e++(z7 L).drop (i*6+6))=z7 (L.set i e):=by
 rw[List.set_eq_take_append_cons_drop,ipo hi,show i*6+6=(i+1)*6 by omega,qm6,qfc,UB];rw[show e::List.drop (i+1) L= [e]++List.drop (i+1) L from rfl,UB,U7]
theorem qd5{L:List Tk}{i k:Nat}(hi:i<L.length)(hk:k<6):(z7 L)[i*6+k]? =(tkC (L.getD i default))[k]? :=by
 rw[<-qa3 hi,List.getElem?_take,ipo hk,List.getElem?_drop]
theorem ky(L:List Tk)(n:Nat): ∀c∈z7 L,qV n c=true:=by
 intro c hc;unfold z7 at hc;obtain⟨x,_,hx⟩:=List.mem_flatMap.1 hc;unfold tkC at hx;simp only[List.mem_cons,List.not_mem_nil,or_false]at hx;rcases hx with rfl|rfl|rfl|rfl|rfl|rfl<;>rfl
structure Br where
 out:List Tk
 word:Str
 opn:Bool
 jn:Bool
 vo:Nat
 vw:Nat
 ad:Bool
def brX(a b c va:Nat)(q:Br):AObj:= .mem va 343 [.osl b q.vo 6 0 q.out.length,if q.ad=true then .op a va 1 else .nilp,.osl c q.vw 1 0 q.word.length,.bool q.opn,.bool q.jn,.bool false]
def brY(q:Br):AObj:=zw q.vo 119 (z7 q.out)
def brO(h:wh)(a b c va:Nat)(q:Br):wh:=tri h a b c (brX a b c va q) (brY q) (qcG q.vw q.word)
def qau(L:List Tk)(w:Str):List Tk:=L.set (L.length-1) ⟨w,(L.getD (L.length-1) default).norm,(L.getD (L.length-1) default).page,(L.getD (L.length-1) default).line,(L.getD (L.length-1) default).flags,(L.getD (L.length-1) default).name⟩
def Br.nd(q:Br):Br:=if q.opn=true then ⟨qau q.out q.word,[],false,q.jn,q.vo,q.vw+1,false⟩ else ⟨q.out,[],false,q.jn,q.vo,q.vw,false⟩
def Br.st(q:Br)(f:Int):Br:=⟨q.out++ [tkF (f+jfl q.jn q.out.length) []],q.word,q.opn,true,q.vo+1,q.vw,q.ad⟩
def Br.wb(q:Br)(c:UInt8):Br:=⟨q.out,q.word++ [c],q.opn,q.jn,q.vo,q.vw+1,true⟩
def Br.op(q:Br):Br:=⟨q.out,q.word,true,q.jn,q.vo,q.vw,q.ad⟩
def Br.sp(q:Br):Br:=⟨q.out,q.word,q.opn,false,q.vo,q.vw,q.ad⟩
def Br.tx(q:Br)(w:Str):Br:=⟨qau q.out w,q.word,q.opn,q.jn,q.vo,q.vw,q.ad⟩
def Br.pt(q:Br)(c:UInt8):Br:=if q.opn=true∧ko c=true then q.wb c else if bgn c=true then ((q.st 0).op).wb c else if kind c=6 then q.nd.sp else (q.nd.st 8).tx [c]
theorem jU{h:wh}{a b c:Nat}(t:T3 h a b c)(va:Nat)(q:Br):lowO h.length (brX a b c va q):=by
 intro x hx
 have:=t.la;have:=t.lb;have:=t.lc
 simp only[List.mem_cons,List.not_mem_nil,or_false]at hx;rcases hx with rfl|rfl|rfl|rfl|rfl|rfl
 ·simp[qV];assumption
 ·split
  ·simp[qV];assumption
  ·rfl
 ·simp[qV];assumption
 ·rfl
 ·rfl
 ·rfl
theorem so(q:Br)(n:Nat):lowO n (brY q):=jE (ky q.out n)
theorem qds{h:wh}{a b c va:Nat}{q:Br}:(brO h a b c va q).length=h.length:=tri_len
end RC
end
section
open Go Go.Proofs AF HY LN
namespace AF
theorem qcy{v:Nat}{ty:TypeId}{cs:wi}:qi0 (some (zw v ty cs)) ty=true:=by
 unfold zw;split<;>simp[qi0]
end AF
namespace RC
section
variable {h : wh} {a b c va : Nat}
theorem qcU{q:Br}(hn:0<q.out.length):brY q= .mem q.vo 119 (z7 q.out):=by
 unfold brY zw;rw[ine];intro e
 have:=congrArg List.length e
 rw[ju,lnl]at this;omega
theorem qsk(t:T3 h a b c)(q:Br)(hn:0<q.out.length)(hm:q.out.length<=1000000):ACalls Tryz.prog 346 [.op a va 0] (brO h a b c va q) (.op b q.vo ((q.out.length-1)*6)) (brO h a b c va q):=by
 have ta:=t.la;have tb:=t.lb;have tc:=t.lc;have zga: ∀ {X Y Z l},qu (a) (tri h a b c X Y Z++l)=some X:=UG (t);have yga: ∀ {X Y Z},qu (a) (tri h a b c X Y Z)=some X:=λ{X Y Z}=>by have:=zga (X:=X) (Y:=Y) (Z:=Z) (l:= []);simpa only[lan] using this
 have zgb: ∀ {X Y Z l},qu (b) (tri h a b c X Y Z++l)=some Y:=U0 (t);have ygb: ∀ {X Y Z},qu (b) (tri h a b c X Y Z)=some Y:=λ{X Y Z}=>by have:=zgb (X:=X) (Y:=Y) (Z:=Z) (l:= []);simpa only[lan] using this
 have zgc: ∀ {X Y Z l},qu (c) (tri h a b c X Y Z++l)=some Z:=UH (t);have ygc: ∀ {X Y Z},qu (c) (tri h a b c X Y Z)=some Z:=λ{X Y Z}=>by have:=zgc (X:=X) (Y:=Y) (Z:=Z) (l:= []);simpa only[lan] using this
 have zsa: ∀ {X Y Z o l},qt (a) (tri h a b c X Y Z++l) o=tri h a b c o Y Z++l:=U1 (t);have ysa: ∀ {X Y Z o},qt (a) (tri h a b c X Y Z) o=tri h a b c o Y Z:=λ{X Y Z o}=>by have:=zsa (X:=X) (Y:=Y) (Z:=Z) (o:=o) (l:= []);simpa only[lan] using this
 have zsb: ∀ {X Y Z o l},qt (b) (tri h a b c X Y Z++l) o=tri h a b c X o Z++l:=qaj (t);have ysb: ∀ {X Y Z o},qt (b) (tri h a b c X Y Z) o=tri h a b c X o Z:=λ{X Y Z o}=>by have:=zsb (X:=X) (Y:=Y) (Z:=Z) (o:=o) (l:= []);simpa only[lan] using this
 have zsc: ∀ {X Y Z o l},qt (c) (tri h a b c X Y Z++l) o=tri h a b c X Y o++l:=qak (t);have ysc: ∀ {X Y Z o},qt (c) (tri h a b c X Y Z) o=tri h a b c X Y o:=λ{X Y Z o}=>by have:=zsc (X:=X) (Y:=Y) (Z:=Z) (o:=o) (l:= []);simpa only[lan] using this
 have zca: ∀ {X Y Z v l},cellsOf (tri h a b c X Y Z++l) (a) v=qw (some X) v:=qa4 (t);have yca: ∀ {X Y Z v},cellsOf (tri h a b c X Y Z) (a) v=qw (some X) v:=λ{X Y Z v}=>by have:=zca (X:=X) (Y:=Y) (Z:=Z) (v:=v) (l:= []);simpa only[lan] using this
 have zcb: ∀ {X Y Z v l},cellsOf (tri h a b c X Y Z++l) (b) v=qw (some Y) v:=qa5 (t);have ycb: ∀ {X Y Z v},cellsOf (tri h a b c X Y Z) (b) v=qw (some Y) v:=λ{X Y Z v}=>by have:=zcb (X:=X) (Y:=Y) (Z:=Z) (v:=v) (l:= []);simpa only[lan] using this
 have zcc: ∀ {X Y Z v l},cellsOf (tri h a b c X Y Z++l) (c) v=qw (some Z) v:=qa6 (t);have ycc: ∀ {X Y Z v},cellsOf (tri h a b c X Y Z) (c) v=qw (some Z) v:=λ{X Y Z v}=>by have:=zcc (X:=X) (Y:=Y) (Z:=Z) (v:=v) (l:= []);simpa only[lan] using this
 have zla: ∀ {X Y Z v l},qH (tri h a b c X Y Z++l) (a) v=qJ (some X) v:=qa7 (t);have yla: ∀ {X Y Z v},qH (tri h a b c X Y Z) (a) v=qJ (some X) v:=λ{X Y Z v}=>by have:=zla (X:=X) (Y:=Y) (Z:=Z) (v:=v) (l:= []);simpa only[lan] using this
 have zlb: ∀ {X Y Z v l},qH (tri h a b c X Y Z++l) (b) v=qJ (some Y) v:=qa8 (t);have ylb: ∀ {X Y Z v},qH (tri h a b c X Y Z) (b) v=qJ (some Y) v:=λ{X Y Z v}=>by have:=zlb (X:=X) (Y:=Y) (Z:=Z) (v:=v) (l:= []);simpa only[lan] using this
 have zlc: ∀ {X Y Z v l},qH (tri h a b c X Y Z++l) (c) v=qJ (some Z) v:=qa9 (t);have ylc: ∀ {X Y Z v},qH (tri h a b c X Y Z) (c) v=qJ (some Z) v:=λ{X Y Z v}=>by have:=zlc (X:=X) (Y:=Y) (Z:=Z) (v:=v) (l:= []);simpa only[lan] using this
 have e1:((q.out.length:Int)-1).toNat=q.out.length-1:=by omega
 have k1:(0<=(q.out.length:Int)-1)=True:=wj;have k2:((q.out.length:Int)-1<q.out.length)=True:=wj;unfold brO;rw[qcU hn];unfold brX;refine acO qzm ?_;simp (disch:=omega) only[qxg,yca,ycb,ylb,qm,gG,e1,k1,k2,go_sem]
 repeat' first|(apply qh;exact rvk;simp only[go_sem])
 rw[ine om];exact qi
theorem Wk.triNil{t:wi}{X Z:AObj}{Y:AObj}{v i ve sz:Nat}{ty:TypeId}{cs:wi}(T:T3 h a b c)(hX:X= .mem v ty cs)(hi:cs[i]? =some .nl)(hZ:Z= .emp ve):
  Wk t (tri h a b c X Y Z) t (tri h a b c (.mem v ty (cs.set i (.osl c ve sz 0 0))) Y Z):=by
 subst hX;subst hZ;have e:=U1 (X:= .mem v ty cs) (Y:=Y) (Z:= .emp ve) (l:= []) (o:= .mem v ty (cs.set i (.osl c ve sz 0 0))) T;simp only[lan]at e;rw[<-e];refine Wk.ownNil (j:=a) (k:=c) ?_ hi ?_
 ·have:=UG (X:= .mem v ty cs) (Y:=Y) (Z:= .emp ve) (l:= []) T
  simpa only[lan] using this
 ·have:=UH (X:= .mem v ty cs) (Y:=Y) (Z:= .emp ve) (l:= []) T
  simpa only[lan] using this
theorem qv3(t:T3 h a b c)(X0 X1 X2 X3 X4 X5:AV)(Y:AObj)(v:Nat)(l0:qV h.length X0=true)(l3:qV h.length X3=true)(l4:qV h.length X4=true)(l5:qV h.length X5=true)(ly:lowO h.length Y):
  ACalls Tryz.prog 347 [.op a va 1] (tri h a b c (.mem va 343 [X0,X1,X2,X3,X4,X5]) Y (.emp v)) (.tup []) (tri h a b c (.mem va 343 [X0,.nilp,.osl c v 1 0 0,X3,X4,X5]) Y (.emp v)):=by
 have ta:=t.la;have tb:=t.lb;have tc:=t.lc;refine ACalls.wk (h':=tri h a b c (.mem va 343 [X0,.nilp,.nl,X3,X4,X5]) Y (.emp v)) ?_ (Wk.triNil (v:=va) (ty:=343) (cs:= [X0,.nilp,.nl,X3,X4,X5]) (i:=2) (sz:=1) t rfl rfl rfl);have zga: ∀ {X Y Z l},qu (a) (tri h a b c X Y Z++l)=some X:=UG (t);have yga: ∀ {X Y Z},qu (a) (tri h a b c X Y Z)=some X:=λ{X Y Z}=>by have:=zga (X:=X) (Y:=Y) (Z:=Z) (l:= []);simpa only[lan] using this
 have zgb: ∀ {X Y Z l},qu (b) (tri h a b c X Y Z++l)=some Y:=U0 (t);have ygb: ∀ {X Y Z},qu (b) (tri h a b c X Y Z)=some Y:=λ{X Y Z}=>by have:=zgb (X:=X) (Y:=Y) (Z:=Z) (l:= []);simpa only[lan] using this
 have zgc: ∀ {X Y Z l},qu (c) (tri h a b c X Y Z++l)=some Z:=UH (t);have ygc: ∀ {X Y Z},qu (c) (tri h a b c X Y Z)=some Z:=λ{X Y Z}=>by have:=zgc (X:=X) (Y:=Y) (Z:=Z) (l:= []);simpa only[lan] using this
 have zsa: ∀ {X Y Z o l},qt (a) (tri h a b c X Y Z++l) o=tri h a b c o Y Z++l:=U1 (t);have ysa: ∀ {X Y Z o},qt (a) (tri h a b c X Y Z) o=tri h a b c o Y Z:=λ{X Y Z o}=>by have:=zsa (X:=X) (Y:=Y) (Z:=Z) (o:=o) (l:= []);simpa only[lan] using this
 have zsb: ∀ {X Y Z o l},qt (b) (tri h a b c X Y Z++l) o=tri h a b c X o Z++l:=qaj (t);have ysb: ∀ {X Y Z o},qt (b) (tri h a b c X Y Z) o=tri h a b c X o Z:=λ{X Y Z o}=>by have:=zsb (X:=X) (Y:=Y) (Z:=Z) (o:=o) (l:= []);simpa only[lan] using this
 have zsc: ∀ {X Y Z o l},qt (c) (tri h a b c X Y Z++l) o=tri h a b c X Y o++l:=qak (t);have ysc: ∀ {X Y Z o},qt (c) (tri h a b c X Y Z) o=tri h a b c X Y o:=λ{X Y Z o}=>by have:=zsc (X:=X) (Y:=Y) (Z:=Z) (o:=o) (l:= []);simpa only[lan] using this
 have zca: ∀ {X Y Z v l},cellsOf (tri h a b c X Y Z++l) (a) v=qw (some X) v:=qa4 (t);have yca: ∀ {X Y Z v},cellsOf (tri h a b c X Y Z) (a) v=qw (some X) v:=λ{X Y Z v}=>by have:=zca (X:=X) (Y:=Y) (Z:=Z) (v:=v) (l:= []);simpa only[lan] using this
 have zcb: ∀ {X Y Z v l},cellsOf (tri h a b c X Y Z++l) (b) v=qw (some Y) v:=qa5 (t);have ycb: ∀ {X Y Z v},cellsOf (tri h a b c X Y Z) (b) v=qw (some Y) v:=λ{X Y Z v}=>by have:=zcb (X:=X) (Y:=Y) (Z:=Z) (v:=v) (l:= []);simpa only[lan] using this
 have zcc: ∀ {X Y Z v l},cellsOf (tri h a b c X Y Z++l) (c) v=qw (some Z) v:=qa6 (t);have ycc: ∀ {X Y Z v},cellsOf (tri h a b c X Y Z) (c) v=qw (some Z) v:=λ{X Y Z v}=>by have:=zcc (X:=X) (Y:=Y) (Z:=Z) (v:=v) (l:= []);simpa only[lan] using this
 have zla: ∀ {X Y Z v l},qH (tri h a b c X Y Z++l) (a) v=qJ (some X) v:=qa7 (t);have yla: ∀ {X Y Z v},qH (tri h a b c X Y Z) (a) v=qJ (some X) v:=λ{X Y Z v}=>by have:=zla (X:=X) (Y:=Y) (Z:=Z) (v:=v) (l:= []);simpa only[lan] using this
 have zlb: ∀ {X Y Z v l},qH (tri h a b c X Y Z++l) (b) v=qJ (some Y) v:=qa8 (t);have ylb: ∀ {X Y Z v},qH (tri h a b c X Y Z) (b) v=qJ (some Y) v:=λ{X Y Z v}=>by have:=zlb (X:=X) (Y:=Y) (Z:=Z) (v:=v) (l:= []);simpa only[lan] using this
 have zlc: ∀ {X Y Z v l},qH (tri h a b c X Y Z++l) (c) v=qJ (some Z) v:=qa9 (t);have ylc: ∀ {X Y Z v},qH (tri h a b c X Y Z) (c) v=qJ (some Z) v:=λ{X Y Z v}=>by have:=zlc (X:=X) (Y:=Y) (Z:=Z) (v:=v) (l:= []);simpa only[lan] using this
 refine acO qzn ?_;simp (disch:=omega) only[qxh,yga,ysa,yca,qm,go_sem];refine jN trivial (by simp only[tri_len]) (jS t (λx hx=> ?_) ly trivial) ⟨rfl,rfl⟩ (qi);simp only[List.mem_cons,List.not_mem_nil,or_false]at hx;rcases hx with rfl|rfl|rfl|rfl|rfl|rfl
 ·exact l0
 ·rfl
 ·rfl
 ·exact l3
 ·exact l4
 ·exact l5
theorem qm7{L:List Tk}(w:Str)(hn:0<L.length):(z7 L).take ((L.length-1)*6)++([AV.str w]++(z7 L).drop ((L.length-1)*6+1))=z7 (qau L w):=by
 unfold qau;rw[<-qhk _ om];refine congrArg _ ?_;have e:(z7 L).drop ((L.length-1)*6+1)=(tkC (L.getD (L.length-1) default)).drop 1++(z7 L).drop ((L.length-1)*6+6):=by
  rw[<-qa3 (L:=L) (i:=L.length-1) om];have e2:(z7 L).drop ((L.length-1)*6)=((z7 L).drop ((L.length-1)*6)).take 6++((z7 L).drop ((L.length-1)*6)).drop 6:=(List.take_append_drop _ _).symm;have hl:=ju L;have hl2:((z7 L).drop ((L.length-1)*6)).length=L.length*6-(L.length-1)*6:=by rw[List.length_drop,hl]
  rw[<-List.drop_drop,<-List.drop_drop (i:=6),<-List.drop_append_of_le_length (by rw[List.length_take];omega),List.take_append_drop]
 rw[e];rfl
theorem UZ(L:List Tk)(w:Str):(qau L w).length=L.length:=by unfold qau;rw[List.length_set]
theorem qsj(t:T3 h a b c)(q:Br)(ho:q.opn=true->0<q.out.length)(hw:q.opn=false->q.word= [])(hm:q.out.length<=1000000)(hl:q.word.length<=1000000):ACalls Tryz.prog 288 [.op a va 0] (brO h a b c va q) (.tup []) (brO h a b c va q.nd):=by
 have ta:=t.la;have tb:=t.lb;have tc:=t.lc;have zga: ∀ {X Y Z l},qu (a) (tri h a b c X Y Z++l)=some X:=UG (t);have yga: ∀ {X Y Z},qu (a) (tri h a b c X Y Z)=some X:=λ{X Y Z}=>by have:=zga (X:=X) (Y:=Y) (Z:=Z) (l:= []);simpa only[lan] using this
 have zgb: ∀ {X Y Z l},qu (b) (tri h a b c X Y Z++l)=some Y:=U0 (t);have ygb: ∀ {X Y Z},qu (b) (tri h a b c X Y Z)=some Y:=λ{X Y Z}=>by have:=zgb (X:=X) (Y:=Y) (Z:=Z) (l:= []);simpa only[lan] using this
 have zgc: ∀ {X Y Z l},qu (c) (tri h a b c X Y Z++l)=some Z:=UH (t);have ygc: ∀ {X Y Z},qu (c) (tri h a b c X Y Z)=some Z:=λ{X Y Z}=>by have:=zgc (X:=X) (Y:=Y) (Z:=Z) (l:= []);simpa only[lan] using this
 have zsa: ∀ {X Y Z o l},qt (a) (tri h a b c X Y Z++l) o=tri h a b c o Y Z++l:=U1 (t);have ysa: ∀ {X Y Z o},qt (a) (tri h a b c X Y Z) o=tri h a b c o Y Z:=λ{X Y Z o}=>by have:=zsa (X:=X) (Y:=Y) (Z:=Z) (o:=o) (l:= []);simpa only[lan] using this
 have zsb: ∀ {X Y Z o l},qt (b) (tri h a b c X Y Z++l) o=tri h a b c X o Z++l:=qaj (t);have ysb: ∀ {X Y Z o},qt (b) (tri h a b c X Y Z) o=tri h a b c X o Z:=λ{X Y Z o}=>by have:=zsb (X:=X) (Y:=Y) (Z:=Z) (o:=o) (l:= []);simpa only[lan] using this
 have zsc: ∀ {X Y Z o l},qt (c) (tri h a b c X Y Z++l) o=tri h a b c X Y o++l:=qak (t);have ysc: ∀ {X Y Z o},qt (c) (tri h a b c X Y Z) o=tri h a b c X Y o:=λ{X Y Z o}=>by have:=zsc (X:=X) (Y:=Y) (Z:=Z) (o:=o) (l:= []);simpa only[lan] using this
 have zca: ∀ {X Y Z v l},cellsOf (tri h a b c X Y Z++l) (a) v=qw (some X) v:=qa4 (t);have yca: ∀ {X Y Z v},cellsOf (tri h a b c X Y Z) (a) v=qw (some X) v:=λ{X Y Z v}=>by have:=zca (X:=X) (Y:=Y) (Z:=Z) (v:=v) (l:= []);simpa only[lan] using this
 have zcb: ∀ {X Y Z v l},cellsOf (tri h a b c X Y Z++l) (b) v=qw (some Y) v:=qa5 (t);have ycb: ∀ {X Y Z v},cellsOf (tri h a b c X Y Z) (b) v=qw (some Y) v:=λ{X Y Z v}=>by have:=zcb (X:=X) (Y:=Y) (Z:=Z) (v:=v) (l:= []);simpa only[lan] using this
 have zcc: ∀ {X Y Z v l},cellsOf (tri h a b c X Y Z++l) (c) v=qw (some Z) v:=qa6 (t);have ycc: ∀ {X Y Z v},cellsOf (tri h a b c X Y Z) (c) v=qw (some Z) v:=λ{X Y Z v}=>by have:=zcc (X:=X) (Y:=Y) (Z:=Z) (v:=v) (l:= []);simpa only[lan] using this
 have zla: ∀ {X Y Z v l},qH (tri h a b c X Y Z++l) (a) v=qJ (some X) v:=qa7 (t);have yla: ∀ {X Y Z v},qH (tri h a b c X Y Z) (a) v=qJ (some X) v:=λ{X Y Z v}=>by have:=zla (X:=X) (Y:=Y) (Z:=Z) (v:=v) (l:= []);simpa only[lan] using this
 have zlb: ∀ {X Y Z v l},qH (tri h a b c X Y Z++l) (b) v=qJ (some Y) v:=qa8 (t);have ylb: ∀ {X Y Z v},qH (tri h a b c X Y Z) (b) v=qJ (some Y) v:=λ{X Y Z v}=>by have:=zlb (X:=X) (Y:=Y) (Z:=Z) (v:=v) (l:= []);simpa only[lan] using this
 have zlc: ∀ {X Y Z v l},qH (tri h a b c X Y Z++l) (c) v=qJ (some Z) v:=qa9 (t);have ylc: ∀ {X Y Z v},qH (tri h a b c X Y Z) (c) v=qJ (some Z) v:=λ{X Y Z v}=>by have:=zlc (X:=X) (Y:=Y) (Z:=Z) (v:=v) (l:= []);simpa only[lan] using this
 cases hq:q.opn with
 |false=>
  have e1:q.nd=⟨q.out,[],false,q.jn,q.vo,q.vw,false⟩:=by unfold Br.nd;rw[hq];rfl
  rw[e1];have c1:=qv3 (va:=va) t (.osl b q.vo 6 0 q.out.length) (if q.ad=true then .op a va 1 else .nilp) (.osl c q.vw 1 0 q.word.length) (.bool false) (.bool q.jn) (.bool false) (brY q) q.vw (by simp[qV];omega) rfl rfl rfl (so q _);have hz:qcG q.vw q.word= .emp q.vw:=by rw[hw hq];rfl
  unfold brO brX;rw[hz,hq];refine acO qrv ?_;simp (disch:=omega) only[qsy,yga,ysa,yca,qm,go_sem];refine qE c1 (by exact flk) ?_;simp (disch:=omega) only[go_sem];exact jN trivial (by simp only[tri_len]) (jS t (jU t va ⟨q.out,[],false,q.jn,q.vo,q.vw,false⟩) (so q _) trivial) ⟨rfl,rfl⟩ (qi)
 |true=>
  have e1:q.nd=⟨qau q.out q.word,[],false,q.jn,q.vo,q.vw+1,false⟩:=by unfold Br.nd;rw[hq];rfl
  rw[e1];have c1:=qsk (va:=va) t q (ho hq) hm;have hn:=ho hq;unfold brO at c1 ⊢;rw[qcU hn]at c1 ⊢;rw[qcU (q:=⟨qau q.out q.word,[],false,q.jn,q.vo,q.vw+1,false⟩) (by simp only[UZ];exact hn)];unfold brX at c1 ⊢;rw[hq]at c1 ⊢;refine acO qrv ?_;simp (disch:=omega) only[qsy,yga,ysa,yca,qm,go_sem]
  repeat' first|(refine cA (c1) flk ?_;simp (disch:=omega) only[yca,qm,go_sem])
  refine qE (qGw a va c q.vw (.osl b q.vo 6 0 q.out.length) (.bool true) (.bool q.jn) (.bool false) (if q.ad=true then .op a va 1 else .nilp) q.word _ (λe=>t.ac e.symm) yga ygc) (by exact flk) ?_;have hL:=ju q.out;have k3:((q.out.length-1)*6+1<=q.out.length*6)=True:=wj;have hX:=qm7 (L:=q.out) q.word hn;have c2:=qv3 (va:=va) t (.osl b q.vo 6 0 q.out.length) (if q.ad=true then .op a va 1 else .nilp) (.osl c q.vw 1 0 q.word.length) (.bool false) (.bool q.jn) (.bool false) (.mem q.vo 119 (z7 (qau q.out q.word))) (q.vw+1) (by simp[qV];omega) rfl rfl rfl (ky _ _);simp (disch:=omega) only[yga,ygb,ysa,ysb,ysc,yca,ycb,qm,hL,k3,go_sem];rw[List.append_assoc,hX];refine qE c2 (by exact flk) ?_;simp (disch:=omega) only[go_sem];have eL:=UZ q.out q.word;simp only[eL];exact jN trivial (by simp only[tri_len]) (jS t (by have:=jU t va ⟨q.out,[],false,q.jn,q.vo,q.vw+1,false⟩;exact this) (ky _ _) trivial) ⟨rfl,rfl⟩ (qi)
end
end RC
end
section
open Go Go.Proofs AF HY LN
namespace RC
section
variable {h : wh} {a b c va : Nat}
theorem qv4(t:T3 h a b c)(q:Br)(f:Int)(x:UInt8)(hf:f=0∨f=8)(hm:q.out.length<=1000000):ACalls Tryz.prog 345 [.op a va 0,.agg (atC 1 x),.int .i64 f] (brO h a b c va q) (.tup []) (brO h a b c va (q.st f)):=by
 have ta:=t.la;have tb:=t.lb;have tc:=t.lc;have zga: ∀ {X Y Z l},qu (a) (tri h a b c X Y Z++l)=some X:=UG (t);have yga: ∀ {X Y Z},qu (a) (tri h a b c X Y Z)=some X:=λ{X Y Z}=>by have:=zga (X:=X) (Y:=Y) (Z:=Z) (l:= []);simpa only[lan] using this
 have zgb: ∀ {X Y Z l},qu (b) (tri h a b c X Y Z++l)=some Y:=U0 (t);have ygb: ∀ {X Y Z},qu (b) (tri h a b c X Y Z)=some Y:=λ{X Y Z}=>by have:=zgb (X:=X) (Y:=Y) (Z:=Z) (l:= []);simpa only[lan] using this
 have zgc: ∀ {X Y Z l},qu (c) (tri h a b c X Y Z++l)=some Z:=UH (t);have ygc: ∀ {X Y Z},qu (c) (tri h a b c X Y Z)=some Z:=λ{X Y Z}=>by have:=zgc (X:=X) (Y:=Y) (Z:=Z) (l:= []);simpa only[lan] using this
 have zsa: ∀ {X Y Z o l},qt (a) (tri h a b c X Y Z++l) o=tri h a b c o Y Z++l:=U1 (t);have ysa: ∀ {X Y Z o},qt (a) (tri h a b c X Y Z) o=tri h a b c o Y Z:=λ{X Y Z o}=>by have:=zsa (X:=X) (Y:=Y) (Z:=Z) (o:=o) (l:= []);simpa only[lan] using this
 have zsb: ∀ {X Y Z o l},qt (b) (tri h a b c X Y Z++l) o=tri h a b c X o Z++l:=qaj (t);have ysb: ∀ {X Y Z o},qt (b) (tri h a b c X Y Z) o=tri h a b c X o Z:=λ{X Y Z o}=>by have:=zsb (X:=X) (Y:=Y) (Z:=Z) (o:=o) (l:= []);simpa only[lan] using this
 have zsc: ∀ {X Y Z o l},qt (c) (tri h a b c X Y Z++l) o=tri h a b c X Y o++l:=qak (t);have ysc: ∀ {X Y Z o},qt (c) (tri h a b c X Y Z) o=tri h a b c X Y o:=λ{X Y Z o}=>by have:=zsc (X:=X) (Y:=Y) (Z:=Z) (o:=o) (l:= []);simpa only[lan] using this
 have zca: ∀ {X Y Z v l},cellsOf (tri h a b c X Y Z++l) (a) v=qw (some X) v:=qa4 (t);have yca: ∀ {X Y Z v},cellsOf (tri h a b c X Y Z) (a) v=qw (some X) v:=λ{X Y Z v}=>by have:=zca (X:=X) (Y:=Y) (Z:=Z) (v:=v) (l:= []);simpa only[lan] using this
 have zcb: ∀ {X Y Z v l},cellsOf (tri h a b c X Y Z++l) (b) v=qw (some Y) v:=qa5 (t);have ycb: ∀ {X Y Z v},cellsOf (tri h a b c X Y Z) (b) v=qw (some Y) v:=λ{X Y Z v}=>by have:=zcb (X:=X) (Y:=Y) (Z:=Z) (v:=v) (l:= []);simpa only[lan] using this
 have zcc: ∀ {X Y Z v l},cellsOf (tri h a b c X Y Z++l) (c) v=qw (some Z) v:=qa6 (t);have ycc: ∀ {X Y Z v},cellsOf (tri h a b c X Y Z) (c) v=qw (some Z) v:=λ{X Y Z v}=>by have:=zcc (X:=X) (Y:=Y) (Z:=Z) (v:=v) (l:= []);simpa only[lan] using this
 have zla: ∀ {X Y Z v l},qH (tri h a b c X Y Z++l) (a) v=qJ (some X) v:=qa7 (t);have yla: ∀ {X Y Z v},qH (tri h a b c X Y Z) (a) v=qJ (some X) v:=λ{X Y Z v}=>by have:=zla (X:=X) (Y:=Y) (Z:=Z) (v:=v) (l:= []);simpa only[lan] using this
 have zlb: ∀ {X Y Z v l},qH (tri h a b c X Y Z++l) (b) v=qJ (some Y) v:=qa8 (t);have ylb: ∀ {X Y Z v},qH (tri h a b c X Y Z) (b) v=qJ (some Y) v:=λ{X Y Z v}=>by have:=zlb (X:=X) (Y:=Y) (Z:=Z) (v:=v) (l:= []);simpa only[lan] using this
 have zlc: ∀ {X Y Z v l},qH (tri h a b c X Y Z++l) (c) v=qJ (some Z) v:=qa9 (t);have ylc: ∀ {X Y Z v},qH (tri h a b c X Y Z) (c) v=qJ (some Z) v:=λ{X Y Z v}=>by have:=zlc (X:=X) (Y:=Y) (Z:=Z) (v:=v) (l:= []);simpa only[lan] using this
 have hL:=ju q.out;obtain⟨g,hg⟩:=wg (f+jfl q.jn q.out.length)
 have e1:q.st f=⟨q.out++ [tkF g []],q.word,q.opn,true,q.vo+1,q.vw,q.ad⟩:=by unfold Br.st;rw[hg]
 rw[e1];have o1:=qid (v:=q.vo) (ty:=119) (cs:=z7 q.out);have k3:(q.out.length*6<=q.out.length*6)=True:=eqt (nlr _);have a2: ∀(x1:AV) (r:wi),qgt (some (zw q.vo 119 (z7 q.out))) 119 q.vo (q.out.length*6) 1 (x1::r)=zw (q.vo+1) 119 (z7 q.out++x1::r):=λx1 r=>by rw[appO_own1,ltl om]
 have eLn:(q.out++ [tkF g []]).length=q.out.length+1:=by simp
 have hfin:z7 q.out++ [.str [],.str [],.str [],.int .i64 0,.int .i64 g,.str []]=z7 (q.out++ [tkF g []]):=by rw[UB,U7];rfl
 unfold brO brX brY
 by_cases hj:q.jn=true∧0<q.out.length
 ·obtain⟨hj,hn⟩:=hj;have k1:((0:Int)<q.out.length)=True:=wj;have hg:g=f+16:=by rw[hg];unfold jfl;rw[ipo ⟨hj,hn⟩]
  have eo:UJ .or (.int .i64 f) (.int .i64 16)= .int .i64 g:=by
   rw[hg];rcases hf with rfl|rfl<;>rfl
  rw[hj];unfold atC;refine acO qk7 ?_;simp (disch:=omega) only[qoi,zca,zlb,qm,zk,k1,eo,go_sem]
  repeat' first|with_reducible apply aiA|exact clz|fail
  refine kl ?Ta ?Ha ?h1 ?h2
  case h1=>
   simp (disch:=omega) only[zga,zgb,zsa,zsb,zca,zcb,zlb,qm,zk,qcy,o1,hL,k3,a2,go_sem]
   repeat' first|with_reducible apply aiA
   all_goals first
    |omega
    |rfl
    |(rw[bne_iff_ne];omega)
    |skip
  case h2=>
  simp (disch:=omega) only[zga,zsa,zca,qm,go_sem];rw[hfin];simp only[eLn];exact zX trivial (by simp only[tri_len]) (jS t (by have:=jU t va ⟨q.out++ [tkF g []],q.word,q.opn,true,q.vo+1,q.vw,q.ad⟩;simpa only[brX,eLn] using this) (jE (ky _ _)) (jl _ _ _)) ⟨rfl,rfl⟩ (qi)
 ·have hg:g=f:=by rw[hg];unfold jfl;rw[ine hj];omega
  subst hg;unfold atC;cases hj2:q.jn with
  |false=>
   refine acO qk7 ?_;simp (disch:=omega) only[qoi,zca,zlb,qm,zk,go_sem]
   repeat' first|(with_reducible first|intro _|apply aiA)|exact clz|fail
   refine kl ?Tb ?Hb ?h1 ?h2
   case h1=>
    simp (disch:=omega) only[zga,zgb,zsa,zsb,zca,zcb,zlb,qm,zk,qcy,o1,hL,k3,a2,go_sem]
    repeat' first|with_reducible apply aiA
    all_goals first
     |omega
     |rfl
     |(rw[bne_iff_ne];omega)
     |skip
   case h2=>
   simp (disch:=omega) only[zga,zsa,zca,qm,go_sem];rw[hfin];simp only[eLn];exact zX trivial (by simp only[tri_len]) (jS t (by have:=jU t va ⟨q.out++ [tkF g []],q.word,q.opn,true,q.vo+1,q.vw,q.ad⟩;simpa only[brX,eLn] using this) (jE (ky _ _)) (jl _ _ _)) ⟨rfl,rfl⟩ (qi)
  |true=>
   have k1:((0:Int)<q.out.length)=False:=eqf (λhc=>hj ⟨hj2,om⟩);refine acO qk7 ?_;simp (disch:=omega) only[qoi,zca,zlb,qm,zk,k1,go_sem]
   repeat' first|with_reducible apply aiA|exact clz|fail
   refine kl ?Tc ?Hc ?h1 ?h2
   case h1=>
    simp (disch:=omega) only[zga,zgb,zsa,zsb,zca,zcb,zlb,qm,zk,qcy,o1,hL,k3,a2,go_sem]
    repeat' first|with_reducible apply aiA
    all_goals first
     |omega
     |rfl
     |(rw[bne_iff_ne];omega)
     |skip
   case h2=>
   simp (disch:=omega) only[zga,zsa,zca,qm,go_sem];rw[hfin];simp only[eLn];exact zX trivial (by simp only[tri_len]) (jS t (by have:=jU t va ⟨q.out++ [tkF g []],q.word,q.opn,true,q.vo+1,q.vw,q.ad⟩;simpa only[brX,eLn] using this) (jE (ky _ _)) (jl _ _ _)) ⟨rfl,rfl⟩ (qi)
end
end RC
end
section
open Go Go.Proofs AF
def qpg:List Nat:= [277,278,377,347,287,344,288,345,290,346]
@[go_sem]def vn:DT:= DT.one ⟨some 20,none,.nilchk,[.t 15]⟩ (DT.one ⟨some 21,none,.fldA 0,[.t 20]⟩ (DT.one ⟨none,none,.store 1,[.t 21,.t 19]⟩ DT.nil))
@[go_sem]def vp:DT:= DT.one ⟨some 18,none,.bslc 1 1 1 5 [.int .u8 0] [(0,1)],[.t 17]⟩ (DT.one ⟨some 19,none,.b2s,[.t 18]⟩ vn)
def qfv:C:=
 (vU [O1 3 (.box 0 348) 1] (vU [vO 4 0] ((vU [vN 5 5 3,LD 6 5] (vV 6 (vY [vO 4 1]))).seq (C.block 0 (vU [MV 23 0,O1 24 .nilchk 23,vN 25 3 24,LD 26 25,MV 27 26,P1 28 27 true
 (.fldA 1) 3,P1 29 27 true (.load none) 28,P1 30 27 true (.call 309 true) 29,PF 31 27 30,MV 22 31] (C.cond (.t 22) (vU [MV 32 0,O1 33 (.call 346 false) 32,O1 34 .nilchk 33,vN 35
 4 34,LD 36 35,MV 37 4,BI 38 .or 36 37,O1 39 .nilchk 33,vN 40 4 39,ST 1 40 38] (vY [MV 41 0,O1 42 .nilchk 41,vN 43 1 42,vN 44 1 3,LD 45 44,O2 46 (.call 377 false) 43 45])) (vU
 [vN 48 1 3,LD 49 48,O1 50 (.call 357 true) 49,MV 47 50] (C.cond (.t 47) (vU [MV 51 0,O1 52 (.load (some 7)) 3,MV 53 4,ON 54 (.call 345 false) [.t 51,.t 52,.t 53]] (vU [MV 55
 0,O1 56 .nilchk 55,vN 57 3 56,⟨none,none,.store 1,[.t 57,.c (.bool true)]⟩] (vY [MV 58 0,O1 59 .nilchk 58,vN 60 1 59,vN 61 1 3,LD 62 61,O2 63 (.call 377 false) 60 62]))) (vU
 [vN 65 1 3,LD 66 65,O1 67 (.call 220 true) 66,vP 68 .eql 67 6,MV 64 68] (C.cond (.t 64) (vU [MV 69 0,O1 70 (.call 288 false) 69] (vY [MV 71 0,O1 72 .nilchk 71,vN 73 4
 72,⟨none,none,.store 1,[.t 73,.c (.bool false)]⟩])) (vU [MV 7 0,O1 8 (.call 288 false) 7] (vU [MV 9 0,O1 10 (.load (some 7)) 3,MV 11 4,vP 12 .or 11 8,ON 13 (.call 345 false)
 [.t 9,.t 10,.t 12]] (C.draw (DT.one ⟨some 14,none,.mv,[.t 0]⟩ ((DT.one ⟨some 15,none,.call 346 false,[.t 14]⟩ (DT.one ⟨some 16,none,.fldA 1,[.t 3]⟩ (DT.one ⟨some 17,none,.load
 none,[.t 16]⟩ vp))).two (DT.one ⟨some 16,none,.fldA 1,[.t 3]⟩ ((DT.one ⟨some 15,none,.call 346 false,[.t 14]⟩ (DT.one ⟨some 17,none,.load none,[.t 16]⟩ vp)).two (DT.one ⟨some
 17,none,.load none,[.t 16]⟩ ((DT.one ⟨some 15,none,.call 346 false,[.t 14]⟩ vp).two (DT.one ⟨some 18,none,.bslc 1 1 1 5 [.int .u8 0] [(0,1)],[.t 17]⟩ ((DT.one ⟨some
 15,none,.call 346 false,[.t 14]⟩ (DT.one ⟨some 19,none,.b2s,[.t 18]⟩ vn)).two (DT.one ⟨some 19,none,.b2s,[.t 18]⟩ (DT.one ⟨some 15,none,.call 346 false,[.t 14]⟩
 vn)))))))))))))))))))))))
theorem qc4:qG Tryz.prog 344 74 2 [] qfv:=fi Tryz.f344 [3,18] qpg []
end
