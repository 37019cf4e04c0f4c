import Derived.Test.YtiiegfkjmnoijaaGreatDoorK12
import Derived.RangeFuncBox
import Derived.Laws.Rows
import Derived.Test.YtiiegfkjmnoijaaGreatDoorK9
import Derived.Test.YtiiegfkjmnoijaaGreatDoorK10
import Derived.Test.YtiiegfkjmnoijaaGreatDoorK3
import Derived.Test.YtiiegfkjmnoijaaGreatDoorK5
import Derived.Test.YtiiegfkjmnoijaaGreatDoorK8
import Derived.Test.YtiiegfkjmnoijaaGreatDoorProg
set_option linter.all false
set_option maxHeartbeats 128000000
set_option maxRecDepth 100000
section
open Go Go.Proofs AF HY RC LN
namespace HY
def dy(v:Nat)(s:List UInt8):AObj:=if s= [] then .emp v else .mem v 5 (zN s)
theorem bC(v:Nat):dy v []= .emp v:=rfl
theorem yi{s:List UInt8}(h:s≠ [])(v:Nat):dy v s= .mem v 5 (zN s):=ine h
theorem dP(s u:List UInt8):zN (s++u)=zN s++zN u:=by simp[zN]
theorem rk(s:List UInt8)(n:Nat): ∀c∈zN s,ze n c=true:=by
 intro c hc;unfold zN at hc;rw[List.mem_map]at hc;obtain⟨a,_,rfl⟩:=hc;rfl
theorem jt(v:Nat)(s:List UInt8)(n:Nat):lowO n (dy v s):=by
 unfold dy;split
 ·trivial
 ·exact rk s n
theorem fo{kb kj:Nat}{h:w6}{X Y Z:AObj}(hne:kb≠kj):qu kb (qu kj (qu kb h X) Y) Z=qu kj (qu kb h Z) Y:=by
 rw[kY hne,kZ]
theorem CU(v:Nat)(u:List UInt8):(if u.length=0 then AObj.emp v else AObj.mem v 5 (zN u))=dy v u:=by
 unfold dy
 by_cases h:u= []
 ·simp[h]
 ·rw[ine h,ine (by simpa using h)]
theorem aS(w:World)(g n:Nat):w.grownBy (w.drew.freeze ⟨g,0,none⟩ n) (some g):=by
 unfold World.freeze;split
 ·exact⟨rfl,rfl,rfl,nlr _,λ_ _ _=>rfl⟩
 ·refine⟨rfl,rfl,rfl,?_,λk hk hne=> ?_⟩
  ·show w.heap.size<=(w.heap.modify g _).size;rw[Array.size_modify];exact nlr _
  ·have:g≠k:=λe=>hne (by rw[e])
   show (w.heap.modify g _)[k]? =w.heap[k]?;rw[Array.getElem?_modify,ine this]
theorem su{p:Program}{fits:TypeId->Bool}{e:TypeId}{c c' off n:Nat}(hc:c<=c'): ∀d,rowAt p fits d e c off n=true->rowAt p fits d e c' off n=true:=by
 intro d;cases d with
 |zero=>exact id
 |succ d=>
  unfold rowAt;simp only;split
  ·exact id
  ·intro h;rw[Bool.or_eq_true]at h ⊢;rcases h with h|h
   ·refine .inl ?_;simp only[Bool.and_eq_true,decide_eq_true_iff]at h ⊢;exact⟨⟨h.1.1,om⟩,h.2⟩
   ·refine .inr ?_;rw[Bool.and_eq_true]at h ⊢;exact⟨by simp only[decide_eq_true_iff]at h ⊢;omega,h.2⟩
theorem ym{p:Program}{e u:TypeId}{c c' off n:Nat}(hc:c<=c'): ∀d,liesAt p d e c off u n=true->liesAt p d e c' off u n=true:=by
 intro d
 induction d generalizing u n with
 |zero=>exact id
 |succ d ih=>
  unfold liesAt;intro h;rw[Bool.or_eq_true]at h ⊢;rcases h with h|h
  ·exact .inl (su hc _ h)
  ·refine .inr ?_;split at h
   ·exact ih h
   ·cases h
theorem qc9(n:Nat)(hn:2<=n):liesAt Tryz.prog Tryz.prog.depth 160 (n/Tryz.prog.cellsOf 160) 0 158 1=true:=by
 have e1:Tryz.prog.cellsOf 160=2:=by kernel_rfl
 have h1:liesAt Tryz.prog Tryz.prog.depth 160 1 0 158 1=true:=by kernel_rfl
 rw[e1];exact ym om _ h1
theorem ccB(kb vb:Nat)(A B:AV)(h:w6)(hk:qv kb h=some (.mem vb 160 [A,B]))(hA:A= .nilp∨A= .op kb vb 0):ACalls Tryz.prog 159 [.op kb vb 0] h (.tup []) (qu kb h (.mem vb 160 [.op kb vb 0,B])):=by
 refine⟨BS Tryz.func159 (by kernel_rfl) (by kernel_rfl),λw σ xs H hv=> ?_⟩;obtain⟨x,rfl,hx⟩:=hv.one;have hc:=qL hk;obtain⟨cs,o,b,arr,g1,rfl,g2,g3,g4,g5,g6,g7,g9,g8⟩:=kq H hx (by rw[hc];rfl);rw[hc]at g1;cases g1;have hobj:=H.obj kb _ o hk g2;obtain⟨_,hty,_⟩:=hobj;rw[hty]at g5;have g5b:=g5;have g5:=g5.plain (by decide);have hsz:2<=arr.size:=g7;have hc0:w.cell? ⟨b,0,none⟩=some arr[0]:=by rw[jZ g5b];simp
 have hA0:=g8 0 A arr[0] rfl (by simp);have hsh:w.shape? b=some (160,arr.size):=by simp[World.shape?,g5]
 have hfz:w.frozen? ⟨b,0,none⟩=false:=by simp[World.frozen?,g5]
 have hkl:=zA hk;rcases hA with rfl|rfl
 ·rw[dw hA0]at hc0;refine (callsIn_wide.2 (fu b 0 160 arr.size w hc0 om hsh hfz (qc9 _ hsz))).mono ?_;rintro e w' ⟨rfl,rfl⟩;have hg:w.grownBy (w.setCell ⟨b,0,none⟩ (.pointer (some ⟨b,0,none⟩))) o.blk:=by rw[g4];exact grownBy_setCell' w b _
  have hh:=heap_setCell_same w b 0 arr 160 (.pointer (some ⟨b,0,none⟩)) g5;obtain⟨u1,u2⟩:=H.update (o':=o) (a':= .mem vb 160 [.op kb vb 0,B]) g2 hg (nlr _) (λ_=>rfl)
   (by intro b' e;rw[g4]at e;cases e;exact⟨.inl g4,(Array.getElem?_eq_some_iff.1 hh).1⟩) (λb' r e hr=>by rw[g4]at e;cases e;rw[g5]at hr;cases hr)
   (λe=>⟨g3,hty,b,_,g4,by rw[hty];exact .mk hh,by simp[g6],by simp;exact hsz,λi y hi hy=>by
    simp only[Array.getElem?_setIfInBounds]at hy;split at hy
    ·split at hy
     ·cases hy;rfl
     ·cases hy
    ·exact g9 i y (by simpa using hi) hy,λi c y hc hy=>by
    simp only[Array.getElem?_setIfInBounds]at hy;split at hy
    ·rename_i e0;split at hy
     ·cases hy;subst e0;simp at hc;subst hc;have hko:(σ.set kb o)[kb]? =some o:=by rw[List.getElem?_set_self (by rw[H.len];exact hkl)]
      exact .op o hko ⟨_,rfl⟩ om (λ_=>⟨b,g4,rfl⟩)
     ·cases hy
    ·rename_i e0;have hne:i≠0:=λe1=>e0 e1.symm
     have hcs: [.op kb vb 0,B]= [.nilp,B].set 0 (.op kb vb 0):=rfl;rw[hcs,List.getElem?_set_ne (λe1=>hne e1.symm)]at hc
     exact (g8 i c y hc hy).ext e⟩)
  exact⟨_,_,rfl,u1,.imm (.tup rfl (λi c x hc=>by simp at hc)),u2⟩
 ·obtain⟨o',q1,q2,q3⟩:=AE hA0;rw[g2]at q1;cases q1;obtain⟨b',q4,q5⟩:=q3 g3;rw[g4]at q4;cases q4;rw[q5]at hc0;refine (callsIn_wide.2 (mF b 0 w hc0)).mono ?_;rintro e w' ⟨rfl,rfl⟩;rw[jJ hk];exact⟨_,σ,rfl,H,.imm (.tup rfl (λi c x hc=>by simp at hc)),Ext.refl w' σ⟩
theorem qda(n:Nat)(hn:2<=n):liesAt Tryz.prog Tryz.prog.depth 158 (n/Tryz.prog.cellsOf 158) 0 158 1=true:=by
 have e1:Tryz.prog.cellsOf 158=2:=by kernel_rfl
 have h1:liesAt Tryz.prog Tryz.prog.depth 158 1 0 158 1=true:=by kernel_rfl
 rw[e1];exact ym om _ h1
theorem ccS(kb vb:Nat)(A B:AV)(h:w6)(hk:qv kb h=some (.mem vb 158 [A,B]))(hA:A= .nilp∨A= .op kb vb 0):ACalls Tryz.prog 159 [.op kb vb 0] h (.tup []) (qu kb h (.mem vb 158 [.op kb vb 0,B])):=by
 refine⟨BS Tryz.func159 (by kernel_rfl) (by kernel_rfl),λw σ xs H hv=> ?_⟩;obtain⟨x,rfl,hx⟩:=hv.one;have hc:=qL hk;obtain⟨cs,o,b,arr,g1,rfl,g2,g3,g4,g5,g6,g7,g9,g8⟩:=kq H hx (by rw[hc];rfl);rw[hc]at g1;cases g1;have hobj:=H.obj kb _ o hk g2;obtain⟨_,hty,_⟩:=hobj;rw[hty]at g5;have g5b:=g5;have g5:=g5.plain (by decide);have hsz:2<=arr.size:=g7;have hc0:w.cell? ⟨b,0,none⟩=some arr[0]:=by rw[jZ g5b];simp
 have hA0:=g8 0 A arr[0] rfl (by simp);have hsh:w.shape? b=some (158,arr.size):=by simp[World.shape?,g5]
 have hfz:w.frozen? ⟨b,0,none⟩=false:=by simp[World.frozen?,g5]
 have hkl:=zA hk;rcases hA with rfl|rfl
 ·rw[dw hA0]at hc0;refine (callsIn_wide.2 (fu b 0 158 arr.size w hc0 om hsh hfz (qda _ hsz))).mono ?_;rintro e w' ⟨rfl,rfl⟩;have hg:w.grownBy (w.setCell ⟨b,0,none⟩ (.pointer (some ⟨b,0,none⟩))) o.blk:=by rw[g4];exact grownBy_setCell' w b _
  have hh:=heap_setCell_same w b 0 arr 158 (.pointer (some ⟨b,0,none⟩)) g5;obtain⟨u1,u2⟩:=H.update (o':=o) (a':= .mem vb 158 [.op kb vb 0,B]) g2 hg (nlr _) (λ_=>rfl)
   (by intro b' e;rw[g4]at e;cases e;exact⟨.inl g4,(Array.getElem?_eq_some_iff.1 hh).1⟩) (λb' r e hr=>by rw[g4]at e;cases e;rw[g5]at hr;cases hr)
   (λe=>⟨g3,hty,b,_,g4,by rw[hty];exact .mk hh,by simp[g6],by simp;exact hsz,λi y hi hy=>by
    simp only[Array.getElem?_setIfInBounds]at hy;split at hy
    ·split at hy
     ·cases hy;rfl
     ·cases hy
    ·exact g9 i y (by simpa using hi) hy,λi c y hc hy=>by
    simp only[Array.getElem?_setIfInBounds]at hy;split at hy
    ·rename_i e0;split at hy
     ·cases hy;subst e0;simp at hc;subst hc;have hko:(σ.set kb o)[kb]? =some o:=by rw[List.getElem?_set_self (by rw[H.len];exact hkl)]
      exact .op o hko ⟨_,rfl⟩ om (λ_=>⟨b,g4,rfl⟩)
     ·cases hy
    ·rename_i e0;have hne:i≠0:=λe1=>e0 e1.symm
     have hcs: [.op kb vb 0,B]= [.nilp,B].set 0 (.op kb vb 0):=rfl;rw[hcs,List.getElem?_set_ne (λe1=>hne e1.symm)]at hc
     exact (g8 i c y hc hy).ext e⟩)
  exact⟨_,_,rfl,u1,.imm (.tup rfl (λi c x hc=>by simp at hc)),u2⟩
 ·obtain⟨o',q1,q2,q3⟩:=AE hA0;rw[g2]at q1;cases q1;obtain⟨b',q4,q5⟩:=q3 g3;rw[g4]at q4;cases q4;rw[q5]at hc0;refine (callsIn_wide.2 (mF b 0 w hc0)).mono ?_;rintro e w' ⟨rfl,rfl⟩;rw[jJ hk];exact⟨_,σ,rfl,H,.imm (.tup rfl (λi c x hc=>by simp at hc)),Ext.refl w' σ⟩
theorem fm{kb vb kj v m:Nat}{h:w6}{s:List UInt8}(hkl:kb<h.length)(hjl:kj<h.length): ∀o∈qu kj (qu kb h (.mem vb 158 [.op kb vb 0,.osl kj v 1 0 m])) (dy v s),o∈h∨lowO h.length o:=by
 intro o ho;rcases jB ho with h1|rfl
 ·rcases jB h1 with h2|rfl
  ·exact .inl h2
  ·right;intro c hc;simp only[List.mem_cons,List.not_mem_nil,or_false]at hc;rcases hc with rfl|rfl
   ·simpa[ze] using hkl
   ·simpa[ze] using hjl
 ·exact .inr (jt v s _)
theorem qgs(kb vb kj v:Nat)(A:AV)(s u:List UInt8)(h:w6)(hne:kj≠kb)(hk:qv kb h=some (.mem vb 158 [A,.osl kj v 1 0 s.length]))(hA:A= .nilp∨A= .op kb vb 0)(hj:qv kj h=some (dy v s))(hl:s.length+u.length<=140737488355328):
  ACalls Tryz.prog 118 [.op kb vb 0,.str u] h (.tup [.int .i64 u.length,.nilif]) (qu kj (qu kb h (.mem vb 158 [.op kb vb 0,.osl kj (v+1) 1 0 (s.length+u.length)])) (dy (v+1) (s++u))):=by
 have hkl:=zA hk;have hjl:=zA hj;have hne':kb≠kj:=λe=>hne e.symm
 have hk1: ∀l,qv kb (h++l)=some (.mem vb 158 [A,.osl kj v 1 0 s.length]):=λl=>by rw[zQ hkl,hk]
 refine acO LZ ?_;simp (disch:=omega) only[HN,go_sem];refine qE (ccS kb vb A _ _ (hk1 _) hA) ⟨rfl,trivial⟩ ?_
 by_cases hs:s= []
 ·subst hs;rw[bC]at hj;simp (disch:=omega) only[zR,jl,qX,fG,fH,gw,gx,jb,jI,ql,dZ,hj,go_sem];refine⟨om,⟨by simp,by simp at hl;omega⟩,?_⟩;rw[fo hne',CU];refine wG ⟨trivial,trivial,trivial⟩ (by simp only[qQ]) (fm hkl hjl) ⟨rfl,?_⟩ (qi);simp
 ·rw[yi hs]at hj;simp (disch:=omega) only[zR,jl,qX,fG,fH,gw,gx,jb,jI,ql,xP,hj,jP,go_sem]
  repeat' first|(with_reducible apply aiA)
  all_goals first
   |omega
   |(simp[jP];done)
   |skip
  rw[fo hne',ltl (by simp[jP]),<-dP,<-yi (by simp[hs])];exact wG ⟨trivial,trivial,trivial⟩ (by simp only[qQ]) (fm hkl hjl) ⟨rfl,rfl⟩ (qi)
theorem qf9(kb vb kj v:Nat)(A:AV)(s:List UInt8)(h:w6)(hne:kj≠kb)(hk:qv kb h=some (.mem vb 158 [A,.osl kj v 1 0 s.length]))(hj:qv kj h=some (dy v s)):
  ACalls Tryz.prog 116 [.op kb vb 0] h (.str s) (qu kj h (.emp (v+1))):=by
 refine⟨BS Tryz.func116 (by kernel_rfl) (by kernel_rfl),λw σ xs H hv=> ?_⟩;obtain⟨x,rfl,hx⟩:=hv.one;have hc:=qL hk;obtain⟨cs,o,b,arr,g1,rfl,g2,g3,g4,g5,g6,g7,g9,g8⟩:=kq H hx (by rw[hc];rfl);rw[hc]at g1;cases g1;have hty:=(H.obj kb _ o hk g2).2.1;rw[hty]at g5;have g5b:=g5;have g5:=g5.plain (by decide);have hsz:2<=arr.size:=g7;have hc1:w.cell? ⟨b,0+1,none⟩=some arr[0+1]:=by rw[jZ g5b];simp
 have hB:=g8 (0+1) _ arr[0+1] rfl (by simp);obtain⟨oj,j1,j2,j3⟩:=VE hB;have hobj:=H.obj kj _ oj hj j1;have hkj:=zA hj
 by_cases hs:s= []
 ·subst hs;rw[bC]at hj hobj;obtain⟨m1,m2⟩:=hobj;rcases j3 m1 with⟨_,_,_,e⟩|⟨b',cap,e,_⟩
  ·rw[e]at hc1;refine (callsIn_wide.2 (pL b 0 w hc1)).mono ?_;rintro e w' ⟨rfl,rfl⟩;obtain⟨u1,u2⟩:=H.update (w':=w.drew) (o':= { oj with blk:=none,ver:=v+1 }) (a':= .emp (v+1)) j1 ⟨rfl,rfl,rfl,nlr _,λ_ _ _=>rfl⟩ (by simp only;omega) (by simp only;omega) (by intro b' e;cases e) (λb' r e hr=>⟨r,hr⟩) (λ_=>⟨rfl,rfl⟩);exact⟨_,_,rfl,u1,.imm .str,u2⟩
  ·rw[m2]at e;cases e
 ·rw[yi hs]at hj hobj;obtain⟨m1,m2,bj,arrj,m3,m4,m5,m6,m7,m8⟩:=hobj;rcases j3 m1 with⟨e,_⟩|⟨b',cap,e1,e2,e3,e4,e5⟩
  ·rw[m3]at e;cases e
  ·rw[m3]at e1;cases e1;rw[e2]at hc1;rw[m2]at m4;have m4b:=m4;have m4:=m4.plain (by decide);rw[jP]at m6;refine (callsIn_wide.2 (pM b 0 bj cap s arrj w hs hc1 m4 e3 e4 om (λj x hx=> ?_))).mono ?_
   ·have hjl:j<s.length:=(lgs.1 hx).1;rw[jZ m4b];have ea:arrj[j]? =some arrj[j]:=by simp
    have:=m8 j (.int .u8 x.toNat) arrj[j] (by simp[zN,hx]) ea
    rw[ea,zY this]
   ·rintro e w' ⟨rfl,rfl⟩;have hg:w.grownBy (w.drew.freeze ⟨bj,0,none⟩ s.length) oj.blk:=by
     rw[m3];exact aS w bj s.length
    obtain⟨u1,u2⟩:=H.update (o':= { oj with blk:=none,ver:=v+1 }) (a':= .emp (v+1)) j1 hg (by simp only;omega) (by simp only;omega) (by intro b' e;cases e)
     (λb' r e hr=>by rw[m3]at e;cases e;rw[m4]at hr;cases hr) (λ_=>⟨rfl,rfl⟩)
    exact⟨_,_,rfl,u1,.imm .str,u2⟩
end HY
end
section
open Go Go.Proofs AF
def aq:List Nat:= [118,116,307,285,244,282,245,283,247]
def I0:C:=
 (v6 [MV 7 0,O1 8 .len 7,vU 9 0] (C.block 0 (v6 [BI 10 .lss 9 8] ((v8 10 0).seq ((C.block 1 (v6 [O2 11 (.idxA 4) 7 9,O1 12 (.load (some 4)) 11,⟨some 5,none,.alloc 0 198 [i6
 0,.str [],i6 0,.nl],[]⟩,ST 4 5 12] (v6 [vT 13 0 5,LD 14 13,O1 15 (.gix 4 12 4) 14,O1 16 (.load (some 4)) 15,⟨some 6,none,.alloc 1 324 [.str [],.bool false,.bool false,.bool
 false],[]⟩,ST 4 6 16] (C.block 2 (v6 [vT 26 0 5,LD 27 26,vV 28 .eql 27 1,MV 25 28] (C.cond (.t 25) (wc [vT 29 1 5,LD 30 29,O2 31 (.call 118 false) 1 30]) (v6 [vT 33 3 6,LD 34
 33,MV 32 34] (C.cond (.t 32) (v6 [vT 35 0 6,LD 36 35,ON 37 (.bin .add) [.c (.str [60]),.t 36],O1 38 (.load (some 4)) 5,O1 39 (.call 305 true) 38,BI 40 .add 37 39,BC 41 .add 40
 (.str [62]),O2 42 (.call 118 false) 1 41] (v6 [LD 43 2,vT 44 3 5,LD 45 44,O2 46 .callv 43 45] (wc [vT 47 0 6,LD 48 47,ON 49 (.bin .add) [.c (.str [60,47]),.t 48],BC 50 .add 49
 (.str [62]),O2 51 (.call 118 false) 1 50]))) (wc [vT 17 0 6,LD 18 17,ON 19 (.bin .add) [.c (.str [60]),.t 18],O1 20 (.load (some 4)) 5,O1 21 (.call 305 true) 20,BI 22 .add 19
 21,BC 23 .add 22 (.str [47,62]),O2 24 (.call 118 false) 1 23]))))))))).seq (wc [vV 52 .add 9 1,MV 9 52])))).loop))
theorem NR:qN Tryz.prog 304 53 2 [] I0:=fi Tryz.f304 [5,6] aq []
@[go_sem]def vm:DT:= DT.one ⟨some 22,none,.nilchk,[.t 10]⟩ (DT.one ⟨some 23,none,.fldA 5,[.t 22]⟩ (DT.one ⟨none,none,.store 1,[.t 23,.t 19]⟩ DT.nil))
@[go_sem]def vk:DT:= DT.one ⟨some 17,some (15,false),.load none,[.t 16]⟩ (DT.one ⟨some 18,some (15,false),.bin .eql,[.t 17,.c (i6 5)]⟩ (DT.one ⟨some 19,none,.pick,[.t 15,.c (.bool true),.t 18]⟩ vm))
def IJ:C:=
 (v6 [O1 3 (.box 0 269) 1] (v6 [vT 5 0 3,LD 6 5] (C.block 0 (v6 [vV 25 .eql 6 1,MV 24 25] (C.cond (.t 24) (wc [MV 26 0,O1 27 (.load (some 7)) 3,O2 28 (.call 282 false) 26 27])
 (v6 [vV 30 .eql 6 6,MV 29 30] (C.cond (.t 29) (v6 [MV 31 0,O1 32 (.call 245 false) 31] (v6 [vU 4 2] ((v6 [vT 33 5 3,LD 34 33] (v7 34 (wc [MV 35 4,vV 36 .or 35 1,MV 4 36]))).seq
 (v6 [MV 37 0,O1 38 (.load (some 7)) 3,MV 39 4,ON 40 (.call 283 false) [.t 37,.t 38,.t 39]] (wc [MV 41 0,O1 42 (.call 284 true) 41,vT 43 2 3,LD 44 43,O1 45 (.call 115 true)
 44,ON 46 (.bin .add) [.c (.str [91]),.t 45],BC 47 .add 46 (.str [93]),O1 48 .nilchk 42,vT 49 0 48,ST 1 49 47]))))) (v6 [MV 7 0,O1 8 (.call 245 false) 7] (C.draw (DT.one ⟨some
 9,none,.mv,[.t 0]⟩ (DT.one ⟨some 10,none,.mv,[.t 0]⟩ (DT.one ⟨some 11,none,.mv,[.t 0]⟩ (DT.one ⟨some 12,none,.nilchk,[.t 11]⟩ (DT.one ⟨some 13,none,.fldA 5,[.t 12]⟩ (DT.one
 ⟨some 14,none,.load none,[.t 13]⟩ (DT.one ⟨some 15,none,.mv,[.t 14]⟩ (DT.one ⟨some 20,none,.nilchk,[.t 9]⟩ (DT.one ⟨some 21,none,.fldA 4,[.t 20]⟩ ((DT.one ⟨some 16,some
 (15,false),.fldA 0,[.t 3]⟩ ((DT.one ⟨some 17,some (15,false),.load none,[.t 16]⟩ (DT.one ⟨some 18,some (15,false),.bin .eql,[.t 17,.c (i6 5)]⟩ (DT.one ⟨some 19,none,.pick,[.t
 15,.c (.bool true),.t 18]⟩ (DT.one ⟨none,none,.store 1,[.t 21,.c (.bool false)]⟩ vm)))).two (DT.one ⟨none,none,.store 1,[.t 21,.c (.bool false)]⟩ vk))).two (DT.one
 ⟨none,none,.store 1,[.t 21,.c (.bool false)]⟩ (DT.one ⟨some 16,some (15,false),.fldA 0,[.t 3]⟩ vk)))))))))))))))))))))
theorem Nw:qN Tryz.prog 244 50 1 [] IJ:=fi Tryz.f244 [3] aq []
def Da:C:=
 ((v6 [MV 2 0,O1 3 .nilchk 2,vT 4 3 3,LD 5 4] (v7 5 (wc [MV 6 0,O1 7 (.call 284 true) 6,MV 8 0,O1 9 .nilchk 8,vT 10 1 9,O1 11 (.call 116 false) 10,O1 12 .nilchk 7,vT 13 0 12,ST 1
 13 11]))).seq (v6 [MV 14 0,O1 15 .nilchk 14,vT 16 3 15,⟨none,none,.store 1,[.t 16,.c (.bool false)]⟩] (wc [MV 17 0,O1 18 .nilchk 17,vT 19 1 18,O1 20 (.call 285 false) 19])))
theorem Bq:qN Tryz.prog 245 21 0 [] Da:=fi Tryz.f245 [] aq []
@[go_sem]def vn:DT:= DT.one ⟨some 38,none,.app 2 6 92 80,[.t 30,.t 37]⟩ (DT.one ⟨some 39,none,.nilchk,[.t 26]⟩ (DT.one ⟨some 40,none,.fldA 0,[.t 39]⟩ (DT.one ⟨none,none,.store 1,[.t 40,.t 38]⟩
 DT.nil)))
@[go_sem]def vp:DT:= DT.one ⟨some 30,none,.load none,[.t 29]⟩ vn
def Wi:C:=
 (v6 [O1 4 (.box 0 269) 1] ((v6 [MV 6 0,O1 7 .nilchk 6,vT 8 4 7,LD 9 8,MV 10 9,MG 11 10 true 0,P1 12 10 true .nilchk 11,P1 13 10 true (.fldA 0) 12,P1 14 10 true (.load none)
 13,P1 15 10 true .len 14,PC 16 10 true (.bin .gtr) 15 (i6 0),PF 17 10 16] (v7 17 (wc [MV 18 2,vV 19 .or 18 16,MV 2 19]))).seq ((v6 [MV 20 0,O1 21 .nilchk 20,vT 22 5 21,LD 23
 22] (v7 23 (wc [MV 24 2,vV 25 .or 24 4,MV 2 25]))).seq ((C.draw (DT.one ⟨some 26,none,.mv,[.t 0]⟩ (DT.one ⟨some 27,none,.mv,[.t 0]⟩ (DT.one ⟨some 31,none,.fldA 3,[.t 4]⟩
 (DT.one ⟨some 32,none,.load (some 2),[.t 31]⟩ (DT.one ⟨some 33,none,.mv,[.t 2]⟩ (DT.one ⟨some 34,none,.fldA 6,[.t 4]⟩ (DT.one ⟨some 35,none,.load none,[.t 34]⟩ (DT.one ⟨some
 36,none,.build [.str [],.str [],.str [],i6 0,i6 0,.str []] [(2,2),(4,1),(5,1)],[.t 32,.t 33,.t 35]⟩ ((DT.one ⟨some 28,none,.nilchk,[.t 27]⟩ ((DT.one ⟨some 29,none,.fldA 0,[.t
 28]⟩ ((DT.one ⟨some 30,none,.load none,[.t 29]⟩ (DT.one ⟨some 37,none,.bslc 1 6 1 92 [.str [],.str [],.str [],i6 0,i6 0,.str []] [(0,6)],[.t 36]⟩ vn)).two (DT.one ⟨some
 37,none,.bslc 1 6 1 92 [.str [],.str [],.str [],i6 0,i6 0,.str []] [(0,6)],[.t 36]⟩ vp))).two (DT.one ⟨some 37,none,.bslc 1 6 1 92 [.str [],.str [],.str [],i6 0,i6 0,.str []]
 [(0,6)],[.t 36]⟩ (DT.one ⟨some 29,none,.fldA 0,[.t 28]⟩ vp)))).two (DT.one ⟨some 37,none,.bslc 1 6 1 92 [.str [],.str [],.str [],i6 0,i6 0,.str []] [(0,6)],[.t 36]⟩ (DT.one
 ⟨some 28,none,.nilchk,[.t 27]⟩ (DT.one ⟨some 29,none,.fldA 0,[.t 28]⟩ vp))))))))))))).seq (wc [MV 41 0,MV 42 0,O1 43 .nilchk 41,vT 44 4 43,⟨none,none,.store 1,[.t 44,.c (.bool
 true)]⟩,O1 45 .nilchk 42,vT 46 5 45,⟨none,none,.store 1,[.t 46,.c (.bool false)]⟩])))))
theorem Ze:qN Tryz.prog 283 47 3 [] Wi:=fi Tryz.f283 [4,37,38] aq []
def IX:C:=
 (v6 [MV 2 0,O1 3 .nilchk 2,vT 4 0 3,⟨none,none,.store 1,[.t 4,.c .nilp]⟩] (wc [MV 5 0,O1 6 .nilchk 5,vT 7 1 6,⟨none,none,.store 1,[.t 7,.c .nl]⟩]))
theorem NM:qN Tryz.prog 285 8 0 [] IX:=fi Tryz.f285 [] aq []
def IK:C:=
 (v6 [ON 4 (.nilo 0 6 92) [],vU 5 0] ((v6 [MV 9 1,O1 10 .len 9,vU 11 0] (C.block 0 (v6 [BI 12 .lss 11 10] ((v8 12 0).seq ((C.block 1 (v6 [MV 13 11,MV 6 13] (v6 [MV 14 1,MV 15
 6,MV 16 1,MV 17 6,O2 18 (.idxA 6) 16 17,vT 19 0 18,LD 20 19,O2 21 (.idxA 6) 14 15,vT 22 1 21,ST 1 22 20] ((v6 [MV 23 1,MV 24 6,O2 25 (.idxA 6) 23 24,O1 26 (.load (some 6))
 25,O1 27 (.call 232 true) 26,O1 28 (.un UnOp.not) 27] (v7 28 (C.exit 1))).seq (v6 [MV 30 0,MV 31 1,MV 32 6,O2 33 (.idxA 6) 31 32,vT 34 0 33,LD 35 34,O2 36 (.call 286 true) 30
 35,MV 29 36,O1 37 (.ext 0) 29,O1 38 (.ext 1) 29,MV 7 37,MV 8 38] ((v6 [MV 39 8,vV 40 .neq 39 0] (v7 40 (wa [MV 41 8,ON 4 (.nilo 0 6 92) [],MV 5 41]))).seq (wc [MV 42 1,MV 43
 6,MV 44 7,O2 45 (.idxA 6) 42 43,vT 46 1 45,ST 1 46 44]))))))).seq (wc [vV 47 .add 11 1,MV 11 47])))).loop)).seq (wa [MV 48 1,MV 4 48,vU 5 0])))
theorem Ny:qN Tryz.prog 247 49 1 [RV.tmp 4,RV.tmp 5] IK:=fi Tryz.f247 [4] aq []
end
section
open Go Go.Proofs AF HY LN
namespace RC
theorem itN(s:Str):tV Tryz.prog 302 [.ip [kp s]] [[.agg (plC s)]]:=by
 intro h ts LI S E hS hE body start hts;have hb:(h++ [AObj.lp LS.ready ts LI]).length=h.length+1:=by simp
 have ea: ∀st,h++ [AObj.lp st ts LI]++ [.mem 1 321 [.yld h.length],.mem 1 322 [.fn (.func 303) [] [.op (h.length+1) 1 0,.op (h.length+2) 1 0]]]=h++ [AObj.lp st ts LI,cyl h.length,cwk h.length]:=λst=>by simp[cyl,cwk]
 refine acQ NQ ?_;simp (disch:=omega) only[IZ,kp,go_sem]
 repeat' first|with_reducible apply aiA|exact clz|fail
 simp only[hb,Nat.add_assoc,Nat.reduceAdd,ea];refine Qe (wlk1 s h ts LI S E hS hE body start hts) ?_;rintro v h' ⟨hh',⟨rfl,hn,rfl⟩|⟨st,rfl,hs',rfl⟩⟩
 ·simp (disch:=omega) only[go_sem];obtain⟨r1,r2⟩:=(hS _ _ hn).retX (L:=LI) (xs:= []) .ready hts;have eO:hh'++ [.lp .ready ts LI,cyl h.length,cwk h.length]=(hh'++ [.lp .ready ts LI])++ [cyl h.length,cwk h.length]:=by simp
  rw[eO];exact zW trivial r1 r2 ⟨hh',.inl ⟨hn,rfl⟩⟩ (qi)
 ·simp (disch:=omega) only[go_sem];obtain⟨r1,r2⟩:=(hE _ _ hs').retX (L:=LI) (xs:= []) st hts;have eO:hh'++ [.lp st ts LI,cyl h.length,cwk h.length]=(hh'++ [.lp st ts LI])++ [cyl h.length,cwk h.length]:=by simp
  rw[eO];exact zW trivial r1 r2 ⟨hh',.inr ⟨st,hs',rfl⟩⟩ (qi)
theorem Ft(s:Str)(h:w6):ACalls Tryz.prog 276 [kp s] h (.fn (.func 302) [] [.ip [kp s]]) h:=by
 refine acO NF ?_;simp (disch:=omega) only[IR,kp,ndC,go_sem]
 repeat' first|exact wj|fail
theorem qf5(n:Int)(k v:Nat)(h:w6)(hk:qv k h=some (.mem v 3 [.int .i64 n]))(h0:1<=n)(h1:n<=4096):ACalls Tryz.prog 275 [.op k v 0] h (.bool true) (qu k h (.mem v 3 [.int .i64 (n-1)])):=by
 have hkl:=zA hk;have c1:=qL hk;have k1:(0<=n-1)=True:=xv;have ht:KW (qv k h)=3:=by rw[hk];rfl
 refine acO NE ?_;simp (disch:=omega) only[IQ,c1,k1,go_sem]
 repeat' first|with_reducible apply aiA|exact clz|fail
 rw[ht];exact oR ⟨trivial,trivial⟩ qQ (XM (λn c hc=>by simp at hc;subst hc;rfl)) ⟨rfl,rfl⟩ (qi)
theorem ng(s:Str)(v:Nat)(ty:TypeId): ∀n,lowO n (.mem v ty (plC s)):=λn c hc=>by
 simp[plC]at hc;rcases hc with rfl|rfl|rfl|rfl|rfl|rfl<;>rfl
theorem qey(s:Str)(k:Int)(h:w6)(h1:2<=k)(h2:k<=11)(hc: ∀l,ACalls Tryz.prog 240 [kp s] (h++l) (.int .i64 0) (h++l)):ACalls Tryz.prog 242 [kp s,.int .i64 k] h (.tup [.int .i64 0,.int .i64 0]) h:=by
 have c1:=λh=>Ft s h
 have k1:(k<1)=False:=xD;have k2:(11<k)=False:=xD;have k3:((1:Int)=k)=False:=xD;unfold kp at c1 hc;refine acO Nu ?_;simp (disch:=omega) only[IH,kp,go_sem]
 repeat' first|((first|refine cA (hc _) ?_ ?_|refine cA (c1 _) ?_ ?_);exact flk;simp (disch:=omega) only[k1,k2,go_sem])|with_reducible apply aiA|exact clz|fail
 refine zJ (xs:= [[.agg (plC s)]]) (itN s) (by simp)
  (S:=λi hh=> ∃O,qK [O] 0=true∧(∀n,lowO n O)∧hh=h++ [.mem 1 3 [.int .i64 k],.mem 1 3 [.int .i64 0],O]) (E:=λ_ _=>False) ?_ ?_ ?_ ?_ ?_ ?_ ?_
 ·rintro i hh ⟨O,_,l1,rfl⟩;refine LowI.app rfl (λo ho=> ?_);simp only[List.mem_cons,List.not_mem_nil,or_false]at ho;rcases ho with rfl|rfl|rfl
  ·left;simp
  ·left;simp
  ·right;exact⟨l1 _,l1 _⟩
 ·intro s hh hf;exact hf.elim
 ·exact⟨.emp 0,rfl,λ_=>trivial,rfl⟩
 ·simp[ze,ze.lowVs]
  try omega
 ·rintro i hh tl LI TS hi ⟨O,s1,l1,rfl⟩ hlen K K2 hK hN hR' hX;obtain rfl:i=0:=by simp at hi;omega
  have s1': ∀m,qK (O::m) 0=true:=λ_=>s1
  show zy _ _ _ _ (kA _ _ [.agg (plC s)]) _;simp only[kA];simp (disch:=omega) only[List.append_assoc,plC,s1',go_sem];refine hK _ _ (h++ [.mem 1 3 [.int .i64 k],.mem 1 3 [.int .i64 0],.mem (qn (some O)+1) 303 (plC s)]) (by simp[plC]) (by simp) ?_;simp (disch:=omega) only[List.append_assoc,plC,k3,go_sem]
  repeat' first|with_reducible apply aiA|exact clz|fail
  refine hN _ _ (h++ [.mem 1 3 [.int .i64 k],.mem 1 3 [.int .i64 0],.mem (qn (some O)+1) 303 (plC s)]) (by simp[plC]) (by simp) ⟨.mem (qn (some O)+1) 303 (plC s),rfl,ng s _ _,rfl⟩
 ·rintro hh ⟨O,s1,l1,rfl⟩;simp (disch:=omega) only[go_sem]
  repeat' first|exact wj|with_reducible apply aiA|exact clz|fail
 ·intro e hh hf;exact hf.elim
end RC
end
section
open Go Go.Proofs AF
def EB:List Nat:= [118,116,307,285,244,282,245,283,247]
def IT:C:=
 (v6 [MC 2 (.str [])] (v6 [⟨some 3,none,.alloc 0 158 [.nilp,.nl],[]⟩] (v6 [⟨some 4,none,.alloc 1 326 [.nilfn],[]⟩] (v6 [O2 5 (.mkfn (Fn.func 304) 0) 3 4,ST 1 4 5] ((C.wk.seq (wc
 [LD 6 4,MV 7 0,O2 8 .callv 6 7])).seq (wa [O1 9 (.call 116 false) 3,MV 2 9]))))))
theorem NH:qN Tryz.prog 278 10 3 [RV.tmp 2] IT:=fi Tryz.f278 [3,4,8] EB [4]
end
section
open Go Go.Proofs AF HY LN
namespace RC
theorem qgt(s:Str)(kb vb kj v kw:Nat)(h:w6)(hne:kj≠kb)(hk:qv kb h=some (.mem vb 158 [.nilp,.osl kj v 1 0 0]))(hj:qv kj h=some (.emp v))(hl:s.length<=1000000)(hs:s≠ [])(hg:z7 h frmN frmC):
  ACalls Tryz.prog 304 [kp s,.op kb vb 0,.op kw 1 0] h (.tup []) (qu kj (qu kb h (.mem vb 158 [.op kb vb 0,.osl kj (v+1) 1 0 s.length])) (dy (v+1) s)):=by
 have hkl:=zA hk;have hjl:=zA hj;refine acO NR ?_;simp (disch:=omega) only[I0,kp,ndC,go_sem];obtain⟨H1,hH1⟩:=wD (qu kj (qu kb h (.mem vb 158 [.op kb vb 0,.osl kj (v+1) 1 0 s.length])) (dy (v+1) s))
 rw[<-hH1];have hH1l:H1.length=h.length:=by rw[hH1];simp only[qQ]
 refine qp (T:=λi:Nat×AObj×AObj=>zw 53 [(1,.op kb vb 0),(2,.op kw 1 0),(7,kp s),(8,.int .i64 ((1:Nat):Int)),(9,.int .i64 i.1)])
  (H:=λi=>(if i.1=0 then h else H1)++ [i.2.1,i.2.2])
  (inv:=λi=>i.1<=1∧qK [i.2.1] 0=true∧qK [i.2.2] 0=true) (m:=λi=>1-i.1) (0,.emp 0,.emp 0) ⟨nzl _,rfl,rfl⟩ (Wk.temps ?_) ?_
 ·(simp only[kp,ndC,go_sem,qg,qc,qa,qf];try exact wr)
 rintro⟨i,O5,O6⟩ ⟨i1,i2,i3⟩ K hK;simp only at i1 i2 i3 hK;have i2': ∀m,qK (O5::m) 0=true:=λ_=>i2
 have i3': ∀m,qK (O6::m) 0=true:=λ_=>i3
 by_cases hi:i<1
 ·obtain rfl:i=0:=by omega
  simp only[if_true];simp (disch:=omega) only[kp,ndC,i2',go_sem]
  repeat' first|(with_reducible first|intro _|apply aiA)|exact clz|fail
  refine BJ (cs:=frmC) hg.app ⟨by decide,by decide⟩ rfl ?_;rw[BD];simp (disch:=omega) only[Om,i3',go_sem];refine qE (qgs kb vb kj v .nilp [] s _ hne (by rw[zQ hkl];exact hk) (.inl rfl) (by rw[zQ hjl];exact hj) (by simp;omega)) (by exact flk) ?_;have eH: ∀l,qu kj (qu kb (h++l) (.mem vb 158 [.op kb vb 0,.osl kj (v+1) 1 0 (([]:Str).length+s.length)])) (dy (v+1) ([]++s))=H1++l:=λl=>by
   rw[hH1,lnl,Nat.zero_add,lna,zR hkl,zR (by rw[qQ];exact hjl)]
  rw[eH];simp (disch:=omega) only[go_sem];refine hK _ _ (1,.mem (qn (some O5)+1) 198 (ndC s),.mem (qn (some O6)+1) 324 Om) ⟨nlr _,rfl,rfl⟩ (by simp only;omega) ?_;rw[ine (by simp)];simp only[ndC,Om];refine Wk.temps ?_
  (simp only[kp,ndC,go_sem,qg,qc,qa,qf];try exact wr)
 ·obtain rfl:i=1:=by omega
  rw[ine (by simp)];simp (disch:=omega) only[kp,ndC,go_sem]
  repeat' first|(with_reducible first|intro _|apply aiA)|exact clz|fail
  refine zW trivial hH1l ?_ ⟨rfl,rfl⟩ (qi);rw[hH1];exact fm hkl hjl
theorem qdd(s:Str)(h:w6)(hl:s.length<=1000000)(hs:s≠ [])(hg:z7 h frmN frmC):ACalls Tryz.prog 278 [kp s] h (.str s) h:=by
 refine acO NH ?_;simp (disch:=omega) only[IT,kp,go_sem];refine⟨_,_,Wk.ownNil (j:=h.length) (i:=1) (k:=h.length+2) (v:=1) (ty:=158) (cs:= [.nilp,.nl]) (ve:=0) (sz:=1) ?m1 rfl ?m2,?_⟩
 case m1=>simp only[go_sem]
 case m2=>simp only[go_sem]
 simp (disch:=omega) only[List.set_cons_zero,List.set_cons_succ,go_sem]
 repeat' first|with_reducible apply aiA|exact clz|fail
 refine kQ (qgt s h.length 1 (h.length+2) 0 (h.length+1) _ om (by simp only[go_sem]) (by simp only[go_sem]) hl hs hg.app) ?_;simp (disch:=omega) only[go_sem];refine qE (qf9 h.length 1 (h.length+2) 1 (.op h.length 1 0) s _ om (by simp only[go_sem]) (by simp only[go_sem])) (by exact flk) ?_;simp (disch:=omega) only[go_sem]
 repeat' first|exact wj|fail
theorem qb6(s:Str)(h:w6)(hl:s.length<=1000000)(hl2:s.length<=65536)(hs:s≠ [])(hc:jc s=0)(hg:z7 h frmN frmC):ACalls Tryz.prog 240 [kp s] h (.int .i64 0) h:=by
 have c1:=λh=>Ft s h
 unfold kp at c1;obtain⟨cs,hcs⟩:=wD (AObj.mem 1 32 [.fn (.func 275) [] [.op (h.length+1) 1 0]])
 refine acO Nr ?_;simp (disch:=omega) only[IF,kp,go_sem]
 repeat' first|(refine cA (c1 _) flk ?_;simp (disch:=omega) only[go_sem])
 refine zJ (xs:= [[.agg (plC s)]]) (itN s) (by simp)
  (S:=λi hh=> ∃O,qK [O] 0=true∧(∀n,lowO n O)∧hh=h++ [.mem 1 33 [.int .i64 0],.mem 1 3 [.int .i64 (4096-i)],cs,O,.emp 0]) (E:=λ_ _=>False) ?_ ?_ ?_ ?_ ?_ ?_ ?_
 ·rintro i hh ⟨O,_,l1,rfl⟩;refine LowI.app rfl (λo ho=> ?_);simp only[List.mem_cons,List.not_mem_nil,or_false]at ho;rcases ho with rfl|rfl|rfl|rfl|rfl
  ·left;simp
  ·right;exact⟨λc hc=>(by simp at hc;subst hc;rfl),λc hc=>(by simp at hc;subst hc;rfl)⟩
  ·left;rw[hcs];simp
  ·right;exact⟨l1 _,l1 _⟩
  ·left;simp
 ·intro s hh hf;exact hf.elim
 ·exact⟨.emp 0,rfl,λ_=>trivial,by rw[hcs];rfl⟩
 ·simp[ze,ze.lowVs]
  try omega
 ·rintro i hh tl LI TS hi ⟨O,s1,l1,rfl⟩ hlen K K2 hK hN hR' hX;obtain rfl:i=0:=by simp at hi;omega
  have s1': ∀m,qK (O::m) 0=true:=λ_=>s1
  show zy _ _ _ _ (kA _ _ [.agg (plC s)]) _;simp only[kA];simp (disch:=omega) only[List.append_assoc,plC,s1',go_sem];refine hK _ _ (h++ [.mem 1 33 [.int .i64 0],.mem 1 3 [.int .i64 4096],cs,.mem (qn (some O)+1) 303 (plC s),.emp 0]) (by simp[plC]) (by simp) ?_;rw[hcs];simp (disch:=omega) only[List.append_assoc,plC,go_sem]
  repeat' first|with_reducible apply aiA|exact clz|fail
  refine kQ (qf5 4096 (h.length+1) 1 _ (by simp only[go_sem]) om om) ?_;simp (disch:=omega) only[go_sem]
  repeat' first|(with_reducible first|intro _|apply aiA)|exact clz|fail
  refine hN _ _ (h++ [.mem 1 33 [.int .i64 0],.mem 1 3 [.int .i64 4095],cs,.mem (qn (some O)+1) 303 (plC s),.emp 0]) (by rw[hcs];simp[plC]) (by simp) ⟨.mem (qn (some O)+1) 303 (plC s),rfl,ng s _ _,rfl⟩
 ·rintro hh ⟨O,s1,l1,rfl⟩;have c2:=λh=>Ft s h
  unfold kp at c2;rw[hcs];simp (disch:=omega) only[go_sem]
  repeat' first|(refine cA (c2 _) flk ?_;simp (disch:=omega) only[go_sem])
  have c5:=λl=>qfY s (h++l) hs hl hc hg.app
  have c6:=λl=>qdd s (h++l) hl hs hg.app
  unfold kp at c6;unfold plC at c5;refine zJ (xs:= [[.agg (plC s)]]) (itN s) (by simp)
   (S:=λi hh=> ∃O6,qK [O6] 0=true∧(∀n,lowO n O6)∧hh=h++ [.mem 1 33 [.int .i64 0],.mem 1 3 [.int .i64 4095],cs,O,O6]) (E:=λ_ _=>False) ?_ ?_ ?_ ?_ ?_ ?_ ?_
  ·rintro i hh ⟨O6,_,l2,rfl⟩;refine LowI.app rfl (λo ho=> ?_);simp only[List.mem_cons,List.not_mem_nil,or_false]at ho;rcases ho with rfl|rfl|rfl|rfl|rfl
   ·left;simp
   ·left;simp
   ·left;rw[hcs];simp
   ·left;simp
   ·right;exact⟨l2 _,l2 _⟩
  ·intro s hh hf;exact hf.elim
  ·exact⟨.emp 0,rfl,λ_=>trivial,by rw[hcs];rfl⟩
  ·simp[ze,ze.lowVs]
   try omega
  ·rintro i hh tl LI TS hi ⟨O6,s6,l6,rfl⟩ hlen K K2 hK hN hR' hX;obtain rfl:i=0:=by simp at hi;omega
   have s6': ∀m,qK (O6::m) 0=true:=λ_=>s6
   show zy _ _ _ _ (kA _ _ [.agg (plC s)]) _;simp only[kA];simp (disch:=omega) only[List.append_assoc,plC,s6',go_sem];refine hK _ _ (h++ [.mem 1 33 [.int .i64 0],.mem 1 3 [.int .i64 4095],cs,O,.mem (qn (some O6)+1) 303 (plC s)]) (by simp[plC]) (by simp) ?_;simp (disch:=omega) only[List.append_assoc,plC,go_sem]
   repeat' first|(refine cA (c5 _) flk ?_;simp (disch:=omega) only[go_sem])
   refine hN _ _ (h++ [.mem 1 33 [.int .i64 0],.mem 1 3 [.int .i64 4095],cs,O,.mem (qn (some O6)+1) 303 (plC s)]) (by simp[plC]) (by simp) ⟨.mem (qn (some O6)+1) 303 (plC s),rfl,ng s _ _,rfl⟩
  ·rintro hh ⟨O6,s6,l6,rfl⟩;have k1:((65536:Int)<s.length)=False:=xD;simp (disch:=omega) only[go_sem]
   repeat' first|(refine cA (c6 _) flk ?_;simp (disch:=omega) only[k1,go_sem])|exact wj|fail
  ·intro e hh hf;exact hf.elim
 ·intro e hh hf;exact hf.elim
theorem qeN(h:w6):ACalls Tryz.prog 241 [.nl] h (.int .i64 0) h:=by
 refine acO Ns ?_;simp (disch:=omega) only[IG,go_sem]
 repeat' first|(apply qb;exact rvk;simp only[go_sem];apply qe)|(with_reducible first|intro _|apply aiA)|exact clz|fail
 refine qp (T:=λ_:Unit=>zw 21 [(9,.nl),(10,.int .i64 0),(11,.int .i64 0)]) (H:=λ_=>h++ [.emp 0]) (inv:=λ_=>True) (m:=λ_=>0) () trivial (Wk.temps ?_) ?_
 ·(simp only[go_sem,qg,qc,qa,qf];try exact wr)
 rintro⟨⟩ _ K hK;simp (disch:=omega) only[go_sem]
 repeat' first|exact wj|(with_reducible first|intro _|apply aiA)|exact clz|fail
theorem qgn(s:Str)(h:w6)(hs:s.length<=1000000)(hw: ∀i,i<s.length->xO (ch s i)=true):ACalls Tryz.prog 306 [.str s] h (.bool true) h:=by
 refine acO NS ?_;simp (disch:=omega) only[I1,go_sem];refine qp (T:=λi:Nat=>zw 19 [(0,.str s),(4,.str s),(5,.int .i64 s.length),(6,.int .i64 i)]) (H:=λ_=>h) (inv:=λi=>i<=s.length) (m:=λi=>s.length-i) 0 (nzl _) (Wk.temps ?_) ?_
 ·(simp only[go_sem,qg,qc,qa,qf];try exact wr)
 rintro i i1 K hK
 by_cases hi:i<s.length
 ·have k1:((i:Int)<s.length)=True:=xv;have e:(s[i]?).getD 0=ch s i:=by simp[ch,gdqA]
  have c1:=λh=>bz (ch s i) h
  have g:=hw i hi;unfold xO at g;simp only[Bool.or_eq_true,decide_eq_true_eq]at g;obtain⟨k,hk⟩:=wD (kind (ch s i))
  rw[<-hk]at g;simp only[<-hk]at c1
  by_cases g1:k=1
  ·subst g1;simp (disch:=omega) only[k1,e,go_sem]
   repeat' first|(refine cA (c1 _) flk ?_;simp (disch:=omega) only[go_sem])|with_reducible apply aiA|exact clz|fail
   refine hK _ _ (i+1) hi om (Wk.temps ?_)
   (simp only[go_sem,qg,qc,qa,qf];try exact wr)
  by_cases g2:k=2
  ·subst g2;simp (disch:=omega) only[k1,e,go_sem]
   repeat' first|(refine cA (c1 _) flk ?_;simp (disch:=omega) only[go_sem])|(apply qh;exact rvk;simp only[go_sem];apply qd)|(with_reducible first|intro _|apply aiA)|exact clz|fail
   refine hK _ _ (i+1) hi om (Wk.temps ?_)
   (simp only[go_sem,qg,qc,qa,qf];try exact wr)
  by_cases g3:k=3
  ·subst g3;simp (disch:=omega) only[k1,e,go_sem]
   repeat' first|(refine cA (c1 _) flk ?_;simp (disch:=omega) only[go_sem])|(apply qh;exact rvk;simp only[go_sem];apply qd)|(with_reducible first|intro _|apply aiA)|exact clz|fail
   refine hK _ _ (i+1) hi om (Wk.temps ?_)
   (simp only[go_sem,qg,qc,qa,qf];try exact wr)
  obtain rfl:k=4:=by omega
  simp (disch:=omega) only[k1,e,go_sem]
  repeat' first|(refine cA (c1 _) flk ?_;simp (disch:=omega) only[go_sem])|(apply qh;exact rvk;simp only[go_sem];apply qd)|(with_reducible first|intro _|apply aiA)|exact clz|fail
  refine hK _ _ (i+1) hi om (Wk.temps ?_)
  (simp only[go_sem,qg,qc,qa,qf];try exact wr)
 have k1:((i:Int)<s.length)=False:=xD;simp (disch:=omega) only[k1,go_sem]
 repeat' first|exact wm|fail
theorem qfA(s:Str)(hs:s.length<=1000000):tV Tryz.prog 329 [.ip [.str s],.ip [.nl]] []:=by
 intro h ts LI S E hS hE body start hts;refine acQ N2 ?_;simp (disch:=omega) only[I8,go_sem]
 repeat' first|with_reducible apply aiA|exact clz|fail
 refine qp (T:=λi:Nat=>zw 45 [(0,.yld h.length),(1,.ip [.str s]),(2,.ip [.nl]),(10,.int .i64 s.length),(11,.int .i64 i)]) (H:=λ_=>h++ [.lp .ready ts LI]++ [.emp 0]) (inv:=λi=>i<=s.length) (m:=λi=>s.length-i) 0 (nzl _) (Wk.temps ?_) ?_
 ·(simp only[go_sem,qg,qc,qa,qf];try exact wr)
 rintro i i1 K hK
 by_cases hi:i<s.length
 ·have k1:((i:Int)<s.length)=True:=xv;simp (disch:=omega) only[k1,go_sem]
  repeat' first|with_reducible apply aiA|exact clz|fail
  refine qp (T:=λ_:Unit=>zw 45 [(0,.yld h.length),(1,.ip [.str s]),(2,.ip [.nl]),(4,.int .i64 i),(10,.int .i64 s.length),(11,.int .i64 i),(14,.nl),(15,.int .i64 0),(16,.int .i64 0)]) (H:=λ_=>h++ [.lp .ready ts LI]++ [.emp 0]) (inv:=λ_=>True) (m:=λ_=>0) () trivial (Wk.temps ?_) ?_
  ·(simp only[go_sem,qg,qc,qa,qf];try exact wr)
  rintro⟨⟩ _ K' hK';simp (disch:=omega) only[go_sem]
  repeat' first|(with_reducible first|intro _|apply aiA)|exact clz|fail
  refine hK _ _ (i+1) hi om (Wk.temps ?_)
  (simp only[go_sem,qg,qc,qa,qf];try exact wr)
 have k1:((i:Int)<s.length)=False:=xD;simp (disch:=omega) only[k1,go_sem];obtain⟨r1,r2⟩:=(hS _ _ start).retX (L:=LI) (xs:= []) .ready hts;exact zW trivial r1 r2 ⟨h,.inl ⟨start,rfl⟩⟩ (qi)
theorem qfV(s:Str)(h:w6):ACalls Tryz.prog 328 [.nl,.str s] h (.fn (.func 329) [] [.ip [.str s],.ip [.nl]]) h:=by
 refine acO N1 ?_;simp (disch:=omega) only[I7,go_sem]
 repeat' first|exact wj|fail
theorem qf8(s:Str)(h:w6)(hs:s.length<=1000000):ACalls Tryz.prog 325 [.nl,.str s] h (.tup [.str s,.bool false]) h:=by
 have c1:=λh=>qfV s h
 refine acO NZ ?_;simp (disch:=omega) only[I6,go_sem]
 repeat' first|(refine cA (c1 _) flk ?_;simp (disch:=omega) only[go_sem])
 refine zJ (xs:= []) (qfA s hs) (by simp) (S:=λi hh=>hh=h++ [.mem 1 9 [.str []],.mem 1 4 [.bool false]]) (E:=λ_ _=>False) ?_ ?_ ?_ ?_ ?_ ?_ ?_
 ·rintro i hh rfl;exact LowI.refl _
 ·intro s hh hf;exact hf.elim
 ·rfl
 ·simp[ze,ze.lowVs]
  try omega
 ·rintro i hh tl LI TS hi;exact absurd hi (by simp)
 ·rintro hh rfl;simp (disch:=omega) only[go_sem]
  repeat' first|exact wj|fail
 ·intro e hh hf;exact hf.elim
theorem qgi(s:Str)(h:w6)(hs:s.length<=1000000):ACalls Tryz.prog 319 [.nl,.str s] h (.tup [strs [s],.int .i64 0]) h:=by
 have c1:=λh=>qf8 s h hs
 refine acO NW ?_;simp (disch:=omega) only[I5,go_sem];refine qp (T:=λ_:Unit=>zw 32 [(0,.nl),(6,.osl (h.length+1) 1 1 0 1)]) (H:=λ_=>h++ [.emp 1,.mem 1 9 [.str s],.emp 0,.emp 0]) (inv:=λ_=>True) (m:=λ_=>0) () trivial (Wk.temps ?_) ?_
 ·(simp only[go_sem,qg,qc,qa,qf];try exact wr)
 rintro⟨⟩ _ K hK;simp (disch:=omega) only[go_sem]
 repeat' first|(refine cA (c1 _) flk ?_;simp (disch:=omega) only[go_sem])|(apply qb;exact rvk;simp only[go_sem])|with_reducible apply aiA|exact clz|fail
 refine fg ⟨VLe.sl_eq rfl (λi hi=> ?_),qi,trivial⟩;obtain rfl:i=0:=by simp at hi;omega
 rfl
theorem qe0(s:Str)(h:w6)(hs:s.length<=64)(hw: ∀i,i<s.length->xO (ch s i)=true):ACalls Tryz.prog 308 [.nl,.str s] h (.tup [strs [s],.int .i64 0]) h:=by
 have c1:=λh=>qgi s h om
 have c2: ∀h,ACalls Tryz.prog 318 [.nl,.str s] h (.int .i64 0) h:=λh=>by
  have d1:=λh=>qeN h
  have d2:=λh=>qgn s h om hw
  have k1:((64:Int)<s.length)=False:=xD;refine acO NV ?_;simp (disch:=omega) only[I4,go_sem]
  repeat' first|((first|refine cA (d1 _) ?_ ?_|refine cA (d2 _) ?_ ?_);exact flk;simp (disch:=omega) only[k1,go_sem])|exact wm|fail
 refine acO NU ?_;simp (disch:=omega) only[I3,go_sem]
 repeat' first|((first|refine cA (c1 _) ?_ ?_|refine cA (c2 _) ?_ ?_);exact flk;simp (disch:=omega) only[go_sem])|exact wj|with_reducible apply aiA|exact clz|fail
theorem qdh(s:Str)(h:w6)(hs:s.length<=64)(hw: ∀i,i<s.length->xO (ch s i)=true):ACalls Tryz.prog 286 [.nl,.str s] h (.tup [.str s,.int .i64 0]) h:=by
 have c1:=λh=>qe0 s h hs hw
 unfold strs at c1;refine acO NN ?_;simp (disch:=omega) only[IY,go_sem]
 repeat' first|(refine cA (c1 _) flk ?_;simp (disch:=omega) only[go_sem])|exact wm|with_reducible apply aiA|exact clz|fail
end RC
end
section
open Go Go.Proofs AF HY LN
namespace AF
theorem LowI.retY{h hh xs ys:w6}{ts:w7}{L:LInfo}(s:LS)(hl:LowI h hh)(hts: ∀c∈ts,ze (h.length+1) c=true)(hy:ys.length=xs.length)(hz: ∀o∈ys,o∈xs∨ ∀n,lowO n o):
  (hh++ .lp s ts L::ys).length=(h++ .lp .ready ts L::xs).length∧ ∀o∈hh++ .lp s ts L::ys,o∈h++ .lp .ready ts L::xs∨lowO (h++ .lp .ready ts L::xs).length o:=by
 refine⟨by simp[hl.1,hy],λo ho=> ?_⟩;rcases List.mem_append.1 ho with ho|ho
 ·rcases hl.2 o ho with h1|⟨h1,_⟩
  ·exact .inl (List.mem_append_left _ h1)
  ·exact .inr (lowO_mono (by simp) h1)
 ·rcases List.mem_cons.1 ho with rfl|ho
  ·exact .inr (λc hc=>kV (by simp) c (hts c hc))
  ·rcases hz o ho with h1|h1
   ·exact .inl (List.mem_append_right _ (List.mem_cons_of_mem _ h1))
   ·exact .inr (h1 _)
end AF
namespace RC
def atC(k:Int)(c:UInt8):w7:= [.int .i64 k,.int .u8 (c.toNat:Int),.int .i64 0,.str [],.int .i64 0,.bool false,.str []]
def atX(s:Str):List w7:=s.map λc=> [.agg (atC 1 c)]
theorem bZ(s:Str):(atX s).length=s.length:=by unfold atX;simp
theorem AX{s:Str}{i:Nat}(hi:i<(atX s).length):(atX s)[i]= [.agg (atC 1 (ch s i))]:=by
 have:i<s.length:=by rw[bZ]at hi;exact hi
 simp[atX,ch,gdqA,this]
def Fz(s:Str)(j:Nat):UInt8:=if j=0 then 0 else ch s (j-1)
def cyA(n:Nat):AObj:= .mem 1 306 [.yld n]
def cxA(k:Int)(c:UInt8):AObj:= .mem 1 269 (atC k c)
def ceA(n:Nat):AObj:= .mem 1 307 [.fn (.func 281) [] [.op (n+2) 1 0,.op (n+1) 1 0,.op (n+3) 1 0]]
theorem QI(k:Int)(c:UInt8): ∀n,lowO n (cxA k c):=λn d hd=>by
 simp[atC]at hd;rcases hd with rfl|rfl|rfl|rfl|rfl|rfl|rfl<;>rfl
section
variable {n : Nat} {hh m : w6} {st : LS} {ts : w7} {LI : LInfo} {k : Int} {c : UInt8} {X : AObj}
theorem qbI(hl:hh.length=n):cellsOf (hh++ .lp st ts LI::cyA n::X::ceA n::m) (n+1) 1=some [.yld n]:=qL (show qv _ _=some (cyA n) by subst hl;unfold qv;simp)
theorem qbJ(hl:hh.length=n):qv (n+2) (hh++ .lp st ts LI::cyA n::X::ceA n::m)=some X:=by subst hl;unfold qv;simp
theorem HE{Y:AObj}(hl:hh.length=n):qu (n+2) (hh++ .lp st ts LI::cyA n::X::ceA n::m) Y=hh++ .lp st ts LI::cyA n::Y::ceA n::m:=by subst hl;unfold qu;simp
end
theorem eachT(s:Str)(hl:s.length<=1000000)(h:w6)(ts:w7)(LI:LInfo)(S:Nat->w6->Prop)(E:LS->w6->Prop)(hS: ∀i hh,S i hh->LowI h hh)(hE: ∀s hh,E s hh->LowI h hh)
  (body: ∀i hh tl,(hi:i<(atX s).length)->S i hh->kf Tryz.prog h.length ((atX s)[i]) (hh++ .lp .ready ts LI::tl) (λr h'=> ∃hh',(r= .bool true∧S (i+1) hh'∧h'=hh'++ .lp .ready ts LI::tl)∨(∃s,r= .bool false∧E s hh'∧h'=hh'++ .lp s ts LI::tl)))
  (start:S 0 h) (hts: ∀c∈ts,ze (h.length+1) c=true):
  jo Tryz.prog 281 [kp s,.op (h.length+2) 1 0,.op (h.length+1) 1 0,.op (h.length+3) 1 0] (h++ [.lp .ready ts LI,cyA h.length,cxA 0 0,ceA h.length])
   (λr h'=> ∃hh' c,(r= .bool true∧S s.length hh'∧h'=hh'++ [.lp .ready ts LI,cyA h.length,cxA 1 c,ceA h.length])∨(∃st,r= .bool false∧E st hh'∧h'=hh'++ [.lp st ts LI,cyA h.length,cxA 1 c,ceA h.length])):=by
 refine acQ NJ ?_;simp (disch:=omega) only[IV,kp,ndC,go_sem];have key: ∀(hh:w6) (k:Int) (c:UInt8),hh.length=h.length-> ∃B,B=hh++ [AObj.lp LS.ready ts LI,cyA h.length,cxA k c,ceA h.length]∧B.length=h.length+4∧qv (h.length+2) B=some (cxA k c)∧(∀Y m,cellsOf (qu (h.length+2) B Y++m) (h.length+1) 1=some [.yld h.length])∧
   (∀Y m,qu (h.length+2) B Y++m=hh++ [AObj.lp LS.ready ts LI,cyA h.length,Y,ceA h.length]++m):=λhh k c hl=>by
  refine⟨_,rfl,by simp[hl],qbJ (m:= []) hl,λY m=> ?_,λY m=> ?_⟩
  ·rw[HE (m:= []) hl];have e:hh++ [AObj.lp LS.ready ts LI,cyA h.length,Y,ceA h.length]++m=hh++ .lp .ready ts LI::cyA h.length::Y::ceA h.length::m:=by simp
   rw[e];exact qbI hl
  ·rw[HE (m:= []) hl]
 have ea: ∀(g:w6) st (X:AObj) m,g++ [AObj.lp st ts LI,cyA h.length,X,ceA h.length]++m=g++ .lp st ts LI::cyA h.length::X::ceA h.length::m:=λg st X m=>by simp
 refine qp (T:=λi:Nat×w6×AObj×AObj×UInt8=>zw 93 [(1,.op (h.length+2) 1 0),(2,.op (h.length+1) 1 0),(3,.op (h.length+3) 1 0),(11,kp s),(12,.int .i64 ((1:Nat):Int)),(13,.int .i64 i.1)])
  (H:=λi=>i.2.1++ [.lp .ready ts LI,cyA h.length,cxA (if i.1=0 then 0 else 1) i.2.2.2.2,ceA h.length]++ [i.2.2.1,i.2.2.2.1])
  (inv:=λi=>i.1<=1∧S (if i.1=0 then 0 else s.length) i.2.1∧qK [i.2.2.1] 0=true∧qK [i.2.2.2.1] 0=true∧(i.1=0->i.2.2.2.2=0)) (m:=λi=>1-i.1) (0,h,.emp 0,.emp 0,0) ⟨nzl _,start,rfl,rfl,λ_=>rfl⟩ (Wk.temps ?_) ?_
 ·(simp only[kp,ndC,go_sem,qg,qc,qa,qf];try exact wr)
 rintro⟨i,hh,O7,O9,c⟩ ⟨i1,i2,i3,i4,i5⟩ K hK;simp only at i1 i2 i3 i4 i5 hK;obtain⟨hlen,hlow⟩:=hS _ _ i2;have i3': ∀m,qK (O7::m) 0=true:=λ_=>i3
 have i4': ∀m,qK (O9::m) 0=true:=λ_=>i4
 by_cases hi:i<1
 ·obtain rfl:i=0:=by omega
  obtain rfl:=i5 rfl;rw[ipo rfl]at i2;obtain⟨B,hB,hBl,hk,d1,d2⟩:=key hh 0 0 hlen;have hb:(h++ [AObj.lp LS.ready ts LI,cyA h.length,cxA 0 0,ceA h.length]).length=B.length:=by rw[hBl];simp
  have hkl:h.length+2<B.length:=by omega
  have s1: ∀ {l w cs z},cellsOf (qu (h.length+2) B (.mem w 269 cs)++l) (h.length+2) z=if w=z then some cs else none:=wT hkl
  have s2: ∀ {l o o'},qu (h.length+2) (qu (h.length+2) B o++l) o'=qu (h.length+2) B o'++l:=gy hkl;have s4: ∀ {l o},qv (h.length+2) (qu (h.length+2) B o++l)=some o:=bG hkl;show zy _ _ _ _ _ (hh++ [.lp .ready ts LI,cyA h.length,cxA 0 0,ceA h.length]++ [O7,O9]);rw[hb,<-hB];have hB0:B=qu (h.length+2) B (.mem 1 269 (atC 0 0)):=(jJ hk).symm;rw[show B++ [O7,O9]=qu (h.length+2) B (.mem 1 269 (atC 0 0))++ [O7,O9]from by rw[<-hB0]];unfold atC;simp (disch:=omega) only[kp,ndC,i3',go_sem]
  repeat' first|(with_reducible first|intro _|apply aiA)|exact clz|fail
  refine jL ?T ?H ?h1 ?h2
  case h1=>
   simp (disch:=omega) only[s1,s2,s4,go_sem]
   repeat' first|with_reducible apply aiA
   all_goals first
    |omega
    |rfl
    |skip
  case h2=>
  simp (disch:=omega) only[s1,s2,s4,go_sem]
  repeat' first|(with_reducible first|intro _|apply aiA)|exact clz|fail
  rw[d2];obtain⟨O7',hO7⟩:=wD (AObj.mem (qn (some O7)+1) 198 (ndC s))
  refine qp (T:=λj:Nat×w6=>zw 93 [(1,.op (h.length+2) 1 0),(2,.op (h.length+1) 1 0),(3,.op (h.length+3) 1 0),(7,.op B.length (qn (some O7)+1) 0),(11,kp s),(12,.int .i64 ((1:Nat):Int)),(13,.int .i64 ((0:Nat):Int)),(70,.int .i64 s.length),(71,.int .i64 j.1)])
   (H:=λj=>j.2++ [.lp .ready ts LI,cyA h.length,cxA 1 (Fz s j.1),ceA h.length]++ [O7',O9])
   (inv:=λj=>j.1<=s.length∧S j.1 j.2) (m:=λj=>s.length-j.1) (0,hh) ⟨nzl _,i2⟩ ?_ ?_
  ·rw[hO7];refine Wk.temps ?_
   (simp only[kp,ndC,go_sem,qg,qc,qa,qf];try exact wr)
  rintro⟨j,hj⟩ ⟨j1,j2⟩ K' hK';simp only at j1 j2 hK';obtain⟨jlen,jlow⟩:=hS _ _ j2;obtain⟨C,hC,hCl,ck,e1,e2⟩:=key hj 1 (Fz s j) jlen;have ckl:h.length+2<C.length:=by omega
  have t1: ∀ {l w cs z},cellsOf (qu (h.length+2) C (.mem w 269 cs)++l) (h.length+2) z=if w=z then some cs else none:=wT ckl
  have t2: ∀ {l o o'},qu (h.length+2) (qu (h.length+2) C o++l) o'=qu (h.length+2) C o'++l:=gy ckl;have t4: ∀ {l o},qv (h.length+2) (qu (h.length+2) C o++l)=some o:=bG ckl;show zy _ _ _ _ _ (hj++ [.lp .ready ts LI,cyA h.length,cxA 1 (Fz s j),ceA h.length]++ [O7',O9]);have hbc:B.length=C.length:=by rw[hBl,hCl]
  simp only[hbc];rw[<-hC];have hC0:C=qu (h.length+2) C (.mem 1 269 (atC 1 (Fz s j))):=(jJ ck).symm;rw[show C++ [O7',O9]=qu (h.length+2) C (.mem 1 269 (atC 1 (Fz s j)))++ [O7',O9]from by rw[<-hC0]];unfold atC;rw[hO7]
  by_cases hjl:j<s.length
  ·have k1:((j:Int)<s.length)=True:=xv;have e:(s[j]?).getD 0=ch s j:=by simp[ch,gdqA]
   have hb':=λtl=>body j hj tl (by rw[bZ];exact hjl) j2
   simp only[AX,atC]at hb';simp (disch:=omega) only[kp,ndC,t1,t2,t4,k1,e,e1,go_sem]
   repeat' first|with_reducible apply aiA|exact clz|fail
   ·rw[e2,ea];exact⟨.ready,ts,LI,kT jlen⟩
   ·rw[e2,ea];refine kf.mono ?_ (hb' _);rintro v h' ⟨hh',⟨rfl,hn,rfl⟩|⟨st,rfl,hs',rfl⟩⟩
    ·simp (disch:=omega) only[go_sem];rw[<-ea];refine hK' _ _ (j+1,hh') ⟨hjl,hn⟩ (by simp only;omega) ?_;simp only[hO7,Fz,Nat.add_sub_cancel,hbc];rw[ine om];refine Wk.temps ?_
     (simp only[kp,ndC,go_sem,qg,qc,qa,qf];try exact wr)
    ·simp (disch:=omega) only[go_sem];rw[<-ea hh' st];obtain⟨r1,r2⟩:=(hE _ _ hs').retY (L:=LI) (xs:= [cyA h.length,cxA 0 0,ceA h.length]) (ys:= [cyA h.length,cxA 1 (ch s j),ceA h.length]) st hts rfl (λo ho=>by
      simp only[List.mem_cons,List.not_mem_nil,or_false]at ho;rcases ho with rfl|rfl|rfl
      ·left;simp
      ·right;exact QI 1 _
      ·left;simp)
     exact wG ⟨trivial,trivial⟩ r1 r2 ⟨hh',ch s j,.inr ⟨st,rfl,hs',rfl⟩⟩ (qi)
  have k1:((j:Int)<s.length)=False:=xD;obtain rfl:j=s.length:=by omega
  simp (disch:=omega) only[kp,ndC,k1,go_sem];rw[e2];refine hK _ _ (1,hj,O7',O9,Fz s s.length) ⟨nlr _,j2,by rw[hO7];rfl,i4,λh=>absurd h (by simp)⟩ (by simp only;omega) ?_;simp only[hO7];refine Wk.temps ?_
  (simp only[kp,ndC,go_sem,qg,qc,qa,qf];try exact wr)
 ·obtain rfl:i=1:=by omega
  have i2:S s.length hh:=i2;show zy _ _ _ _ _ (hh++ [.lp .ready ts LI,cyA h.length,cxA 1 c,ceA h.length]++ [O7,O9]);simp (disch:=omega) only[kp,ndC,go_sem]
  repeat' first|(with_reducible first|intro _|apply aiA)|exact clz|fail
  obtain⟨r1,r2⟩:=(hS _ _ i2).retY (L:=LI) (xs:= [cyA h.length,cxA 0 0,ceA h.length]) (ys:= [cyA h.length,cxA 1 c,ceA h.length]) .ready hts rfl (λo ho=>by
   simp only[List.mem_cons,List.not_mem_nil,or_false]at ho;rcases ho with rfl|rfl|rfl
   ·left;simp
   ·right;exact QI 1 c
   ·left;simp)
  exact wG ⟨trivial,trivial⟩ r1 r2 ⟨hh,c,.inl ⟨rfl,i2,rfl⟩⟩ (qi)
end RC
end
section
open Go Go.Proofs AF HY LN
namespace RC
theorem itA(s:Str)(hl:s.length<=1000000):tV Tryz.prog 280 [.ip [.str [],.int .i64 0],.ip [kp s]] (atX s):=by
 intro h ts LI S E hS hE body start hts;have hb:(h++ [AObj.lp LS.ready ts LI]).length=h.length+1:=by simp
 have ea: ∀st,h++ [AObj.lp st ts LI]++ [.mem 1 306 [.yld h.length],.mem 1 269 [.int .i64 0,.int .u8 0,.int .i64 0,.str [],.int .i64 0,.bool false,.str []],.mem 1 307 [.fn (.func 281) [] [.op (h.length+2) 1 0,.op (h.length+1) 1 0,.op (h.length+3) 1 0]]]=h++ [AObj.lp st ts LI,cyA h.length,cxA 0 0,ceA h.length]:=λst=>by simp[cyA,cxA,ceA,atC]
 refine acQ NI ?_;simp (disch:=omega) only[IU,kp,go_sem]
 repeat' first|with_reducible apply aiA|exact clz|fail
 simp only[hb,Nat.add_assoc,Nat.reduceAdd,ea];refine Qe (eachT s hl h ts LI S E hS hE body start hts) ?_;rintro v h' ⟨hh',c,⟨rfl,hn,rfl⟩|⟨st,rfl,hs',rfl⟩⟩
 ·simp (disch:=omega) only[go_sem];obtain⟨r1,r2⟩:=(hS _ _ hn).retX (L:=LI) (xs:= []) .ready hts;have eO:hh'++ [.lp .ready ts LI,cyA h.length,cxA 1 c,ceA h.length]=(hh'++ [.lp .ready ts LI])++ [cyA h.length,cxA 1 c,ceA h.length]:=by simp
  rw[eO];exact zW trivial r1 r2 ⟨hh',.inl ⟨by rw[bZ];exact hn,rfl⟩⟩ (qi)
 ·simp (disch:=omega) only[go_sem];obtain⟨r1,r2⟩:=(hE _ _ hs').retX (L:=LI) (xs:= []) st hts;have eO:hh'++ [.lp st ts LI,cyA h.length,cxA 1 c,ceA h.length]=(hh'++ [.lp st ts LI])++ [cyA h.length,cxA 1 c,ceA h.length]:=by simp
  rw[eO];exact zW trivial r1 r2 ⟨hh',.inr ⟨st,hs',rfl⟩⟩ (qi)
theorem qe9(s:Str)(h:w6):ACalls Tryz.prog 243 [.agg [.str [],.int .i64 0],kp s] h (.fn (.func 280) [] [.ip [.str [],.int .i64 0],.ip [kp s]]) h:=by
 refine acO Nv ?_;simp (disch:=omega) only[II,kp,ndC,go_sem]
 repeat' first|exact wj|fail
end RC
end
section
open Go Go.Proofs AF HY RC LN
namespace HY
theorem am(w:World)(b d:Nat)(v:Value):w.grownBy (w.setCell ⟨b,d,none⟩ v) (some b):=by
 unfold World.setCell;refine⟨rfl,rfl,rfl,?_,λk hk hne=> ?_⟩
 ·simp
 ·have:b≠k:=λe=>hne (by rw[e])
  simp[Array.getElem?_modify,this]
theorem qdb(n:Nat)(hn:6<=n):liesAt Tryz.prog Tryz.prog.depth 264 (n/Tryz.prog.cellsOf 264) 1 158 1=true:=by
 have e1:Tryz.prog.cellsOf 264=6:=by kernel_rfl
 have h1:liesAt Tryz.prog Tryz.prog.depth 264 1 1 158 1=true:=by kernel_rfl
 rw[e1];exact ym om _ h1
theorem ccT(kb vb:Nat)(z0 z1 z2 z3:AV)(A B:AV)(h:w6)(hk:qv kb h=some (.mem vb 264 [z0,A,B,z1,z2,z3]))(hA:A= .nilp∨A= .op kb vb 1):ACalls Tryz.prog 159 [.op kb vb 1] h (.tup []) (qu kb h (.mem vb 264 [z0,.op kb vb 1,B,z1,z2,z3])):=by
 refine⟨BS Tryz.func159 (by kernel_rfl) (by kernel_rfl),λw σ xs H hv=> ?_⟩;obtain⟨x,rfl,hx⟩:=hv.one;have hc:=qL hk;obtain⟨cs,o,b,arr,g1,rfl,g2,g3,g4,g5,g6,g7,g9,g8⟩:=kq H hx (by rw[hc];rfl);rw[hc]at g1;cases g1;have hobj:=H.obj kb _ o hk g2;obtain⟨_,hty,_⟩:=hobj;rw[hty]at g5;have g5b:=g5;have g5:=g5.plain (by decide);have hsz:6<=arr.size:=g7;have hc0:w.cell? ⟨b,1,none⟩=some arr[1]:=by rw[jZ g5b];simp
 have hA0:=g8 1 A arr[1] rfl (by simp);have hsh:w.shape? b=some (264,arr.size):=by simp[World.shape?,g5]
 have hfz:w.frozen? ⟨b,1,none⟩=false:=by simp[World.frozen?,g5]
 have hkl:=zA hk;rcases hA with rfl|rfl
 ·rw[dw hA0]at hc0;refine (callsIn_wide.2 (fu b 1 264 arr.size w hc0 om hsh hfz (qdb _ hsz))).mono ?_;rintro e w' ⟨rfl,rfl⟩;have hg:w.grownBy (w.setCell ⟨b,1,none⟩ (.pointer (some ⟨b,1,none⟩))) o.blk:=by rw[g4];exact am w b 1 _
  have hh:=heap_setCell_same w b 1 arr 264 (.pointer (some ⟨b,1,none⟩)) g5;obtain⟨u1,u2⟩:=H.update (o':=o) (a':= .mem vb 264 [z0,.op kb vb 1,B,z1,z2,z3]) g2 hg (nlr _) (λ_=>rfl)
   (by intro b' e;rw[g4]at e;cases e;exact⟨.inl g4,(Array.getElem?_eq_some_iff.1 hh).1⟩) (λb' r e hr=>by rw[g4]at e;cases e;rw[g5]at hr;cases hr)
   (λe=>⟨g3,hty,b,_,g4,by rw[hty];exact .mk hh,by simp[g6],by simp;exact hsz,λi y hi hy=>by
    simp only[Array.getElem?_setIfInBounds]at hy;split at hy
    ·split at hy
     ·cases hy;rfl
     ·cases hy
    ·exact g9 i y (by simpa using hi) hy,λi c y hc hy=>by
    simp only[Array.getElem?_setIfInBounds]at hy;split at hy
    ·rename_i e0;split at hy
     ·cases hy;subst e0;simp at hc;subst hc;have hko:(σ.set kb o)[kb]? =some o:=by rw[List.getElem?_set_self (by rw[H.len];exact hkl)]
      exact .op o hko ⟨_,rfl⟩ om (λ_=>⟨b,g4,rfl⟩)
     ·cases hy
    ·rename_i e0;have hne:i≠1:=λe1=>e0 e1.symm
     have hcs: [z0,.op kb vb 1,B,z1,z2,z3]= [z0,.nilp,B,z1,z2,z3].set 1 (.op kb vb 1):=rfl;rw[hcs,List.getElem?_set_ne (λe1=>hne e1.symm)]at hc
     exact (g8 i c y hc hy).ext e⟩)
  exact⟨_,_,rfl,u1,.imm (.tup rfl (λi c x hc=>by simp at hc)),u2⟩
 ·obtain⟨o',q1,q2,q3⟩:=AE hA0;rw[g2]at q1;cases q1;obtain⟨b',q4,q5⟩:=q3 g3;rw[g4]at q4;cases q4;rw[q5]at hc0;refine (callsIn_wide.2 (mF b 1 w hc0)).mono ?_;rintro e w' ⟨rfl,rfl⟩;rw[jJ hk];exact⟨_,σ,rfl,H,.imm (.tup rfl (λi c x hc=>by simp at hc)),Ext.refl w' σ⟩
theorem oz{kb vb kj v m:Nat}{z0 z1 z2 z3:AV}{h:w6}{s:List UInt8}(lz0:ze h.length z0=true)(lz1:ze h.length z1=true)(lz2:ze h.length z2=true)(lz3:ze h.length z3=true)(hkl:kb<h.length)(hjl:kj<h.length): ∀o∈qu kj (qu kb h (.mem vb 264 [z0,.op kb vb 1,.osl kj v 1 0 m,z1,z2,z3])) (dy v s),o∈h∨lowO h.length o:=by
 intro o ho;rcases jB ho with h1|rfl
 ·rcases jB h1 with h2|rfl
  ·exact .inl h2
  ·right;intro c hc;simp only[List.mem_cons,List.not_mem_nil,or_false]at hc;rcases hc with rfl|rfl|rfl|rfl|rfl|rfl
   ·exact lz0
   ·simpa[ze] using hkl
   ·simpa[ze] using hjl
   ·exact lz1
   ·exact lz2
   ·exact lz3
 ·exact .inr (jt v s _)
theorem qgp(kb vb kj v:Nat)(z0 z1 z2 z3:AV)(A:AV)(s:List UInt8)(u:UInt8)(h:w6)(lz0:ze h.length z0=true)(lz1:ze h.length z1=true)(lz2:ze h.length z2=true)(lz3:ze h.length z3=true)(hne:kj≠kb)(hk:qv kb h=some (.mem vb 264 [z0,A,.osl kj v 1 0 s.length,z1,z2,z3]))(hA:A= .nilp∨A= .op kb vb 1)(hj:qv kj h=some (dy v s))(hl:s.length+1<=140737488355328):
  ACalls Tryz.prog 307 [.op kb vb 1,.int .u8 u.toNat] h .nilif (qu kj (qu kb h (.mem vb 264 [z0,.op kb vb 1,.osl kj (v+1) 1 0 (s.length+1),z1,z2,z3])) (dy (v+1) (s++ [u]))):=by
 have hkl:=zA hk;have hjl:=zA hj;have hne':kb≠kj:=λe=>hne e.symm
 have hj0:kj≠h.length:=by omega
 have hj1:kj≠h.length+1:=by omega
 have hk1: ∀l,qv kb (h++l)=some (.mem vb 264 [z0,A,.osl kj v 1 0 s.length,z1,z2,z3]):=λl=>by rw[zQ hkl,hk]
 refine acO NT ?_;simp (disch:=omega) only[I2,go_sem];refine qE (ccT kb vb z0 z1 z2 z3 A _ _ (hk1 _) hA) ⟨rfl,trivial⟩ ?_
 by_cases hs:s= []
 ·subst hs;rw[bC]at hj;simp (disch:=omega) only[zR,jl,qX,fG,fH,gw,gx,jb,jI,ql,dZ,hj,zU,go_sem]
  repeat' first|(with_reducible apply aiA)
  all_goals first
   |omega
   |(rw[bne_iff_ne];exact hj0)
   |(simp;done)
   |skip
  rw[fo hne',show AObj.mem (v+1) 5 [AV.int IntKind.u8 u.toNat]=dy (v+1) [u]from (yi (s:= [u]) (by simp) _).symm];exact wG ⟨trivial,trivial⟩ (by simp only[qQ]) (oz lz0 lz1 lz2 lz3 hkl hjl) ⟨rfl,rfl⟩ (qi)
 ·rw[yi hs]at hj;simp (disch:=omega) only[zR,jl,qX,fG,fH,gw,gx,jb,jI,ql,xP,hj,jP,zU,go_sem]
  repeat' first|(with_reducible apply aiA)
  all_goals first
   |omega
   |(rw[bne_iff_ne];exact hj0)
   |(simp[jP];done)
   |skip
  rw[fo hne',ltl (by simp[jP]),show zN s++ [AV.int IntKind.u8 u.toNat]=zN (s++ [u])from (dP s [u]).symm,<-yi (s:=s++ [u]) (by simp)];exact wG ⟨trivial,trivial⟩ (by simp only[qQ]) (oz lz0 lz1 lz2 lz3 hkl hjl) ⟨rfl,rfl⟩ (qi)
theorem qga(kb vb kj v:Nat)(z0 z1 z2 z3:AV)(A:AV)(s:List UInt8)(h:w6)(hne:kj≠kb)(hk:qv kb h=some (.mem vb 264 [z0,A,.osl kj v 1 0 s.length,z1,z2,z3]))(hj:qv kj h=some (dy v s)):
  ACalls Tryz.prog 116 [.op kb vb 1] h (.str s) (qu kj h (.emp (v+1))):=by
 refine⟨BS Tryz.func116 (by kernel_rfl) (by kernel_rfl),λw σ xs H hv=> ?_⟩;obtain⟨x,rfl,hx⟩:=hv.one;have hc:=qL hk;obtain⟨cs,o,b,arr,g1,rfl,g2,g3,g4,g5,g6,g7,g9,g8⟩:=kq H hx (by rw[hc];rfl);rw[hc]at g1;cases g1;have hty:=(H.obj kb _ o hk g2).2.1;rw[hty]at g5;have g5b:=g5;have g5:=g5.plain (by decide);have hsz:6<=arr.size:=g7;have hc1:w.cell? ⟨b,1+1,none⟩=some arr[1+1]:=by rw[jZ g5b];simp
 have hB:=g8 (1+1) _ arr[1+1] rfl (by simp);obtain⟨oj,j1,j2,j3⟩:=VE hB;have hobj:=H.obj kj _ oj hj j1;have hkj:=zA hj
 by_cases hs:s= []
 ·subst hs;rw[bC]at hj hobj;obtain⟨m1,m2⟩:=hobj;rcases j3 m1 with⟨_,_,_,e⟩|⟨b',cap,e,_⟩
  ·rw[e]at hc1;refine (callsIn_wide.2 (pL b 1 w hc1)).mono ?_;rintro e w' ⟨rfl,rfl⟩;obtain⟨u1,u2⟩:=H.update (w':=w.drew) (o':= { oj with blk:=none,ver:=v+1 }) (a':= .emp (v+1)) j1 ⟨rfl,rfl,rfl,nlr _,λ_ _ _=>rfl⟩ (by simp only;omega) (by simp only;omega) (by intro b' e;cases e) (λb' r e hr=>⟨r,hr⟩) (λ_=>⟨rfl,rfl⟩);exact⟨_,_,rfl,u1,.imm .str,u2⟩
  ·rw[m2]at e;cases e
 ·rw[yi hs]at hj hobj;obtain⟨m1,m2,bj,arrj,m3,m4,m5,m6,m7,m8⟩:=hobj;rcases j3 m1 with⟨e,_⟩|⟨b',cap,e1,e2,e3,e4,e5⟩
  ·rw[m3]at e;cases e
  ·rw[m3]at e1;cases e1;rw[e2]at hc1;rw[m2]at m4;have m4b:=m4;have m4:=m4.plain (by decide);rw[jP]at m6;refine (callsIn_wide.2 (pM b 1 bj cap s arrj w hs hc1 m4 e3 e4 om (λj x hx=> ?_))).mono ?_
   ·have hjl:j<s.length:=(lgs.1 hx).1;rw[jZ m4b];have ea:arrj[j]? =some arrj[j]:=by simp
    have:=m8 j (.int .u8 x.toNat) arrj[j] (by simp[zN,hx]) ea
    rw[ea,zY this]
   ·rintro e w' ⟨rfl,rfl⟩;have hg:w.grownBy (w.drew.freeze ⟨bj,0,none⟩ s.length) oj.blk:=by
     rw[m3];exact aS w bj s.length
    obtain⟨u1,u2⟩:=H.update (o':= { oj with blk:=none,ver:=v+1 }) (a':= .emp (v+1)) j1 hg (by simp only;omega) (by simp only;omega) (by intro b' e;cases e)
     (λb' r e hr=>by rw[m3]at e;cases e;rw[m4]at hr;cases hr) (λ_=>⟨rfl,rfl⟩)
    exact⟨_,_,rfl,u1,.imm .str,u2⟩
end HY
end
section
open Go Go.Proofs AF HY LN
namespace AF
def tri(h:w6)(a b c:Nat)(X Y Z:AObj):w6:=qu c (qu b (qu a h X) Y) Z
structure T3 (h:w6) (a b c:Nat):Prop where
 la:a<h.length
 lb:b<h.length
 lc:c<h.length
 ab:a≠b
 ac:a≠c
 bc:b≠c
section
variable {h l : w6} {a b c n v : Nat} {X Y Z o : AObj}
theorem T3.app(t:T3 h a b c)(l:w6):T3 (h++l) a b c:=by
 have:=t.la;have:=t.lb;have:=t.lc
 exact⟨by rw[lap];omega,by rw[lap];omega,by rw[lap];omega,t.ab,t.ac,t.bc⟩
theorem tri_len:(tri h a b c X Y Z).length=h.length:=by unfold tri;simp only[qQ]
theorem Gm(t:T3 h a b c):tri (h++l) a b c X Y Z=tri h a b c X Y Z++l:=by
 unfold tri;rw[zR t.la,zR (by rw[qQ];exact t.lb),zR (by rw[qQ,qQ];exact t.lc)]
theorem xe(t:T3 h a b c):qv a (tri h a b c X Y Z++l)=some X:=by
 rw[zQ (by rw[tri_len];exact t.la)];unfold tri;rw[qX t.ac,qX t.ab,jl t.la]
theorem xF(t:T3 h a b c):qv b (tri h a b c X Y Z++l)=some Y:=by
 rw[zQ (by rw[tri_len];exact t.lb)];unfold tri;rw[qX t.bc,jl (by rw[qQ];exact t.lb)]
theorem xf(t:T3 h a b c):qv c (tri h a b c X Y Z++l)=some Z:=by
 rw[zQ (by rw[tri_len];exact t.lc)];unfold tri;rw[jl (by rw[qQ,qQ];exact t.lc)]
theorem xG(t:T3 h a b c):qu a (tri h a b c X Y Z++l) o=tri h a b c o Y Z++l:=by
 rw[zR (by rw[tri_len];exact t.la)];unfold tri;rw[kY t.ac,kY t.ab,kZ]
theorem yd(t:T3 h a b c):qu b (tri h a b c X Y Z++l) o=tri h a b c X o Z++l:=by
 rw[zR (by rw[tri_len];exact t.lb)];unfold tri;rw[kY t.bc,kZ]
theorem ye(t:T3 h a b c):qu c (tri h a b c X Y Z++l) o=tri h a b c X Y o++l:=by
 rw[zR (by rw[tri_len];exact t.lc)];unfold tri;rw[kZ]
theorem tri_go:qv (h.length+n) (tri h a b c X Y Z++l)=l[n]? :=by
 have:= @getO_app (tri h a b c X Y Z) l n
 rwa [tri_len]at this
theorem tri_go0:qv h.length (tri h a b c X Y Z++l)=l[0]? :=by
 have:= @getO_app0 (tri h a b c X Y Z) l
 rwa [tri_len]at this
theorem tri_so:qu (h.length+n) (tri h a b c X Y Z++l) o=tri h a b c X Y Z++l.set n o:=by
 have:= @setO_app (tri h a b c X Y Z) l n o
 rwa [tri_len]at this
theorem tri_so0:qu h.length (tri h a b c X Y Z++l) o=tri h a b c X Y Z++l.set 0 o:=by
 have:= @setO_app0 (tri h a b c X Y Z) l o
 rwa [tri_len]at this
theorem tri_co:cellsOf (tri h a b c X Y Z++l) (h.length+n) v=cellsOf l n v:=by unfold cellsOf;rw[tri_go];rfl
theorem tri_co0:cellsOf (tri h a b c X Y Z++l) h.length v=cellsOf l 0 v:=by unfold cellsOf;rw[tri_go0];rfl
theorem tri_to:qK (tri h a b c X Y Z++l) (h.length+n)=qK l n:=by unfold qK;rw[tri_go];rfl
theorem tri_to0:qK (tri h a b c X Y Z++l) h.length=qK l 0:=by unfold qK;rw[tri_go0];rfl
theorem tri_lo:qI (tri h a b c X Y Z++l) (h.length+n) v=qI l n v:=by unfold qI;rw[tri_go];rfl
theorem tri_lo0:qI (tri h a b c X Y Z++l) h.length v=qI l 0 v:=by unfold qI;rw[tri_go0];rfl
theorem y7(t:T3 h a b c):cellsOf (tri h a b c X Y Z++l) a v=qw (some X) v:=by rw[jb,xe t]
theorem y8(t:T3 h a b c):cellsOf (tri h a b c X Y Z++l) b v=qw (some Y) v:=by rw[jb,xF t]
theorem y9(t:T3 h a b c):cellsOf (tri h a b c X Y Z++l) c v=qw (some Z) v:=by rw[jb,xf t]
theorem aa(t:T3 h a b c):qI (tri h a b c X Y Z++l) a v=qM (some X) v:=by rw[jI,xe t]
theorem ae(t:T3 h a b c):qI (tri h a b c X Y Z++l) b v=qM (some Y) v:=by rw[jI,xF t]
theorem af(t:T3 h a b c):qI (tri h a b c X Y Z++l) c v=qM (some Z) v:=by rw[jI,xf t]
theorem Gp(t:T3 h a b c){X' Y' Z':AObj}:tri (tri h a b c X Y Z) a b c X' Y' Z'=tri h a b c X' Y' Z':=by
 have e1:=xG (X:=X) (Y:=Y) (Z:=Z) (l:= []) (o:=X') t;have e2:=yd (X:=X') (Y:=Y) (Z:=Z) (l:= []) (o:=Y') t;have e3:=ye (X:=X') (Y:=Y') (Z:=Z) (l:= []) (o:=Z') t;simp only[lan]at e1 e2 e3
 conv=>lhs;unfold tri
 rw[show qu c (qu b (qu a h X) Y) Z=tri h a b c X Y Z from rfl,e1,e2,e3]
theorem jW(t:T3 h a b c){X' Y' Z':AObj}(hx:lowO h.length X')(hy:lowO h.length Y')(hz:lowO h.length Z'): ∀o∈tri h a b c X' Y' Z',o∈tri h a b c X Y Z∨lowO (tri h a b c X Y Z).length o:=by
 intro o ho;rw[tri_len];rw[<-Gp (X:=X) (Y:=Y) (Z:=Z) t]at ho;unfold tri at ho;rcases jB ho with h1|rfl
 ·rcases jB h1 with h1|rfl
  ·rcases jB h1 with h1|rfl
   ·exact .inl h1
   ·exact .inr hx
  ·exact .inr hy
 ·exact .inr hz
end
attribute [go_sem] tri_len tri_go tri_go0 tri_so tri_so0 tri_co tri_co0 tri_to tri_to0 tri_lo tri_lo0
theorem ACalls.wk{P:Program}{f:FuncId}{args:w7}{h h' h'':w6}{r:AV}(hc:ACalls P f args h r h')(hw:Wk [] h' [] h''):ACalls P f args h r h'':=by
 refine⟨hc.1,λw σ xs H hv=>(hc.2 w σ xs H hv).mono ?_⟩;rintro e w' ⟨v,σ',rfl,g1,g2,g3⟩;obtain⟨σ2,s1,s2⟩:=hw w'.heap.size w' σ' { tmps:= #[],defers:= [] } ⟨g1,rfl,λi c x hc=>(by simp at hc),⟨[],rfl,.nil,nlr _,λr hr=>(by cases hr)⟩⟩;exact⟨v,σ2,rfl,s1.hr,g2.ext s2,g3.trans s2⟩
end AF
namespace RC
def jA(L:List Tk):w7:=L.flatMap tkC
theorem nV(t:Tk):(tkC t).length=6:=rfl
theorem jV(L:List Tk):(jA L).length=L.length*6:=by
 unfold jA
 induction L with
 |nil=>rfl
 |cons a L ih=>rw[List.flatMap_cons,lap,ih,lco,nV];omega
theorem gU(A B:List Tk):jA (A++B)=jA A++jA B:=by simp[jA]
theorem pN(a:Tk):jA [a]=tkC a:=by simp[jA]
theorem KT(L:List Tk): ∀i,(jA L).take (i*6)=jA (L.take i):=by
 induction L with
 |nil=>intro i;simp[jA]
 |cons a L ih=>
  intro i;cases i with
  |zero=>simp[jA]
  |succ i=>
   rw[show jA (a::L)=tkC a++jA L from rfl,show (a::L).take (i+1)=a::L.take i from rfl,show jA (a::L.take i)=tkC a++jA (L.take i)from rfl,<-ih i];rw[show (i+1)*6=(tkC a).length+i*6 by rw[nV];omega,List.take_append,ltl om,Nat.add_sub_cancel_left]
theorem lX(L:List Tk): ∀i,(jA L).drop (i*6)=jA (L.drop i):=by
 induction L with
 |nil=>intro i;simp[jA]
 |cons a L ih=>
  intro i;cases i with
  |zero=>simp
  |succ i=>
   rw[show jA (a::L)=tkC a++jA L from rfl,show (a::L).drop (i+1)=L.drop i from rfl,<-ih i];rw[show (i+1)*6=(tkC a).length+i*6 by rw[nV];omega,List.drop_append,List.drop_eq_nil_of_le om,lna,Nat.add_sub_cancel_left]
theorem y6{L:List Tk}{i:Nat}(hi:i<L.length):((jA L).drop (i*6)).take 6=tkC (L.getD i default):=by
 rw[lX,List.drop_eq_getElem_cons hi,gdqA,zG hi];rfl
theorem pO{L:List Tk}{i:Nat}(e:Tk)(hi:i<L.length):(jA L).take (i*6)++(tkC e++(jA L).drop (i*6+6))=jA (L.set i e):=by
 rw[List.set_eq_take_append_cons_drop,ipo hi,show i*6+6=(i+1)*6 by omega,KT,lX,gU];rw[show e::List.drop (i+1) L= [e]++List.drop (i+1) L from rfl,gU,pN]
theorem gV{L:List Tk}{i k:Nat}(hi:i<L.length)(hk:k<6):(jA L)[i*6+k]? =(tkC (L.getD i default))[k]? :=by
 rw[<-y6 hi,List.getElem?_take,ipo hk,List.getElem?_drop]
theorem kE(L:List Tk)(n:Nat): ∀c∈jA L,ze n c=true:=by
 intro c hc;unfold jA at hc;obtain⟨x,_,hx⟩:=List.mem_flatMap.1 hc;unfold tkC at hx;simp only[List.mem_cons,List.not_mem_nil,or_false]at hx;rcases hx with rfl|rfl|rfl|rfl|rfl|rfl<;>rfl
structure Br where
 out:List Tk
 word:Str
 opn:Bool
 jn:Bool
 vo:Nat
 vw:Nat
 ad:Bool
def brX(a b c va:Nat)(q:Br):AObj:= .mem va 264 [.osl b q.vo 6 0 q.out.length,if q.ad=true then .op a va 1 else .nilp,.osl c q.vw 1 0 q.word.length,.bool q.opn,.bool q.jn,.bool false]
def brY(q:Br):AObj:=zE q.vo 92 (jA q.out)
def brO(h:w6)(a b c va:Nat)(q:Br):w6:=tri h a b c (brX a b c va q) (brY q) (dy q.vw q.word)
def yr(L:List Tk)(w:Str):List Tk:=L.set (L.length-1) ⟨w,(L.getD (L.length-1) default).norm,(L.getD (L.length-1) default).page,(L.getD (L.length-1) default).line,(L.getD (L.length-1) default).flags,(L.getD (L.length-1) default).name⟩
def Br.nd(q:Br):Br:=if q.opn=true then ⟨yr q.out q.word,[],false,q.jn,q.vo,q.vw+1,false⟩ else ⟨q.out,[],false,q.jn,q.vo,q.vw,false⟩
def Br.st(q:Br)(f:Int):Br:=⟨q.out++ [tkF (f+jfl q.jn q.out.length) []],q.word,q.opn,true,q.vo+1,q.vw,q.ad⟩
def Br.wb(q:Br)(c:UInt8):Br:=⟨q.out,q.word++ [c],q.opn,q.jn,q.vo,q.vw+1,true⟩
def Br.op(q:Br):Br:=⟨q.out,q.word,true,q.jn,q.vo,q.vw,q.ad⟩
def Br.sp(q:Br):Br:=⟨q.out,q.word,q.opn,false,q.vo,q.vw,q.ad⟩
def Br.tx(q:Br)(w:Str):Br:=⟨yr q.out w,q.word,q.opn,q.jn,q.vo,q.vw,q.ad⟩
def Br.pt(q:Br)(c:UInt8):Br:=if q.opn=true∧xO c=true then q.wb c else if bgn c=true then ((q.st 0).op).wb c else if kind c=6 then q.nd.sp else (q.nd.st 8).tx [c]
theorem jY{h:w6}{a b c:Nat}(t:T3 h a b c)(va:Nat)(q:Br):lowO h.length (brX a b c va q):=by
 intro x hx
 have:=t.la;have:=t.lb;have:=t.lc
 simp only[List.mem_cons,List.not_mem_nil,or_false]at hx;rcases hx with rfl|rfl|rfl|rfl|rfl|rfl
 ·simp[ze];assumption
 ·split
  ·simp[ze];assumption
  ·rfl
 ·simp[ze];assumption
 ·rfl
 ·rfl
 ·rfl
theorem wS(q:Br)(n:Nat):lowO n (brY q):=ju (kE q.out n)
theorem fp{h:w6}{a b c va:Nat}{q:Br}:(brO h a b c va q).length=h.length:=tri_len
end RC
end
section
open Go Go.Proofs AF HY LN
namespace AF
theorem cX{v:Nat}{ty:TypeId}{cs:w7}:tU (some (zE v ty cs)) ty=true:=by
 unfold zE;split<;>simp[tU]
end AF
namespace RC
section
variable {h : w6} {a b c va : Nat}
theorem dO{q:Br}(hn:0<q.out.length):brY q= .mem q.vo 92 (jA q.out):=by
 unfold brY zE;rw[ine];intro e
 have:=congrArg List.length e
 rw[jV,lnl]at this;omega
theorem CP(t:T3 h a b c)(q:Br)(hn:0<q.out.length)(hm:q.out.length<=1000000):ACalls Tryz.prog 284 [.op a va 0] (brO h a b c va q) (.op b q.vo ((q.out.length-1)*6)) (brO h a b c va q):=by
 have ta:=t.la;have tb:=t.lb;have tc:=t.lc;have zga: ∀ {X Y Z l},qv (a) (tri h a b c X Y Z++l)=some X:=xe (t);have yga: ∀ {X Y Z},qv (a) (tri h a b c X Y Z)=some X:=λ{X Y Z}=>by have:=zga (X:=X) (Y:=Y) (Z:=Z) (l:= []);simpa only[lan] using this
 have zgb: ∀ {X Y Z l},qv (b) (tri h a b c X Y Z++l)=some Y:=xF (t);have ygb: ∀ {X Y Z},qv (b) (tri h a b c X Y Z)=some Y:=λ{X Y Z}=>by have:=zgb (X:=X) (Y:=Y) (Z:=Z) (l:= []);simpa only[lan] using this
 have zgc: ∀ {X Y Z l},qv (c) (tri h a b c X Y Z++l)=some Z:=xf (t);have ygc: ∀ {X Y Z},qv (c) (tri h a b c X Y Z)=some Z:=λ{X Y Z}=>by have:=zgc (X:=X) (Y:=Y) (Z:=Z) (l:= []);simpa only[lan] using this
 have zsa: ∀ {X Y Z o l},qu (a) (tri h a b c X Y Z++l) o=tri h a b c o Y Z++l:=xG (t);have ysa: ∀ {X Y Z o},qu (a) (tri h a b c X Y Z) o=tri h a b c o Y Z:=λ{X Y Z o}=>by have:=zsa (X:=X) (Y:=Y) (Z:=Z) (o:=o) (l:= []);simpa only[lan] using this
 have zsb: ∀ {X Y Z o l},qu (b) (tri h a b c X Y Z++l) o=tri h a b c X o Z++l:=yd (t);have ysb: ∀ {X Y Z o},qu (b) (tri h a b c X Y Z) o=tri h a b c X o Z:=λ{X Y Z o}=>by have:=zsb (X:=X) (Y:=Y) (Z:=Z) (o:=o) (l:= []);simpa only[lan] using this
 have zsc: ∀ {X Y Z o l},qu (c) (tri h a b c X Y Z++l) o=tri h a b c X Y o++l:=ye (t);have ysc: ∀ {X Y Z o},qu (c) (tri h a b c X Y Z) o=tri h a b c X Y o:=λ{X Y Z o}=>by have:=zsc (X:=X) (Y:=Y) (Z:=Z) (o:=o) (l:= []);simpa only[lan] using this
 have zca: ∀ {X Y Z v l},cellsOf (tri h a b c X Y Z++l) (a) v=qw (some X) v:=y7 (t);have yca: ∀ {X Y Z v},cellsOf (tri h a b c X Y Z) (a) v=qw (some X) v:=λ{X Y Z v}=>by have:=zca (X:=X) (Y:=Y) (Z:=Z) (v:=v) (l:= []);simpa only[lan] using this
 have zcb: ∀ {X Y Z v l},cellsOf (tri h a b c X Y Z++l) (b) v=qw (some Y) v:=y8 (t);have ycb: ∀ {X Y Z v},cellsOf (tri h a b c X Y Z) (b) v=qw (some Y) v:=λ{X Y Z v}=>by have:=zcb (X:=X) (Y:=Y) (Z:=Z) (v:=v) (l:= []);simpa only[lan] using this
 have zcc: ∀ {X Y Z v l},cellsOf (tri h a b c X Y Z++l) (c) v=qw (some Z) v:=y9 (t);have ycc: ∀ {X Y Z v},cellsOf (tri h a b c X Y Z) (c) v=qw (some Z) v:=λ{X Y Z v}=>by have:=zcc (X:=X) (Y:=Y) (Z:=Z) (v:=v) (l:= []);simpa only[lan] using this
 have zla: ∀ {X Y Z v l},qI (tri h a b c X Y Z++l) (a) v=qM (some X) v:=aa (t);have yla: ∀ {X Y Z v},qI (tri h a b c X Y Z) (a) v=qM (some X) v:=λ{X Y Z v}=>by have:=zla (X:=X) (Y:=Y) (Z:=Z) (v:=v) (l:= []);simpa only[lan] using this
 have zlb: ∀ {X Y Z v l},qI (tri h a b c X Y Z++l) (b) v=qM (some Y) v:=ae (t);have ylb: ∀ {X Y Z v},qI (tri h a b c X Y Z) (b) v=qM (some Y) v:=λ{X Y Z v}=>by have:=zlb (X:=X) (Y:=Y) (Z:=Z) (v:=v) (l:= []);simpa only[lan] using this
 have zlc: ∀ {X Y Z v l},qI (tri h a b c X Y Z++l) (c) v=qM (some Z) v:=af (t);have ylc: ∀ {X Y Z v},qI (tri h a b c X Y Z) (c) v=qM (some Z) v:=λ{X Y Z v}=>by have:=zlc (X:=X) (Y:=Y) (Z:=Z) (v:=v) (l:= []);simpa only[lan] using this
 have e1:((q.out.length:Int)-1).toNat=q.out.length-1:=by omega
 have k1:(0<=(q.out.length:Int)-1)=True:=xv;have k2:((q.out.length:Int)-1<q.out.length)=True:=xv;unfold brO;rw[dO hn];unfold brX;refine acO NL ?_;simp (disch:=omega) only[IW,yca,ycb,ylb,ql,xP,e1,k1,k2,go_sem]
 repeat' first|(apply qh;exact rvk;simp only[go_sem])
 rw[ine om];exact qi
theorem Wk.triNil{t:w7}{X Z:AObj}{Y:AObj}{v i ve sz:Nat}{ty:TypeId}{cs:w7}(T:T3 h a b c)(hX:X= .mem v ty cs)(hi:cs[i]? =some .nl)(hZ:Z= .emp ve):
  Wk t (tri h a b c X Y Z) t (tri h a b c (.mem v ty (cs.set i (.osl c ve sz 0 0))) Y Z):=by
 subst hX;subst hZ;have e:=xG (X:= .mem v ty cs) (Y:=Y) (Z:= .emp ve) (l:= []) (o:= .mem v ty (cs.set i (.osl c ve sz 0 0))) T;simp only[lan]at e;rw[<-e];refine Wk.ownNil (j:=a) (k:=c) ?_ hi ?_
 ·have:=xe (X:= .mem v ty cs) (Y:=Y) (Z:= .emp ve) (l:= []) T
  simpa only[lan] using this
 ·have:=xf (X:= .mem v ty cs) (Y:=Y) (Z:= .emp ve) (l:= []) T
  simpa only[lan] using this
theorem HH(t:T3 h a b c)(X0 X1 X2 X3 X4 X5:AV)(Y:AObj)(v:Nat)(l0:ze h.length X0=true)(l3:ze h.length X3=true)(l4:ze h.length X4=true)(l5:ze h.length X5=true)(ly:lowO h.length Y):
  ACalls Tryz.prog 285 [.op a va 1] (tri h a b c (.mem va 264 [X0,X1,X2,X3,X4,X5]) Y (.emp v)) (.tup []) (tri h a b c (.mem va 264 [X0,.nilp,.osl c v 1 0 0,X3,X4,X5]) Y (.emp v)):=by
 have ta:=t.la;have tb:=t.lb;have tc:=t.lc;refine ACalls.wk (h':=tri h a b c (.mem va 264 [X0,.nilp,.nl,X3,X4,X5]) Y (.emp v)) ?_ (Wk.triNil (v:=va) (ty:=264) (cs:= [X0,.nilp,.nl,X3,X4,X5]) (i:=2) (sz:=1) t rfl rfl rfl);have zga: ∀ {X Y Z l},qv (a) (tri h a b c X Y Z++l)=some X:=xe (t);have yga: ∀ {X Y Z},qv (a) (tri h a b c X Y Z)=some X:=λ{X Y Z}=>by have:=zga (X:=X) (Y:=Y) (Z:=Z) (l:= []);simpa only[lan] using this
 have zgb: ∀ {X Y Z l},qv (b) (tri h a b c X Y Z++l)=some Y:=xF (t);have ygb: ∀ {X Y Z},qv (b) (tri h a b c X Y Z)=some Y:=λ{X Y Z}=>by have:=zgb (X:=X) (Y:=Y) (Z:=Z) (l:= []);simpa only[lan] using this
 have zgc: ∀ {X Y Z l},qv (c) (tri h a b c X Y Z++l)=some Z:=xf (t);have ygc: ∀ {X Y Z},qv (c) (tri h a b c X Y Z)=some Z:=λ{X Y Z}=>by have:=zgc (X:=X) (Y:=Y) (Z:=Z) (l:= []);simpa only[lan] using this
 have zsa: ∀ {X Y Z o l},qu (a) (tri h a b c X Y Z++l) o=tri h a b c o Y Z++l:=xG (t);have ysa: ∀ {X Y Z o},qu (a) (tri h a b c X Y Z) o=tri h a b c o Y Z:=λ{X Y Z o}=>by have:=zsa (X:=X) (Y:=Y) (Z:=Z) (o:=o) (l:= []);simpa only[lan] using this
 have zsb: ∀ {X Y Z o l},qu (b) (tri h a b c X Y Z++l) o=tri h a b c X o Z++l:=yd (t);have ysb: ∀ {X Y Z o},qu (b) (tri h a b c X Y Z) o=tri h a b c X o Z:=λ{X Y Z o}=>by have:=zsb (X:=X) (Y:=Y) (Z:=Z) (o:=o) (l:= []);simpa only[lan] using this
 have zsc: ∀ {X Y Z o l},qu (c) (tri h a b c X Y Z++l) o=tri h a b c X Y o++l:=ye (t);have ysc: ∀ {X Y Z o},qu (c) (tri h a b c X Y Z) o=tri h a b c X Y o:=λ{X Y Z o}=>by have:=zsc (X:=X) (Y:=Y) (Z:=Z) (o:=o) (l:= []);simpa only[lan] using this
 have zca: ∀ {X Y Z v l},cellsOf (tri h a b c X Y Z++l) (a) v=qw (some X) v:=y7 (t);have yca: ∀ {X Y Z v},cellsOf (tri h a b c X Y Z) (a) v=qw (some X) v:=λ{X Y Z v}=>by have:=zca (X:=X) (Y:=Y) (Z:=Z) (v:=v) (l:= []);simpa only[lan] using this
 have zcb: ∀ {X Y Z v l},cellsOf (tri h a b c X Y Z++l) (b) v=qw (some Y) v:=y8 (t);have ycb: ∀ {X Y Z v},cellsOf (tri h a b c X Y Z) (b) v=qw (some Y) v:=λ{X Y Z v}=>by have:=zcb (X:=X) (Y:=Y) (Z:=Z) (v:=v) (l:= []);simpa only[lan] using this
 have zcc: ∀ {X Y Z v l},cellsOf (tri h a b c X Y Z++l) (c) v=qw (some Z) v:=y9 (t);have ycc: ∀ {X Y Z v},cellsOf (tri h a b c X Y Z) (c) v=qw (some Z) v:=λ{X Y Z v}=>by have:=zcc (X:=X) (Y:=Y) (Z:=Z) (v:=v) (l:= []);simpa only[lan] using this
 have zla: ∀ {X Y Z v l},qI (tri h a b c X Y Z++l) (a) v=qM (some X) v:=aa (t);have yla: ∀ {X Y Z v},qI (tri h a b c X Y Z) (a) v=qM (some X) v:=λ{X Y Z v}=>by have:=zla (X:=X) (Y:=Y) (Z:=Z) (v:=v) (l:= []);simpa only[lan] using this
 have zlb: ∀ {X Y Z v l},qI (tri h a b c X Y Z++l) (b) v=qM (some Y) v:=ae (t);have ylb: ∀ {X Y Z v},qI (tri h a b c X Y Z) (b) v=qM (some Y) v:=λ{X Y Z v}=>by have:=zlb (X:=X) (Y:=Y) (Z:=Z) (v:=v) (l:= []);simpa only[lan] using this
 have zlc: ∀ {X Y Z v l},qI (tri h a b c X Y Z++l) (c) v=qM (some Z) v:=af (t);have ylc: ∀ {X Y Z v},qI (tri h a b c X Y Z) (c) v=qM (some Z) v:=λ{X Y Z v}=>by have:=zlc (X:=X) (Y:=Y) (Z:=Z) (v:=v) (l:= []);simpa only[lan] using this
 refine acO NM ?_;simp (disch:=omega) only[IX,yga,ysa,yca,ql,go_sem];refine jR trivial (by simp only[tri_len]) (jW t (λx hx=> ?_) ly trivial) ⟨rfl,rfl⟩ (qi);simp only[List.mem_cons,List.not_mem_nil,or_false]at hx;rcases hx with rfl|rfl|rfl|rfl|rfl|rfl
 ·exact l0
 ·rfl
 ·rfl
 ·exact l3
 ·exact l4
 ·exact l5
theorem KU{L:List Tk}(w:Str)(hn:0<L.length):(jA L).take ((L.length-1)*6)++([AV.str w]++(jA L).drop ((L.length-1)*6+1))=jA (yr L w):=by
 unfold yr;rw[<-pO _ om];refine congrArg _ ?_;have e:(jA L).drop ((L.length-1)*6+1)=(tkC (L.getD (L.length-1) default)).drop 1++(jA L).drop ((L.length-1)*6+6):=by
  rw[<-y6 (L:=L) (i:=L.length-1) om];have e2:(jA L).drop ((L.length-1)*6)=((jA L).drop ((L.length-1)*6)).take 6++((jA L).drop ((L.length-1)*6)).drop 6:=(List.take_append_drop _ _).symm;have hl:=jV L;have hl2:((jA L).drop ((L.length-1)*6)).length=L.length*6-(L.length-1)*6:=by rw[List.length_drop,hl]
  rw[<-List.drop_drop,<-List.drop_drop (i:=6),<-List.drop_append_of_le_length (by rw[List.length_take];omega),List.take_append_drop]
 rw[e];rfl
theorem xE(L:List Tk)(w:Str):(yr L w).length=L.length:=by unfold yr;rw[List.length_set]
theorem CO(t:T3 h a b c)(q:Br)(ho:q.opn=true->0<q.out.length)(hw:q.opn=false->q.word= [])(hm:q.out.length<=1000000)(hl:q.word.length<=1000000):ACalls Tryz.prog 245 [.op a va 0] (brO h a b c va q) (.tup []) (brO h a b c va q.nd):=by
 have ta:=t.la;have tb:=t.lb;have tc:=t.lc;have zga: ∀ {X Y Z l},qv (a) (tri h a b c X Y Z++l)=some X:=xe (t);have yga: ∀ {X Y Z},qv (a) (tri h a b c X Y Z)=some X:=λ{X Y Z}=>by have:=zga (X:=X) (Y:=Y) (Z:=Z) (l:= []);simpa only[lan] using this
 have zgb: ∀ {X Y Z l},qv (b) (tri h a b c X Y Z++l)=some Y:=xF (t);have ygb: ∀ {X Y Z},qv (b) (tri h a b c X Y Z)=some Y:=λ{X Y Z}=>by have:=zgb (X:=X) (Y:=Y) (Z:=Z) (l:= []);simpa only[lan] using this
 have zgc: ∀ {X Y Z l},qv (c) (tri h a b c X Y Z++l)=some Z:=xf (t);have ygc: ∀ {X Y Z},qv (c) (tri h a b c X Y Z)=some Z:=λ{X Y Z}=>by have:=zgc (X:=X) (Y:=Y) (Z:=Z) (l:= []);simpa only[lan] using this
 have zsa: ∀ {X Y Z o l},qu (a) (tri h a b c X Y Z++l) o=tri h a b c o Y Z++l:=xG (t);have ysa: ∀ {X Y Z o},qu (a) (tri h a b c X Y Z) o=tri h a b c o Y Z:=λ{X Y Z o}=>by have:=zsa (X:=X) (Y:=Y) (Z:=Z) (o:=o) (l:= []);simpa only[lan] using this
 have zsb: ∀ {X Y Z o l},qu (b) (tri h a b c X Y Z++l) o=tri h a b c X o Z++l:=yd (t);have ysb: ∀ {X Y Z o},qu (b) (tri h a b c X Y Z) o=tri h a b c X o Z:=λ{X Y Z o}=>by have:=zsb (X:=X) (Y:=Y) (Z:=Z) (o:=o) (l:= []);simpa only[lan] using this
 have zsc: ∀ {X Y Z o l},qu (c) (tri h a b c X Y Z++l) o=tri h a b c X Y o++l:=ye (t);have ysc: ∀ {X Y Z o},qu (c) (tri h a b c X Y Z) o=tri h a b c X Y o:=λ{X Y Z o}=>by have:=zsc (X:=X) (Y:=Y) (Z:=Z) (o:=o) (l:= []);simpa only[lan] using this
 have zca: ∀ {X Y Z v l},cellsOf (tri h a b c X Y Z++l) (a) v=qw (some X) v:=y7 (t);have yca: ∀ {X Y Z v},cellsOf (tri h a b c X Y Z) (a) v=qw (some X) v:=λ{X Y Z v}=>by have:=zca (X:=X) (Y:=Y) (Z:=Z) (v:=v) (l:= []);simpa only[lan] using this
 have zcb: ∀ {X Y Z v l},cellsOf (tri h a b c X Y Z++l) (b) v=qw (some Y) v:=y8 (t);have ycb: ∀ {X Y Z v},cellsOf (tri h a b c X Y Z) (b) v=qw (some Y) v:=λ{X Y Z v}=>by have:=zcb (X:=X) (Y:=Y) (Z:=Z) (v:=v) (l:= []);simpa only[lan] using this
 have zcc: ∀ {X Y Z v l},cellsOf (tri h a b c X Y Z++l) (c) v=qw (some Z) v:=y9 (t);have ycc: ∀ {X Y Z v},cellsOf (tri h a b c X Y Z) (c) v=qw (some Z) v:=λ{X Y Z v}=>by have:=zcc (X:=X) (Y:=Y) (Z:=Z) (v:=v) (l:= []);simpa only[lan] using this
 have zla: ∀ {X Y Z v l},qI (tri h a b c X Y Z++l) (a) v=qM (some X) v:=aa (t);have yla: ∀ {X Y Z v},qI (tri h a b c X Y Z) (a) v=qM (some X) v:=λ{X Y Z v}=>by have:=zla (X:=X) (Y:=Y) (Z:=Z) (v:=v) (l:= []);simpa only[lan] using this
 have zlb: ∀ {X Y Z v l},qI (tri h a b c X Y Z++l) (b) v=qM (some Y) v:=ae (t);have ylb: ∀ {X Y Z v},qI (tri h a b c X Y Z) (b) v=qM (some Y) v:=λ{X Y Z v}=>by have:=zlb (X:=X) (Y:=Y) (Z:=Z) (v:=v) (l:= []);simpa only[lan] using this
 have zlc: ∀ {X Y Z v l},qI (tri h a b c X Y Z++l) (c) v=qM (some Z) v:=af (t);have ylc: ∀ {X Y Z v},qI (tri h a b c X Y Z) (c) v=qM (some Z) v:=λ{X Y Z v}=>by have:=zlc (X:=X) (Y:=Y) (Z:=Z) (v:=v) (l:= []);simpa only[lan] using this
 cases hq:q.opn with
 |false=>
  have e1:q.nd=⟨q.out,[],false,q.jn,q.vo,q.vw,false⟩:=by unfold Br.nd;rw[hq];rfl
  rw[e1];have c1:=HH (va:=va) t (.osl b q.vo 6 0 q.out.length) (if q.ad=true then .op a va 1 else .nilp) (.osl c q.vw 1 0 q.word.length) (.bool false) (.bool q.jn) (.bool false) (brY q) q.vw (by simp[ze];omega) rfl rfl rfl (wS q _);have hz:dy q.vw q.word= .emp q.vw:=by rw[hw hq];rfl
  unfold brO brX;rw[hz,hq];refine acO Bq ?_;simp (disch:=omega) only[Da,yga,ysa,yca,ql,go_sem];refine qE c1 (by exact flk) ?_;simp (disch:=omega) only[go_sem];exact jR trivial (by simp only[tri_len]) (jW t (jY t va ⟨q.out,[],false,q.jn,q.vo,q.vw,false⟩) (wS q _) trivial) ⟨rfl,rfl⟩ (qi)
 |true=>
  have e1:q.nd=⟨yr q.out q.word,[],false,q.jn,q.vo,q.vw+1,false⟩:=by unfold Br.nd;rw[hq];rfl
  rw[e1];have c1:=CP (va:=va) t q (ho hq) hm;have hn:=ho hq;unfold brO at c1 ⊢;rw[dO hn]at c1 ⊢;rw[dO (q:=⟨yr q.out q.word,[],false,q.jn,q.vo,q.vw+1,false⟩) (by simp only[xE];exact hn)];unfold brX at c1 ⊢;rw[hq]at c1 ⊢;refine acO Bq ?_;simp (disch:=omega) only[Da,yga,ysa,yca,ql,go_sem]
  repeat' first|(refine cA (c1) flk ?_;simp (disch:=omega) only[yca,ql,go_sem])
  refine qE (qga a va c q.vw (.osl b q.vo 6 0 q.out.length) (.bool true) (.bool q.jn) (.bool false) (if q.ad=true then .op a va 1 else .nilp) q.word _ (λe=>t.ac e.symm) yga ygc) (by exact flk) ?_;have hL:=jV q.out;have k3:((q.out.length-1)*6+1<=q.out.length*6)=True:=xv;have hX:=KU (L:=q.out) q.word hn;have c2:=HH (va:=va) t (.osl b q.vo 6 0 q.out.length) (if q.ad=true then .op a va 1 else .nilp) (.osl c q.vw 1 0 q.word.length) (.bool false) (.bool q.jn) (.bool false) (.mem q.vo 92 (jA (yr q.out q.word))) (q.vw+1) (by simp[ze];omega) rfl rfl rfl (kE _ _);simp (disch:=omega) only[yga,ygb,ysa,ysb,ysc,yca,ycb,ql,hL,k3,go_sem];rw[List.append_assoc,hX];refine qE c2 (by exact flk) ?_;simp (disch:=omega) only[go_sem];have eL:=xE q.out q.word;simp only[eL];exact jR trivial (by simp only[tri_len]) (jW t (by have:=jY t va ⟨q.out,[],false,q.jn,q.vo,q.vw+1,false⟩;exact this) (kE _ _) trivial) ⟨rfl,rfl⟩ (qi)
end
end RC
end
section
open Go Go.Proofs AF HY LN
namespace RC
section
variable {h : w6} {a b c va : Nat}
theorem HI(t:T3 h a b c)(q:Br)(f:Int)(x:UInt8)(hf:f=0∨f=8)(hm:q.out.length<=1000000):ACalls Tryz.prog 283 [.op a va 0,.agg (atC 1 x),.int .i64 f] (brO h a b c va q) (.tup []) (brO h a b c va (q.st f)):=by
 have ta:=t.la;have tb:=t.lb;have tc:=t.lc;have zga: ∀ {X Y Z l},qv (a) (tri h a b c X Y Z++l)=some X:=xe (t);have yga: ∀ {X Y Z},qv (a) (tri h a b c X Y Z)=some X:=λ{X Y Z}=>by have:=zga (X:=X) (Y:=Y) (Z:=Z) (l:= []);simpa only[lan] using this
 have zgb: ∀ {X Y Z l},qv (b) (tri h a b c X Y Z++l)=some Y:=xF (t);have ygb: ∀ {X Y Z},qv (b) (tri h a b c X Y Z)=some Y:=λ{X Y Z}=>by have:=zgb (X:=X) (Y:=Y) (Z:=Z) (l:= []);simpa only[lan] using this
 have zgc: ∀ {X Y Z l},qv (c) (tri h a b c X Y Z++l)=some Z:=xf (t);have ygc: ∀ {X Y Z},qv (c) (tri h a b c X Y Z)=some Z:=λ{X Y Z}=>by have:=zgc (X:=X) (Y:=Y) (Z:=Z) (l:= []);simpa only[lan] using this
 have zsa: ∀ {X Y Z o l},qu (a) (tri h a b c X Y Z++l) o=tri h a b c o Y Z++l:=xG (t);have ysa: ∀ {X Y Z o},qu (a) (tri h a b c X Y Z) o=tri h a b c o Y Z:=λ{X Y Z o}=>by have:=zsa (X:=X) (Y:=Y) (Z:=Z) (o:=o) (l:= []);simpa only[lan] using this
 have zsb: ∀ {X Y Z o l},qu (b) (tri h a b c X Y Z++l) o=tri h a b c X o Z++l:=yd (t);have ysb: ∀ {X Y Z o},qu (b) (tri h a b c X Y Z) o=tri h a b c X o Z:=λ{X Y Z o}=>by have:=zsb (X:=X) (Y:=Y) (Z:=Z) (o:=o) (l:= []);simpa only[lan] using this
 have zsc: ∀ {X Y Z o l},qu (c) (tri h a b c X Y Z++l) o=tri h a b c X Y o++l:=ye (t);have ysc: ∀ {X Y Z o},qu (c) (tri h a b c X Y Z) o=tri h a b c X Y o:=λ{X Y Z o}=>by have:=zsc (X:=X) (Y:=Y) (Z:=Z) (o:=o) (l:= []);simpa only[lan] using this
 have zca: ∀ {X Y Z v l},cellsOf (tri h a b c X Y Z++l) (a) v=qw (some X) v:=y7 (t);have yca: ∀ {X Y Z v},cellsOf (tri h a b c X Y Z) (a) v=qw (some X) v:=λ{X Y Z v}=>by have:=zca (X:=X) (Y:=Y) (Z:=Z) (v:=v) (l:= []);simpa only[lan] using this
 have zcb: ∀ {X Y Z v l},cellsOf (tri h a b c X Y Z++l) (b) v=qw (some Y) v:=y8 (t);have ycb: ∀ {X Y Z v},cellsOf (tri h a b c X Y Z) (b) v=qw (some Y) v:=λ{X Y Z v}=>by have:=zcb (X:=X) (Y:=Y) (Z:=Z) (v:=v) (l:= []);simpa only[lan] using this
 have zcc: ∀ {X Y Z v l},cellsOf (tri h a b c X Y Z++l) (c) v=qw (some Z) v:=y9 (t);have ycc: ∀ {X Y Z v},cellsOf (tri h a b c X Y Z) (c) v=qw (some Z) v:=λ{X Y Z v}=>by have:=zcc (X:=X) (Y:=Y) (Z:=Z) (v:=v) (l:= []);simpa only[lan] using this
 have zla: ∀ {X Y Z v l},qI (tri h a b c X Y Z++l) (a) v=qM (some X) v:=aa (t);have yla: ∀ {X Y Z v},qI (tri h a b c X Y Z) (a) v=qM (some X) v:=λ{X Y Z v}=>by have:=zla (X:=X) (Y:=Y) (Z:=Z) (v:=v) (l:= []);simpa only[lan] using this
 have zlb: ∀ {X Y Z v l},qI (tri h a b c X Y Z++l) (b) v=qM (some Y) v:=ae (t);have ylb: ∀ {X Y Z v},qI (tri h a b c X Y Z) (b) v=qM (some Y) v:=λ{X Y Z v}=>by have:=zlb (X:=X) (Y:=Y) (Z:=Z) (v:=v) (l:= []);simpa only[lan] using this
 have zlc: ∀ {X Y Z v l},qI (tri h a b c X Y Z++l) (c) v=qM (some Z) v:=af (t);have ylc: ∀ {X Y Z v},qI (tri h a b c X Y Z) (c) v=qM (some Z) v:=λ{X Y Z v}=>by have:=zlc (X:=X) (Y:=Y) (Z:=Z) (v:=v) (l:= []);simpa only[lan] using this
 have hL:=jV q.out;obtain⟨g,hg⟩:=wD (f+jfl q.jn q.out.length)
 have e1:q.st f=⟨q.out++ [tkF g []],q.word,q.opn,true,q.vo+1,q.vw,q.ad⟩:=by unfold Br.st;rw[hg]
 rw[e1];have o1:=sk (v:=q.vo) (ty:=92) (cs:=jA q.out);have k3:(q.out.length*6<=q.out.length*6)=True:=eqt (nlr _);have a2: ∀(x1:AV) (r:w7),oh (some (zE q.vo 92 (jA q.out))) 92 q.vo (q.out.length*6) 1 (x1::r)=zE (q.vo+1) 92 (jA q.out++x1::r):=λx1 r=>by rw[appO_own1,ltl om]
 have eLn:(q.out++ [tkF g []]).length=q.out.length+1:=by simp
 have hfin:jA q.out++ [.str [],.str [],.str [],.int .i64 0,.int .i64 g,.str []]=jA (q.out++ [tkF g []]):=by rw[gU,pN];rfl
 unfold brO brX brY
 by_cases hj:q.jn=true∧0<q.out.length
 ·obtain⟨hj,hn⟩:=hj;have k1:((0:Int)<q.out.length)=True:=xv;have hg:g=f+16:=by rw[hg];unfold jfl;rw[ipo ⟨hj,hn⟩]
  have eo:xg .or (.int .i64 f) (.int .i64 16)= .int .i64 g:=by
   rw[hg];rcases hf with rfl|rfl<;>rfl
  rw[hj];unfold atC;refine acO Ze ?_;simp (disch:=omega) only[Wi,zca,zlb,ql,zC,k1,eo,go_sem]
  repeat' first|with_reducible apply aiA|exact clz|fail
  refine jL ?Ta ?Ha ?h1 ?h2
  case h1=>
   simp (disch:=omega) only[zga,zgb,zsa,zsb,zca,zcb,zlb,ql,zC,cX,o1,hL,k3,a2,go_sem]
   repeat' first|with_reducible apply aiA
   all_goals first
    |omega
    |rfl
    |(rw[bne_iff_ne];omega)
    |skip
  case h2=>
  simp (disch:=omega) only[zga,zsa,zca,ql,go_sem];rw[hfin];simp only[eLn];exact zW trivial (by simp only[tri_len]) (jW t (by have:=jY t va ⟨q.out++ [tkF g []],q.word,q.opn,true,q.vo+1,q.vw,q.ad⟩;simpa only[brX,eLn] using this) (ju (kE _ _)) (jt _ _ _)) ⟨rfl,rfl⟩ (qi)
 ·have hg:g=f:=by rw[hg];unfold jfl;rw[ine hj];omega
  subst hg;unfold atC;cases hj2:q.jn with
  |false=>
   refine acO Ze ?_;simp (disch:=omega) only[Wi,zca,zlb,ql,zC,go_sem]
   repeat' first|(with_reducible first|intro _|apply aiA)|exact clz|fail
   refine jL ?Tb ?Hb ?h1 ?h2
   case h1=>
    simp (disch:=omega) only[zga,zgb,zsa,zsb,zca,zcb,zlb,ql,zC,cX,o1,hL,k3,a2,go_sem]
    repeat' first|with_reducible apply aiA
    all_goals first
     |omega
     |rfl
     |(rw[bne_iff_ne];omega)
     |skip
   case h2=>
   simp (disch:=omega) only[zga,zsa,zca,ql,go_sem];rw[hfin];simp only[eLn];exact zW trivial (by simp only[tri_len]) (jW t (by have:=jY t va ⟨q.out++ [tkF g []],q.word,q.opn,true,q.vo+1,q.vw,q.ad⟩;simpa only[brX,eLn] using this) (ju (kE _ _)) (jt _ _ _)) ⟨rfl,rfl⟩ (qi)
  |true=>
   have k1:((0:Int)<q.out.length)=False:=eqf (λhc=>hj ⟨hj2,om⟩);refine acO Ze ?_;simp (disch:=omega) only[Wi,zca,zlb,ql,zC,k1,go_sem]
   repeat' first|with_reducible apply aiA|exact clz|fail
   refine jL ?Tc ?Hc ?h1 ?h2
   case h1=>
    simp (disch:=omega) only[zga,zgb,zsa,zsb,zca,zcb,zlb,ql,zC,cX,o1,hL,k3,a2,go_sem]
    repeat' first|with_reducible apply aiA
    all_goals first
     |omega
     |rfl
     |(rw[bne_iff_ne];omega)
     |skip
   case h2=>
   simp (disch:=omega) only[zga,zsa,zca,ql,go_sem];rw[hfin];simp only[eLn];exact zW trivial (by simp only[tri_len]) (jW t (by have:=jY t va ⟨q.out++ [tkF g []],q.word,q.opn,true,q.vo+1,q.vw,q.ad⟩;simpa only[brX,eLn] using this) (ju (kE _ _)) (jt _ _ _)) ⟨rfl,rfl⟩ (qi)
end
end RC
end
section
open Go Go.Proofs AF
def XA:List Nat:= [118,116,307,285,244,282,245,283,247,284]
@[go_sem]def vq:DT:= DT.one ⟨some 20,none,.nilchk,[.t 15]⟩ (DT.one ⟨some 21,none,.fldA 0,[.t 20]⟩ (DT.one ⟨none,none,.store 1,[.t 21,.t 19]⟩ DT.nil))
@[go_sem]def vr:DT:= DT.one ⟨some 18,none,.bslc 1 1 1 5 [.int .u8 0] [(0,1)],[.t 17]⟩ (DT.one ⟨some 19,none,.b2s,[.t 18]⟩ vq)
def mE:C:=
 (v6 [O1 3 (.box 0 269) 1] (v6 [vU 4 0] ((v6 [vT 5 5 3,LD 6 5] (v7 6 (wc [vU 4 1]))).seq (C.block 0 (v6 [MV 23 0,O1 24 .nilchk 23,vT 25 3 24,LD 26 25,MV 27 26,P1 28 27 true
 (.fldA 1) 3,P1 29 27 true (.load none) 28,P1 30 27 true (.call 271 true) 29,PF 31 27 30,MV 22 31] (C.cond (.t 22) (v6 [MV 32 0,O1 33 (.call 284 false) 32,O1 34 .nilchk 33,vT 35
 4 34,LD 36 35,MV 37 4,BI 38 .or 36 37,O1 39 .nilchk 33,vT 40 4 39,ST 1 40 38] (wc [MV 41 0,O1 42 .nilchk 41,vT 43 1 42,vT 44 1 3,LD 45 44,O2 46 (.call 307 false) 43 45])) (v6
 [vT 48 1 3,LD 49 48,O1 50 (.call 301 true) 49,MV 47 50] (C.cond (.t 47) (v6 [MV 51 0,O1 52 (.load (some 7)) 3,MV 53 4,ON 54 (.call 283 false) [.t 51,.t 52,.t 53]] (v6 [MV 55
 0,O1 56 .nilchk 55,vT 57 3 56,⟨none,none,.store 1,[.t 57,.c (.bool true)]⟩] (wc [MV 58 0,O1 59 .nilchk 58,vT 60 1 59,vT 61 1 3,LD 62 61,O2 63 (.call 307 false) 60 62]))) (v6
 [vT 65 1 3,LD 66 65,O1 67 (.call 185 true) 66,vV 68 .eql 67 6,MV 64 68] (C.cond (.t 64) (v6 [MV 69 0,O1 70 (.call 245 false) 69] (wc [MV 71 0,O1 72 .nilchk 71,vT 73 4
 72,⟨none,none,.store 1,[.t 73,.c (.bool false)]⟩])) (v6 [MV 7 0,O1 8 (.call 245 false) 7] (v6 [MV 9 0,O1 10 (.load (some 7)) 3,MV 11 4,vV 12 .or 11 8,ON 13 (.call 283 false)
 [.t 9,.t 10,.t 12]] (C.draw (DT.one ⟨some 14,none,.mv,[.t 0]⟩ ((DT.one ⟨some 15,none,.call 284 false,[.t 14]⟩ (DT.one ⟨some 16,none,.fldA 1,[.t 3]⟩ (DT.one ⟨some 17,none,.load
 none,[.t 16]⟩ vr))).two (DT.one ⟨some 16,none,.fldA 1,[.t 3]⟩ ((DT.one ⟨some 15,none,.call 284 false,[.t 14]⟩ (DT.one ⟨some 17,none,.load none,[.t 16]⟩ vr)).two (DT.one ⟨some
 17,none,.load none,[.t 16]⟩ ((DT.one ⟨some 15,none,.call 284 false,[.t 14]⟩ vr).two (DT.one ⟨some 18,none,.bslc 1 1 1 5 [.int .u8 0] [(0,1)],[.t 17]⟩ ((DT.one ⟨some
 15,none,.call 284 false,[.t 14]⟩ (DT.one ⟨some 19,none,.b2s,[.t 18]⟩ vq)).two (DT.one ⟨some 19,none,.b2s,[.t 18]⟩ (DT.one ⟨some 15,none,.call 284 false,[.t 14]⟩
 vq)))))))))))))))))))))))
theorem dX:qN Tryz.prog 282 74 2 [] mE:=fi Tryz.f282 [3,18] XA []
end
