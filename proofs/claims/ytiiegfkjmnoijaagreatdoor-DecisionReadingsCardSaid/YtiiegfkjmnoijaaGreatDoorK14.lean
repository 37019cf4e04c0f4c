import Derived.Test.YtiiegfkjmnoijaaGreatDoorK13
import Derived.Test.YtiiegfkjmnoijaaGreatDoorK3
import Derived.Test.YtiiegfkjmnoijaaGreatDoorK5
import Derived.Test.YtiiegfkjmnoijaaGreatDoorK8
import Derived.Test.YtiiegfkjmnoijaaGreatDoorProg
import Derived.Test.YtiiegfkjmnoijaaGreatDoorK12
import Derived.Test.YtiiegfkjmnoijaaGreatDoorK11
set_option linter.all false
set_option maxHeartbeats 128000000
set_option maxRecDepth 100000
section
open Go Go.Proofs AF HY LN
namespace RC
def qfo(s:Str):List Tk:=if qfn s=0 then qaJ s else []
theorem qA5(s:Str)(h:we)(hl:s.length<=1000)(hs:s≠ [])(hc:zR s=0)(hg:zQ h frmN frmC):ACalls Tryz.prog 182 [.agg [.str [],.int .i64 0],jW s,.nl] h (.tup [zP (qfo s),.int .i64 (qfn s)]) h:=by
 have c1:=λl=>qzK s (h++l) om om hs hc hg.app
 have c2:=λh=>qBM h
 have c3:=λh=>qAI [] h (by simp)
 rw[show qjF []=true from rfl]at c3;have c4:=λl=>qBB s 8 (h++l) om om (λl'=>qzK s (h++l++l') om om hs hc hg.app.app)
 have c9:=λl=>qBB s 9 (h++l) om om (λl'=>qzK s (h++l++l') om om hs hc hg.app.app)
 have c5:=λh=>qB2 s h
 unfold jW at c1 c4 c5 c9;refine acO qwk ?_;simp (disch:=omega) only[quH,jW,go_sem]
 repeat' first|((first|refine cA (c1 _) ?_ ?_|refine cG (λe=>c2 _) ?_ ?_|refine cA (c3 _) ?_ ?_|refine cA (c4 _) ?_ ?_|refine cA (c9 _) ?_ ?_);exact flk;simp (disch:=omega) only[go_sem])|(apply qb;exact rvk;simp only[go_sem])|(with_reducible first|intro _|apply aiA)|exact clz|fail
 refine⟨_,_,(Wk.ownNil (j:=h.length+2) (i:=0) (k:=h.length+4) (v:=1) (ty:=264) (cs:= [.nl,.nilp,.nl,.bool false,.bool false,.bool false]) (ve:=0) (sz:=6) ?m1 rfl ?m2).trans
  (Wk.ownNil (j:=h.length+2) (i:=2) (k:=h.length+5) (v:=1) (ty:=264) (cs:= [.osl (h.length+4) 0 6 0 0,.nilp,.nl,.bool false,.bool false,.bool false]) (ve:=0) (sz:=1) ?m3 rfl ?m4),?_⟩
 case m1=>simp only[go_sem]
 case m2=>simp only[go_sem]
 case m3=>
  simp only[List.set_cons_zero,go_sem]
 case m4=>simp only[List.set_cons_zero,go_sem]
 simp (disch:=omega) only[List.set_cons_zero,List.set_cons_succ,go_sem]
 repeat' first|(refine cA (c5 _) flk ?_;simp (disch:=omega) only[go_sem])
 obtain⟨base,hbase⟩: ∃base:AObj->we,base=λO=>h++ [.mem 1 88 [.str [],.int .i64 0],.emp 1,.mem 1 264 [.osl (h.length+4) 0 6 0 0,.nilp,.osl (h.length+5) 0 1 0 0,.bool false,.bool false,.bool false],O,.emp 0,.emp 0]:=⟨_,rfl⟩
 have hbl: ∀O,(base O).length=h.length+6:=λO=>by rw[hbase];simp
 have hT: ∀O,T3 (base O) (h.length+2) (h.length+4) (h.length+5):=λO=>⟨by rw[hbl];omega,by rw[hbl];omega,by rw[hbl];omega,om,om,om⟩
 have f1: ∀ {O X Y Z l},qt (h.length+3) (tri (base O) (h.length+2) (h.length+4) (h.length+5) X Y Z++l)=some O:=λ{O X Y Z l}=>by
  rw[qyE (by rw[hbl];omega) om om om,hbase];simp only[go_sem]
 have f2: ∀ {O O' X Y Z l},qo (h.length+3) (tri (base O) (h.length+2) (h.length+4) (h.length+5) X Y Z++l) O'=tri (base O') (h.length+2) (h.length+4) (h.length+5) X Y Z++l:=λ{O O' X Y Z l}=>by
  rw[qyF (by rw[hbl];omega) om om om,hbase];simp only[go_sem]
 have f4: ∀ {v w ty cs X Y Z l},cellsOf (tri (base (.mem v ty cs)) (h.length+2) (h.length+4) (h.length+5) X Y Z++l) (h.length+3) w=if v=w then some cs else none:=λ{v w ty cs X Y Z l}=>by rw[zO,f1];rfl
 have eT: ∀ {O X Y Z},tri (base O) (h.length+2) (h.length+4) (h.length+5) X Y Z=h++ [.mem 1 88 [.str [],.int .i64 0],.emp 1,X,O,Y,Z]:=λ{O X Y Z}=>by
  rw[hbase];unfold tri;simp only[go_sem]
 have hst:base (.emp 0)=brO (base (.emp 0)) (h.length+2) (h.length+4) (h.length+5) 1 (brI 0 0 (s.take 0)):=by
  refine (qqb ?_ ?_ ?_).symm
  ·rw[hbase];simp only[go_sem];rfl
  ·rw[hbase];simp only[go_sem];rfl
  ·rw[hbase];simp only[go_sem];rfl
 have hLow: ∀(q:Br) O,(∀n,lowO n O)->LowI (base (.emp 0)) (brO (base O) (h.length+2) (h.length+4) (h.length+5) 1 q):=λq O lO=>by
  refine⟨by rw[qbz,hbl,hbl],λo ho=> ?_⟩;rcases qs1 ho with h1|rfl|rfl|rfl
  ·rw[hbase]at h1 ⊢;rcases List.mem_append.1 h1 with h1|h1
   ·exact .inl (List.mem_append_left _ h1)
   ·simp only[List.mem_cons,List.not_mem_nil,or_false]at h1;rcases h1 with rfl|rfl|rfl|rfl|rfl|rfl
    ·left;simp
    ·left;simp
    ·left;simp
    ·right;exact⟨lO _,lO _⟩
    ·left;simp
    ·left;simp
  ·right
   have:=jI (hT O) 1 q
   rw[hbl]at this ⊢;exact⟨this,lowO_mono om this⟩
  ·right;exact⟨kW _ _,kW _ _⟩
  ·right;exact⟨jb _ _ _,jb _ _ _⟩
 have e0:h++ [.mem 1 88 [.str [],.int .i64 0],.emp 1,.mem 1 264 [.osl (h.length+4) 0 6 0 0,.nilp,.osl (h.length+5) 0 1 0 0,.bool false,.bool false,.bool false],.emp 0,.emp 0,.emp 0]=base (.emp 0):=by rw[hbase]
 rw[e0];refine zg (xs:=atX s) (itA s om) (λa ha=> ?_)
  (S:=λi hh=> ∃O,qI [O] 0=true∧(∀n,lowO n O)∧hh=brO (base O) (h.length+2) (h.length+4) (h.length+5) 1 (brI 0 0 (s.take i))) (E:=λ_ _=>False) ?_ ?_ ?_ ?_ ?_ ?_ ?_
 ·obtain⟨c,_,rfl⟩:=List.mem_map.1 (show a∈s.map _ from ha);rfl
 ·rintro i hh ⟨O,_,l1,rfl⟩;exact hLow _ _ l1
 ·intro s hh hf;exact hf.elim
 ·exact⟨.emp 0,rfl,λ_=>trivial,hst⟩
 ·rw[hbl];simp[qR,qR.lowVs]
  try omega
 ·rintro i hh tl LI TS hi ⟨O,s1,l1,rfl⟩ hlen K K2 hK hN hR' hX;have hi':i<s.length:=by rw[qao]at hi;exact hi
  rw[qpn hi];have t:=hT O;have f3: ∀ {X Y Z l},qI (tri (base O) (h.length+2) (h.length+4) (h.length+5) X Y Z++l) (h.length+3)=true:=λ{X Y Z l}=>by unfold qI;rw[f1];exact s1
  simp only[kr];unfold brO;simp (disch:=omega) only[f1,f2,f3,f4,atC,go_sem];refine hK _ _ (brO (base (.mem (qq (some O)+1) 269 (atC 1 (ch s i)))) (h.length+2) (h.length+4) (h.length+5) 1 (brI 0 0 (s.take i))) ?_ ?_ ?_
  ·rfl
  ·rw[qbz,hbl,hbl]
  ·have cA:=qil (va:=1) (λh' t'=>qzt (va:=1) t' (brI 0 0 (s.take i)) (ch s i) (qpo 0 0 s om om)) (hT (.mem (qq (some O)+1) 269 (atC 1 (ch s i)))) (.lp .busy TS LI::tl);unfold brO atC at cA;unfold brO;simp (disch:=omega) only[f4,atC,go_sem];refine qy cA (by exact flk) ?_;simp (disch:=omega) only[go_sem];refine hN _ _ (brO (base (.mem (qq (some O)+1) 269 (atC 1 (ch s i)))) (h.length+2) (h.length+4) (h.length+5) 1 ((brI 0 0 (s.take i)).pt (ch s i))) rfl (by rw[qbz,hbl,hbl]) ⟨_,?_,?_,by rw[qmf 0 0 s hi']⟩
   ·rfl
   ·intro n d hd;simp[atC]at hd;rcases hd with rfl|rfl|rfl|rfl|rfl|rfl|rfl<;>rfl
 ·rintro hh ⟨O,s1,l1,rfl⟩;have t:=hT O;rw[qao,List.take_length];have hqo:=qpo 0 0 s om (nlr s.length);have hqb:=qug 0 0 s s.length (nlr _);rw[List.take_length]at hqo hqb;obtain⟨q,hq⟩:=wc (brI 0 0 s)
  rw[<-hq]at hqo hqb ⊢;obtain⟨n1,n2,n3,n4⟩:=qpX hqb (qa4 s);have n1:q.nd.out=TA s:=n1;have cE:=qqr (va:=1) t q (λe=>(hqo.op e).1) hqo.cl (by have:=hqo.n;omega) (by have:=hqo.w;omega);simp (disch:=omega) only[go_sem];refine qy cE (by exact flk) ?_;obtain⟨r,hr⟩:=wc q.nd
  rw[<-hr]at n1 ⊢;have zga: ∀ {X Y Z l},qt (h.length+2) (tri (base O) (h.length+2) (h.length+4) (h.length+5) X Y Z++l)=some X:=R9 (t);have yga: ∀ {X Y Z},qt (h.length+2) (tri (base O) (h.length+2) (h.length+4) (h.length+5) X Y Z)=some X:=λ{X Y Z}=>by have:=zga (X:=X) (Y:=Y) (Z:=Z) (l:= []);simpa only[lan] using this
  have zgb: ∀ {X Y Z l},qt (h.length+4) (tri (base O) (h.length+2) (h.length+4) (h.length+5) X Y Z++l)=some Y:=SN (t);have ygb: ∀ {X Y Z},qt (h.length+4) (tri (base O) (h.length+2) (h.length+4) (h.length+5) X Y Z)=some Y:=λ{X Y Z}=>by have:=zgb (X:=X) (Y:=Y) (Z:=Z) (l:= []);simpa only[lan] using this
  have zgc: ∀ {X Y Z l},qt (h.length+5) (tri (base O) (h.length+2) (h.length+4) (h.length+5) X Y Z++l)=some Z:=Si (t);have ygc: ∀ {X Y Z},qt (h.length+5) (tri (base O) (h.length+2) (h.length+4) (h.length+5) X Y Z)=some Z:=λ{X Y Z}=>by have:=zgc (X:=X) (Y:=Y) (Z:=Z) (l:= []);simpa only[lan] using this
  have zsa: ∀ {X Y Z o l},qo (h.length+2) (tri (base O) (h.length+2) (h.length+4) (h.length+5) X Y Z++l) o=tri (base O) (h.length+2) (h.length+4) (h.length+5) o Y Z++l:=SO (t);have ysa: ∀ {X Y Z o},qo (h.length+2) (tri (base O) (h.length+2) (h.length+4) (h.length+5) X Y Z) o=tri (base O) (h.length+2) (h.length+4) (h.length+5) o Y Z:=λ{X Y Z o}=>by have:=zsa (X:=X) (Y:=Y) (Z:=Z) (o:=o) (l:= []);simpa only[lan] using this
  have zsb: ∀ {X Y Z o l},qo (h.length+4) (tri (base O) (h.length+2) (h.length+4) (h.length+5) X Y Z++l) o=tri (base O) (h.length+2) (h.length+4) (h.length+5) X o Z++l:=Td (t);have ysb: ∀ {X Y Z o},qo (h.length+4) (tri (base O) (h.length+2) (h.length+4) (h.length+5) X Y Z) o=tri (base O) (h.length+2) (h.length+4) (h.length+5) X o Z:=λ{X Y Z o}=>by have:=zsb (X:=X) (Y:=Y) (Z:=Z) (o:=o) (l:= []);simpa only[lan] using this
  have zsc: ∀ {X Y Z o l},qo (h.length+5) (tri (base O) (h.length+2) (h.length+4) (h.length+5) X Y Z++l) o=tri (base O) (h.length+2) (h.length+4) (h.length+5) X Y o++l:=Tf (t);have ysc: ∀ {X Y Z o},qo (h.length+5) (tri (base O) (h.length+2) (h.length+4) (h.length+5) X Y Z) o=tri (base O) (h.length+2) (h.length+4) (h.length+5) X Y o:=λ{X Y Z o}=>by have:=zsc (X:=X) (Y:=Y) (Z:=Z) (o:=o) (l:= []);simpa only[lan] using this
  have zca: ∀ {X Y Z v l},cellsOf (tri (base O) (h.length+2) (h.length+4) (h.length+5) X Y Z++l) (h.length+2) v=qv (some X) v:=T9 (t);have yca: ∀ {X Y Z v},cellsOf (tri (base O) (h.length+2) (h.length+4) (h.length+5) X Y Z) (h.length+2) v=qv (some X) v:=λ{X Y Z v}=>by have:=zca (X:=X) (Y:=Y) (Z:=Z) (v:=v) (l:= []);simpa only[lan] using this
  have zcb: ∀ {X Y Z v l},cellsOf (tri (base O) (h.length+2) (h.length+4) (h.length+5) X Y Z++l) (h.length+4) v=qv (some Y) v:=Ua (t);have ycb: ∀ {X Y Z v},cellsOf (tri (base O) (h.length+2) (h.length+4) (h.length+5) X Y Z) (h.length+4) v=qv (some Y) v:=λ{X Y Z v}=>by have:=zcb (X:=X) (Y:=Y) (Z:=Z) (v:=v) (l:= []);simpa only[lan] using this
  have zcc: ∀ {X Y Z v l},cellsOf (tri (base O) (h.length+2) (h.length+4) (h.length+5) X Y Z++l) (h.length+5) v=qv (some Z) v:=Ub (t);have ycc: ∀ {X Y Z v},cellsOf (tri (base O) (h.length+2) (h.length+4) (h.length+5) X Y Z) (h.length+5) v=qv (some Z) v:=λ{X Y Z v}=>by have:=zcc (X:=X) (Y:=Y) (Z:=Z) (v:=v) (l:= []);simpa only[lan] using this
  have zla: ∀ {X Y Z v l},qz (tri (base O) (h.length+2) (h.length+4) (h.length+5) X Y Z++l) (h.length+2) v=qF (some X) v:=Uc (t);have yla: ∀ {X Y Z v},qz (tri (base O) (h.length+2) (h.length+4) (h.length+5) X Y Z) (h.length+2) v=qF (some X) v:=λ{X Y Z v}=>by have:=zla (X:=X) (Y:=Y) (Z:=Z) (v:=v) (l:= []);simpa only[lan] using this
  have zlb: ∀ {X Y Z v l},qz (tri (base O) (h.length+2) (h.length+4) (h.length+5) X Y Z++l) (h.length+4) v=qF (some Y) v:=Ud (t);have ylb: ∀ {X Y Z v},qz (tri (base O) (h.length+2) (h.length+4) (h.length+5) X Y Z) (h.length+4) v=qF (some Y) v:=λ{X Y Z v}=>by have:=zlb (X:=X) (Y:=Y) (Z:=Z) (v:=v) (l:= []);simpa only[lan] using this
  have zlc: ∀ {X Y Z v l},qz (tri (base O) (h.length+2) (h.length+4) (h.length+5) X Y Z++l) (h.length+5) v=qF (some Z) v:=Ue (t);have ylc: ∀ {X Y Z v},qz (tri (base O) (h.length+2) (h.length+4) (h.length+5) X Y Z) (h.length+5) v=qF (some Z) v:=λ{X Y Z v}=>by have:=zlc (X:=X) (Y:=Y) (Z:=Z) (v:=v) (l:= []);simpa only[lan] using this
  have hrl:=qdr s;have hor:r.out.length=(TA s).length:=by rw[n1]
  have k1:((1024:Int)<r.out.length)=False:=wi;have hcE:=λh=>qCz (TA s) h om
  unfold brO brX brY;rw[n1];rw[n1]at k1;have hL:=jF (TA s);have hb64:=Ur (L:=TA s);have hTE:qfn s=if qrQ (TA s)=true then 4 else 0:=rfl
  have hTL:qfo s=if qfn s=0 then qaJ s else []:=rfl
  cases hB:qrQ (TA s)with
  |true=>
   rw[hB]at hTE hcE;rw[ipo rfl]at hTE;rw[hTE,ine (by decide)]at hTL;rw[hTE,hTL];simp (disch:=omega) only[yca,ylb,ql,qW,k1,go_sem];refine cG (λ_=>ACalls.borrow (r:= .bool true) ((hcE []).le ?g1 (qi)) rfl) (λ_=>by exact flk) ?_
   case g1=>
    simp only[List.map_cons,List.map_nil,go_sem,if_true];rw[ygb];exact⟨qb5 rfl,qi,trivial⟩
   simp (disch:=omega) only[yca,ql,go_sem]
   repeat' first|with_reducible apply aiA
   ·rw[eT];simp only[go_sem]
   ·rw[eT];simp only[go_sem];refine qbG rfl ⟨trivial,trivial,trivial⟩ ⟨rfl,rfl⟩ ?_;simp only[go_sem];exact VLe.tup ⟨qZ,qi,trivial⟩
  |false=>
   rw[hB]at hTE hcE;rw[ine (by simp)]at hTE;rw[hTE,ipo rfl]at hTL;rw[hTE,hTL];simp (disch:=omega) only[yca,ylb,ql,qW,k1,go_sem];refine cG (λ_=>ACalls.borrow (r:= .bool false) ((hcE []).le ?g2 (qi)) rfl) (λ_=>by exact flk) ?_
   case g2=>
    simp only[List.map_cons,List.map_nil,go_sem,if_true];rw[ygb];exact⟨qb5 rfl,qi,trivial⟩
   simp (disch:=omega) only[yca,ql,go_sem];refine qy (qAL (TA s) (h.length+4) r.vo _ ygb (qfp s) (hb64.1 hB) om) (by exact flk) ?_;simp (disch:=omega) only[ysb,go_sem]
   repeat' first|with_reducible apply aiA|exact clz|fail
   rw[eT];refine qbG rfl ⟨trivial,trivial,trivial⟩ ⟨rfl,rfl⟩ ?_;simp only[go_sem];exact VLe.tup ⟨qb5 (by simp[qaJ]),qi,trivial⟩
 ·intro e hh hf;exact hf.elim
end RC
end
section
open Go Go.Proofs AF
def qeU:List Nat:= [182]
def qmm:C:=
 (vS [ON 2 (.nilo 0 1 9) [],vM 3 0] ((vS [MV 7 0,O1 8 (.call 181 true) 7,MV 4 8] (vS [MV 9 4,vN 10 .neq 9 0] (vT 10 (vV [MV 11 4,ON 2 (.nilo 0 1 9) [],MV 3 11])))).seq ((vS [MV
 12 0,BC 13 .eql 12 (.str [])] (vT 13 (vV [ON 2 (.nilo 0 1 9) [],vM 3 0]))).seq (vS [⟨some 15,none,.build [.str [],i6 0] [],[]⟩,MV 16 0,⟨some 17,none,.build [i6 0,.str [],i6
 0,.nl] [(0,1),(1,1)],[.c (i6 1),.t 16]⟩,⟨some 18,none,.bslc 1 4 1 198 [i6 0,.str [],i6 0,.nl] [(0,4)],[.t 17]⟩,ON 19 (.call 182 false) [.t 15,.t 18,.c .nl],MV 14 19,O1 20 (.ext
 0) 14,O1 21 (.ext 1) 14,MV 5 20,MV 6 21] (vV [MV 22 5,O1 23 (.call 91 true) 22,MV 24 6,MV 2 23,MV 3 24])))))
theorem qi7:qJ Tryz.prog 132 25 2 [RV.tmp 2,RV.tmp 3] qmm:=fi Tryz.f132 [2,18] qeU []
def qus:C:=
 (vS [ON 2 (.nilo 0 6 92) []] (vS [⟨some 6,none,.build [.str [],i6 0] [],[]⟩,MV 7 0,⟨some 8,none,.build [i6 0,.str [],i6 0,.nl] [(0,1),(1,1)],[.c (i6 1),.t 7]⟩,⟨some 9,none,.bslc
 1 4 1 198 [i6 0,.str [],i6 0,.nl] [(0,4)],[.t 8]⟩,ON 10 (.call 182 false) [.t 6,.t 9,.c .nl],MV 5 10,O1 11 (.ext 0) 5,O1 12 (.ext 1) 5,MV 3 11,MV 4 12] (vV [MV 13 3,MV 2 13])))
theorem qv2:qJ Tryz.prog 139 14 2 [RV.tmp 2] qus:=fi Tryz.f139 [2,9] qeU []
end
section
open Go Go.Proofs AF
def jK:List Nat:= []
def qa6:C:=
 (vS [O1 3 (.box 0 26) 0,O1 5 (.box 1 43) 2,vM 6 0,vM 7 0] ((C.block 0 (vS [vL 15 0 5,LD 16 15,vN 17 .lss 16 1,MV 18 17,vZ 19 18 0 5,v6 20 18 19,vR 21 18 (.bin .gtr) 20 (i6 3),PT
 22 18 21,MV 14 22] (C.cond (.t 14) (vV [vM 6 0,vM 7 8]) (vS [vL 24 3 5,LD 25 24,BC 26 .neq 25 (.str []),MV 27 26,P1 28 27 true (.fldA 0) 5,P1 29 27 true (.load none) 28,PC 30
 27 true (.bin .neq) 29 (i6 2),PF 31 27 30,MV 23 31] (vT 23 (vV [vM 6 0,vM 7 1])))))).seq (vS [vL 32 1 3,LD 33 32,vL 34 1 5,LD 35 34,O2 36 (.call 22 true) 33 35,MV 8 36] ((vS
 [MV 37 8,vN 38 .lss 37 0] (vT 38 (vV [vM 6 0,vM 7 6]))).seq (vS [O1 40 (.load (some 4)) 3,MV 41 8,vL 42 2 5,LD 43 42,ON 44 (.call 131 true) [.t 40,.t 41,.t 43],MV 39 44,O1 45
 (.ext 0) 39,O1 46 (.ext 1) 39,MV 9 45,MV 10 46] ((vS [MV 47 10,vN 48 .neq 47 0] (vT 48 (vV [vM 6 0,vM 7 6]))).seq (vS [MV 50 1,MV 51 9,O2 52 (.call 71 true) 50 51,MV 49 52,O1
 53 (.ext 0) 49,O1 54 (.ext 1) 49,MV 11 53,MV 10 54] ((vS [MV 55 10,vN 56 .neq 55 0,MV 57 56,vQ 58 57 11,vR 59 57 (.bin .lss) 58 (i6 0),PT 60 57 59] (vT 60 (vV [vM 6 0,vM 7
 20]))).seq ((vS [vL 61 0 5,LD 62 61,vN 63 .eql 62 2] (vT 63 (vS [vL 65 3 5,LD 66 65,O1 67 (.call 132 true) 66,MV 64 67,O1 68 (.ext 0) 64,O1 69 (.ext 1) 64,MV 12 68,MV 13 69]
 ((vS [MV 70 13,vN 71 .neq 70 0] (vT 71 (vV [MV 72 13,vM 6 0,MV 7 72]))).seq (vS [MV 73 12,O1 74 .len 73,vN 75 .eql 74 0] (vT 75 (vV [vM 6 0,vM 7 5]))))))).seq (vV [MV 76 11,MV
 6 76,vM 7 0]))))))))))
theorem RS:qJ Tryz.prog 76 77 2 [RV.tmp 6,RV.tmp 7] qa6:=fi Tryz.f76 [3,5] jK []
def qzx:C:=
 (vS [O1 3 (.box 0 26) 0,O1 5 (.box 1 43) 2,vM 6 0,vM 7 0] ((vS [O1 9 (.load (some 4)) 3,MV 10 1,O2 11 (.call 75 true) 9 10,MV 8 11] (vS [MV 12 8,vN 13 .neq 12 0] (vT 13 (vV [MV
 14 8,vM 6 0,MV 7 14])))).seq (vV [O1 15 (.load (some 4)) 3,MV 16 1,O1 17 (.load (some 4)) 5,ON 18 (.call 76 true) [.t 15,.t 16,.t 17],O1 19 (.ext 0) 18,O1 20 (.ext 1) 18,MV 6
 19,MV 7 20])))
theorem qwv:qJ Tryz.prog 20 21 2 [RV.tmp 6,RV.tmp 7] qzx:=fi Tryz.f20 [3,5] jK []
def qzE:C:=
 (vS [O1 3 (.box 0 26) 0,ON 6 (.nilo 1 1 3) [],vM 7 0] ((vS [MV 13 2,O1 14 .len 13,vN 15 .gtr 14 256] (vT 15 (vV [ON 6 (.nilo 1 1 3) [],vM 7 4]))).seq (vS [ON 8 (.nilo 2 1 3) []]
 ((vS [MV 16 2,O1 17 .len 16,vM 18 0] (C.block 0 (vS [BI 19 .lss 18 17] ((vU 19 0).seq ((C.block 1 (vS [O2 20 (.idxA 4) 16 18,O1 21 (.load (some 4)) 20,⟨some 10,none,.alloc 3 43
 [i6 0,.str [],i6 0,.str []],[]⟩,ST 4 10 21] (vS [O1 23 (.load (some 4)) 3,MV 24 1,O1 25 (.load (some 4)) 10,ON 26 (.call 76 true) [.t 23,.t 24,.t 25],MV 22 26,O1 27 (.ext 0)
 22,O1 28 (.ext 1) 22,MV 11 27,MV 12 28] ((vS [MV 29 12,vN 30 .neq 29 0] (vT 30 (vV [MV 31 12,ON 6 (.nilo 1 1 3) [],MV 7 31]))).seq (vW [MV 32 8,MV 33 11,⟨some 34,none,.bslc 4 1
 1 3 [i6 0] [(0,1)],[.t 33]⟩,O2 35 (.app 5 1 3 8) 32 34,MV 8 35]))))).seq (vW [vN 36 .add 18 1,MV 18 36])))).loop)).seq (vV [MV 37 8,MV 6 37,vM 7 0])))))
theorem qxe:qJ Tryz.prog 78 38 6 [RV.tmp 6,RV.tmp 7] qzE:=fi Tryz.f78 [3,6,8,10,34,35] jK []
def qvu:C:=
 (vS [MC 4 (.bool false)] ((vS [MV 5 0,O1 6 (.call 134 true) 5] (vT 6 (vV [MV 7 1,O1 8 (.call 134 true) 7,O1 9 (.un UnOp.not) 8,MV 10 9,MG 11 10 true 1,PC 12 10 true (.bin .neq)
 11 (.str [39]),PF 13 10 12,MV 4 13]))).seq (vV [MC 4 (.bool true)])))
theorem qm9:qJ Tryz.prog 81 14 0 [RV.tmp 4] qvu:=fi Tryz.f81 [] jK []
def qBs:C:=
 (vS [O1 4 (.box 0 26) 0,O1 5 (.box 1 3) 1,O1 6 (.box 2 3) 2,O1 7 (.box 3 3) 3,MC 8 .nilfn] (vV [ON 9 (.mkfn (Fn.func 135) 0) [.t 5,.t 6,.t 4,.t 7],MV 8 9]))
theorem qAh:qJ Tryz.prog 83 10 4 [RV.tmp 8] qBs:=fi Tryz.f83 [4,5,6,7] jK []
def qun:C:=
 (vS [LD 8 1,MV 6 8] (C.block 0 ((vS [MV 9 6,LD 10 2,BI 11 .lss 9 10] (vU 11 0)).seq ((C.block 1 (vS [vL 14 3 3,LD 15 14,MV 16 6,O2 17 (.idxA 1) 15 16,LD 18 17,LD 19 4,O2 20
 (.idxA 1) 18 19,LD 21 20,MV 7 21] (vS [MV 22 7,vN 23 .geq 22 0,MV 24 23,MG 25 24 true 0,P1 26 24 true (.fldA 2) 3,P1 27 24 true (.load none) 26,P1 28 24 true (.load none) 4,P2
 29 24 true (.idxA 1) 27 28,P1 30 24 true (.load none) 29,MG 31 24 true 7,P2 32 24 true (.idxA 6) 30 31,P1 33 24 true (.load (some 6)) 32,MG 34 24 true 6,⟨some 35,some
 (24,true),.build [.str [],.str [],.str [],i6 0,i6 0,.str [],i6 0] [(0,6),(6,1)],[.t 33,.t 34]⟩,P2 36 24 true .callv 25 35,P1 37 24 true (.un UnOp.not) 36,PF 38 24 37] (vT 38
 C.ret)))).seq (vX 12 6))).loop))
theorem qvY:qJ Tryz.prog 135 39 0 [] qun:=fi Tryz.f135 [] jK []
def qBt:C:=
 (vS [⟨some 0,none,.alloc 0 128 [.nilfn,.nilfn,.nilfn,.nilfn],[]⟩] (vV [⟨some 1,none,.build [.nilfn,.nilfn,.nilfn,.nilfn] [(1,1),(2,1),(3,1)],[.c (.fn (Fn.func 136) [] []),.c
 (.fn (Fn.func 138) [] []),.c (.fn (Fn.func 140) [] [])]⟩,ST 4 0 1]))
theorem qAi:qJ Tryz.prog 84 2 1 [RV.cell 0 (some 4)] qBt:=fi Tryz.f84 [0] jK []
def qup:C:=
 (vS [O1 3 (.box 0 26) 0,O1 4 (.box 1 64) 1,O1 5 (.box 2 43) 2,ON 6 (.nilo 3 7 120) []] (vV [O1 7 (.load (some 4)) 3,vL 8 0 4,LD 9 8,vL 10 1 4,LD 11 10,vL 12 1 3,LD 13 12,vL 14 1
 5,LD 15 14,O2 16 (.call 22 true) 13 15,ON 17 (.call 83 true) [.t 7,.t 9,.t 11,.t 16],O1 18 (.call 137 true) 17,MV 6 18]))
theorem qvZ:qJ Tryz.prog 136 19 4 [RV.tmp 6] qup:=fi Tryz.f136 [3,4,5,6] jK []
def qur:C:=
 (vS [O1 3 (.box 0 26) 0,O1 4 (.box 1 64) 1,O1 5 (.box 2 43) 2,ON 6 (.nilo 3 7 120) []] (vS [ON 7 (.nilo 4 7 120) []] ((vS [vL 10 3 5,LD 11 10,O1 12 (.call 139 true) 11,O1 13
 .len 12,vM 14 0] (C.block 0 (vS [BI 15 .lss 14 13] ((vU 15 0).seq ((C.block 1 (vS [O2 16 (.idxA 6) 12 14,O1 17 (.load (some 6)) 16,⟨some 9,none,.alloc 5 92 [.str [],.str
 [],.str [],i6 0,i6 0,.str []],[]⟩,ST 6 9 17] (vS [vL 18 4 9,LD 19 18,vN 20 .andNot 19 4,vL 21 4 9,ST 1 21 20] (vS [vL 22 5 9,⟨none,none,.store 1,[.t 22,.c (.str [])]⟩] (vW [MV
 23 7,O1 24 (.load (some 6)) 9,vL 25 0 4,LD 26 25,⟨some 27,none,.build [.str [],.str [],.str [],i6 0,i6 0,.str [],i6 0] [(0,6),(6,1)],[.t 24,.t 26]⟩,⟨some 28,none,.bslc 6 7 1
 120 [.str [],.str [],.str [],i6 0,i6 0,.str [],i6 0] [(0,7)],[.t 27]⟩,O2 29 (.app 7 7 120 88) 23 28,MV 7 29]))))).seq (vW [vN 30 .add 14 1,MV 14 30])))).loop)).seq (vV [MV 31
 7,MV 6 31]))))
theorem qv1:qJ Tryz.prog 138 32 8 [RV.tmp 6] qur:=fi Tryz.f138 [3,4,5,6,7,9,28,29] jK []
def qut:C:=
 (vS [O1 3 (.box 0 26) 0,O1 4 (.box 1 64) 1,O1 5 (.box 2 43) 2,ON 6 (.nilo 3 7 120) []] (vV [ON 6 (.nilo 3 7 120) []]))
theorem qv4:qJ Tryz.prog 140 7 4 [RV.tmp 6] qut:=fi Tryz.f140 [3,4,5,6] jK []
def quq:C:=
 (vS [ON 2 (.nilo 0 7 120) []] (vV [MV 3 0,ON 4 (.call 188 true) [.c .nl,.t 3],MV 2 4]))
theorem qv0:qJ Tryz.prog 137 5 1 [RV.tmp 2] quq:=fi Tryz.f137 [2] jK []
def qml:C:=
 (vS [O1 3 (.box 0 26) 0,O1 4 (.box 1 3) 1,O1 5 (.box 2 3) 2,vM 6 0,vM 7 0] ((vS [O1 8 (.load (some 4)) 3,O1 9 (.call 67 true) 8,vN 10 .neq 9 0] (vT 10 (vV [vM 6 0,vM 7 1]))).seq
 ((vS [LD 11 4,vN 12 .lss 11 0,MV 13 12,v6 14 13 4,vZ 15 13 1 3,v6 16 13 15,vO 17 13 .len 16,vP 18 13 (.bin .geq) 14 17,PT 19 13 18,MV 20 19,v6 21 20 5,vR 22 20 (.bin .lss) 21
 (i6 0),PT 23 20 22,MV 24 23,v6 25 24 5,vZ 26 24 2 3,v6 27 24 26,v6 28 24 4,vP 29 24 (.idxA 1) 27 28,v6 30 24 29,vO 31 24 .len 30,vP 32 24 (.bin .geq) 25 31,PT 33 24 32] (vT 33
 (vV [vM 6 0,vM 7 2]))).seq (vV [vL 34 3 3,LD 35 34,O2 36 (.mkfn (Fn.func 180) 0) 4 5,O2 37 (.call 179 true) 35 36,MV 6 37,vM 7 0]))))
theorem qi6:qJ Tryz.prog 131 38 3 [RV.tmp 6,RV.tmp 7] qml:=fi Tryz.f131 [3,4,5] jK []
def quG:C:=
 (vS [MC 4 (.bool false)] (vV [MV 5 0,LD 6 1,O2 7 (.idxA 1) 5 6,LD 8 7,LD 9 2,BI 10 .eql 8 9,MV 4 10]))
theorem qwj:qJ Tryz.prog 180 11 0 [RV.tmp 4] quG:=fi Tryz.f180 [] jK []
end
section
open Go Go.Proofs AF HY LN
namespace AF
theorem ACalls.frzd{P:Program}{f:FuncId}{args:wg}{h h':we}{r:AV}(ks:List Nat)(hs:SL ks h=true)(hc:ACalls P f (args.map (frz (λk=>ks.contains k) h 8)) (qaU ks h) r h'):ACalls P f args h r h':=by
 refine⟨hc.1,λw σ xs H hv=> ?_⟩;obtain⟨σ1,g1,g2,g3,g4⟩:=qc1 ks H hs;have hv1:VRs w σ1 (args.map (frz (λk=>ks.contains k) h 8)) xs:=⟨by rw[hv.1];simp,λi c x hc hx=>by
  rw[List.getElem?_map,Option.map_eq_some_iff]at hc;obtain⟨c0,hc,rfl⟩:=hc
  exact qje H (λb hb=>(g4 b hb).elim λj ⟨o,h1,h2,h3⟩=>⟨j,o,by simpa using h1,h2,h3⟩) (λj o hj ho=>g3 j o (by simpa using hj) ho) 8 (hv.2 i c0 x hc hx)⟩
 refine (hc.2 w σ1 xs g1 hv1).mono ?_;rintro e w' ⟨v,σ',rfl,k1,k2,k3⟩;exact⟨v,σ',rfl,k1,k2,g2.trans k3⟩
end AF
namespace RC
def qlk(b:List Tk):List Str:=b.map Tk.text
theorem qoZ(s:Str):(qfo s).length<=s.length:=by
 unfold qfo;split
 ·exact qce s
 ·exact nzl _
theorem qDi(b:List Tk)(h:we)(hn:b.length<=1000000):ACalls Tryz.prog 91 [zP b] h (strs (qlk b)) h:=by
 refine acO qAn ?_;simp (disch:=omega) only[qBy,zP,go_sem];refine qr (T:=λs:Nat×Nat×AObj×AObj=>qX 19 [(6,zP b),(7,.int .i64 b.length),(8,.int .i64 s.1),(3,.osl (h.length+1) s.2.1 1 0 s.1)])
  (H:=λs=>h++ [.emp 1,ze s.2.1 9 (kv (qlk (b.take s.1))),s.2.2.1,s.2.2.2,.emp 0])
  (inv:=λs=>s.1<=b.length∧qI [s.2.2.1] 0=true∧qI [s.2.2.2] 0=true) (m:=λs=>b.length-s.1) (0,1,.emp 0,.emp 0) ⟨nzl _,rfl,rfl⟩ (Wk.temps ?_) ?_
 ·(simp only[zP,go_sem,qg,qc,qa,qf];try exact wa)
 rintro⟨i,v,O1,O2⟩ ⟨i1,i2,i3⟩ K hK;simp only at i1 i2 i3 hK;have i2': ∀m,qI (O1::m) 0=true:=λ_=>i2
 have i3': ∀m,qI (O2::m) 0=true:=λ_=>i3
 have eL:(qlk (b.take i)).length=i:=by unfold qlk;rw[List.length_map,List.length_take];omega
 by_cases hi:i<b.length
 ·have k1:((i:Int)<b.length)=True:=wh;have hS:qlk (b.take (i+1))=qlk (b.take i)++ [(b.getD i default).text]:=by
   unfold qlk;rw[List.take_add_one,zG hi,gdqA,zG hi,List.map_append];rfl
  obtain⟨L,hL⟩:=wc (qlk (b.take i))
  rw[<-hL]at hS eL ⊢;obtain⟨w,hw⟩:=wc (b.getD i default)
  have ew:=hw.symm;rw[ew]at hS;have eC:=R1 L;have eTk:List.take i (kv L)=kv L:=ltl om;simp (disch:=omega) only[zP,tkC,k1,ew,i2',i3',eC,eL,eTk,Nat.mul_one,go_sem]
  repeat' first|with_reducible apply aiA|exact clz|fail
  have eA:kv L++ [AV.str w.text]=kv (L++ [w.text]):=by simp[kv]
  have eD:(AV.str w.text::List.drop 1 (zS [AV.str []] 1))= [AV.str w.text]:=rfl;rw[eA,eD];refine hK _ _ (i+1,v+1,.mem (qq (some O1)+1) 92 (tkC w),.mem (qq (some O2)+1) 9 [.str w.text]) ⟨hi,rfl,rfl⟩ (by simp only;omega) ?_;simp only[hS,tkC];refine Wk.temps ?_
  (simp only[zP,tkC,go_sem,qg,qc,qa,qf];try (repeat' first|(with_reducible apply aiA)|(apply qh;omega)|(apply qd;rfl)|exact qi))
 have k1:((i:Int)<b.length)=False:=wi;obtain rfl:i=b.length:=by omega
 rw[List.take_length]at eL ⊢;simp (disch:=omega) only[k1,go_sem]
 repeat' first|(apply qb;exact rvk;simp only[go_sem])
 exact qaj (λ_=>rfl) eL.symm
theorem qyD(s:Str)(h:we)(hl:s.length<=1000)(hs:s≠ [])(hc:zR s=0)(hg:zQ h frmN frmC):ACalls Tryz.prog 182 [.agg [.str [],.int .i64 0],.osl (h.length+1) 1 4 0 1,.nl] (h++ [.emp 1,.mem 1 198 (.int .i64 1:: .str s:: .int .i64 0:: .nl::List.drop 4 (zS [.int .i64 0,.str [],.int .i64 0,.nl] 1))]) (.tup [zP (qfo s),.int .i64 (qfn s)]) (h++ [.emp 1,.emp 2]):=by
 have c1:=qA5 s (h++ [.emp 1,.emp 2]) hl hs hc hg.app;refine ACalls.frzd [h.length+1] ?s1 ?s2
 case s1=>simp only[SL,go_sem]
 case s2=>
  simp only[List.map_cons,List.map_nil,qaU,go_sem];have e: [h.length+1].contains (h.length+1)=true:=by simp
  simp only[e,if_true];refine c1.le ⟨qi,?_,qi,trivial⟩ (qi);unfold jW;refine VLe.sl_eq rfl (λi hi=> ?_);obtain rfl:i=0:=by omega
  rfl
theorem qBN(s:Str)(h:we)(hl:s.length<=1000)(hg:zQ h frmN frmC):ACalls Tryz.prog 132 [.str s] h (.tup [strs (if zR s≠0 then [] else qlk (qfo s)),.int .i64 (qg9 s)]) h:=by
 have c0: ∀h,ACalls Tryz.prog 181 [.str s] h (.int .i64 (zR s)) h:=λh=>qA2 s h om
 unfold qg9
 by_cases g:zR s=0
 case neg=>
  have k1:(zR s=0)=False:=eqf g;rw[ipo g,ipo g];refine acO qi7 ?_;simp (disch:=omega) only[qmm,go_sem]
  repeat' first|(refine cA (c0 _) flk ?_;simp (disch:=omega) only[k1,go_sem])|(apply qb;exact rvk;simp only[go_sem])
  exact VLe.tup ⟨qZ,qi,trivial⟩
 rw[ine (by simpa using g),ine (by simpa using g)];rw[g]at c0
 by_cases hs:s= []
 ·subst hs;refine acO qi7 ?_;simp (disch:=omega) only[qmm,go_sem]
  repeat' first|(refine cA (c0 _) flk ?_;simp (disch:=omega) only[go_sem])|(apply qb;exact rvk;simp only[go_sem])
  exact VLe.tup ⟨qZ,qi,trivial⟩
 have k2:(s= [])=False:=eqf hs;have c2:=λh=>qDi (qfo s) h (Nat.le_trans (qoZ s) om)
 refine acO qi7 ?_;simp (disch:=omega) only[qmm,go_sem]
 repeat' first|(refine cA (c0 _) flk ?_;simp (disch:=omega) only[k2,go_sem])
 refine qy (qyD s h hl hs g hg) (by exact flk) ?_;simp (disch:=omega) only[go_sem]
 repeat' first|(refine cA (c2 _) flk ?_;simp (disch:=omega) only[go_sem])|exact v7|with_reducible apply aiA|exact clz|fail
theorem qB7(s:Str)(h:we)(hl:s.length<=1000)(hs:s≠ [])(hc:zR s=0)(hg:zQ h frmN frmC):ACalls Tryz.prog 139 [.str s] h (zP (qfo s)) h:=by
 refine acO qv2 ?_;simp (disch:=omega) only[qus,go_sem];refine qy (qyD s h hl hs hc hg) (by exact flk) ?_;simp (disch:=omega) only[go_sem]
 repeat' first|exact v7|with_reducible apply aiA|exact clz|fail
end RC
end
section
open Go Go.Proofs AF HY LN
namespace RC
theorem kA{x:Co}{l:List Un}(h:qal x l=true){k:Nat}(hk:k<l.length):(l.getD k default).frm=frN l k∧(l.getD k default).to=toN l k∧frN l k<toN l k∧toN l k<=x.col.length∧(l.getD k default).rds=qbj x (frN l k) (toN l k):=by
 have ho:=qcg h;have hm:l.getD k default∈l:=by
  rw[gdqA,zG hk];exact List.getElem_mem hk
 obtain⟨h1,h2,h3,h4⟩:=ho.rg _ hm;unfold frN toN;refine⟨om,om,om,om,h4⟩
theorem qs6{x:Co}{l:List Un}(h:qal x l=true){j k:Nat}(hj:j<k)(hk:k<l.length):toN l j<frN l k:=by
 have ho:=qcg h;have hp:=List.pairwise_iff_getElem.1 ho.pw j k om hk hj;have e: ∀i (hi:i<l.length),l.getD i default=l[i]:=λi hi=>by rw[gdqA,zG hi];rfl
 obtain⟨a1,a2,_⟩:=kA h (show j<l.length by omega);obtain⟨b1,b2,_⟩:=kA h hk;rw[e j om]at a1 a2;rw[e k hk]at b1 b2;omega
theorem qe2{x:Co}{l:List Un}(h:qal x l=true){k:Nat}(hk:k<l.length):ju l k<=frN l k:=by
 unfold ju;split
 ·exact nzl _
 ·exact Nat.le_of_lt (qs6 h om hk)
theorem qdY{x:Co}{l:List Un}(h:qal x l=true){k:Nat}(hk:k<=l.length):ju l k<=x.col.length:=by
 unfold ju;split
 ·exact nzl _
 ·exact (kA h (show k-1<l.length by omega)).2.2.2.1
theorem qe3(l:List Un)(k:Nat):ju l (k+1)=toN l k:=by unfold ju;rw[ine om,Nat.add_sub_cancel]
theorem qAq{x:Co}{l:List Un}(h:qal x l=true){k c:Nat}(hk:k<l.length)(h1:frN l k<=c)(h2:c<toN l k):fnU l (c:Int)=k:=by
 obtain⟨a1,a2,_⟩:=kA h hk;exact qxi h hk om om
theorem qxj{x:Co}{l:List Un}(h:qal x l=true){k c:Nat}(hk:k<=l.length)(h1:ju l k<=c)(h2:k<l.length->c<frN l k):fnU l (c:Int)= -1:=by
 obtain⟨g1,g2⟩:=qjc l (c:Int)
 by_cases hn:fnU l (c:Int)<0
 ·omega
 exfalso;obtain⟨j,hj⟩: ∃j:Nat,fnU l (c:Int)=j:=⟨(fnU l (c:Int)).toNat,om⟩
 obtain⟨j1,j2,j3⟩:=qpN hj;obtain⟨a1,a2,_⟩:=kA h j1;rcases Nat.lt_or_ge j k with e|e
 ·have:toN l j<=ju l k:=by
   unfold ju;rw[ine om];rcases Nat.lt_or_ge j (k-1)with e2|e2
   ·have:=qs6 h e2 om
    obtain⟨_,_,b3,_⟩:=kA h (show k-1<l.length by omega);omega
   ·have:j=k-1:=by omega
    subst this;exact nlr _
  omega
 ·have h3:=h2 om;rcases Nat.lt_or_ge k j with e2|e2
  ·have:=qs6 h e2 j1
   obtain⟨_,_,b3,_⟩:=kA h (show k<l.length by omega);omega
  ·have:j=k:=by omega
   subst this;omega
theorem qvA{col:List (List Int)}{s t:Nat}: ∀ {n:Nat},t<cnC col s n-> ∃k,k<n∧(col.getD k []).getD s 0≠ -1∧cnC col s k=t:=by
 intro n
 induction n with
 |zero=>intro h;exact absurd h (nnz _)
 |succ n ih=>
  intro h;unfold cnC at h
  by_cases g:t<cnC col s n
  ·obtain⟨k,h1,h2⟩:=ih g;exact⟨k,om,h2⟩
  ·split at h
   ·omega
   ·rename_i g2;exact⟨n,Nat.lt_succ_self n,g2,om⟩
theorem qbB{x:Co}(ho:CoOk x){s:Nat}(hs:s<x.sig.length){t:Int}(h0:0<=t)(ht:t<((x.tok.getD s []).length:Int)):0<=RQ x s t∧RQ x s t<x.col.length:=by
 obtain⟨k,k1,k2,k3⟩:=qvA (col:=x.col) (s:=s) (t:=t.toNat) (n:=x.col.length) (by rw[ho.ct s hs];omega);unfold RQ;rcases zJ (λk=>decide ((x.col.getD k []).getD s 0=t)) x.col.length with⟨i,g1,g2,_,g4⟩|⟨g1,g2⟩
 ·rw[g4];omega
 ·have:=g1 k k1
  rcases ho.ce k k1 s hs with e|⟨e,_⟩
  ·exact absurd e k2
  ·rw[decide_eq_false_iff_not]at this;exact absurd (by rw[e,k3];omega) this
theorem qB5(c:List Int)(s:Nat)(t:Int)(h:we)(hs:s<c.length)(hc:c.length<=1000000000):ACalls Tryz.prog 180 [qG c,.ip [.int .i64 (s:Int)],.ip [.int .i64 t]] h (.bool (decide (c.getD s 0=t))) h:=by
 have k0:(0<=(s:Int))=True:=wh;have k1:((s:Int)<c.length)=True:=wh;refine acO qwj ?_;simp (disch:=omega) only[quG,qG,k0,k1,go_sem]
 repeat' first|exact v8|with_reducible apply aiA|exact clz|fail
theorem qCq(col:List (List Int))(s:Nat)(t:Int)(k v k2 v2:Nat)(h:we)(hk:qt k h=some (.mem v 3 [.int .i64 (s:Int)]))(hk2:qt k2 h=some (.mem v2 3 [.int .i64 t]))(hl:col.length<=1000000000)(hm: ∀i,i<col.length->s<(col.getD i []).length∧(col.getD i []).length<=1000000000):
  ACalls Tryz.prog 179 [qw col,.fn (.func 180) [] [.op k v 0,.op k2 v2 0]] h (.int .i64 (U0 (λi=>decide ((col.getD i []).getD s 0=t)) col.length 0)) h:=by
 have hc:=qM hk;have hc2:=qM hk2;unfold qw;refine qcV qwi col.length (λj=> [qG (col.getD j [])]) (λj=>qG (col.getD j [])) _ [] [.op k v 0,.op k2 v2 0] _ h (λi _=>⟨rfl,by simp[kc],rfl,rfl,rfl⟩) (λi hi=> ?_) om;refine ACalls.borrow ?_ rfl;have e:([qG (col.getD i [])]++ [AV.op k v 0,AV.op k2 v2 0]).map (rei (λ_=>true) h 8)= [qG (col.getD i []),.ip [.int .i64 (s:Int)],.ip [.int .i64 t]]:=by
  simp only[lca,lna,List.map_cons,List.map_nil,rei_op,if_true,hc,hc2,ipOf_some,List.drop_zero];rfl
 rw[lna,e];exact qB5 _ s t _ (hm i hi).1 (hm i hi).2
theorem qzP(x:Co)(s:Nat)(t:Int)(h:we)(hz:qaN x)(hp:kJ SG h)(h1:coE x=0)(hs:s<x.sig.length):ACalls Tryz.prog 131 [.agg (coC x),.int .i64 (s:Int),.int .i64 t] h (.tup [.int .i64 (if 0<=t∧t<((x.tok.getD s []).length:Int) then RQ x s t else 0),.int .i64 (if 0<=t∧t<((x.tok.getD s []).length:Int) then 0 else 2)]) h:=by
 have ho:=UH h1;have hsg:=hz.sg;have htl:=hz.tl s;have htn:=ho.tn;have c1:=λl=>coP x (h++l) hz (hp.app l)
 simp only[h1]at c1;have zu: ∀g l,valL g .len [zP l]= .int .i64 l.length:=λ_ _=>rfl
 have zv: ∀g l,okL g .len [zP l]=True:=λ_ _=>eqt trivial
 have k0:((s:Int)<0)=False:=wi;have k1:((x.sig.length:Int)<=s)=False:=wi;have k5:(0<=(s:Int))=True:=wh;have k6:((s:Int)<x.tok.length)=True:=wh
 by_cases g:0<=t∧t<((x.tok.getD s []).length:Int)
 ·rw[ipo g,ipo g];have k2:(t<0)=False:=wi;have k3:(((x.tok.getD s []).length:Int)<=t)=False:=wi;have c2:=qCq x.col s t (h.length+1) 1 (h.length+2) 1 (h++ [.mem 1 26 (coC x),.mem 1 3 [.int .i64 (s:Int)],.mem 1 3 [.int .i64 t]]) (by simp only[go_sem]) (by simp only[go_sem]) hz.cl (λi hi=>⟨by rw[ho.cl i hi];exact hs,hz.ce i⟩);unfold coC at c1 c2;refine acO qi6 ?_;simp (disch:=omega) only[qml,coC,qm,strs,go_sem]
  repeat' first|((first|refine cA (c1 _) ?_ ?_|refine cA (c2) ?_ ?_);exact flk;simp (disch:=omega) only[k0,k1,k2,k3,k5,k6,zu,zv,go_sem])|exact v7|with_reducible apply aiA|exact clz|fail
 ·rw[ine g,ine g];unfold coC at c1
  by_cases g2:t<0
  ·have k2:(t<0)=True:=wh;refine acO qi6 ?_;simp (disch:=omega) only[qml,coC,qm,strs,go_sem]
   repeat' first|(refine cA (c1 _) flk ?_;simp (disch:=omega) only[k0,k1,k2,k5,k6,zu,zv,go_sem])|exact v7|with_reducible apply aiA|exact clz|fail
  ·have k2:(t<0)=False:=wi;have k3:(((x.tok.getD s []).length:Int)<=t)=True:=wh;refine acO qi6 ?_;simp (disch:=omega) only[qml,coC,qm,strs,go_sem]
   repeat' first|(refine cA (c1 _) flk ?_;simp (disch:=omega) only[k0,k1,k2,k3,k5,k6,zu,zv,go_sem])|exact v7|with_reducible apply aiA|exact clz|fail
theorem qCt(b s:Str)(h:we)(hb:b.length<=1000000000)(hs:s.length<=1000000000):ACalls Tryz.prog 81 [.str b,.str s] h (.bool (qAy b s)) h:=by
 have c1:=λh=>t88 b h hb
 have c2:=λh=>t88 s h hs
 unfold qAy;cases g1:km b with
 |false=>
  rw[g1]at c1;rw[ine (by decide)];refine acO qm9 ?_;simp (disch:=omega) only[qvu,go_sem]
  repeat' first|(refine cA (c1 _) flk ?_;simp (disch:=omega) only[go_sem])|exact v8|fail
 |true=>
  rw[g1]at c1;rw[ipo rfl];cases g2:km s with
  |true=>
   rw[g2]at c2;refine acO qm9 ?_;simp (disch:=omega) only[qvu,go_sem]
   repeat' first|((first|refine cA (c1 _) ?_ ?_|refine cA (c2 _) ?_ ?_);exact flk;simp (disch:=omega) only[go_sem])|exact v8|fail
  |false=>
   rw[g2]at c2
   by_cases g3:s= [39]
   ·subst g3;refine acO qm9 ?_;simp (disch:=omega) only[qvu,go_sem]
    repeat' first|((first|refine cA (c1 _) ?_ ?_|refine cA (c2 _) ?_ ?_);exact flk;simp (disch:=omega) only[go_sem])|exact v8|fail
   ·have k3:(s= [39])=False:=eqf g3;rw[dqf g3];refine acO qm9 ?_;simp (disch:=omega) only[qvu,go_sem]
    repeat' first|((first|refine cA (c1 _) ?_ ?_|refine cA (c2 _) ?_ ?_);exact flk;simp (disch:=omega) only[k3,go_sem])|exact v8|fail
def dpN(x:Co)(l:List Un)(o:Dc):Int:=if qaF x l o=0 then kK x l o else 0
theorem dpP(x:Co)(l:List Un)(o:Dc)(h:we)(hz:qaN x)(hu:qdB l)(hp:kJ SG h)(hg:zQ h frmN frmC)(h1:coE x=0)(ht:o.txt.length<=1000):ACalls Tryz.prog 76 [.agg (coC x),zM l,.agg (dcC o)] h (.tup [.int .i64 (dpN x l o),.int .i64 (qaF x l o)]) h:=by
 have ho:=UH h1;unfold dpN;have hE:qaF x l o=(if o.kind<1∨3<o.kind then 8 else if o.txt≠ []∧o.kind≠2 then 1 else if tkB x o=false then 6 else if kK x l o<0 then 20 else cjE o):=rfl
 by_cases g1:o.kind<1
 ·have k1:(o.kind<1)=True:=eqt g1;rw[ipo (.inl g1)]at hE;rw[hE,ine (by decide)];refine acO RS ?_;simp (disch:=omega) only[qa6,coC,dcC,k1,go_sem]
  repeat' first|exact v7|fail
 have k1:(o.kind<1)=False:=eqf g1
 by_cases g2:3<o.kind
 ·have k2:(3<o.kind)=True:=eqt g2;rw[ipo (.inr g2)]at hE;rw[hE,ine (by decide)];refine acO RS ?_;simp (disch:=omega) only[qa6,coC,dcC,k1,k2,go_sem]
  repeat' first|exact v7|fail
 have k2:(3<o.kind)=False:=eqf g2;rw[ine (λe=>e.elim g1 g2)]at hE
 by_cases g3:o.txt≠ []∧o.kind≠2
 ·have k3:(o.txt= [])=False:=eqf g3.1;have k4:(o.kind=2)=False:=eqf g3.2;rw[ipo g3]at hE;rw[hE,ine (by decide)];refine acO RS ?_;simp (disch:=omega) only[qa6,coC,dcC,k1,k2,k3,k4,go_sem]
  repeat' first|exact v7|with_reducible apply aiA|exact clz|fail
 rw[ine g3]at hE;have c1:=λh=>qnt x.sig.length (λj=>x.sig.getD j []) o.sig h hz.sg
 have hS:U0 (λj=>decide (o.sig=x.sig.getD j [])) x.sig.length 0=zC x o.sig:=rfl;simp only[hS]at c1
 by_cases g4:o.kind=2
 ·have k4:(o.kind=2)=True:=eqt g4
  by_cases ge:o.txt= []
  ·have k3:(o.txt= [])=True:=eqt ge;have htk:tkB x o=(decide (0<=zC x o.sig)&&(decide (0<=o.tok)&&decide (o.tok<((x.tok.getD (zC x o.sig).toNat []).length:Int)))):=rfl
   by_cases g5:zC x o.sig<0
   ·have k5:(zC x o.sig<0)=True:=eqt g5;rw[dqf om,Bool.false_and]at htk;rw[ipo htk]at hE;rw[hE,ine (by decide)];unfold strs at*;refine acO RS ?_;simp (disch:=omega) only[qa6,coC,dcC,k1,k2,k3,k4,strs,go_sem]
    repeat' first|(refine cA (c1 _) flk ?_;simp (disch:=omega) only[k5,go_sem])|exact v7|with_reducible apply aiA|exact clz|fail
   obtain⟨S,hSn⟩: ∃S:Nat,zC x o.sig=S:=⟨(zC x o.sig).toNat,om⟩
   have hSl:S<x.sig.length:=by
    rcases zJ (λj=>decide (o.sig=x.sig.getD j [])) x.sig.length with⟨i,q1,_,_,q4⟩|⟨_,q2⟩
    ·have e:zC x o.sig=i:=q4;omega
    ·have e:zC x o.sig= -1:=q2;omega
   have k5:((S:Int)<0)=False:=wi;rw[hSn,dqt om,Bool.true_and,itn]at htk;simp only[hSn]at c1;have c2:=λl'=>qzP x S o.tok (h++l') hz (hp.app l') h1 hSl
   by_cases g6:0<=o.tok∧o.tok<((x.tok.getD S []).length:Int)
   case neg=>
    have htk:tkB x o=false:=by rw[htk];simpa using λe=>Int.not_lt.1 λhc=>g6 ⟨e,hc⟩
    rw[ipo htk]at hE;rw[hE,ine (by decide)];simp only[ine g6]at c2;unfold coC at c2;refine acO RS ?_;simp (disch:=omega) only[qa6,coC,dcC,k1,k2,k3,k4,strs,go_sem]
    repeat' first|((first|refine cA (c1 _) ?_ ?_|refine cA (c2 _) ?_ ?_);exact flk;simp (disch:=omega) only[k5,go_sem])|exact v7|(with_reducible first|intro _|apply aiA)|exact clz|fail
   have htk:tkB x o=true:=by rw[htk];simpa using g6
   rw[ine (by rw[htk];decide)]at hE;simp only[ipo g6]at c2;have hpl:kK x l o=fnU l (RQ x S o.tok):=by unfold kK;rw[hSn,itn]
   have hcn:=qbB ho hSl g6.1 g6.2;have c3:=λh=>qAr l (RQ x S o.tok) h hu.n
   have e1:fnR l (RQ x S o.tok)=kK x l o:=by unfold fnR;rw[ine om,hpl]
   have e2:fnE (RQ x S o.tok)=0:=by unfold fnE;rw[ine om]
   rw[e1,e2]at c3;unfold coC at c2
   by_cases g7:kK x l o<0
   ·have k7:(kK x l o<0)=True:=eqt g7;rw[ipo g7]at hE;rw[hE,ine (by decide)];refine acO RS ?_;simp (disch:=omega) only[qa6,coC,dcC,k1,k2,k3,k4,strs,go_sem]
    repeat' first|((first|refine cA (c1 _) ?_ ?_|refine cA (c2 _) ?_ ?_|refine cA (c3 _) ?_ ?_);exact flk;simp (disch:=omega) only[k4,k5,k7,go_sem])|exact v7|with_reducible apply aiA|exact clz|fail
   have k7:(kK x l o<0)=False:=eqf g7;rw[ine g7]at hE;unfold cjE at hE;rw[ipo g4]at hE;have c4:=λl'=>qBN o.txt (h++l') ht hg.app
   by_cases g8:qg9 o.txt=0
   case neg=>
    have k8:(qg9 o.txt=0)=False:=eqf g8;rw[ipo g8]at hE;rw[hE,ine g8];refine acO RS ?_;simp (disch:=omega) only[qa6,coC,dcC,k1,k2,k3,k4,strs,go_sem]
    repeat' first|((first|refine cA (c1 _) ?_ ?_|refine cA (c2 _) ?_ ?_|refine cA (c3 _) ?_ ?_|refine cA (c4 _) ?_ ?_);exact flk;simp (disch:=omega) only[k4,k5,k7,k8,strs,go_sem])|exact v7|with_reducible apply aiA|exact clz|fail
   rw[ine (by simpa using g8)]at hE;have g9:zR o.txt=0∧qfn o.txt=0:=by
    unfold qg9 at g8;split at g8
    ·rename_i q;exact absurd g8 q
    ·rename_i q;exact⟨Classical.not_not.1 q,g8⟩
   have hR:qp9 o.txt=qlk (qfo o.txt):=by unfold qp9 qfo;rw[ipo g8,ipo g9.2];rfl
   simp only[g8,ine (show¬zR o.txt≠0 by simpa using g9.1),<-hR]at c4;cases hL:qp9 o.txt with
   |nil=>
    rw[hL]at hE c4;rw[ipo rfl]at hE;rw[hE,ine (by decide)];refine acO RS ?_;simp (disch:=omega) only[qa6,coC,dcC,k1,k2,k3,k4,strs,go_sem]
    repeat' first|((first|refine cA (c1 _) ?_ ?_|refine cA (c2 _) ?_ ?_|refine cA (c3 _) ?_ ?_|refine cA (c4 _) ?_ ?_);exact flk;simp (disch:=omega) only[k4,k5,k7,strs,go_sem])|(apply qb;exact rvk;simp only[go_sem];first|exact qi|skip)|(with_reducible first|intro _|apply aiA)|exact clz|fail
   |cons a r=>
    rw[hL]at hE c4;rw[ine (by simp)]at hE;rw[hE,ipo rfl];have k9:(((a::r).length:Int)=0)=False:=eqf (by simp;omega);refine acO RS ?_;simp (disch:=omega) only[qa6,coC,dcC,k1,k2,k3,k4,strs,go_sem]
    repeat' first|((first|refine cA (c1 _) ?_ ?_|refine cA (c2 _) ?_ ?_|refine cA (c3 _) ?_ ?_|refine cA (c4 _) ?_ ?_);exact flk;simp (disch:=omega) only[k4,k5,k7,strs,go_sem])|(apply qb;exact rvk;simp only[go_sem];first|exact qi|skip)|(with_reducible first|intro _|apply aiA)|exact clz|fail
  ·have k3:(o.txt= [])=False:=eqf ge;have htk:tkB x o=(decide (0<=zC x o.sig)&&(decide (0<=o.tok)&&decide (o.tok<((x.tok.getD (zC x o.sig).toNat []).length:Int)))):=rfl
   by_cases g5:zC x o.sig<0
   ·have k5:(zC x o.sig<0)=True:=eqt g5;rw[dqf om,Bool.false_and]at htk;rw[ipo htk]at hE;rw[hE,ine (by decide)];unfold strs at*;refine acO RS ?_;simp (disch:=omega) only[qa6,coC,dcC,k1,k2,k3,k4,strs,go_sem]
    repeat' first|(refine cA (c1 _) flk ?_;simp (disch:=omega) only[k5,go_sem])|exact v7|with_reducible apply aiA|exact clz|fail
   obtain⟨S,hSn⟩: ∃S:Nat,zC x o.sig=S:=⟨(zC x o.sig).toNat,om⟩
   have hSl:S<x.sig.length:=by
    rcases zJ (λj=>decide (o.sig=x.sig.getD j [])) x.sig.length with⟨i,q1,_,_,q4⟩|⟨_,q2⟩
    ·have e:zC x o.sig=i:=q4;omega
    ·have e:zC x o.sig= -1:=q2;omega
   have k5:((S:Int)<0)=False:=wi;rw[hSn,dqt om,Bool.true_and,itn]at htk;simp only[hSn]at c1;have c2:=λl'=>qzP x S o.tok (h++l') hz (hp.app l') h1 hSl
   by_cases g6:0<=o.tok∧o.tok<((x.tok.getD S []).length:Int)
   case neg=>
    have htk:tkB x o=false:=by rw[htk];simpa using λe=>Int.not_lt.1 λhc=>g6 ⟨e,hc⟩
    rw[ipo htk]at hE;rw[hE,ine (by decide)];simp only[ine g6]at c2;unfold coC at c2;refine acO RS ?_;simp (disch:=omega) only[qa6,coC,dcC,k1,k2,k3,k4,strs,go_sem]
    repeat' first|((first|refine cA (c1 _) ?_ ?_|refine cA (c2 _) ?_ ?_);exact flk;simp (disch:=omega) only[k5,go_sem])|exact v7|(with_reducible first|intro _|apply aiA)|exact clz|fail
   have htk:tkB x o=true:=by rw[htk];simpa using g6
   rw[ine (by rw[htk];decide)]at hE;simp only[ipo g6]at c2;have hpl:kK x l o=fnU l (RQ x S o.tok):=by unfold kK;rw[hSn,itn]
   have hcn:=qbB ho hSl g6.1 g6.2;have c3:=λh=>qAr l (RQ x S o.tok) h hu.n
   have e1:fnR l (RQ x S o.tok)=kK x l o:=by unfold fnR;rw[ine om,hpl]
   have e2:fnE (RQ x S o.tok)=0:=by unfold fnE;rw[ine om]
   rw[e1,e2]at c3;unfold coC at c2
   by_cases g7:kK x l o<0
   ·have k7:(kK x l o<0)=True:=eqt g7;rw[ipo g7]at hE;rw[hE,ine (by decide)];refine acO RS ?_;simp (disch:=omega) only[qa6,coC,dcC,k1,k2,k3,k4,strs,go_sem]
    repeat' first|((first|refine cA (c1 _) ?_ ?_|refine cA (c2 _) ?_ ?_|refine cA (c3 _) ?_ ?_);exact flk;simp (disch:=omega) only[k4,k5,k7,go_sem])|exact v7|with_reducible apply aiA|exact clz|fail
   have k7:(kK x l o<0)=False:=eqf g7;rw[ine g7]at hE;unfold cjE at hE;rw[ipo g4]at hE;have c4:=λl'=>qBN o.txt (h++l') ht hg.app
   by_cases g8:qg9 o.txt=0
   case neg=>
    have k8:(qg9 o.txt=0)=False:=eqf g8;rw[ipo g8]at hE;rw[hE,ine g8];refine acO RS ?_;simp (disch:=omega) only[qa6,coC,dcC,k1,k2,k3,k4,strs,go_sem]
    repeat' first|((first|refine cA (c1 _) ?_ ?_|refine cA (c2 _) ?_ ?_|refine cA (c3 _) ?_ ?_|refine cA (c4 _) ?_ ?_);exact flk;simp (disch:=omega) only[k4,k5,k7,k8,strs,go_sem])|exact v7|with_reducible apply aiA|exact clz|fail
   rw[ine (by simpa using g8)]at hE;have g9:zR o.txt=0∧qfn o.txt=0:=by
    unfold qg9 at g8;split at g8
    ·rename_i q;exact absurd g8 q
    ·rename_i q;exact⟨Classical.not_not.1 q,g8⟩
   have hR:qp9 o.txt=qlk (qfo o.txt):=by unfold qp9 qfo;rw[ipo g8,ipo g9.2];rfl
   simp only[g8,ine (show¬zR o.txt≠0 by simpa using g9.1),<-hR]at c4;cases hL:qp9 o.txt with
   |nil=>
    rw[hL]at hE c4;rw[ipo rfl]at hE;rw[hE,ine (by decide)];refine acO RS ?_;simp (disch:=omega) only[qa6,coC,dcC,k1,k2,k3,k4,strs,go_sem]
    repeat' first|((first|refine cA (c1 _) ?_ ?_|refine cA (c2 _) ?_ ?_|refine cA (c3 _) ?_ ?_|refine cA (c4 _) ?_ ?_);exact flk;simp (disch:=omega) only[k4,k5,k7,strs,go_sem])|(apply qb;exact rvk;simp only[go_sem];first|exact qi|skip)|(with_reducible first|intro _|apply aiA)|exact clz|fail
   |cons a r=>
    rw[hL]at hE c4;rw[ine (by simp)]at hE;rw[hE,ipo rfl];have k9:(((a::r).length:Int)=0)=False:=eqf (by simp;omega);refine acO RS ?_;simp (disch:=omega) only[qa6,coC,dcC,k1,k2,k3,k4,strs,go_sem]
    repeat' first|((first|refine cA (c1 _) ?_ ?_|refine cA (c2 _) ?_ ?_|refine cA (c3 _) ?_ ?_|refine cA (c4 _) ?_ ?_);exact flk;simp (disch:=omega) only[k4,k5,k7,strs,go_sem])|(apply qb;exact rvk;simp only[go_sem];first|exact qi|skip)|(with_reducible first|intro _|apply aiA)|exact clz|fail
 ·have k4:(o.kind=2)=False:=eqf g4;have ge:o.txt= []:=Classical.not_not.1 λhc=>g3 ⟨hc,g4⟩
  have k3:(o.txt= [])=True:=eqt ge;have htk:tkB x o=(decide (0<=zC x o.sig)&&(decide (0<=o.tok)&&decide (o.tok<((x.tok.getD (zC x o.sig).toNat []).length:Int)))):=rfl
  by_cases g5:zC x o.sig<0
  ·have k5:(zC x o.sig<0)=True:=eqt g5;rw[dqf om,Bool.false_and]at htk;rw[ipo htk]at hE;rw[hE,ine (by decide)];unfold strs at*;refine acO RS ?_;simp (disch:=omega) only[qa6,coC,dcC,k1,k2,k3,k4,strs,go_sem]
   repeat' first|(refine cA (c1 _) flk ?_;simp (disch:=omega) only[k5,go_sem])|exact v7|with_reducible apply aiA|exact clz|fail
  obtain⟨S,hSn⟩: ∃S:Nat,zC x o.sig=S:=⟨(zC x o.sig).toNat,om⟩
  have hSl:S<x.sig.length:=by
   rcases zJ (λj=>decide (o.sig=x.sig.getD j [])) x.sig.length with⟨i,q1,_,_,q4⟩|⟨_,q2⟩
   ·have e:zC x o.sig=i:=q4;omega
   ·have e:zC x o.sig= -1:=q2;omega
  have k5:((S:Int)<0)=False:=wi;rw[hSn,dqt om,Bool.true_and,itn]at htk;simp only[hSn]at c1;have c2:=λl'=>qzP x S o.tok (h++l') hz (hp.app l') h1 hSl
  by_cases g6:0<=o.tok∧o.tok<((x.tok.getD S []).length:Int)
  case neg=>
   have htk:tkB x o=false:=by rw[htk];simpa using λe=>Int.not_lt.1 λhc=>g6 ⟨e,hc⟩
   rw[ipo htk]at hE;rw[hE,ine (by decide)];simp only[ine g6]at c2;unfold coC at c2;refine acO RS ?_;simp (disch:=omega) only[qa6,coC,dcC,k1,k2,k3,k4,strs,go_sem]
   repeat' first|((first|refine cA (c1 _) ?_ ?_|refine cA (c2 _) ?_ ?_);exact flk;simp (disch:=omega) only[k5,go_sem])|exact v7|(with_reducible first|intro _|apply aiA)|exact clz|fail
  have htk:tkB x o=true:=by rw[htk];simpa using g6
  rw[ine (by rw[htk];decide)]at hE;simp only[ipo g6]at c2;have hpl:kK x l o=fnU l (RQ x S o.tok):=by unfold kK;rw[hSn,itn]
  have hcn:=qbB ho hSl g6.1 g6.2;have c3:=λh=>qAr l (RQ x S o.tok) h hu.n
  have e1:fnR l (RQ x S o.tok)=kK x l o:=by unfold fnR;rw[ine om,hpl]
  have e2:fnE (RQ x S o.tok)=0:=by unfold fnE;rw[ine om]
  rw[e1,e2]at c3;unfold coC at c2
  by_cases g7:kK x l o<0
  ·have k7:(kK x l o<0)=True:=eqt g7;rw[ipo g7]at hE;rw[hE,ine (by decide)];refine acO RS ?_;simp (disch:=omega) only[qa6,coC,dcC,k1,k2,k3,k4,strs,go_sem]
   repeat' first|((first|refine cA (c1 _) ?_ ?_|refine cA (c2 _) ?_ ?_|refine cA (c3 _) ?_ ?_);exact flk;simp (disch:=omega) only[k4,k5,k7,go_sem])|exact v7|with_reducible apply aiA|exact clz|fail
  have k7:(kK x l o<0)=False:=eqf g7;rw[ine g7]at hE;unfold cjE at hE;rw[ine g4]at hE;rw[hE,ipo rfl];refine acO RS ?_;simp (disch:=omega) only[qa6,coC,dcC,k1,k2,k3,k4,strs,go_sem]
  repeat' first|((first|refine cA (c1 _) ?_ ?_|refine cA (c2 _) ?_ ?_|refine cA (c3 _) ?_ ?_);exact flk;simp (disch:=omega) only[k4,k5,k7,go_sem])|exact v7|with_reducible apply aiA|exact clz|fail
theorem qmD(x:Co)(l:List Un)(h:we)(hz:qaN x)(hu:qdB l)(hp:kJ SG h):ACalls Tryz.prog 75 [.agg (coC x),zM l] h (.int .i64 (vaE x l)) h:=by
 have c1:=λl'=>coP x (h++l') hz (hp.app l')
 have c2:=λl'=>vaP x l (h++l') hz hu (hp.app l')
 have hE:vaE x l=(if coE x≠0 then 1 else if rgB x l=false then 20 else 0):=rfl
 by_cases g:coE x=0
 case neg=>
  have k1:(coE x=0)=False:=eqf g;rw[ipo g]at hE;rw[hE];unfold coC at c1;refine acO qm8 ?_;simp (disch:=omega) only[qvt,coC,go_sem]
  repeat' first|(refine cA (c1 _) flk ?_;simp (disch:=omega) only[k1,go_sem])|exact v7|fail
 rw[ine (by simpa using g)]at hE;simp only[g]at c1
 by_cases g2:rgB x l=false
 ·rw[ipo g2]at hE;rw[hE];simp only[hE]at c2;unfold coC at c1 c2;refine acO qm8 ?_;simp (disch:=omega) only[qvt,coC,go_sem]
  repeat' first|((first|refine cA (c1 _) ?_ ?_|refine cA (c2 _) ?_ ?_);exact flk;simp (disch:=omega) only[go_sem])|(apply qb;exact rvk;simp only[go_sem];first|exact qi|apply qh)|(with_reducible first|intro _|apply aiA)|exact clz|fail
 ·rw[ine g2]at hE;rw[hE];simp only[hE]at c2;unfold coC at c1 c2;refine acO qm8 ?_;simp (disch:=omega) only[qvt,coC,go_sem]
  repeat' first|((first|refine cA (c1 _) ?_ ?_|refine cA (c2 _) ?_ ?_);exact flk;simp (disch:=omega) only[go_sem])|exact v7|fail
theorem qyJ{x:Co}{l:List Un}(h:vaE x l=0):coE x=0:=by
 unfold vaE at h;split at h
 ·cases h
 ·rename_i g;exact Classical.not_not.1 g
theorem qC8(x:Co)(l:List Un)(o:Dc)(h:we)(hz:qaN x)(hu:qdB l)(hp:kJ SG h)(hg:zQ h frmN frmC)(ht:o.txt.length<=1000):ACalls Tryz.prog 20 [.agg (coC x),zM l,.agg (dcC o)] h (.tup [.int .i64 (qyI x l o),.int .i64 (qo3 x l o)]) h:=by
 have c1:=λl'=>qmD x l (h++l') hz hu (hp.app l')
 by_cases g:vaE x l=0
 case neg=>
  have k1:(vaE x l=0)=False:=eqf g;have hE:qo3 x l o=vaE x l:=by unfold qo3;rw[ipo g]
  unfold qyI;rw[hE,ine g];unfold coC at c1;refine acO qwv ?_;simp (disch:=omega) only[qzx,coC,go_sem]
  repeat' first|(refine cA (c1 _) flk ?_;simp (disch:=omega) only[k1,go_sem])|exact v7|fail
 have hE:qo3 x l o=qaF x l o:=by unfold qo3;rw[ine (by simpa using g)]
 unfold qyI;rw[hE];have c2:=λl'=>dpP x l o (h++l') hz hu (hp.app l') hg.app (qyJ g) ht
 simp only[g]at c1;unfold dpN at c2;unfold coC at c1 c2;unfold dcC at c2;refine acO qwv ?_;simp (disch:=omega) only[qzx,coC,dcC,go_sem]
 repeat' first|((first|refine cA (c1 _) ?_ ?_|refine cA (c2 _) ?_ ?_);exact flk;simp (disch:=omega) only[go_sem])|exact v7|with_reducible apply aiA|exact clz|fail
def plG(x:Co)(l:List Un)(d:List Dc)(n:Nat):List Int:=(d.take n).map (kK x l)
def qx2(x:Co)(l:List Un)(d:List Dc):List Int:=if Ut x l d=0 then plG x l d d.length else []
theorem qAO(x:Co)(l:List Un)(d:List Dc)(h:we)(hz:qaN x)(hu:qdB l)(hp:kJ SG h)(hg:zQ h frmN frmC)(h1:coE x=0)(hd:d.length<=1000000)(ht: ∀o∈d,o.txt.length<=1000):ACalls Tryz.prog 78 [.agg (coC x),zM l,kB d] h (.tup [qG (qx2 x l d),.int .i64 (Ut x l d)]) h:=by
 unfold qx2
 by_cases g:256<d.length
 ·have k1:((256:Int)<d.length)=True:=wh;have hE:Ut x l d=4:=by unfold Ut;rw[ipo g]
  rw[hE,ine (by decide)];refine acO qxe ?_;simp (disch:=omega) only[qzE,coC,kB,k1,go_sem]
  repeat' first|(apply qb;exact rvk;simp only[go_sem])
  exact VLe.tup ⟨qZ,qi,trivial⟩
 have k1:((256:Int)<d.length)=False:=wi;have hE:Ut x l d=TM (λi=>qaF x l (d.getD i default)) 0 d.length:=by unfold Ut;rw[ine g]
 rw[hE];refine acO qxe ?_;simp (disch:=omega) only[qzE,coC,kB,k1,go_sem];refine qr (T:=λs:Nat×Nat×AObj×AObj×AObj=>qX 38 [(1,zM l),(3,.op h.length 1 0),(16,kB d),(17,.int .i64 d.length),(18,.int .i64 s.1),(8,.osl (h.length+2) s.2.1 1 0 s.1)])
  (H:=λs=>h++ [.mem 1 26 (coC x),.emp 1,ze s.2.1 3 (qQ (plG x l d s.1)),s.2.2.1,s.2.2.2.1,s.2.2.2.2])
  (inv:=λs=>s.1<=d.length∧(∀j,j<s.1->qaF x l (d.getD j default)=0)∧qI [s.2.2.1] 0=true∧qI [s.2.2.2.1] 0=true∧qI [s.2.2.2.2] 0=true) (m:=λs=>d.length-s.1) (0,1,.emp 0,.emp 0,.emp 0) ⟨nzl _,λj hj=>absurd hj (nnz j),rfl,rfl,rfl⟩ (Wk.temps ?_) ?_
 ·(simp only[kB,go_sem,qg,qc,qa,qf];try exact wa)
 rintro⟨i,v,O1,O2,O3⟩ ⟨i1,i0,i2,i3,i4⟩ K hK;simp only at i0 i1 i2 i3 i4 hK;have i2': ∀m,qI (O1::m) 0=true:=λ_=>i2
 have i3': ∀m,qI (O2::m) 0=true:=λ_=>i3
 have i4': ∀m,qI (O3::m) 0=true:=λ_=>i4
 have eL:(plG x l d i).length=i:=by unfold plG;rw[List.length_map,List.length_take];omega
 by_cases hi:i<d.length
 ·have k2:((i:Int)<d.length)=True:=wh;obtain⟨o,ho⟩:=wc (d.getD i default)
  have eo:=ho.symm;have hom:o∈d:=by rw[ho];exact jc hi
  have hS:plG x l d (i+1)=plG x l d i++ [kK x l o]:=by
   unfold plG;rw[List.take_add_one,zG hi,List.map_append,ho,gdqA,zG hi];rfl
  have c1:=λl'=>dpP x l o (h++l') hz hu (hp.app l') hg.app h1 (ht o hom)
  by_cases g3:qaF x l o=0
  case neg=>
   have k3:(qaF x l o=0)=False:=eqf g3;have hf:TM (λi=>qaF x l (d.getD i default)) 0 d.length=qaF x l o:=by
    rw[SU hi i0 (by rw[eo];exact g3),eo]
   rw[hf,ine g3];unfold coC dcC at c1;simp (disch:=omega) only[coC,kB,dcC,k2,eo,i2',go_sem]
   repeat' first|(refine cA (c1 _) flk ?_;simp (disch:=omega) only[k3,i3',go_sem])|(apply qb;exact rvk;simp only[go_sem])|with_reducible apply aiA|exact clz|fail
   exact VLe.tup ⟨qZ,qi,trivial⟩
  unfold dpN at c1;rw[g3]at c1;simp only[if_true]at c1;obtain⟨L,hL⟩:=wc (plG x l d i)
  rw[<-hL]at hS eL ⊢;have eC:=jQ L;have eTk:List.take i (qQ L)=qQ L:=ltl om;unfold coC dcC at c1;simp (disch:=omega) only[coC,kB,dcC,k2,eo,i2',go_sem]
  repeat' first|(refine cA (c1 _) flk ?_;simp (disch:=omega) only[i3',eC,eL,eTk,Nat.mul_one,go_sem])|with_reducible apply aiA|exact clz|fail
  rw[show qQ L++ [AV.int IntKind.i64 (kK x l o)]=qQ (L++ [kK x l o]) by simp[qQ],<-hS];refine hK _ _ (i+1,v+1,.mem (qq (some O1)+1) 43 (dcC o),.mem (qq (some O2)+1) 3 [.int .i64 (kK x l o)],O3) ⟨hi,λj hj=> ?_,rfl,rfl,i4⟩ (by simp only;omega) ?_
  ·by_cases e:j=i
   ·rw[e,eo];exact g3
   ·exact i0 j om
  refine Wk.temps ?_
  (simp only[kB,dcC,go_sem,qg,qc,qa,qf];try (repeat' first|(with_reducible apply aiA)|(apply qh;omega)|(apply qd;rfl)|exact qi))
 have k2:((i:Int)<d.length)=False:=wi;obtain rfl:i=d.length:=by omega
 have hf:TM (λi=>qaF x l (d.getD i default)) 0 d.length=0:=jP i0;rw[hf,ipo rfl];simp (disch:=omega) only[k2,go_sem]
 repeat' first|(apply qb;exact rvk;simp only[go_sem])
 exact VLe.tup ⟨qoz (λ_=>rfl) eL.symm,qi,trivial⟩
def pcC(p:Pc):wg:=tkC p.t++ [.int .i64 p.c]
def spX(x:Co)(s f d:Nat):List wg:=(spk x s f d).map λp=> [.agg (pcC p)]
theorem qyy(x:Co)(f t s:Nat)(h:we):ACalls Tryz.prog 83 [.agg (coC x),.int .i64 (f:Int),.int .i64 (t:Int),.int .i64 (s:Int)] h (.fn (.func 135) [] [.ip [.int .i64 (f:Int)],.ip [.int .i64 (t:Int)],.ip (coC x),.ip [.int .i64 (s:Int)]]) h:=by
 unfold coC;refine acO qAh ?_;simp (disch:=omega) only[qBs,go_sem]
 repeat' first|exact v7|fail
theorem qkW(x:Co)(s f d:Nat):(spX x s f d).length=(spk x s f d).length:=by unfold spX;rw[List.length_map]
theorem qsS(x:Co)(s f:Nat): ∀d e,d<=e-> ∃r,spk x s f e=spk x s f d++r:=by
 intro d e h
 induction e with
 |zero=>
  obtain rfl:d=0:=by omega
  exact⟨[],by simp⟩
 |succ e ih=>
  by_cases g:d=e+1
  ·subst g;exact⟨[],by simp⟩
  ·obtain⟨r,hr⟩:=ih om;refine⟨r++(if pcB x s (f+e)=true then [pcT x s (f+e)] else []),?_⟩
   conv=>lhs;unfold spk
   rw[hr,List.append_assoc]
theorem qyx{x:Co}{s f k d:Nat}(hk:k<d)(hb:pcB x s (f+k)=true): ∃g:(spk x s f k).length<(spX x s f d).length,(spX x s f d)[(spk x s f k).length]= [.agg (pcC (pcT x s (f+k)))]∧(spk x s f (k+1)).length=(spk x s f k).length+1:=by
 have e1:spk x s f (k+1)=spk x s f k++ [pcT x s (f+k)]:=by
  conv=>lhs;unfold spk
  rw[ipo hb]
 obtain⟨r,hr⟩:=qsS x s f (k+1) d hk;refine⟨by rw[qkW,hr,e1];simp,?_,by rw[e1];simp⟩;unfold spX;simp only[List.getElem_map,hr,e1];rw[List.getElem_append_left (by simp),List.getElem_append_right (nlr _)];simp
structure SpS where
 k:Nat
 hh:we
theorem itS(x:Co)(s f t:Nat)(hz:qaN x)(ho:CoOk x)(hs:s<x.sig.length)(ht:t<=x.col.length)(ft:f<=t):qlT Tryz.prog 135 [.ip [.int .i64 (f:Int)],.ip [.int .i64 (t:Int)],.ip (coC x),.ip [.int .i64 (s:Int)]] (spX x s f (t-f)):=by
 intro h ts LI S E hS hE body start hts;have hsg:=hz.sg;have hcl:=hz.cl;have htn:=ho.tn;have htl:=hz.tl s;have q5:(0<=(s:Int))=True:=wh;have q6:((s:Int)<x.tok.length)=True:=wh;refine acQ qvY ?_;simp (disch:=omega) only[qun,coC,go_sem]
 repeat' first|with_reducible apply aiA|exact clz|fail
 refine qr (T:=λi:SpS=>qX 39 [(0,.yld h.length),(2,.ip [.int .i64 (t:Int)]),(3,.ip (coC x)),(4,.ip [.int .i64 (s:Int)]),(6,.int .i64 ((f+i.k:Nat):Int))]) (H:=λi=>i.hh++ [.lp .ready ts LI])
  (inv:=λi=>f+i.k<=t∧S (spk x s f i.k).length i.hh) (m:=λi=>t-f-i.k) ⟨0,h⟩ ⟨by simp only;omega,start⟩ (Wk.temps ?_) ?_
 ·(simp only[coC,go_sem,qg,qc,qa,qf];try exact wa)
 rintro⟨k,hh⟩ ⟨i1,i4⟩ K hK;simp only at i1 i4 hK;obtain⟨hlen,hlow⟩:=hS _ _ i4;have hb:(h++ [AObj.lp LS.ready ts LI]).length=(hh++ [AObj.lp LS.ready ts LI]).length:=by simp[hlen]
 by_cases hi:f+k<t
 ·have q0:(((f+k:Nat):Int)<t)=True:=wh;have q1:(0<=((f+k:Nat):Int))=True:=wh;have q2:(((f+k:Nat):Int)<x.col.length)=True:=wh;obtain⟨c,hcx⟩:=wc (x.col.getD (f+k) [])
  have ec:=hcx.symm;have hcl2:=ho.cl (f+k) om;have hce:=ho.ce (f+k) om s hs;rw[ec]at hcl2 hce;have q3:((s:Int)<c.length)=True:=wh;have hpb:pcB x s (f+k)=decide (0<=c.getD s 0):=by unfold pcB;rw[ec]
  by_cases g:0<=c.getD s 0
  ·obtain⟨N,hN⟩: ∃N:Nat,c.getD s 0=N:=⟨(c.getD s 0).toNat,om⟩
   have hNt:N<(x.tok.getD s []).length:=by
    rcases hce with e|⟨_,e⟩
    ·omega
    ·rw[hN]at e;omega
   have q4:(0<=(N:Int))=True:=wh;obtain⟨T,hT⟩:=wc (x.tok.getD s [])
   have eT:=hT.symm;rw[eT]at hNt;have q7:((N:Int)<T.length)=True:=wh;obtain⟨hdl,hxx,hln⟩:=qyx (x:=x) (s:=s) (f:=f) (k:=k) (d:=t-f) om (by rw[hpb,dqt g]);have hpc:pcT x s (f+k)=⟨T.getD N default,((f+k:Nat):Int)⟩:=by
    unfold pcT;rw[ec,eT,hN,itn]
   have hb':=body _ hh [] hdl i4;rw[hxx,hpc]at hb';unfold pcC tkC at hb';simp only[lca,lna]at hb';simp (disch:=omega) only[coC,qw,qG,qm,zP,tkC,q0,q1,q2,q3,q4,q5,q6,q7,ec,hN,eT,go_sem]
   repeat' first|with_reducible apply aiA|exact clz|fail
   ·exact⟨.ready,ts,LI,kC hlen⟩
   ·refine jZ.mono ?_ hb';rintro v h' ⟨hh',⟨rfl,hn',rfl⟩|⟨st,rfl,hs',rfl⟩⟩
    ·simp (disch:=omega) only[go_sem];refine hK _ _ ⟨k+1,hh'⟩ ⟨by simp only;omega,by simp only;rw[hln];exact hn'⟩ (by simp only;omega) (Wk.temps ?_)
     (simp only[coC,go_sem,qg,qc,qa,qf];try (repeat' first|(with_reducible apply aiA)|(apply qh;omega)|(apply qd;rfl)|exact qi))
    ·simp (disch:=omega) only[go_sem];obtain⟨r1,r2⟩:=(hE _ _ hs').ret (L:=LI) st hts;exact jA trivial r1 r2 ⟨_,.inr ⟨st,hs',rfl⟩⟩ (qi)
  ·have q4:(0<=c.getD s 0)=False:=eqf g;have e1:spk x s f (k+1)=spk x s f k:=by
    conv=>lhs;unfold spk
    rw[hpb,dqf g,ine (by decide),lan]
   simp (disch:=omega) only[coC,qw,qG,q0,q1,q2,q3,q4,q5,ec,go_sem]
   repeat' first|with_reducible apply aiA|exact clz|fail
   refine hK _ _ ⟨k+1,hh⟩ ⟨by simp only;omega,by rw[e1];exact i4⟩ (by simp only;omega) (Wk.temps ?_)
   (simp only[coC,go_sem,qg,qc,qa,qf];try (repeat' first|(with_reducible apply aiA)|(apply qh;omega)|(apply qd;rfl)|exact qi))
 ·have q0:(((f+k:Nat):Int)<t)=False:=wi;have hk:k=t-f:=by omega
  rw[hk]at i4;simp (disch:=omega) only[coC,qw,q0,go_sem]
  repeat' first|with_reducible apply aiA|exact clz|fail
  obtain⟨r1,r2⟩:=(hS _ _ i4).ret (L:=LI) .ready hts;exact jA trivial r1 r2 ⟨hh,.inl ⟨by rw[qkW];exact i4,rfl⟩⟩ (qi)
end RC
end
section
open Go Go.Proofs AF
def qnn:List Nat:= []
def quM:C:=
 (vS [O1 2 (.box 0 126) 0,ON 4 (.nilo 1 7 120) []] (((C.wk.seq (vW [MV 6 1])).seq (C.block 0 (C.range (.t 6) [7] (vW [⟨some 5,none,.alloc 2 120 [.str [],.str [],.str [],i6 0,i6
 0,.str [],i6 0],[]⟩,ST 7 5 7]) (C.block 1 (vW [LD 8 2,O1 9 (.load (some 7)) 5,⟨some 10,none,.bslc 3 7 1 120 [.str [],.str [],.str [],i6 0,i6 0,.str [],i6 0] [(0,7)],[.t 9]⟩,O2
 11 (.app 4 7 120 88) 8 10,ST 1 2 11]))))).seq (vV [LD 12 2,MV 4 12])))
theorem qwp:qJ Tryz.prog 188 13 5 [RV.tmp 4] quM:=fi Tryz.f188 [2,4,5,10,11] qnn [1]
end
section
open Go Go.Proofs AF HY LN
namespace RC
def TC(L:List Pc):wg:=L.flatMap pcC
instance:Inhabited Pc:=⟨⟨default,0⟩⟩
def qcu(L:List Pc):AV:= .sl L.length λi=>pcC (L.getD i default)
theorem qi2(l:List Pc):(qcu l).flag=true:=rfl
theorem qgP(l:List Pc):(qcu l).strip=qcu l:=rfl
theorem qok{fz:Nat->Bool}{h:we}{n:Nat}(l:List Pc):rei fz h (n+1) (qcu l)=qcu l:=rfl
theorem qnf{fz:Nat->Bool}{h:we}{n:Nat}(l:List Pc):frz fz h (n+1) (qcu l)=qcu l:=rfl
attribute [go_sem] qi2 qgP qok qnf
theorem qj0(p:Pc):(pcC p).length=7:=rfl
theorem qbU(L:List Pc):(TC L).length=L.length*7:=by
 unfold TC
 induction L with
 |nil=>rfl
 |cons a L ih=>rw[List.flatMap_cons,lap,ih,lco,qj0];omega
theorem TV(A B:List Pc):TC (A++B)=TC A++TC B:=by simp[TC]
theorem TW(a:Pc):TC [a]=pcC a:=by simp[TC]
theorem qj1(L:List Pc): ∀i,(TC L).drop (i*7)=TC (L.drop i):=by
 induction L with
 |nil=>intro i;simp[TC]
 |cons a L ih=>
  intro i;cases i with
  |zero=>simp
  |succ i=>
   rw[show TC (a::L)=pcC a++TC L from rfl,show (a::L).drop (i+1)=L.drop i from rfl,<-ih i];rw[show (i+1)*7=(pcC a).length+i*7 by rw[qj0];omega,List.drop_append,List.drop_eq_nil_of_le om,lna,Nat.add_sub_cancel_left]
theorem qnY{L:List Pc}{i:Nat}(hi:i<L.length):((TC L).drop (i*7)).take 7=pcC (L.getD i default):=by
 rw[qj1,List.drop_eq_getElem_cons hi,gdqA,zG hi];rfl
theorem qnZ(L:List Pc)(n:Nat): ∀c∈TC L,qR n c=true:=by
 intro c hc;unfold TC at hc;obtain⟨x,_,hx⟩:=List.mem_flatMap.1 hc;unfold pcC tkC at hx;simp only[lca,lna,List.mem_cons,List.not_mem_nil,or_false]at hx;rcases hx with rfl|rfl|rfl|rfl|rfl|rfl|rfl<;>rfl
theorem qfe{v n:Nat}{L:List Pc}{ty:TypeId}{fz:Nat->Bool}{h:we}{d:Nat}(hn:n=L.length):VLe (qfd (some (ze v ty (TC L))) v 7 0 n (rei fz h (d+1))) (qcu L):=by
 subst hn;unfold ze;split
 ·rename_i e
  have:L= []:=by
   cases L with
   |nil=>rfl
   |cons a r=>exact absurd e (by simp[TC,pcC,tkC])
  subst this;rw[slOf_emp,ipo rfl];exact qZ
 ·rw[slOf_mem,ipo ⟨rfl,by rw[qbU];omega⟩];refine VLe.sl_eq rfl (λi hi=> ?_);simp only[Nat.zero_add];rw[qnY hi];rfl
theorem qBY(f:FuncId)(A B C D:wg)(L:List Pc)(h:we)(hf:qlT Tryz.prog f [.ip A,.ip B,.ip C,.ip D] (L.map λp=> [.agg (pcC p)]))(hL:L.length<=1000000000):ACalls Tryz.prog 188 [.nl,.fn (.func f) [] [.ip A,.ip B,.ip C,.ip D]] h (qcu L) h:=by
 refine acO qwp ?_;simp (disch:=omega) only[quM,go_sem];refine⟨_,_,Wk.ownNil (j:=h.length) (i:=0) (k:=h.length+4) (v:=1) (ty:=126) (cs:= [.nl]) (ve:=0) (sz:=7) ?m1 rfl ?m2,?_⟩
 case m1=>simp only[go_sem]
 case m2=>simp only[go_sem]
 simp (disch:=omega) only[List.set_cons_zero,go_sem];have hxl:(L.map λp=> [AV.agg (pcC p)]).length=L.length:=List.length_map ..;have hLow: ∀(i n:Nat) O1 O2,(∀n,lowO n O1)->(∀n,lowO n O2)->LowI (h++ [.mem 1 126 [.osl (h.length+4) 0 7 0 0],.emp 1,.emp 0,.emp 0,.emp 0]) (h++ [.mem 1 126 [.osl (h.length+4) i 7 0 n],.emp 1,O1,O2,ze i 120 (TC (L.take i))]):=λi n O1 O2 l1 l2=>by
  refine⟨by simp,λo ho=> ?_⟩;rcases List.mem_append.1 ho with h1|h1
  ·exact .inl (List.mem_append_left _ h1)
  ·simp only[List.mem_cons,List.not_mem_nil,or_false]at h1;have hb: ∀n,lowO n (ze i 120 (TC (L.take i))):=λn=>jp (qnZ _ n)
   rcases h1 with rfl|rfl|rfl|rfl|rfl
   ·right;refine⟨λc hc=> ?_,λc hc=> ?_⟩<;>
    ·rw[List.mem_singleton]at hc;subst hc;simp[qR]
     try omega
   ·left;simp
   ·right;exact⟨l1 _,l1 _⟩
   ·right;exact⟨l2 _,l2 _⟩
   ·right;exact⟨hb _,hb _⟩
 refine zg hf (λa ha=> ?_)
  (S:=λi hh=> ∃O1 O2,qI [O1] 0=true∧qI [O2] 0=true∧(∀n,lowO n O1)∧(∀n,lowO n O2)∧hh=h++ [.mem 1 126 [.osl (h.length+4) i 7 0 i],.emp 1,O1,O2,ze i 120 (TC (L.take i))]) (E:=λ_ _=>False) ?_ ?_ ?_ ?_ ?_ ?_ ?_
 ·obtain⟨c,_,rfl⟩:=List.mem_map.1 ha;rfl
 ·rintro i hh ⟨O1,O2,_,_,l1,l2,rfl⟩;exact hLow _ _ _ _ l1 l2
 ·intro s hh hf;exact hf.elim
 ·exact⟨.emp 0,.emp 0,rfl,rfl,λ_=>trivial,λ_=>trivial,rfl⟩
 ·simp[qR,qR.lowVs]
  try omega
 ·rintro i hh tl LI TS hi ⟨O1,O2,s1,s2,l1,l2,rfl⟩ hlen K K2 hK hN hR' hX;have hi':i<L.length:=by rw[hxl]at hi;exact hi
  rw[List.getElem_map];have s1': ∀m,qI (O1::m) 0=true:=λ_=>s1
  have s2': ∀m,qI (O2::m) 0=true:=λ_=>s2
  have hS:L.take (i+1)=L.take i++ [L.getD i default]:=by
   rw[List.take_add_one,zG hi',gdqA,zG hi'];rfl
  have eG:L[i]=L.getD i default:=by rw[gdqA,zG hi'];rfl
  rw[eG];obtain⟨p,hp⟩:=wc (L.getD i default)
  rw[<-hp]at hS ⊢;obtain⟨M,hM⟩:=wc (L.take i)
  have eM:M.length=i:=by rw[hM,List.length_take];omega
  rw[<-hM]at hS ⊢;have eC:=qbU M;have eTk:List.take (i*7) (TC M)=TC M:=ltl om;simp only[kr,List.append_assoc,lca,lna];simp (disch:=omega) only[s1',pcC,tkC,go_sem];refine hK _ _ (h++ [.mem 1 126 [.osl (h.length+4) i 7 0 i],.emp 1,.mem (qq (some O1)+1) 120 (pcC p),O2,ze i 120 (TC M)]) ?_ ?_ ?_
  ·simp[pcC,tkC]
  ·simp
  ·simp only[List.append_assoc,lca,lna];simp (disch:=omega) only[s2',pcC,tkC,eC,eTk,eM,go_sem]
   repeat' first|with_reducible apply aiA|exact clz|fail
   have eA:TC M++ [AV.str p.t.text,AV.str p.t.norm,AV.str p.t.page,.int .i64 p.t.line,.int .i64 p.t.flags,.str p.t.name,.int .i64 p.c]=TC (M++ [p]):=by rw[TV,TW];rfl
   refine hN _ _ (h++ [.mem 1 126 [.osl (h.length+4) (i+1) 7 0 (i+1)],.emp 1,.mem (qq (some O1)+1) 120 (pcC p),.mem (qq (some O2)+1) 120 (pcC p),ze (i+1) 120 (TC (M++ [p]))]) ?_ ?_ ⟨_,_,rfl,rfl,?_,?_,by rw[hS]⟩
   ·rw[<-eA];simp[pcC,tkC];exact nlr _
   ·simp
   ·intro n c hc;simp[pcC,tkC]at hc;rcases hc with rfl|rfl|rfl|rfl|rfl|rfl|rfl<;>rfl
   ·intro n c hc;simp[pcC,tkC]at hc;rcases hc with rfl|rfl|rfl|rfl|rfl|rfl|rfl<;>rfl
 ·rintro hh ⟨O1,O2,s1,s2,l1,l2,rfl⟩;rw[hxl,List.take_length];simp (disch:=omega) only[go_sem]
  repeat' first|(apply qb;exact rvk;simp only[go_sem])|with_reducible apply aiA|exact clz|fail
  exact qfe rfl
 ·intro e hh hf;exact hf.elim
theorem qB9(f:FuncId)(A B C D:wg)(L:List Pc)(h:we)(hf:qlT Tryz.prog f [.ip A,.ip B,.ip C,.ip D] (L.map λp=> [.agg (pcC p)]))(hL:L.length<=1000000000):ACalls Tryz.prog 137 [.fn (.func f) [] [.ip A,.ip B,.ip C,.ip D]] h (qcu L) h:=by
 have c1:=λh=>qBY f A B C D L h hf hL
 refine acO qv0 ?_;simp (disch:=omega) only[quq,go_sem]
 repeat' first|(refine cA (c1 _) flk ?_;simp (disch:=omega) only[go_sem])|exact v7|fail
theorem qCy(h:we):ACalls Tryz.prog 84 [] h (.agg [.nilfn,.fn (.func 136) [] [],.fn (.func 138) [] [],.fn (.func 140) [] []]) h:=by
 refine acO qAi ?_;simp (disch:=omega) only[qBt,go_sem]
 repeat' first|exact v7|fail
theorem qCx(x:Co)(u:Un)(o:Dc)(h:we):ACalls Tryz.prog 140 [.agg (coC x),.agg (unC u),.agg (dcC o)] h (qcu []) h:=by
 refine acO qv4 ?_;simp (disch:=omega) only[qut,coC,unC,dcC,go_sem]
 repeat' first|(apply qb;exact rvk;simp only[go_sem])
 exact qZ
theorem qCv(x:Co)(u:Un)(o:Dc)(s f t:Nat)(h:we)(hz:qaN x)(ho:CoOk x)(hx:zC x o.sig=s)(hs:s<x.sig.length)(hf:u.frm=f)(hu:u.to=t)(ht:t<=x.col.length)(ft:f<=t):ACalls Tryz.prog 136 [.agg (coC x),.agg (unC u),.agg (dcC o)] h (qcu (spk x s f (t-f))) h:=by
 have c1:=λh=>qnt x.sig.length (λj=>x.sig.getD j []) o.sig h hz.sg
 have hS:U0 (λj=>decide (o.sig=x.sig.getD j [])) x.sig.length 0=zC x o.sig:=rfl;simp only[hS,hx]at c1;have c2:=λh=>qyy x f t s h
 have hcl:=hz.cl;have c3:=λh=>qB9 135 [.int .i64 (f:Int)] [.int .i64 (t:Int)] (coC x) [.int .i64 (s:Int)] (spk x s f (t-f)) h (itS x s f t hz ho hs ht ft) (Nat.le_trans (qca x s f (t-f)) om)
 unfold coC at c2 c3;refine acO qvZ ?_;simp (disch:=omega) only[qup,coC,unC,dcC,strs,hf,hu,go_sem]
 repeat' first|((first|refine cA (c1 _) ?_ ?_|refine cA (c2 _) ?_ ?_|refine cA (c3 _) ?_ ?_);exact flk;simp (disch:=omega) only[strs,go_sem])|exact v7|fail
 done
def cjP(L:List Tk)(f:Int):List Pc:=L.map λt=>⟨t,f⟩
theorem qqZ(L:List Tk)(f:Int):(cjP L f).length=L.length:=List.length_map ..
theorem qlh{s:Str}{t:Tk}(h:t∈qaJ s):t.name= []∧(t.flags=0∨t.flags=16∨t.flags=8∨t.flags=24):=by
 obtain⟨a,⟨e,g⟩,rfl,_⟩:=qen s h;refine⟨by rw[e];rfl,?_⟩;show a.flags=0∨a.flags=16∨a.flags=8∨a.flags=24;rcases g with⟨g|g,_⟩|⟨g|g,_⟩
 ·exact .inl g
 ·exact .inr (.inl g)
 ·exact .inr (.inr (.inl g))
 ·exact .inr (.inr (.inr g))
theorem qCw(x:Co)(u:Un)(o:Dc)(h:we)(hl:o.txt.length<=1000)(hs:o.txt≠ [])(hc:zR o.txt=0)(he:qfn o.txt=0)(hg:zQ h frmN frmC):ACalls Tryz.prog 138 [.agg (coC x),.agg (unC u),.agg (dcC o)] h (qcu (cjP (qaJ o.txt) u.frm)) h:=by
 have c1:=λl=>qB7 o.txt (h++l) hl hs hc hg.app
 have hT:qfo o.txt=qaJ o.txt:=by unfold qfo;rw[ipo he]
 rw[hT]at c1;have hfl:=λt=> @qlh o.txt t
 have hTl:=qce o.txt;obtain⟨T,hTe⟩:=wc (qaJ o.txt)
 rw[<-hTe]at c1 hTl hfl ⊢;have zu: ∀g l,valL g .len [zP l]= .int .i64 l.length:=λ_ _=>rfl
 have zv: ∀g l,okL g .len [zP l]=True:=λ_ _=>eqt trivial
 refine acO qv1 ?_;simp (disch:=omega) only[qur,coC,unC,dcC,go_sem]
 repeat' first|(refine cA (c1 _) flk ?_;simp (disch:=omega) only[zu,zv,go_sem])|with_reducible apply aiA|exact clz|fail
 refine qr (T:=λs:Nat×Nat×AObj×AObj=>qX 32 [(4,.op (h.length+1) 1 0),(12,zP T),(13,.int .i64 T.length),(14,.int .i64 s.1),(7,.osl (h.length+4) s.2.1 7 0 s.1)])
  (H:=λs=>h++ [.mem 1 26 (coC x),.mem 1 64 (unC u),.mem 1 43 (dcC o),.emp 1,ze s.2.1 120 (TC (cjP (T.take s.1) u.frm)),s.2.2.1,s.2.2.2,.emp 0])
  (inv:=λs=>s.1<=T.length∧qI [s.2.2.1] 0=true∧qI [s.2.2.2] 0=true) (m:=λs=>T.length-s.1) (0,1,.emp 0,.emp 0) ⟨nzl _,rfl,rfl⟩ (Wk.temps ?_) ?_
 ·(simp only[zP,go_sem,qg,qc,qa,qf];try exact wa)
 rintro⟨i,v,O1,O2⟩ ⟨i1,i2,i3⟩ K hK;simp only at i1 i2 i3 hK;have i2': ∀m,qI (O1::m) 0=true:=λ_=>i2
 have i3': ∀m,qI (O2::m) 0=true:=λ_=>i3
 have eL:(cjP (T.take i) u.frm).length=i:=by rw[qqZ,List.length_take];omega
 by_cases hi:i<T.length
 ·have k2:((i:Int)<T.length)=True:=wh;obtain⟨t,ht⟩:=wc (T.getD i default)
  have et:=ht.symm;obtain⟨hn,hf⟩:=hfl t (by rw[ht];exact jc hi);have hS:cjP (T.take (i+1)) u.frm=cjP (T.take i) u.frm++ [⟨t,u.frm⟩]:=by
   unfold cjP;rw[List.take_add_one,zG hi,List.map_append,ht,gdqA,zG hi];rfl
  obtain⟨L,hL⟩:=wc (cjP (T.take i) u.frm)
  rw[<-hL]at hS eL ⊢;have eC:=qbU L;have eTk:List.take (i*7) (TC L)=TC L:=ltl om;obtain⟨tx,nm,pg,ln,fl,na⟩:=t;simp only at hn hf;subst hn;rcases hf with rfl|rfl|rfl|rfl
  all_goals
   simp (disch:=omega) only[coC,unC,dcC,zP,tkC,k2,et,i2',i3',eC,eL,eTk,go_sem]
   repeat' first|with_reducible apply aiA|exact clz|fail
  ·refine hK _ _ (i+1,v+1,.mem (qq (some O1)+1) 92 (tkC ⟨tx,nm,pg,ln,0,[]⟩),.mem (qq (some O2)+1) 120 (pcC ⟨⟨tx,nm,pg,ln,0,[]⟩,u.frm⟩)) ⟨hi,rfl,rfl⟩ (by simp only;omega) ?_;simp only[hS,pcC,tkC,TV,TW,lca,lna];refine Wk.temps ?_
   (simp only[zP,tkC,go_sem,qg,qc,qa,qf];try (repeat' first|(with_reducible apply aiA)|(apply qh;omega)|(apply qd;rfl)|exact qi))
  ·refine hK _ _ (i+1,v+1,.mem (qq (some O1)+1) 92 (tkC ⟨tx,nm,pg,ln,16,[]⟩),.mem (qq (some O2)+1) 120 (pcC ⟨⟨tx,nm,pg,ln,16,[]⟩,u.frm⟩)) ⟨hi,rfl,rfl⟩ (by simp only;omega) ?_;simp only[hS,pcC,tkC,TV,TW,lca,lna];refine Wk.temps ?_
   (simp only[zP,tkC,go_sem,qg,qc,qa,qf];try (repeat' first|(with_reducible apply aiA)|(apply qh;omega)|(apply qd;rfl)|exact qi))
  ·refine hK _ _ (i+1,v+1,.mem (qq (some O1)+1) 92 (tkC ⟨tx,nm,pg,ln,8,[]⟩),.mem (qq (some O2)+1) 120 (pcC ⟨⟨tx,nm,pg,ln,8,[]⟩,u.frm⟩)) ⟨hi,rfl,rfl⟩ (by simp only;omega) ?_;simp only[hS,pcC,tkC,TV,TW,lca,lna];refine Wk.temps ?_
   (simp only[zP,tkC,go_sem,qg,qc,qa,qf];try (repeat' first|(with_reducible apply aiA)|(apply qh;omega)|(apply qd;rfl)|exact qi))
  ·refine hK _ _ (i+1,v+1,.mem (qq (some O1)+1) 92 (tkC ⟨tx,nm,pg,ln,24,[]⟩),.mem (qq (some O2)+1) 120 (pcC ⟨⟨tx,nm,pg,ln,24,[]⟩,u.frm⟩)) ⟨hi,rfl,rfl⟩ (by simp only;omega) ?_;simp only[hS,pcC,tkC,TV,TW,lca,lna];refine Wk.temps ?_
   (simp only[zP,tkC,go_sem,qg,qc,qa,qf];try (repeat' first|(with_reducible apply aiA)|(apply qh;omega)|(apply qd;rfl)|exact qi))
 have k2:((i:Int)<T.length)=False:=wi;obtain rfl:i=T.length:=by omega
 simp (disch:=omega) only[k2,go_sem]
 repeat' first|(apply qb;exact rvk;simp only[go_sem])
 rw[List.take_length]at eL ⊢;exact qfe eL.symm
end RC
end
section
open Go Go.Proofs AF
def qrH:List Nat:= [80]
def qtP:C:=
 (vS [O1 4 (.box 0 120) 0] (vS [vL 9 0 4,vL 10 0 9,LD 11 10,vL 12 6 4,LD 13 12,MV 14 1,MV 15 2,vL 16 0 4,vL 17 4 16,LD 18 17,vN 19 .and 18 4,vN 20 .neq 19 0,vL 21 0 4,vL 22 5
 21,LD 23 22,⟨some 24,none,.build [.str [],i6 0,i6 0,i6 0,.bool false,.bool false,.str []] [(0,1),(1,1),(2,1),(3,1),(5,1),(6,1)],[.t 11,.t 13,.t 14,.t 15,.t 20,.t 23]⟩,⟨some
 7,none,.alloc 1 36 [.str [],i6 0,i6 0,i6 0,.bool false,.bool false,.str []],[]⟩,ST 7 7 24] (vS [LD 25 3,O1 26 .len 25,MV 8 26] (vS [vL 27 0 4,vL 28 4 27,LD 29 28,vN 30 .and 29
 16,vN 31 .neq 30 0,MV 32 31,MG 33 32 true 8,PC 34 32 true (.bin .gtr) 33 (i6 0),PF 35 32 34,MV 36 35,P1 37 36 true (.load none) 3,MG 38 36 true 8,PC 39 36 true (.bin .sub) 38
 (i6 1),P2 40 36 true (.idxA 7) 37 39,P1 41 36 true (.fldA 0) 40,P1 42 36 true (.load none) 41,P1 43 36 true (.fldA 0) 7,P1 44 36 true (.load none) 43,P2 45 36 true (.call 81
 true) 42 44,PF 46 36 45,vL 47 4 7,ST 1 47 46] (vW [LD 48 3,O1 49 (.load (some 7)) 7,⟨some 50,none,.bslc 2 7 1 36 [.str [],i6 0,i6 0,i6 0,.bool false,.bool false,.str []]
 [(0,7)],[.t 49]⟩,O2 51 (.app 3 7 36 64) 48 50,ST 1 3 51])))))
theorem qjb:qJ Tryz.prog 80 52 4 [] qtP:=fi Tryz.f80 [4,7,50,51] qrH []
end
section
open Go Go.Proofs AF HY LN
namespace RC
theorem qzn: ∀f:Nat,f<32->qlU .i64 (f:Int) 4=if f.testBit 2 then 4 else 0:=by decide+kernel
theorem qt5: ∀f:Nat,f<32->qlU .i64 (f:Int) 16=if f.testBit 4 then 16 else 0:=by decide+kernel
def qrU(W:List Wd):Option Str:=if W.length=0 then none else some (W.getD (W.length-1) default).text
section
variable {h : we} {a b c va : Nat}
def qsc(h:we)(a b c:Nat)(va vb:Nat)(W:List Wd)(Z:AObj):we:=tri h a b c (.mem va 29 [.osl b vb 7 0 W.length]) (ze vb 36 (jv W)) Z
theorem qBW(t:T3 h a b c)(W:List Wd)(p:Pc)(u d:Int)(vb F:Nat)(Z:AObj)(hZ: ∀n,lowO n Z)(hF:p.t.flags=F)(hF2:F<32)(hx:p.t.text.length<=1000000000)(hW:W.length<=1000000000)(hWx: ∀w∈W,w.text.length<=1000000000):ACalls Tryz.prog 80 [.agg (pcC p),.int .i64 u,.int .i64 d,.op a va 0] (qsc h a b c va vb W Z) (.tup []) (qsc h a b c va (vb+1) (W++ [mkW (qrU W) ⟨p,u,d⟩]) Z):=by
 have ta:=t.la;have tb:=t.lb;have tc:=t.lc;have zga: ∀ {X Y Z l},qt (a) (tri h a b c X Y Z++l)=some X:=R9 (t);have yga: ∀ {X Y Z},qt (a) (tri h a b c X Y Z)=some X:=λ{X Y Z}=>by have:=zga (X:=X) (Y:=Y) (Z:=Z) (l:= []);simpa only[lan] using this
 have zgb: ∀ {X Y Z l},qt (b) (tri h a b c X Y Z++l)=some Y:=SN (t);have ygb: ∀ {X Y Z},qt (b) (tri h a b c X Y Z)=some Y:=λ{X Y Z}=>by have:=zgb (X:=X) (Y:=Y) (Z:=Z) (l:= []);simpa only[lan] using this
 have zgc: ∀ {X Y Z l},qt (c) (tri h a b c X Y Z++l)=some Z:=Si (t);have ygc: ∀ {X Y Z},qt (c) (tri h a b c X Y Z)=some Z:=λ{X Y Z}=>by have:=zgc (X:=X) (Y:=Y) (Z:=Z) (l:= []);simpa only[lan] using this
 have zsa: ∀ {X Y Z o l},qo (a) (tri h a b c X Y Z++l) o=tri h a b c o Y Z++l:=SO (t);have ysa: ∀ {X Y Z o},qo (a) (tri h a b c X Y Z) o=tri h a b c o Y Z:=λ{X Y Z o}=>by have:=zsa (X:=X) (Y:=Y) (Z:=Z) (o:=o) (l:= []);simpa only[lan] using this
 have zsb: ∀ {X Y Z o l},qo (b) (tri h a b c X Y Z++l) o=tri h a b c X o Z++l:=Td (t);have ysb: ∀ {X Y Z o},qo (b) (tri h a b c X Y Z) o=tri h a b c X o Z:=λ{X Y Z o}=>by have:=zsb (X:=X) (Y:=Y) (Z:=Z) (o:=o) (l:= []);simpa only[lan] using this
 have zsc: ∀ {X Y Z o l},qo (c) (tri h a b c X Y Z++l) o=tri h a b c X Y o++l:=Tf (t);have ysc: ∀ {X Y Z o},qo (c) (tri h a b c X Y Z) o=tri h a b c X Y o:=λ{X Y Z o}=>by have:=zsc (X:=X) (Y:=Y) (Z:=Z) (o:=o) (l:= []);simpa only[lan] using this
 have zca: ∀ {X Y Z v l},cellsOf (tri h a b c X Y Z++l) (a) v=qv (some X) v:=T9 (t);have yca: ∀ {X Y Z v},cellsOf (tri h a b c X Y Z) (a) v=qv (some X) v:=λ{X Y Z v}=>by have:=zca (X:=X) (Y:=Y) (Z:=Z) (v:=v) (l:= []);simpa only[lan] using this
 have zcb: ∀ {X Y Z v l},cellsOf (tri h a b c X Y Z++l) (b) v=qv (some Y) v:=Ua (t);have ycb: ∀ {X Y Z v},cellsOf (tri h a b c X Y Z) (b) v=qv (some Y) v:=λ{X Y Z v}=>by have:=zcb (X:=X) (Y:=Y) (Z:=Z) (v:=v) (l:= []);simpa only[lan] using this
 have zcc: ∀ {X Y Z v l},cellsOf (tri h a b c X Y Z++l) (c) v=qv (some Z) v:=Ub (t);have ycc: ∀ {X Y Z v},cellsOf (tri h a b c X Y Z) (c) v=qv (some Z) v:=λ{X Y Z v}=>by have:=zcc (X:=X) (Y:=Y) (Z:=Z) (v:=v) (l:= []);simpa only[lan] using this
 have zla: ∀ {X Y Z v l},qz (tri h a b c X Y Z++l) (a) v=qF (some X) v:=Uc (t);have yla: ∀ {X Y Z v},qz (tri h a b c X Y Z) (a) v=qF (some X) v:=λ{X Y Z v}=>by have:=zla (X:=X) (Y:=Y) (Z:=Z) (v:=v) (l:= []);simpa only[lan] using this
 have zlb: ∀ {X Y Z v l},qz (tri h a b c X Y Z++l) (b) v=qF (some Y) v:=Ud (t);have ylb: ∀ {X Y Z v},qz (tri h a b c X Y Z) (b) v=qF (some Y) v:=λ{X Y Z v}=>by have:=zlb (X:=X) (Y:=Y) (Z:=Z) (v:=v) (l:= []);simpa only[lan] using this
 have zlc: ∀ {X Y Z v l},qz (tri h a b c X Y Z++l) (c) v=qF (some Z) v:=Ue (t);have ylc: ∀ {X Y Z v},qz (tri h a b c X Y Z) (c) v=qF (some Z) v:=λ{X Y Z v}=>by have:=zlc (X:=X) (Y:=Y) (Z:=Z) (v:=v) (l:= []);simpa only[lan] using this
 have e4:=qzn F hF2;have e16:=qt5 F hF2;have hL:=qfw W;have ev:qA8 p.t.flags=F.testBit 2:=by unfold qA8;rw[hF,itn]
 have ej:jnB p.t.flags=F.testBit 4:=by unfold jnB;rw[hF,itn]
 unfold mkW;simp only[ev,ej];unfold qsc;have eTk:List.take (W.length*7) (jv W)=jv W:=ltl om;have lo: ∀(n:Nat),lowO h.length (.mem va 29 [.osl b (vb+1) 7 0 n]):=λn cc hc=>by
  rw[List.mem_singleton]at hc;subst hc;simp[qR];omega
 have lq: ∀L:List Wd,lowO h.length (ze (vb+1) 36 (jv L)):=λL=>jp (qam L _)
 have fin: ∀(w:Wd) (tt:wg) (tl:we),fnQ [] (tri h a b c (.mem va 29 [.osl b vb 7 0 W.length]) (ze vb 36 (jv W)) Z) (λr1 h1=>r1= .tup []∧h1=tri h a b c (.mem va 29 [.osl b (vb+1) 7 0 (W++ [w]).length]) (ze (vb+1) 36 (jv (W++ [w]))) Z) .normal tt (tri h a b c (.mem va 29 [.osl b (vb+1) 7 0 (W.length+1)]) (ze (vb+1) 36 (jv W++wdC w)) Z++tl):=λw tt tl=>by
  have eA:jv W++wdC w=jv (W++ [w]):=by rw[qpd,qpe]
  rw[eA,show (W++ [w]).length=W.length+1 by simp];exact zL trivial (by simp only[tri_len]) (jG t (lo _) (lq _) (hZ _)) ⟨rfl,rfl⟩ (qi)
 have k4:((4:Int)=0)=False:=eqf (by decide);have k16:((16:Int)=0)=False:=eqf (by decide);have hb1: ∀n,(b !=h.length+n)=true:=λn=>by simp;omega
 by_cases hW0:W= []
 ·have k0:((0:Int)<W.length)=False:=eqf (by rw[hW0];simp);have eG:(qv (some (ze vb 36 (jv W))) vb).getD []=jv W:=by rw[hW0];rfl
  have el:qrU W=none:=by unfold qrU;rw[ipo (by rw[hW0];rfl)]
  rw[el];cases g2:F.testBit 2<;>cases g4:F.testBit 4<;>rw[g2]at e4<;>rw[g4]at e16<;>simp only[Bool.false_eq_true,if_false,if_true]at e4 e16
  all_goals
   refine acO qjb ?_;simp (disch:=omega) only[qtP,pcC,tkC,hF,e4,e16,zca,zcb,zlb,qW,ql,eG,hL,k0,k4,k16,decide_true,decide_false,Bool.not_false,Bool.not_true,Bool.and_false,go_sem]
   repeat' first|(refine qj ( .bool false) ?_;simp (disch:=omega) only[zga,zgb,zsa,zsb,zca,zcb,zlb,qW,ql,eG,eTk,hL,Bool.not_false,Bool.and_false,go_sem])|with_reducible apply aiA|exact clz|fail
  all_goals try exact hb1 _
  all_goals exact fin ⟨_,_,_,_,_,_,_⟩ _ _
 ·have hpos:0<W.length:=List.length_pos_iff.2 hW0;have k0:((0:Int)<W.length)=True:=wh;obtain⟨z,hz⟩:=wc (W.getD (W.length-1) default)
  have el:qrU W=some z.text:=by unfold qrU;rw[ine om,hz]
  rw[el];have hzx:=hWx z (by rw[hz];exact jc om);have gI:(jv W)[(W.length-1)*7]? =some (.str z.text):=by
   have:=qfv (L:=W) (i:=W.length-1) om
   rw[<-hz]at this;have h2:(((jv W).drop ((W.length-1)*7)).take 7)[0]? =some (.str z.text):=by rw[this];rfl
   rwa [List.getElem?_take,ipo om,List.getElem?_drop,Nat.add_zero]at h2
  have eI:((W.length:Int)-1).toNat=W.length-1:=by omega
  have eO:qv (some (ze vb 36 (jv W))) vb=some (jv W):=by
   rw[RZ (λe=>by rw[e]at hL;simp at hL;omega),ql,ipo rfl]
  have c1:=λh=>qCt z.text p.t.text h hzx hx
  cases g2:F.testBit 2<;>cases g4:F.testBit 4<;>rw[g2]at e4<;>rw[g4]at e16<;>simp only[Bool.false_eq_true,if_false,if_true]at e4 e16
  case false.false=>
   refine acO qjb ?_;simp (disch:=omega) only[qtP,pcC,tkC,hF,e4,e16,zca,zcb,zlb,qW,ql,eO,hL,k0,decide_true,Bool.not_false,Bool.not_true,Bool.and_true,Bool.false_and,Bool.true_and,eI,gI,go_sem]
   repeat' first|(refine qj ( .bool false) ?_;simp (disch:=omega) only[zga,zgb,zsa,zsb,zca,zcb,zlb,qW,ql,eO,eTk,hL,Bool.not_false,Bool.false_and,Bool.true_and,go_sem])|with_reducible apply aiA|exact clz|fail
   all_goals try exact hb1 _
   exact fin ⟨_,_,_,_,_,_,_⟩ _ _
  case false.true=>
   refine acO qjb ?_;simp (disch:=omega) only[qtP,pcC,tkC,hF,e4,e16,zca,zcb,zlb,qW,ql,eO,hL,k0,k16,decide_true,decide_false,Bool.not_false,Bool.not_true,Bool.and_true,Bool.false_and,Bool.true_and,eI,gI,go_sem]
   repeat' first|(refine cG (λe=>c1 _) flk ?_;simp (disch:=omega) only[zga,zgb,zsa,zsb,zca,zcb,zlb,qW,ql,eO,eTk,hL,Bool.not_true,Bool.false_and,Bool.true_and,go_sem])|with_reducible apply aiA|exact clz|fail
   all_goals try exact hb1 _
   exact fin ⟨_,_,_,_,_,_,_⟩ _ _
  case true.false=>
   refine acO qjb ?_;simp (disch:=omega) only[qtP,pcC,tkC,hF,e4,e16,zca,zcb,zlb,qW,ql,eO,hL,k0,k4,decide_true,decide_false,Bool.not_false,Bool.not_true,Bool.and_true,Bool.false_and,Bool.true_and,eI,gI,go_sem]
   repeat' first|(refine qj ( .bool false) ?_;simp (disch:=omega) only[zga,zgb,zsa,zsb,zca,zcb,zlb,qW,ql,eO,eTk,hL,Bool.not_false,Bool.false_and,Bool.true_and,go_sem])|with_reducible apply aiA|exact clz|fail
   all_goals try exact hb1 _
   exact fin ⟨_,_,_,_,_,_,_⟩ _ _
  case true.true=>
   refine acO qjb ?_;simp (disch:=omega) only[qtP,pcC,tkC,hF,e4,e16,zca,zcb,zlb,qW,ql,eO,hL,k0,k4,k16,decide_true,decide_false,Bool.not_false,Bool.not_true,Bool.and_true,Bool.false_and,Bool.true_and,eI,gI,go_sem]
   repeat' first|(refine cG (λe=>c1 _) flk ?_;simp (disch:=omega) only[zga,zgb,zsa,zsb,zca,zcb,zlb,qW,ql,eO,eTk,hL,Bool.not_true,Bool.false_and,Bool.true_and,go_sem])|with_reducible apply aiA|exact clz|fail
   all_goals try exact hb1 _
   exact fin ⟨_,_,_,_,_,_,_⟩ _ _
end
end RC
end
