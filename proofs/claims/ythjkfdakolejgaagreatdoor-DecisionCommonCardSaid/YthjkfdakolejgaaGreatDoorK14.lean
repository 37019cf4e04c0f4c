import Derived.Test.YthjkfdakolejgaaGreatDoorK13
import Derived.Test.YthjkfdakolejgaaGreatDoorK3
import Derived.Test.YthjkfdakolejgaaGreatDoorK5
import Derived.Test.YthjkfdakolejgaaGreatDoorK8
import Derived.Test.YthjkfdakolejgaaGreatDoorProg
import Derived.Test.YthjkfdakolejgaaGreatDoorK12
import Derived.Test.YthjkfdakolejgaaGreatDoorK11
set_option linter.all false
set_option linter.unusedSimpArgs false
set_option linter.unusedVariables false
set_option linter.unusedSectionVars false
set_option maxHeartbeats 128000000
set_option maxRecDepth 100000
section
open Go Go.Proofs AF HY LN
namespace RC
def qhU(s:Str):List Tk:=if qhT s=0 then qfQ s else []
theorem qDe(s:Str)(h:List AObj)(hl:s.length≤1000)(hs:s≠ [])(hc:zQ s=0)(hg:zS h frmN frmC):ACalls Tryz.prog 173 [.agg [.str [],.int .i64 0],j9 s,.nl] h (.tup [zO (qhU s),.int .i64 (qhT s)]) h:=by
 have c1:=fun l=>qB0 s (h++l) om om hs hc hg.app
 have c2:=fun h=>qD7 h
 have c3:=fun h=>qCW [] h (by simp)
 rw[show qmj []=true from rfl]at c3;have c4:=fun l=>qDT s 8 (h++l) om om (fun l'=>qB0 s (h++l++l') om om hs hc hg.app.app)
 have c9:=fun l=>qDT s 9 (h++l) om om (fun l'=>qB0 s (h++l++l') om om hs hc hg.app.app)
 have c5:=fun h=>qEn s h
 unfold j9 at c1 c4 c5 c9;refine acO qys ?_;simp (disch:=omega) only[qwR,j9,go_sem]
 repeat' first
  |((first|refine cA (c1 _) ?_ ?_|refine cG (fun e=>c2 _) ?_ ?_|refine cA (c3 _) ?_ ?_|refine cA (c4 _) ?_ ?_|refine cA (c9 _) ?_ ?_);exact flk;simp (disch:=omega) only[go_sem])
  |(apply qb;exact rvk;simp only[go_sem])
  |with_reducible first|intro _|apply aiA
 all_goals try exact clz
 refine⟨_,_,(Wk.ownNil (j:=h.length+2) (i:=0) (k:=h.length+4) (v:=1) (ty:=248) (cs:= [.nl,.nilp,.nl,.bool false,.bool false,.bool false]) (ve:=0) (sz:=6) ?m1 rfl ?m2).trans
  (Wk.ownNil (j:=h.length+2) (i:=2) (k:=h.length+5) (v:=1) (ty:=248) (cs:= [.osl (h.length+4) 0 6 0 0,.nilp,.nl,.bool false,.bool false,.bool false]) (ve:=0) (sz:=1) ?m3 rfl ?m4),?_⟩
 case m1=>simp only[go_sem]
 case m2=>simp only[go_sem]
 case m3=>
  simp only[List.set_cons_zero,go_sem]
 case m4=>simp only[List.set_cons_zero,go_sem]
 simp (disch:=omega) only[List.set_cons_zero,List.set_cons_succ,go_sem]
 repeat' first
  |(refine cA (c5 _) flk ?_;simp (disch:=omega) only[go_sem])
 obtain⟨base,hbase⟩: ∃base:AObj→List AObj,base=fun O=>h++ [.mem 1 101 [.str [],.int .i64 0],.emp 1,.mem 1 248 [.osl (h.length+4) 0 6 0 0,.nilp,.osl (h.length+5) 0 1 0 0,.bool false,.bool false,.bool false],O,.emp 0,.emp 0]:=⟨_,rfl⟩
 have hbl: ∀O,(base O).length=h.length+6:=fun O=>by rw[hbase];simp
 have hT: ∀O,T3 (base O) (h.length+2) (h.length+4) (h.length+5):=fun O=>⟨by rw[hbl];omega,by rw[hbl];omega,by rw[hbl];omega,om,om,om⟩
 have f1: ∀ {O X Y Z l},qr (h.length+3) (tri (base O) (h.length+2) (h.length+4) (h.length+5) X Y Z++l)=some O:=fun {O X Y Z l}=>by
  rw[qAG (by rw[hbl];omega) om om om,hbase];simp only[go_sem]
 have f2: ∀ {O O' X Y Z l},qo (h.length+3) (tri (base O) (h.length+2) (h.length+4) (h.length+5) X Y Z++l) O'=tri (base O') (h.length+2) (h.length+4) (h.length+5) X Y Z++l:=fun {O O' X Y Z l}=>by
  rw[qAH (by rw[hbl];omega) om om om,hbase];simp only[go_sem]
 have f4: ∀ {v w ty cs X Y Z l},cellsOf (tri (base (.mem v ty cs)) (h.length+2) (h.length+4) (h.length+5) X Y Z++l) (h.length+3) w=if v=w then some cs else none:=fun {v w ty cs X Y Z l}=>by rw[zN,f1];rfl
 have eT: ∀ {O X Y Z},tri (base O) (h.length+2) (h.length+4) (h.length+5) X Y Z=h++ [.mem 1 101 [.str [],.int .i64 0],.emp 1,X,O,Y,Z]:=fun {O X Y Z}=>by
  rw[hbase];unfold tri;simp only[go_sem]
 have hst:base (.emp 0)=brO (base (.emp 0)) (h.length+2) (h.length+4) (h.length+5) 1 (brI 0 0 (s.take 0)):=by
  refine (qsy ?_ ?_ ?_).symm
  ·rw[hbase];simp only[go_sem];rfl
  ·rw[hbase];simp only[go_sem];rfl
  ·rw[hbase];simp only[go_sem];rfl
 have hLow: ∀(q:Br) O,(∀n,lowO n O)→LowI (base (.emp 0)) (brO (base O) (h.length+2) (h.length+4) (h.length+5) 1 q):=fun q O lO=>by
  refine⟨by rw[qd8,hbl,hbl],fun o ho=> ?_⟩;rcases qvz ho with h1|rfl|rfl|rfl
  ·rw[hbase]at h1 ⊢;rcases List.mem_append.1 h1 with h1|h1
   ·exact .inl (List.mem_append_left _ h1)
   ·simp only[List.mem_cons,List.not_mem_nil,or_false]at h1;rcases h1 with rfl|rfl|rfl|rfl|rfl|rfl
    ·left;simp
    ·left;simp
    ·left;simp
    ·right;exact⟨lO _,lO _⟩
    ·left;simp
    ·left;simp
  ·right
   have:=jN (hT O) 1 q
   rw[hbl]at this ⊢;exact⟨this,lowO_mono om this⟩
  ·right;exact⟨qac _ _,qac _ _⟩
  ·right;exact⟨ja _ _ _,ja _ _ _⟩
 have e0:h++ [.mem 1 101 [.str [],.int .i64 0],.emp 1,.mem 1 248 [.osl (h.length+4) 0 6 0 0,.nilp,.osl (h.length+5) 0 1 0 0,.bool false,.bool false,.bool false],.emp 0,.emp 0,.emp 0]=base (.emp 0):=by rw[hbase]
 rw[e0];refine zk (xs:=atX s) (itA s om) (fun a ha=> ?_)
  (S:=fun i hh=> ∃O,qI [O] 0=true∧(∀n,lowO n O)∧hh=brO (base O) (h.length+2) (h.length+4) (h.length+5) 1 (brI 0 0 (s.take i))) (E:=fun _ _=>False) ?_ ?_ ?_ ?_ ?_ ?_ ?_
 ·obtain⟨c,_,rfl⟩:=List.mem_map.1 (show a∈s.map _ from ha);rfl
 ·rintro i hh ⟨O,_,l1,rfl⟩;exact hLow _ _ l1
 ·intro s hh hf;exact hf.elim
 ·exact⟨.emp 0,rfl,fun _=>trivial,hst⟩
 ·rw[hbl];simp[qU,qU.lowVs]
  try omega
 ·rintro i hh tl LI TS hi ⟨O,s1,l1,rfl⟩ hlen K K2 hK hN hR' hX;have hi':i<s.length:=by rw[qcU]at hi;exact hi
  rw[qrK hi];have t:=hT O;have f3: ∀ {X Y Z l},qI (tri (base O) (h.length+2) (h.length+4) (h.length+5) X Y Z++l) (h.length+3)=true:=fun {X Y Z l}=>by unfold qI;rw[f1];exact s1
  simp only[kF];unfold brO;simp (disch:=omega) only[f1,f2,f3,f4,atC,go_sem];refine hK _ _ (brO (base (.mem (qq (some O)+1) 253 (atC 1 (ch s i)))) (h.length+2) (h.length+4) (h.length+5) 1 (brI 0 0 (s.take i))) ?_ ?_ ?_
  ·rfl
  ·rw[qd8,hbl,hbl]
  ·have cA:=qkS (va:=1) (fun h' t'=>qBK (va:=1) t' (brI 0 0 (s.take i)) (ch s i) (qrL 0 0 s om om)) (hT (.mem (qq (some O)+1) 253 (atC 1 (ch s i)))) (.lp .busy TS LI::tl);unfold brO atC at cA;unfold brO;simp (disch:=omega) only[f4,atC,go_sem];refine qy cA (by exact flk) ?_;simp (disch:=omega) only[go_sem];refine hN _ _ (brO (base (.mem (qq (some O)+1) 253 (atC 1 (ch s i)))) (h.length+2) (h.length+4) (h.length+5) 1 ((brI 0 0 (s.take i)).pt (ch s i))) rfl (by rw[qd8,hbl,hbl]) ⟨_,?_,?_,by rw[qoQ 0 0 s hi']⟩
   ·rfl
   ·intro n d hd;simp[atC]at hd;rcases hd with rfl|rfl|rfl|rfl|rfl|rfl|rfl<;>rfl
 ·rintro hh ⟨O,s1,l1,rfl⟩;have t:=hT O;rw[qcU,List.take_length];have hqo:=qrL 0 0 s om (nlr s.length);have hqb:=qwt 0 0 s s.length (nlr _);rw[List.take_length]at hqo hqb;obtain⟨q,hq⟩: ∃q,q=brI 0 0 s:=⟨_,rfl⟩
  rw[←hq]at hqo hqb ⊢;obtain⟨n1,n2,n3,n4⟩:=qsk hqb (qe6 s);have n1:q.nd.out=qa8 s:=n1;have cE:=qsQ (va:=1) t q (fun e=>(hqo.op e).1) hqo.cl (by have:=hqo.n;omega) (by have:=hqo.w;omega);simp (disch:=omega) only[go_sem];refine qy cE (by exact flk) ?_;obtain⟨r,hr⟩: ∃r,r=q.nd:=⟨_,rfl⟩
  rw[←hr]at n1 ⊢;have zga: ∀ {X Y Z l},qr (h.length+2) (tri (base O) (h.length+2) (h.length+4) (h.length+5) X Y Z++l)=some X:=qao (t);have yga: ∀ {X Y Z},qr (h.length+2) (tri (base O) (h.length+2) (h.length+4) (h.length+5) X Y Z)=some X:=fun {X Y Z}=>by have:=zga (X:=X) (Y:=Y) (Z:=Z) (l:= []);simpa only[lan] using this
  have zgb: ∀ {X Y Z l},qr (h.length+4) (tri (base O) (h.length+2) (h.length+4) (h.length+5) X Y Z++l)=some Y:=qaK (t);have ygb: ∀ {X Y Z},qr (h.length+4) (tri (base O) (h.length+2) (h.length+4) (h.length+5) X Y Z)=some Y:=fun {X Y Z}=>by have:=zgb (X:=X) (Y:=Y) (Z:=Z) (l:= []);simpa only[lan] using this
  have zgc: ∀ {X Y Z l},qr (h.length+5) (tri (base O) (h.length+2) (h.length+4) (h.length+5) X Y Z++l)=some Z:=qap (t);have ygc: ∀ {X Y Z},qr (h.length+5) (tri (base O) (h.length+2) (h.length+4) (h.length+5) X Y Z)=some Z:=fun {X Y Z}=>by have:=zgc (X:=X) (Y:=Y) (Z:=Z) (l:= []);simpa only[lan] using this
  have zsa: ∀ {X Y Z o l},qo (h.length+2) (tri (base O) (h.length+2) (h.length+4) (h.length+5) X Y Z++l) o=tri (base O) (h.length+2) (h.length+4) (h.length+5) o Y Z++l:=qaL (t);have ysa: ∀ {X Y Z o},qo (h.length+2) (tri (base O) (h.length+2) (h.length+4) (h.length+5) X Y Z) o=tri (base O) (h.length+2) (h.length+4) (h.length+5) o Y Z:=fun {X Y Z o}=>by have:=zsa (X:=X) (Y:=Y) (Z:=Z) (o:=o) (l:= []);simpa only[lan] using this
  have zsb: ∀ {X Y Z o l},qo (h.length+4) (tri (base O) (h.length+2) (h.length+4) (h.length+5) X Y Z++l) o=tri (base O) (h.length+2) (h.length+4) (h.length+5) X o Z++l:=qaW (t);have ysb: ∀ {X Y Z o},qo (h.length+4) (tri (base O) (h.length+2) (h.length+4) (h.length+5) X Y Z) o=tri (base O) (h.length+2) (h.length+4) (h.length+5) X o Z:=fun {X Y Z o}=>by have:=zsb (X:=X) (Y:=Y) (Z:=Z) (o:=o) (l:= []);simpa only[lan] using this
  have zsc: ∀ {X Y Z o l},qo (h.length+5) (tri (base O) (h.length+2) (h.length+4) (h.length+5) X Y Z++l) o=tri (base O) (h.length+2) (h.length+4) (h.length+5) X Y o++l:=qaX (t);have ysc: ∀ {X Y Z o},qo (h.length+5) (tri (base O) (h.length+2) (h.length+4) (h.length+5) X Y Z) o=tri (base O) (h.length+2) (h.length+4) (h.length+5) X Y o:=fun {X Y Z o}=>by have:=zsc (X:=X) (Y:=Y) (Z:=Z) (o:=o) (l:= []);simpa only[lan] using this
  have zca: ∀ {X Y Z v l},cellsOf (tri (base O) (h.length+2) (h.length+4) (h.length+5) X Y Z++l) (h.length+2) v=qu (some X) v:=qbE (t);have yca: ∀ {X Y Z v},cellsOf (tri (base O) (h.length+2) (h.length+4) (h.length+5) X Y Z) (h.length+2) v=qu (some X) v:=fun {X Y Z v}=>by have:=zca (X:=X) (Y:=Y) (Z:=Z) (v:=v) (l:= []);simpa only[lan] using this
  have zcb: ∀ {X Y Z v l},cellsOf (tri (base O) (h.length+2) (h.length+4) (h.length+5) X Y Z++l) (h.length+4) v=qu (some Y) v:=qbF (t);have ycb: ∀ {X Y Z v},cellsOf (tri (base O) (h.length+2) (h.length+4) (h.length+5) X Y Z) (h.length+4) v=qu (some Y) v:=fun {X Y Z v}=>by have:=zcb (X:=X) (Y:=Y) (Z:=Z) (v:=v) (l:= []);simpa only[lan] using this
  have zcc: ∀ {X Y Z v l},cellsOf (tri (base O) (h.length+2) (h.length+4) (h.length+5) X Y Z++l) (h.length+5) v=qu (some Z) v:=qbG (t);have ycc: ∀ {X Y Z v},cellsOf (tri (base O) (h.length+2) (h.length+4) (h.length+5) X Y Z) (h.length+5) v=qu (some Z) v:=fun {X Y Z v}=>by have:=zcc (X:=X) (Y:=Y) (Z:=Z) (v:=v) (l:= []);simpa only[lan] using this
  have zla: ∀ {X Y Z v l},qz (tri (base O) (h.length+2) (h.length+4) (h.length+5) X Y Z++l) (h.length+2) v=qF (some X) v:=qbH (t);have yla: ∀ {X Y Z v},qz (tri (base O) (h.length+2) (h.length+4) (h.length+5) X Y Z) (h.length+2) v=qF (some X) v:=fun {X Y Z v}=>by have:=zla (X:=X) (Y:=Y) (Z:=Z) (v:=v) (l:= []);simpa only[lan] using this
  have zlb: ∀ {X Y Z v l},qz (tri (base O) (h.length+2) (h.length+4) (h.length+5) X Y Z++l) (h.length+4) v=qF (some Y) v:=qbI (t);have ylb: ∀ {X Y Z v},qz (tri (base O) (h.length+2) (h.length+4) (h.length+5) X Y Z) (h.length+4) v=qF (some Y) v:=fun {X Y Z v}=>by have:=zlb (X:=X) (Y:=Y) (Z:=Z) (v:=v) (l:= []);simpa only[lan] using this
  have zlc: ∀ {X Y Z v l},qz (tri (base O) (h.length+2) (h.length+4) (h.length+5) X Y Z++l) (h.length+5) v=qF (some Z) v:=qbJ (t);have ylc: ∀ {X Y Z v},qz (tri (base O) (h.length+2) (h.length+4) (h.length+5) X Y Z) (h.length+5) v=qF (some Z) v:=fun {X Y Z v}=>by have:=zlc (X:=X) (Y:=Y) (Z:=Z) (v:=v) (l:= []);simpa only[lan] using this
  have hrl:=qfR s;have hor:r.out.length=(qa8 s).length:=by rw[n1]
  have k1:((1024:Int)<r.out.length)=False:=eqf om;have hcE:=fun h=>qET (qa8 s) h om
  unfold brO brX brY;rw[n1];rw[n1]at k1;have hL:=jJ (qa8 s);have hb64:=qbV (L:=qa8 s);have hTE:qhT s=if qun (qa8 s)=true then 4 else 0:=rfl
  have hTL:qhU s=if qhT s=0 then qfQ s else []:=rfl
  cases hB:qun (qa8 s)with
  |true=>
   rw[hB]at hTE hcE;rw[ipo rfl]at hTE;rw[hTE,ine (by decide)]at hTL;rw[hTE,hTL];simp (disch:=omega) only[yca,ylb,ql,qX,k1,go_sem];refine cG (fun _=>ACalls.borrow (r:= .bool true) ((hcE []).le ?g1 (qi)) rfl) (fun _=>by exact flk) ?_
   case g1=>
    simp only[List.map_cons,List.map_nil,go_sem,if_true];rw[ygb];exact⟨qeB rfl,qi,trivial⟩
   simp (disch:=omega) only[yca,ql,go_sem]
   repeat' first
    |with_reducible apply aiA
   ·rw[eT];simp only[go_sem]
   ·rw[eT];simp only[go_sem];refine qeh rfl ⟨trivial,trivial,trivial⟩ ⟨rfl,rfl⟩ ?_;simp only[go_sem];exact VLe.tup ⟨zg,qi,trivial⟩
  |false=>
   rw[hB]at hTE hcE;rw[ine (by simp)]at hTE;rw[hTE,ipo rfl]at hTL;rw[hTE,hTL];simp (disch:=omega) only[yca,ylb,ql,qX,k1,go_sem];refine cG (fun _=>ACalls.borrow (r:= .bool false) ((hcE []).le ?g2 (qi)) rfl) (fun _=>by exact flk) ?_
   case g2=>
    simp only[List.map_cons,List.map_nil,go_sem,if_true];rw[ygb];exact⟨qeB rfl,qi,trivial⟩
   simp (disch:=omega) only[yca,ql,go_sem];refine qy (qCZ (qa8 s) (h.length+4) r.vo _ ygb (qhV s) (hb64.1 hB) om) (by exact flk) ?_;simp (disch:=omega) only[ysb,go_sem]
   repeat' first
    |with_reducible apply aiA
   all_goals try exact clz
   rw[eT];refine qeh rfl ⟨trivial,trivial,trivial⟩ ⟨rfl,rfl⟩ ?_;simp only[go_sem];exact VLe.tup ⟨qeB (by simp[qfQ]),qi,trivial⟩
 ·intro e hh hf;exact hf.elim
end RC
end
section
open Go Go.Proofs AF
def qhl:List Nat:= [173]
def qoW:C:=
 ((C.ops [ON 2 (.nilo 0 1 9) [],MC 3 (i6 0)]).seq (((C.ops [MV 7 0,O1 8 (.call 172 true) 7,MV 4 8]).seq ((C.ops [MV 9 4,BC 10 .neq 9 (i6 0)]).seq (C.cond (.t 10) ((C.ops [MV 11
 4,ON 2 (.nilo 0 1 9) [],MV 3 11]).seq C.ret) C.skip))).seq (((C.ops [MV 12 0,BC 13 .eql 12 (.str [])]).seq (C.cond (.t 13) ((C.ops [ON 2 (.nilo 0 1 9) [],MC 3 (i6 0)]).seq
 C.ret) C.skip)).seq ((C.ops [⟨some 15,none,.build [.str [],i6 0] [],[]⟩,MV 16 0,⟨some 17,none,.build [i6 0,.str [],i6 0,.nl] [(0,1),(1,1)],[.c (i6 1),.t 16]⟩,⟨some
 18,none,.bslc 1 4 1 189 [i6 0,.str [],i6 0,.nl] [(0,4)],[.t 17]⟩,ON 19 (.call 173 false) [.t 15,.t 18,.c .nl],MV 14 19,O1 20 (.ext 0) 14,O1 21 (.ext 1) 14,MV 5 20,MV
 6 21]).seq ((C.ops [MV 22 5,O1 23 (.call 90 true) 22,MV 24 6,MV 2 23,MV 3 24]).seq
 C.ret)))))
theorem qlI:qL Tryz.prog 127 25 2 [RV.tmp 2,RV.tmp 3] qoW:=fi Tryz.f127 [2,18] qhl []
def qwC:C:=
 ((C.ops [ON 2 (.nilo 0 6 103) []]).seq ((C.ops [⟨some 6,none,.build [.str [],i6 0] [],[]⟩,MV 7 0,⟨some 8,none,.build [i6 0,.str [],i6 0,.nl] [(0,1),(1,1)],[.c (i6
 1),.t 7]⟩,⟨some 9,none,.bslc 1 4 1 189 [i6 0,.str [],i6 0,.nl] [(0,4)],[.t 8]⟩,ON 10 (.call 173 false) [.t 6,.t 9,.c .nl],MV 5 10,O1 11 (.ext 0) 5,O1 12 (.ext 1) 5,
 MV 3 11,MV 4 12]).seq ((C.ops [MV 13 3,MV 2 13]).seq
 C.ret)))
theorem qyb:qL Tryz.prog 134 14 2 [RV.tmp 2] qwC:=fi Tryz.f134 [2,9] qhl []
end
section
open Go Go.Proofs AF
def jD:List Nat:= []
def qdE:C:=
 ((C.ops [O1 3 (.box 0 26) 0,O1 5 (.box 1 43) 2,MC 6 (i6 0),MC 7 (i6 0)]).seq ((C.block 0 ((C.ops [O1 15 (.fldA 0) 5,LD 16 15,BC 17 .lss 16 (i6 1),MV 18 17,P1 19 18 false
 (.fldA 0) 5,P1 20 18 false (.load none) 19,PC 21 18 false (.bin .gtr) 20 (i6 3),PT 22 18 21,MV 14 22]).seq (C.cond (.t 14) ((C.ops [MC 6 (i6 0),MC 7 (i6 8)]).seq C.ret)
 ((C.ops [O1 24 (.fldA 3) 5,LD 25 24,BC 26 .neq 25 (.str []),MV 27 26,P1 28 27 true (.fldA 0) 5,P1 29 27 true (.load none) 28,PC 30 27 true (.bin .neq) 29 (i6 2),PF 31 27 30,
 MV 23 31]).seq (C.cond (.t 23) ((C.ops [MC 6 (i6 0),MC 7 (i6 1)]).seq C.ret) C.skip))))).seq ((C.ops [O1 32 (.fldA 1) 3,LD 33 32,O1 34 (.fldA 1) 5,LD 35 34,O2 36 (.call 22
 true) 33 35,MV 8 36]).seq (((C.ops [MV 37 8,BC 38 .lss 37 (i6 0)]).seq (C.cond (.t 38) ((C.ops [MC 6 (i6 0),MC 7 (i6 6)]).seq C.ret) C.skip)).seq ((C.ops [O1 40 (.load (some 4))
 3,MV 41 8,O1 42 (.fldA 2) 5,LD 43 42,ON 44 (.call 126 true) [.t 40,.t 41,.t 43],MV 39 44,O1 45 (.ext 0) 39,O1 46 (.ext 1) 39,MV 9 45,MV 10 46]).seq (((C.ops [MV 47 10,
 BC 48 .neq 47 (i6 0)]).seq (C.cond (.t 48) ((C.ops [MC 6 (i6 0),MC 7 (i6 6)]).seq C.ret) C.skip)).seq ((C.ops [MV 50 1,MV 51 9,O2 52 (.call 42 true) 50 51,MV 49 52,O1 53 (.ext
 0) 49,O1 54 (.ext 1) 49,MV 11 53,MV 10 54]).seq (((C.ops [MV 55 10,BC 56 .neq 55 (i6 0),MV 57 56,MG 58 57 false 11,PC 59 57 false (.bin .lss) 58 (i6 0),PT 60 57 59]).seq
 (C.cond (.t 60) ((C.ops [MC 6 (i6 0),MC 7 (i6 20)]).seq C.ret) C.skip)).seq (((C.ops [O1 61 (.fldA 0) 5,LD 62 61,BC 63 .eql 62 (i6 2)]).seq (C.cond (.t 63) ((C.ops [O1 65 (.fldA
 3) 5,LD 66 65,O1 67 (.call 127 true) 66,MV 64 67,O1 68 (.ext 0) 64,O1 69 (.ext 1) 64,MV 12 68,MV 13 69]).seq (((C.ops [MV 70 13,BC 71 .neq 70 (i6 0)]).seq (C.cond (.t 71)
 ((C.ops [MV 72 13,MC 6 (i6 0),MV 7 72]).seq C.ret) C.skip)).seq ((C.ops [MV 73 12,O1 74 .len 73,BC 75 .eql 74 (i6 0)]).seq (C.cond (.t 75) ((C.ops [MC 6 (i6 0),MC 7 (i6
 5)]).seq C.ret) C.skip)))) C.skip)).seq ((C.ops [MV 76 11,MV 6 76,MC 7 (i6 0)]).seq
 C.ret))))))))))
theorem qai:qL Tryz.prog 75 77 2 [RV.tmp 6,RV.tmp 7] qdE:=fi Tryz.f75 [3,5] jD []
def qBS:C:=
 ((C.ops [O1 3 (.box 0 26) 0,ON 6 (.nilo 1 1 3) [],MC 7 (i6 0)]).seq (((C.ops [MV 13 2,O1 14 .len 13,BC 15 .gtr 14 (i6 256)]).seq (C.cond (.t 15) ((C.ops [ON 6 (.nilo 1 1 3) [],
 MC 7 (i6 4)]).seq C.ret) C.skip)).seq ((C.ops [ON 8 (.nilo 2 1 3) []]).seq (((C.ops [MV 16 2,O1 17 .len 16,MC 18 (i6 0)]).seq (C.block 0 ((C.ops [BI 19 .lss 18 17]).seq ((C.cond
 (.t 19) C.skip (C.exit 0)).seq ((C.block 1 ((C.ops [O2 20 (.idxA 4) 16 18,O1 21 (.load (some 4)) 20,⟨some 10,none,.alloc 3 43 [i6 0,.str [],i6 0,.str []],[]⟩,ST 4 10
 21]).seq ((C.ops [O1 23 (.load (some 4)) 3,MV 24 1,O1 25 (.load (some 4)) 10,ON 26 (.call 75 true) [.t 23,.t 24,.t 25],MV 22 26,O1 27 (.ext 0) 22,O1 28 (.ext 1) 22,MV 11
 27,MV 12 28]).seq (((C.ops [MV 29 12,BC 30 .neq 29 (i6 0)]).seq (C.cond (.t 30) ((C.ops [MV 31 12,ON 6 (.nilo 1 1 3) [],MV 7 31]).seq C.ret) C.skip)).seq (C.ops [MV 32 8,MV 33
 11,⟨some 34,none,.bslc 4 1 1 3 [i6 0] [(0,1)],[.t 33]⟩,O2 35 (.app 5 1 3 8) 32 34,MV 8 35]))))).seq (C.ops [BC 36 .add 18 (i6 1),MV 18 36])))).loop)).seq ((C.ops [MV 37 8,
 MV 6 37,MC 7 (i6 0)]).seq
 C.ret)))))
theorem qzj:qL Tryz.prog 77 38 6 [RV.tmp 6,RV.tmp 7] qBS:=fi Tryz.f77 [3,6,8,10,34,35] jD []
def qxC:C:=
 ((C.ops [MC 4 (.bool false)]).seq (((C.ops [MV 5 0,O1 6 (.call 129 true) 5]).seq (C.cond (.t 6) ((C.ops [MV 7 1,O1 8 (.call 129 true) 7,O1 9 (.un UnOp.not) 8,MV 10 9,MG 11 10
 true 1,PC 12 10 true (.bin .neq) 11 (.str [39]),PF 13 10 12,MV 4 13]).seq C.ret) C.skip)).seq ((C.ops [MC 4 (.bool true)]).seq
 C.ret)))
theorem qpJ:qL Tryz.prog 80 14 0 [RV.tmp 4] qxC:=fi Tryz.f80 [] jD []
def qDI:C:=
 ((C.ops [O1 4 (.box 0 26) 0,O1 5 (.box 1 3) 1,O1 6 (.box 2 3) 2,O1 7 (.box 3 3) 3,MC 8 .nilfn]).seq ((C.ops [ON 9 (.mkfn (Fn.func 130) 0) [.t 5,.t 6,.t 4,.t 7],MV 8 9]).seq
 C.ret))
theorem qCu:qL Tryz.prog 82 10 4 [RV.tmp 8] qDI:=fi Tryz.f82 [4,5,6,7] jD []
def qwy:C:=
 ((C.ops [LD 8 1,MV 6 8]).seq (C.block 0 (((C.ops [MV 9 6,LD 10 2,BI 11 .lss 9 10]).seq (C.cond (.t 11) C.skip (C.exit 0))).seq ((C.block 1 ((C.ops [O1 14 (.fldA 3) 3,LD 15 14,
 MV 16 6,O2 17 (.idxA 1) 15 16,LD 18 17,LD 19 4,O2 20 (.idxA 1) 18 19,LD 21 20,MV 7 21]).seq ((C.ops [MV 22 7,BC 23 .geq 22 (i6 0),MV 24 23,MG 25 24 true 0,P1 26 24 true
 (.fldA 2) 3,P1 27 24 true (.load none) 26,P1 28 24 true (.load none) 4,P2 29 24 true (.idxA 1) 27 28,P1 30 24 true (.load none) 29,MG 31 24 true 7,P2 32 24 true (.idxA 6) 30
 31,P1 33 24 true (.load (some 6)) 32,MG 34 24 true 6,⟨some 35,some (24,true),.build [.str [],.str [],.str [],i6 0,i6 0,.str [],i6 0] [(0,6),(6,1)],[.t 33,.t 34]⟩,
 P2 36 24 true .callv 25 35,P1 37 24 true (.un UnOp.not) 36,PF 38 24 37]).seq (C.cond (.t 38) C.ret C.skip)))).seq (C.ops [MV 12 6,BC 13 .add 12 (i6 1),MV 6
 13]))).loop))
theorem qx7:qL Tryz.prog 130 39 0 [] qwy:=fi Tryz.f130 [] jD []
def qDJ:C:=
 ((C.ops [⟨some 0,none,.alloc 0 124 [.nilfn,.nilfn,.nilfn,.nilfn],[]⟩]).seq ((C.ops [⟨some 1,none,.build [.nilfn,.nilfn,.nilfn,.nilfn] [(1,1),(2,1),(3,1)],[.c (.fn
 (Fn.func 131) [] []),.c (.fn (Fn.func 133) [] []),.c (.fn (Fn.func 135) [] [])]⟩,ST 4 0 1]).seq
 C.ret))
theorem qCv:qL Tryz.prog 83 2 1 [RV.cell 0 (some 4)] qDJ:=fi Tryz.f83 [0] jD []
def qwz:C:=
 ((C.ops [O1 3 (.box 0 26) 0,O1 4 (.box 1 64) 1,O1 5 (.box 2 43) 2,ON 6 (.nilo 3 7 115) []]).seq ((C.ops [O1 7 (.load (some 4)) 3,O1 8 (.fldA 0) 4,LD 9 8,O1 10 (.fldA 1) 4,LD
 11 10,O1 12 (.fldA 1) 3,LD 13 12,O1 14 (.fldA 1) 5,LD 15 14,O2 16 (.call 22 true) 13 15,ON 17 (.call 82 true) [.t 7,.t 9,.t 11,.t 16],O1 18 (.call 132 true) 17,MV 6
 18]).seq
 C.ret))
theorem qx8:qL Tryz.prog 131 19 4 [RV.tmp 6] qwz:=fi Tryz.f131 [3,4,5,6] jD []
def qwB:C:=
 ((C.ops [O1 3 (.box 0 26) 0,O1 4 (.box 1 64) 1,O1 5 (.box 2 43) 2,ON 6 (.nilo 3 7 115) []]).seq ((C.ops [ON 7 (.nilo 4 7 115) []]).seq (((C.ops [O1 10 (.fldA 3) 5,LD 11 10,O1
 12 (.call 134 true) 11,O1 13 .len 12,MC 14 (i6 0)]).seq (C.block 0 ((C.ops [BI 15 .lss 14 13]).seq ((C.cond (.t 15) C.skip (C.exit 0)).seq ((C.block 1 ((C.ops [O2 16 (.idxA 6) 12
 14,O1 17 (.load (some 6)) 16,⟨some 9,none,.alloc 5 103 [.str [],.str [],.str [],i6 0,i6 0,.str []],[]⟩,ST 6 9 17]).seq ((C.ops [O1 18 (.fldA 4) 9,LD 19 18,BC 20
 .andNot 19 (i6 4),O1 21 (.fldA 4) 9,ST 1 21 20]).seq ((C.ops [O1 22 (.fldA 5) 9,⟨none,none,.store 1,[.t 22,.c (.str [])]⟩]).seq (C.ops [MV 23 7,O1 24 (.load (some 6)) 9,O1
 25 (.fldA 0) 4,LD 26 25,⟨some 27,none,.build [.str [],.str [],.str [],i6 0,i6 0,.str [],i6 0] [(0,6),(6,1)],[.t 24,.t 26]⟩,⟨some 28,none,.bslc 6 7 1 115 [.str [],
 .str [],.str [],i6 0,i6 0,.str [],i6 0] [(0,7)],[.t 27]⟩,O2 29 (.app 7 7 115 88) 23 28,MV 7 29]))))).seq (C.ops [BC 30 .add 14 (i6 1),MV 14 30])))).loop)).seq ((C.ops [MV
 31 7,MV 6 31]).seq
 C.ret))))
theorem qya:qL Tryz.prog 133 32 8 [RV.tmp 6] qwB:=fi Tryz.f133 [3,4,5,6,7,9,28,29] jD []
def qwD:C:=
 ((C.ops [O1 3 (.box 0 26) 0,O1 4 (.box 1 64) 1,O1 5 (.box 2 43) 2,ON 6 (.nilo 3 7 115) []]).seq ((C.ops [ON 6 (.nilo 3 7 115) []]).seq
 C.ret))
theorem qyc:qL Tryz.prog 135 7 4 [RV.tmp 6] qwD:=fi Tryz.f135 [3,4,5,6] jD []
def qwA:C:=
 ((C.ops [ON 2 (.nilo 0 7 115) []]).seq ((C.ops [MV 3 0,ON 4 (.call 179 true) [.c .nl,.t 3],MV 2 4]).seq
 C.ret))
theorem qx9:qL Tryz.prog 132 5 1 [RV.tmp 2] qwA:=fi Tryz.f132 [2] jD []
def qoV:C:=
 ((C.ops [O1 3 (.box 0 26) 0,O1 4 (.box 1 3) 1,O1 5 (.box 2 3) 2,MC 6 (i6 0),MC 7 (i6 0)]).seq (((C.ops [O1 8 (.load (some 4)) 3,O1 9 (.call 67 true) 8,BC 10 .neq 9 (i6
 0)]).seq (C.cond (.t 10) ((C.ops [MC 6 (i6 0),MC 7 (i6 1)]).seq C.ret) C.skip)).seq (((C.ops [LD 11 4,BC 12 .lss 11 (i6 0),MV 13 12,P1 14 13 false (.load none) 4,P1 15 13
 false (.fldA 1) 3,P1 16 13 false (.load none) 15,P1 17 13 false .len 16,P2 18 13 false (.bin .geq) 14 17,PT 19 13 18,MV 20 19,P1 21 20 false (.load none) 5,PC 22 20 false
 (.bin .lss) 21 (i6 0),PT 23 20 22,MV 24 23,P1 25 24 false (.load none) 5,P1 26 24 false (.fldA 2) 3,P1 27 24 false (.load none) 26,P1 28 24 false (.load none) 4,P2 29 24
 false (.idxA 1) 27 28,P1 30 24 false (.load none) 29,P1 31 24 false .len 30,P2 32 24 false (.bin .geq) 25 31,PT 33 24 32]).seq (C.cond (.t 33) ((C.ops [MC 6 (i6 0),MC 7 (i6
 2)]).seq C.ret) C.skip)).seq ((C.ops [O1 34 (.fldA 3) 3,LD 35 34,O2 36 (.mkfn (Fn.func 171) 0) 4 5,O2 37 (.call 170 true) 35 36,MV 6 37,MC 7 (i6 0)]).seq
 C.ret))))
theorem qlH:qL Tryz.prog 126 38 3 [RV.tmp 6,RV.tmp 7] qoV:=fi Tryz.f126 [3,4,5] jD []
def qwQ:C:=
 ((C.ops [MC 4 (.bool false)]).seq ((C.ops [MV 5 0,LD 6 1,O2 7 (.idxA 1) 5 6,LD 8 7,LD 9 2,BI 10 .eql 8 9,MV 4 10]).seq
 C.ret))
theorem qyr:qL Tryz.prog 171 11 0 [RV.tmp 4] qwQ:=fi Tryz.f171 [] jD []
def qDH:C:=
 ((C.ops [O1 2 (.box 0 26) 0,ON 4 (.nilo 1 1 9) [],MC 5 (i6 0)]).seq (((C.ops [O1 6 (.load (some 4)) 2,O1 7 (.call 67 true) 6,BC 8 .neq 7 (i6 0)]).seq (C.cond (.t 8) ((C.ops [ON
 4 (.nilo 1 1 9) [],MC 5 (i6 1)]).seq C.ret) C.skip)).seq (((C.ops [MV 9 1,BC 10 .lss 9 (i6 0),MV 11 10,MG 12 11 false 1,P1 13 11 false (.fldA 3) 2,P1 14 11 false (.load none)
 13,P1 15 11 false .len 14,P2 16 11 false (.bin .geq) 12 15,PT 17 11 16]).seq (C.cond (.t 17) ((C.ops [ON 4 (.nilo 1 1 9) [],MC 5 (i6 2)]).seq C.ret) C.skip)).seq ((C.ops [O1 18
 (.load (some 4)) 2,MV 19 1,O2 20 (.call 96 true) 18 19,MV 4 20,MC 5 (i6 0)]).seq
 C.ret))))
theorem qCs:qL Tryz.prog 45 21 2 [RV.tmp 4,RV.tmp 5] qDH:=fi Tryz.f45 [2,4] jD []
def qDR:C:=
 ((C.ops [O1 2 (.box 0 26) 0,ON 4 (.nilo 1 1 9) []]).seq ((C.ops [O1 8 (.fldA 1) 2,LD 9 8,O1 10 .len 9,⟨some 11,none,.mkslc 2 1 9 [.str []] 16,[.t 10,.t 10]⟩,MV 5 11]).seq
 (((C.ops [O1 12 (.fldA 3) 2,LD 13 12,MV 14 1,O2 15 (.idxA 1) 13 14,LD 16 15,O1 17 .len 16,MC 18 (i6 0)]).seq (C.block 0 ((C.ops [BI 19 .lss 18 17]).seq ((C.cond (.t 19)
 C.skip (C.exit 0)).seq ((C.block 1 ((C.ops [MV 20 18,O2 21 (.idxA 1) 16 18,LD 22 21,MV 6 20,MV 7 22]).seq ((C.ops [MV 23 7,BC 24 .geq 23 (i6 0)]).seq (C.cond (.t 24) (C.ops
 [MV 25 5,MV 26 6,O1 27 (.fldA 2) 2,LD 28 27,MV 29 6,O2 30 (.idxA 1) 28 29,LD 31 30,MV 32 7,O2 33 (.idxA 6) 31 32,O1 34 (.fldA 0) 33,LD 35 34,O2 36 (.idxA 1) 25 26,ST 1
 36 35]) C.skip)))).seq (C.ops [BC 37 .add 18 (i6 1),MV 18 37])))).loop)).seq ((C.ops [MV 38 5,MV 4 38]).seq
 C.ret))))
theorem qCD:qL Tryz.prog 96 39 3 [RV.tmp 4] qDR:=fi Tryz.f96 [2,4,11] jD []
end
section
open Go Go.Proofs AF HY LN
namespace AF
theorem ACalls.frzd{P:Program}{f:FuncId}{args:List AV}{h h':List AObj}{r:AV}(ks:List Nat)(hs:qaJ ks h=true)(hc:ACalls P f (args.map (frz (fun k=>ks.contains k) h 8)) (qdq ks h) r h'):ACalls P f args h r h':=by
 refine⟨hc.1,fun w σ xs H hv=> ?_⟩;obtain⟨σ1,g1,g2,g3,g4⟩:=qfq ks H hs;have hv1:VRs w σ1 (args.map (frz (fun k=>ks.contains k) h 8)) xs:=⟨by rw[hv.1];simp,fun i c x hc hx=>by
  rw[List.getElem?_map,Option.map_eq_some_iff]at hc;obtain⟨c0,hc,rfl⟩:=hc
  exact qlP H (fun b hb=>(g4 b hb).elim fun j ⟨o,h1,h2,h3⟩=>⟨j,o,by simpa using h1,h2,h3⟩) (fun j o hj ho=>g3 j o (by simpa using hj) ho) 8 (hv.2 i c0 x hc hx)⟩
 refine (hc.2 w σ1 xs g1 hv1).mono ?_;rintro e w' ⟨v,σ',rfl,k1,k2,k3⟩;exact⟨v,σ',rfl,k1,k2,g2.trans k3⟩
end AF
namespace RC
def qnV(b:List Tk):List Str:=b.map Tk.text
theorem qro(s:Str):(qhU s).length≤s.length:=by
 unfold qhU;split
 ·exact qeK s
 ·exact nzl _
theorem qFx(b:List Tk)(h:List AObj)(hn:b.length≤1000000):ACalls Tryz.prog 90 [zO b] h (strs (qnV b)) h:=by
 refine acO qCA ?_;simp (disch:=omega) only[qDO,zO,go_sem];refine qt (T:=fun s:Nat×Nat×AObj×AObj=>qY 19 [(6,zO b),(7,.int .i64 b.length),(8,.int .i64 s.1),(3,.osl (h.length+1) s.2.1 1 0 s.1)])
  (H:=fun s=>h++ [.emp 1,qZ s.2.1 9 (jt (qnV (b.take s.1))),s.2.2.1,s.2.2.2,.emp 0])
  (inv:=fun s=>s.1≤b.length∧qI [s.2.2.1] 0=true∧qI [s.2.2.2] 0=true) (m:=fun s=>b.length-s.1) (0,1,.emp 0,.emp 0) ⟨nzl _,rfl,rfl⟩ (Wk.temps ?_) ?_
 ·(simp only[zO,go_sem,qh,qc,qa,qg];try (repeat' first|(with_reducible apply aiA)|(apply qf;omega)|(apply qe;rfl)|exact qi))
 rintro⟨i,v,O1,O2⟩ ⟨i1,i2,i3⟩ K hK;simp only at i1 i2 i3 hK;have i2': ∀m,qI (O1::m) 0=true:=fun _=>i2
 have i3': ∀m,qI (O2::m) 0=true:=fun _=>i3
 have eL:(qnV (b.take i)).length=i:=by unfold qnV;rw[List.length_map,List.length_take];omega
 by_cases hi:i<b.length
 ·have k1:((i:Int)<b.length)=True:=eqt om;have hS:qnV (b.take (i+1))=qnV (b.take i)++ [(b.getD i default).text]:=by
   unfold qnV;rw[List.take_add_one,zH hi,gdqA,zH hi,List.map_append];rfl
  obtain⟨L,hL⟩: ∃L,L=qnV (b.take i):=⟨_,rfl⟩
  rw[←hL]at hS eL ⊢;obtain⟨w,hw⟩: ∃w,w=b.getD i default:=⟨_,rfl⟩
  have ew:=hw.symm;rw[ew]at hS;have eC:=kk L;have eTk:List.take i (jt L)=jt L:=ltl om;simp (disch:=omega) only[zO,tkC,k1,ew,i2',i3',eC,eL,eTk,Nat.mul_one,go_sem]
  repeat' first
   |with_reducible apply aiA
  all_goals try exact clz
  have eA:jt L++ [AV.str w.text]=jt (L++ [w.text]):=by simp[jt]
  have eD:(AV.str w.text::List.drop 1 (ze [AV.str []] 1))= [AV.str w.text]:=rfl;rw[eA,eD];refine hK _ _ (i+1,v+1,.mem (qq (some O1)+1) 103 (tkC w),.mem (qq (some O2)+1) 9 [.str w.text]) ⟨hi,rfl,rfl⟩ (by simp only;omega) ?_;simp only[hS,tkC];refine Wk.temps ?_
  (simp only[zO,tkC,go_sem,qh,qc,qa,qg];try (repeat' first|(with_reducible apply aiA)|(apply qf;omega)|(apply qe;rfl)|exact qi))
 have k1:((i:Int)<b.length)=False:=eqf om;obtain rfl:i=b.length:=by omega
 rw[List.take_length]at eL ⊢;simp (disch:=omega) only[k1,go_sem]
 repeat' first
  |(apply qb;exact rvk;simp only[go_sem])
 exact qbC (fun _=>rfl) eL.symm
theorem qAF(s:Str)(h:List AObj)(hl:s.length≤1000)(hs:s≠ [])(hc:zQ s=0)(hg:zS h frmN frmC):ACalls Tryz.prog 173 [.agg [.str [],.int .i64 0],.osl (h.length+1) 1 4 0 1,.nl] (h++ [.emp 1,.mem 1 189 (.int .i64 1:: .str s:: .int .i64 0:: .nl::List.drop 4 (ze [.int .i64 0,.str [],.int .i64 0,.nl] 1))]) (.tup [zO (qhU s),.int .i64 (qhT s)]) (h++ [.emp 1,.emp 2]):=by
 have c1:=qDe s (h++ [.emp 1,.emp 2]) hl hs hc hg.app;refine ACalls.frzd [h.length+1] ?s1 ?s2
 case s1=>simp only[qaJ,go_sem]
 case s2=>
  simp only[List.map_cons,List.map_nil,qdq,go_sem];have e: [h.length+1].contains (h.length+1)=true:=by simp
  simp only[e,if_true];refine c1.le ⟨qi,?_,qi,trivial⟩ (qi);unfold j9;refine VLe.sl_eq rfl (fun i hi=> ?_);obtain rfl:i=0:=by omega
  rfl
theorem qD8(s:Str)(h:List AObj)(hl:s.length≤1000)(hg:zS h frmN frmC):ACalls Tryz.prog 127 [.str s] h (.tup [strs (if zQ s≠0 then [] else qnV (qhU s)),.int .i64 (qjH s)]) h:=by
 have c0: ∀h,ACalls Tryz.prog 172 [.str s] h (.int .i64 (zQ s)) h:=fun h=>qDb s h om
 unfold qjH
 by_cases g:zQ s=0
 case neg=>
  have k1:(zQ s=0)=False:=eqf g;rw[ipo g,ipo g];refine acO qlI ?_;simp (disch:=omega) only[qoW,go_sem]
  repeat' first
   |(refine cA (c0 _) flk ?_;simp (disch:=omega) only[k1,go_sem])
   |(apply qb;exact rvk;simp only[go_sem])
  exact VLe.tup ⟨zg,qi,trivial⟩
 rw[ine (by simpa using g),ine (by simpa using g)];rw[g]at c0
 by_cases hs:s= []
 ·subst hs;refine acO qlI ?_;simp (disch:=omega) only[qoW,go_sem]
  repeat' first
   |(refine cA (c0 _) flk ?_;simp (disch:=omega) only[go_sem])
   |(apply qb;exact rvk;simp only[go_sem])
  exact VLe.tup ⟨zg,qi,trivial⟩
 have k2:(s= [])=False:=eqf hs;have c2:=fun h=>qFx (qhU s) h (Nat.le_trans (qro s) om)
 refine acO qlI ?_;simp (disch:=omega) only[qoW,go_sem]
 repeat' first
  |(refine cA (c0 _) flk ?_;simp (disch:=omega) only[k2,go_sem])
 refine qy (qAF s h hl hs g hg) (by exact flk) ?_;simp (disch:=omega) only[go_sem]
 repeat' first
  |(refine cA (c2 _) flk ?_;simp (disch:=omega) only[go_sem])
  |(apply qb;exact rvk;simp only[go_sem];exact qi)
  |with_reducible apply aiA
 all_goals try exact clz
theorem qEr(s:Str)(h:List AObj)(hl:s.length≤1000)(hs:s≠ [])(hc:zQ s=0)(hg:zS h frmN frmC):ACalls Tryz.prog 134 [.str s] h (zO (qhU s)) h:=by
 refine acO qyb ?_;simp (disch:=omega) only[qwC,go_sem];refine qy (qAF s h hl hs hc hg) (by exact flk) ?_;simp (disch:=omega) only[go_sem]
 repeat' first
  |(apply qb;exact rvk;simp only[go_sem];exact qi)
  |with_reducible apply aiA
 all_goals try exact clz
end RC
end
section
open Go Go.Proofs AF HY LN
namespace RC
theorem qar{x:Co}{l:List Un}(h:qcA x l=true){k:Nat}(hk:k<l.length):(l.getD k default).frm=frN l k∧(l.getD k default).to=toN l k∧frN l k<toN l k∧toN l k≤x.col.length∧(l.getD k default).rds=qeX x (frN l k) (toN l k):=by
 have ho:=qeM h;have hm:l.getD k default∈l:=by
  rw[gdqA,zH hk];exact List.getElem_mem hk
 obtain⟨h1,h2,h3,h4⟩:=ho.rg _ hm;unfold frN toN;refine⟨om,om,om,om,h4⟩
theorem qvD{x:Co}{l:List Un}(h:qcA x l=true){j k:Nat}(hj:j<k)(hk:k<l.length):toN l j<frN l k:=by
 have ho:=qeM h;have hp:=List.pairwise_iff_getElem.1 ho.pw j k om hk hj;have e: ∀i (hi:i<l.length),l.getD i default=l[i]:=fun i hi=>by rw[gdqA,zH hi];rfl
 obtain⟨a1,a2,_⟩:=qar h (show j<l.length by omega);obtain⟨b1,b2,_⟩:=qar h hk;rw[e j om]at a1 a2;rw[e k hk]at b1 b2;omega
theorem qhv{x:Co}{l:List Un}(h:qcA x l=true){k:Nat}(hk:k<l.length):jf l k≤frN l k:=by
 unfold jf;split
 ·exact nzl _
 ·exact Nat.le_of_lt (qvD h om hk)
theorem qet{x:Co}{l:List Un}(h:qcA x l=true){k:Nat}(hk:k≤l.length):jf l k≤x.col.length:=by
 unfold jf;split
 ·exact nzl _
 ·exact (qar h (show k-1<l.length by omega)).2.2.2.1
theorem qhw(l:List Un)(k:Nat):jf l (k+1)=toN l k:=by unfold jf;rw[ine om,Nat.add_sub_cancel]
theorem qzp{x:Co}{l:List Un}(h:qcA x l=true){k c:Nat}(hk:k<l.length)(h1:frN l k≤c)(h2:c<toN l k):fnU l (c:Int)=k:=by
 obtain⟨a1,a2,_⟩:=qar h hk;exact qzo h hk om om
theorem qzq{x:Co}{l:List Un}(h:qcA x l=true){k c:Nat}(hk:k≤l.length)(h1:jf l k≤c)(h2:k<l.length→c<frN l k):fnU l (c:Int)= -1:=by
 obtain⟨g1,g2⟩:=qgh l (c:Int)
 by_cases hn:fnU l (c:Int)<0
 ·omega
 exfalso;obtain⟨j,hj⟩: ∃j:Nat,fnU l (c:Int)=j:=⟨(fnU l (c:Int)).toNat,om⟩
 obtain⟨j1,j2,j3⟩:=qr8 hj;obtain⟨a1,a2,_⟩:=qar h j1;rcases Nat.lt_or_ge j k with e|e
 ·have:toN l j≤jf l k:=by
   unfold jf;rw[ine om];rcases Nat.lt_or_ge j (k-1)with e2|e2
   ·have:=qvD h e2 om
    obtain⟨_,_,b3,_⟩:=qar h (show k-1<l.length by omega);omega
   ·have:j=k-1:=by omega
    subst this;exact nlr _
  omega
 ·have h3:=h2 om;rcases Nat.lt_or_ge k j with e2|e2
  ·have:=qvD h e2 j1
   obtain⟨_,_,b3,_⟩:=qar h (show k<l.length by omega);omega
  ·have:j=k:=by omega
   subst this;omega
def rwc(x:Co)(l:List Un)(d:List Dc)(s:Nat)(c:Nat):List Rw:=
 if fnU l (c:Int)<0 then [⟨pcT x s c,-1,-1⟩] else if (l.getD (fnU l (c:Int)).toNat default).frm=c then rwU x l d s (fnU l (c:Int)).toNat else []
def rwS(x:Co)(l:List Un)(d:List Dc)(s:Nat):Nat→List Rw
 |0=> []
 |c+1=>rwS x l d s c++rwc x l d s c
theorem qhb{x:Co}{l:List Un}(hc:cvA x l=true)(ho:CoOk x){s c:Nat}(hs:s<x.sig.length)(h:c<x.col.length)(hf:fnU l (c:Int)<0):pcB x s c=true∧clT x c s=clT x c 0∧clT x c s≠none:=by
 unfold cvA at hc;rw[Bool.not_eq_true',qp]at hc;have h1:=hc c h;rw[Bool.and_eq_false_iff,Bool.not_eq_false',Bool.not_eq_false']at h1;rcases h1 with h1|h1
 ·exfalso;unfold cvB at h1;obtain⟨i,hi,hv⟩:=qO.1 h1;rw[Bool.and_eq_true,decide_eq_true_iff,decide_eq_true_iff]at hv;exact qr9 hf hi hv
 ·unfold cmB at h1;rw[Bool.not_eq_true',qp]at h1;have h2:=h1 s hs;rw[Bool.or_eq_false_iff,Bool.not_eq_false',decide_eq_false_iff_not,decide_eq_true_iff]at h2;refine⟨?_,h2.2,h2.1⟩;have h3:=h2.1;unfold clT at h3;unfold pcB
  by_cases g:(x.col.getD c []).getD s 0<0
  ·rw[ipo g]at h3;exact absurd rfl h3
  ·simpa using g
theorem qqU(x:Co)(s f:Nat):rwC x s f f= []:=by unfold rwC;rw[Nat.sub_self];rfl
theorem qqV{x:Co}{s f t:Nat}(h:f≤t):rwC x s f (t+1)=rwC x s f t++if pcB x s t=true then [⟨pcT x s t,-1,-1⟩] else []:=by
 unfold rwC;rw[show t+1-f=(t-f)+1 by omega];show rwM (spk x s f (t-f)++if pcB x s (f+(t-f))=true then [pcT x s (f+(t-f))] else []) (-1) (-1)=_;rw[show f+(t-f)=t by omega];unfold rwM;rw[List.map_append];congr 1;split<;>rfl
theorem qvh{x:Co}{l:List Un}(d:List Dc){s:Nat}(h:qcA x l=true)(hc:cvA x l=true)(ho:CoOk x)(hs:s<x.sig.length):
  ∀k,k≤l.length→ ∀m,jf l k≤m→m≤x.col.length→(k<l.length→m≤frN l k)→rwS x l d s m=rwL x l d s k++rwC x s (jf l k) m:=by
 have com: ∀k,k≤l.length→ ∀i,jf l k+i≤x.col.length→(k<l.length→jf l k+i≤frN l k)→rwS x l d s (jf l k)=rwL x l d s k→rwS x l d s (jf l k+i)=rwL x l d s k++rwC x s (jf l k) (jf l k+i):=by
  intro k hk i
  induction i with
  |zero=>
   intro h1 h2 h3;rw[Nat.add_zero,qqU,lan,h3]
  |succ i ih=>
   intro h1 h2 h3;have e:=ih om (fun hk=>by have:=h2 hk;omega) h3;show rwS x l d s (jf l k+i)++rwc x l d s (jf l k+i)=_;have f:=qzq h hk (c:=jf l k+i) (Nat.le_add_right _ _) (fun hk=>by have:=h2 hk;omega);have hp:=qhb hc ho hs (c:=jf l k+i) om om;rw[e,←Nat.add_assoc,qqV (Nat.le_add_right _ _),ipo hp.1,List.append_assoc];congr 2;unfold rwc;rw[ipo om]
 have key: ∀k,k≤l.length→rwS x l d s (jf l k)=rwL x l d s k:=by
  intro k
  induction k with
  |zero=>intro _;rfl
  |succ k ih=>
   intro hk;have h1:=ih om;have hpl:=qhv h (show k<l.length by omega);obtain⟨a1,a2,a3,a4,_⟩:=qar h (show k<l.length by omega);have h2:=com k om (frN l k-jf l k) om (fun _=>by omega) h1;rw[show jf l k+(frN l k-jf l k)=frN l k by omega]at h2;have h3: ∀i,frN l k+1+i≤toN l k→rwS x l d s (frN l k+1+i)=rwL x l d s (k+1):=by
    intro i
    induction i with
    |zero=>
     intro _;show rwS x l d s (frN l k)++rwc x l d s (frN l k)=_;have f:=qzp h (show k<l.length by omega) (nlr (frN l k)) a3;unfold rwc;rw[f,ine om,itn,ipo a1,h2];show _=rwL x l d s k++(rwC x s (jf l k) (frN l k)++rwU x l d s k);rw[List.append_assoc]
    |succ i ih2=>
     intro hi;show rwS x l d s (frN l k+1+i)++rwc x l d s (frN l k+1+i)=_;have f:=qzp h (c:=frN l k+1+i) (show k<l.length by omega) om om;rw[ih2 om];unfold rwc;rw[f,ine om,itn,ine (by rw[a1];omega),lan]
   have h4:=h3 (toN l k-(frN l k+1)) om;rw[show frN l k+1+(toN l k-(frN l k+1))=toN l k by omega]at h4;rw[qhw];exact h4
 intro k hk m h1 h2 h3
 have:=com k hk (m-jf l k) om (fun hk=>by have:=h3 hk;omega) (key k hk)
 rwa [show jf l k+(m-jf l k)=m by omega]at this
theorem qvg{x:Co}{l:List Un}(d:List Dc){s:Nat}(h:qcA x l=true)(hc:cvA x l=true)(ho:CoOk x)(hs:s<x.sig.length):rwS x l d s x.col.length=rwA x l d s:=
 qvh d h hc ho hs l.length (nlr _) _ (qet h (nlr _)) (nlr _) (fun h=>absurd h (Nat.lt_irrefl _))
theorem qxJ{col:List (List Int)}{s t:Nat}: ∀ {n:Nat},t<cnC col s n→ ∃k,k<n∧(col.getD k []).getD s 0≠ -1∧cnC col s k=t:=by
 intro n
 induction n with
 |zero=>intro h;exact absurd h (nnz _)
 |succ n ih=>
  intro h;unfold cnC at h
  by_cases g:t<cnC col s n
  ·obtain⟨k,h1,h2⟩:=ih g;exact⟨k,om,h2⟩
  ·split at h
   ·omega
   ·rename_i g2;exact⟨n,Nat.lt_succ_self n,g2,om⟩
theorem qea{x:Co}(ho:CoOk x){s:Nat}(hs:s<x.sig.length){t:Int}(h0:0≤t)(ht:t<((x.tok.getD s []).length:Int)):0≤qag x s t∧qag x s t<x.col.length:=by
 obtain⟨k,k1,k2,k3⟩:=qxJ (col:=x.col) (s:=s) (t:=t.toNat) (n:=x.col.length) (by rw[ho.ct s hs];omega);unfold qag;rcases zJ (fun k=>decide ((x.col.getD k []).getD s 0=t)) x.col.length with⟨i,g1,g2,_,g4⟩|⟨g1,g2⟩
 ·rw[g4];omega
 ·have:=g1 k k1
  rcases ho.ce k k1 s hs with e|⟨e,_⟩
  ·exact absurd e k2
  ·rw[decide_eq_false_iff_not]at this;exact absurd (by rw[e,k3];omega) this
theorem qEq(c:List Int)(s:Nat)(t:Int)(h:List AObj)(hs:s<c.length)(hc:c.length≤1000000000):ACalls Tryz.prog 171 [qG c,.ip [.int .i64 (s:Int)],.ip [.int .i64 t]] h (.bool (decide (c.getD s 0=t))) h:=by
 have k0:(0≤(s:Int))=True:=eqt om;have k1:((s:Int)<c.length)=True:=eqt om;refine acO qyr ?_;simp (disch:=omega) only[qwQ,qG,k0,k1,go_sem]
 repeat' first
  |(apply qd;exact rvk;simp only[go_sem];exact qi)
  |with_reducible apply aiA
 all_goals try exact clz
theorem qEM(col:List (List Int))(s:Nat)(t:Int)(k v k2 v2:Nat)(h:List AObj)(hk:qr k h=some (.mem v 3 [.int .i64 (s:Int)]))(hk2:qr k2 h=some (.mem v2 3 [.int .i64 t]))(hl:col.length≤1000000000)(hm: ∀i,i<col.length→s<(col.getD i []).length∧(col.getD i []).length≤1000000000):
  ACalls Tryz.prog 170 [qv col,.fn (.func 171) [] [.op k v 0,.op k2 v2 0]] h (.int .i64 (qcI (fun i=>decide ((col.getD i []).getD s 0=t)) col.length 0)) h:=by
 have hc:=qQ hk;have hc2:=qQ hk2;unfold qv;refine qgi qyq col.length (fun j=> [qG (col.getD j [])]) (fun j=>qG (col.getD j [])) _ [] [.op k v 0,.op k2 v2 0] _ h (fun i _=>⟨rfl,by simp[kr],rfl,rfl,rfl⟩) (fun i hi=> ?_) om;refine ACalls.borrow ?_ rfl;have e:([qG (col.getD i [])]++ [AV.op k v 0,AV.op k2 v2 0]).map (rei (fun _=>true) h 8)= [qG (col.getD i []),.ip [.int .i64 (s:Int)],.ip [.int .i64 t]]:=by
  simp only[lca,lna,List.map_cons,List.map_nil,rei_op,if_true,hc,hc2,ipOf_some,List.drop_zero];rfl
 rw[lna,e];exact qEq _ s t _ (hm i hi).1 (hm i hi).2
theorem qB5(x:Co)(s:Nat)(t:Int)(h:List AObj)(hz:qdA x)(hp:kR SG h)(h1:coE x=0)(hs:s<x.sig.length):ACalls Tryz.prog 126 [.agg (coC x),.int .i64 (s:Int),.int .i64 t] h (.tup [.int .i64 (if 0≤t∧t<((x.tok.getD s []).length:Int) then qag x s t else 0),.int .i64 (if 0≤t∧t<((x.tok.getD s []).length:Int) then 0 else 2)]) h:=by
 have ho:=qbh h1;have hsg:=hz.sg;have htl:=hz.tl s;have htn:=ho.tn;have c1:=fun l=>coP x (h++l) hz (hp.app l)
 simp only[h1]at c1;have zu: ∀g l,valL g .len [zO l]= .int .i64 l.length:=fun _ _=>rfl
 have zv: ∀g l,okL g .len [zO l]=True:=fun _ _=>eqt trivial
 have k0:((s:Int)<0)=False:=eqf om;have k1:((x.sig.length:Int)≤s)=False:=eqf om;have k5:(0≤(s:Int))=True:=eqt om;have k6:((s:Int)<x.tok.length)=True:=eqt om
 by_cases g:0≤t∧t<((x.tok.getD s []).length:Int)
 ·rw[ipo g,ipo g];have k2:(t<0)=False:=eqf om;have k3:(((x.tok.getD s []).length:Int)≤t)=False:=eqf om;have c2:=qEM x.col s t (h.length+1) 1 (h.length+2) 1 (h++ [.mem 1 26 (coC x),.mem 1 3 [.int .i64 (s:Int)],.mem 1 3 [.int .i64 t]]) (by simp only[go_sem]) (by simp only[go_sem]) hz.cl (fun i hi=>⟨by rw[ho.cl i hi];exact hs,hz.ce i⟩);unfold coC at c1 c2;refine acO qlH ?_;simp (disch:=omega) only[qoV,coC,qm,strs,go_sem]
  repeat' first
   |((first|refine cA (c1 _) ?_ ?_|refine cA (c2) ?_ ?_);exact flk;simp (disch:=omega) only[k0,k1,k2,k3,k5,k6,zu,zv,go_sem])
   |(apply qb;exact rvk;simp only[go_sem];exact qi)
   |with_reducible apply aiA
  all_goals try exact clz
 ·rw[ine g,ine g];unfold coC at c1
  by_cases g2:t<0
  ·have k2:(t<0)=True:=eqt om;refine acO qlH ?_;simp (disch:=omega) only[qoV,coC,qm,strs,go_sem]
   repeat' first
    |(refine cA (c1 _) flk ?_;simp (disch:=omega) only[k0,k1,k2,k5,k6,zu,zv,go_sem])
    |(apply qb;exact rvk;simp only[go_sem];exact qi)
    |with_reducible apply aiA
   all_goals try exact clz
  ·have k2:(t<0)=False:=eqf om;have k3:(((x.tok.getD s []).length:Int)≤t)=True:=eqt om;refine acO qlH ?_;simp (disch:=omega) only[qoV,coC,qm,strs,go_sem]
   repeat' first
    |(refine cA (c1 _) flk ?_;simp (disch:=omega) only[k0,k1,k2,k3,k5,k6,zu,zv,go_sem])
    |(apply qb;exact rvk;simp only[go_sem];exact qi)
    |with_reducible apply aiA
   all_goals try exact clz
theorem qEO(b s:Str)(h:List AObj)(hb:b.length≤1000000000)(hs:s.length≤1000000000):ACalls Tryz.prog 80 [.str b,.str s] h (.bool (qCN b s)) h:=by
 have c1:=fun h=>t88 b h hb
 have c2:=fun h=>t88 s h hs
 unfold qCN;cases g1:kA b with
 |false=>
  rw[g1]at c1;rw[ine (by decide)];refine acO qpJ ?_;simp (disch:=omega) only[qxC,go_sem]
  repeat' first
   |(refine cA (c1 _) flk ?_;simp (disch:=omega) only[go_sem])
   |(apply qd;exact rvk;simp only[go_sem];exact qi)
 |true=>
  rw[g1]at c1;rw[ipo rfl];cases g2:kA s with
  |true=>
   rw[g2]at c2;refine acO qpJ ?_;simp (disch:=omega) only[qxC,go_sem]
   repeat' first
    |((first|refine cA (c1 _) ?_ ?_|refine cA (c2 _) ?_ ?_);exact flk;simp (disch:=omega) only[go_sem])
    |(apply qd;exact rvk;simp only[go_sem];exact qi)
  |false=>
   rw[g2]at c2
   by_cases g3:s= [39]
   ·subst g3;refine acO qpJ ?_;simp (disch:=omega) only[qxC,go_sem]
    repeat' first
     |((first|refine cA (c1 _) ?_ ?_|refine cA (c2 _) ?_ ?_);exact flk;simp (disch:=omega) only[go_sem])
     |(apply qd;exact rvk;simp only[go_sem];exact qi)
   ·have k3:(s= [39])=False:=eqf g3;rw[dqf g3];refine acO qpJ ?_;simp (disch:=omega) only[qxC,go_sem]
    repeat' first
     |((first|refine cA (c1 _) ?_ ?_|refine cA (c2 _) ?_ ?_);exact flk;simp (disch:=omega) only[k3,go_sem])
     |(apply qd;exact rvk;simp only[go_sem];exact qi)
def dpN(x:Co)(l:List Un)(o:Dc):Int:=if qds x l o=0 then qaq x l o else 0
theorem dpP(x:Co)(l:List Un)(o:Dc)(h:List AObj)(hz:qdA x)(hu:qjE l)(hp:kR SG h)(hg:zS h frmN frmC)(h1:coE x=0)(ht:o.txt.length≤1000):ACalls Tryz.prog 75 [.agg (coC x),jc l,.agg (dcC o)] h (.tup [.int .i64 (dpN x l o),.int .i64 (qds x l o)]) h:=by
 have ho:=qbh h1;unfold dpN;have hE:qds x l o=(if o.kind<1∨3<o.kind then 8 else if o.txt≠ []∧o.kind≠2 then 1 else if tkB x o=false then 6 else if qaq x l o<0 then 20 else cjE o):=rfl
 by_cases g1:o.kind<1
 ·have k1:(o.kind<1)=True:=eqt g1;rw[ipo (.inl g1)]at hE;rw[hE,ine (by decide)];refine acO qai ?_;simp (disch:=omega) only[qdE,coC,dcC,k1,go_sem]
  repeat' first
   |(apply qb;exact rvk;simp only[go_sem];exact qi)
 have k1:(o.kind<1)=False:=eqf g1
 by_cases g2:3<o.kind
 ·have k2:(3<o.kind)=True:=eqt g2;rw[ipo (.inr g2)]at hE;rw[hE,ine (by decide)];refine acO qai ?_;simp (disch:=omega) only[qdE,coC,dcC,k1,k2,go_sem]
  repeat' first
   |(apply qb;exact rvk;simp only[go_sem];exact qi)
 have k2:(3<o.kind)=False:=eqf g2;rw[ine (fun e=>e.elim g1 g2)]at hE
 by_cases g3:o.txt≠ []∧o.kind≠2
 ·have k3:(o.txt= [])=False:=eqf g3.1;have k4:(o.kind=2)=False:=eqf g3.2;rw[ipo g3]at hE;rw[hE,ine (by decide)];refine acO qai ?_;simp (disch:=omega) only[qdE,coC,dcC,k1,k2,k3,k4,go_sem]
  repeat' first
   |(apply qb;exact rvk;simp only[go_sem];exact qi)
   |with_reducible apply aiA
  all_goals try exact clz
 rw[ine g3]at hE;have c1:=fun h=>qul x.sig.length (fun j=>x.sig.getD j []) o.sig h hz.sg
 have hS:qcI (fun j=>decide (o.sig=x.sig.getD j [])) x.sig.length 0=zP x o.sig:=rfl;simp only[hS]at c1
 by_cases g4:o.kind=2
 ·have k4:(o.kind=2)=True:=eqt g4
  by_cases ge:o.txt= []
  ·have k3:(o.txt= [])=True:=eqt ge;have htk:tkB x o=(decide (0≤zP x o.sig)&&(decide (0≤o.tok)&&decide (o.tok<((x.tok.getD (zP x o.sig).toNat []).length:Int)))):=rfl
   by_cases g5:zP x o.sig<0
   ·have k5:(zP x o.sig<0)=True:=eqt g5;rw[dqf om,Bool.false_and]at htk;rw[ipo htk]at hE;rw[hE,ine (by decide)];unfold strs at*;refine acO qai ?_;simp (disch:=omega) only[qdE,coC,dcC,k1,k2,k3,k4,strs,go_sem]
    repeat' first
     |(refine cA (c1 _) flk ?_;simp (disch:=omega) only[k5,go_sem])
     |(apply qb;exact rvk;simp only[go_sem];exact qi)
     |with_reducible apply aiA
    all_goals try exact clz
   obtain⟨S,hSn⟩: ∃S:Nat,zP x o.sig=S:=⟨(zP x o.sig).toNat,om⟩
   have hSl:S<x.sig.length:=by
    rcases zJ (fun j=>decide (o.sig=x.sig.getD j [])) x.sig.length with⟨i,q1,_,_,q4⟩|⟨_,q2⟩
    ·have e:zP x o.sig=i:=q4;omega
    ·have e:zP x o.sig= -1:=q2;omega
   have k5:((S:Int)<0)=False:=eqf om;rw[hSn,dqt om,Bool.true_and,itn]at htk;simp only[hSn]at c1;have c2:=fun l'=>qB5 x S o.tok (h++l') hz (hp.app l') h1 hSl
   by_cases g6:0≤o.tok∧o.tok<((x.tok.getD S []).length:Int)
   case neg=>
    have htk:tkB x o=false:=by rw[htk];simpa using fun e=>Int.not_lt.1 fun hc=>g6 ⟨e,hc⟩
    rw[ipo htk]at hE;rw[hE,ine (by decide)];simp only[ine g6]at c2;unfold coC at c2;refine acO qai ?_;simp (disch:=omega) only[qdE,coC,dcC,k1,k2,k3,k4,strs,go_sem]
    repeat' first
     |((first|refine cA (c1 _) ?_ ?_|refine cA (c2 _) ?_ ?_);exact flk;simp (disch:=omega) only[k5,go_sem])
     |(apply qb;exact rvk;simp only[go_sem];exact qi)
     |with_reducible first|intro _|apply aiA
    all_goals try exact clz
   have htk:tkB x o=true:=by rw[htk];simpa using g6
   rw[ine (by rw[htk];decide)]at hE;simp only[ipo g6]at c2;have hpl:qaq x l o=fnU l (qag x S o.tok):=by unfold qaq;rw[hSn,itn]
   have hcn:=qea ho hSl g6.1 g6.2;have c3:=fun h=>qBy l (qag x S o.tok) h hu.n
   have e1:fnR l (qag x S o.tok)=qaq x l o:=by unfold fnR;rw[ine om,hpl]
   have e2:fnE (qag x S o.tok)=0:=by unfold fnE;rw[ine om]
   rw[e1,e2]at c3;unfold coC at c2
   by_cases g7:qaq x l o<0
   ·have k7:(qaq x l o<0)=True:=eqt g7;rw[ipo g7]at hE;rw[hE,ine (by decide)];refine acO qai ?_;simp (disch:=omega) only[qdE,coC,dcC,k1,k2,k3,k4,strs,go_sem]
    repeat' first
     |((first|refine cA (c1 _) ?_ ?_|refine cA (c2 _) ?_ ?_|refine cA (c3 _) ?_ ?_);exact flk;simp (disch:=omega) only[k4,k5,k7,go_sem])
     |(apply qb;exact rvk;simp only[go_sem];exact qi)
     |with_reducible apply aiA
    all_goals try exact clz
   have k7:(qaq x l o<0)=False:=eqf g7;rw[ine g7]at hE;unfold cjE at hE;rw[ipo g4]at hE;have c4:=fun l'=>qD8 o.txt (h++l') ht hg.app
   by_cases g8:qjH o.txt=0
   case neg=>
    have k8:(qjH o.txt=0)=False:=eqf g8;rw[ipo g8]at hE;rw[hE,ine g8];refine acO qai ?_;simp (disch:=omega) only[qdE,coC,dcC,k1,k2,k3,k4,strs,go_sem]
    repeat' first
     |((first|refine cA (c1 _) ?_ ?_|refine cA (c2 _) ?_ ?_|refine cA (c3 _) ?_ ?_|refine cA (c4 _) ?_ ?_);exact flk;simp (disch:=omega) only[k4,k5,k7,k8,strs,go_sem])
     |(apply qb;exact rvk;simp only[go_sem];exact qi)
     |with_reducible apply aiA
    all_goals try exact clz
   rw[ine (by simpa using g8)]at hE;have g9:zQ o.txt=0∧qhT o.txt=0:=by
    unfold qjH at g8;split at g8
    ·rename_i q;exact absurd g8 q
    ·rename_i q;exact⟨Classical.not_not.1 q,g8⟩
   have hR:qsw o.txt=qnV (qhU o.txt):=by unfold qsw qhU;rw[ipo g8,ipo g9.2];rfl
   simp only[g8,ine (show¬zQ o.txt≠0 by simpa using g9.1),←hR]at c4;cases hL:qsw o.txt with
   |nil=>
    rw[hL]at hE c4;rw[ipo rfl]at hE;rw[hE,ine (by decide)];refine acO qai ?_;simp (disch:=omega) only[qdE,coC,dcC,k1,k2,k3,k4,strs,go_sem]
    repeat' first
     |((first|refine cA (c1 _) ?_ ?_|refine cA (c2 _) ?_ ?_|refine cA (c3 _) ?_ ?_|refine cA (c4 _) ?_ ?_);exact flk;simp (disch:=omega) only[k4,k5,k7,strs,go_sem])
     |(apply qb;exact rvk;simp only[go_sem];first|exact qi|skip)
     |with_reducible first|intro _|apply aiA
    all_goals try exact clz
   |cons a r=>
    rw[hL]at hE c4;rw[ine (by simp)]at hE;rw[hE,ipo rfl];have k9:(((a::r).length:Int)=0)=False:=eqf (by simp;omega);refine acO qai ?_;simp (disch:=omega) only[qdE,coC,dcC,k1,k2,k3,k4,strs,go_sem]
    repeat' first
     |((first|refine cA (c1 _) ?_ ?_|refine cA (c2 _) ?_ ?_|refine cA (c3 _) ?_ ?_|refine cA (c4 _) ?_ ?_);exact flk;simp (disch:=omega) only[k4,k5,k7,strs,go_sem])
     |(apply qb;exact rvk;simp only[go_sem];first|exact qi|skip)
     |with_reducible first|intro _|apply aiA
    all_goals try exact clz
  ·have k3:(o.txt= [])=False:=eqf ge;have htk:tkB x o=(decide (0≤zP x o.sig)&&(decide (0≤o.tok)&&decide (o.tok<((x.tok.getD (zP x o.sig).toNat []).length:Int)))):=rfl
   by_cases g5:zP x o.sig<0
   ·have k5:(zP x o.sig<0)=True:=eqt g5;rw[dqf om,Bool.false_and]at htk;rw[ipo htk]at hE;rw[hE,ine (by decide)];unfold strs at*;refine acO qai ?_;simp (disch:=omega) only[qdE,coC,dcC,k1,k2,k3,k4,strs,go_sem]
    repeat' first
     |(refine cA (c1 _) flk ?_;simp (disch:=omega) only[k5,go_sem])
     |(apply qb;exact rvk;simp only[go_sem];exact qi)
     |with_reducible apply aiA
    all_goals try exact clz
   obtain⟨S,hSn⟩: ∃S:Nat,zP x o.sig=S:=⟨(zP x o.sig).toNat,om⟩
   have hSl:S<x.sig.length:=by
    rcases zJ (fun j=>decide (o.sig=x.sig.getD j [])) x.sig.length with⟨i,q1,_,_,q4⟩|⟨_,q2⟩
    ·have e:zP x o.sig=i:=q4;omega
    ·have e:zP x o.sig= -1:=q2;omega
   have k5:((S:Int)<0)=False:=eqf om;rw[hSn,dqt om,Bool.true_and,itn]at htk;simp only[hSn]at c1;have c2:=fun l'=>qB5 x S o.tok (h++l') hz (hp.app l') h1 hSl
   by_cases g6:0≤o.tok∧o.tok<((x.tok.getD S []).length:Int)
   case neg=>
    have htk:tkB x o=false:=by rw[htk];simpa using fun e=>Int.not_lt.1 fun hc=>g6 ⟨e,hc⟩
    rw[ipo htk]at hE;rw[hE,ine (by decide)];simp only[ine g6]at c2;unfold coC at c2;refine acO qai ?_;simp (disch:=omega) only[qdE,coC,dcC,k1,k2,k3,k4,strs,go_sem]
    repeat' first
     |((first|refine cA (c1 _) ?_ ?_|refine cA (c2 _) ?_ ?_);exact flk;simp (disch:=omega) only[k5,go_sem])
     |(apply qb;exact rvk;simp only[go_sem];exact qi)
     |with_reducible first|intro _|apply aiA
    all_goals try exact clz
   have htk:tkB x o=true:=by rw[htk];simpa using g6
   rw[ine (by rw[htk];decide)]at hE;simp only[ipo g6]at c2;have hpl:qaq x l o=fnU l (qag x S o.tok):=by unfold qaq;rw[hSn,itn]
   have hcn:=qea ho hSl g6.1 g6.2;have c3:=fun h=>qBy l (qag x S o.tok) h hu.n
   have e1:fnR l (qag x S o.tok)=qaq x l o:=by unfold fnR;rw[ine om,hpl]
   have e2:fnE (qag x S o.tok)=0:=by unfold fnE;rw[ine om]
   rw[e1,e2]at c3;unfold coC at c2
   by_cases g7:qaq x l o<0
   ·have k7:(qaq x l o<0)=True:=eqt g7;rw[ipo g7]at hE;rw[hE,ine (by decide)];refine acO qai ?_;simp (disch:=omega) only[qdE,coC,dcC,k1,k2,k3,k4,strs,go_sem]
    repeat' first
     |((first|refine cA (c1 _) ?_ ?_|refine cA (c2 _) ?_ ?_|refine cA (c3 _) ?_ ?_);exact flk;simp (disch:=omega) only[k4,k5,k7,go_sem])
     |(apply qb;exact rvk;simp only[go_sem];exact qi)
     |with_reducible apply aiA
    all_goals try exact clz
   have k7:(qaq x l o<0)=False:=eqf g7;rw[ine g7]at hE;unfold cjE at hE;rw[ipo g4]at hE;have c4:=fun l'=>qD8 o.txt (h++l') ht hg.app
   by_cases g8:qjH o.txt=0
   case neg=>
    have k8:(qjH o.txt=0)=False:=eqf g8;rw[ipo g8]at hE;rw[hE,ine g8];refine acO qai ?_;simp (disch:=omega) only[qdE,coC,dcC,k1,k2,k3,k4,strs,go_sem]
    repeat' first
     |((first|refine cA (c1 _) ?_ ?_|refine cA (c2 _) ?_ ?_|refine cA (c3 _) ?_ ?_|refine cA (c4 _) ?_ ?_);exact flk;simp (disch:=omega) only[k4,k5,k7,k8,strs,go_sem])
     |(apply qb;exact rvk;simp only[go_sem];exact qi)
     |with_reducible apply aiA
    all_goals try exact clz
   rw[ine (by simpa using g8)]at hE;have g9:zQ o.txt=0∧qhT o.txt=0:=by
    unfold qjH at g8;split at g8
    ·rename_i q;exact absurd g8 q
    ·rename_i q;exact⟨Classical.not_not.1 q,g8⟩
   have hR:qsw o.txt=qnV (qhU o.txt):=by unfold qsw qhU;rw[ipo g8,ipo g9.2];rfl
   simp only[g8,ine (show¬zQ o.txt≠0 by simpa using g9.1),←hR]at c4;cases hL:qsw o.txt with
   |nil=>
    rw[hL]at hE c4;rw[ipo rfl]at hE;rw[hE,ine (by decide)];refine acO qai ?_;simp (disch:=omega) only[qdE,coC,dcC,k1,k2,k3,k4,strs,go_sem]
    repeat' first
     |((first|refine cA (c1 _) ?_ ?_|refine cA (c2 _) ?_ ?_|refine cA (c3 _) ?_ ?_|refine cA (c4 _) ?_ ?_);exact flk;simp (disch:=omega) only[k4,k5,k7,strs,go_sem])
     |(apply qb;exact rvk;simp only[go_sem];first|exact qi|skip)
     |with_reducible first|intro _|apply aiA
    all_goals try exact clz
   |cons a r=>
    rw[hL]at hE c4;rw[ine (by simp)]at hE;rw[hE,ipo rfl];have k9:(((a::r).length:Int)=0)=False:=eqf (by simp;omega);refine acO qai ?_;simp (disch:=omega) only[qdE,coC,dcC,k1,k2,k3,k4,strs,go_sem]
    repeat' first
     |((first|refine cA (c1 _) ?_ ?_|refine cA (c2 _) ?_ ?_|refine cA (c3 _) ?_ ?_|refine cA (c4 _) ?_ ?_);exact flk;simp (disch:=omega) only[k4,k5,k7,strs,go_sem])
     |(apply qb;exact rvk;simp only[go_sem];first|exact qi|skip)
     |with_reducible first|intro _|apply aiA
    all_goals try exact clz
 ·have k4:(o.kind=2)=False:=eqf g4;have ge:o.txt= []:=Classical.not_not.1 fun hc=>g3 ⟨hc,g4⟩
  have k3:(o.txt= [])=True:=eqt ge;have htk:tkB x o=(decide (0≤zP x o.sig)&&(decide (0≤o.tok)&&decide (o.tok<((x.tok.getD (zP x o.sig).toNat []).length:Int)))):=rfl
  by_cases g5:zP x o.sig<0
  ·have k5:(zP x o.sig<0)=True:=eqt g5;rw[dqf om,Bool.false_and]at htk;rw[ipo htk]at hE;rw[hE,ine (by decide)];unfold strs at*;refine acO qai ?_;simp (disch:=omega) only[qdE,coC,dcC,k1,k2,k3,k4,strs,go_sem]
   repeat' first
    |(refine cA (c1 _) flk ?_;simp (disch:=omega) only[k5,go_sem])
    |(apply qb;exact rvk;simp only[go_sem];exact qi)
    |with_reducible apply aiA
   all_goals try exact clz
  obtain⟨S,hSn⟩: ∃S:Nat,zP x o.sig=S:=⟨(zP x o.sig).toNat,om⟩
  have hSl:S<x.sig.length:=by
   rcases zJ (fun j=>decide (o.sig=x.sig.getD j [])) x.sig.length with⟨i,q1,_,_,q4⟩|⟨_,q2⟩
   ·have e:zP x o.sig=i:=q4;omega
   ·have e:zP x o.sig= -1:=q2;omega
  have k5:((S:Int)<0)=False:=eqf om;rw[hSn,dqt om,Bool.true_and,itn]at htk;simp only[hSn]at c1;have c2:=fun l'=>qB5 x S o.tok (h++l') hz (hp.app l') h1 hSl
  by_cases g6:0≤o.tok∧o.tok<((x.tok.getD S []).length:Int)
  case neg=>
   have htk:tkB x o=false:=by rw[htk];simpa using fun e=>Int.not_lt.1 fun hc=>g6 ⟨e,hc⟩
   rw[ipo htk]at hE;rw[hE,ine (by decide)];simp only[ine g6]at c2;unfold coC at c2;refine acO qai ?_;simp (disch:=omega) only[qdE,coC,dcC,k1,k2,k3,k4,strs,go_sem]
   repeat' first
    |((first|refine cA (c1 _) ?_ ?_|refine cA (c2 _) ?_ ?_);exact flk;simp (disch:=omega) only[k5,go_sem])
    |(apply qb;exact rvk;simp only[go_sem];exact qi)
    |with_reducible first|intro _|apply aiA
   all_goals try exact clz
  have htk:tkB x o=true:=by rw[htk];simpa using g6
  rw[ine (by rw[htk];decide)]at hE;simp only[ipo g6]at c2;have hpl:qaq x l o=fnU l (qag x S o.tok):=by unfold qaq;rw[hSn,itn]
  have hcn:=qea ho hSl g6.1 g6.2;have c3:=fun h=>qBy l (qag x S o.tok) h hu.n
  have e1:fnR l (qag x S o.tok)=qaq x l o:=by unfold fnR;rw[ine om,hpl]
  have e2:fnE (qag x S o.tok)=0:=by unfold fnE;rw[ine om]
  rw[e1,e2]at c3;unfold coC at c2
  by_cases g7:qaq x l o<0
  ·have k7:(qaq x l o<0)=True:=eqt g7;rw[ipo g7]at hE;rw[hE,ine (by decide)];refine acO qai ?_;simp (disch:=omega) only[qdE,coC,dcC,k1,k2,k3,k4,strs,go_sem]
   repeat' first
    |((first|refine cA (c1 _) ?_ ?_|refine cA (c2 _) ?_ ?_|refine cA (c3 _) ?_ ?_);exact flk;simp (disch:=omega) only[k4,k5,k7,go_sem])
    |(apply qb;exact rvk;simp only[go_sem];exact qi)
    |with_reducible apply aiA
   all_goals try exact clz
  have k7:(qaq x l o<0)=False:=eqf g7;rw[ine g7]at hE;unfold cjE at hE;rw[ine g4]at hE;rw[hE,ipo rfl];refine acO qai ?_;simp (disch:=omega) only[qdE,coC,dcC,k1,k2,k3,k4,strs,go_sem]
  repeat' first
   |((first|refine cA (c1 _) ?_ ?_|refine cA (c2 _) ?_ ?_|refine cA (c3 _) ?_ ?_);exact flk;simp (disch:=omega) only[k4,k5,k7,go_sem])
   |(apply qb;exact rvk;simp only[go_sem];exact qi)
   |with_reducible apply aiA
  all_goals try exact clz
theorem qtl(x:Co)(l:List Un)(h:List AObj)(hz:qdA x)(hu:qjE l)(hp:kR SG h):ACalls Tryz.prog 74 [.agg (coC x),jc l] h (.int .i64 (vaE x l)) h:=by
 have c1:=fun l'=>coP x (h++l') hz (hp.app l')
 have c2:=fun l'=>vaP x l (h++l') hz hu (hp.app l')
 have hE:vaE x l=(if coE x≠0 then 1 else if rgB x l=false then 20 else 0):=rfl
 by_cases g:coE x=0
 case neg=>
  have k1:(coE x=0)=False:=eqf g;rw[ipo g]at hE;rw[hE];unfold coC at c1;refine acO qtX ?_;simp (disch:=omega) only[qBv,coC,go_sem]
  repeat' first
   |(refine cA (c1 _) flk ?_;simp (disch:=omega) only[k1,go_sem])
   |(apply qb;exact rvk;simp only[go_sem];exact qi)
 rw[ine (by simpa using g)]at hE;simp only[g]at c1
 by_cases g2:rgB x l=false
 ·rw[ipo g2]at hE;rw[hE];simp only[hE]at c2;unfold coC at c1 c2;refine acO qtX ?_;simp (disch:=omega) only[qBv,coC,go_sem]
  repeat' first
   |((first|refine cA (c1 _) ?_ ?_|refine cA (c2 _) ?_ ?_);exact flk;simp (disch:=omega) only[go_sem])
   |(apply qb;exact rvk;simp only[go_sem];first|exact qi|apply qf)
   |with_reducible first|intro _|apply aiA
  all_goals try exact clz
 ·rw[ine g2]at hE;rw[hE];simp only[hE]at c2;unfold coC at c1 c2;refine acO qtX ?_;simp (disch:=omega) only[qBv,coC,go_sem]
  repeat' first
   |((first|refine cA (c1 _) ?_ ?_|refine cA (c2 _) ?_ ?_);exact flk;simp (disch:=omega) only[go_sem])
   |(apply qb;exact rvk;simp only[go_sem];exact qi)
def plG(x:Co)(l:List Un)(d:List Dc)(n:Nat):List Int:=(d.take n).map (qaq x l)
def qz3(x:Co)(l:List Un)(d:List Dc):List Int:=if qbY x l d=0 then plG x l d d.length else []
theorem qC2(x:Co)(l:List Un)(d:List Dc)(h:List AObj)(hz:qdA x)(hu:qjE l)(hp:kR SG h)(hg:zS h frmN frmC)(h1:coE x=0)(hd:d.length≤1000000)(ht: ∀o∈d,o.txt.length≤1000):ACalls Tryz.prog 77 [.agg (coC x),jc l,qaz d] h (.tup [qG (qz3 x l d),.int .i64 (qbY x l d)]) h:=by
 unfold qz3
 by_cases g:256<d.length
 ·have k1:((256:Int)<d.length)=True:=eqt om;have hE:qbY x l d=4:=by unfold qbY;rw[ipo g]
  rw[hE,ine (by decide)];refine acO qzj ?_;simp (disch:=omega) only[qBS,coC,qaz,k1,go_sem]
  repeat' first
   |(apply qb;exact rvk;simp only[go_sem])
  exact VLe.tup ⟨zg,qi,trivial⟩
 have k1:((256:Int)<d.length)=False:=eqf om;have hE:qbY x l d=qbm (fun i=>qds x l (d.getD i default)) 0 d.length:=by unfold qbY;rw[ine g]
 rw[hE];refine acO qzj ?_;simp (disch:=omega) only[qBS,coC,qaz,k1,go_sem];refine qt (T:=fun s:Nat×Nat×AObj×AObj×AObj=>qY 38 [(1,jc l),(3,.op h.length 1 0),(16,qaz d),(17,.int .i64 d.length),(18,.int .i64 s.1),(8,.osl (h.length+2) s.2.1 1 0 s.1)])
  (H:=fun s=>h++ [.mem 1 26 (coC x),.emp 1,qZ s.2.1 3 (qT (plG x l d s.1)),s.2.2.1,s.2.2.2.1,s.2.2.2.2])
  (inv:=fun s=>s.1≤d.length∧(∀j,j<s.1→qds x l (d.getD j default)=0)∧qI [s.2.2.1] 0=true∧qI [s.2.2.2.1] 0=true∧qI [s.2.2.2.2] 0=true) (m:=fun s=>d.length-s.1) (0,1,.emp 0,.emp 0,.emp 0) ⟨nzl _,fun j hj=>absurd hj (nnz j),rfl,rfl,rfl⟩ (Wk.temps ?_) ?_
 ·(simp only[qaz,go_sem,qh,qc,qa,qg];try (repeat' first|(with_reducible apply aiA)|(apply qf;omega)|(apply qe;rfl)|exact qi))
 rintro⟨i,v,O1,O2,O3⟩ ⟨i1,i0,i2,i3,i4⟩ K hK;simp only at i0 i1 i2 i3 i4 hK;have i2': ∀m,qI (O1::m) 0=true:=fun _=>i2
 have i3': ∀m,qI (O2::m) 0=true:=fun _=>i3
 have i4': ∀m,qI (O3::m) 0=true:=fun _=>i4
 have eL:(plG x l d i).length=i:=by unfold plG;rw[List.length_map,List.length_take];omega
 by_cases hi:i<d.length
 ·have k2:((i:Int)<d.length)=True:=eqt om;obtain⟨o,ho⟩: ∃o,o=d.getD i default:=⟨_,rfl⟩
  have eo:=ho.symm;have hom:o∈d:=by rw[ho];exact jo hi
  have hS:plG x l d (i+1)=plG x l d i++ [qaq x l o]:=by
   unfold plG;rw[List.take_add_one,zH hi,List.map_append,ho,gdqA,zH hi];rfl
  have c1:=fun l'=>dpP x l o (h++l') hz hu (hp.app l') hg.app h1 (ht o hom)
  by_cases g3:qds x l o=0
  case neg=>
   have k3:(qds x l o=0)=False:=eqf g3;have hf:qbm (fun i=>qds x l (d.getD i default)) 0 d.length=qds x l o:=by
    rw[qaO hi i0 (by rw[eo];exact g3),eo]
   rw[hf,ine g3];unfold coC dcC at c1;simp (disch:=omega) only[coC,qaz,dcC,k2,eo,i2',go_sem]
   repeat' first
    |(refine cA (c1 _) flk ?_;simp (disch:=omega) only[k3,i3',go_sem])
    |(apply qb;exact rvk;simp only[go_sem])
    |with_reducible apply aiA
   all_goals try exact clz
   exact VLe.tup ⟨zg,qi,trivial⟩
  unfold dpN at c1;rw[g3]at c1;simp only[if_true]at c1;obtain⟨L,hL⟩: ∃L,L=plG x l d i:=⟨_,rfl⟩
  rw[←hL]at hS eL ⊢;have eC:=jU L;have eTk:List.take i (qT L)=qT L:=ltl om;unfold coC dcC at c1;simp (disch:=omega) only[coC,qaz,dcC,k2,eo,i2',go_sem]
  repeat' first
   |(refine cA (c1 _) flk ?_;simp (disch:=omega) only[i3',eC,eL,eTk,Nat.mul_one,go_sem])
   |with_reducible apply aiA
  all_goals try exact clz
  rw[show qT L++ [AV.int IntKind.i64 (qaq x l o)]=qT (L++ [qaq x l o]) by simp[qT],←hS];refine hK _ _ (i+1,v+1,.mem (qq (some O1)+1) 43 (dcC o),.mem (qq (some O2)+1) 3 [.int .i64 (qaq x l o)],O3) ⟨hi,fun j hj=> ?_,rfl,rfl,i4⟩ (by simp only;omega) ?_
  ·by_cases e:j=i
   ·rw[e,eo];exact g3
   ·exact i0 j om
  refine Wk.temps ?_
  (simp only[qaz,dcC,go_sem,qh,qc,qa,qg];try (repeat' first|(with_reducible apply aiA)|(apply qf;omega)|(apply qe;rfl)|exact qi))
 have k2:((i:Int)<d.length)=False:=eqf om;obtain rfl:i=d.length:=by omega
 have hf:qbm (fun i=>qds x l (d.getD i default)) 0 d.length=0:=jT i0;rw[hf,ipo rfl];simp (disch:=omega) only[k2,go_sem]
 repeat' first
  |(apply qb;exact rvk;simp only[go_sem])
 exact VLe.tup ⟨qq1 (fun _=>rfl) eL.symm,qi,trivial⟩
def pcC(p:Pc):List AV:=tkC p.t++ [.int .i64 p.c]
def spX(x:Co)(s f d:Nat):List (List AV):=(spk x s f d).map fun p=> [.agg (pcC p)]
theorem qAA(x:Co)(f t s:Nat)(h:List AObj):ACalls Tryz.prog 82 [.agg (coC x),.int .i64 (f:Int),.int .i64 (t:Int),.int .i64 (s:Int)] h (.fn (.func 130) [] [.ip [.int .i64 (f:Int)],.ip [.int .i64 (t:Int)],.ip (coC x),.ip [.int .i64 (s:Int)]]) h:=by
 unfold coC;refine acO qCu ?_;simp (disch:=omega) only[qDI,go_sem]
 repeat' first
  |(apply qb;exact rvk;simp only[go_sem];exact qi)
theorem qnz(x:Co)(s f d:Nat):(spX x s f d).length=(spk x s f d).length:=by unfold spX;rw[List.length_map]
theorem qvs(x:Co)(s f:Nat): ∀d e,d≤e→ ∃r,spk x s f e=spk x s f d++r:=by
 intro d e h
 induction e with
 |zero=>
  obtain rfl:d=0:=by omega
  exact⟨[],by simp⟩
 |succ e ih=>
  by_cases g:d=e+1
  ·subst g;exact⟨[],by simp⟩
  ·obtain⟨r,hr⟩:=ih om;refine⟨r++(if pcB x s (f+e)=true then [pcT x s (f+e)] else []),?_⟩
   conv=>lhs;unfold spk
   rw[hr,List.append_assoc]
theorem qAz{x:Co}{s f k d:Nat}(hk:k<d)(hb:pcB x s (f+k)=true): ∃g:(spk x s f k).length<(spX x s f d).length,(spX x s f d)[(spk x s f k).length]= [.agg (pcC (pcT x s (f+k)))]∧(spk x s f (k+1)).length=(spk x s f k).length+1:=by
 have e1:spk x s f (k+1)=spk x s f k++ [pcT x s (f+k)]:=by
  conv=>lhs;unfold spk
  rw[ipo hb]
 obtain⟨r,hr⟩:=qvs x s f (k+1) d hk;refine⟨by rw[qnz,hr,e1];simp,?_,by rw[e1];simp⟩;unfold spX;simp only[List.getElem_map,hr,e1];rw[List.getElem_append_left (by simp),List.getElem_append_right (nlr _)];simp
structure SpS where
 k:Nat
 hh:List AObj
theorem itS(x:Co)(s f t:Nat)(hz:qdA x)(ho:CoOk x)(hs:s<x.sig.length)(ht:t≤x.col.length)(ft:f≤t):qou Tryz.prog 130 [.ip [.int .i64 (f:Int)],.ip [.int .i64 (t:Int)],.ip (coC x),.ip [.int .i64 (s:Int)]] (spX x s f (t-f)):=by
 intro h ts LI S E hS hE body start hts;have hsg:=hz.sg;have hcl:=hz.cl;have htn:=ho.tn;have htl:=hz.tl s;have q5:(0≤(s:Int))=True:=eqt om;have q6:((s:Int)<x.tok.length)=True:=eqt om;refine acQ qx7 ?_;simp (disch:=omega) only[qwy,coC,go_sem]
 repeat' first
  |with_reducible apply aiA
 all_goals try exact clz
 refine qt (T:=fun i:SpS=>qY 39 [(0,.yld h.length),(2,.ip [.int .i64 (t:Int)]),(3,.ip (coC x)),(4,.ip [.int .i64 (s:Int)]),(6,.int .i64 ((f+i.k:Nat):Int))]) (H:=fun i=>i.hh++ [.lp .ready ts LI])
  (inv:=fun i=>f+i.k≤t∧S (spk x s f i.k).length i.hh) (m:=fun i=>t-f-i.k) ⟨0,h⟩ ⟨by simp only;omega,start⟩ (Wk.temps ?_) ?_
 ·(simp only[coC,go_sem,qh,qc,qa,qg];try (repeat' first|(with_reducible apply aiA)|(apply qf;omega)|(apply qe;rfl)|exact qi))
 rintro⟨k,hh⟩ ⟨i1,i4⟩ K hK;simp only at i1 i4 hK;obtain⟨hlen,hlow⟩:=hS _ _ i4;have hb:(h++ [AObj.lp LS.ready ts LI]).length=(hh++ [AObj.lp LS.ready ts LI]).length:=by simp[hlen]
 by_cases hi:f+k<t
 ·have q0:(((f+k:Nat):Int)<t)=True:=eqt om;have q1:(0≤((f+k:Nat):Int))=True:=eqt om;have q2:(((f+k:Nat):Int)<x.col.length)=True:=eqt om;obtain⟨c,hcx⟩: ∃c,c=x.col.getD (f+k) []:=⟨_,rfl⟩
  have ec:=hcx.symm;have hcl2:=ho.cl (f+k) om;have hce:=ho.ce (f+k) om s hs;rw[ec]at hcl2 hce;have q3:((s:Int)<c.length)=True:=eqt om;have hpb:pcB x s (f+k)=decide (0≤c.getD s 0):=by unfold pcB;rw[ec]
  by_cases g:0≤c.getD s 0
  ·obtain⟨N,hN⟩: ∃N:Nat,c.getD s 0=N:=⟨(c.getD s 0).toNat,om⟩
   have hNt:N<(x.tok.getD s []).length:=by
    rcases hce with e|⟨_,e⟩
    ·omega
    ·rw[hN]at e;omega
   have q4:(0≤(N:Int))=True:=eqt om;obtain⟨T,hT⟩: ∃T,T=x.tok.getD s []:=⟨_,rfl⟩
   have eT:=hT.symm;rw[eT]at hNt;have q7:((N:Int)<T.length)=True:=eqt om;obtain⟨hdl,hxx,hln⟩:=qAz (x:=x) (s:=s) (f:=f) (k:=k) (d:=t-f) om (by rw[hpb,dqt g]);have hpc:pcT x s (f+k)=⟨T.getD N default,((f+k:Nat):Int)⟩:=by
    unfold pcT;rw[ec,eT,hN,itn]
   have hb':=body _ hh [] hdl i4;rw[hxx,hpc]at hb';unfold pcC tkC at hb';simp only[lca,lna]at hb';simp (disch:=omega) only[coC,qv,qG,qm,zO,tkC,q0,q1,q2,q3,q4,q5,q6,q7,ec,hN,eT,go_sem]
   repeat' first
    |with_reducible apply aiA
   all_goals try exact clz
   ·exact⟨.ready,ts,LI,kK hlen⟩
   ·refine ke.mono ?_ hb';rintro v h' ⟨hh',⟨rfl,hn',rfl⟩|⟨st,rfl,hs',rfl⟩⟩
    ·simp (disch:=omega) only[go_sem];refine hK _ _ ⟨k+1,hh'⟩ ⟨by simp only;omega,by simp only;rw[hln];exact hn'⟩ (by simp only;omega) (Wk.temps ?_)
     (simp only[coC,go_sem,qh,qc,qa,qg];try (repeat' first|(with_reducible apply aiA)|(apply qf;omega)|(apply qe;rfl)|exact qi))
    ·simp (disch:=omega) only[go_sem];obtain⟨r1,r2⟩:=(hE _ _ hs').ret (L:=LI) st hts;exact jB trivial r1 r2 ⟨_,.inr ⟨st,hs',rfl⟩⟩ (qi)
  ·have q4:(0≤c.getD s 0)=False:=eqf g;have e1:spk x s f (k+1)=spk x s f k:=by
    conv=>lhs;unfold spk
    rw[hpb,dqf g,ine (by decide),lan]
   simp (disch:=omega) only[coC,qv,qG,q0,q1,q2,q3,q4,q5,ec,go_sem]
   repeat' first
    |with_reducible apply aiA
   all_goals try exact clz
   refine hK _ _ ⟨k+1,hh⟩ ⟨by simp only;omega,by rw[e1];exact i4⟩ (by simp only;omega) (Wk.temps ?_)
   (simp only[coC,go_sem,qh,qc,qa,qg];try (repeat' first|(with_reducible apply aiA)|(apply qf;omega)|(apply qe;rfl)|exact qi))
 ·have q0:(((f+k:Nat):Int)<t)=False:=eqf om;have hk:k=t-f:=by omega
  rw[hk]at i4;simp (disch:=omega) only[coC,qv,q0,go_sem]
  repeat' first
   |with_reducible apply aiA
  all_goals try exact clz
  obtain⟨r1,r2⟩:=(hS _ _ i4).ret (L:=LI) .ready hts;exact jB trivial r1 r2 ⟨hh,.inl ⟨by rw[qnz];exact i4,rfl⟩⟩ (qi)
end RC
end
section
open Go Go.Proofs AF
def qpY:List Nat:= []
def qwW:C:=
 ((C.ops [O1 2 (.box 0 122) 0,ON 4 (.nilo 1 7 115) []]).seq (((C.wk.seq (C.ops [MV 6 1])).seq (C.block 0 (C.range (.t 6) [7] (C.ops [⟨some 5,none,.alloc 2 115 [.str [],.str [],
 .str [],i6 0,i6 0,.str [],i6 0],[]⟩,ST 7 5 7]) (C.block 1 (C.ops [LD 8 2,O1 9 (.load (some 7)) 5,⟨some 10,none,.bslc 3 7 1 115 [.str [],.str [],.str [],i6 0,i6 0,
 .str [],i6 0] [(0,7)],[.t 9]⟩,O2 11 (.app 4 7 115 88) 8 10,ST 1 2 11]))))).seq ((C.ops [LD 12 2,MV 4 12]).seq
 C.ret)))
theorem qyx:qL Tryz.prog 179 13 5 [RV.tmp 4] qwW:=fi Tryz.f179 [2,4,5,10,11] qpY [1]
end
section
open Go Go.Proofs AF HY LN
namespace RC
def qba(L:List Pc):List AV:=L.flatMap pcC
instance:Inhabited Pc:=⟨⟨default,0⟩⟩
def qeW(L:List Pc):AV:= .sl L.length fun i=>pcC (L.getD i default)
theorem qlD(l:List Pc):(qeW l).flag=true:=rfl
theorem qjk(l:List Pc):(qeW l).strip=qeW l:=rfl
theorem qqL{fz:Nat→Bool}{h:List AObj}{n:Nat}(l:List Pc):rei fz h (n+1) (qeW l)=qeW l:=rfl
theorem qpP{fz:Nat→Bool}{h:List AObj}{n:Nat}(l:List Pc):frz fz h (n+1) (qeW l)=qeW l:=rfl
attribute [go_sem] qlD qjk qqL qpP
theorem qmF(p:Pc):(pcC p).length=7:=rfl
theorem qes(L:List Pc):(qba L).length=L.length*7:=by
 unfold qba
 induction L with
 |nil=>rfl
 |cons a L ih=>rw[List.flatMap_cons,lap,ih,lco,qmF];omega
theorem qbw(A B:List Pc):qba (A++B)=qba A++qba B:=by simp[qba]
theorem qbx(a:Pc):qba [a]=pcC a:=by simp[qba]
theorem qmG(L:List Pc): ∀i,(qba L).drop (i*7)=qba (L.drop i):=by
 induction L with
 |nil=>intro i;simp[qba]
 |cons a L ih=>
  intro i;cases i with
  |zero=>simp
  |succ i=>
   rw[show qba (a::L)=pcC a++qba L from rfl,show (a::L).drop (i+1)=L.drop i from rfl,←ih i];rw[show (i+1)*7=(pcC a).length+i*7 by rw[qmF];omega,List.drop_append,List.drop_eq_nil_of_le om,lna,Nat.add_sub_cancel_left]
theorem qqu{L:List Pc}{i:Nat}(hi:i<L.length):((qba L).drop (i*7)).take 7=pcC (L.getD i default):=by
 rw[qmG,List.drop_eq_getElem_cons hi,gdqA,zH hi];rfl
theorem qqv(L:List Pc)(n:Nat): ∀c∈qba L,qU n c=true:=by
 intro c hc;unfold qba at hc;obtain⟨x,_,hx⟩:=List.mem_flatMap.1 hc;unfold pcC tkC at hx;simp only[lca,lna,List.mem_cons,List.not_mem_nil,or_false]at hx;rcases hx with rfl|rfl|rfl|rfl|rfl|rfl|rfl<;>rfl
theorem qhI{v n:Nat}{L:List Pc}{ty:TypeId}{fz:Nat→Bool}{h:List AObj}{d:Nat}(hn:n=L.length):VLe (qhH (some (qZ v ty (qba L))) v 7 0 n (rei fz h (d+1))) (qeW L):=by
 subst hn;unfold qZ;split
 ·rename_i e
  have:L= []:=by
   cases L with
   |nil=>rfl
   |cons a r=>exact absurd e (by simp[qba,pcC,tkC])
  subst this;rw[slOf_emp,ipo rfl];exact zg
 ·rw[slOf_mem,ipo ⟨rfl,by rw[qes];omega⟩];refine VLe.sl_eq rfl (fun i hi=> ?_);simp only[Nat.zero_add];rw[qqu hi];rfl
theorem qEj(f:FuncId)(A B C D:List AV)(L:List Pc)(h:List AObj)(hf:qou Tryz.prog f [.ip A,.ip B,.ip C,.ip D] (L.map fun p=> [.agg (pcC p)]))(hL:L.length≤1000000000):ACalls Tryz.prog 179 [.nl,.fn (.func f) [] [.ip A,.ip B,.ip C,.ip D]] h (qeW L) h:=by
 refine acO qyx ?_;simp (disch:=omega) only[qwW,go_sem];refine⟨_,_,Wk.ownNil (j:=h.length) (i:=0) (k:=h.length+4) (v:=1) (ty:=122) (cs:= [.nl]) (ve:=0) (sz:=7) ?m1 rfl ?m2,?_⟩
 case m1=>simp only[go_sem]
 case m2=>simp only[go_sem]
 simp (disch:=omega) only[List.set_cons_zero,go_sem];have hxl:(L.map fun p=> [AV.agg (pcC p)]).length=L.length:=List.length_map ..;have hLow: ∀(i n:Nat) O1 O2,(∀n,lowO n O1)→(∀n,lowO n O2)→LowI (h++ [.mem 1 122 [.osl (h.length+4) 0 7 0 0],.emp 1,.emp 0,.emp 0,.emp 0]) (h++ [.mem 1 122 [.osl (h.length+4) i 7 0 n],.emp 1,O1,O2,qZ i 115 (qba (L.take i))]):=fun i n O1 O2 l1 l2=>by
  refine⟨by simp,fun o ho=> ?_⟩;rcases List.mem_append.1 ho with h1|h1
  ·exact .inl (List.mem_append_left _ h1)
  ·simp only[List.mem_cons,List.not_mem_nil,or_false]at h1;have hb: ∀n,lowO n (qZ i 115 (qba (L.take i))):=fun n=>jp (qqv _ n)
   rcases h1 with rfl|rfl|rfl|rfl|rfl
   ·right;refine⟨fun c hc=> ?_,fun c hc=> ?_⟩<;>
    ·rw[List.mem_singleton]at hc;subst hc;simp[qU]
     try omega
   ·left;simp
   ·right;exact⟨l1 _,l1 _⟩
   ·right;exact⟨l2 _,l2 _⟩
   ·right;exact⟨hb _,hb _⟩
 refine zk hf (fun a ha=> ?_)
  (S:=fun i hh=> ∃O1 O2,qI [O1] 0=true∧qI [O2] 0=true∧(∀n,lowO n O1)∧(∀n,lowO n O2)∧hh=h++ [.mem 1 122 [.osl (h.length+4) i 7 0 i],.emp 1,O1,O2,qZ i 115 (qba (L.take i))]) (E:=fun _ _=>False) ?_ ?_ ?_ ?_ ?_ ?_ ?_
 ·obtain⟨c,_,rfl⟩:=List.mem_map.1 ha;rfl
 ·rintro i hh ⟨O1,O2,_,_,l1,l2,rfl⟩;exact hLow _ _ _ _ l1 l2
 ·intro s hh hf;exact hf.elim
 ·exact⟨.emp 0,.emp 0,rfl,rfl,fun _=>trivial,fun _=>trivial,rfl⟩
 ·simp[qU,qU.lowVs]
  try omega
 ·rintro i hh tl LI TS hi ⟨O1,O2,s1,s2,l1,l2,rfl⟩ hlen K K2 hK hN hR' hX;have hi':i<L.length:=by rw[hxl]at hi;exact hi
  rw[List.getElem_map];have s1': ∀m,qI (O1::m) 0=true:=fun _=>s1
  have s2': ∀m,qI (O2::m) 0=true:=fun _=>s2
  have hS:L.take (i+1)=L.take i++ [L.getD i default]:=by
   rw[List.take_add_one,zH hi',gdqA,zH hi'];rfl
  have eG:L[i]=L.getD i default:=by rw[gdqA,zH hi'];rfl
  rw[eG];obtain⟨p,hp⟩: ∃p,p=L.getD i default:=⟨_,rfl⟩
  rw[←hp]at hS ⊢;obtain⟨M,hM⟩: ∃M,M=L.take i:=⟨_,rfl⟩
  have eM:M.length=i:=by rw[hM,List.length_take];omega
  rw[←hM]at hS ⊢;have eC:=qes M;have eTk:List.take (i*7) (qba M)=qba M:=ltl om;simp only[kF,List.append_assoc,lca,lna];simp (disch:=omega) only[s1',pcC,tkC,go_sem];refine hK _ _ (h++ [.mem 1 122 [.osl (h.length+4) i 7 0 i],.emp 1,.mem (qq (some O1)+1) 115 (pcC p),O2,qZ i 115 (qba M)]) ?_ ?_ ?_
  ·simp[pcC,tkC]
  ·simp
  ·simp only[List.append_assoc,lca,lna];simp (disch:=omega) only[s2',pcC,tkC,eC,eTk,eM,go_sem]
   repeat' first
    |with_reducible apply aiA
   all_goals try exact clz
   have eA:qba M++ [AV.str p.t.text,AV.str p.t.norm,AV.str p.t.page,.int .i64 p.t.line,.int .i64 p.t.flags,.str p.t.name,.int .i64 p.c]=qba (M++ [p]):=by rw[qbw,qbx];rfl
   refine hN _ _ (h++ [.mem 1 122 [.osl (h.length+4) (i+1) 7 0 (i+1)],.emp 1,.mem (qq (some O1)+1) 115 (pcC p),.mem (qq (some O2)+1) 115 (pcC p),qZ (i+1) 115 (qba (M++ [p]))]) ?_ ?_ ⟨_,_,rfl,rfl,?_,?_,by rw[hS]⟩
   ·rw[←eA];simp[pcC,tkC];exact nlr _
   ·simp
   ·intro n c hc;simp[pcC,tkC]at hc;rcases hc with rfl|rfl|rfl|rfl|rfl|rfl|rfl<;>rfl
   ·intro n c hc;simp[pcC,tkC]at hc;rcases hc with rfl|rfl|rfl|rfl|rfl|rfl|rfl<;>rfl
 ·rintro hh ⟨O1,O2,s1,s2,l1,l2,rfl⟩;rw[hxl,List.take_length];simp (disch:=omega) only[go_sem]
  repeat' first
   |(apply qb;exact rvk;simp only[go_sem])
   |with_reducible apply aiA
  all_goals try exact clz
  exact qhI rfl
 ·intro e hh hf;exact hf.elim
theorem qEv(f:FuncId)(A B C D:List AV)(L:List Pc)(h:List AObj)(hf:qou Tryz.prog f [.ip A,.ip B,.ip C,.ip D] (L.map fun p=> [.agg (pcC p)]))(hL:L.length≤1000000000):ACalls Tryz.prog 132 [.fn (.func f) [] [.ip A,.ip B,.ip C,.ip D]] h (qeW L) h:=by
 have c1:=fun h=>qEj f A B C D L h hf hL
 refine acO qx9 ?_;simp (disch:=omega) only[qwA,go_sem]
 repeat' first
  |(refine cA (c1 _) flk ?_;simp (disch:=omega) only[go_sem])
  |(apply qb;exact rvk;simp only[go_sem];exact qi)
theorem qES(h:List AObj):ACalls Tryz.prog 83 [] h (.agg [.nilfn,.fn (.func 131) [] [],.fn (.func 133) [] [],.fn (.func 135) [] []]) h:=by
 refine acO qCv ?_;simp (disch:=omega) only[qDJ,go_sem]
 repeat' first
  |(apply qb;exact rvk;simp only[go_sem];exact qi)
theorem qER(x:Co)(u:Un)(o:Dc)(h:List AObj):ACalls Tryz.prog 135 [.agg (coC x),.agg (unC u),.agg (dcC o)] h (qeW []) h:=by
 refine acO qyc ?_;simp (disch:=omega) only[qwD,coC,unC,dcC,go_sem]
 repeat' first
  |(apply qb;exact rvk;simp only[go_sem])
 exact zg
theorem qEP(x:Co)(u:Un)(o:Dc)(s f t:Nat)(h:List AObj)(hz:qdA x)(ho:CoOk x)(hx:zP x o.sig=s)(hs:s<x.sig.length)(hf:u.frm=f)(hu:u.to=t)(ht:t≤x.col.length)(ft:f≤t):ACalls Tryz.prog 131 [.agg (coC x),.agg (unC u),.agg (dcC o)] h (qeW (spk x s f (t-f))) h:=by
 have c1:=fun h=>qul x.sig.length (fun j=>x.sig.getD j []) o.sig h hz.sg
 have hS:qcI (fun j=>decide (o.sig=x.sig.getD j [])) x.sig.length 0=zP x o.sig:=rfl;simp only[hS,hx]at c1;have c2:=fun h=>qAA x f t s h
 have hcl:=hz.cl;have c3:=fun h=>qEv 130 [.int .i64 (f:Int)] [.int .i64 (t:Int)] (coC x) [.int .i64 (s:Int)] (spk x s f (t-f)) h (itS x s f t hz ho hs ht ft) (Nat.le_trans (qeG x s f (t-f)) om)
 unfold coC at c2 c3;refine acO qx8 ?_;simp (disch:=omega) only[qwz,coC,unC,dcC,strs,hf,hu,go_sem]
 repeat' first
  |((first|refine cA (c1 _) ?_ ?_|refine cA (c2 _) ?_ ?_|refine cA (c3 _) ?_ ?_);exact flk;simp (disch:=omega) only[strs,go_sem])
  |(apply qb;exact rvk;simp only[go_sem];exact qi)
 done
def cjP(L:List Tk)(f:Int):List Pc:=L.map fun t=>⟨t,f⟩
theorem qtm(L:List Tk)(f:Int):(cjP L f).length=L.length:=List.length_map ..
theorem qnT{s:Str}{t:Tk}(h:t∈qfQ s):t.name= []∧(t.flags=0∨t.flags=16∨t.flags=8∨t.flags=24):=by
 obtain⟨a,⟨e,g⟩,rfl,_⟩:=qgP s h;refine⟨by rw[e];rfl,?_⟩;show a.flags=0∨a.flags=16∨a.flags=8∨a.flags=24;rcases g with⟨g|g,_⟩|⟨g|g,_⟩
 ·exact .inl g
 ·exact .inr (.inl g)
 ·exact .inr (.inr (.inl g))
 ·exact .inr (.inr (.inr g))
theorem qEQ(x:Co)(u:Un)(o:Dc)(h:List AObj)(hl:o.txt.length≤1000)(hs:o.txt≠ [])(hc:zQ o.txt=0)(he:qhT o.txt=0)(hg:zS h frmN frmC):ACalls Tryz.prog 133 [.agg (coC x),.agg (unC u),.agg (dcC o)] h (qeW (cjP (qfQ o.txt) u.frm)) h:=by
 have c1:=fun l=>qEr o.txt (h++l) hl hs hc hg.app
 have hT:qhU o.txt=qfQ o.txt:=by unfold qhU;rw[ipo he]
 rw[hT]at c1;have hfl:=fun t=> @qnT o.txt t
 have hTl:=qeK o.txt;obtain⟨T,hTe⟩: ∃T,T=qfQ o.txt:=⟨_,rfl⟩
 rw[←hTe]at c1 hTl hfl ⊢;have zu: ∀g l,valL g .len [zO l]= .int .i64 l.length:=fun _ _=>rfl
 have zv: ∀g l,okL g .len [zO l]=True:=fun _ _=>eqt trivial
 refine acO qya ?_;simp (disch:=omega) only[qwB,coC,unC,dcC,go_sem]
 repeat' first
  |(refine cA (c1 _) flk ?_;simp (disch:=omega) only[zu,zv,go_sem])
  |with_reducible apply aiA
 all_goals try exact clz
 refine qt (T:=fun s:Nat×Nat×AObj×AObj=>qY 32 [(4,.op (h.length+1) 1 0),(12,zO T),(13,.int .i64 T.length),(14,.int .i64 s.1),(7,.osl (h.length+4) s.2.1 7 0 s.1)])
  (H:=fun s=>h++ [.mem 1 26 (coC x),.mem 1 64 (unC u),.mem 1 43 (dcC o),.emp 1,qZ s.2.1 115 (qba (cjP (T.take s.1) u.frm)),s.2.2.1,s.2.2.2,.emp 0])
  (inv:=fun s=>s.1≤T.length∧qI [s.2.2.1] 0=true∧qI [s.2.2.2] 0=true) (m:=fun s=>T.length-s.1) (0,1,.emp 0,.emp 0) ⟨nzl _,rfl,rfl⟩ (Wk.temps ?_) ?_
 ·(simp only[zO,go_sem,qh,qc,qa,qg];try (repeat' first|(with_reducible apply aiA)|(apply qf;omega)|(apply qe;rfl)|exact qi))
 rintro⟨i,v,O1,O2⟩ ⟨i1,i2,i3⟩ K hK;simp only at i1 i2 i3 hK;have i2': ∀m,qI (O1::m) 0=true:=fun _=>i2
 have i3': ∀m,qI (O2::m) 0=true:=fun _=>i3
 have eL:(cjP (T.take i) u.frm).length=i:=by rw[qtm,List.length_take];omega
 by_cases hi:i<T.length
 ·have k2:((i:Int)<T.length)=True:=eqt om;obtain⟨t,ht⟩: ∃t,t=T.getD i default:=⟨_,rfl⟩
  have et:=ht.symm;obtain⟨hn,hf⟩:=hfl t (by rw[ht];exact jo hi);have hS:cjP (T.take (i+1)) u.frm=cjP (T.take i) u.frm++ [⟨t,u.frm⟩]:=by
   unfold cjP;rw[List.take_add_one,zH hi,List.map_append,ht,gdqA,zH hi];rfl
  obtain⟨L,hL⟩: ∃L,L=cjP (T.take i) u.frm:=⟨_,rfl⟩
  rw[←hL]at hS eL ⊢;have eC:=qes L;have eTk:List.take (i*7) (qba L)=qba L:=ltl om;obtain⟨tx,nm,pg,ln,fl,na⟩:=t;simp only at hn hf;subst hn;rcases hf with rfl|rfl|rfl|rfl
  all_goals
   simp (disch:=omega) only[coC,unC,dcC,zO,tkC,k2,et,i2',i3',eC,eL,eTk,go_sem]
   repeat' first
    |with_reducible apply aiA
   all_goals try exact clz
  ·refine hK _ _ (i+1,v+1,.mem (qq (some O1)+1) 103 (tkC ⟨tx,nm,pg,ln,0,[]⟩),.mem (qq (some O2)+1) 115 (pcC ⟨⟨tx,nm,pg,ln,0,[]⟩,u.frm⟩)) ⟨hi,rfl,rfl⟩ (by simp only;omega) ?_;simp only[hS,pcC,tkC,qbw,qbx,lca,lna];refine Wk.temps ?_
   (simp only[zO,tkC,go_sem,qh,qc,qa,qg];try (repeat' first|(with_reducible apply aiA)|(apply qf;omega)|(apply qe;rfl)|exact qi))
  ·refine hK _ _ (i+1,v+1,.mem (qq (some O1)+1) 103 (tkC ⟨tx,nm,pg,ln,16,[]⟩),.mem (qq (some O2)+1) 115 (pcC ⟨⟨tx,nm,pg,ln,16,[]⟩,u.frm⟩)) ⟨hi,rfl,rfl⟩ (by simp only;omega) ?_;simp only[hS,pcC,tkC,qbw,qbx,lca,lna];refine Wk.temps ?_
   (simp only[zO,tkC,go_sem,qh,qc,qa,qg];try (repeat' first|(with_reducible apply aiA)|(apply qf;omega)|(apply qe;rfl)|exact qi))
  ·refine hK _ _ (i+1,v+1,.mem (qq (some O1)+1) 103 (tkC ⟨tx,nm,pg,ln,8,[]⟩),.mem (qq (some O2)+1) 115 (pcC ⟨⟨tx,nm,pg,ln,8,[]⟩,u.frm⟩)) ⟨hi,rfl,rfl⟩ (by simp only;omega) ?_;simp only[hS,pcC,tkC,qbw,qbx,lca,lna];refine Wk.temps ?_
   (simp only[zO,tkC,go_sem,qh,qc,qa,qg];try (repeat' first|(with_reducible apply aiA)|(apply qf;omega)|(apply qe;rfl)|exact qi))
  ·refine hK _ _ (i+1,v+1,.mem (qq (some O1)+1) 103 (tkC ⟨tx,nm,pg,ln,24,[]⟩),.mem (qq (some O2)+1) 115 (pcC ⟨⟨tx,nm,pg,ln,24,[]⟩,u.frm⟩)) ⟨hi,rfl,rfl⟩ (by simp only;omega) ?_;simp only[hS,pcC,tkC,qbw,qbx,lca,lna];refine Wk.temps ?_
   (simp only[zO,tkC,go_sem,qh,qc,qa,qg];try (repeat' first|(with_reducible apply aiA)|(apply qf;omega)|(apply qe;rfl)|exact qi))
 have k2:((i:Int)<T.length)=False:=eqf om;obtain rfl:i=T.length:=by omega
 simp (disch:=omega) only[k2,go_sem]
 repeat' first
  |(apply qb;exact rvk;simp only[go_sem])
 rw[List.take_length]at eL ⊢;exact qhI eL.symm
end RC
end
section
open Go Go.Proofs AF
def qub:List Nat:= [79]
def qv2:C:=
 ((C.ops [O1 4 (.box 0 115) 0]).seq ((C.ops [O1 9 (.fldA 0) 4,O1 10 (.fldA 0) 9,LD 11 10,O1 12 (.fldA 6) 4,LD 13 12,MV 14 1,MV 15 2,O1 16 (.fldA 0) 4,O1 17 (.fldA 4) 16,LD
 18 17,BC 19 .and 18 (i6 4),BC 20 .neq 19 (i6 0),O1 21 (.fldA 0) 4,O1 22 (.fldA 5) 21,LD 23 22,⟨some 24,none,.build [.str [],i6 0,i6 0,i6 0,.bool false,.bool false,
 .str []] [(0,1),(1,1),(2,1),(3,1),(5,1),(6,1)],[.t 11,.t 13,.t 14,.t 15,.t 20,.t 23]⟩,⟨some 7,none,.alloc 1 36 [.str [],i6 0,i6 0,i6 0,.bool false,.bool
 false,.str []],[]⟩,ST 7 7 24]).seq ((C.ops [LD 25 3,O1 26 .len 25,MV 8 26]).seq ((C.ops [O1 27 (.fldA 0) 4,O1 28 (.fldA 4) 27,LD 29 28,BC 30 .and 29 (i6 16),BC 31 .neq 30
 (i6 0),MV 32 31,MG 33 32 true 8,PC 34 32 true (.bin .gtr) 33 (i6 0),PF 35 32 34,MV 36 35,P1 37 36 true (.load none) 3,MG 38 36 true 8,PC 39 36 true (.bin .sub) 38 (i6 1),
 P2 40 36 true (.idxA 7) 37 39,P1 41 36 true (.fldA 0) 40,P1 42 36 true (.load none) 41,P1 43 36 true (.fldA 0) 7,P1 44 36 true (.load none) 43,P2 45 36 true (.call 80 true) 42
 44,PF 46 36 45,O1 47 (.fldA 4) 7,ST 1 47 46]).seq (C.ops [LD 48 3,O1 49 (.load (some 7)) 7,⟨some 50,none,.bslc 2 7 1 36 [.str [],i6 0,i6 0,i6 0,.bool false,.bool false,
 .str []] [(0,7)],[.t 49]⟩,O2 51 (.app 3 7 36 64) 48 50,ST 1 3
 51])))))
theorem qlN:qL Tryz.prog 79 52 4 [] qv2:=fi Tryz.f79 [4,7,50,51] qub []
end
section
open Go Go.Proofs AF HY LN
namespace RC
theorem qBE: ∀f:Nat,f<32→qov .i64 (f:Int) 4=if f.testBit 2 then 4 else 0:=by decide+kernel
theorem qwi: ∀f:Nat,f<32→qov .i64 (f:Int) 16=if f.testBit 4 then 16 else 0:=by decide+kernel
def qus(W:List Wd):Option Str:=if W.length=0 then none else some (W.getD (W.length-1) default).text
section
variable {h : List AObj} {a b c va : Nat}
def quK(h:List AObj)(a b c:Nat)(va vb:Nat)(W:List Wd)(Z:AObj):List AObj:=tri h a b c (.mem va 29 [.osl b vb 7 0 W.length]) (qZ vb 36 (jv W)) Z
theorem qEh(t:T3 h a b c)(W:List Wd)(p:Pc)(u d:Int)(vb F:Nat)(Z:AObj)(hZ: ∀n,lowO n Z)(hF:p.t.flags=F)(hF2:F<32)(hx:p.t.text.length≤1000000000)(hW:W.length≤1000000000)(hWx: ∀w∈W,w.text.length≤1000000000):ACalls Tryz.prog 79 [.agg (pcC p),.int .i64 u,.int .i64 d,.op a va 0] (quK h a b c va vb W Z) (.tup []) (quK h a b c va (vb+1) (W++ [mkW (qus W) ⟨p,u,d⟩]) Z):=by
 have ta:=t.la;have tb:=t.lb;have tc:=t.lc;have zga: ∀ {X Y Z l},qr (a) (tri h a b c X Y Z++l)=some X:=qao (t);have yga: ∀ {X Y Z},qr (a) (tri h a b c X Y Z)=some X:=fun {X Y Z}=>by have:=zga (X:=X) (Y:=Y) (Z:=Z) (l:= []);simpa only[lan] using this
 have zgb: ∀ {X Y Z l},qr (b) (tri h a b c X Y Z++l)=some Y:=qaK (t);have ygb: ∀ {X Y Z},qr (b) (tri h a b c X Y Z)=some Y:=fun {X Y Z}=>by have:=zgb (X:=X) (Y:=Y) (Z:=Z) (l:= []);simpa only[lan] using this
 have zgc: ∀ {X Y Z l},qr (c) (tri h a b c X Y Z++l)=some Z:=qap (t);have ygc: ∀ {X Y Z},qr (c) (tri h a b c X Y Z)=some Z:=fun {X Y Z}=>by have:=zgc (X:=X) (Y:=Y) (Z:=Z) (l:= []);simpa only[lan] using this
 have zsa: ∀ {X Y Z o l},qo (a) (tri h a b c X Y Z++l) o=tri h a b c o Y Z++l:=qaL (t);have ysa: ∀ {X Y Z o},qo (a) (tri h a b c X Y Z) o=tri h a b c o Y Z:=fun {X Y Z o}=>by have:=zsa (X:=X) (Y:=Y) (Z:=Z) (o:=o) (l:= []);simpa only[lan] using this
 have zsb: ∀ {X Y Z o l},qo (b) (tri h a b c X Y Z++l) o=tri h a b c X o Z++l:=qaW (t);have ysb: ∀ {X Y Z o},qo (b) (tri h a b c X Y Z) o=tri h a b c X o Z:=fun {X Y Z o}=>by have:=zsb (X:=X) (Y:=Y) (Z:=Z) (o:=o) (l:= []);simpa only[lan] using this
 have zsc: ∀ {X Y Z o l},qo (c) (tri h a b c X Y Z++l) o=tri h a b c X Y o++l:=qaX (t);have ysc: ∀ {X Y Z o},qo (c) (tri h a b c X Y Z) o=tri h a b c X Y o:=fun {X Y Z o}=>by have:=zsc (X:=X) (Y:=Y) (Z:=Z) (o:=o) (l:= []);simpa only[lan] using this
 have zca: ∀ {X Y Z v l},cellsOf (tri h a b c X Y Z++l) (a) v=qu (some X) v:=qbE (t);have yca: ∀ {X Y Z v},cellsOf (tri h a b c X Y Z) (a) v=qu (some X) v:=fun {X Y Z v}=>by have:=zca (X:=X) (Y:=Y) (Z:=Z) (v:=v) (l:= []);simpa only[lan] using this
 have zcb: ∀ {X Y Z v l},cellsOf (tri h a b c X Y Z++l) (b) v=qu (some Y) v:=qbF (t);have ycb: ∀ {X Y Z v},cellsOf (tri h a b c X Y Z) (b) v=qu (some Y) v:=fun {X Y Z v}=>by have:=zcb (X:=X) (Y:=Y) (Z:=Z) (v:=v) (l:= []);simpa only[lan] using this
 have zcc: ∀ {X Y Z v l},cellsOf (tri h a b c X Y Z++l) (c) v=qu (some Z) v:=qbG (t);have ycc: ∀ {X Y Z v},cellsOf (tri h a b c X Y Z) (c) v=qu (some Z) v:=fun {X Y Z v}=>by have:=zcc (X:=X) (Y:=Y) (Z:=Z) (v:=v) (l:= []);simpa only[lan] using this
 have zla: ∀ {X Y Z v l},qz (tri h a b c X Y Z++l) (a) v=qF (some X) v:=qbH (t);have yla: ∀ {X Y Z v},qz (tri h a b c X Y Z) (a) v=qF (some X) v:=fun {X Y Z v}=>by have:=zla (X:=X) (Y:=Y) (Z:=Z) (v:=v) (l:= []);simpa only[lan] using this
 have zlb: ∀ {X Y Z v l},qz (tri h a b c X Y Z++l) (b) v=qF (some Y) v:=qbI (t);have ylb: ∀ {X Y Z v},qz (tri h a b c X Y Z) (b) v=qF (some Y) v:=fun {X Y Z v}=>by have:=zlb (X:=X) (Y:=Y) (Z:=Z) (v:=v) (l:= []);simpa only[lan] using this
 have zlc: ∀ {X Y Z v l},qz (tri h a b c X Y Z++l) (c) v=qF (some Z) v:=qbJ (t);have ylc: ∀ {X Y Z v},qz (tri h a b c X Y Z) (c) v=qF (some Z) v:=fun {X Y Z v}=>by have:=zlc (X:=X) (Y:=Y) (Z:=Z) (v:=v) (l:= []);simpa only[lan] using this
 have e4:=qBE F hF2;have e16:=qwi F hF2;have hL:=qh2 W;have ev:qDi p.t.flags=F.testBit 2:=by unfold qDi;rw[hF,itn]
 have ej:jnB p.t.flags=F.testBit 4:=by unfold jnB;rw[hF,itn]
 unfold mkW;simp only[ev,ej];unfold quK;have eTk:List.take (W.length*7) (jv W)=jv W:=ltl om;have lo: ∀(n:Nat),lowO h.length (.mem va 29 [.osl b (vb+1) 7 0 n]):=fun n cc hc=>by
  rw[List.mem_singleton]at hc;subst hc;simp[qU];omega
 have lq: ∀L:List Wd,lowO h.length (qZ (vb+1) 36 (jv L)):=fun L=>jp (qcS L _)
 have fin: ∀(w:Wd) (tt:List AV) (tl:List AObj),fnQ [] (tri h a b c (.mem va 29 [.osl b vb 7 0 W.length]) (qZ vb 36 (jv W)) Z) (fun r1 h1=>r1= .tup []∧h1=tri h a b c (.mem va 29 [.osl b (vb+1) 7 0 (W++ [w]).length]) (qZ (vb+1) 36 (jv (W++ [w]))) Z) .normal tt (tri h a b c (.mem va 29 [.osl b (vb+1) 7 0 (W.length+1)]) (qZ (vb+1) 36 (jv W++wdC w)) Z++tl):=fun w tt tl=>by
  have eA:jv W++wdC w=jv (W++ [w]):=by rw[qrA,qrB]
  rw[eA,show (W++ [w]).length=W.length+1 by simp];exact zL trivial (by simp only[tri_len]) (jK t (lo _) (lq _) (hZ _)) ⟨rfl,rfl⟩ (qi)
 have k4:((4:Int)=0)=False:=eqf (by decide);have k16:((16:Int)=0)=False:=eqf (by decide);have hb1: ∀n,(b !=h.length+n)=true:=fun n=>by simp;omega
 by_cases hW0:W= []
 ·have k0:((0:Int)<W.length)=False:=eqf (by rw[hW0];simp);have eG:(qu (some (qZ vb 36 (jv W))) vb).getD []=jv W:=by rw[hW0];rfl
  have el:qus W=none:=by unfold qus;rw[ipo (by rw[hW0];rfl)]
  rw[el];cases g2:F.testBit 2<;>cases g4:F.testBit 4<;>rw[g2]at e4<;>rw[g4]at e16<;>simp only[Bool.false_eq_true,if_false,if_true]at e4 e16
  all_goals
   refine acO qlN ?_;simp (disch:=omega) only[qv2,pcC,tkC,hF,e4,e16,zca,zcb,zlb,qX,ql,eG,hL,k0,k4,k16,decide_true,decide_false,Bool.not_false,Bool.not_true,Bool.and_false,go_sem]
   repeat' first
    |(refine qj ( .bool false) ?_;simp (disch:=omega) only[zga,zgb,zsa,zsb,zca,zcb,zlb,qX,ql,eG,eTk,hL,Bool.not_false,Bool.and_false,go_sem])
    |with_reducible apply aiA
   all_goals try exact clz
  all_goals try exact hb1 _
  all_goals exact fin ⟨_,_,_,_,_,_,_⟩ _ _
 ·have hpos:0<W.length:=List.length_pos_iff.2 hW0;have k0:((0:Int)<W.length)=True:=eqt om;obtain⟨z,hz⟩: ∃z,z=W.getD (W.length-1) default:=⟨_,rfl⟩
  have el:qus W=some z.text:=by unfold qus;rw[ine om,hz]
  rw[el];have hzx:=hWx z (by rw[hz];exact jo om);have gI:(jv W)[(W.length-1)*7]? =some (.str z.text):=by
   have:=qh1 (L:=W) (i:=W.length-1) om
   rw[←hz]at this;have h2:(((jv W).drop ((W.length-1)*7)).take 7)[0]? =some (.str z.text):=by rw[this];rfl
   rwa [List.getElem?_take,ipo om,List.getElem?_drop,Nat.add_zero]at h2
  have eI:((W.length:Int)-1).toNat=W.length-1:=by omega
  have eO:qu (some (qZ vb 36 (jv W))) vb=some (jv W):=by
   rw[qal (fun e=>by rw[e]at hL;simp at hL;omega),ql,ipo rfl]
  have c1:=fun h=>qEO z.text p.t.text h hzx hx
  cases g2:F.testBit 2<;>cases g4:F.testBit 4<;>rw[g2]at e4<;>rw[g4]at e16<;>simp only[Bool.false_eq_true,if_false,if_true]at e4 e16
  case false.false=>
   refine acO qlN ?_;simp (disch:=omega) only[qv2,pcC,tkC,hF,e4,e16,zca,zcb,zlb,qX,ql,eO,hL,k0,decide_true,Bool.not_false,Bool.not_true,Bool.and_true,Bool.false_and,Bool.true_and,eI,gI,go_sem]
   repeat' first
    |(refine qj ( .bool false) ?_;simp (disch:=omega) only[zga,zgb,zsa,zsb,zca,zcb,zlb,qX,ql,eO,eTk,hL,Bool.not_false,Bool.false_and,Bool.true_and,go_sem])
    |with_reducible apply aiA
   all_goals try exact clz
   all_goals try exact hb1 _
   exact fin ⟨_,_,_,_,_,_,_⟩ _ _
  case false.true=>
   refine acO qlN ?_;simp (disch:=omega) only[qv2,pcC,tkC,hF,e4,e16,zca,zcb,zlb,qX,ql,eO,hL,k0,k16,decide_true,decide_false,Bool.not_false,Bool.not_true,Bool.and_true,Bool.false_and,Bool.true_and,eI,gI,go_sem]
   repeat' first
    |(refine cG (fun e=>c1 _) flk ?_;simp (disch:=omega) only[zga,zgb,zsa,zsb,zca,zcb,zlb,qX,ql,eO,eTk,hL,Bool.not_true,Bool.false_and,Bool.true_and,go_sem])
    |with_reducible apply aiA
   all_goals try exact clz
   all_goals try exact hb1 _
   exact fin ⟨_,_,_,_,_,_,_⟩ _ _
  case true.false=>
   refine acO qlN ?_;simp (disch:=omega) only[qv2,pcC,tkC,hF,e4,e16,zca,zcb,zlb,qX,ql,eO,hL,k0,k4,decide_true,decide_false,Bool.not_false,Bool.not_true,Bool.and_true,Bool.false_and,Bool.true_and,eI,gI,go_sem]
   repeat' first
    |(refine qj ( .bool false) ?_;simp (disch:=omega) only[zga,zgb,zsa,zsb,zca,zcb,zlb,qX,ql,eO,eTk,hL,Bool.not_false,Bool.false_and,Bool.true_and,go_sem])
    |with_reducible apply aiA
   all_goals try exact clz
   all_goals try exact hb1 _
   exact fin ⟨_,_,_,_,_,_,_⟩ _ _
  case true.true=>
   refine acO qlN ?_;simp (disch:=omega) only[qv2,pcC,tkC,hF,e4,e16,zca,zcb,zlb,qX,ql,eO,hL,k0,k4,k16,decide_true,decide_false,Bool.not_false,Bool.not_true,Bool.and_true,Bool.false_and,Bool.true_and,eI,gI,go_sem]
   repeat' first
    |(refine cG (fun e=>c1 _) flk ?_;simp (disch:=omega) only[zga,zgb,zsa,zsb,zca,zcb,zlb,qX,ql,eO,eTk,hL,Bool.not_true,Bool.false_and,Bool.true_and,go_sem])
    |with_reducible apply aiA
   all_goals try exact clz
   all_goals try exact hb1 _
   exact fin ⟨_,_,_,_,_,_,_⟩ _ _
end
end RC
end
