import Derived.Test.YthjkfdakolejgaaGreatDoorK13
import Derived.Test.YthjkfdakolejgaaGreatDoorK3
import Derived.Test.YthjkfdakolejgaaGreatDoorK5
import Derived.Test.YthjkfdakolejgaaGreatDoorK8
import Derived.Test.YthjkfdakolejgaaGreatDoorProg
import Derived.Test.YthjkfdakolejgaaGreatDoorK12
import Derived.Test.YthjkfdakolejgaaGreatDoorK11
set_option linter.all false
set_option linter.unusedSimpArgs false
set_option linter.unusedVariables false
set_option linter.unusedSectionVars false
set_option maxHeartbeats 128000000
set_option maxRecDepth 100000
section
open Go Go.Proofs AF HY LN
namespace RC
def qh7(s:Str):List Tk:=if qh6 s=0 then qf2 s else []
theorem qDL(s:Str)(h:List AObj)(hl:s.length≤1000)(hs:s≠ [])(hc:zU s=0)(hg:zK h frmN frmC):ACalls Tryz.prog 173 [.agg [.str [],.int .i64 0],kg s,.nl] h (.tup [zT (qh7 s),.int .i64 (qh6 s)]) h:=by
 have c1:=fun l=>qCt s (h++l) om om hs hc hg.app
 have c2:=fun h=>qEH h
 have c3:=fun h=>qDq [] h (by simp)
 rw[show qmE []=true from rfl]at c3;have c4:=fun l=>qEw s 8 (h++l) om om (fun l'=>qCt s (h++l++l') om om hs hc hg.app.app)
 have c9:=fun l=>qEw s 9 (h++l) om om (fun l'=>qCt s (h++l++l') om om hs hc hg.app.app)
 have c5:=fun h=>qEX s h
 unfold kg at c1 c4 c5 c9;refine acO qyY ?_;simp (disch:=omega) only[qxo,kg,go_sem]
 repeat' first
  |((first|refine cA (c1 _) ?_ ?_|refine cG (fun e=>c2 _) ?_ ?_|refine cA (c3 _) ?_ ?_|refine cA (c4 _) ?_ ?_|refine cA (c9 _) ?_ ?_);exact flk;simp (disch:=omega) only[go_sem])
  |(apply qb;exact rvk;simp only[go_sem])
  |with_reducible first|intro _|apply aiA
 all_goals try exact clz
 refine⟨_,_,(Wk.ownNil (j:=h.length+2) (i:=0) (k:=h.length+4) (v:=1) (ty:=248) (cs:= [.nl,.nilp,.nl,.bool false,.bool false,.bool false]) (ve:=0) (sz:=6) ?m1 rfl ?m2).trans
  (Wk.ownNil (j:=h.length+2) (i:=2) (k:=h.length+5) (v:=1) (ty:=248) (cs:= [.osl (h.length+4) 0 6 0 0,.nilp,.nl,.bool false,.bool false,.bool false]) (ve:=0) (sz:=1) ?m3 rfl ?m4),?_⟩
 case m1=>simp only[go_sem]
 case m2=>simp only[go_sem]
 case m3=>
  simp only[List.set_cons_zero,go_sem]
 case m4=>simp only[List.set_cons_zero,go_sem]
 simp (disch:=omega) only[List.set_cons_zero,List.set_cons_succ,go_sem]
 repeat' first
  |(refine cA (c5 _) flk ?_;simp (disch:=omega) only[go_sem])
 obtain⟨base,hbase⟩: ∃base:AObj→List AObj,base=fun O=>h++ [.mem 1 101 [.str [],.int .i64 0],.emp 1,.mem 1 248 [.osl (h.length+4) 0 6 0 0,.nilp,.osl (h.length+5) 0 1 0 0,.bool false,.bool false,.bool false],O,.emp 0,.emp 0]:=⟨_,rfl⟩
 have hbl: ∀O,(base O).length=h.length+6:=fun O=>by rw[hbase];simp
 have hT: ∀O,T3 (base O) (h.length+2) (h.length+4) (h.length+5):=fun O=>⟨by rw[hbl];omega,by rw[hbl];omega,by rw[hbl];omega,om,om,om⟩
 have f1: ∀ {O X Y Z l},qr (h.length+3) (tri (base O) (h.length+2) (h.length+4) (h.length+5) X Y Z++l)=some O:=fun {O X Y Z l}=>by
  rw[qA9 (by rw[hbl];omega) om om om,hbase];simp only[go_sem]
 have f2: ∀ {O O' X Y Z l},qn (h.length+3) (tri (base O) (h.length+2) (h.length+4) (h.length+5) X Y Z++l) O'=tri (base O') (h.length+2) (h.length+4) (h.length+5) X Y Z++l:=fun {O O' X Y Z l}=>by
  rw[qBa (by rw[hbl];omega) om om om,hbase];simp only[go_sem]
 have f4: ∀ {v w ty cs X Y Z l},cellsOf (tri (base (.mem v ty cs)) (h.length+2) (h.length+4) (h.length+5) X Y Z++l) (h.length+3) w=if v=w then some cs else none:=fun {v w ty cs X Y Z l}=>by rw[zR,f1];rfl
 have eT: ∀ {O X Y Z},tri (base O) (h.length+2) (h.length+4) (h.length+5) X Y Z=h++ [.mem 1 101 [.str [],.int .i64 0],.emp 1,X,O,Y,Z]:=fun {O X Y Z}=>by
  rw[hbase];unfold tri;simp only[go_sem]
 have hst:base (.emp 0)=brO (base (.emp 0)) (h.length+2) (h.length+4) (h.length+5) 1 (brI 0 0 (s.take 0)):=by
  refine (qsZ ?_ ?_ ?_).symm
  ·rw[hbase];simp only[go_sem];rfl
  ·rw[hbase];simp only[go_sem];rfl
  ·rw[hbase];simp only[go_sem];rfl
 have hLow: ∀(q:Br) O,(∀n,lowO n O)→LowI (base (.emp 0)) (brO (base O) (h.length+2) (h.length+4) (h.length+5) 1 q):=fun q O lO=>by
  refine⟨by rw[qed,hbl,hbl],fun o ho=> ?_⟩;rcases qv4 ho with h1|rfl|rfl|rfl
  ·rw[hbase]at h1 ⊢;rcases List.mem_append.1 h1 with h1|h1
   ·exact .inl (List.mem_append_left _ h1)
   ·simp only[List.mem_cons,List.not_mem_nil,or_false]at h1;rcases h1 with rfl|rfl|rfl|rfl|rfl|rfl
    ·left;simp
    ·left;simp
    ·left;simp
    ·right;exact⟨lO _,lO _⟩
    ·left;simp
    ·left;simp
  ·right
   have:=jP (hT O) 1 q
   rw[hbl]at this ⊢;exact⟨this,lowO_mono om this⟩
  ·right;exact⟨qal _ _,qal _ _⟩
  ·right;exact⟨je _ _ _,je _ _ _⟩
 have e0:h++ [.mem 1 101 [.str [],.int .i64 0],.emp 1,.mem 1 248 [.osl (h.length+4) 0 6 0 0,.nilp,.osl (h.length+5) 0 1 0 0,.bool false,.bool false,.bool false],.emp 0,.emp 0,.emp 0]=base (.emp 0):=by rw[hbase]
 rw[e0];refine zy (xs:=atX s) (itA s om) (fun a ha=> ?_)
  (S:=fun i hh=> ∃O,qJ [O] 0=true∧(∀n,lowO n O)∧hh=brO (base O) (h.length+2) (h.length+4) (h.length+5) 1 (brI 0 0 (s.take i))) (E:=fun _ _=>False) ?_ ?_ ?_ ?_ ?_ ?_ ?_
 ·obtain⟨c,_,rfl⟩:=List.mem_map.1 (show a∈s.map _ from ha);rfl
 ·rintro i hh ⟨O,_,l1,rfl⟩;exact hLow _ _ l1
 ·intro s hh hf;exact hf.elim
 ·exact⟨.emp 0,rfl,fun _=>trivial,hst⟩
 ·rw[hbl];simp[qV,qV.lowVs]
  try omega
 ·rintro i hh tl LI TS hi ⟨O,s1,l1,rfl⟩ hlen K K2 hK hN hR' hX;have hi':i<s.length:=by rw[qc0]at hi;exact hi
  rw[qsf hi];have t:=hT O;have f3: ∀ {X Y Z l},qJ (tri (base O) (h.length+2) (h.length+4) (h.length+5) X Y Z++l) (h.length+3)=true:=fun {X Y Z l}=>by unfold qJ;rw[f1];exact s1
  simp only[kJ];unfold brO;simp (disch:=omega) only[f1,f2,f3,f4,atC,go_sem];refine hK _ _ (brO (base (.mem (qo (some O)+1) 253 (atC 1 (ch s i)))) (h.length+2) (h.length+4) (h.length+5) 1 (brI 0 0 (s.take i))) ?_ ?_ ?_
  ·rfl
  ·rw[qed,hbl,hbl]
  ·have cA:=qla (va:=1) (fun h' t'=>qCc (va:=1) t' (brI 0 0 (s.take i)) (ch s i) (qsg 0 0 s om om)) (hT (.mem (qo (some O)+1) 253 (atC 1 (ch s i)))) (.lp .busy TS LI::tl);unfold brO atC at cA;unfold brO;simp (disch:=omega) only[f4,atC,go_sem];refine qx cA (by exact flk) ?_;simp (disch:=omega) only[go_sem];refine hN _ _ (brO (base (.mem (qo (some O)+1) 253 (atC 1 (ch s i)))) (h.length+2) (h.length+4) (h.length+5) 1 ((brI 0 0 (s.take i)).pt (ch s i))) rfl (by rw[qed,hbl,hbl]) ⟨_,?_,?_,by rw[qpj 0 0 s hi']⟩
   ·rfl
   ·intro n d hd;simp[atC]at hd;rcases hd with rfl|rfl|rfl|rfl|rfl|rfl|rfl<;>rfl
 ·rintro hh ⟨O,s1,l1,rfl⟩;have t:=hT O;rw[qc0,List.take_length];have hqo:=qsg 0 0 s om (nlr s.length);have hqb:=qw0 0 0 s s.length (nlr _);rw[List.take_length]at hqo hqb;obtain⟨q,hq⟩: ∃q,q=brI 0 0 s:=⟨_,rfl⟩
  rw[←hq]at hqo hqb ⊢;obtain⟨n1,n2,n3,n4⟩:=qsL hqb (qff s);have n1:q.nd.out=qbh s:=n1;have cE:=qtj (va:=1) t q (fun e=>(hqo.op e).1) hqo.cl (by have:=hqo.n;omega) (by have:=hqo.w;omega);simp (disch:=omega) only[go_sem];refine qx cE (by exact flk) ?_;obtain⟨r,hr⟩: ∃r,r=q.nd:=⟨_,rfl⟩
  rw[←hr]at n1 ⊢;have zga: ∀ {X Y Z l},qr (h.length+2) (tri (base O) (h.length+2) (h.length+4) (h.length+5) X Y Z++l)=some X:=qaw (t);have yga: ∀ {X Y Z},qr (h.length+2) (tri (base O) (h.length+2) (h.length+4) (h.length+5) X Y Z)=some X:=fun {X Y Z}=>by have:=zga (X:=X) (Y:=Y) (Z:=Z) (l:= []);simpa only[lan] using this
  have zgb: ∀ {X Y Z l},qr (h.length+4) (tri (base O) (h.length+2) (h.length+4) (h.length+5) X Y Z++l)=some Y:=qaP (t);have ygb: ∀ {X Y Z},qr (h.length+4) (tri (base O) (h.length+2) (h.length+4) (h.length+5) X Y Z)=some Y:=fun {X Y Z}=>by have:=zgb (X:=X) (Y:=Y) (Z:=Z) (l:= []);simpa only[lan] using this
  have zgc: ∀ {X Y Z l},qr (h.length+5) (tri (base O) (h.length+2) (h.length+4) (h.length+5) X Y Z++l)=some Z:=qax (t);have ygc: ∀ {X Y Z},qr (h.length+5) (tri (base O) (h.length+2) (h.length+4) (h.length+5) X Y Z)=some Z:=fun {X Y Z}=>by have:=zgc (X:=X) (Y:=Y) (Z:=Z) (l:= []);simpa only[lan] using this
  have zsa: ∀ {X Y Z o l},qn (h.length+2) (tri (base O) (h.length+2) (h.length+4) (h.length+5) X Y Z++l) o=tri (base O) (h.length+2) (h.length+4) (h.length+5) o Y Z++l:=qaQ (t);have ysa: ∀ {X Y Z o},qn (h.length+2) (tri (base O) (h.length+2) (h.length+4) (h.length+5) X Y Z) o=tri (base O) (h.length+2) (h.length+4) (h.length+5) o Y Z:=fun {X Y Z o}=>by have:=zsa (X:=X) (Y:=Y) (Z:=Z) (o:=o) (l:= []);simpa only[lan] using this
  have zsb: ∀ {X Y Z o l},qn (h.length+4) (tri (base O) (h.length+2) (h.length+4) (h.length+5) X Y Z++l) o=tri (base O) (h.length+2) (h.length+4) (h.length+5) X o Z++l:=qa2 (t);have ysb: ∀ {X Y Z o},qn (h.length+4) (tri (base O) (h.length+2) (h.length+4) (h.length+5) X Y Z) o=tri (base O) (h.length+2) (h.length+4) (h.length+5) X o Z:=fun {X Y Z o}=>by have:=zsb (X:=X) (Y:=Y) (Z:=Z) (o:=o) (l:= []);simpa only[lan] using this
  have zsc: ∀ {X Y Z o l},qn (h.length+5) (tri (base O) (h.length+2) (h.length+4) (h.length+5) X Y Z++l) o=tri (base O) (h.length+2) (h.length+4) (h.length+5) X Y o++l:=qa3 (t);have ysc: ∀ {X Y Z o},qn (h.length+5) (tri (base O) (h.length+2) (h.length+4) (h.length+5) X Y Z) o=tri (base O) (h.length+2) (h.length+4) (h.length+5) X Y o:=fun {X Y Z o}=>by have:=zsc (X:=X) (Y:=Y) (Z:=Z) (o:=o) (l:= []);simpa only[lan] using this
  have zca: ∀ {X Y Z v l},cellsOf (tri (base O) (h.length+2) (h.length+4) (h.length+5) X Y Z++l) (h.length+2) v=qv (some X) v:=qbN (t);have yca: ∀ {X Y Z v},cellsOf (tri (base O) (h.length+2) (h.length+4) (h.length+5) X Y Z) (h.length+2) v=qv (some X) v:=fun {X Y Z v}=>by have:=zca (X:=X) (Y:=Y) (Z:=Z) (v:=v) (l:= []);simpa only[lan] using this
  have zcb: ∀ {X Y Z v l},cellsOf (tri (base O) (h.length+2) (h.length+4) (h.length+5) X Y Z++l) (h.length+4) v=qv (some Y) v:=qbO (t);have ycb: ∀ {X Y Z v},cellsOf (tri (base O) (h.length+2) (h.length+4) (h.length+5) X Y Z) (h.length+4) v=qv (some Y) v:=fun {X Y Z v}=>by have:=zcb (X:=X) (Y:=Y) (Z:=Z) (v:=v) (l:= []);simpa only[lan] using this
  have zcc: ∀ {X Y Z v l},cellsOf (tri (base O) (h.length+2) (h.length+4) (h.length+5) X Y Z++l) (h.length+5) v=qv (some Z) v:=qbP (t);have ycc: ∀ {X Y Z v},cellsOf (tri (base O) (h.length+2) (h.length+4) (h.length+5) X Y Z) (h.length+5) v=qv (some Z) v:=fun {X Y Z v}=>by have:=zcc (X:=X) (Y:=Y) (Z:=Z) (v:=v) (l:= []);simpa only[lan] using this
  have zla: ∀ {X Y Z v l},qF (tri (base O) (h.length+2) (h.length+4) (h.length+5) X Y Z++l) (h.length+2) v=qG (some X) v:=qbQ (t);have yla: ∀ {X Y Z v},qF (tri (base O) (h.length+2) (h.length+4) (h.length+5) X Y Z) (h.length+2) v=qG (some X) v:=fun {X Y Z v}=>by have:=zla (X:=X) (Y:=Y) (Z:=Z) (v:=v) (l:= []);simpa only[lan] using this
  have zlb: ∀ {X Y Z v l},qF (tri (base O) (h.length+2) (h.length+4) (h.length+5) X Y Z++l) (h.length+4) v=qG (some Y) v:=qbR (t);have ylb: ∀ {X Y Z v},qF (tri (base O) (h.length+2) (h.length+4) (h.length+5) X Y Z) (h.length+4) v=qG (some Y) v:=fun {X Y Z v}=>by have:=zlb (X:=X) (Y:=Y) (Z:=Z) (v:=v) (l:= []);simpa only[lan] using this
  have zlc: ∀ {X Y Z v l},qF (tri (base O) (h.length+2) (h.length+4) (h.length+5) X Y Z++l) (h.length+5) v=qG (some Z) v:=qbS (t);have ylc: ∀ {X Y Z v},qF (tri (base O) (h.length+2) (h.length+4) (h.length+5) X Y Z) (h.length+5) v=qG (some Z) v:=fun {X Y Z v}=>by have:=zlc (X:=X) (Y:=Y) (Z:=Z) (v:=v) (l:= []);simpa only[lan] using this
  have hrl:=qf3 s;have hor:r.out.length=(qbh s).length:=by rw[n1]
  have k1:((1024:Int)<r.out.length)=False:=eqf om;have hcE:=fun h=>qFr (qbh s) h om
  unfold brO brX brY;rw[n1];rw[n1]at k1;have hL:=jL (qbh s);have hb64:=qb4 (L:=qbh s);have hTE:qh6 s=if quS (qbh s)=true then 4 else 0:=rfl
  have hTL:qh7 s=if qh6 s=0 then qf2 s else []:=rfl
  cases hB:quS (qbh s)with
  |true=>
   rw[hB]at hTE hcE;rw[ipo rfl]at hTE;rw[hTE,ine (by decide)]at hTL;rw[hTE,hTL];simp (disch:=omega) only[yca,ylb,ql,qZ,k1,go_sem];refine cG (fun _=>ACalls.borrow (r:= .bool true) ((hcE []).le ?g1 (qi)) rfl) (fun _=>by exact flk) ?_
   case g1=>
    simp only[List.map_cons,List.map_nil,go_sem,if_true];rw[ygb];exact⟨qeJ rfl,qi,trivial⟩
   simp (disch:=omega) only[yca,ql,go_sem]
   repeat' first
    |with_reducible apply aiA
   ·rw[eT];simp only[go_sem]
   ·rw[eT];simp only[go_sem];refine qen rfl ⟨trivial,trivial,trivial⟩ ⟨rfl,rfl⟩ ?_;simp only[go_sem];exact VLe.tup ⟨zf,qi,trivial⟩
  |false=>
   rw[hB]at hTE hcE;rw[ine (by simp)]at hTE;rw[hTE,ipo rfl]at hTL;rw[hTE,hTL];simp (disch:=omega) only[yca,ylb,ql,qZ,k1,go_sem];refine cG (fun _=>ACalls.borrow (r:= .bool false) ((hcE []).le ?g2 (qi)) rfl) (fun _=>by exact flk) ?_
   case g2=>
    simp only[List.map_cons,List.map_nil,go_sem,if_true];rw[ygb];exact⟨qeJ rfl,qi,trivial⟩
   simp (disch:=omega) only[yca,ql,go_sem];refine qx (qDt (qbh s) (h.length+4) r.vo _ ygb (qh8 s) (hb64.1 hB) om) (by exact flk) ?_;simp (disch:=omega) only[ysb,go_sem]
   repeat' first
    |with_reducible apply aiA
   all_goals try exact clz
   rw[eT];refine qen rfl ⟨trivial,trivial,trivial⟩ ⟨rfl,rfl⟩ ?_;simp only[go_sem];exact VLe.tup ⟨qeJ (by simp[qf2]),qi,trivial⟩
 ·intro e hh hf;exact hf.elim
end RC
end
section
open Go Go.Proofs AF
def qhz:List Nat:= [173]
def qpp:C:=
 ((C.ops [ON 2 (.nilo 0 1 9) [],MC 3 (i6 0)]).seq (((C.ops [MV 7 0,O1 8 (.call 172 true) 7,MV 4 8]).seq ((C.ops [MV 9 4,BC 10 .neq 9 (i6 0)]).seq (C.cond (.t 10) ((C.ops [MV 11
 4,ON 2 (.nilo 0 1 9) [],MV 3 11]).seq C.ret) C.skip))).seq (((C.ops [MV 12 0,BC 13 .eql 12 (.str [])]).seq (C.cond (.t 13) ((C.ops [ON 2 (.nilo 0 1 9) [],MC 3 (i6 0)]).seq
 C.ret) C.skip)).seq ((C.ops [⟨some 15,none,.build [.str [],i6 0] [],[]⟩,MV 16 0,⟨some 17,none,.build [i6 0,.str [],i6 0,.nl] [(0,1),(1,1)],[.c (i6 1),.t 16]⟩,⟨some
 18,none,.bslc 1 4 1 189 [i6 0,.str [],i6 0,.nl] [(0,4)],[.t 17]⟩,ON 19 (.call 173 false) [.t 15,.t 18,.c .nl],MV 14 19,O1 20 (.ext 0) 14,O1 21 (.ext 1) 14,MV 5 20,MV
 6 21]).seq ((C.ops [MV 22 5,O1 23 (.call 90 true) 22,MV 24 6,MV 2 23,MV 3 24]).seq
 C.ret)))))
theorem ql1:qM Tryz.prog 127 25 2 [RV.tmp 2,RV.tmp 3] qpp:=fi Tryz.f127 [2,18] qhz []
def qw9:C:=
 ((C.ops [ON 2 (.nilo 0 6 103) []]).seq ((C.ops [⟨some 6,none,.build [.str [],i6 0] [],[]⟩,MV 7 0,⟨some 8,none,.build [i6 0,.str [],i6 0,.nl] [(0,1),(1,1)],[.c (i6
 1),.t 7]⟩,⟨some 9,none,.bslc 1 4 1 189 [i6 0,.str [],i6 0,.nl] [(0,4)],[.t 8]⟩,ON 10 (.call 173 false) [.t 6,.t 9,.c .nl],MV 5 10,O1 11 (.ext 0) 5,O1 12 (.ext 1) 5,
 MV 3 11,MV 4 12]).seq ((C.ops [MV 13 3,MV 2 13]).seq
 C.ret)))
theorem qyH:qM Tryz.prog 134 14 2 [RV.tmp 2] qw9:=fi Tryz.f134 [2,9] qhz []
end
section
open Go Go.Proofs AF
def jR:List Nat:= []
def qdI:C:=
 ((C.ops [O1 3 (.box 0 26) 0,O1 5 (.box 1 43) 2,MC 6 (i6 0),MC 7 (i6 0)]).seq ((C.block 0 ((C.ops [O1 15 (.fldA 0) 5,LD 16 15,BC 17 .lss 16 (i6 1),MV 18 17,P1 19 18 false
 (.fldA 0) 5,P1 20 18 false (.load none) 19,PC 21 18 false (.bin .gtr) 20 (i6 3),PT 22 18 21,MV 14 22]).seq (C.cond (.t 14) ((C.ops [MC 6 (i6 0),MC 7 (i6 8)]).seq C.ret)
 ((C.ops [O1 24 (.fldA 3) 5,LD 25 24,BC 26 .neq 25 (.str []),MV 27 26,P1 28 27 true (.fldA 0) 5,P1 29 27 true (.load none) 28,PC 30 27 true (.bin .neq) 29 (i6 2),PF 31 27 30,
 MV 23 31]).seq (C.cond (.t 23) ((C.ops [MC 6 (i6 0),MC 7 (i6 1)]).seq C.ret) C.skip))))).seq ((C.ops [O1 32 (.fldA 1) 3,LD 33 32,O1 34 (.fldA 1) 5,LD 35 34,O2 36 (.call 22
 true) 33 35,MV 8 36]).seq (((C.ops [MV 37 8,BC 38 .lss 37 (i6 0)]).seq (C.cond (.t 38) ((C.ops [MC 6 (i6 0),MC 7 (i6 6)]).seq C.ret) C.skip)).seq ((C.ops [O1 40 (.load (some 4))
 3,MV 41 8,O1 42 (.fldA 2) 5,LD 43 42,ON 44 (.call 126 true) [.t 40,.t 41,.t 43],MV 39 44,O1 45 (.ext 0) 39,O1 46 (.ext 1) 39,MV 9 45,MV 10 46]).seq (((C.ops [MV 47 10,
 BC 48 .neq 47 (i6 0)]).seq (C.cond (.t 48) ((C.ops [MC 6 (i6 0),MC 7 (i6 6)]).seq C.ret) C.skip)).seq ((C.ops [MV 50 1,MV 51 9,O2 52 (.call 42 true) 50 51,MV 49 52,O1 53 (.ext
 0) 49,O1 54 (.ext 1) 49,MV 11 53,MV 10 54]).seq (((C.ops [MV 55 10,BC 56 .neq 55 (i6 0),MV 57 56,MG 58 57 false 11,PC 59 57 false (.bin .lss) 58 (i6 0),PT 60 57 59]).seq
 (C.cond (.t 60) ((C.ops [MC 6 (i6 0),MC 7 (i6 20)]).seq C.ret) C.skip)).seq (((C.ops [O1 61 (.fldA 0) 5,LD 62 61,BC 63 .eql 62 (i6 2)]).seq (C.cond (.t 63) ((C.ops [O1 65 (.fldA
 3) 5,LD 66 65,O1 67 (.call 127 true) 66,MV 64 67,O1 68 (.ext 0) 64,O1 69 (.ext 1) 64,MV 12 68,MV 13 69]).seq (((C.ops [MV 70 13,BC 71 .neq 70 (i6 0)]).seq (C.cond (.t 71)
 ((C.ops [MV 72 13,MC 6 (i6 0),MV 7 72]).seq C.ret) C.skip)).seq ((C.ops [MV 73 12,O1 74 .len 73,BC 75 .eql 74 (i6 0)]).seq (C.cond (.t 75) ((C.ops [MC 6 (i6 0),MC 7 (i6
 5)]).seq C.ret) C.skip)))) C.skip)).seq ((C.ops [MV 76 11,MV 6 76,MC 7 (i6 0)]).seq
 C.ret))))))))))
theorem qap:qM Tryz.prog 75 77 2 [RV.tmp 6,RV.tmp 7] qdI:=fi Tryz.f75 [3,5] jR []
def qCf:C:=
 ((C.ops [O1 3 (.box 0 26) 0,O1 5 (.box 1 43) 2,MC 6 (i6 0),MC 7 (i6 0)]).seq (((C.ops [O1 9 (.load (some 4)) 3,MV 10 1,O2 11 (.call 74 true) 9 10,MV 8 11]).seq ((C.ops [MV 12
 8,BC 13 .neq 12 (i6 0)]).seq (C.cond (.t 13) ((C.ops [MV 14 8,MC 6 (i6 0),MV 7 14]).seq C.ret) C.skip))).seq ((C.ops [O1 15 (.load (some 4)) 3,MV 16 1,O1 17 (.load (some 4))
 5,ON 18 (.call 75 true) [.t 15,.t 16,.t 17],O1 19 (.ext 0) 18,O1 20 (.ext 1) 18,MV 6 19,MV 7 20]).seq
 C.ret)))
theorem qzb:qM Tryz.prog 20 21 2 [RV.tmp 6,RV.tmp 7] qCf:=fi Tryz.f20 [3,5] jR []
def qCl:C:=
 ((C.ops [O1 3 (.box 0 26) 0,ON 6 (.nilo 1 1 3) [],MC 7 (i6 0)]).seq (((C.ops [MV 13 2,O1 14 .len 13,BC 15 .gtr 14 (i6 256)]).seq (C.cond (.t 15) ((C.ops [ON 6 (.nilo 1 1 3) [],
 MC 7 (i6 4)]).seq C.ret) C.skip)).seq ((C.ops [ON 8 (.nilo 2 1 3) []]).seq (((C.ops [MV 16 2,O1 17 .len 16,MC 18 (i6 0)]).seq (C.block 0 ((C.ops [BI 19 .lss 18 17]).seq ((C.cond
 (.t 19) C.skip (C.exit 0)).seq ((C.block 1 ((C.ops [O2 20 (.idxA 4) 16 18,O1 21 (.load (some 4)) 20,⟨some 10,none,.alloc 3 43 [i6 0,.str [],i6 0,.str []],[]⟩,ST 4 10
 21]).seq ((C.ops [O1 23 (.load (some 4)) 3,MV 24 1,O1 25 (.load (some 4)) 10,ON 26 (.call 75 true) [.t 23,.t 24,.t 25],MV 22 26,O1 27 (.ext 0) 22,O1 28 (.ext 1) 22,MV 11
 27,MV 12 28]).seq (((C.ops [MV 29 12,BC 30 .neq 29 (i6 0)]).seq (C.cond (.t 30) ((C.ops [MV 31 12,ON 6 (.nilo 1 1 3) [],MV 7 31]).seq C.ret) C.skip)).seq (C.ops [MV 32 8,MV 33
 11,⟨some 34,none,.bslc 4 1 1 3 [i6 0] [(0,1)],[.t 33]⟩,O2 35 (.app 5 1 3 8) 32 34,MV 8 35]))))).seq (C.ops [BC 36 .add 18 (i6 1),MV 18 36])))).loop)).seq ((C.ops [MV 37 8,
 MV 6 37,MC 7 (i6 0)]).seq
 C.ret)))))
theorem qzQ:qM Tryz.prog 77 38 6 [RV.tmp 6,RV.tmp 7] qCl:=fi Tryz.f77 [3,6,8,10,34,35] jR []
def qx9:C:=
 ((C.ops [MC 4 (.bool false)]).seq (((C.ops [MV 5 0,O1 6 (.call 129 true) 5]).seq (C.cond (.t 6) ((C.ops [MV 7 1,O1 8 (.call 129 true) 7,O1 9 (.un UnOp.not) 8,MV 10 9,MG 11 10
 true 1,PC 12 10 true (.bin .neq) 11 (.str [39]),PF 13 10 12,MV 4 13]).seq C.ret) C.skip)).seq ((C.ops [MC 4 (.bool true)]).seq
 C.ret)))
theorem qqe:qM Tryz.prog 80 14 0 [RV.tmp 4] qx9:=fi Tryz.f80 [] jR []
def qEm:C:=
 ((C.ops [O1 4 (.box 0 26) 0,O1 5 (.box 1 3) 1,O1 6 (.box 2 3) 2,O1 7 (.box 3 3) 3,MC 8 .nilfn]).seq ((C.ops [ON 9 (.mkfn (Fn.func 130) 0) [.t 5,.t 6,.t 4,.t 7],MV 8 9]).seq
 C.ret))
theorem qC1:qM Tryz.prog 82 10 4 [RV.tmp 8] qEm:=fi Tryz.f82 [4,5,6,7] jR []
def qw5:C:=
 ((C.ops [LD 8 1,MV 6 8]).seq (C.block 0 (((C.ops [MV 9 6,LD 10 2,BI 11 .lss 9 10]).seq (C.cond (.t 11) C.skip (C.exit 0))).seq ((C.block 1 ((C.ops [O1 14 (.fldA 3) 3,LD 15 14,
 MV 16 6,O2 17 (.idxA 1) 15 16,LD 18 17,LD 19 4,O2 20 (.idxA 1) 18 19,LD 21 20,MV 7 21]).seq ((C.ops [MV 22 7,BC 23 .geq 22 (i6 0),MV 24 23,MG 25 24 true 0,P1 26 24 true
 (.fldA 2) 3,P1 27 24 true (.load none) 26,P1 28 24 true (.load none) 4,P2 29 24 true (.idxA 1) 27 28,P1 30 24 true (.load none) 29,MG 31 24 true 7,P2 32 24 true (.idxA 6) 30
 31,P1 33 24 true (.load (some 6)) 32,MG 34 24 true 6,⟨some 35,some (24,true),.build [.str [],.str [],.str [],i6 0,i6 0,.str [],i6 0] [(0,6),(6,1)],[.t 33,.t 34]⟩,
 P2 36 24 true .callv 25 35,P1 37 24 true (.un UnOp.not) 36,PF 38 24 37]).seq (C.cond (.t 38) C.ret C.skip)))).seq (C.ops [MV 12 6,BC 13 .add 12 (i6 1),MV 6
 13]))).loop))
theorem qyD:qM Tryz.prog 130 39 0 [] qw5:=fi Tryz.f130 [] jR []
def qEn:C:=
 ((C.ops [⟨some 0,none,.alloc 0 124 [.nilfn,.nilfn,.nilfn,.nilfn],[]⟩]).seq ((C.ops [⟨some 1,none,.build [.nilfn,.nilfn,.nilfn,.nilfn] [(1,1),(2,1),(3,1)],[.c (.fn
 (Fn.func 131) [] []),.c (.fn (Fn.func 133) [] []),.c (.fn (Fn.func 135) [] [])]⟩,ST 4 0 1]).seq
 C.ret))
theorem qC2:qM Tryz.prog 83 2 1 [RV.cell 0 (some 4)] qEn:=fi Tryz.f83 [0] jR []
def qw6:C:=
 ((C.ops [O1 3 (.box 0 26) 0,O1 4 (.box 1 64) 1,O1 5 (.box 2 43) 2,ON 6 (.nilo 3 7 115) []]).seq ((C.ops [O1 7 (.load (some 4)) 3,O1 8 (.fldA 0) 4,LD 9 8,O1 10 (.fldA 1) 4,LD
 11 10,O1 12 (.fldA 1) 3,LD 13 12,O1 14 (.fldA 1) 5,LD 15 14,O2 16 (.call 22 true) 13 15,ON 17 (.call 82 true) [.t 7,.t 9,.t 11,.t 16],O1 18 (.call 132 true) 17,MV 6
 18]).seq
 C.ret))
theorem qyE:qM Tryz.prog 131 19 4 [RV.tmp 6] qw6:=fi Tryz.f131 [3,4,5,6] jR []
def qw8:C:=
 ((C.ops [O1 3 (.box 0 26) 0,O1 4 (.box 1 64) 1,O1 5 (.box 2 43) 2,ON 6 (.nilo 3 7 115) []]).seq ((C.ops [ON 7 (.nilo 4 7 115) []]).seq (((C.ops [O1 10 (.fldA 3) 5,LD 11 10,O1
 12 (.call 134 true) 11,O1 13 .len 12,MC 14 (i6 0)]).seq (C.block 0 ((C.ops [BI 15 .lss 14 13]).seq ((C.cond (.t 15) C.skip (C.exit 0)).seq ((C.block 1 ((C.ops [O2 16 (.idxA 6) 12
 14,O1 17 (.load (some 6)) 16,⟨some 9,none,.alloc 5 103 [.str [],.str [],.str [],i6 0,i6 0,.str []],[]⟩,ST 6 9 17]).seq ((C.ops [O1 18 (.fldA 4) 9,LD 19 18,BC 20
 .andNot 19 (i6 4),O1 21 (.fldA 4) 9,ST 1 21 20]).seq ((C.ops [O1 22 (.fldA 5) 9,⟨none,none,.store 1,[.t 22,.c (.str [])]⟩]).seq (C.ops [MV 23 7,O1 24 (.load (some 6)) 9,O1
 25 (.fldA 0) 4,LD 26 25,⟨some 27,none,.build [.str [],.str [],.str [],i6 0,i6 0,.str [],i6 0] [(0,6),(6,1)],[.t 24,.t 26]⟩,⟨some 28,none,.bslc 6 7 1 115 [.str [],
 .str [],.str [],i6 0,i6 0,.str [],i6 0] [(0,7)],[.t 27]⟩,O2 29 (.app 7 7 115 88) 23 28,MV 7 29]))))).seq (C.ops [BC 30 .add 14 (i6 1),MV 14 30])))).loop)).seq ((C.ops [MV
 31 7,MV 6 31]).seq
 C.ret))))
theorem qyG:qM Tryz.prog 133 32 8 [RV.tmp 6] qw8:=fi Tryz.f133 [3,4,5,6,7,9,28,29] jR []
def qxa:C:=
 ((C.ops [O1 3 (.box 0 26) 0,O1 4 (.box 1 64) 1,O1 5 (.box 2 43) 2,ON 6 (.nilo 3 7 115) []]).seq ((C.ops [ON 6 (.nilo 3 7 115) []]).seq
 C.ret))
theorem qyI:qM Tryz.prog 135 7 4 [RV.tmp 6] qxa:=fi Tryz.f135 [3,4,5,6] jR []
def qw7:C:=
 ((C.ops [ON 2 (.nilo 0 7 115) []]).seq ((C.ops [MV 3 0,ON 4 (.call 179 true) [.c .nl,.t 3],MV 2 4]).seq
 C.ret))
theorem qyF:qM Tryz.prog 132 5 1 [RV.tmp 2] qw7:=fi Tryz.f132 [2] jR []
def qpo:C:=
 ((C.ops [O1 3 (.box 0 26) 0,O1 4 (.box 1 3) 1,O1 5 (.box 2 3) 2,MC 6 (i6 0),MC 7 (i6 0)]).seq (((C.ops [O1 8 (.load (some 4)) 3,O1 9 (.call 67 true) 8,BC 10 .neq 9 (i6
 0)]).seq (C.cond (.t 10) ((C.ops [MC 6 (i6 0),MC 7 (i6 1)]).seq C.ret) C.skip)).seq (((C.ops [LD 11 4,BC 12 .lss 11 (i6 0),MV 13 12,P1 14 13 false (.load none) 4,P1 15 13
 false (.fldA 1) 3,P1 16 13 false (.load none) 15,P1 17 13 false .len 16,P2 18 13 false (.bin .geq) 14 17,PT 19 13 18,MV 20 19,P1 21 20 false (.load none) 5,PC 22 20 false
 (.bin .lss) 21 (i6 0),PT 23 20 22,MV 24 23,P1 25 24 false (.load none) 5,P1 26 24 false (.fldA 2) 3,P1 27 24 false (.load none) 26,P1 28 24 false (.load none) 4,P2 29 24
 false (.idxA 1) 27 28,P1 30 24 false (.load none) 29,P1 31 24 false .len 30,P2 32 24 false (.bin .geq) 25 31,PT 33 24 32]).seq (C.cond (.t 33) ((C.ops [MC 6 (i6 0),MC 7 (i6
 2)]).seq C.ret) C.skip)).seq ((C.ops [O1 34 (.fldA 3) 3,LD 35 34,O2 36 (.mkfn (Fn.func 171) 0) 4 5,O2 37 (.call 170 true) 35 36,MV 6 37,MC 7 (i6 0)]).seq
 C.ret))))
theorem ql0:qM Tryz.prog 126 38 3 [RV.tmp 6,RV.tmp 7] qpo:=fi Tryz.f126 [3,4,5] jR []
def qxn:C:=
 ((C.ops [MC 4 (.bool false)]).seq ((C.ops [MV 5 0,LD 6 1,O2 7 (.idxA 1) 5 6,LD 8 7,LD 9 2,BI 10 .eql 8 9,MV 4 10]).seq
 C.ret))
theorem qyX:qM Tryz.prog 171 11 0 [RV.tmp 4] qxn:=fi Tryz.f171 [] jR []
end
section
open Go Go.Proofs AF HY LN
namespace AF
theorem ACalls.frzd{P:Program}{f:FuncId}{args:List AV}{h h':List AObj}{r:AV}(ks:List Nat)(hs:kK ks h=true)(hc:ACalls P f (args.map (frz (fun k=>ks.contains k) h 8)) (qbx ks h) r h'):ACalls P f args h r h':=by
 refine⟨hc.1,fun w σ xs H hv=> ?_⟩;obtain⟨σ1,g1,g2,g3,g4⟩:=qfB ks H hs;have hv1:VRs w σ1 (args.map (frz (fun k=>ks.contains k) h 8)) xs:=⟨by rw[hv.1];simp,fun i c x hc hx=>by
  rw[List.getElem?_map,Option.map_eq_some_iff]at hc;obtain⟨c0,hc,rfl⟩:=hc
  exact ql9 H (fun b hb=>(g4 b hb).elim fun j ⟨o,h1,h2,h3⟩=>⟨j,o,by simpa using h1,h2,h3⟩) (fun j o hj ho=>g3 j o (by simpa using hj) ho) 8 (hv.2 i c0 x hc hx)⟩
 refine (hc.2 w σ1 xs g1 hv1).mono ?_;rintro e w' ⟨v,σ',rfl,k1,k2,k3⟩;exact⟨v,σ',rfl,k1,k2,g2.trans k3⟩
end AF
namespace RC
def qoo(b:List Tk):List Str:=b.map Tk.text
theorem qrV(s:Str):(qh7 s).length≤s.length:=by
 unfold qh7;split
 ·exact qeR s
 ·exact nzl _
theorem qF5(b:List Tk)(h:List AObj)(hn:b.length≤1000000):ACalls Tryz.prog 90 [zT b] h (strs (qoo b)) h:=by
 refine acO qC7 ?_;simp (disch:=omega) only[qEs,zT,go_sem];refine qu (T:=fun s:Nat×Nat×AObj×AObj=>ze 19 [(6,zT b),(7,.int .i64 b.length),(8,.int .i64 s.1),(3,.osl (h.length+1) s.2.1 1 0 s.1)])
  (H:=fun s=>h++ [.emp 1,zk s.2.1 9 (qak (qoo (b.take s.1))),s.2.2.1,s.2.2.2,.emp 0])
  (inv:=fun s=>s.1≤b.length∧qJ [s.2.2.1] 0=true∧qJ [s.2.2.2] 0=true) (m:=fun s=>b.length-s.1) (0,1,.emp 0,.emp 0) ⟨nzl _,rfl,rfl⟩ (Wk.temps ?_) ?_
 ·(simp only[zT,go_sem,qg,qc,qa,qf];try (repeat' first|(with_reducible apply aiA)|(apply qh;omega)|(apply qe;rfl)|exact qi))
 rintro⟨i,v,O1,O2⟩ ⟨i1,i2,i3⟩ K hK;simp only at i1 i2 i3 hK;have i2': ∀m,qJ (O1::m) 0=true:=fun _=>i2
 have i3': ∀m,qJ (O2::m) 0=true:=fun _=>i3
 have eL:(qoo (b.take i)).length=i:=by unfold qoo;rw[List.length_map,List.length_take];omega
 by_cases hi:i<b.length
 ·have k1:((i:Int)<b.length)=True:=eqt om;have hS:qoo (b.take (i+1))=qoo (b.take i)++ [(b.getD i default).text]:=by
   unfold qoo;rw[List.take_add_one,zL hi,gdqA,zL hi,List.map_append];rfl
  obtain⟨L,hL⟩: ∃L,L=qoo (b.take i):=⟨_,rfl⟩
  rw[←hL]at hS eL ⊢;obtain⟨w,hw⟩: ∃w,w=b.getD i default:=⟨_,rfl⟩
  have ew:=hw.symm;rw[ew]at hS;have eC:=qaX L;have eTk:List.take i (qak L)=qak L:=ltl om;simp (disch:=omega) only[zT,tkC,k1,ew,i2',i3',eC,eL,eTk,Nat.mul_one,go_sem]
  repeat' first
   |with_reducible apply aiA
  all_goals try exact clz
  have eA:qak L++ [AV.str w.text]=qak (L++ [w.text]):=by simp[qak]
  have eD:(AV.str w.text::List.drop 1 (qY [AV.str []] 1))= [AV.str w.text]:=rfl;rw[eA,eD];refine hK _ _ (i+1,v+1,.mem (qo (some O1)+1) 103 (tkC w),.mem (qo (some O2)+1) 9 [.str w.text]) ⟨hi,rfl,rfl⟩ (by simp only;omega) ?_;simp only[hS,tkC];refine Wk.temps ?_
  (simp only[zT,tkC,go_sem,qg,qc,qa,qf];try (repeat' first|(with_reducible apply aiA)|(apply qh;omega)|(apply qe;rfl)|exact qi))
 have k1:((i:Int)<b.length)=False:=eqf om;obtain rfl:i=b.length:=by omega
 rw[List.take_length]at eL ⊢;simp (disch:=omega) only[k1,go_sem]
 repeat' first
  |(apply qb;exact rvk;simp only[go_sem])
 exact qeI (fun _=>rfl) eL.symm
theorem qA8(s:Str)(h:List AObj)(hl:s.length≤1000)(hs:s≠ [])(hc:zU s=0)(hg:zK h frmN frmC):ACalls Tryz.prog 173 [.agg [.str [],.int .i64 0],.osl (h.length+1) 1 4 0 1,.nl] (h++ [.emp 1,.mem 1 189 (.int .i64 1:: .str s:: .int .i64 0:: .nl::List.drop 4 (qY [.int .i64 0,.str [],.int .i64 0,.nl] 1))]) (.tup [zT (qh7 s),.int .i64 (qh6 s)]) (h++ [.emp 1,.emp 2]):=by
 have c1:=qDL s (h++ [.emp 1,.emp 2]) hl hs hc hg.app;refine ACalls.frzd [h.length+1] ?s1 ?s2
 case s1=>simp only[kK,go_sem]
 case s2=>
  simp only[List.map_cons,List.map_nil,qbx,go_sem];have e: [h.length+1].contains (h.length+1)=true:=by simp
  simp only[e,if_true];refine c1.le ⟨qi,?_,qi,trivial⟩ (qi);unfold kg;refine VLe.sl_eq rfl (fun i hi=> ?_);obtain rfl:i=0:=by omega
  rfl
theorem qEI(s:Str)(h:List AObj)(hl:s.length≤1000)(hg:zK h frmN frmC):ACalls Tryz.prog 127 [.str s] h (.tup [strs (if zU s≠0 then [] else qoo (qh7 s)),.int .i64 (qjX s)]) h:=by
 have c0: ∀h,ACalls Tryz.prog 172 [.str s] h (.int .i64 (zU s)) h:=fun h=>qDI s h om
 unfold qjX
 by_cases g:zU s=0
 case neg=>
  have k1:(zU s=0)=False:=eqf g;rw[ipo g,ipo g];refine acO ql1 ?_;simp (disch:=omega) only[qpp,go_sem]
  repeat' first
   |(refine cA (c0 _) flk ?_;simp (disch:=omega) only[k1,go_sem])
   |(apply qb;exact rvk;simp only[go_sem])
  exact VLe.tup ⟨zf,qi,trivial⟩
 rw[ine (by simpa using g),ine (by simpa using g)];rw[g]at c0
 by_cases hs:s= []
 ·subst hs;refine acO ql1 ?_;simp (disch:=omega) only[qpp,go_sem]
  repeat' first
   |(refine cA (c0 _) flk ?_;simp (disch:=omega) only[go_sem])
   |(apply qb;exact rvk;simp only[go_sem])
  exact VLe.tup ⟨zf,qi,trivial⟩
 have k2:(s= [])=False:=eqf hs;have c2:=fun h=>qF5 (qh7 s) h (Nat.le_trans (qrV s) om)
 refine acO ql1 ?_;simp (disch:=omega) only[qpp,go_sem]
 repeat' first
  |(refine cA (c0 _) flk ?_;simp (disch:=omega) only[k2,go_sem])
 refine qx (qA8 s h hl hs g hg) (by exact flk) ?_;simp (disch:=omega) only[go_sem]
 repeat' first
  |(refine cA (c2 _) flk ?_;simp (disch:=omega) only[go_sem])
  |(apply qb;exact rvk;simp only[go_sem];exact qi)
  |with_reducible apply aiA
 all_goals try exact clz
theorem qE1(s:Str)(h:List AObj)(hl:s.length≤1000)(hs:s≠ [])(hc:zU s=0)(hg:zK h frmN frmC):ACalls Tryz.prog 134 [.str s] h (zT (qh7 s)) h:=by
 refine acO qyH ?_;simp (disch:=omega) only[qw9,go_sem];refine qx (qA8 s h hl hs hc hg) (by exact flk) ?_;simp (disch:=omega) only[go_sem]
 repeat' first
  |(apply qb;exact rvk;simp only[go_sem];exact qi)
  |with_reducible apply aiA
 all_goals try exact clz
end RC
end
section
open Go Go.Proofs AF HY LN
namespace RC
theorem qbT{x:Co}{l:List Un}(h:qd6 x l=true){k:Nat}(hk:k<l.length):(l.getD k default).frm=frN l k∧(l.getD k default).to=toN l k∧frN l k<toN l k∧toN l k≤x.col.length∧(l.getD k default).rds=qe5 x (frN l k) (toN l k):=by
 have ho:=qg4 h;have hm:l.getD k default∈l:=by
  rw[gdqA,zL hk];exact List.getElem_mem hk
 obtain⟨h1,h2,h3,h4⟩:=ho.rg _ hm;unfold frN toN;refine⟨om,om,om,om,h4⟩
theorem qDM{x:Co}{l:List Un}(h:qd6 x l=true){j k:Nat}(hj:j<k)(hk:k<l.length):toN l j<frN l k:=by
 have ho:=qg4 h;have hp:=List.pairwise_iff_getElem.1 ho.pw j k om hk hj;have e: ∀i (hi:i<l.length),l.getD i default=l[i]:=fun i hi=>by rw[gdqA,zL hi];rfl
 obtain⟨a1,a2,_⟩:=qbT h (show j<l.length by omega);obtain⟨b1,b2,_⟩:=qbT h hk;rw[e j om]at a1 a2;rw[e k hk]at b1 b2;omega
theorem qni{x:Co}{l:List Un}(h:qd6 x l=true){k:Nat}(hk:k<l.length):jU l k≤frN l k:=by
 unfold jU;split
 ·exact nzl _
 ·exact Nat.le_of_lt (qDM h om hk)
theorem qgE{x:Co}{l:List Un}(h:qd6 x l=true){k:Nat}(hk:k≤l.length):jU l k≤x.col.length:=by
 unfold jU;split
 ·exact nzl _
 ·exact (qbT h (show k-1<l.length by omega)).2.2.2.1
theorem qq6(l:List Un)(k:Nat):jU l (k+1)=toN l k:=by unfold jU;rw[ine om,Nat.add_sub_cancel]
theorem qyf{col:List (List Int)}{s t:Nat}: ∀ {n:Nat},t<cnC col s n→ ∃k,k<n∧(col.getD k []).getD s 0≠ -1∧cnC col s k=t:=by
 intro n
 induction n with
 |zero=>intro h;exact absurd h (nnz _)
 |succ n ih=>
  intro h;unfold cnC at h
  by_cases g:t<cnC col s n
  ·obtain⟨k,h1,h2⟩:=ih g;exact⟨k,om,h2⟩
  ·split at h
   ·omega
   ·rename_i g2;exact⟨n,Nat.lt_succ_self n,g2,om⟩
theorem qef{x:Co}(ho:CoOk x){s:Nat}(hs:s<x.sig.length){t:Int}(h0:0≤t)(ht:t<((x.tok.getD s []).length:Int)):0≤kY x s t∧kY x s t<x.col.length:=by
 obtain⟨k,k1,k2,k3⟩:=qyf (col:=x.col) (s:=s) (t:=t.toNat) (n:=x.col.length) (by rw[ho.ct s hs];omega);unfold kY;rcases jb (fun k=>decide ((x.col.getD k []).getD s 0=t)) x.col.length with⟨i,g1,g2,_,g4⟩|⟨g1,g2⟩
 ·rw[g4];omega
 ·have:=g1 k k1
  rcases ho.ce k k1 s hs with e|⟨e,_⟩
  ·exact absurd e k2
  ·rw[decide_eq_false_iff_not]at this;exact absurd (by rw[e,k3];omega) this
theorem qE0(c:List Int)(s:Nat)(t:Int)(h:List AObj)(hs:s<c.length)(hc:c.length≤1000000000):ACalls Tryz.prog 171 [qI c,.ip [.int .i64 (s:Int)],.ip [.int .i64 t]] h (.bool (decide (c.getD s 0=t))) h:=by
 have k0:(0≤(s:Int))=True:=eqt om;have k1:((s:Int)<c.length)=True:=eqt om;refine acO qyX ?_;simp (disch:=omega) only[qxn,qI,k0,k1,go_sem]
 repeat' first
  |(apply qd;exact rvk;simp only[go_sem];exact qi)
  |with_reducible apply aiA
 all_goals try exact clz
theorem qFk(col:List (List Int))(s:Nat)(t:Int)(k v k2 v2:Nat)(h:List AObj)(hk:qr k h=some (.mem v 3 [.int .i64 (s:Int)]))(hk2:qr k2 h=some (.mem v2 3 [.int .i64 t]))(hl:col.length≤1000000000)(hm: ∀i,i<col.length→s<(col.getD i []).length∧(col.getD i []).length≤1000000000):
  ACalls Tryz.prog 170 [qw col,.fn (.func 171) [] [.op k v 0,.op k2 v2 0]] h (.int .i64 (qcM (fun i=>decide ((col.getD i []).getD s 0=t)) col.length 0)) h:=by
 have hc:=qP hk;have hc2:=qP hk2;unfold qw;refine qgv qyW col.length (fun j=> [qI (col.getD j [])]) (fun j=>qI (col.getD j [])) _ [] [.op k v 0,.op k2 v2 0] _ h (fun i _=>⟨rfl,by simp[kB],rfl,rfl,rfl⟩) (fun i hi=> ?_) om;refine ACalls.borrow ?_ rfl;have e:([qI (col.getD i [])]++ [AV.op k v 0,AV.op k2 v2 0]).map (rei (fun _=>true) h 8)= [qI (col.getD i []),.ip [.int .i64 (s:Int)],.ip [.int .i64 t]]:=by
  simp only[lca,lna,List.map_cons,List.map_nil,rei_op,if_true,hc,hc2,ipOf_some,List.drop_zero];rfl
 rw[lna,e];exact qE0 _ s t _ (hm i hi).1 (hm i hi).2
theorem qCB(x:Co)(s:Nat)(t:Int)(h:List AObj)(hz:qdE x)(hp:kQ SG h)(h1:coE x=0)(hs:s<x.sig.length):ACalls Tryz.prog 126 [.agg (coC x),.int .i64 (s:Int),.int .i64 t] h (.tup [.int .i64 (if 0≤t∧t<((x.tok.getD s []).length:Int) then kY x s t else 0),.int .i64 (if 0≤t∧t<((x.tok.getD s []).length:Int) then 0 else 2)]) h:=by
 have ho:=qci h1;have hsg:=hz.sg;have htl:=hz.tl s;have htn:=ho.tn;have c1:=fun l=>coP x (h++l) hz (hp.app l)
 simp only[h1]at c1;have zu: ∀g l,valL g .len [zT l]= .int .i64 l.length:=fun _ _=>rfl
 have zv: ∀g l,okL g .len [zT l]=True:=fun _ _=>eqt trivial
 have k0:((s:Int)<0)=False:=eqf om;have k1:((x.sig.length:Int)≤s)=False:=eqf om;have k5:(0≤(s:Int))=True:=eqt om;have k6:((s:Int)<x.tok.length)=True:=eqt om
 by_cases g:0≤t∧t<((x.tok.getD s []).length:Int)
 ·rw[ipo g,ipo g];have k2:(t<0)=False:=eqf om;have k3:(((x.tok.getD s []).length:Int)≤t)=False:=eqf om;have c2:=qFk x.col s t (h.length+1) 1 (h.length+2) 1 (h++ [.mem 1 26 (coC x),.mem 1 3 [.int .i64 (s:Int)],.mem 1 3 [.int .i64 t]]) (by simp only[go_sem]) (by simp only[go_sem]) hz.cl (fun i hi=>⟨by rw[ho.cl i hi];exact hs,hz.ce i⟩);unfold coC at c1 c2;refine acO ql0 ?_;simp (disch:=omega) only[qpo,coC,qm,strs,go_sem]
  repeat' first
   |((first|refine cA (c1 _) ?_ ?_|refine cA (c2) ?_ ?_);exact flk;simp (disch:=omega) only[k0,k1,k2,k3,k5,k6,zu,zv,go_sem])
   |(apply qb;exact rvk;simp only[go_sem];exact qi)
   |with_reducible apply aiA
  all_goals try exact clz
 ·rw[ine g,ine g];unfold coC at c1
  by_cases g2:t<0
  ·have k2:(t<0)=True:=eqt om;refine acO ql0 ?_;simp (disch:=omega) only[qpo,coC,qm,strs,go_sem]
   repeat' first
    |(refine cA (c1 _) flk ?_;simp (disch:=omega) only[k0,k1,k2,k5,k6,zu,zv,go_sem])
    |(apply qb;exact rvk;simp only[go_sem];exact qi)
    |with_reducible apply aiA
   all_goals try exact clz
  ·have k2:(t<0)=False:=eqf om;have k3:(((x.tok.getD s []).length:Int)≤t)=True:=eqt om;refine acO ql0 ?_;simp (disch:=omega) only[qpo,coC,qm,strs,go_sem]
   repeat' first
    |(refine cA (c1 _) flk ?_;simp (disch:=omega) only[k0,k1,k2,k3,k5,k6,zu,zv,go_sem])
    |(apply qb;exact rvk;simp only[go_sem];exact qi)
    |with_reducible apply aiA
   all_goals try exact clz
theorem qFm(b s:Str)(h:List AObj)(hb:b.length≤1000000000)(hs:s.length≤1000000000):ACalls Tryz.prog 80 [.str b,.str s] h (.bool (qDj b s)) h:=by
 have c1:=fun h=>t88 b h hb
 have c2:=fun h=>t88 s h hs
 unfold qDj;cases g1:kE b with
 |false=>
  rw[g1]at c1;rw[ine (by decide)];refine acO qqe ?_;simp (disch:=omega) only[qx9,go_sem]
  repeat' first
   |(refine cA (c1 _) flk ?_;simp (disch:=omega) only[go_sem])
   |(apply qd;exact rvk;simp only[go_sem];exact qi)
 |true=>
  rw[g1]at c1;rw[ipo rfl];cases g2:kE s with
  |true=>
   rw[g2]at c2;refine acO qqe ?_;simp (disch:=omega) only[qx9,go_sem]
   repeat' first
    |((first|refine cA (c1 _) ?_ ?_|refine cA (c2 _) ?_ ?_);exact flk;simp (disch:=omega) only[go_sem])
    |(apply qd;exact rvk;simp only[go_sem];exact qi)
  |false=>
   rw[g2]at c2
   by_cases g3:s= [39]
   ·subst g3;refine acO qqe ?_;simp (disch:=omega) only[qx9,go_sem]
    repeat' first
     |((first|refine cA (c1 _) ?_ ?_|refine cA (c2 _) ?_ ?_);exact flk;simp (disch:=omega) only[go_sem])
     |(apply qd;exact rvk;simp only[go_sem];exact qi)
   ·have k3:(s= [39])=False:=eqf g3;rw[dqf g3];refine acO qqe ?_;simp (disch:=omega) only[qx9,go_sem]
    repeat' first
     |((first|refine cA (c1 _) ?_ ?_|refine cA (c2 _) ?_ ?_);exact flk;simp (disch:=omega) only[k3,go_sem])
     |(apply qd;exact rvk;simp only[go_sem];exact qi)
def dpN(x:Co)(l:List Un)(o:Dc):Int:=if qay x l o=0 then km x l o else 0
theorem dpP(x:Co)(l:List Un)(o:Dc)(h:List AObj)(hz:qdE x)(hu:qik l)(hp:kQ SG h)(hg:zK h frmN frmC)(h1:coE x=0)(ht:o.txt.length≤1000):ACalls Tryz.prog 75 [.agg (coC x),zS l,.agg (dcC o)] h (.tup [.int .i64 (dpN x l o),.int .i64 (qay x l o)]) h:=by
 have ho:=qci h1;unfold dpN;have hE:qay x l o=(if o.kind<1∨3<o.kind then 8 else if o.txt≠ []∧o.kind≠2 then 1 else if tkB x o=false then 6 else if km x l o<0 then 20 else cjE o):=rfl
 by_cases g1:o.kind<1
 ·have k1:(o.kind<1)=True:=eqt g1;rw[ipo (.inl g1)]at hE;rw[hE,ine (by decide)];refine acO qap ?_;simp (disch:=omega) only[qdI,coC,dcC,k1,go_sem]
  repeat' first
   |(apply qb;exact rvk;simp only[go_sem];exact qi)
 have k1:(o.kind<1)=False:=eqf g1
 by_cases g2:3<o.kind
 ·have k2:(3<o.kind)=True:=eqt g2;rw[ipo (.inr g2)]at hE;rw[hE,ine (by decide)];refine acO qap ?_;simp (disch:=omega) only[qdI,coC,dcC,k1,k2,go_sem]
  repeat' first
   |(apply qb;exact rvk;simp only[go_sem];exact qi)
 have k2:(3<o.kind)=False:=eqf g2;rw[ine (fun e=>e.elim g1 g2)]at hE
 by_cases g3:o.txt≠ []∧o.kind≠2
 ·have k3:(o.txt= [])=False:=eqf g3.1;have k4:(o.kind=2)=False:=eqf g3.2;rw[ipo g3]at hE;rw[hE,ine (by decide)];refine acO qap ?_;simp (disch:=omega) only[qdI,coC,dcC,k1,k2,k3,k4,go_sem]
  repeat' first
   |(apply qb;exact rvk;simp only[go_sem];exact qi)
   |with_reducible apply aiA
  all_goals try exact clz
 rw[ine g3]at hE;have c1:=fun h=>quN x.sig.length (fun j=>x.sig.getD j []) o.sig h hz.sg
 have hS:qcM (fun j=>decide (o.sig=x.sig.getD j [])) x.sig.length 0=zP x o.sig:=rfl;simp only[hS]at c1
 by_cases g4:o.kind=2
 ·have k4:(o.kind=2)=True:=eqt g4
  by_cases ge:o.txt= []
  ·have k3:(o.txt= [])=True:=eqt ge;have htk:tkB x o=(decide (0≤zP x o.sig)&&(decide (0≤o.tok)&&decide (o.tok<((x.tok.getD (zP x o.sig).toNat []).length:Int)))):=rfl
   by_cases g5:zP x o.sig<0
   ·have k5:(zP x o.sig<0)=True:=eqt g5;rw[dqf om,Bool.false_and]at htk;rw[ipo htk]at hE;rw[hE,ine (by decide)];unfold strs at*;refine acO qap ?_;simp (disch:=omega) only[qdI,coC,dcC,k1,k2,k3,k4,strs,go_sem]
    repeat' first
     |(refine cA (c1 _) flk ?_;simp (disch:=omega) only[k5,go_sem])
     |(apply qb;exact rvk;simp only[go_sem];exact qi)
     |with_reducible apply aiA
    all_goals try exact clz
   obtain⟨S,hSn⟩: ∃S:Nat,zP x o.sig=S:=⟨(zP x o.sig).toNat,om⟩
   have hSl:S<x.sig.length:=by
    rcases jb (fun j=>decide (o.sig=x.sig.getD j [])) x.sig.length with⟨i,q1,_,_,q4⟩|⟨_,q2⟩
    ·have e:zP x o.sig=i:=q4;omega
    ·have e:zP x o.sig= -1:=q2;omega
   have k5:((S:Int)<0)=False:=eqf om;rw[hSn,dqt om,Bool.true_and,itn]at htk;simp only[hSn]at c1;have c2:=fun l'=>qCB x S o.tok (h++l') hz (hp.app l') h1 hSl
   by_cases g6:0≤o.tok∧o.tok<((x.tok.getD S []).length:Int)
   case neg=>
    have htk:tkB x o=false:=by rw[htk];simpa using fun e=>Int.not_lt.1 fun hc=>g6 ⟨e,hc⟩
    rw[ipo htk]at hE;rw[hE,ine (by decide)];simp only[ine g6]at c2;unfold coC at c2;refine acO qap ?_;simp (disch:=omega) only[qdI,coC,dcC,k1,k2,k3,k4,strs,go_sem]
    repeat' first
     |((first|refine cA (c1 _) ?_ ?_|refine cA (c2 _) ?_ ?_);exact flk;simp (disch:=omega) only[k5,go_sem])
     |(apply qb;exact rvk;simp only[go_sem];exact qi)
     |with_reducible first|intro _|apply aiA
    all_goals try exact clz
   have htk:tkB x o=true:=by rw[htk];simpa using g6
   rw[ine (by rw[htk];decide)]at hE;simp only[ipo g6]at c2;have hpl:km x l o=fnU l (kY x S o.tok):=by unfold km;rw[hSn,itn]
   have hcn:=qef ho hSl g6.1 g6.2;have c3:=fun h=>qDb l (kY x S o.tok) h hu.n
   have e1:fnR l (kY x S o.tok)=km x l o:=by unfold fnR;rw[ine om,hpl]
   have e2:fnE (kY x S o.tok)=0:=by unfold fnE;rw[ine om]
   rw[e1,e2]at c3;unfold coC at c2
   by_cases g7:km x l o<0
   ·have k7:(km x l o<0)=True:=eqt g7;rw[ipo g7]at hE;rw[hE,ine (by decide)];refine acO qap ?_;simp (disch:=omega) only[qdI,coC,dcC,k1,k2,k3,k4,strs,go_sem]
    repeat' first
     |((first|refine cA (c1 _) ?_ ?_|refine cA (c2 _) ?_ ?_|refine cA (c3 _) ?_ ?_);exact flk;simp (disch:=omega) only[k4,k5,k7,go_sem])
     |(apply qb;exact rvk;simp only[go_sem];exact qi)
     |with_reducible apply aiA
    all_goals try exact clz
   have k7:(km x l o<0)=False:=eqf g7;rw[ine g7]at hE;unfold cjE at hE;rw[ipo g4]at hE;have c4:=fun l'=>qEI o.txt (h++l') ht hg.app
   by_cases g8:qjX o.txt=0
   case neg=>
    have k8:(qjX o.txt=0)=False:=eqf g8;rw[ipo g8]at hE;rw[hE,ine g8];refine acO qap ?_;simp (disch:=omega) only[qdI,coC,dcC,k1,k2,k3,k4,strs,go_sem]
    repeat' first
     |((first|refine cA (c1 _) ?_ ?_|refine cA (c2 _) ?_ ?_|refine cA (c3 _) ?_ ?_|refine cA (c4 _) ?_ ?_);exact flk;simp (disch:=omega) only[k4,k5,k7,k8,strs,go_sem])
     |(apply qb;exact rvk;simp only[go_sem];exact qi)
     |with_reducible apply aiA
    all_goals try exact clz
   rw[ine (by simpa using g8)]at hE;have g9:zU o.txt=0∧qh6 o.txt=0:=by
    unfold qjX at g8;split at g8
    ·rename_i q;exact absurd g8 q
    ·rename_i q;exact⟨Classical.not_not.1 q,g8⟩
   have hR:qsX o.txt=qoo (qh7 o.txt):=by unfold qsX qh7;rw[ipo g8,ipo g9.2];rfl
   simp only[g8,ine (show¬zU o.txt≠0 by simpa using g9.1),←hR]at c4;cases hL:qsX o.txt with
   |nil=>
    rw[hL]at hE c4;rw[ipo rfl]at hE;rw[hE,ine (by decide)];refine acO qap ?_;simp (disch:=omega) only[qdI,coC,dcC,k1,k2,k3,k4,strs,go_sem]
    repeat' first
     |((first|refine cA (c1 _) ?_ ?_|refine cA (c2 _) ?_ ?_|refine cA (c3 _) ?_ ?_|refine cA (c4 _) ?_ ?_);exact flk;simp (disch:=omega) only[k4,k5,k7,strs,go_sem])
     |(apply qb;exact rvk;simp only[go_sem];first|exact qi|skip)
     |with_reducible first|intro _|apply aiA
    all_goals try exact clz
   |cons a r=>
    rw[hL]at hE c4;rw[ine (by simp)]at hE;rw[hE,ipo rfl];have k9:(((a::r).length:Int)=0)=False:=eqf (by simp;omega);refine acO qap ?_;simp (disch:=omega) only[qdI,coC,dcC,k1,k2,k3,k4,strs,go_sem]
    repeat' first
     |((first|refine cA (c1 _) ?_ ?_|refine cA (c2 _) ?_ ?_|refine cA (c3 _) ?_ ?_|refine cA (c4 _) ?_ ?_);exact flk;simp (disch:=omega) only[k4,k5,k7,strs,go_sem])
     |(apply qb;exact rvk;simp only[go_sem];first|exact qi|skip)
     |with_reducible first|intro _|apply aiA
    all_goals try exact clz
  ·have k3:(o.txt= [])=False:=eqf ge;have htk:tkB x o=(decide (0≤zP x o.sig)&&(decide (0≤o.tok)&&decide (o.tok<((x.tok.getD (zP x o.sig).toNat []).length:Int)))):=rfl
   by_cases g5:zP x o.sig<0
   ·have k5:(zP x o.sig<0)=True:=eqt g5;rw[dqf om,Bool.false_and]at htk;rw[ipo htk]at hE;rw[hE,ine (by decide)];unfold strs at*;refine acO qap ?_;simp (disch:=omega) only[qdI,coC,dcC,k1,k2,k3,k4,strs,go_sem]
    repeat' first
     |(refine cA (c1 _) flk ?_;simp (disch:=omega) only[k5,go_sem])
     |(apply qb;exact rvk;simp only[go_sem];exact qi)
     |with_reducible apply aiA
    all_goals try exact clz
   obtain⟨S,hSn⟩: ∃S:Nat,zP x o.sig=S:=⟨(zP x o.sig).toNat,om⟩
   have hSl:S<x.sig.length:=by
    rcases jb (fun j=>decide (o.sig=x.sig.getD j [])) x.sig.length with⟨i,q1,_,_,q4⟩|⟨_,q2⟩
    ·have e:zP x o.sig=i:=q4;omega
    ·have e:zP x o.sig= -1:=q2;omega
   have k5:((S:Int)<0)=False:=eqf om;rw[hSn,dqt om,Bool.true_and,itn]at htk;simp only[hSn]at c1;have c2:=fun l'=>qCB x S o.tok (h++l') hz (hp.app l') h1 hSl
   by_cases g6:0≤o.tok∧o.tok<((x.tok.getD S []).length:Int)
   case neg=>
    have htk:tkB x o=false:=by rw[htk];simpa using fun e=>Int.not_lt.1 fun hc=>g6 ⟨e,hc⟩
    rw[ipo htk]at hE;rw[hE,ine (by decide)];simp only[ine g6]at c2;unfold coC at c2;refine acO qap ?_;simp (disch:=omega) only[qdI,coC,dcC,k1,k2,k3,k4,strs,go_sem]
    repeat' first
     |((first|refine cA (c1 _) ?_ ?_|refine cA (c2 _) ?_ ?_);exact flk;simp (disch:=omega) only[k5,go_sem])
     |(apply qb;exact rvk;simp only[go_sem];exact qi)
     |with_reducible first|intro _|apply aiA
    all_goals try exact clz
   have htk:tkB x o=true:=by rw[htk];simpa using g6
   rw[ine (by rw[htk];decide)]at hE;simp only[ipo g6]at c2;have hpl:km x l o=fnU l (kY x S o.tok):=by unfold km;rw[hSn,itn]
   have hcn:=qef ho hSl g6.1 g6.2;have c3:=fun h=>qDb l (kY x S o.tok) h hu.n
   have e1:fnR l (kY x S o.tok)=km x l o:=by unfold fnR;rw[ine om,hpl]
   have e2:fnE (kY x S o.tok)=0:=by unfold fnE;rw[ine om]
   rw[e1,e2]at c3;unfold coC at c2
   by_cases g7:km x l o<0
   ·have k7:(km x l o<0)=True:=eqt g7;rw[ipo g7]at hE;rw[hE,ine (by decide)];refine acO qap ?_;simp (disch:=omega) only[qdI,coC,dcC,k1,k2,k3,k4,strs,go_sem]
    repeat' first
     |((first|refine cA (c1 _) ?_ ?_|refine cA (c2 _) ?_ ?_|refine cA (c3 _) ?_ ?_);exact flk;simp (disch:=omega) only[k4,k5,k7,go_sem])
     |(apply qb;exact rvk;simp only[go_sem];exact qi)
     |with_reducible apply aiA
    all_goals try exact clz
   have k7:(km x l o<0)=False:=eqf g7;rw[ine g7]at hE;unfold cjE at hE;rw[ipo g4]at hE;have c4:=fun l'=>qEI o.txt (h++l') ht hg.app
   by_cases g8:qjX o.txt=0
   case neg=>
    have k8:(qjX o.txt=0)=False:=eqf g8;rw[ipo g8]at hE;rw[hE,ine g8];refine acO qap ?_;simp (disch:=omega) only[qdI,coC,dcC,k1,k2,k3,k4,strs,go_sem]
    repeat' first
     |((first|refine cA (c1 _) ?_ ?_|refine cA (c2 _) ?_ ?_|refine cA (c3 _) ?_ ?_|refine cA (c4 _) ?_ ?_);exact flk;simp (disch:=omega) only[k4,k5,k7,k8,strs,go_sem])
     |(apply qb;exact rvk;simp only[go_sem];exact qi)
     |with_reducible apply aiA
    all_goals try exact clz
   rw[ine (by simpa using g8)]at hE;have g9:zU o.txt=0∧qh6 o.txt=0:=by
    unfold qjX at g8;split at g8
    ·rename_i q;exact absurd g8 q
    ·rename_i q;exact⟨Classical.not_not.1 q,g8⟩
   have hR:qsX o.txt=qoo (qh7 o.txt):=by unfold qsX qh7;rw[ipo g8,ipo g9.2];rfl
   simp only[g8,ine (show¬zU o.txt≠0 by simpa using g9.1),←hR]at c4;cases hL:qsX o.txt with
   |nil=>
    rw[hL]at hE c4;rw[ipo rfl]at hE;rw[hE,ine (by decide)];refine acO qap ?_;simp (disch:=omega) only[qdI,coC,dcC,k1,k2,k3,k4,strs,go_sem]
    repeat' first
     |((first|refine cA (c1 _) ?_ ?_|refine cA (c2 _) ?_ ?_|refine cA (c3 _) ?_ ?_|refine cA (c4 _) ?_ ?_);exact flk;simp (disch:=omega) only[k4,k5,k7,strs,go_sem])
     |(apply qb;exact rvk;simp only[go_sem];first|exact qi|skip)
     |with_reducible first|intro _|apply aiA
    all_goals try exact clz
   |cons a r=>
    rw[hL]at hE c4;rw[ine (by simp)]at hE;rw[hE,ipo rfl];have k9:(((a::r).length:Int)=0)=False:=eqf (by simp;omega);refine acO qap ?_;simp (disch:=omega) only[qdI,coC,dcC,k1,k2,k3,k4,strs,go_sem]
    repeat' first
     |((first|refine cA (c1 _) ?_ ?_|refine cA (c2 _) ?_ ?_|refine cA (c3 _) ?_ ?_|refine cA (c4 _) ?_ ?_);exact flk;simp (disch:=omega) only[k4,k5,k7,strs,go_sem])
     |(apply qb;exact rvk;simp only[go_sem];first|exact qi|skip)
     |with_reducible first|intro _|apply aiA
    all_goals try exact clz
 ·have k4:(o.kind=2)=False:=eqf g4;have ge:o.txt= []:=Classical.not_not.1 fun hc=>g3 ⟨hc,g4⟩
  have k3:(o.txt= [])=True:=eqt ge;have htk:tkB x o=(decide (0≤zP x o.sig)&&(decide (0≤o.tok)&&decide (o.tok<((x.tok.getD (zP x o.sig).toNat []).length:Int)))):=rfl
  by_cases g5:zP x o.sig<0
  ·have k5:(zP x o.sig<0)=True:=eqt g5;rw[dqf om,Bool.false_and]at htk;rw[ipo htk]at hE;rw[hE,ine (by decide)];unfold strs at*;refine acO qap ?_;simp (disch:=omega) only[qdI,coC,dcC,k1,k2,k3,k4,strs,go_sem]
   repeat' first
    |(refine cA (c1 _) flk ?_;simp (disch:=omega) only[k5,go_sem])
    |(apply qb;exact rvk;simp only[go_sem];exact qi)
    |with_reducible apply aiA
   all_goals try exact clz
  obtain⟨S,hSn⟩: ∃S:Nat,zP x o.sig=S:=⟨(zP x o.sig).toNat,om⟩
  have hSl:S<x.sig.length:=by
   rcases jb (fun j=>decide (o.sig=x.sig.getD j [])) x.sig.length with⟨i,q1,_,_,q4⟩|⟨_,q2⟩
   ·have e:zP x o.sig=i:=q4;omega
   ·have e:zP x o.sig= -1:=q2;omega
  have k5:((S:Int)<0)=False:=eqf om;rw[hSn,dqt om,Bool.true_and,itn]at htk;simp only[hSn]at c1;have c2:=fun l'=>qCB x S o.tok (h++l') hz (hp.app l') h1 hSl
  by_cases g6:0≤o.tok∧o.tok<((x.tok.getD S []).length:Int)
  case neg=>
   have htk:tkB x o=false:=by rw[htk];simpa using fun e=>Int.not_lt.1 fun hc=>g6 ⟨e,hc⟩
   rw[ipo htk]at hE;rw[hE,ine (by decide)];simp only[ine g6]at c2;unfold coC at c2;refine acO qap ?_;simp (disch:=omega) only[qdI,coC,dcC,k1,k2,k3,k4,strs,go_sem]
   repeat' first
    |((first|refine cA (c1 _) ?_ ?_|refine cA (c2 _) ?_ ?_);exact flk;simp (disch:=omega) only[k5,go_sem])
    |(apply qb;exact rvk;simp only[go_sem];exact qi)
    |with_reducible first|intro _|apply aiA
   all_goals try exact clz
  have htk:tkB x o=true:=by rw[htk];simpa using g6
  rw[ine (by rw[htk];decide)]at hE;simp only[ipo g6]at c2;have hpl:km x l o=fnU l (kY x S o.tok):=by unfold km;rw[hSn,itn]
  have hcn:=qef ho hSl g6.1 g6.2;have c3:=fun h=>qDb l (kY x S o.tok) h hu.n
  have e1:fnR l (kY x S o.tok)=km x l o:=by unfold fnR;rw[ine om,hpl]
  have e2:fnE (kY x S o.tok)=0:=by unfold fnE;rw[ine om]
  rw[e1,e2]at c3;unfold coC at c2
  by_cases g7:km x l o<0
  ·have k7:(km x l o<0)=True:=eqt g7;rw[ipo g7]at hE;rw[hE,ine (by decide)];refine acO qap ?_;simp (disch:=omega) only[qdI,coC,dcC,k1,k2,k3,k4,strs,go_sem]
   repeat' first
    |((first|refine cA (c1 _) ?_ ?_|refine cA (c2 _) ?_ ?_|refine cA (c3 _) ?_ ?_);exact flk;simp (disch:=omega) only[k4,k5,k7,go_sem])
    |(apply qb;exact rvk;simp only[go_sem];exact qi)
    |with_reducible apply aiA
   all_goals try exact clz
  have k7:(km x l o<0)=False:=eqf g7;rw[ine g7]at hE;unfold cjE at hE;rw[ine g4]at hE;rw[hE,ipo rfl];refine acO qap ?_;simp (disch:=omega) only[qdI,coC,dcC,k1,k2,k3,k4,strs,go_sem]
  repeat' first
   |((first|refine cA (c1 _) ?_ ?_|refine cA (c2 _) ?_ ?_|refine cA (c3 _) ?_ ?_);exact flk;simp (disch:=omega) only[k4,k5,k7,go_sem])
   |(apply qb;exact rvk;simp only[go_sem];exact qi)
   |with_reducible apply aiA
  all_goals try exact clz
theorem qpI(x:Co)(l:List Un)(h:List AObj)(hz:qdE x)(hu:qik l)(hp:kQ SG h):ACalls Tryz.prog 74 [.agg (coC x),zS l] h (.int .i64 (vaE x l)) h:=by
 have c1:=fun l'=>coP x (h++l') hz (hp.app l')
 have c2:=fun l'=>vaP x l (h++l') hz hu (hp.app l')
 have hE:vaE x l=(if coE x≠0 then 1 else if rgB x l=false then 20 else 0):=rfl
 by_cases g:coE x=0
 case neg=>
  have k1:(coE x=0)=False:=eqf g;rw[ipo g]at hE;rw[hE];unfold coC at c1;refine acO qus ?_;simp (disch:=omega) only[qBZ,coC,go_sem]
  repeat' first
   |(refine cA (c1 _) flk ?_;simp (disch:=omega) only[k1,go_sem])
   |(apply qb;exact rvk;simp only[go_sem];exact qi)
 rw[ine (by simpa using g)]at hE;simp only[g]at c1
 by_cases g2:rgB x l=false
 ·rw[ipo g2]at hE;rw[hE];simp only[hE]at c2;unfold coC at c1 c2;refine acO qus ?_;simp (disch:=omega) only[qBZ,coC,go_sem]
  repeat' first
   |((first|refine cA (c1 _) ?_ ?_|refine cA (c2 _) ?_ ?_);exact flk;simp (disch:=omega) only[go_sem])
   |(apply qb;exact rvk;simp only[go_sem];first|exact qi|apply qh)
   |with_reducible first|intro _|apply aiA
  all_goals try exact clz
 ·rw[ine g2]at hE;rw[hE];simp only[hE]at c2;unfold coC at c1 c2;refine acO qus ?_;simp (disch:=omega) only[qBZ,coC,go_sem]
  repeat' first
   |((first|refine cA (c1 _) ?_ ?_|refine cA (c2 _) ?_ ?_);exact flk;simp (disch:=omega) only[go_sem])
   |(apply qb;exact rvk;simp only[go_sem];exact qi)
theorem qBc{x:Co}{l:List Un}(h:vaE x l=0):coE x=0:=by
 unfold vaE at h;split at h
 ·cases h
 ·rename_i g;exact Classical.not_not.1 g
theorem qDO(x:Co)(l:List Un)(o:Dc)(h:List AObj)(hz:qdE x)(hu:qik l)(hp:kQ SG h)(hg:zK h frmN frmC)(ht:o.txt.length≤1000):ACalls Tryz.prog 20 [.agg (coC x),zS l,.agg (dcC o)] h (.tup [.int .i64 (qrY x l o),.int .i64 (qj0 x l o)]) h:=by
 have c1:=fun l'=>qpI x l (h++l') hz hu (hp.app l')
 by_cases g:vaE x l=0
 case neg=>
  have k1:(vaE x l=0)=False:=eqf g;have hE:qj0 x l o=vaE x l:=by unfold qj0;rw[ipo g]
  unfold qrY;rw[hE,ine g];unfold coC at c1;refine acO qzb ?_;simp (disch:=omega) only[qCf,coC,go_sem]
  repeat' first
   |(refine cA (c1 _) flk ?_;simp (disch:=omega) only[k1,go_sem])
   |(apply qb;exact rvk;simp only[go_sem];exact qi)
 have hE:qj0 x l o=qay x l o:=by unfold qj0;rw[ine (by simpa using g)]
 unfold qrY;rw[hE];have c2:=fun l'=>dpP x l o (h++l') hz hu (hp.app l') hg.app (qBc g) ht
 simp only[g]at c1;unfold dpN at c2;unfold coC at c1 c2;unfold dcC at c2;refine acO qzb ?_;simp (disch:=omega) only[qCf,coC,dcC,go_sem]
 repeat' first
  |((first|refine cA (c1 _) ?_ ?_|refine cA (c2 _) ?_ ?_);exact flk;simp (disch:=omega) only[go_sem])
  |(apply qb;exact rvk;simp only[go_sem];exact qi)
  |with_reducible apply aiA
 all_goals try exact clz
def plG(x:Co)(l:List Un)(d:List Dc)(n:Nat):List Int:=(d.take n).map (km x l)
def qAx(x:Co)(l:List Un)(d:List Dc):List Int:=if qbH x l d=0 then plG x l d d.length else []
theorem qDw(x:Co)(l:List Un)(d:List Dc)(h:List AObj)(hz:qdE x)(hu:qik l)(hp:kQ SG h)(hg:zK h frmN frmC)(h1:coE x=0)(hd:d.length≤1000000)(ht: ∀o∈d,o.txt.length≤1000):ACalls Tryz.prog 77 [.agg (coC x),zS l,kl d] h (.tup [qI (qAx x l d),.int .i64 (qbH x l d)]) h:=by
 unfold qAx
 by_cases g:256<d.length
 ·have k1:((256:Int)<d.length)=True:=eqt om;have hE:qbH x l d=4:=by unfold qbH;rw[ipo g]
  rw[hE,ine (by decide)];refine acO qzQ ?_;simp (disch:=omega) only[qCl,coC,kl,k1,go_sem]
  repeat' first
   |(apply qb;exact rvk;simp only[go_sem])
  exact VLe.tup ⟨zf,qi,trivial⟩
 have k1:((256:Int)<d.length)=False:=eqf om;have hE:qbH x l d=qbs (fun i=>qay x l (d.getD i default)) 0 d.length:=by unfold qbH;rw[ine g]
 rw[hE];refine acO qzQ ?_;simp (disch:=omega) only[qCl,coC,kl,k1,go_sem];refine qu (T:=fun s:Nat×Nat×AObj×AObj×AObj=>ze 38 [(1,zS l),(3,.op h.length 1 0),(16,kl d),(17,.int .i64 d.length),(18,.int .i64 s.1),(8,.osl (h.length+2) s.2.1 1 0 s.1)])
  (H:=fun s=>h++ [.mem 1 26 (coC x),.emp 1,zk s.2.1 3 (qU (plG x l d s.1)),s.2.2.1,s.2.2.2.1,s.2.2.2.2])
  (inv:=fun s=>s.1≤d.length∧(∀j,j<s.1→qay x l (d.getD j default)=0)∧qJ [s.2.2.1] 0=true∧qJ [s.2.2.2.1] 0=true∧qJ [s.2.2.2.2] 0=true) (m:=fun s=>d.length-s.1) (0,1,.emp 0,.emp 0,.emp 0) ⟨nzl _,fun j hj=>absurd hj (nnz j),rfl,rfl,rfl⟩ (Wk.temps ?_) ?_
 ·(simp only[kl,go_sem,qg,qc,qa,qf];try (repeat' first|(with_reducible apply aiA)|(apply qh;omega)|(apply qe;rfl)|exact qi))
 rintro⟨i,v,O1,O2,O3⟩ ⟨i1,i0,i2,i3,i4⟩ K hK;simp only at i0 i1 i2 i3 i4 hK;have i2': ∀m,qJ (O1::m) 0=true:=fun _=>i2
 have i3': ∀m,qJ (O2::m) 0=true:=fun _=>i3
 have i4': ∀m,qJ (O3::m) 0=true:=fun _=>i4
 have eL:(plG x l d i).length=i:=by unfold plG;rw[List.length_map,List.length_take];omega
 by_cases hi:i<d.length
 ·have k2:((i:Int)<d.length)=True:=eqt om;obtain⟨o,ho⟩: ∃o,o=d.getD i default:=⟨_,rfl⟩
  have eo:=ho.symm;have hom:o∈d:=by rw[ho];exact jr hi
  have hS:plG x l d (i+1)=plG x l d i++ [km x l o]:=by
   unfold plG;rw[List.take_add_one,zL hi,List.map_append,ho,gdqA,zL hi];rfl
  have c1:=fun l'=>dpP x l o (h++l') hz hu (hp.app l') hg.app h1 (ht o hom)
  by_cases g3:qay x l o=0
  case neg=>
   have k3:(qay x l o=0)=False:=eqf g3;have hf:qbs (fun i=>qay x l (d.getD i default)) 0 d.length=qay x l o:=by
    rw[qaU hi i0 (by rw[eo];exact g3),eo]
   rw[hf,ine g3];unfold coC dcC at c1;simp (disch:=omega) only[coC,kl,dcC,k2,eo,i2',go_sem]
   repeat' first
    |(refine cA (c1 _) flk ?_;simp (disch:=omega) only[k3,i3',go_sem])
    |(apply qb;exact rvk;simp only[go_sem])
    |with_reducible apply aiA
   all_goals try exact clz
   exact VLe.tup ⟨zf,qi,trivial⟩
  unfold dpN at c1;rw[g3]at c1;simp only[if_true]at c1;obtain⟨L,hL⟩: ∃L,L=plG x l d i:=⟨_,rfl⟩
  rw[←hL]at hS eL ⊢;have eC:=jZ L;have eTk:List.take i (qU L)=qU L:=ltl om;unfold coC dcC at c1;simp (disch:=omega) only[coC,kl,dcC,k2,eo,i2',go_sem]
  repeat' first
   |(refine cA (c1 _) flk ?_;simp (disch:=omega) only[i3',eC,eL,eTk,Nat.mul_one,go_sem])
   |with_reducible apply aiA
  all_goals try exact clz
  rw[show qU L++ [AV.int IntKind.i64 (km x l o)]=qU (L++ [km x l o]) by simp[qU],←hS];refine hK _ _ (i+1,v+1,.mem (qo (some O1)+1) 43 (dcC o),.mem (qo (some O2)+1) 3 [.int .i64 (km x l o)],O3) ⟨hi,fun j hj=> ?_,rfl,rfl,i4⟩ (by simp only;omega) ?_
  ·by_cases e:j=i
   ·rw[e,eo];exact g3
   ·exact i0 j om
  refine Wk.temps ?_
  (simp only[kl,dcC,go_sem,qg,qc,qa,qf];try (repeat' first|(with_reducible apply aiA)|(apply qh;omega)|(apply qe;rfl)|exact qi))
 have k2:((i:Int)<d.length)=False:=eqf om;obtain rfl:i=d.length:=by omega
 have hf:qbs (fun i=>qay x l (d.getD i default)) 0 d.length=0:=jY i0;rw[hf,ipo rfl];simp (disch:=omega) only[k2,go_sem]
 repeat' first
  |(apply qb;exact rvk;simp only[go_sem])
 exact VLe.tup ⟨qrx (fun _=>rfl) eL.symm,qi,trivial⟩
def pcC(p:Pc):List AV:=tkC p.t++ [.int .i64 p.c]
def spX(x:Co)(s f d:Nat):List (List AV):=(spk x s f d).map fun p=> [.agg (pcC p)]
theorem qA3(x:Co)(f t s:Nat)(h:List AObj):ACalls Tryz.prog 82 [.agg (coC x),.int .i64 (f:Int),.int .i64 (t:Int),.int .i64 (s:Int)] h (.fn (.func 130) [] [.ip [.int .i64 (f:Int)],.ip [.int .i64 (t:Int)],.ip (coC x),.ip [.int .i64 (s:Int)]]) h:=by
 unfold coC;refine acO qC1 ?_;simp (disch:=omega) only[qEm,go_sem]
 repeat' first
  |(apply qb;exact rvk;simp only[go_sem];exact qi)
theorem qn1(x:Co)(s f d:Nat):(spX x s f d).length=(spk x s f d).length:=by unfold spX;rw[List.length_map]
theorem qvW(x:Co)(s f:Nat): ∀d e,d≤e→ ∃r,spk x s f e=spk x s f d++r:=by
 intro d e h
 induction e with
 |zero=>
  obtain rfl:d=0:=by omega
  exact⟨[],by simp⟩
 |succ e ih=>
  by_cases g:d=e+1
  ·subst g;exact⟨[],by simp⟩
  ·obtain⟨r,hr⟩:=ih om;refine⟨r++(if pcB x s (f+e)=true then [pcT x s (f+e)] else []),?_⟩
   conv=>lhs;unfold spk
   rw[hr,List.append_assoc]
theorem qA2{x:Co}{s f k d:Nat}(hk:k<d)(hb:pcB x s (f+k)=true): ∃g:(spk x s f k).length<(spX x s f d).length,(spX x s f d)[(spk x s f k).length]= [.agg (pcC (pcT x s (f+k)))]∧(spk x s f (k+1)).length=(spk x s f k).length+1:=by
 have e1:spk x s f (k+1)=spk x s f k++ [pcT x s (f+k)]:=by
  conv=>lhs;unfold spk
  rw[ipo hb]
 obtain⟨r,hr⟩:=qvW x s f (k+1) d hk;refine⟨by rw[qn1,hr,e1];simp,?_,by rw[e1];simp⟩;unfold spX;simp only[List.getElem_map,hr,e1];rw[List.getElem_append_left (by simp),List.getElem_append_right (nlr _)];simp
structure SpS where
 k:Nat
 hh:List AObj
theorem itS(x:Co)(s f t:Nat)(hz:qdE x)(ho:CoOk x)(hs:s<x.sig.length)(ht:t≤x.col.length)(ft:f≤t):qoX Tryz.prog 130 [.ip [.int .i64 (f:Int)],.ip [.int .i64 (t:Int)],.ip (coC x),.ip [.int .i64 (s:Int)]] (spX x s f (t-f)):=by
 intro h ts LI S E hS hE body start hts;have hsg:=hz.sg;have hcl:=hz.cl;have htn:=ho.tn;have htl:=hz.tl s;have q5:(0≤(s:Int))=True:=eqt om;have q6:((s:Int)<x.tok.length)=True:=eqt om;refine acQ qyD ?_;simp (disch:=omega) only[qw5,coC,go_sem]
 repeat' first
  |with_reducible apply aiA
 all_goals try exact clz
 refine qu (T:=fun i:SpS=>ze 39 [(0,.yld h.length),(2,.ip [.int .i64 (t:Int)]),(3,.ip (coC x)),(4,.ip [.int .i64 (s:Int)]),(6,.int .i64 ((f+i.k:Nat):Int))]) (H:=fun i=>i.hh++ [.lp .ready ts LI])
  (inv:=fun i=>f+i.k≤t∧S (spk x s f i.k).length i.hh) (m:=fun i=>t-f-i.k) ⟨0,h⟩ ⟨by simp only;omega,start⟩ (Wk.temps ?_) ?_
 ·(simp only[coC,go_sem,qg,qc,qa,qf];try (repeat' first|(with_reducible apply aiA)|(apply qh;omega)|(apply qe;rfl)|exact qi))
 rintro⟨k,hh⟩ ⟨i1,i4⟩ K hK;simp only at i1 i4 hK;obtain⟨hlen,hlow⟩:=hS _ _ i4;have hb:(h++ [AObj.lp LS.ready ts LI]).length=(hh++ [AObj.lp LS.ready ts LI]).length:=by simp[hlen]
 by_cases hi:f+k<t
 ·have q0:(((f+k:Nat):Int)<t)=True:=eqt om;have q1:(0≤((f+k:Nat):Int))=True:=eqt om;have q2:(((f+k:Nat):Int)<x.col.length)=True:=eqt om;obtain⟨c,hcx⟩: ∃c,c=x.col.getD (f+k) []:=⟨_,rfl⟩
  have ec:=hcx.symm;have hcl2:=ho.cl (f+k) om;have hce:=ho.ce (f+k) om s hs;rw[ec]at hcl2 hce;have q3:((s:Int)<c.length)=True:=eqt om;have hpb:pcB x s (f+k)=decide (0≤c.getD s 0):=by unfold pcB;rw[ec]
  by_cases g:0≤c.getD s 0
  ·obtain⟨N,hN⟩: ∃N:Nat,c.getD s 0=N:=⟨(c.getD s 0).toNat,om⟩
   have hNt:N<(x.tok.getD s []).length:=by
    rcases hce with e|⟨_,e⟩
    ·omega
    ·rw[hN]at e;omega
   have q4:(0≤(N:Int))=True:=eqt om;obtain⟨T,hT⟩: ∃T,T=x.tok.getD s []:=⟨_,rfl⟩
   have eT:=hT.symm;rw[eT]at hNt;have q7:((N:Int)<T.length)=True:=eqt om;obtain⟨hdl,hxx,hln⟩:=qA2 (x:=x) (s:=s) (f:=f) (k:=k) (d:=t-f) om (by rw[hpb,dqt g]);have hpc:pcT x s (f+k)=⟨T.getD N default,((f+k:Nat):Int)⟩:=by
    unfold pcT;rw[ec,eT,hN,itn]
   have hb':=body _ hh [] hdl i4;rw[hxx,hpc]at hb';unfold pcC tkC at hb';simp only[lca,lna]at hb';simp (disch:=omega) only[coC,qw,qI,qm,zT,tkC,q0,q1,q2,q3,q4,q5,q6,q7,ec,hN,eT,go_sem]
   repeat' first
    |with_reducible apply aiA
   all_goals try exact clz
   ·exact⟨.ready,ts,LI,kR hlen⟩
   ·refine kk.mono ?_ hb';rintro v h' ⟨hh',⟨rfl,hn',rfl⟩|⟨st,rfl,hs',rfl⟩⟩
    ·simp (disch:=omega) only[go_sem];refine hK _ _ ⟨k+1,hh'⟩ ⟨by simp only;omega,by simp only;rw[hln];exact hn'⟩ (by simp only;omega) (Wk.temps ?_)
     (simp only[coC,go_sem,qg,qc,qa,qf];try (repeat' first|(with_reducible apply aiA)|(apply qh;omega)|(apply qe;rfl)|exact qi))
    ·simp (disch:=omega) only[go_sem];obtain⟨r1,r2⟩:=(hE _ _ hs').ret (L:=LI) st hts;exact jC trivial r1 r2 ⟨_,.inr ⟨st,hs',rfl⟩⟩ (qi)
  ·have q4:(0≤c.getD s 0)=False:=eqf g;have e1:spk x s f (k+1)=spk x s f k:=by
    conv=>lhs;unfold spk
    rw[hpb,dqf g,ine (by decide),lan]
   simp (disch:=omega) only[coC,qw,qI,q0,q1,q2,q3,q4,q5,ec,go_sem]
   repeat' first
    |with_reducible apply aiA
   all_goals try exact clz
   refine hK _ _ ⟨k+1,hh⟩ ⟨by simp only;omega,by rw[e1];exact i4⟩ (by simp only;omega) (Wk.temps ?_)
   (simp only[coC,go_sem,qg,qc,qa,qf];try (repeat' first|(with_reducible apply aiA)|(apply qh;omega)|(apply qe;rfl)|exact qi))
 ·have q0:(((f+k:Nat):Int)<t)=False:=eqf om;have hk:k=t-f:=by omega
  rw[hk]at i4;simp (disch:=omega) only[coC,qw,q0,go_sem]
  repeat' first
   |with_reducible apply aiA
  all_goals try exact clz
  obtain⟨r1,r2⟩:=(hS _ _ i4).ret (L:=LI) .ready hts;exact jC trivial r1 r2 ⟨hh,.inl ⟨by rw[qn1];exact i4,rfl⟩⟩ (qi)
end RC
end
section
open Go Go.Proofs AF
def qqu:List Nat:= []
def qxt:C:=
 ((C.ops [O1 2 (.box 0 122) 0,ON 4 (.nilo 1 7 115) []]).seq (((C.wk.seq (C.ops [MV 6 1])).seq (C.block 0 (C.range (.t 6) [7] (C.ops [⟨some 5,none,.alloc 2 115 [.str [],.str [],
 .str [],i6 0,i6 0,.str [],i6 0],[]⟩,ST 7 5 7]) (C.block 1 (C.ops [LD 8 2,O1 9 (.load (some 7)) 5,⟨some 10,none,.bslc 3 7 1 115 [.str [],.str [],.str [],i6 0,i6 0,
 .str [],i6 0] [(0,7)],[.t 9]⟩,O2 11 (.app 4 7 115 88) 8 10,ST 1 2 11]))))).seq ((C.ops [LD 12 2,MV 4 12]).seq
 C.ret)))
theorem qy3:qM Tryz.prog 179 13 5 [RV.tmp 4] qxt:=fi Tryz.f179 [2,4,5,10,11] qqu [1]
end
section
open Go Go.Proofs AF HY LN
namespace RC
def qbj(L:List Pc):List AV:=L.flatMap pcC
instance:Inhabited Pc:=⟨⟨default,0⟩⟩
def qe4(L:List Pc):AV:= .sl L.length fun i=>pcC (L.getD i default)
theorem qlW(l:List Pc):(qe4 l).flag=true:=rfl
theorem qjA(l:List Pc):(qe4 l).strip=qe4 l:=rfl
theorem qrj{fz:Nat→Bool}{h:List AObj}{n:Nat}(l:List Pc):rei fz h (n+1) (qe4 l)=qe4 l:=rfl
theorem qqk{fz:Nat→Bool}{h:List AObj}{n:Nat}(l:List Pc):frz fz h (n+1) (qe4 l)=qe4 l:=rfl
attribute [go_sem] qlW qjA qrj qqk
theorem qm2(p:Pc):(pcC p).length=7:=rfl
theorem qeA(L:List Pc):(qbj L).length=L.length*7:=by
 unfold qbj
 induction L with
 |nil=>rfl
 |cons a L ih=>rw[List.flatMap_cons,lap,ih,lco,qm2];omega
theorem qbF(A B:List Pc):qbj (A++B)=qbj A++qbj B:=by simp[qbj]
theorem qbG(a:Pc):qbj [a]=pcC a:=by simp[qbj]
theorem qm3(L:List Pc): ∀i,(qbj L).drop (i*7)=qbj (L.drop i):=by
 induction L with
 |nil=>intro i;simp[qbj]
 |cons a L ih=>
  intro i;cases i with
  |zero=>simp
  |succ i=>
   rw[show qbj (a::L)=pcC a++qbj L from rfl,show (a::L).drop (i+1)=L.drop i from rfl,←ih i];rw[show (i+1)*7=(pcC a).length+i*7 by rw[qm2];omega,List.drop_append,List.drop_eq_nil_of_le om,lna,Nat.add_sub_cancel_left]
theorem qq1{L:List Pc}{i:Nat}(hi:i<L.length):((qbj L).drop (i*7)).take 7=pcC (L.getD i default):=by
 rw[qm3,List.drop_eq_getElem_cons hi,gdqA,zL hi];rfl
theorem qq2(L:List Pc)(n:Nat): ∀c∈qbj L,qV n c=true:=by
 intro c hc;unfold qbj at hc;obtain⟨x,_,hx⟩:=List.mem_flatMap.1 hc;unfold pcC tkC at hx;simp only[lca,lna,List.mem_cons,List.not_mem_nil,or_false]at hx;rcases hx with rfl|rfl|rfl|rfl|rfl|rfl|rfl<;>rfl
theorem qhX{v n:Nat}{L:List Pc}{ty:TypeId}{fz:Nat→Bool}{h:List AObj}{d:Nat}(hn:n=L.length):VLe (qhW (some (zk v ty (qbj L))) v 7 0 n (rei fz h (d+1))) (qe4 L):=by
 subst hn;unfold zk;split
 ·rename_i e
  have:L= []:=by
   cases L with
   |nil=>rfl
   |cons a r=>exact absurd e (by simp[qbj,pcC,tkC])
  subst this;rw[slOf_emp,ipo rfl];exact zf
 ·rw[slOf_mem,ipo ⟨rfl,by rw[qeA];omega⟩];refine VLe.sl_eq rfl (fun i hi=> ?_);simp only[Nat.zero_add];rw[qq1 hi];rfl
theorem qET(f:FuncId)(A B C D:List AV)(L:List Pc)(h:List AObj)(hf:qoX Tryz.prog f [.ip A,.ip B,.ip C,.ip D] (L.map fun p=> [.agg (pcC p)]))(hL:L.length≤1000000000):ACalls Tryz.prog 179 [.nl,.fn (.func f) [] [.ip A,.ip B,.ip C,.ip D]] h (qe4 L) h:=by
 refine acO qy3 ?_;simp (disch:=omega) only[qxt,go_sem];refine⟨_,_,Wk.ownNil (j:=h.length) (i:=0) (k:=h.length+4) (v:=1) (ty:=122) (cs:= [.nl]) (ve:=0) (sz:=7) ?m1 rfl ?m2,?_⟩
 case m1=>simp only[go_sem]
 case m2=>simp only[go_sem]
 simp (disch:=omega) only[List.set_cons_zero,go_sem];have hxl:(L.map fun p=> [AV.agg (pcC p)]).length=L.length:=List.length_map ..;have hLow: ∀(i n:Nat) O1 O2,(∀n,lowO n O1)→(∀n,lowO n O2)→LowI (h++ [.mem 1 122 [.osl (h.length+4) 0 7 0 0],.emp 1,.emp 0,.emp 0,.emp 0]) (h++ [.mem 1 122 [.osl (h.length+4) i 7 0 n],.emp 1,O1,O2,zk i 115 (qbj (L.take i))]):=fun i n O1 O2 l1 l2=>by
  refine⟨by simp,fun o ho=> ?_⟩;rcases List.mem_append.1 ho with h1|h1
  ·exact .inl (List.mem_append_left _ h1)
  ·simp only[List.mem_cons,List.not_mem_nil,or_false]at h1;have hb: ∀n,lowO n (zk i 115 (qbj (L.take i))):=fun n=>jt (qq2 _ n)
   rcases h1 with rfl|rfl|rfl|rfl|rfl
   ·right;refine⟨fun c hc=> ?_,fun c hc=> ?_⟩<;>
    ·rw[List.mem_singleton]at hc;subst hc;simp[qV]
     try omega
   ·left;simp
   ·right;exact⟨l1 _,l1 _⟩
   ·right;exact⟨l2 _,l2 _⟩
   ·right;exact⟨hb _,hb _⟩
 refine zy hf (fun a ha=> ?_)
  (S:=fun i hh=> ∃O1 O2,qJ [O1] 0=true∧qJ [O2] 0=true∧(∀n,lowO n O1)∧(∀n,lowO n O2)∧hh=h++ [.mem 1 122 [.osl (h.length+4) i 7 0 i],.emp 1,O1,O2,zk i 115 (qbj (L.take i))]) (E:=fun _ _=>False) ?_ ?_ ?_ ?_ ?_ ?_ ?_
 ·obtain⟨c,_,rfl⟩:=List.mem_map.1 ha;rfl
 ·rintro i hh ⟨O1,O2,_,_,l1,l2,rfl⟩;exact hLow _ _ _ _ l1 l2
 ·intro s hh hf;exact hf.elim
 ·exact⟨.emp 0,.emp 0,rfl,rfl,fun _=>trivial,fun _=>trivial,rfl⟩
 ·simp[qV,qV.lowVs]
  try omega
 ·rintro i hh tl LI TS hi ⟨O1,O2,s1,s2,l1,l2,rfl⟩ hlen K K2 hK hN hR' hX;have hi':i<L.length:=by rw[hxl]at hi;exact hi
  rw[List.getElem_map];have s1': ∀m,qJ (O1::m) 0=true:=fun _=>s1
  have s2': ∀m,qJ (O2::m) 0=true:=fun _=>s2
  have hS:L.take (i+1)=L.take i++ [L.getD i default]:=by
   rw[List.take_add_one,zL hi',gdqA,zL hi'];rfl
  have eG:L[i]=L.getD i default:=by rw[gdqA,zL hi'];rfl
  rw[eG];obtain⟨p,hp⟩: ∃p,p=L.getD i default:=⟨_,rfl⟩
  rw[←hp]at hS ⊢;obtain⟨M,hM⟩: ∃M,M=L.take i:=⟨_,rfl⟩
  have eM:M.length=i:=by rw[hM,List.length_take];omega
  rw[←hM]at hS ⊢;have eC:=qeA M;have eTk:List.take (i*7) (qbj M)=qbj M:=ltl om;simp only[kJ,List.append_assoc,lca,lna];simp (disch:=omega) only[s1',pcC,tkC,go_sem];refine hK _ _ (h++ [.mem 1 122 [.osl (h.length+4) i 7 0 i],.emp 1,.mem (qo (some O1)+1) 115 (pcC p),O2,zk i 115 (qbj M)]) ?_ ?_ ?_
  ·simp[pcC,tkC]
  ·simp
  ·simp only[List.append_assoc,lca,lna];simp (disch:=omega) only[s2',pcC,tkC,eC,eTk,eM,go_sem]
   repeat' first
    |with_reducible apply aiA
   all_goals try exact clz
   have eA:qbj M++ [AV.str p.t.text,AV.str p.t.norm,AV.str p.t.page,.int .i64 p.t.line,.int .i64 p.t.flags,.str p.t.name,.int .i64 p.c]=qbj (M++ [p]):=by rw[qbF,qbG];rfl
   refine hN _ _ (h++ [.mem 1 122 [.osl (h.length+4) (i+1) 7 0 (i+1)],.emp 1,.mem (qo (some O1)+1) 115 (pcC p),.mem (qo (some O2)+1) 115 (pcC p),zk (i+1) 115 (qbj (M++ [p]))]) ?_ ?_ ⟨_,_,rfl,rfl,?_,?_,by rw[hS]⟩
   ·rw[←eA];simp[pcC,tkC];exact nlr _
   ·simp
   ·intro n c hc;simp[pcC,tkC]at hc;rcases hc with rfl|rfl|rfl|rfl|rfl|rfl|rfl<;>rfl
   ·intro n c hc;simp[pcC,tkC]at hc;rcases hc with rfl|rfl|rfl|rfl|rfl|rfl|rfl<;>rfl
 ·rintro hh ⟨O1,O2,s1,s2,l1,l2,rfl⟩;rw[hxl,List.take_length];simp (disch:=omega) only[go_sem]
  repeat' first
   |(apply qb;exact rvk;simp only[go_sem])
   |with_reducible apply aiA
  all_goals try exact clz
  exact qhX rfl
 ·intro e hh hf;exact hf.elim
theorem qE3(f:FuncId)(A B C D:List AV)(L:List Pc)(h:List AObj)(hf:qoX Tryz.prog f [.ip A,.ip B,.ip C,.ip D] (L.map fun p=> [.agg (pcC p)]))(hL:L.length≤1000000000):ACalls Tryz.prog 132 [.fn (.func f) [] [.ip A,.ip B,.ip C,.ip D]] h (qe4 L) h:=by
 have c1:=fun h=>qET f A B C D L h hf hL
 refine acO qyF ?_;simp (disch:=omega) only[qw7,go_sem]
 repeat' first
  |(refine cA (c1 _) flk ?_;simp (disch:=omega) only[go_sem])
  |(apply qb;exact rvk;simp only[go_sem];exact qi)
theorem qFq(h:List AObj):ACalls Tryz.prog 83 [] h (.agg [.nilfn,.fn (.func 131) [] [],.fn (.func 133) [] [],.fn (.func 135) [] []]) h:=by
 refine acO qC2 ?_;simp (disch:=omega) only[qEn,go_sem]
 repeat' first
  |(apply qb;exact rvk;simp only[go_sem];exact qi)
theorem qFp(x:Co)(u:Un)(o:Dc)(h:List AObj):ACalls Tryz.prog 135 [.agg (coC x),.agg (unC u),.agg (dcC o)] h (qe4 []) h:=by
 refine acO qyI ?_;simp (disch:=omega) only[qxa,coC,unC,dcC,go_sem]
 repeat' first
  |(apply qb;exact rvk;simp only[go_sem])
 exact zf
theorem qFn(x:Co)(u:Un)(o:Dc)(s f t:Nat)(h:List AObj)(hz:qdE x)(ho:CoOk x)(hx:zP x o.sig=s)(hs:s<x.sig.length)(hf:u.frm=f)(hu:u.to=t)(ht:t≤x.col.length)(ft:f≤t):ACalls Tryz.prog 131 [.agg (coC x),.agg (unC u),.agg (dcC o)] h (qe4 (spk x s f (t-f))) h:=by
 have c1:=fun h=>quN x.sig.length (fun j=>x.sig.getD j []) o.sig h hz.sg
 have hS:qcM (fun j=>decide (o.sig=x.sig.getD j [])) x.sig.length 0=zP x o.sig:=rfl;simp only[hS,hx]at c1;have c2:=fun h=>qA3 x f t s h
 have hcl:=hz.cl;have c3:=fun h=>qE3 130 [.int .i64 (f:Int)] [.int .i64 (t:Int)] (coC x) [.int .i64 (s:Int)] (spk x s f (t-f)) h (itS x s f t hz ho hs ht ft) (Nat.le_trans (qeN x s f (t-f)) om)
 unfold coC at c2 c3;refine acO qyE ?_;simp (disch:=omega) only[qw6,coC,unC,dcC,strs,hf,hu,go_sem]
 repeat' first
  |((first|refine cA (c1 _) ?_ ?_|refine cA (c2 _) ?_ ?_|refine cA (c3 _) ?_ ?_);exact flk;simp (disch:=omega) only[strs,go_sem])
  |(apply qb;exact rvk;simp only[go_sem];exact qi)
 done
def cjP(L:List Tk)(f:Int):List Pc:=L.map fun t=>⟨t,f⟩
theorem qtP(L:List Tk)(f:Int):(cjP L f).length=L.length:=List.length_map ..
theorem qom{s:Str}{t:Tk}(h:t∈qf2 s):t.name= []∧(t.flags=0∨t.flags=16∨t.flags=8∨t.flags=24):=by
 obtain⟨a,⟨e,g⟩,rfl,_⟩:=qg3 s h;refine⟨by rw[e];rfl,?_⟩;show a.flags=0∨a.flags=16∨a.flags=8∨a.flags=24;rcases g with⟨g|g,_⟩|⟨g|g,_⟩
 ·exact .inl g
 ·exact .inr (.inl g)
 ·exact .inr (.inr (.inl g))
 ·exact .inr (.inr (.inr g))
theorem qFo(x:Co)(u:Un)(o:Dc)(h:List AObj)(hl:o.txt.length≤1000)(hs:o.txt≠ [])(hc:zU o.txt=0)(he:qh6 o.txt=0)(hg:zK h frmN frmC):ACalls Tryz.prog 133 [.agg (coC x),.agg (unC u),.agg (dcC o)] h (qe4 (cjP (qf2 o.txt) u.frm)) h:=by
 have c1:=fun l=>qE1 o.txt (h++l) hl hs hc hg.app
 have hT:qh7 o.txt=qf2 o.txt:=by unfold qh7;rw[ipo he]
 rw[hT]at c1;have hfl:=fun t=> @qom o.txt t
 have hTl:=qeR o.txt;obtain⟨T,hTe⟩: ∃T,T=qf2 o.txt:=⟨_,rfl⟩
 rw[←hTe]at c1 hTl hfl ⊢;have zu: ∀g l,valL g .len [zT l]= .int .i64 l.length:=fun _ _=>rfl
 have zv: ∀g l,okL g .len [zT l]=True:=fun _ _=>eqt trivial
 refine acO qyG ?_;simp (disch:=omega) only[qw8,coC,unC,dcC,go_sem]
 repeat' first
  |(refine cA (c1 _) flk ?_;simp (disch:=omega) only[zu,zv,go_sem])
  |with_reducible apply aiA
 all_goals try exact clz
 refine qu (T:=fun s:Nat×Nat×AObj×AObj=>ze 32 [(4,.op (h.length+1) 1 0),(12,zT T),(13,.int .i64 T.length),(14,.int .i64 s.1),(7,.osl (h.length+4) s.2.1 7 0 s.1)])
  (H:=fun s=>h++ [.mem 1 26 (coC x),.mem 1 64 (unC u),.mem 1 43 (dcC o),.emp 1,zk s.2.1 115 (qbj (cjP (T.take s.1) u.frm)),s.2.2.1,s.2.2.2,.emp 0])
  (inv:=fun s=>s.1≤T.length∧qJ [s.2.2.1] 0=true∧qJ [s.2.2.2] 0=true) (m:=fun s=>T.length-s.1) (0,1,.emp 0,.emp 0) ⟨nzl _,rfl,rfl⟩ (Wk.temps ?_) ?_
 ·(simp only[zT,go_sem,qg,qc,qa,qf];try (repeat' first|(with_reducible apply aiA)|(apply qh;omega)|(apply qe;rfl)|exact qi))
 rintro⟨i,v,O1,O2⟩ ⟨i1,i2,i3⟩ K hK;simp only at i1 i2 i3 hK;have i2': ∀m,qJ (O1::m) 0=true:=fun _=>i2
 have i3': ∀m,qJ (O2::m) 0=true:=fun _=>i3
 have eL:(cjP (T.take i) u.frm).length=i:=by rw[qtP,List.length_take];omega
 by_cases hi:i<T.length
 ·have k2:((i:Int)<T.length)=True:=eqt om;obtain⟨t,ht⟩: ∃t,t=T.getD i default:=⟨_,rfl⟩
  have et:=ht.symm;obtain⟨hn,hf⟩:=hfl t (by rw[ht];exact jr hi);have hS:cjP (T.take (i+1)) u.frm=cjP (T.take i) u.frm++ [⟨t,u.frm⟩]:=by
   unfold cjP;rw[List.take_add_one,zL hi,List.map_append,ht,gdqA,zL hi];rfl
  obtain⟨L,hL⟩: ∃L,L=cjP (T.take i) u.frm:=⟨_,rfl⟩
  rw[←hL]at hS eL ⊢;have eC:=qeA L;have eTk:List.take (i*7) (qbj L)=qbj L:=ltl om;obtain⟨tx,nm,pg,ln,fl,na⟩:=t;simp only at hn hf;subst hn;rcases hf with rfl|rfl|rfl|rfl
  all_goals
   simp (disch:=omega) only[coC,unC,dcC,zT,tkC,k2,et,i2',i3',eC,eL,eTk,go_sem]
   repeat' first
    |with_reducible apply aiA
   all_goals try exact clz
  ·refine hK _ _ (i+1,v+1,.mem (qo (some O1)+1) 103 (tkC ⟨tx,nm,pg,ln,0,[]⟩),.mem (qo (some O2)+1) 115 (pcC ⟨⟨tx,nm,pg,ln,0,[]⟩,u.frm⟩)) ⟨hi,rfl,rfl⟩ (by simp only;omega) ?_;simp only[hS,pcC,tkC,qbF,qbG,lca,lna];refine Wk.temps ?_
   (simp only[zT,tkC,go_sem,qg,qc,qa,qf];try (repeat' first|(with_reducible apply aiA)|(apply qh;omega)|(apply qe;rfl)|exact qi))
  ·refine hK _ _ (i+1,v+1,.mem (qo (some O1)+1) 103 (tkC ⟨tx,nm,pg,ln,16,[]⟩),.mem (qo (some O2)+1) 115 (pcC ⟨⟨tx,nm,pg,ln,16,[]⟩,u.frm⟩)) ⟨hi,rfl,rfl⟩ (by simp only;omega) ?_;simp only[hS,pcC,tkC,qbF,qbG,lca,lna];refine Wk.temps ?_
   (simp only[zT,tkC,go_sem,qg,qc,qa,qf];try (repeat' first|(with_reducible apply aiA)|(apply qh;omega)|(apply qe;rfl)|exact qi))
  ·refine hK _ _ (i+1,v+1,.mem (qo (some O1)+1) 103 (tkC ⟨tx,nm,pg,ln,8,[]⟩),.mem (qo (some O2)+1) 115 (pcC ⟨⟨tx,nm,pg,ln,8,[]⟩,u.frm⟩)) ⟨hi,rfl,rfl⟩ (by simp only;omega) ?_;simp only[hS,pcC,tkC,qbF,qbG,lca,lna];refine Wk.temps ?_
   (simp only[zT,tkC,go_sem,qg,qc,qa,qf];try (repeat' first|(with_reducible apply aiA)|(apply qh;omega)|(apply qe;rfl)|exact qi))
  ·refine hK _ _ (i+1,v+1,.mem (qo (some O1)+1) 103 (tkC ⟨tx,nm,pg,ln,24,[]⟩),.mem (qo (some O2)+1) 115 (pcC ⟨⟨tx,nm,pg,ln,24,[]⟩,u.frm⟩)) ⟨hi,rfl,rfl⟩ (by simp only;omega) ?_;simp only[hS,pcC,tkC,qbF,qbG,lca,lna];refine Wk.temps ?_
   (simp only[zT,tkC,go_sem,qg,qc,qa,qf];try (repeat' first|(with_reducible apply aiA)|(apply qh;omega)|(apply qe;rfl)|exact qi))
 have k2:((i:Int)<T.length)=False:=eqf om;obtain rfl:i=T.length:=by omega
 simp (disch:=omega) only[k2,go_sem]
 repeat' first
  |(apply qb;exact rvk;simp only[go_sem])
 rw[List.take_length]at eL ⊢;exact qhX eL.symm
end RC
end
section
open Go Go.Proofs AF
def quD:List Nat:= [79]
def qwy:C:=
 ((C.ops [O1 4 (.box 0 115) 0]).seq ((C.ops [O1 9 (.fldA 0) 4,O1 10 (.fldA 0) 9,LD 11 10,O1 12 (.fldA 6) 4,LD 13 12,MV 14 1,MV 15 2,O1 16 (.fldA 0) 4,O1 17 (.fldA 4) 16,LD
 18 17,BC 19 .and 18 (i6 4),BC 20 .neq 19 (i6 0),O1 21 (.fldA 0) 4,O1 22 (.fldA 5) 21,LD 23 22,⟨some 24,none,.build [.str [],i6 0,i6 0,i6 0,.bool false,.bool false,
 .str []] [(0,1),(1,1),(2,1),(3,1),(5,1),(6,1)],[.t 11,.t 13,.t 14,.t 15,.t 20,.t 23]⟩,⟨some 7,none,.alloc 1 36 [.str [],i6 0,i6 0,i6 0,.bool false,.bool
 false,.str []],[]⟩,ST 7 7 24]).seq ((C.ops [LD 25 3,O1 26 .len 25,MV 8 26]).seq ((C.ops [O1 27 (.fldA 0) 4,O1 28 (.fldA 4) 27,LD 29 28,BC 30 .and 29 (i6 16),BC 31 .neq 30
 (i6 0),MV 32 31,MG 33 32 true 8,PC 34 32 true (.bin .gtr) 33 (i6 0),PF 35 32 34,MV 36 35,P1 37 36 true (.load none) 3,MG 38 36 true 8,PC 39 36 true (.bin .sub) 38 (i6 1),
 P2 40 36 true (.idxA 7) 37 39,P1 41 36 true (.fldA 0) 40,P1 42 36 true (.load none) 41,P1 43 36 true (.fldA 0) 7,P1 44 36 true (.load none) 43,P2 45 36 true (.call 80 true) 42
 44,PF 46 36 45,O1 47 (.fldA 4) 7,ST 1 47 46]).seq (C.ops [LD 48 3,O1 49 (.load (some 7)) 7,⟨some 50,none,.bslc 2 7 1 36 [.str [],i6 0,i6 0,i6 0,.bool false,.bool false,
 .str []] [(0,7)],[.t 49]⟩,O2 51 (.app 3 7 36 64) 48 50,ST 1 3
 51])))))
theorem ql6:qM Tryz.prog 79 52 4 [] qwy:=fi Tryz.f79 [4,7,50,51] quD []
end
section
open Go Go.Proofs AF HY LN
namespace RC
theorem qB7: ∀f:Nat,f<32→qoY .i64 (f:Int) 4=if f.testBit 2 then 4 else 0:=by decide+kernel
theorem qwP: ∀f:Nat,f<32→qoY .i64 (f:Int) 16=if f.testBit 4 then 16 else 0:=by decide+kernel
def quW(W:List Wd):Option Str:=if W.length=0 then none else some (W.getD (W.length-1) default).text
section
variable {h : List AObj} {a b c va : Nat}
def qvg(h:List AObj)(a b c:Nat)(va vb:Nat)(W:List Wd)(Z:AObj):List AObj:=tri h a b c (.mem va 29 [.osl b vb 7 0 W.length]) (zk vb 36 (jl W)) Z
theorem qER(t:T3 h a b c)(W:List Wd)(p:Pc)(u d:Int)(vb F:Nat)(Z:AObj)(hZ: ∀n,lowO n Z)(hF:p.t.flags=F)(hF2:F<32)(hx:p.t.text.length≤1000000000)(hW:W.length≤1000000000)(hWx: ∀w∈W,w.text.length≤1000000000):ACalls Tryz.prog 79 [.agg (pcC p),.int .i64 u,.int .i64 d,.op a va 0] (qvg h a b c va vb W Z) (.tup []) (qvg h a b c va (vb+1) (W++ [mkW (quW W) ⟨p,u,d⟩]) Z):=by
 have ta:=t.la;have tb:=t.lb;have tc:=t.lc;have zga: ∀ {X Y Z l},qr (a) (tri h a b c X Y Z++l)=some X:=qaw (t);have yga: ∀ {X Y Z},qr (a) (tri h a b c X Y Z)=some X:=fun {X Y Z}=>by have:=zga (X:=X) (Y:=Y) (Z:=Z) (l:= []);simpa only[lan] using this
 have zgb: ∀ {X Y Z l},qr (b) (tri h a b c X Y Z++l)=some Y:=qaP (t);have ygb: ∀ {X Y Z},qr (b) (tri h a b c X Y Z)=some Y:=fun {X Y Z}=>by have:=zgb (X:=X) (Y:=Y) (Z:=Z) (l:= []);simpa only[lan] using this
 have zgc: ∀ {X Y Z l},qr (c) (tri h a b c X Y Z++l)=some Z:=qax (t);have ygc: ∀ {X Y Z},qr (c) (tri h a b c X Y Z)=some Z:=fun {X Y Z}=>by have:=zgc (X:=X) (Y:=Y) (Z:=Z) (l:= []);simpa only[lan] using this
 have zsa: ∀ {X Y Z o l},qn (a) (tri h a b c X Y Z++l) o=tri h a b c o Y Z++l:=qaQ (t);have ysa: ∀ {X Y Z o},qn (a) (tri h a b c X Y Z) o=tri h a b c o Y Z:=fun {X Y Z o}=>by have:=zsa (X:=X) (Y:=Y) (Z:=Z) (o:=o) (l:= []);simpa only[lan] using this
 have zsb: ∀ {X Y Z o l},qn (b) (tri h a b c X Y Z++l) o=tri h a b c X o Z++l:=qa2 (t);have ysb: ∀ {X Y Z o},qn (b) (tri h a b c X Y Z) o=tri h a b c X o Z:=fun {X Y Z o}=>by have:=zsb (X:=X) (Y:=Y) (Z:=Z) (o:=o) (l:= []);simpa only[lan] using this
 have zsc: ∀ {X Y Z o l},qn (c) (tri h a b c X Y Z++l) o=tri h a b c X Y o++l:=qa3 (t);have ysc: ∀ {X Y Z o},qn (c) (tri h a b c X Y Z) o=tri h a b c X Y o:=fun {X Y Z o}=>by have:=zsc (X:=X) (Y:=Y) (Z:=Z) (o:=o) (l:= []);simpa only[lan] using this
 have zca: ∀ {X Y Z v l},cellsOf (tri h a b c X Y Z++l) (a) v=qv (some X) v:=qbN (t);have yca: ∀ {X Y Z v},cellsOf (tri h a b c X Y Z) (a) v=qv (some X) v:=fun {X Y Z v}=>by have:=zca (X:=X) (Y:=Y) (Z:=Z) (v:=v) (l:= []);simpa only[lan] using this
 have zcb: ∀ {X Y Z v l},cellsOf (tri h a b c X Y Z++l) (b) v=qv (some Y) v:=qbO (t);have ycb: ∀ {X Y Z v},cellsOf (tri h a b c X Y Z) (b) v=qv (some Y) v:=fun {X Y Z v}=>by have:=zcb (X:=X) (Y:=Y) (Z:=Z) (v:=v) (l:= []);simpa only[lan] using this
 have zcc: ∀ {X Y Z v l},cellsOf (tri h a b c X Y Z++l) (c) v=qv (some Z) v:=qbP (t);have ycc: ∀ {X Y Z v},cellsOf (tri h a b c X Y Z) (c) v=qv (some Z) v:=fun {X Y Z v}=>by have:=zcc (X:=X) (Y:=Y) (Z:=Z) (v:=v) (l:= []);simpa only[lan] using this
 have zla: ∀ {X Y Z v l},qF (tri h a b c X Y Z++l) (a) v=qG (some X) v:=qbQ (t);have yla: ∀ {X Y Z v},qF (tri h a b c X Y Z) (a) v=qG (some X) v:=fun {X Y Z v}=>by have:=zla (X:=X) (Y:=Y) (Z:=Z) (v:=v) (l:= []);simpa only[lan] using this
 have zlb: ∀ {X Y Z v l},qF (tri h a b c X Y Z++l) (b) v=qG (some Y) v:=qbR (t);have ylb: ∀ {X Y Z v},qF (tri h a b c X Y Z) (b) v=qG (some Y) v:=fun {X Y Z v}=>by have:=zlb (X:=X) (Y:=Y) (Z:=Z) (v:=v) (l:= []);simpa only[lan] using this
 have zlc: ∀ {X Y Z v l},qF (tri h a b c X Y Z++l) (c) v=qG (some Z) v:=qbS (t);have ylc: ∀ {X Y Z v},qF (tri h a b c X Y Z) (c) v=qG (some Z) v:=fun {X Y Z v}=>by have:=zlc (X:=X) (Y:=Y) (Z:=Z) (v:=v) (l:= []);simpa only[lan] using this
 have e4:=qB7 F hF2;have e16:=qwP F hF2;have hL:=qe1 W;have ev:qDR p.t.flags=F.testBit 2:=by unfold qDR;rw[hF,itn]
 have ej:jnB p.t.flags=F.testBit 4:=by unfold jnB;rw[hF,itn]
 unfold mkW;simp only[ev,ej];unfold qvg;have eTk:List.take (W.length*7) (jl W)=jl W:=ltl om;have lo: ∀(n:Nat),lowO h.length (.mem va 29 [.osl b (vb+1) 7 0 n]):=fun n cc hc=>by
  rw[List.mem_singleton]at hc;subst hc;simp[qV];omega
 have lq: ∀L:List Wd,lowO h.length (zk (vb+1) 36 (jl L)):=fun L=>jt (qcW L _)
 have fin: ∀(w:Wd) (tt:List AV) (tl:List AObj),fnQ [] (tri h a b c (.mem va 29 [.osl b vb 7 0 W.length]) (zk vb 36 (jl W)) Z) (fun r1 h1=>r1= .tup []∧h1=tri h a b c (.mem va 29 [.osl b (vb+1) 7 0 (W++ [w]).length]) (zk (vb+1) 36 (jl (W++ [w]))) Z) .normal tt (tri h a b c (.mem va 29 [.osl b (vb+1) 7 0 (W.length+1)]) (zk (vb+1) 36 (jl W++wdC w)) Z++tl):=fun w tt tl=>by
  have eA:jl W++wdC w=jl (W++ [w]):=by rw[qie,qig]
  rw[eA,show (W++ [w]).length=W.length+1 by simp];exact zO trivial (by simp only[tri_len]) (jM t (lo _) (lq _) (hZ _)) ⟨rfl,rfl⟩ (qi)
 have k4:((4:Int)=0)=False:=eqf (by decide);have k16:((16:Int)=0)=False:=eqf (by decide);have hb1: ∀n,(b !=h.length+n)=true:=fun n=>by simp;omega
 by_cases hW0:W= []
 ·have k0:((0:Int)<W.length)=False:=eqf (by rw[hW0];simp);have eG:(qv (some (zk vb 36 (jl W))) vb).getD []=jl W:=by rw[hW0];rfl
  have el:quW W=none:=by unfold quW;rw[ipo (by rw[hW0];rfl)]
  rw[el];cases g2:F.testBit 2<;>cases g4:F.testBit 4<;>rw[g2]at e4<;>rw[g4]at e16<;>simp only[Bool.false_eq_true,if_false,if_true]at e4 e16
  all_goals
   refine acO ql6 ?_;simp (disch:=omega) only[qwy,pcC,tkC,hF,e4,e16,zca,zcb,zlb,qZ,ql,eG,hL,k0,k4,k16,decide_true,decide_false,Bool.not_false,Bool.not_true,Bool.and_false,go_sem]
   repeat' first
    |(refine qj ( .bool false) ?_;simp (disch:=omega) only[zga,zgb,zsa,zsb,zca,zcb,zlb,qZ,ql,eG,eTk,hL,Bool.not_false,Bool.and_false,go_sem])
    |with_reducible apply aiA
   all_goals try exact clz
  all_goals try exact hb1 _
  all_goals exact fin ⟨_,_,_,_,_,_,_⟩ _ _
 ·have hpos:0<W.length:=List.length_pos_iff.2 hW0;have k0:((0:Int)<W.length)=True:=eqt om;obtain⟨z,hz⟩: ∃z,z=W.getD (W.length-1) default:=⟨_,rfl⟩
  have el:quW W=some z.text:=by unfold quW;rw[ine om,hz]
  rw[el];have hzx:=hWx z (by rw[hz];exact jr om);have gI:(jl W)[(W.length-1)*7]? =some (.str z.text):=by
   have:=qif (L:=W) (i:=W.length-1) om
   rw[←hz]at this;have h2:(((jl W).drop ((W.length-1)*7)).take 7)[0]? =some (.str z.text):=by rw[this];rfl
   rwa [List.getElem?_take,ipo om,List.getElem?_drop,Nat.add_zero]at h2
  have eI:((W.length:Int)-1).toNat=W.length-1:=by omega
  have eO:qv (some (zk vb 36 (jl W))) vb=some (jl W):=by
   rw[qas (fun e=>by rw[e]at hL;simp at hL;omega),ql,ipo rfl]
  have c1:=fun h=>qFm z.text p.t.text h hzx hx
  cases g2:F.testBit 2<;>cases g4:F.testBit 4<;>rw[g2]at e4<;>rw[g4]at e16<;>simp only[Bool.false_eq_true,if_false,if_true]at e4 e16
  case false.false=>
   refine acO ql6 ?_;simp (disch:=omega) only[qwy,pcC,tkC,hF,e4,e16,zca,zcb,zlb,qZ,ql,eO,hL,k0,decide_true,Bool.not_false,Bool.not_true,Bool.and_true,Bool.false_and,Bool.true_and,eI,gI,go_sem]
   repeat' first
    |(refine qj ( .bool false) ?_;simp (disch:=omega) only[zga,zgb,zsa,zsb,zca,zcb,zlb,qZ,ql,eO,eTk,hL,Bool.not_false,Bool.false_and,Bool.true_and,go_sem])
    |with_reducible apply aiA
   all_goals try exact clz
   all_goals try exact hb1 _
   exact fin ⟨_,_,_,_,_,_,_⟩ _ _
  case false.true=>
   refine acO ql6 ?_;simp (disch:=omega) only[qwy,pcC,tkC,hF,e4,e16,zca,zcb,zlb,qZ,ql,eO,hL,k0,k16,decide_true,decide_false,Bool.not_false,Bool.not_true,Bool.and_true,Bool.false_and,Bool.true_and,eI,gI,go_sem]
   repeat' first
    |(refine cG (fun e=>c1 _) flk ?_;simp (disch:=omega) only[zga,zgb,zsa,zsb,zca,zcb,zlb,qZ,ql,eO,eTk,hL,Bool.not_true,Bool.false_and,Bool.true_and,go_sem])
    |with_reducible apply aiA
   all_goals try exact clz
   all_goals try exact hb1 _
   exact fin ⟨_,_,_,_,_,_,_⟩ _ _
  case true.false=>
   refine acO ql6 ?_;simp (disch:=omega) only[qwy,pcC,tkC,hF,e4,e16,zca,zcb,zlb,qZ,ql,eO,hL,k0,k4,decide_true,decide_false,Bool.not_false,Bool.not_true,Bool.and_true,Bool.false_and,Bool.true_and,eI,gI,go_sem]
   repeat' first
    |(refine qj ( .bool false) ?_;simp (disch:=omega) only[zga,zgb,zsa,zsb,zca,zcb,zlb,qZ,ql,eO,eTk,hL,Bool.not_false,Bool.false_and,Bool.true_and,go_sem])
    |with_reducible apply aiA
   all_goals try exact clz
   all_goals try exact hb1 _
   exact fin ⟨_,_,_,_,_,_,_⟩ _ _
  case true.true=>
   refine acO ql6 ?_;simp (disch:=omega) only[qwy,pcC,tkC,hF,e4,e16,zca,zcb,zlb,qZ,ql,eO,hL,k0,k4,k16,decide_true,decide_false,Bool.not_false,Bool.not_true,Bool.and_true,Bool.false_and,Bool.true_and,eI,gI,go_sem]
   repeat' first
    |(refine cG (fun e=>c1 _) flk ?_;simp (disch:=omega) only[zga,zgb,zsa,zsb,zca,zcb,zlb,qZ,ql,eO,eTk,hL,Bool.not_true,Bool.false_and,Bool.true_and,go_sem])
    |with_reducible apply aiA
   all_goals try exact clz
   all_goals try exact hb1 _
   exact fin ⟨_,_,_,_,_,_,_⟩ _ _
end
structure qd8 (x:Co) (l:List Un) (d:List Dc) (s:Nat):Prop where
 ca:coE x=0
 us:qd6 x l=true
 cv:cvA x l=true
 sl:s<x.sig.length
 dl:d.length≤256
 pl: ∀j,j<d.length→qay x l (d.getD j default)=0
 ln:(rwA x l d s).length≤1024
theorem qf5{x:Co}{l:List Un}(h:vaE x l=0):coE x=0∧qd6 x l=true∧cvA x l=true:=by
 unfold vaE at h;split at h
 ·cases h
 rename_i h1;split at h
 ·cases h
 rename_i h2;have h2:rgB x l=true:=by simpa using h2
 unfold rgB at h2;rw[Bool.and_eq_true]at h2;exact⟨Classical.not_not.1 h1,h2.1,h2.2⟩
theorem qvp{x:Co}{l:List Un}{d:List Dc}(h:qbH x l d=0):d.length≤256∧ ∀j,j<d.length→qay x l (d.getD j default)=0:=by
 unfold qbH at h;split at h
 ·cases h
 exact⟨om,jD.1 h⟩
theorem qfq{x:Co}{l:List Un}{d:List Dc}{s:Int}(h:esE x l d s=0):0≤s∧qd8 x l d s.toNat:=by
 unfold esE at h;split at h
 ·rename_i h1;exact absurd h h1
 rename_i h1;split at h
 ·cases h
 rename_i h2;split at h
 ·rename_i h3;exact absurd h h3
 rename_i h3;split at h
 ·cases h
 rename_i h4;obtain⟨a1,a2,a3⟩:=qf5 (Classical.not_not.1 h1);obtain⟨b1,b2⟩:=qvp (Classical.not_not.1 h3);exact⟨om,a1,a2,a3,om,b1,b2,om⟩
theorem qd8.co{x:Co}{l:List Un}{d:List Dc}{s:Nat}(h:qd8 x l d s):CoOk x:=qci h.ca
theorem qsP{x:Co}(h:CoOk x){s k:Nat}(hs:s<x.sig.length)(hk:k<x.col.length)(hb:pcB x s k=true):tkE (pcT x s k).t=0∧((x.col.getD k []).getD s 0).toNat<(x.tok.getD s []).length:=by
 unfold pcB at hb;have hb:=of_decide_eq_true hb;rcases h.ce k hk s hs with e|⟨e1,e2⟩
 ·omega
 ·exact⟨h.te s (by rw[h.tn];exact hs) _ om,om⟩
theorem qoj{t:Tk}(h:tkE t=0):t.text≠ []∧t.text.length≤64:=by
 have h1:=qA6 h;unfold txB at h1;split at h1
 ·rw[Bool.and_eq_true]at h1;have h2:=h1.1;unfold qfu at h2;rw[List.any_eq_true]at h2;obtain⟨k,hk,e⟩:=h2;rw[of_decide_eq_true e];refine⟨List.cons_ne_nil _ _,?_⟩;have h3:((List.range 64).all fun k=>decide ((91::(Lib.itoa ((k+1:Nat):Int)++ [93]):Str).length≤64))=true:=by decide+kernel
  exact of_decide_eq_true (List.all_eq_true.1 h3 k hk)
 ·split at h1
  ·rw[Bool.and_eq_true]at h1;have h2:=h1.1;unfold qwz at h2;rw[Bool.and_eq_true,decide_eq_true_iff]at h2;refine⟨fun e=> ?_,om⟩;rw[e]at h2;cases h2.1
  ·rw[Bool.and_eq_true]at h1;have h2:=h1.1;rw[qbw]at h2;simp only[Bool.and_eq_true,decide_eq_true_eq]at h2;refine⟨fun e=> ?_,om⟩;rw[e]at h2;simp at h2
structure RwP (x:Co) (l:List Un) (d:List Dc) (s k:Nat) (r:Rw):Prop where
 u:r.u=k
 f:(frN l k:Int)≤r.p.c
 t:r.p.c<toN l k
 dr: -1≤r.d∧r.d<d.length
 tx:r.p.t.text≠ []∧r.p.t.text.length≤64
theorem quO{x:Co}{l:List Un}{d:List Dc}{s:Nat}(h:qd8 x l d s){k:Nat}(hl: ¬qba x l d k d.length<0):
  (qba x l d k d.length).toNat<d.length∧qay x l (d.getD (qba x l d k d.length).toNat default)=0∧km x l (d.getD (qba x l d k d.length).toNat default)=k:=by
 have h1:=qbz x l d k d.length;refine⟨om,h.pl _ om,qmw (n:=d.length) om⟩
theorem qn2{x:Co}(h:CoOk x){s f d:Nat}(hs:s<x.sig.length)(hd:f+d≤x.col.length){p:Pc}(hp:p∈spk x s f d):(f:Int)≤p.c∧p.c<((f+d:Nat):Int)∧p.t.text≠ []∧p.t.text.length≤64:=by
 obtain⟨k,h1,h2,h3,rfl⟩:=qmA.1 hp;obtain⟨a1,_⟩:=qsP h hs (show k<x.col.length by omega) h3;obtain⟨b1,b2⟩:=qoj a1;exact⟨by show (f:Int)≤((k:Nat):Int);omega,by show ((k:Nat):Int)<_;omega,b1,b2⟩
theorem qvn{x:Co}{l:List Un}{d:List Dc}{s:Nat}(h:qd8 x l d s){k:Nat}(hk:k<l.length){o:Dc}(ho:qay x l o=0){p:Pc}(hp:p∈qo2 x l k o):(frN l k:Int)≤p.c∧p.c<toN l k∧p.t.text≠ []∧p.t.text.length≤64:=by
 obtain⟨a1,a2,a3,a4,_⟩:=qbT h.us hk;obtain⟨b1,b2,b3,b4,b5,b6⟩:=qbb ho;obtain⟨c1,c2,_⟩:=qh3 b4;unfold qo2 at hp;split at hp
 ·obtain⟨e1,e2,e3⟩:=qn2 h.co c2 (show frN l k+(toN l k-frN l k)≤x.col.length by omega) hp;exact⟨e1,om,e3⟩
 ·split at hp
  ·rename_i g2;obtain⟨t,ht,rfl⟩:=List.mem_map.1 hp;obtain⟨u,hu,rfl,hu0⟩:=qg3 o.txt ht;obtain⟨_,e2,_⟩:=qlq b6 g2;have e3:=qv2.1 e2 u hu0;refine⟨?_,?_,hu.ne,e3⟩
   ·show (frN l k:Int)≤(l.getD k default).frm;omega
   ·show (l.getD k default).frm<toN l k;omega
  ·cases hp
theorem qnJ{x:Co}{l:List Un}{d:List Dc}{s:Nat}(h:qd8 x l d s){k:Nat}(hk:k<l.length){r:Rw}(hr:r∈rwU x l d s k):RwP x l d s k r:=by
 obtain⟨a1,a2,a3,a4,_⟩:=qbT h.us hk;have hg:=qbz x l d k d.length;unfold rwU at hr;split at hr
 ·obtain⟨g1,g2,g3⟩:=jS.1 hr;obtain⟨e1,e2,e3⟩:=qn2 h.co h.sl (show frN l k+(toN l k-frN l k)≤x.col.length by omega) g1;exact⟨g2,e1,om,om,e3⟩
 ·rename_i hl;obtain⟨g1,g2,g3⟩:=jS.1 hr;obtain⟨c1,c2,_⟩:=quO h hl;obtain⟨e1,e2,e3⟩:=qvn h hk c2 g1;exact⟨g2,e1,e2,om,e3⟩
theorem qsU{x:Co}{l:List Un}{d:List Dc}{s:Nat}(h:qd8 x l d s){f t:Nat}(ht:t≤x.col.length){r:Rw}(hr:r∈rwC x s f t):r.u= -1∧r.d= -1∧(f:Int)≤r.p.c∧r.p.c<t∧r.p.t.text≠ []∧r.p.t.text.length≤64:=by
 unfold rwC at hr;obtain⟨g1,g2,g3⟩:=jS.1 hr
 by_cases hft:f≤t
 ·obtain⟨e1,e2,e3⟩:=qn2 h.co h.sl (show f+(t-f)≤x.col.length by omega) g1;exact⟨g2,g3,e1,om,e3⟩
 ·rw[show t-f=0 by omega]at g1;cases g1
def PcF(p:Pc):Prop:=(∃F:Nat,p.t.flags=F∧F<32)∧p.t.text.length≤64
theorem qvk{p:Pc}(h:tkE p.t=0):PcF p:=by
 refine⟨?_,(qoj h).2⟩;unfold tkE at h;split at h
 ·cases h
 ·rename_i g;exact⟨p.t.flags.toNat,om,om⟩
theorem qaJ{x:Co}(ho:CoOk x){s f d:Nat}(hs:s<x.sig.length)(hd:f+d≤x.col.length): ∀p∈spk x s f d,PcF p:=by
 intro p hp;obtain⟨k,k1,k2,k3,rfl⟩:=qmA.1 hp;exact qvk (qsP ho hs om k3).1
theorem qsO{s:Str}{f:Int}(h:qh6 s=0): ∀p∈cjP (qf2 s) f,PcF p:=by
 intro p hp;unfold cjP at hp;obtain⟨t,ht,rfl⟩:=List.mem_map.1 hp;obtain⟨_,g⟩:=qom ht;refine⟨?_,?_⟩
 ·rcases g with g|g|g|g
  ·exact⟨0,g,om⟩
  ·exact⟨16,g,om⟩
  ·exact⟨8,g,om⟩
  ·exact⟨24,g,om⟩
 ·unfold qh6 at h;split at h
  ·cases h
  ·rename_i g2;have g3:=qb4.1 (Bool.eq_false_iff.2 g2);obtain⟨u,_,e,hu⟩:=qg3 s ht
   have:=g3 u hu
   rw[e];exact this
theorem qpl{L:List Rw}{n:Nat}(h: ∀r∈L,r.p.t.text.length≤n): ∀w∈bsW L,w.text.length≤n:=by
 intro w hw;unfold bsW at hw;obtain⟨i,hi,rfl⟩:=List.mem_map.1 hw;rw[List.mem_range]at hi;exact h _ (jr hi)
theorem qwM{hh:List AObj}{a b c va vb:Nat}{Z:AObj}(t:T3 hh a b c)(L:List Rw)(p:Pc)(u d:Int)(hX:qr a hh=some (.mem va 29 [.osl b vb 7 0 L.length]))(hY:qr b hh=some (zk vb 36 (jl (bsW L))))(hZg:qr c hh=some Z)(hZ: ∀n,lowO n Z)(hp:PcF p)(hL:L.length≤1000000000)(hLx: ∀r∈L,PcF r.p):
  ACalls Tryz.prog 79 [.agg (pcC p),.int .i64 u,.int .i64 d,.op a va 0] hh (.tup []) (qn b (qn a hh (.mem va 29 [.osl b (vb+1) 7 0 (L.length+1)])) (zk (vb+1) 36 (jl (bsW (L++ [⟨p,u,d⟩]))))):=by
 obtain⟨⟨F,f1,f2⟩,f3⟩:=hp;have h1:=qER (va:=va) t (bsW L) p u d vb F Z hZ f1 f2 om (by rw[j9];exact hL) (fun w hw=>Nat.le_trans (qpl (n:=64) (fun r hr=>(hLx r hr).2) w hw) om);have e1:qvg hh a b c va vb (bsW L) Z=hh:=by
  unfold qvg;rw[j9];exact qsZ hX hY hZg
 have e2:quW (bsW L)=qhK (L++ [⟨p,u,d⟩]) L.length:=by
  rw[qnh];unfold quW;rw[j9]
 rw[e1,e2,←qpk]at h1;have e3:qvg hh a b c va (vb+1) (bsW (L++ [⟨p,u,d⟩])) Z=qn b (qn a hh (.mem va 29 [.osl b (vb+1) 7 0 (L.length+1)])) (zk (vb+1) 36 (jl (bsW (L++ [⟨p,u,d⟩])))):=by
  unfold qvg tri;rw[j9,lap,lco,lnl];refine jK ?_;rw[qS (fun e=>t.bc e.symm),qS (fun e=>t.ac e.symm)];exact hZg
 rw[e3]at h1;exact h1
end RC
end
section
open Go Go.Proofs AF
end
section
open Go Go.Proofs AF HY LN
namespace RC
end RC
end
section
open Go Go.Proofs AF
end
section
open Go Go.Proofs AF
end
section
open Go Go.Proofs AF HY LN
namespace RC
end RC
end
