import Derived.Test.YtmieflnoheifbaaGreatDoorK15
import Derived.Test.YtmieflnoheifbaaGreatDoorK3
import Derived.Test.YtmieflnoheifbaaGreatDoorK5
import Derived.Test.YtmieflnoheifbaaGreatDoorK8
import Derived.Test.YtmieflnoheifbaaGreatDoorProg
import Derived.Test.YtmieflnoheifbaaGreatDoorK9
import Derived.Test.YtmieflnoheifbaaGreatDoorK11
import Derived.Test.YtmieflnoheifbaaGreatDoorK13
import Derived.Test.YtmieflnoheifbaaGreatDoorK12
import Derived.Test.YtmieflnoheifbaaGreatDoorK10
set_option linter.all false
set_option maxHeartbeats 128000000
set_option maxRecDepth 100000
section
open Go Go.Proofs AF HY LN
namespace RC
def ml(s:Str):List Tk:=if mj s=0 then dy s else []
theorem PI(s:Str)(h:JN)(hl:s.length<=1000)(hs:s≠ [])(hc:zS s=0)(hg:jb h frmN frmC):ACalls Tryz.prog 224 [.agg [.str [],.int .i64 0],jZ s,.nl] h (.tup [zR (ml s),.int .i64 (mj s)]) h:=by
 have c1:=λl=>NR s (h++l) oma oma hs hc hg.app
 have c2:=λh=>RN h
 have c3:=λh=>O0 [] h (by simp)
 rw[show t7 []=true from rfl]at c3;have c4:=λl=>Rx s 8 (h++l) oma oma (λl'=>NR s (h++l++l') oma oma hs hc hg.app.app)
 have c9:=λl=>Rx s 9 (h++l) oma oma (λl'=>NR s (h++l++l') oma oma hs hc hg.app.app)
 have c5:=λh=>Su s h
 unfold jZ at c1 c4 c5 c9;refine acO GT ?_;simp (disch:=omega) only[EC,jZ,go_sem]
 repeat' first|((first|refine cA (c1 _) ?_ ?_|refine cG (λe=>c2 _) ?_ ?_|refine cA (c3 _) ?_ ?_|refine cA (c4 _) ?_ ?_|refine cA (c9 _) ?_ ?_);exact flk;simp (disch:=omega) only[go_sem])|(apply qa;exact rvk;simp only[go_sem])|(with_reducible first|intro _|apply aiA)|exact clz|fail
 refine⟨_,_,(Wk.ownNil (j:=h.length+2) (i:=0) (k:=h.length+4) (v:=1) (ty:=343) (cs:= [.nl,.nilp,.nl,.bool false,.bool false,.bool false]) (ve:=0) (sz:=6) ?m1 rfl ?m2).trans
  (Wk.ownNil (j:=h.length+2) (i:=2) (k:=h.length+5) (v:=1) (ty:=343) (cs:= [.osl (h.length+4) 0 6 0 0,.nilp,.nl,.bool false,.bool false,.bool false]) (ve:=0) (sz:=1) ?m3 rfl ?m4),?_⟩
 case m1=>simp only[go_sem]
 case m2=>simp only[go_sem]
 case m3=>
  simp only[List.set_cons_zero,go_sem]
 case m4=>simp only[List.set_cons_zero,go_sem]
 simp (disch:=omega) only[List.set_cons_zero,List.set_cons_succ,go_sem]
 repeat' first|(refine cA (c5 _) flk ?_;simp (disch:=omega) only[go_sem])
 obtain⟨base,hbase⟩: ∃base:AObj->JN,base=λO=>h++ [.mem 1 117 [.str [],.int .i64 0],.emp 1,.mem 1 343 [.osl (h.length+4) 0 6 0 0,.nilp,.osl (h.length+5) 0 1 0 0,.bool false,.bool false,.bool false],O,.emp 0,.emp 0]:=⟨_,rfl⟩
 have hbl: ∀O,(base O).length=h.length+6:=λO=>by rw[hbase];simp
 have hT: ∀O,T3 (base O) (h.length+2) (h.length+4) (h.length+5):=λO=>⟨by rw[hbl];omega,by rw[hbl];omega,by rw[hbl];omega,oma,oma,oma⟩
 have f1: ∀ {O X Y Z l},qu (h.length+3) (tri (base O) (h.length+2) (h.length+4) (h.length+5) X Y Z++l)=some O:=λ{O X Y Z l}=>by
  rw[LA (by rw[hbl];omega) oma oma oma,hbase];simp only[go_sem]
 have f2: ∀ {O O' X Y Z l},qt (h.length+3) (tri (base O) (h.length+2) (h.length+4) (h.length+5) X Y Z++l) O'=tri (base O') (h.length+2) (h.length+4) (h.length+5) X Y Z++l:=λ{O O' X Y Z l}=>by
  rw[LC (by rw[hbl];omega) oma oma oma,hbase];simp only[go_sem]
 have f4: ∀ {v w ty cs X Y Z l},cellsOf (tri (base (.mem v ty cs)) (h.length+2) (h.length+4) (h.length+5) X Y Z++l) (h.length+3) w=if v=w then some cs else none:=λ{v w ty cs X Y Z l}=>by rw[zP,f1];rfl
 have eT: ∀ {O X Y Z},tri (base O) (h.length+2) (h.length+4) (h.length+5) X Y Z=h++ [.mem 1 117 [.str [],.int .i64 0],.emp 1,X,O,Y,Z]:=λ{O X Y Z}=>by
  rw[hbase];unfold tri;simp only[go_sem]
 have hst:base (.emp 0)=brO (base (.emp 0)) (h.length+2) (h.length+4) (h.length+5) 1 (brI 0 0 (s.take 0)):=by
  refine (XO ?_ ?_ ?_).symm
  ·rw[hbase];simp only[go_sem];rfl
  ·rw[hbase];simp only[go_sem];rfl
  ·rw[hbase];simp only[go_sem];rfl
 have hLow: ∀(q:Br) O,(∀n,lowO n O)->LowI (base (.emp 0)) (brO (base O) (h.length+2) (h.length+4) (h.length+5) 1 q):=λq O lO=>by
  refine⟨by rw[bM,hbl,hbl],λo ho=> ?_⟩;rcases Cf ho with h1|rfl|rfl|rfl
  ·rw[hbase]at h1 ⊢;rcases List.mem_append.1 h1 with h1|h1
   ·exact .inl (List.mem_append_left _ h1)
   ·simp only[List.mem_cons,List.not_mem_nil,or_false]at h1;rcases h1 with rfl|rfl|rfl|rfl|rfl|rfl
    ·left;simp
    ·left;simp
    ·left;simp
    ·right;exact⟨lO _,lO _⟩
    ·left;simp
    ·left;simp
  ·right
   have:=jJ (hT O) 1 q
   rw[hbl]at this ⊢;exact⟨this,lowO_mono oma this⟩
  ·right;exact⟨vt _ _,vt _ _⟩
  ·right;exact⟨jc _ _ _,jc _ _ _⟩
 have e0:h++ [.mem 1 117 [.str [],.int .i64 0],.emp 1,.mem 1 343 [.osl (h.length+4) 0 6 0 0,.nilp,.osl (h.length+5) 0 1 0 0,.bool false,.bool false,.bool false],.emp 0,.emp 0,.emp 0]=base (.emp 0):=by rw[hbase]
 rw[e0];refine zn (xs:=atX s) (itA s oma) (λa ha=> ?_)
  (S:=λi hh=> ∃O,qG [O] 0=true∧(∀n,lowO n O)∧hh=brO (base O) (h.length+2) (h.length+4) (h.length+5) 1 (brI 0 0 (s.take i))) (E:=λ_ _=>False) ?_ ?_ ?_ ?_ ?_ ?_ ?_
 ·obtain⟨c,_,rfl⟩:=List.mem_map.1 (show a∈s.map _ from ha);rfl
 ·rintro i hh ⟨O,_,l1,rfl⟩;exact hLow _ _ l1
 ·intro s hh hf;exact hf.elim
 ·exact⟨.emp 0,rfl,λ_=>trivial,hst⟩
 ·rw[hbl];simp[qR,qR.lowVs]
  try omega
 ·rintro i hh tl LI TS hi ⟨O,s1,l1,rfl⟩ hlen K K2 hK hN hR' hX;have hi':i<s.length:=by rw[yO]at hi;exact hi
  rw[WS hi];have t:=hT O;have f3: ∀ {X Y Z l},qG (tri (base O) (h.length+2) (h.length+4) (h.length+5) X Y Z++l) (h.length+3)=true:=λ{X Y Z l}=>by unfold qG;rw[f1];exact s1
  simp only[ke];unfold brO;simp (disch:=omega) only[f1,f2,f3,f4,atC,go_sem];refine hK _ _ (brO (base (.mem (qo (some O)+1) 348 (atC 1 (ch s i)))) (h.length+2) (h.length+4) (h.length+5) 1 (brI 0 0 (s.take i))) ?_ ?_ ?_
  ·rfl
  ·rw[bM,hbl,hbl]
  ·have cA:=rN (va:=1) (λh' t'=>Nu (va:=1) t' (brI 0 0 (s.take i)) (ch s i) (WT 0 0 s oma oma)) (hT (.mem (qo (some O)+1) 348 (atC 1 (ch s i)))) (.lp .busy TS LI::tl);unfold brO atC at cA;unfold brO;simp (disch:=omega) only[f4,atC,go_sem];refine qE cA (by exact flk) ?_;simp (disch:=omega) only[go_sem];refine hN _ _ (brO (base (.mem (qo (some O)+1) 348 (atC 1 (ch s i)))) (h.length+2) (h.length+4) (h.length+5) 1 ((brI 0 0 (s.take i)).pt (ch s i))) rfl (by rw[bM,hbl,hbl]) ⟨_,?_,?_,by rw[Z1 0 0 s hi']⟩
   ·rfl
   ·intro n d hd;simp[atC]at hd;rcases hd with rfl|rfl|rfl|rfl|rfl|rfl|rfl<;>rfl
 ·rintro hh ⟨O,s1,l1,rfl⟩;have t:=hT O;rw[yO,List.take_length];have hqo:=WT 0 0 s oma (nlr s.length);have hqb:=DY 0 0 s s.length (nlr _);rw[List.take_length]at hqo hqb;obtain⟨q,hq⟩:=Qt (brI 0 0 s)
  rw[<-hq]at hqo hqb ⊢;obtain⟨n1,n2,n3,n4⟩:=Xy hqb (dJ s);have n1:q.nd.out=wN s:=n1;have cE:=Ya (va:=1) t q (λe=>(hqo.op e).1) hqo.cl (by have:=hqo.n;omega) (by have:=hqo.w;omega);simp (disch:=omega) only[go_sem];refine qE cE (by exact flk) ?_;obtain⟨r,hr⟩:=Qt q.nd
  rw[<-hr]at n1 ⊢;have zga: ∀ {X Y Z l},qu (h.length+2) (tri (base O) (h.length+2) (h.length+4) (h.length+5) X Y Z++l)=some X:=vF (t);have yga: ∀ {X Y Z},qu (h.length+2) (tri (base O) (h.length+2) (h.length+4) (h.length+5) X Y Z)=some X:=λ{X Y Z}=>by have:=zga (X:=X) (Y:=Y) (Z:=Z) (l:= []);simpa only[lan] using this
  have zgb: ∀ {X Y Z l},qu (h.length+4) (tri (base O) (h.length+2) (h.length+4) (h.length+5) X Y Z++l)=some Y:=v6 (t);have ygb: ∀ {X Y Z},qu (h.length+4) (tri (base O) (h.length+2) (h.length+4) (h.length+5) X Y Z)=some Y:=λ{X Y Z}=>by have:=zgb (X:=X) (Y:=Y) (Z:=Z) (l:= []);simpa only[lan] using this
  have zgc: ∀ {X Y Z l},qu (h.length+5) (tri (base O) (h.length+2) (h.length+4) (h.length+5) X Y Z++l)=some Z:=vG (t);have ygc: ∀ {X Y Z},qu (h.length+5) (tri (base O) (h.length+2) (h.length+4) (h.length+5) X Y Z)=some Z:=λ{X Y Z}=>by have:=zgc (X:=X) (Y:=Y) (Z:=Z) (l:= []);simpa only[lan] using this
  have zsa: ∀ {X Y Z o l},qt (h.length+2) (tri (base O) (h.length+2) (h.length+4) (h.length+5) X Y Z++l) o=tri (base O) (h.length+2) (h.length+4) (h.length+5) o Y Z++l:=v7 (t);have ysa: ∀ {X Y Z o},qt (h.length+2) (tri (base O) (h.length+2) (h.length+4) (h.length+5) X Y Z) o=tri (base O) (h.length+2) (h.length+4) (h.length+5) o Y Z:=λ{X Y Z o}=>by have:=zsa (X:=X) (Y:=Y) (Z:=Z) (o:=o) (l:= []);simpa only[lan] using this
  have zsb: ∀ {X Y Z o l},qt (h.length+4) (tri (base O) (h.length+2) (h.length+4) (h.length+5) X Y Z++l) o=tri (base O) (h.length+2) (h.length+4) (h.length+5) X o Z++l:=wz (t);have ysb: ∀ {X Y Z o},qt (h.length+4) (tri (base O) (h.length+2) (h.length+4) (h.length+5) X Y Z) o=tri (base O) (h.length+2) (h.length+4) (h.length+5) X o Z:=λ{X Y Z o}=>by have:=zsb (X:=X) (Y:=Y) (Z:=Z) (o:=o) (l:= []);simpa only[lan] using this
  have zsc: ∀ {X Y Z o l},qt (h.length+5) (tri (base O) (h.length+2) (h.length+4) (h.length+5) X Y Z++l) o=tri (base O) (h.length+2) (h.length+4) (h.length+5) X Y o++l:=wA (t);have ysc: ∀ {X Y Z o},qt (h.length+5) (tri (base O) (h.length+2) (h.length+4) (h.length+5) X Y Z) o=tri (base O) (h.length+2) (h.length+4) (h.length+5) X Y o:=λ{X Y Z o}=>by have:=zsc (X:=X) (Y:=Y) (Z:=Z) (o:=o) (l:= []);simpa only[lan] using this
  have zca: ∀ {X Y Z v l},cellsOf (tri (base O) (h.length+2) (h.length+4) (h.length+5) X Y Z++l) (h.length+2) v=qv (some X) v:=xp (t);have yca: ∀ {X Y Z v},cellsOf (tri (base O) (h.length+2) (h.length+4) (h.length+5) X Y Z) (h.length+2) v=qv (some X) v:=λ{X Y Z v}=>by have:=zca (X:=X) (Y:=Y) (Z:=Z) (v:=v) (l:= []);simpa only[lan] using this
  have zcb: ∀ {X Y Z v l},cellsOf (tri (base O) (h.length+2) (h.length+4) (h.length+5) X Y Z++l) (h.length+4) v=qv (some Y) v:=xq (t);have ycb: ∀ {X Y Z v},cellsOf (tri (base O) (h.length+2) (h.length+4) (h.length+5) X Y Z) (h.length+4) v=qv (some Y) v:=λ{X Y Z v}=>by have:=zcb (X:=X) (Y:=Y) (Z:=Z) (v:=v) (l:= []);simpa only[lan] using this
  have zcc: ∀ {X Y Z v l},cellsOf (tri (base O) (h.length+2) (h.length+4) (h.length+5) X Y Z++l) (h.length+5) v=qv (some Z) v:=xr (t);have ycc: ∀ {X Y Z v},cellsOf (tri (base O) (h.length+2) (h.length+4) (h.length+5) X Y Z) (h.length+5) v=qv (some Z) v:=λ{X Y Z v}=>by have:=zcc (X:=X) (Y:=Y) (Z:=Z) (v:=v) (l:= []);simpa only[lan] using this
  have zla: ∀ {X Y Z v l},qF (tri (base O) (h.length+2) (h.length+4) (h.length+5) X Y Z++l) (h.length+2) v=qH (some X) v:=xt (t);have yla: ∀ {X Y Z v},qF (tri (base O) (h.length+2) (h.length+4) (h.length+5) X Y Z) (h.length+2) v=qH (some X) v:=λ{X Y Z v}=>by have:=zla (X:=X) (Y:=Y) (Z:=Z) (v:=v) (l:= []);simpa only[lan] using this
  have zlb: ∀ {X Y Z v l},qF (tri (base O) (h.length+2) (h.length+4) (h.length+5) X Y Z++l) (h.length+4) v=qH (some Y) v:=xu (t);have ylb: ∀ {X Y Z v},qF (tri (base O) (h.length+2) (h.length+4) (h.length+5) X Y Z) (h.length+4) v=qH (some Y) v:=λ{X Y Z v}=>by have:=zlb (X:=X) (Y:=Y) (Z:=Z) (v:=v) (l:= []);simpa only[lan] using this
  have zlc: ∀ {X Y Z v l},qF (tri (base O) (h.length+2) (h.length+4) (h.length+5) X Y Z++l) (h.length+5) v=qH (some Z) v:=xw (t);have ylc: ∀ {X Y Z v},qF (tri (base O) (h.length+2) (h.length+4) (h.length+5) X Y Z) (h.length+5) v=qH (some Z) v:=λ{X Y Z v}=>by have:=zlc (X:=X) (Y:=Y) (Z:=Z) (v:=v) (l:= []);simpa only[lan] using this
  have hrl:=fD s;have hor:r.out.length=(wN s).length:=by rw[n1]
  have k1:((1024:Int)<r.out.length)=False:=eqf oma;have hcE:=λh=>Tt (wN s) h oma
  unfold brO brX brY;rw[n1];rw[n1]at k1;have hL:=jF (wN s);have hb64:=xH (L:=wN s);have hTE:mj s=if AH (wN s)=true then 4 else 0:=rfl
  have hTL:ml s=if mj s=0 then dy s else []:=rfl
  cases hB:AH (wN s)with
  |true=>
   rw[hB]at hTE hcE;rw[ipo rfl]at hTE;rw[hTE,ine (by decide)]at hTL;rw[hTE,hTL];simp (disch:=omega) only[yca,ylb,ql,qX,k1,go_sem];refine cG (λ_=>ACalls.borrow (r:= .bool true) ((hcE []).le ?g1 (qi)) rfl) (λ_=>by exact flk) ?_
   case g1=>
    simp only[List.map_cons,List.map_nil,go_sem,if_true];rw[ygb];exact⟨cD rfl,qi,trivial⟩
   simp (disch:=omega) only[yca,ql,go_sem]
   repeat' first|with_reducible apply aiA
   ·rw[eT];simp only[go_sem]
   ·rw[eT];simp only[go_sem];refine bT rfl ⟨trivial,trivial,trivial⟩ ⟨rfl,rfl⟩ ?_;simp only[go_sem];exact VLe.tup ⟨qU,qi,trivial⟩
  |false=>
   rw[hB]at hTE hcE;rw[ine (by simp)]at hTE;rw[hTE,ipo rfl]at hTL;rw[hTE,hTL];simp (disch:=omega) only[yca,ylb,ql,qX,k1,go_sem];refine cG (λ_=>ACalls.borrow (r:= .bool false) ((hcE []).le ?g2 (qi)) rfl) (λ_=>by exact flk) ?_
   case g2=>
    simp only[List.map_cons,List.map_nil,go_sem,if_true];rw[ygb];exact⟨cD rfl,qi,trivial⟩
   simp (disch:=omega) only[yca,ql,go_sem];refine qE (Ph (wN s) (h.length+4) r.vo _ ygb (mn s) (hb64.1 hB) oma) (by exact flk) ?_;simp (disch:=omega) only[ysb,go_sem]
   repeat' first|with_reducible apply aiA|exact clz|fail
   rw[eT];refine bT rfl ⟨trivial,trivial,trivial⟩ ⟨rfl,rfl⟩ ?_;simp only[go_sem];exact VLe.tup ⟨cD (by simp[dy]),qi,trivial⟩
 ·intro e hh hf;exact hf.elim
end RC
end
section
open Go Go.Proofs AF
def lz:List Nat:= [224]
def Z7:C:=
 (pk [ON 2 (.nilo 0 1 9) [],oF 3 0] ((pk [MV 7 0,O1 8 (.call 219 true) 7,MV 4 8] (pk [MV 9 4,oT 10 .neq 9 0] (p7 10 (p9 [MV 11 4,ON 2 (.nilo 0 1 9) [],MV 3 11])))).seq ((pk [MV
 12 0,BC 13 .eql 12 (.str [])] (p7 13 (p9 [ON 2 (.nilo 0 1 9) [],oF 3 0]))).seq (pk [⟨some 15,none,.build [.str [],i6 0] [],[]⟩,MV 16 0,⟨some 17,none,.build [i6 0,.str [],i6
 0,.nl] [(0,1),(1,1)],[.c (i6 1),.t 16]⟩,⟨some 18,none,.bslc 1 4 1 234 [i6 0,.str [],i6 0,.nl] [(0,4)],[.t 17]⟩,ON 19 (.call 224 false) [.t 15,.t 18,.c .nl],MV 14 19,O1 20 (.ext
 0) 14,O1 21 (.ext 1) 14,MV 5 20,MV 6 21] (p9 [MV 22 5,O1 23 (.call 64 true) 22,MV 24 6,MV 2 23,MV 3 24])))))
theorem sZ:qK Tryz.prog 165 25 2 [RV.tmp 2,RV.tmp 3] Z7:=fi Tryz.f165 [2,18] lz []
def Ed:C:=
 (pk [ON 2 (.nilo 0 6 119) []] (pk [⟨some 6,none,.build [.str [],i6 0] [],[]⟩,MV 7 0,⟨some 8,none,.build [i6 0,.str [],i6 0,.nl] [(0,1),(1,1)],[.c (i6 1),.t 7]⟩,⟨some
 9,none,.bslc 1 4 1 234 [i6 0,.str [],i6 0,.nl] [(0,4)],[.t 8]⟩,ON 10 (.call 224 false) [.t 6,.t 9,.c .nl],MV 5 10,O1 11 (.ext 0) 5,O1 12 (.ext 1) 5,MV 3 11,MV 4 12] (p9 [MV 13
 3,MV 2 13])))
theorem Gq:qK Tryz.prog 150 14 2 [RV.tmp 2] Ed:=fi Tryz.f150 [2,9] lz []
end
section
open Go Go.Proofs AF
def jL:List Nat:= []
def aQ:C:=
 (pk [O1 3 (.box 0 26) 0,O1 5 (.box 1 65) 2,oF 6 0,oF 7 0] ((C.block 0 (pk [oE 15 0 5,LD 16 15,oT 17 .lss 16 1,MV 18 17,tv 19 18 0 5,tE 20 18 19,ph 21 18 (.bin .gtr) 20 (i6 3),PT
 22 18 21,MV 14 22] (C.cond (.t 14) (p9 [oF 6 0,oF 7 8]) (pk [oE 24 3 5,LD 25 24,BC 26 .neq 25 (.str []),MV 27 26,P1 28 27 true (.fldA 0) 5,P1 29 27 true (.load none) 28,PC 30
 27 true (.bin .neq) 29 (i6 2),PF 31 27 30,MV 23 31] (p7 23 (p9 [oF 6 0,oF 7 1])))))).seq (pk [oE 32 1 3,LD 33 32,oE 34 1 5,LD 35 34,O2 36 (.call 125 true) 33 35,MV 8 36] ((pk
 [MV 37 8,oT 38 .lss 37 0] (p7 38 (p9 [oF 6 0,oF 7 6]))).seq (pk [O1 40 (.load (some 4)) 3,MV 41 8,oE 42 2 5,LD 43 42,ON 44 (.call 164 true) [.t 40,.t 41,.t 43],MV 39 44,O1 45
 (.ext 0) 39,O1 46 (.ext 1) 39,MV 9 45,MV 10 46] ((pk [MV 47 10,oT 48 .neq 47 0] (p7 48 (p9 [oF 6 0,oF 7 6]))).seq (pk [MV 50 1,MV 51 9,O2 52 (.call 76 true) 50 51,MV 49 52,O1
 53 (.ext 0) 49,O1 54 (.ext 1) 49,MV 11 53,MV 10 54] ((pk [MV 55 10,oT 56 .neq 55 0,MV 57 56,pc 58 57 11,ph 59 57 (.bin .lss) 58 (i6 0),PT 60 57 59] (p7 60 (p9 [oF 6 0,oF 7
 20]))).seq ((pk [oE 61 0 5,LD 62 61,oT 63 .eql 62 2] (p7 63 (pk [oE 65 3 5,LD 66 65,O1 67 (.call 165 true) 66,MV 64 67,O1 68 (.ext 0) 64,O1 69 (.ext 1) 64,MV 12 68,MV 13 69]
 ((pk [MV 70 13,oT 71 .neq 70 0] (p7 71 (p9 [MV 72 13,oF 6 0,MV 7 72]))).seq (pk [MV 73 12,O1 74 .len 73,oT 75 .eql 74 0] (p7 75 (p9 [oF 6 0,oF 7 5]))))))).seq (p9 [MV 76 11,MV
 6 76,oF 7 0]))))))))))
theorem vy:qK Tryz.prog 95 77 2 [RV.tmp 6,RV.tmp 7] aQ:=fi Tryz.f95 [3,5] jL []
def NC:C:=
 (pk [O1 3 (.box 0 26) 0,ON 6 (.nilo 1 1 3) [],oF 7 0] ((pk [MV 13 2,O1 14 .len 13,oT 15 .gtr 14 256] (p7 15 (p9 [ON 6 (.nilo 1 1 3) [],oF 7 4]))).seq (pk [ON 8 (.nilo 2 1 3) []]
 ((pk [MV 16 2,O1 17 .len 16,oF 18 0] (C.block 0 (pk [BI 19 .lss 18 17] ((p8 19 0).seq ((C.block 1 (pk [O2 20 (.idxA 4) 16 18,O1 21 (.load (some 4)) 20,⟨some 10,none,.alloc 3 65
 [i6 0,.str [],i6 0,.str []],[]⟩,ST 4 10 21] (pk [O1 23 (.load (some 4)) 3,MV 24 1,O1 25 (.load (some 4)) 10,ON 26 (.call 95 true) [.t 23,.t 24,.t 25],MV 22 26,O1 27 (.ext 0)
 22,O1 28 (.ext 1) 22,MV 11 27,MV 12 28] ((pk [MV 29 12,oT 30 .neq 29 0] (p7 30 (p9 [MV 31 12,ON 6 (.nilo 1 1 3) [],MV 7 31]))).seq (rv [MV 32 8,MV 33 11,⟨some 34,none,.bslc 4 1
 1 3 [i6 0] [(0,1)],[.t 33]⟩,O2 35 (.app 5 1 3 8) 32 34,MV 8 35]))))).seq (rv [oT 36 .add 18 1,MV 18 36])))).loop)).seq (p9 [MV 37 8,MV 6 37,oF 7 0])))))
theorem HN:qK Tryz.prog 67 38 6 [RV.tmp 6,RV.tmp 7] NC:=fi Tryz.f67 [3,6,8,10,34,35] jL []
def FA:C:=
 (pk [MC 4 (.bool false)] ((pk [MV 5 0,O1 6 (.call 145 true) 5] (p7 6 (p9 [MV 7 1,O1 8 (.call 145 true) 7,O1 9 (.un UnOp.not) 8,MV 10 9,MG 11 10 true 1,PC 12 10 true (.bin .neq)
 11 (.str [39]),PF 13 10 12,MV 4 13]))).seq (p9 [MC 4 (.bool true)])))
theorem J3:qK Tryz.prog 70 14 0 [RV.tmp 4] FA:=fi Tryz.f70 [] jL []
def Rr:C:=
 (pk [O1 4 (.box 0 26) 0,O1 5 (.box 1 3) 1,O1 6 (.box 2 3) 2,O1 7 (.box 3 3) 3,MC 8 .nilfn] (p9 [ON 9 (.mkfn (Fn.func 146) 0) [.t 5,.t 6,.t 4,.t 7],MV 8 9]))
theorem Oy:qK Tryz.prog 72 10 4 [RV.tmp 8] Rr:=fi Tryz.f72 [4,5,6,7] jL []
def D9:C:=
 (pk [LD 8 1,MV 6 8] (C.block 0 ((pk [MV 9 6,LD 10 2,BI 11 .lss 9 10] (p8 11 0)).seq ((C.block 1 (pk [oE 14 3 3,LD 15 14,MV 16 6,O2 17 (.idxA 1) 15 16,LD 18 17,LD 19 4,O2 20
 (.idxA 1) 18 19,LD 21 20,MV 7 21] (pk [MV 22 7,oT 23 .geq 22 0,MV 24 23,MG 25 24 true 0,P1 26 24 true (.fldA 2) 3,P1 27 24 true (.load none) 26,P1 28 24 true (.load none) 4,P2
 29 24 true (.idxA 1) 27 28,P1 30 24 true (.load none) 29,MG 31 24 true 7,P2 32 24 true (.idxA 6) 30 31,P1 33 24 true (.load (some 6)) 32,MG 34 24 true 6,⟨some 35,some
 (24,true),.build [.str [],.str [],.str [],i6 0,i6 0,.str [],i6 0] [(0,6),(6,1)],[.t 33,.t 34]⟩,P2 36 24 true .callv 25 35,P1 37 24 true (.un UnOp.not) 36,PF 38 24 37] (p7 38
 C.ret)))).seq (sm 12 6))).loop))
theorem Gk:qK Tryz.prog 146 39 0 [] D9:=fi Tryz.f146 [] jL []
def Rt:C:=
 (pk [⟨some 0,none,.alloc 0 142 [.nilfn,.nilfn,.nilfn,.nilfn],[]⟩] (p9 [⟨some 1,none,.build [.nilfn,.nilfn,.nilfn,.nilfn] [(1,1),(2,1),(3,1)],[.c (.fn (Fn.func 147) [] []),.c
 (.fn (Fn.func 149) [] []),.c (.fn (Fn.func 151) [] [])]⟩,ST 4 0 1]))
theorem Oz:qK Tryz.prog 73 2 1 [RV.cell 0 (some 4)] Rt:=fi Tryz.f73 [0] jL []
def Ea:C:=
 (pk [O1 3 (.box 0 26) 0,O1 4 (.box 1 39) 1,O1 5 (.box 2 65) 2,ON 6 (.nilo 3 7 131) []] (p9 [O1 7 (.load (some 4)) 3,oE 8 0 4,LD 9 8,oE 10 1 4,LD 11 10,oE 12 1 3,LD 13 12,oE 14 1
 5,LD 15 14,O2 16 (.call 125 true) 13 15,ON 17 (.call 72 true) [.t 7,.t 9,.t 11,.t 16],O1 18 (.call 148 true) 17,MV 6 18]))
theorem Gl:qK Tryz.prog 147 19 4 [RV.tmp 6] Ea:=fi Tryz.f147 [3,4,5,6] jL []
def Ec:C:=
 (pk [O1 3 (.box 0 26) 0,O1 4 (.box 1 39) 1,O1 5 (.box 2 65) 2,ON 6 (.nilo 3 7 131) []] (pk [ON 7 (.nilo 4 7 131) []] ((pk [oE 10 3 5,LD 11 10,O1 12 (.call 150 true) 11,O1 13
 .len 12,oF 14 0] (C.block 0 (pk [BI 15 .lss 14 13] ((p8 15 0).seq ((C.block 1 (pk [O2 16 (.idxA 6) 12 14,O1 17 (.load (some 6)) 16,⟨some 9,none,.alloc 5 119 [.str [],.str
 [],.str [],i6 0,i6 0,.str []],[]⟩,ST 6 9 17] (pk [oE 18 4 9,LD 19 18,oT 20 .andNot 19 4,oE 21 4 9,ST 1 21 20] (pk [oE 22 5 9,⟨none,none,.store 1,[.t 22,.c (.str [])]⟩] (rv [MV
 23 7,O1 24 (.load (some 6)) 9,oE 25 0 4,LD 26 25,⟨some 27,none,.build [.str [],.str [],.str [],i6 0,i6 0,.str [],i6 0] [(0,6),(6,1)],[.t 24,.t 26]⟩,⟨some 28,none,.bslc 6 7 1
 131 [.str [],.str [],.str [],i6 0,i6 0,.str [],i6 0] [(0,7)],[.t 27]⟩,O2 29 (.app 7 7 131 88) 23 28,MV 7 29]))))).seq (rv [oT 30 .add 14 1,MV 14 30])))).loop)).seq (p9 [MV 31
 7,MV 6 31]))))
theorem Gn:qK Tryz.prog 149 32 8 [RV.tmp 6] Ec:=fi Tryz.f149 [3,4,5,6,7,9,28,29] jL []
def Ee:C:=
 (pk [O1 3 (.box 0 26) 0,O1 4 (.box 1 39) 1,O1 5 (.box 2 65) 2,ON 6 (.nilo 3 7 131) []] (p9 [ON 6 (.nilo 3 7 131) []]))
theorem Gs:qK Tryz.prog 151 7 4 [RV.tmp 6] Ee:=fi Tryz.f151 [3,4,5,6] jL []
def Eb:C:=
 (pk [ON 2 (.nilo 0 7 131) []] (p9 [MV 3 0,ON 4 (.call 223 true) [.c .nl,.t 3],MV 2 4]))
theorem Gm:qK Tryz.prog 148 5 1 [RV.tmp 2] Eb:=fi Tryz.f148 [2] jL []
def Z6:C:=
 (pk [O1 3 (.box 0 26) 0,O1 4 (.box 1 3) 1,O1 5 (.box 2 3) 2,oF 6 0,oF 7 0] ((pk [O1 8 (.load (some 4)) 3,O1 9 (.call 47 true) 8,oT 10 .neq 9 0] (p7 10 (p9 [oF 6 0,oF 7 1]))).seq
 ((pk [LD 11 4,oT 12 .lss 11 0,MV 13 12,tE 14 13 4,tv 15 13 1 3,tE 16 13 15,oX 17 13 .len 16,pb 18 13 (.bin .geq) 14 17,PT 19 13 18,MV 20 19,tE 21 20 5,ph 22 20 (.bin .lss) 21
 (i6 0),PT 23 20 22,MV 24 23,tE 25 24 5,tv 26 24 2 3,tE 27 24 26,tE 28 24 4,pb 29 24 (.idxA 1) 27 28,tE 30 24 29,oX 31 24 .len 30,pb 32 24 (.bin .geq) 25 31,PT 33 24 32] (p7 33
 (p9 [oF 6 0,oF 7 2]))).seq (p9 [oE 34 3 3,LD 35 34,O2 36 (.mkfn (Fn.func 240) 0) 4 5,O2 37 (.call 239 true) 35 36,MV 6 37,oF 7 0]))))
theorem sY:qK Tryz.prog 164 38 3 [RV.tmp 6,RV.tmp 7] Z6:=fi Tryz.f164 [3,4,5] jL []
def EI:C:=
 (pk [MC 4 (.bool false)] (p9 [MV 5 0,LD 6 1,O2 7 (.idxA 1) 5 6,LD 8 7,LD 9 2,BI 10 .eql 8 9,MV 4 10]))
theorem G0:qK Tryz.prog 240 11 0 [RV.tmp 4] EI:=fi Tryz.f240 [] jL []
def D3:C:=
 (pk [O1 2 (.box 0 26) 0,ON 4 (.nilo 1 1 9) [],oF 5 0] ((pk [O1 6 (.load (some 4)) 2,O1 7 (.call 47 true) 6,oT 8 .neq 7 0] (p7 8 (p9 [ON 4 (.nilo 1 1 9) [],oF 5 1]))).seq ((pk
 [MV 9 1,oT 10 .lss 9 0,MV 11 10,pc 12 11 1,tv 13 11 1 2,tE 14 11 13,oX 15 11 .len 14,pb 16 11 (.bin .geq) 12 15,PT 17 11 16] (p7 17 (p9 [ON 4 (.nilo 1 1 9) [],oF 5 2]))).seq
 (p9 [oE 18 2 2,LD 19 18,MV 20 1,O2 21 (.idxA 1) 19 20,LD 22 21,O1 23 (.call 64 true) 22,MV 4 23,oF 5 0]))))
theorem JY:qK Tryz.prog 13 24 2 [RV.tmp 4,RV.tmp 5] D3:=fi Tryz.f13 [2,4] jL []
end
section
open Go Go.Proofs AF HY LN
namespace AF
theorem ACalls.frzd{P:Program}{f:FuncId}{args:JT}{h h':JN}{r:AV}(ks:List Nat)(hs:ky ks h=true)(hc:ACalls P f (args.map (frz (λk=>ks.contains k) h 8)) (xa ks h) r h'):ACalls P f args h r h':=by
 refine⟨hc.1,λw σ xs H hv=> ?_⟩;obtain⟨σ1,g1,g2,g3,g4⟩:=xb ks H hs;have hv1:VRs w σ1 (args.map (frz (λk=>ks.contains k) h 8)) xs:=⟨by rw[hv.1];simp,λi c x hc hx=>by
  rw[List.getElem?_map,Option.map_eq_some_iff]at hc;obtain⟨c0,hc,rfl⟩:=hc
  exact dV H (λb hb=>(g4 b hb).elim λj ⟨o,h1,h2,h3⟩=>⟨j,o,by simpa using h1,h2,h3⟩) (λj o hj ho=>g3 j o (by simpa using hj) ho) 8 (hv.2 i c0 x hc hx)⟩
 refine (hc.2 w σ1 xs g1 hv1).mono ?_;rintro e w' ⟨v,σ',rfl,k1,k2,k3⟩;exact⟨v,σ',rfl,k1,k2,g2.trans k3⟩
end AF
namespace RC
def fQ(b:List Tk):List Str:=b.map Tk.text
theorem Ws(s:Str):(ml s).length<=s.length:=by
 unfold ml;split
 ·exact cX s
 ·exact nzl _
theorem RX(b:List Tk)(h:JN)(hn:b.length<=1000000):ACalls Tryz.prog 64 [zR b] h (strs (fQ b)) h:=by
 refine acO Ox ?_;simp (disch:=omega) only[Rq,zR,go_sem];refine qr (T:=λs:Nat×Nat×AObj×AObj=>qY 19 [(6,zR b),(7,.int .i64 b.length),(8,.int .i64 s.1),(3,.osl (h.length+1) s.2.1 1 0 s.1)])
  (H:=λs=>h++ [.emp 1,ze s.2.1 9 (jO (fQ (b.take s.1))),s.2.2.1,s.2.2.2,.emp 0])
  (inv:=λs=>s.1<=b.length∧qG [s.2.2.1] 0=true∧qG [s.2.2.2] 0=true) (m:=λs=>b.length-s.1) (0,1,.emp 0,.emp 0) ⟨nzl _,rfl,rfl⟩ (Wk.temps ?_) ?_
 ·(simp only[zR,go_sem,qg,qc,qb,qf];try exact tT)
 rintro⟨i,v,O1,O2⟩ ⟨i1,i2,i3⟩ K hK;simp only at i1 i2 i3 hK;have i2': ∀m,qG (O1::m) 0=true:=λ_=>i2
 have i3': ∀m,qG (O2::m) 0=true:=λ_=>i3
 have eL:(fQ (b.take i)).length=i:=by unfold fQ;rw[List.length_map,List.length_take];omega
 by_cases hi:i<b.length
 ·have k1:((i:Int)<b.length)=True:=eqt oma;have hS:fQ (b.take (i+1))=fQ (b.take i)++ [(b.getD i default).text]:=by
   unfold fQ;rw[List.take_add_one,zg hi,gdqA,zg hi,List.map_append];rfl
  obtain⟨L,hL⟩:=Qt (fQ (b.take i))
  rw[<-hL]at hS eL ⊢;obtain⟨w,hw⟩:=Qt (b.getD i default)
  have ew:=hw.symm;rw[ew]at hS;have eC:=kW L;have eTk:List.take i (jO L)=jO L:=ltl oma;simp (disch:=omega) only[zR,tkC,k1,ew,i2',i3',eC,eL,eTk,Nat.mul_one,go_sem]
  repeat' first|with_reducible apply aiA|exact clz|fail
  have eA:jO L++ [AV.str w.text]=jO (L++ [w.text]):=by simp[jO]
  have eD:(AV.str w.text::List.drop 1 (zQ [AV.str []] 1))= [AV.str w.text]:=rfl;rw[eA,eD];refine hK _ _ (i+1,v+1,.mem (qo (some O1)+1) 119 (tkC w),.mem (qo (some O2)+1) 9 [.str w.text]) ⟨hi,rfl,rfl⟩ (by simp only;omega) ?_;simp only[hS,tkC];refine Wk.temps ?_
  (simp only[zR,tkC,go_sem,qg,qc,qb,qf];try exact tT)
 have k1:((i:Int)<b.length)=False:=eqf oma;obtain rfl:i=b.length:=by omega
 rw[List.take_length]at eL ⊢;simp (disch:=omega) only[k1,go_sem]
 repeat' first|(apply qa;exact rvk;simp only[go_sem])
 exact xn (λ_=>rfl) eL.symm
theorem Ly(s:Str)(h:JN)(hl:s.length<=1000)(hs:s≠ [])(hc:zS s=0)(hg:jb h frmN frmC):ACalls Tryz.prog 224 [.agg [.str [],.int .i64 0],.osl (h.length+1) 1 4 0 1,.nl] (h++ [.emp 1,.mem 1 234 (.int .i64 1:: .str s:: .int .i64 0:: .nl::List.drop 4 (zQ [.int .i64 0,.str [],.int .i64 0,.nl] 1))]) (.tup [zR (ml s),.int .i64 (mj s)]) (h++ [.emp 1,.emp 2]):=by
 have c1:=PI s (h++ [.emp 1,.emp 2]) hl hs hc hg.app;refine ACalls.frzd [h.length+1] ?s1 ?s2
 case s1=>simp only[ky,go_sem]
 case s2=>
  simp only[List.map_cons,List.map_nil,xa,go_sem];have e: [h.length+1].contains (h.length+1)=true:=by simp
  simp only[e,if_true];refine c1.le ⟨qi,?_,qi,trivial⟩ (qi);unfold jZ;refine VLe.sl_eq rfl (λi hi=> ?_);obtain rfl:i=0:=by omega
  rfl
theorem RP(s:Str)(h:JN)(hl:s.length<=1000)(hg:jb h frmN frmC):ACalls Tryz.prog 165 [.str s] h (.tup [strs (if zS s≠0 then [] else fQ (ml s)),.int .i64 (oZ s)]) h:=by
 have c0: ∀h,ACalls Tryz.prog 219 [.str s] h (.int .i64 (zS s)) h:=λh=>PG s h oma
 unfold oZ
 by_cases g:zS s=0
 case neg=>
  have k1:(zS s=0)=False:=eqf g;rw[ipo g,ipo g];refine acO sZ ?_;simp (disch:=omega) only[Z7,go_sem]
  repeat' first|(refine cA (c0 _) flk ?_;simp (disch:=omega) only[k1,go_sem])|(apply qa;exact rvk;simp only[go_sem])
  exact VLe.tup ⟨qU,qi,trivial⟩
 rw[ine (by simpa using g),ine (by simpa using g)];rw[g]at c0
 by_cases hs:s= []
 ·subst hs;refine acO sZ ?_;simp (disch:=omega) only[Z7,go_sem]
  repeat' first|(refine cA (c0 _) flk ?_;simp (disch:=omega) only[go_sem])|(apply qa;exact rvk;simp only[go_sem])
  exact VLe.tup ⟨qU,qi,trivial⟩
 have k2:(s= [])=False:=eqf hs;have c2:=λh=>RX (ml s) h (Nat.le_trans (Ws s) oma)
 refine acO sZ ?_;simp (disch:=omega) only[Z7,go_sem]
 repeat' first|(refine cA (c0 _) flk ?_;simp (disch:=omega) only[k2,go_sem])
 refine qE (Ly s h hl hs g hg) (by exact flk) ?_;simp (disch:=omega) only[go_sem]
 repeat' first|(refine cA (c2 _) flk ?_;simp (disch:=omega) only[go_sem])|exact tF|with_reducible apply aiA|exact clz|fail
theorem SE(s:Str)(h:JN)(hl:s.length<=1000)(hs:s≠ [])(hc:zS s=0)(hg:jb h frmN frmC):ACalls Tryz.prog 150 [.str s] h (zR (ml s)) h:=by
 refine acO Gq ?_;simp (disch:=omega) only[Ed,go_sem];refine qE (Ly s h hl hs hc hg) (by exact flk) ?_;simp (disch:=omega) only[go_sem]
 repeat' first|exact tF|with_reducible apply aiA|exact clz|fail
end RC
end
section
open Go Go.Proofs AF HY LN
namespace RC
theorem FI{col:List (List Int)}{s t:Nat}: ∀ {n:Nat},t<cnC col s n-> ∃k,k<n∧(col.getD k []).getD s 0≠ -1∧cnC col s k=t:=by
 intro n
 induction n with
 |zero=>intro h;exact absurd h (nnz _)
 |succ n ih=>
  intro h;unfold cnC at h
  by_cases g:t<cnC col s n
  ·obtain⟨k,h1,h2⟩:=ih g;exact⟨k,oma,h2⟩
  ·split at h
   ·omega
   ·rename_i g2;exact⟨n,Nat.lt_succ_self n,g2,oma⟩
theorem bO{x:Co}(ho:CoOk x){s:Nat}(hs:s<x.sig.length){t:Int}(h0:0<=t)(ht:t<((x.tok.getD s []).length:Int)):0<=kZ x s t∧kZ x s t<x.col.length:=by
 obtain⟨k,k1,k2,k3⟩:=FI (col:=x.col) (s:=s) (t:=t.toNat) (n:=x.col.length) (by rw[ho.ct s hs];omega);unfold kZ;rcases zk (λk=>decide ((x.col.getD k []).getD s 0=t)) x.col.length with⟨i,g1,g2,_,g4⟩|⟨g1,g2⟩
 ·rw[g4];omega
 ·have:=g1 k k1
  rcases ho.ce k k1 s hs with e|⟨e,_⟩
  ·exact absurd e k2
  ·rw[decide_eq_false_iff_not]at this;exact absurd (by rw[e,k3];omega) this
theorem SC(c:List Int)(s:Nat)(t:Int)(h:JN)(hs:s<c.length)(hc:c.length<=1000000000):ACalls Tryz.prog 240 [qx c,.ip [.int .i64 (s:Int)],.ip [.int .i64 t]] h (.bool (decide (c.getD s 0=t))) h:=by
 have k0:(0<=(s:Int))=True:=eqt oma;have k1:((s:Int)<c.length)=True:=eqt oma;refine acO G0 ?_;simp (disch:=omega) only[EI,qx,k0,k1,go_sem]
 repeat' first|exact tS|with_reducible apply aiA|exact clz|fail
theorem S9(col:List (List Int))(s:Nat)(t:Int)(k v k2 v2:Nat)(h:JN)(hk:qu k h=some (.mem v 3 [.int .i64 (s:Int)]))(hk2:qu k2 h=some (.mem v2 3 [.int .i64 t]))(hl:col.length<=1000000000)(hm: ∀i,i<col.length->s<(col.getD i []).length∧(col.getD i []).length<=1000000000):
  ACalls Tryz.prog 239 [qn col,.fn (.func 240) [] [.op k v 0,.op k2 v2 0]] h (.int .i64 (w8 (λi=>decide ((col.getD i []).getD s 0=t)) col.length 0)) h:=by
 have hc:=qJ hk;have hc2:=qJ hk2;unfold qn;refine y4 GZ col.length (λj=> [qx (col.getD j [])]) (λj=>qx (col.getD j [])) _ [] [.op k v 0,.op k2 v2 0] _ h (λi _=>⟨rfl,by simp[jK],rfl,rfl,rfl⟩) (λi hi=> ?_) oma;refine ACalls.borrow ?_ rfl;have e:([qx (col.getD i [])]++ [AV.op k v 0,AV.op k2 v2 0]).map (rei (λ_=>true) h 8)= [qx (col.getD i []),.ip [.int .i64 (s:Int)],.ip [.int .i64 t]]:=by
  simp only[lca,lna,List.map_cons,List.map_nil,rei_op,if_true,hc,hc2,ipOf_some,List.drop_zero];rfl
 rw[lna,e];exact SC _ s t _ (hm i hi).1 (hm i hi).2
theorem NZ(x:Co)(s:Nat)(t:Int)(h:JN)(hz:yv x)(hp:kM SG h)(h1:coE x=0)(hs:s<x.sig.length):ACalls Tryz.prog 164 [.agg (coC x),.int .i64 (s:Int),.int .i64 t] h (.tup [.int .i64 (if 0<=t∧t<((x.tok.getD s []).length:Int) then kZ x s t else 0),.int .i64 (if 0<=t∧t<((x.tok.getD s []).length:Int) then 0 else 2)]) h:=by
 have ho:=j6 h1;have hsg:=hz.sg;have htl:=hz.tl s;have htn:=ho.tn;have c1:=λl=>coP x (h++l) hz (hp.app l)
 simp only[h1]at c1;have zu: ∀g l,valL g .len [zR l]= .int .i64 l.length:=λ_ _=>rfl
 have zv: ∀g l,okL g .len [zR l]=True:=λ_ _=>eqt trivial
 have k0:((s:Int)<0)=False:=eqf oma;have k1:((x.sig.length:Int)<=s)=False:=eqf oma;have k5:(0<=(s:Int))=True:=eqt oma;have k6:((s:Int)<x.tok.length)=True:=eqt oma
 by_cases g:0<=t∧t<((x.tok.getD s []).length:Int)
 ·rw[ipo g,ipo g];have k2:(t<0)=False:=eqf oma;have k3:(((x.tok.getD s []).length:Int)<=t)=False:=eqf oma;have c2:=S9 x.col s t (h.length+1) 1 (h.length+2) 1 (h++ [.mem 1 26 (coC x),.mem 1 3 [.int .i64 (s:Int)],.mem 1 3 [.int .i64 t]]) (by simp only[go_sem]) (by simp only[go_sem]) hz.cl (λi hi=>⟨by rw[ho.cl i hi];exact hs,hz.ce i⟩);unfold coC at c1 c2;refine acO sY ?_;simp (disch:=omega) only[Z6,coC,qm,strs,go_sem]
  repeat' first|((first|refine cA (c1 _) ?_ ?_|refine cA (c2) ?_ ?_);exact flk;simp (disch:=omega) only[k0,k1,k2,k3,k5,k6,zu,zv,go_sem])|exact tF|with_reducible apply aiA|exact clz|fail
 ·rw[ine g,ine g];unfold coC at c1
  by_cases g2:t<0
  ·have k2:(t<0)=True:=eqt oma;refine acO sY ?_;simp (disch:=omega) only[Z6,coC,qm,strs,go_sem]
   repeat' first|(refine cA (c1 _) flk ?_;simp (disch:=omega) only[k0,k1,k2,k5,k6,zu,zv,go_sem])|exact tF|with_reducible apply aiA|exact clz|fail
  ·have k2:(t<0)=False:=eqf oma;have k3:(((x.tok.getD s []).length:Int)<=t)=True:=eqt oma;refine acO sY ?_;simp (disch:=omega) only[Z6,coC,qm,strs,go_sem]
   repeat' first|(refine cA (c1 _) flk ?_;simp (disch:=omega) only[k0,k1,k2,k3,k5,k6,zu,zv,go_sem])|exact tF|with_reducible apply aiA|exact clz|fail
theorem Ti(b s:Str)(h:JN)(hb:b.length<=1000000000)(hs:s.length<=1000000000):ACalls Tryz.prog 70 [.str b,.str s] h (.bool (OS b s)) h:=by
 have c1:=λh=>t88 b h hb
 have c2:=λh=>t88 s h hs
 unfold OS;cases g1:kp b with
 |false=>
  rw[g1]at c1;rw[ine (by decide)];refine acO J3 ?_;simp (disch:=omega) only[FA,go_sem]
  repeat' first|(refine cA (c1 _) flk ?_;simp (disch:=omega) only[go_sem])|exact tS|fail
 |true=>
  rw[g1]at c1;rw[ipo rfl];cases g2:kp s with
  |true=>
   rw[g2]at c2;refine acO J3 ?_;simp (disch:=omega) only[FA,go_sem]
   repeat' first|((first|refine cA (c1 _) ?_ ?_|refine cA (c2 _) ?_ ?_);exact flk;simp (disch:=omega) only[go_sem])|exact tS|fail
  |false=>
   rw[g2]at c2
   by_cases g3:s= [39]
   ·subst g3;refine acO J3 ?_;simp (disch:=omega) only[FA,go_sem]
    repeat' first|((first|refine cA (c1 _) ?_ ?_|refine cA (c2 _) ?_ ?_);exact flk;simp (disch:=omega) only[go_sem])|exact tS|fail
   ·have k3:(s= [39])=False:=eqf g3;rw[dqf g3];refine acO J3 ?_;simp (disch:=omega) only[FA,go_sem]
    repeat' first|((first|refine cA (c1 _) ?_ ?_|refine cA (c2 _) ?_ ?_);exact flk;simp (disch:=omega) only[k3,go_sem])|exact tS|fail
def dpN(x:Co)(l:List Un)(o:Dc):Int:=if ai x l o=0 then vk x l o else 0
theorem dpP(x:Co)(l:List Un)(o:Dc)(h:JN)(hz:yv x)(hu:aM l)(hp:kM SG h)(hg:jb h frmN frmC)(h1:coE x=0)(ht:o.txt.length<=1000):ACalls Tryz.prog 95 [.agg (coC x),qZ l,.agg (dcC o)] h (.tup [.int .i64 (dpN x l o),.int .i64 (ai x l o)]) h:=by
 have ho:=j6 h1;unfold dpN;have hE:ai x l o=(if o.kind<1∨3<o.kind then 8 else if o.txt≠ []∧o.kind≠2 then 1 else if tkB x o=false then 6 else if vk x l o<0 then 20 else cjE o):=rfl
 by_cases g1:o.kind<1
 ·have k1:(o.kind<1)=True:=eqt g1;rw[ipo (.inl g1)]at hE;rw[hE,ine (by decide)];refine acO vy ?_;simp (disch:=omega) only[aQ,coC,dcC,k1,go_sem]
  repeat' first|exact tF|fail
 have k1:(o.kind<1)=False:=eqf g1
 by_cases g2:3<o.kind
 ·have k2:(3<o.kind)=True:=eqt g2;rw[ipo (.inr g2)]at hE;rw[hE,ine (by decide)];refine acO vy ?_;simp (disch:=omega) only[aQ,coC,dcC,k1,k2,go_sem]
  repeat' first|exact tF|fail
 have k2:(3<o.kind)=False:=eqf g2;rw[ine (λe=>e.elim g1 g2)]at hE
 by_cases g3:o.txt≠ []∧o.kind≠2
 ·have k3:(o.txt= [])=False:=eqf g3.1;have k4:(o.kind=2)=False:=eqf g3.2;rw[ipo g3]at hE;rw[hE,ine (by decide)];refine acO vy ?_;simp (disch:=omega) only[aQ,coC,dcC,k1,k2,k3,k4,go_sem]
  repeat' first|exact tF|with_reducible apply aiA|exact clz|fail
 rw[ine g3]at hE;have c1:=λh=>AE x.sig.length (λj=>x.sig.getD j []) o.sig h hz.sg
 have hS:w8 (λj=>decide (o.sig=x.sig.getD j [])) x.sig.length 0=zJ x o.sig:=rfl;simp only[hS]at c1
 by_cases g4:o.kind=2
 ·have k4:(o.kind=2)=True:=eqt g4
  by_cases ge:o.txt= []
  ·have k3:(o.txt= [])=True:=eqt ge;have htk:tkB x o=(decide (0<=zJ x o.sig)&&(decide (0<=o.tok)&&decide (o.tok<((x.tok.getD (zJ x o.sig).toNat []).length:Int)))):=rfl
   by_cases g5:zJ x o.sig<0
   ·have k5:(zJ x o.sig<0)=True:=eqt g5;rw[dqf oma,Bool.false_and]at htk;rw[ipo htk]at hE;rw[hE,ine (by decide)];unfold strs at*;refine acO vy ?_;simp (disch:=omega) only[aQ,coC,dcC,k1,k2,k3,k4,strs,go_sem]
    repeat' first|(refine cA (c1 _) flk ?_;simp (disch:=omega) only[k5,go_sem])|exact tF|with_reducible apply aiA|exact clz|fail
   obtain⟨S,hSn⟩: ∃S:Nat,zJ x o.sig=S:=⟨(zJ x o.sig).toNat,oma⟩
   have hSl:S<x.sig.length:=by
    rcases zk (λj=>decide (o.sig=x.sig.getD j [])) x.sig.length with⟨i,q1,_,_,q4⟩|⟨_,q2⟩
    ·have e:zJ x o.sig=i:=q4;omega
    ·have e:zJ x o.sig= -1:=q2;omega
   have k5:((S:Int)<0)=False:=eqf oma;rw[hSn,dqt oma,Bool.true_and,itn]at htk;simp only[hSn]at c1;have c2:=λl'=>NZ x S o.tok (h++l') hz (hp.app l') h1 hSl
   by_cases g6:0<=o.tok∧o.tok<((x.tok.getD S []).length:Int)
   case neg=>
    have htk:tkB x o=false:=by rw[htk];simpa using λe=>Int.not_lt.1 λhc=>g6 ⟨e,hc⟩
    rw[ipo htk]at hE;rw[hE,ine (by decide)];simp only[ine g6]at c2;unfold coC at c2;refine acO vy ?_;simp (disch:=omega) only[aQ,coC,dcC,k1,k2,k3,k4,strs,go_sem]
    repeat' first|((first|refine cA (c1 _) ?_ ?_|refine cA (c2 _) ?_ ?_);exact flk;simp (disch:=omega) only[k5,go_sem])|exact tF|(with_reducible first|intro _|apply aiA)|exact clz|fail
   have htk:tkB x o=true:=by rw[htk];simpa using g6
   rw[ine (by rw[htk];decide)]at hE;simp only[ipo g6]at c2;have hpl:vk x l o=fnU l (kZ x S o.tok):=by unfold vk;rw[hSn,itn]
   have hcn:=bO ho hSl g6.1 g6.2;have c3:=λh=>HW l (kZ x S o.tok) h hu.n
   have e1:fnR l (kZ x S o.tok)=vk x l o:=by unfold fnR;rw[ine oma,hpl]
   have e2:fnE (kZ x S o.tok)=0:=by unfold fnE;rw[ine oma]
   rw[e1,e2]at c3;unfold coC at c2
   by_cases g7:vk x l o<0
   ·have k7:(vk x l o<0)=True:=eqt g7;rw[ipo g7]at hE;rw[hE,ine (by decide)];refine acO vy ?_;simp (disch:=omega) only[aQ,coC,dcC,k1,k2,k3,k4,strs,go_sem]
    repeat' first|((first|refine cA (c1 _) ?_ ?_|refine cA (c2 _) ?_ ?_|refine cA (c3 _) ?_ ?_);exact flk;simp (disch:=omega) only[k4,k5,k7,go_sem])|exact tF|with_reducible apply aiA|exact clz|fail
   have k7:(vk x l o<0)=False:=eqf g7;rw[ine g7]at hE;unfold cjE at hE;rw[ipo g4]at hE;have c4:=λl'=>RP o.txt (h++l') ht hg.app
   by_cases g8:oZ o.txt=0
   case neg=>
    have k8:(oZ o.txt=0)=False:=eqf g8;rw[ipo g8]at hE;rw[hE,ine g8];refine acO vy ?_;simp (disch:=omega) only[aQ,coC,dcC,k1,k2,k3,k4,strs,go_sem]
    repeat' first|((first|refine cA (c1 _) ?_ ?_|refine cA (c2 _) ?_ ?_|refine cA (c3 _) ?_ ?_|refine cA (c4 _) ?_ ?_);exact flk;simp (disch:=omega) only[k4,k5,k7,k8,strs,go_sem])|exact tF|with_reducible apply aiA|exact clz|fail
   rw[ine (by simpa using g8)]at hE;have g9:zS o.txt=0∧mj o.txt=0:=by
    unfold oZ at g8;split at g8
    ·rename_i q;exact absurd g8 q
    ·rename_i q;exact⟨Classical.not_not.1 q,g8⟩
   have hR:XM o.txt=fQ (ml o.txt):=by unfold XM ml;rw[ipo g8,ipo g9.2];rfl
   simp only[g8,ine (show¬zS o.txt≠0 by simpa using g9.1),<-hR]at c4;cases hL:XM o.txt with
   |nil=>
    rw[hL]at hE c4;rw[ipo rfl]at hE;rw[hE,ine (by decide)];refine acO vy ?_;simp (disch:=omega) only[aQ,coC,dcC,k1,k2,k3,k4,strs,go_sem]
    repeat' first|((first|refine cA (c1 _) ?_ ?_|refine cA (c2 _) ?_ ?_|refine cA (c3 _) ?_ ?_|refine cA (c4 _) ?_ ?_);exact flk;simp (disch:=omega) only[k4,k5,k7,strs,go_sem])|(apply qa;exact rvk;simp only[go_sem];first|exact qi|skip)|(with_reducible first|intro _|apply aiA)|exact clz|fail
   |cons a r=>
    rw[hL]at hE c4;rw[ine (by simp)]at hE;rw[hE,ipo rfl];have k9:(((a::r).length:Int)=0)=False:=eqf (by simp;omega);refine acO vy ?_;simp (disch:=omega) only[aQ,coC,dcC,k1,k2,k3,k4,strs,go_sem]
    repeat' first|((first|refine cA (c1 _) ?_ ?_|refine cA (c2 _) ?_ ?_|refine cA (c3 _) ?_ ?_|refine cA (c4 _) ?_ ?_);exact flk;simp (disch:=omega) only[k4,k5,k7,strs,go_sem])|(apply qa;exact rvk;simp only[go_sem];first|exact qi|skip)|(with_reducible first|intro _|apply aiA)|exact clz|fail
  ·have k3:(o.txt= [])=False:=eqf ge;have htk:tkB x o=(decide (0<=zJ x o.sig)&&(decide (0<=o.tok)&&decide (o.tok<((x.tok.getD (zJ x o.sig).toNat []).length:Int)))):=rfl
   by_cases g5:zJ x o.sig<0
   ·have k5:(zJ x o.sig<0)=True:=eqt g5;rw[dqf oma,Bool.false_and]at htk;rw[ipo htk]at hE;rw[hE,ine (by decide)];unfold strs at*;refine acO vy ?_;simp (disch:=omega) only[aQ,coC,dcC,k1,k2,k3,k4,strs,go_sem]
    repeat' first|(refine cA (c1 _) flk ?_;simp (disch:=omega) only[k5,go_sem])|exact tF|with_reducible apply aiA|exact clz|fail
   obtain⟨S,hSn⟩: ∃S:Nat,zJ x o.sig=S:=⟨(zJ x o.sig).toNat,oma⟩
   have hSl:S<x.sig.length:=by
    rcases zk (λj=>decide (o.sig=x.sig.getD j [])) x.sig.length with⟨i,q1,_,_,q4⟩|⟨_,q2⟩
    ·have e:zJ x o.sig=i:=q4;omega
    ·have e:zJ x o.sig= -1:=q2;omega
   have k5:((S:Int)<0)=False:=eqf oma;rw[hSn,dqt oma,Bool.true_and,itn]at htk;simp only[hSn]at c1;have c2:=λl'=>NZ x S o.tok (h++l') hz (hp.app l') h1 hSl
   by_cases g6:0<=o.tok∧o.tok<((x.tok.getD S []).length:Int)
   case neg=>
    have htk:tkB x o=false:=by rw[htk];simpa using λe=>Int.not_lt.1 λhc=>g6 ⟨e,hc⟩
    rw[ipo htk]at hE;rw[hE,ine (by decide)];simp only[ine g6]at c2;unfold coC at c2;refine acO vy ?_;simp (disch:=omega) only[aQ,coC,dcC,k1,k2,k3,k4,strs,go_sem]
    repeat' first|((first|refine cA (c1 _) ?_ ?_|refine cA (c2 _) ?_ ?_);exact flk;simp (disch:=omega) only[k5,go_sem])|exact tF|(with_reducible first|intro _|apply aiA)|exact clz|fail
   have htk:tkB x o=true:=by rw[htk];simpa using g6
   rw[ine (by rw[htk];decide)]at hE;simp only[ipo g6]at c2;have hpl:vk x l o=fnU l (kZ x S o.tok):=by unfold vk;rw[hSn,itn]
   have hcn:=bO ho hSl g6.1 g6.2;have c3:=λh=>HW l (kZ x S o.tok) h hu.n
   have e1:fnR l (kZ x S o.tok)=vk x l o:=by unfold fnR;rw[ine oma,hpl]
   have e2:fnE (kZ x S o.tok)=0:=by unfold fnE;rw[ine oma]
   rw[e1,e2]at c3;unfold coC at c2
   by_cases g7:vk x l o<0
   ·have k7:(vk x l o<0)=True:=eqt g7;rw[ipo g7]at hE;rw[hE,ine (by decide)];refine acO vy ?_;simp (disch:=omega) only[aQ,coC,dcC,k1,k2,k3,k4,strs,go_sem]
    repeat' first|((first|refine cA (c1 _) ?_ ?_|refine cA (c2 _) ?_ ?_|refine cA (c3 _) ?_ ?_);exact flk;simp (disch:=omega) only[k4,k5,k7,go_sem])|exact tF|with_reducible apply aiA|exact clz|fail
   have k7:(vk x l o<0)=False:=eqf g7;rw[ine g7]at hE;unfold cjE at hE;rw[ipo g4]at hE;have c4:=λl'=>RP o.txt (h++l') ht hg.app
   by_cases g8:oZ o.txt=0
   case neg=>
    have k8:(oZ o.txt=0)=False:=eqf g8;rw[ipo g8]at hE;rw[hE,ine g8];refine acO vy ?_;simp (disch:=omega) only[aQ,coC,dcC,k1,k2,k3,k4,strs,go_sem]
    repeat' first|((first|refine cA (c1 _) ?_ ?_|refine cA (c2 _) ?_ ?_|refine cA (c3 _) ?_ ?_|refine cA (c4 _) ?_ ?_);exact flk;simp (disch:=omega) only[k4,k5,k7,k8,strs,go_sem])|exact tF|with_reducible apply aiA|exact clz|fail
   rw[ine (by simpa using g8)]at hE;have g9:zS o.txt=0∧mj o.txt=0:=by
    unfold oZ at g8;split at g8
    ·rename_i q;exact absurd g8 q
    ·rename_i q;exact⟨Classical.not_not.1 q,g8⟩
   have hR:XM o.txt=fQ (ml o.txt):=by unfold XM ml;rw[ipo g8,ipo g9.2];rfl
   simp only[g8,ine (show¬zS o.txt≠0 by simpa using g9.1),<-hR]at c4;cases hL:XM o.txt with
   |nil=>
    rw[hL]at hE c4;rw[ipo rfl]at hE;rw[hE,ine (by decide)];refine acO vy ?_;simp (disch:=omega) only[aQ,coC,dcC,k1,k2,k3,k4,strs,go_sem]
    repeat' first|((first|refine cA (c1 _) ?_ ?_|refine cA (c2 _) ?_ ?_|refine cA (c3 _) ?_ ?_|refine cA (c4 _) ?_ ?_);exact flk;simp (disch:=omega) only[k4,k5,k7,strs,go_sem])|(apply qa;exact rvk;simp only[go_sem];first|exact qi|skip)|(with_reducible first|intro _|apply aiA)|exact clz|fail
   |cons a r=>
    rw[hL]at hE c4;rw[ine (by simp)]at hE;rw[hE,ipo rfl];have k9:(((a::r).length:Int)=0)=False:=eqf (by simp;omega);refine acO vy ?_;simp (disch:=omega) only[aQ,coC,dcC,k1,k2,k3,k4,strs,go_sem]
    repeat' first|((first|refine cA (c1 _) ?_ ?_|refine cA (c2 _) ?_ ?_|refine cA (c3 _) ?_ ?_|refine cA (c4 _) ?_ ?_);exact flk;simp (disch:=omega) only[k4,k5,k7,strs,go_sem])|(apply qa;exact rvk;simp only[go_sem];first|exact qi|skip)|(with_reducible first|intro _|apply aiA)|exact clz|fail
 ·have k4:(o.kind=2)=False:=eqf g4;have ge:o.txt= []:=Classical.not_not.1 λhc=>g3 ⟨hc,g4⟩
  have k3:(o.txt= [])=True:=eqt ge;have htk:tkB x o=(decide (0<=zJ x o.sig)&&(decide (0<=o.tok)&&decide (o.tok<((x.tok.getD (zJ x o.sig).toNat []).length:Int)))):=rfl
  by_cases g5:zJ x o.sig<0
  ·have k5:(zJ x o.sig<0)=True:=eqt g5;rw[dqf oma,Bool.false_and]at htk;rw[ipo htk]at hE;rw[hE,ine (by decide)];unfold strs at*;refine acO vy ?_;simp (disch:=omega) only[aQ,coC,dcC,k1,k2,k3,k4,strs,go_sem]
   repeat' first|(refine cA (c1 _) flk ?_;simp (disch:=omega) only[k5,go_sem])|exact tF|with_reducible apply aiA|exact clz|fail
  obtain⟨S,hSn⟩: ∃S:Nat,zJ x o.sig=S:=⟨(zJ x o.sig).toNat,oma⟩
  have hSl:S<x.sig.length:=by
   rcases zk (λj=>decide (o.sig=x.sig.getD j [])) x.sig.length with⟨i,q1,_,_,q4⟩|⟨_,q2⟩
   ·have e:zJ x o.sig=i:=q4;omega
   ·have e:zJ x o.sig= -1:=q2;omega
  have k5:((S:Int)<0)=False:=eqf oma;rw[hSn,dqt oma,Bool.true_and,itn]at htk;simp only[hSn]at c1;have c2:=λl'=>NZ x S o.tok (h++l') hz (hp.app l') h1 hSl
  by_cases g6:0<=o.tok∧o.tok<((x.tok.getD S []).length:Int)
  case neg=>
   have htk:tkB x o=false:=by rw[htk];simpa using λe=>Int.not_lt.1 λhc=>g6 ⟨e,hc⟩
   rw[ipo htk]at hE;rw[hE,ine (by decide)];simp only[ine g6]at c2;unfold coC at c2;refine acO vy ?_;simp (disch:=omega) only[aQ,coC,dcC,k1,k2,k3,k4,strs,go_sem]
   repeat' first|((first|refine cA (c1 _) ?_ ?_|refine cA (c2 _) ?_ ?_);exact flk;simp (disch:=omega) only[k5,go_sem])|exact tF|(with_reducible first|intro _|apply aiA)|exact clz|fail
  have htk:tkB x o=true:=by rw[htk];simpa using g6
  rw[ine (by rw[htk];decide)]at hE;simp only[ipo g6]at c2;have hpl:vk x l o=fnU l (kZ x S o.tok):=by unfold vk;rw[hSn,itn]
  have hcn:=bO ho hSl g6.1 g6.2;have c3:=λh=>HW l (kZ x S o.tok) h hu.n
  have e1:fnR l (kZ x S o.tok)=vk x l o:=by unfold fnR;rw[ine oma,hpl]
  have e2:fnE (kZ x S o.tok)=0:=by unfold fnE;rw[ine oma]
  rw[e1,e2]at c3;unfold coC at c2
  by_cases g7:vk x l o<0
  ·have k7:(vk x l o<0)=True:=eqt g7;rw[ipo g7]at hE;rw[hE,ine (by decide)];refine acO vy ?_;simp (disch:=omega) only[aQ,coC,dcC,k1,k2,k3,k4,strs,go_sem]
   repeat' first|((first|refine cA (c1 _) ?_ ?_|refine cA (c2 _) ?_ ?_|refine cA (c3 _) ?_ ?_);exact flk;simp (disch:=omega) only[k4,k5,k7,go_sem])|exact tF|with_reducible apply aiA|exact clz|fail
  have k7:(vk x l o<0)=False:=eqf g7;rw[ine g7]at hE;unfold cjE at hE;rw[ine g4]at hE;rw[hE,ipo rfl];refine acO vy ?_;simp (disch:=omega) only[aQ,coC,dcC,k1,k2,k3,k4,strs,go_sem]
  repeat' first|((first|refine cA (c1 _) ?_ ?_|refine cA (c2 _) ?_ ?_|refine cA (c3 _) ?_ ?_);exact flk;simp (disch:=omega) only[k4,k5,k7,go_sem])|exact tF|with_reducible apply aiA|exact clz|fail
theorem YD(x:Co)(l:List Un)(h:JN)(hz:yv x)(hu:aM l)(hp:kM SG h):ACalls Tryz.prog 66 [.agg (coC x),qZ l] h (.int .i64 (vaE x l)) h:=by
 have c1:=λl'=>coP x (h++l') hz (hp.app l')
 have c2:=λl'=>vaP x l (h++l') hz hu (hp.app l')
 have hE:vaE x l=(if coE x≠0 then 1 else if rgB x l=false then 20 else 0):=rfl
 by_cases g:coE x=0
 case neg=>
  have k1:(coE x=0)=False:=eqf g;rw[ipo g]at hE;rw[hE];unfold coC at c1;refine acO J2 ?_;simp (disch:=omega) only[Fz,coC,go_sem]
  repeat' first|(refine cA (c1 _) flk ?_;simp (disch:=omega) only[k1,go_sem])|exact tF|fail
 rw[ine (by simpa using g)]at hE;simp only[g]at c1
 by_cases g2:rgB x l=false
 ·rw[ipo g2]at hE;rw[hE];simp only[hE]at c2;unfold coC at c1 c2;refine acO J2 ?_;simp (disch:=omega) only[Fz,coC,go_sem]
  repeat' first|((first|refine cA (c1 _) ?_ ?_|refine cA (c2 _) ?_ ?_);exact flk;simp (disch:=omega) only[go_sem])|(apply qa;exact rvk;simp only[go_sem];first|exact qi|apply qe)|(with_reducible first|intro _|apply aiA)|exact clz|fail
 ·rw[ine g2]at hE;rw[hE];simp only[hE]at c2;unfold coC at c1 c2;refine acO J2 ?_;simp (disch:=omega) only[Fz,coC,go_sem]
  repeat' first|((first|refine cA (c1 _) ?_ ?_|refine cA (c2 _) ?_ ?_);exact flk;simp (disch:=omega) only[go_sem])|exact tF|fail
def plG(x:Co)(l:List Un)(d:List Dc)(n:Nat):List Int:=(d.take n).map (vk x l)
def IJ(x:Co)(l:List Un)(d:List Dc):List Int:=if yo x l d=0 then plG x l d d.length else []
theorem Pl(x:Co)(l:List Un)(d:List Dc)(h:JN)(hz:yv x)(hu:aM l)(hp:kM SG h)(hg:jb h frmN frmC)(h1:coE x=0)(hd:d.length<=1000000)(ht: ∀o∈d,o.txt.length<=1000):ACalls Tryz.prog 67 [.agg (coC x),qZ l,vI d] h (.tup [qx (IJ x l d),.int .i64 (yo x l d)]) h:=by
 unfold IJ
 by_cases g:256<d.length
 ·have k1:((256:Int)<d.length)=True:=eqt oma;have hE:yo x l d=4:=by unfold yo;rw[ipo g]
  rw[hE,ine (by decide)];refine acO HN ?_;simp (disch:=omega) only[NC,coC,vI,k1,go_sem]
  repeat' first|(apply qa;exact rvk;simp only[go_sem])
  exact VLe.tup ⟨qU,qi,trivial⟩
 have k1:((256:Int)<d.length)=False:=eqf oma;have hE:yo x l d=we (λi=>ai x l (d.getD i default)) 0 d.length:=by unfold yo;rw[ine g]
 rw[hE];refine acO HN ?_;simp (disch:=omega) only[NC,coC,vI,k1,go_sem];refine qr (T:=λs:Nat×Nat×AObj×AObj×AObj=>qY 38 [(1,qZ l),(3,.op h.length 1 0),(16,vI d),(17,.int .i64 d.length),(18,.int .i64 s.1),(8,.osl (h.length+2) s.2.1 1 0 s.1)])
  (H:=λs=>h++ [.mem 1 26 (coC x),.emp 1,ze s.2.1 3 (qM (plG x l d s.1)),s.2.2.1,s.2.2.2.1,s.2.2.2.2])
  (inv:=λs=>s.1<=d.length∧(∀j,j<s.1->ai x l (d.getD j default)=0)∧qG [s.2.2.1] 0=true∧qG [s.2.2.2.1] 0=true∧qG [s.2.2.2.2] 0=true) (m:=λs=>d.length-s.1) (0,1,.emp 0,.emp 0,.emp 0) ⟨nzl _,λj hj=>absurd hj (nnz j),rfl,rfl,rfl⟩ (Wk.temps ?_) ?_
 ·(simp only[vI,go_sem,qg,qc,qb,qf];try exact tT)
 rintro⟨i,v,O1,O2,O3⟩ ⟨i1,i0,i2,i3,i4⟩ K hK;simp only at i0 i1 i2 i3 i4 hK;have i2': ∀m,qG (O1::m) 0=true:=λ_=>i2
 have i3': ∀m,qG (O2::m) 0=true:=λ_=>i3
 have i4': ∀m,qG (O3::m) 0=true:=λ_=>i4
 have eL:(plG x l d i).length=i:=by unfold plG;rw[List.length_map,List.length_take];omega
 by_cases hi:i<d.length
 ·have k2:((i:Int)<d.length)=True:=eqt oma;obtain⟨o,ho⟩:=Qt (d.getD i default)
  have eo:=ho.symm;have hom:o∈d:=by rw[ho];exact zI hi
  have hS:plG x l d (i+1)=plG x l d i++ [vk x l o]:=by
   unfold plG;rw[List.take_add_one,zg hi,List.map_append,ho,gdqA,zg hi];rfl
  have c1:=λl'=>dpP x l o (h++l') hz hu (hp.app l') hg.app h1 (ht o hom)
  by_cases g3:ai x l o=0
  case neg=>
   have k3:(ai x l o=0)=False:=eqf g3;have hf:we (λi=>ai x l (d.getD i default)) 0 d.length=ai x l o:=by
    rw[kN hi i0 (by rw[eo];exact g3),eo]
   rw[hf,ine g3];unfold coC dcC at c1;simp (disch:=omega) only[coC,vI,dcC,k2,eo,i2',go_sem]
   repeat' first|(refine cA (c1 _) flk ?_;simp (disch:=omega) only[k3,i3',go_sem])|(apply qa;exact rvk;simp only[go_sem])|with_reducible apply aiA|exact clz|fail
   exact VLe.tup ⟨qU,qi,trivial⟩
  unfold dpN at c1;rw[g3]at c1;simp only[if_true]at c1;obtain⟨L,hL⟩:=Qt (plG x l d i)
  rw[<-hL]at hS eL ⊢;have eC:=jg L;have eTk:List.take i (qM L)=qM L:=ltl oma;unfold coC dcC at c1;simp (disch:=omega) only[coC,vI,dcC,k2,eo,i2',go_sem]
  repeat' first|(refine cA (c1 _) flk ?_;simp (disch:=omega) only[i3',eC,eL,eTk,Nat.mul_one,go_sem])|with_reducible apply aiA|exact clz|fail
  rw[show qM L++ [AV.int IntKind.i64 (vk x l o)]=qM (L++ [vk x l o]) by simp[qM],<-hS];refine hK _ _ (i+1,v+1,.mem (qo (some O1)+1) 65 (dcC o),.mem (qo (some O2)+1) 3 [.int .i64 (vk x l o)],O3) ⟨hi,λj hj=> ?_,rfl,rfl,i4⟩ (by simp only;omega) ?_
  ·by_cases e:j=i
   ·rw[e,eo];exact g3
   ·exact i0 j oma
  refine Wk.temps ?_
  (simp only[vI,dcC,go_sem,qg,qc,qb,qf];try exact tT)
 have k2:((i:Int)<d.length)=False:=eqf oma;obtain rfl:i=d.length:=by omega
 have hf:we (λi=>ai x l (d.getD i default)) 0 d.length=0:=zZ i0;rw[hf,ipo rfl];simp (disch:=omega) only[k2,go_sem]
 repeat' first|(apply qa;exact rvk;simp only[go_sem])
 exact VLe.tup ⟨lX (λ_=>rfl) eL.symm,qi,trivial⟩
def pcC(p:Pc):JT:=tkC p.t++ [.int .i64 p.c]
def spX(x:Co)(s f d:Nat):List JT:=(spk x s f d).map λp=> [.agg (pcC p)]
theorem Lp(x:Co)(f t s:Nat)(h:JN):ACalls Tryz.prog 72 [.agg (coC x),.int .i64 (f:Int),.int .i64 (t:Int),.int .i64 (s:Int)] h (.fn (.func 146) [] [.ip [.int .i64 (f:Int)],.ip [.int .i64 (t:Int)],.ip (coC x),.ip [.int .i64 (s:Int)]]) h:=by
 unfold coC;refine acO Oy ?_;simp (disch:=omega) only[Rr,go_sem]
 repeat' first|exact tF|fail
theorem QI(x:Co)(s f d:Nat):(spX x s f d).length=(spk x s f d).length:=by unfold spX;rw[List.length_map]
theorem B6(x:Co)(s f:Nat): ∀d e,d<=e-> ∃r,spk x s f e=spk x s f d++r:=by
 intro d e h
 induction e with
 |zero=>
  obtain rfl:d=0:=by omega
  exact⟨[],by simp⟩
 |succ e ih=>
  by_cases g:d=e+1
  ·subst g;exact⟨[],by simp⟩
  ·obtain⟨r,hr⟩:=ih oma;refine⟨r++(if pcB x s (f+e)=true then [pcT x s (f+e)] else []),?_⟩
   conv=>lhs;unfold spk
   rw[hr,List.append_assoc]
theorem Lo{x:Co}{s f k d:Nat}(hk:k<d)(hb:pcB x s (f+k)=true): ∃g:(spk x s f k).length<(spX x s f d).length,(spX x s f d)[(spk x s f k).length]= [.agg (pcC (pcT x s (f+k)))]∧(spk x s f (k+1)).length=(spk x s f k).length+1:=by
 have e1:spk x s f (k+1)=spk x s f k++ [pcT x s (f+k)]:=by
  conv=>lhs;unfold spk
  rw[ipo hb]
 obtain⟨r,hr⟩:=B6 x s f (k+1) d hk;refine⟨by rw[QI,hr,e1];simp,?_,by rw[e1];simp⟩;unfold spX;simp only[List.getElem_map,hr,e1];rw[List.getElem_append_left (by simp),List.getElem_append_right (nlr _)];simp
structure SpS where
 k:Nat
 hh:JN
theorem itS(x:Co)(s f t:Nat)(hz:yv x)(ho:CoOk x)(hs:s<x.sig.length)(ht:t<=x.col.length)(ft:f<=t):pd Tryz.prog 146 [.ip [.int .i64 (f:Int)],.ip [.int .i64 (t:Int)],.ip (coC x),.ip [.int .i64 (s:Int)]] (spX x s f (t-f)):=by
 intro h ts LI S E hS hE body start hts;have hsg:=hz.sg;have hcl:=hz.cl;have htn:=ho.tn;have htl:=hz.tl s;have q5:(0<=(s:Int))=True:=eqt oma;have q6:((s:Int)<x.tok.length)=True:=eqt oma;refine acQ Gk ?_;simp (disch:=omega) only[D9,coC,go_sem]
 repeat' first|with_reducible apply aiA|exact clz|fail
 refine qr (T:=λi:SpS=>qY 39 [(0,.yld h.length),(2,.ip [.int .i64 (t:Int)]),(3,.ip (coC x)),(4,.ip [.int .i64 (s:Int)]),(6,.int .i64 ((f+i.k:Nat):Int))]) (H:=λi=>i.hh++ [.lp .ready ts LI])
  (inv:=λi=>f+i.k<=t∧S (spk x s f i.k).length i.hh) (m:=λi=>t-f-i.k) ⟨0,h⟩ ⟨by simp only;omega,start⟩ (Wk.temps ?_) ?_
 ·(simp only[coC,go_sem,qg,qc,qb,qf];try exact tT)
 rintro⟨k,hh⟩ ⟨i1,i4⟩ K hK;simp only at i1 i4 hK;obtain⟨hlen,hlow⟩:=hS _ _ i4;have hb:(h++ [AObj.lp LS.ready ts LI]).length=(hh++ [AObj.lp LS.ready ts LI]).length:=by simp[hlen]
 by_cases hi:f+k<t
 ·have q0:(((f+k:Nat):Int)<t)=True:=eqt oma;have q1:(0<=((f+k:Nat):Int))=True:=eqt oma;have q2:(((f+k:Nat):Int)<x.col.length)=True:=eqt oma;obtain⟨c,hcx⟩:=Qt (x.col.getD (f+k) [])
  have ec:=hcx.symm;have hcl2:=ho.cl (f+k) oma;have hce:=ho.ce (f+k) oma s hs;rw[ec]at hcl2 hce;have q3:((s:Int)<c.length)=True:=eqt oma;have hpb:pcB x s (f+k)=decide (0<=c.getD s 0):=by unfold pcB;rw[ec]
  by_cases g:0<=c.getD s 0
  ·obtain⟨N,hN⟩: ∃N:Nat,c.getD s 0=N:=⟨(c.getD s 0).toNat,oma⟩
   have hNt:N<(x.tok.getD s []).length:=by
    rcases hce with e|⟨_,e⟩
    ·omega
    ·rw[hN]at e;omega
   have q4:(0<=(N:Int))=True:=eqt oma;obtain⟨T,hT⟩:=Qt (x.tok.getD s [])
   have eT:=hT.symm;rw[eT]at hNt;have q7:((N:Int)<T.length)=True:=eqt oma;obtain⟨hdl,hxx,hln⟩:=Lo (x:=x) (s:=s) (f:=f) (k:=k) (d:=t-f) oma (by rw[hpb,dqt g]);have hpc:pcT x s (f+k)=⟨T.getD N default,((f+k:Nat):Int)⟩:=by
    unfold pcT;rw[ec,eT,hN,itn]
   have hb':=body _ hh [] hdl i4;rw[hxx,hpc]at hb';unfold pcC tkC at hb';simp only[lca,lna]at hb';simp (disch:=omega) only[coC,qn,qx,qm,zR,tkC,q0,q1,q2,q3,q4,q5,q6,q7,ec,hN,eT,go_sem]
   repeat' first|with_reducible apply aiA|exact clz|fail
   ·exact⟨.ready,ts,LI,ko hlen⟩
   ·refine jQ.mono ?_ hb';rintro v h' ⟨hh',⟨rfl,hn',rfl⟩|⟨st,rfl,hs',rfl⟩⟩
    ·simp (disch:=omega) only[go_sem];refine hK _ _ ⟨k+1,hh'⟩ ⟨by simp only;omega,by simp only;rw[hln];exact hn'⟩ (by simp only;omega) (Wk.temps ?_)
     (simp only[coC,go_sem,qg,qc,qb,qf];try exact tT)
    ·simp (disch:=omega) only[go_sem];obtain⟨r1,r2⟩:=(hE _ _ hs').ret (L:=LI) st hts;exact jA trivial r1 r2 ⟨_,.inr ⟨st,hs',rfl⟩⟩ (qi)
  ·have q4:(0<=c.getD s 0)=False:=eqf g;have e1:spk x s f (k+1)=spk x s f k:=by
    conv=>lhs;unfold spk
    rw[hpb,dqf g,ine (by decide),lan]
   simp (disch:=omega) only[coC,qn,qx,q0,q1,q2,q3,q4,q5,ec,go_sem]
   repeat' first|with_reducible apply aiA|exact clz|fail
   refine hK _ _ ⟨k+1,hh⟩ ⟨by simp only;omega,by rw[e1];exact i4⟩ (by simp only;omega) (Wk.temps ?_)
   (simp only[coC,go_sem,qg,qc,qb,qf];try exact tT)
 ·have q0:(((f+k:Nat):Int)<t)=False:=eqf oma;have hk:k=t-f:=by omega
  rw[hk]at i4;simp (disch:=omega) only[coC,qn,q0,go_sem]
  repeat' first|with_reducible apply aiA|exact clz|fail
  obtain⟨r1,r2⟩:=(hS _ _ i4).ret (L:=LI) .ready hts;exact jA trivial r1 r2 ⟨hh,.inl ⟨by rw[QI];exact i4,rfl⟩⟩ (qi)
end RC
end
section
open Go Go.Proofs AF
def Kz:List Nat:= []
def EB:C:=
 (pk [O1 2 (.box 0 140) 0,ON 4 (.nilo 1 7 131) []] (((C.wk.seq (rv [MV 6 1])).seq (C.block 0 (C.range (.t 6) [7] (rv [⟨some 5,none,.alloc 2 131 [.str [],.str [],.str [],i6 0,i6
 0,.str [],i6 0],[]⟩,ST 7 5 7]) (C.block 1 (rv [LD 8 2,O1 9 (.load (some 7)) 5,⟨some 10,none,.bslc 3 7 1 131 [.str [],.str [],.str [],i6 0,i6 0,.str [],i6 0] [(0,7)],[.t 9]⟩,O2
 11 (.app 4 7 131 88) 8 10,ST 1 2 11]))))).seq (p9 [LD 12 2,MV 4 12])))
theorem GR:qK Tryz.prog 223 13 5 [RV.tmp 4] EB:=fi Tryz.f223 [2,4,5,10,11] Kz [1]
end
section
open Go Go.Proofs AF HY LN
namespace RC
def wP(L:List Pc):JT:=L.flatMap pcC
instance:Inhabited Pc:=⟨⟨default,0⟩⟩
def dw(L:List Pc):AV:= .sl L.length λi=>pcC (L.getD i default)
theorem sU(l:List Pc):(dw l).flag=true:=rfl
theorem ou(l:List Pc):(dw l).strip=dw l:=rfl
theorem VG{fz:Nat->Bool}{h:JN}{n:Nat}(l:List Pc):rei fz h (n+1) (dw l)=dw l:=rfl
theorem Kp{fz:Nat->Bool}{h:JN}{n:Nat}(l:List Pc):frz fz h (n+1) (dw l)=dw l:=rfl
attribute [go_sem] sU ou VG Kp
theorem uw(p:Pc):(pcC p).length=7:=rfl
theorem cg(L:List Pc):(wP L).length=L.length*7:=by
 unfold wP
 induction L with
 |nil=>rfl
 |cons a L ih=>rw[List.flatMap_cons,lap,ih,lco,uw];omega
theorem xg(A B:List Pc):wP (A++B)=wP A++wP B:=by simp[wP]
theorem xh(a:Pc):wP [a]=pcC a:=by simp[wP]
theorem uy(L:List Pc): ∀i,(wP L).drop (i*7)=wP (L.drop i):=by
 induction L with
 |nil=>intro i;simp[wP]
 |cons a L ih=>
  intro i;cases i with
  |zero=>simp
  |succ i=>
   rw[show wP (a::L)=pcC a++wP L from rfl,show (a::L).drop (i+1)=L.drop i from rfl,<-ih i];rw[show (i+1)*7=(pcC a).length+i*7 by rw[uw];omega,List.drop_append,List.drop_eq_nil_of_le oma,lna,Nat.add_sub_cancel_left]
theorem Vp{L:List Pc}{i:Nat}(hi:i<L.length):((wP L).drop (i*7)).take 7=pcC (L.getD i default):=by
 rw[uy,List.drop_eq_getElem_cons hi,gdqA,zg hi];rfl
theorem Vq(L:List Pc)(n:Nat): ∀c∈wP L,qR n c=true:=by
 intro c hc;unfold wP at hc;obtain⟨x,_,hx⟩:=List.mem_flatMap.1 hc;unfold pcC tkC at hx;simp only[lca,lna,List.mem_cons,List.not_mem_nil,or_false]at hx;rcases hx with rfl|rfl|rfl|rfl|rfl|rfl|rfl<;>rfl
theorem lY{v n:Nat}{L:List Pc}{ty:TypeId}{fz:Nat->Bool}{h:JN}{d:Nat}(hn:n=L.length):VLe (fP (some (ze v ty (wP L))) v 7 0 n (rei fz h (d+1))) (dw L):=by
 subst hn;unfold ze;split
 ·rename_i e
  have:L= []:=by
   cases L with
   |nil=>rfl
   |cons a r=>exact absurd e (by simp[wP,pcC,tkC])
  subst this;rw[slOf_emp,ipo rfl];exact qU
 ·rw[slOf_mem,ipo ⟨rfl,by rw[cg];omega⟩];refine VLe.sl_eq rfl (λi hi=> ?_);simp only[Nat.zero_add];rw[Vp hi];rfl
theorem Sl(f:FuncId)(A B C D:JT)(L:List Pc)(h:JN)(hf:pd Tryz.prog f [.ip A,.ip B,.ip C,.ip D] (L.map λp=> [.agg (pcC p)]))(hL:L.length<=1000000000):ACalls Tryz.prog 223 [.nl,.fn (.func f) [] [.ip A,.ip B,.ip C,.ip D]] h (dw L) h:=by
 refine acO GR ?_;simp (disch:=omega) only[EB,go_sem];refine⟨_,_,Wk.ownNil (j:=h.length) (i:=0) (k:=h.length+4) (v:=1) (ty:=140) (cs:= [.nl]) (ve:=0) (sz:=7) ?m1 rfl ?m2,?_⟩
 case m1=>simp only[go_sem]
 case m2=>simp only[go_sem]
 simp (disch:=omega) only[List.set_cons_zero,go_sem];have hxl:(L.map λp=> [AV.agg (pcC p)]).length=L.length:=List.length_map ..;have hLow: ∀(i n:Nat) O1 O2,(∀n,lowO n O1)->(∀n,lowO n O2)->LowI (h++ [.mem 1 140 [.osl (h.length+4) 0 7 0 0],.emp 1,.emp 0,.emp 0,.emp 0]) (h++ [.mem 1 140 [.osl (h.length+4) i 7 0 n],.emp 1,O1,O2,ze i 131 (wP (L.take i))]):=λi n O1 O2 l1 l2=>by
  refine⟨by simp,λo ho=> ?_⟩;rcases List.mem_append.1 ho with h1|h1
  ·exact .inl (List.mem_append_left _ h1)
  ·simp only[List.mem_cons,List.not_mem_nil,or_false]at h1;have hb: ∀n,lowO n (ze i 131 (wP (L.take i))):=λn=>jd (Vq _ n)
   rcases h1 with rfl|rfl|rfl|rfl|rfl
   ·right;refine⟨λc hc=> ?_,λc hc=> ?_⟩<;>
    ·rw[List.mem_singleton]at hc;subst hc;simp[qR]
     try omega
   ·left;simp
   ·right;exact⟨l1 _,l1 _⟩
   ·right;exact⟨l2 _,l2 _⟩
   ·right;exact⟨hb _,hb _⟩
 refine zn hf (λa ha=> ?_)
  (S:=λi hh=> ∃O1 O2,qG [O1] 0=true∧qG [O2] 0=true∧(∀n,lowO n O1)∧(∀n,lowO n O2)∧hh=h++ [.mem 1 140 [.osl (h.length+4) i 7 0 i],.emp 1,O1,O2,ze i 131 (wP (L.take i))]) (E:=λ_ _=>False) ?_ ?_ ?_ ?_ ?_ ?_ ?_
 ·obtain⟨c,_,rfl⟩:=List.mem_map.1 ha;rfl
 ·rintro i hh ⟨O1,O2,_,_,l1,l2,rfl⟩;exact hLow _ _ _ _ l1 l2
 ·intro s hh hf;exact hf.elim
 ·exact⟨.emp 0,.emp 0,rfl,rfl,λ_=>trivial,λ_=>trivial,rfl⟩
 ·simp[qR,qR.lowVs]
  try omega
 ·rintro i hh tl LI TS hi ⟨O1,O2,s1,s2,l1,l2,rfl⟩ hlen K K2 hK hN hR' hX;have hi':i<L.length:=by rw[hxl]at hi;exact hi
  rw[List.getElem_map];have s1': ∀m,qG (O1::m) 0=true:=λ_=>s1
  have s2': ∀m,qG (O2::m) 0=true:=λ_=>s2
  have hS:L.take (i+1)=L.take i++ [L.getD i default]:=by
   rw[List.take_add_one,zg hi',gdqA,zg hi'];rfl
  have eG:L[i]=L.getD i default:=by rw[gdqA,zg hi'];rfl
  rw[eG];obtain⟨p,hp⟩:=Qt (L.getD i default)
  rw[<-hp]at hS ⊢;obtain⟨M,hM⟩:=Qt (L.take i)
  have eM:M.length=i:=by rw[hM,List.length_take];omega
  rw[<-hM]at hS ⊢;have eC:=cg M;have eTk:List.take (i*7) (wP M)=wP M:=ltl oma;simp only[ke,List.append_assoc,lca,lna];simp (disch:=omega) only[s1',pcC,tkC,go_sem];refine hK _ _ (h++ [.mem 1 140 [.osl (h.length+4) i 7 0 i],.emp 1,.mem (qo (some O1)+1) 131 (pcC p),O2,ze i 131 (wP M)]) ?_ ?_ ?_
  ·simp[pcC,tkC]
  ·simp
  ·simp only[List.append_assoc,lca,lna];simp (disch:=omega) only[s2',pcC,tkC,eC,eTk,eM,go_sem]
   repeat' first|with_reducible apply aiA|exact clz|fail
   have eA:wP M++ [AV.str p.t.text,AV.str p.t.norm,AV.str p.t.page,.int .i64 p.t.line,.int .i64 p.t.flags,.str p.t.name,.int .i64 p.c]=wP (M++ [p]):=by rw[xg,xh];rfl
   refine hN _ _ (h++ [.mem 1 140 [.osl (h.length+4) (i+1) 7 0 (i+1)],.emp 1,.mem (qo (some O1)+1) 131 (pcC p),.mem (qo (some O2)+1) 131 (pcC p),ze (i+1) 131 (wP (M++ [p]))]) ?_ ?_ ⟨_,_,rfl,rfl,?_,?_,by rw[hS]⟩
   ·rw[<-eA];simp[pcC,tkC];exact nlr _
   ·simp
   ·intro n c hc;simp[pcC,tkC]at hc;rcases hc with rfl|rfl|rfl|rfl|rfl|rfl|rfl<;>rfl
   ·intro n c hc;simp[pcC,tkC]at hc;rcases hc with rfl|rfl|rfl|rfl|rfl|rfl|rfl<;>rfl
 ·rintro hh ⟨O1,O2,s1,s2,l1,l2,rfl⟩;rw[hxl,List.take_length];simp (disch:=omega) only[go_sem]
  repeat' first|(apply qa;exact rvk;simp only[go_sem])|with_reducible apply aiA|exact clz|fail
  exact lY rfl
 ·intro e hh hf;exact hf.elim
theorem SJ(f:FuncId)(A B C D:JT)(L:List Pc)(h:JN)(hf:pd Tryz.prog f [.ip A,.ip B,.ip C,.ip D] (L.map λp=> [.agg (pcC p)]))(hL:L.length<=1000000000):ACalls Tryz.prog 148 [.fn (.func f) [] [.ip A,.ip B,.ip C,.ip D]] h (dw L) h:=by
 have c1:=λh=>Sl f A B C D L h hf hL
 refine acO Gm ?_;simp (disch:=omega) only[Eb,go_sem]
 repeat' first|(refine cA (c1 _) flk ?_;simp (disch:=omega) only[go_sem])|exact tF|fail
theorem Tq(h:JN):ACalls Tryz.prog 73 [] h (.agg [.nilfn,.fn (.func 147) [] [],.fn (.func 149) [] [],.fn (.func 151) [] []]) h:=by
 refine acO Oz ?_;simp (disch:=omega) only[Rt,go_sem]
 repeat' first|exact tF|fail
theorem To(x:Co)(u:Un)(o:Dc)(h:JN):ACalls Tryz.prog 151 [.agg (coC x),.agg (unC u),.agg (dcC o)] h (dw []) h:=by
 refine acO Gs ?_;simp (disch:=omega) only[Ee,coC,unC,dcC,go_sem]
 repeat' first|(apply qa;exact rvk;simp only[go_sem])
 exact qU
theorem Tm(x:Co)(u:Un)(o:Dc)(s f t:Nat)(h:JN)(hz:yv x)(ho:CoOk x)(hx:zJ x o.sig=s)(hs:s<x.sig.length)(hf:u.frm=f)(hu:u.to=t)(ht:t<=x.col.length)(ft:f<=t):ACalls Tryz.prog 147 [.agg (coC x),.agg (unC u),.agg (dcC o)] h (dw (spk x s f (t-f))) h:=by
 have c1:=λh=>AE x.sig.length (λj=>x.sig.getD j []) o.sig h hz.sg
 have hS:w8 (λj=>decide (o.sig=x.sig.getD j [])) x.sig.length 0=zJ x o.sig:=rfl;simp only[hS,hx]at c1;have c2:=λh=>Lp x f t s h
 have hcl:=hz.cl;have c3:=λh=>SJ 146 [.int .i64 (f:Int)] [.int .i64 (t:Int)] (coC x) [.int .i64 (s:Int)] (spk x s f (t-f)) h (itS x s f t hz ho hs ht ft) (Nat.le_trans (al x s f (t-f)) oma)
 unfold coC at c2 c3;refine acO Gl ?_;simp (disch:=omega) only[Ea,coC,unC,dcC,strs,hf,hu,go_sem]
 repeat' first|((first|refine cA (c1 _) ?_ ?_|refine cA (c2 _) ?_ ?_|refine cA (c3 _) ?_ ?_);exact flk;simp (disch:=omega) only[strs,go_sem])|exact tF|fail
 done
def cjP(L:List Tk)(f:Int):List Pc:=L.map λt=>⟨t,f⟩
theorem YE(L:List Tk)(f:Int):(cjP L f).length=L.length:=List.length_map ..
theorem Q5{s:Str}{t:Tk}(h:t∈dy s):t.name= []∧(t.flags=0∨t.flags=16∨t.flags=8∨t.flags=24):=by
 obtain⟨a,⟨e,g⟩,rfl,_⟩:=iE s h;refine⟨by rw[e];rfl,?_⟩;show a.flags=0∨a.flags=16∨a.flags=8∨a.flags=24;rcases g with⟨g|g,_⟩|⟨g|g,_⟩
 ·exact .inl g
 ·exact .inr (.inl g)
 ·exact .inr (.inr (.inl g))
 ·exact .inr (.inr (.inr g))
theorem Tn(x:Co)(u:Un)(o:Dc)(h:JN)(hl:o.txt.length<=1000)(hs:o.txt≠ [])(hc:zS o.txt=0)(he:mj o.txt=0)(hg:jb h frmN frmC):ACalls Tryz.prog 149 [.agg (coC x),.agg (unC u),.agg (dcC o)] h (dw (cjP (dy o.txt) u.frm)) h:=by
 have c1:=λl=>SE o.txt (h++l) hl hs hc hg.app
 have hT:ml o.txt=dy o.txt:=by unfold ml;rw[ipo he]
 rw[hT]at c1;have hfl:=λt=> @Q5 o.txt t
 have hTl:=cX o.txt;obtain⟨T,hTe⟩:=Qt (dy o.txt)
 rw[<-hTe]at c1 hTl hfl ⊢;have zu: ∀g l,valL g .len [zR l]= .int .i64 l.length:=λ_ _=>rfl
 have zv: ∀g l,okL g .len [zR l]=True:=λ_ _=>eqt trivial
 refine acO Gn ?_;simp (disch:=omega) only[Ec,coC,unC,dcC,go_sem]
 repeat' first|(refine cA (c1 _) flk ?_;simp (disch:=omega) only[zu,zv,go_sem])|with_reducible apply aiA|exact clz|fail
 refine qr (T:=λs:Nat×Nat×AObj×AObj=>qY 32 [(4,.op (h.length+1) 1 0),(12,zR T),(13,.int .i64 T.length),(14,.int .i64 s.1),(7,.osl (h.length+4) s.2.1 7 0 s.1)])
  (H:=λs=>h++ [.mem 1 26 (coC x),.mem 1 39 (unC u),.mem 1 65 (dcC o),.emp 1,ze s.2.1 131 (wP (cjP (T.take s.1) u.frm)),s.2.2.1,s.2.2.2,.emp 0])
  (inv:=λs=>s.1<=T.length∧qG [s.2.2.1] 0=true∧qG [s.2.2.2] 0=true) (m:=λs=>T.length-s.1) (0,1,.emp 0,.emp 0) ⟨nzl _,rfl,rfl⟩ (Wk.temps ?_) ?_
 ·(simp only[zR,go_sem,qg,qc,qb,qf];try exact tT)
 rintro⟨i,v,O1,O2⟩ ⟨i1,i2,i3⟩ K hK;simp only at i1 i2 i3 hK;have i2': ∀m,qG (O1::m) 0=true:=λ_=>i2
 have i3': ∀m,qG (O2::m) 0=true:=λ_=>i3
 have eL:(cjP (T.take i) u.frm).length=i:=by rw[YE,List.length_take];omega
 by_cases hi:i<T.length
 ·have k2:((i:Int)<T.length)=True:=eqt oma;obtain⟨t,ht⟩:=Qt (T.getD i default)
  have et:=ht.symm;obtain⟨hn,hf⟩:=hfl t (by rw[ht];exact zI hi);have hS:cjP (T.take (i+1)) u.frm=cjP (T.take i) u.frm++ [⟨t,u.frm⟩]:=by
   unfold cjP;rw[List.take_add_one,zg hi,List.map_append,ht,gdqA,zg hi];rfl
  obtain⟨L,hL⟩:=Qt (cjP (T.take i) u.frm)
  rw[<-hL]at hS eL ⊢;have eC:=cg L;have eTk:List.take (i*7) (wP L)=wP L:=ltl oma;obtain⟨tx,nm,pg,ln,fl,na⟩:=t;simp only at hn hf;subst hn;rcases hf with rfl|rfl|rfl|rfl
  all_goals
   simp (disch:=omega) only[coC,unC,dcC,zR,tkC,k2,et,i2',i3',eC,eL,eTk,go_sem]
   repeat' first|with_reducible apply aiA|exact clz|fail
  ·refine hK _ _ (i+1,v+1,.mem (qo (some O1)+1) 119 (tkC ⟨tx,nm,pg,ln,0,[]⟩),.mem (qo (some O2)+1) 131 (pcC ⟨⟨tx,nm,pg,ln,0,[]⟩,u.frm⟩)) ⟨hi,rfl,rfl⟩ (by simp only;omega) ?_;simp only[hS,pcC,tkC,xg,xh,lca,lna];refine Wk.temps ?_
   (simp only[zR,tkC,go_sem,qg,qc,qb,qf];try exact tT)
  ·refine hK _ _ (i+1,v+1,.mem (qo (some O1)+1) 119 (tkC ⟨tx,nm,pg,ln,16,[]⟩),.mem (qo (some O2)+1) 131 (pcC ⟨⟨tx,nm,pg,ln,16,[]⟩,u.frm⟩)) ⟨hi,rfl,rfl⟩ (by simp only;omega) ?_;simp only[hS,pcC,tkC,xg,xh,lca,lna];refine Wk.temps ?_
   (simp only[zR,tkC,go_sem,qg,qc,qb,qf];try exact tT)
  ·refine hK _ _ (i+1,v+1,.mem (qo (some O1)+1) 119 (tkC ⟨tx,nm,pg,ln,8,[]⟩),.mem (qo (some O2)+1) 131 (pcC ⟨⟨tx,nm,pg,ln,8,[]⟩,u.frm⟩)) ⟨hi,rfl,rfl⟩ (by simp only;omega) ?_;simp only[hS,pcC,tkC,xg,xh,lca,lna];refine Wk.temps ?_
   (simp only[zR,tkC,go_sem,qg,qc,qb,qf];try exact tT)
  ·refine hK _ _ (i+1,v+1,.mem (qo (some O1)+1) 119 (tkC ⟨tx,nm,pg,ln,24,[]⟩),.mem (qo (some O2)+1) 131 (pcC ⟨⟨tx,nm,pg,ln,24,[]⟩,u.frm⟩)) ⟨hi,rfl,rfl⟩ (by simp only;omega) ?_;simp only[hS,pcC,tkC,xg,xh,lca,lna];refine Wk.temps ?_
   (simp only[zR,tkC,go_sem,qg,qc,qb,qf];try exact tT)
 have k2:((i:Int)<T.length)=False:=eqf oma;obtain rfl:i=T.length:=by omega
 simp (disch:=omega) only[k2,go_sem]
 repeat' first|(apply qa;exact rvk;simp only[go_sem])
 rw[List.take_length]at eL ⊢;exact lY eL.symm
end RC
end
section
open Go Go.Proofs AF
def Au:List Nat:= [69]
def Di:C:=
 (pk [O1 4 (.box 0 131) 0] (pk [oE 9 0 4,oE 10 0 9,LD 11 10,oE 12 6 4,LD 13 12,MV 14 1,MV 15 2,oE 16 0 4,oE 17 4 16,LD 18 17,oT 19 .and 18 4,oT 20 .neq 19 0,oE 21 0 4,oE 22 5
 21,LD 23 22,⟨some 24,none,.build [.str [],i6 0,i6 0,i6 0,.bool false,.bool false,.str []] [(0,1),(1,1),(2,1),(3,1),(5,1),(6,1)],[.t 11,.t 13,.t 14,.t 15,.t 20,.t 23]⟩,⟨some
 7,none,.alloc 1 133 [.str [],i6 0,i6 0,i6 0,.bool false,.bool false,.str []],[]⟩,ST 7 7 24] (pk [LD 25 3,O1 26 .len 25,MV 8 26] (pk [oE 27 0 4,oE 28 4 27,LD 29 28,oT 30 .and 29
 16,oT 31 .neq 30 0,MV 32 31,MG 33 32 true 8,PC 34 32 true (.bin .gtr) 33 (i6 0),PF 35 32 34,MV 36 35,P1 37 36 true (.load none) 3,MG 38 36 true 8,PC 39 36 true (.bin .sub) 38
 (i6 1),P2 40 36 true (.idxA 7) 37 39,P1 41 36 true (.fldA 0) 40,P1 42 36 true (.load none) 41,P1 43 36 true (.fldA 0) 7,P1 44 36 true (.load none) 43,P2 45 36 true (.call 70
 true) 42 44,PF 46 36 45,oE 47 4 7,ST 1 47 46] (rv [LD 48 3,O1 49 (.load (some 7)) 7,⟨some 50,none,.bslc 2 7 1 133 [.str [],i6 0,i6 0,i6 0,.bool false,.bool false,.str []]
 [(0,7)],[.t 49]⟩,O2 51 (.app 3 7 133 64) 48 50,ST 1 3 51])))))
theorem tg:qK Tryz.prog 69 52 4 [] Di:=fi Tryz.f69 [4,7,50,51] Au []
end
section
open Go Go.Proofs AF HY LN
namespace RC
theorem Nn: ∀f:Nat,f<32->ZE .i64 (f:Int) 4=if f.testBit 2 then 4 else 0:=by decide+kernel
theorem DG: ∀f:Nat,f<32->ZE .i64 (f:Int) 16=if f.testBit 4 then 16 else 0:=by decide+kernel
def AO(W:List Wd):Option Str:=if W.length=0 then none else some (W.getD (W.length-1) default).text
section
variable {h : JN} {a b c va : Nat}
def A9(h:JN)(a b c:Nat)(va vb:Nat)(W:List Wd)(Z:AObj):JN:=tri h a b c (.mem va 45 [.osl b vb 7 0 W.length]) (ze vb 133 (jv W)) Z
theorem Si(t:T3 h a b c)(W:List Wd)(p:Pc)(u d:Int)(vb F:Nat)(Z:AObj)(hZ: ∀n,lowO n Z)(hF:p.t.flags=F)(hF2:F<32)(hx:p.t.text.length<=1000000000)(hW:W.length<=1000000000)(hWx: ∀w∈W,w.text.length<=1000000000):ACalls Tryz.prog 69 [.agg (pcC p),.int .i64 u,.int .i64 d,.op a va 0] (A9 h a b c va vb W Z) (.tup []) (A9 h a b c va (vb+1) (W++ [mkW (AO W) ⟨p,u,d⟩]) Z):=by
 have ta:=t.la;have tb:=t.lb;have tc:=t.lc;have zga: ∀ {X Y Z l},qu (a) (tri h a b c X Y Z++l)=some X:=vF (t);have yga: ∀ {X Y Z},qu (a) (tri h a b c X Y Z)=some X:=λ{X Y Z}=>by have:=zga (X:=X) (Y:=Y) (Z:=Z) (l:= []);simpa only[lan] using this
 have zgb: ∀ {X Y Z l},qu (b) (tri h a b c X Y Z++l)=some Y:=v6 (t);have ygb: ∀ {X Y Z},qu (b) (tri h a b c X Y Z)=some Y:=λ{X Y Z}=>by have:=zgb (X:=X) (Y:=Y) (Z:=Z) (l:= []);simpa only[lan] using this
 have zgc: ∀ {X Y Z l},qu (c) (tri h a b c X Y Z++l)=some Z:=vG (t);have ygc: ∀ {X Y Z},qu (c) (tri h a b c X Y Z)=some Z:=λ{X Y Z}=>by have:=zgc (X:=X) (Y:=Y) (Z:=Z) (l:= []);simpa only[lan] using this
 have zsa: ∀ {X Y Z o l},qt (a) (tri h a b c X Y Z++l) o=tri h a b c o Y Z++l:=v7 (t);have ysa: ∀ {X Y Z o},qt (a) (tri h a b c X Y Z) o=tri h a b c o Y Z:=λ{X Y Z o}=>by have:=zsa (X:=X) (Y:=Y) (Z:=Z) (o:=o) (l:= []);simpa only[lan] using this
 have zsb: ∀ {X Y Z o l},qt (b) (tri h a b c X Y Z++l) o=tri h a b c X o Z++l:=wz (t);have ysb: ∀ {X Y Z o},qt (b) (tri h a b c X Y Z) o=tri h a b c X o Z:=λ{X Y Z o}=>by have:=zsb (X:=X) (Y:=Y) (Z:=Z) (o:=o) (l:= []);simpa only[lan] using this
 have zsc: ∀ {X Y Z o l},qt (c) (tri h a b c X Y Z++l) o=tri h a b c X Y o++l:=wA (t);have ysc: ∀ {X Y Z o},qt (c) (tri h a b c X Y Z) o=tri h a b c X Y o:=λ{X Y Z o}=>by have:=zsc (X:=X) (Y:=Y) (Z:=Z) (o:=o) (l:= []);simpa only[lan] using this
 have zca: ∀ {X Y Z v l},cellsOf (tri h a b c X Y Z++l) (a) v=qv (some X) v:=xp (t);have yca: ∀ {X Y Z v},cellsOf (tri h a b c X Y Z) (a) v=qv (some X) v:=λ{X Y Z v}=>by have:=zca (X:=X) (Y:=Y) (Z:=Z) (v:=v) (l:= []);simpa only[lan] using this
 have zcb: ∀ {X Y Z v l},cellsOf (tri h a b c X Y Z++l) (b) v=qv (some Y) v:=xq (t);have ycb: ∀ {X Y Z v},cellsOf (tri h a b c X Y Z) (b) v=qv (some Y) v:=λ{X Y Z v}=>by have:=zcb (X:=X) (Y:=Y) (Z:=Z) (v:=v) (l:= []);simpa only[lan] using this
 have zcc: ∀ {X Y Z v l},cellsOf (tri h a b c X Y Z++l) (c) v=qv (some Z) v:=xr (t);have ycc: ∀ {X Y Z v},cellsOf (tri h a b c X Y Z) (c) v=qv (some Z) v:=λ{X Y Z v}=>by have:=zcc (X:=X) (Y:=Y) (Z:=Z) (v:=v) (l:= []);simpa only[lan] using this
 have zla: ∀ {X Y Z v l},qF (tri h a b c X Y Z++l) (a) v=qH (some X) v:=xt (t);have yla: ∀ {X Y Z v},qF (tri h a b c X Y Z) (a) v=qH (some X) v:=λ{X Y Z v}=>by have:=zla (X:=X) (Y:=Y) (Z:=Z) (v:=v) (l:= []);simpa only[lan] using this
 have zlb: ∀ {X Y Z v l},qF (tri h a b c X Y Z++l) (b) v=qH (some Y) v:=xu (t);have ylb: ∀ {X Y Z v},qF (tri h a b c X Y Z) (b) v=qH (some Y) v:=λ{X Y Z v}=>by have:=zlb (X:=X) (Y:=Y) (Z:=Z) (v:=v) (l:= []);simpa only[lan] using this
 have zlc: ∀ {X Y Z v l},qF (tri h a b c X Y Z++l) (c) v=qH (some Z) v:=xw (t);have ylc: ∀ {X Y Z v},qF (tri h a b c X Y Z) (c) v=qH (some Z) v:=λ{X Y Z v}=>by have:=zlc (X:=X) (Y:=Y) (Z:=Z) (v:=v) (l:= []);simpa only[lan] using this
 have e4:=Nn F hF2;have e16:=DG F hF2;have hL:=my W;have ev:PK p.t.flags=F.testBit 2:=by unfold PK;rw[hF,itn]
 have ej:jnB p.t.flags=F.testBit 4:=by unfold jnB;rw[hF,itn]
 unfold mkW;simp only[ev,ej];unfold A9;have eTk:List.take (W.length*7) (jv W)=jv W:=ltl oma;have lo: ∀(n:Nat),lowO h.length (.mem va 45 [.osl b (vb+1) 7 0 n]):=λn cc hc=>by
  rw[List.mem_singleton]at hc;subst hc;simp[qR];omega
 have lq: ∀L:List Wd,lowO h.length (ze (vb+1) 133 (jv L)):=λL=>jd (yM L _)
 have fin: ∀(w:Wd) (tt:JT) (tl:JN),fnQ [] (tri h a b c (.mem va 45 [.osl b vb 7 0 W.length]) (ze vb 133 (jv W)) Z) (λr1 h1=>r1= .tup []∧h1=tri h a b c (.mem va 45 [.osl b (vb+1) 7 0 (W++ [w]).length]) (ze (vb+1) 133 (jv (W++ [w]))) Z) .normal tt (tri h a b c (.mem va 45 [.osl b (vb+1) 7 0 (W.length+1)]) (ze (vb+1) 133 (jv W++wdC w)) Z++tl):=λw tt tl=>by
  have eA:jv W++wdC w=jv (W++ [w]):=by rw[WG,WH]
  rw[eA,show (W++ [w]).length=W.length+1 by simp];exact zH trivial (by simp only[tri_len]) (jG t (lo _) (lq _) (hZ _)) ⟨rfl,rfl⟩ (qi)
 have k4:((4:Int)=0)=False:=eqf (by decide);have k16:((16:Int)=0)=False:=eqf (by decide);have hb1: ∀n,(b !=h.length+n)=true:=λn=>by simp;omega
 by_cases hW0:W= []
 ·have k0:((0:Int)<W.length)=False:=eqf (by rw[hW0];simp);have eG:(qv (some (ze vb 133 (jv W))) vb).getD []=jv W:=by rw[hW0];rfl
  have el:AO W=none:=by unfold AO;rw[ipo (by rw[hW0];rfl)]
  rw[el];cases g2:F.testBit 2<;>cases g4:F.testBit 4<;>rw[g2]at e4<;>rw[g4]at e16<;>simp only[Bool.false_eq_true,if_false,if_true]at e4 e16
  all_goals
   refine acO tg ?_;simp (disch:=omega) only[Di,pcC,tkC,hF,e4,e16,zca,zcb,zlb,qX,ql,eG,hL,k0,k4,k16,decide_true,decide_false,Bool.not_false,Bool.not_true,Bool.and_false,go_sem]
   repeat' first|(refine qj ( .bool false) ?_;simp (disch:=omega) only[zga,zgb,zsa,zsb,zca,zcb,zlb,qX,ql,eG,eTk,hL,Bool.not_false,Bool.and_false,go_sem])|with_reducible apply aiA|exact clz|fail
  all_goals try exact hb1 _
  all_goals exact fin ⟨_,_,_,_,_,_,_⟩ _ _
 ·have hpos:0<W.length:=List.length_pos_iff.2 hW0;have k0:((0:Int)<W.length)=True:=eqt oma;obtain⟨z,hz⟩:=Qt (W.getD (W.length-1) default)
  have el:AO W=some z.text:=by unfold AO;rw[ine oma,hz]
  rw[el];have hzx:=hWx z (by rw[hz];exact zI oma);have gI:(jv W)[(W.length-1)*7]? =some (.str z.text):=by
   have:=mw (L:=W) (i:=W.length-1) oma
   rw[<-hz]at this;have h2:(((jv W).drop ((W.length-1)*7)).take 7)[0]? =some (.str z.text):=by rw[this];rfl
   rwa [List.getElem?_take,ipo oma,List.getElem?_drop,Nat.add_zero]at h2
  have eI:((W.length:Int)-1).toNat=W.length-1:=by omega
  have eO:qv (some (ze vb 133 (jv W))) vb=some (jv W):=by
   rw[vB (λe=>by rw[e]at hL;simp at hL;omega),ql,ipo rfl]
  have c1:=λh=>Ti z.text p.t.text h hzx hx
  cases g2:F.testBit 2<;>cases g4:F.testBit 4<;>rw[g2]at e4<;>rw[g4]at e16<;>simp only[Bool.false_eq_true,if_false,if_true]at e4 e16
  case false.false=>
   refine acO tg ?_;simp (disch:=omega) only[Di,pcC,tkC,hF,e4,e16,zca,zcb,zlb,qX,ql,eO,hL,k0,decide_true,Bool.not_false,Bool.not_true,Bool.and_true,Bool.false_and,Bool.true_and,eI,gI,go_sem]
   repeat' first|(refine qj ( .bool false) ?_;simp (disch:=omega) only[zga,zgb,zsa,zsb,zca,zcb,zlb,qX,ql,eO,eTk,hL,Bool.not_false,Bool.false_and,Bool.true_and,go_sem])|with_reducible apply aiA|exact clz|fail
   all_goals try exact hb1 _
   exact fin ⟨_,_,_,_,_,_,_⟩ _ _
  case false.true=>
   refine acO tg ?_;simp (disch:=omega) only[Di,pcC,tkC,hF,e4,e16,zca,zcb,zlb,qX,ql,eO,hL,k0,k16,decide_true,decide_false,Bool.not_false,Bool.not_true,Bool.and_true,Bool.false_and,Bool.true_and,eI,gI,go_sem]
   repeat' first|(refine cG (λe=>c1 _) flk ?_;simp (disch:=omega) only[zga,zgb,zsa,zsb,zca,zcb,zlb,qX,ql,eO,eTk,hL,Bool.not_true,Bool.false_and,Bool.true_and,go_sem])|with_reducible apply aiA|exact clz|fail
   all_goals try exact hb1 _
   exact fin ⟨_,_,_,_,_,_,_⟩ _ _
  case true.false=>
   refine acO tg ?_;simp (disch:=omega) only[Di,pcC,tkC,hF,e4,e16,zca,zcb,zlb,qX,ql,eO,hL,k0,k4,decide_true,decide_false,Bool.not_false,Bool.not_true,Bool.and_true,Bool.false_and,Bool.true_and,eI,gI,go_sem]
   repeat' first|(refine qj ( .bool false) ?_;simp (disch:=omega) only[zga,zgb,zsa,zsb,zca,zcb,zlb,qX,ql,eO,eTk,hL,Bool.not_false,Bool.false_and,Bool.true_and,go_sem])|with_reducible apply aiA|exact clz|fail
   all_goals try exact hb1 _
   exact fin ⟨_,_,_,_,_,_,_⟩ _ _
  case true.true=>
   refine acO tg ?_;simp (disch:=omega) only[Di,pcC,tkC,hF,e4,e16,zca,zcb,zlb,qX,ql,eO,hL,k0,k4,k16,decide_true,decide_false,Bool.not_false,Bool.not_true,Bool.and_true,Bool.false_and,Bool.true_and,eI,gI,go_sem]
   repeat' first|(refine cG (λe=>c1 _) flk ?_;simp (disch:=omega) only[zga,zgb,zsa,zsb,zca,zcb,zlb,qX,ql,eO,eTk,hL,Bool.not_true,Bool.false_and,Bool.true_and,go_sem])|with_reducible apply aiA|exact clz|fail
   all_goals try exact hb1 _
   exact fin ⟨_,_,_,_,_,_,_⟩ _ _
end
def PcF(p:Pc):Prop:=(∃F:Nat,p.t.flags=F∧F<32)∧p.t.text.length<=64
theorem Bg{p:Pc}(h:tkE p.t=0):PcF p:=by
 refine⟨?_,(Q2 h).2⟩;unfold tkE at h;split at h
 ·cases h
 ·rename_i g;exact⟨p.t.flags.toNat,oma,oma⟩
theorem vV{x:Co}(ho:CoOk x){s f d:Nat}(hs:s<x.sig.length)(hd:f+d<=x.col.length): ∀p∈spk x s f d,PcF p:=by
 intro p hp;obtain⟨k,k1,k2,k3,rfl⟩:=gN.1 hp;exact Bg (ux ho hs oma k3).1
theorem XE{s:Str}{f:Int}(h:mj s=0): ∀p∈cjP (dy s) f,PcF p:=by
 intro p hp;unfold cjP at hp;obtain⟨t,ht,rfl⟩:=List.mem_map.1 hp;obtain⟨_,g⟩:=Q5 ht;refine⟨?_,?_⟩
 ·rcases g with g|g|g|g
  ·exact⟨0,g,oma⟩
  ·exact⟨16,g,oma⟩
  ·exact⟨8,g,oma⟩
  ·exact⟨24,g,oma⟩
 ·unfold mj at h;split at h
  ·cases h
  ·rename_i g2;have g3:=xH.1 (Bool.eq_false_iff.2 g2);obtain⟨u,_,e,hu⟩:=iE s ht
   have:=g3 u hu
   rw[e];exact this
theorem Z3{L:List Rw}{n:Nat}(h: ∀r∈L,r.p.t.text.length<=n): ∀w∈bsW L,w.text.length<=n:=by
 intro w hw;unfold bsW at hw;obtain⟨i,hi,rfl⟩:=List.mem_map.1 hw;rw[List.mem_range]at hi;exact h _ (zI hi)
theorem Dy{hh:JN}{a b c va vb:Nat}{Z:AObj}(t:T3 hh a b c)(L:List Rw)(p:Pc)(u d:Int)(hX:qu a hh=some (.mem va 45 [.osl b vb 7 0 L.length]))(hY:qu b hh=some (ze vb 133 (jv (bsW L))))(hZg:qu c hh=some Z)(hZ: ∀n,lowO n Z)(hp:PcF p)(hL:L.length<=1000000000)(hLx: ∀r∈L,PcF r.p):
  ACalls Tryz.prog 69 [.agg (pcC p),.int .i64 u,.int .i64 d,.op a va 0] hh (.tup []) (qt b (qt a hh (.mem va 45 [.osl b (vb+1) 7 0 (L.length+1)])) (ze (vb+1) 133 (jv (bsW (L++ [⟨p,u,d⟩]))))):=by
 obtain⟨⟨F,f1,f2⟩,f3⟩:=hp;have h1:=Si (va:=va) t (bsW L) p u d vb F Z hZ f1 f2 oma (by rw[jU];exact hL) (λw hw=>Nat.le_trans (Z3 (n:=64) (λr hr=>(hLx r hr).2) w hw) oma);have e1:A9 hh a b c va vb (bsW L) Z=hh:=by
  unfold A9;rw[jU];exact XO hX hY hZg
 have e2:AO (bsW L)=ZI (L++ [⟨p,u,d⟩]) L.length:=by
  rw[uM];unfold AO;rw[jU]
 rw[e1,e2,<-Z2]at h1;have e3:A9 hh a b c va (vb+1) (bsW (L++ [⟨p,u,d⟩])) Z=qt b (qt a hh (.mem va 45 [.osl b (vb+1) 7 0 (L.length+1)])) (ze (vb+1) 133 (jv (bsW (L++ [⟨p,u,d⟩])))):=by
  unfold A9 tri;rw[jU,lap,lco,lnl];refine jE ?_;rw[qQ (λe=>t.bc e.symm),qQ (λe=>t.ac e.symm)];exact hZg
 rw[e3]at h1;exact h1
end RC
end
section
open Go Go.Proofs AF
def yB:List Nat:= []
def ND:C:=
 (pk [ON 4 (.nilo 0 1 3) []] ((pk [MV 9 1,oT 10 .lss 9 0] (p7 10 C.bad)).seq (pk [MV 13 0,O1 14 .len 13,O1 15 (.conv .u64) 14,MV 16 1,O1 17 (.conv .u64) 16,O2 18 (.call 144 true)
 15 17,MV 12 18,O1 19 (.ext 0) 12,O1 20 (.ext 1) 12,MV 5 19,MV 6 20] ((pk [MV 21 5,BC 22 .gtr 21 (.int .u64 0),MV 23 22,pc 24 23 6,ph 25 23 (.bin .gtr) 24 (.int .u64
 9223372036854775807),PT 26 23 25] (p7 26 C.bad)).seq (pk [MV 28 6,O1 29 (.conv .i64) 28,⟨some 30,none,.mkslc 1 1 3 [i6 0] 8,[.t 29,.t 29]⟩,MV 7 30] (pk [MV 31 7,MV 32 0,O2 33
 (.cpy 1) 31 32,MV 8 33] ((C.block 0 ((sv 34 8 7 0).seq (C.block 1 (rv [MV 38 8,MV 39 7,MV 40 8,O2 41 (.slc 1 true false) 39 40,MV 42 7,MV 43 8,O2 44 (.slc 1 false true) 42
 43,O2 45 (.cpy 1) 41 44,BI 46 .add 38 45,MV 8 46]))).loop).seq (p9 [MV 47 7,MV 4 47]))))))))
theorem HO:qK Tryz.prog 68 48 2 [RV.tmp 4] ND:=fi Tryz.f68 [4,30] yB []
def D8:C:=
 (pk [MC 4 (.int .u64 0),MC 5 (.int .u64 0)] ((C.cond (.c (.bool false)) (pk [MV 11 0,O1 12 (.conv .u32) 11,MV 13 1,O1 14 (.conv .u32) 13,O2 15 (.call 217 true) 12 14,MV 10 15,O1
 16 (.ext 0) 10,O1 17 (.ext 1) 10,MV 6 16,MV 7 17] (p9 [MV 18 6,O1 19 (.conv .u64) 18,MV 20 7,O1 21 (.conv .u64) 20,MV 4 19,MV 5 21])) C.skip).seq (pk [MV 23 0,MV 24 1,O2 25
 (.call 218 true) 23 24,MV 22 25,O1 26 (.ext 0) 22,O1 27 (.ext 1) 22,MV 8 26,MV 9 27] (p9 [MV 28 8,MV 29 9,MV 4 28,MV 5 29]))))
theorem Gj:qK Tryz.prog 144 30 0 [RV.tmp 4,RV.tmp 5] D8:=fi Tryz.f144 [] yB []
def Eu:C:=
 (pk [MC 4 (.int .u64 0),MC 5 (.int .u64 0)] (pk [MV 14 0,BC 15 .and 14 (.int .u64 4294967295),MV 6 15] (pk [MV 16 0,BC 17 .shr 16 (.int .u64 32),MV 7 17] (pk [MV 18 1,BC 19 .and
 18 (.int .u64 4294967295),MV 8 19] (pk [MV 20 1,BC 21 .shr 20 (.int .u64 32),MV 9 21] (pk [MV 22 6,MV 23 8,BI 24 .mul 22 23,MV 10 24] (pk [MV 25 7,MV 26 8,BI 27 .mul 25 26,MV
 28 10,BC 29 .shr 28 (.int .u64 32),BI 30 .add 27 29,MV 11 30] (pk [MV 31 11,BC 32 .and 31 (.int .u64 4294967295),MV 12 32] (pk [MV 33 11,BC 34 .shr 33 (.int .u64 32),MV 13 34]
 (pk [MV 35 12,MV 36 6,MV 37 9,BI 38 .mul 36 37,BI 39 .add 35 38,MV 12 39] (pk [MV 40 7,MV 41 9,BI 42 .mul 40 41,MV 43 13,BI 44 .add 42 43,MV 45 12,BC 46 .shr 45 (.int .u64
 32),BI 47 .add 44 46,MV 4 47] (p9 [MV 48 0,MV 49 1,BI 50 .mul 48 49,MV 5 50]))))))))))))
theorem GM:qK Tryz.prog 218 51 0 [RV.tmp 4,RV.tmp 5] Eu:=fi Tryz.f218 [] yB []
def M8:C:=
 (pk [ON 2 (.nilo 0 3 39) []] ((pk [MV 3 0,O1 4 (.isnil .slice false) 3] (p7 4 (p9 [ON 2 (.nilo 0 3 39) []]))).seq (p9 [⟨some 5,none,.bslc 1 3 0 39 [i6 0,i6 0,.nl] [],[]⟩,MV 6
 0,O2 7 (.app 2 3 39 40) 5 6,MV 2 7])))
theorem Ab:qK Tryz.prog 71 8 3 [RV.tmp 2] M8:=fi Tryz.f71 [2,5,7] yB []
end
