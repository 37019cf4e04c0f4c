import Derived.Test.YtiiegfkjmnoijaaGreatDoorK12
import Derived.Test.YtiiegfkjmnoijaaGreatDoorK3
import Derived.Test.YtiiegfkjmnoijaaGreatDoorK5
import Derived.Test.YtiiegfkjmnoijaaGreatDoorK8
import Derived.Test.YtiiegfkjmnoijaaGreatDoorProg
set_option linter.all false
set_option maxHeartbeats 128000000
set_option maxRecDepth 100000
section
open Go Go.Proofs AF HY LN
namespace RC
theorem itN(s:Str):qhc Tryz.prog 302 [.ip [jZ s]] [[.agg (plC s)]]:=by
 intro h ts LI S E hS hE body start hts;have hb:(h++ [AObj.lp LS.ready ts LI]).length=h.length+1:=by simp
 have ea: ∀st,h++ [AObj.lp st ts LI]++ [.mem 1 321 [.yld h.length],.mem 1 322 [.fn (.func 303) [] [.op (h.length+1) 1 0,.op (h.length+2) 1 0]]]=h++ [AObj.lp st ts LI,cyl h.length,cwk h.length]:=λst=>by simp[cyl,cwk]
 refine acQ qxL ?_;simp (disch:=omega) only[qvT,jZ,go_sem]
 repeat' first|with_reducible apply aiA|exact clz|fail
 simp only[hb,Nat.add_assoc,Nat.reduceAdd,ea];refine qii (wlk1 s h ts LI S E hS hE body start hts) ?_;rintro v h' ⟨hh',⟨rfl,hn,rfl⟩|⟨st,rfl,hs',rfl⟩⟩
 ·simp (disch:=omega) only[go_sem];obtain⟨r1,r2⟩:=(hS _ _ hn).retX (L:=LI) (xs:= []) .ready hts;have eO:hh'++ [.lp .ready ts LI,cyl h.length,cwk h.length]=(hh'++ [.lp .ready ts LI])++ [cyl h.length,cwk h.length]:=by simp
  rw[eO];exact zI trivial r1 r2 ⟨hh',.inl ⟨hn,rfl⟩⟩ (qi)
 ·simp (disch:=omega) only[go_sem];obtain⟨r1,r2⟩:=(hE _ _ hs').retX (L:=LI) (xs:= []) st hts;have eO:hh'++ [.lp st ts LI,cyl h.length,cwk h.length]=(hh'++ [.lp st ts LI])++ [cyl h.length,cwk h.length]:=by simp
  rw[eO];exact zI trivial r1 r2 ⟨hh',.inr ⟨st,hs',rfl⟩⟩ (qi)
theorem qsJ(s:Str)(h:wh):ACalls Tryz.prog 276 [jZ s] h (.fn (.func 302) [] [.ip [jZ s]]) h:=by
 refine acO qxC ?_;simp (disch:=omega) only[qvL,jZ,ndC,go_sem]
 repeat' first|exact wa|fail
theorem qDJ(n:Int)(k v:Nat)(h:wh)(hk:qr k h=some (.mem v 3 [.int .i64 n]))(h0:1<=n)(h1:n<=4096):ACalls Tryz.prog 275 [.op k v 0] h (.bool true) (qq k h (.mem v 3 [.int .i64 (n-1)])):=by
 have hkl:=qV hk;have c1:=qG hk;have k1:(0<=n-1)=True:=wj;have ht:ql9 (qr k h)=3:=by rw[hk];rfl
 refine acO qxB ?_;simp (disch:=omega) only[qvK,c1,k1,go_sem]
 repeat' first|with_reducible apply aiA|exact clz|fail
 rw[ht];exact qeW ⟨trivial,trivial⟩ qK (qnH (λn c hc=>by simp at hc;subst hc;rfl)) ⟨rfl,rfl⟩ (qi)
theorem qd3(s:Str)(v:Nat)(ty:TypeId): ∀n,lowO n (.mem v ty (plC s)):=λn c hc=>by
 simp[plC]at hc;rcases hc with rfl|rfl|rfl|rfl|rfl|rfl<;>rfl
theorem qCo(s:Str)(k:Int)(h:wh)(h1:2<=k)(h2:k<=11)(hc: ∀l,ACalls Tryz.prog 240 [jZ s] (h++l) (.int .i64 0) (h++l)):ACalls Tryz.prog 242 [jZ s,.int .i64 k] h (.tup [.int .i64 0,.int .i64 0]) h:=by
 have c1:=λh=>qsJ s h
 have k1:(k<1)=False:=wm;have k2:(11<k)=False:=wm;have k3:((1:Int)=k)=False:=wm;unfold jZ at c1 hc;refine acO qxs ?_;simp (disch:=omega) only[qvC,jZ,go_sem]
 repeat' first|((first|refine cA (hc _) ?_ ?_|refine cA (c1 _) ?_ ?_);exact flk;simp (disch:=omega) only[k1,k2,go_sem])|with_reducible apply aiA|exact clz|fail
 refine zh (xs:= [[.agg (plC s)]]) (itN s) (by simp)
  (S:=λi hh=> ∃O,qJ [O] 0=true∧(∀n,lowO n O)∧hh=h++ [.mem 1 3 [.int .i64 k],.mem 1 3 [.int .i64 0],O]) (E:=λ_ _=>False) ?_ ?_ ?_ ?_ ?_ ?_ ?_
 ·rintro i hh ⟨O,_,l1,rfl⟩;refine LowI.app rfl (λo ho=> ?_);simp only[List.mem_cons,List.not_mem_nil,or_false]at ho;rcases ho with rfl|rfl|rfl
  ·left;simp
  ·left;simp
  ·right;exact⟨l1 _,l1 _⟩
 ·intro s hh hf;exact hf.elim
 ·exact⟨.emp 0,rfl,λ_=>trivial,rfl⟩
 ·simp[qS,qS.lowVs]
  try omega
 ·rintro i hh tl LI TS hi ⟨O,s1,l1,rfl⟩ hlen K K2 hK hN hR' hX;obtain rfl:i=0:=by simp at hi;omega
  have s1': ∀m,qJ (O::m) 0=true:=λ_=>s1
  show qX _ _ _ _ (kg _ _ [.agg (plC s)]) _;simp only[kg];simp (disch:=omega) only[List.append_assoc,plC,s1',go_sem];refine hK _ _ (h++ [.mem 1 3 [.int .i64 k],.mem 1 3 [.int .i64 0],.mem (qn (some O)+1) 303 (plC s)]) (by simp[plC]) (by simp) ?_;simp (disch:=omega) only[List.append_assoc,plC,k3,go_sem]
  repeat' first|with_reducible apply aiA|exact clz|fail
  refine hN _ _ (h++ [.mem 1 3 [.int .i64 k],.mem 1 3 [.int .i64 0],.mem (qn (some O)+1) 303 (plC s)]) (by simp[plC]) (by simp) ⟨.mem (qn (some O)+1) 303 (plC s),rfl,qd3 s _ _,rfl⟩
 ·rintro hh ⟨O,s1,l1,rfl⟩;simp (disch:=omega) only[go_sem]
  repeat' first|exact wa|with_reducible apply aiA|exact clz|fail
 ·intro e hh hf;exact hf.elim
end RC
end
section
open Go Go.Proofs AF
def qr0:List Nat:= [118,116,307,285,244,282,245,283,247]
def qvN:C:=
 (vU [MC 2 (.str [])] (vU [⟨some 3,none,.alloc 0 158 [.nilp,.nl],[]⟩] (vU [⟨some 4,none,.alloc 1 326 [.nilfn],[]⟩] (vU [O2 5 (.mkfn (Fn.func 304) 0) 3 4,ST 1 4 5] ((C.wk.seq (vY
 [LD 6 4,MV 7 0,O2 8 .callv 6 7])).seq (vX [O1 9 (.call 116 false) 3,MV 2 9]))))))
theorem qxE:qM Tryz.prog 278 10 3 [RV.tmp 2] qvN:=fi Tryz.f278 [3,4,8] qr0 [4]
end
section
open Go Go.Proofs AF HY LN
namespace RC
theorem qEb(s:Str)(kb vb kj v kw:Nat)(h:wh)(hne:kj≠kb)(hk:qr kb h=some (.mem vb 158 [.nilp,.osl kj v 1 0 0]))(hj:qr kj h=some (.emp v))(hl:s.length<=1000000)(hs:s≠ [])(hg:jh h frmN frmC):
  ACalls Tryz.prog 304 [jZ s,.op kb vb 0,.op kw 1 0] h (.tup []) (qq kj (qq kb h (.mem vb 158 [.op kb vb 0,.osl kj (v+1) 1 0 s.length])) (S7 (v+1) s)):=by
 have hkl:=qV hk;have hjl:=qV hj;refine acO qxM ?_;simp (disch:=omega) only[qvU,jZ,ndC,go_sem];obtain⟨H1,hH1⟩:=wg (qq kj (qq kb h (.mem vb 158 [.op kb vb 0,.osl kj (v+1) 1 0 s.length])) (S7 (v+1) s))
 rw[<-hH1];have hH1l:H1.length=h.length:=by rw[hH1];simp only[qK]
 refine qu (T:=λi:Nat×AObj×AObj=>zf 53 [(1,.op kb vb 0),(2,.op kw 1 0),(7,jZ s),(8,.int .i64 ((1:Nat):Int)),(9,.int .i64 i.1)])
  (H:=λi=>(if i.1=0 then h else H1)++ [i.2.1,i.2.2])
  (inv:=λi=>i.1<=1∧qJ [i.2.1] 0=true∧qJ [i.2.2] 0=true) (m:=λi=>1-i.1) (0,.emp 0,.emp 0) ⟨nzl _,rfl,rfl⟩ (Wk.temps ?_) ?_
 ·(simp only[jZ,ndC,go_sem,qg,qc,qb,qf];try exact we)
 rintro⟨i,O5,O6⟩ ⟨i1,i2,i3⟩ K hK;simp only at i1 i2 i3 hK;have i2': ∀m,qJ (O5::m) 0=true:=λ_=>i2
 have i3': ∀m,qJ (O6::m) 0=true:=λ_=>i3
 by_cases hi:i<1
 ·obtain rfl:i=0:=by omega
  simp only[if_true];simp (disch:=omega) only[jZ,ndC,i2',go_sem]
  repeat' first|(with_reducible first|intro _|apply aiA)|exact clz|fail
  refine qp0 (cs:=frmC) hg.app ⟨by decide,by decide⟩ rfl ?_;rw[qpW];simp (disch:=omega) only[qx9,i3',go_sem];refine qv (qEa kb vb kj v .nilp [] s _ hne (by rw[zw hkl];exact hk) (.inl rfl) (by rw[zw hjl];exact hj) (by simp;omega)) (by exact flk) ?_;have eH: ∀l,qq kj (qq kb (h++l) (.mem vb 158 [.op kb vb 0,.osl kj (v+1) 1 0 (([]:Str).length+s.length)])) (S7 (v+1) ([]++s))=H1++l:=λl=>by
   rw[hH1,lnl,Nat.zero_add,lna,zg hkl,zg (by rw[qK];exact hjl)]
  rw[eH];simp (disch:=omega) only[go_sem];refine hK _ _ (1,.mem (qn (some O5)+1) 198 (ndC s),.mem (qn (some O6)+1) 324 qx9) ⟨nlr _,rfl,rfl⟩ (by simp only;omega) ?_;rw[ine (by simp)];simp only[ndC,qx9];refine Wk.temps ?_
  (simp only[jZ,ndC,go_sem,qg,qc,qb,qf];try exact we)
 ·obtain rfl:i=1:=by omega
  rw[ine (by simp)];simp (disch:=omega) only[jZ,ndC,go_sem]
  repeat' first|(with_reducible first|intro _|apply aiA)|exact clz|fail
  refine zI trivial hH1l ?_ ⟨rfl,rfl⟩ (qi);rw[hH1];exact qbD hkl hjl
theorem qBy(s:Str)(h:wh)(hl:s.length<=1000000)(hs:s≠ [])(hg:jh h frmN frmC):ACalls Tryz.prog 278 [jZ s] h (.str s) h:=by
 refine acO qxE ?_;simp (disch:=omega) only[qvN,jZ,go_sem];refine⟨_,_,Wk.ownNil (j:=h.length) (i:=1) (k:=h.length+2) (v:=1) (ty:=158) (cs:= [.nilp,.nl]) (ve:=0) (sz:=1) ?m1 rfl ?m2,?_⟩
 case m1=>simp only[go_sem]
 case m2=>simp only[go_sem]
 simp (disch:=omega) only[List.set_cons_zero,List.set_cons_succ,go_sem]
 repeat' first|with_reducible apply aiA|exact clz|fail
 refine qO (qEb s h.length 1 (h.length+2) 0 (h.length+1) _ om (by simp only[go_sem]) (by simp only[go_sem]) hl hs hg.app) ?_;simp (disch:=omega) only[go_sem];refine qv (qDN h.length 1 (h.length+2) 1 (.op h.length 1 0) s _ om (by simp only[go_sem]) (by simp only[go_sem])) (by exact flk) ?_;simp (disch:=omega) only[go_sem]
 repeat' first|exact wa|fail
theorem qAB(s:Str)(h:wh)(hl:s.length<=1000000)(hl2:s.length<=65536)(hs:s≠ [])(hc:zM s=0)(hg:jh h frmN frmC):ACalls Tryz.prog 240 [jZ s] h (.int .i64 0) h:=by
 have c1:=λh=>qsJ s h
 unfold jZ at c1;obtain⟨cs,hcs⟩:=wg (AObj.mem 1 32 [.fn (.func 275) [] [.op (h.length+1) 1 0]])
 refine acO qxq ?_;simp (disch:=omega) only[qvA,jZ,go_sem]
 repeat' first|(refine cA (c1 _) flk ?_;simp (disch:=omega) only[go_sem])
 refine zh (xs:= [[.agg (plC s)]]) (itN s) (by simp)
  (S:=λi hh=> ∃O,qJ [O] 0=true∧(∀n,lowO n O)∧hh=h++ [.mem 1 33 [.int .i64 0],.mem 1 3 [.int .i64 (4096-i)],cs,O,.emp 0]) (E:=λ_ _=>False) ?_ ?_ ?_ ?_ ?_ ?_ ?_
 ·rintro i hh ⟨O,_,l1,rfl⟩;refine LowI.app rfl (λo ho=> ?_);simp only[List.mem_cons,List.not_mem_nil,or_false]at ho;rcases ho with rfl|rfl|rfl|rfl|rfl
  ·left;simp
  ·right;exact⟨λc hc=>(by simp at hc;subst hc;rfl),λc hc=>(by simp at hc;subst hc;rfl)⟩
  ·left;rw[hcs];simp
  ·right;exact⟨l1 _,l1 _⟩
  ·left;simp
 ·intro s hh hf;exact hf.elim
 ·exact⟨.emp 0,rfl,λ_=>trivial,by rw[hcs];rfl⟩
 ·simp[qS,qS.lowVs]
  try omega
 ·rintro i hh tl LI TS hi ⟨O,s1,l1,rfl⟩ hlen K K2 hK hN hR' hX;obtain rfl:i=0:=by simp at hi;omega
  have s1': ∀m,qJ (O::m) 0=true:=λ_=>s1
  show qX _ _ _ _ (kg _ _ [.agg (plC s)]) _;simp only[kg];simp (disch:=omega) only[List.append_assoc,plC,s1',go_sem];refine hK _ _ (h++ [.mem 1 33 [.int .i64 0],.mem 1 3 [.int .i64 4096],cs,.mem (qn (some O)+1) 303 (plC s),.emp 0]) (by simp[plC]) (by simp) ?_;rw[hcs];simp (disch:=omega) only[List.append_assoc,plC,go_sem]
  repeat' first|with_reducible apply aiA|exact clz|fail
  refine qO (qDJ 4096 (h.length+1) 1 _ (by simp only[go_sem]) om om) ?_;simp (disch:=omega) only[go_sem]
  repeat' first|(with_reducible first|intro _|apply aiA)|exact clz|fail
  refine hN _ _ (h++ [.mem 1 33 [.int .i64 0],.mem 1 3 [.int .i64 4095],cs,.mem (qn (some O)+1) 303 (plC s),.emp 0]) (by rw[hcs];simp[plC]) (by simp) ⟨.mem (qn (some O)+1) 303 (plC s),rfl,qd3 s _ _,rfl⟩
 ·rintro hh ⟨O,s1,l1,rfl⟩;have c2:=λh=>qsJ s h
  unfold jZ at c2;rw[hcs];simp (disch:=omega) only[go_sem]
  repeat' first|(refine cA (c2 _) flk ?_;simp (disch:=omega) only[go_sem])
  have c5:=λl=>qDC s (h++l) hs hl hc hg.app
  have c6:=λl=>qBy s (h++l) hl hs hg.app
  unfold jZ at c6;unfold plC at c5;refine zh (xs:= [[.agg (plC s)]]) (itN s) (by simp)
   (S:=λi hh=> ∃O6,qJ [O6] 0=true∧(∀n,lowO n O6)∧hh=h++ [.mem 1 33 [.int .i64 0],.mem 1 3 [.int .i64 4095],cs,O,O6]) (E:=λ_ _=>False) ?_ ?_ ?_ ?_ ?_ ?_ ?_
  ·rintro i hh ⟨O6,_,l2,rfl⟩;refine LowI.app rfl (λo ho=> ?_);simp only[List.mem_cons,List.not_mem_nil,or_false]at ho;rcases ho with rfl|rfl|rfl|rfl|rfl
   ·left;simp
   ·left;simp
   ·left;rw[hcs];simp
   ·left;simp
   ·right;exact⟨l2 _,l2 _⟩
  ·intro s hh hf;exact hf.elim
  ·exact⟨.emp 0,rfl,λ_=>trivial,by rw[hcs];rfl⟩
  ·simp[qS,qS.lowVs]
   try omega
  ·rintro i hh tl LI TS hi ⟨O6,s6,l6,rfl⟩ hlen K K2 hK hN hR' hX;obtain rfl:i=0:=by simp at hi;omega
   have s6': ∀m,qJ (O6::m) 0=true:=λ_=>s6
   show qX _ _ _ _ (kg _ _ [.agg (plC s)]) _;simp only[kg];simp (disch:=omega) only[List.append_assoc,plC,s6',go_sem];refine hK _ _ (h++ [.mem 1 33 [.int .i64 0],.mem 1 3 [.int .i64 4095],cs,O,.mem (qn (some O6)+1) 303 (plC s)]) (by simp[plC]) (by simp) ?_;simp (disch:=omega) only[List.append_assoc,plC,go_sem]
   repeat' first|(refine cA (c5 _) flk ?_;simp (disch:=omega) only[go_sem])
   refine hN _ _ (h++ [.mem 1 33 [.int .i64 0],.mem 1 3 [.int .i64 4095],cs,O,.mem (qn (some O6)+1) 303 (plC s)]) (by simp[plC]) (by simp) ⟨.mem (qn (some O6)+1) 303 (plC s),rfl,qd3 s _ _,rfl⟩
  ·rintro hh ⟨O6,s6,l6,rfl⟩;have k1:((65536:Int)<s.length)=False:=wm;simp (disch:=omega) only[go_sem]
   repeat' first|(refine cA (c6 _) flk ?_;simp (disch:=omega) only[k1,go_sem])|exact wa|fail
  ·intro e hh hf;exact hf.elim
 ·intro e hh hf;exact hf.elim
theorem qCA(h:wh):ACalls Tryz.prog 241 [.nl] h (.int .i64 0) h:=by
 refine acO qxr ?_;simp (disch:=omega) only[qvB,go_sem]
 repeat' first|(apply qa;exact rvk;simp only[go_sem];apply qh)|(with_reducible first|intro _|apply aiA)|exact clz|fail
 refine qu (T:=λ_:Unit=>zf 21 [(9,.nl),(10,.int .i64 0),(11,.int .i64 0)]) (H:=λ_=>h++ [.emp 0]) (inv:=λ_=>True) (m:=λ_=>0) () trivial (Wk.temps ?_) ?_
 ·(simp only[go_sem,qg,qc,qb,qf];try exact we)
 rintro⟨⟩ _ K hK;simp (disch:=omega) only[go_sem]
 repeat' first|exact wa|(with_reducible first|intro _|apply aiA)|exact clz|fail
theorem qD1(s:Str)(h:wh)(hs:s.length<=1000000)(hw: ∀i,i<s.length->SI (ch s i)=true):ACalls Tryz.prog 306 [.str s] h (.bool true) h:=by
 refine acO qxN ?_;simp (disch:=omega) only[qvV,go_sem];refine qu (T:=λi:Nat=>zf 19 [(0,.str s),(4,.str s),(5,.int .i64 s.length),(6,.int .i64 i)]) (H:=λ_=>h) (inv:=λi=>i<=s.length) (m:=λi=>s.length-i) 0 (nzl _) (Wk.temps ?_) ?_
 ·(simp only[go_sem,qg,qc,qb,qf];try exact we)
 rintro i i1 K hK
 by_cases hi:i<s.length
 ·have k1:((i:Int)<s.length)=True:=wj;have e:(s[i]?).getD 0=ch s i:=by simp[ch,gdqA]
  have c1:=λh=>U1 (ch s i) h
  have g:=hw i hi;unfold SI at g;simp only[Bool.or_eq_true,decide_eq_true_eq]at g;obtain⟨k,hk⟩:=wg (kind (ch s i))
  rw[<-hk]at g;simp only[<-hk]at c1
  by_cases g1:k=1
  ·subst g1;simp (disch:=omega) only[k1,e,go_sem]
   repeat' first|(refine cA (c1 _) flk ?_;simp (disch:=omega) only[go_sem])|with_reducible apply aiA|exact clz|fail
   refine hK _ _ (i+1) hi om (Wk.temps ?_)
   (simp only[go_sem,qg,qc,qb,qf];try exact we)
  by_cases g2:k=2
  ·subst g2;simp (disch:=omega) only[k1,e,go_sem]
   repeat' first|(refine cA (c1 _) flk ?_;simp (disch:=omega) only[go_sem])|(apply qe;exact rvk;simp only[go_sem];apply qd)|(with_reducible first|intro _|apply aiA)|exact clz|fail
   refine hK _ _ (i+1) hi om (Wk.temps ?_)
   (simp only[go_sem,qg,qc,qb,qf];try exact we)
  by_cases g3:k=3
  ·subst g3;simp (disch:=omega) only[k1,e,go_sem]
   repeat' first|(refine cA (c1 _) flk ?_;simp (disch:=omega) only[go_sem])|(apply qe;exact rvk;simp only[go_sem];apply qd)|(with_reducible first|intro _|apply aiA)|exact clz|fail
   refine hK _ _ (i+1) hi om (Wk.temps ?_)
   (simp only[go_sem,qg,qc,qb,qf];try exact we)
  obtain rfl:k=4:=by omega
  simp (disch:=omega) only[k1,e,go_sem]
  repeat' first|(refine cA (c1 _) flk ?_;simp (disch:=omega) only[go_sem])|(apply qe;exact rvk;simp only[go_sem];apply qd)|(with_reducible first|intro _|apply aiA)|exact clz|fail
  refine hK _ _ (i+1) hi om (Wk.temps ?_)
  (simp only[go_sem,qg,qc,qb,qf];try exact we)
 have k1:((i:Int)<s.length)=False:=wm;simp (disch:=omega) only[k1,go_sem]
 repeat' first|exact wc|fail
theorem qDi(s:Str)(hs:s.length<=1000000):qhc Tryz.prog 329 [.ip [.str s],.ip [.nl]] []:=by
 intro h ts LI S E hS hE body start hts;refine acQ qxV ?_;simp (disch:=omega) only[qv2,go_sem]
 repeat' first|with_reducible apply aiA|exact clz|fail
 refine qu (T:=λi:Nat=>zf 45 [(0,.yld h.length),(1,.ip [.str s]),(2,.ip [.nl]),(10,.int .i64 s.length),(11,.int .i64 i)]) (H:=λ_=>h++ [.lp .ready ts LI]++ [.emp 0]) (inv:=λi=>i<=s.length) (m:=λi=>s.length-i) 0 (nzl _) (Wk.temps ?_) ?_
 ·(simp only[go_sem,qg,qc,qb,qf];try exact we)
 rintro i i1 K hK
 by_cases hi:i<s.length
 ·have k1:((i:Int)<s.length)=True:=wj;simp (disch:=omega) only[k1,go_sem]
  repeat' first|with_reducible apply aiA|exact clz|fail
  refine qu (T:=λ_:Unit=>zf 45 [(0,.yld h.length),(1,.ip [.str s]),(2,.ip [.nl]),(4,.int .i64 i),(10,.int .i64 s.length),(11,.int .i64 i),(14,.nl),(15,.int .i64 0),(16,.int .i64 0)]) (H:=λ_=>h++ [.lp .ready ts LI]++ [.emp 0]) (inv:=λ_=>True) (m:=λ_=>0) () trivial (Wk.temps ?_) ?_
  ·(simp only[go_sem,qg,qc,qb,qf];try exact we)
  rintro⟨⟩ _ K' hK';simp (disch:=omega) only[go_sem]
  repeat' first|(with_reducible first|intro _|apply aiA)|exact clz|fail
  refine hK _ _ (i+1) hi om (Wk.temps ?_)
  (simp only[go_sem,qg,qc,qb,qf];try exact we)
 have k1:((i:Int)<s.length)=False:=wm;simp (disch:=omega) only[k1,go_sem];obtain⟨r1,r2⟩:=(hS _ _ start).retX (L:=LI) (xs:= []) .ready hts;exact zI trivial r1 r2 ⟨h,.inl ⟨start,rfl⟩⟩ (qi)
theorem qDz(s:Str)(h:wh):ACalls Tryz.prog 328 [.nl,.str s] h (.fn (.func 329) [] [.ip [.str s],.ip [.nl]]) h:=by
 refine acO qxU ?_;simp (disch:=omega) only[qv1,go_sem]
 repeat' first|exact wa|fail
theorem qDM(s:Str)(h:wh)(hs:s.length<=1000000):ACalls Tryz.prog 325 [.nl,.str s] h (.tup [.str s,.bool false]) h:=by
 have c1:=λh=>qDz s h
 refine acO qxT ?_;simp (disch:=omega) only[qv0,go_sem]
 repeat' first|(refine cA (c1 _) flk ?_;simp (disch:=omega) only[go_sem])
 refine zh (xs:= []) (qDi s hs) (by simp) (S:=λi hh=>hh=h++ [.mem 1 9 [.str []],.mem 1 4 [.bool false]]) (E:=λ_ _=>False) ?_ ?_ ?_ ?_ ?_ ?_ ?_
 ·rintro i hh rfl;exact LowI.refl _
 ·intro s hh hf;exact hf.elim
 ·rfl
 ·simp[qS,qS.lowVs]
  try omega
 ·rintro i hh tl LI TS hi;exact absurd hi (by simp)
 ·rintro hh rfl;simp (disch:=omega) only[go_sem]
  repeat' first|exact wa|fail
 ·intro e hh hf;exact hf.elim
theorem qDW(s:Str)(h:wh)(hs:s.length<=1000000):ACalls Tryz.prog 319 [.nl,.str s] h (.tup [strs [s],.int .i64 0]) h:=by
 have c1:=λh=>qDM s h hs
 refine acO qxR ?_;simp (disch:=omega) only[qvZ,go_sem];refine qu (T:=λ_:Unit=>zf 32 [(0,.nl),(6,.osl (h.length+1) 1 1 0 1)]) (H:=λ_=>h++ [.emp 1,.mem 1 9 [.str s],.emp 0,.emp 0]) (inv:=λ_=>True) (m:=λ_=>0) () trivial (Wk.temps ?_) ?_
 ·(simp only[go_sem,qg,qc,qb,qf];try exact we)
 rintro⟨⟩ _ K hK;simp (disch:=omega) only[go_sem]
 repeat' first|(refine cA (c1 _) flk ?_;simp (disch:=omega) only[go_sem])|(apply qa;exact rvk;simp only[go_sem])|with_reducible apply aiA|exact clz|fail
 refine qaj ⟨VLe.sl_eq rfl (λi hi=> ?_),qi,trivial⟩;obtain rfl:i=0:=by simp at hi;omega
 rfl
theorem qCK(s:Str)(h:wh)(hs:s.length<=64)(hw: ∀i,i<s.length->SI (ch s i)=true):ACalls Tryz.prog 308 [.nl,.str s] h (.tup [strs [s],.int .i64 0]) h:=by
 have c1:=λh=>qDW s h om
 have c2: ∀h,ACalls Tryz.prog 318 [.nl,.str s] h (.int .i64 0) h:=λh=>by
  have d1:=λh=>qCA h
  have d2:=λh=>qD1 s h om hw
  have k1:((64:Int)<s.length)=False:=wm;refine acO qxQ ?_;simp (disch:=omega) only[qvY,go_sem]
  repeat' first|((first|refine cA (d1 _) ?_ ?_|refine cA (d2 _) ?_ ?_);exact flk;simp (disch:=omega) only[k1,go_sem])|exact wc|fail
 refine acO qxP ?_;simp (disch:=omega) only[qvX,go_sem]
 repeat' first|((first|refine cA (c1 _) ?_ ?_|refine cA (c2 _) ?_ ?_);exact flk;simp (disch:=omega) only[go_sem])|exact wa|with_reducible apply aiA|exact clz|fail
theorem qBC(s:Str)(h:wh)(hs:s.length<=64)(hw: ∀i,i<s.length->SI (ch s i)=true):ACalls Tryz.prog 286 [.nl,.str s] h (.tup [.str s,.int .i64 0]) h:=by
 have c1:=λh=>qCK s h hs hw
 unfold strs at c1;refine acO qxJ ?_;simp (disch:=omega) only[qvS,go_sem]
 repeat' first|(refine cA (c1 _) flk ?_;simp (disch:=omega) only[go_sem])|exact wc|with_reducible apply aiA|exact clz|fail
end RC
end
section
open Go Go.Proofs AF HY LN
namespace AF
theorem LowI.retY{h hh xs ys:wh}{ts:wi}{L:LInfo}(s:LS)(hl:LowI h hh)(hts: ∀c∈ts,qS (h.length+1) c=true)(hy:ys.length=xs.length)(hz: ∀o∈ys,o∈xs∨ ∀n,lowO n o):
  (hh++ .lp s ts L::ys).length=(h++ .lp .ready ts L::xs).length∧ ∀o∈hh++ .lp s ts L::ys,o∈h++ .lp .ready ts L::xs∨lowO (h++ .lp .ready ts L::xs).length o:=by
 refine⟨by simp[hl.1,hy],λo ho=> ?_⟩;rcases List.mem_append.1 ho with ho|ho
 ·rcases hl.2 o ho with h1|⟨h1,_⟩
  ·exact .inl (List.mem_append_left _ h1)
  ·exact .inr (lowO_mono (by simp) h1)
 ·rcases List.mem_cons.1 ho with rfl|ho
  ·exact .inr (λc hc=>kq (by simp) c (hts c hc))
  ·rcases hz o ho with h1|h1
   ·exact .inl (List.mem_append_right _ (List.mem_cons_of_mem _ h1))
   ·exact .inr (h1 _)
end AF
namespace RC
def atC(k:Int)(c:UInt8):wi:= [.int .i64 k,.int .u8 (c.toNat:Int),.int .i64 0,.str [],.int .i64 0,.bool false,.str []]
def atX(s:Str):List wi:=s.map λc=> [.agg (atC 1 c)]
theorem qal(s:Str):(atX s).length=s.length:=by unfold atX;simp
theorem qps{s:Str}{i:Nat}(hi:i<(atX s).length):(atX s)[i]= [.agg (atC 1 (ch s i))]:=by
 have:i<s.length:=by rw[qal]at hi;exact hi
 simp[atX,ch,gdqA,this]
def qsL(s:Str)(j:Nat):UInt8:=if j=0 then 0 else ch s (j-1)
def cyA(n:Nat):AObj:= .mem 1 306 [.yld n]
def cxA(k:Int)(c:UInt8):AObj:= .mem 1 269 (atC k c)
def ceA(n:Nat):AObj:= .mem 1 307 [.fn (.func 281) [] [.op (n+2) 1 0,.op (n+1) 1 0,.op (n+3) 1 0]]
theorem qiK(k:Int)(c:UInt8): ∀n,lowO n (cxA k c):=λn d hd=>by
 simp[atC]at hd;rcases hd with rfl|rfl|rfl|rfl|rfl|rfl|rfl<;>rfl
section
variable {n : Nat} {hh m : wh} {st : LS} {ts : wi} {LI : LInfo} {k : Int} {c : UInt8} {X : AObj}
theorem qAf(hl:hh.length=n):cellsOf (hh++ .lp st ts LI::cyA n::X::ceA n::m) (n+1) 1=some [.yld n]:=qG (show qr _ _=some (cyA n) by subst hl;unfold qr;simp)
theorem qAg(hl:hh.length=n):qr (n+2) (hh++ .lp st ts LI::cyA n::X::ceA n::m)=some X:=by subst hl;unfold qr;simp
theorem quG{Y:AObj}(hl:hh.length=n):qq (n+2) (hh++ .lp st ts LI::cyA n::X::ceA n::m) Y=hh++ .lp st ts LI::cyA n::Y::ceA n::m:=by subst hl;unfold qq;simp
end
theorem eachT(s:Str)(hl:s.length<=1000000)(h:wh)(ts:wi)(LI:LInfo)(S:Nat->wh->Prop)(E:LS->wh->Prop)(hS: ∀i hh,S i hh->LowI h hh)(hE: ∀s hh,E s hh->LowI h hh)
  (body: ∀i hh tl,(hi:i<(atX s).length)->S i hh->jP Tryz.prog h.length ((atX s)[i]) (hh++ .lp .ready ts LI::tl) (λr h'=> ∃hh',(r= .bool true∧S (i+1) hh'∧h'=hh'++ .lp .ready ts LI::tl)∨(∃s,r= .bool false∧E s hh'∧h'=hh'++ .lp s ts LI::tl)))
  (start:S 0 h) (hts: ∀c∈ts,qS (h.length+1) c=true):
  je Tryz.prog 281 [jZ s,.op (h.length+2) 1 0,.op (h.length+1) 1 0,.op (h.length+3) 1 0] (h++ [.lp .ready ts LI,cyA h.length,cxA 0 0,ceA h.length])
   (λr h'=> ∃hh' c,(r= .bool true∧S s.length hh'∧h'=hh'++ [.lp .ready ts LI,cyA h.length,cxA 1 c,ceA h.length])∨(∃st,r= .bool false∧E st hh'∧h'=hh'++ [.lp st ts LI,cyA h.length,cxA 1 c,ceA h.length])):=by
 refine acQ qxG ?_;simp (disch:=omega) only[qvP,jZ,ndC,go_sem];have key: ∀(hh:wh) (k:Int) (c:UInt8),hh.length=h.length-> ∃B,B=hh++ [AObj.lp LS.ready ts LI,cyA h.length,cxA k c,ceA h.length]∧B.length=h.length+4∧qr (h.length+2) B=some (cxA k c)∧(∀Y m,cellsOf (qq (h.length+2) B Y++m) (h.length+1) 1=some [.yld h.length])∧
   (∀Y m,qq (h.length+2) B Y++m=hh++ [AObj.lp LS.ready ts LI,cyA h.length,Y,ceA h.length]++m):=λhh k c hl=>by
  refine⟨_,rfl,by simp[hl],qAg (m:= []) hl,λY m=> ?_,λY m=> ?_⟩
  ·rw[quG (m:= []) hl];have e:hh++ [AObj.lp LS.ready ts LI,cyA h.length,Y,ceA h.length]++m=hh++ .lp .ready ts LI::cyA h.length::Y::ceA h.length::m:=by simp
   rw[e];exact qAf hl
  ·rw[quG (m:= []) hl]
 have ea: ∀(g:wh) st (X:AObj) m,g++ [AObj.lp st ts LI,cyA h.length,X,ceA h.length]++m=g++ .lp st ts LI::cyA h.length::X::ceA h.length::m:=λg st X m=>by simp
 refine qu (T:=λi:Nat×wh×AObj×AObj×UInt8=>zf 93 [(1,.op (h.length+2) 1 0),(2,.op (h.length+1) 1 0),(3,.op (h.length+3) 1 0),(11,jZ s),(12,.int .i64 ((1:Nat):Int)),(13,.int .i64 i.1)])
  (H:=λi=>i.2.1++ [.lp .ready ts LI,cyA h.length,cxA (if i.1=0 then 0 else 1) i.2.2.2.2,ceA h.length]++ [i.2.2.1,i.2.2.2.1])
  (inv:=λi=>i.1<=1∧S (if i.1=0 then 0 else s.length) i.2.1∧qJ [i.2.2.1] 0=true∧qJ [i.2.2.2.1] 0=true∧(i.1=0->i.2.2.2.2=0)) (m:=λi=>1-i.1) (0,h,.emp 0,.emp 0,0) ⟨nzl _,start,rfl,rfl,λ_=>rfl⟩ (Wk.temps ?_) ?_
 ·(simp only[jZ,ndC,go_sem,qg,qc,qb,qf];try exact we)
 rintro⟨i,hh,O7,O9,c⟩ ⟨i1,i2,i3,i4,i5⟩ K hK;simp only at i1 i2 i3 i4 i5 hK;obtain⟨hlen,hlow⟩:=hS _ _ i2;have i3': ∀m,qJ (O7::m) 0=true:=λ_=>i3
 have i4': ∀m,qJ (O9::m) 0=true:=λ_=>i4
 by_cases hi:i<1
 ·obtain rfl:i=0:=by omega
  obtain rfl:=i5 rfl;rw[ipo rfl]at i2;obtain⟨B,hB,hBl,hk,d1,d2⟩:=key hh 0 0 hlen;have hb:(h++ [AObj.lp LS.ready ts LI,cyA h.length,cxA 0 0,ceA h.length]).length=B.length:=by rw[hBl];simp
  have hkl:h.length+2<B.length:=by omega
  have s1: ∀ {l w cs z},cellsOf (qq (h.length+2) B (.mem w 269 cs)++l) (h.length+2) z=if w=z then some cs else none:=f0 hkl
  have s2: ∀ {l o o'},qq (h.length+2) (qq (h.length+2) B o++l) o'=qq (h.length+2) B o'++l:=qb6 hkl;have s4: ∀ {l o},qr (h.length+2) (qq (h.length+2) B o++l)=some o:=U7 hkl;show qX _ _ _ _ _ (hh++ [.lp .ready ts LI,cyA h.length,cxA 0 0,ceA h.length]++ [O7,O9]);rw[hb,<-hB];have hB0:B=qq (h.length+2) B (.mem 1 269 (atC 0 0)):=(jc hk).symm;rw[show B++ [O7,O9]=qq (h.length+2) B (.mem 1 269 (atC 0 0))++ [O7,O9]from by rw[<-hB0]];unfold atC;simp (disch:=omega) only[jZ,ndC,i3',go_sem]
  repeat' first|(with_reducible first|intro _|apply aiA)|exact clz|fail
  refine jV ?T ?H ?h1 ?h2
  case h1=>
   simp (disch:=omega) only[s1,s2,s4,go_sem]
   repeat' first|with_reducible apply aiA
   all_goals first
    |omega
    |rfl
    |skip
  case h2=>
  simp (disch:=omega) only[s1,s2,s4,go_sem]
  repeat' first|(with_reducible first|intro _|apply aiA)|exact clz|fail
  rw[d2];obtain⟨O7',hO7⟩:=wg (AObj.mem (qn (some O7)+1) 198 (ndC s))
  refine qu (T:=λj:Nat×wh=>zf 93 [(1,.op (h.length+2) 1 0),(2,.op (h.length+1) 1 0),(3,.op (h.length+3) 1 0),(7,.op B.length (qn (some O7)+1) 0),(11,jZ s),(12,.int .i64 ((1:Nat):Int)),(13,.int .i64 ((0:Nat):Int)),(70,.int .i64 s.length),(71,.int .i64 j.1)])
   (H:=λj=>j.2++ [.lp .ready ts LI,cyA h.length,cxA 1 (qsL s j.1),ceA h.length]++ [O7',O9])
   (inv:=λj=>j.1<=s.length∧S j.1 j.2) (m:=λj=>s.length-j.1) (0,hh) ⟨nzl _,i2⟩ ?_ ?_
  ·rw[hO7];refine Wk.temps ?_
   (simp only[jZ,ndC,go_sem,qg,qc,qb,qf];try exact we)
  rintro⟨j,hj⟩ ⟨j1,j2⟩ K' hK';simp only at j1 j2 hK';obtain⟨jlen,jlow⟩:=hS _ _ j2;obtain⟨C,hC,hCl,ck,e1,e2⟩:=key hj 1 (qsL s j) jlen;have ckl:h.length+2<C.length:=by omega
  have t1: ∀ {l w cs z},cellsOf (qq (h.length+2) C (.mem w 269 cs)++l) (h.length+2) z=if w=z then some cs else none:=f0 ckl
  have t2: ∀ {l o o'},qq (h.length+2) (qq (h.length+2) C o++l) o'=qq (h.length+2) C o'++l:=qb6 ckl;have t4: ∀ {l o},qr (h.length+2) (qq (h.length+2) C o++l)=some o:=U7 ckl;show qX _ _ _ _ _ (hj++ [.lp .ready ts LI,cyA h.length,cxA 1 (qsL s j),ceA h.length]++ [O7',O9]);have hbc:B.length=C.length:=by rw[hBl,hCl]
  simp only[hbc];rw[<-hC];have hC0:C=qq (h.length+2) C (.mem 1 269 (atC 1 (qsL s j))):=(jc ck).symm;rw[show C++ [O7',O9]=qq (h.length+2) C (.mem 1 269 (atC 1 (qsL s j)))++ [O7',O9]from by rw[<-hC0]];unfold atC;rw[hO7]
  by_cases hjl:j<s.length
  ·have k1:((j:Int)<s.length)=True:=wj;have e:(s[j]?).getD 0=ch s j:=by simp[ch,gdqA]
   have hb':=λtl=>body j hj tl (by rw[qal];exact hjl) j2
   simp only[qps,atC]at hb';simp (disch:=omega) only[jZ,ndC,t1,t2,t4,k1,e,e1,go_sem]
   repeat' first|with_reducible apply aiA|exact clz|fail
   ·rw[e2,ea];exact⟨.ready,ts,LI,kp jlen⟩
   ·rw[e2,ea];refine jP.mono ?_ (hb' _);rintro v h' ⟨hh',⟨rfl,hn,rfl⟩|⟨st,rfl,hs',rfl⟩⟩
    ·simp (disch:=omega) only[go_sem];rw[<-ea];refine hK' _ _ (j+1,hh') ⟨hjl,hn⟩ (by simp only;omega) ?_;simp only[hO7,qsL,Nat.add_sub_cancel,hbc];rw[ine om];refine Wk.temps ?_
     (simp only[jZ,ndC,go_sem,qg,qc,qb,qf];try exact we)
    ·simp (disch:=omega) only[go_sem];rw[<-ea hh' st];obtain⟨r1,r2⟩:=(hE _ _ hs').retY (L:=LI) (xs:= [cyA h.length,cxA 0 0,ceA h.length]) (ys:= [cyA h.length,cxA 1 (ch s j),ceA h.length]) st hts rfl (λo ho=>by
      simp only[List.mem_cons,List.not_mem_nil,or_false]at ho;rcases ho with rfl|rfl|rfl
      ·left;simp
      ·right;exact qiK 1 _
      ·left;simp)
     exact jX ⟨trivial,trivial⟩ r1 r2 ⟨hh',ch s j,.inr ⟨st,rfl,hs',rfl⟩⟩ (qi)
  have k1:((j:Int)<s.length)=False:=wm;obtain rfl:j=s.length:=by omega
  simp (disch:=omega) only[jZ,ndC,k1,go_sem];rw[e2];refine hK _ _ (1,hj,O7',O9,qsL s s.length) ⟨nlr _,j2,by rw[hO7];rfl,i4,λh=>absurd h (by simp)⟩ (by simp only;omega) ?_;simp only[hO7];refine Wk.temps ?_
  (simp only[jZ,ndC,go_sem,qg,qc,qb,qf];try exact we)
 ·obtain rfl:i=1:=by omega
  have i2:S s.length hh:=i2;show qX _ _ _ _ _ (hh++ [.lp .ready ts LI,cyA h.length,cxA 1 c,ceA h.length]++ [O7,O9]);simp (disch:=omega) only[jZ,ndC,go_sem]
  repeat' first|(with_reducible first|intro _|apply aiA)|exact clz|fail
  obtain⟨r1,r2⟩:=(hS _ _ i2).retY (L:=LI) (xs:= [cyA h.length,cxA 0 0,ceA h.length]) (ys:= [cyA h.length,cxA 1 c,ceA h.length]) .ready hts rfl (λo ho=>by
   simp only[List.mem_cons,List.not_mem_nil,or_false]at ho;rcases ho with rfl|rfl|rfl
   ·left;simp
   ·right;exact qiK 1 c
   ·left;simp)
  exact jX ⟨trivial,trivial⟩ r1 r2 ⟨hh,c,.inl ⟨rfl,i2,rfl⟩⟩ (qi)
end RC
end
section
open Go Go.Proofs AF HY LN
namespace RC
theorem itA(s:Str)(hl:s.length<=1000000):qhc Tryz.prog 280 [.ip [.str [],.int .i64 0],.ip [jZ s]] (atX s):=by
 intro h ts LI S E hS hE body start hts;have hb:(h++ [AObj.lp LS.ready ts LI]).length=h.length+1:=by simp
 have ea: ∀st,h++ [AObj.lp st ts LI]++ [.mem 1 306 [.yld h.length],.mem 1 269 [.int .i64 0,.int .u8 0,.int .i64 0,.str [],.int .i64 0,.bool false,.str []],.mem 1 307 [.fn (.func 281) [] [.op (h.length+2) 1 0,.op (h.length+1) 1 0,.op (h.length+3) 1 0]]]=h++ [AObj.lp st ts LI,cyA h.length,cxA 0 0,ceA h.length]:=λst=>by simp[cyA,cxA,ceA,atC]
 refine acQ qxF ?_;simp (disch:=omega) only[qvO,jZ,go_sem]
 repeat' first|with_reducible apply aiA|exact clz|fail
 simp only[hb,Nat.add_assoc,Nat.reduceAdd,ea];refine qii (eachT s hl h ts LI S E hS hE body start hts) ?_;rintro v h' ⟨hh',c,⟨rfl,hn,rfl⟩|⟨st,rfl,hs',rfl⟩⟩
 ·simp (disch:=omega) only[go_sem];obtain⟨r1,r2⟩:=(hS _ _ hn).retX (L:=LI) (xs:= []) .ready hts;have eO:hh'++ [.lp .ready ts LI,cyA h.length,cxA 1 c,ceA h.length]=(hh'++ [.lp .ready ts LI])++ [cyA h.length,cxA 1 c,ceA h.length]:=by simp
  rw[eO];exact zI trivial r1 r2 ⟨hh',.inl ⟨by rw[qal];exact hn,rfl⟩⟩ (qi)
 ·simp (disch:=omega) only[go_sem];obtain⟨r1,r2⟩:=(hE _ _ hs').retX (L:=LI) (xs:= []) st hts;have eO:hh'++ [.lp st ts LI,cyA h.length,cxA 1 c,ceA h.length]=(hh'++ [.lp st ts LI])++ [cyA h.length,cxA 1 c,ceA h.length]:=by simp
  rw[eO];exact zI trivial r1 r2 ⟨hh',.inr ⟨st,hs',rfl⟩⟩ (qi)
theorem qCT(s:Str)(h:wh):ACalls Tryz.prog 243 [.agg [.str [],.int .i64 0],jZ s] h (.fn (.func 280) [] [.ip [.str [],.int .i64 0],.ip [jZ s]]) h:=by
 refine acO qxt ?_;simp (disch:=omega) only[qvD,jZ,ndC,go_sem]
 repeat' first|exact wa|fail
end RC
end
section
open Go Go.Proofs AF HY RC LN
namespace HY
theorem Ug(w:World)(b d:Nat)(v:Value):w.grownBy (w.setCell ⟨b,d,none⟩ v) (some b):=by
 unfold World.setCell;refine⟨rfl,rfl,rfl,?_,λk hk hne=> ?_⟩
 ·simp
 ·have:b≠k:=λe=>hne (by rw[e])
  simp[Array.getElem?_modify,this]
theorem qBw(n:Nat)(hn:6<=n):liesAt Tryz.prog Tryz.prog.depth 264 (n/Tryz.prog.cellsOf 264) 1 158 1=true:=by
 have e1:Tryz.prog.cellsOf 264=6:=by kernel_rfl
 have h1:liesAt Tryz.prog Tryz.prog.depth 264 1 1 158 1=true:=by kernel_rfl
 rw[e1];exact S9 om _ h1
theorem ccT(kb vb:Nat)(z0 z1 z2 z3:AV)(A B:AV)(h:wh)(hk:qr kb h=some (.mem vb 264 [z0,A,B,z1,z2,z3]))(hA:A= .nilp∨A= .op kb vb 1):ACalls Tryz.prog 159 [.op kb vb 1] h (.tup []) (qq kb h (.mem vb 264 [z0,.op kb vb 1,B,z1,z2,z3])):=by
 refine⟨qjL Tryz.func159 (by kernel_rfl) (by kernel_rfl),λw σ xs H hv=> ?_⟩;obtain⟨x,rfl,hx⟩:=hv.one;have hc:=qG hk;obtain⟨cs,o,b,arr,g1,rfl,g2,g3,g4,g5,g6,g7,g9,g8⟩:=jM H hx (by rw[hc];rfl);rw[hc]at g1;cases g1;have hobj:=H.obj kb _ o hk g2;obtain⟨_,hty,_⟩:=hobj;rw[hty]at g5;have g5b:=g5;have g5:=g5.plain (by decide);have hsz:6<=arr.size:=g7;have hc0:w.cell? ⟨b,1,none⟩=some arr[1]:=by rw[jz g5b];simp
 have hA0:=g8 1 A arr[1] rfl (by simp);have hsh:w.shape? b=some (264,arr.size):=by simp[World.shape?,g5]
 have hfz:w.frozen? ⟨b,1,none⟩=false:=by simp[World.frozen?,g5]
 have hkl:=qV hk;rcases hA with rfl|rfl
 ·rw[qaM hA0]at hc0;refine (callsIn_wide.2 (qbG b 1 264 arr.size w hc0 om hsh hfz (qBw _ hsz))).mono ?_;rintro e w' ⟨rfl,rfl⟩;have hg:w.grownBy (w.setCell ⟨b,1,none⟩ (.pointer (some ⟨b,1,none⟩))) o.blk:=by rw[g4];exact Ug w b 1 _
  have hh:=heap_setCell_same w b 1 arr 264 (.pointer (some ⟨b,1,none⟩)) g5;obtain⟨u1,u2⟩:=H.update (o':=o) (a':= .mem vb 264 [z0,.op kb vb 1,B,z1,z2,z3]) g2 hg (nlr _) (λ_=>rfl)
   (by intro b' e;rw[g4]at e;cases e;exact⟨.inl g4,(Array.getElem?_eq_some_iff.1 hh).1⟩) (λb' r e hr=>by rw[g4]at e;cases e;rw[g5]at hr;cases hr)
   (λe=>⟨g3,hty,b,_,g4,by rw[hty];exact .mk hh,by simp[g6],by simp;exact hsz,λi y hi hy=>by
    simp only[Array.getElem?_setIfInBounds]at hy;split at hy
    ·split at hy
     ·cases hy;rfl
     ·cases hy
    ·exact g9 i y (by simpa using hi) hy,λi c y hc hy=>by
    simp only[Array.getElem?_setIfInBounds]at hy;split at hy
    ·rename_i e0;split at hy
     ·cases hy;subst e0;simp at hc;subst hc;have hko:(σ.set kb o)[kb]? =some o:=by rw[List.getElem?_set_self (by rw[H.len];exact hkl)]
      exact .op o hko ⟨_,rfl⟩ om (λ_=>⟨b,g4,rfl⟩)
     ·cases hy
    ·rename_i e0;have hne:i≠1:=λe1=>e0 e1.symm
     have hcs: [z0,.op kb vb 1,B,z1,z2,z3]= [z0,.nilp,B,z1,z2,z3].set 1 (.op kb vb 1):=rfl;rw[hcs,List.getElem?_set_ne (λe1=>hne e1.symm)]at hc
     exact (g8 i c y hc hy).ext e⟩)
  exact⟨_,_,rfl,u1,.imm (.tup rfl (λi c x hc=>by simp at hc)),u2⟩
 ·obtain⟨o',q1,q2,q3⟩:=qpf hA0;rw[g2]at q1;cases q1;obtain⟨b',q4,q5⟩:=q3 g3;rw[g4]at q4;cases q4;rw[q5]at hc0;refine (callsIn_wide.2 (qdL b 1 w hc0)).mono ?_;rintro e w' ⟨rfl,rfl⟩;rw[jc hk];exact⟨_,σ,rfl,H,.imm (.tup rfl (λi c x hc=>by simp at hc)),Ext.refl w' σ⟩
theorem qeJ{kb vb kj v m:Nat}{z0 z1 z2 z3:AV}{h:wh}{s:List UInt8}(lz0:qS h.length z0=true)(lz1:qS h.length z1=true)(lz2:qS h.length z2=true)(lz3:qS h.length z3=true)(hkl:kb<h.length)(hjl:kj<h.length): ∀o∈qq kj (qq kb h (.mem vb 264 [z0,.op kb vb 1,.osl kj v 1 0 m,z1,z2,z3])) (S7 v s),o∈h∨lowO h.length o:=by
 intro o ho;rcases z6 ho with h1|rfl
 ·rcases z6 h1 with h2|rfl
  ·exact .inl h2
  ·right;intro c hc;simp only[List.mem_cons,List.not_mem_nil,or_false]at hc;rcases hc with rfl|rfl|rfl|rfl|rfl|rfl
   ·exact lz0
   ·simpa[qS] using hkl
   ·simpa[qS] using hjl
   ·exact lz1
   ·exact lz2
   ·exact lz3
 ·exact .inr (zY v s _)
theorem qD5(kb vb kj v:Nat)(z0 z1 z2 z3:AV)(A:AV)(s:List UInt8)(u:UInt8)(h:wh)(lz0:qS h.length z0=true)(lz1:qS h.length z1=true)(lz2:qS h.length z2=true)(lz3:qS h.length z3=true)(hne:kj≠kb)(hk:qr kb h=some (.mem vb 264 [z0,A,.osl kj v 1 0 s.length,z1,z2,z3]))(hA:A= .nilp∨A= .op kb vb 1)(hj:qr kj h=some (S7 v s))(hl:s.length+1<=140737488355328):
  ACalls Tryz.prog 307 [.op kb vb 1,.int .u8 u.toNat] h .nilif (qq kj (qq kb h (.mem vb 264 [z0,.op kb vb 1,.osl kj (v+1) 1 0 (s.length+1),z1,z2,z3])) (S7 (v+1) (s++ [u]))):=by
 have hkl:=qV hk;have hjl:=qV hj;have hne':kb≠kj:=λe=>hne e.symm
 have hj0:kj≠h.length:=by omega
 have hj1:kj≠h.length+1:=by omega
 have hk1: ∀l,qr kb (h++l)=some (.mem vb 264 [z0,A,.osl kj v 1 0 s.length,z1,z2,z3]):=λl=>by rw[zw hkl,hk]
 refine acO qxO ?_;simp (disch:=omega) only[qvW,go_sem];refine qv (ccT kb vb z0 z1 z2 z3 A _ _ (hk1 _) hA) ⟨rfl,trivial⟩ ?_
 by_cases hs:s= []
 ·subst hs;rw[SB]at hj;simp (disch:=omega) only[zg,zO,qH,Ue,Uf,UA,UB,zy,ja,ql,Ul,hj,zQ,go_sem]
  repeat' first|(with_reducible apply aiA)
  all_goals first
   |omega
   |(rw[bne_iff_ne];exact hj0)
   |(simp;done)
   |skip
  rw[S4 hne',show AObj.mem (v+1) 5 [AV.int IntKind.u8 u.toNat]=S7 (v+1) [u]from (kV (s:= [u]) (by simp) _).symm];exact jX ⟨trivial,trivial⟩ (by simp only[qK]) (qeJ lz0 lz1 lz2 lz3 hkl hjl) ⟨rfl,rfl⟩ (qi)
 ·rw[kV hs]at hj;simp (disch:=omega) only[zg,zO,qH,Ue,Uf,UA,UB,zy,ja,ql,wl,hj,zL,zQ,go_sem]
  repeat' first|(with_reducible apply aiA)
  all_goals first
   |omega
   |(rw[bne_iff_ne];exact hj0)
   |(simp[zL];done)
   |skip
  rw[S4 hne',ltl (by simp[zL]),show zC s++ [AV.int IntKind.u8 u.toNat]=zC (s++ [u])from (Ub s [u]).symm,<-kV (s:=s++ [u]) (by simp)];exact jX ⟨trivial,trivial⟩ (by simp only[qK]) (qeJ lz0 lz1 lz2 lz3 hkl hjl) ⟨rfl,rfl⟩ (qi)
theorem qDO(kb vb kj v:Nat)(z0 z1 z2 z3:AV)(A:AV)(s:List UInt8)(h:wh)(hne:kj≠kb)(hk:qr kb h=some (.mem vb 264 [z0,A,.osl kj v 1 0 s.length,z1,z2,z3]))(hj:qr kj h=some (S7 v s)):
  ACalls Tryz.prog 116 [.op kb vb 1] h (.str s) (qq kj h (.emp (v+1))):=by
 refine⟨qjL Tryz.func116 (by kernel_rfl) (by kernel_rfl),λw σ xs H hv=> ?_⟩;obtain⟨x,rfl,hx⟩:=hv.one;have hc:=qG hk;obtain⟨cs,o,b,arr,g1,rfl,g2,g3,g4,g5,g6,g7,g9,g8⟩:=jM H hx (by rw[hc];rfl);rw[hc]at g1;cases g1;have hty:=(H.obj kb _ o hk g2).2.1;rw[hty]at g5;have g5b:=g5;have g5:=g5.plain (by decide);have hsz:6<=arr.size:=g7;have hc1:w.cell? ⟨b,1+1,none⟩=some arr[1+1]:=by rw[jz g5b];simp
 have hB:=g8 (1+1) _ arr[1+1] rfl (by simp);obtain⟨oj,j1,j2,j3⟩:=qfv hB;have hobj:=H.obj kj _ oj hj j1;have hkj:=qV hj
 by_cases hs:s= []
 ·subst hs;rw[SB]at hj hobj;obtain⟨m1,m2⟩:=hobj;rcases j3 m1 with⟨_,_,_,e⟩|⟨b',cap,e,_⟩
  ·rw[e]at hc1;refine (callsIn_wide.2 (qcf b 1 w hc1)).mono ?_;rintro e w' ⟨rfl,rfl⟩;obtain⟨u1,u2⟩:=H.update (w':=w.drew) (o':= { oj with blk:=none,ver:=v+1 }) (a':= .emp (v+1)) j1 ⟨rfl,rfl,rfl,nlr _,λ_ _ _=>rfl⟩ (by simp only;omega) (by simp only;omega) (by intro b' e;cases e) (λb' r e hr=>⟨r,hr⟩) (λ_=>⟨rfl,rfl⟩);exact⟨_,_,rfl,u1,.imm .str,u2⟩
  ·rw[m2]at e;cases e
 ·rw[kV hs]at hj hobj;obtain⟨m1,m2,bj,arrj,m3,m4,m5,m6,m7,m8⟩:=hobj;rcases j3 m1 with⟨e,_⟩|⟨b',cap,e1,e2,e3,e4,e5⟩
  ·rw[m3]at e;cases e
  ·rw[m3]at e1;cases e1;rw[e2]at hc1;rw[m2]at m4;have m4b:=m4;have m4:=m4.plain (by decide);rw[zL]at m6;refine (callsIn_wide.2 (qcg b 1 bj cap s arrj w hs hc1 m4 e3 e4 om (λj x hx=> ?_))).mono ?_
   ·have hjl:j<s.length:=(lgs.1 hx).1;rw[jz m4b];have ea:arrj[j]? =some arrj[j]:=by simp
    have:=m8 j (.int .u8 x.toNat) arrj[j] (by simp[zC,hx]) ea
    rw[ea,zH this]
   ·rintro e w' ⟨rfl,rfl⟩;have hg:w.grownBy (w.drew.freeze ⟨bj,0,none⟩ s.length) oj.blk:=by
     rw[m3];exact R1 w bj s.length
    obtain⟨u1,u2⟩:=H.update (o':= { oj with blk:=none,ver:=v+1 }) (a':= .emp (v+1)) j1 hg (by simp only;omega) (by simp only;omega) (by intro b' e;cases e)
     (λb' r e hr=>by rw[m3]at e;cases e;rw[m4]at hr;cases hr) (λ_=>⟨rfl,rfl⟩)
    exact⟨_,_,rfl,u1,.imm .str,u2⟩
end HY
end
section
open Go Go.Proofs AF HY LN
namespace AF
def tri(h:wh)(a b c:Nat)(X Y Z:AObj):wh:=qq c (qq b (qq a h X) Y) Z
structure T3 (h:wh) (a b c:Nat):Prop where
 la:a<h.length
 lb:b<h.length
 lc:c<h.length
 ab:a≠b
 ac:a≠c
 bc:b≠c
section
variable {h l : wh} {a b c n v : Nat} {X Y Z o : AObj}
theorem T3.app(t:T3 h a b c)(l:wh):T3 (h++l) a b c:=by
 have:=t.la;have:=t.lb;have:=t.lc
 exact⟨by rw[lap];omega,by rw[lap];omega,by rw[lap];omega,t.ab,t.ac,t.bc⟩
theorem tri_len:(tri h a b c X Y Z).length=h.length:=by unfold tri;simp only[qK]
theorem qtr(t:T3 h a b c):tri (h++l) a b c X Y Z=tri h a b c X Y Z++l:=by
 unfold tri;rw[zg t.la,zg (by rw[qK];exact t.lb),zg (by rw[qK,qK];exact t.lc)]
theorem CS(t:T3 h a b c):qr a (tri h a b c X Y Z++l)=some X:=by
 rw[zw (by rw[tri_len];exact t.la)];unfold tri;rw[qH t.ac,qH t.ab,zO t.la]
theorem Sv(t:T3 h a b c):qr b (tri h a b c X Y Z++l)=some Y:=by
 rw[zw (by rw[tri_len];exact t.lb)];unfold tri;rw[qH t.bc,zO (by rw[qK];exact t.lb)]
theorem DV(t:T3 h a b c):qr c (tri h a b c X Y Z++l)=some Z:=by
 rw[zw (by rw[tri_len];exact t.lc)];unfold tri;rw[zO (by rw[qK,qK];exact t.lc)]
theorem Sz(t:T3 h a b c):qq a (tri h a b c X Y Z++l) o=tri h a b c o Y Z++l:=by
 rw[zg (by rw[tri_len];exact t.la)];unfold tri;rw[ku t.ac,ku t.ab,kv]
theorem S0(t:T3 h a b c):qq b (tri h a b c X Y Z++l) o=tri h a b c X o Z++l:=by
 rw[zg (by rw[tri_len];exact t.lb)];unfold tri;rw[ku t.bc,kv]
theorem S3(t:T3 h a b c):qq c (tri h a b c X Y Z++l) o=tri h a b c X Y o++l:=by
 rw[zg (by rw[tri_len];exact t.lc)];unfold tri;rw[kv]
theorem tri_go:qr (h.length+n) (tri h a b c X Y Z++l)=l[n]? :=by
 have:= @getO_app (tri h a b c X Y Z) l n
 rwa [tri_len]at this
theorem tri_go0:qr h.length (tri h a b c X Y Z++l)=l[0]? :=by
 have:= @getO_app0 (tri h a b c X Y Z) l
 rwa [tri_len]at this
theorem tri_so:qq (h.length+n) (tri h a b c X Y Z++l) o=tri h a b c X Y Z++l.set n o:=by
 have:= @setO_app (tri h a b c X Y Z) l n o
 rwa [tri_len]at this
theorem tri_so0:qq h.length (tri h a b c X Y Z++l) o=tri h a b c X Y Z++l.set 0 o:=by
 have:= @setO_app0 (tri h a b c X Y Z) l o
 rwa [tri_len]at this
theorem tri_co:cellsOf (tri h a b c X Y Z++l) (h.length+n) v=cellsOf l n v:=by unfold cellsOf;rw[tri_go];rfl
theorem tri_co0:cellsOf (tri h a b c X Y Z++l) h.length v=cellsOf l 0 v:=by unfold cellsOf;rw[tri_go0];rfl
theorem tri_to:qJ (tri h a b c X Y Z++l) (h.length+n)=qJ l n:=by unfold qJ;rw[tri_go];rfl
theorem tri_to0:qJ (tri h a b c X Y Z++l) h.length=qJ l 0:=by unfold qJ;rw[tri_go0];rfl
theorem tri_lo:qF (tri h a b c X Y Z++l) (h.length+n) v=qF l n v:=by unfold qF;rw[tri_go];rfl
theorem TV(t:T3 h a b c):cellsOf (tri h a b c X Y Z++l) a v=qx (some X) v:=by rw[zy,CS t]
theorem TW(t:T3 h a b c):cellsOf (tri h a b c X Y Z++l) b v=qx (some Y) v:=by rw[zy,Sv t]
theorem TX(t:T3 h a b c):cellsOf (tri h a b c X Y Z++l) c v=qx (some Z) v:=by rw[zy,DV t]
theorem TY(t:T3 h a b c):qF (tri h a b c X Y Z++l) a v=qI (some X) v:=by rw[ja,CS t]
theorem TZ(t:T3 h a b c):qF (tri h a b c X Y Z++l) b v=qI (some Y) v:=by rw[ja,Sv t]
theorem T0(t:T3 h a b c):qF (tri h a b c X Y Z++l) c v=qI (some Z) v:=by rw[ja,DV t]
theorem qtt(t:T3 h a b c){X' Y' Z':AObj}:tri (tri h a b c X Y Z) a b c X' Y' Z'=tri h a b c X' Y' Z':=by
 have e1:=Sz (X:=X) (Y:=Y) (Z:=Z) (l:= []) (o:=X') t;have e2:=S0 (X:=X') (Y:=Y) (Z:=Z) (l:= []) (o:=Y') t;have e3:=S3 (X:=X') (Y:=Y') (Z:=Z) (l:= []) (o:=Z') t;simp only[lan]at e1 e2 e3
 conv=>lhs;unfold tri
 rw[show qq c (qq b (qq a h X) Y) Z=tri h a b c X Y Z from rfl,e1,e2,e3]
theorem jJ(t:T3 h a b c){X' Y' Z':AObj}(hx:lowO h.length X')(hy:lowO h.length Y')(hz:lowO h.length Z'): ∀o∈tri h a b c X' Y' Z',o∈tri h a b c X Y Z∨lowO (tri h a b c X Y Z).length o:=by
 intro o ho;rw[tri_len];rw[<-qtt (X:=X) (Y:=Y) (Z:=Z) t]at ho;unfold tri at ho;rcases z6 ho with h1|rfl
 ·rcases z6 h1 with h1|rfl
  ·rcases z6 h1 with h1|rfl
   ·exact .inl h1
   ·exact .inr hx
  ·exact .inr hy
 ·exact .inr hz
end
attribute [go_sem] tri_len tri_go tri_go0 tri_so tri_so0 tri_co tri_co0 tri_to tri_to0 tri_lo
theorem ACalls.wk{P:Program}{f:FuncId}{args:wi}{h h' h'':wh}{r:AV}(hc:ACalls P f args h r h')(hw:Wk [] h' [] h''):ACalls P f args h r h'':=by
 refine⟨hc.1,λw σ xs H hv=>(hc.2 w σ xs H hv).mono ?_⟩;rintro e w' ⟨v,σ',rfl,g1,g2,g3⟩;obtain⟨σ2,s1,s2⟩:=hw w'.heap.size w' σ' { tmps:= #[],defers:= [] } ⟨g1,rfl,λi c x hc=>(by simp at hc),⟨[],rfl,.nil,nlr _,λr hr=>(by cases hr)⟩⟩;exact⟨v,σ2,rfl,s1.hr,g2.ext s2,g3.trans s2⟩
end AF
namespace RC
def jm(L:List Tk):wi:=L.flatMap tkC
theorem qes(t:Tk):(tkC t).length=6:=rfl
theorem jI(L:List Tk):(jm L).length=L.length*6:=by
 unfold jm
 induction L with
 |nil=>rfl
 |cons a L ih=>rw[List.flatMap_cons,lap,ih,lco,qes];omega
theorem qci(A B:List Tk):jm (A++B)=jm A++jm B:=by simp[jm]
theorem qfm(a:Tk):jm [a]=tkC a:=by simp[jm]
theorem qlr(L:List Tk): ∀i,(jm L).take (i*6)=jm (L.take i):=by
 induction L with
 |nil=>intro i;simp[jm]
 |cons a L ih=>
  intro i;cases i with
  |zero=>simp[jm]
  |succ i=>
   rw[show jm (a::L)=tkC a++jm L from rfl,show (a::L).take (i+1)=a::L.take i from rfl,show jm (a::L.take i)=tkC a++jm (L.take i)from rfl,<-ih i];rw[show (i+1)*6=(tkC a).length+i*6 by rw[qes];omega,List.take_append,ltl om,Nat.add_sub_cancel_left]
theorem qdr(L:List Tk): ∀i,(jm L).drop (i*6)=jm (L.drop i):=by
 induction L with
 |nil=>intro i;simp[jm]
 |cons a L ih=>
  intro i;cases i with
  |zero=>simp
  |succ i=>
   rw[show jm (a::L)=tkC a++jm L from rfl,show (a::L).drop (i+1)=L.drop i from rfl,<-ih i];rw[show (i+1)*6=(tkC a).length+i*6 by rw[qes];omega,List.drop_append,List.drop_eq_nil_of_le om,lna,Nat.add_sub_cancel_left]
theorem TU{L:List Tk}{i:Nat}(hi:i<L.length):((jm L).drop (i*6)).take 6=tkC (L.getD i default):=by
 rw[qdr,List.drop_eq_getElem_cons hi,gdqA,zn hi];rfl
theorem qfn{L:List Tk}{i:Nat}(e:Tk)(hi:i<L.length):(jm L).take (i*6)++(tkC e++(jm L).drop (i*6+6))=jm (L.set i e):=by
 rw[List.set_eq_take_append_cons_drop,ipo hi,show i*6+6=(i+1)*6 by omega,qlr,qdr,qci];rw[show e::List.drop (i+1) L= [e]++List.drop (i+1) L from rfl,qci,qfm]
theorem qcj{L:List Tk}{i k:Nat}(hi:i<L.length)(hk:k<6):(jm L)[i*6+k]? =(tkC (L.getD i default))[k]? :=by
 rw[<-TU hi,List.getElem?_take,ipo hk,List.getElem?_drop]
theorem kh(L:List Tk)(n:Nat): ∀c∈jm L,qS n c=true:=by
 intro c hc;unfold jm at hc;obtain⟨x,_,hx⟩:=List.mem_flatMap.1 hc;unfold tkC at hx;simp only[List.mem_cons,List.not_mem_nil,or_false]at hx;rcases hx with rfl|rfl|rfl|rfl|rfl|rfl<;>rfl
structure Br where
 out:List Tk
 word:Str
 opn:Bool
 jn:Bool
 vo:Nat
 vw:Nat
 ad:Bool
def brX(a b c va:Nat)(q:Br):AObj:= .mem va 264 [.osl b q.vo 6 0 q.out.length,if q.ad=true then .op a va 1 else .nilp,.osl c q.vw 1 0 q.word.length,.bool q.opn,.bool q.jn,.bool false]
def brY(q:Br):AObj:=qZ q.vo 92 (jm q.out)
def brO(h:wh)(a b c va:Nat)(q:Br):wh:=tri h a b c (brX a b c va q) (brY q) (S7 q.vw q.word)
def Tm(L:List Tk)(w:Str):List Tk:=L.set (L.length-1) ⟨w,(L.getD (L.length-1) default).norm,(L.getD (L.length-1) default).page,(L.getD (L.length-1) default).line,(L.getD (L.length-1) default).flags,(L.getD (L.length-1) default).name⟩
def Br.nd(q:Br):Br:=if q.opn=true then ⟨Tm q.out q.word,[],false,q.jn,q.vo,q.vw+1,false⟩ else ⟨q.out,[],false,q.jn,q.vo,q.vw,false⟩
def Br.st(q:Br)(f:Int):Br:=⟨q.out++ [tkF (f+jfl q.jn q.out.length) []],q.word,q.opn,true,q.vo+1,q.vw,q.ad⟩
def Br.wb(q:Br)(c:UInt8):Br:=⟨q.out,q.word++ [c],q.opn,q.jn,q.vo,q.vw+1,true⟩
def Br.op(q:Br):Br:=⟨q.out,q.word,true,q.jn,q.vo,q.vw,q.ad⟩
def Br.sp(q:Br):Br:=⟨q.out,q.word,q.opn,false,q.vo,q.vw,q.ad⟩
def Br.tx(q:Br)(w:Str):Br:=⟨Tm q.out w,q.word,q.opn,q.jn,q.vo,q.vw,q.ad⟩
def Br.pt(q:Br)(c:UInt8):Br:=if q.opn=true∧SI c=true then q.wb c else if bgn c=true then ((q.st 0).op).wb c else if kind c=6 then q.nd.sp else (q.nd.st 8).tx [c]
theorem jL{h:wh}{a b c:Nat}(t:T3 h a b c)(va:Nat)(q:Br):lowO h.length (brX a b c va q):=by
 intro x hx
 have:=t.la;have:=t.lb;have:=t.lc
 simp only[List.mem_cons,List.not_mem_nil,or_false]at hx;rcases hx with rfl|rfl|rfl|rfl|rfl|rfl
 ·simp[qS];assumption
 ·split
  ·simp[qS];assumption
  ·rfl
 ·simp[qS];assumption
 ·rfl
 ·rfl
 ·rfl
theorem eW(q:Br)(n:Nat):lowO n (brY q):=ji (kh q.out n)
theorem qbE{h:wh}{a b c va:Nat}{q:Br}:(brO h a b c va q).length=h.length:=tri_len
end RC
end
section
open Go Go.Proofs AF HY LN
namespace AF
theorem qaE{v:Nat}{ty:TypeId}{cs:wi}:qhb (some (qZ v ty cs)) ty=true:=by
 unfold qZ;split<;>simp[qhb]
end AF
namespace RC
section
variable {h : wh} {a b c va : Nat}
theorem qa5{q:Br}(hn:0<q.out.length):brY q= .mem q.vo 92 (jm q.out):=by
 unfold brY qZ;rw[ine];intro e
 have:=congrArg List.length e
 rw[jI,lnl]at this;omega
theorem qqD(t:T3 h a b c)(q:Br)(hn:0<q.out.length)(hm:q.out.length<=1000000):ACalls Tryz.prog 284 [.op a va 0] (brO h a b c va q) (.op b q.vo ((q.out.length-1)*6)) (brO h a b c va q):=by
 have ta:=t.la;have tb:=t.lb;have tc:=t.lc;have zga: ∀ {X Y Z l},qr (a) (tri h a b c X Y Z++l)=some X:=CS (t);have yga: ∀ {X Y Z},qr (a) (tri h a b c X Y Z)=some X:=λ{X Y Z}=>by have:=zga (X:=X) (Y:=Y) (Z:=Z) (l:= []);simpa only[lan] using this
 have zgb: ∀ {X Y Z l},qr (b) (tri h a b c X Y Z++l)=some Y:=Sv (t);have ygb: ∀ {X Y Z},qr (b) (tri h a b c X Y Z)=some Y:=λ{X Y Z}=>by have:=zgb (X:=X) (Y:=Y) (Z:=Z) (l:= []);simpa only[lan] using this
 have zgc: ∀ {X Y Z l},qr (c) (tri h a b c X Y Z++l)=some Z:=DV (t);have ygc: ∀ {X Y Z},qr (c) (tri h a b c X Y Z)=some Z:=λ{X Y Z}=>by have:=zgc (X:=X) (Y:=Y) (Z:=Z) (l:= []);simpa only[lan] using this
 have zsa: ∀ {X Y Z o l},qq (a) (tri h a b c X Y Z++l) o=tri h a b c o Y Z++l:=Sz (t);have ysa: ∀ {X Y Z o},qq (a) (tri h a b c X Y Z) o=tri h a b c o Y Z:=λ{X Y Z o}=>by have:=zsa (X:=X) (Y:=Y) (Z:=Z) (o:=o) (l:= []);simpa only[lan] using this
 have zsb: ∀ {X Y Z o l},qq (b) (tri h a b c X Y Z++l) o=tri h a b c X o Z++l:=S0 (t);have ysb: ∀ {X Y Z o},qq (b) (tri h a b c X Y Z) o=tri h a b c X o Z:=λ{X Y Z o}=>by have:=zsb (X:=X) (Y:=Y) (Z:=Z) (o:=o) (l:= []);simpa only[lan] using this
 have zsc: ∀ {X Y Z o l},qq (c) (tri h a b c X Y Z++l) o=tri h a b c X Y o++l:=S3 (t);have ysc: ∀ {X Y Z o},qq (c) (tri h a b c X Y Z) o=tri h a b c X Y o:=λ{X Y Z o}=>by have:=zsc (X:=X) (Y:=Y) (Z:=Z) (o:=o) (l:= []);simpa only[lan] using this
 have zca: ∀ {X Y Z v l},cellsOf (tri h a b c X Y Z++l) (a) v=qx (some X) v:=TV (t);have yca: ∀ {X Y Z v},cellsOf (tri h a b c X Y Z) (a) v=qx (some X) v:=λ{X Y Z v}=>by have:=zca (X:=X) (Y:=Y) (Z:=Z) (v:=v) (l:= []);simpa only[lan] using this
 have zcb: ∀ {X Y Z v l},cellsOf (tri h a b c X Y Z++l) (b) v=qx (some Y) v:=TW (t);have ycb: ∀ {X Y Z v},cellsOf (tri h a b c X Y Z) (b) v=qx (some Y) v:=λ{X Y Z v}=>by have:=zcb (X:=X) (Y:=Y) (Z:=Z) (v:=v) (l:= []);simpa only[lan] using this
 have zcc: ∀ {X Y Z v l},cellsOf (tri h a b c X Y Z++l) (c) v=qx (some Z) v:=TX (t);have ycc: ∀ {X Y Z v},cellsOf (tri h a b c X Y Z) (c) v=qx (some Z) v:=λ{X Y Z v}=>by have:=zcc (X:=X) (Y:=Y) (Z:=Z) (v:=v) (l:= []);simpa only[lan] using this
 have zla: ∀ {X Y Z v l},qF (tri h a b c X Y Z++l) (a) v=qI (some X) v:=TY (t);have yla: ∀ {X Y Z v},qF (tri h a b c X Y Z) (a) v=qI (some X) v:=λ{X Y Z v}=>by have:=zla (X:=X) (Y:=Y) (Z:=Z) (v:=v) (l:= []);simpa only[lan] using this
 have zlb: ∀ {X Y Z v l},qF (tri h a b c X Y Z++l) (b) v=qI (some Y) v:=TZ (t);have ylb: ∀ {X Y Z v},qF (tri h a b c X Y Z) (b) v=qI (some Y) v:=λ{X Y Z v}=>by have:=zlb (X:=X) (Y:=Y) (Z:=Z) (v:=v) (l:= []);simpa only[lan] using this
 have zlc: ∀ {X Y Z v l},qF (tri h a b c X Y Z++l) (c) v=qI (some Z) v:=T0 (t);have ylc: ∀ {X Y Z v},qF (tri h a b c X Y Z) (c) v=qI (some Z) v:=λ{X Y Z v}=>by have:=zlc (X:=X) (Y:=Y) (Z:=Z) (v:=v) (l:= []);simpa only[lan] using this
 have e1:((q.out.length:Int)-1).toNat=q.out.length-1:=by omega
 have k1:(0<=(q.out.length:Int)-1)=True:=wj;have k2:((q.out.length:Int)-1<q.out.length)=True:=wj;unfold brO;rw[qa5 hn];unfold brX;refine acO qxH ?_;simp (disch:=omega) only[qvQ,yca,ycb,ylb,ql,wl,e1,k1,k2,go_sem]
 repeat' first|(apply qe;exact rvk;simp only[go_sem])
 rw[ine om];exact qi
theorem Wk.triNil{t:wi}{X Z:AObj}{Y:AObj}{v i ve sz:Nat}{ty:TypeId}{cs:wi}(T:T3 h a b c)(hX:X= .mem v ty cs)(hi:cs[i]? =some .nl)(hZ:Z= .emp ve):
  Wk t (tri h a b c X Y Z) t (tri h a b c (.mem v ty (cs.set i (.osl c ve sz 0 0))) Y Z):=by
 subst hX;subst hZ;have e:=Sz (X:= .mem v ty cs) (Y:=Y) (Z:= .emp ve) (l:= []) (o:= .mem v ty (cs.set i (.osl c ve sz 0 0))) T;simp only[lan]at e;rw[<-e];refine Wk.ownNil (j:=a) (k:=c) ?_ hi ?_
 ·have:=CS (X:= .mem v ty cs) (Y:=Y) (Z:= .emp ve) (l:= []) T
  simpa only[lan] using this
 ·have:=DV (X:= .mem v ty cs) (Y:=Y) (Z:= .emp ve) (l:= []) T
  simpa only[lan] using this
theorem quJ(t:T3 h a b c)(X0 X1 X2 X3 X4 X5:AV)(Y:AObj)(v:Nat)(l0:qS h.length X0=true)(l3:qS h.length X3=true)(l4:qS h.length X4=true)(l5:qS h.length X5=true)(ly:lowO h.length Y):
  ACalls Tryz.prog 285 [.op a va 1] (tri h a b c (.mem va 264 [X0,X1,X2,X3,X4,X5]) Y (.emp v)) (.tup []) (tri h a b c (.mem va 264 [X0,.nilp,.osl c v 1 0 0,X3,X4,X5]) Y (.emp v)):=by
 have ta:=t.la;have tb:=t.lb;have tc:=t.lc;refine ACalls.wk (h':=tri h a b c (.mem va 264 [X0,.nilp,.nl,X3,X4,X5]) Y (.emp v)) ?_ (Wk.triNil (v:=va) (ty:=264) (cs:= [X0,.nilp,.nl,X3,X4,X5]) (i:=2) (sz:=1) t rfl rfl rfl);have zga: ∀ {X Y Z l},qr (a) (tri h a b c X Y Z++l)=some X:=CS (t);have yga: ∀ {X Y Z},qr (a) (tri h a b c X Y Z)=some X:=λ{X Y Z}=>by have:=zga (X:=X) (Y:=Y) (Z:=Z) (l:= []);simpa only[lan] using this
 have zgb: ∀ {X Y Z l},qr (b) (tri h a b c X Y Z++l)=some Y:=Sv (t);have ygb: ∀ {X Y Z},qr (b) (tri h a b c X Y Z)=some Y:=λ{X Y Z}=>by have:=zgb (X:=X) (Y:=Y) (Z:=Z) (l:= []);simpa only[lan] using this
 have zgc: ∀ {X Y Z l},qr (c) (tri h a b c X Y Z++l)=some Z:=DV (t);have ygc: ∀ {X Y Z},qr (c) (tri h a b c X Y Z)=some Z:=λ{X Y Z}=>by have:=zgc (X:=X) (Y:=Y) (Z:=Z) (l:= []);simpa only[lan] using this
 have zsa: ∀ {X Y Z o l},qq (a) (tri h a b c X Y Z++l) o=tri h a b c o Y Z++l:=Sz (t);have ysa: ∀ {X Y Z o},qq (a) (tri h a b c X Y Z) o=tri h a b c o Y Z:=λ{X Y Z o}=>by have:=zsa (X:=X) (Y:=Y) (Z:=Z) (o:=o) (l:= []);simpa only[lan] using this
 have zsb: ∀ {X Y Z o l},qq (b) (tri h a b c X Y Z++l) o=tri h a b c X o Z++l:=S0 (t);have ysb: ∀ {X Y Z o},qq (b) (tri h a b c X Y Z) o=tri h a b c X o Z:=λ{X Y Z o}=>by have:=zsb (X:=X) (Y:=Y) (Z:=Z) (o:=o) (l:= []);simpa only[lan] using this
 have zsc: ∀ {X Y Z o l},qq (c) (tri h a b c X Y Z++l) o=tri h a b c X Y o++l:=S3 (t);have ysc: ∀ {X Y Z o},qq (c) (tri h a b c X Y Z) o=tri h a b c X Y o:=λ{X Y Z o}=>by have:=zsc (X:=X) (Y:=Y) (Z:=Z) (o:=o) (l:= []);simpa only[lan] using this
 have zca: ∀ {X Y Z v l},cellsOf (tri h a b c X Y Z++l) (a) v=qx (some X) v:=TV (t);have yca: ∀ {X Y Z v},cellsOf (tri h a b c X Y Z) (a) v=qx (some X) v:=λ{X Y Z v}=>by have:=zca (X:=X) (Y:=Y) (Z:=Z) (v:=v) (l:= []);simpa only[lan] using this
 have zcb: ∀ {X Y Z v l},cellsOf (tri h a b c X Y Z++l) (b) v=qx (some Y) v:=TW (t);have ycb: ∀ {X Y Z v},cellsOf (tri h a b c X Y Z) (b) v=qx (some Y) v:=λ{X Y Z v}=>by have:=zcb (X:=X) (Y:=Y) (Z:=Z) (v:=v) (l:= []);simpa only[lan] using this
 have zcc: ∀ {X Y Z v l},cellsOf (tri h a b c X Y Z++l) (c) v=qx (some Z) v:=TX (t);have ycc: ∀ {X Y Z v},cellsOf (tri h a b c X Y Z) (c) v=qx (some Z) v:=λ{X Y Z v}=>by have:=zcc (X:=X) (Y:=Y) (Z:=Z) (v:=v) (l:= []);simpa only[lan] using this
 have zla: ∀ {X Y Z v l},qF (tri h a b c X Y Z++l) (a) v=qI (some X) v:=TY (t);have yla: ∀ {X Y Z v},qF (tri h a b c X Y Z) (a) v=qI (some X) v:=λ{X Y Z v}=>by have:=zla (X:=X) (Y:=Y) (Z:=Z) (v:=v) (l:= []);simpa only[lan] using this
 have zlb: ∀ {X Y Z v l},qF (tri h a b c X Y Z++l) (b) v=qI (some Y) v:=TZ (t);have ylb: ∀ {X Y Z v},qF (tri h a b c X Y Z) (b) v=qI (some Y) v:=λ{X Y Z v}=>by have:=zlb (X:=X) (Y:=Y) (Z:=Z) (v:=v) (l:= []);simpa only[lan] using this
 have zlc: ∀ {X Y Z v l},qF (tri h a b c X Y Z++l) (c) v=qI (some Z) v:=T0 (t);have ylc: ∀ {X Y Z v},qF (tri h a b c X Y Z) (c) v=qI (some Z) v:=λ{X Y Z v}=>by have:=zlc (X:=X) (Y:=Y) (Z:=Z) (v:=v) (l:= []);simpa only[lan] using this
 refine acO qxI ?_;simp (disch:=omega) only[qvR,yga,ysa,yca,ql,go_sem];refine ju trivial (by simp only[tri_len]) (jJ t (λx hx=> ?_) ly trivial) ⟨rfl,rfl⟩ (qi);simp only[List.mem_cons,List.not_mem_nil,or_false]at hx;rcases hx with rfl|rfl|rfl|rfl|rfl|rfl
 ·exact l0
 ·rfl
 ·rfl
 ·exact l3
 ·exact l4
 ·exact l5
theorem qls{L:List Tk}(w:Str)(hn:0<L.length):(jm L).take ((L.length-1)*6)++([AV.str w]++(jm L).drop ((L.length-1)*6+1))=jm (Tm L w):=by
 unfold Tm;rw[<-qfn _ om];refine congrArg _ ?_;have e:(jm L).drop ((L.length-1)*6+1)=(tkC (L.getD (L.length-1) default)).drop 1++(jm L).drop ((L.length-1)*6+6):=by
  rw[<-TU (L:=L) (i:=L.length-1) om];have e2:(jm L).drop ((L.length-1)*6)=((jm L).drop ((L.length-1)*6)).take 6++((jm L).drop ((L.length-1)*6)).drop 6:=(List.take_append_drop _ _).symm;have hl:=jI L;have hl2:((jm L).drop ((L.length-1)*6)).length=L.length*6-(L.length-1)*6:=by rw[List.length_drop,hl]
  rw[<-List.drop_drop,<-List.drop_drop (i:=6),<-List.drop_append_of_le_length (by rw[List.length_take];omega),List.take_append_drop]
 rw[e];rfl
theorem Ss(L:List Tk)(w:Str):(Tm L w).length=L.length:=by unfold Tm;rw[List.length_set]
theorem qqC(t:T3 h a b c)(q:Br)(ho:q.opn=true->0<q.out.length)(hw:q.opn=false->q.word= [])(hm:q.out.length<=1000000)(hl:q.word.length<=1000000):ACalls Tryz.prog 245 [.op a va 0] (brO h a b c va q) (.tup []) (brO h a b c va q.nd):=by
 have ta:=t.la;have tb:=t.lb;have tc:=t.lc;have zga: ∀ {X Y Z l},qr (a) (tri h a b c X Y Z++l)=some X:=CS (t);have yga: ∀ {X Y Z},qr (a) (tri h a b c X Y Z)=some X:=λ{X Y Z}=>by have:=zga (X:=X) (Y:=Y) (Z:=Z) (l:= []);simpa only[lan] using this
 have zgb: ∀ {X Y Z l},qr (b) (tri h a b c X Y Z++l)=some Y:=Sv (t);have ygb: ∀ {X Y Z},qr (b) (tri h a b c X Y Z)=some Y:=λ{X Y Z}=>by have:=zgb (X:=X) (Y:=Y) (Z:=Z) (l:= []);simpa only[lan] using this
 have zgc: ∀ {X Y Z l},qr (c) (tri h a b c X Y Z++l)=some Z:=DV (t);have ygc: ∀ {X Y Z},qr (c) (tri h a b c X Y Z)=some Z:=λ{X Y Z}=>by have:=zgc (X:=X) (Y:=Y) (Z:=Z) (l:= []);simpa only[lan] using this
 have zsa: ∀ {X Y Z o l},qq (a) (tri h a b c X Y Z++l) o=tri h a b c o Y Z++l:=Sz (t);have ysa: ∀ {X Y Z o},qq (a) (tri h a b c X Y Z) o=tri h a b c o Y Z:=λ{X Y Z o}=>by have:=zsa (X:=X) (Y:=Y) (Z:=Z) (o:=o) (l:= []);simpa only[lan] using this
 have zsb: ∀ {X Y Z o l},qq (b) (tri h a b c X Y Z++l) o=tri h a b c X o Z++l:=S0 (t);have ysb: ∀ {X Y Z o},qq (b) (tri h a b c X Y Z) o=tri h a b c X o Z:=λ{X Y Z o}=>by have:=zsb (X:=X) (Y:=Y) (Z:=Z) (o:=o) (l:= []);simpa only[lan] using this
 have zsc: ∀ {X Y Z o l},qq (c) (tri h a b c X Y Z++l) o=tri h a b c X Y o++l:=S3 (t);have ysc: ∀ {X Y Z o},qq (c) (tri h a b c X Y Z) o=tri h a b c X Y o:=λ{X Y Z o}=>by have:=zsc (X:=X) (Y:=Y) (Z:=Z) (o:=o) (l:= []);simpa only[lan] using this
 have zca: ∀ {X Y Z v l},cellsOf (tri h a b c X Y Z++l) (a) v=qx (some X) v:=TV (t);have yca: ∀ {X Y Z v},cellsOf (tri h a b c X Y Z) (a) v=qx (some X) v:=λ{X Y Z v}=>by have:=zca (X:=X) (Y:=Y) (Z:=Z) (v:=v) (l:= []);simpa only[lan] using this
 have zcb: ∀ {X Y Z v l},cellsOf (tri h a b c X Y Z++l) (b) v=qx (some Y) v:=TW (t);have ycb: ∀ {X Y Z v},cellsOf (tri h a b c X Y Z) (b) v=qx (some Y) v:=λ{X Y Z v}=>by have:=zcb (X:=X) (Y:=Y) (Z:=Z) (v:=v) (l:= []);simpa only[lan] using this
 have zcc: ∀ {X Y Z v l},cellsOf (tri h a b c X Y Z++l) (c) v=qx (some Z) v:=TX (t);have ycc: ∀ {X Y Z v},cellsOf (tri h a b c X Y Z) (c) v=qx (some Z) v:=λ{X Y Z v}=>by have:=zcc (X:=X) (Y:=Y) (Z:=Z) (v:=v) (l:= []);simpa only[lan] using this
 have zla: ∀ {X Y Z v l},qF (tri h a b c X Y Z++l) (a) v=qI (some X) v:=TY (t);have yla: ∀ {X Y Z v},qF (tri h a b c X Y Z) (a) v=qI (some X) v:=λ{X Y Z v}=>by have:=zla (X:=X) (Y:=Y) (Z:=Z) (v:=v) (l:= []);simpa only[lan] using this
 have zlb: ∀ {X Y Z v l},qF (tri h a b c X Y Z++l) (b) v=qI (some Y) v:=TZ (t);have ylb: ∀ {X Y Z v},qF (tri h a b c X Y Z) (b) v=qI (some Y) v:=λ{X Y Z v}=>by have:=zlb (X:=X) (Y:=Y) (Z:=Z) (v:=v) (l:= []);simpa only[lan] using this
 have zlc: ∀ {X Y Z v l},qF (tri h a b c X Y Z++l) (c) v=qI (some Z) v:=T0 (t);have ylc: ∀ {X Y Z v},qF (tri h a b c X Y Z) (c) v=qI (some Z) v:=λ{X Y Z v}=>by have:=zlc (X:=X) (Y:=Y) (Z:=Z) (v:=v) (l:= []);simpa only[lan] using this
 cases hq:q.opn with
 |false=>
  have e1:q.nd=⟨q.out,[],false,q.jn,q.vo,q.vw,false⟩:=by unfold Br.nd;rw[hq];rfl
  rw[e1];have c1:=quJ (va:=va) t (.osl b q.vo 6 0 q.out.length) (if q.ad=true then .op a va 1 else .nilp) (.osl c q.vw 1 0 q.word.length) (.bool false) (.bool q.jn) (.bool false) (brY q) q.vw (by simp[qS];omega) rfl rfl rfl (eW q _);have hz:S7 q.vw q.word= .emp q.vw:=by rw[hw hq];rfl
  unfold brO brX;rw[hz,hq];refine acO qpO ?_;simp (disch:=omega) only[qqR,yga,ysa,yca,ql,go_sem];refine qv c1 (by exact flk) ?_;simp (disch:=omega) only[go_sem];exact ju trivial (by simp only[tri_len]) (jJ t (jL t va ⟨q.out,[],false,q.jn,q.vo,q.vw,false⟩) (eW q _) trivial) ⟨rfl,rfl⟩ (qi)
 |true=>
  have e1:q.nd=⟨Tm q.out q.word,[],false,q.jn,q.vo,q.vw+1,false⟩:=by unfold Br.nd;rw[hq];rfl
  rw[e1];have c1:=qqD (va:=va) t q (ho hq) hm;have hn:=ho hq;unfold brO at c1 ⊢;rw[qa5 hn]at c1 ⊢;rw[qa5 (q:=⟨Tm q.out q.word,[],false,q.jn,q.vo,q.vw+1,false⟩) (by simp only[Ss];exact hn)];unfold brX at c1 ⊢;rw[hq]at c1 ⊢;refine acO qpO ?_;simp (disch:=omega) only[qqR,yga,ysa,yca,ql,go_sem]
  repeat' first|(refine cA (c1) flk ?_;simp (disch:=omega) only[yca,ql,go_sem])
  refine qv (qDO a va c q.vw (.osl b q.vo 6 0 q.out.length) (.bool true) (.bool q.jn) (.bool false) (if q.ad=true then .op a va 1 else .nilp) q.word _ (λe=>t.ac e.symm) yga ygc) (by exact flk) ?_;have hL:=jI q.out;have k3:((q.out.length-1)*6+1<=q.out.length*6)=True:=wj;have hX:=qls (L:=q.out) q.word hn;have c2:=quJ (va:=va) t (.osl b q.vo 6 0 q.out.length) (if q.ad=true then .op a va 1 else .nilp) (.osl c q.vw 1 0 q.word.length) (.bool false) (.bool q.jn) (.bool false) (.mem q.vo 92 (jm (Tm q.out q.word))) (q.vw+1) (by simp[qS];omega) rfl rfl rfl (kh _ _);simp (disch:=omega) only[yga,ygb,ysa,ysb,ysc,yca,ycb,ql,hL,k3,go_sem];rw[List.append_assoc,hX];refine qv c2 (by exact flk) ?_;simp (disch:=omega) only[go_sem];have eL:=Ss q.out q.word;simp only[eL];exact ju trivial (by simp only[tri_len]) (jJ t (by have:=jL t va ⟨q.out,[],false,q.jn,q.vo,q.vw+1,false⟩;exact this) (kh _ _) trivial) ⟨rfl,rfl⟩ (qi)
end
end RC
end
section
open Go Go.Proofs AF HY LN
namespace RC
section
variable {h : wh} {a b c va : Nat}
theorem quK(t:T3 h a b c)(q:Br)(f:Int)(x:UInt8)(hf:f=0∨f=8)(hm:q.out.length<=1000000):ACalls Tryz.prog 283 [.op a va 0,.agg (atC 1 x),.int .i64 f] (brO h a b c va q) (.tup []) (brO h a b c va (q.st f)):=by
 have ta:=t.la;have tb:=t.lb;have tc:=t.lc;have zga: ∀ {X Y Z l},qr (a) (tri h a b c X Y Z++l)=some X:=CS (t);have yga: ∀ {X Y Z},qr (a) (tri h a b c X Y Z)=some X:=λ{X Y Z}=>by have:=zga (X:=X) (Y:=Y) (Z:=Z) (l:= []);simpa only[lan] using this
 have zgb: ∀ {X Y Z l},qr (b) (tri h a b c X Y Z++l)=some Y:=Sv (t);have ygb: ∀ {X Y Z},qr (b) (tri h a b c X Y Z)=some Y:=λ{X Y Z}=>by have:=zgb (X:=X) (Y:=Y) (Z:=Z) (l:= []);simpa only[lan] using this
 have zgc: ∀ {X Y Z l},qr (c) (tri h a b c X Y Z++l)=some Z:=DV (t);have ygc: ∀ {X Y Z},qr (c) (tri h a b c X Y Z)=some Z:=λ{X Y Z}=>by have:=zgc (X:=X) (Y:=Y) (Z:=Z) (l:= []);simpa only[lan] using this
 have zsa: ∀ {X Y Z o l},qq (a) (tri h a b c X Y Z++l) o=tri h a b c o Y Z++l:=Sz (t);have ysa: ∀ {X Y Z o},qq (a) (tri h a b c X Y Z) o=tri h a b c o Y Z:=λ{X Y Z o}=>by have:=zsa (X:=X) (Y:=Y) (Z:=Z) (o:=o) (l:= []);simpa only[lan] using this
 have zsb: ∀ {X Y Z o l},qq (b) (tri h a b c X Y Z++l) o=tri h a b c X o Z++l:=S0 (t);have ysb: ∀ {X Y Z o},qq (b) (tri h a b c X Y Z) o=tri h a b c X o Z:=λ{X Y Z o}=>by have:=zsb (X:=X) (Y:=Y) (Z:=Z) (o:=o) (l:= []);simpa only[lan] using this
 have zsc: ∀ {X Y Z o l},qq (c) (tri h a b c X Y Z++l) o=tri h a b c X Y o++l:=S3 (t);have ysc: ∀ {X Y Z o},qq (c) (tri h a b c X Y Z) o=tri h a b c X Y o:=λ{X Y Z o}=>by have:=zsc (X:=X) (Y:=Y) (Z:=Z) (o:=o) (l:= []);simpa only[lan] using this
 have zca: ∀ {X Y Z v l},cellsOf (tri h a b c X Y Z++l) (a) v=qx (some X) v:=TV (t);have yca: ∀ {X Y Z v},cellsOf (tri h a b c X Y Z) (a) v=qx (some X) v:=λ{X Y Z v}=>by have:=zca (X:=X) (Y:=Y) (Z:=Z) (v:=v) (l:= []);simpa only[lan] using this
 have zcb: ∀ {X Y Z v l},cellsOf (tri h a b c X Y Z++l) (b) v=qx (some Y) v:=TW (t);have ycb: ∀ {X Y Z v},cellsOf (tri h a b c X Y Z) (b) v=qx (some Y) v:=λ{X Y Z v}=>by have:=zcb (X:=X) (Y:=Y) (Z:=Z) (v:=v) (l:= []);simpa only[lan] using this
 have zcc: ∀ {X Y Z v l},cellsOf (tri h a b c X Y Z++l) (c) v=qx (some Z) v:=TX (t);have ycc: ∀ {X Y Z v},cellsOf (tri h a b c X Y Z) (c) v=qx (some Z) v:=λ{X Y Z v}=>by have:=zcc (X:=X) (Y:=Y) (Z:=Z) (v:=v) (l:= []);simpa only[lan] using this
 have zla: ∀ {X Y Z v l},qF (tri h a b c X Y Z++l) (a) v=qI (some X) v:=TY (t);have yla: ∀ {X Y Z v},qF (tri h a b c X Y Z) (a) v=qI (some X) v:=λ{X Y Z v}=>by have:=zla (X:=X) (Y:=Y) (Z:=Z) (v:=v) (l:= []);simpa only[lan] using this
 have zlb: ∀ {X Y Z v l},qF (tri h a b c X Y Z++l) (b) v=qI (some Y) v:=TZ (t);have ylb: ∀ {X Y Z v},qF (tri h a b c X Y Z) (b) v=qI (some Y) v:=λ{X Y Z v}=>by have:=zlb (X:=X) (Y:=Y) (Z:=Z) (v:=v) (l:= []);simpa only[lan] using this
 have zlc: ∀ {X Y Z v l},qF (tri h a b c X Y Z++l) (c) v=qI (some Z) v:=T0 (t);have ylc: ∀ {X Y Z v},qF (tri h a b c X Y Z) (c) v=qI (some Z) v:=λ{X Y Z v}=>by have:=zlc (X:=X) (Y:=Y) (Z:=Z) (v:=v) (l:= []);simpa only[lan] using this
 have hL:=jI q.out;obtain⟨g,hg⟩:=wg (f+jfl q.jn q.out.length)
 have e1:q.st f=⟨q.out++ [tkF g []],q.word,q.opn,true,q.vo+1,q.vw,q.ad⟩:=by unfold Br.st;rw[hg]
 rw[e1];have o1:=qgl (v:=q.vo) (ty:=92) (cs:=jm q.out);have k3:(q.out.length*6<=q.out.length*6)=True:=eqt (nlr _);have a2: ∀(x1:AV) (r:wi),qeD (some (qZ q.vo 92 (jm q.out))) 92 q.vo (q.out.length*6) 1 (x1::r)=qZ (q.vo+1) 92 (jm q.out++x1::r):=λx1 r=>by rw[appO_own1,ltl om]
 have eLn:(q.out++ [tkF g []]).length=q.out.length+1:=by simp
 have hfin:jm q.out++ [.str [],.str [],.str [],.int .i64 0,.int .i64 g,.str []]=jm (q.out++ [tkF g []]):=by rw[qci,qfm];rfl
 unfold brO brX brY
 by_cases hj:q.jn=true∧0<q.out.length
 ·obtain⟨hj,hn⟩:=hj;have k1:((0:Int)<q.out.length)=True:=wj;have hg:g=f+16:=by rw[hg];unfold jfl;rw[ipo ⟨hj,hn⟩]
  have eo:H2 .or (.int .i64 f) (.int .i64 16)= .int .i64 g:=by
   rw[hg];rcases hf with rfl|rfl<;>rfl
  rw[hj];unfold atC;refine acO qjb ?_;simp (disch:=omega) only[qmz,zca,zlb,ql,ze,k1,eo,go_sem]
  repeat' first|with_reducible apply aiA|exact clz|fail
  refine jV ?Ta ?Ha ?h1 ?h2
  case h1=>
   simp (disch:=omega) only[zga,zgb,zsa,zsb,zca,zcb,zlb,ql,ze,qaE,o1,hL,k3,a2,go_sem]
   repeat' first|with_reducible apply aiA
   all_goals first
    |omega
    |rfl
    |(rw[bne_iff_ne];omega)
    |skip
  case h2=>
  simp (disch:=omega) only[zga,zsa,zca,ql,go_sem];rw[hfin];simp only[eLn];exact zI trivial (by simp only[tri_len]) (jJ t (by have:=jL t va ⟨q.out++ [tkF g []],q.word,q.opn,true,q.vo+1,q.vw,q.ad⟩;simpa only[brX,eLn] using this) (ji (kh _ _)) (zY _ _ _)) ⟨rfl,rfl⟩ (qi)
 ·have hg:g=f:=by rw[hg];unfold jfl;rw[ine hj];omega
  subst hg;unfold atC;cases hj2:q.jn with
  |false=>
   refine acO qjb ?_;simp (disch:=omega) only[qmz,zca,zlb,ql,ze,go_sem]
   repeat' first|(with_reducible first|intro _|apply aiA)|exact clz|fail
   refine jV ?Tb ?Hb ?h1 ?h2
   case h1=>
    simp (disch:=omega) only[zga,zgb,zsa,zsb,zca,zcb,zlb,ql,ze,qaE,o1,hL,k3,a2,go_sem]
    repeat' first|with_reducible apply aiA
    all_goals first
     |omega
     |rfl
     |(rw[bne_iff_ne];omega)
     |skip
   case h2=>
   simp (disch:=omega) only[zga,zsa,zca,ql,go_sem];rw[hfin];simp only[eLn];exact zI trivial (by simp only[tri_len]) (jJ t (by have:=jL t va ⟨q.out++ [tkF g []],q.word,q.opn,true,q.vo+1,q.vw,q.ad⟩;simpa only[brX,eLn] using this) (ji (kh _ _)) (zY _ _ _)) ⟨rfl,rfl⟩ (qi)
  |true=>
   have k1:((0:Int)<q.out.length)=False:=eqf (λhc=>hj ⟨hj2,om⟩);refine acO qjb ?_;simp (disch:=omega) only[qmz,zca,zlb,ql,ze,k1,go_sem]
   repeat' first|with_reducible apply aiA|exact clz|fail
   refine jV ?Tc ?Hc ?h1 ?h2
   case h1=>
    simp (disch:=omega) only[zga,zgb,zsa,zsb,zca,zcb,zlb,ql,ze,qaE,o1,hL,k3,a2,go_sem]
    repeat' first|with_reducible apply aiA
    all_goals first
     |omega
     |rfl
     |(rw[bne_iff_ne];omega)
     |skip
   case h2=>
   simp (disch:=omega) only[zga,zsa,zca,ql,go_sem];rw[hfin];simp only[eLn];exact zI trivial (by simp only[tri_len]) (jJ t (by have:=jL t va ⟨q.out++ [tkF g []],q.word,q.opn,true,q.vo+1,q.vw,q.ad⟩;simpa only[brX,eLn] using this) (ji (kh _ _)) (zY _ _ _)) ⟨rfl,rfl⟩ (qi)
end
end RC
end
section
open Go Go.Proofs AF
def qnw:List Nat:= [118,116,307,285,244,282,245,283,247,284]
@[go_sem]def vq:DT:= DT.one ⟨some 20,none,.nilchk,[.t 15]⟩ (DT.one ⟨some 21,none,.fldA 0,[.t 20]⟩ (DT.one ⟨none,none,.store 1,[.t 21,.t 19]⟩ DT.nil))
@[go_sem]def vr:DT:= DT.one ⟨some 18,none,.bslc 1 1 1 5 [.int .u8 0] [(0,1)],[.t 17]⟩ (DT.one ⟨some 19,none,.b2s,[.t 18]⟩ vq)
def qdK:C:=
 (vU [O1 3 (.box 0 269) 1] (vU [vO 4 0] ((vU [vN 5 5 3,LD 6 5] (vV 6 (vY [vO 4 1]))).seq (C.block 0 (vU [MV 23 0,O1 24 .nilchk 23,vN 25 3 24,LD 26 25,MV 27 26,P1 28 27 true
 (.fldA 1) 3,P1 29 27 true (.load none) 28,P1 30 27 true (.call 271 true) 29,PF 31 27 30,MV 22 31] (C.cond (.t 22) (vU [MV 32 0,O1 33 (.call 284 false) 32,O1 34 .nilchk 33,vN 35
 4 34,LD 36 35,MV 37 4,BI 38 .or 36 37,O1 39 .nilchk 33,vN 40 4 39,ST 1 40 38] (vY [MV 41 0,O1 42 .nilchk 41,vN 43 1 42,vN 44 1 3,LD 45 44,O2 46 (.call 307 false) 43 45])) (vU
 [vN 48 1 3,LD 49 48,O1 50 (.call 301 true) 49,MV 47 50] (C.cond (.t 47) (vU [MV 51 0,O1 52 (.load (some 7)) 3,MV 53 4,ON 54 (.call 283 false) [.t 51,.t 52,.t 53]] (vU [MV 55
 0,O1 56 .nilchk 55,vN 57 3 56,⟨none,none,.store 1,[.t 57,.c (.bool true)]⟩] (vY [MV 58 0,O1 59 .nilchk 58,vN 60 1 59,vN 61 1 3,LD 62 61,O2 63 (.call 307 false) 60 62]))) (vU
 [vN 65 1 3,LD 66 65,O1 67 (.call 185 true) 66,vP 68 .eql 67 6,MV 64 68] (C.cond (.t 64) (vU [MV 69 0,O1 70 (.call 245 false) 69] (vY [MV 71 0,O1 72 .nilchk 71,vN 73 4
 72,⟨none,none,.store 1,[.t 73,.c (.bool false)]⟩])) (vU [MV 7 0,O1 8 (.call 245 false) 7] (vU [MV 9 0,O1 10 (.load (some 7)) 3,MV 11 4,vP 12 .or 11 8,ON 13 (.call 283 false)
 [.t 9,.t 10,.t 12]] (C.draw (DT.one ⟨some 14,none,.mv,[.t 0]⟩ ((DT.one ⟨some 15,none,.call 284 false,[.t 14]⟩ (DT.one ⟨some 16,none,.fldA 1,[.t 3]⟩ (DT.one ⟨some 17,none,.load
 none,[.t 16]⟩ vr))).two (DT.one ⟨some 16,none,.fldA 1,[.t 3]⟩ ((DT.one ⟨some 15,none,.call 284 false,[.t 14]⟩ (DT.one ⟨some 17,none,.load none,[.t 16]⟩ vr)).two (DT.one ⟨some
 17,none,.load none,[.t 16]⟩ ((DT.one ⟨some 15,none,.call 284 false,[.t 14]⟩ vr).two (DT.one ⟨some 18,none,.bslc 1 1 1 5 [.int .u8 0] [(0,1)],[.t 17]⟩ ((DT.one ⟨some
 15,none,.call 284 false,[.t 14]⟩ (DT.one ⟨some 19,none,.b2s,[.t 18]⟩ vq)).two (DT.one ⟨some 19,none,.b2s,[.t 18]⟩ (DT.one ⟨some 15,none,.call 284 false,[.t 14]⟩
 vq)))))))))))))))))))))))
theorem qbf:qM Tryz.prog 282 74 2 [] qdK:=fi Tryz.f282 [3,18] qnw []
end
section
open Go Go.Proofs AF HY LN
namespace RC
section
variable {h : wh} {a b c va : Nat}
theorem S5(t:T3 h a b c)(q:Br)(l:wh):brO (h++l) a b c va q=brO h a b c va q++l:=qtr t
theorem qil{f:FuncId}{args:wi}{r:AV}{q q':Br}(hc: ∀h,T3 h a b c->ACalls Tryz.prog f args (brO h a b c va q) r (brO h a b c va q'))(t:T3 h a b c)(l:wh):ACalls Tryz.prog f args (brO h a b c va q++l) r (brO h a b c va q'++l):=by
 have:=hc (h++l) (t.app l)
 rwa [S5 t,S5 t]at this
structure qzZ (q:Br):Prop where
 op:q.opn=true->0<q.out.length∧((q.out.getD (q.out.length-1) default).flags=0∨(q.out.getD (q.out.length-1) default).flags=16)
 cl:q.opn=false->q.word= []
 n:q.out.length<=900000
 w:q.word.length<=900000
theorem quL(q:Br):(if q.ad=true then AV.op a va 1 else .nilp)= .nilp∨(if q.ad=true then AV.op a va 1 else .nilp)= .op a va 1:=by
 split
 ·exact .inr rfl
 ·exact .inl rfl
theorem qdq{α:Type}{L:List α}{k:Nat}{x:α}(h:L[k]? =some x):L.take k++ [x]++L.drop (k+1)=L:=by
 obtain⟨h1,h2⟩:=lgs.1 h;rw[List.append_assoc,List.singleton_append,<-h2,<-List.drop_eq_getElem_cons h1,List.take_append_drop]
theorem qCd(t:T3 h a b c)(q:Br)(x:UInt8)(l:wh)(hw:q.word.length<=1000000):ACalls Tryz.prog 307 [.op a va 1,.int .u8 (x.toNat:Int)] (brO h a b c va q++l) .nilif (brO h a b c va (q.wb x)++l):=by
 have ta:=t.la;have tb:=t.lb;have tc:=t.lc;have zga: ∀ {X Y Z l},qr (a) (tri h a b c X Y Z++l)=some X:=CS (t);have yga: ∀ {X Y Z},qr (a) (tri h a b c X Y Z)=some X:=λ{X Y Z}=>by have:=zga (X:=X) (Y:=Y) (Z:=Z) (l:= []);simpa only[lan] using this
 have zgb: ∀ {X Y Z l},qr (b) (tri h a b c X Y Z++l)=some Y:=Sv (t);have ygb: ∀ {X Y Z},qr (b) (tri h a b c X Y Z)=some Y:=λ{X Y Z}=>by have:=zgb (X:=X) (Y:=Y) (Z:=Z) (l:= []);simpa only[lan] using this
 have zgc: ∀ {X Y Z l},qr (c) (tri h a b c X Y Z++l)=some Z:=DV (t);have ygc: ∀ {X Y Z},qr (c) (tri h a b c X Y Z)=some Z:=λ{X Y Z}=>by have:=zgc (X:=X) (Y:=Y) (Z:=Z) (l:= []);simpa only[lan] using this
 have zsa: ∀ {X Y Z o l},qq (a) (tri h a b c X Y Z++l) o=tri h a b c o Y Z++l:=Sz (t);have ysa: ∀ {X Y Z o},qq (a) (tri h a b c X Y Z) o=tri h a b c o Y Z:=λ{X Y Z o}=>by have:=zsa (X:=X) (Y:=Y) (Z:=Z) (o:=o) (l:= []);simpa only[lan] using this
 have zsb: ∀ {X Y Z o l},qq (b) (tri h a b c X Y Z++l) o=tri h a b c X o Z++l:=S0 (t);have ysb: ∀ {X Y Z o},qq (b) (tri h a b c X Y Z) o=tri h a b c X o Z:=λ{X Y Z o}=>by have:=zsb (X:=X) (Y:=Y) (Z:=Z) (o:=o) (l:= []);simpa only[lan] using this
 have zsc: ∀ {X Y Z o l},qq (c) (tri h a b c X Y Z++l) o=tri h a b c X Y o++l:=S3 (t);have ysc: ∀ {X Y Z o},qq (c) (tri h a b c X Y Z) o=tri h a b c X Y o:=λ{X Y Z o}=>by have:=zsc (X:=X) (Y:=Y) (Z:=Z) (o:=o) (l:= []);simpa only[lan] using this
 have zca: ∀ {X Y Z v l},cellsOf (tri h a b c X Y Z++l) (a) v=qx (some X) v:=TV (t);have yca: ∀ {X Y Z v},cellsOf (tri h a b c X Y Z) (a) v=qx (some X) v:=λ{X Y Z v}=>by have:=zca (X:=X) (Y:=Y) (Z:=Z) (v:=v) (l:= []);simpa only[lan] using this
 have zcb: ∀ {X Y Z v l},cellsOf (tri h a b c X Y Z++l) (b) v=qx (some Y) v:=TW (t);have ycb: ∀ {X Y Z v},cellsOf (tri h a b c X Y Z) (b) v=qx (some Y) v:=λ{X Y Z v}=>by have:=zcb (X:=X) (Y:=Y) (Z:=Z) (v:=v) (l:= []);simpa only[lan] using this
 have zcc: ∀ {X Y Z v l},cellsOf (tri h a b c X Y Z++l) (c) v=qx (some Z) v:=TX (t);have ycc: ∀ {X Y Z v},cellsOf (tri h a b c X Y Z) (c) v=qx (some Z) v:=λ{X Y Z v}=>by have:=zcc (X:=X) (Y:=Y) (Z:=Z) (v:=v) (l:= []);simpa only[lan] using this
 have zla: ∀ {X Y Z v l},qF (tri h a b c X Y Z++l) (a) v=qI (some X) v:=TY (t);have yla: ∀ {X Y Z v},qF (tri h a b c X Y Z) (a) v=qI (some X) v:=λ{X Y Z v}=>by have:=zla (X:=X) (Y:=Y) (Z:=Z) (v:=v) (l:= []);simpa only[lan] using this
 have zlb: ∀ {X Y Z v l},qF (tri h a b c X Y Z++l) (b) v=qI (some Y) v:=TZ (t);have ylb: ∀ {X Y Z v},qF (tri h a b c X Y Z) (b) v=qI (some Y) v:=λ{X Y Z v}=>by have:=zlb (X:=X) (Y:=Y) (Z:=Z) (v:=v) (l:= []);simpa only[lan] using this
 have zlc: ∀ {X Y Z v l},qF (tri h a b c X Y Z++l) (c) v=qI (some Z) v:=T0 (t);have ylc: ∀ {X Y Z v},qF (tri h a b c X Y Z) (c) v=qI (some Z) v:=λ{X Y Z v}=>by have:=zlc (X:=X) (Y:=Y) (Z:=Z) (v:=v) (l:= []);simpa only[lan] using this
 have:=qD5 a va c q.vw (.osl b q.vo 6 0 q.out.length) (.bool q.opn) (.bool q.jn) (.bool false) (if q.ad=true then .op a va 1 else .nilp) q.word x (brO h a b c va q++l) (by rw[lap,qbE];simp[qS];omega) rfl rfl rfl (λe=>t.ac e.symm) zga (quL q) zgc om
 have e:qq c (qq a (brO h a b c va q++l) (.mem va 264 [.osl b q.vo 6 0 q.out.length,.op a va 1,.osl c (q.vw+1) 1 0 (q.word.length+1),.bool q.opn,.bool q.jn,.bool false])) (S7 (q.vw+1) (q.word++ [x]))=brO h a b c va (q.wb x)++l:=by
  unfold brO;rw[zsa,zsc];unfold brX brY Br.wb;simp
 rw[e]at this;exact this
theorem qAk(t:T3 h a b c)(q:Br)(x:UInt8)(hq:qzZ q):ACalls Tryz.prog 282 [.op a va 0,.agg (atC 1 x)] (brO h a b c va q) (.tup []) (brO h a b c va (q.pt x)):=by
 have ta:=t.la;have tb:=t.lb;have tc:=t.lc;have hn:=hq.n;have hw:=hq.w;have zga: ∀ {X Y Z l},qr (a) (tri h a b c X Y Z++l)=some X:=CS (t);have yga: ∀ {X Y Z},qr (a) (tri h a b c X Y Z)=some X:=λ{X Y Z}=>by have:=zga (X:=X) (Y:=Y) (Z:=Z) (l:= []);simpa only[lan] using this
 have zgb: ∀ {X Y Z l},qr (b) (tri h a b c X Y Z++l)=some Y:=Sv (t);have ygb: ∀ {X Y Z},qr (b) (tri h a b c X Y Z)=some Y:=λ{X Y Z}=>by have:=zgb (X:=X) (Y:=Y) (Z:=Z) (l:= []);simpa only[lan] using this
 have zgc: ∀ {X Y Z l},qr (c) (tri h a b c X Y Z++l)=some Z:=DV (t);have ygc: ∀ {X Y Z},qr (c) (tri h a b c X Y Z)=some Z:=λ{X Y Z}=>by have:=zgc (X:=X) (Y:=Y) (Z:=Z) (l:= []);simpa only[lan] using this
 have zsa: ∀ {X Y Z o l},qq (a) (tri h a b c X Y Z++l) o=tri h a b c o Y Z++l:=Sz (t);have ysa: ∀ {X Y Z o},qq (a) (tri h a b c X Y Z) o=tri h a b c o Y Z:=λ{X Y Z o}=>by have:=zsa (X:=X) (Y:=Y) (Z:=Z) (o:=o) (l:= []);simpa only[lan] using this
 have zsb: ∀ {X Y Z o l},qq (b) (tri h a b c X Y Z++l) o=tri h a b c X o Z++l:=S0 (t);have ysb: ∀ {X Y Z o},qq (b) (tri h a b c X Y Z) o=tri h a b c X o Z:=λ{X Y Z o}=>by have:=zsb (X:=X) (Y:=Y) (Z:=Z) (o:=o) (l:= []);simpa only[lan] using this
 have zsc: ∀ {X Y Z o l},qq (c) (tri h a b c X Y Z++l) o=tri h a b c X Y o++l:=S3 (t);have ysc: ∀ {X Y Z o},qq (c) (tri h a b c X Y Z) o=tri h a b c X Y o:=λ{X Y Z o}=>by have:=zsc (X:=X) (Y:=Y) (Z:=Z) (o:=o) (l:= []);simpa only[lan] using this
 have zca: ∀ {X Y Z v l},cellsOf (tri h a b c X Y Z++l) (a) v=qx (some X) v:=TV (t);have yca: ∀ {X Y Z v},cellsOf (tri h a b c X Y Z) (a) v=qx (some X) v:=λ{X Y Z v}=>by have:=zca (X:=X) (Y:=Y) (Z:=Z) (v:=v) (l:= []);simpa only[lan] using this
 have zcb: ∀ {X Y Z v l},cellsOf (tri h a b c X Y Z++l) (b) v=qx (some Y) v:=TW (t);have ycb: ∀ {X Y Z v},cellsOf (tri h a b c X Y Z) (b) v=qx (some Y) v:=λ{X Y Z v}=>by have:=zcb (X:=X) (Y:=Y) (Z:=Z) (v:=v) (l:= []);simpa only[lan] using this
 have zcc: ∀ {X Y Z v l},cellsOf (tri h a b c X Y Z++l) (c) v=qx (some Z) v:=TX (t);have ycc: ∀ {X Y Z v},cellsOf (tri h a b c X Y Z) (c) v=qx (some Z) v:=λ{X Y Z v}=>by have:=zcc (X:=X) (Y:=Y) (Z:=Z) (v:=v) (l:= []);simpa only[lan] using this
 have zla: ∀ {X Y Z v l},qF (tri h a b c X Y Z++l) (a) v=qI (some X) v:=TY (t);have yla: ∀ {X Y Z v},qF (tri h a b c X Y Z) (a) v=qI (some X) v:=λ{X Y Z v}=>by have:=zla (X:=X) (Y:=Y) (Z:=Z) (v:=v) (l:= []);simpa only[lan] using this
 have zlb: ∀ {X Y Z v l},qF (tri h a b c X Y Z++l) (b) v=qI (some Y) v:=TZ (t);have ylb: ∀ {X Y Z v},qF (tri h a b c X Y Z) (b) v=qI (some Y) v:=λ{X Y Z v}=>by have:=zlb (X:=X) (Y:=Y) (Z:=Z) (v:=v) (l:= []);simpa only[lan] using this
 have zlc: ∀ {X Y Z v l},qF (tri h a b c X Y Z++l) (c) v=qI (some Z) v:=T0 (t);have ylc: ∀ {X Y Z v},qF (tri h a b c X Y Z) (c) v=qI (some Z) v:=λ{X Y Z v}=>by have:=zlc (X:=X) (Y:=Y) (Z:=Z) (v:=v) (l:= []);simpa only[lan] using this
 by_cases g1:q.opn=true∧SI x=true
 ·rw[show q.pt x=q.wb x from by unfold Br.pt;rw[ipo g1]];obtain⟨g1,g2⟩:=g1;obtain⟨hop,hfl⟩:=hq.op g1;have c1:=λh=>qz7 x h
  simp only[g2]at c1;have c2:=λl=>qqD (va:=va) (t.app l) q hop om
  simp only[S5 t]at c2;have c3:=λl=>qCd (va:=va) t q x l om
  have hL:=jI q.out;obtain⟨F,hF⟩:=wg ((q.out.getD (q.out.length-1) default).flags)
  rw[<-hF]at hfl;have g4:(jm q.out)[(q.out.length-1)*6+4]? =some (.int .i64 F):=by rw[qcj om om,hF];rfl
  have e0:H2 .or (.int .i64 F) (.int .i64 0)= .int .i64 F:=by rcases hfl with rfl|rfl<;>rfl
  have k3:((q.out.length-1)*6+4+1<=q.out.length*6)=True:=wj;have k4:((q.out.length-1)*6+4<q.out.length*6)=True:=wj;have e5:=qdq g4;unfold brO at c2 c3 ⊢;rw[qa5 hop]at c2 c3 ⊢;unfold brX at c2 c3 ⊢;rw[g1]at c2 c3 ⊢;unfold atC;refine acO qbf ?_;simp (disch:=omega) only[qdK,zca,ql,go_sem]
  repeat' first|(refine cG (λe=>c1 _) flk ?_;simp (disch:=omega) only[go_sem])
  refine qv (c2 _) (by exact flk) ?_;simp (disch:=omega) only[zgb,zsb,zca,zcb,ql,hL,g4,e0,k3,k4,e5,go_sem];refine qv (c3 _) (by exact flk) ?_;simp (disch:=omega) only[go_sem];exact zI trivial (by simp only[tri_len]) (jJ t (jL t va (q.wb x)) (eW _ _) (zY _ _ _)) ⟨rfl,rfl⟩ (qi)
 by_cases g2:bgn x=true
 ·rw[show q.pt x=((q.st 0).op).wb x from by unfold Br.pt;rw[ine g1,ipo g2]];have g3:q.opn=false:=by
   cases ho:q.opn with
   |false=>rfl
   |true=>exact absurd ⟨ho,U4 g2⟩ g1
  have c1:=λh=>qz3 x h
  rw[show (decide (kind x=1)||decide (kind x=3))=true from g2]at c1;have c2:=λl=>quK (va:=va) (t.app l) q 0 x (.inl rfl) om
  simp only[S5 t]at c2;have c3:=λl=>qCd (va:=va) t (q.st 0).op x l (by show q.word.length<=_;omega)
  unfold brO brX at c2 c3 ⊢;rw[g3]at c2 ⊢;unfold atC at c2 ⊢;refine acO qbf ?_;simp (disch:=omega) only[qdK,zca,ql,go_sem]
  repeat' first|(refine qj ( .bool false) ?_;simp (disch:=omega) only[go_sem])|(refine cA (c1 _) flk ?_;simp (disch:=omega) only[go_sem])
  refine qv (c2 _) (by exact flk) ?_;simp (disch:=omega) only[zga,zsa,zca,ql,go_sem];refine qv (c3 _) (by exact flk) ?_;simp (disch:=omega) only[go_sem];exact zI trivial (by simp only[tri_len]) (jJ t (jL t va (((q.st 0).op).wb x)) (eW _ _) (zY _ _ _)) ⟨rfl,rfl⟩ (qi)
 by_cases g3:kind x=6
 ·rw[show q.pt x=q.nd.sp from by unfold Br.pt;rw[ine g1,ine g2,ipo g3]];have c1:=λh=>qz3 x h
  have hb:(decide (kind x=1)||decide (kind x=3))=false:=by simpa[bgn] using g2
  rw[hb]at c1;have c5:=λh=>qz7 x h
  have c4:=λh=>U1 x h
  rw[g3]at c4;have c2:=λl=>qqC (va:=va) (t.app l) q (λe=>(hq.op e).1) hq.cl om om
  simp only[S5 t]at c2;have hi:q.opn=true->SI x=false:=λe=>by
   cases hx:SI x with
   |false=>rfl
   |true=>exact absurd ⟨e,hx⟩ g1
  unfold brO brX at c2 ⊢;unfold atC;cases ho:q.opn with
  |true=>
   rw[hi ho]at c5;rw[ho]at c2;refine acO qbf ?_;simp (disch:=omega) only[qdK,zca,ql,go_sem]
   repeat' first|((first|refine cA (c1 _) ?_ ?_|refine cA (c4 _) ?_ ?_|refine cG (λe=>c5 _) ?_ ?_);exact flk;simp (disch:=omega) only[go_sem])
   refine qv (c2 _) (by exact flk) ?_;simp (disch:=omega) only[zga,zsa,zca,ql,go_sem];exact zI trivial (by simp only[tri_len]) (jJ t (jL t va q.nd.sp) (eW _ _) (zY _ _ _)) ⟨rfl,rfl⟩ (qi)
  |false=>
   rw[ho]at c2;refine acO qbf ?_;simp (disch:=omega) only[qdK,zca,ql,go_sem]
   repeat' first|(refine qj ( .bool false) ?_;simp (disch:=omega) only[go_sem])|((first|refine cA (c1 _) ?_ ?_|refine cA (c4 _) ?_ ?_);exact flk;simp (disch:=omega) only[go_sem])
   refine qv (c2 _) (by exact flk) ?_;simp (disch:=omega) only[zga,zsa,zca,ql,go_sem];exact zI trivial (by simp only[tri_len]) (jJ t (jL t va q.nd.sp) (eW _ _) (zY _ _ _)) ⟨rfl,rfl⟩ (qi)
 rw[show q.pt x=(q.nd.st 8).tx [x]from by unfold Br.pt;rw[ine g1,ine g2,ine g3]];have c1:=λh=>qz3 x h
 have hb:(decide (kind x=1)||decide (kind x=3))=false:=by simpa[bgn] using g2
 rw[hb]at c1;have c5:=λh=>qz7 x h
 have c4:=λh=>U1 x h
 obtain⟨kx,hkx⟩:=wg (kind x)
 rw[<-hkx]at c4 g3;have q6:(kx=6)=False:=eqf g3;have c2:=λl=>qqC (va:=va) (t.app l) q (λe=>(hq.op e).1) hq.cl om om
 have hndl:q.nd.out.length=q.out.length:=by unfold Br.nd;split<;>simp only[Ss]
 have c6:=λl=>quK (va:=va) (t.app l) q.nd 8 x (.inr rfl) om
 obtain⟨r,hr⟩:=wg (q.nd.st 8)
 have hrl:0<r.out.length:=by rw[hr];show 0<(q.nd.out++ [_]).length;simp
 have hrm:r.out.length<=1000000:=by rw[hr];show (q.nd.out++ [_]).length<=_;simp;omega
 rw[<-hr]at c6 ⊢;have c7:=λl=>qqD (va:=va) (t.app l) r hrl hrm
 simp only[S5 t]at c2 c6 c7;have hi:q.opn=true->SI x=false:=λe=>by
  cases hx:SI x with
  |false=>rfl
  |true=>exact absurd ⟨e,hx⟩ g1
 have hL:=jI r.out;have k3:((r.out.length-1)*6+1<=r.out.length*6)=True:=wj;have hX:=qls (L:=r.out) [x] hrl;have e8:H2 .or (.int .i64 0) (.int .i64 8)= .int .i64 8:=rfl;have hY:brY (r.tx [x])= .mem r.vo 92 (jm (Tm r.out [x])):=qa5 (q:=r.tx [x]) (by show 0<(Tm r.out [x]).length;rw[Ss];exact hrl);have eL:(r.tx [x]).out.length=r.out.length:=Ss _ _;unfold brO at c2 c6 c7 ⊢;rw[hY];rw[qa5 hrl]at c6 c7;unfold brX at c2 c6 c7 ⊢;rw[eL];unfold atC at c6 ⊢;cases ho:q.opn with
 |true=>
  rw[hi ho]at c5;rw[ho]at c2;refine acO qbf ?_;simp (disch:=omega) only[qdK,zca,ql,go_sem]
  repeat' first|((first|refine cA (c1 _) ?_ ?_|refine cA (c4 _) ?_ ?_|refine cG (λe=>c5 _) ?_ ?_);exact flk;simp (disch:=omega) only[q6,go_sem])
  refine qv (c2 _) (by exact flk) ?_;simp (disch:=omega) only[e8,go_sem];refine qv (c6 _) (by exact flk) ?_;simp (disch:=omega) only[go_sem];refine jV ?Ta ?Ha ?h1 ?h2
  case h1=>
   simp (disch:=omega) only[go_sem]
   repeat' first|(with_reducible apply aiA)|(refine qv (c7 _) (by exact flk) ?_;simp (disch:=omega) only[zgb,zsb,zcb,ql,hL,k3,go_sem])
   all_goals first
    |omega
    |rfl
    |(intro y hy;rw[List.mem_singleton]at hy;subst hy;exact qc2 x)
    |skip
  case h2=>
  simp (disch:=omega) only[go_sem];rw[qcK x,List.append_assoc,hX];exact zI trivial (by simp only[tri_len]) (jJ t (jL t va r) (kh _ _) (zY _ _ _)) ⟨rfl,rfl⟩ (qi)
 |false=>
  rw[ho]at c2;refine acO qbf ?_;simp (disch:=omega) only[qdK,zca,ql,go_sem]
  repeat' first|(refine qj ( .bool false) ?_;simp (disch:=omega) only[go_sem])|((first|refine cA (c1 _) ?_ ?_|refine cA (c4 _) ?_ ?_);exact flk;simp (disch:=omega) only[q6,go_sem])
  refine qv (c2 _) (by exact flk) ?_;simp (disch:=omega) only[e8,go_sem];refine qv (c6 _) (by exact flk) ?_;simp (disch:=omega) only[go_sem];refine jV ?Tb ?Hb ?h1 ?h2
  case h1=>
   simp (disch:=omega) only[go_sem]
   repeat' first|(with_reducible apply aiA)|(refine qv (c7 _) (by exact flk) ?_;simp (disch:=omega) only[zgb,zsb,zcb,ql,hL,k3,go_sem])
   all_goals first
    |omega
    |rfl
    |(intro y hy;rw[List.mem_singleton]at hy;subst hy;exact qc2 x)
    |skip
  case h2=>
  simp (disch:=omega) only[go_sem];rw[qcK x,List.append_assoc,hX];exact zI trivial (by simp only[tri_len]) (jJ t (jL t va r) (kh _ _) (zY _ _ _)) ⟨rfl,rfl⟩ (qi)
theorem qAj(t:T3 h a b c)(q:Br)(x:UInt8)(hq:qzZ q):ACalls Tryz.prog 244 [.op a va 0,.agg (atC 1 x)] (brO h a b c va q) (.tup []) (brO h a b c va (q.pt x)):=by
 have ta:=t.la;have tb:=t.lb;have tc:=t.lc;have zga: ∀ {X Y Z l},qr (a) (tri h a b c X Y Z++l)=some X:=CS (t);have yga: ∀ {X Y Z},qr (a) (tri h a b c X Y Z)=some X:=λ{X Y Z}=>by have:=zga (X:=X) (Y:=Y) (Z:=Z) (l:= []);simpa only[lan] using this
 have zgb: ∀ {X Y Z l},qr (b) (tri h a b c X Y Z++l)=some Y:=Sv (t);have ygb: ∀ {X Y Z},qr (b) (tri h a b c X Y Z)=some Y:=λ{X Y Z}=>by have:=zgb (X:=X) (Y:=Y) (Z:=Z) (l:= []);simpa only[lan] using this
 have zgc: ∀ {X Y Z l},qr (c) (tri h a b c X Y Z++l)=some Z:=DV (t);have ygc: ∀ {X Y Z},qr (c) (tri h a b c X Y Z)=some Z:=λ{X Y Z}=>by have:=zgc (X:=X) (Y:=Y) (Z:=Z) (l:= []);simpa only[lan] using this
 have zsa: ∀ {X Y Z o l},qq (a) (tri h a b c X Y Z++l) o=tri h a b c o Y Z++l:=Sz (t);have ysa: ∀ {X Y Z o},qq (a) (tri h a b c X Y Z) o=tri h a b c o Y Z:=λ{X Y Z o}=>by have:=zsa (X:=X) (Y:=Y) (Z:=Z) (o:=o) (l:= []);simpa only[lan] using this
 have zsb: ∀ {X Y Z o l},qq (b) (tri h a b c X Y Z++l) o=tri h a b c X o Z++l:=S0 (t);have ysb: ∀ {X Y Z o},qq (b) (tri h a b c X Y Z) o=tri h a b c X o Z:=λ{X Y Z o}=>by have:=zsb (X:=X) (Y:=Y) (Z:=Z) (o:=o) (l:= []);simpa only[lan] using this
 have zsc: ∀ {X Y Z o l},qq (c) (tri h a b c X Y Z++l) o=tri h a b c X Y o++l:=S3 (t);have ysc: ∀ {X Y Z o},qq (c) (tri h a b c X Y Z) o=tri h a b c X Y o:=λ{X Y Z o}=>by have:=zsc (X:=X) (Y:=Y) (Z:=Z) (o:=o) (l:= []);simpa only[lan] using this
 have zca: ∀ {X Y Z v l},cellsOf (tri h a b c X Y Z++l) (a) v=qx (some X) v:=TV (t);have yca: ∀ {X Y Z v},cellsOf (tri h a b c X Y Z) (a) v=qx (some X) v:=λ{X Y Z v}=>by have:=zca (X:=X) (Y:=Y) (Z:=Z) (v:=v) (l:= []);simpa only[lan] using this
 have zcb: ∀ {X Y Z v l},cellsOf (tri h a b c X Y Z++l) (b) v=qx (some Y) v:=TW (t);have ycb: ∀ {X Y Z v},cellsOf (tri h a b c X Y Z) (b) v=qx (some Y) v:=λ{X Y Z v}=>by have:=zcb (X:=X) (Y:=Y) (Z:=Z) (v:=v) (l:= []);simpa only[lan] using this
 have zcc: ∀ {X Y Z v l},cellsOf (tri h a b c X Y Z++l) (c) v=qx (some Z) v:=TX (t);have ycc: ∀ {X Y Z v},cellsOf (tri h a b c X Y Z) (c) v=qx (some Z) v:=λ{X Y Z v}=>by have:=zcc (X:=X) (Y:=Y) (Z:=Z) (v:=v) (l:= []);simpa only[lan] using this
 have zla: ∀ {X Y Z v l},qF (tri h a b c X Y Z++l) (a) v=qI (some X) v:=TY (t);have yla: ∀ {X Y Z v},qF (tri h a b c X Y Z) (a) v=qI (some X) v:=λ{X Y Z v}=>by have:=zla (X:=X) (Y:=Y) (Z:=Z) (v:=v) (l:= []);simpa only[lan] using this
 have zlb: ∀ {X Y Z v l},qF (tri h a b c X Y Z++l) (b) v=qI (some Y) v:=TZ (t);have ylb: ∀ {X Y Z v},qF (tri h a b c X Y Z) (b) v=qI (some Y) v:=λ{X Y Z v}=>by have:=zlb (X:=X) (Y:=Y) (Z:=Z) (v:=v) (l:= []);simpa only[lan] using this
 have zlc: ∀ {X Y Z v l},qF (tri h a b c X Y Z++l) (c) v=qI (some Z) v:=T0 (t);have ylc: ∀ {X Y Z v},qF (tri h a b c X Y Z) (c) v=qI (some Z) v:=λ{X Y Z v}=>by have:=zlc (X:=X) (Y:=Y) (Z:=Z) (v:=v) (l:= []);simpa only[lan] using this
 have c2:=λl=>qAk (va:=va) (t.app l) q x hq
 simp only[S5 t]at c2;unfold brO brX at c2 ⊢;unfold atC at c2 ⊢;refine acO qxu ?_;simp (disch:=omega) only[qvE,go_sem];refine qv (c2 _) (by exact flk) ?_;simp (disch:=omega) only[go_sem];exact zI trivial (by simp only[tri_len]) (jJ t (jL t va (q.pt x)) (eW _ _) (zY _ _ _)) ⟨rfl,rfl⟩ (qi)
end
end RC
end
