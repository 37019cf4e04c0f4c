import Derived.Test.YtmieflnoheifbaaGreatDoorK12
import Derived.Test.YtmieflnoheifbaaGreatDoorK3
import Derived.Test.YtmieflnoheifbaaGreatDoorK5
import Derived.Test.YtmieflnoheifbaaGreatDoorK8
import Derived.Test.YtmieflnoheifbaaGreatDoorProg
set_option linter.all false
set_option maxHeartbeats 128000000
set_option maxRecDepth 100000
section
open Go Go.Proofs AF HY LN
namespace RC
theorem qFK(s:Str)(kb vb kj v kw:Nat)(h:wh)(hne:kj≠kb)(hk:qt kb h=some (.mem vb 333 [.nilp,.osl kj v 1 0 0]))(hj:qt kj h=some (.emp v))(hl:s.length<=1000000)(hs:s≠ [])(hg:zT h frmN frmC):
  ACalls Tryz.prog 374 [jQ s,.op kb vb 0,.op kw 1 0] h (.tup []) (qr kj (qr kb h (.mem vb 333 [.op kb vb 0,.osl kj (v+1) 1 0 s.length])) (qct (v+1) s)):=by
 have hkl:=zK hk;have hjl:=zK hj;refine acO qyC ?_;simp (disch:=omega) only[qwK,jQ,ndC,go_sem];obtain⟨H1,hH1⟩:=wg (qr kj (qr kb h (.mem vb 333 [.op kb vb 0,.osl kj (v+1) 1 0 s.length])) (qct (v+1) s))
 rw[<-hH1];have hH1l:H1.length=h.length:=by rw[hH1];simp only[qL]
 refine qn (T:=λi:Nat×AObj×AObj=>qO 53 [(1,.op kb vb 0),(2,.op kw 1 0),(7,jQ s),(8,.int .i64 ((1:Nat):Int)),(9,.int .i64 i.1)])
  (H:=λi=>(if i.1=0 then h else H1)++ [i.2.1,i.2.2])
  (inv:=λi=>i.1<=1∧qy [i.2.1] 0=true∧qy [i.2.2] 0=true) (m:=λi=>1-i.1) (0,.emp 0,.emp 0) ⟨nzl _,rfl,rfl⟩ (Wk.temps ?_) ?_
 ·(simp only[jQ,ndC,go_sem,qf,qc,qa,qe];try exact we)
 rintro⟨i,O5,O6⟩ ⟨i1,i2,i3⟩ K hK;simp only at i1 i2 i3 hK;have i2': ∀m,qy (O5::m) 0=true:=λ_=>i2
 have i3': ∀m,qy (O6::m) 0=true:=λ_=>i3
 by_cases hi:i<1
 ·obtain rfl:i=0:=by omega
  simp only[if_true];simp (disch:=omega) only[jQ,ndC,i2',go_sem]
  repeat' first|(with_reducible first|intro _|apply aiA)|exact clz|fail
  refine qru (cs:=frmC) hg.app ⟨by decide,by decide⟩ rfl ?_;rw[qrr];simp (disch:=omega) only[qyY,i3',go_sem];refine qz (qFJ kb vb kj v .nilp [] s _ hne (by rw[zH hkl];exact hk) (.inl rfl) (by rw[zH hjl];exact hj) (by simp;omega)) (by exact flk) ?_;have eH: ∀l,qr kj (qr kb (h++l) (.mem vb 333 [.op kb vb 0,.osl kj (v+1) 1 0 (([]:Str).length+s.length)])) (qct (v+1) ([]++s))=H1++l:=λl=>by
   rw[hH1,lnl,Nat.zero_add,lna,zI hkl,zI (by rw[qL];exact hjl)]
  rw[eH];simp (disch:=omega) only[go_sem];refine hK _ _ (1,.mem (qo (some O5)+1) 234 (ndC s),.mem (qo (some O6)+1) 414 qyY) ⟨nlr _,rfl,rfl⟩ (by simp only;omega) ?_;rw[ine (by simp)];simp only[ndC,qyY];refine Wk.temps ?_
  (simp only[jQ,ndC,go_sem,qf,qc,qa,qe];try exact we)
 ·obtain rfl:i=1:=by omega
  rw[ine (by simp)];simp (disch:=omega) only[jQ,ndC,go_sem]
  repeat' first|(with_reducible first|intro _|apply aiA)|exact clz|fail
  refine zR trivial hH1l ?_ ⟨rfl,rfl⟩ (qi);rw[hH1];exact qdg hkl hjl
theorem qCO(s:Str)(h:wh)(hl:s.length<=1000000)(hs:s≠ [])(hg:zT h frmN frmC):ACalls Tryz.prog 340 [jQ s] h (.str s) h:=by
 refine acO qyv ?_;simp (disch:=omega) only[qwD,jQ,go_sem];refine⟨_,_,Wk.ownNil (j:=h.length) (i:=1) (k:=h.length+2) (v:=1) (ty:=333) (cs:= [.nilp,.nl]) (ve:=0) (sz:=1) ?m1 rfl ?m2,?_⟩
 case m1=>simp only[go_sem]
 case m2=>simp only[go_sem]
 simp (disch:=omega) only[List.set_cons_zero,List.set_cons_succ,go_sem]
 repeat' first|with_reducible apply aiA|exact clz|fail
 refine ky (qFK s h.length 1 (h.length+2) 0 (h.length+1) _ om (by simp only[go_sem]) (by simp only[go_sem]) hl hs hg.app) ?_;simp (disch:=omega) only[go_sem];refine qz (qFq h.length 1 (h.length+2) 1 (.op h.length 1 0) s _ om (by simp only[go_sem]) (by simp only[go_sem])) (by exact flk) ?_;simp (disch:=omega) only[go_sem]
 repeat' first|exact wa|fail
theorem qBR(s:Str)(h:wh)(hl:s.length<=1000000)(hl2:s.length<=65536)(hs:s≠ [])(hc:zN s=0)(hg:zT h frmN frmC):ACalls Tryz.prog 283 [jQ s] h (.int .i64 0) h:=by
 have c1:=λh=>qt6 s h
 unfold jQ at c1;obtain⟨cs,hcs⟩:=wg (AObj.mem 1 30 [.fn (.func 337) [] [.op (h.length+1) 1 0]])
 refine acO qyg ?_;simp (disch:=omega) only[qwr,jQ,go_sem]
 repeat' first|(refine cA (c1 _) flk ?_;simp (disch:=omega) only[go_sem])
 refine zE (xs:= [[.agg (plC s)]]) (itN s) (by simp)
  (S:=λi hh=> ∃O,qy [O] 0=true∧(∀n,lowO n O)∧hh=h++ [.mem 1 28 [.int .i64 0],.mem 1 3 [.int .i64 (4096-i)],cs,O,.emp 0]) (E:=λ_ _=>False) ?_ ?_ ?_ ?_ ?_ ?_ ?_
 ·rintro i hh ⟨O,_,l1,rfl⟩;refine LowI.app rfl (λo ho=> ?_);simp only[List.mem_cons,List.not_mem_nil,or_false]at ho;rcases ho with rfl|rfl|rfl|rfl|rfl
  ·left;simp
  ·right;exact⟨λc hc=>(by simp at hc;subst hc;rfl),λc hc=>(by simp at hc;subst hc;rfl)⟩
  ·left;rw[hcs];simp
  ·right;exact⟨l1 _,l1 _⟩
  ·left;simp
 ·intro s hh hf;exact hf.elim
 ·exact⟨.emp 0,rfl,λ_=>trivial,by rw[hcs];rfl⟩
 ·simp[qT,qT.lowVs]
  try omega
 ·rintro i hh tl LI TS hi ⟨O,s1,l1,rfl⟩ hlen K K2 hK hN hR' hX;obtain rfl:i=0:=by simp at hi;omega
  have s1': ∀m,qy (O::m) 0=true:=λ_=>s1
  show qV _ _ _ _ (kK _ _ [.agg (plC s)]) _;simp only[kK];simp (disch:=omega) only[List.append_assoc,plC,s1',go_sem];refine hK _ _ (h++ [.mem 1 28 [.int .i64 0],.mem 1 3 [.int .i64 4096],cs,.mem (qo (some O)+1) 386 (plC s),.emp 0]) (by simp[plC]) (by simp) ?_;rw[hcs];simp (disch:=omega) only[List.append_assoc,plC,go_sem]
  repeat' first|with_reducible apply aiA|exact clz|fail
  refine ky (qFm 4096 (h.length+1) 1 _ (by simp only[go_sem]) om om) ?_;simp (disch:=omega) only[go_sem]
  repeat' first|(with_reducible first|intro _|apply aiA)|exact clz|fail
  refine hN _ _ (h++ [.mem 1 28 [.int .i64 0],.mem 1 3 [.int .i64 4095],cs,.mem (qo (some O)+1) 386 (plC s),.emp 0]) (by rw[hcs];simp[plC]) (by simp) ⟨.mem (qo (some O)+1) 386 (plC s),rfl,qfB s _ _,rfl⟩
 ·rintro hh ⟨O,s1,l1,rfl⟩;have c2:=λh=>qt6 s h
  unfold jQ at c2;rw[hcs];simp (disch:=omega) only[go_sem]
  repeat' first|(refine cA (c2 _) flk ?_;simp (disch:=omega) only[go_sem])
  have c5:=λl=>qFd s (h++l) hs hl hc hg.app
  have c6:=λl=>qCO s (h++l) hl hs hg.app
  unfold jQ at c6;unfold plC at c5;refine zE (xs:= [[.agg (plC s)]]) (itN s) (by simp)
   (S:=λi hh=> ∃O6,qy [O6] 0=true∧(∀n,lowO n O6)∧hh=h++ [.mem 1 28 [.int .i64 0],.mem 1 3 [.int .i64 4095],cs,O,O6]) (E:=λ_ _=>False) ?_ ?_ ?_ ?_ ?_ ?_ ?_
  ·rintro i hh ⟨O6,_,l2,rfl⟩;refine LowI.app rfl (λo ho=> ?_);simp only[List.mem_cons,List.not_mem_nil,or_false]at ho;rcases ho with rfl|rfl|rfl|rfl|rfl
   ·left;simp
   ·left;simp
   ·left;rw[hcs];simp
   ·left;simp
   ·right;exact⟨l2 _,l2 _⟩
  ·intro s hh hf;exact hf.elim
  ·exact⟨.emp 0,rfl,λ_=>trivial,by rw[hcs];rfl⟩
  ·simp[qT,qT.lowVs]
   try omega
  ·rintro i hh tl LI TS hi ⟨O6,s6,l6,rfl⟩ hlen K K2 hK hN hR' hX;obtain rfl:i=0:=by simp at hi;omega
   have s6': ∀m,qy (O6::m) 0=true:=λ_=>s6
   show qV _ _ _ _ (kK _ _ [.agg (plC s)]) _;simp only[kK];simp (disch:=omega) only[List.append_assoc,plC,s6',go_sem];refine hK _ _ (h++ [.mem 1 28 [.int .i64 0],.mem 1 3 [.int .i64 4095],cs,O,.mem (qo (some O6)+1) 386 (plC s)]) (by simp[plC]) (by simp) ?_;simp (disch:=omega) only[List.append_assoc,plC,go_sem]
   repeat' first|(refine cA (c5 _) flk ?_;simp (disch:=omega) only[go_sem])
   refine hN _ _ (h++ [.mem 1 28 [.int .i64 0],.mem 1 3 [.int .i64 4095],cs,O,.mem (qo (some O6)+1) 386 (plC s)]) (by simp[plC]) (by simp) ⟨.mem (qo (some O6)+1) 386 (plC s),rfl,qfB s _ _,rfl⟩
  ·rintro hh ⟨O6,s6,l6,rfl⟩;have k1:((65536:Int)<s.length)=False:=wm;simp (disch:=omega) only[go_sem]
   repeat' first|(refine cA (c6 _) flk ?_;simp (disch:=omega) only[k1,go_sem])|exact wa|fail
  ·intro e hh hf;exact hf.elim
 ·intro e hh hf;exact hf.elim
theorem qD3(h:wh):ACalls Tryz.prog 284 [.nl] h (.int .i64 0) h:=by
 refine acO qyh ?_;simp (disch:=omega) only[qws,go_sem]
 repeat' first|(apply qb;exact rvk;simp only[go_sem];apply qg)|(with_reducible first|intro _|apply aiA)|exact clz|fail
 refine qn (T:=λ_:Unit=>qO 21 [(9,.nl),(10,.int .i64 0),(11,.int .i64 0)]) (H:=λ_=>h++ [.emp 0]) (inv:=λ_=>True) (m:=λ_=>0) () trivial (Wk.temps ?_) ?_
 ·(simp only[go_sem,qf,qc,qa,qe];try exact we)
 rintro⟨⟩ _ K hK;simp (disch:=omega) only[go_sem]
 repeat' first|exact wa|(with_reducible first|intro _|apply aiA)|exact clz|fail
theorem qFC(s:Str)(h:wh)(hs:s.length<=1000000)(hw: ∀i,i<s.length->kY (ch s i)=true):ACalls Tryz.prog 376 [.str s] h (.bool true) h:=by
 refine acO qyD ?_;simp (disch:=omega) only[qwL,go_sem];refine qn (T:=λi:Nat=>qO 19 [(0,.str s),(4,.str s),(5,.int .i64 s.length),(6,.int .i64 i)]) (H:=λ_=>h) (inv:=λi=>i<=s.length) (m:=λi=>s.length-i) 0 (nzl _) (Wk.temps ?_) ?_
 ·(simp only[go_sem,qf,qc,qa,qe];try exact we)
 rintro i i1 K hK
 by_cases hi:i<s.length
 ·have k1:((i:Int)<s.length)=True:=wl;have e:(s[i]?).getD 0=ch s i:=by simp[ch,gdqA]
  have c1:=λh=>qbI (ch s i) h
  have g:=hw i hi;unfold kY at g;simp only[Bool.or_eq_true,decide_eq_true_eq]at g;obtain⟨k,hk⟩:=wg (kind (ch s i))
  rw[<-hk]at g;simp only[<-hk]at c1
  by_cases g1:k=1
  ·subst g1;simp (disch:=omega) only[k1,e,go_sem]
   repeat' first|(refine cA (c1 _) flk ?_;simp (disch:=omega) only[go_sem])|with_reducible apply aiA|exact clz|fail
   refine hK _ _ (i+1) hi om (Wk.temps ?_)
   (simp only[go_sem,qf,qc,qa,qe];try exact we)
  by_cases g2:k=2
  ·subst g2;simp (disch:=omega) only[k1,e,go_sem]
   repeat' first|(refine cA (c1 _) flk ?_;simp (disch:=omega) only[go_sem])|(apply qh;exact rvk;simp only[go_sem];apply qd)|(with_reducible first|intro _|apply aiA)|exact clz|fail
   refine hK _ _ (i+1) hi om (Wk.temps ?_)
   (simp only[go_sem,qf,qc,qa,qe];try exact we)
  by_cases g3:k=3
  ·subst g3;simp (disch:=omega) only[k1,e,go_sem]
   repeat' first|(refine cA (c1 _) flk ?_;simp (disch:=omega) only[go_sem])|(apply qh;exact rvk;simp only[go_sem];apply qd)|(with_reducible first|intro _|apply aiA)|exact clz|fail
   refine hK _ _ (i+1) hi om (Wk.temps ?_)
   (simp only[go_sem,qf,qc,qa,qe];try exact we)
  obtain rfl:k=4:=by omega
  simp (disch:=omega) only[k1,e,go_sem]
  repeat' first|(refine cA (c1 _) flk ?_;simp (disch:=omega) only[go_sem])|(apply qh;exact rvk;simp only[go_sem];apply qd)|(with_reducible first|intro _|apply aiA)|exact clz|fail
  refine hK _ _ (i+1) hi om (Wk.temps ?_)
  (simp only[go_sem,qf,qc,qa,qe];try exact we)
 have k1:((i:Int)<s.length)=False:=wm;simp (disch:=omega) only[k1,go_sem]
 repeat' first|exact wc|fail
theorem qEQ(s:Str)(hs:s.length<=1000000):qns Tryz.prog 392 [.ip [.str s],.ip [.nl]] []:=by
 intro h ts LI S E hS hE body start hts;refine acQ qyL ?_;simp (disch:=omega) only[qwS,go_sem]
 repeat' first|with_reducible apply aiA|exact clz|fail
 refine qn (T:=λi:Nat=>qO 45 [(0,.yld h.length),(1,.ip [.str s]),(2,.ip [.nl]),(10,.int .i64 s.length),(11,.int .i64 i)]) (H:=λ_=>h++ [.lp .ready ts LI]++ [.emp 0]) (inv:=λi=>i<=s.length) (m:=λi=>s.length-i) 0 (nzl _) (Wk.temps ?_) ?_
 ·(simp only[go_sem,qf,qc,qa,qe];try exact we)
 rintro i i1 K hK
 by_cases hi:i<s.length
 ·have k1:((i:Int)<s.length)=True:=wl;simp (disch:=omega) only[k1,go_sem]
  repeat' first|with_reducible apply aiA|exact clz|fail
  refine qn (T:=λ_:Unit=>qO 45 [(0,.yld h.length),(1,.ip [.str s]),(2,.ip [.nl]),(4,.int .i64 i),(10,.int .i64 s.length),(11,.int .i64 i),(14,.nl),(15,.int .i64 0),(16,.int .i64 0)]) (H:=λ_=>h++ [.lp .ready ts LI]++ [.emp 0]) (inv:=λ_=>True) (m:=λ_=>0) () trivial (Wk.temps ?_) ?_
  ·(simp only[go_sem,qf,qc,qa,qe];try exact we)
  rintro⟨⟩ _ K' hK';simp (disch:=omega) only[go_sem]
  repeat' first|(with_reducible first|intro _|apply aiA)|exact clz|fail
  refine hK _ _ (i+1) hi om (Wk.temps ?_)
  (simp only[go_sem,qf,qc,qa,qe];try exact we)
 have k1:((i:Int)<s.length)=False:=wm;simp (disch:=omega) only[k1,go_sem];obtain⟨r1,r2⟩:=(hS _ _ start).retX (L:=LI) (xs:= []) .ready hts;exact zR trivial r1 r2 ⟨h,.inl ⟨start,rfl⟩⟩ (qi)
theorem qFa(s:Str)(h:wh):ACalls Tryz.prog 391 [.nl,.str s] h (.fn (.func 392) [] [.ip [.str s],.ip [.nl]]) h:=by
 refine acO qyK ?_;simp (disch:=omega) only[qwR,go_sem]
 repeat' first|exact wa|fail
theorem qFp(s:Str)(h:wh)(hs:s.length<=1000000):ACalls Tryz.prog 390 [.nl,.str s] h (.tup [.str s,.bool false]) h:=by
 have c1:=λh=>qFa s h
 refine acO qyJ ?_;simp (disch:=omega) only[qwQ,go_sem]
 repeat' first|(refine cA (c1 _) flk ?_;simp (disch:=omega) only[go_sem])
 refine zE (xs:= []) (qEQ s hs) (by simp) (S:=λi hh=>hh=h++ [.mem 1 9 [.str []],.mem 1 4 [.bool false]]) (E:=λ_ _=>False) ?_ ?_ ?_ ?_ ?_ ?_ ?_
 ·rintro i hh rfl;exact LowI.refl _
 ·intro s hh hf;exact hf.elim
 ·rfl
 ·simp[qT,qT.lowVs]
  try omega
 ·rintro i hh tl LI TS hi;exact absurd hi (by simp)
 ·rintro hh rfl;simp (disch:=omega) only[go_sem]
  repeat' first|exact wa|fail
 ·intro e hh hf;exact hf.elim
theorem qFy(s:Str)(h:wh)(hs:s.length<=1000000):ACalls Tryz.prog 387 [.nl,.str s] h (.tup [strs [s],.int .i64 0]) h:=by
 have c1:=λh=>qFp s h hs
 refine acO qyI ?_;simp (disch:=omega) only[qwP,go_sem];refine qn (T:=λ_:Unit=>qO 32 [(0,.nl),(6,.osl (h.length+1) 1 1 0 1)]) (H:=λ_=>h++ [.emp 1,.mem 1 9 [.str s],.emp 0,.emp 0]) (inv:=λ_=>True) (m:=λ_=>0) () trivial (Wk.temps ?_) ?_
 ·(simp only[go_sem,qf,qc,qa,qe];try exact we)
 rintro⟨⟩ _ K hK;simp (disch:=omega) only[go_sem]
 repeat' first|(refine cA (c1 _) flk ?_;simp (disch:=omega) only[go_sem])|(apply qb;exact rvk;simp only[go_sem])|with_reducible apply aiA|exact clz|fail
 refine qrT ⟨VLe.sl_eq rfl (λi hi=> ?_),qi,trivial⟩;obtain rfl:i=0:=by simp at hi;omega
 rfl
theorem qEe(s:Str)(h:wh)(hs:s.length<=64)(hw: ∀i,i<s.length->kY (ch s i)=true):ACalls Tryz.prog 378 [.nl,.str s] h (.tup [strs [s],.int .i64 0]) h:=by
 have c1:=λh=>qFy s h om
 have c2: ∀h,ACalls Tryz.prog 386 [.nl,.str s] h (.int .i64 0) h:=λh=>by
  have d1:=λh=>qD3 h
  have d2:=λh=>qFC s h om hw
  have k1:((64:Int)<s.length)=False:=wm;refine acO qyH ?_;simp (disch:=omega) only[qwO,go_sem]
  repeat' first|((first|refine cA (d1 _) ?_ ?_|refine cA (d2 _) ?_ ?_);exact flk;simp (disch:=omega) only[k1,go_sem])|exact wc|fail
 refine acO qyF ?_;simp (disch:=omega) only[qwN,go_sem]
 repeat' first|((first|refine cA (c1 _) ?_ ?_|refine cA (c2 _) ?_ ?_);exact flk;simp (disch:=omega) only[go_sem])|exact wa|with_reducible apply aiA|exact clz|fail
theorem qCS(s:Str)(h:wh)(hs:s.length<=64)(hw: ∀i,i<s.length->kY (ch s i)=true):ACalls Tryz.prog 348 [.nl,.str s] h (.tup [.str s,.int .i64 0]) h:=by
 have c1:=λh=>qEe s h hs hw
 unfold strs at c1;refine acO qyA ?_;simp (disch:=omega) only[qwI,go_sem]
 repeat' first|(refine cA (c1 _) flk ?_;simp (disch:=omega) only[go_sem])|exact wc|with_reducible apply aiA|exact clz|fail
end RC
end
section
open Go Go.Proofs AF HY LN
namespace AF
theorem LowI.retY{h hh xs ys:wh}{ts:wj}{L:LInfo}(s:LS)(hl:LowI h hh)(hts: ∀c∈ts,qT (h.length+1) c=true)(hy:ys.length=xs.length)(hz: ∀o∈ys,o∈xs∨ ∀n,lowO n o):
  (hh++ .lp s ts L::ys).length=(h++ .lp .ready ts L::xs).length∧ ∀o∈hh++ .lp s ts L::ys,o∈h++ .lp .ready ts L::xs∨lowO (h++ .lp .ready ts L::xs).length o:=by
 refine⟨by simp[hl.1,hy],λo ho=> ?_⟩;rcases List.mem_append.1 ho with ho|ho
 ·rcases hl.2 o ho with h1|⟨h1,_⟩
  ·exact .inl (List.mem_append_left _ h1)
  ·exact .inr (lowO_mono (by simp) h1)
 ·rcases List.mem_cons.1 ho with rfl|ho
  ·exact .inr (λc hc=>kD (by simp) c (hts c hc))
  ·rcases hz o ho with h1|h1
   ·exact .inl (List.mem_append_right _ (List.mem_cons_of_mem _ h1))
   ·exact .inr (h1 _)
end AF
namespace RC
def atC(k:Int)(c:UInt8):wj:= [.int .i64 k,.int .u8 (c.toNat:Int),.int .i64 0,.str [],.int .i64 0,.bool false,.str []]
def atX(s:Str):List wj:=s.map λc=> [.agg (atC 1 c)]
theorem qb4(s:Str):(atX s).length=s.length:=by unfold atX;simp
theorem qqV{s:Str}{i:Nat}(hi:i<(atX s).length):(atX s)[i]= [.agg (atC 1 (ch s i))]:=by
 have:i<s.length:=by rw[qb4]at hi;exact hi
 simp[atX,ch,gdqA,this]
def qt7(s:Str)(j:Nat):UInt8:=if j=0 then 0 else ch s (j-1)
def cyA(n:Nat):AObj:= .mem 1 389 [.yld n]
def cxA(k:Int)(c:UInt8):AObj:= .mem 1 348 (atC k c)
def ceA(n:Nat):AObj:= .mem 1 390 [.fn (.func 343) [] [.op (n+2) 1 0,.op (n+1) 1 0,.op (n+3) 1 0]]
theorem qkr(k:Int)(c:UInt8): ∀n,lowO n (cxA k c):=λn d hd=>by
 simp[atC]at hd;rcases hd with rfl|rfl|rfl|rfl|rfl|rfl|rfl<;>rfl
section
variable {n : Nat} {hh m : wh} {st : LS} {ts : wj} {LI : LInfo} {k : Int} {c : UInt8} {X : AObj}
theorem qBs(hl:hh.length=n):cellsOf (hh++ .lp st ts LI::cyA n::X::ceA n::m) (n+1) 1=some [.yld n]:=qR (show qt _ _=some (cyA n) by subst hl;unfold qt;simp)
theorem qBt(hl:hh.length=n):qt (n+2) (hh++ .lp st ts LI::cyA n::X::ceA n::m)=some X:=by subst hl;unfold qt;simp
theorem qvx{Y:AObj}(hl:hh.length=n):qr (n+2) (hh++ .lp st ts LI::cyA n::X::ceA n::m) Y=hh++ .lp st ts LI::cyA n::Y::ceA n::m:=by subst hl;unfold qr;simp
end
theorem eachT(s:Str)(hl:s.length<=1000000)(h:wh)(ts:wj)(LI:LInfo)(S:Nat->wh->Prop)(E:LS->wh->Prop)(hS: ∀i hh,S i hh->LowI h hh)(hE: ∀s hh,E s hh->LowI h hh)
  (body: ∀i hh tl,(hi:i<(atX s).length)->S i hh->km Tryz.prog h.length ((atX s)[i]) (hh++ .lp .ready ts LI::tl) (λr h'=> ∃hh',(r= .bool true∧S (i+1) hh'∧h'=hh'++ .lp .ready ts LI::tl)∨(∃s,r= .bool false∧E s hh'∧h'=hh'++ .lp s ts LI::tl)))
  (start:S 0 h) (hts: ∀c∈ts,qT (h.length+1) c=true):
  jc Tryz.prog 343 [jQ s,.op (h.length+2) 1 0,.op (h.length+1) 1 0,.op (h.length+3) 1 0] (h++ [.lp .ready ts LI,cyA h.length,cxA 0 0,ceA h.length])
   (λr h'=> ∃hh' c,(r= .bool true∧S s.length hh'∧h'=hh'++ [.lp .ready ts LI,cyA h.length,cxA 1 c,ceA h.length])∨(∃st,r= .bool false∧E st hh'∧h'=hh'++ [.lp st ts LI,cyA h.length,cxA 1 c,ceA h.length])):=by
 refine acQ qyx ?_;simp (disch:=omega) only[qwF,jQ,ndC,go_sem];have key: ∀(hh:wh) (k:Int) (c:UInt8),hh.length=h.length-> ∃B,B=hh++ [AObj.lp LS.ready ts LI,cyA h.length,cxA k c,ceA h.length]∧B.length=h.length+4∧qt (h.length+2) B=some (cxA k c)∧(∀Y m,cellsOf (qr (h.length+2) B Y++m) (h.length+1) 1=some [.yld h.length])∧
   (∀Y m,qr (h.length+2) B Y++m=hh++ [AObj.lp LS.ready ts LI,cyA h.length,Y,ceA h.length]++m):=λhh k c hl=>by
  refine⟨_,rfl,by simp[hl],qBt (m:= []) hl,λY m=> ?_,λY m=> ?_⟩
  ·rw[qvx (m:= []) hl];have e:hh++ [AObj.lp LS.ready ts LI,cyA h.length,Y,ceA h.length]++m=hh++ .lp .ready ts LI::cyA h.length::Y::ceA h.length::m:=by simp
   rw[e];exact qBs hl
  ·rw[qvx (m:= []) hl]
 have ea: ∀(g:wh) st (X:AObj) m,g++ [AObj.lp st ts LI,cyA h.length,X,ceA h.length]++m=g++ .lp st ts LI::cyA h.length::X::ceA h.length::m:=λg st X m=>by simp
 refine qn (T:=λi:Nat×wh×AObj×AObj×UInt8=>qO 93 [(1,.op (h.length+2) 1 0),(2,.op (h.length+1) 1 0),(3,.op (h.length+3) 1 0),(11,jQ s),(12,.int .i64 ((1:Nat):Int)),(13,.int .i64 i.1)])
  (H:=λi=>i.2.1++ [.lp .ready ts LI,cyA h.length,cxA (if i.1=0 then 0 else 1) i.2.2.2.2,ceA h.length]++ [i.2.2.1,i.2.2.2.1])
  (inv:=λi=>i.1<=1∧S (if i.1=0 then 0 else s.length) i.2.1∧qy [i.2.2.1] 0=true∧qy [i.2.2.2.1] 0=true∧(i.1=0->i.2.2.2.2=0)) (m:=λi=>1-i.1) (0,h,.emp 0,.emp 0,0) ⟨nzl _,start,rfl,rfl,λ_=>rfl⟩ (Wk.temps ?_) ?_
 ·(simp only[jQ,ndC,go_sem,qf,qc,qa,qe];try exact we)
 rintro⟨i,hh,O7,O9,c⟩ ⟨i1,i2,i3,i4,i5⟩ K hK;simp only at i1 i2 i3 i4 i5 hK;obtain⟨hlen,hlow⟩:=hS _ _ i2;have i3': ∀m,qy (O7::m) 0=true:=λ_=>i3
 have i4': ∀m,qy (O9::m) 0=true:=λ_=>i4
 by_cases hi:i<1
 ·obtain rfl:i=0:=by omega
  obtain rfl:=i5 rfl;rw[ipo rfl]at i2;obtain⟨B,hB,hBl,hk,d1,d2⟩:=key hh 0 0 hlen;have hb:(h++ [AObj.lp LS.ready ts LI,cyA h.length,cxA 0 0,ceA h.length]).length=B.length:=by rw[hBl];simp
  have hkl:h.length+2<B.length:=by omega
  have s1: ∀ {l w cs z},cellsOf (qr (h.length+2) B (.mem w 348 cs)++l) (h.length+2) z=if w=z then some cs else none:=gF hkl
  have s2: ∀ {l o o'},qr (h.length+2) (qr (h.length+2) B o++l) o'=qr (h.length+2) B o'++l:=qdL hkl;have s4: ∀ {l o},qt (h.length+2) (qr (h.length+2) B o++l)=some o:=qbP hkl;show qV _ _ _ _ _ (hh++ [.lp .ready ts LI,cyA h.length,cxA 0 0,ceA h.length]++ [O7,O9]);rw[hb,<-hB];have hB0:B=qr (h.length+2) B (.mem 1 348 (atC 0 0)):=(jN hk).symm;rw[show B++ [O7,O9]=qr (h.length+2) B (.mem 1 348 (atC 0 0))++ [O7,O9]from by rw[<-hB0]];unfold atC;simp (disch:=omega) only[jQ,ndC,i3',go_sem]
  repeat' first|(with_reducible first|intro _|apply aiA)|exact clz|fail
  refine kg ?T ?H ?h1 ?h2
  case h1=>
   simp (disch:=omega) only[s1,s2,s4,go_sem]
   repeat' first|with_reducible apply aiA
   all_goals first
    |omega
    |rfl
    |skip
  case h2=>
  simp (disch:=omega) only[s1,s2,s4,go_sem]
  repeat' first|(with_reducible first|intro _|apply aiA)|exact clz|fail
  rw[d2];obtain⟨O7',hO7⟩:=wg (AObj.mem (qo (some O7)+1) 234 (ndC s))
  refine qn (T:=λj:Nat×wh=>qO 93 [(1,.op (h.length+2) 1 0),(2,.op (h.length+1) 1 0),(3,.op (h.length+3) 1 0),(7,.op B.length (qo (some O7)+1) 0),(11,jQ s),(12,.int .i64 ((1:Nat):Int)),(13,.int .i64 ((0:Nat):Int)),(70,.int .i64 s.length),(71,.int .i64 j.1)])
   (H:=λj=>j.2++ [.lp .ready ts LI,cyA h.length,cxA 1 (qt7 s j.1),ceA h.length]++ [O7',O9])
   (inv:=λj=>j.1<=s.length∧S j.1 j.2) (m:=λj=>s.length-j.1) (0,hh) ⟨nzl _,i2⟩ ?_ ?_
  ·rw[hO7];refine Wk.temps ?_
   (simp only[jQ,ndC,go_sem,qf,qc,qa,qe];try exact we)
  rintro⟨j,hj⟩ ⟨j1,j2⟩ K' hK';simp only at j1 j2 hK';obtain⟨jlen,jlow⟩:=hS _ _ j2;obtain⟨C,hC,hCl,ck,e1,e2⟩:=key hj 1 (qt7 s j) jlen;have ckl:h.length+2<C.length:=by omega
  have t1: ∀ {l w cs z},cellsOf (qr (h.length+2) C (.mem w 348 cs)++l) (h.length+2) z=if w=z then some cs else none:=gF ckl
  have t2: ∀ {l o o'},qr (h.length+2) (qr (h.length+2) C o++l) o'=qr (h.length+2) C o'++l:=qdL ckl;have t4: ∀ {l o},qt (h.length+2) (qr (h.length+2) C o++l)=some o:=qbP ckl;show qV _ _ _ _ _ (hj++ [.lp .ready ts LI,cyA h.length,cxA 1 (qt7 s j),ceA h.length]++ [O7',O9]);have hbc:B.length=C.length:=by rw[hBl,hCl]
  simp only[hbc];rw[<-hC];have hC0:C=qr (h.length+2) C (.mem 1 348 (atC 1 (qt7 s j))):=(jN ck).symm;rw[show C++ [O7',O9]=qr (h.length+2) C (.mem 1 348 (atC 1 (qt7 s j)))++ [O7',O9]from by rw[<-hC0]];unfold atC;rw[hO7]
  by_cases hjl:j<s.length
  ·have k1:((j:Int)<s.length)=True:=wl;have e:(s[j]?).getD 0=ch s j:=by simp[ch,gdqA]
   have hb':=λtl=>body j hj tl (by rw[qb4];exact hjl) j2
   simp only[qqV,atC]at hb';simp (disch:=omega) only[jQ,ndC,t1,t2,t4,k1,e,e1,go_sem]
   repeat' first|with_reducible apply aiA|exact clz|fail
   ·rw[e2,ea];exact⟨.ready,ts,LI,kR jlen⟩
   ·rw[e2,ea];refine km.mono ?_ (hb' _);rintro v h' ⟨hh',⟨rfl,hn,rfl⟩|⟨st,rfl,hs',rfl⟩⟩
    ·simp (disch:=omega) only[go_sem];rw[<-ea];refine hK' _ _ (j+1,hh') ⟨hjl,hn⟩ (by simp only;omega) ?_;simp only[hO7,qt7,Nat.add_sub_cancel,hbc];rw[ine om];refine Wk.temps ?_
     (simp only[jQ,ndC,go_sem,qf,qc,qa,qe];try exact we)
    ·simp (disch:=omega) only[go_sem];rw[<-ea hh' st];obtain⟨r1,r2⟩:=(hE _ _ hs').retY (L:=LI) (xs:= [cyA h.length,cxA 0 0,ceA h.length]) (ys:= [cyA h.length,cxA 1 (ch s j),ceA h.length]) st hts rfl (λo ho=>by
      simp only[List.mem_cons,List.not_mem_nil,or_false]at ho;rcases ho with rfl|rfl|rfl
      ·left;simp
      ·right;exact qkr 1 _
      ·left;simp)
     exact gL ⟨trivial,trivial⟩ r1 r2 ⟨hh',ch s j,.inr ⟨st,rfl,hs',rfl⟩⟩ (qi)
  have k1:((j:Int)<s.length)=False:=wm;obtain rfl:j=s.length:=by omega
  simp (disch:=omega) only[jQ,ndC,k1,go_sem];rw[e2];refine hK _ _ (1,hj,O7',O9,qt7 s s.length) ⟨nlr _,j2,by rw[hO7];rfl,i4,λh=>absurd h (by simp)⟩ (by simp only;omega) ?_;simp only[hO7];refine Wk.temps ?_
  (simp only[jQ,ndC,go_sem,qf,qc,qa,qe];try exact we)
 ·obtain rfl:i=1:=by omega
  have i2:S s.length hh:=i2;show qV _ _ _ _ _ (hh++ [.lp .ready ts LI,cyA h.length,cxA 1 c,ceA h.length]++ [O7,O9]);simp (disch:=omega) only[jQ,ndC,go_sem]
  repeat' first|(with_reducible first|intro _|apply aiA)|exact clz|fail
  obtain⟨r1,r2⟩:=(hS _ _ i2).retY (L:=LI) (xs:= [cyA h.length,cxA 0 0,ceA h.length]) (ys:= [cyA h.length,cxA 1 c,ceA h.length]) .ready hts rfl (λo ho=>by
   simp only[List.mem_cons,List.not_mem_nil,or_false]at ho;rcases ho with rfl|rfl|rfl
   ·left;simp
   ·right;exact qkr 1 c
   ·left;simp)
  exact gL ⟨trivial,trivial⟩ r1 r2 ⟨hh,c,.inl ⟨rfl,i2,rfl⟩⟩ (qi)
end RC
end
section
open Go Go.Proofs AF HY LN
namespace RC
theorem itA(s:Str)(hl:s.length<=1000000):qns Tryz.prog 342 [.ip [.str [],.int .i64 0],.ip [jQ s]] (atX s):=by
 intro h ts LI S E hS hE body start hts;have hb:(h++ [AObj.lp LS.ready ts LI]).length=h.length+1:=by simp
 have ea: ∀st,h++ [AObj.lp st ts LI]++ [.mem 1 389 [.yld h.length],.mem 1 348 [.int .i64 0,.int .u8 0,.int .i64 0,.str [],.int .i64 0,.bool false,.str []],.mem 1 390 [.fn (.func 343) [] [.op (h.length+2) 1 0,.op (h.length+1) 1 0,.op (h.length+3) 1 0]]]=h++ [AObj.lp st ts LI,cyA h.length,cxA 0 0,ceA h.length]:=λst=>by simp[cyA,cxA,ceA,atC]
 refine acQ qyw ?_;simp (disch:=omega) only[qwE,jQ,go_sem]
 repeat' first|with_reducible apply aiA|exact clz|fail
 simp only[hb,Nat.add_assoc,Nat.reduceAdd,ea];refine qjV (eachT s hl h ts LI S E hS hE body start hts) ?_;rintro v h' ⟨hh',c,⟨rfl,hn,rfl⟩|⟨st,rfl,hs',rfl⟩⟩
 ·simp (disch:=omega) only[go_sem];obtain⟨r1,r2⟩:=(hS _ _ hn).retX (L:=LI) (xs:= []) .ready hts;have eO:hh'++ [.lp .ready ts LI,cyA h.length,cxA 1 c,ceA h.length]=(hh'++ [.lp .ready ts LI])++ [cyA h.length,cxA 1 c,ceA h.length]:=by simp
  rw[eO];exact zR trivial r1 r2 ⟨hh',.inl ⟨by rw[qb4];exact hn,rfl⟩⟩ (qi)
 ·simp (disch:=omega) only[go_sem];obtain⟨r1,r2⟩:=(hE _ _ hs').retX (L:=LI) (xs:= []) st hts;have eO:hh'++ [.lp st ts LI,cyA h.length,cxA 1 c,ceA h.length]=(hh'++ [.lp st ts LI])++ [cyA h.length,cxA 1 c,ceA h.length]:=by simp
  rw[eO];exact zR trivial r1 r2 ⟨hh',.inr ⟨st,hs',rfl⟩⟩ (qi)
theorem qEo(s:Str)(h:wh):ACalls Tryz.prog 286 [.agg [.str [],.int .i64 0],jQ s] h (.fn (.func 342) [] [.ip [.str [],.int .i64 0],.ip [jQ s]]) h:=by
 refine acO qyj ?_;simp (disch:=omega) only[qwu,jQ,ndC,go_sem]
 repeat' first|exact wa|fail
end RC
end
section
open Go Go.Proofs AF HY RC LN
namespace HY
theorem qa2(w:World)(b d:Nat)(v:Value):w.grownBy (w.setCell ⟨b,d,none⟩ v) (some b):=by
 unfold World.setCell;refine⟨rfl,rfl,rfl,?_,λk hk hne=> ?_⟩
 ·simp
 ·have:b≠k:=λe=>hne (by rw[e])
  simp[Array.getElem?_modify,this]
theorem qCM(n:Nat)(hn:6<=n):liesAt Tryz.prog Tryz.prog.depth 343 (n/Tryz.prog.cellsOf 343) 1 333 1=true:=by
 have e1:Tryz.prog.cellsOf 343=6:=by kernel_rfl
 have h1:liesAt Tryz.prog Tryz.prog.depth 343 1 1 333 1=true:=by kernel_rfl
 rw[e1];exact qch om _ h1
theorem ccT(kb vb:Nat)(z0 z1 z2 z3:AV)(A B:AV)(h:wh)(hk:qt kb h=some (.mem vb 343 [z0,A,B,z1,z2,z3]))(hA:A= .nilp∨A= .op kb vb 1):ACalls Tryz.prog 333 [.op kb vb 1] h (.tup []) (qr kb h (.mem vb 343 [z0,.op kb vb 1,B,z1,z2,z3])):=by
 refine⟨qtP Tryz.func333 (by kernel_rfl) (by kernel_rfl),λw σ xs H hv=> ?_⟩;obtain⟨x,rfl,hx⟩:=hv.one;have hc:=qR hk;obtain⟨cs,o,b,arr,g1,rfl,g2,g3,g4,g5,g6,g7,g9,g8⟩:=kE H hx (by rw[hc];rfl);rw[hc]at g1;cases g1;have hobj:=H.obj kb _ o hk g2;obtain⟨_,hty,_⟩:=hobj;rw[hty]at g5;have g5b:=g5;have g5:=g5.plain (by decide);have hsz:6<=arr.size:=g7;have hc0:w.cell? ⟨b,1,none⟩=some arr[1]:=by rw[kf g5b];simp
 have hA0:=g8 1 A arr[1] rfl (by simp);have hsh:w.shape? b=some (343,arr.size):=by simp[World.shape?,g5]
 have hfz:w.frozen? ⟨b,1,none⟩=false:=by simp[World.frozen?,g5]
 have hkl:=zK hk;rcases hA with rfl|rfl
 ·rw[qd0 hA0]at hc0;refine (callsIn_wide.2 (qgm b 1 343 arr.size w hc0 om hsh hfz (qCM _ hsz))).mono ?_;rintro e w' ⟨rfl,rfl⟩;have hg:w.grownBy (w.setCell ⟨b,1,none⟩ (.pointer (some ⟨b,1,none⟩))) o.blk:=by rw[g4];exact qa2 w b 1 _
  have hh:=heap_setCell_same w b 1 arr 343 (.pointer (some ⟨b,1,none⟩)) g5;obtain⟨u1,u2⟩:=H.update (o':=o) (a':= .mem vb 343 [z0,.op kb vb 1,B,z1,z2,z3]) g2 hg (nlr _) (λ_=>rfl)
   (by intro b' e;rw[g4]at e;cases e;exact⟨.inl g4,(Array.getElem?_eq_some_iff.1 hh).1⟩) (λb' r e hr=>by rw[g4]at e;cases e;rw[g5]at hr;cases hr)
   (λe=>⟨g3,hty,b,_,g4,by rw[hty];exact .mk hh,by simp[g6],by simp;exact hsz,λi y hi hy=>by
    simp only[Array.getElem?_setIfInBounds]at hy;split at hy
    ·split at hy
     ·cases hy;rfl
     ·cases hy
    ·exact g9 i y (by simpa using hi) hy,λi c y hc hy=>by
    simp only[Array.getElem?_setIfInBounds]at hy;split at hy
    ·rename_i e0;split at hy
     ·cases hy;subst e0;simp at hc;subst hc;have hko:(σ.set kb o)[kb]? =some o:=by rw[List.getElem?_set_self (by rw[H.len];exact hkl)]
      exact .op o hko ⟨_,rfl⟩ om (λ_=>⟨b,g4,rfl⟩)
     ·cases hy
    ·rename_i e0;have hne:i≠1:=λe1=>e0 e1.symm
     have hcs: [z0,.op kb vb 1,B,z1,z2,z3]= [z0,.nilp,B,z1,z2,z3].set 1 (.op kb vb 1):=rfl;rw[hcs,List.getElem?_set_ne (λe1=>hne e1.symm)]at hc
     exact (g8 i c y hc hy).ext e⟩)
  exact⟨_,_,rfl,u1,.imm (.tup rfl (λi c x hc=>by simp at hc)),u2⟩
 ·obtain⟨o',q1,q2,q3⟩:=quO hA0;rw[g2]at q1;cases q1;obtain⟨b',q4,q5⟩:=q3 g3;rw[g4]at q4;cases q4;rw[q5]at hc0;refine (callsIn_wide.2 (qj0 b 1 w hc0)).mono ?_;rintro e w' ⟨rfl,rfl⟩;rw[jN hk];exact⟨_,σ,rfl,H,.imm (.tup rfl (λi c x hc=>by simp at hc)),Ext.refl w' σ⟩
theorem qgl{kb vb kj v m:Nat}{z0 z1 z2 z3:AV}{h:wh}{s:List UInt8}(lz0:qT h.length z0=true)(lz1:qT h.length z1=true)(lz2:qT h.length z2=true)(lz3:qT h.length z3=true)(hkl:kb<h.length)(hjl:kj<h.length): ∀o∈qr kj (qr kb h (.mem vb 343 [z0,.op kb vb 1,.osl kj v 1 0 m,z1,z2,z3])) (qct v s),o∈h∨lowO h.length o:=by
 intro o ho;rcases jo ho with h1|rfl
 ·rcases jo h1 with h2|rfl
  ·exact .inl h2
  ·right;intro c hc;simp only[List.mem_cons,List.not_mem_nil,or_false]at hc;rcases hc with rfl|rfl|rfl|rfl|rfl|rfl
   ·exact lz0
   ·simpa[qT] using hkl
   ·simpa[qT] using hjl
   ·exact lz1
   ·exact lz2
   ·exact lz3
 ·exact .inr (je v s _)
theorem qFG(kb vb kj v:Nat)(z0 z1 z2 z3:AV)(A:AV)(s:List UInt8)(u:UInt8)(h:wh)(lz0:qT h.length z0=true)(lz1:qT h.length z1=true)(lz2:qT h.length z2=true)(lz3:qT h.length z3=true)(hne:kj≠kb)(hk:qt kb h=some (.mem vb 343 [z0,A,.osl kj v 1 0 s.length,z1,z2,z3]))(hA:A= .nilp∨A= .op kb vb 1)(hj:qt kj h=some (qct v s))(hl:s.length+1<=140737488355328):
  ACalls Tryz.prog 377 [.op kb vb 1,.int .u8 u.toNat] h .nilif (qr kj (qr kb h (.mem vb 343 [z0,.op kb vb 1,.osl kj (v+1) 1 0 (s.length+1),z1,z2,z3])) (qct (v+1) (s++ [u]))):=by
 have hkl:=zK hk;have hjl:=zK hj;have hne':kb≠kj:=λe=>hne e.symm
 have hj0:kj≠h.length:=by omega
 have hj1:kj≠h.length+1:=by omega
 have hk1: ∀l,qt kb (h++l)=some (.mem vb 343 [z0,A,.osl kj v 1 0 s.length,z1,z2,z3]):=λl=>by rw[zH hkl,hk]
 refine acO qyE ?_;simp (disch:=omega) only[qwM,go_sem];refine qz (ccT kb vb z0 z1 z2 z3 A _ _ (hk1 _) hA) ⟨rfl,trivial⟩ ?_
 by_cases hs:s= []
 ·subst hs;rw[qbL]at hj;simp (disch:=omega) only[zI,jt,qN,qdr,qds,qdJ,qdK,zC,jk,ql,qcV,hj,zk,go_sem]
  repeat' first|(with_reducible apply aiA)
  all_goals first
   |omega
   |(rw[bne_iff_ne];exact hj0)
   |(simp;done)
   |skip
  rw[qdh hne',show AObj.mem (v+1) 5 [AV.int IntKind.u8 u.toNat]=qct (v+1) [u]from (qag (s:= [u]) (by simp) _).symm];exact gL ⟨trivial,trivial⟩ (by simp only[qL]) (qgl lz0 lz1 lz2 lz3 hkl hjl) ⟨rfl,rfl⟩ (qi)
 ·rw[qag hs]at hj;simp (disch:=omega) only[zI,jt,qN,qdr,qds,qdJ,qdK,zC,jk,ql,c8,hj,jE,zk,go_sem]
  repeat' first|(with_reducible apply aiA)
  all_goals first
   |omega
   |(rw[bne_iff_ne];exact hj0)
   |(simp[jE];done)
   |skip
  rw[qdh hne',ltl (by simp[jE]),show zM s++ [AV.int IntKind.u8 u.toNat]=zM (s++ [u])from (qcK s [u]).symm,<-qag (s:=s++ [u]) (by simp)];exact gL ⟨trivial,trivial⟩ (by simp only[qL]) (qgl lz0 lz1 lz2 lz3 hkl hjl) ⟨rfl,rfl⟩ (qi)
theorem qFr(kb vb kj v:Nat)(z0 z1 z2 z3:AV)(A:AV)(s:List UInt8)(h:wh)(hne:kj≠kb)(hk:qt kb h=some (.mem vb 343 [z0,A,.osl kj v 1 0 s.length,z1,z2,z3]))(hj:qt kj h=some (qct v s)):
  ACalls Tryz.prog 278 [.op kb vb 1] h (.str s) (qr kj h (.emp (v+1))):=by
 refine⟨qtP Tryz.func278 (by kernel_rfl) (by kernel_rfl),λw σ xs H hv=> ?_⟩;obtain⟨x,rfl,hx⟩:=hv.one;have hc:=qR hk;obtain⟨cs,o,b,arr,g1,rfl,g2,g3,g4,g5,g6,g7,g9,g8⟩:=kE H hx (by rw[hc];rfl);rw[hc]at g1;cases g1;have hty:=(H.obj kb _ o hk g2).2.1;rw[hty]at g5;have g5b:=g5;have g5:=g5.plain (by decide);have hsz:6<=arr.size:=g7;have hc1:w.cell? ⟨b,1+1,none⟩=some arr[1+1]:=by rw[kf g5b];simp
 have hB:=g8 (1+1) _ arr[1+1] rfl (by simp);obtain⟨oj,j1,j2,j3⟩:=qno hB;have hobj:=H.obj kj _ oj hj j1;have hkj:=zK hj
 by_cases hs:s= []
 ·subst hs;rw[qbL]at hj hobj;obtain⟨m1,m2⟩:=hobj;rcases j3 m1 with⟨_,_,_,e⟩|⟨b',cap,e,_⟩
  ·rw[e]at hc1;refine (callsIn_wide.2 (qg3 b 1 w hc1)).mono ?_;rintro e w' ⟨rfl,rfl⟩;obtain⟨u1,u2⟩:=H.update (w':=w.drew) (o':= { oj with blk:=none,ver:=v+1 }) (a':= .emp (v+1)) j1 ⟨rfl,rfl,rfl,nlr _,λ_ _ _=>rfl⟩ (by simp only;omega) (by simp only;omega) (by intro b' e;cases e) (λb' r e hr=>⟨r,hr⟩) (λ_=>⟨rfl,rfl⟩);exact⟨_,_,rfl,u1,.imm .str,u2⟩
  ·rw[m2]at e;cases e
 ·rw[qag hs]at hj hobj;obtain⟨m1,m2,bj,arrj,m3,m4,m5,m6,m7,m8⟩:=hobj;rcases j3 m1 with⟨e,_⟩|⟨b',cap,e1,e2,e3,e4,e5⟩
  ·rw[m3]at e;cases e
  ·rw[m3]at e1;cases e1;rw[e2]at hc1;rw[m2]at m4;have m4b:=m4;have m4:=m4.plain (by decide);rw[jE]at m6;refine (callsIn_wide.2 (qg4 b 1 bj cap s arrj w hs hc1 m4 e3 e4 om (λj x hx=> ?_))).mono ?_
   ·have hjl:j<s.length:=(lgs.1 hx).1;rw[kf m4b];have ea:arrj[j]? =some arrj[j]:=by simp
    have:=m8 j (.int .u8 x.toNat) arrj[j] (by simp[zM,hx]) ea
    rw[ea,zP this]
   ·rintro e w' ⟨rfl,rfl⟩;have hg:w.grownBy (w.drew.freeze ⟨bj,0,none⟩ s.length) oj.blk:=by
     rw[m3];exact qbq w bj s.length
    obtain⟨u1,u2⟩:=H.update (o':= { oj with blk:=none,ver:=v+1 }) (a':= .emp (v+1)) j1 hg (by simp only;omega) (by simp only;omega) (by intro b' e;cases e)
     (λb' r e hr=>by rw[m3]at e;cases e;rw[m4]at hr;cases hr) (λ_=>⟨rfl,rfl⟩)
    exact⟨_,_,rfl,u1,.imm .str,u2⟩
end HY
end
section
open Go Go.Proofs AF HY LN
namespace AF
def tri(h:wh)(a b c:Nat)(X Y Z:AObj):wh:=qr c (qr b (qr a h X) Y) Z
structure T3 (h:wh) (a b c:Nat):Prop where
 la:a<h.length
 lb:b<h.length
 lc:c<h.length
 ab:a≠b
 ac:a≠c
 bc:b≠c
section
variable {h l : wh} {a b c n v : Nat} {X Y Z o : AObj}
theorem T3.app(t:T3 h a b c)(l:wh):T3 (h++l) a b c:=by
 have:=t.la;have:=t.lb;have:=t.lc
 exact⟨by rw[lap];omega,by rw[lap];omega,by rw[lap];omega,t.ab,t.ac,t.bc⟩
theorem tri_len:(tri h a b c X Y Z).length=h.length:=by unfold tri;simp only[qL]
theorem quJ(t:T3 h a b c):tri (h++l) a b c X Y Z=tri h a b c X Y Z++l:=by
 unfold tri;rw[zI t.la,zI (by rw[qL];exact t.lb),zI (by rw[qL,qL];exact t.lc)]
theorem DV(t:T3 h a b c):qt a (tri h a b c X Y Z++l)=some X:=by
 rw[zH (by rw[tri_len];exact t.la)];unfold tri;rw[qN t.ac,qN t.ab,jt t.la]
theorem UR(t:T3 h a b c):qt b (tri h a b c X Y Z++l)=some Y:=by
 rw[zH (by rw[tri_len];exact t.lb)];unfold tri;rw[qN t.bc,jt (by rw[qL];exact t.lb)]
theorem Ux(t:T3 h a b c):qt c (tri h a b c X Y Z++l)=some Z:=by
 rw[zH (by rw[tri_len];exact t.lc)];unfold tri;rw[jt (by rw[qL,qL];exact t.lc)]
theorem US(t:T3 h a b c):qr a (tri h a b c X Y Z++l) o=tri h a b c o Y Z++l:=by
 rw[zI (by rw[tri_len];exact t.la)];unfold tri;rw[kJ t.ac,kJ t.ab,f0]
theorem qab(t:T3 h a b c):qr b (tri h a b c X Y Z++l) o=tri h a b c X o Z++l:=by
 rw[zI (by rw[tri_len];exact t.lb)];unfold tri;rw[kJ t.bc,f0]
theorem qac(t:T3 h a b c):qr c (tri h a b c X Y Z++l) o=tri h a b c X Y o++l:=by
 rw[zI (by rw[tri_len];exact t.lc)];unfold tri;rw[f0]
theorem tri_go:qt (h.length+n) (tri h a b c X Y Z++l)=l[n]? :=by
 have:= @getO_app (tri h a b c X Y Z) l n
 rwa [tri_len]at this
theorem tri_go0:qt h.length (tri h a b c X Y Z++l)=l[0]? :=by
 have:= @getO_app0 (tri h a b c X Y Z) l
 rwa [tri_len]at this
theorem tri_so:qr (h.length+n) (tri h a b c X Y Z++l) o=tri h a b c X Y Z++l.set n o:=by
 have:= @setO_app (tri h a b c X Y Z) l n o
 rwa [tri_len]at this
theorem tri_so0:qr h.length (tri h a b c X Y Z++l) o=tri h a b c X Y Z++l.set 0 o:=by
 have:= @setO_app0 (tri h a b c X Y Z) l o
 rwa [tri_len]at this
theorem tri_co:cellsOf (tri h a b c X Y Z++l) (h.length+n) v=cellsOf l n v:=by unfold cellsOf;rw[tri_go];rfl
theorem tri_co0:cellsOf (tri h a b c X Y Z++l) h.length v=cellsOf l 0 v:=by unfold cellsOf;rw[tri_go0];rfl
theorem tri_to:qy (tri h a b c X Y Z++l) (h.length+n)=qy l n:=by unfold qy;rw[tri_go];rfl
theorem tri_to0:qy (tri h a b c X Y Z++l) h.length=qy l 0:=by unfold qy;rw[tri_go0];rfl
theorem tri_lo:qF (tri h a b c X Y Z++l) (h.length+n) v=qF l n v:=by unfold qF;rw[tri_go];rfl
theorem qaQ(t:T3 h a b c):cellsOf (tri h a b c X Y Z++l) a v=qw (some X) v:=by rw[zC,DV t]
theorem qaR(t:T3 h a b c):cellsOf (tri h a b c X Y Z++l) b v=qw (some Y) v:=by rw[zC,UR t]
theorem qaS(t:T3 h a b c):cellsOf (tri h a b c X Y Z++l) c v=qw (some Z) v:=by rw[zC,Ux t]
theorem qaT(t:T3 h a b c):qF (tri h a b c X Y Z++l) a v=qH (some X) v:=by rw[jk,DV t]
theorem qaU(t:T3 h a b c):qF (tri h a b c X Y Z++l) b v=qH (some Y) v:=by rw[jk,UR t]
theorem qaV(t:T3 h a b c):qF (tri h a b c X Y Z++l) c v=qH (some Z) v:=by rw[jk,Ux t]
theorem quL(t:T3 h a b c){X' Y' Z':AObj}:tri (tri h a b c X Y Z) a b c X' Y' Z'=tri h a b c X' Y' Z':=by
 have e1:=US (X:=X) (Y:=Y) (Z:=Z) (l:= []) (o:=X') t;have e2:=qab (X:=X') (Y:=Y) (Z:=Z) (l:= []) (o:=Y') t;have e3:=qac (X:=X') (Y:=Y') (Z:=Z) (l:= []) (o:=Z') t;simp only[lan]at e1 e2 e3
 conv=>lhs;unfold tri
 rw[show qr c (qr b (qr a h X) Y) Z=tri h a b c X Y Z from rfl,e1,e2,e3]
theorem jO(t:T3 h a b c){X' Y' Z':AObj}(hx:lowO h.length X')(hy:lowO h.length Y')(hz:lowO h.length Z'): ∀o∈tri h a b c X' Y' Z',o∈tri h a b c X Y Z∨lowO (tri h a b c X Y Z).length o:=by
 intro o ho;rw[tri_len];rw[<-quL (X:=X) (Y:=Y) (Z:=Z) t]at ho;unfold tri at ho;rcases jo ho with h1|rfl
 ·rcases jo h1 with h1|rfl
  ·rcases jo h1 with h1|rfl
   ·exact .inl h1
   ·exact .inr hx
  ·exact .inr hy
 ·exact .inr hz
end
attribute [go_sem] tri_len tri_go tri_go0 tri_so tri_so0 tri_co tri_co0 tri_to tri_to0 tri_lo
theorem ACalls.wk{P:Program}{f:FuncId}{args:wj}{h h' h'':wh}{r:AV}(hc:ACalls P f args h r h')(hw:Wk [] h' [] h''):ACalls P f args h r h'':=by
 refine⟨hc.1,λw σ xs H hv=>(hc.2 w σ xs H hv).mono ?_⟩;rintro e w' ⟨v,σ',rfl,g1,g2,g3⟩;obtain⟨σ2,s1,s2⟩:=hw w'.heap.size w' σ' { tmps:= #[],defers:= [] } ⟨g1,rfl,λi c x hc=>(by simp at hc),⟨[],rfl,.nil,nlr _,λr hr=>(by cases hr)⟩⟩;exact⟨v,σ2,rfl,s1.hr,g2.ext s2,g3.trans s2⟩
end AF
namespace RC
def zW(L:List Tk):wj:=L.flatMap tkC
theorem qf2(t:Tk):(tkC t).length=6:=rfl
theorem jz(L:List Tk):(zW L).length=L.length*6:=by
 unfold zW
 induction L with
 |nil=>rfl
 |cons a L ih=>rw[List.flatMap_cons,lap,ih,lco,qf2];omega
theorem UY(A B:List Tk):zW (A++B)=zW A++zW B:=by simp[zW]
theorem qaO(a:Tk):zW [a]=tkC a:=by simp[zW]
theorem qmP(L:List Tk): ∀i,(zW L).take (i*6)=zW (L.take i):=by
 induction L with
 |nil=>intro i;simp[zW]
 |cons a L ih=>
  intro i;cases i with
  |zero=>simp[zW]
  |succ i=>
   rw[show zW (a::L)=tkC a++zW L from rfl,show (a::L).take (i+1)=a::L.take i from rfl,show zW (a::L.take i)=tkC a++zW (L.take i)from rfl,<-ih i];rw[show (i+1)*6=(tkC a).length+i*6 by rw[qf2];omega,List.take_append,ltl om,Nat.add_sub_cancel_left]
theorem qeW(L:List Tk): ∀i,(zW L).drop (i*6)=zW (L.drop i):=by
 induction L with
 |nil=>intro i;simp[zW]
 |cons a L ih=>
  intro i;cases i with
  |zero=>simp
  |succ i=>
   rw[show zW (a::L)=tkC a++zW L from rfl,show (a::L).drop (i+1)=L.drop i from rfl,<-ih i];rw[show (i+1)*6=(tkC a).length+i*6 by rw[qf2];omega,List.drop_append,List.drop_eq_nil_of_le om,lna,Nat.add_sub_cancel_left]
theorem qaN{L:List Tk}{i:Nat}(hi:i<L.length):((zW L).drop (i*6)).take 6=tkC (L.getD i default):=by
 rw[qeW,List.drop_eq_getElem_cons hi,gdqA,zz hi];rfl
theorem qg5{L:List Tk}{i:Nat}(e:Tk)(hi:i<L.length):(zW L).take (i*6)++(tkC e++(zW L).drop (i*6+6))=zW (L.set i e):=by
 rw[List.set_eq_take_append_cons_drop,ipo hi,show i*6+6=(i+1)*6 by omega,qmP,qeW,UY];rw[show e::List.drop (i+1) L= [e]++List.drop (i+1) L from rfl,UY,qaO]
theorem qdT{L:List Tk}{i k:Nat}(hi:i<L.length)(hk:k<6):(zW L)[i*6+k]? =(tkC (L.getD i default))[k]? :=by
 rw[<-qaN hi,List.getElem?_take,ipo hk,List.getElem?_drop]
theorem kr(L:List Tk)(n:Nat): ∀c∈zW L,qT n c=true:=by
 intro c hc;unfold zW at hc;obtain⟨x,_,hx⟩:=List.mem_flatMap.1 hc;unfold tkC at hx;simp only[List.mem_cons,List.not_mem_nil,or_false]at hx;rcases hx with rfl|rfl|rfl|rfl|rfl|rfl<;>rfl
structure Br where
 out:List Tk
 word:Str
 opn:Bool
 jn:Bool
 vo:Nat
 vw:Nat
 ad:Bool
def brX(a b c va:Nat)(q:Br):AObj:= .mem va 343 [.osl b q.vo 6 0 q.out.length,if q.ad=true then .op a va 1 else .nilp,.osl c q.vw 1 0 q.word.length,.bool q.opn,.bool q.jn,.bool false]
def brY(q:Br):AObj:=zg q.vo 119 (zW q.out)
def brO(h:wh)(a b c va:Nat)(q:Br):wh:=tri h a b c (brX a b c va q) (brY q) (qct q.vw q.word)
def qam(L:List Tk)(w:Str):List Tk:=L.set (L.length-1) ⟨w,(L.getD (L.length-1) default).norm,(L.getD (L.length-1) default).page,(L.getD (L.length-1) default).line,(L.getD (L.length-1) default).flags,(L.getD (L.length-1) default).name⟩
def Br.nd(q:Br):Br:=if q.opn=true then ⟨qam q.out q.word,[],false,q.jn,q.vo,q.vw+1,false⟩ else ⟨q.out,[],false,q.jn,q.vo,q.vw,false⟩
def Br.st(q:Br)(f:Int):Br:=⟨q.out++ [tkF (f+jfl q.jn q.out.length) []],q.word,q.opn,true,q.vo+1,q.vw,q.ad⟩
def Br.wb(q:Br)(c:UInt8):Br:=⟨q.out,q.word++ [c],q.opn,q.jn,q.vo,q.vw+1,true⟩
def Br.op(q:Br):Br:=⟨q.out,q.word,true,q.jn,q.vo,q.vw,q.ad⟩
def Br.sp(q:Br):Br:=⟨q.out,q.word,q.opn,false,q.vo,q.vw,q.ad⟩
def Br.tx(q:Br)(w:Str):Br:=⟨qam q.out w,q.word,q.opn,q.jn,q.vo,q.vw,q.ad⟩
def Br.pt(q:Br)(c:UInt8):Br:=if q.opn=true∧kY c=true then q.wb c else if bgn c=true then ((q.st 0).op).wb c else if kind c=6 then q.nd.sp else (q.nd.st 8).tx [c]
theorem jR{h:wh}{a b c:Nat}(t:T3 h a b c)(va:Nat)(q:Br):lowO h.length (brX a b c va q):=by
 intro x hx
 have:=t.la;have:=t.lb;have:=t.lc
 simp only[List.mem_cons,List.not_mem_nil,or_false]at hx;rcases hx with rfl|rfl|rfl|rfl|rfl|rfl
 ·simp[qT];assumption
 ·split
  ·simp[qT];assumption
  ·rfl
 ·simp[qT];assumption
 ·rfl
 ·rfl
 ·rfl
theorem gz(q:Br)(n:Nat):lowO n (brY q):=jy (kr q.out n)
theorem qdi{h:wh}{a b c va:Nat}{q:Br}:(brO h a b c va q).length=h.length:=tri_len
end RC
end
section
open Go Go.Proofs AF HY LN
namespace AF
theorem qcl{v:Nat}{ty:TypeId}{cs:wj}:qiO (some (zg v ty cs)) ty=true:=by
 unfold zg;split<;>simp[qiO]
end AF
namespace RC
section
variable {h : wh} {a b c va : Nat}
theorem qcI{q:Br}(hn:0<q.out.length):brY q= .mem q.vo 119 (zW q.out):=by
 unfold brY zg;rw[ine];intro e
 have:=congrArg List.length e
 rw[jz,lnl]at this;omega
theorem qr5(t:T3 h a b c)(q:Br)(hn:0<q.out.length)(hm:q.out.length<=1000000):ACalls Tryz.prog 346 [.op a va 0] (brO h a b c va q) (.op b q.vo ((q.out.length-1)*6)) (brO h a b c va q):=by
 have ta:=t.la;have tb:=t.lb;have tc:=t.lc;have zga: ∀ {X Y Z l},qt (a) (tri h a b c X Y Z++l)=some X:=DV (t);have yga: ∀ {X Y Z},qt (a) (tri h a b c X Y Z)=some X:=λ{X Y Z}=>by have:=zga (X:=X) (Y:=Y) (Z:=Z) (l:= []);simpa only[lan] using this
 have zgb: ∀ {X Y Z l},qt (b) (tri h a b c X Y Z++l)=some Y:=UR (t);have ygb: ∀ {X Y Z},qt (b) (tri h a b c X Y Z)=some Y:=λ{X Y Z}=>by have:=zgb (X:=X) (Y:=Y) (Z:=Z) (l:= []);simpa only[lan] using this
 have zgc: ∀ {X Y Z l},qt (c) (tri h a b c X Y Z++l)=some Z:=Ux (t);have ygc: ∀ {X Y Z},qt (c) (tri h a b c X Y Z)=some Z:=λ{X Y Z}=>by have:=zgc (X:=X) (Y:=Y) (Z:=Z) (l:= []);simpa only[lan] using this
 have zsa: ∀ {X Y Z o l},qr (a) (tri h a b c X Y Z++l) o=tri h a b c o Y Z++l:=US (t);have ysa: ∀ {X Y Z o},qr (a) (tri h a b c X Y Z) o=tri h a b c o Y Z:=λ{X Y Z o}=>by have:=zsa (X:=X) (Y:=Y) (Z:=Z) (o:=o) (l:= []);simpa only[lan] using this
 have zsb: ∀ {X Y Z o l},qr (b) (tri h a b c X Y Z++l) o=tri h a b c X o Z++l:=qab (t);have ysb: ∀ {X Y Z o},qr (b) (tri h a b c X Y Z) o=tri h a b c X o Z:=λ{X Y Z o}=>by have:=zsb (X:=X) (Y:=Y) (Z:=Z) (o:=o) (l:= []);simpa only[lan] using this
 have zsc: ∀ {X Y Z o l},qr (c) (tri h a b c X Y Z++l) o=tri h a b c X Y o++l:=qac (t);have ysc: ∀ {X Y Z o},qr (c) (tri h a b c X Y Z) o=tri h a b c X Y o:=λ{X Y Z o}=>by have:=zsc (X:=X) (Y:=Y) (Z:=Z) (o:=o) (l:= []);simpa only[lan] using this
 have zca: ∀ {X Y Z v l},cellsOf (tri h a b c X Y Z++l) (a) v=qw (some X) v:=qaQ (t);have yca: ∀ {X Y Z v},cellsOf (tri h a b c X Y Z) (a) v=qw (some X) v:=λ{X Y Z v}=>by have:=zca (X:=X) (Y:=Y) (Z:=Z) (v:=v) (l:= []);simpa only[lan] using this
 have zcb: ∀ {X Y Z v l},cellsOf (tri h a b c X Y Z++l) (b) v=qw (some Y) v:=qaR (t);have ycb: ∀ {X Y Z v},cellsOf (tri h a b c X Y Z) (b) v=qw (some Y) v:=λ{X Y Z v}=>by have:=zcb (X:=X) (Y:=Y) (Z:=Z) (v:=v) (l:= []);simpa only[lan] using this
 have zcc: ∀ {X Y Z v l},cellsOf (tri h a b c X Y Z++l) (c) v=qw (some Z) v:=qaS (t);have ycc: ∀ {X Y Z v},cellsOf (tri h a b c X Y Z) (c) v=qw (some Z) v:=λ{X Y Z v}=>by have:=zcc (X:=X) (Y:=Y) (Z:=Z) (v:=v) (l:= []);simpa only[lan] using this
 have zla: ∀ {X Y Z v l},qF (tri h a b c X Y Z++l) (a) v=qH (some X) v:=qaT (t);have yla: ∀ {X Y Z v},qF (tri h a b c X Y Z) (a) v=qH (some X) v:=λ{X Y Z v}=>by have:=zla (X:=X) (Y:=Y) (Z:=Z) (v:=v) (l:= []);simpa only[lan] using this
 have zlb: ∀ {X Y Z v l},qF (tri h a b c X Y Z++l) (b) v=qH (some Y) v:=qaU (t);have ylb: ∀ {X Y Z v},qF (tri h a b c X Y Z) (b) v=qH (some Y) v:=λ{X Y Z v}=>by have:=zlb (X:=X) (Y:=Y) (Z:=Z) (v:=v) (l:= []);simpa only[lan] using this
 have zlc: ∀ {X Y Z v l},qF (tri h a b c X Y Z++l) (c) v=qH (some Z) v:=qaV (t);have ylc: ∀ {X Y Z v},qF (tri h a b c X Y Z) (c) v=qH (some Z) v:=λ{X Y Z v}=>by have:=zlc (X:=X) (Y:=Y) (Z:=Z) (v:=v) (l:= []);simpa only[lan] using this
 have e1:((q.out.length:Int)-1).toNat=q.out.length-1:=by omega
 have k1:(0<=(q.out.length:Int)-1)=True:=wl;have k2:((q.out.length:Int)-1<q.out.length)=True:=wl;unfold brO;rw[qcI hn];unfold brX;refine acO qyy ?_;simp (disch:=omega) only[qwG,yca,ycb,ylb,ql,c8,e1,k1,k2,go_sem]
 repeat' first|(apply qh;exact rvk;simp only[go_sem])
 rw[ine om];exact qi
theorem Wk.triNil{t:wj}{X Z:AObj}{Y:AObj}{v i ve sz:Nat}{ty:TypeId}{cs:wj}(T:T3 h a b c)(hX:X= .mem v ty cs)(hi:cs[i]? =some .nl)(hZ:Z= .emp ve):
  Wk t (tri h a b c X Y Z) t (tri h a b c (.mem v ty (cs.set i (.osl c ve sz 0 0))) Y Z):=by
 subst hX;subst hZ;have e:=US (X:= .mem v ty cs) (Y:=Y) (Z:= .emp ve) (l:= []) (o:= .mem v ty (cs.set i (.osl c ve sz 0 0))) T;simp only[lan]at e;rw[<-e];refine Wk.ownNil (j:=a) (k:=c) ?_ hi ?_
 ·have:=DV (X:= .mem v ty cs) (Y:=Y) (Z:= .emp ve) (l:= []) T
  simpa only[lan] using this
 ·have:=Ux (X:= .mem v ty cs) (Y:=Y) (Z:= .emp ve) (l:= []) T
  simpa only[lan] using this
theorem qvA(t:T3 h a b c)(X0 X1 X2 X3 X4 X5:AV)(Y:AObj)(v:Nat)(l0:qT h.length X0=true)(l3:qT h.length X3=true)(l4:qT h.length X4=true)(l5:qT h.length X5=true)(ly:lowO h.length Y):
  ACalls Tryz.prog 347 [.op a va 1] (tri h a b c (.mem va 343 [X0,X1,X2,X3,X4,X5]) Y (.emp v)) (.tup []) (tri h a b c (.mem va 343 [X0,.nilp,.osl c v 1 0 0,X3,X4,X5]) Y (.emp v)):=by
 have ta:=t.la;have tb:=t.lb;have tc:=t.lc;refine ACalls.wk (h':=tri h a b c (.mem va 343 [X0,.nilp,.nl,X3,X4,X5]) Y (.emp v)) ?_ (Wk.triNil (v:=va) (ty:=343) (cs:= [X0,.nilp,.nl,X3,X4,X5]) (i:=2) (sz:=1) t rfl rfl rfl);have zga: ∀ {X Y Z l},qt (a) (tri h a b c X Y Z++l)=some X:=DV (t);have yga: ∀ {X Y Z},qt (a) (tri h a b c X Y Z)=some X:=λ{X Y Z}=>by have:=zga (X:=X) (Y:=Y) (Z:=Z) (l:= []);simpa only[lan] using this
 have zgb: ∀ {X Y Z l},qt (b) (tri h a b c X Y Z++l)=some Y:=UR (t);have ygb: ∀ {X Y Z},qt (b) (tri h a b c X Y Z)=some Y:=λ{X Y Z}=>by have:=zgb (X:=X) (Y:=Y) (Z:=Z) (l:= []);simpa only[lan] using this
 have zgc: ∀ {X Y Z l},qt (c) (tri h a b c X Y Z++l)=some Z:=Ux (t);have ygc: ∀ {X Y Z},qt (c) (tri h a b c X Y Z)=some Z:=λ{X Y Z}=>by have:=zgc (X:=X) (Y:=Y) (Z:=Z) (l:= []);simpa only[lan] using this
 have zsa: ∀ {X Y Z o l},qr (a) (tri h a b c X Y Z++l) o=tri h a b c o Y Z++l:=US (t);have ysa: ∀ {X Y Z o},qr (a) (tri h a b c X Y Z) o=tri h a b c o Y Z:=λ{X Y Z o}=>by have:=zsa (X:=X) (Y:=Y) (Z:=Z) (o:=o) (l:= []);simpa only[lan] using this
 have zsb: ∀ {X Y Z o l},qr (b) (tri h a b c X Y Z++l) o=tri h a b c X o Z++l:=qab (t);have ysb: ∀ {X Y Z o},qr (b) (tri h a b c X Y Z) o=tri h a b c X o Z:=λ{X Y Z o}=>by have:=zsb (X:=X) (Y:=Y) (Z:=Z) (o:=o) (l:= []);simpa only[lan] using this
 have zsc: ∀ {X Y Z o l},qr (c) (tri h a b c X Y Z++l) o=tri h a b c X Y o++l:=qac (t);have ysc: ∀ {X Y Z o},qr (c) (tri h a b c X Y Z) o=tri h a b c X Y o:=λ{X Y Z o}=>by have:=zsc (X:=X) (Y:=Y) (Z:=Z) (o:=o) (l:= []);simpa only[lan] using this
 have zca: ∀ {X Y Z v l},cellsOf (tri h a b c X Y Z++l) (a) v=qw (some X) v:=qaQ (t);have yca: ∀ {X Y Z v},cellsOf (tri h a b c X Y Z) (a) v=qw (some X) v:=λ{X Y Z v}=>by have:=zca (X:=X) (Y:=Y) (Z:=Z) (v:=v) (l:= []);simpa only[lan] using this
 have zcb: ∀ {X Y Z v l},cellsOf (tri h a b c X Y Z++l) (b) v=qw (some Y) v:=qaR (t);have ycb: ∀ {X Y Z v},cellsOf (tri h a b c X Y Z) (b) v=qw (some Y) v:=λ{X Y Z v}=>by have:=zcb (X:=X) (Y:=Y) (Z:=Z) (v:=v) (l:= []);simpa only[lan] using this
 have zcc: ∀ {X Y Z v l},cellsOf (tri h a b c X Y Z++l) (c) v=qw (some Z) v:=qaS (t);have ycc: ∀ {X Y Z v},cellsOf (tri h a b c X Y Z) (c) v=qw (some Z) v:=λ{X Y Z v}=>by have:=zcc (X:=X) (Y:=Y) (Z:=Z) (v:=v) (l:= []);simpa only[lan] using this
 have zla: ∀ {X Y Z v l},qF (tri h a b c X Y Z++l) (a) v=qH (some X) v:=qaT (t);have yla: ∀ {X Y Z v},qF (tri h a b c X Y Z) (a) v=qH (some X) v:=λ{X Y Z v}=>by have:=zla (X:=X) (Y:=Y) (Z:=Z) (v:=v) (l:= []);simpa only[lan] using this
 have zlb: ∀ {X Y Z v l},qF (tri h a b c X Y Z++l) (b) v=qH (some Y) v:=qaU (t);have ylb: ∀ {X Y Z v},qF (tri h a b c X Y Z) (b) v=qH (some Y) v:=λ{X Y Z v}=>by have:=zlb (X:=X) (Y:=Y) (Z:=Z) (v:=v) (l:= []);simpa only[lan] using this
 have zlc: ∀ {X Y Z v l},qF (tri h a b c X Y Z++l) (c) v=qH (some Z) v:=qaV (t);have ylc: ∀ {X Y Z v},qF (tri h a b c X Y Z) (c) v=qH (some Z) v:=λ{X Y Z v}=>by have:=zlc (X:=X) (Y:=Y) (Z:=Z) (v:=v) (l:= []);simpa only[lan] using this
 refine acO qyz ?_;simp (disch:=omega) only[qwH,yga,ysa,yca,ql,go_sem];refine jG trivial (by simp only[tri_len]) (jO t (λx hx=> ?_) ly trivial) ⟨rfl,rfl⟩ (qi);simp only[List.mem_cons,List.not_mem_nil,or_false]at hx;rcases hx with rfl|rfl|rfl|rfl|rfl|rfl
 ·exact l0
 ·rfl
 ·rfl
 ·exact l3
 ·exact l4
 ·exact l5
theorem qmQ{L:List Tk}(w:Str)(hn:0<L.length):(zW L).take ((L.length-1)*6)++([AV.str w]++(zW L).drop ((L.length-1)*6+1))=zW (qam L w):=by
 unfold qam;rw[<-qg5 _ om];refine congrArg _ ?_;have e:(zW L).drop ((L.length-1)*6+1)=(tkC (L.getD (L.length-1) default)).drop 1++(zW L).drop ((L.length-1)*6+6):=by
  rw[<-qaN (L:=L) (i:=L.length-1) om];have e2:(zW L).drop ((L.length-1)*6)=((zW L).drop ((L.length-1)*6)).take 6++((zW L).drop ((L.length-1)*6)).drop 6:=(List.take_append_drop _ _).symm;have hl:=jz L;have hl2:((zW L).drop ((L.length-1)*6)).length=L.length*6-(L.length-1)*6:=by rw[List.length_drop,hl]
  rw[<-List.drop_drop,<-List.drop_drop (i:=6),<-List.drop_append_of_le_length (by rw[List.length_take];omega),List.take_append_drop]
 rw[e];rfl
theorem UP(L:List Tk)(w:Str):(qam L w).length=L.length:=by unfold qam;rw[List.length_set]
theorem qr4(t:T3 h a b c)(q:Br)(ho:q.opn=true->0<q.out.length)(hw:q.opn=false->q.word= [])(hm:q.out.length<=1000000)(hl:q.word.length<=1000000):ACalls Tryz.prog 288 [.op a va 0] (brO h a b c va q) (.tup []) (brO h a b c va q.nd):=by
 have ta:=t.la;have tb:=t.lb;have tc:=t.lc;have zga: ∀ {X Y Z l},qt (a) (tri h a b c X Y Z++l)=some X:=DV (t);have yga: ∀ {X Y Z},qt (a) (tri h a b c X Y Z)=some X:=λ{X Y Z}=>by have:=zga (X:=X) (Y:=Y) (Z:=Z) (l:= []);simpa only[lan] using this
 have zgb: ∀ {X Y Z l},qt (b) (tri h a b c X Y Z++l)=some Y:=UR (t);have ygb: ∀ {X Y Z},qt (b) (tri h a b c X Y Z)=some Y:=λ{X Y Z}=>by have:=zgb (X:=X) (Y:=Y) (Z:=Z) (l:= []);simpa only[lan] using this
 have zgc: ∀ {X Y Z l},qt (c) (tri h a b c X Y Z++l)=some Z:=Ux (t);have ygc: ∀ {X Y Z},qt (c) (tri h a b c X Y Z)=some Z:=λ{X Y Z}=>by have:=zgc (X:=X) (Y:=Y) (Z:=Z) (l:= []);simpa only[lan] using this
 have zsa: ∀ {X Y Z o l},qr (a) (tri h a b c X Y Z++l) o=tri h a b c o Y Z++l:=US (t);have ysa: ∀ {X Y Z o},qr (a) (tri h a b c X Y Z) o=tri h a b c o Y Z:=λ{X Y Z o}=>by have:=zsa (X:=X) (Y:=Y) (Z:=Z) (o:=o) (l:= []);simpa only[lan] using this
 have zsb: ∀ {X Y Z o l},qr (b) (tri h a b c X Y Z++l) o=tri h a b c X o Z++l:=qab (t);have ysb: ∀ {X Y Z o},qr (b) (tri h a b c X Y Z) o=tri h a b c X o Z:=λ{X Y Z o}=>by have:=zsb (X:=X) (Y:=Y) (Z:=Z) (o:=o) (l:= []);simpa only[lan] using this
 have zsc: ∀ {X Y Z o l},qr (c) (tri h a b c X Y Z++l) o=tri h a b c X Y o++l:=qac (t);have ysc: ∀ {X Y Z o},qr (c) (tri h a b c X Y Z) o=tri h a b c X Y o:=λ{X Y Z o}=>by have:=zsc (X:=X) (Y:=Y) (Z:=Z) (o:=o) (l:= []);simpa only[lan] using this
 have zca: ∀ {X Y Z v l},cellsOf (tri h a b c X Y Z++l) (a) v=qw (some X) v:=qaQ (t);have yca: ∀ {X Y Z v},cellsOf (tri h a b c X Y Z) (a) v=qw (some X) v:=λ{X Y Z v}=>by have:=zca (X:=X) (Y:=Y) (Z:=Z) (v:=v) (l:= []);simpa only[lan] using this
 have zcb: ∀ {X Y Z v l},cellsOf (tri h a b c X Y Z++l) (b) v=qw (some Y) v:=qaR (t);have ycb: ∀ {X Y Z v},cellsOf (tri h a b c X Y Z) (b) v=qw (some Y) v:=λ{X Y Z v}=>by have:=zcb (X:=X) (Y:=Y) (Z:=Z) (v:=v) (l:= []);simpa only[lan] using this
 have zcc: ∀ {X Y Z v l},cellsOf (tri h a b c X Y Z++l) (c) v=qw (some Z) v:=qaS (t);have ycc: ∀ {X Y Z v},cellsOf (tri h a b c X Y Z) (c) v=qw (some Z) v:=λ{X Y Z v}=>by have:=zcc (X:=X) (Y:=Y) (Z:=Z) (v:=v) (l:= []);simpa only[lan] using this
 have zla: ∀ {X Y Z v l},qF (tri h a b c X Y Z++l) (a) v=qH (some X) v:=qaT (t);have yla: ∀ {X Y Z v},qF (tri h a b c X Y Z) (a) v=qH (some X) v:=λ{X Y Z v}=>by have:=zla (X:=X) (Y:=Y) (Z:=Z) (v:=v) (l:= []);simpa only[lan] using this
 have zlb: ∀ {X Y Z v l},qF (tri h a b c X Y Z++l) (b) v=qH (some Y) v:=qaU (t);have ylb: ∀ {X Y Z v},qF (tri h a b c X Y Z) (b) v=qH (some Y) v:=λ{X Y Z v}=>by have:=zlb (X:=X) (Y:=Y) (Z:=Z) (v:=v) (l:= []);simpa only[lan] using this
 have zlc: ∀ {X Y Z v l},qF (tri h a b c X Y Z++l) (c) v=qH (some Z) v:=qaV (t);have ylc: ∀ {X Y Z v},qF (tri h a b c X Y Z) (c) v=qH (some Z) v:=λ{X Y Z v}=>by have:=zlc (X:=X) (Y:=Y) (Z:=Z) (v:=v) (l:= []);simpa only[lan] using this
 cases hq:q.opn with
 |false=>
  have e1:q.nd=⟨q.out,[],false,q.jn,q.vo,q.vw,false⟩:=by unfold Br.nd;rw[hq];rfl
  rw[e1];have c1:=qvA (va:=va) t (.osl b q.vo 6 0 q.out.length) (if q.ad=true then .op a va 1 else .nilp) (.osl c q.vw 1 0 q.word.length) (.bool false) (.bool q.jn) (.bool false) (brY q) q.vw (by simp[qT];omega) rfl rfl rfl (gz q _);have hz:qct q.vw q.word= .emp q.vw:=by rw[hw hq];rfl
  unfold brO brX;rw[hz,hq];refine acO qrj ?_;simp (disch:=omega) only[qsj,yga,ysa,yca,ql,go_sem];refine qz c1 (by exact flk) ?_;simp (disch:=omega) only[go_sem];exact jG trivial (by simp only[tri_len]) (jO t (jR t va ⟨q.out,[],false,q.jn,q.vo,q.vw,false⟩) (gz q _) trivial) ⟨rfl,rfl⟩ (qi)
 |true=>
  have e1:q.nd=⟨qam q.out q.word,[],false,q.jn,q.vo,q.vw+1,false⟩:=by unfold Br.nd;rw[hq];rfl
  rw[e1];have c1:=qr5 (va:=va) t q (ho hq) hm;have hn:=ho hq;unfold brO at c1 ⊢;rw[qcI hn]at c1 ⊢;rw[qcI (q:=⟨qam q.out q.word,[],false,q.jn,q.vo,q.vw+1,false⟩) (by simp only[UP];exact hn)];unfold brX at c1 ⊢;rw[hq]at c1 ⊢;refine acO qrj ?_;simp (disch:=omega) only[qsj,yga,ysa,yca,ql,go_sem]
  repeat' first|(refine cA (c1) flk ?_;simp (disch:=omega) only[yca,ql,go_sem])
  refine qz (qFr a va c q.vw (.osl b q.vo 6 0 q.out.length) (.bool true) (.bool q.jn) (.bool false) (if q.ad=true then .op a va 1 else .nilp) q.word _ (λe=>t.ac e.symm) yga ygc) (by exact flk) ?_;have hL:=jz q.out;have k3:((q.out.length-1)*6+1<=q.out.length*6)=True:=wl;have hX:=qmQ (L:=q.out) q.word hn;have c2:=qvA (va:=va) t (.osl b q.vo 6 0 q.out.length) (if q.ad=true then .op a va 1 else .nilp) (.osl c q.vw 1 0 q.word.length) (.bool false) (.bool q.jn) (.bool false) (.mem q.vo 119 (zW (qam q.out q.word))) (q.vw+1) (by simp[qT];omega) rfl rfl rfl (kr _ _);simp (disch:=omega) only[yga,ygb,ysa,ysb,ysc,yca,ycb,ql,hL,k3,go_sem];rw[List.append_assoc,hX];refine qz c2 (by exact flk) ?_;simp (disch:=omega) only[go_sem];have eL:=UP q.out q.word;simp only[eL];exact jG trivial (by simp only[tri_len]) (jO t (by have:=jR t va ⟨q.out,[],false,q.jn,q.vo,q.vw+1,false⟩;exact this) (kr _ _) trivial) ⟨rfl,rfl⟩ (qi)
end
end RC
end
section
open Go Go.Proofs AF HY LN
namespace RC
section
variable {h : wh} {a b c va : Nat}
theorem qvB(t:T3 h a b c)(q:Br)(f:Int)(x:UInt8)(hf:f=0∨f=8)(hm:q.out.length<=1000000):ACalls Tryz.prog 345 [.op a va 0,.agg (atC 1 x),.int .i64 f] (brO h a b c va q) (.tup []) (brO h a b c va (q.st f)):=by
 have ta:=t.la;have tb:=t.lb;have tc:=t.lc;have zga: ∀ {X Y Z l},qt (a) (tri h a b c X Y Z++l)=some X:=DV (t);have yga: ∀ {X Y Z},qt (a) (tri h a b c X Y Z)=some X:=λ{X Y Z}=>by have:=zga (X:=X) (Y:=Y) (Z:=Z) (l:= []);simpa only[lan] using this
 have zgb: ∀ {X Y Z l},qt (b) (tri h a b c X Y Z++l)=some Y:=UR (t);have ygb: ∀ {X Y Z},qt (b) (tri h a b c X Y Z)=some Y:=λ{X Y Z}=>by have:=zgb (X:=X) (Y:=Y) (Z:=Z) (l:= []);simpa only[lan] using this
 have zgc: ∀ {X Y Z l},qt (c) (tri h a b c X Y Z++l)=some Z:=Ux (t);have ygc: ∀ {X Y Z},qt (c) (tri h a b c X Y Z)=some Z:=λ{X Y Z}=>by have:=zgc (X:=X) (Y:=Y) (Z:=Z) (l:= []);simpa only[lan] using this
 have zsa: ∀ {X Y Z o l},qr (a) (tri h a b c X Y Z++l) o=tri h a b c o Y Z++l:=US (t);have ysa: ∀ {X Y Z o},qr (a) (tri h a b c X Y Z) o=tri h a b c o Y Z:=λ{X Y Z o}=>by have:=zsa (X:=X) (Y:=Y) (Z:=Z) (o:=o) (l:= []);simpa only[lan] using this
 have zsb: ∀ {X Y Z o l},qr (b) (tri h a b c X Y Z++l) o=tri h a b c X o Z++l:=qab (t);have ysb: ∀ {X Y Z o},qr (b) (tri h a b c X Y Z) o=tri h a b c X o Z:=λ{X Y Z o}=>by have:=zsb (X:=X) (Y:=Y) (Z:=Z) (o:=o) (l:= []);simpa only[lan] using this
 have zsc: ∀ {X Y Z o l},qr (c) (tri h a b c X Y Z++l) o=tri h a b c X Y o++l:=qac (t);have ysc: ∀ {X Y Z o},qr (c) (tri h a b c X Y Z) o=tri h a b c X Y o:=λ{X Y Z o}=>by have:=zsc (X:=X) (Y:=Y) (Z:=Z) (o:=o) (l:= []);simpa only[lan] using this
 have zca: ∀ {X Y Z v l},cellsOf (tri h a b c X Y Z++l) (a) v=qw (some X) v:=qaQ (t);have yca: ∀ {X Y Z v},cellsOf (tri h a b c X Y Z) (a) v=qw (some X) v:=λ{X Y Z v}=>by have:=zca (X:=X) (Y:=Y) (Z:=Z) (v:=v) (l:= []);simpa only[lan] using this
 have zcb: ∀ {X Y Z v l},cellsOf (tri h a b c X Y Z++l) (b) v=qw (some Y) v:=qaR (t);have ycb: ∀ {X Y Z v},cellsOf (tri h a b c X Y Z) (b) v=qw (some Y) v:=λ{X Y Z v}=>by have:=zcb (X:=X) (Y:=Y) (Z:=Z) (v:=v) (l:= []);simpa only[lan] using this
 have zcc: ∀ {X Y Z v l},cellsOf (tri h a b c X Y Z++l) (c) v=qw (some Z) v:=qaS (t);have ycc: ∀ {X Y Z v},cellsOf (tri h a b c X Y Z) (c) v=qw (some Z) v:=λ{X Y Z v}=>by have:=zcc (X:=X) (Y:=Y) (Z:=Z) (v:=v) (l:= []);simpa only[lan] using this
 have zla: ∀ {X Y Z v l},qF (tri h a b c X Y Z++l) (a) v=qH (some X) v:=qaT (t);have yla: ∀ {X Y Z v},qF (tri h a b c X Y Z) (a) v=qH (some X) v:=λ{X Y Z v}=>by have:=zla (X:=X) (Y:=Y) (Z:=Z) (v:=v) (l:= []);simpa only[lan] using this
 have zlb: ∀ {X Y Z v l},qF (tri h a b c X Y Z++l) (b) v=qH (some Y) v:=qaU (t);have ylb: ∀ {X Y Z v},qF (tri h a b c X Y Z) (b) v=qH (some Y) v:=λ{X Y Z v}=>by have:=zlb (X:=X) (Y:=Y) (Z:=Z) (v:=v) (l:= []);simpa only[lan] using this
 have zlc: ∀ {X Y Z v l},qF (tri h a b c X Y Z++l) (c) v=qH (some Z) v:=qaV (t);have ylc: ∀ {X Y Z v},qF (tri h a b c X Y Z) (c) v=qH (some Z) v:=λ{X Y Z v}=>by have:=zlc (X:=X) (Y:=Y) (Z:=Z) (v:=v) (l:= []);simpa only[lan] using this
 have hL:=jz q.out;obtain⟨g,hg⟩:=wg (f+jfl q.jn q.out.length)
 have e1:q.st f=⟨q.out++ [tkF g []],q.word,q.opn,true,q.vo+1,q.vw,q.ad⟩:=by unfold Br.st;rw[hg]
 rw[e1];have o1:=qh2 (v:=q.vo) (ty:=119) (cs:=zW q.out);have k3:(q.out.length*6<=q.out.length*6)=True:=eqt (nlr _);have a2: ∀(x1:AV) (r:wj),qge (some (zg q.vo 119 (zW q.out))) 119 q.vo (q.out.length*6) 1 (x1::r)=zg (q.vo+1) 119 (zW q.out++x1::r):=λx1 r=>by rw[appO_own1,ltl om]
 have eLn:(q.out++ [tkF g []]).length=q.out.length+1:=by simp
 have hfin:zW q.out++ [.str [],.str [],.str [],.int .i64 0,.int .i64 g,.str []]=zW (q.out++ [tkF g []]):=by rw[UY,qaO];rfl
 unfold brO brX brY
 by_cases hj:q.jn=true∧0<q.out.length
 ·obtain⟨hj,hn⟩:=hj;have k1:((0:Int)<q.out.length)=True:=wl;have hg:g=f+16:=by rw[hg];unfold jfl;rw[ipo ⟨hj,hn⟩]
  have eo:Uy .or (.int .i64 f) (.int .i64 16)= .int .i64 g:=by
   rw[hg];rcases hf with rfl|rfl<;>rfl
  rw[hj];unfold atC;refine acO qkR ?_;simp (disch:=omega) only[qn1,zca,zlb,ql,qZ,k1,eo,go_sem]
  repeat' first|with_reducible apply aiA|exact clz|fail
  refine kg ?Ta ?Ha ?h1 ?h2
  case h1=>
   simp (disch:=omega) only[zga,zgb,zsa,zsb,zca,zcb,zlb,ql,qZ,qcl,o1,hL,k3,a2,go_sem]
   repeat' first|with_reducible apply aiA
   all_goals first
    |omega
    |rfl
    |(rw[bne_iff_ne];omega)
    |skip
  case h2=>
  simp (disch:=omega) only[zga,zsa,zca,ql,go_sem];rw[hfin];simp only[eLn];exact zR trivial (by simp only[tri_len]) (jO t (by have:=jR t va ⟨q.out++ [tkF g []],q.word,q.opn,true,q.vo+1,q.vw,q.ad⟩;simpa only[brX,eLn] using this) (jy (kr _ _)) (je _ _ _)) ⟨rfl,rfl⟩ (qi)
 ·have hg:g=f:=by rw[hg];unfold jfl;rw[ine hj];omega
  subst hg;unfold atC;cases hj2:q.jn with
  |false=>
   refine acO qkR ?_;simp (disch:=omega) only[qn1,zca,zlb,ql,qZ,go_sem]
   repeat' first|(with_reducible first|intro _|apply aiA)|exact clz|fail
   refine kg ?Tb ?Hb ?h1 ?h2
   case h1=>
    simp (disch:=omega) only[zga,zgb,zsa,zsb,zca,zcb,zlb,ql,qZ,qcl,o1,hL,k3,a2,go_sem]
    repeat' first|with_reducible apply aiA
    all_goals first
     |omega
     |rfl
     |(rw[bne_iff_ne];omega)
     |skip
   case h2=>
   simp (disch:=omega) only[zga,zsa,zca,ql,go_sem];rw[hfin];simp only[eLn];exact zR trivial (by simp only[tri_len]) (jO t (by have:=jR t va ⟨q.out++ [tkF g []],q.word,q.opn,true,q.vo+1,q.vw,q.ad⟩;simpa only[brX,eLn] using this) (jy (kr _ _)) (je _ _ _)) ⟨rfl,rfl⟩ (qi)
  |true=>
   have k1:((0:Int)<q.out.length)=False:=eqf (λhc=>hj ⟨hj2,om⟩);refine acO qkR ?_;simp (disch:=omega) only[qn1,zca,zlb,ql,qZ,k1,go_sem]
   repeat' first|with_reducible apply aiA|exact clz|fail
   refine kg ?Tc ?Hc ?h1 ?h2
   case h1=>
    simp (disch:=omega) only[zga,zgb,zsa,zsb,zca,zcb,zlb,ql,qZ,qcl,o1,hL,k3,a2,go_sem]
    repeat' first|with_reducible apply aiA
    all_goals first
     |omega
     |rfl
     |(rw[bne_iff_ne];omega)
     |skip
   case h2=>
   simp (disch:=omega) only[zga,zsa,zca,ql,go_sem];rw[hfin];simp only[eLn];exact zR trivial (by simp only[tri_len]) (jO t (by have:=jR t va ⟨q.out++ [tkF g []],q.word,q.opn,true,q.vo+1,q.vw,q.ad⟩;simpa only[brX,eLn] using this) (jy (kr _ _)) (je _ _ _)) ⟨rfl,rfl⟩ (qi)
end
end RC
end
section
open Go Go.Proofs AF
def qo2:List Nat:= [277,278,377,347,287,344,288,345,290,346]
@[go_sem]def vn:DT:= DT.one ⟨some 20,none,.nilchk,[.t 15]⟩ (DT.one ⟨some 21,none,.fldA 0,[.t 20]⟩ (DT.one ⟨none,none,.store 1,[.t 21,.t 19]⟩ DT.nil))
@[go_sem]def vp:DT:= DT.one ⟨some 18,none,.bslc 1 1 1 5 [.int .u8 0] [(0,1)],[.t 17]⟩ (DT.one ⟨some 19,none,.b2s,[.t 18]⟩ vn)
def qfg:C:=
 (vU [O1 3 (.box 0 348) 1] (vU [vO 4 0] ((vU [vN 5 5 3,LD 6 5] (vV 6 (vY [vO 4 1]))).seq (C.block 0 (vU [MV 23 0,O1 24 .nilchk 23,vN 25 3 24,LD 26 25,MV 27 26,P1 28 27 true
 (.fldA 1) 3,P1 29 27 true (.load none) 28,P1 30 27 true (.call 309 true) 29,PF 31 27 30,MV 22 31] (C.cond (.t 22) (vU [MV 32 0,O1 33 (.call 346 false) 32,O1 34 .nilchk 33,vN 35
 4 34,LD 36 35,MV 37 4,BI 38 .or 36 37,O1 39 .nilchk 33,vN 40 4 39,ST 1 40 38] (vY [MV 41 0,O1 42 .nilchk 41,vN 43 1 42,vN 44 1 3,LD 45 44,O2 46 (.call 377 false) 43 45])) (vU
 [vN 48 1 3,LD 49 48,O1 50 (.call 357 true) 49,MV 47 50] (C.cond (.t 47) (vU [MV 51 0,O1 52 (.load (some 7)) 3,MV 53 4,ON 54 (.call 345 false) [.t 51,.t 52,.t 53]] (vU [MV 55
 0,O1 56 .nilchk 55,vN 57 3 56,⟨none,none,.store 1,[.t 57,.c (.bool true)]⟩] (vY [MV 58 0,O1 59 .nilchk 58,vN 60 1 59,vN 61 1 3,LD 62 61,O2 63 (.call 377 false) 60 62]))) (vU
 [vN 65 1 3,LD 66 65,O1 67 (.call 220 true) 66,vP 68 .eql 67 6,MV 64 68] (C.cond (.t 64) (vU [MV 69 0,O1 70 (.call 288 false) 69] (vY [MV 71 0,O1 72 .nilchk 71,vN 73 4
 72,⟨none,none,.store 1,[.t 73,.c (.bool false)]⟩])) (vU [MV 7 0,O1 8 (.call 288 false) 7] (vU [MV 9 0,O1 10 (.load (some 7)) 3,MV 11 4,vP 12 .or 11 8,ON 13 (.call 345 false)
 [.t 9,.t 10,.t 12]] (C.draw (DT.one ⟨some 14,none,.mv,[.t 0]⟩ ((DT.one ⟨some 15,none,.call 346 false,[.t 14]⟩ (DT.one ⟨some 16,none,.fldA 1,[.t 3]⟩ (DT.one ⟨some 17,none,.load
 none,[.t 16]⟩ vp))).two (DT.one ⟨some 16,none,.fldA 1,[.t 3]⟩ ((DT.one ⟨some 15,none,.call 346 false,[.t 14]⟩ (DT.one ⟨some 17,none,.load none,[.t 16]⟩ vp)).two (DT.one ⟨some
 17,none,.load none,[.t 16]⟩ ((DT.one ⟨some 15,none,.call 346 false,[.t 14]⟩ vp).two (DT.one ⟨some 18,none,.bslc 1 1 1 5 [.int .u8 0] [(0,1)],[.t 17]⟩ ((DT.one ⟨some
 15,none,.call 346 false,[.t 14]⟩ (DT.one ⟨some 19,none,.b2s,[.t 18]⟩ vn)).two (DT.one ⟨some 19,none,.b2s,[.t 18]⟩ (DT.one ⟨some 15,none,.call 346 false,[.t 14]⟩
 vn)))))))))))))))))))))))
theorem qcT:qI Tryz.prog 344 74 2 [] qfg:=fi Tryz.f344 [3,18] qo2 []
end
section
open Go Go.Proofs AF HY LN
namespace RC
section
variable {h : wh} {a b c va : Nat}
theorem qae(t:T3 h a b c)(q:Br)(l:wh):brO (h++l) a b c va q=brO h a b c va q++l:=quJ t
theorem qjY{f:FuncId}{args:wj}{r:AV}{q q':Br}(hc: ∀h,T3 h a b c->ACalls Tryz.prog f args (brO h a b c va q) r (brO h a b c va q'))(t:T3 h a b c)(l:wh):ACalls Tryz.prog f args (brO h a b c va q++l) r (brO h a b c va q'++l):=by
 have:=hc (h++l) (t.app l)
 rwa [qae t,qae t]at this
structure qA5 (q:Br):Prop where
 op:q.opn=true->0<q.out.length∧((q.out.getD (q.out.length-1) default).flags=0∨(q.out.getD (q.out.length-1) default).flags=16)
 cl:q.opn=false->q.word= []
 n:q.out.length<=900000
 w:q.word.length<=900000
theorem qvC(q:Br):(if q.ad=true then AV.op a va 1 else .nilp)= .nilp∨(if q.ad=true then AV.op a va 1 else .nilp)= .op a va 1:=by
 split
 ·exact .inr rfl
 ·exact .inl rfl
theorem qeV{α:Type}{L:List α}{k:Nat}{x:α}(h:L[k]? =some x):L.take k++ [x]++L.drop (k+1)=L:=by
 obtain⟨h1,h2⟩:=lgs.1 h;rw[List.append_assoc,List.singleton_append,<-h2,<-List.drop_eq_getElem_cons h1,List.take_append_drop]
theorem qDw(t:T3 h a b c)(q:Br)(x:UInt8)(l:wh)(hw:q.word.length<=1000000):ACalls Tryz.prog 377 [.op a va 1,.int .u8 (x.toNat:Int)] (brO h a b c va q++l) .nilif (brO h a b c va (q.wb x)++l):=by
 have ta:=t.la;have tb:=t.lb;have tc:=t.lc;have zga: ∀ {X Y Z l},qt (a) (tri h a b c X Y Z++l)=some X:=DV (t);have yga: ∀ {X Y Z},qt (a) (tri h a b c X Y Z)=some X:=λ{X Y Z}=>by have:=zga (X:=X) (Y:=Y) (Z:=Z) (l:= []);simpa only[lan] using this
 have zgb: ∀ {X Y Z l},qt (b) (tri h a b c X Y Z++l)=some Y:=UR (t);have ygb: ∀ {X Y Z},qt (b) (tri h a b c X Y Z)=some Y:=λ{X Y Z}=>by have:=zgb (X:=X) (Y:=Y) (Z:=Z) (l:= []);simpa only[lan] using this
 have zgc: ∀ {X Y Z l},qt (c) (tri h a b c X Y Z++l)=some Z:=Ux (t);have ygc: ∀ {X Y Z},qt (c) (tri h a b c X Y Z)=some Z:=λ{X Y Z}=>by have:=zgc (X:=X) (Y:=Y) (Z:=Z) (l:= []);simpa only[lan] using this
 have zsa: ∀ {X Y Z o l},qr (a) (tri h a b c X Y Z++l) o=tri h a b c o Y Z++l:=US (t);have ysa: ∀ {X Y Z o},qr (a) (tri h a b c X Y Z) o=tri h a b c o Y Z:=λ{X Y Z o}=>by have:=zsa (X:=X) (Y:=Y) (Z:=Z) (o:=o) (l:= []);simpa only[lan] using this
 have zsb: ∀ {X Y Z o l},qr (b) (tri h a b c X Y Z++l) o=tri h a b c X o Z++l:=qab (t);have ysb: ∀ {X Y Z o},qr (b) (tri h a b c X Y Z) o=tri h a b c X o Z:=λ{X Y Z o}=>by have:=zsb (X:=X) (Y:=Y) (Z:=Z) (o:=o) (l:= []);simpa only[lan] using this
 have zsc: ∀ {X Y Z o l},qr (c) (tri h a b c X Y Z++l) o=tri h a b c X Y o++l:=qac (t);have ysc: ∀ {X Y Z o},qr (c) (tri h a b c X Y Z) o=tri h a b c X Y o:=λ{X Y Z o}=>by have:=zsc (X:=X) (Y:=Y) (Z:=Z) (o:=o) (l:= []);simpa only[lan] using this
 have zca: ∀ {X Y Z v l},cellsOf (tri h a b c X Y Z++l) (a) v=qw (some X) v:=qaQ (t);have yca: ∀ {X Y Z v},cellsOf (tri h a b c X Y Z) (a) v=qw (some X) v:=λ{X Y Z v}=>by have:=zca (X:=X) (Y:=Y) (Z:=Z) (v:=v) (l:= []);simpa only[lan] using this
 have zcb: ∀ {X Y Z v l},cellsOf (tri h a b c X Y Z++l) (b) v=qw (some Y) v:=qaR (t);have ycb: ∀ {X Y Z v},cellsOf (tri h a b c X Y Z) (b) v=qw (some Y) v:=λ{X Y Z v}=>by have:=zcb (X:=X) (Y:=Y) (Z:=Z) (v:=v) (l:= []);simpa only[lan] using this
 have zcc: ∀ {X Y Z v l},cellsOf (tri h a b c X Y Z++l) (c) v=qw (some Z) v:=qaS (t);have ycc: ∀ {X Y Z v},cellsOf (tri h a b c X Y Z) (c) v=qw (some Z) v:=λ{X Y Z v}=>by have:=zcc (X:=X) (Y:=Y) (Z:=Z) (v:=v) (l:= []);simpa only[lan] using this
 have zla: ∀ {X Y Z v l},qF (tri h a b c X Y Z++l) (a) v=qH (some X) v:=qaT (t);have yla: ∀ {X Y Z v},qF (tri h a b c X Y Z) (a) v=qH (some X) v:=λ{X Y Z v}=>by have:=zla (X:=X) (Y:=Y) (Z:=Z) (v:=v) (l:= []);simpa only[lan] using this
 have zlb: ∀ {X Y Z v l},qF (tri h a b c X Y Z++l) (b) v=qH (some Y) v:=qaU (t);have ylb: ∀ {X Y Z v},qF (tri h a b c X Y Z) (b) v=qH (some Y) v:=λ{X Y Z v}=>by have:=zlb (X:=X) (Y:=Y) (Z:=Z) (v:=v) (l:= []);simpa only[lan] using this
 have zlc: ∀ {X Y Z v l},qF (tri h a b c X Y Z++l) (c) v=qH (some Z) v:=qaV (t);have ylc: ∀ {X Y Z v},qF (tri h a b c X Y Z) (c) v=qH (some Z) v:=λ{X Y Z v}=>by have:=zlc (X:=X) (Y:=Y) (Z:=Z) (v:=v) (l:= []);simpa only[lan] using this
 have:=qFG a va c q.vw (.osl b q.vo 6 0 q.out.length) (.bool q.opn) (.bool q.jn) (.bool false) (if q.ad=true then .op a va 1 else .nilp) q.word x (brO h a b c va q++l) (by rw[lap,qdi];simp[qT];omega) rfl rfl rfl (λe=>t.ac e.symm) zga (qvC q) zgc om
 have e:qr c (qr a (brO h a b c va q++l) (.mem va 343 [.osl b q.vo 6 0 q.out.length,.op a va 1,.osl c (q.vw+1) 1 0 (q.word.length+1),.bool q.opn,.bool q.jn,.bool false])) (qct (q.vw+1) (q.word++ [x]))=brO h a b c va (q.wb x)++l:=by
  unfold brO;rw[zsa,zsc];unfold brX brY Br.wb;simp
 rw[e]at this;exact this
theorem qBx(t:T3 h a b c)(q:Br)(x:UInt8)(hq:qA5 q):ACalls Tryz.prog 344 [.op a va 0,.agg (atC 1 x)] (brO h a b c va q) (.tup []) (brO h a b c va (q.pt x)):=by
 have ta:=t.la;have tb:=t.lb;have tc:=t.lc;have hn:=hq.n;have hw:=hq.w;have zga: ∀ {X Y Z l},qt (a) (tri h a b c X Y Z++l)=some X:=DV (t);have yga: ∀ {X Y Z},qt (a) (tri h a b c X Y Z)=some X:=λ{X Y Z}=>by have:=zga (X:=X) (Y:=Y) (Z:=Z) (l:= []);simpa only[lan] using this
 have zgb: ∀ {X Y Z l},qt (b) (tri h a b c X Y Z++l)=some Y:=UR (t);have ygb: ∀ {X Y Z},qt (b) (tri h a b c X Y Z)=some Y:=λ{X Y Z}=>by have:=zgb (X:=X) (Y:=Y) (Z:=Z) (l:= []);simpa only[lan] using this
 have zgc: ∀ {X Y Z l},qt (c) (tri h a b c X Y Z++l)=some Z:=Ux (t);have ygc: ∀ {X Y Z},qt (c) (tri h a b c X Y Z)=some Z:=λ{X Y Z}=>by have:=zgc (X:=X) (Y:=Y) (Z:=Z) (l:= []);simpa only[lan] using this
 have zsa: ∀ {X Y Z o l},qr (a) (tri h a b c X Y Z++l) o=tri h a b c o Y Z++l:=US (t);have ysa: ∀ {X Y Z o},qr (a) (tri h a b c X Y Z) o=tri h a b c o Y Z:=λ{X Y Z o}=>by have:=zsa (X:=X) (Y:=Y) (Z:=Z) (o:=o) (l:= []);simpa only[lan] using this
 have zsb: ∀ {X Y Z o l},qr (b) (tri h a b c X Y Z++l) o=tri h a b c X o Z++l:=qab (t);have ysb: ∀ {X Y Z o},qr (b) (tri h a b c X Y Z) o=tri h a b c X o Z:=λ{X Y Z o}=>by have:=zsb (X:=X) (Y:=Y) (Z:=Z) (o:=o) (l:= []);simpa only[lan] using this
 have zsc: ∀ {X Y Z o l},qr (c) (tri h a b c X Y Z++l) o=tri h a b c X Y o++l:=qac (t);have ysc: ∀ {X Y Z o},qr (c) (tri h a b c X Y Z) o=tri h a b c X Y o:=λ{X Y Z o}=>by have:=zsc (X:=X) (Y:=Y) (Z:=Z) (o:=o) (l:= []);simpa only[lan] using this
 have zca: ∀ {X Y Z v l},cellsOf (tri h a b c X Y Z++l) (a) v=qw (some X) v:=qaQ (t);have yca: ∀ {X Y Z v},cellsOf (tri h a b c X Y Z) (a) v=qw (some X) v:=λ{X Y Z v}=>by have:=zca (X:=X) (Y:=Y) (Z:=Z) (v:=v) (l:= []);simpa only[lan] using this
 have zcb: ∀ {X Y Z v l},cellsOf (tri h a b c X Y Z++l) (b) v=qw (some Y) v:=qaR (t);have ycb: ∀ {X Y Z v},cellsOf (tri h a b c X Y Z) (b) v=qw (some Y) v:=λ{X Y Z v}=>by have:=zcb (X:=X) (Y:=Y) (Z:=Z) (v:=v) (l:= []);simpa only[lan] using this
 have zcc: ∀ {X Y Z v l},cellsOf (tri h a b c X Y Z++l) (c) v=qw (some Z) v:=qaS (t);have ycc: ∀ {X Y Z v},cellsOf (tri h a b c X Y Z) (c) v=qw (some Z) v:=λ{X Y Z v}=>by have:=zcc (X:=X) (Y:=Y) (Z:=Z) (v:=v) (l:= []);simpa only[lan] using this
 have zla: ∀ {X Y Z v l},qF (tri h a b c X Y Z++l) (a) v=qH (some X) v:=qaT (t);have yla: ∀ {X Y Z v},qF (tri h a b c X Y Z) (a) v=qH (some X) v:=λ{X Y Z v}=>by have:=zla (X:=X) (Y:=Y) (Z:=Z) (v:=v) (l:= []);simpa only[lan] using this
 have zlb: ∀ {X Y Z v l},qF (tri h a b c X Y Z++l) (b) v=qH (some Y) v:=qaU (t);have ylb: ∀ {X Y Z v},qF (tri h a b c X Y Z) (b) v=qH (some Y) v:=λ{X Y Z v}=>by have:=zlb (X:=X) (Y:=Y) (Z:=Z) (v:=v) (l:= []);simpa only[lan] using this
 have zlc: ∀ {X Y Z v l},qF (tri h a b c X Y Z++l) (c) v=qH (some Z) v:=qaV (t);have ylc: ∀ {X Y Z v},qF (tri h a b c X Y Z) (c) v=qH (some Z) v:=λ{X Y Z v}=>by have:=zlc (X:=X) (Y:=Y) (Z:=Z) (v:=v) (l:= []);simpa only[lan] using this
 by_cases g1:q.opn=true∧kY x=true
 ·rw[show q.pt x=q.wb x from by unfold Br.pt;rw[ipo g1]];obtain⟨g1,g2⟩:=g1;obtain⟨hop,hfl⟩:=hq.op g1;have c1:=λh=>qBi x h
  simp only[g2]at c1;have c2:=λl=>qr5 (va:=va) (t.app l) q hop om
  simp only[qae t]at c2;have c3:=λl=>qDw (va:=va) t q x l om
  have hL:=jz q.out;obtain⟨F,hF⟩:=wg ((q.out.getD (q.out.length-1) default).flags)
  rw[<-hF]at hfl;have g4:(zW q.out)[(q.out.length-1)*6+4]? =some (.int .i64 F):=by rw[qdT om om,hF];rfl
  have e0:Uy .or (.int .i64 F) (.int .i64 0)= .int .i64 F:=by rcases hfl with rfl|rfl<;>rfl
  have k3:((q.out.length-1)*6+4+1<=q.out.length*6)=True:=wl;have k4:((q.out.length-1)*6+4<q.out.length*6)=True:=wl;have e5:=qeV g4;unfold brO at c2 c3 ⊢;rw[qcI hop]at c2 c3 ⊢;unfold brX at c2 c3 ⊢;rw[g1]at c2 c3 ⊢;unfold atC;refine acO qcT ?_;simp (disch:=omega) only[qfg,zca,ql,go_sem]
  repeat' first|(refine cG (λe=>c1 _) flk ?_;simp (disch:=omega) only[go_sem])
  refine qz (c2 _) (by exact flk) ?_;simp (disch:=omega) only[zgb,zsb,zca,zcb,ql,hL,g4,e0,k3,k4,e5,go_sem];refine qz (c3 _) (by exact flk) ?_;simp (disch:=omega) only[go_sem];exact zR trivial (by simp only[tri_len]) (jO t (jR t va (q.wb x)) (gz _ _) (je _ _ _)) ⟨rfl,rfl⟩ (qi)
 by_cases g2:bgn x=true
 ·rw[show q.pt x=((q.st 0).op).wb x from by unfold Br.pt;rw[ine g1,ipo g2]];have g3:q.opn=false:=by
   cases ho:q.opn with
   |false=>rfl
   |true=>exact absurd ⟨ho,qaq g2⟩ g1
  have c1:=λh=>qBa x h
  rw[show (decide (kind x=1)||decide (kind x=3))=true from g2]at c1;have c2:=λl=>qvB (va:=va) (t.app l) q 0 x (.inl rfl) om
  simp only[qae t]at c2;have c3:=λl=>qDw (va:=va) t (q.st 0).op x l (by show q.word.length<=_;omega)
  unfold brO brX at c2 c3 ⊢;rw[g3]at c2 ⊢;unfold atC at c2 ⊢;refine acO qcT ?_;simp (disch:=omega) only[qfg,zca,ql,go_sem]
  repeat' first|(refine qj ( .bool false) ?_;simp (disch:=omega) only[go_sem])|(refine cA (c1 _) flk ?_;simp (disch:=omega) only[go_sem])
  refine qz (c2 _) (by exact flk) ?_;simp (disch:=omega) only[zga,zsa,zca,ql,go_sem];refine qz (c3 _) (by exact flk) ?_;simp (disch:=omega) only[go_sem];exact zR trivial (by simp only[tri_len]) (jO t (jR t va (((q.st 0).op).wb x)) (gz _ _) (je _ _ _)) ⟨rfl,rfl⟩ (qi)
 by_cases g3:kind x=6
 ·rw[show q.pt x=q.nd.sp from by unfold Br.pt;rw[ine g1,ine g2,ipo g3]];have c1:=λh=>qBa x h
  have hb:(decide (kind x=1)||decide (kind x=3))=false:=by simpa[bgn] using g2
  rw[hb]at c1;have c5:=λh=>qBi x h
  have c4:=λh=>qbI x h
  rw[g3]at c4;have c2:=λl=>qr4 (va:=va) (t.app l) q (λe=>(hq.op e).1) hq.cl om om
  simp only[qae t]at c2;have hi:q.opn=true->kY x=false:=λe=>by
   cases hx:kY x with
   |false=>rfl
   |true=>exact absurd ⟨e,hx⟩ g1
  unfold brO brX at c2 ⊢;unfold atC;cases ho:q.opn with
  |true=>
   rw[hi ho]at c5;rw[ho]at c2;refine acO qcT ?_;simp (disch:=omega) only[qfg,zca,ql,go_sem]
   repeat' first|((first|refine cA (c1 _) ?_ ?_|refine cA (c4 _) ?_ ?_|refine cG (λe=>c5 _) ?_ ?_);exact flk;simp (disch:=omega) only[go_sem])
   refine qz (c2 _) (by exact flk) ?_;simp (disch:=omega) only[zga,zsa,zca,ql,go_sem];exact zR trivial (by simp only[tri_len]) (jO t (jR t va q.nd.sp) (gz _ _) (je _ _ _)) ⟨rfl,rfl⟩ (qi)
  |false=>
   rw[ho]at c2;refine acO qcT ?_;simp (disch:=omega) only[qfg,zca,ql,go_sem]
   repeat' first|(refine qj ( .bool false) ?_;simp (disch:=omega) only[go_sem])|((first|refine cA (c1 _) ?_ ?_|refine cA (c4 _) ?_ ?_);exact flk;simp (disch:=omega) only[go_sem])
   refine qz (c2 _) (by exact flk) ?_;simp (disch:=omega) only[zga,zsa,zca,ql,go_sem];exact zR trivial (by simp only[tri_len]) (jO t (jR t va q.nd.sp) (gz _ _) (je _ _ _)) ⟨rfl,rfl⟩ (qi)
 rw[show q.pt x=(q.nd.st 8).tx [x]from by unfold Br.pt;rw[ine g1,ine g2,ine g3]];have c1:=λh=>qBa x h
 have hb:(decide (kind x=1)||decide (kind x=3))=false:=by simpa[bgn] using g2
 rw[hb]at c1;have c5:=λh=>qBi x h
 have c4:=λh=>qbI x h
 obtain⟨kx,hkx⟩:=wg (kind x)
 rw[<-hkx]at c4 g3;have q6:(kx=6)=False:=eqf g3;have c2:=λl=>qr4 (va:=va) (t.app l) q (λe=>(hq.op e).1) hq.cl om om
 have hndl:q.nd.out.length=q.out.length:=by unfold Br.nd;split<;>simp only[UP]
 have c6:=λl=>qvB (va:=va) (t.app l) q.nd 8 x (.inr rfl) om
 obtain⟨r,hr⟩:=wg (q.nd.st 8)
 have hrl:0<r.out.length:=by rw[hr];show 0<(q.nd.out++ [_]).length;simp
 have hrm:r.out.length<=1000000:=by rw[hr];show (q.nd.out++ [_]).length<=_;simp;omega
 rw[<-hr]at c6 ⊢;have c7:=λl=>qr5 (va:=va) (t.app l) r hrl hrm
 simp only[qae t]at c2 c6 c7;have hi:q.opn=true->kY x=false:=λe=>by
  cases hx:kY x with
  |false=>rfl
  |true=>exact absurd ⟨e,hx⟩ g1
 have hL:=jz r.out;have k3:((r.out.length-1)*6+1<=r.out.length*6)=True:=wl;have hX:=qmQ (L:=r.out) [x] hrl;have e8:Uy .or (.int .i64 0) (.int .i64 8)= .int .i64 8:=rfl;have hY:brY (r.tx [x])= .mem r.vo 119 (zW (qam r.out [x])):=qcI (q:=r.tx [x]) (by show 0<(qam r.out [x]).length;rw[UP];exact hrl);have eL:(r.tx [x]).out.length=r.out.length:=UP _ _;unfold brO at c2 c6 c7 ⊢;rw[hY];rw[qcI hrl]at c6 c7;unfold brX at c2 c6 c7 ⊢;rw[eL];unfold atC at c6 ⊢;cases ho:q.opn with
 |true=>
  rw[hi ho]at c5;rw[ho]at c2;refine acO qcT ?_;simp (disch:=omega) only[qfg,zca,ql,go_sem]
  repeat' first|((first|refine cA (c1 _) ?_ ?_|refine cA (c4 _) ?_ ?_|refine cG (λe=>c5 _) ?_ ?_);exact flk;simp (disch:=omega) only[q6,go_sem])
  refine qz (c2 _) (by exact flk) ?_;simp (disch:=omega) only[e8,go_sem];refine qz (c6 _) (by exact flk) ?_;simp (disch:=omega) only[go_sem];refine kg ?Ta ?Ha ?h1 ?h2
  case h1=>
   simp (disch:=omega) only[go_sem]
   repeat' first|(with_reducible apply aiA)|(refine qz (c7 _) (by exact flk) ?_;simp (disch:=omega) only[zgb,zsb,zcb,ql,hL,k3,go_sem])
   all_goals first
    |omega
    |rfl
    |(intro y hy;rw[List.mem_singleton]at hy;subst hy;exact UI x)
    |skip
  case h2=>
  simp (disch:=omega) only[go_sem];rw[UD x,List.append_assoc,hX];exact zR trivial (by simp only[tri_len]) (jO t (jR t va r) (kr _ _) (je _ _ _)) ⟨rfl,rfl⟩ (qi)
 |false=>
  rw[ho]at c2;refine acO qcT ?_;simp (disch:=omega) only[qfg,zca,ql,go_sem]
  repeat' first|(refine qj ( .bool false) ?_;simp (disch:=omega) only[go_sem])|((first|refine cA (c1 _) ?_ ?_|refine cA (c4 _) ?_ ?_);exact flk;simp (disch:=omega) only[q6,go_sem])
  refine qz (c2 _) (by exact flk) ?_;simp (disch:=omega) only[e8,go_sem];refine qz (c6 _) (by exact flk) ?_;simp (disch:=omega) only[go_sem];refine kg ?Tb ?Hb ?h1 ?h2
  case h1=>
   simp (disch:=omega) only[go_sem]
   repeat' first|(with_reducible apply aiA)|(refine qz (c7 _) (by exact flk) ?_;simp (disch:=omega) only[zgb,zsb,zcb,ql,hL,k3,go_sem])
   all_goals first
    |omega
    |rfl
    |(intro y hy;rw[List.mem_singleton]at hy;subst hy;exact UI x)
    |skip
  case h2=>
  simp (disch:=omega) only[go_sem];rw[UD x,List.append_assoc,hX];exact zR trivial (by simp only[tri_len]) (jO t (jR t va r) (kr _ _) (je _ _ _)) ⟨rfl,rfl⟩ (qi)
theorem qBw(t:T3 h a b c)(q:Br)(x:UInt8)(hq:qA5 q):ACalls Tryz.prog 287 [.op a va 0,.agg (atC 1 x)] (brO h a b c va q) (.tup []) (brO h a b c va (q.pt x)):=by
 have ta:=t.la;have tb:=t.lb;have tc:=t.lc;have zga: ∀ {X Y Z l},qt (a) (tri h a b c X Y Z++l)=some X:=DV (t);have yga: ∀ {X Y Z},qt (a) (tri h a b c X Y Z)=some X:=λ{X Y Z}=>by have:=zga (X:=X) (Y:=Y) (Z:=Z) (l:= []);simpa only[lan] using this
 have zgb: ∀ {X Y Z l},qt (b) (tri h a b c X Y Z++l)=some Y:=UR (t);have ygb: ∀ {X Y Z},qt (b) (tri h a b c X Y Z)=some Y:=λ{X Y Z}=>by have:=zgb (X:=X) (Y:=Y) (Z:=Z) (l:= []);simpa only[lan] using this
 have zgc: ∀ {X Y Z l},qt (c) (tri h a b c X Y Z++l)=some Z:=Ux (t);have ygc: ∀ {X Y Z},qt (c) (tri h a b c X Y Z)=some Z:=λ{X Y Z}=>by have:=zgc (X:=X) (Y:=Y) (Z:=Z) (l:= []);simpa only[lan] using this
 have zsa: ∀ {X Y Z o l},qr (a) (tri h a b c X Y Z++l) o=tri h a b c o Y Z++l:=US (t);have ysa: ∀ {X Y Z o},qr (a) (tri h a b c X Y Z) o=tri h a b c o Y Z:=λ{X Y Z o}=>by have:=zsa (X:=X) (Y:=Y) (Z:=Z) (o:=o) (l:= []);simpa only[lan] using this
 have zsb: ∀ {X Y Z o l},qr (b) (tri h a b c X Y Z++l) o=tri h a b c X o Z++l:=qab (t);have ysb: ∀ {X Y Z o},qr (b) (tri h a b c X Y Z) o=tri h a b c X o Z:=λ{X Y Z o}=>by have:=zsb (X:=X) (Y:=Y) (Z:=Z) (o:=o) (l:= []);simpa only[lan] using this
 have zsc: ∀ {X Y Z o l},qr (c) (tri h a b c X Y Z++l) o=tri h a b c X Y o++l:=qac (t);have ysc: ∀ {X Y Z o},qr (c) (tri h a b c X Y Z) o=tri h a b c X Y o:=λ{X Y Z o}=>by have:=zsc (X:=X) (Y:=Y) (Z:=Z) (o:=o) (l:= []);simpa only[lan] using this
 have zca: ∀ {X Y Z v l},cellsOf (tri h a b c X Y Z++l) (a) v=qw (some X) v:=qaQ (t);have yca: ∀ {X Y Z v},cellsOf (tri h a b c X Y Z) (a) v=qw (some X) v:=λ{X Y Z v}=>by have:=zca (X:=X) (Y:=Y) (Z:=Z) (v:=v) (l:= []);simpa only[lan] using this
 have zcb: ∀ {X Y Z v l},cellsOf (tri h a b c X Y Z++l) (b) v=qw (some Y) v:=qaR (t);have ycb: ∀ {X Y Z v},cellsOf (tri h a b c X Y Z) (b) v=qw (some Y) v:=λ{X Y Z v}=>by have:=zcb (X:=X) (Y:=Y) (Z:=Z) (v:=v) (l:= []);simpa only[lan] using this
 have zcc: ∀ {X Y Z v l},cellsOf (tri h a b c X Y Z++l) (c) v=qw (some Z) v:=qaS (t);have ycc: ∀ {X Y Z v},cellsOf (tri h a b c X Y Z) (c) v=qw (some Z) v:=λ{X Y Z v}=>by have:=zcc (X:=X) (Y:=Y) (Z:=Z) (v:=v) (l:= []);simpa only[lan] using this
 have zla: ∀ {X Y Z v l},qF (tri h a b c X Y Z++l) (a) v=qH (some X) v:=qaT (t);have yla: ∀ {X Y Z v},qF (tri h a b c X Y Z) (a) v=qH (some X) v:=λ{X Y Z v}=>by have:=zla (X:=X) (Y:=Y) (Z:=Z) (v:=v) (l:= []);simpa only[lan] using this
 have zlb: ∀ {X Y Z v l},qF (tri h a b c X Y Z++l) (b) v=qH (some Y) v:=qaU (t);have ylb: ∀ {X Y Z v},qF (tri h a b c X Y Z) (b) v=qH (some Y) v:=λ{X Y Z v}=>by have:=zlb (X:=X) (Y:=Y) (Z:=Z) (v:=v) (l:= []);simpa only[lan] using this
 have zlc: ∀ {X Y Z v l},qF (tri h a b c X Y Z++l) (c) v=qH (some Z) v:=qaV (t);have ylc: ∀ {X Y Z v},qF (tri h a b c X Y Z) (c) v=qH (some Z) v:=λ{X Y Z v}=>by have:=zlc (X:=X) (Y:=Y) (Z:=Z) (v:=v) (l:= []);simpa only[lan] using this
 have c2:=λl=>qBx (va:=va) (t.app l) q x hq
 simp only[qae t]at c2;unfold brO brX at c2 ⊢;unfold atC at c2 ⊢;refine acO qyk ?_;simp (disch:=omega) only[qwv,go_sem];refine qz (c2 _) (by exact flk) ?_;simp (disch:=omega) only[go_sem];exact zR trivial (by simp only[tri_len]) (jO t (jR t va (q.pt x)) (gz _ _) (je _ _ _)) ⟨rfl,rfl⟩ (qi)
end
structure BrB (q:Br) (b:Bs):Prop where
 out:q.out=b.out
 word:q.word=b.word
 opn:q.opn=b.opn
 jn:q.jn=b.jn
theorem qc8(L:List Tk)(f:Int)(w:Str):qam (L++ [tkF f []]) w=L++ [tkF f w]:=by
 unfold qam;have e:(L++ [tkF f []]).length-1=L.length:=by simp
 rw[e];have g:(L++ [tkF f []]).getD L.length default=tkF f []:=by
  have:=qa1 (L:=L) (M:= [tkF f []]) (a:=default) (i:=0)
  rw[Nat.add_zero]at this;rw[this];rfl
 rw[g,List.set_append_right _ _ (nlr _),Nat.sub_self];rfl
theorem qrz{q:Br}{b:Bs}{s:Str}(h:BrB q b)(hb:qnz s b):q.nd.out=b.fin∧q.nd.word= []∧q.nd.opn=false∧q.nd.jn=b.jn:=by
 unfold Br.nd Bs.fin;cases ho:b.opn with
 |true=>
  rw[ipo (by rw[h.opn,ho]),ipo rfl];refine⟨?_,rfl,rfl,h.jn⟩;show qam q.out q.word=_;rw[h.out,h.word];unfold Bs.out;rw[ipo ho,qc8]
 |false=>
  rw[ine (by rw[h.opn,ho];simp),ine (by simp),lan];refine⟨?_,rfl,rfl,h.jn⟩;show q.out=_;rw[h.out];unfold Bs.out;rw[ine (by rw[ho];simp),lan]
theorem qzD{q:Br}{b:Bs}{s:Str}(h:BrB q b)(hb:qnz s b)(c:UInt8):BrB (q.pt c) (b.stp c):=by
 obtain⟨n1,n2,n3,n4⟩:=qrz h hb;unfold Br.pt Bs.stp
 by_cases g1:b.opn=true∧kY c=true
 ·rw[ipo (by rw[h.opn];exact g1),ipo g1];refine⟨?_,?_,?_,h.jn⟩
  ·show q.out=_;rw[h.out];unfold Bs.out;rw[ipo g1.1,ipo rfl]
  ·show q.word++ [c]=_;rw[h.word]
  ·show q.opn=_;rw[h.opn,g1.1]
 rw[ine (by rw[h.opn];exact g1),ine g1]
 by_cases g2:bgn c=true
 ·rw[ipo g2,ipo g2];have ho:b.opn=false:=by
   cases ho:b.opn with
   |false=>rfl
   |true=>exact absurd ⟨ho,qaq g2⟩ g1
  have hf:q.out=b.fin:=by
   rw[h.out];unfold Bs.out Bs.fin;rw[ho];rfl
  refine⟨?_,?_,rfl,rfl⟩
  ·show q.out++ [tkF (0+jfl q.jn q.out.length) []]=_;rw[hf,h.jn];unfold Bs.out;rw[ipo rfl,Int.zero_add]
  ·show q.word++ [c]=_;rw[h.word,(hb.cl ho).1];rfl
 rw[ine g2,ine g2]
 by_cases g3:kind c=6
 ·rw[ipo g3,ipo g3];refine⟨?_,n2,n3,rfl⟩;show q.nd.out=_;rw[n1];unfold Bs.out;rw[ine (by simp),lan]
 ·rw[ine g3,ine g3];refine⟨?_,n2,n3,rfl⟩;show qam (q.nd.out++ [tkF (8+jfl q.nd.jn q.nd.out.length) []]) [c]=_;rw[qc8,n1,n4];unfold Bs.out;rw[ine (by simp),lan]
theorem qBy{q:Br}{b:Bs}{s:Str}(h:BrB q b)(hb:qnz s b)(hs:s.length<=900000):qA5 q:=by
 have hl:=hb.len;have hc:=hb.cat;have ho:b.out.length=b.fin.length:=by unfold Bs.out Bs.fin;split<;>simp
 refine⟨λe=> ?_,λe=> ?_,?_,?_⟩
 ·rw[h.opn]at e;have e2:q.out=b.done++ [tkF b.fl []]:=by rw[h.out];unfold Bs.out;rw[ipo e]
  rw[e2];refine⟨by simp,?_⟩;have g:(b.done++ [tkF b.fl []]).getD ((b.done++ [tkF b.fl []]).length-1) default=tkF b.fl []:=by
   rw[show (b.done++ [tkF b.fl []]).length-1=b.done.length+0 by simp,qa1];rfl
  rw[g];exact (hb.op e).2.2
 ·rw[h.opn]at e;rw[h.word];exact (hb.cl e).1
 ·rw[h.out,ho];omega
 ·rw[h.word];cases e:b.opn with
  |false=>rw[(hb.cl e).1];simp
  |true=>
   have hm:b.word∈b.fin.map Tk.text:=by
    unfold Bs.fin;rw[ipo e,List.map_append];exact List.mem_append_right _ (List.mem_singleton.2 rfl)
   have h1:=qci hm;rw[hc]at h1
   have:=List.length_filter_le (λc=> !decide (kind c=6)) s
   omega
def brI(vo vw:Nat)(s:Str):Br:=s.foldl Br.pt ⟨[],[],false,false,vo,vw,false⟩
theorem qvD(vo vw:Nat)(s:Str): ∀n,n<=s.length->BrB (brI vo vw (s.take n)) (bsL (s.take n)):=by
 intro n
 induction n with
 |zero=>intro _;exact⟨rfl,rfl,rfl,rfl⟩
 |succ n ih=>
  intro hn;rw[List.take_add_one,zz hn];show BrB (brI vo vw (s.take n++ [s[n]])) (bsL (s.take n++ [s[n]]));rw[qas];unfold brI;rw[List.foldl_append];exact qzD (ih om) (qcJ _) _
theorem qnP(vo vw:Nat)(s:Str){n:Nat}(hn:n<s.length):brI vo vw (s.take (n+1))=(brI vo vw (s.take n)).pt (ch s n):=by
 unfold brI;rw[List.take_add_one,zz hn,List.foldl_append];simp[ch,gdqA,hn]
theorem qqX(vo vw:Nat)(s:Str)(hs:s.length<=900000){n:Nat}(hn:n<=s.length):qA5 (brI vo vw (s.take n)):=qBy (qvD vo vw s n hn) (qcJ _) (by rw[List.length_take];omega)
def nmL(L:List Tk)(i:Nat):List Tk:=(L.take i).map tkN++L.drop i
theorem qcj(L:List Tk)(i:Nat):(nmL L i).length=L.length:=by unfold nmL;simp;omega
theorem qzp{L:List Tk}{i:Nat}(hi:i<L.length):(nmL L i).getD i default=L.getD i default:=by
 unfold nmL;rw[gdqA,List.getElem?_append_right (by simp;omega),List.getElem?_drop,gdqA];simp[Nat.min_eq_left (Nat.le_of_lt hi)]
theorem qpe{L:List Tk}{i:Nat}(hi:i<L.length):nmL L (i+1)=(nmL L i).set i (tkN (L.getD i default)):=by
 unfold nmL;have e:((L.take i).map tkN).length=i:=by simp;omega
 rw[List.set_append_right _ _ om,e,Nat.sub_self,List.drop_eq_getElem_cons hi,List.set_cons_zero,List.take_add_one,zz hi,List.map_append,List.append_assoc,gdqA,zz hi];rfl
theorem qtM(L:List Tk):nmL L L.length=L.map tkN:=by unfold nmL;rw[List.take_length,List.drop_length,lan]
theorem qpf(L:List Tk):nmL L 0=L:=by unfold nmL;simp
end RC
end
