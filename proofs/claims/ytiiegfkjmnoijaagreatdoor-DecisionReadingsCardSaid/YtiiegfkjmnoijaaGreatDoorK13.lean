import Derived.Test.YtiiegfkjmnoijaaGreatDoorK12
import Derived.Test.YtiiegfkjmnoijaaGreatDoorK3
import Derived.Test.YtiiegfkjmnoijaaGreatDoorK5
import Derived.Test.YtiiegfkjmnoijaaGreatDoorK8
import Derived.Test.YtiiegfkjmnoijaaGreatDoorProg
set_option linter.all false
set_option maxHeartbeats 128000000
set_option maxRecDepth 100000
section
open Go Go.Proofs AF HY LN
namespace RC
theorem qBM(h:we):ACalls Tryz.prog 241 [.nl] h (.int .i64 0) h:=by
 refine acO qwE ?_;simp (disch:=omega) only[quZ,go_sem]
 repeat' first|(apply qb;exact rvk;simp only[go_sem];apply qh)|(with_reducible first|intro _|apply aiA)|exact clz|fail
 refine qr (T:=λ_:Unit=>qX 21 [(9,.nl),(10,.int .i64 0),(11,.int .i64 0)]) (H:=λ_=>h++ [.emp 0]) (inv:=λ_=>True) (m:=λ_=>0) () trivial (Wk.temps ?_) ?_
 ·(simp only[go_sem,qg,qc,qa,qf];try exact wa)
 rintro⟨⟩ _ K hK;simp (disch:=omega) only[go_sem]
 repeat' first|exact v7|(with_reducible first|intro _|apply aiA)|exact clz|fail
theorem qDd(s:Str)(h:we)(hs:s.length<=1000000)(hw: ∀i,i<s.length->SX (ch s i)=true):ACalls Tryz.prog 306 [.str s] h (.bool true) h:=by
 refine acO qw0 ?_;simp (disch:=omega) only[qvj,go_sem];refine qr (T:=λi:Nat=>qX 19 [(0,.str s),(4,.str s),(5,.int .i64 s.length),(6,.int .i64 i)]) (H:=λ_=>h) (inv:=λi=>i<=s.length) (m:=λi=>s.length-i) 0 (nzl _) (Wk.temps ?_) ?_
 ·(simp only[go_sem,qg,qc,qa,qf];try exact wa)
 rintro i i1 K hK
 by_cases hi:i<s.length
 ·have k1:((i:Int)<s.length)=True:=wh;have e:(s[i]?).getD 0=ch s i:=by simp[ch,gdqA]
  have c1:=λh=>U4 (ch s i) h
  have g:=hw i hi;unfold SX at g;simp only[Bool.or_eq_true,decide_eq_true_eq]at g;obtain⟨k,hk⟩:=wc (kind (ch s i))
  rw[<-hk]at g;simp only[<-hk]at c1
  by_cases g1:k=1
  ·subst g1;simp (disch:=omega) only[k1,e,go_sem]
   repeat' first|(refine cA (c1 _) flk ?_;simp (disch:=omega) only[go_sem])|with_reducible apply aiA|exact clz|fail
   refine hK _ _ (i+1) hi om (Wk.temps ?_)
   (simp only[go_sem,qg,qc,qa,qf];try (repeat' first|(with_reducible apply aiA)|(apply qh;omega)|(apply qd;rfl)|exact qi))
  by_cases g2:k=2
  ·subst g2;simp (disch:=omega) only[k1,e,go_sem]
   repeat' first|(refine cA (c1 _) flk ?_;simp (disch:=omega) only[go_sem])|(apply qe;exact rvk;simp only[go_sem];apply qd)|(with_reducible first|intro _|apply aiA)|exact clz|fail
   refine hK _ _ (i+1) hi om (Wk.temps ?_)
   (simp only[go_sem,qg,qc,qa,qf];try (repeat' first|(with_reducible apply aiA)|(apply qh;omega)|(apply qd;rfl)|exact qi))
  by_cases g3:k=3
  ·subst g3;simp (disch:=omega) only[k1,e,go_sem]
   repeat' first|(refine cA (c1 _) flk ?_;simp (disch:=omega) only[go_sem])|(apply qe;exact rvk;simp only[go_sem];apply qd)|(with_reducible first|intro _|apply aiA)|exact clz|fail
   refine hK _ _ (i+1) hi om (Wk.temps ?_)
   (simp only[go_sem,qg,qc,qa,qf];try (repeat' first|(with_reducible apply aiA)|(apply qh;omega)|(apply qd;rfl)|exact qi))
  obtain rfl:k=4:=by omega
  simp (disch:=omega) only[k1,e,go_sem]
  repeat' first|(refine cA (c1 _) flk ?_;simp (disch:=omega) only[go_sem])|(apply qe;exact rvk;simp only[go_sem];apply qd)|(with_reducible first|intro _|apply aiA)|exact clz|fail
  refine hK _ _ (i+1) hi om (Wk.temps ?_)
  (simp only[go_sem,qg,qc,qa,qf];try (repeat' first|(with_reducible apply aiA)|(apply qh;omega)|(apply qd;rfl)|exact qi))
 have k1:((i:Int)<s.length)=False:=wi;simp (disch:=omega) only[k1,go_sem]
 repeat' first|exact v8|fail
theorem qCp(s:Str)(hs:s.length<=1000000):qlT Tryz.prog 329 [.ip [.str s],.ip [.nl]] []:=by
 intro h ts LI S E hS hE body start hts;refine acQ qw8 ?_;simp (disch:=omega) only[qvq,go_sem]
 repeat' first|with_reducible apply aiA|exact clz|fail
 refine qr (T:=λi:Nat=>qX 45 [(0,.yld h.length),(1,.ip [.str s]),(2,.ip [.nl]),(10,.int .i64 s.length),(11,.int .i64 i)]) (H:=λ_=>h++ [.lp .ready ts LI]++ [.emp 0]) (inv:=λi=>i<=s.length) (m:=λi=>s.length-i) 0 (nzl _) (Wk.temps ?_) ?_
 ·(simp only[go_sem,qg,qc,qa,qf];try exact wa)
 rintro i i1 K hK
 by_cases hi:i<s.length
 ·have k1:((i:Int)<s.length)=True:=wh;simp (disch:=omega) only[k1,go_sem]
  repeat' first|with_reducible apply aiA|exact clz|fail
  refine qr (T:=λ_:Unit=>qX 45 [(0,.yld h.length),(1,.ip [.str s]),(2,.ip [.nl]),(4,.int .i64 i),(10,.int .i64 s.length),(11,.int .i64 i),(14,.nl),(15,.int .i64 0),(16,.int .i64 0)]) (H:=λ_=>h++ [.lp .ready ts LI]++ [.emp 0]) (inv:=λ_=>True) (m:=λ_=>0) () trivial (Wk.temps ?_) ?_
  ·(simp only[go_sem,qg,qc,qa,qf];try exact wa)
  rintro⟨⟩ _ K' hK';simp (disch:=omega) only[go_sem]
  repeat' first|(with_reducible first|intro _|apply aiA)|exact clz|fail
  refine hK _ _ (i+1) hi om (Wk.temps ?_)
  (simp only[go_sem,qg,qc,qa,qf];try (repeat' first|(with_reducible apply aiA)|(apply qh;omega)|(apply qd;rfl)|exact qi))
 have k1:((i:Int)<s.length)=False:=wi;simp (disch:=omega) only[k1,go_sem];obtain⟨r1,r2⟩:=(hS _ _ start).retX (L:=LI) (xs:= []) .ready hts;exact zL trivial r1 r2 ⟨h,.inl ⟨start,rfl⟩⟩ (qi)
theorem qCJ(s:Str)(h:we):ACalls Tryz.prog 328 [.nl,.str s] h (.fn (.func 329) [] [.ip [.str s],.ip [.nl]]) h:=by
 refine acO qw7 ?_;simp (disch:=omega) only[qvp,go_sem]
 repeat' first|exact v7|fail
theorem qCX(s:Str)(h:we)(hs:s.length<=1000000):ACalls Tryz.prog 325 [.nl,.str s] h (.tup [.str s,.bool false]) h:=by
 have c1:=λh=>qCJ s h
 refine acO qw6 ?_;simp (disch:=omega) only[qvo,go_sem]
 repeat' first|(refine cA (c1 _) flk ?_;simp (disch:=omega) only[go_sem])
 refine zg (xs:= []) (qCp s hs) (by simp) (S:=λi hh=>hh=h++ [.mem 1 9 [.str []],.mem 1 4 [.bool false]]) (E:=λ_ _=>False) ?_ ?_ ?_ ?_ ?_ ?_ ?_
 ·rintro i hh rfl;exact LowI.refl _
 ·intro s hh hf;exact hf.elim
 ·rfl
 ·simp[qR,qR.lowVs]
  try omega
 ·rintro i hh tl LI TS hi;exact absurd hi (by simp)
 ·rintro hh rfl;simp (disch:=omega) only[go_sem]
  repeat' first|exact v7|fail
 ·intro e hh hf;exact hf.elim
theorem qC7(s:Str)(h:we)(hs:s.length<=1000000):ACalls Tryz.prog 319 [.nl,.str s] h (.tup [strs [s],.int .i64 0]) h:=by
 have c1:=λh=>qCX s h hs
 refine acO qw4 ?_;simp (disch:=omega) only[qvn,go_sem];refine qr (T:=λ_:Unit=>qX 32 [(0,.nl),(6,.osl (h.length+1) 1 1 0 1)]) (H:=λ_=>h++ [.emp 1,.mem 1 9 [.str s],.emp 0,.emp 0]) (inv:=λ_=>True) (m:=λ_=>0) () trivial (Wk.temps ?_) ?_
 ·(simp only[go_sem,qg,qc,qa,qf];try exact wa)
 rintro⟨⟩ _ K hK;simp (disch:=omega) only[go_sem]
 repeat' first|(refine cA (c1 _) flk ?_;simp (disch:=omega) only[go_sem])|(apply qb;exact rvk;simp only[go_sem])|with_reducible apply aiA|exact clz|fail
 refine qqg ⟨VLe.sl_eq rfl (λi hi=> ?_),qi,trivial⟩;obtain rfl:i=0:=by simp at hi;omega
 rfl
theorem qBS(s:Str)(h:we)(hs:s.length<=64)(hw: ∀i,i<s.length->SX (ch s i)=true):ACalls Tryz.prog 308 [.nl,.str s] h (.tup [strs [s],.int .i64 0]) h:=by
 have c1:=λh=>qC7 s h om
 have c2: ∀h,ACalls Tryz.prog 318 [.nl,.str s] h (.int .i64 0) h:=λh=>by
  have d1:=λh=>qBM h
  have d2:=λh=>qDd s h om hw
  have k1:((64:Int)<s.length)=False:=wi;refine acO qw3 ?_;simp (disch:=omega) only[qvm,go_sem]
  repeat' first|((first|refine cA (d1 _) ?_ ?_|refine cA (d2 _) ?_ ?_);exact flk;simp (disch:=omega) only[k1,go_sem])|exact v8|fail
 refine acO qw2 ?_;simp (disch:=omega) only[qvl,go_sem]
 repeat' first|((first|refine cA (c1 _) ?_ ?_|refine cA (c2 _) ?_ ?_);exact flk;simp (disch:=omega) only[go_sem])|exact v7|with_reducible apply aiA|exact clz|fail
theorem qAK(s:Str)(h:we)(hs:s.length<=64)(hw: ∀i,i<s.length->SX (ch s i)=true):ACalls Tryz.prog 286 [.nl,.str s] h (.tup [.str s,.int .i64 0]) h:=by
 have c1:=λh=>qBS s h hs hw
 unfold strs at c1;refine acO qwW ?_;simp (disch:=omega) only[qvg,go_sem]
 repeat' first|(refine cA (c1 _) flk ?_;simp (disch:=omega) only[go_sem])|exact v8|with_reducible apply aiA|exact clz|fail
end RC
end
section
open Go Go.Proofs AF HY LN
namespace AF
theorem LowI.retY{h hh xs ys:we}{ts:wg}{L:LInfo}(s:LS)(hl:LowI h hh)(hts: ∀c∈ts,qR (h.length+1) c=true)(hy:ys.length=xs.length)(hz: ∀o∈ys,o∈xs∨ ∀n,lowO n o):
  (hh++ .lp s ts L::ys).length=(h++ .lp .ready ts L::xs).length∧ ∀o∈hh++ .lp s ts L::ys,o∈h++ .lp .ready ts L::xs∨lowO (h++ .lp .ready ts L::xs).length o:=by
 refine⟨by simp[hl.1,hy],λo ho=> ?_⟩;rcases List.mem_append.1 ho with ho|ho
 ·rcases hl.2 o ho with h1|⟨h1,_⟩
  ·exact .inl (List.mem_append_left _ h1)
  ·exact .inr (lowO_mono (by simp) h1)
 ·rcases List.mem_cons.1 ho with rfl|ho
  ·exact .inr (λc hc=>kn (by simp) c (hts c hc))
  ·rcases hz o ho with h1|h1
   ·exact .inl (List.mem_append_right _ (List.mem_cons_of_mem _ h1))
   ·exact .inr (h1 _)
end AF
namespace RC
def atC(k:Int)(c:UInt8):wg:= [.int .i64 k,.int .u8 (c.toNat:Int),.int .i64 0,.str [],.int .i64 0,.bool false,.str []]
def atX(s:Str):List wg:=s.map λc=> [.agg (atC 1 c)]
theorem qao(s:Str):(atX s).length=s.length:=by unfold atX;simp
theorem qpn{s:Str}{i:Nat}(hi:i<(atX s).length):(atX s)[i]= [.agg (atC 1 (ch s i))]:=by
 have:i<s.length:=by rw[qao]at hi;exact hi
 simp[atX,ch,gdqA,this]
def qsn(s:Str)(j:Nat):UInt8:=if j=0 then 0 else ch s (j-1)
def cyA(n:Nat):AObj:= .mem 1 306 [.yld n]
def cxA(k:Int)(c:UInt8):AObj:= .mem 1 269 (atC k c)
def ceA(n:Nat):AObj:= .mem 1 307 [.fn (.func 281) [] [.op (n+2) 1 0,.op (n+1) 1 0,.op (n+3) 1 0]]
theorem qiL(k:Int)(c:UInt8): ∀n,lowO n (cxA k c):=λn d hd=>by
 simp[atC]at hd;rcases hd with rfl|rfl|rfl|rfl|rfl|rfl|rfl<;>rfl
section
variable {n : Nat} {hh m : we} {st : LS} {ts : wg} {LI : LInfo} {k : Int} {c : UInt8} {X : AObj}
theorem qzp(hl:hh.length=n):cellsOf (hh++ .lp st ts LI::cyA n::X::ceA n::m) (n+1) 1=some [.yld n]:=qM (show qt _ _=some (cyA n) by subst hl;unfold qt;simp)
theorem qzq(hl:hh.length=n):qt (n+2) (hh++ .lp st ts LI::cyA n::X::ceA n::m)=some X:=by subst hl;unfold qt;simp
theorem qua{Y:AObj}(hl:hh.length=n):qo (n+2) (hh++ .lp st ts LI::cyA n::X::ceA n::m) Y=hh++ .lp st ts LI::cyA n::Y::ceA n::m:=by subst hl;unfold qo;simp
end
theorem eachT(s:Str)(hl:s.length<=1000000)(h:we)(ts:wg)(LI:LInfo)(S:Nat->we->Prop)(E:LS->we->Prop)(hS: ∀i hh,S i hh->LowI h hh)(hE: ∀s hh,E s hh->LowI h hh)
  (body: ∀i hh tl,(hi:i<(atX s).length)->S i hh->jZ Tryz.prog h.length ((atX s)[i]) (hh++ .lp .ready ts LI::tl) (λr h'=> ∃hh',(r= .bool true∧S (i+1) hh'∧h'=hh'++ .lp .ready ts LI::tl)∨(∃s,r= .bool false∧E s hh'∧h'=hh'++ .lp s ts LI::tl)))
  (start:S 0 h) (hts: ∀c∈ts,qR (h.length+1) c=true):
  zZ Tryz.prog 281 [jW s,.op (h.length+2) 1 0,.op (h.length+1) 1 0,.op (h.length+3) 1 0] (h++ [.lp .ready ts LI,cyA h.length,cxA 0 0,ceA h.length])
   (λr h'=> ∃hh' c,(r= .bool true∧S s.length hh'∧h'=hh'++ [.lp .ready ts LI,cyA h.length,cxA 1 c,ceA h.length])∨(∃st,r= .bool false∧E st hh'∧h'=hh'++ [.lp st ts LI,cyA h.length,cxA 1 c,ceA h.length])):=by
 refine acQ qwT ?_;simp (disch:=omega) only[qvd,jW,ndC,go_sem];have key: ∀(hh:we) (k:Int) (c:UInt8),hh.length=h.length-> ∃B,B=hh++ [AObj.lp LS.ready ts LI,cyA h.length,cxA k c,ceA h.length]∧B.length=h.length+4∧qt (h.length+2) B=some (cxA k c)∧(∀Y m,cellsOf (qo (h.length+2) B Y++m) (h.length+1) 1=some [.yld h.length])∧
   (∀Y m,qo (h.length+2) B Y++m=hh++ [AObj.lp LS.ready ts LI,cyA h.length,Y,ceA h.length]++m):=λhh k c hl=>by
  refine⟨_,rfl,by simp[hl],qzq (m:= []) hl,λY m=> ?_,λY m=> ?_⟩
  ·rw[qua (m:= []) hl];have e:hh++ [AObj.lp LS.ready ts LI,cyA h.length,Y,ceA h.length]++m=hh++ .lp .ready ts LI::cyA h.length::Y::ceA h.length::m:=by simp
   rw[e];exact qzp hl
  ·rw[qua (m:= []) hl]
 have ea: ∀(g:we) st (X:AObj) m,g++ [AObj.lp st ts LI,cyA h.length,X,ceA h.length]++m=g++ .lp st ts LI::cyA h.length::X::ceA h.length::m:=λg st X m=>by simp
 refine qr (T:=λi:Nat×we×AObj×AObj×UInt8=>qX 93 [(1,.op (h.length+2) 1 0),(2,.op (h.length+1) 1 0),(3,.op (h.length+3) 1 0),(11,jW s),(12,.int .i64 ((1:Nat):Int)),(13,.int .i64 i.1)])
  (H:=λi=>i.2.1++ [.lp .ready ts LI,cyA h.length,cxA (if i.1=0 then 0 else 1) i.2.2.2.2,ceA h.length]++ [i.2.2.1,i.2.2.2.1])
  (inv:=λi=>i.1<=1∧S (if i.1=0 then 0 else s.length) i.2.1∧qI [i.2.2.1] 0=true∧qI [i.2.2.2.1] 0=true∧(i.1=0->i.2.2.2.2=0)) (m:=λi=>1-i.1) (0,h,.emp 0,.emp 0,0) ⟨nzl _,start,rfl,rfl,λ_=>rfl⟩ (Wk.temps ?_) ?_
 ·(simp only[jW,ndC,go_sem,qg,qc,qa,qf];try exact wa)
 rintro⟨i,hh,O7,O9,c⟩ ⟨i1,i2,i3,i4,i5⟩ K hK;simp only at i1 i2 i3 i4 i5 hK;obtain⟨hlen,hlow⟩:=hS _ _ i2;have i3': ∀m,qI (O7::m) 0=true:=λ_=>i3
 have i4': ∀m,qI (O9::m) 0=true:=λ_=>i4
 by_cases hi:i<1
 ·obtain rfl:i=0:=by omega
  obtain rfl:=i5 rfl;rw[ipo rfl]at i2;obtain⟨B,hB,hBl,hk,d1,d2⟩:=key hh 0 0 hlen;have hb:(h++ [AObj.lp LS.ready ts LI,cyA h.length,cxA 0 0,ceA h.length]).length=B.length:=by rw[hBl];simp
  have hkl:h.length+2<B.length:=by omega
  have s1: ∀ {l w cs z},cellsOf (qo (h.length+2) B (.mem w 269 cs)++l) (h.length+2) z=if w=z then some cs else none:=kY hkl
  have s2: ∀ {l o o'},qo (h.length+2) (qo (h.length+2) B o++l) o'=qo (h.length+2) B o'++l:=qb4 hkl;have s4: ∀ {l o},qt (h.length+2) (qo (h.length+2) B o++l)=some o:=qab hkl;show qU _ _ _ _ _ (hh++ [.lp .ready ts LI,cyA h.length,cxA 0 0,ceA h.length]++ [O7,O9]);rw[hb,<-hB];have hB0:B=qo (h.length+2) B (.mem 1 269 (atC 0 0)):=(jE hk).symm;rw[show B++ [O7,O9]=qo (h.length+2) B (.mem 1 269 (atC 0 0))++ [O7,O9]from by rw[<-hB0]];unfold atC;simp (disch:=omega) only[jW,ndC,i3',go_sem]
  repeat' first|(with_reducible first|intro _|apply aiA)|exact clz|fail
  refine kh ?T ?H ?h1 ?h2
  case h1=>
   simp (disch:=omega) only[s1,s2,s4,go_sem]
   repeat' first|with_reducible apply aiA
   all_goals first
    |omega
    |rfl
    |skip
  case h2=>
  simp (disch:=omega) only[s1,s2,s4,go_sem]
  repeat' first|(with_reducible first|intro _|apply aiA)|exact clz|fail
  rw[d2];obtain⟨O7',hO7⟩:=wc (AObj.mem (qq (some O7)+1) 198 (ndC s))
  refine qr (T:=λj:Nat×we=>qX 93 [(1,.op (h.length+2) 1 0),(2,.op (h.length+1) 1 0),(3,.op (h.length+3) 1 0),(7,.op B.length (qq (some O7)+1) 0),(11,jW s),(12,.int .i64 ((1:Nat):Int)),(13,.int .i64 ((0:Nat):Int)),(70,.int .i64 s.length),(71,.int .i64 j.1)])
   (H:=λj=>j.2++ [.lp .ready ts LI,cyA h.length,cxA 1 (qsn s j.1),ceA h.length]++ [O7',O9])
   (inv:=λj=>j.1<=s.length∧S j.1 j.2) (m:=λj=>s.length-j.1) (0,hh) ⟨nzl _,i2⟩ ?_ ?_
  ·rw[hO7];refine Wk.temps ?_
   (simp only[jW,ndC,go_sem,qg,qc,qa,qf];try (repeat' first|(with_reducible apply aiA)|(apply qh;omega)|(apply qd;rfl)|exact qi))
  rintro⟨j,hj⟩ ⟨j1,j2⟩ K' hK';simp only at j1 j2 hK';obtain⟨jlen,jlow⟩:=hS _ _ j2;obtain⟨C,hC,hCl,ck,e1,e2⟩:=key hj 1 (qsn s j) jlen;have ckl:h.length+2<C.length:=by omega
  have t1: ∀ {l w cs z},cellsOf (qo (h.length+2) C (.mem w 269 cs)++l) (h.length+2) z=if w=z then some cs else none:=kY ckl
  have t2: ∀ {l o o'},qo (h.length+2) (qo (h.length+2) C o++l) o'=qo (h.length+2) C o'++l:=qb4 ckl;have t4: ∀ {l o},qt (h.length+2) (qo (h.length+2) C o++l)=some o:=qab ckl;show qU _ _ _ _ _ (hj++ [.lp .ready ts LI,cyA h.length,cxA 1 (qsn s j),ceA h.length]++ [O7',O9]);have hbc:B.length=C.length:=by rw[hBl,hCl]
  simp only[hbc];rw[<-hC];have hC0:C=qo (h.length+2) C (.mem 1 269 (atC 1 (qsn s j))):=(jE ck).symm;rw[show C++ [O7',O9]=qo (h.length+2) C (.mem 1 269 (atC 1 (qsn s j)))++ [O7',O9]from by rw[<-hC0]];unfold atC;rw[hO7]
  by_cases hjl:j<s.length
  ·have k1:((j:Int)<s.length)=True:=wh;have e:(s[j]?).getD 0=ch s j:=by simp[ch,gdqA]
   have hb':=λtl=>body j hj tl (by rw[qao];exact hjl) j2
   simp only[qpn,atC]at hb';simp (disch:=omega) only[jW,ndC,t1,t2,t4,k1,e,e1,go_sem]
   repeat' first|with_reducible apply aiA|exact clz|fail
   ·rw[e2,ea];exact⟨.ready,ts,LI,kC jlen⟩
   ·rw[e2,ea];refine jZ.mono ?_ (hb' _);rintro v h' ⟨hh',⟨rfl,hn,rfl⟩|⟨st,rfl,hs',rfl⟩⟩
    ·simp (disch:=omega) only[go_sem];rw[<-ea];refine hK' _ _ (j+1,hh') ⟨hjl,hn⟩ (by simp only;omega) ?_;simp only[hO7,qsn,Nat.add_sub_cancel,hbc];rw[ine om];refine Wk.temps ?_
     (simp only[jW,ndC,go_sem,qg,qc,qa,qf];try (repeat' first|(with_reducible apply aiA)|(apply qh;omega)|(apply qd;rfl)|exact qi))
    ·simp (disch:=omega) only[go_sem];rw[<-ea hh' st];obtain⟨r1,r2⟩:=(hE _ _ hs').retY (L:=LI) (xs:= [cyA h.length,cxA 0 0,ceA h.length]) (ys:= [cyA h.length,cxA 1 (ch s j),ceA h.length]) st hts rfl (λo ho=>by
      simp only[List.mem_cons,List.not_mem_nil,or_false]at ho;rcases ho with rfl|rfl|rfl
      ·left;simp
      ·right;exact qiL 1 _
      ·left;simp)
     exact RU ⟨trivial,trivial⟩ r1 r2 ⟨hh',ch s j,.inr ⟨st,rfl,hs',rfl⟩⟩ (qi)
  have k1:((j:Int)<s.length)=False:=wi;obtain rfl:j=s.length:=by omega
  simp (disch:=omega) only[jW,ndC,k1,go_sem];rw[e2];refine hK _ _ (1,hj,O7',O9,qsn s s.length) ⟨nlr _,j2,by rw[hO7];rfl,i4,λh=>absurd h (by simp)⟩ (by simp only;omega) ?_;simp only[hO7];refine Wk.temps ?_
  (simp only[jW,ndC,go_sem,qg,qc,qa,qf];try (repeat' first|(with_reducible apply aiA)|(apply qh;omega)|(apply qd;rfl)|exact qi))
 ·obtain rfl:i=1:=by omega
  have i2:S s.length hh:=i2;show qU _ _ _ _ _ (hh++ [.lp .ready ts LI,cyA h.length,cxA 1 c,ceA h.length]++ [O7,O9]);simp (disch:=omega) only[jW,ndC,go_sem]
  repeat' first|(with_reducible first|intro _|apply aiA)|exact clz|fail
  obtain⟨r1,r2⟩:=(hS _ _ i2).retY (L:=LI) (xs:= [cyA h.length,cxA 0 0,ceA h.length]) (ys:= [cyA h.length,cxA 1 c,ceA h.length]) .ready hts rfl (λo ho=>by
   simp only[List.mem_cons,List.not_mem_nil,or_false]at ho;rcases ho with rfl|rfl|rfl
   ·left;simp
   ·right;exact qiL 1 c
   ·left;simp)
  exact RU ⟨trivial,trivial⟩ r1 r2 ⟨hh,c,.inl ⟨rfl,i2,rfl⟩⟩ (qi)
end RC
end
section
open Go Go.Proofs AF HY LN
namespace RC
theorem itA(s:Str)(hl:s.length<=1000000):qlT Tryz.prog 280 [.ip [.str [],.int .i64 0],.ip [jW s]] (atX s):=by
 intro h ts LI S E hS hE body start hts;have hb:(h++ [AObj.lp LS.ready ts LI]).length=h.length+1:=by simp
 have ea: ∀st,h++ [AObj.lp st ts LI]++ [.mem 1 306 [.yld h.length],.mem 1 269 [.int .i64 0,.int .u8 0,.int .i64 0,.str [],.int .i64 0,.bool false,.str []],.mem 1 307 [.fn (.func 281) [] [.op (h.length+2) 1 0,.op (h.length+1) 1 0,.op (h.length+3) 1 0]]]=h++ [AObj.lp st ts LI,cyA h.length,cxA 0 0,ceA h.length]:=λst=>by simp[cyA,cxA,ceA,atC]
 refine acQ qwS ?_;simp (disch:=omega) only[qvc,jW,go_sem]
 repeat' first|with_reducible apply aiA|exact clz|fail
 simp only[hb,Nat.add_assoc,Nat.reduceAdd,ea];refine qii (eachT s hl h ts LI S E hS hE body start hts) ?_;rintro v h' ⟨hh',c,⟨rfl,hn,rfl⟩|⟨st,rfl,hs',rfl⟩⟩
 ·simp (disch:=omega) only[go_sem];obtain⟨r1,r2⟩:=(hS _ _ hn).retX (L:=LI) (xs:= []) .ready hts;have eO:hh'++ [.lp .ready ts LI,cyA h.length,cxA 1 c,ceA h.length]=(hh'++ [.lp .ready ts LI])++ [cyA h.length,cxA 1 c,ceA h.length]:=by simp
  rw[eO];exact zL trivial r1 r2 ⟨hh',.inl ⟨by rw[qao];exact hn,rfl⟩⟩ (qi)
 ·simp (disch:=omega) only[go_sem];obtain⟨r1,r2⟩:=(hE _ _ hs').retX (L:=LI) (xs:= []) st hts;have eO:hh'++ [.lp st ts LI,cyA h.length,cxA 1 c,ceA h.length]=(hh'++ [.lp st ts LI])++ [cyA h.length,cxA 1 c,ceA h.length]:=by simp
  rw[eO];exact zL trivial r1 r2 ⟨hh',.inr ⟨st,hs',rfl⟩⟩ (qi)
theorem qB2(s:Str)(h:we):ACalls Tryz.prog 243 [.agg [.str [],.int .i64 0],jW s] h (.fn (.func 280) [] [.ip [.str [],.int .i64 0],.ip [jW s]]) h:=by
 refine acO qwG ?_;simp (disch:=omega) only[qu1,jW,ndC,go_sem]
 repeat' first|exact v7|fail
end RC
end
section
open Go Go.Proofs AF HY RC LN
namespace HY
theorem Ul(w:World)(b d:Nat)(v:Value):w.grownBy (w.setCell ⟨b,d,none⟩ v) (some b):=by
 unfold World.setCell;refine⟨rfl,rfl,rfl,?_,λk hk hne=> ?_⟩
 ·simp
 ·have:b≠k:=λe=>hne (by rw[e])
  simp[Array.getElem?_modify,this]
theorem qAC(n:Nat)(hn:6<=n):liesAt Tryz.prog Tryz.prog.depth 264 (n/Tryz.prog.cellsOf 264) 1 158 1=true:=by
 have e1:Tryz.prog.cellsOf 264=6:=by kernel_rfl
 have h1:liesAt Tryz.prog Tryz.prog.depth 264 1 1 158 1=true:=by kernel_rfl
 rw[e1];exact qaA om _ h1
theorem ccT(kb vb:Nat)(z0 z1 z2 z3:AV)(A B:AV)(h:we)(hk:qt kb h=some (.mem vb 264 [z0,A,B,z1,z2,z3]))(hA:A= .nilp∨A= .op kb vb 1):ACalls Tryz.prog 159 [.op kb vb 1] h (.tup []) (qo kb h (.mem vb 264 [z0,.op kb vb 1,B,z1,z2,z3])):=by
 refine⟨qnE Tryz.func159 (by kernel_rfl) (by kernel_rfl),λw σ xs H hv=> ?_⟩;obtain⟨x,rfl,hx⟩:=hv.one;have hc:=qM hk;obtain⟨cs,o,b,arr,g1,rfl,g2,g3,g4,g5,g6,g7,g9,g8⟩:=ko H hx (by rw[hc];rfl);rw[hc]at g1;cases g1;have hobj:=H.obj kb _ o hk g2;obtain⟨_,hty,_⟩:=hobj;rw[hty]at g5;have g5b:=g5;have g5:=g5.plain (by decide);have hsz:6<=arr.size:=g7;have hc0:w.cell? ⟨b,1,none⟩=some arr[1]:=by rw[jT g5b];simp
 have hA0:=g8 1 A arr[1] rfl (by simp);have hsh:w.shape? b=some (264,arr.size):=by simp[World.shape?,g5]
 have hfz:w.frozen? ⟨b,1,none⟩=false:=by simp[World.frozen?,g5]
 have hkl:=zD hk;rcases hA with rfl|rfl
 ·rw[qcm hA0]at hc0;refine (callsIn_wide.2 (qeG b 1 264 arr.size w hc0 om hsh hfz (qAC _ hsz))).mono ?_;rintro e w' ⟨rfl,rfl⟩;have hg:w.grownBy (w.setCell ⟨b,1,none⟩ (.pointer (some ⟨b,1,none⟩))) o.blk:=by rw[g4];exact Ul w b 1 _
  have hh:=heap_setCell_same w b 1 arr 264 (.pointer (some ⟨b,1,none⟩)) g5;obtain⟨u1,u2⟩:=H.update (o':=o) (a':= .mem vb 264 [z0,.op kb vb 1,B,z1,z2,z3]) g2 hg (nlr _) (λ_=>rfl)
   (by intro b' e;rw[g4]at e;cases e;exact⟨.inl g4,(Array.getElem?_eq_some_iff.1 hh).1⟩) (λb' r e hr=>by rw[g4]at e;cases e;rw[g5]at hr;cases hr)
   (λe=>⟨g3,hty,b,_,g4,by rw[hty];exact .mk hh,by simp[g6],by simp;exact hsz,λi y hi hy=>by
    simp only[Array.getElem?_setIfInBounds]at hy;split at hy
    ·split at hy
     ·cases hy;rfl
     ·cases hy
    ·exact g9 i y (by simpa using hi) hy,λi c y hc hy=>by
    simp only[Array.getElem?_setIfInBounds]at hy;split at hy
    ·rename_i e0;split at hy
     ·cases hy;subst e0;simp at hc;subst hc;have hko:(σ.set kb o)[kb]? =some o:=by rw[List.getElem?_set_self (by rw[H.len];exact hkl)]
      exact .op o hko ⟨_,rfl⟩ om (λ_=>⟨b,g4,rfl⟩)
     ·cases hy
    ·rename_i e0;have hne:i≠1:=λe1=>e0 e1.symm
     have hcs: [z0,.op kb vb 1,B,z1,z2,z3]= [z0,.nilp,B,z1,z2,z3].set 1 (.op kb vb 1):=rfl;rw[hcs,List.getElem?_set_ne (λe1=>hne e1.symm)]at hc
     exact (g8 i c y hc hy).ext e⟩)
  exact⟨_,_,rfl,u1,.imm (.tup rfl (λi c x hc=>by simp at hc)),u2⟩
 ·obtain⟨o',q1,q2,q3⟩:=qs8 hA0;rw[g2]at q1;cases q1;obtain⟨b',q4,q5⟩:=q3 g3;rw[g4]at q4;cases q4;rw[q5]at hc0;refine (callsIn_wide.2 (qin b 1 w hc0)).mono ?_;rintro e w' ⟨rfl,rfl⟩;rw[jE hk];exact⟨_,σ,rfl,H,.imm (.tup rfl (λi c x hc=>by simp at hc)),Ext.refl w' σ⟩
theorem qeE{kb vb kj v m:Nat}{z0 z1 z2 z3:AV}{h:we}{s:List UInt8}(lz0:qR h.length z0=true)(lz1:qR h.length z1=true)(lz2:qR h.length z2=true)(lz3:qR h.length z3=true)(hkl:kb<h.length)(hjl:kj<h.length): ∀o∈qo kj (qo kb h (.mem vb 264 [z0,.op kb vb 1,.osl kj v 1 0 m,z1,z2,z3])) (qaQ v s),o∈h∨lowO h.length o:=by
 intro o ho;rcases jg ho with h1|rfl
 ·rcases jg h1 with h2|rfl
  ·exact .inl h2
  ·right;intro c hc;simp only[List.mem_cons,List.not_mem_nil,or_false]at hc;rcases hc with rfl|rfl|rfl|rfl|rfl|rfl
   ·exact lz0
   ·simpa[qR] using hkl
   ·simpa[qR] using hjl
   ·exact lz1
   ·exact lz2
   ·exact lz3
 ·exact .inr (jb v s _)
theorem qDh(kb vb kj v:Nat)(z0 z1 z2 z3:AV)(A:AV)(s:List UInt8)(u:UInt8)(h:we)(lz0:qR h.length z0=true)(lz1:qR h.length z1=true)(lz2:qR h.length z2=true)(lz3:qR h.length z3=true)(hne:kj≠kb)(hk:qt kb h=some (.mem vb 264 [z0,A,.osl kj v 1 0 s.length,z1,z2,z3]))(hA:A= .nilp∨A= .op kb vb 1)(hj:qt kj h=some (qaQ v s))(hl:s.length+1<=140737488355328):
  ACalls Tryz.prog 307 [.op kb vb 1,.int .u8 u.toNat] h .nilif (qo kj (qo kb h (.mem vb 264 [z0,.op kb vb 1,.osl kj (v+1) 1 0 (s.length+1),z1,z2,z3])) (qaQ (v+1) (s++ [u]))):=by
 have hkl:=zD hk;have hjl:=zD hj;have hne':kb≠kj:=λe=>hne e.symm
 have hj0:kj≠h.length:=by omega
 have hj1:kj≠h.length+1:=by omega
 have hk1: ∀l,qt kb (h++l)=some (.mem vb 264 [z0,A,.osl kj v 1 0 s.length,z1,z2,z3]):=λl=>by rw[zk hkl,hk]
 refine acO qw1 ?_;simp (disch:=omega) only[qvk,go_sem];refine qy (ccT kb vb z0 z1 z2 z3 A _ _ (hk1 _) hA) ⟨rfl,trivial⟩ ?_
 by_cases hs:s= []
 ·subst hs;rw[U7]at hj;simp (disch:=omega) only[zw,jk,qP,qbI,qbJ,qb2,qb3,zO,jl,ql,qbf,hj,zS,go_sem]
  repeat' first|(with_reducible apply aiA)
  all_goals first
   |omega
   |(rw[bne_iff_ne];exact hj0)
   |(simp;done)
   |skip
  rw[qby hne',show AObj.mem (v+1) 5 [AV.int IntKind.u8 u.toNat]=qaQ (v+1) [u]from (Tm (s:= [u]) (by simp) _).symm];exact RU ⟨trivial,trivial⟩ (by simp only[qK]) (qeE lz0 lz1 lz2 lz3 hkl hjl) ⟨rfl,rfl⟩ (qi)
 ·rw[Tm hs]at hj;simp (disch:=omega) only[zw,jk,qP,qbI,qbJ,qb2,qb3,zO,jl,ql,SY,hj,jx,zS,go_sem]
  repeat' first|(with_reducible apply aiA)
  all_goals first
   |omega
   |(rw[bne_iff_ne];exact hj0)
   |(simp[jx];done)
   |skip
  rw[qby hne',ltl (by simp[jx]),show zz s++ [AV.int IntKind.u8 u.toNat]=zz (s++ [u])from (qa5 s [u]).symm,<-Tm (s:=s++ [u]) (by simp)];exact RU ⟨trivial,trivial⟩ (by simp only[qK]) (qeE lz0 lz1 lz2 lz3 hkl hjl) ⟨rfl,rfl⟩ (qi)
theorem qCZ(kb vb kj v:Nat)(z0 z1 z2 z3:AV)(A:AV)(s:List UInt8)(h:we)(hne:kj≠kb)(hk:qt kb h=some (.mem vb 264 [z0,A,.osl kj v 1 0 s.length,z1,z2,z3]))(hj:qt kj h=some (qaQ v s)):
  ACalls Tryz.prog 116 [.op kb vb 1] h (.str s) (qo kj h (.emp (v+1))):=by
 refine⟨qnE Tryz.func116 (by kernel_rfl) (by kernel_rfl),λw σ xs H hv=> ?_⟩;obtain⟨x,rfl,hx⟩:=hv.one;have hc:=qM hk;obtain⟨cs,o,b,arr,g1,rfl,g2,g3,g4,g5,g6,g7,g9,g8⟩:=ko H hx (by rw[hc];rfl);rw[hc]at g1;cases g1;have hty:=(H.obj kb _ o hk g2).2.1;rw[hty]at g5;have g5b:=g5;have g5:=g5.plain (by decide);have hsz:6<=arr.size:=g7;have hc1:w.cell? ⟨b,1+1,none⟩=some arr[1+1]:=by rw[jT g5b];simp
 have hB:=g8 (1+1) _ arr[1+1] rfl (by simp);obtain⟨oj,j1,j2,j3⟩:=qlP hB;have hobj:=H.obj kj _ oj hj j1;have hkj:=zD hj
 by_cases hs:s= []
 ·subst hs;rw[U7]at hj hobj;obtain⟨m1,m2⟩:=hobj;rcases j3 m1 with⟨_,_,_,e⟩|⟨b',cap,e,_⟩
  ·rw[e]at hc1;refine (callsIn_wide.2 (qfj b 1 w hc1)).mono ?_;rintro e w' ⟨rfl,rfl⟩;obtain⟨u1,u2⟩:=H.update (w':=w.drew) (o':= { oj with blk:=none,ver:=v+1 }) (a':= .emp (v+1)) j1 ⟨rfl,rfl,rfl,nlr _,λ_ _ _=>rfl⟩ (by simp only;omega) (by simp only;omega) (by intro b' e;cases e) (λb' r e hr=>⟨r,hr⟩) (λ_=>⟨rfl,rfl⟩);exact⟨_,_,rfl,u1,.imm .str,u2⟩
  ·rw[m2]at e;cases e
 ·rw[Tm hs]at hj hobj;obtain⟨m1,m2,bj,arrj,m3,m4,m5,m6,m7,m8⟩:=hobj;rcases j3 m1 with⟨e,_⟩|⟨b',cap,e1,e2,e3,e4,e5⟩
  ·rw[m3]at e;cases e
  ·rw[m3]at e1;cases e1;rw[e2]at hc1;rw[m2]at m4;have m4b:=m4;have m4:=m4.plain (by decide);rw[jx]at m6;refine (callsIn_wide.2 (qfk b 1 bj cap s arrj w hs hc1 m4 e3 e4 om (λj x hx=> ?_))).mono ?_
   ·have hjl:j<s.length:=(lgs.1 hx).1;rw[jT m4b];have ea:arrj[j]? =some arrj[j]:=by simp
    have:=m8 j (.int .u8 x.toNat) arrj[j] (by simp[zz,hx]) ea
    rw[ea,zH this]
   ·rintro e w' ⟨rfl,rfl⟩;have hg:w.grownBy (w.drew.freeze ⟨bj,0,none⟩ s.length) oj.blk:=by
     rw[m3];exact UL w bj s.length
    obtain⟨u1,u2⟩:=H.update (o':= { oj with blk:=none,ver:=v+1 }) (a':= .emp (v+1)) j1 hg (by simp only;omega) (by simp only;omega) (by intro b' e;cases e)
     (λb' r e hr=>by rw[m3]at e;cases e;rw[m4]at hr;cases hr) (λ_=>⟨rfl,rfl⟩)
    exact⟨_,_,rfl,u1,.imm .str,u2⟩
end HY
end
section
open Go Go.Proofs AF HY LN
namespace AF
def tri(h:we)(a b c:Nat)(X Y Z:AObj):we:=qo c (qo b (qo a h X) Y) Z
structure T3 (h:we) (a b c:Nat):Prop where
 la:a<h.length
 lb:b<h.length
 lc:c<h.length
 ab:a≠b
 ac:a≠c
 bc:b≠c
section
variable {h l : we} {a b c n v : Nat} {X Y Z o : AObj}
theorem T3.app(t:T3 h a b c)(l:we):T3 (h++l) a b c:=by
 have:=t.la;have:=t.lb;have:=t.lc
 exact⟨by rw[lap];omega,by rw[lap];omega,by rw[lap];omega,t.ab,t.ac,t.bc⟩
theorem tri_len:(tri h a b c X Y Z).length=h.length:=by unfold tri;simp only[qK]
theorem qs0(t:T3 h a b c):tri (h++l) a b c X Y Z=tri h a b c X Y Z++l:=by
 unfold tri;rw[zw t.la,zw (by rw[qK];exact t.lb),zw (by rw[qK,qK];exact t.lc)]
theorem R9(t:T3 h a b c):qt a (tri h a b c X Y Z++l)=some X:=by
 rw[zk (by rw[tri_len];exact t.la)];unfold tri;rw[qP t.ac,qP t.ab,jk t.la]
theorem SN(t:T3 h a b c):qt b (tri h a b c X Y Z++l)=some Y:=by
 rw[zk (by rw[tri_len];exact t.lb)];unfold tri;rw[qP t.bc,jk (by rw[qK];exact t.lb)]
theorem Si(t:T3 h a b c):qt c (tri h a b c X Y Z++l)=some Z:=by
 rw[zk (by rw[tri_len];exact t.lc)];unfold tri;rw[jk (by rw[qK,qK];exact t.lc)]
theorem SO(t:T3 h a b c):qo a (tri h a b c X Y Z++l) o=tri h a b c o Y Z++l:=by
 rw[zw (by rw[tri_len];exact t.la)];unfold tri;rw[kq t.ac,kq t.ab,kT]
theorem Td(t:T3 h a b c):qo b (tri h a b c X Y Z++l) o=tri h a b c X o Z++l:=by
 rw[zw (by rw[tri_len];exact t.lb)];unfold tri;rw[kq t.bc,kT]
theorem Tf(t:T3 h a b c):qo c (tri h a b c X Y Z++l) o=tri h a b c X Y o++l:=by
 rw[zw (by rw[tri_len];exact t.lc)];unfold tri;rw[kT]
theorem tri_go:qt (h.length+n) (tri h a b c X Y Z++l)=l[n]? :=by
 have:= @getO_app (tri h a b c X Y Z) l n
 rwa [tri_len]at this
theorem tri_go0:qt h.length (tri h a b c X Y Z++l)=l[0]? :=by
 have:= @getO_app0 (tri h a b c X Y Z) l
 rwa [tri_len]at this
theorem tri_so:qo (h.length+n) (tri h a b c X Y Z++l) o=tri h a b c X Y Z++l.set n o:=by
 have:= @setO_app (tri h a b c X Y Z) l n o
 rwa [tri_len]at this
theorem tri_so0:qo h.length (tri h a b c X Y Z++l) o=tri h a b c X Y Z++l.set 0 o:=by
 have:= @setO_app0 (tri h a b c X Y Z) l o
 rwa [tri_len]at this
theorem tri_co:cellsOf (tri h a b c X Y Z++l) (h.length+n) v=cellsOf l n v:=by unfold cellsOf;rw[tri_go];rfl
theorem tri_co0:cellsOf (tri h a b c X Y Z++l) h.length v=cellsOf l 0 v:=by unfold cellsOf;rw[tri_go0];rfl
theorem tri_to:qI (tri h a b c X Y Z++l) (h.length+n)=qI l n:=by unfold qI;rw[tri_go];rfl
theorem tri_to0:qI (tri h a b c X Y Z++l) h.length=qI l 0:=by unfold qI;rw[tri_go0];rfl
theorem tri_lo:qz (tri h a b c X Y Z++l) (h.length+n) v=qz l n v:=by unfold qz;rw[tri_go];rfl
theorem T9(t:T3 h a b c):cellsOf (tri h a b c X Y Z++l) a v=qv (some X) v:=by rw[zO,R9 t]
theorem Ua(t:T3 h a b c):cellsOf (tri h a b c X Y Z++l) b v=qv (some Y) v:=by rw[zO,SN t]
theorem Ub(t:T3 h a b c):cellsOf (tri h a b c X Y Z++l) c v=qv (some Z) v:=by rw[zO,Si t]
theorem Uc(t:T3 h a b c):qz (tri h a b c X Y Z++l) a v=qF (some X) v:=by rw[jl,R9 t]
theorem Ud(t:T3 h a b c):qz (tri h a b c X Y Z++l) b v=qF (some Y) v:=by rw[jl,SN t]
theorem Ue(t:T3 h a b c):qz (tri h a b c X Y Z++l) c v=qF (some Z) v:=by rw[jl,Si t]
theorem qs2(t:T3 h a b c){X' Y' Z':AObj}:tri (tri h a b c X Y Z) a b c X' Y' Z'=tri h a b c X' Y' Z':=by
 have e1:=SO (X:=X) (Y:=Y) (Z:=Z) (l:= []) (o:=X') t;have e2:=Td (X:=X') (Y:=Y) (Z:=Z) (l:= []) (o:=Y') t;have e3:=Tf (X:=X') (Y:=Y') (Z:=Z) (l:= []) (o:=Z') t;simp only[lan]at e1 e2 e3
 conv=>lhs;unfold tri
 rw[show qo c (qo b (qo a h X) Y) Z=tri h a b c X Y Z from rfl,e1,e2,e3]
theorem jG(t:T3 h a b c){X' Y' Z':AObj}(hx:lowO h.length X')(hy:lowO h.length Y')(hz:lowO h.length Z'): ∀o∈tri h a b c X' Y' Z',o∈tri h a b c X Y Z∨lowO (tri h a b c X Y Z).length o:=by
 intro o ho;rw[tri_len];rw[<-qs2 (X:=X) (Y:=Y) (Z:=Z) t]at ho;unfold tri at ho;rcases jg ho with h1|rfl
 ·rcases jg h1 with h1|rfl
  ·rcases jg h1 with h1|rfl
   ·exact .inl h1
   ·exact .inr hx
  ·exact .inr hy
 ·exact .inr hz
end
attribute [go_sem] tri_len tri_go tri_go0 tri_so tri_so0 tri_co tri_co0 tri_to tri_to0 tri_lo
theorem ACalls.wk{P:Program}{f:FuncId}{args:wg}{h h' h'':we}{r:AV}(hc:ACalls P f args h r h')(hw:Wk [] h' [] h''):ACalls P f args h r h'':=by
 refine⟨hc.1,λw σ xs H hv=>(hc.2 w σ xs H hv).mono ?_⟩;rintro e w' ⟨v,σ',rfl,g1,g2,g3⟩;obtain⟨σ2,s1,s2⟩:=hw w'.heap.size w' σ' { tmps:= #[],defers:= [] } ⟨g1,rfl,λi c x hc=>(by simp at hc),⟨[],rfl,.nil,nlr _,λr hr=>(by cases hr)⟩⟩;exact⟨v,σ2,rfl,s1.hr,g2.ext s2,g3.trans s2⟩
end AF
namespace RC
def jf(L:List Tk):wg:=L.flatMap tkC
theorem qem(t:Tk):(tkC t).length=6:=rfl
theorem jF(L:List Tk):(jf L).length=L.length*6:=by
 unfold jf
 induction L with
 |nil=>rfl
 |cons a L ih=>rw[List.flatMap_cons,lap,ih,lco,qem];omega
theorem qcc(A B:List Tk):jf (A++B)=jf A++jf B:=by simp[jf]
theorem qfl(a:Tk):jf [a]=tkC a:=by simp[jf]
theorem qlf(L:List Tk): ∀i,(jf L).take (i*6)=jf (L.take i):=by
 induction L with
 |nil=>intro i;simp[jf]
 |cons a L ih=>
  intro i;cases i with
  |zero=>simp[jf]
  |succ i=>
   rw[show jf (a::L)=tkC a++jf L from rfl,show (a::L).take (i+1)=a::L.take i from rfl,show jf (a::L.take i)=tkC a++jf (L.take i)from rfl,<-ih i];rw[show (i+1)*6=(tkC a).length+i*6 by rw[qem];omega,List.take_append,ltl om,Nat.add_sub_cancel_left]
theorem qdq(L:List Tk): ∀i,(jf L).drop (i*6)=jf (L.drop i):=by
 induction L with
 |nil=>intro i;simp[jf]
 |cons a L ih=>
  intro i;cases i with
  |zero=>simp
  |succ i=>
   rw[show jf (a::L)=tkC a++jf L from rfl,show (a::L).drop (i+1)=L.drop i from rfl,<-ih i];rw[show (i+1)*6=(tkC a).length+i*6 by rw[qem];omega,List.drop_append,List.drop_eq_nil_of_le om,lna,Nat.add_sub_cancel_left]
theorem T8{L:List Tk}{i:Nat}(hi:i<L.length):((jf L).drop (i*6)).take 6=tkC (L.getD i default):=by
 rw[qdq,List.drop_eq_getElem_cons hi,gdqA,zG hi];rfl
theorem qfm{L:List Tk}{i:Nat}(e:Tk)(hi:i<L.length):(jf L).take (i*6)++(tkC e++(jf L).drop (i*6+6))=jf (L.set i e):=by
 rw[List.set_eq_take_append_cons_drop,ipo hi,show i*6+6=(i+1)*6 by omega,qlf,qdq,qcc];rw[show e::List.drop (i+1) L= [e]++List.drop (i+1) L from rfl,qcc,qfl]
theorem qcd{L:List Tk}{i k:Nat}(hi:i<L.length)(hk:k<6):(jf L)[i*6+k]? =(tkC (L.getD i default))[k]? :=by
 rw[<-T8 hi,List.getElem?_take,ipo hk,List.getElem?_drop]
theorem ke(L:List Tk)(n:Nat): ∀c∈jf L,qR n c=true:=by
 intro c hc;unfold jf at hc;obtain⟨x,_,hx⟩:=List.mem_flatMap.1 hc;unfold tkC at hx;simp only[List.mem_cons,List.not_mem_nil,or_false]at hx;rcases hx with rfl|rfl|rfl|rfl|rfl|rfl<;>rfl
structure Br where
 out:List Tk
 word:Str
 opn:Bool
 jn:Bool
 vo:Nat
 vw:Nat
 ad:Bool
def brX(a b c va:Nat)(q:Br):AObj:= .mem va 264 [.osl b q.vo 6 0 q.out.length,if q.ad=true then .op a va 1 else .nilp,.osl c q.vw 1 0 q.word.length,.bool q.opn,.bool q.jn,.bool false]
def brY(q:Br):AObj:=ze q.vo 92 (jf q.out)
def brO(h:we)(a b c va:Nat)(q:Br):we:=tri h a b c (brX a b c va q) (brY q) (qaQ q.vw q.word)
def Tz(L:List Tk)(w:Str):List Tk:=L.set (L.length-1) ⟨w,(L.getD (L.length-1) default).norm,(L.getD (L.length-1) default).page,(L.getD (L.length-1) default).line,(L.getD (L.length-1) default).flags,(L.getD (L.length-1) default).name⟩
def Br.nd(q:Br):Br:=if q.opn=true then ⟨Tz q.out q.word,[],false,q.jn,q.vo,q.vw+1,false⟩ else ⟨q.out,[],false,q.jn,q.vo,q.vw,false⟩
def Br.st(q:Br)(f:Int):Br:=⟨q.out++ [tkF (f+jfl q.jn q.out.length) []],q.word,q.opn,true,q.vo+1,q.vw,q.ad⟩
def Br.wb(q:Br)(c:UInt8):Br:=⟨q.out,q.word++ [c],q.opn,q.jn,q.vo,q.vw+1,true⟩
def Br.op(q:Br):Br:=⟨q.out,q.word,true,q.jn,q.vo,q.vw,q.ad⟩
def Br.sp(q:Br):Br:=⟨q.out,q.word,q.opn,false,q.vo,q.vw,q.ad⟩
def Br.tx(q:Br)(w:Str):Br:=⟨Tz q.out w,q.word,q.opn,q.jn,q.vo,q.vw,q.ad⟩
def Br.pt(q:Br)(c:UInt8):Br:=if q.opn=true∧SX c=true then q.wb c else if bgn c=true then ((q.st 0).op).wb c else if kind c=6 then q.nd.sp else (q.nd.st 8).tx [c]
theorem jI{h:we}{a b c:Nat}(t:T3 h a b c)(va:Nat)(q:Br):lowO h.length (brX a b c va q):=by
 intro x hx
 have:=t.la;have:=t.lb;have:=t.lc
 simp only[List.mem_cons,List.not_mem_nil,or_false]at hx;rcases hx with rfl|rfl|rfl|rfl|rfl|rfl
 ·simp[qR];assumption
 ·split
  ·simp[qR];assumption
  ·rfl
 ·simp[qR];assumption
 ·rfl
 ·rfl
 ·rfl
theorem kW(q:Br)(n:Nat):lowO n (brY q):=jp (ke q.out n)
theorem qbz{h:we}{a b c va:Nat}{q:Br}:(brO h a b c va q).length=h.length:=tri_len
end RC
end
section
open Go Go.Proofs AF HY LN
namespace AF
theorem qaE{v:Nat}{ty:TypeId}{cs:wg}:qha (some (ze v ty cs)) ty=true:=by
 unfold ze;split<;>simp[qha]
end AF
namespace RC
section
variable {h : we} {a b c va : Nat}
theorem qa3{q:Br}(hn:0<q.out.length):brY q= .mem q.vo 92 (jf q.out):=by
 unfold brY ze;rw[ine];intro e
 have:=congrArg List.length e
 rw[jF,lnl]at this;omega
theorem qqs(t:T3 h a b c)(q:Br)(hn:0<q.out.length)(hm:q.out.length<=1000000):ACalls Tryz.prog 284 [.op a va 0] (brO h a b c va q) (.op b q.vo ((q.out.length-1)*6)) (brO h a b c va q):=by
 have ta:=t.la;have tb:=t.lb;have tc:=t.lc;have zga: ∀ {X Y Z l},qt (a) (tri h a b c X Y Z++l)=some X:=R9 (t);have yga: ∀ {X Y Z},qt (a) (tri h a b c X Y Z)=some X:=λ{X Y Z}=>by have:=zga (X:=X) (Y:=Y) (Z:=Z) (l:= []);simpa only[lan] using this
 have zgb: ∀ {X Y Z l},qt (b) (tri h a b c X Y Z++l)=some Y:=SN (t);have ygb: ∀ {X Y Z},qt (b) (tri h a b c X Y Z)=some Y:=λ{X Y Z}=>by have:=zgb (X:=X) (Y:=Y) (Z:=Z) (l:= []);simpa only[lan] using this
 have zgc: ∀ {X Y Z l},qt (c) (tri h a b c X Y Z++l)=some Z:=Si (t);have ygc: ∀ {X Y Z},qt (c) (tri h a b c X Y Z)=some Z:=λ{X Y Z}=>by have:=zgc (X:=X) (Y:=Y) (Z:=Z) (l:= []);simpa only[lan] using this
 have zsa: ∀ {X Y Z o l},qo (a) (tri h a b c X Y Z++l) o=tri h a b c o Y Z++l:=SO (t);have ysa: ∀ {X Y Z o},qo (a) (tri h a b c X Y Z) o=tri h a b c o Y Z:=λ{X Y Z o}=>by have:=zsa (X:=X) (Y:=Y) (Z:=Z) (o:=o) (l:= []);simpa only[lan] using this
 have zsb: ∀ {X Y Z o l},qo (b) (tri h a b c X Y Z++l) o=tri h a b c X o Z++l:=Td (t);have ysb: ∀ {X Y Z o},qo (b) (tri h a b c X Y Z) o=tri h a b c X o Z:=λ{X Y Z o}=>by have:=zsb (X:=X) (Y:=Y) (Z:=Z) (o:=o) (l:= []);simpa only[lan] using this
 have zsc: ∀ {X Y Z o l},qo (c) (tri h a b c X Y Z++l) o=tri h a b c X Y o++l:=Tf (t);have ysc: ∀ {X Y Z o},qo (c) (tri h a b c X Y Z) o=tri h a b c X Y o:=λ{X Y Z o}=>by have:=zsc (X:=X) (Y:=Y) (Z:=Z) (o:=o) (l:= []);simpa only[lan] using this
 have zca: ∀ {X Y Z v l},cellsOf (tri h a b c X Y Z++l) (a) v=qv (some X) v:=T9 (t);have yca: ∀ {X Y Z v},cellsOf (tri h a b c X Y Z) (a) v=qv (some X) v:=λ{X Y Z v}=>by have:=zca (X:=X) (Y:=Y) (Z:=Z) (v:=v) (l:= []);simpa only[lan] using this
 have zcb: ∀ {X Y Z v l},cellsOf (tri h a b c X Y Z++l) (b) v=qv (some Y) v:=Ua (t);have ycb: ∀ {X Y Z v},cellsOf (tri h a b c X Y Z) (b) v=qv (some Y) v:=λ{X Y Z v}=>by have:=zcb (X:=X) (Y:=Y) (Z:=Z) (v:=v) (l:= []);simpa only[lan] using this
 have zcc: ∀ {X Y Z v l},cellsOf (tri h a b c X Y Z++l) (c) v=qv (some Z) v:=Ub (t);have ycc: ∀ {X Y Z v},cellsOf (tri h a b c X Y Z) (c) v=qv (some Z) v:=λ{X Y Z v}=>by have:=zcc (X:=X) (Y:=Y) (Z:=Z) (v:=v) (l:= []);simpa only[lan] using this
 have zla: ∀ {X Y Z v l},qz (tri h a b c X Y Z++l) (a) v=qF (some X) v:=Uc (t);have yla: ∀ {X Y Z v},qz (tri h a b c X Y Z) (a) v=qF (some X) v:=λ{X Y Z v}=>by have:=zla (X:=X) (Y:=Y) (Z:=Z) (v:=v) (l:= []);simpa only[lan] using this
 have zlb: ∀ {X Y Z v l},qz (tri h a b c X Y Z++l) (b) v=qF (some Y) v:=Ud (t);have ylb: ∀ {X Y Z v},qz (tri h a b c X Y Z) (b) v=qF (some Y) v:=λ{X Y Z v}=>by have:=zlb (X:=X) (Y:=Y) (Z:=Z) (v:=v) (l:= []);simpa only[lan] using this
 have zlc: ∀ {X Y Z v l},qz (tri h a b c X Y Z++l) (c) v=qF (some Z) v:=Ue (t);have ylc: ∀ {X Y Z v},qz (tri h a b c X Y Z) (c) v=qF (some Z) v:=λ{X Y Z v}=>by have:=zlc (X:=X) (Y:=Y) (Z:=Z) (v:=v) (l:= []);simpa only[lan] using this
 have e1:((q.out.length:Int)-1).toNat=q.out.length-1:=by omega
 have k1:(0<=(q.out.length:Int)-1)=True:=wh;have k2:((q.out.length:Int)-1<q.out.length)=True:=wh;unfold brO;rw[qa3 hn];unfold brX;refine acO qwU ?_;simp (disch:=omega) only[qve,yca,ycb,ylb,ql,SY,e1,k1,k2,go_sem]
 repeat' first|(apply qe;exact rvk;simp only[go_sem])
 rw[ine om];exact qi
theorem Wk.triNil{t:wg}{X Z:AObj}{Y:AObj}{v i ve sz:Nat}{ty:TypeId}{cs:wg}(T:T3 h a b c)(hX:X= .mem v ty cs)(hi:cs[i]? =some .nl)(hZ:Z= .emp ve):
  Wk t (tri h a b c X Y Z) t (tri h a b c (.mem v ty (cs.set i (.osl c ve sz 0 0))) Y Z):=by
 subst hX;subst hZ;have e:=SO (X:= .mem v ty cs) (Y:=Y) (Z:= .emp ve) (l:= []) (o:= .mem v ty (cs.set i (.osl c ve sz 0 0))) T;simp only[lan]at e;rw[<-e];refine Wk.ownNil (j:=a) (k:=c) ?_ hi ?_
 ·have:=R9 (X:= .mem v ty cs) (Y:=Y) (Z:= .emp ve) (l:= []) T
  simpa only[lan] using this
 ·have:=Si (X:= .mem v ty cs) (Y:=Y) (Z:= .emp ve) (l:= []) T
  simpa only[lan] using this
theorem qud(t:T3 h a b c)(X0 X1 X2 X3 X4 X5:AV)(Y:AObj)(v:Nat)(l0:qR h.length X0=true)(l3:qR h.length X3=true)(l4:qR h.length X4=true)(l5:qR h.length X5=true)(ly:lowO h.length Y):
  ACalls Tryz.prog 285 [.op a va 1] (tri h a b c (.mem va 264 [X0,X1,X2,X3,X4,X5]) Y (.emp v)) (.tup []) (tri h a b c (.mem va 264 [X0,.nilp,.osl c v 1 0 0,X3,X4,X5]) Y (.emp v)):=by
 have ta:=t.la;have tb:=t.lb;have tc:=t.lc;refine ACalls.wk (h':=tri h a b c (.mem va 264 [X0,.nilp,.nl,X3,X4,X5]) Y (.emp v)) ?_ (Wk.triNil (v:=va) (ty:=264) (cs:= [X0,.nilp,.nl,X3,X4,X5]) (i:=2) (sz:=1) t rfl rfl rfl);have zga: ∀ {X Y Z l},qt (a) (tri h a b c X Y Z++l)=some X:=R9 (t);have yga: ∀ {X Y Z},qt (a) (tri h a b c X Y Z)=some X:=λ{X Y Z}=>by have:=zga (X:=X) (Y:=Y) (Z:=Z) (l:= []);simpa only[lan] using this
 have zgb: ∀ {X Y Z l},qt (b) (tri h a b c X Y Z++l)=some Y:=SN (t);have ygb: ∀ {X Y Z},qt (b) (tri h a b c X Y Z)=some Y:=λ{X Y Z}=>by have:=zgb (X:=X) (Y:=Y) (Z:=Z) (l:= []);simpa only[lan] using this
 have zgc: ∀ {X Y Z l},qt (c) (tri h a b c X Y Z++l)=some Z:=Si (t);have ygc: ∀ {X Y Z},qt (c) (tri h a b c X Y Z)=some Z:=λ{X Y Z}=>by have:=zgc (X:=X) (Y:=Y) (Z:=Z) (l:= []);simpa only[lan] using this
 have zsa: ∀ {X Y Z o l},qo (a) (tri h a b c X Y Z++l) o=tri h a b c o Y Z++l:=SO (t);have ysa: ∀ {X Y Z o},qo (a) (tri h a b c X Y Z) o=tri h a b c o Y Z:=λ{X Y Z o}=>by have:=zsa (X:=X) (Y:=Y) (Z:=Z) (o:=o) (l:= []);simpa only[lan] using this
 have zsb: ∀ {X Y Z o l},qo (b) (tri h a b c X Y Z++l) o=tri h a b c X o Z++l:=Td (t);have ysb: ∀ {X Y Z o},qo (b) (tri h a b c X Y Z) o=tri h a b c X o Z:=λ{X Y Z o}=>by have:=zsb (X:=X) (Y:=Y) (Z:=Z) (o:=o) (l:= []);simpa only[lan] using this
 have zsc: ∀ {X Y Z o l},qo (c) (tri h a b c X Y Z++l) o=tri h a b c X Y o++l:=Tf (t);have ysc: ∀ {X Y Z o},qo (c) (tri h a b c X Y Z) o=tri h a b c X Y o:=λ{X Y Z o}=>by have:=zsc (X:=X) (Y:=Y) (Z:=Z) (o:=o) (l:= []);simpa only[lan] using this
 have zca: ∀ {X Y Z v l},cellsOf (tri h a b c X Y Z++l) (a) v=qv (some X) v:=T9 (t);have yca: ∀ {X Y Z v},cellsOf (tri h a b c X Y Z) (a) v=qv (some X) v:=λ{X Y Z v}=>by have:=zca (X:=X) (Y:=Y) (Z:=Z) (v:=v) (l:= []);simpa only[lan] using this
 have zcb: ∀ {X Y Z v l},cellsOf (tri h a b c X Y Z++l) (b) v=qv (some Y) v:=Ua (t);have ycb: ∀ {X Y Z v},cellsOf (tri h a b c X Y Z) (b) v=qv (some Y) v:=λ{X Y Z v}=>by have:=zcb (X:=X) (Y:=Y) (Z:=Z) (v:=v) (l:= []);simpa only[lan] using this
 have zcc: ∀ {X Y Z v l},cellsOf (tri h a b c X Y Z++l) (c) v=qv (some Z) v:=Ub (t);have ycc: ∀ {X Y Z v},cellsOf (tri h a b c X Y Z) (c) v=qv (some Z) v:=λ{X Y Z v}=>by have:=zcc (X:=X) (Y:=Y) (Z:=Z) (v:=v) (l:= []);simpa only[lan] using this
 have zla: ∀ {X Y Z v l},qz (tri h a b c X Y Z++l) (a) v=qF (some X) v:=Uc (t);have yla: ∀ {X Y Z v},qz (tri h a b c X Y Z) (a) v=qF (some X) v:=λ{X Y Z v}=>by have:=zla (X:=X) (Y:=Y) (Z:=Z) (v:=v) (l:= []);simpa only[lan] using this
 have zlb: ∀ {X Y Z v l},qz (tri h a b c X Y Z++l) (b) v=qF (some Y) v:=Ud (t);have ylb: ∀ {X Y Z v},qz (tri h a b c X Y Z) (b) v=qF (some Y) v:=λ{X Y Z v}=>by have:=zlb (X:=X) (Y:=Y) (Z:=Z) (v:=v) (l:= []);simpa only[lan] using this
 have zlc: ∀ {X Y Z v l},qz (tri h a b c X Y Z++l) (c) v=qF (some Z) v:=Ue (t);have ylc: ∀ {X Y Z v},qz (tri h a b c X Y Z) (c) v=qF (some Z) v:=λ{X Y Z v}=>by have:=zlc (X:=X) (Y:=Y) (Z:=Z) (v:=v) (l:= []);simpa only[lan] using this
 refine acO qwV ?_;simp (disch:=omega) only[qvf,yga,ysa,yca,ql,go_sem];refine jA trivial (by simp only[tri_len]) (jG t (λx hx=> ?_) ly trivial) ⟨rfl,rfl⟩ (qi);simp only[List.mem_cons,List.not_mem_nil,or_false]at hx;rcases hx with rfl|rfl|rfl|rfl|rfl|rfl
 ·exact l0
 ·rfl
 ·rfl
 ·exact l3
 ·exact l4
 ·exact l5
theorem qlg{L:List Tk}(w:Str)(hn:0<L.length):(jf L).take ((L.length-1)*6)++([AV.str w]++(jf L).drop ((L.length-1)*6+1))=jf (Tz L w):=by
 unfold Tz;rw[<-qfm _ om];refine congrArg _ ?_;have e:(jf L).drop ((L.length-1)*6+1)=(tkC (L.getD (L.length-1) default)).drop 1++(jf L).drop ((L.length-1)*6+6):=by
  rw[<-T8 (L:=L) (i:=L.length-1) om];have e2:(jf L).drop ((L.length-1)*6)=((jf L).drop ((L.length-1)*6)).take 6++((jf L).drop ((L.length-1)*6)).drop 6:=(List.take_append_drop _ _).symm;have hl:=jF L;have hl2:((jf L).drop ((L.length-1)*6)).length=L.length*6-(L.length-1)*6:=by rw[List.length_drop,hl]
  rw[<-List.drop_drop,<-List.drop_drop (i:=6),<-List.drop_append_of_le_length (by rw[List.length_take];omega),List.take_append_drop]
 rw[e];rfl
theorem SK(L:List Tk)(w:Str):(Tz L w).length=L.length:=by unfold Tz;rw[List.length_set]
theorem qqr(t:T3 h a b c)(q:Br)(ho:q.opn=true->0<q.out.length)(hw:q.opn=false->q.word= [])(hm:q.out.length<=1000000)(hl:q.word.length<=1000000):ACalls Tryz.prog 245 [.op a va 0] (brO h a b c va q) (.tup []) (brO h a b c va q.nd):=by
 have ta:=t.la;have tb:=t.lb;have tc:=t.lc;have zga: ∀ {X Y Z l},qt (a) (tri h a b c X Y Z++l)=some X:=R9 (t);have yga: ∀ {X Y Z},qt (a) (tri h a b c X Y Z)=some X:=λ{X Y Z}=>by have:=zga (X:=X) (Y:=Y) (Z:=Z) (l:= []);simpa only[lan] using this
 have zgb: ∀ {X Y Z l},qt (b) (tri h a b c X Y Z++l)=some Y:=SN (t);have ygb: ∀ {X Y Z},qt (b) (tri h a b c X Y Z)=some Y:=λ{X Y Z}=>by have:=zgb (X:=X) (Y:=Y) (Z:=Z) (l:= []);simpa only[lan] using this
 have zgc: ∀ {X Y Z l},qt (c) (tri h a b c X Y Z++l)=some Z:=Si (t);have ygc: ∀ {X Y Z},qt (c) (tri h a b c X Y Z)=some Z:=λ{X Y Z}=>by have:=zgc (X:=X) (Y:=Y) (Z:=Z) (l:= []);simpa only[lan] using this
 have zsa: ∀ {X Y Z o l},qo (a) (tri h a b c X Y Z++l) o=tri h a b c o Y Z++l:=SO (t);have ysa: ∀ {X Y Z o},qo (a) (tri h a b c X Y Z) o=tri h a b c o Y Z:=λ{X Y Z o}=>by have:=zsa (X:=X) (Y:=Y) (Z:=Z) (o:=o) (l:= []);simpa only[lan] using this
 have zsb: ∀ {X Y Z o l},qo (b) (tri h a b c X Y Z++l) o=tri h a b c X o Z++l:=Td (t);have ysb: ∀ {X Y Z o},qo (b) (tri h a b c X Y Z) o=tri h a b c X o Z:=λ{X Y Z o}=>by have:=zsb (X:=X) (Y:=Y) (Z:=Z) (o:=o) (l:= []);simpa only[lan] using this
 have zsc: ∀ {X Y Z o l},qo (c) (tri h a b c X Y Z++l) o=tri h a b c X Y o++l:=Tf (t);have ysc: ∀ {X Y Z o},qo (c) (tri h a b c X Y Z) o=tri h a b c X Y o:=λ{X Y Z o}=>by have:=zsc (X:=X) (Y:=Y) (Z:=Z) (o:=o) (l:= []);simpa only[lan] using this
 have zca: ∀ {X Y Z v l},cellsOf (tri h a b c X Y Z++l) (a) v=qv (some X) v:=T9 (t);have yca: ∀ {X Y Z v},cellsOf (tri h a b c X Y Z) (a) v=qv (some X) v:=λ{X Y Z v}=>by have:=zca (X:=X) (Y:=Y) (Z:=Z) (v:=v) (l:= []);simpa only[lan] using this
 have zcb: ∀ {X Y Z v l},cellsOf (tri h a b c X Y Z++l) (b) v=qv (some Y) v:=Ua (t);have ycb: ∀ {X Y Z v},cellsOf (tri h a b c X Y Z) (b) v=qv (some Y) v:=λ{X Y Z v}=>by have:=zcb (X:=X) (Y:=Y) (Z:=Z) (v:=v) (l:= []);simpa only[lan] using this
 have zcc: ∀ {X Y Z v l},cellsOf (tri h a b c X Y Z++l) (c) v=qv (some Z) v:=Ub (t);have ycc: ∀ {X Y Z v},cellsOf (tri h a b c X Y Z) (c) v=qv (some Z) v:=λ{X Y Z v}=>by have:=zcc (X:=X) (Y:=Y) (Z:=Z) (v:=v) (l:= []);simpa only[lan] using this
 have zla: ∀ {X Y Z v l},qz (tri h a b c X Y Z++l) (a) v=qF (some X) v:=Uc (t);have yla: ∀ {X Y Z v},qz (tri h a b c X Y Z) (a) v=qF (some X) v:=λ{X Y Z v}=>by have:=zla (X:=X) (Y:=Y) (Z:=Z) (v:=v) (l:= []);simpa only[lan] using this
 have zlb: ∀ {X Y Z v l},qz (tri h a b c X Y Z++l) (b) v=qF (some Y) v:=Ud (t);have ylb: ∀ {X Y Z v},qz (tri h a b c X Y Z) (b) v=qF (some Y) v:=λ{X Y Z v}=>by have:=zlb (X:=X) (Y:=Y) (Z:=Z) (v:=v) (l:= []);simpa only[lan] using this
 have zlc: ∀ {X Y Z v l},qz (tri h a b c X Y Z++l) (c) v=qF (some Z) v:=Ue (t);have ylc: ∀ {X Y Z v},qz (tri h a b c X Y Z) (c) v=qF (some Z) v:=λ{X Y Z v}=>by have:=zlc (X:=X) (Y:=Y) (Z:=Z) (v:=v) (l:= []);simpa only[lan] using this
 cases hq:q.opn with
 |false=>
  have e1:q.nd=⟨q.out,[],false,q.jn,q.vo,q.vw,false⟩:=by unfold Br.nd;rw[hq];rfl
  rw[e1];have c1:=qud (va:=va) t (.osl b q.vo 6 0 q.out.length) (if q.ad=true then .op a va 1 else .nilp) (.osl c q.vw 1 0 q.word.length) (.bool false) (.bool q.jn) (.bool false) (brY q) q.vw (by simp[qR];omega) rfl rfl rfl (kW q _);have hz:qaQ q.vw q.word= .emp q.vw:=by rw[hw hq];rfl
  unfold brO brX;rw[hz,hq];refine acO qpH ?_;simp (disch:=omega) only[qqE,yga,ysa,yca,ql,go_sem];refine qy c1 (by exact flk) ?_;simp (disch:=omega) only[go_sem];exact jA trivial (by simp only[tri_len]) (jG t (jI t va ⟨q.out,[],false,q.jn,q.vo,q.vw,false⟩) (kW q _) trivial) ⟨rfl,rfl⟩ (qi)
 |true=>
  have e1:q.nd=⟨Tz q.out q.word,[],false,q.jn,q.vo,q.vw+1,false⟩:=by unfold Br.nd;rw[hq];rfl
  rw[e1];have c1:=qqs (va:=va) t q (ho hq) hm;have hn:=ho hq;unfold brO at c1 ⊢;rw[qa3 hn]at c1 ⊢;rw[qa3 (q:=⟨Tz q.out q.word,[],false,q.jn,q.vo,q.vw+1,false⟩) (by simp only[SK];exact hn)];unfold brX at c1 ⊢;rw[hq]at c1 ⊢;refine acO qpH ?_;simp (disch:=omega) only[qqE,yga,ysa,yca,ql,go_sem]
  repeat' first|(refine cA (c1) flk ?_;simp (disch:=omega) only[yca,ql,go_sem])
  refine qy (qCZ a va c q.vw (.osl b q.vo 6 0 q.out.length) (.bool true) (.bool q.jn) (.bool false) (if q.ad=true then .op a va 1 else .nilp) q.word _ (λe=>t.ac e.symm) yga ygc) (by exact flk) ?_;have hL:=jF q.out;have k3:((q.out.length-1)*6+1<=q.out.length*6)=True:=wh;have hX:=qlg (L:=q.out) q.word hn;have c2:=qud (va:=va) t (.osl b q.vo 6 0 q.out.length) (if q.ad=true then .op a va 1 else .nilp) (.osl c q.vw 1 0 q.word.length) (.bool false) (.bool q.jn) (.bool false) (.mem q.vo 92 (jf (Tz q.out q.word))) (q.vw+1) (by simp[qR];omega) rfl rfl rfl (ke _ _);simp (disch:=omega) only[yga,ygb,ysa,ysb,ysc,yca,ycb,ql,hL,k3,go_sem];rw[List.append_assoc,hX];refine qy c2 (by exact flk) ?_;simp (disch:=omega) only[go_sem];have eL:=SK q.out q.word;simp only[eL];exact jA trivial (by simp only[tri_len]) (jG t (by have:=jI t va ⟨q.out,[],false,q.jn,q.vo,q.vw+1,false⟩;exact this) (ke _ _) trivial) ⟨rfl,rfl⟩ (qi)
end
end RC
end
section
open Go Go.Proofs AF HY LN
namespace RC
section
variable {h : we} {a b c va : Nat}
theorem que(t:T3 h a b c)(q:Br)(f:Int)(x:UInt8)(hf:f=0∨f=8)(hm:q.out.length<=1000000):ACalls Tryz.prog 283 [.op a va 0,.agg (atC 1 x),.int .i64 f] (brO h a b c va q) (.tup []) (brO h a b c va (q.st f)):=by
 have ta:=t.la;have tb:=t.lb;have tc:=t.lc;have zga: ∀ {X Y Z l},qt (a) (tri h a b c X Y Z++l)=some X:=R9 (t);have yga: ∀ {X Y Z},qt (a) (tri h a b c X Y Z)=some X:=λ{X Y Z}=>by have:=zga (X:=X) (Y:=Y) (Z:=Z) (l:= []);simpa only[lan] using this
 have zgb: ∀ {X Y Z l},qt (b) (tri h a b c X Y Z++l)=some Y:=SN (t);have ygb: ∀ {X Y Z},qt (b) (tri h a b c X Y Z)=some Y:=λ{X Y Z}=>by have:=zgb (X:=X) (Y:=Y) (Z:=Z) (l:= []);simpa only[lan] using this
 have zgc: ∀ {X Y Z l},qt (c) (tri h a b c X Y Z++l)=some Z:=Si (t);have ygc: ∀ {X Y Z},qt (c) (tri h a b c X Y Z)=some Z:=λ{X Y Z}=>by have:=zgc (X:=X) (Y:=Y) (Z:=Z) (l:= []);simpa only[lan] using this
 have zsa: ∀ {X Y Z o l},qo (a) (tri h a b c X Y Z++l) o=tri h a b c o Y Z++l:=SO (t);have ysa: ∀ {X Y Z o},qo (a) (tri h a b c X Y Z) o=tri h a b c o Y Z:=λ{X Y Z o}=>by have:=zsa (X:=X) (Y:=Y) (Z:=Z) (o:=o) (l:= []);simpa only[lan] using this
 have zsb: ∀ {X Y Z o l},qo (b) (tri h a b c X Y Z++l) o=tri h a b c X o Z++l:=Td (t);have ysb: ∀ {X Y Z o},qo (b) (tri h a b c X Y Z) o=tri h a b c X o Z:=λ{X Y Z o}=>by have:=zsb (X:=X) (Y:=Y) (Z:=Z) (o:=o) (l:= []);simpa only[lan] using this
 have zsc: ∀ {X Y Z o l},qo (c) (tri h a b c X Y Z++l) o=tri h a b c X Y o++l:=Tf (t);have ysc: ∀ {X Y Z o},qo (c) (tri h a b c X Y Z) o=tri h a b c X Y o:=λ{X Y Z o}=>by have:=zsc (X:=X) (Y:=Y) (Z:=Z) (o:=o) (l:= []);simpa only[lan] using this
 have zca: ∀ {X Y Z v l},cellsOf (tri h a b c X Y Z++l) (a) v=qv (some X) v:=T9 (t);have yca: ∀ {X Y Z v},cellsOf (tri h a b c X Y Z) (a) v=qv (some X) v:=λ{X Y Z v}=>by have:=zca (X:=X) (Y:=Y) (Z:=Z) (v:=v) (l:= []);simpa only[lan] using this
 have zcb: ∀ {X Y Z v l},cellsOf (tri h a b c X Y Z++l) (b) v=qv (some Y) v:=Ua (t);have ycb: ∀ {X Y Z v},cellsOf (tri h a b c X Y Z) (b) v=qv (some Y) v:=λ{X Y Z v}=>by have:=zcb (X:=X) (Y:=Y) (Z:=Z) (v:=v) (l:= []);simpa only[lan] using this
 have zcc: ∀ {X Y Z v l},cellsOf (tri h a b c X Y Z++l) (c) v=qv (some Z) v:=Ub (t);have ycc: ∀ {X Y Z v},cellsOf (tri h a b c X Y Z) (c) v=qv (some Z) v:=λ{X Y Z v}=>by have:=zcc (X:=X) (Y:=Y) (Z:=Z) (v:=v) (l:= []);simpa only[lan] using this
 have zla: ∀ {X Y Z v l},qz (tri h a b c X Y Z++l) (a) v=qF (some X) v:=Uc (t);have yla: ∀ {X Y Z v},qz (tri h a b c X Y Z) (a) v=qF (some X) v:=λ{X Y Z v}=>by have:=zla (X:=X) (Y:=Y) (Z:=Z) (v:=v) (l:= []);simpa only[lan] using this
 have zlb: ∀ {X Y Z v l},qz (tri h a b c X Y Z++l) (b) v=qF (some Y) v:=Ud (t);have ylb: ∀ {X Y Z v},qz (tri h a b c X Y Z) (b) v=qF (some Y) v:=λ{X Y Z v}=>by have:=zlb (X:=X) (Y:=Y) (Z:=Z) (v:=v) (l:= []);simpa only[lan] using this
 have zlc: ∀ {X Y Z v l},qz (tri h a b c X Y Z++l) (c) v=qF (some Z) v:=Ue (t);have ylc: ∀ {X Y Z v},qz (tri h a b c X Y Z) (c) v=qF (some Z) v:=λ{X Y Z v}=>by have:=zlc (X:=X) (Y:=Y) (Z:=Z) (v:=v) (l:= []);simpa only[lan] using this
 have hL:=jF q.out;obtain⟨g,hg⟩:=wc (f+jfl q.jn q.out.length)
 have e1:q.st f=⟨q.out++ [tkF g []],q.word,q.opn,true,q.vo+1,q.vw,q.ad⟩:=by unfold Br.st;rw[hg]
 rw[e1];have o1:=qgm (v:=q.vo) (ty:=92) (cs:=jf q.out);have k3:(q.out.length*6<=q.out.length*6)=True:=eqt (nlr _);have a2: ∀(x1:AV) (r:wg),qey (some (ze q.vo 92 (jf q.out))) 92 q.vo (q.out.length*6) 1 (x1::r)=ze (q.vo+1) 92 (jf q.out++x1::r):=λx1 r=>by rw[appO_own1,ltl om]
 have eLn:(q.out++ [tkF g []]).length=q.out.length+1:=by simp
 have hfin:jf q.out++ [.str [],.str [],.str [],.int .i64 0,.int .i64 g,.str []]=jf (q.out++ [tkF g []]):=by rw[qcc,qfl];rfl
 unfold brO brX brY
 by_cases hj:q.jn=true∧0<q.out.length
 ·obtain⟨hj,hn⟩:=hj;have k1:((0:Int)<q.out.length)=True:=wh;have hg:g=f+16:=by rw[hg];unfold jfl;rw[ipo ⟨hj,hn⟩]
  have eo:Sm .or (.int .i64 f) (.int .i64 16)= .int .i64 g:=by
   rw[hg];rcases hf with rfl|rfl<;>rfl
  rw[hj];unfold atC;refine acO qja ?_;simp (disch:=omega) only[qmp,zca,zlb,ql,qW,k1,eo,go_sem]
  repeat' first|with_reducible apply aiA|exact clz|fail
  refine kh ?Ta ?Ha ?h1 ?h2
  case h1=>
   simp (disch:=omega) only[zga,zgb,zsa,zsb,zca,zcb,zlb,ql,qW,qaE,o1,hL,k3,a2,go_sem]
   repeat' first|with_reducible apply aiA
   all_goals first
    |omega
    |rfl
    |(rw[bne_iff_ne];omega)
    |skip
  case h2=>
  simp (disch:=omega) only[zga,zsa,zca,ql,go_sem];rw[hfin];simp only[eLn];exact zL trivial (by simp only[tri_len]) (jG t (by have:=jI t va ⟨q.out++ [tkF g []],q.word,q.opn,true,q.vo+1,q.vw,q.ad⟩;simpa only[brX,eLn] using this) (jp (ke _ _)) (jb _ _ _)) ⟨rfl,rfl⟩ (qi)
 ·have hg:g=f:=by rw[hg];unfold jfl;rw[ine hj];omega
  subst hg;unfold atC;cases hj2:q.jn with
  |false=>
   refine acO qja ?_;simp (disch:=omega) only[qmp,zca,zlb,ql,qW,go_sem]
   repeat' first|(with_reducible first|intro _|apply aiA)|exact clz|fail
   refine kh ?Tb ?Hb ?h1 ?h2
   case h1=>
    simp (disch:=omega) only[zga,zgb,zsa,zsb,zca,zcb,zlb,ql,qW,qaE,o1,hL,k3,a2,go_sem]
    repeat' first|with_reducible apply aiA
    all_goals first
     |omega
     |rfl
     |(rw[bne_iff_ne];omega)
     |skip
   case h2=>
   simp (disch:=omega) only[zga,zsa,zca,ql,go_sem];rw[hfin];simp only[eLn];exact zL trivial (by simp only[tri_len]) (jG t (by have:=jI t va ⟨q.out++ [tkF g []],q.word,q.opn,true,q.vo+1,q.vw,q.ad⟩;simpa only[brX,eLn] using this) (jp (ke _ _)) (jb _ _ _)) ⟨rfl,rfl⟩ (qi)
  |true=>
   have k1:((0:Int)<q.out.length)=False:=eqf (λhc=>hj ⟨hj2,om⟩);refine acO qja ?_;simp (disch:=omega) only[qmp,zca,zlb,ql,qW,k1,go_sem]
   repeat' first|with_reducible apply aiA|exact clz|fail
   refine kh ?Tc ?Hc ?h1 ?h2
   case h1=>
    simp (disch:=omega) only[zga,zgb,zsa,zsb,zca,zcb,zlb,ql,qW,qaE,o1,hL,k3,a2,go_sem]
    repeat' first|with_reducible apply aiA
    all_goals first
     |omega
     |rfl
     |(rw[bne_iff_ne];omega)
     |skip
   case h2=>
   simp (disch:=omega) only[zga,zsa,zca,ql,go_sem];rw[hfin];simp only[eLn];exact zL trivial (by simp only[tri_len]) (jG t (by have:=jI t va ⟨q.out++ [tkF g []],q.word,q.opn,true,q.vo+1,q.vw,q.ad⟩;simpa only[brX,eLn] using this) (jp (ke _ _)) (jb _ _ _)) ⟨rfl,rfl⟩ (qi)
end
end RC
end
section
open Go Go.Proofs AF
def qnm:List Nat:= [118,116,307,285,244,282,245,283,247,284]
@[go_sem]def vn:DT:= DT.one ⟨some 20,none,.nilchk,[.t 15]⟩ (DT.one ⟨some 21,none,.fldA 0,[.t 20]⟩ (DT.one ⟨none,none,.store 1,[.t 21,.t 19]⟩ DT.nil))
@[go_sem]def vp:DT:= DT.one ⟨some 18,none,.bslc 1 1 1 5 [.int .u8 0] [(0,1)],[.t 17]⟩ (DT.one ⟨some 19,none,.b2s,[.t 18]⟩ vn)
def qdG:C:=
 (vS [O1 3 (.box 0 269) 1] (vS [vM 4 0] ((vS [vL 5 5 3,LD 6 5] (vT 6 (vW [vM 4 1]))).seq (C.block 0 (vS [MV 23 0,O1 24 .nilchk 23,vL 25 3 24,LD 26 25,MV 27 26,P1 28 27 true
 (.fldA 1) 3,P1 29 27 true (.load none) 28,P1 30 27 true (.call 271 true) 29,PF 31 27 30,MV 22 31] (C.cond (.t 22) (vS [MV 32 0,O1 33 (.call 284 false) 32,O1 34 .nilchk 33,vL 35
 4 34,LD 36 35,MV 37 4,BI 38 .or 36 37,O1 39 .nilchk 33,vL 40 4 39,ST 1 40 38] (vW [MV 41 0,O1 42 .nilchk 41,vL 43 1 42,vL 44 1 3,LD 45 44,O2 46 (.call 307 false) 43 45])) (vS
 [vL 48 1 3,LD 49 48,O1 50 (.call 301 true) 49,MV 47 50] (C.cond (.t 47) (vS [MV 51 0,O1 52 (.load (some 7)) 3,MV 53 4,ON 54 (.call 283 false) [.t 51,.t 52,.t 53]] (vS [MV 55
 0,O1 56 .nilchk 55,vL 57 3 56,⟨none,none,.store 1,[.t 57,.c (.bool true)]⟩] (vW [MV 58 0,O1 59 .nilchk 58,vL 60 1 59,vL 61 1 3,LD 62 61,O2 63 (.call 307 false) 60 62]))) (vS
 [vL 65 1 3,LD 66 65,O1 67 (.call 185 true) 66,vN 68 .eql 67 6,MV 64 68] (C.cond (.t 64) (vS [MV 69 0,O1 70 (.call 245 false) 69] (vW [MV 71 0,O1 72 .nilchk 71,vL 73 4
 72,⟨none,none,.store 1,[.t 73,.c (.bool false)]⟩])) (vS [MV 7 0,O1 8 (.call 245 false) 7] (vS [MV 9 0,O1 10 (.load (some 7)) 3,MV 11 4,vN 12 .or 11 8,ON 13 (.call 283 false)
 [.t 9,.t 10,.t 12]] (C.draw (DT.one ⟨some 14,none,.mv,[.t 0]⟩ ((DT.one ⟨some 15,none,.call 284 false,[.t 14]⟩ (DT.one ⟨some 16,none,.fldA 1,[.t 3]⟩ (DT.one ⟨some 17,none,.load
 none,[.t 16]⟩ vp))).two (DT.one ⟨some 16,none,.fldA 1,[.t 3]⟩ ((DT.one ⟨some 15,none,.call 284 false,[.t 14]⟩ (DT.one ⟨some 17,none,.load none,[.t 16]⟩ vp)).two (DT.one ⟨some
 17,none,.load none,[.t 16]⟩ ((DT.one ⟨some 15,none,.call 284 false,[.t 14]⟩ vp).two (DT.one ⟨some 18,none,.bslc 1 1 1 5 [.int .u8 0] [(0,1)],[.t 17]⟩ ((DT.one ⟨some
 15,none,.call 284 false,[.t 14]⟩ (DT.one ⟨some 19,none,.b2s,[.t 18]⟩ vn)).two (DT.one ⟨some 19,none,.b2s,[.t 18]⟩ (DT.one ⟨some 15,none,.call 284 false,[.t 14]⟩
 vn)))))))))))))))))))))))
theorem qbd:qJ Tryz.prog 282 74 2 [] qdG:=fi Tryz.f282 [3,18] qnm []
end
section
open Go Go.Proofs AF HY LN
namespace RC
section
variable {h : we} {a b c va : Nat}
theorem Tj(t:T3 h a b c)(q:Br)(l:we):brO (h++l) a b c va q=brO h a b c va q++l:=qs0 t
theorem qil{f:FuncId}{args:wg}{r:AV}{q q':Br}(hc: ∀h,T3 h a b c->ACalls Tryz.prog f args (brO h a b c va q) r (brO h a b c va q'))(t:T3 h a b c)(l:we):ACalls Tryz.prog f args (brO h a b c va q++l) r (brO h a b c va q'++l):=by
 have:=hc (h++l) (t.app l)
 rwa [Tj t,Tj t]at this
structure qzb (q:Br):Prop where
 op:q.opn=true->0<q.out.length∧((q.out.getD (q.out.length-1) default).flags=0∨(q.out.getD (q.out.length-1) default).flags=16)
 cl:q.opn=false->q.word= []
 n:q.out.length<=900000
 w:q.word.length<=900000
theorem quf(q:Br):(if q.ad=true then AV.op a va 1 else .nilp)= .nilp∨(if q.ad=true then AV.op a va 1 else .nilp)= .op a va 1:=by
 split
 ·exact .inr rfl
 ·exact .inl rfl
theorem qdo{α:Type}{L:List α}{k:Nat}{x:α}(h:L[k]? =some x):L.take k++ [x]++L.drop (k+1)=L:=by
 obtain⟨h1,h2⟩:=lgs.1 h;rw[List.append_assoc,List.singleton_append,<-h2,<-List.drop_eq_getElem_cons h1,List.take_append_drop]
theorem qBm(t:T3 h a b c)(q:Br)(x:UInt8)(l:we)(hw:q.word.length<=1000000):ACalls Tryz.prog 307 [.op a va 1,.int .u8 (x.toNat:Int)] (brO h a b c va q++l) .nilif (brO h a b c va (q.wb x)++l):=by
 have ta:=t.la;have tb:=t.lb;have tc:=t.lc;have zga: ∀ {X Y Z l},qt (a) (tri h a b c X Y Z++l)=some X:=R9 (t);have yga: ∀ {X Y Z},qt (a) (tri h a b c X Y Z)=some X:=λ{X Y Z}=>by have:=zga (X:=X) (Y:=Y) (Z:=Z) (l:= []);simpa only[lan] using this
 have zgb: ∀ {X Y Z l},qt (b) (tri h a b c X Y Z++l)=some Y:=SN (t);have ygb: ∀ {X Y Z},qt (b) (tri h a b c X Y Z)=some Y:=λ{X Y Z}=>by have:=zgb (X:=X) (Y:=Y) (Z:=Z) (l:= []);simpa only[lan] using this
 have zgc: ∀ {X Y Z l},qt (c) (tri h a b c X Y Z++l)=some Z:=Si (t);have ygc: ∀ {X Y Z},qt (c) (tri h a b c X Y Z)=some Z:=λ{X Y Z}=>by have:=zgc (X:=X) (Y:=Y) (Z:=Z) (l:= []);simpa only[lan] using this
 have zsa: ∀ {X Y Z o l},qo (a) (tri h a b c X Y Z++l) o=tri h a b c o Y Z++l:=SO (t);have ysa: ∀ {X Y Z o},qo (a) (tri h a b c X Y Z) o=tri h a b c o Y Z:=λ{X Y Z o}=>by have:=zsa (X:=X) (Y:=Y) (Z:=Z) (o:=o) (l:= []);simpa only[lan] using this
 have zsb: ∀ {X Y Z o l},qo (b) (tri h a b c X Y Z++l) o=tri h a b c X o Z++l:=Td (t);have ysb: ∀ {X Y Z o},qo (b) (tri h a b c X Y Z) o=tri h a b c X o Z:=λ{X Y Z o}=>by have:=zsb (X:=X) (Y:=Y) (Z:=Z) (o:=o) (l:= []);simpa only[lan] using this
 have zsc: ∀ {X Y Z o l},qo (c) (tri h a b c X Y Z++l) o=tri h a b c X Y o++l:=Tf (t);have ysc: ∀ {X Y Z o},qo (c) (tri h a b c X Y Z) o=tri h a b c X Y o:=λ{X Y Z o}=>by have:=zsc (X:=X) (Y:=Y) (Z:=Z) (o:=o) (l:= []);simpa only[lan] using this
 have zca: ∀ {X Y Z v l},cellsOf (tri h a b c X Y Z++l) (a) v=qv (some X) v:=T9 (t);have yca: ∀ {X Y Z v},cellsOf (tri h a b c X Y Z) (a) v=qv (some X) v:=λ{X Y Z v}=>by have:=zca (X:=X) (Y:=Y) (Z:=Z) (v:=v) (l:= []);simpa only[lan] using this
 have zcb: ∀ {X Y Z v l},cellsOf (tri h a b c X Y Z++l) (b) v=qv (some Y) v:=Ua (t);have ycb: ∀ {X Y Z v},cellsOf (tri h a b c X Y Z) (b) v=qv (some Y) v:=λ{X Y Z v}=>by have:=zcb (X:=X) (Y:=Y) (Z:=Z) (v:=v) (l:= []);simpa only[lan] using this
 have zcc: ∀ {X Y Z v l},cellsOf (tri h a b c X Y Z++l) (c) v=qv (some Z) v:=Ub (t);have ycc: ∀ {X Y Z v},cellsOf (tri h a b c X Y Z) (c) v=qv (some Z) v:=λ{X Y Z v}=>by have:=zcc (X:=X) (Y:=Y) (Z:=Z) (v:=v) (l:= []);simpa only[lan] using this
 have zla: ∀ {X Y Z v l},qz (tri h a b c X Y Z++l) (a) v=qF (some X) v:=Uc (t);have yla: ∀ {X Y Z v},qz (tri h a b c X Y Z) (a) v=qF (some X) v:=λ{X Y Z v}=>by have:=zla (X:=X) (Y:=Y) (Z:=Z) (v:=v) (l:= []);simpa only[lan] using this
 have zlb: ∀ {X Y Z v l},qz (tri h a b c X Y Z++l) (b) v=qF (some Y) v:=Ud (t);have ylb: ∀ {X Y Z v},qz (tri h a b c X Y Z) (b) v=qF (some Y) v:=λ{X Y Z v}=>by have:=zlb (X:=X) (Y:=Y) (Z:=Z) (v:=v) (l:= []);simpa only[lan] using this
 have zlc: ∀ {X Y Z v l},qz (tri h a b c X Y Z++l) (c) v=qF (some Z) v:=Ue (t);have ylc: ∀ {X Y Z v},qz (tri h a b c X Y Z) (c) v=qF (some Z) v:=λ{X Y Z v}=>by have:=zlc (X:=X) (Y:=Y) (Z:=Z) (v:=v) (l:= []);simpa only[lan] using this
 have:=qDh a va c q.vw (.osl b q.vo 6 0 q.out.length) (.bool q.opn) (.bool q.jn) (.bool false) (if q.ad=true then .op a va 1 else .nilp) q.word x (brO h a b c va q++l) (by rw[lap,qbz];simp[qR];omega) rfl rfl rfl (λe=>t.ac e.symm) zga (quf q) zgc om
 have e:qo c (qo a (brO h a b c va q++l) (.mem va 264 [.osl b q.vo 6 0 q.out.length,.op a va 1,.osl c (q.vw+1) 1 0 (q.word.length+1),.bool q.opn,.bool q.jn,.bool false])) (qaQ (q.vw+1) (q.word++ [x]))=brO h a b c va (q.wb x)++l:=by
  unfold brO;rw[zsa,zsc];unfold brX brY Br.wb;simp
 rw[e]at this;exact this
theorem qzu(t:T3 h a b c)(q:Br)(x:UInt8)(hq:qzb q):ACalls Tryz.prog 282 [.op a va 0,.agg (atC 1 x)] (brO h a b c va q) (.tup []) (brO h a b c va (q.pt x)):=by
 have ta:=t.la;have tb:=t.lb;have tc:=t.lc;have hn:=hq.n;have hw:=hq.w;have zga: ∀ {X Y Z l},qt (a) (tri h a b c X Y Z++l)=some X:=R9 (t);have yga: ∀ {X Y Z},qt (a) (tri h a b c X Y Z)=some X:=λ{X Y Z}=>by have:=zga (X:=X) (Y:=Y) (Z:=Z) (l:= []);simpa only[lan] using this
 have zgb: ∀ {X Y Z l},qt (b) (tri h a b c X Y Z++l)=some Y:=SN (t);have ygb: ∀ {X Y Z},qt (b) (tri h a b c X Y Z)=some Y:=λ{X Y Z}=>by have:=zgb (X:=X) (Y:=Y) (Z:=Z) (l:= []);simpa only[lan] using this
 have zgc: ∀ {X Y Z l},qt (c) (tri h a b c X Y Z++l)=some Z:=Si (t);have ygc: ∀ {X Y Z},qt (c) (tri h a b c X Y Z)=some Z:=λ{X Y Z}=>by have:=zgc (X:=X) (Y:=Y) (Z:=Z) (l:= []);simpa only[lan] using this
 have zsa: ∀ {X Y Z o l},qo (a) (tri h a b c X Y Z++l) o=tri h a b c o Y Z++l:=SO (t);have ysa: ∀ {X Y Z o},qo (a) (tri h a b c X Y Z) o=tri h a b c o Y Z:=λ{X Y Z o}=>by have:=zsa (X:=X) (Y:=Y) (Z:=Z) (o:=o) (l:= []);simpa only[lan] using this
 have zsb: ∀ {X Y Z o l},qo (b) (tri h a b c X Y Z++l) o=tri h a b c X o Z++l:=Td (t);have ysb: ∀ {X Y Z o},qo (b) (tri h a b c X Y Z) o=tri h a b c X o Z:=λ{X Y Z o}=>by have:=zsb (X:=X) (Y:=Y) (Z:=Z) (o:=o) (l:= []);simpa only[lan] using this
 have zsc: ∀ {X Y Z o l},qo (c) (tri h a b c X Y Z++l) o=tri h a b c X Y o++l:=Tf (t);have ysc: ∀ {X Y Z o},qo (c) (tri h a b c X Y Z) o=tri h a b c X Y o:=λ{X Y Z o}=>by have:=zsc (X:=X) (Y:=Y) (Z:=Z) (o:=o) (l:= []);simpa only[lan] using this
 have zca: ∀ {X Y Z v l},cellsOf (tri h a b c X Y Z++l) (a) v=qv (some X) v:=T9 (t);have yca: ∀ {X Y Z v},cellsOf (tri h a b c X Y Z) (a) v=qv (some X) v:=λ{X Y Z v}=>by have:=zca (X:=X) (Y:=Y) (Z:=Z) (v:=v) (l:= []);simpa only[lan] using this
 have zcb: ∀ {X Y Z v l},cellsOf (tri h a b c X Y Z++l) (b) v=qv (some Y) v:=Ua (t);have ycb: ∀ {X Y Z v},cellsOf (tri h a b c X Y Z) (b) v=qv (some Y) v:=λ{X Y Z v}=>by have:=zcb (X:=X) (Y:=Y) (Z:=Z) (v:=v) (l:= []);simpa only[lan] using this
 have zcc: ∀ {X Y Z v l},cellsOf (tri h a b c X Y Z++l) (c) v=qv (some Z) v:=Ub (t);have ycc: ∀ {X Y Z v},cellsOf (tri h a b c X Y Z) (c) v=qv (some Z) v:=λ{X Y Z v}=>by have:=zcc (X:=X) (Y:=Y) (Z:=Z) (v:=v) (l:= []);simpa only[lan] using this
 have zla: ∀ {X Y Z v l},qz (tri h a b c X Y Z++l) (a) v=qF (some X) v:=Uc (t);have yla: ∀ {X Y Z v},qz (tri h a b c X Y Z) (a) v=qF (some X) v:=λ{X Y Z v}=>by have:=zla (X:=X) (Y:=Y) (Z:=Z) (v:=v) (l:= []);simpa only[lan] using this
 have zlb: ∀ {X Y Z v l},qz (tri h a b c X Y Z++l) (b) v=qF (some Y) v:=Ud (t);have ylb: ∀ {X Y Z v},qz (tri h a b c X Y Z) (b) v=qF (some Y) v:=λ{X Y Z v}=>by have:=zlb (X:=X) (Y:=Y) (Z:=Z) (v:=v) (l:= []);simpa only[lan] using this
 have zlc: ∀ {X Y Z v l},qz (tri h a b c X Y Z++l) (c) v=qF (some Z) v:=Ue (t);have ylc: ∀ {X Y Z v},qz (tri h a b c X Y Z) (c) v=qF (some Z) v:=λ{X Y Z v}=>by have:=zlc (X:=X) (Y:=Y) (Z:=Z) (v:=v) (l:= []);simpa only[lan] using this
 by_cases g1:q.opn=true∧SX x=true
 ·rw[show q.pt x=q.wb x from by unfold Br.pt;rw[ipo g1]];obtain⟨g1,g2⟩:=g1;obtain⟨hop,hfl⟩:=hq.op g1;have c1:=λh=>qzi x h
  simp only[g2]at c1;have c2:=λl=>qqs (va:=va) (t.app l) q hop om
  simp only[Tj t]at c2;have c3:=λl=>qBm (va:=va) t q x l om
  have hL:=jF q.out;obtain⟨F,hF⟩:=wc ((q.out.getD (q.out.length-1) default).flags)
  rw[<-hF]at hfl;have g4:(jf q.out)[(q.out.length-1)*6+4]? =some (.int .i64 F):=by rw[qcd om om,hF];rfl
  have e0:Sm .or (.int .i64 F) (.int .i64 0)= .int .i64 F:=by rcases hfl with rfl|rfl<;>rfl
  have k3:((q.out.length-1)*6+4+1<=q.out.length*6)=True:=wh;have k4:((q.out.length-1)*6+4<q.out.length*6)=True:=wh;have e5:=qdo g4;unfold brO at c2 c3 ⊢;rw[qa3 hop]at c2 c3 ⊢;unfold brX at c2 c3 ⊢;rw[g1]at c2 c3 ⊢;unfold atC;refine acO qbd ?_;simp (disch:=omega) only[qdG,zca,ql,go_sem]
  repeat' first|(refine cG (λe=>c1 _) flk ?_;simp (disch:=omega) only[go_sem])
  refine qy (c2 _) (by exact flk) ?_;simp (disch:=omega) only[zgb,zsb,zca,zcb,ql,hL,g4,e0,k3,k4,e5,go_sem];refine qy (c3 _) (by exact flk) ?_;simp (disch:=omega) only[go_sem];exact zL trivial (by simp only[tri_len]) (jG t (jI t va (q.wb x)) (kW _ _) (jb _ _ _)) ⟨rfl,rfl⟩ (qi)
 by_cases g2:bgn x=true
 ·rw[show q.pt x=((q.st 0).op).wb x from by unfold Br.pt;rw[ine g1,ipo g2]];have g3:q.opn=false:=by
   cases ho:q.opn with
   |false=>rfl
   |true=>exact absurd ⟨ho,U6 g2⟩ g1
  have c1:=λh=>qzf x h
  rw[show (decide (kind x=1)||decide (kind x=3))=true from g2]at c1;have c2:=λl=>que (va:=va) (t.app l) q 0 x (.inl rfl) om
  simp only[Tj t]at c2;have c3:=λl=>qBm (va:=va) t (q.st 0).op x l (by show q.word.length<=_;omega)
  unfold brO brX at c2 c3 ⊢;rw[g3]at c2 ⊢;unfold atC at c2 ⊢;refine acO qbd ?_;simp (disch:=omega) only[qdG,zca,ql,go_sem]
  repeat' first|(refine qj ( .bool false) ?_;simp (disch:=omega) only[go_sem])|(refine cA (c1 _) flk ?_;simp (disch:=omega) only[go_sem])
  refine qy (c2 _) (by exact flk) ?_;simp (disch:=omega) only[zga,zsa,zca,ql,go_sem];refine qy (c3 _) (by exact flk) ?_;simp (disch:=omega) only[go_sem];exact zL trivial (by simp only[tri_len]) (jG t (jI t va (((q.st 0).op).wb x)) (kW _ _) (jb _ _ _)) ⟨rfl,rfl⟩ (qi)
 by_cases g3:kind x=6
 ·rw[show q.pt x=q.nd.sp from by unfold Br.pt;rw[ine g1,ine g2,ipo g3]];have c1:=λh=>qzf x h
  have hb:(decide (kind x=1)||decide (kind x=3))=false:=by simpa[bgn] using g2
  rw[hb]at c1;have c5:=λh=>qzi x h
  have c4:=λh=>U4 x h
  rw[g3]at c4;have c2:=λl=>qqr (va:=va) (t.app l) q (λe=>(hq.op e).1) hq.cl om om
  simp only[Tj t]at c2;have hi:q.opn=true->SX x=false:=λe=>by
   cases hx:SX x with
   |false=>rfl
   |true=>exact absurd ⟨e,hx⟩ g1
  unfold brO brX at c2 ⊢;unfold atC;cases ho:q.opn with
  |true=>
   rw[hi ho]at c5;rw[ho]at c2;refine acO qbd ?_;simp (disch:=omega) only[qdG,zca,ql,go_sem]
   repeat' first|((first|refine cA (c1 _) ?_ ?_|refine cA (c4 _) ?_ ?_|refine cG (λe=>c5 _) ?_ ?_);exact flk;simp (disch:=omega) only[go_sem])
   refine qy (c2 _) (by exact flk) ?_;simp (disch:=omega) only[zga,zsa,zca,ql,go_sem];exact zL trivial (by simp only[tri_len]) (jG t (jI t va q.nd.sp) (kW _ _) (jb _ _ _)) ⟨rfl,rfl⟩ (qi)
  |false=>
   rw[ho]at c2;refine acO qbd ?_;simp (disch:=omega) only[qdG,zca,ql,go_sem]
   repeat' first|(refine qj ( .bool false) ?_;simp (disch:=omega) only[go_sem])|((first|refine cA (c1 _) ?_ ?_|refine cA (c4 _) ?_ ?_);exact flk;simp (disch:=omega) only[go_sem])
   refine qy (c2 _) (by exact flk) ?_;simp (disch:=omega) only[zga,zsa,zca,ql,go_sem];exact zL trivial (by simp only[tri_len]) (jG t (jI t va q.nd.sp) (kW _ _) (jb _ _ _)) ⟨rfl,rfl⟩ (qi)
 rw[show q.pt x=(q.nd.st 8).tx [x]from by unfold Br.pt;rw[ine g1,ine g2,ine g3]];have c1:=λh=>qzf x h
 have hb:(decide (kind x=1)||decide (kind x=3))=false:=by simpa[bgn] using g2
 rw[hb]at c1;have c5:=λh=>qzi x h
 have c4:=λh=>U4 x h
 obtain⟨kx,hkx⟩:=wc (kind x)
 rw[<-hkx]at c4 g3;have q6:(kx=6)=False:=eqf g3;have c2:=λl=>qqr (va:=va) (t.app l) q (λe=>(hq.op e).1) hq.cl om om
 have hndl:q.nd.out.length=q.out.length:=by unfold Br.nd;split<;>simp only[SK]
 have c6:=λl=>que (va:=va) (t.app l) q.nd 8 x (.inr rfl) om
 obtain⟨r,hr⟩:=wc (q.nd.st 8)
 have hrl:0<r.out.length:=by rw[hr];show 0<(q.nd.out++ [_]).length;simp
 have hrm:r.out.length<=1000000:=by rw[hr];show (q.nd.out++ [_]).length<=_;simp;omega
 rw[<-hr]at c6 ⊢;have c7:=λl=>qqs (va:=va) (t.app l) r hrl hrm
 simp only[Tj t]at c2 c6 c7;have hi:q.opn=true->SX x=false:=λe=>by
  cases hx:SX x with
  |false=>rfl
  |true=>exact absurd ⟨e,hx⟩ g1
 have hL:=jF r.out;have k3:((r.out.length-1)*6+1<=r.out.length*6)=True:=wh;have hX:=qlg (L:=r.out) [x] hrl;have e8:Sm .or (.int .i64 0) (.int .i64 8)= .int .i64 8:=rfl;have hY:brY (r.tx [x])= .mem r.vo 92 (jf (Tz r.out [x])):=qa3 (q:=r.tx [x]) (by show 0<(Tz r.out [x]).length;rw[SK];exact hrl);have eL:(r.tx [x]).out.length=r.out.length:=SK _ _;unfold brO at c2 c6 c7 ⊢;rw[hY];rw[qa3 hrl]at c6 c7;unfold brX at c2 c6 c7 ⊢;rw[eL];unfold atC at c6 ⊢;cases ho:q.opn with
 |true=>
  rw[hi ho]at c5;rw[ho]at c2;refine acO qbd ?_;simp (disch:=omega) only[qdG,zca,ql,go_sem]
  repeat' first|((first|refine cA (c1 _) ?_ ?_|refine cA (c4 _) ?_ ?_|refine cG (λe=>c5 _) ?_ ?_);exact flk;simp (disch:=omega) only[q6,go_sem])
  refine qy (c2 _) (by exact flk) ?_;simp (disch:=omega) only[e8,go_sem];refine qy (c6 _) (by exact flk) ?_;simp (disch:=omega) only[go_sem];refine kh ?Ta ?Ha ?h1 ?h2
  case h1=>
   simp (disch:=omega) only[go_sem]
   repeat' first|(with_reducible apply aiA)|(refine qy (c7 _) (by exact flk) ?_;simp (disch:=omega) only[zgb,zsb,zcb,ql,hL,k3,go_sem])
   all_goals first
    |omega
    |rfl
    |(intro y hy;rw[List.mem_singleton]at hy;subst hy;exact qcZ x)
    |skip
  case h2=>
  simp (disch:=omega) only[go_sem];rw[qcE x,List.append_assoc,hX];exact zL trivial (by simp only[tri_len]) (jG t (jI t va r) (ke _ _) (jb _ _ _)) ⟨rfl,rfl⟩ (qi)
 |false=>
  rw[ho]at c2;refine acO qbd ?_;simp (disch:=omega) only[qdG,zca,ql,go_sem]
  repeat' first|(refine qj ( .bool false) ?_;simp (disch:=omega) only[go_sem])|((first|refine cA (c1 _) ?_ ?_|refine cA (c4 _) ?_ ?_);exact flk;simp (disch:=omega) only[q6,go_sem])
  refine qy (c2 _) (by exact flk) ?_;simp (disch:=omega) only[e8,go_sem];refine qy (c6 _) (by exact flk) ?_;simp (disch:=omega) only[go_sem];refine kh ?Tb ?Hb ?h1 ?h2
  case h1=>
   simp (disch:=omega) only[go_sem]
   repeat' first|(with_reducible apply aiA)|(refine qy (c7 _) (by exact flk) ?_;simp (disch:=omega) only[zgb,zsb,zcb,ql,hL,k3,go_sem])
   all_goals first
    |omega
    |rfl
    |(intro y hy;rw[List.mem_singleton]at hy;subst hy;exact qcZ x)
    |skip
  case h2=>
  simp (disch:=omega) only[go_sem];rw[qcE x,List.append_assoc,hX];exact zL trivial (by simp only[tri_len]) (jG t (jI t va r) (ke _ _) (jb _ _ _)) ⟨rfl,rfl⟩ (qi)
theorem qzt(t:T3 h a b c)(q:Br)(x:UInt8)(hq:qzb q):ACalls Tryz.prog 244 [.op a va 0,.agg (atC 1 x)] (brO h a b c va q) (.tup []) (brO h a b c va (q.pt x)):=by
 have ta:=t.la;have tb:=t.lb;have tc:=t.lc;have zga: ∀ {X Y Z l},qt (a) (tri h a b c X Y Z++l)=some X:=R9 (t);have yga: ∀ {X Y Z},qt (a) (tri h a b c X Y Z)=some X:=λ{X Y Z}=>by have:=zga (X:=X) (Y:=Y) (Z:=Z) (l:= []);simpa only[lan] using this
 have zgb: ∀ {X Y Z l},qt (b) (tri h a b c X Y Z++l)=some Y:=SN (t);have ygb: ∀ {X Y Z},qt (b) (tri h a b c X Y Z)=some Y:=λ{X Y Z}=>by have:=zgb (X:=X) (Y:=Y) (Z:=Z) (l:= []);simpa only[lan] using this
 have zgc: ∀ {X Y Z l},qt (c) (tri h a b c X Y Z++l)=some Z:=Si (t);have ygc: ∀ {X Y Z},qt (c) (tri h a b c X Y Z)=some Z:=λ{X Y Z}=>by have:=zgc (X:=X) (Y:=Y) (Z:=Z) (l:= []);simpa only[lan] using this
 have zsa: ∀ {X Y Z o l},qo (a) (tri h a b c X Y Z++l) o=tri h a b c o Y Z++l:=SO (t);have ysa: ∀ {X Y Z o},qo (a) (tri h a b c X Y Z) o=tri h a b c o Y Z:=λ{X Y Z o}=>by have:=zsa (X:=X) (Y:=Y) (Z:=Z) (o:=o) (l:= []);simpa only[lan] using this
 have zsb: ∀ {X Y Z o l},qo (b) (tri h a b c X Y Z++l) o=tri h a b c X o Z++l:=Td (t);have ysb: ∀ {X Y Z o},qo (b) (tri h a b c X Y Z) o=tri h a b c X o Z:=λ{X Y Z o}=>by have:=zsb (X:=X) (Y:=Y) (Z:=Z) (o:=o) (l:= []);simpa only[lan] using this
 have zsc: ∀ {X Y Z o l},qo (c) (tri h a b c X Y Z++l) o=tri h a b c X Y o++l:=Tf (t);have ysc: ∀ {X Y Z o},qo (c) (tri h a b c X Y Z) o=tri h a b c X Y o:=λ{X Y Z o}=>by have:=zsc (X:=X) (Y:=Y) (Z:=Z) (o:=o) (l:= []);simpa only[lan] using this
 have zca: ∀ {X Y Z v l},cellsOf (tri h a b c X Y Z++l) (a) v=qv (some X) v:=T9 (t);have yca: ∀ {X Y Z v},cellsOf (tri h a b c X Y Z) (a) v=qv (some X) v:=λ{X Y Z v}=>by have:=zca (X:=X) (Y:=Y) (Z:=Z) (v:=v) (l:= []);simpa only[lan] using this
 have zcb: ∀ {X Y Z v l},cellsOf (tri h a b c X Y Z++l) (b) v=qv (some Y) v:=Ua (t);have ycb: ∀ {X Y Z v},cellsOf (tri h a b c X Y Z) (b) v=qv (some Y) v:=λ{X Y Z v}=>by have:=zcb (X:=X) (Y:=Y) (Z:=Z) (v:=v) (l:= []);simpa only[lan] using this
 have zcc: ∀ {X Y Z v l},cellsOf (tri h a b c X Y Z++l) (c) v=qv (some Z) v:=Ub (t);have ycc: ∀ {X Y Z v},cellsOf (tri h a b c X Y Z) (c) v=qv (some Z) v:=λ{X Y Z v}=>by have:=zcc (X:=X) (Y:=Y) (Z:=Z) (v:=v) (l:= []);simpa only[lan] using this
 have zla: ∀ {X Y Z v l},qz (tri h a b c X Y Z++l) (a) v=qF (some X) v:=Uc (t);have yla: ∀ {X Y Z v},qz (tri h a b c X Y Z) (a) v=qF (some X) v:=λ{X Y Z v}=>by have:=zla (X:=X) (Y:=Y) (Z:=Z) (v:=v) (l:= []);simpa only[lan] using this
 have zlb: ∀ {X Y Z v l},qz (tri h a b c X Y Z++l) (b) v=qF (some Y) v:=Ud (t);have ylb: ∀ {X Y Z v},qz (tri h a b c X Y Z) (b) v=qF (some Y) v:=λ{X Y Z v}=>by have:=zlb (X:=X) (Y:=Y) (Z:=Z) (v:=v) (l:= []);simpa only[lan] using this
 have zlc: ∀ {X Y Z v l},qz (tri h a b c X Y Z++l) (c) v=qF (some Z) v:=Ue (t);have ylc: ∀ {X Y Z v},qz (tri h a b c X Y Z) (c) v=qF (some Z) v:=λ{X Y Z v}=>by have:=zlc (X:=X) (Y:=Y) (Z:=Z) (v:=v) (l:= []);simpa only[lan] using this
 have c2:=λl=>qzu (va:=va) (t.app l) q x hq
 simp only[Tj t]at c2;unfold brO brX at c2 ⊢;unfold atC at c2 ⊢;refine acO qwH ?_;simp (disch:=omega) only[qu2,go_sem];refine qy (c2 _) (by exact flk) ?_;simp (disch:=omega) only[go_sem];exact zL trivial (by simp only[tri_len]) (jG t (jI t va (q.pt x)) (kW _ _) (jb _ _ _)) ⟨rfl,rfl⟩ (qi)
end
structure BrB (q:Br) (b:Bs):Prop where
 out:q.out=b.out
 word:q.word=b.word
 opn:q.opn=b.opn
 jn:q.jn=b.jn
theorem qbs(L:List Tk)(f:Int)(w:Str):Tz (L++ [tkF f []]) w=L++ [tkF f w]:=by
 unfold Tz;have e:(L++ [tkF f []]).length-1=L.length:=by simp
 rw[e];have g:(L++ [tkF f []]).getD L.length default=tkF f []:=by
  have:=Uk (L:=L) (M:= [tkF f []]) (a:=default) (i:=0)
  rw[Nat.add_zero]at this;rw[this];rfl
 rw[g,List.set_append_right _ _ (nlr _),Nat.sub_self];rfl
theorem qpX{q:Br}{b:Bs}{s:Str}(h:BrB q b)(hb:ql0 s b):q.nd.out=b.fin∧q.nd.word= []∧q.nd.opn=false∧q.nd.jn=b.jn:=by
 unfold Br.nd Bs.fin;cases ho:b.opn with
 |true=>
  rw[ipo (by rw[h.opn,ho]),ipo rfl];refine⟨?_,rfl,rfl,h.jn⟩;show Tz q.out q.word=_;rw[h.out,h.word];unfold Bs.out;rw[ipo ho,qbs]
 |false=>
  rw[ine (by rw[h.opn,ho];simp),ine (by simp),lan];refine⟨?_,rfl,rfl,h.jn⟩;show q.out=_;rw[h.out];unfold Bs.out;rw[ine (by rw[ho];simp),lan]
theorem qx4{q:Br}{b:Bs}{s:Str}(h:BrB q b)(hb:ql0 s b)(c:UInt8):BrB (q.pt c) (b.stp c):=by
 obtain⟨n1,n2,n3,n4⟩:=qpX h hb;unfold Br.pt Bs.stp
 by_cases g1:b.opn=true∧SX c=true
 ·rw[ipo (by rw[h.opn];exact g1),ipo g1];refine⟨?_,?_,?_,h.jn⟩
  ·show q.out=_;rw[h.out];unfold Bs.out;rw[ipo g1.1,ipo rfl]
  ·show q.word++ [c]=_;rw[h.word]
  ·show q.opn=_;rw[h.opn,g1.1]
 rw[ine (by rw[h.opn];exact g1),ine g1]
 by_cases g2:bgn c=true
 ·rw[ipo g2,ipo g2];have ho:b.opn=false:=by
   cases ho:b.opn with
   |false=>rfl
   |true=>exact absurd ⟨ho,U6 g2⟩ g1
  have hf:q.out=b.fin:=by
   rw[h.out];unfold Bs.out Bs.fin;rw[ho];rfl
  refine⟨?_,?_,rfl,rfl⟩
  ·show q.out++ [tkF (0+jfl q.jn q.out.length) []]=_;rw[hf,h.jn];unfold Bs.out;rw[ipo rfl,Int.zero_add]
  ·show q.word++ [c]=_;rw[h.word,(hb.cl ho).1];rfl
 rw[ine g2,ine g2]
 by_cases g3:kind c=6
 ·rw[ipo g3,ipo g3];refine⟨?_,n2,n3,rfl⟩;show q.nd.out=_;rw[n1];unfold Bs.out;rw[ine (by simp),lan]
 ·rw[ine g3,ine g3];refine⟨?_,n2,n3,rfl⟩;show Tz (q.nd.out++ [tkF (8+jfl q.nd.jn q.nd.out.length) []]) [c]=_;rw[qbs,n1,n4];unfold Bs.out;rw[ine (by simp),lan]
theorem qzv{q:Br}{b:Bs}{s:Str}(h:BrB q b)(hb:ql0 s b)(hs:s.length<=900000):qzb q:=by
 have hl:=hb.len;have hc:=hb.cat;have ho:b.out.length=b.fin.length:=by unfold Bs.out Bs.fin;split<;>simp
 refine⟨λe=> ?_,λe=> ?_,?_,?_⟩
 ·rw[h.opn]at e;have e2:q.out=b.done++ [tkF b.fl []]:=by rw[h.out];unfold Bs.out;rw[ipo e]
  rw[e2];refine⟨by simp,?_⟩;have g:(b.done++ [tkF b.fl []]).getD ((b.done++ [tkF b.fl []]).length-1) default=tkF b.fl []:=by
   rw[show (b.done++ [tkF b.fl []]).length-1=b.done.length+0 by simp,Uk];rfl
  rw[g];exact (hb.op e).2.2
 ·rw[h.opn]at e;rw[h.word];exact (hb.cl e).1
 ·rw[h.out,ho];omega
 ·rw[h.word];cases e:b.opn with
  |false=>rw[(hb.cl e).1];simp
  |true=>
   have hm:b.word∈b.fin.map Tk.text:=by
    unfold Bs.fin;rw[ipo e,List.map_append];exact List.mem_append_right _ (List.mem_singleton.2 rfl)
   have h1:=qaB hm;rw[hc]at h1
   have:=List.length_filter_le (λc=> !decide (kind c=6)) s
   omega
def brI(vo vw:Nat)(s:Str):Br:=s.foldl Br.pt ⟨[],[],false,false,vo,vw,false⟩
theorem qug(vo vw:Nat)(s:Str): ∀n,n<=s.length->BrB (brI vo vw (s.take n)) (bsL (s.take n)):=by
 intro n
 induction n with
 |zero=>intro _;exact⟨rfl,rfl,rfl,rfl⟩
 |succ n ih=>
  intro hn;rw[List.take_add_one,zG hn];show BrB (brI vo vw (s.take n++ [s[n]])) (bsL (s.take n++ [s[n]]));rw[qeF];unfold brI;rw[List.foldl_append];exact qx4 (ih om) (qa4 _) _
theorem qmf(vo vw:Nat)(s:Str){n:Nat}(hn:n<s.length):brI vo vw (s.take (n+1))=(brI vo vw (s.take n)).pt (ch s n):=by
 unfold brI;rw[List.take_add_one,zG hn,List.foldl_append];simp[ch,gdqA,hn]
theorem qpo(vo vw:Nat)(s:Str)(hs:s.length<=900000){n:Nat}(hn:n<=s.length):qzb (brI vo vw (s.take n)):=qzv (qug vo vw s n hn) (qa4 _) (by rw[List.length_take];omega)
def nmL(L:List Tk)(i:Nat):List Tk:=(L.take i).map tkN++L.drop i
theorem qaC(L:List Tk)(i:Nat):(nmL L i).length=L.length:=by unfold nmL;simp;omega
theorem qxN{L:List Tk}{i:Nat}(hi:i<L.length):(nmL L i).getD i default=L.getD i default:=by
 unfold nmL;rw[gdqA,List.getElem?_append_right (by simp;omega),List.getElem?_drop,gdqA];simp[Nat.min_eq_left (Nat.le_of_lt hi)]
theorem qnB{L:List Tk}{i:Nat}(hi:i<L.length):nmL L (i+1)=(nmL L i).set i (tkN (L.getD i default)):=by
 unfold nmL;have e:((L.take i).map tkN).length=i:=by simp;omega
 rw[List.set_append_right _ _ om,e,Nat.sub_self,List.drop_eq_getElem_cons hi,List.set_cons_zero,List.take_add_one,zG hi,List.map_append,List.append_assoc,gdqA,zG hi];rfl
theorem qr1(L:List Tk):nmL L L.length=L.map tkN:=by unfold nmL;rw[List.take_length,List.drop_length,lan]
theorem qnC(L:List Tk):nmL L 0=L:=by unfold nmL;simp
end RC
end
section
open Go Go.Proofs AF
def qrJ:List Nat:= [118,116,307,285,244,282,245,283,247]
def quH:C:=
 (vS [O1 3 (.box 0 88) 0,ON 6 (.nilo 1 6 92) [],vM 7 0] ((vS [MV 14 1,O1 15 (.call 240 true) 14,vN 16 .neq 15 0,MV 17 16,vQ 18 17 2,vO 19 17 (.call 241 true) 18,vR 20 17 (.bin
 .neq) 19 (i6 0),PT 21 17 20] (vT 21 (vV [ON 6 (.nilo 1 6 92) [],vM 7 1]))).seq ((vS [vL 22 1 3,LD 23 22,vN 24 .lss 23 0,MV 25 24,vZ 26 25 1 3,v6 27 25 26,vR 28 25 (.bin .gtr)
 27 (i6 4096),PT 29 25 28] (vT 29 (vV [ON 6 (.nilo 1 6 92) [],vM 7 2]))).seq ((vS [vL 30 0 3,LD 31 30,O1 32 (.call 234 true) 31,O1 33 (.un UnOp.not) 32] (vT 33 (vV [ON 6 (.nilo
 1 6 92) [],vM 7 14]))).seq (vS [MV 35 1,OC 36 (.call 242 true) 35 (i6 8),MV 34 36,O1 37 (.ext 0) 34,O1 38 (.ext 1) 34,MV 8 37,MV 9 38] (vS [MV 40 1,OC 41 (.call 242 true) 40
 (i6 9),MV 39 41,O1 42 (.ext 0) 39,O1 43 (.ext 1) 39,MV 10 42,MV 11 43] ((vS [MV 44 8,MV 45 10,BI 46 .add 44 45,vN 47 .gtr 46 0] (vT 47 (vV [ON 6 (.nilo 1 6 92) [],vM 7
 13]))).seq (vS [⟨some 12,none,.alloc 2 264 [.nl,.nilp,.nl,.bool false,.bool false,.bool false],[]⟩] (((C.wk.seq (vW [O1 48 (.load (some 2)) 3,MV 49 1,O2 50 (.call 243 true) 48
 49])).seq (C.block 0 (C.range (.t 50) [51] (vW [⟨some 13,none,.alloc 3 269 [i6 0,.int .u8 0,i6 0,.str [],i6 0,.bool false,.str []],[]⟩,ST 7 13 51]) (C.block 1 (vW [O1 52 (.load
 (some 7)) 13,O2 53 (.call 244 false) 12 52]))))).seq (vS [O1 54 (.call 245 false) 12] ((vS [vL 55 0 12,LD 56 55,O1 57 .len 56,vN 58 .gtr 57 1024,MV 59 58,vZ 60 59 0 12,v6 61 59
 60,vR 62 59 (.call 172 true) 61 (.fn (Fn.func 246) [] []),PT 63 59 62] (vT 63 (vV [ON 6 (.nilo 1 6 92) [],vM 7 4]))).seq (vV [MV 64 2,vL 65 0 12,LD 66 65,O2 67 (.call 247
 false) 64 66,O1 68 (.ext 0) 67,O1 69 (.ext 1) 67,MV 6 68,MV 7 69]))))))))))))
theorem qwk:qJ Tryz.prog 182 70 6 [RV.tmp 6,RV.tmp 7] quH:=fi Tryz.f182 [3,6,12,13,9,11] qrJ [12]
end
section
open Go Go.Proofs AF HY LN
namespace RC
theorem qoY{t:Tk}(h:TkG t)(hl:t.text.length<=64):(qf5 t.flags=false∧mkB t.flags=false∧ ∀i,i<t.text.length->SX (ch t.text i)=true)∨(qf5 t.flags=false∧mkB t.flags=true):=by
 rcases h.2 with⟨hf,c,r,e,hb,hr⟩|⟨hf,_⟩
 ·refine .inl ⟨by rcases hf with e|e<;>rw[e]<;>rfl,by rcases hf with e|e<;>rw[e]<;>rfl,λi hi=> ?_⟩;rw[e]at hi ⊢;cases i with
  |zero=>exact U6 hb
  |succ i=>
   simp only[lco]at hi
   have:ch (c::r) (i+1)=r[i]'(by omega):=by simp[ch,gdqA,show i<r.length by omega]
   rw[this];exact hr _ (List.getElem_mem _)
 ·exact .inr ⟨by rcases hf with e|e<;>rw[e]<;>rfl,by rcases hf with e|e<;>rw[e]<;>rfl⟩
theorem qoX{t:Tk}(h:TkG t): ∃f:Nat,t.flags=f∧f<32:=by
 rcases h.2 with⟨hf|hf,_⟩|⟨hf|hf,_⟩
 ·exact⟨0,hf,om⟩
 ·exact⟨16,hf,om⟩
 ·exact⟨8,hf,om⟩
 ·exact⟨24,hf,om⟩
theorem qAL(L:List Tk)(b v:Nat)(h:we)(hb:qt b h=some (ze v 92 (jf L)))(hg: ∀t∈L,TkG t)(hl: ∀t∈L,t.text.length<=64)(hn:L.length<=1000000):
  ACalls Tryz.prog 247 [.nl,.osl b v 6 0 L.length] h (.tup [.osl b v 6 0 L.length,.int .i64 0]) (qo b h (ze v 92 (jf (L.map tkN)))):=by
 have hbl:=zD hb;have hlv: ∀l,qz (h++l) b v=true:=λl=>by rw[jl,zk hbl,hb,qW];simp
 refine acO qwI ?_;simp (disch:=omega) only[qu3,hlv,go_sem];refine qr (T:=λi:Nat=>qX 49 [(0,.nl),(1,.osl b v 6 0 L.length),(10,.int .i64 L.length),(11,.int .i64 i)]) (H:=λi=>qo b h (ze v 92 (jf (nmL L i)))++ [.emp 1]) (inv:=λi=>i<=L.length) (m:=λi=>L.length-i) 0 (nzl _) ?_ ?_
 ·rw[qnC,jE hb];refine Wk.temps ?_
  (simp only[go_sem,qg,qc,qa,qf];try (repeat' first|(with_reducible apply aiA)|(apply qh;omega)|(apply qd;rfl)|exact qi))
 rintro i i1 K hK;have hML:=qaC L i
 by_cases hi:i<L.length
 ·have k1:((i:Int)<L.length)=True:=wh;have hne:jf (nmL L i)≠ []:=λe=>by
   have:=congrArg List.length e
   rw[jF,hML,lnl]at this;omega
  have ho:ze v 92 (jf (nmL L i))= .mem v 92 (jf (nmL L i)):=by unfold ze;rw[ine hne]
  rw[ho];have hM:=jF (nmL L i);rw[hML]at hM;obtain⟨t,ht⟩:=wc (L.getD i default)
  have hmem:t∈L:=by rw[ht];exact jc hi
  have gt:=hg t hmem;have lt:=hl t hmem;have hat:=qxN hi;rw[<-ht]at hat;have hsucc:=qnB hi;rw[<-ht]at hsucc;obtain⟨M,hMe⟩:=wc (nmL L i)
  rw[<-hMe]at hM hat hsucc hML ⊢;have s1: ∀ {l w cs z},cellsOf (qo b h (.mem w 92 cs)++l) b z=if w=z then some cs else none:=kY hbl
  have s2: ∀ {l o o'},qo b (qo b h o++l) o'=qo b h o'++l:=qb4 hbl;have s4: ∀ {l o},qt b (qo b h o++l)=some o:=qab hbl;have s3: ∀ {l o w},qz (qo b h o++l) b w=qF (some o) w:=λ{l o w}=>by rw[jl,s4]
  have g0:(jf M)[i*6]? =some (.str t.text):=by
   have:=qcd (L:=M) (i:=i) (k:=0) om om
   rw[Nat.add_zero]at this;rw[this,hat];rfl
  have b1:(i*6<L.length*6)=True:=wh;have b2:(i*6+1+1<=L.length*6)=True:=wh;have b3:(i*6+6<=L.length*6)=True:=wh;have hset:=qfm (L:=M) (i:=i) (tkN t) om;rw[<-hsucc]at hset;have hcut:=T8 (L:=M) (i:=i) om;rw[hat]at hcut;have hS:List.take (i*6+1) (jf M)++ [AV.str t.text]++List.drop (i*6+1+1) (jf M)=jf (nmL L (i+1)):=by
   rw[<-hset];have e1:List.take (i*6+1) (jf M)=List.take (i*6) (jf M)++ [.str t.text]:=by
    rw[List.take_add_one,g0];rfl
   have e2:List.drop (i*6+1+1) (jf M)=(tkC t).drop 2++(jf M).drop (i*6+6):=by
    rw[<-hcut,List.drop_take,List.drop_drop]
    have:List.drop (i*6+6) (jf M)=List.drop 4 (List.drop (i*6+2) (jf M)):=by rw[List.drop_drop]
    rw[this,show i*6+1+1=i*6+2 by omega];exact (List.take_append_drop 4 _).symm
   rw[e1,e2];simp[tkC,tkN]
  have hL2:=jF (nmL L (i+1));rw[qaC]at hL2;have hat2:(nmL L (i+1)).getD i default=tkN t:=by rw[hsucc];exact qbH om
  have hcut2:=T8 (L:=nmL L (i+1)) (i:=i) (by rw[qaC];exact hi);rw[hat2]at hcut2;have h0':(jf (nmL L (i+1)))[i*6]? =some (.str t.text):=by
   have:=qcd (L:=nmL L (i+1)) (i:=i) (k:=0) (by rw[qaC];exact hi) om
   rw[hat2]at this;exact this
  have hS2:List.take (i*6+1) (jf (nmL L (i+1)))++ [AV.str t.text]++List.drop (i*6+1+1) (jf (nmL L (i+1)))=jf (nmL L (i+1)):=by
   refine qdo ?_;rw[qcd (by rw[qaC];exact hi) om,hat2];rfl
  obtain⟨f,hf,hf2⟩:=qoX gt;have c1:=λh=>qBH (tkN t) f h hf hf2
  have ho2:ze v 92 (jf (nmL L (i+1)))= .mem v 92 (jf (nmL L (i+1))):=by
   unfold ze;rw[ine λe=> ?_]
   have:=congrArg List.length e
   rw[hL2,lnl]at this;omega
  rcases qoY gt lt with⟨q1,q2,q3⟩|⟨q1,q2⟩
  ·have hiw:(!qf5 (tkN t).flags&& !mkB (tkN t).flags)=true:=by rw[show (tkN t).flags=t.flags from rfl,q1,q2];rfl
   rw[hiw]at c1;have c2:=λh=>qAK t.text h lt q3
   simp (disch:=omega) only[k1,s1,s2,s4,hM,g0,b1,b2,b3,hS,hL2,hcut2,go_sem]
   repeat' first|((first|refine cA (c1 _) ?_ ?_|refine cA (c2 _) ?_ ?_);exact flk;simp (disch:=omega) only[k1,s1,s2,s4,b1,b2,hL2,h0',hS2,go_sem])|with_reducible apply aiA|exact clz|fail
   refine hK _ _ (i+1) hi om ?_;rw[ho2];refine Wk.temps ?_
   (simp only[go_sem,qg,qc,qa,qf];try (repeat' first|(with_reducible apply aiA)|(apply qh;omega)|(apply qd;rfl)|exact qi))
  ·have hiw:(!qf5 (tkN t).flags&& !mkB (tkN t).flags)=false:=by rw[show (tkN t).flags=t.flags from rfl,q1,q2];rfl
   rw[hiw]at c1;simp (disch:=omega) only[k1,s1,s2,s4,hM,g0,b1,b2,b3,hS,hL2,hcut2,go_sem]
   repeat' first|(refine cA (c1 _) flk ?_;simp (disch:=omega) only[k1,s1,b1,hL2,go_sem])|with_reducible apply aiA|exact clz|fail
   refine hK _ _ (i+1) hi om ?_;rw[ho2];refine Wk.temps ?_
   (simp only[go_sem,qg,qc,qa,qf];try (repeat' first|(with_reducible apply aiA)|(apply qh;omega)|(apply qd;rfl)|exact qi))
 have k1:((i:Int)<L.length)=False:=wi;obtain rfl:i=L.length:=by omega
 simp (disch:=omega) only[k1,go_sem];rw[qr1];refine RU ⟨trivial,trivial,trivial⟩ qK (λo ho=>(jg ho).imp id (λe=>by rw[e];exact jp (ke _ _))) ⟨rfl,rfl⟩ ?_;simp only[go_sem];rw[ine om];exact qi
end RC
end
section
open Go Go.Proofs AF HY LN
namespace AF
theorem qs1{h:we}{a b c:Nat}{X Y Z o:AObj}(ho:o∈tri h a b c X Y Z):o∈h∨o=X∨o=Y∨o=Z:=by
 unfold tri at ho;rcases jg ho with h1|rfl
 ·rcases jg h1 with h1|rfl
  ·rcases jg h1 with h1|rfl
   ·exact .inl h1
   ·exact .inr (.inl rfl)
  ·exact .inr (.inr (.inl rfl))
 ·exact .inr (.inr (.inr rfl))
theorem qyE{h l:we}{a b c k:Nat}{X Y Z:AObj}(hk:k<h.length)(ha:k≠a)(hb:k≠b)(hc:k≠c):qt k (tri h a b c X Y Z++l)=qt k h:=by
 rw[zk (by rw[tri_len];exact hk)];unfold tri;rw[qP hc,qP hb,qP ha]
theorem qyF{h l:we}{a b c k:Nat}{X Y Z o:AObj}(hk:k<h.length)(ha:k≠a)(hb:k≠b)(hc:k≠c):qo k (tri h a b c X Y Z++l) o=tri (qo k h o) a b c X Y Z++l:=by
 rw[zw (by rw[tri_len];exact hk)];unfold tri;rw[kq hc,kq hb,kq ha]
theorem qqb{h:we}{a b c:Nat}{X Y Z:AObj}(ha:qt a h=some X)(hb:qt b h=some Y)(hc:qt c h=some Z):tri h a b c X Y Z=h:=by
 unfold tri;rw[jE ha,jE hb,jE hc]
end AF
namespace RC
theorem qb5{v n:Nat}{L:List Tk}{ty:TypeId}{fz:Nat->Bool}{h:we}{d:Nat}(hn:n=L.length):VLe (qfd (some (ze v ty (jf L))) v 6 0 n (rei fz h (d+1))) (zP L):=by
 subst hn;unfold ze;split
 ·rename_i e
  have:L= []:=by
   cases L with
   |nil=>rfl
   |cons a r=>exact absurd e (by simp[jf,tkC])
  subst this;rw[slOf_emp,ipo rfl];exact qZ
 ·rw[slOf_mem,ipo ⟨rfl,by rw[jF];omega⟩];refine VLe.sl_eq rfl (λi hi=> ?_);simp only[Nat.zero_add];rw[T8 hi];rfl
theorem qC6(t:Tk)(h:we):ACalls Tryz.prog 246 [.agg (tkC t)] h (.bool (decide (64<t.text.length))) h:=by
 by_cases g:64<t.text.length
 ·have k1:((64:Int)<t.text.length)=True:=wh;rw[dqt g];refine acO qpI ?_;simp (disch:=omega) only[qqF,tkC,k1,go_sem]
  repeat' first|exact v7|fail
 ·have k1:((64:Int)<t.text.length)=False:=wi;rw[dqf g];refine acO qpI ?_;simp (disch:=omega) only[qqF,tkC,k1,go_sem]
  repeat' first|exact v7|fail
theorem qCz(L:List Tk)(h:we)(hl:L.length<=1000000000):ACalls Tryz.prog 172 [zP L,.fn (.func 246) [] []] h (.bool (qrQ L)) h:=
 qtQ qpy ⟨rfl,rfl⟩ ⟨rfl,rfl⟩ (qcV qpD L.length (λj=>tkC (L.getD j default)) (λj=> .agg (tkC (L.getD j default))) 246 [] [] (λj=>decide (64<(L.getD j default).text.length)) h (λi _=>⟨rfl,by simp[kc,tkC],rfl,rfl,rfl⟩) (λi _=>qC6 _ _) om)
end RC
end
