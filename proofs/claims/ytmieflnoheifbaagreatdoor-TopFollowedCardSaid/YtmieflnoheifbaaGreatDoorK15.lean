import Derived.Test.YtmieflnoheifbaaGreatDoorK14
import Derived.Test.YtmieflnoheifbaaGreatDoorK3
import Derived.Test.YtmieflnoheifbaaGreatDoorK5
import Derived.Test.YtmieflnoheifbaaGreatDoorK8
import Derived.Test.YtmieflnoheifbaaGreatDoorProg
set_option linter.all false
set_option maxHeartbeats 128000000
set_option maxRecDepth 100000
section
open Go Go.Proofs AF HY LN
namespace AF
theorem LowI.retY{h hh xs ys:JN}{ts:JT}{L:LInfo}(s:LS)(hl:LowI h hh)(hts: ∀c∈ts,qR (h.length+1) c=true)(hy:ys.length=xs.length)(hz: ∀o∈ys,o∈xs∨ ∀n,lowO n o):
  (hh++ .lp s ts L::ys).length=(h++ .lp .ready ts L::xs).length∧ ∀o∈hh++ .lp s ts L::ys,o∈h++ .lp .ready ts L::xs∨lowO (h++ .lp .ready ts L::xs).length o:=by
 refine⟨by simp[hl.1,hy],λo ho=> ?_⟩;rcases List.mem_append.1 ho with ho|ho
 ·rcases hl.2 o ho with h1|⟨h1,_⟩
  ·exact .inl (List.mem_append_left _ h1)
  ·exact .inr (lowO_mono (by simp) h1)
 ·rcases List.mem_cons.1 ho with rfl|ho
  ·exact .inr (λc hc=>kq (by simp) c (hts c hc))
  ·rcases hz o ho with h1|h1
   ·exact .inl (List.mem_append_right _ (List.mem_cons_of_mem _ h1))
   ·exact .inr (h1 _)
end AF
namespace RC
def atC(k:Int)(c:UInt8):JT:= [.int .i64 k,.int .u8 (c.toNat:Int),.int .i64 0,.str [],.int .i64 0,.bool false,.str []]
def atX(s:Str):List JT:=s.map λc=> [.agg (atC 1 c)]
theorem yO(s:Str):(atX s).length=s.length:=by unfold atX;simp
theorem WS{s:Str}{i:Nat}(hi:i<(atX s).length):(atX s)[i]= [.agg (atC 1 (ch s i))]:=by
 have:i<s.length:=by rw[yO]at hi;exact hi
 simp[atX,ch,gdqA,this]
def Bm(s:Str)(j:Nat):UInt8:=if j=0 then 0 else ch s (j-1)
def cyA(n:Nat):AObj:= .mem 1 389 [.yld n]
def cxA(k:Int)(c:UInt8):AObj:= .mem 1 348 (atC k c)
def ceA(n:Nat):AObj:= .mem 1 390 [.fn (.func 343) [] [.op (n+2) 1 0,.op (n+1) 1 0,.op (n+3) 1 0]]
theorem sx(k:Int)(c:UInt8): ∀n,lowO n (cxA k c):=λn d hd=>by
 simp[atC]at hd;rcases hd with rfl|rfl|rfl|rfl|rfl|rfl|rfl<;>rfl
section
variable {n : Nat} {hh m : JN} {st : LS} {ts : JT} {LI : LInfo} {k : Int} {c : UInt8} {X : AObj}
theorem Nq(hl:hh.length=n):cellsOf (hh++ .lp st ts LI::cyA n::X::ceA n::m) (n+1) 1=some [.yld n]:=qJ (show qu _ _=some (cyA n) by subst hl;unfold qu;simp)
theorem Nr(hl:hh.length=n):qu (n+2) (hh++ .lp st ts LI::cyA n::X::ceA n::m)=some X:=by subst hl;unfold qu;simp
theorem DN{Y:AObj}(hl:hh.length=n):qt (n+2) (hh++ .lp st ts LI::cyA n::X::ceA n::m) Y=hh++ .lp st ts LI::cyA n::Y::ceA n::m:=by subst hl;unfold qt;simp
end
theorem eachT(s:Str)(hl:s.length<=1000000)(h:JN)(ts:JT)(LI:LInfo)(S:Nat->JN->Prop)(E:LS->JN->Prop)(hS: ∀i hh,S i hh->LowI h hh)(hE: ∀s hh,E s hh->LowI h hh)
  (body: ∀i hh tl,(hi:i<(atX s).length)->S i hh->jQ Tryz.prog h.length ((atX s)[i]) (hh++ .lp .ready ts LI::tl) (λr h'=> ∃hh',(r= .bool true∧S (i+1) hh'∧h'=hh'++ .lp .ready ts LI::tl)∨(∃s,r= .bool false∧E s hh'∧h'=hh'++ .lp s ts LI::tl)))
  (start:S 0 h) (hts: ∀c∈ts,qR (h.length+1) c=true):
  z7 Tryz.prog 343 [jZ s,.op (h.length+2) 1 0,.op (h.length+1) 1 0,.op (h.length+3) 1 0] (h++ [.lp .ready ts LI,cyA h.length,cxA 0 0,ceA h.length])
   (λr h'=> ∃hh' c,(r= .bool true∧S s.length hh'∧h'=hh'++ [.lp .ready ts LI,cyA h.length,cxA 1 c,ceA h.length])∨(∃st,r= .bool false∧E st hh'∧h'=hh'++ [.lp st ts LI,cyA h.length,cxA 1 c,ceA h.length])):=by
 refine acQ Hy ?_;simp (disch:=omega) only[E6,jZ,ndC,go_sem];have key: ∀(hh:JN) (k:Int) (c:UInt8),hh.length=h.length-> ∃B,B=hh++ [AObj.lp LS.ready ts LI,cyA h.length,cxA k c,ceA h.length]∧B.length=h.length+4∧qu (h.length+2) B=some (cxA k c)∧(∀Y m,cellsOf (qt (h.length+2) B Y++m) (h.length+1) 1=some [.yld h.length])∧
   (∀Y m,qt (h.length+2) B Y++m=hh++ [AObj.lp LS.ready ts LI,cyA h.length,Y,ceA h.length]++m):=λhh k c hl=>by
  refine⟨_,rfl,by simp[hl],Nr (m:= []) hl,λY m=> ?_,λY m=> ?_⟩
  ·rw[DN (m:= []) hl];have e:hh++ [AObj.lp LS.ready ts LI,cyA h.length,Y,ceA h.length]++m=hh++ .lp .ready ts LI::cyA h.length::Y::ceA h.length::m:=by simp
   rw[e];exact Nq hl
  ·rw[DN (m:= []) hl]
 have ea: ∀(g:JN) st (X:AObj) m,g++ [AObj.lp st ts LI,cyA h.length,X,ceA h.length]++m=g++ .lp st ts LI::cyA h.length::X::ceA h.length::m:=λg st X m=>by simp
 refine qr (T:=λi:Nat×JN×AObj×AObj×UInt8=>qY 93 [(1,.op (h.length+2) 1 0),(2,.op (h.length+1) 1 0),(3,.op (h.length+3) 1 0),(11,jZ s),(12,.int .i64 ((1:Nat):Int)),(13,.int .i64 i.1)])
  (H:=λi=>i.2.1++ [.lp .ready ts LI,cyA h.length,cxA (if i.1=0 then 0 else 1) i.2.2.2.2,ceA h.length]++ [i.2.2.1,i.2.2.2.1])
  (inv:=λi=>i.1<=1∧S (if i.1=0 then 0 else s.length) i.2.1∧qG [i.2.2.1] 0=true∧qG [i.2.2.2.1] 0=true∧(i.1=0->i.2.2.2.2=0)) (m:=λi=>1-i.1) (0,h,.emp 0,.emp 0,0) ⟨nzl _,start,rfl,rfl,λ_=>rfl⟩ (Wk.temps ?_) ?_
 ·(simp only[jZ,ndC,go_sem,qg,qc,qb,qf];try exact tT)
 rintro⟨i,hh,O7,O9,c⟩ ⟨i1,i2,i3,i4,i5⟩ K hK;simp only at i1 i2 i3 i4 i5 hK;obtain⟨hlen,hlow⟩:=hS _ _ i2;have i3': ∀m,qG (O7::m) 0=true:=λ_=>i3
 have i4': ∀m,qG (O9::m) 0=true:=λ_=>i4
 by_cases hi:i<1
 ·obtain rfl:i=0:=by omega
  obtain rfl:=i5 rfl;rw[ipo rfl]at i2;obtain⟨B,hB,hBl,hk,d1,d2⟩:=key hh 0 0 hlen;have hb:(h++ [AObj.lp LS.ready ts LI,cyA h.length,cxA 0 0,ceA h.length]).length=B.length:=by rw[hBl];simp
  have hkl:h.length+2<B.length:=by omega
  have s1: ∀ {l w cs z},cellsOf (qt (h.length+2) B (.mem w 348 cs)++l) (h.length+2) z=if w=z then some cs else none:=vu hkl
  have s2: ∀ {l o o'},qt (h.length+2) (qt (h.length+2) B o++l) o'=qt (h.length+2) B o'++l:=cC hkl;have s4: ∀ {l o},qu (h.length+2) (qt (h.length+2) B o++l)=some o:=yA hkl;show qV _ _ _ _ _ (hh++ [.lp .ready ts LI,cyA h.length,cxA 0 0,ceA h.length]++ [O7,O9]);rw[hb,<-hB];have hB0:B=qt (h.length+2) B (.mem 1 348 (atC 0 0)):=(jE hk).symm;rw[show B++ [O7,O9]=qt (h.length+2) B (.mem 1 348 (atC 0 0))++ [O7,O9]from by rw[<-hB0]];unfold atC;simp (disch:=omega) only[jZ,ndC,i3',go_sem]
  repeat' first|(with_reducible first|intro _|apply aiA)|exact clz|fail
  refine jX ?T ?H ?h1 ?h2
  case h1=>
   simp (disch:=omega) only[s1,s2,s4,go_sem]
   repeat' first|with_reducible apply aiA
   all_goals first
    |omega
    |rfl
    |skip
  case h2=>
  simp (disch:=omega) only[s1,s2,s4,go_sem]
  repeat' first|(with_reducible first|intro _|apply aiA)|exact clz|fail
  rw[d2];obtain⟨O7',hO7⟩:=Qt (AObj.mem (qo (some O7)+1) 234 (ndC s))
  refine qr (T:=λj:Nat×JN=>qY 93 [(1,.op (h.length+2) 1 0),(2,.op (h.length+1) 1 0),(3,.op (h.length+3) 1 0),(7,.op B.length (qo (some O7)+1) 0),(11,jZ s),(12,.int .i64 ((1:Nat):Int)),(13,.int .i64 ((0:Nat):Int)),(70,.int .i64 s.length),(71,.int .i64 j.1)])
   (H:=λj=>j.2++ [.lp .ready ts LI,cyA h.length,cxA 1 (Bm s j.1),ceA h.length]++ [O7',O9])
   (inv:=λj=>j.1<=s.length∧S j.1 j.2) (m:=λj=>s.length-j.1) (0,hh) ⟨nzl _,i2⟩ ?_ ?_
  ·rw[hO7];refine Wk.temps ?_
   (simp only[jZ,ndC,go_sem,qg,qc,qb,qf];try exact tT)
  rintro⟨j,hj⟩ ⟨j1,j2⟩ K' hK';simp only at j1 j2 hK';obtain⟨jlen,jlow⟩:=hS _ _ j2;obtain⟨C,hC,hCl,ck,e1,e2⟩:=key hj 1 (Bm s j) jlen;have ckl:h.length+2<C.length:=by omega
  have t1: ∀ {l w cs z},cellsOf (qt (h.length+2) C (.mem w 348 cs)++l) (h.length+2) z=if w=z then some cs else none:=vu ckl
  have t2: ∀ {l o o'},qt (h.length+2) (qt (h.length+2) C o++l) o'=qt (h.length+2) C o'++l:=cC ckl;have t4: ∀ {l o},qu (h.length+2) (qt (h.length+2) C o++l)=some o:=yA ckl;show qV _ _ _ _ _ (hj++ [.lp .ready ts LI,cyA h.length,cxA 1 (Bm s j),ceA h.length]++ [O7',O9]);have hbc:B.length=C.length:=by rw[hBl,hCl]
  simp only[hbc];rw[<-hC];have hC0:C=qt (h.length+2) C (.mem 1 348 (atC 1 (Bm s j))):=(jE ck).symm;rw[show C++ [O7',O9]=qt (h.length+2) C (.mem 1 348 (atC 1 (Bm s j)))++ [O7',O9]from by rw[<-hC0]];unfold atC;rw[hO7]
  by_cases hjl:j<s.length
  ·have k1:((j:Int)<s.length)=True:=eqt oma;have e:(s[j]?).getD 0=ch s j:=by simp[ch,gdqA]
   have hb':=λtl=>body j hj tl (by rw[yO];exact hjl) j2
   simp only[WS,atC]at hb';simp (disch:=omega) only[jZ,ndC,t1,t2,t4,k1,e,e1,go_sem]
   repeat' first|with_reducible apply aiA|exact clz|fail
   ·rw[e2,ea];exact⟨.ready,ts,LI,ko jlen⟩
   ·rw[e2,ea];refine jQ.mono ?_ (hb' _);rintro v h' ⟨hh',⟨rfl,hn,rfl⟩|⟨st,rfl,hs',rfl⟩⟩
    ·simp (disch:=omega) only[go_sem];rw[<-ea];refine hK' _ _ (j+1,hh') ⟨hjl,hn⟩ (by simp only;omega) ?_;simp only[hO7,Bm,Nat.add_sub_cancel,hbc];rw[ine oma];refine Wk.temps ?_
     (simp only[jZ,ndC,go_sem,qg,qc,qb,qf];try exact tT)
    ·simp (disch:=omega) only[go_sem];rw[<-ea hh' st];obtain⟨r1,r2⟩:=(hE _ _ hs').retY (L:=LI) (xs:= [cyA h.length,cxA 0 0,ceA h.length]) (ys:= [cyA h.length,cxA 1 (ch s j),ceA h.length]) st hts rfl (λo ho=>by
      simp only[List.mem_cons,List.not_mem_nil,or_false]at ho;rcases ho with rfl|rfl|rfl
      ·left;simp
      ·right;exact sx 1 _
      ·left;simp)
     exact kX ⟨trivial,trivial⟩ r1 r2 ⟨hh',ch s j,.inr ⟨st,rfl,hs',rfl⟩⟩ (qi)
  have k1:((j:Int)<s.length)=False:=eqf oma;obtain rfl:j=s.length:=by omega
  simp (disch:=omega) only[jZ,ndC,k1,go_sem];rw[e2];refine hK _ _ (1,hj,O7',O9,Bm s s.length) ⟨nlr _,j2,by rw[hO7];rfl,i4,λh=>absurd h (by simp)⟩ (by simp only;omega) ?_;simp only[hO7];refine Wk.temps ?_
  (simp only[jZ,ndC,go_sem,qg,qc,qb,qf];try exact tT)
 ·obtain rfl:i=1:=by omega
  have i2:S s.length hh:=i2;show qV _ _ _ _ _ (hh++ [.lp .ready ts LI,cyA h.length,cxA 1 c,ceA h.length]++ [O7,O9]);simp (disch:=omega) only[jZ,ndC,go_sem]
  repeat' first|(with_reducible first|intro _|apply aiA)|exact clz|fail
  obtain⟨r1,r2⟩:=(hS _ _ i2).retY (L:=LI) (xs:= [cyA h.length,cxA 0 0,ceA h.length]) (ys:= [cyA h.length,cxA 1 c,ceA h.length]) .ready hts rfl (λo ho=>by
   simp only[List.mem_cons,List.not_mem_nil,or_false]at ho;rcases ho with rfl|rfl|rfl
   ·left;simp
   ·right;exact sx 1 c
   ·left;simp)
  exact kX ⟨trivial,trivial⟩ r1 r2 ⟨hh,c,.inl ⟨rfl,i2,rfl⟩⟩ (qi)
end RC
end
section
open Go Go.Proofs AF HY LN
namespace RC
theorem itA(s:Str)(hl:s.length<=1000000):pd Tryz.prog 342 [.ip [.str [],.int .i64 0],.ip [jZ s]] (atX s):=by
 intro h ts LI S E hS hE body start hts;have hb:(h++ [AObj.lp LS.ready ts LI]).length=h.length+1:=by simp
 have ea: ∀st,h++ [AObj.lp st ts LI]++ [.mem 1 389 [.yld h.length],.mem 1 348 [.int .i64 0,.int .u8 0,.int .i64 0,.str [],.int .i64 0,.bool false,.str []],.mem 1 390 [.fn (.func 343) [] [.op (h.length+2) 1 0,.op (h.length+1) 1 0,.op (h.length+3) 1 0]]]=h++ [AObj.lp st ts LI,cyA h.length,cxA 0 0,ceA h.length]:=λst=>by simp[cyA,cxA,ceA,atC]
 refine acQ Hw ?_;simp (disch:=omega) only[E5,jZ,go_sem]
 repeat' first|with_reducible apply aiA|exact clz|fail
 simp only[hb,Nat.add_assoc,Nat.reduceAdd,ea];refine rK (eachT s hl h ts LI S E hS hE body start hts) ?_;rintro v h' ⟨hh',c,⟨rfl,hn,rfl⟩|⟨st,rfl,hs',rfl⟩⟩
 ·simp (disch:=omega) only[go_sem];obtain⟨r1,r2⟩:=(hS _ _ hn).retX (L:=LI) (xs:= []) .ready hts;have eO:hh'++ [.lp .ready ts LI,cyA h.length,cxA 1 c,ceA h.length]=(hh'++ [.lp .ready ts LI])++ [cyA h.length,cxA 1 c,ceA h.length]:=by simp
  rw[eO];exact zH trivial r1 r2 ⟨hh',.inl ⟨by rw[yO];exact hn,rfl⟩⟩ (qi)
 ·simp (disch:=omega) only[go_sem];obtain⟨r1,r2⟩:=(hE _ _ hs').retX (L:=LI) (xs:= []) st hts;have eO:hh'++ [.lp st ts LI,cyA h.length,cxA 1 c,ceA h.length]=(hh'++ [.lp st ts LI])++ [cyA h.length,cxA 1 c,ceA h.length]:=by simp
  rw[eO];exact zH trivial r1 r2 ⟨hh',.inr ⟨st,hs',rfl⟩⟩ (qi)
theorem Su(s:Str)(h:JN):ACalls Tryz.prog 286 [.agg [.str [],.int .i64 0],jZ s] h (.fn (.func 342) [] [.ip [.str [],.int .i64 0],.ip [jZ s]]) h:=by
 refine acO Hi ?_;simp (disch:=omega) only[EV,jZ,ndC,go_sem]
 repeat' first|exact tF|fail
end RC
end
section
open Go Go.Proofs AF HY RC LN
namespace HY
theorem xC(w:World)(b d:Nat)(v:Value):w.grownBy (w.setCell ⟨b,d,none⟩ v) (some b):=by
 unfold World.setCell;refine⟨rfl,rfl,rfl,?_,λk hk hne=> ?_⟩
 ·simp
 ·have:b≠k:=λe=>hne (by rw[e])
  simp[Array.getElem?_modify,this]
theorem OW(n:Nat)(hn:6<=n):liesAt Tryz.prog Tryz.prog.depth 343 (n/Tryz.prog.cellsOf 343) 1 333 1=true:=by
 have e1:Tryz.prog.cellsOf 343=6:=by kernel_rfl
 have h1:liesAt Tryz.prog Tryz.prog.depth 343 1 1 333 1=true:=by kernel_rfl
 rw[e1];exact y9 oma _ h1
theorem ccT(kb vb:Nat)(z0 z1 z2 z3:AV)(A B:AV)(h:JN)(hk:qu kb h=some (.mem vb 343 [z0,A,B,z1,z2,z3]))(hA:A= .nilp∨A= .op kb vb 1):ACalls Tryz.prog 333 [.op kb vb 1] h (.tup []) (qt kb h (.mem vb 343 [z0,.op kb vb 1,B,z1,z2,z3])):=by
 refine⟨AZ Tryz.func333 (by kernel_rfl) (by kernel_rfl),λw σ xs H hv=> ?_⟩;obtain⟨x,rfl,hx⟩:=hv.one;have hc:=qJ hk;obtain⟨cs,o,b,arr,g1,rfl,g2,g3,g4,g5,g6,g7,g9,g8⟩:=kr H hx (by rw[hc];rfl);rw[hc]at g1;cases g1;have hobj:=H.obj kb _ o hk g2;obtain⟨_,hty,_⟩:=hobj;rw[hty]at g5;have g5b:=g5;have g5:=g5.plain (by decide);have hsz:6<=arr.size:=g7;have hc0:w.cell? ⟨b,1,none⟩=some arr[1]:=by rw[jV g5b];simp
 have hA0:=g8 1 A arr[1] rfl (by simp);have hsh:w.shape? b=some (343,arr.size):=by simp[World.shape?,g5]
 have hfz:w.frozen? ⟨b,1,none⟩=false:=by simp[World.frozen?,g5]
 have hkl:=zh hk;rcases hA with rfl|rfl
 ·rw[di hA0]at hc0;refine (callsIn_wide.2 (iW b 1 343 arr.size w hc0 oma hsh hfz (OW _ hsz))).mono ?_;rintro e w' ⟨rfl,rfl⟩;have hg:w.grownBy (w.setCell ⟨b,1,none⟩ (.pointer (some ⟨b,1,none⟩))) o.blk:=by rw[g4];exact xC w b 1 _
  have hh:=heap_setCell_same w b 1 arr 343 (.pointer (some ⟨b,1,none⟩)) g5;obtain⟨u1,u2⟩:=H.update (o':=o) (a':= .mem vb 343 [z0,.op kb vb 1,B,z1,z2,z3]) g2 hg (nlr _) (λ_=>rfl)
   (by intro b' e;rw[g4]at e;cases e;exact⟨.inl g4,(Array.getElem?_eq_some_iff.1 hh).1⟩) (λb' r e hr=>by rw[g4]at e;cases e;rw[g5]at hr;cases hr)
   (λe=>⟨g3,hty,b,_,g4,by rw[hty];exact .mk hh,by simp[g6],by simp;exact hsz,λi y hi hy=>by
    simp only[Array.getElem?_setIfInBounds]at hy;split at hy
    ·split at hy
     ·cases hy;rfl
     ·cases hy
    ·exact g9 i y (by simpa using hi) hy,λi c y hc hy=>by
    simp only[Array.getElem?_setIfInBounds]at hy;split at hy
    ·rename_i e0;split at hy
     ·cases hy;subst e0;simp at hc;subst hc;have hko:(σ.set kb o)[kb]? =some o:=by rw[List.getElem?_set_self (by rw[H.len];exact hkl)]
      exact .op o hko ⟨_,rfl⟩ oma (λ_=>⟨b,g4,rfl⟩)
     ·cases hy
    ·rename_i e0;have hne:i≠1:=λe1=>e0 e1.symm
     have hcs: [z0,.op kb vb 1,B,z1,z2,z3]= [z0,.nilp,B,z1,z2,z3].set 1 (.op kb vb 1):=rfl;rw[hcs,List.getElem?_set_ne (λe1=>hne e1.symm)]at hc
     exact (g8 i c y hc hy).ext e⟩)
  exact⟨_,_,rfl,u1,.imm (.tup rfl (λi c x hc=>by simp at hc)),u2⟩
 ·obtain⟨o',q1,q2,q3⟩:=CJ hA0;rw[g2]at q1;cases q1;obtain⟨b',q4,q5⟩:=q3 g3;rw[g4]at q4;cases q4;rw[q5]at hc0;refine (callsIn_wide.2 (rP b 1 w hc0)).mono ?_;rintro e w' ⟨rfl,rfl⟩;rw[jE hk];exact⟨_,σ,rfl,H,.imm (.tup rfl (λi c x hc=>by simp at hc)),Ext.refl w' σ⟩
theorem iU{kb vb kj v m:Nat}{z0 z1 z2 z3:AV}{h:JN}{s:List UInt8}(lz0:qR h.length z0=true)(lz1:qR h.length z1=true)(lz2:qR h.length z2=true)(lz3:qR h.length z3=true)(hkl:kb<h.length)(hjl:kj<h.length): ∀o∈qt kj (qt kb h (.mem vb 343 [z0,.op kb vb 1,.osl kj v 1 0 m,z1,z2,z3])) (az v s),o∈h∨lowO h.length o:=by
 intro o ho;rcases jk ho with h1|rfl
 ·rcases jk h1 with h2|rfl
  ·exact .inl h2
  ·right;intro c hc;simp only[List.mem_cons,List.not_mem_nil,or_false]at hc;rcases hc with rfl|rfl|rfl|rfl|rfl|rfl
   ·exact lz0
   ·simpa[qR] using hkl
   ·simpa[qR] using hjl
   ·exact lz1
   ·exact lz2
   ·exact lz3
 ·exact .inr (jc v s _)
theorem Ul(kb vb kj v:Nat)(z0 z1 z2 z3:AV)(A:AV)(s:List UInt8)(u:UInt8)(h:JN)(lz0:qR h.length z0=true)(lz1:qR h.length z1=true)(lz2:qR h.length z2=true)(lz3:qR h.length z3=true)(hne:kj≠kb)(hk:qu kb h=some (.mem vb 343 [z0,A,.osl kj v 1 0 s.length,z1,z2,z3]))(hA:A= .nilp∨A= .op kb vb 1)(hj:qu kj h=some (az v s))(hl:s.length+1<=140737488355328):
  ACalls Tryz.prog 377 [.op kb vb 1,.int .u8 u.toNat] h .nilif (qt kj (qt kb h (.mem vb 343 [z0,.op kb vb 1,.osl kj (v+1) 1 0 (s.length+1),z1,z2,z3])) (az (v+1) (s++ [u]))):=by
 have hkl:=zh hk;have hjl:=zh hj;have hne':kb≠kj:=λe=>hne e.symm
 have hj0:kj≠h.length:=by omega
 have hj1:kj≠h.length+1:=by omega
 have hk1: ∀l,qu kb (h++l)=some (.mem vb 343 [z0,A,.osl kj v 1 0 s.length,z1,z2,z3]):=λl=>by rw[zA hkl,hk]
 refine acO HF ?_;simp (disch:=omega) only[Ff,go_sem];refine qE (ccT kb vb z0 z1 z2 z3 A _ _ (hk1 _) hA) ⟨rfl,trivial⟩ ?_
 by_cases hs:s= []
 ·subst hs;rw[yx]at hj;simp (disch:=omega) only[zC,jf,qQ,bV,bW,cz,cB,zP,jp,ql,aZ,hj,zQ,go_sem]
  repeat' first|(with_reducible apply aiA)
  all_goals first
   |omega
   |(rw[bne_iff_ne];exact hj0)
   |(simp;done)
   |skip
  rw[bL hne',show AObj.mem (v+1) 5 [AV.int IntKind.u8 u.toNat]=az (v+1) [u]from (wF (s:= [u]) (by simp) _).symm];exact kX ⟨trivial,trivial⟩ (by simp only[qL]) (iU lz0 lz1 lz2 lz3 hkl hjl) ⟨rfl,rfl⟩ (qi)
 ·rw[wF hs]at hj;simp (disch:=omega) only[zC,jf,qQ,bV,bW,cz,cB,zP,jp,ql,wj,hj,jx,zQ,go_sem]
  repeat' first|(with_reducible apply aiA)
  all_goals first
   |omega
   |(rw[bne_iff_ne];exact hj0)
   |(simp[jx];done)
   |skip
  rw[bL hne',ltl (by simp[jx]),show zE s++ [AV.int IntKind.u8 u.toNat]=zE (s++ [u])from (aP s [u]).symm,<-wF (s:=s++ [u]) (by simp)];exact kX ⟨trivial,trivial⟩ (by simp only[qL]) (iU lz0 lz1 lz2 lz3 hkl hjl) ⟨rfl,rfl⟩ (qi)
theorem TY(kb vb kj v:Nat)(z0 z1 z2 z3:AV)(A:AV)(s:List UInt8)(h:JN)(hne:kj≠kb)(hk:qu kb h=some (.mem vb 343 [z0,A,.osl kj v 1 0 s.length,z1,z2,z3]))(hj:qu kj h=some (az v s)):
  ACalls Tryz.prog 278 [.op kb vb 1] h (.str s) (qt kj h (.emp (v+1))):=by
 refine⟨AZ Tryz.func278 (by kernel_rfl) (by kernel_rfl),λw σ xs H hv=> ?_⟩;obtain⟨x,rfl,hx⟩:=hv.one;have hc:=qJ hk;obtain⟨cs,o,b,arr,g1,rfl,g2,g3,g4,g5,g6,g7,g9,g8⟩:=kr H hx (by rw[hc];rfl);rw[hc]at g1;cases g1;have hty:=(H.obj kb _ o hk g2).2.1;rw[hty]at g5;have g5b:=g5;have g5:=g5.plain (by decide);have hsz:6<=arr.size:=g7;have hc1:w.cell? ⟨b,1+1,none⟩=some arr[1+1]:=by rw[jV g5b];simp
 have hB:=g8 (1+1) _ arr[1+1] rfl (by simp);obtain⟨oj,j1,j2,j3⟩:=ZA hB;have hobj:=H.obj kj _ oj hj j1;have hkj:=zh hj
 by_cases hs:s= []
 ·subst hs;rw[yx]at hj hobj;obtain⟨m1,m2⟩:=hobj;rcases j3 m1 with⟨_,_,_,e⟩|⟨b',cap,e,_⟩
  ·rw[e]at hc1;refine (callsIn_wide.2 (md b 1 w hc1)).mono ?_;rintro e w' ⟨rfl,rfl⟩;obtain⟨u1,u2⟩:=H.update (w':=w.drew) (o':= { oj with blk:=none,ver:=v+1 }) (a':= .emp (v+1)) j1 ⟨rfl,rfl,rfl,nlr _,λ_ _ _=>rfl⟩ (by simp only;omega) (by simp only;omega) (by intro b' e;cases e) (λb' r e hr=>⟨r,hr⟩) (λ_=>⟨rfl,rfl⟩);exact⟨_,_,rfl,u1,.imm .str,u2⟩
  ·rw[m2]at e;cases e
 ·rw[wF hs]at hj hobj;obtain⟨m1,m2,bj,arrj,m3,m4,m5,m6,m7,m8⟩:=hobj;rcases j3 m1 with⟨e,_⟩|⟨b',cap,e1,e2,e3,e4,e5⟩
  ·rw[m3]at e;cases e
  ·rw[m3]at e1;cases e1;rw[e2]at hc1;rw[m2]at m4;have m4b:=m4;have m4:=m4.plain (by decide);rw[jx]at m6;refine (callsIn_wide.2 (mf b 1 bj cap s arrj w hs hc1 m4 e3 e4 oma (λj x hx=> ?_))).mono ?_
   ·have hjl:j<s.length:=(lgs.1 hx).1;rw[jV m4b];have ea:arrj[j]? =some arrj[j]:=by simp
    have:=m8 j (.int .u8 x.toNat) arrj[j] (by simp[zE,hx]) ea
    rw[ea,zK this]
   ·rintro e w' ⟨rfl,rfl⟩;have hg:w.grownBy (w.drew.freeze ⟨bj,0,none⟩ s.length) oj.blk:=by
     rw[m3];exact x8 w bj s.length
    obtain⟨u1,u2⟩:=H.update (o':= { oj with blk:=none,ver:=v+1 }) (a':= .emp (v+1)) j1 hg (by simp only;omega) (by simp only;omega) (by intro b' e;cases e)
     (λb' r e hr=>by rw[m3]at e;cases e;rw[m4]at hr;cases hr) (λ_=>⟨rfl,rfl⟩)
    exact⟨_,_,rfl,u1,.imm .str,u2⟩
end HY
end
section
open Go Go.Proofs AF HY LN
namespace AF
def tri(h:JN)(a b c:Nat)(X Y Z:AObj):JN:=qt c (qt b (qt a h X) Y) Z
structure T3 (h:JN) (a b c:Nat):Prop where
 la:a<h.length
 lb:b<h.length
 lc:c<h.length
 ab:a≠b
 ac:a≠c
 bc:b≠c
section
variable {h l : JN} {a b c n v : Nat} {X Y Z o : AObj}
theorem T3.app(t:T3 h a b c)(l:JN):T3 (h++l) a b c:=by
 have:=t.la;have:=t.lb;have:=t.lc
 exact⟨by rw[lap];omega,by rw[lap];omega,by rw[lap];omega,t.ab,t.ac,t.bc⟩
theorem tri_len:(tri h a b c X Y Z).length=h.length:=by unfold tri;simp only[qL]
theorem Ce(t:T3 h a b c):tri (h++l) a b c X Y Z=tri h a b c X Y Z++l:=by
 unfold tri;rw[zC t.la,zC (by rw[qL];exact t.lb),zC (by rw[qL,qL];exact t.lc)]
theorem vF(t:T3 h a b c):qu a (tri h a b c X Y Z++l)=some X:=by
 rw[zA (by rw[tri_len];exact t.la)];unfold tri;rw[qQ t.ac,qQ t.ab,jf t.la]
theorem v6(t:T3 h a b c):qu b (tri h a b c X Y Z++l)=some Y:=by
 rw[zA (by rw[tri_len];exact t.lb)];unfold tri;rw[qQ t.bc,jf (by rw[qL];exact t.lb)]
theorem vG(t:T3 h a b c):qu c (tri h a b c X Y Z++l)=some Z:=by
 rw[zA (by rw[tri_len];exact t.lc)];unfold tri;rw[jf (by rw[qL,qL];exact t.lc)]
theorem v7(t:T3 h a b c):qt a (tri h a b c X Y Z++l) o=tri h a b c o Y Z++l:=by
 rw[zC (by rw[tri_len];exact t.la)];unfold tri;rw[ku t.ac,ku t.ab,kv]
theorem wz(t:T3 h a b c):qt b (tri h a b c X Y Z++l) o=tri h a b c X o Z++l:=by
 rw[zC (by rw[tri_len];exact t.lb)];unfold tri;rw[ku t.bc,kv]
theorem wA(t:T3 h a b c):qt c (tri h a b c X Y Z++l) o=tri h a b c X Y o++l:=by
 rw[zC (by rw[tri_len];exact t.lc)];unfold tri;rw[kv]
theorem tri_go:qu (h.length+n) (tri h a b c X Y Z++l)=l[n]? :=by
 have:= @getO_app (tri h a b c X Y Z) l n
 rwa [tri_len]at this
theorem tri_go0:qu h.length (tri h a b c X Y Z++l)=l[0]? :=by
 have:= @getO_app0 (tri h a b c X Y Z) l
 rwa [tri_len]at this
theorem tri_so:qt (h.length+n) (tri h a b c X Y Z++l) o=tri h a b c X Y Z++l.set n o:=by
 have:= @setO_app (tri h a b c X Y Z) l n o
 rwa [tri_len]at this
theorem tri_so0:qt h.length (tri h a b c X Y Z++l) o=tri h a b c X Y Z++l.set 0 o:=by
 have:= @setO_app0 (tri h a b c X Y Z) l o
 rwa [tri_len]at this
theorem tri_co:cellsOf (tri h a b c X Y Z++l) (h.length+n) v=cellsOf l n v:=by unfold cellsOf;rw[tri_go];rfl
theorem tri_co0:cellsOf (tri h a b c X Y Z++l) h.length v=cellsOf l 0 v:=by unfold cellsOf;rw[tri_go0];rfl
theorem tri_to:qG (tri h a b c X Y Z++l) (h.length+n)=qG l n:=by unfold qG;rw[tri_go];rfl
theorem tri_to0:qG (tri h a b c X Y Z++l) h.length=qG l 0:=by unfold qG;rw[tri_go0];rfl
theorem tri_lo:qF (tri h a b c X Y Z++l) (h.length+n) v=qF l n v:=by unfold qF;rw[tri_go];rfl
theorem xp(t:T3 h a b c):cellsOf (tri h a b c X Y Z++l) a v=qv (some X) v:=by rw[zP,vF t]
theorem xq(t:T3 h a b c):cellsOf (tri h a b c X Y Z++l) b v=qv (some Y) v:=by rw[zP,v6 t]
theorem xr(t:T3 h a b c):cellsOf (tri h a b c X Y Z++l) c v=qv (some Z) v:=by rw[zP,vG t]
theorem xt(t:T3 h a b c):qF (tri h a b c X Y Z++l) a v=qH (some X) v:=by rw[jp,vF t]
theorem xu(t:T3 h a b c):qF (tri h a b c X Y Z++l) b v=qH (some Y) v:=by rw[jp,v6 t]
theorem xw(t:T3 h a b c):qF (tri h a b c X Y Z++l) c v=qH (some Z) v:=by rw[jp,vG t]
theorem Ci(t:T3 h a b c){X' Y' Z':AObj}:tri (tri h a b c X Y Z) a b c X' Y' Z'=tri h a b c X' Y' Z':=by
 have e1:=v7 (X:=X) (Y:=Y) (Z:=Z) (l:= []) (o:=X') t;have e2:=wz (X:=X') (Y:=Y) (Z:=Z) (l:= []) (o:=Y') t;have e3:=wA (X:=X') (Y:=Y') (Z:=Z) (l:= []) (o:=Z') t;simp only[lan]at e1 e2 e3
 conv=>lhs;unfold tri
 rw[show qt c (qt b (qt a h X) Y) Z=tri h a b c X Y Z from rfl,e1,e2,e3]
theorem jG(t:T3 h a b c){X' Y' Z':AObj}(hx:lowO h.length X')(hy:lowO h.length Y')(hz:lowO h.length Z'): ∀o∈tri h a b c X' Y' Z',o∈tri h a b c X Y Z∨lowO (tri h a b c X Y Z).length o:=by
 intro o ho;rw[tri_len];rw[<-Ci (X:=X) (Y:=Y) (Z:=Z) t]at ho;unfold tri at ho;rcases jk ho with h1|rfl
 ·rcases jk h1 with h1|rfl
  ·rcases jk h1 with h1|rfl
   ·exact .inl h1
   ·exact .inr hx
  ·exact .inr hy
 ·exact .inr hz
end
attribute [go_sem] tri_len tri_go tri_go0 tri_so tri_so0 tri_co tri_co0 tri_to tri_to0 tri_lo
theorem ACalls.wk{P:Program}{f:FuncId}{args:JT}{h h' h'':JN}{r:AV}(hc:ACalls P f args h r h')(hw:Wk [] h' [] h''):ACalls P f args h r h'':=by
 refine⟨hc.1,λw σ xs H hv=>(hc.2 w σ xs H hv).mono ?_⟩;rintro e w' ⟨v,σ',rfl,g1,g2,g3⟩;obtain⟨σ2,s1,s2⟩:=hw w'.heap.size w' σ' { tmps:= #[],defers:= [] } ⟨g1,rfl,λi c x hc=>(by simp at hc),⟨[],rfl,.nil,nlr _,λr hr=>(by cases hr)⟩⟩;exact⟨v,σ2,rfl,s1.hr,g2.ext s2,g3.trans s2⟩
end AF
namespace RC
def ji(L:List Tk):JT:=L.flatMap tkC
theorem iD(t:Tk):(tkC t).length=6:=rfl
theorem jF(L:List Tk):(ji L).length=L.length*6:=by
 unfold ji
 induction L with
 |nil=>rfl
 |cons a L ih=>rw[List.flatMap_cons,lap,ih,lco,iD];omega
theorem cR(A B:List Tk):ji (A++B)=ji A++ji B:=by simp[ji]
theorem mh(a:Tk):ji [a]=tkC a:=by simp[ji]
theorem Q3(L:List Tk): ∀i,(ji L).take (i*6)=ji (L.take i):=by
 induction L with
 |nil=>intro i;simp[ji]
 |cons a L ih=>
  intro i;cases i with
  |zero=>simp[ji]
  |succ i=>
   rw[show ji (a::L)=tkC a++ji L from rfl,show (a::L).take (i+1)=a::L.take i from rfl,show ji (a::L.take i)=tkC a++ji (L.take i)from rfl,<-ih i];rw[show (i+1)*6=(tkC a).length+i*6 by rw[iD];omega,List.take_append,ltl oma,Nat.add_sub_cancel_left]
theorem fC(L:List Tk): ∀i,(ji L).drop (i*6)=ji (L.drop i):=by
 induction L with
 |nil=>intro i;simp[ji]
 |cons a L ih=>
  intro i;cases i with
  |zero=>simp
  |succ i=>
   rw[show ji (a::L)=tkC a++ji L from rfl,show (a::L).drop (i+1)=L.drop i from rfl,<-ih i];rw[show (i+1)*6=(tkC a).length+i*6 by rw[iD];omega,List.drop_append,List.drop_eq_nil_of_le oma,lna,Nat.add_sub_cancel_left]
theorem xo{L:List Tk}{i:Nat}(hi:i<L.length):((ji L).drop (i*6)).take 6=tkC (L.getD i default):=by
 rw[fC,List.drop_eq_getElem_cons hi,gdqA,zg hi];rfl
theorem mi{L:List Tk}{i:Nat}(e:Tk)(hi:i<L.length):(ji L).take (i*6)++(tkC e++(ji L).drop (i*6+6))=ji (L.set i e):=by
 rw[List.set_eq_take_append_cons_drop,ipo hi,show i*6+6=(i+1)*6 by omega,Q3,fC,cR];rw[show e::List.drop (i+1) L= [e]++List.drop (i+1) L from rfl,cR,mh]
theorem cS{L:List Tk}{i k:Nat}(hi:i<L.length)(hk:k<6):(ji L)[i*6+k]? =(tkC (L.getD i default))[k]? :=by
 rw[<-xo hi,List.getElem?_take,ipo hk,List.getElem?_drop]
theorem kg(L:List Tk)(n:Nat): ∀c∈ji L,qR n c=true:=by
 intro c hc;unfold ji at hc;obtain⟨x,_,hx⟩:=List.mem_flatMap.1 hc;unfold tkC at hx;simp only[List.mem_cons,List.not_mem_nil,or_false]at hx;rcases hx with rfl|rfl|rfl|rfl|rfl|rfl<;>rfl
structure Br where
 out:List Tk
 word:Str
 opn:Bool
 jn:Bool
 vo:Nat
 vw:Nat
 ad:Bool
def brX(a b c va:Nat)(q:Br):AObj:= .mem va 343 [.osl b q.vo 6 0 q.out.length,if q.ad=true then .op a va 1 else .nilp,.osl c q.vw 1 0 q.word.length,.bool q.opn,.bool q.jn,.bool false]
def brY(q:Br):AObj:=ze q.vo 119 (ji q.out)
def brO(h:JN)(a b c va:Nat)(q:Br):JN:=tri h a b c (brX a b c va q) (brY q) (az q.vw q.word)
def wM(L:List Tk)(w:Str):List Tk:=L.set (L.length-1) ⟨w,(L.getD (L.length-1) default).norm,(L.getD (L.length-1) default).page,(L.getD (L.length-1) default).line,(L.getD (L.length-1) default).flags,(L.getD (L.length-1) default).name⟩
def Br.nd(q:Br):Br:=if q.opn=true then ⟨wM q.out q.word,[],false,q.jn,q.vo,q.vw+1,false⟩ else ⟨q.out,[],false,q.jn,q.vo,q.vw,false⟩
def Br.st(q:Br)(f:Int):Br:=⟨q.out++ [tkF (f+jfl q.jn q.out.length) []],q.word,q.opn,true,q.vo+1,q.vw,q.ad⟩
def Br.wb(q:Br)(c:UInt8):Br:=⟨q.out,q.word++ [c],q.opn,q.jn,q.vo,q.vw+1,true⟩
def Br.op(q:Br):Br:=⟨q.out,q.word,true,q.jn,q.vo,q.vw,q.ad⟩
def Br.sp(q:Br):Br:=⟨q.out,q.word,q.opn,false,q.vo,q.vw,q.ad⟩
def Br.tx(q:Br)(w:Str):Br:=⟨wM q.out w,q.word,q.opn,q.jn,q.vo,q.vw,q.ad⟩
def Br.pt(q:Br)(c:UInt8):Br:=if q.opn=true∧wi c=true then q.wb c else if bgn c=true then ((q.st 0).op).wb c else if kind c=6 then q.nd.sp else (q.nd.st 8).tx [c]
theorem jJ{h:JN}{a b c:Nat}(t:T3 h a b c)(va:Nat)(q:Br):lowO h.length (brX a b c va q):=by
 intro x hx
 have:=t.la;have:=t.lb;have:=t.lc
 simp only[List.mem_cons,List.not_mem_nil,or_false]at hx;rcases hx with rfl|rfl|rfl|rfl|rfl|rfl
 ·simp[qR];assumption
 ·split
  ·simp[qR];assumption
  ·rfl
 ·simp[qR];assumption
 ·rfl
 ·rfl
 ·rfl
theorem vt(q:Br)(n:Nat):lowO n (brY q):=jd (kg q.out n)
theorem bM{h:JN}{a b c va:Nat}{q:Br}:(brO h a b c va q).length=h.length:=tri_len
end RC
end
section
open Go Go.Proofs AF HY LN
namespace AF
theorem ah{v:Nat}{ty:TypeId}{cs:JT}:pa (some (ze v ty cs)) ty=true:=by
 unfold ze;split<;>simp[pa]
end AF
namespace RC
section
variable {h : JN} {a b c va : Nat}
theorem aO{q:Br}(hn:0<q.out.length):brY q= .mem q.vo 119 (ji q.out):=by
 unfold brY ze;rw[ine];intro e
 have:=congrArg List.length e
 rw[jF,lnl]at this;omega
theorem Yb(t:T3 h a b c)(q:Br)(hn:0<q.out.length)(hm:q.out.length<=1000000):ACalls Tryz.prog 346 [.op a va 0] (brO h a b c va q) (.op b q.vo ((q.out.length-1)*6)) (brO h a b c va q):=by
 have ta:=t.la;have tb:=t.lb;have tc:=t.lc;have zga: ∀ {X Y Z l},qu (a) (tri h a b c X Y Z++l)=some X:=vF (t);have yga: ∀ {X Y Z},qu (a) (tri h a b c X Y Z)=some X:=λ{X Y Z}=>by have:=zga (X:=X) (Y:=Y) (Z:=Z) (l:= []);simpa only[lan] using this
 have zgb: ∀ {X Y Z l},qu (b) (tri h a b c X Y Z++l)=some Y:=v6 (t);have ygb: ∀ {X Y Z},qu (b) (tri h a b c X Y Z)=some Y:=λ{X Y Z}=>by have:=zgb (X:=X) (Y:=Y) (Z:=Z) (l:= []);simpa only[lan] using this
 have zgc: ∀ {X Y Z l},qu (c) (tri h a b c X Y Z++l)=some Z:=vG (t);have ygc: ∀ {X Y Z},qu (c) (tri h a b c X Y Z)=some Z:=λ{X Y Z}=>by have:=zgc (X:=X) (Y:=Y) (Z:=Z) (l:= []);simpa only[lan] using this
 have zsa: ∀ {X Y Z o l},qt (a) (tri h a b c X Y Z++l) o=tri h a b c o Y Z++l:=v7 (t);have ysa: ∀ {X Y Z o},qt (a) (tri h a b c X Y Z) o=tri h a b c o Y Z:=λ{X Y Z o}=>by have:=zsa (X:=X) (Y:=Y) (Z:=Z) (o:=o) (l:= []);simpa only[lan] using this
 have zsb: ∀ {X Y Z o l},qt (b) (tri h a b c X Y Z++l) o=tri h a b c X o Z++l:=wz (t);have ysb: ∀ {X Y Z o},qt (b) (tri h a b c X Y Z) o=tri h a b c X o Z:=λ{X Y Z o}=>by have:=zsb (X:=X) (Y:=Y) (Z:=Z) (o:=o) (l:= []);simpa only[lan] using this
 have zsc: ∀ {X Y Z o l},qt (c) (tri h a b c X Y Z++l) o=tri h a b c X Y o++l:=wA (t);have ysc: ∀ {X Y Z o},qt (c) (tri h a b c X Y Z) o=tri h a b c X Y o:=λ{X Y Z o}=>by have:=zsc (X:=X) (Y:=Y) (Z:=Z) (o:=o) (l:= []);simpa only[lan] using this
 have zca: ∀ {X Y Z v l},cellsOf (tri h a b c X Y Z++l) (a) v=qv (some X) v:=xp (t);have yca: ∀ {X Y Z v},cellsOf (tri h a b c X Y Z) (a) v=qv (some X) v:=λ{X Y Z v}=>by have:=zca (X:=X) (Y:=Y) (Z:=Z) (v:=v) (l:= []);simpa only[lan] using this
 have zcb: ∀ {X Y Z v l},cellsOf (tri h a b c X Y Z++l) (b) v=qv (some Y) v:=xq (t);have ycb: ∀ {X Y Z v},cellsOf (tri h a b c X Y Z) (b) v=qv (some Y) v:=λ{X Y Z v}=>by have:=zcb (X:=X) (Y:=Y) (Z:=Z) (v:=v) (l:= []);simpa only[lan] using this
 have zcc: ∀ {X Y Z v l},cellsOf (tri h a b c X Y Z++l) (c) v=qv (some Z) v:=xr (t);have ycc: ∀ {X Y Z v},cellsOf (tri h a b c X Y Z) (c) v=qv (some Z) v:=λ{X Y Z v}=>by have:=zcc (X:=X) (Y:=Y) (Z:=Z) (v:=v) (l:= []);simpa only[lan] using this
 have zla: ∀ {X Y Z v l},qF (tri h a b c X Y Z++l) (a) v=qH (some X) v:=xt (t);have yla: ∀ {X Y Z v},qF (tri h a b c X Y Z) (a) v=qH (some X) v:=λ{X Y Z v}=>by have:=zla (X:=X) (Y:=Y) (Z:=Z) (v:=v) (l:= []);simpa only[lan] using this
 have zlb: ∀ {X Y Z v l},qF (tri h a b c X Y Z++l) (b) v=qH (some Y) v:=xu (t);have ylb: ∀ {X Y Z v},qF (tri h a b c X Y Z) (b) v=qH (some Y) v:=λ{X Y Z v}=>by have:=zlb (X:=X) (Y:=Y) (Z:=Z) (v:=v) (l:= []);simpa only[lan] using this
 have zlc: ∀ {X Y Z v l},qF (tri h a b c X Y Z++l) (c) v=qH (some Z) v:=xw (t);have ylc: ∀ {X Y Z v},qF (tri h a b c X Y Z) (c) v=qH (some Z) v:=λ{X Y Z v}=>by have:=zlc (X:=X) (Y:=Y) (Z:=Z) (v:=v) (l:= []);simpa only[lan] using this
 have e1:((q.out.length:Int)-1).toNat=q.out.length-1:=by omega
 have k1:(0<=(q.out.length:Int)-1)=True:=eqt oma;have k2:((q.out.length:Int)-1<q.out.length)=True:=eqt oma;unfold brO;rw[aO hn];unfold brX;refine acO Hz ?_;simp (disch:=omega) only[E7,yca,ycb,ylb,ql,wj,e1,k1,k2,go_sem]
 repeat' first|(apply qh;exact rvk;simp only[go_sem])
 rw[ine oma];exact qi
theorem Wk.triNil{t:JT}{X Z:AObj}{Y:AObj}{v i ve sz:Nat}{ty:TypeId}{cs:JT}(T:T3 h a b c)(hX:X= .mem v ty cs)(hi:cs[i]? =some .nl)(hZ:Z= .emp ve):
  Wk t (tri h a b c X Y Z) t (tri h a b c (.mem v ty (cs.set i (.osl c ve sz 0 0))) Y Z):=by
 subst hX;subst hZ;have e:=v7 (X:= .mem v ty cs) (Y:=Y) (Z:= .emp ve) (l:= []) (o:= .mem v ty (cs.set i (.osl c ve sz 0 0))) T;simp only[lan]at e;rw[<-e];refine Wk.ownNil (j:=a) (k:=c) ?_ hi ?_
 ·have:=vF (X:= .mem v ty cs) (Y:=Y) (Z:= .emp ve) (l:= []) T
  simpa only[lan] using this
 ·have:=vG (X:= .mem v ty cs) (Y:=Y) (Z:= .emp ve) (l:= []) T
  simpa only[lan] using this
theorem DU(t:T3 h a b c)(X0 X1 X2 X3 X4 X5:AV)(Y:AObj)(v:Nat)(l0:qR h.length X0=true)(l3:qR h.length X3=true)(l4:qR h.length X4=true)(l5:qR h.length X5=true)(ly:lowO h.length Y):
  ACalls Tryz.prog 347 [.op a va 1] (tri h a b c (.mem va 343 [X0,X1,X2,X3,X4,X5]) Y (.emp v)) (.tup []) (tri h a b c (.mem va 343 [X0,.nilp,.osl c v 1 0 0,X3,X4,X5]) Y (.emp v)):=by
 have ta:=t.la;have tb:=t.lb;have tc:=t.lc;refine ACalls.wk (h':=tri h a b c (.mem va 343 [X0,.nilp,.nl,X3,X4,X5]) Y (.emp v)) ?_ (Wk.triNil (v:=va) (ty:=343) (cs:= [X0,.nilp,.nl,X3,X4,X5]) (i:=2) (sz:=1) t rfl rfl rfl);have zga: ∀ {X Y Z l},qu (a) (tri h a b c X Y Z++l)=some X:=vF (t);have yga: ∀ {X Y Z},qu (a) (tri h a b c X Y Z)=some X:=λ{X Y Z}=>by have:=zga (X:=X) (Y:=Y) (Z:=Z) (l:= []);simpa only[lan] using this
 have zgb: ∀ {X Y Z l},qu (b) (tri h a b c X Y Z++l)=some Y:=v6 (t);have ygb: ∀ {X Y Z},qu (b) (tri h a b c X Y Z)=some Y:=λ{X Y Z}=>by have:=zgb (X:=X) (Y:=Y) (Z:=Z) (l:= []);simpa only[lan] using this
 have zgc: ∀ {X Y Z l},qu (c) (tri h a b c X Y Z++l)=some Z:=vG (t);have ygc: ∀ {X Y Z},qu (c) (tri h a b c X Y Z)=some Z:=λ{X Y Z}=>by have:=zgc (X:=X) (Y:=Y) (Z:=Z) (l:= []);simpa only[lan] using this
 have zsa: ∀ {X Y Z o l},qt (a) (tri h a b c X Y Z++l) o=tri h a b c o Y Z++l:=v7 (t);have ysa: ∀ {X Y Z o},qt (a) (tri h a b c X Y Z) o=tri h a b c o Y Z:=λ{X Y Z o}=>by have:=zsa (X:=X) (Y:=Y) (Z:=Z) (o:=o) (l:= []);simpa only[lan] using this
 have zsb: ∀ {X Y Z o l},qt (b) (tri h a b c X Y Z++l) o=tri h a b c X o Z++l:=wz (t);have ysb: ∀ {X Y Z o},qt (b) (tri h a b c X Y Z) o=tri h a b c X o Z:=λ{X Y Z o}=>by have:=zsb (X:=X) (Y:=Y) (Z:=Z) (o:=o) (l:= []);simpa only[lan] using this
 have zsc: ∀ {X Y Z o l},qt (c) (tri h a b c X Y Z++l) o=tri h a b c X Y o++l:=wA (t);have ysc: ∀ {X Y Z o},qt (c) (tri h a b c X Y Z) o=tri h a b c X Y o:=λ{X Y Z o}=>by have:=zsc (X:=X) (Y:=Y) (Z:=Z) (o:=o) (l:= []);simpa only[lan] using this
 have zca: ∀ {X Y Z v l},cellsOf (tri h a b c X Y Z++l) (a) v=qv (some X) v:=xp (t);have yca: ∀ {X Y Z v},cellsOf (tri h a b c X Y Z) (a) v=qv (some X) v:=λ{X Y Z v}=>by have:=zca (X:=X) (Y:=Y) (Z:=Z) (v:=v) (l:= []);simpa only[lan] using this
 have zcb: ∀ {X Y Z v l},cellsOf (tri h a b c X Y Z++l) (b) v=qv (some Y) v:=xq (t);have ycb: ∀ {X Y Z v},cellsOf (tri h a b c X Y Z) (b) v=qv (some Y) v:=λ{X Y Z v}=>by have:=zcb (X:=X) (Y:=Y) (Z:=Z) (v:=v) (l:= []);simpa only[lan] using this
 have zcc: ∀ {X Y Z v l},cellsOf (tri h a b c X Y Z++l) (c) v=qv (some Z) v:=xr (t);have ycc: ∀ {X Y Z v},cellsOf (tri h a b c X Y Z) (c) v=qv (some Z) v:=λ{X Y Z v}=>by have:=zcc (X:=X) (Y:=Y) (Z:=Z) (v:=v) (l:= []);simpa only[lan] using this
 have zla: ∀ {X Y Z v l},qF (tri h a b c X Y Z++l) (a) v=qH (some X) v:=xt (t);have yla: ∀ {X Y Z v},qF (tri h a b c X Y Z) (a) v=qH (some X) v:=λ{X Y Z v}=>by have:=zla (X:=X) (Y:=Y) (Z:=Z) (v:=v) (l:= []);simpa only[lan] using this
 have zlb: ∀ {X Y Z v l},qF (tri h a b c X Y Z++l) (b) v=qH (some Y) v:=xu (t);have ylb: ∀ {X Y Z v},qF (tri h a b c X Y Z) (b) v=qH (some Y) v:=λ{X Y Z v}=>by have:=zlb (X:=X) (Y:=Y) (Z:=Z) (v:=v) (l:= []);simpa only[lan] using this
 have zlc: ∀ {X Y Z v l},qF (tri h a b c X Y Z++l) (c) v=qH (some Z) v:=xw (t);have ylc: ∀ {X Y Z v},qF (tri h a b c X Y Z) (c) v=qH (some Z) v:=λ{X Y Z v}=>by have:=zlc (X:=X) (Y:=Y) (Z:=Z) (v:=v) (l:= []);simpa only[lan] using this
 refine acO HA ?_;simp (disch:=omega) only[E8,yga,ysa,yca,ql,go_sem];refine jA trivial (by simp only[tri_len]) (jG t (λx hx=> ?_) ly trivial) ⟨rfl,rfl⟩ (qi);simp only[List.mem_cons,List.not_mem_nil,or_false]at hx;rcases hx with rfl|rfl|rfl|rfl|rfl|rfl
 ·exact l0
 ·rfl
 ·rfl
 ·exact l3
 ·exact l4
 ·exact l5
theorem Q4{L:List Tk}(w:Str)(hn:0<L.length):(ji L).take ((L.length-1)*6)++([AV.str w]++(ji L).drop ((L.length-1)*6+1))=ji (wM L w):=by
 unfold wM;rw[<-mi _ oma];refine congrArg _ ?_;have e:(ji L).drop ((L.length-1)*6+1)=(tkC (L.getD (L.length-1) default)).drop 1++(ji L).drop ((L.length-1)*6+6):=by
  rw[<-xo (L:=L) (i:=L.length-1) oma];have e2:(ji L).drop ((L.length-1)*6)=((ji L).drop ((L.length-1)*6)).take 6++((ji L).drop ((L.length-1)*6)).drop 6:=(List.take_append_drop _ _).symm;have hl:=jF L;have hl2:((ji L).drop ((L.length-1)*6)).length=L.length*6-(L.length-1)*6:=by rw[List.length_drop,hl]
  rw[<-List.drop_drop,<-List.drop_drop (i:=6),<-List.drop_append_of_le_length (by rw[List.length_take];omega),List.take_append_drop]
 rw[e];rfl
theorem vZ(L:List Tk)(w:Str):(wM L w).length=L.length:=by unfold wM;rw[List.length_set]
theorem Ya(t:T3 h a b c)(q:Br)(ho:q.opn=true->0<q.out.length)(hw:q.opn=false->q.word= [])(hm:q.out.length<=1000000)(hl:q.word.length<=1000000):ACalls Tryz.prog 288 [.op a va 0] (brO h a b c va q) (.tup []) (brO h a b c va q.nd):=by
 have ta:=t.la;have tb:=t.lb;have tc:=t.lc;have zga: ∀ {X Y Z l},qu (a) (tri h a b c X Y Z++l)=some X:=vF (t);have yga: ∀ {X Y Z},qu (a) (tri h a b c X Y Z)=some X:=λ{X Y Z}=>by have:=zga (X:=X) (Y:=Y) (Z:=Z) (l:= []);simpa only[lan] using this
 have zgb: ∀ {X Y Z l},qu (b) (tri h a b c X Y Z++l)=some Y:=v6 (t);have ygb: ∀ {X Y Z},qu (b) (tri h a b c X Y Z)=some Y:=λ{X Y Z}=>by have:=zgb (X:=X) (Y:=Y) (Z:=Z) (l:= []);simpa only[lan] using this
 have zgc: ∀ {X Y Z l},qu (c) (tri h a b c X Y Z++l)=some Z:=vG (t);have ygc: ∀ {X Y Z},qu (c) (tri h a b c X Y Z)=some Z:=λ{X Y Z}=>by have:=zgc (X:=X) (Y:=Y) (Z:=Z) (l:= []);simpa only[lan] using this
 have zsa: ∀ {X Y Z o l},qt (a) (tri h a b c X Y Z++l) o=tri h a b c o Y Z++l:=v7 (t);have ysa: ∀ {X Y Z o},qt (a) (tri h a b c X Y Z) o=tri h a b c o Y Z:=λ{X Y Z o}=>by have:=zsa (X:=X) (Y:=Y) (Z:=Z) (o:=o) (l:= []);simpa only[lan] using this
 have zsb: ∀ {X Y Z o l},qt (b) (tri h a b c X Y Z++l) o=tri h a b c X o Z++l:=wz (t);have ysb: ∀ {X Y Z o},qt (b) (tri h a b c X Y Z) o=tri h a b c X o Z:=λ{X Y Z o}=>by have:=zsb (X:=X) (Y:=Y) (Z:=Z) (o:=o) (l:= []);simpa only[lan] using this
 have zsc: ∀ {X Y Z o l},qt (c) (tri h a b c X Y Z++l) o=tri h a b c X Y o++l:=wA (t);have ysc: ∀ {X Y Z o},qt (c) (tri h a b c X Y Z) o=tri h a b c X Y o:=λ{X Y Z o}=>by have:=zsc (X:=X) (Y:=Y) (Z:=Z) (o:=o) (l:= []);simpa only[lan] using this
 have zca: ∀ {X Y Z v l},cellsOf (tri h a b c X Y Z++l) (a) v=qv (some X) v:=xp (t);have yca: ∀ {X Y Z v},cellsOf (tri h a b c X Y Z) (a) v=qv (some X) v:=λ{X Y Z v}=>by have:=zca (X:=X) (Y:=Y) (Z:=Z) (v:=v) (l:= []);simpa only[lan] using this
 have zcb: ∀ {X Y Z v l},cellsOf (tri h a b c X Y Z++l) (b) v=qv (some Y) v:=xq (t);have ycb: ∀ {X Y Z v},cellsOf (tri h a b c X Y Z) (b) v=qv (some Y) v:=λ{X Y Z v}=>by have:=zcb (X:=X) (Y:=Y) (Z:=Z) (v:=v) (l:= []);simpa only[lan] using this
 have zcc: ∀ {X Y Z v l},cellsOf (tri h a b c X Y Z++l) (c) v=qv (some Z) v:=xr (t);have ycc: ∀ {X Y Z v},cellsOf (tri h a b c X Y Z) (c) v=qv (some Z) v:=λ{X Y Z v}=>by have:=zcc (X:=X) (Y:=Y) (Z:=Z) (v:=v) (l:= []);simpa only[lan] using this
 have zla: ∀ {X Y Z v l},qF (tri h a b c X Y Z++l) (a) v=qH (some X) v:=xt (t);have yla: ∀ {X Y Z v},qF (tri h a b c X Y Z) (a) v=qH (some X) v:=λ{X Y Z v}=>by have:=zla (X:=X) (Y:=Y) (Z:=Z) (v:=v) (l:= []);simpa only[lan] using this
 have zlb: ∀ {X Y Z v l},qF (tri h a b c X Y Z++l) (b) v=qH (some Y) v:=xu (t);have ylb: ∀ {X Y Z v},qF (tri h a b c X Y Z) (b) v=qH (some Y) v:=λ{X Y Z v}=>by have:=zlb (X:=X) (Y:=Y) (Z:=Z) (v:=v) (l:= []);simpa only[lan] using this
 have zlc: ∀ {X Y Z v l},qF (tri h a b c X Y Z++l) (c) v=qH (some Z) v:=xw (t);have ylc: ∀ {X Y Z v},qF (tri h a b c X Y Z) (c) v=qH (some Z) v:=λ{X Y Z v}=>by have:=zlc (X:=X) (Y:=Y) (Z:=Z) (v:=v) (l:= []);simpa only[lan] using this
 cases hq:q.opn with
 |false=>
  have e1:q.nd=⟨q.out,[],false,q.jn,q.vo,q.vw,false⟩:=by unfold Br.nd;rw[hq];rfl
  rw[e1];have c1:=DU (va:=va) t (.osl b q.vo 6 0 q.out.length) (if q.ad=true then .op a va 1 else .nilp) (.osl c q.vw 1 0 q.word.length) (.bool false) (.bool q.jn) (.bool false) (brY q) q.vw (by simp[qR];omega) rfl rfl rfl (vt q _);have hz:az q.vw q.word= .emp q.vw:=by rw[hw hq];rfl
  unfold brO brX;rw[hz,hq];refine acO Xf ?_;simp (disch:=omega) only[Yn,yga,ysa,yca,ql,go_sem];refine qE c1 (by exact flk) ?_;simp (disch:=omega) only[go_sem];exact jA trivial (by simp only[tri_len]) (jG t (jJ t va ⟨q.out,[],false,q.jn,q.vo,q.vw,false⟩) (vt q _) trivial) ⟨rfl,rfl⟩ (qi)
 |true=>
  have e1:q.nd=⟨wM q.out q.word,[],false,q.jn,q.vo,q.vw+1,false⟩:=by unfold Br.nd;rw[hq];rfl
  rw[e1];have c1:=Yb (va:=va) t q (ho hq) hm;have hn:=ho hq;unfold brO at c1 ⊢;rw[aO hn]at c1 ⊢;rw[aO (q:=⟨wM q.out q.word,[],false,q.jn,q.vo,q.vw+1,false⟩) (by simp only[vZ];exact hn)];unfold brX at c1 ⊢;rw[hq]at c1 ⊢;refine acO Xf ?_;simp (disch:=omega) only[Yn,yga,ysa,yca,ql,go_sem]
  repeat' first|(refine cA (c1) flk ?_;simp (disch:=omega) only[yca,ql,go_sem])
  refine qE (TY a va c q.vw (.osl b q.vo 6 0 q.out.length) (.bool true) (.bool q.jn) (.bool false) (if q.ad=true then .op a va 1 else .nilp) q.word _ (λe=>t.ac e.symm) yga ygc) (by exact flk) ?_;have hL:=jF q.out;have k3:((q.out.length-1)*6+1<=q.out.length*6)=True:=eqt oma;have hX:=Q4 (L:=q.out) q.word hn;have c2:=DU (va:=va) t (.osl b q.vo 6 0 q.out.length) (if q.ad=true then .op a va 1 else .nilp) (.osl c q.vw 1 0 q.word.length) (.bool false) (.bool q.jn) (.bool false) (.mem q.vo 119 (ji (wM q.out q.word))) (q.vw+1) (by simp[qR];omega) rfl rfl rfl (kg _ _);simp (disch:=omega) only[yga,ygb,ysa,ysb,ysc,yca,ycb,ql,hL,k3,go_sem];rw[List.append_assoc,hX];refine qE c2 (by exact flk) ?_;simp (disch:=omega) only[go_sem];have eL:=vZ q.out q.word;simp only[eL];exact jA trivial (by simp only[tri_len]) (jG t (by have:=jJ t va ⟨q.out,[],false,q.jn,q.vo,q.vw+1,false⟩;exact this) (kg _ _) trivial) ⟨rfl,rfl⟩ (qi)
end
end RC
end
section
open Go Go.Proofs AF HY LN
namespace RC
section
variable {h : JN} {a b c va : Nat}
theorem DW(t:T3 h a b c)(q:Br)(f:Int)(x:UInt8)(hf:f=0∨f=8)(hm:q.out.length<=1000000):ACalls Tryz.prog 345 [.op a va 0,.agg (atC 1 x),.int .i64 f] (brO h a b c va q) (.tup []) (brO h a b c va (q.st f)):=by
 have ta:=t.la;have tb:=t.lb;have tc:=t.lc;have zga: ∀ {X Y Z l},qu (a) (tri h a b c X Y Z++l)=some X:=vF (t);have yga: ∀ {X Y Z},qu (a) (tri h a b c X Y Z)=some X:=λ{X Y Z}=>by have:=zga (X:=X) (Y:=Y) (Z:=Z) (l:= []);simpa only[lan] using this
 have zgb: ∀ {X Y Z l},qu (b) (tri h a b c X Y Z++l)=some Y:=v6 (t);have ygb: ∀ {X Y Z},qu (b) (tri h a b c X Y Z)=some Y:=λ{X Y Z}=>by have:=zgb (X:=X) (Y:=Y) (Z:=Z) (l:= []);simpa only[lan] using this
 have zgc: ∀ {X Y Z l},qu (c) (tri h a b c X Y Z++l)=some Z:=vG (t);have ygc: ∀ {X Y Z},qu (c) (tri h a b c X Y Z)=some Z:=λ{X Y Z}=>by have:=zgc (X:=X) (Y:=Y) (Z:=Z) (l:= []);simpa only[lan] using this
 have zsa: ∀ {X Y Z o l},qt (a) (tri h a b c X Y Z++l) o=tri h a b c o Y Z++l:=v7 (t);have ysa: ∀ {X Y Z o},qt (a) (tri h a b c X Y Z) o=tri h a b c o Y Z:=λ{X Y Z o}=>by have:=zsa (X:=X) (Y:=Y) (Z:=Z) (o:=o) (l:= []);simpa only[lan] using this
 have zsb: ∀ {X Y Z o l},qt (b) (tri h a b c X Y Z++l) o=tri h a b c X o Z++l:=wz (t);have ysb: ∀ {X Y Z o},qt (b) (tri h a b c X Y Z) o=tri h a b c X o Z:=λ{X Y Z o}=>by have:=zsb (X:=X) (Y:=Y) (Z:=Z) (o:=o) (l:= []);simpa only[lan] using this
 have zsc: ∀ {X Y Z o l},qt (c) (tri h a b c X Y Z++l) o=tri h a b c X Y o++l:=wA (t);have ysc: ∀ {X Y Z o},qt (c) (tri h a b c X Y Z) o=tri h a b c X Y o:=λ{X Y Z o}=>by have:=zsc (X:=X) (Y:=Y) (Z:=Z) (o:=o) (l:= []);simpa only[lan] using this
 have zca: ∀ {X Y Z v l},cellsOf (tri h a b c X Y Z++l) (a) v=qv (some X) v:=xp (t);have yca: ∀ {X Y Z v},cellsOf (tri h a b c X Y Z) (a) v=qv (some X) v:=λ{X Y Z v}=>by have:=zca (X:=X) (Y:=Y) (Z:=Z) (v:=v) (l:= []);simpa only[lan] using this
 have zcb: ∀ {X Y Z v l},cellsOf (tri h a b c X Y Z++l) (b) v=qv (some Y) v:=xq (t);have ycb: ∀ {X Y Z v},cellsOf (tri h a b c X Y Z) (b) v=qv (some Y) v:=λ{X Y Z v}=>by have:=zcb (X:=X) (Y:=Y) (Z:=Z) (v:=v) (l:= []);simpa only[lan] using this
 have zcc: ∀ {X Y Z v l},cellsOf (tri h a b c X Y Z++l) (c) v=qv (some Z) v:=xr (t);have ycc: ∀ {X Y Z v},cellsOf (tri h a b c X Y Z) (c) v=qv (some Z) v:=λ{X Y Z v}=>by have:=zcc (X:=X) (Y:=Y) (Z:=Z) (v:=v) (l:= []);simpa only[lan] using this
 have zla: ∀ {X Y Z v l},qF (tri h a b c X Y Z++l) (a) v=qH (some X) v:=xt (t);have yla: ∀ {X Y Z v},qF (tri h a b c X Y Z) (a) v=qH (some X) v:=λ{X Y Z v}=>by have:=zla (X:=X) (Y:=Y) (Z:=Z) (v:=v) (l:= []);simpa only[lan] using this
 have zlb: ∀ {X Y Z v l},qF (tri h a b c X Y Z++l) (b) v=qH (some Y) v:=xu (t);have ylb: ∀ {X Y Z v},qF (tri h a b c X Y Z) (b) v=qH (some Y) v:=λ{X Y Z v}=>by have:=zlb (X:=X) (Y:=Y) (Z:=Z) (v:=v) (l:= []);simpa only[lan] using this
 have zlc: ∀ {X Y Z v l},qF (tri h a b c X Y Z++l) (c) v=qH (some Z) v:=xw (t);have ylc: ∀ {X Y Z v},qF (tri h a b c X Y Z) (c) v=qH (some Z) v:=λ{X Y Z v}=>by have:=zlc (X:=X) (Y:=Y) (Z:=Z) (v:=v) (l:= []);simpa only[lan] using this
 have hL:=jF q.out;obtain⟨g,hg⟩:=Qt (f+jfl q.jn q.out.length)
 have e1:q.st f=⟨q.out++ [tkF g []],q.word,q.opn,true,q.vo+1,q.vw,q.ad⟩:=by unfold Br.st;rw[hg]
 rw[e1];have o1:=nK (v:=q.vo) (ty:=119) (cs:=ji q.out);have k3:(q.out.length*6<=q.out.length*6)=True:=eqt (nlr _);have a2: ∀(x1:AV) (r:JT),iO (some (ze q.vo 119 (ji q.out))) 119 q.vo (q.out.length*6) 1 (x1::r)=ze (q.vo+1) 119 (ji q.out++x1::r):=λx1 r=>by rw[appO_own1,ltl oma]
 have eLn:(q.out++ [tkF g []]).length=q.out.length+1:=by simp
 have hfin:ji q.out++ [.str [],.str [],.str [],.int .i64 0,.int .i64 g,.str []]=ji (q.out++ [tkF g []]):=by rw[cR,mh];rfl
 unfold brO brX brY
 by_cases hj:q.jn=true∧0<q.out.length
 ·obtain⟨hj,hn⟩:=hj;have k1:((0:Int)<q.out.length)=True:=eqt oma;have hg:g=f+16:=by rw[hg];unfold jfl;rw[ipo ⟨hj,hn⟩]
  have eo:vH .or (.int .i64 f) (.int .i64 16)= .int .i64 g:=by
   rw[hg];rcases hf with rfl|rfl<;>rfl
  rw[hj];unfold atC;refine acO tf ?_;simp (disch:=omega) only[Ja,zca,zlb,ql,qX,k1,eo,go_sem]
  repeat' first|with_reducible apply aiA|exact clz|fail
  refine jX ?Ta ?Ha ?h1 ?h2
  case h1=>
   simp (disch:=omega) only[zga,zgb,zsa,zsb,zca,zcb,zlb,ql,qX,ah,o1,hL,k3,a2,go_sem]
   repeat' first|with_reducible apply aiA
   all_goals first
    |omega
    |rfl
    |(rw[bne_iff_ne];omega)
    |skip
  case h2=>
  simp (disch:=omega) only[zga,zsa,zca,ql,go_sem];rw[hfin];simp only[eLn];exact zH trivial (by simp only[tri_len]) (jG t (by have:=jJ t va ⟨q.out++ [tkF g []],q.word,q.opn,true,q.vo+1,q.vw,q.ad⟩;simpa only[brX,eLn] using this) (jd (kg _ _)) (jc _ _ _)) ⟨rfl,rfl⟩ (qi)
 ·have hg:g=f:=by rw[hg];unfold jfl;rw[ine hj];omega
  subst hg;unfold atC;cases hj2:q.jn with
  |false=>
   refine acO tf ?_;simp (disch:=omega) only[Ja,zca,zlb,ql,qX,go_sem]
   repeat' first|(with_reducible first|intro _|apply aiA)|exact clz|fail
   refine jX ?Tb ?Hb ?h1 ?h2
   case h1=>
    simp (disch:=omega) only[zga,zgb,zsa,zsb,zca,zcb,zlb,ql,qX,ah,o1,hL,k3,a2,go_sem]
    repeat' first|with_reducible apply aiA
    all_goals first
     |omega
     |rfl
     |(rw[bne_iff_ne];omega)
     |skip
   case h2=>
   simp (disch:=omega) only[zga,zsa,zca,ql,go_sem];rw[hfin];simp only[eLn];exact zH trivial (by simp only[tri_len]) (jG t (by have:=jJ t va ⟨q.out++ [tkF g []],q.word,q.opn,true,q.vo+1,q.vw,q.ad⟩;simpa only[brX,eLn] using this) (jd (kg _ _)) (jc _ _ _)) ⟨rfl,rfl⟩ (qi)
  |true=>
   have k1:((0:Int)<q.out.length)=False:=eqf (λhc=>hj ⟨hj2,oma⟩);refine acO tf ?_;simp (disch:=omega) only[Ja,zca,zlb,ql,qX,k1,go_sem]
   repeat' first|with_reducible apply aiA|exact clz|fail
   refine jX ?Tc ?Hc ?h1 ?h2
   case h1=>
    simp (disch:=omega) only[zga,zgb,zsa,zsb,zca,zcb,zlb,ql,qX,ah,o1,hL,k3,a2,go_sem]
    repeat' first|with_reducible apply aiA
    all_goals first
     |omega
     |rfl
     |(rw[bne_iff_ne];omega)
     |skip
   case h2=>
   simp (disch:=omega) only[zga,zsa,zca,ql,go_sem];rw[hfin];simp only[eLn];exact zH trivial (by simp only[tri_len]) (jG t (by have:=jJ t va ⟨q.out++ [tkF g []],q.word,q.opn,true,q.vo+1,q.vw,q.ad⟩;simpa only[brX,eLn] using this) (jd (kg _ _)) (jc _ _ _)) ⟨rfl,rfl⟩ (qi)
end
end RC
end
section
open Go Go.Proofs AF
def Ky:List Nat:= [277,278,377,347,287,344,288,345,290,346]
@[go_sem]def bd:DT:= DT.one ⟨some 20,none,.nilchk,[.t 15]⟩ (DT.one ⟨some 21,none,.fldA 0,[.t 20]⟩ (DT.one ⟨none,none,.store 1,[.t 21,.t 19]⟩ DT.nil))
@[go_sem]def bt:DT:= DT.one ⟨some 18,none,.bslc 1 1 1 5 [.int .u8 0] [(0,1)],[.t 17]⟩ (DT.one ⟨some 19,none,.b2s,[.t 18]⟩ bd)
def fZ:C:=
 (pk [O1 3 (.box 0 348) 1] (pk [oF 4 0] ((pk [oE 5 5 3,LD 6 5] (p7 6 (rv [oF 4 1]))).seq (C.block 0 (pk [MV 23 0,O1 24 .nilchk 23,oE 25 3 24,LD 26 25,MV 27 26,P1 28 27 true
 (.fldA 1) 3,P1 29 27 true (.load none) 28,P1 30 27 true (.call 309 true) 29,PF 31 27 30,MV 22 31] (C.cond (.t 22) (pk [MV 32 0,O1 33 (.call 346 false) 32,O1 34 .nilchk 33,oE 35
 4 34,LD 36 35,MV 37 4,BI 38 .or 36 37,O1 39 .nilchk 33,oE 40 4 39,ST 1 40 38] (rv [MV 41 0,O1 42 .nilchk 41,oE 43 1 42,oE 44 1 3,LD 45 44,O2 46 (.call 377 false) 43 45])) (pk
 [oE 48 1 3,LD 49 48,O1 50 (.call 357 true) 49,MV 47 50] (C.cond (.t 47) (pk [MV 51 0,O1 52 (.load (some 7)) 3,MV 53 4,ON 54 (.call 345 false) [.t 51,.t 52,.t 53]] (pk [MV 55
 0,O1 56 .nilchk 55,oE 57 3 56,⟨none,none,.store 1,[.t 57,.c (.bool true)]⟩] (rv [MV 58 0,O1 59 .nilchk 58,oE 60 1 59,oE 61 1 3,LD 62 61,O2 63 (.call 377 false) 60 62]))) (pk
 [oE 65 1 3,LD 66 65,O1 67 (.call 220 true) 66,oT 68 .eql 67 6,MV 64 68] (C.cond (.t 64) (pk [MV 69 0,O1 70 (.call 288 false) 69] (rv [MV 71 0,O1 72 .nilchk 71,oE 73 4
 72,⟨none,none,.store 1,[.t 73,.c (.bool false)]⟩])) (pk [MV 7 0,O1 8 (.call 288 false) 7] (pk [MV 9 0,O1 10 (.load (some 7)) 3,MV 11 4,oT 12 .or 11 8,ON 13 (.call 345 false)
 [.t 9,.t 10,.t 12]] (C.draw (DT.one ⟨some 14,none,.mv,[.t 0]⟩ ((DT.one ⟨some 15,none,.call 346 false,[.t 14]⟩ (DT.one ⟨some 16,none,.fldA 1,[.t 3]⟩ (DT.one ⟨some 17,none,.load
 none,[.t 16]⟩ bt))).two (DT.one ⟨some 16,none,.fldA 1,[.t 3]⟩ ((DT.one ⟨some 15,none,.call 346 false,[.t 14]⟩ (DT.one ⟨some 17,none,.load none,[.t 16]⟩ bt)).two (DT.one ⟨some
 17,none,.load none,[.t 16]⟩ ((DT.one ⟨some 15,none,.call 346 false,[.t 14]⟩ bt).two (DT.one ⟨some 18,none,.bslc 1 1 1 5 [.int .u8 0] [(0,1)],[.t 17]⟩ ((DT.one ⟨some
 15,none,.call 346 false,[.t 14]⟩ (DT.one ⟨some 19,none,.b2s,[.t 18]⟩ bd)).two (DT.one ⟨some 19,none,.b2s,[.t 18]⟩ (DT.one ⟨some 15,none,.call 346 false,[.t 14]⟩
 bd)))))))))))))))))))))))
theorem aX:qK Tryz.prog 344 74 2 [] fZ:=fi Tryz.f344 [3,18] Ky []
end
section
open Go Go.Proofs AF HY LN
namespace RC
section
variable {h : JN} {a b c va : Nat}
theorem wC(t:T3 h a b c)(q:Br)(l:JN):brO (h++l) a b c va q=brO h a b c va q++l:=Ce t
theorem rN{f:FuncId}{args:JT}{r:AV}{q q':Br}(hc: ∀h,T3 h a b c->ACalls Tryz.prog f args (brO h a b c va q) r (brO h a b c va q'))(t:T3 h a b c)(l:JN):ACalls Tryz.prog f args (brO h a b c va q++l) r (brO h a b c va q'++l):=by
 have:=hc (h++l) (t.app l)
 rwa [wC t,wC t]at this
structure M3 (q:Br):Prop where
 op:q.opn=true->0<q.out.length∧((q.out.getD (q.out.length-1) default).flags=0∨(q.out.getD (q.out.length-1) default).flags=16)
 cl:q.opn=false->q.word= []
 n:q.out.length<=900000
 w:q.word.length<=900000
theorem DX(q:Br):(if q.ad=true then AV.op a va 1 else .nilp)= .nilp∨(if q.ad=true then AV.op a va 1 else .nilp)= .op a va 1:=by
 split
 ·exact .inr rfl
 ·exact .inl rfl
theorem fB{α:Type}{L:List α}{k:Nat}{x:α}(h:L[k]? =some x):L.take k++ [x]++L.drop (k+1)=L:=by
 obtain⟨h1,h2⟩:=lgs.1 h;rw[List.append_assoc,List.singleton_append,<-h2,<-List.drop_eq_getElem_cons h1,List.take_append_drop]
theorem Rb(t:T3 h a b c)(q:Br)(x:UInt8)(l:JN)(hw:q.word.length<=1000000):ACalls Tryz.prog 377 [.op a va 1,.int .u8 (x.toNat:Int)] (brO h a b c va q++l) .nilif (brO h a b c va (q.wb x)++l):=by
 have ta:=t.la;have tb:=t.lb;have tc:=t.lc;have zga: ∀ {X Y Z l},qu (a) (tri h a b c X Y Z++l)=some X:=vF (t);have yga: ∀ {X Y Z},qu (a) (tri h a b c X Y Z)=some X:=λ{X Y Z}=>by have:=zga (X:=X) (Y:=Y) (Z:=Z) (l:= []);simpa only[lan] using this
 have zgb: ∀ {X Y Z l},qu (b) (tri h a b c X Y Z++l)=some Y:=v6 (t);have ygb: ∀ {X Y Z},qu (b) (tri h a b c X Y Z)=some Y:=λ{X Y Z}=>by have:=zgb (X:=X) (Y:=Y) (Z:=Z) (l:= []);simpa only[lan] using this
 have zgc: ∀ {X Y Z l},qu (c) (tri h a b c X Y Z++l)=some Z:=vG (t);have ygc: ∀ {X Y Z},qu (c) (tri h a b c X Y Z)=some Z:=λ{X Y Z}=>by have:=zgc (X:=X) (Y:=Y) (Z:=Z) (l:= []);simpa only[lan] using this
 have zsa: ∀ {X Y Z o l},qt (a) (tri h a b c X Y Z++l) o=tri h a b c o Y Z++l:=v7 (t);have ysa: ∀ {X Y Z o},qt (a) (tri h a b c X Y Z) o=tri h a b c o Y Z:=λ{X Y Z o}=>by have:=zsa (X:=X) (Y:=Y) (Z:=Z) (o:=o) (l:= []);simpa only[lan] using this
 have zsb: ∀ {X Y Z o l},qt (b) (tri h a b c X Y Z++l) o=tri h a b c X o Z++l:=wz (t);have ysb: ∀ {X Y Z o},qt (b) (tri h a b c X Y Z) o=tri h a b c X o Z:=λ{X Y Z o}=>by have:=zsb (X:=X) (Y:=Y) (Z:=Z) (o:=o) (l:= []);simpa only[lan] using this
 have zsc: ∀ {X Y Z o l},qt (c) (tri h a b c X Y Z++l) o=tri h a b c X Y o++l:=wA (t);have ysc: ∀ {X Y Z o},qt (c) (tri h a b c X Y Z) o=tri h a b c X Y o:=λ{X Y Z o}=>by have:=zsc (X:=X) (Y:=Y) (Z:=Z) (o:=o) (l:= []);simpa only[lan] using this
 have zca: ∀ {X Y Z v l},cellsOf (tri h a b c X Y Z++l) (a) v=qv (some X) v:=xp (t);have yca: ∀ {X Y Z v},cellsOf (tri h a b c X Y Z) (a) v=qv (some X) v:=λ{X Y Z v}=>by have:=zca (X:=X) (Y:=Y) (Z:=Z) (v:=v) (l:= []);simpa only[lan] using this
 have zcb: ∀ {X Y Z v l},cellsOf (tri h a b c X Y Z++l) (b) v=qv (some Y) v:=xq (t);have ycb: ∀ {X Y Z v},cellsOf (tri h a b c X Y Z) (b) v=qv (some Y) v:=λ{X Y Z v}=>by have:=zcb (X:=X) (Y:=Y) (Z:=Z) (v:=v) (l:= []);simpa only[lan] using this
 have zcc: ∀ {X Y Z v l},cellsOf (tri h a b c X Y Z++l) (c) v=qv (some Z) v:=xr (t);have ycc: ∀ {X Y Z v},cellsOf (tri h a b c X Y Z) (c) v=qv (some Z) v:=λ{X Y Z v}=>by have:=zcc (X:=X) (Y:=Y) (Z:=Z) (v:=v) (l:= []);simpa only[lan] using this
 have zla: ∀ {X Y Z v l},qF (tri h a b c X Y Z++l) (a) v=qH (some X) v:=xt (t);have yla: ∀ {X Y Z v},qF (tri h a b c X Y Z) (a) v=qH (some X) v:=λ{X Y Z v}=>by have:=zla (X:=X) (Y:=Y) (Z:=Z) (v:=v) (l:= []);simpa only[lan] using this
 have zlb: ∀ {X Y Z v l},qF (tri h a b c X Y Z++l) (b) v=qH (some Y) v:=xu (t);have ylb: ∀ {X Y Z v},qF (tri h a b c X Y Z) (b) v=qH (some Y) v:=λ{X Y Z v}=>by have:=zlb (X:=X) (Y:=Y) (Z:=Z) (v:=v) (l:= []);simpa only[lan] using this
 have zlc: ∀ {X Y Z v l},qF (tri h a b c X Y Z++l) (c) v=qH (some Z) v:=xw (t);have ylc: ∀ {X Y Z v},qF (tri h a b c X Y Z) (c) v=qH (some Z) v:=λ{X Y Z v}=>by have:=zlc (X:=X) (Y:=Y) (Z:=Z) (v:=v) (l:= []);simpa only[lan] using this
 have:=Ul a va c q.vw (.osl b q.vo 6 0 q.out.length) (.bool q.opn) (.bool q.jn) (.bool false) (if q.ad=true then .op a va 1 else .nilp) q.word x (brO h a b c va q++l) (by rw[lap,bM];simp[qR];omega) rfl rfl rfl (λe=>t.ac e.symm) zga (DX q) zgc oma
 have e:qt c (qt a (brO h a b c va q++l) (.mem va 343 [.osl b q.vo 6 0 q.out.length,.op a va 1,.osl c (q.vw+1) 1 0 (q.word.length+1),.bool q.opn,.bool q.jn,.bool false])) (az (q.vw+1) (q.word++ [x]))=brO h a b c va (q.wb x)++l:=by
  unfold brO;rw[zsa,zsc];unfold brX brY Br.wb;simp
 rw[e]at this;exact this
theorem Nv(t:T3 h a b c)(q:Br)(x:UInt8)(hq:M3 q):ACalls Tryz.prog 344 [.op a va 0,.agg (atC 1 x)] (brO h a b c va q) (.tup []) (brO h a b c va (q.pt x)):=by
 have ta:=t.la;have tb:=t.lb;have tc:=t.lc;have hn:=hq.n;have hw:=hq.w;have zga: ∀ {X Y Z l},qu (a) (tri h a b c X Y Z++l)=some X:=vF (t);have yga: ∀ {X Y Z},qu (a) (tri h a b c X Y Z)=some X:=λ{X Y Z}=>by have:=zga (X:=X) (Y:=Y) (Z:=Z) (l:= []);simpa only[lan] using this
 have zgb: ∀ {X Y Z l},qu (b) (tri h a b c X Y Z++l)=some Y:=v6 (t);have ygb: ∀ {X Y Z},qu (b) (tri h a b c X Y Z)=some Y:=λ{X Y Z}=>by have:=zgb (X:=X) (Y:=Y) (Z:=Z) (l:= []);simpa only[lan] using this
 have zgc: ∀ {X Y Z l},qu (c) (tri h a b c X Y Z++l)=some Z:=vG (t);have ygc: ∀ {X Y Z},qu (c) (tri h a b c X Y Z)=some Z:=λ{X Y Z}=>by have:=zgc (X:=X) (Y:=Y) (Z:=Z) (l:= []);simpa only[lan] using this
 have zsa: ∀ {X Y Z o l},qt (a) (tri h a b c X Y Z++l) o=tri h a b c o Y Z++l:=v7 (t);have ysa: ∀ {X Y Z o},qt (a) (tri h a b c X Y Z) o=tri h a b c o Y Z:=λ{X Y Z o}=>by have:=zsa (X:=X) (Y:=Y) (Z:=Z) (o:=o) (l:= []);simpa only[lan] using this
 have zsb: ∀ {X Y Z o l},qt (b) (tri h a b c X Y Z++l) o=tri h a b c X o Z++l:=wz (t);have ysb: ∀ {X Y Z o},qt (b) (tri h a b c X Y Z) o=tri h a b c X o Z:=λ{X Y Z o}=>by have:=zsb (X:=X) (Y:=Y) (Z:=Z) (o:=o) (l:= []);simpa only[lan] using this
 have zsc: ∀ {X Y Z o l},qt (c) (tri h a b c X Y Z++l) o=tri h a b c X Y o++l:=wA (t);have ysc: ∀ {X Y Z o},qt (c) (tri h a b c X Y Z) o=tri h a b c X Y o:=λ{X Y Z o}=>by have:=zsc (X:=X) (Y:=Y) (Z:=Z) (o:=o) (l:= []);simpa only[lan] using this
 have zca: ∀ {X Y Z v l},cellsOf (tri h a b c X Y Z++l) (a) v=qv (some X) v:=xp (t);have yca: ∀ {X Y Z v},cellsOf (tri h a b c X Y Z) (a) v=qv (some X) v:=λ{X Y Z v}=>by have:=zca (X:=X) (Y:=Y) (Z:=Z) (v:=v) (l:= []);simpa only[lan] using this
 have zcb: ∀ {X Y Z v l},cellsOf (tri h a b c X Y Z++l) (b) v=qv (some Y) v:=xq (t);have ycb: ∀ {X Y Z v},cellsOf (tri h a b c X Y Z) (b) v=qv (some Y) v:=λ{X Y Z v}=>by have:=zcb (X:=X) (Y:=Y) (Z:=Z) (v:=v) (l:= []);simpa only[lan] using this
 have zcc: ∀ {X Y Z v l},cellsOf (tri h a b c X Y Z++l) (c) v=qv (some Z) v:=xr (t);have ycc: ∀ {X Y Z v},cellsOf (tri h a b c X Y Z) (c) v=qv (some Z) v:=λ{X Y Z v}=>by have:=zcc (X:=X) (Y:=Y) (Z:=Z) (v:=v) (l:= []);simpa only[lan] using this
 have zla: ∀ {X Y Z v l},qF (tri h a b c X Y Z++l) (a) v=qH (some X) v:=xt (t);have yla: ∀ {X Y Z v},qF (tri h a b c X Y Z) (a) v=qH (some X) v:=λ{X Y Z v}=>by have:=zla (X:=X) (Y:=Y) (Z:=Z) (v:=v) (l:= []);simpa only[lan] using this
 have zlb: ∀ {X Y Z v l},qF (tri h a b c X Y Z++l) (b) v=qH (some Y) v:=xu (t);have ylb: ∀ {X Y Z v},qF (tri h a b c X Y Z) (b) v=qH (some Y) v:=λ{X Y Z v}=>by have:=zlb (X:=X) (Y:=Y) (Z:=Z) (v:=v) (l:= []);simpa only[lan] using this
 have zlc: ∀ {X Y Z v l},qF (tri h a b c X Y Z++l) (c) v=qH (some Z) v:=xw (t);have ylc: ∀ {X Y Z v},qF (tri h a b c X Y Z) (c) v=qH (some Z) v:=λ{X Y Z v}=>by have:=zlc (X:=X) (Y:=Y) (Z:=Z) (v:=v) (l:= []);simpa only[lan] using this
 by_cases g1:q.opn=true∧wi x=true
 ·rw[show q.pt x=q.wb x from by unfold Br.pt;rw[ipo g1]];obtain⟨g1,g2⟩:=g1;obtain⟨hop,hfl⟩:=hq.op g1;have c1:=λh=>Nc x h
  simp only[g2]at c1;have c2:=λl=>Yb (va:=va) (t.app l) q hop oma
  simp only[wC t]at c2;have c3:=λl=>Rb (va:=va) t q x l oma
  have hL:=jF q.out;obtain⟨F,hF⟩:=Qt ((q.out.getD (q.out.length-1) default).flags)
  rw[<-hF]at hfl;have g4:(ji q.out)[(q.out.length-1)*6+4]? =some (.int .i64 F):=by rw[cS oma oma,hF];rfl
  have e0:vH .or (.int .i64 F) (.int .i64 0)= .int .i64 F:=by rcases hfl with rfl|rfl<;>rfl
  have k3:((q.out.length-1)*6+4+1<=q.out.length*6)=True:=eqt oma;have k4:((q.out.length-1)*6+4<q.out.length*6)=True:=eqt oma;have e5:=fB g4;unfold brO at c2 c3 ⊢;rw[aO hop]at c2 c3 ⊢;unfold brX at c2 c3 ⊢;rw[g1]at c2 c3 ⊢;unfold atC;refine acO aX ?_;simp (disch:=omega) only[fZ,zca,ql,go_sem]
  repeat' first|(refine cG (λe=>c1 _) flk ?_;simp (disch:=omega) only[go_sem])
  refine qE (c2 _) (by exact flk) ?_;simp (disch:=omega) only[zgb,zsb,zca,zcb,ql,hL,g4,e0,k3,k4,e5,go_sem];refine qE (c3 _) (by exact flk) ?_;simp (disch:=omega) only[go_sem];exact zH trivial (by simp only[tri_len]) (jG t (jJ t va (q.wb x)) (vt _ _) (jc _ _ _)) ⟨rfl,rfl⟩ (qi)
 by_cases g2:bgn x=true
 ·rw[show q.pt x=((q.st 0).op).wb x from by unfold Br.pt;rw[ine g1,ipo g2]];have g3:q.opn=false:=by
   cases ho:q.opn with
   |false=>rfl
   |true=>exact absurd ⟨ho,yw g2⟩ g1
  have c1:=λh=>M7 x h
  rw[show (decide (kind x=1)||decide (kind x=3))=true from g2]at c1;have c2:=λl=>DW (va:=va) (t.app l) q 0 x (.inl rfl) oma
  simp only[wC t]at c2;have c3:=λl=>Rb (va:=va) t (q.st 0).op x l (by show q.word.length<=_;omega)
  unfold brO brX at c2 c3 ⊢;rw[g3]at c2 ⊢;unfold atC at c2 ⊢;refine acO aX ?_;simp (disch:=omega) only[fZ,zca,ql,go_sem]
  repeat' first|(refine qj ( .bool false) ?_;simp (disch:=omega) only[go_sem])|(refine cA (c1 _) flk ?_;simp (disch:=omega) only[go_sem])
  refine qE (c2 _) (by exact flk) ?_;simp (disch:=omega) only[zga,zsa,zca,ql,go_sem];refine qE (c3 _) (by exact flk) ?_;simp (disch:=omega) only[go_sem];exact zH trivial (by simp only[tri_len]) (jG t (jJ t va (((q.st 0).op).wb x)) (vt _ _) (jc _ _ _)) ⟨rfl,rfl⟩ (qi)
 by_cases g3:kind x=6
 ·rw[show q.pt x=q.nd.sp from by unfold Br.pt;rw[ine g1,ine g2,ipo g3]];have c1:=λh=>M7 x h
  have hb:(decide (kind x=1)||decide (kind x=3))=false:=by simpa[bgn] using g2
  rw[hb]at c1;have c5:=λh=>Nc x h
  have c4:=λh=>yr x h
  rw[g3]at c4;have c2:=λl=>Ya (va:=va) (t.app l) q (λe=>(hq.op e).1) hq.cl oma oma
  simp only[wC t]at c2;have hi:q.opn=true->wi x=false:=λe=>by
   cases hx:wi x with
   |false=>rfl
   |true=>exact absurd ⟨e,hx⟩ g1
  unfold brO brX at c2 ⊢;unfold atC;cases ho:q.opn with
  |true=>
   rw[hi ho]at c5;rw[ho]at c2;refine acO aX ?_;simp (disch:=omega) only[fZ,zca,ql,go_sem]
   repeat' first|((first|refine cA (c1 _) ?_ ?_|refine cA (c4 _) ?_ ?_|refine cG (λe=>c5 _) ?_ ?_);exact flk;simp (disch:=omega) only[go_sem])
   refine qE (c2 _) (by exact flk) ?_;simp (disch:=omega) only[zga,zsa,zca,ql,go_sem];exact zH trivial (by simp only[tri_len]) (jG t (jJ t va q.nd.sp) (vt _ _) (jc _ _ _)) ⟨rfl,rfl⟩ (qi)
  |false=>
   rw[ho]at c2;refine acO aX ?_;simp (disch:=omega) only[fZ,zca,ql,go_sem]
   repeat' first|(refine qj ( .bool false) ?_;simp (disch:=omega) only[go_sem])|((first|refine cA (c1 _) ?_ ?_|refine cA (c4 _) ?_ ?_);exact flk;simp (disch:=omega) only[go_sem])
   refine qE (c2 _) (by exact flk) ?_;simp (disch:=omega) only[zga,zsa,zca,ql,go_sem];exact zH trivial (by simp only[tri_len]) (jG t (jJ t va q.nd.sp) (vt _ _) (jc _ _ _)) ⟨rfl,rfl⟩ (qi)
 rw[show q.pt x=(q.nd.st 8).tx [x]from by unfold Br.pt;rw[ine g1,ine g2,ine g3]];have c1:=λh=>M7 x h
 have hb:(decide (kind x=1)||decide (kind x=3))=false:=by simpa[bgn] using g2
 rw[hb]at c1;have c5:=λh=>Nc x h
 have c4:=λh=>yr x h
 obtain⟨kx,hkx⟩:=Qt (kind x)
 rw[<-hkx]at c4 g3;have q6:(kx=6)=False:=eqf g3;have c2:=λl=>Ya (va:=va) (t.app l) q (λe=>(hq.op e).1) hq.cl oma oma
 have hndl:q.nd.out.length=q.out.length:=by unfold Br.nd;split<;>simp only[vZ]
 have c6:=λl=>DW (va:=va) (t.app l) q.nd 8 x (.inr rfl) oma
 obtain⟨r,hr⟩:=Qt (q.nd.st 8)
 have hrl:0<r.out.length:=by rw[hr];show 0<(q.nd.out++ [_]).length;simp
 have hrm:r.out.length<=1000000:=by rw[hr];show (q.nd.out++ [_]).length<=_;simp;omega
 rw[<-hr]at c6 ⊢;have c7:=λl=>Yb (va:=va) (t.app l) r hrl hrm
 simp only[wC t]at c2 c6 c7;have hi:q.opn=true->wi x=false:=λe=>by
  cases hx:wi x with
  |false=>rfl
  |true=>exact absurd ⟨e,hx⟩ g1
 have hL:=jF r.out;have k3:((r.out.length-1)*6+1<=r.out.length*6)=True:=eqt oma;have hX:=Q4 (L:=r.out) [x] hrl;have e8:vH .or (.int .i64 0) (.int .i64 8)= .int .i64 8:=rfl;have hY:brY (r.tx [x])= .mem r.vo 119 (ji (wM r.out [x])):=aO (q:=r.tx [x]) (by show 0<(wM r.out [x]).length;rw[vZ];exact hrl);have eL:(r.tx [x]).out.length=r.out.length:=vZ _ _;unfold brO at c2 c6 c7 ⊢;rw[hY];rw[aO hrl]at c6 c7;unfold brX at c2 c6 c7 ⊢;rw[eL];unfold atC at c6 ⊢;cases ho:q.opn with
 |true=>
  rw[hi ho]at c5;rw[ho]at c2;refine acO aX ?_;simp (disch:=omega) only[fZ,zca,ql,go_sem]
  repeat' first|((first|refine cA (c1 _) ?_ ?_|refine cA (c4 _) ?_ ?_|refine cG (λe=>c5 _) ?_ ?_);exact flk;simp (disch:=omega) only[q6,go_sem])
  refine qE (c2 _) (by exact flk) ?_;simp (disch:=omega) only[e8,go_sem];refine qE (c6 _) (by exact flk) ?_;simp (disch:=omega) only[go_sem];refine jX ?Ta ?Ha ?h1 ?h2
  case h1=>
   simp (disch:=omega) only[go_sem]
   repeat' first|(with_reducible apply aiA)|(refine qE (c7 _) (by exact flk) ?_;simp (disch:=omega) only[zgb,zsb,zcb,ql,hL,k3,go_sem])
   all_goals first
    |omega
    |rfl
    |(intro y hy;rw[List.mem_singleton]at hy;subst hy;exact eK x)
    |skip
  case h2=>
  simp (disch:=omega) only[go_sem];rw[dK x,List.append_assoc,hX];exact zH trivial (by simp only[tri_len]) (jG t (jJ t va r) (kg _ _) (jc _ _ _)) ⟨rfl,rfl⟩ (qi)
 |false=>
  rw[ho]at c2;refine acO aX ?_;simp (disch:=omega) only[fZ,zca,ql,go_sem]
  repeat' first|(refine qj ( .bool false) ?_;simp (disch:=omega) only[go_sem])|((first|refine cA (c1 _) ?_ ?_|refine cA (c4 _) ?_ ?_);exact flk;simp (disch:=omega) only[q6,go_sem])
  refine qE (c2 _) (by exact flk) ?_;simp (disch:=omega) only[e8,go_sem];refine qE (c6 _) (by exact flk) ?_;simp (disch:=omega) only[go_sem];refine jX ?Tb ?Hb ?h1 ?h2
  case h1=>
   simp (disch:=omega) only[go_sem]
   repeat' first|(with_reducible apply aiA)|(refine qE (c7 _) (by exact flk) ?_;simp (disch:=omega) only[zgb,zsb,zcb,ql,hL,k3,go_sem])
   all_goals first
    |omega
    |rfl
    |(intro y hy;rw[List.mem_singleton]at hy;subst hy;exact eK x)
    |skip
  case h2=>
  simp (disch:=omega) only[go_sem];rw[dK x,List.append_assoc,hX];exact zH trivial (by simp only[tri_len]) (jG t (jJ t va r) (kg _ _) (jc _ _ _)) ⟨rfl,rfl⟩ (qi)
theorem Nu(t:T3 h a b c)(q:Br)(x:UInt8)(hq:M3 q):ACalls Tryz.prog 287 [.op a va 0,.agg (atC 1 x)] (brO h a b c va q) (.tup []) (brO h a b c va (q.pt x)):=by
 have ta:=t.la;have tb:=t.lb;have tc:=t.lc;have zga: ∀ {X Y Z l},qu (a) (tri h a b c X Y Z++l)=some X:=vF (t);have yga: ∀ {X Y Z},qu (a) (tri h a b c X Y Z)=some X:=λ{X Y Z}=>by have:=zga (X:=X) (Y:=Y) (Z:=Z) (l:= []);simpa only[lan] using this
 have zgb: ∀ {X Y Z l},qu (b) (tri h a b c X Y Z++l)=some Y:=v6 (t);have ygb: ∀ {X Y Z},qu (b) (tri h a b c X Y Z)=some Y:=λ{X Y Z}=>by have:=zgb (X:=X) (Y:=Y) (Z:=Z) (l:= []);simpa only[lan] using this
 have zgc: ∀ {X Y Z l},qu (c) (tri h a b c X Y Z++l)=some Z:=vG (t);have ygc: ∀ {X Y Z},qu (c) (tri h a b c X Y Z)=some Z:=λ{X Y Z}=>by have:=zgc (X:=X) (Y:=Y) (Z:=Z) (l:= []);simpa only[lan] using this
 have zsa: ∀ {X Y Z o l},qt (a) (tri h a b c X Y Z++l) o=tri h a b c o Y Z++l:=v7 (t);have ysa: ∀ {X Y Z o},qt (a) (tri h a b c X Y Z) o=tri h a b c o Y Z:=λ{X Y Z o}=>by have:=zsa (X:=X) (Y:=Y) (Z:=Z) (o:=o) (l:= []);simpa only[lan] using this
 have zsb: ∀ {X Y Z o l},qt (b) (tri h a b c X Y Z++l) o=tri h a b c X o Z++l:=wz (t);have ysb: ∀ {X Y Z o},qt (b) (tri h a b c X Y Z) o=tri h a b c X o Z:=λ{X Y Z o}=>by have:=zsb (X:=X) (Y:=Y) (Z:=Z) (o:=o) (l:= []);simpa only[lan] using this
 have zsc: ∀ {X Y Z o l},qt (c) (tri h a b c X Y Z++l) o=tri h a b c X Y o++l:=wA (t);have ysc: ∀ {X Y Z o},qt (c) (tri h a b c X Y Z) o=tri h a b c X Y o:=λ{X Y Z o}=>by have:=zsc (X:=X) (Y:=Y) (Z:=Z) (o:=o) (l:= []);simpa only[lan] using this
 have zca: ∀ {X Y Z v l},cellsOf (tri h a b c X Y Z++l) (a) v=qv (some X) v:=xp (t);have yca: ∀ {X Y Z v},cellsOf (tri h a b c X Y Z) (a) v=qv (some X) v:=λ{X Y Z v}=>by have:=zca (X:=X) (Y:=Y) (Z:=Z) (v:=v) (l:= []);simpa only[lan] using this
 have zcb: ∀ {X Y Z v l},cellsOf (tri h a b c X Y Z++l) (b) v=qv (some Y) v:=xq (t);have ycb: ∀ {X Y Z v},cellsOf (tri h a b c X Y Z) (b) v=qv (some Y) v:=λ{X Y Z v}=>by have:=zcb (X:=X) (Y:=Y) (Z:=Z) (v:=v) (l:= []);simpa only[lan] using this
 have zcc: ∀ {X Y Z v l},cellsOf (tri h a b c X Y Z++l) (c) v=qv (some Z) v:=xr (t);have ycc: ∀ {X Y Z v},cellsOf (tri h a b c X Y Z) (c) v=qv (some Z) v:=λ{X Y Z v}=>by have:=zcc (X:=X) (Y:=Y) (Z:=Z) (v:=v) (l:= []);simpa only[lan] using this
 have zla: ∀ {X Y Z v l},qF (tri h a b c X Y Z++l) (a) v=qH (some X) v:=xt (t);have yla: ∀ {X Y Z v},qF (tri h a b c X Y Z) (a) v=qH (some X) v:=λ{X Y Z v}=>by have:=zla (X:=X) (Y:=Y) (Z:=Z) (v:=v) (l:= []);simpa only[lan] using this
 have zlb: ∀ {X Y Z v l},qF (tri h a b c X Y Z++l) (b) v=qH (some Y) v:=xu (t);have ylb: ∀ {X Y Z v},qF (tri h a b c X Y Z) (b) v=qH (some Y) v:=λ{X Y Z v}=>by have:=zlb (X:=X) (Y:=Y) (Z:=Z) (v:=v) (l:= []);simpa only[lan] using this
 have zlc: ∀ {X Y Z v l},qF (tri h a b c X Y Z++l) (c) v=qH (some Z) v:=xw (t);have ylc: ∀ {X Y Z v},qF (tri h a b c X Y Z) (c) v=qH (some Z) v:=λ{X Y Z v}=>by have:=zlc (X:=X) (Y:=Y) (Z:=Z) (v:=v) (l:= []);simpa only[lan] using this
 have c2:=λl=>Nv (va:=va) (t.app l) q x hq
 simp only[wC t]at c2;unfold brO brX at c2 ⊢;unfold atC at c2 ⊢;refine acO Hj ?_;simp (disch:=omega) only[EW,go_sem];refine qE (c2 _) (by exact flk) ?_;simp (disch:=omega) only[go_sem];exact zH trivial (by simp only[tri_len]) (jG t (jJ t va (q.pt x)) (vt _ _) (jc _ _ _)) ⟨rfl,rfl⟩ (qi)
end
structure BrB (q:Br) (b:Bs):Prop where
 out:q.out=b.out
 word:q.word=b.word
 opn:q.opn=b.opn
 jn:q.jn=b.jn
theorem bB(L:List Tk)(f:Int)(w:Str):wM (L++ [tkF f []]) w=L++ [tkF f w]:=by
 unfold wM;have e:(L++ [tkF f []]).length-1=L.length:=by simp
 rw[e];have g:(L++ [tkF f []]).getD L.length default=tkF f []:=by
  have:=xB (L:=L) (M:= [tkF f []]) (a:=default) (i:=0)
  rw[Nat.add_zero]at this;rw[this];rfl
 rw[g,List.set_append_right _ _ (nlr _),Nat.sub_self];rfl
theorem Xy{q:Br}{b:Bs}{s:Str}(h:BrB q b)(hb:ZL s b):q.nd.out=b.fin∧q.nd.word= []∧q.nd.opn=false∧q.nd.jn=b.jn:=by
 unfold Br.nd Bs.fin;cases ho:b.opn with
 |true=>
  rw[ipo (by rw[h.opn,ho]),ipo rfl];refine⟨?_,rfl,rfl,h.jn⟩;show wM q.out q.word=_;rw[h.out,h.word];unfold Bs.out;rw[ipo ho,bB]
 |false=>
  rw[ine (by rw[h.opn,ho];simp),ine (by simp),lan];refine⟨?_,rfl,rfl,h.jn⟩;show q.out=_;rw[h.out];unfold Bs.out;rw[ine (by rw[ho];simp),lan]
theorem IL{q:Br}{b:Bs}{s:Str}(h:BrB q b)(hb:ZL s b)(c:UInt8):BrB (q.pt c) (b.stp c):=by
 obtain⟨n1,n2,n3,n4⟩:=Xy h hb;unfold Br.pt Bs.stp
 by_cases g1:b.opn=true∧wi c=true
 ·rw[ipo (by rw[h.opn];exact g1),ipo g1];refine⟨?_,?_,?_,h.jn⟩
  ·show q.out=_;rw[h.out];unfold Bs.out;rw[ipo g1.1,ipo rfl]
  ·show q.word++ [c]=_;rw[h.word]
  ·show q.opn=_;rw[h.opn,g1.1]
 rw[ine (by rw[h.opn];exact g1),ine g1]
 by_cases g2:bgn c=true
 ·rw[ipo g2,ipo g2];have ho:b.opn=false:=by
   cases ho:b.opn with
   |false=>rfl
   |true=>exact absurd ⟨ho,yw g2⟩ g1
  have hf:q.out=b.fin:=by
   rw[h.out];unfold Bs.out Bs.fin;rw[ho];rfl
  refine⟨?_,?_,rfl,rfl⟩
  ·show q.out++ [tkF (0+jfl q.jn q.out.length) []]=_;rw[hf,h.jn];unfold Bs.out;rw[ipo rfl,Int.zero_add]
  ·show q.word++ [c]=_;rw[h.word,(hb.cl ho).1];rfl
 rw[ine g2,ine g2]
 by_cases g3:kind c=6
 ·rw[ipo g3,ipo g3];refine⟨?_,n2,n3,rfl⟩;show q.nd.out=_;rw[n1];unfold Bs.out;rw[ine (by simp),lan]
 ·rw[ine g3,ine g3];refine⟨?_,n2,n3,rfl⟩;show wM (q.nd.out++ [tkF (8+jfl q.nd.jn q.nd.out.length) []]) [c]=_;rw[bB,n1,n4];unfold Bs.out;rw[ine (by simp),lan]
theorem Nw{q:Br}{b:Bs}{s:Str}(h:BrB q b)(hb:ZL s b)(hs:s.length<=900000):M3 q:=by
 have hl:=hb.len;have hc:=hb.cat;have ho:b.out.length=b.fin.length:=by unfold Bs.out Bs.fin;split<;>simp
 refine⟨λe=> ?_,λe=> ?_,?_,?_⟩
 ·rw[h.opn]at e;have e2:q.out=b.done++ [tkF b.fl []]:=by rw[h.out];unfold Bs.out;rw[ipo e]
  rw[e2];refine⟨by simp,?_⟩;have g:(b.done++ [tkF b.fl []]).getD ((b.done++ [tkF b.fl []]).length-1) default=tkF b.fl []:=by
   rw[show (b.done++ [tkF b.fl []]).length-1=b.done.length+0 by simp,xB];rfl
  rw[g];exact (hb.op e).2.2
 ·rw[h.opn]at e;rw[h.word];exact (hb.cl e).1
 ·rw[h.out,ho];omega
 ·rw[h.word];cases e:b.opn with
  |false=>rw[(hb.cl e).1];simp
  |true=>
   have hm:b.word∈b.fin.map Tk.text:=by
    unfold Bs.fin;rw[ipo e,List.map_append];exact List.mem_append_right _ (List.mem_singleton.2 rfl)
   have h1:=aa hm;rw[hc]at h1
   have:=List.length_filter_le (λc=> !decide (kind c=6)) s
   omega
def brI(vo vw:Nat)(s:Str):Br:=s.foldl Br.pt ⟨[],[],false,false,vo,vw,false⟩
theorem DY(vo vw:Nat)(s:Str): ∀n,n<=s.length->BrB (brI vo vw (s.take n)) (bsL (s.take n)):=by
 intro n
 induction n with
 |zero=>intro _;exact⟨rfl,rfl,rfl,rfl⟩
 |succ n ih=>
  intro hn;rw[List.take_add_one,zg hn];show BrB (brI vo vw (s.take n++ [s[n]])) (bsL (s.take n++ [s[n]]));rw[iV];unfold brI;rw[List.foldl_append];exact IL (ih oma) (dJ _) _
theorem Z1(vo vw:Nat)(s:Str){n:Nat}(hn:n<s.length):brI vo vw (s.take (n+1))=(brI vo vw (s.take n)).pt (ch s n):=by
 unfold brI;rw[List.take_add_one,zg hn,List.foldl_append];simp[ch,gdqA,hn]
theorem WT(vo vw:Nat)(s:Str)(hs:s.length<=900000){n:Nat}(hn:n<=s.length):M3 (brI vo vw (s.take n)):=Nw (DY vo vw s n hn) (dJ _) (by rw[List.length_take];omega)
def nmL(L:List Tk)(i:Nat):List Tk:=(L.take i).map tkN++L.drop i
theorem ae(L:List Tk)(i:Nat):(nmL L i).length=L.length:=by unfold nmL;simp;omega
theorem Ix{L:List Tk}{i:Nat}(hi:i<L.length):(nmL L i).getD i default=L.getD i default:=by
 unfold nmL;rw[gdqA,List.getElem?_append_right (by simp;omega),List.getElem?_drop,gdqA];simp[Nat.min_eq_left (Nat.le_of_lt hi)]
theorem KQ{L:List Tk}{i:Nat}(hi:i<L.length):nmL L (i+1)=(nmL L i).set i (tkN (L.getD i default)):=by
 unfold nmL;have e:((L.take i).map tkN).length=i:=by simp;omega
 rw[List.set_append_right _ _ oma,e,Nat.sub_self,List.drop_eq_getElem_cons hi,List.set_cons_zero,List.take_add_one,zg hi,List.map_append,List.append_assoc,gdqA,zg hi];rfl
theorem AW(L:List Tk):nmL L L.length=L.map tkN:=by unfold nmL;rw[List.take_length,List.drop_length,lan]
theorem KR(L:List Tk):nmL L 0=L:=by unfold nmL;simp
end RC
end
section
open Go Go.Proofs AF
def Aw:List Nat:= [277,278,377,347,287,344,288,345,290]
def EC:C:=
 (pk [O1 3 (.box 0 117) 0,ON 6 (.nilo 1 6 119) [],oF 7 0] ((pk [MV 14 1,O1 15 (.call 283 true) 14,oT 16 .neq 15 0,MV 17 16,pc 18 17 2,oX 19 17 (.call 284 true) 18,ph 20 17 (.bin
 .neq) 19 (i6 0),PT 21 17 20] (p7 21 (p9 [ON 6 (.nilo 1 6 119) [],oF 7 1]))).seq ((pk [oE 22 1 3,LD 23 22,oT 24 .lss 23 0,MV 25 24,tv 26 25 1 3,tE 27 25 26,ph 28 25 (.bin .gtr)
 27 (i6 4096),PT 29 25 28] (p7 29 (p9 [ON 6 (.nilo 1 6 119) [],oF 7 2]))).seq ((pk [oE 30 0 3,LD 31 30,O1 32 (.call 260 true) 31,O1 33 (.un UnOp.not) 32] (p7 33 (p9 [ON 6 (.nilo
 1 6 119) [],oF 7 14]))).seq (pk [MV 35 1,OC 36 (.call 285 true) 35 (i6 8),MV 34 36,O1 37 (.ext 0) 34,O1 38 (.ext 1) 34,MV 8 37,MV 9 38] (pk [MV 40 1,OC 41 (.call 285 true) 40
 (i6 9),MV 39 41,O1 42 (.ext 0) 39,O1 43 (.ext 1) 39,MV 10 42,MV 11 43] ((pk [MV 44 8,MV 45 10,BI 46 .add 44 45,oT 47 .gtr 46 0] (p7 47 (p9 [ON 6 (.nilo 1 6 119) [],oF 7
 13]))).seq (pk [⟨some 12,none,.alloc 2 343 [.nl,.nilp,.nl,.bool false,.bool false,.bool false],[]⟩] (((C.wk.seq (rv [O1 48 (.load (some 2)) 3,MV 49 1,O2 50 (.call 286 true) 48
 49])).seq (C.block 0 (C.range (.t 50) [51] (rv [⟨some 13,none,.alloc 3 348 [i6 0,.int .u8 0,i6 0,.str [],i6 0,.bool false,.str []],[]⟩,ST 7 13 51]) (C.block 1 (rv [O1 52 (.load
 (some 7)) 13,O2 53 (.call 287 false) 12 52]))))).seq (pk [O1 54 (.call 288 false) 12] ((pk [oE 55 0 12,LD 56 55,O1 57 .len 56,oT 58 .gtr 57 1024,MV 59 58,tv 60 59 0 12,tE 61 59
 60,ph 62 59 (.call 183 true) 61 (.fn (Fn.func 289) [] []),PT 63 59 62] (p7 63 (p9 [ON 6 (.nilo 1 6 119) [],oF 7 4]))).seq (p9 [MV 64 2,oE 65 0 12,LD 66 65,O2 67 (.call 290
 false) 64 66,O1 68 (.ext 0) 67,O1 69 (.ext 1) 67,MV 6 68,MV 7 69]))))))))))))
theorem GT:qK Tryz.prog 224 70 6 [RV.tmp 6,RV.tmp 7] EC:=fi Tryz.f224 [3,6,12,13,9,11] Aw [12]
end
section
open Go Go.Proofs AF HY LN
namespace RC
theorem Wq{t:Tk}(h:TkG t)(hl:t.text.length<=64):(np t.flags=false∧mkB t.flags=false∧ ∀i,i<t.text.length->wi (ch t.text i)=true)∨(np t.flags=false∧mkB t.flags=true):=by
 rcases h.2 with⟨hf,c,r,e,hb,hr⟩|⟨hf,_⟩
 ·refine .inl ⟨by rcases hf with e|e<;>rw[e]<;>rfl,by rcases hf with e|e<;>rw[e]<;>rfl,λi hi=> ?_⟩;rw[e]at hi ⊢;cases i with
  |zero=>exact yw hb
  |succ i=>
   simp only[lco]at hi
   have:ch (c::r) (i+1)=r[i]'(by omega):=by simp[ch,gdqA,show i<r.length by omega]
   rw[this];exact hr _ (List.getElem_mem _)
 ·exact .inr ⟨by rcases hf with e|e<;>rw[e]<;>rfl,by rcases hf with e|e<;>rw[e]<;>rfl⟩
theorem Wp{t:Tk}(h:TkG t): ∃f:Nat,t.flags=f∧f<32:=by
 rcases h.2 with⟨hf|hf,_⟩|⟨hf|hf,_⟩
 ·exact⟨0,hf,oma⟩
 ·exact⟨16,hf,oma⟩
 ·exact⟨8,hf,oma⟩
 ·exact⟨24,hf,oma⟩
theorem Ph(L:List Tk)(b v:Nat)(h:JN)(hb:qu b h=some (ze v 119 (ji L)))(hg: ∀t∈L,TkG t)(hl: ∀t∈L,t.text.length<=64)(hn:L.length<=1000000):
  ACalls Tryz.prog 290 [.nl,.osl b v 6 0 L.length] h (.tup [.osl b v 6 0 L.length,.int .i64 0]) (qt b h (ze v 119 (ji (L.map tkN)))):=by
 have hbl:=zh hb;have hlv: ∀l,qF (h++l) b v=true:=λl=>by rw[jp,zA hbl,hb,qX];simp
 refine acO Hk ?_;simp (disch:=omega) only[EX,hlv,go_sem];refine qr (T:=λi:Nat=>qY 49 [(0,.nl),(1,.osl b v 6 0 L.length),(10,.int .i64 L.length),(11,.int .i64 i)]) (H:=λi=>qt b h (ze v 119 (ji (nmL L i)))++ [.emp 1]) (inv:=λi=>i<=L.length) (m:=λi=>L.length-i) 0 (nzl _) ?_ ?_
 ·rw[KR,jE hb];refine Wk.temps ?_
  (simp only[go_sem,qg,qc,qb,qf];try exact tT)
 rintro i i1 K hK;have hML:=ae L i
 by_cases hi:i<L.length
 ·have k1:((i:Int)<L.length)=True:=eqt oma;have hne:ji (nmL L i)≠ []:=λe=>by
   have:=congrArg List.length e
   rw[jF,hML,lnl]at this;omega
  have ho:ze v 119 (ji (nmL L i))= .mem v 119 (ji (nmL L i)):=by unfold ze;rw[ine hne]
  rw[ho];have hM:=jF (nmL L i);rw[hML]at hM;obtain⟨t,ht⟩:=Qt (L.getD i default)
  have hmem:t∈L:=by rw[ht];exact zI hi
  have gt:=hg t hmem;have lt:=hl t hmem;have hat:=Ix hi;rw[<-ht]at hat;have hsucc:=KQ hi;rw[<-ht]at hsucc;obtain⟨M,hMe⟩:=Qt (nmL L i)
  rw[<-hMe]at hM hat hsucc hML ⊢;have s1: ∀ {l w cs z},cellsOf (qt b h (.mem w 119 cs)++l) b z=if w=z then some cs else none:=vu hbl
  have s2: ∀ {l o o'},qt b (qt b h o++l) o'=qt b h o'++l:=cC hbl;have s4: ∀ {l o},qu b (qt b h o++l)=some o:=yA hbl;have s3: ∀ {l o w},qF (qt b h o++l) b w=qH (some o) w:=λ{l o w}=>by rw[jp,s4]
  have g0:(ji M)[i*6]? =some (.str t.text):=by
   have:=cS (L:=M) (i:=i) (k:=0) oma oma
   rw[Nat.add_zero]at this;rw[this,hat];rfl
  have b1:(i*6<L.length*6)=True:=eqt oma;have b2:(i*6+1+1<=L.length*6)=True:=eqt oma;have b3:(i*6+6<=L.length*6)=True:=eqt oma;have hset:=mi (L:=M) (i:=i) (tkN t) oma;rw[<-hsucc]at hset;have hcut:=xo (L:=M) (i:=i) oma;rw[hat]at hcut;have hS:List.take (i*6+1) (ji M)++ [AV.str t.text]++List.drop (i*6+1+1) (ji M)=ji (nmL L (i+1)):=by
   rw[<-hset];have e1:List.take (i*6+1) (ji M)=List.take (i*6) (ji M)++ [.str t.text]:=by
    rw[List.take_add_one,g0];rfl
   have e2:List.drop (i*6+1+1) (ji M)=(tkC t).drop 2++(ji M).drop (i*6+6):=by
    rw[<-hcut,List.drop_take,List.drop_drop]
    have:List.drop (i*6+6) (ji M)=List.drop 4 (List.drop (i*6+2) (ji M)):=by rw[List.drop_drop]
    rw[this,show i*6+1+1=i*6+2 by omega];exact (List.take_append_drop 4 _).symm
   rw[e1,e2];simp[tkC,tkN]
  have hL2:=jF (nmL L (i+1));rw[ae]at hL2;have hat2:(nmL L (i+1)).getD i default=tkN t:=by rw[hsucc];exact bU oma
  have hcut2:=xo (L:=nmL L (i+1)) (i:=i) (by rw[ae];exact hi);rw[hat2]at hcut2;have h0':(ji (nmL L (i+1)))[i*6]? =some (.str t.text):=by
   have:=cS (L:=nmL L (i+1)) (i:=i) (k:=0) (by rw[ae];exact hi) oma
   rw[hat2]at this;exact this
  have hS2:List.take (i*6+1) (ji (nmL L (i+1)))++ [AV.str t.text]++List.drop (i*6+1+1) (ji (nmL L (i+1)))=ji (nmL L (i+1)):=by
   refine fB ?_;rw[cS (by rw[ae];exact hi) oma,hat2];rfl
  obtain⟨f,hf,hf2⟩:=Wp gt;have c1:=λh=>RG (tkN t) f h hf hf2
  have ho2:ze v 119 (ji (nmL L (i+1)))= .mem v 119 (ji (nmL L (i+1))):=by
   unfold ze;rw[ine λe=> ?_]
   have:=congrArg List.length e
   rw[hL2,lnl]at this;omega
  rcases Wq gt lt with⟨q1,q2,q3⟩|⟨q1,q2⟩
  ·have hiw:(!np (tkN t).flags&& !mkB (tkN t).flags)=true:=by rw[show (tkN t).flags=t.flags from rfl,q1,q2];rfl
   rw[hiw]at c1;have c2:=λh=>Pg t.text h lt q3
   simp (disch:=omega) only[k1,s1,s2,s4,hM,g0,b1,b2,b3,hS,hL2,hcut2,go_sem]
   repeat' first|((first|refine cA (c1 _) ?_ ?_|refine cA (c2 _) ?_ ?_);exact flk;simp (disch:=omega) only[k1,s1,s2,s4,b1,b2,hL2,h0',hS2,go_sem])|with_reducible apply aiA|exact clz|fail
   refine hK _ _ (i+1) hi oma ?_;rw[ho2];refine Wk.temps ?_
   (simp only[go_sem,qg,qc,qb,qf];try exact tT)
  ·have hiw:(!np (tkN t).flags&& !mkB (tkN t).flags)=false:=by rw[show (tkN t).flags=t.flags from rfl,q1,q2];rfl
   rw[hiw]at c1;simp (disch:=omega) only[k1,s1,s2,s4,hM,g0,b1,b2,b3,hS,hL2,hcut2,go_sem]
   repeat' first|(refine cA (c1 _) flk ?_;simp (disch:=omega) only[k1,s1,b1,hL2,go_sem])|with_reducible apply aiA|exact clz|fail
   refine hK _ _ (i+1) hi oma ?_;rw[ho2];refine Wk.temps ?_
   (simp only[go_sem,qg,qc,qb,qf];try exact tT)
 have k1:((i:Int)<L.length)=False:=eqf oma;obtain rfl:i=L.length:=by omega
 simp (disch:=omega) only[k1,go_sem];rw[AW];refine kX ⟨trivial,trivial,trivial⟩ qL (λo ho=>(jk ho).imp id (λe=>by rw[e];exact jd (kg _ _))) ⟨rfl,rfl⟩ ?_;simp only[go_sem];rw[ine oma];exact qi
end RC
end
section
open Go Go.Proofs AF HY LN
namespace AF
theorem Cf{h:JN}{a b c:Nat}{X Y Z o:AObj}(ho:o∈tri h a b c X Y Z):o∈h∨o=X∨o=Y∨o=Z:=by
 unfold tri at ho;rcases jk ho with h1|rfl
 ·rcases jk h1 with h1|rfl
  ·rcases jk h1 with h1|rfl
   ·exact .inl h1
   ·exact .inr (.inl rfl)
  ·exact .inr (.inr (.inl rfl))
 ·exact .inr (.inr (.inr rfl))
theorem LA{h l:JN}{a b c k:Nat}{X Y Z:AObj}(hk:k<h.length)(ha:k≠a)(hb:k≠b)(hc:k≠c):qu k (tri h a b c X Y Z++l)=qu k h:=by
 rw[zA (by rw[tri_len];exact hk)];unfold tri;rw[qQ hc,qQ hb,qQ ha]
theorem LC{h l:JN}{a b c k:Nat}{X Y Z o:AObj}(hk:k<h.length)(ha:k≠a)(hb:k≠b)(hc:k≠c):qt k (tri h a b c X Y Z++l) o=tri (qt k h o) a b c X Y Z++l:=by
 rw[zC (by rw[tri_len];exact hk)];unfold tri;rw[ku hc,ku hb,ku ha]
theorem XO{h:JN}{a b c:Nat}{X Y Z:AObj}(ha:qu a h=some X)(hb:qu b h=some Y)(hc:qu c h=some Z):tri h a b c X Y Z=h:=by
 unfold tri;rw[jE ha,jE hb,jE hc]
end AF
namespace RC
theorem cD{v n:Nat}{L:List Tk}{ty:TypeId}{fz:Nat->Bool}{h:JN}{d:Nat}(hn:n=L.length):VLe (fP (some (ze v ty (ji L))) v 6 0 n (rei fz h (d+1))) (zR L):=by
 subst hn;unfold ze;split
 ·rename_i e
  have:L= []:=by
   cases L with
   |nil=>rfl
   |cons a r=>exact absurd e (by simp[ji,tkC])
  subst this;rw[slOf_emp,ipo rfl];exact qU
 ·rw[slOf_mem,ipo ⟨rfl,by rw[jF];omega⟩];refine VLe.sl_eq rfl (λi hi=> ?_);simp only[Nat.zero_add];rw[xo hi];rfl
theorem Uc(t:Tk)(h:JN):ACalls Tryz.prog 289 [.agg (tkC t)] h (.bool (decide (64<t.text.length))) h:=by
 by_cases g:64<t.text.length
 ·have k1:((64:Int)<t.text.length)=True:=eqt oma;rw[dqt g];refine acO Xg ?_;simp (disch:=omega) only[Yo,tkC,k1,go_sem]
  repeat' first|exact tF|fail
 ·have k1:((64:Int)<t.text.length)=False:=eqf oma;rw[dqf g];refine acO Xg ?_;simp (disch:=omega) only[Yo,tkC,k1,go_sem]
  repeat' first|exact tF|fail
theorem Tt(L:List Tk)(h:JN)(hl:L.length<=1000000000):ACalls Tryz.prog 183 [zR L,.fn (.func 289) [] []] h (.bool (AH L)) h:=
 W4 W8 ⟨rfl,rfl⟩ ⟨rfl,rfl⟩ (y4 Xd L.length (λj=>tkC (L.getD j default)) (λj=> .agg (tkC (L.getD j default))) 289 [] [] (λj=>decide (64<(L.getD j default).text.length)) h (λi _=>⟨rfl,by simp[jK,tkC],rfl,rfl,rfl⟩) (λi _=>Uc _ _) oma)
end RC
end
