import Derived.Test.YthjkfdakolejgaaGreatDoorK12
import Derived.Test.YthjkfdakolejgaaGreatDoorK3
import Derived.Test.YthjkfdakolejgaaGreatDoorK5
import Derived.Test.YthjkfdakolejgaaGreatDoorK8
import Derived.Test.YthjkfdakolejgaaGreatDoorProg
set_option linter.all false
set_option linter.unusedSimpArgs false
set_option linter.unusedVariables false
set_option linter.unusedSectionVars false
set_option maxHeartbeats 128000000
set_option maxRecDepth 100000
section
open Go Go.Proofs AF HY LN
namespace AF
theorem LowI.retY{h hh xs ys:List AObj}{ts:List AV}{L:LInfo}(s:LS)(hl:LowI h hh)(hts: ∀c∈ts,qV (h.length+1) c=true)(hy:ys.length=xs.length)(hz: ∀o∈ys,o∈xs∨ ∀n,lowO n o):
  (hh++ .lp s ts L::ys).length=(h++ .lp .ready ts L::xs).length∧ ∀o∈hh++ .lp s ts L::ys,o∈h++ .lp .ready ts L::xs∨lowO (h++ .lp .ready ts L::xs).length o:=by
 refine⟨by simp[hl.1,hy],fun o ho=> ?_⟩;rcases List.mem_append.1 ho with ho|ho
 ·rcases hl.2 o ho with h1|⟨h1,_⟩
  ·exact .inl (List.mem_append_left _ h1)
  ·exact .inr (lowO_mono (by simp) h1)
 ·rcases List.mem_cons.1 ho with rfl|ho
  ·exact .inr (fun c hc=>kF (by simp) c (hts c hc))
  ·rcases hz o ho with h1|h1
   ·exact .inl (List.mem_append_right _ (List.mem_cons_of_mem _ h1))
   ·exact .inr (h1 _)
end AF
namespace RC
def atC(k:Int)(c:UInt8):List AV:= [.int .i64 k,.int .u8 (c.toNat:Int),.int .i64 0,.str [],.int .i64 0,.bool false,.str []]
def atX(s:Str):List (List AV):=s.map fun c=> [.agg (atC 1 c)]
theorem qc0(s:Str):(atX s).length=s.length:=by unfold atX;simp
theorem qsf{s:Str}{i:Nat}(hi:i<(atX s).length):(atX s)[i]= [.agg (atC 1 (ch s i))]:=by
 have:i<s.length:=by rw[qc0]at hi;exact hi
 simp[atX,ch,gdqA,this]
def qvq(s:Str)(j:Nat):UInt8:=if j=0 then 0 else ch s (j-1)
def cyA(n:Nat):AObj:= .mem 1 281 [.yld n]
def cxA(k:Int)(c:UInt8):AObj:= .mem 1 253 (atC k c)
def ceA(n:Nat):AObj:= .mem 1 282 [.fn (.func 253) [] [.op (n+2) 1 0,.op (n+1) 1 0,.op (n+3) 1 0]]
theorem qlB(k:Int)(c:UInt8): ∀n,lowO n (cxA k c):=fun n d hd=>by
 simp[atC]at hd;rcases hd with rfl|rfl|rfl|rfl|rfl|rfl|rfl<;>rfl
section
variable {n : Nat} {hh m : List AObj} {st : LS} {ts : List AV} {LI : LInfo} {k : Int} {c : UInt8} {X : AObj}
theorem qB9(hl:hh.length=n):cellsOf (hh++ .lp st ts LI::cyA n::X::ceA n::m) (n+1) 1=some [.yld n]:=qP (show qr _ _=some (cyA n) by subst hl;unfold qr;simp)
theorem qCa(hl:hh.length=n):qr (n+2) (hh++ .lp st ts LI::cyA n::X::ceA n::m)=some X:=by subst hl;unfold qr;simp
theorem qwU{Y:AObj}(hl:hh.length=n):qn (n+2) (hh++ .lp st ts LI::cyA n::X::ceA n::m) Y=hh++ .lp st ts LI::cyA n::Y::ceA n::m:=by subst hl;unfold qn;simp
end
theorem eachT(s:Str)(hl:s.length≤1000000)(h:List AObj)(ts:List AV)(LI:LInfo)(S:Nat→List AObj→Prop)(E:LS→List AObj→Prop)(hS: ∀i hh,S i hh→LowI h hh)(hE: ∀s hh,E s hh→LowI h hh)
  (body: ∀i hh tl,(hi:i<(atX s).length)→S i hh→kk Tryz.prog h.length ((atX s)[i]) (hh++ .lp .ready ts LI::tl) (fun r h'=> ∃hh',(r= .bool true∧S (i+1) hh'∧h'=hh'++ .lp .ready ts LI::tl)∨(∃s,r= .bool false∧E s hh'∧h'=hh'++ .lp s ts LI::tl)))
  (start:S 0 h) (hts: ∀c∈ts,qV (h.length+1) c=true):
  jc Tryz.prog 253 [kg s,.op (h.length+2) 1 0,.op (h.length+1) 1 0,.op (h.length+3) 1 0] (h++ [.lp .ready ts LI,cyA h.length,cxA 0 0,ceA h.length])
   (fun r h'=> ∃hh' c,(r= .bool true∧S s.length hh'∧h'=hh'++ [.lp .ready ts LI,cyA h.length,cxA 1 c,ceA h.length])∨(∃st,r= .bool false∧E st hh'∧h'=hh'++ [.lp st ts LI,cyA h.length,cxA 1 c,ceA h.length])):=by
 refine acQ qzw ?_;simp (disch:=omega) only[qxT,kg,ndC,go_sem];have key: ∀(hh:List AObj) (k:Int) (c:UInt8),hh.length=h.length→ ∃B,B=hh++ [AObj.lp LS.ready ts LI,cyA h.length,cxA k c,ceA h.length]∧B.length=h.length+4∧qr (h.length+2) B=some (cxA k c)∧(∀Y m,cellsOf (qn (h.length+2) B Y++m) (h.length+1) 1=some [.yld h.length])∧
   (∀Y m,qn (h.length+2) B Y++m=hh++ [AObj.lp LS.ready ts LI,cyA h.length,Y,ceA h.length]++m):=fun hh k c hl=>by
  refine⟨_,rfl,by simp[hl],qCa (m:= []) hl,fun Y m=> ?_,fun Y m=> ?_⟩
  ·rw[qwU (m:= []) hl];have e:hh++ [AObj.lp LS.ready ts LI,cyA h.length,Y,ceA h.length]++m=hh++ .lp .ready ts LI::cyA h.length::Y::ceA h.length::m:=by simp
   rw[e];exact qB9 hl
  ·rw[qwU (m:= []) hl]
 have ea: ∀(g:List AObj) st (X:AObj) m,g++ [AObj.lp st ts LI,cyA h.length,X,ceA h.length]++m=g++ .lp st ts LI::cyA h.length::X::ceA h.length::m:=fun g st X m=>by simp
 refine qu (T:=fun i:Nat×List AObj×AObj×AObj×UInt8=>ze 93 [(1,.op (h.length+2) 1 0),(2,.op (h.length+1) 1 0),(3,.op (h.length+3) 1 0),(11,kg s),(12,.int .i64 ((1:Nat):Int)),(13,.int .i64 i.1)])
  (H:=fun i=>i.2.1++ [.lp .ready ts LI,cyA h.length,cxA (if i.1=0 then 0 else 1) i.2.2.2.2,ceA h.length]++ [i.2.2.1,i.2.2.2.1])
  (inv:=fun i=>i.1≤1∧S (if i.1=0 then 0 else s.length) i.2.1∧qJ [i.2.2.1] 0=true∧qJ [i.2.2.2.1] 0=true∧(i.1=0→i.2.2.2.2=0)) (m:=fun i=>1-i.1) (0,h,.emp 0,.emp 0,0) ⟨nzl _,start,rfl,rfl,fun _=>rfl⟩ (Wk.temps ?_) ?_
 ·(simp only[kg,ndC,go_sem,qg,qc,qa,qf];try (repeat' first|(with_reducible apply aiA)|(apply qh;omega)|(apply qe;rfl)|exact qi))
 rintro⟨i,hh,O7,O9,c⟩ ⟨i1,i2,i3,i4,i5⟩ K hK;simp only at i1 i2 i3 i4 i5 hK;obtain⟨hlen,hlow⟩:=hS _ _ i2;have i3': ∀m,qJ (O7::m) 0=true:=fun _=>i3
 have i4': ∀m,qJ (O9::m) 0=true:=fun _=>i4
 by_cases hi:i<1
 ·obtain rfl:i=0:=by omega
  obtain rfl:=i5 rfl;rw[ipo rfl]at i2;obtain⟨B,hB,hBl,hk,d1,d2⟩:=key hh 0 0 hlen;have hb:(h++ [AObj.lp LS.ready ts LI,cyA h.length,cxA 0 0,ceA h.length]).length=B.length:=by rw[hBl];simp
  have hkl:h.length+2<B.length:=by omega
  have s1: ∀ {l w cs z},cellsOf (qn (h.length+2) B (.mem w 253 cs)++l) (h.length+2) z=if w=z then some cs else none:=qam hkl
  have s2: ∀ {l o o'},qn (h.length+2) (qn (h.length+2) B o++l) o'=qn (h.length+2) B o'++l:=qeH hkl;have s4: ∀ {l o},qr (h.length+2) (qn (h.length+2) B o++l)=some o:=qcL hkl;show qX _ _ _ _ _ (hh++ [.lp .ready ts LI,cyA h.length,cxA 0 0,ceA h.length]++ [O7,O9]);rw[hb,←hB];have hB0:B=qn (h.length+2) B (.mem 1 253 (atC 0 0)):=(jK hk).symm;rw[show B++ [O7,O9]=qn (h.length+2) B (.mem 1 253 (atC 0 0))++ [O7,O9]from by rw[←hB0]];unfold atC;simp (disch:=omega) only[kg,ndC,i3',go_sem]
  repeat' first
   |with_reducible first|intro _|apply aiA
  all_goals try exact clz
  refine jB ?T ?H ?h1 ?h2
  case h1=>
   simp (disch:=omega) only[s1,s2,s4,go_sem]
   repeat' first
    |with_reducible apply aiA
   all_goals first
    |omega
    |rfl
    |skip
  case h2=>
  simp (disch:=omega) only[s1,s2,s4,go_sem]
  repeat' first
   |with_reducible first|intro _|apply aiA
  all_goals try exact clz
  rw[d2];obtain⟨O7',hO7⟩: ∃O7',O7'=AObj.mem (qo (some O7)+1) 189 (ndC s):=⟨_,rfl⟩
  refine qu (T:=fun j:Nat×List AObj=>ze 93 [(1,.op (h.length+2) 1 0),(2,.op (h.length+1) 1 0),(3,.op (h.length+3) 1 0),(7,.op B.length (qo (some O7)+1) 0),(11,kg s),(12,.int .i64 ((1:Nat):Int)),(13,.int .i64 ((0:Nat):Int)),(70,.int .i64 s.length),(71,.int .i64 j.1)])
   (H:=fun j=>j.2++ [.lp .ready ts LI,cyA h.length,cxA 1 (qvq s j.1),ceA h.length]++ [O7',O9])
   (inv:=fun j=>j.1≤s.length∧S j.1 j.2) (m:=fun j=>s.length-j.1) (0,hh) ⟨nzl _,i2⟩ ?_ ?_
  ·rw[hO7];refine Wk.temps ?_
   (simp only[kg,ndC,go_sem,qg,qc,qa,qf];try (repeat' first|(with_reducible apply aiA)|(apply qh;omega)|(apply qe;rfl)|exact qi))
  rintro⟨j,hj⟩ ⟨j1,j2⟩ K' hK';simp only at j1 j2 hK';obtain⟨jlen,jlow⟩:=hS _ _ j2;obtain⟨C,hC,hCl,ck,e1,e2⟩:=key hj 1 (qvq s j) jlen;have ckl:h.length+2<C.length:=by omega
  have t1: ∀ {l w cs z},cellsOf (qn (h.length+2) C (.mem w 253 cs)++l) (h.length+2) z=if w=z then some cs else none:=qam ckl
  have t2: ∀ {l o o'},qn (h.length+2) (qn (h.length+2) C o++l) o'=qn (h.length+2) C o'++l:=qeH ckl;have t4: ∀ {l o},qr (h.length+2) (qn (h.length+2) C o++l)=some o:=qcL ckl;show qX _ _ _ _ _ (hj++ [.lp .ready ts LI,cyA h.length,cxA 1 (qvq s j),ceA h.length]++ [O7',O9]);have hbc:B.length=C.length:=by rw[hBl,hCl]
  simp only[hbc];rw[←hC];have hC0:C=qn (h.length+2) C (.mem 1 253 (atC 1 (qvq s j))):=(jK ck).symm;rw[show C++ [O7',O9]=qn (h.length+2) C (.mem 1 253 (atC 1 (qvq s j)))++ [O7',O9]from by rw[←hC0]];unfold atC;rw[hO7]
  by_cases hjl:j<s.length
  ·have k1:((j:Int)<s.length)=True:=eqt om;have e:(s[j]?).getD 0=ch s j:=by simp[ch,gdqA]
   have hb':=fun tl=>body j hj tl (by rw[qc0];exact hjl) j2
   simp only[qsf,atC]at hb';simp (disch:=omega) only[kg,ndC,t1,t2,t4,k1,e,e1,go_sem]
   repeat' first
    |with_reducible apply aiA
   all_goals try exact clz
   ·rw[e2,ea];exact⟨.ready,ts,LI,kR jlen⟩
   ·rw[e2,ea];refine kk.mono ?_ (hb' _);rintro v h' ⟨hh',⟨rfl,hn,rfl⟩|⟨st,rfl,hs',rfl⟩⟩
    ·simp (disch:=omega) only[go_sem];rw[←ea];refine hK' _ _ (j+1,hh') ⟨hjl,hn⟩ (by simp only;omega) ?_;simp only[hO7,qvq,Nat.add_sub_cancel,hbc];rw[ine om];refine Wk.temps ?_
     (simp only[kg,ndC,go_sem,qg,qc,qa,qf];try (repeat' first|(with_reducible apply aiA)|(apply qh;omega)|(apply qe;rfl)|exact qi))
    ·simp (disch:=omega) only[go_sem];rw[←ea hh' st];obtain⟨r1,r2⟩:=(hE _ _ hs').retY (L:=LI) (xs:= [cyA h.length,cxA 0 0,ceA h.length]) (ys:= [cyA h.length,cxA 1 (ch s j),ceA h.length]) st hts rfl (fun o ho=>by
      simp only[List.mem_cons,List.not_mem_nil,or_false]at ho;rcases ho with rfl|rfl|rfl
      ·left;simp
      ·right;exact qlB 1 _
      ·left;simp)
     exact qaq ⟨trivial,trivial⟩ r1 r2 ⟨hh',ch s j,.inr ⟨st,rfl,hs',rfl⟩⟩ (qi)
  have k1:((j:Int)<s.length)=False:=eqf om;obtain rfl:j=s.length:=by omega
  simp (disch:=omega) only[kg,ndC,k1,go_sem];rw[e2];refine hK _ _ (1,hj,O7',O9,qvq s s.length) ⟨nlr _,j2,by rw[hO7];rfl,i4,fun h=>absurd h (by simp)⟩ (by simp only;omega) ?_;simp only[hO7];refine Wk.temps ?_
  (simp only[kg,ndC,go_sem,qg,qc,qa,qf];try (repeat' first|(with_reducible apply aiA)|(apply qh;omega)|(apply qe;rfl)|exact qi))
 ·obtain rfl:i=1:=by omega
  have i2:S s.length hh:=i2;show qX _ _ _ _ _ (hh++ [.lp .ready ts LI,cyA h.length,cxA 1 c,ceA h.length]++ [O7,O9]);simp (disch:=omega) only[kg,ndC,go_sem]
  repeat' first
   |with_reducible first|intro _|apply aiA
  all_goals try exact clz
  obtain⟨r1,r2⟩:=(hS _ _ i2).retY (L:=LI) (xs:= [cyA h.length,cxA 0 0,ceA h.length]) (ys:= [cyA h.length,cxA 1 c,ceA h.length]) .ready hts rfl (fun o ho=>by
   simp only[List.mem_cons,List.not_mem_nil,or_false]at ho;rcases ho with rfl|rfl|rfl
   ·left;simp
   ·right;exact qlB 1 c
   ·left;simp)
  exact qaq ⟨trivial,trivial⟩ r1 r2 ⟨hh,c,.inl ⟨rfl,i2,rfl⟩⟩ (qi)
end RC
end
section
open Go Go.Proofs AF HY LN
namespace RC
theorem itA(s:Str)(hl:s.length≤1000000):qoX Tryz.prog 252 [.ip [.str [],.int .i64 0],.ip [kg s]] (atX s):=by
 intro h ts LI S E hS hE body start hts;have hb:(h++ [AObj.lp LS.ready ts LI]).length=h.length+1:=by simp
 have ea: ∀st,h++ [AObj.lp st ts LI]++ [.mem 1 281 [.yld h.length],.mem 1 253 [.int .i64 0,.int .u8 0,.int .i64 0,.str [],.int .i64 0,.bool false,.str []],.mem 1 282 [.fn (.func 253) [] [.op (h.length+2) 1 0,.op (h.length+1) 1 0,.op (h.length+3) 1 0]]]=h++ [AObj.lp st ts LI,cyA h.length,cxA 0 0,ceA h.length]:=fun st=>by simp[cyA,cxA,ceA,atC]
 refine acQ qzv ?_;simp (disch:=omega) only[qxS,kg,go_sem]
 repeat' first
  |with_reducible apply aiA
 all_goals try exact clz
 simp only[hb,Nat.add_assoc,Nat.reduceAdd,ea];refine qk7 (eachT s hl h ts LI S E hS hE body start hts) ?_;rintro v h' ⟨hh',c,⟨rfl,hn,rfl⟩|⟨st,rfl,hs',rfl⟩⟩
 ·simp (disch:=omega) only[go_sem];obtain⟨r1,r2⟩:=(hS _ _ hn).retX (L:=LI) (xs:= []) .ready hts;have eO:hh'++ [.lp .ready ts LI,cyA h.length,cxA 1 c,ceA h.length]=(hh'++ [.lp .ready ts LI])++ [cyA h.length,cxA 1 c,ceA h.length]:=by simp
  rw[eO];exact zO trivial r1 r2 ⟨hh',.inl ⟨by rw[qc0];exact hn,rfl⟩⟩ (qi)
 ·simp (disch:=omega) only[go_sem];obtain⟨r1,r2⟩:=(hE _ _ hs').retX (L:=LI) (xs:= []) st hts;have eO:hh'++ [.lp st ts LI,cyA h.length,cxA 1 c,ceA h.length]=(hh'++ [.lp st ts LI])++ [cyA h.length,cxA 1 c,ceA h.length]:=by simp
  rw[eO];exact zO trivial r1 r2 ⟨hh',.inr ⟨st,hs',rfl⟩⟩ (qi)
theorem qEX(s:Str)(h:List AObj):ACalls Tryz.prog 221 [.agg [.str [],.int .i64 0],kg s] h (.fn (.func 252) [] [.ip [.str [],.int .i64 0],.ip [kg s]]) h:=by
 refine acO qzj ?_;simp (disch:=omega) only[qxH,kg,ndC,go_sem]
 repeat' first
  |(apply qb;exact rvk;simp only[go_sem];exact qi)
end RC
end
section
open Go Go.Proofs AF HY RC LN
namespace HY
theorem qb0(w:World)(b d:Nat)(v:Value):w.grownBy (w.setCell ⟨b,d,none⟩ v) (some b):=by
 unfold World.setCell;refine⟨rfl,rfl,rfl,?_,fun k hk hne=> ?_⟩
 ·simp
 ·have:b≠k:=fun e=>hne (by rw[e])
  simp[Array.getElem?_modify,this]
theorem qDm(n:Nat)(hn:6≤n):liesAt Tryz.prog Tryz.prog.depth 248 (n/Tryz.prog.cellsOf 248) 1 155 1=true:=by
 have e1:Tryz.prog.cellsOf 248=6:=by kernel_rfl
 have h1:liesAt Tryz.prog Tryz.prog.depth 248 1 1 155 1=true:=by kernel_rfl
 rw[e1];exact qdd om _ h1
theorem ccT(kb vb:Nat)(z0 z1 z2 z3:AV)(A B:AV)(h:List AObj)(hk:qr kb h=some (.mem vb 248 [z0,A,B,z1,z2,z3]))(hA:A= .nilp∨A= .op kb vb 1):ACalls Tryz.prog 153 [.op kb vb 1] h (.tup []) (qn kb h (.mem vb 248 [z0,.op kb vb 1,B,z1,z2,z3])):=by
 refine⟨qu7 Tryz.func153 (by kernel_rfl) (by kernel_rfl),fun w σ xs H hv=> ?_⟩;obtain⟨x,rfl,hx⟩:=hv.one;have hc:=qP hk;obtain⟨cs,o,b,arr,g1,rfl,g2,g3,g4,g5,g6,g7,g9,g8⟩:=kG H hx (by rw[hc];rfl);rw[hc]at g1;cases g1;have hobj:=H.obj kb _ o hk g2;obtain⟨_,hty,_⟩:=hobj;rw[hty]at g5;have g5b:=g5;have g5:=g5.plain (by decide);have hsz:6≤arr.size:=g7;have hc0:w.cell? ⟨b,1,none⟩=some arr[1]:=by rw[kc g5b];simp
 have hA0:=g8 1 A arr[1] rfl (by simp);have hsh:w.shape? b=some (248,arr.size):=by simp[World.shape?,g5]
 have hfz:w.frozen? ⟨b,1,none⟩=false:=by simp[World.frozen?,g5]
 have hkl:=zG hk;rcases hA with rfl|rfl
 ·rw[qeX hA0]at hc0;refine (callsIn_wide.2 (qhn b 1 248 arr.size w hc0 om hsh hfz (qDm _ hsz))).mono ?_;rintro e w' ⟨rfl,rfl⟩;have hg:w.grownBy (w.setCell ⟨b,1,none⟩ (.pointer (some ⟨b,1,none⟩))) o.blk:=by rw[g4];exact qb0 w b 1 _
  have hh:=heap_setCell_same w b 1 arr 248 (.pointer (some ⟨b,1,none⟩)) g5;obtain⟨u1,u2⟩:=H.update (o':=o) (a':= .mem vb 248 [z0,.op kb vb 1,B,z1,z2,z3]) g2 hg (nlr _) (fun _=>rfl)
   (by intro b' e;rw[g4]at e;cases e;exact⟨.inl g4,(Array.getElem?_eq_some_iff.1 hh).1⟩) (fun b' r e hr=>by rw[g4]at e;cases e;rw[g5]at hr;cases hr)
   (fun e=>⟨g3,hty,b,_,g4,by rw[hty];exact .mk hh,by simp[g6],by simp;exact hsz,fun i y hi hy=>by
    simp only[Array.getElem?_setIfInBounds]at hy;split at hy
    ·split at hy
     ·cases hy;rfl
     ·cases hy
    ·exact g9 i y (by simpa using hi) hy,fun i c y hc hy=>by
    simp only[Array.getElem?_setIfInBounds]at hy;split at hy
    ·rename_i e0;split at hy
     ·cases hy;subst e0;simp at hc;subst hc;have hko:(σ.set kb o)[kb]? =some o:=by rw[List.getElem?_set_self (by rw[H.len];exact hkl)]
      exact .op o hko ⟨_,rfl⟩ om (fun _=>⟨b,g4,rfl⟩)
     ·cases hy
    ·rename_i e0;have hne:i≠1:=fun e1=>e0 e1.symm
     have hcs: [z0,.op kb vb 1,B,z1,z2,z3]= [z0,.nilp,B,z1,z2,z3].set 1 (.op kb vb 1):=rfl;rw[hcs,List.getElem?_set_ne (fun e1=>hne e1.symm)]at hc
     exact (g8 i c y hc hy).ext e⟩)
  exact⟨_,_,rfl,u1,.imm (.tup rfl (fun i c x hc=>by simp at hc)),u2⟩
 ·obtain⟨o',q1,q2,q3⟩:=qv8 hA0;rw[g2]at q1;cases q1;obtain⟨b',q4,q5⟩:=q3 g3;rw[g4]at q4;cases q4;rw[q5]at hc0;refine (callsIn_wide.2 (qlc b 1 w hc0)).mono ?_;rintro e w' ⟨rfl,rfl⟩;rw[jK hk];exact⟨_,σ,rfl,H,.imm (.tup rfl (fun i c x hc=>by simp at hc)),Ext.refl w' σ⟩
theorem qhl{kb vb kj v m:Nat}{z0 z1 z2 z3:AV}{h:List AObj}{s:List UInt8}(lz0:qV h.length z0=true)(lz1:qV h.length z1=true)(lz2:qV h.length z2=true)(lz3:qV h.length z3=true)(hkl:kb<h.length)(hjl:kj<h.length): ∀o∈qn kj (qn kb h (.mem vb 248 [z0,.op kb vb 1,.osl kj v 1 0 m,z1,z2,z3])) (qds v s),o∈h∨lowO h.length o:=by
 intro o ho;rcases jk ho with h1|rfl
 ·rcases jk h1 with h2|rfl
  ·exact .inl h2
  ·right;intro c hc;simp only[List.mem_cons,List.not_mem_nil,or_false]at hc;rcases hc with rfl|rfl|rfl|rfl|rfl|rfl
   ·exact lz0
   ·simpa[qV] using hkl
   ·simpa[qV] using hjl
   ·exact lz1
   ·exact lz2
   ·exact lz3
 ·exact .inr (je v s _)
theorem qF4(kb vb kj v:Nat)(z0 z1 z2 z3:AV)(A:AV)(s:List UInt8)(u:UInt8)(h:List AObj)(lz0:qV h.length z0=true)(lz1:qV h.length z1=true)(lz2:qV h.length z2=true)(lz3:qV h.length z3=true)(hne:kj≠kb)(hk:qr kb h=some (.mem vb 248 [z0,A,.osl kj v 1 0 s.length,z1,z2,z3]))(hA:A= .nilp∨A= .op kb vb 1)(hj:qr kj h=some (qds v s))(hl:s.length+1≤140737488355328):
  ACalls Tryz.prog 280 [.op kb vb 1,.int .u8 u.toNat] h .nilif (qn kj (qn kb h (.mem vb 248 [z0,.op kb vb 1,.osl kj (v+1) 1 0 (s.length+1),z1,z2,z3])) (qds (v+1) (s++ [u]))):=by
 have hkl:=zG hk;have hjl:=zG hj;have hne':kb≠kj:=fun e=>hne e.symm
 have hj0:kj≠h.length:=by omega
 have hj1:kj≠h.length+1:=by omega
 have hk1: ∀l,qr kb (h++l)=some (.mem vb 248 [z0,A,.osl kj v 1 0 s.length,z1,z2,z3]):=fun l=>by rw[zz hkl,hk]
 refine acO qzD ?_;simp (disch:=omega) only[qx0,go_sem];refine qx (ccT kb vb z0 z1 z2 z3 A _ _ (hk1 _) hA) ⟨rfl,trivial⟩ ?_
 by_cases hs:s= []
 ·subst hs;rw[qcH]at hj;simp (disch:=omega) only[zC,jp,qS,qeq,qer,qeF,qeG,zR,jq,ql,qdS,hj,qY,go_sem]
  repeat' first
   |(with_reducible apply aiA)
  all_goals first
   |omega
   |(rw[bne_iff_ne];exact hj0)
   |(simp;done)
   |skip
  rw[qec hne',show AObj.mem (v+1) 5 [AV.int IntKind.u8 u.toNat]=qds (v+1) [u]from (qa6 (s:= [u]) (by simp) _).symm];exact qaq ⟨trivial,trivial⟩ (by simp only[qL]) (qhl lz0 lz1 lz2 lz3 hkl hjl) ⟨rfl,rfl⟩ (qi)
 ·rw[qa6 hs]at hj;simp (disch:=omega) only[zC,jp,qS,qeq,qer,qeF,qeG,zR,jq,ql,qaW,hj,jy,qY,go_sem]
  repeat' first
   |(with_reducible apply aiA)
  all_goals first
   |omega
   |(rw[bne_iff_ne];exact hj0)
   |(simp[jy];done)
   |skip
  rw[qec hne',ltl (by simp[jy]),show zI s++ [AV.int IntKind.u8 u.toNat]=zI (s++ [u])from (qdH s [u]).symm,←qa6 (s:=s++ [u]) (by simp)];exact qaq ⟨trivial,trivial⟩ (by simp only[qL]) (qhl lz0 lz1 lz2 lz3 hkl hjl) ⟨rfl,rfl⟩ (qi)
theorem qFN(kb vb kj v:Nat)(z0 z1 z2 z3:AV)(A:AV)(s:List UInt8)(h:List AObj)(hne:kj≠kb)(hk:qr kb h=some (.mem vb 248 [z0,A,.osl kj v 1 0 s.length,z1,z2,z3]))(hj:qr kj h=some (qds v s)):
  ACalls Tryz.prog 118 [.op kb vb 1] h (.str s) (qn kj h (.emp (v+1))):=by
 refine⟨qu7 Tryz.func118 (by kernel_rfl) (by kernel_rfl),fun w σ xs H hv=> ?_⟩;obtain⟨x,rfl,hx⟩:=hv.one;have hc:=qP hk;obtain⟨cs,o,b,arr,g1,rfl,g2,g3,g4,g5,g6,g7,g9,g8⟩:=kG H hx (by rw[hc];rfl);rw[hc]at g1;cases g1;have hty:=(H.obj kb _ o hk g2).2.1;rw[hty]at g5;have g5b:=g5;have g5:=g5.plain (by decide);have hsz:6≤arr.size:=g7;have hc1:w.cell? ⟨b,1+1,none⟩=some arr[1+1]:=by rw[kc g5b];simp
 have hB:=g8 (1+1) _ arr[1+1] rfl (by simp);obtain⟨oj,j1,j2,j3⟩:=qoT hB;have hobj:=H.obj kj _ oj hj j1;have hkj:=zG hj
 by_cases hs:s= []
 ·subst hs;rw[qcH]at hj hobj;obtain⟨m1,m2⟩:=hobj;rcases j3 m1 with⟨_,_,_,e⟩|⟨b',cap,e,_⟩
  ·rw[e]at hc1;refine (callsIn_wide.2 (qh1 b 1 w hc1)).mono ?_;rintro e w' ⟨rfl,rfl⟩;obtain⟨u1,u2⟩:=H.update (w':=w.drew) (o':= { oj with blk:=none,ver:=v+1 }) (a':= .emp (v+1)) j1 ⟨rfl,rfl,rfl,nlr _,fun _ _ _=>rfl⟩ (by simp only;omega) (by simp only;omega) (by intro b' e;cases e) (fun b' r e hr=>⟨r,hr⟩) (fun _=>⟨rfl,rfl⟩);exact⟨_,_,rfl,u1,.imm .str,u2⟩
  ·rw[m2]at e;cases e
 ·rw[qa6 hs]at hj hobj;obtain⟨m1,m2,bj,arrj,m3,m4,m5,m6,m7,m8⟩:=hobj;rcases j3 m1 with⟨e,_⟩|⟨b',cap,e1,e2,e3,e4,e5⟩
  ·rw[m3]at e;cases e
  ·rw[m3]at e1;cases e1;rw[e2]at hc1;rw[m2]at m4;have m4b:=m4;have m4:=m4.plain (by decide);rw[jy]at m6;refine (callsIn_wide.2 (qh2 b 1 bj cap s arrj w hs hc1 m4 e3 e4 om (fun j x hx=> ?_))).mono ?_
   ·have hjl:j<s.length:=(lgs.1 hx).1;rw[kc m4b];have ea:arrj[j]? =some arrj[j]:=by simp
    have:=m8 j (.int .u8 x.toNat) arrj[j] (by simp[zI,hx]) ea
    rw[ea,zD this]
   ·rintro e w' ⟨rfl,rfl⟩;have hg:w.grownBy (w.drew.freeze ⟨bj,0,none⟩ s.length) oj.blk:=by
     rw[m3];exact qcm w bj s.length
    obtain⟨u1,u2⟩:=H.update (o':= { oj with blk:=none,ver:=v+1 }) (a':= .emp (v+1)) j1 hg (by simp only;omega) (by simp only;omega) (by intro b' e;cases e)
     (fun b' r e hr=>by rw[m3]at e;cases e;rw[m4]at hr;cases hr) (fun _=>⟨rfl,rfl⟩)
    exact⟨_,_,rfl,u1,.imm .str,u2⟩
end HY
end
section
open Go Go.Proofs AF HY LN
namespace AF
def tri(h:List AObj)(a b c:Nat)(X Y Z:AObj):List AObj:=qn c (qn b (qn a h X) Y) Z
structure T3 (h:List AObj) (a b c:Nat):Prop where
 la:a<h.length
 lb:b<h.length
 lc:c<h.length
 ab:a≠b
 ac:a≠c
 bc:b≠c
section
variable {h l : List AObj} {a b c n v : Nat} {X Y Z o : AObj}
theorem T3.app(t:T3 h a b c)(l:List AObj):T3 (h++l) a b c:=by
 have:=t.la;have:=t.lb;have:=t.lc
 exact⟨by rw[lap];omega,by rw[lap];omega,by rw[lap];omega,t.ab,t.ac,t.bc⟩
theorem tri_len:(tri h a b c X Y Z).length=h.length:=by unfold tri;simp only[qL]
theorem qv3(t:T3 h a b c):tri (h++l) a b c X Y Z=tri h a b c X Y Z++l:=by
 unfold tri;rw[zC t.la,zC (by rw[qL];exact t.lb),zC (by rw[qL,qL];exact t.lc)]
theorem qaw(t:T3 h a b c):qr a (tri h a b c X Y Z++l)=some X:=by
 rw[zz (by rw[tri_len];exact t.la)];unfold tri;rw[qS t.ac,qS t.ab,jp t.la]
theorem qaP(t:T3 h a b c):qr b (tri h a b c X Y Z++l)=some Y:=by
 rw[zz (by rw[tri_len];exact t.lb)];unfold tri;rw[qS t.bc,jp (by rw[qL];exact t.lb)]
theorem qax(t:T3 h a b c):qr c (tri h a b c X Y Z++l)=some Z:=by
 rw[zz (by rw[tri_len];exact t.lc)];unfold tri;rw[jp (by rw[qL,qL];exact t.lc)]
theorem qaQ(t:T3 h a b c):qn a (tri h a b c X Y Z++l) o=tri h a b c o Y Z++l:=by
 rw[zC (by rw[tri_len];exact t.la)];unfold tri;rw[kI t.ac,kI t.ab,qai]
theorem qa2(t:T3 h a b c):qn b (tri h a b c X Y Z++l) o=tri h a b c X o Z++l:=by
 rw[zC (by rw[tri_len];exact t.lb)];unfold tri;rw[kI t.bc,qai]
theorem qa3(t:T3 h a b c):qn c (tri h a b c X Y Z++l) o=tri h a b c X Y o++l:=by
 rw[zC (by rw[tri_len];exact t.lc)];unfold tri;rw[qai]
theorem tri_go:qr (h.length+n) (tri h a b c X Y Z++l)=l[n]? :=by
 have:= @getO_app (tri h a b c X Y Z) l n
 rwa [tri_len]at this
theorem tri_go0:qr h.length (tri h a b c X Y Z++l)=l[0]? :=by
 have:= @getO_app0 (tri h a b c X Y Z) l
 rwa [tri_len]at this
theorem tri_so:qn (h.length+n) (tri h a b c X Y Z++l) o=tri h a b c X Y Z++l.set n o:=by
 have:= @setO_app (tri h a b c X Y Z) l n o
 rwa [tri_len]at this
theorem tri_so0:qn h.length (tri h a b c X Y Z++l) o=tri h a b c X Y Z++l.set 0 o:=by
 have:= @setO_app0 (tri h a b c X Y Z) l o
 rwa [tri_len]at this
theorem tri_co:cellsOf (tri h a b c X Y Z++l) (h.length+n) v=cellsOf l n v:=by unfold cellsOf;rw[tri_go];rfl
theorem tri_co0:cellsOf (tri h a b c X Y Z++l) h.length v=cellsOf l 0 v:=by unfold cellsOf;rw[tri_go0];rfl
theorem tri_to:qJ (tri h a b c X Y Z++l) (h.length+n)=qJ l n:=by unfold qJ;rw[tri_go];rfl
theorem tri_to0:qJ (tri h a b c X Y Z++l) h.length=qJ l 0:=by unfold qJ;rw[tri_go0];rfl
theorem tri_lo:qF (tri h a b c X Y Z++l) (h.length+n) v=qF l n v:=by unfold qF;rw[tri_go];rfl
theorem qbN(t:T3 h a b c):cellsOf (tri h a b c X Y Z++l) a v=qv (some X) v:=by rw[zR,qaw t]
theorem qbO(t:T3 h a b c):cellsOf (tri h a b c X Y Z++l) b v=qv (some Y) v:=by rw[zR,qaP t]
theorem qbP(t:T3 h a b c):cellsOf (tri h a b c X Y Z++l) c v=qv (some Z) v:=by rw[zR,qax t]
theorem qbQ(t:T3 h a b c):qF (tri h a b c X Y Z++l) a v=qG (some X) v:=by rw[jq,qaw t]
theorem qbR(t:T3 h a b c):qF (tri h a b c X Y Z++l) b v=qG (some Y) v:=by rw[jq,qaP t]
theorem qbS(t:T3 h a b c):qF (tri h a b c X Y Z++l) c v=qG (some Z) v:=by rw[jq,qax t]
theorem qv5(t:T3 h a b c){X' Y' Z':AObj}:tri (tri h a b c X Y Z) a b c X' Y' Z'=tri h a b c X' Y' Z':=by
 have e1:=qaQ (X:=X) (Y:=Y) (Z:=Z) (l:= []) (o:=X') t;have e2:=qa2 (X:=X') (Y:=Y) (Z:=Z) (l:= []) (o:=Y') t;have e3:=qa3 (X:=X') (Y:=Y') (Z:=Z) (l:= []) (o:=Z') t;simp only[lan]at e1 e2 e3
 conv=>lhs;unfold tri
 rw[show qn c (qn b (qn a h X) Y) Z=tri h a b c X Y Z from rfl,e1,e2,e3]
theorem jM(t:T3 h a b c){X' Y' Z':AObj}(hx:lowO h.length X')(hy:lowO h.length Y')(hz:lowO h.length Z'): ∀o∈tri h a b c X' Y' Z',o∈tri h a b c X Y Z∨lowO (tri h a b c X Y Z).length o:=by
 intro o ho;rw[tri_len];rw[←qv5 (X:=X) (Y:=Y) (Z:=Z) t]at ho;unfold tri at ho;rcases jk ho with h1|rfl
 ·rcases jk h1 with h1|rfl
  ·rcases jk h1 with h1|rfl
   ·exact .inl h1
   ·exact .inr hx
  ·exact .inr hy
 ·exact .inr hz
end
attribute [go_sem] tri_len tri_go tri_go0 tri_so tri_so0 tri_co tri_co0 tri_to tri_to0 tri_lo
theorem ACalls.wk{P:Program}{f:FuncId}{args:List AV}{h h' h'':List AObj}{r:AV}(hc:ACalls P f args h r h')(hw:Wk [] h' [] h''):ACalls P f args h r h'':=by
 refine⟨hc.1,fun w σ xs H hv=>(hc.2 w σ xs H hv).mono ?_⟩;rintro e w' ⟨v,σ',rfl,g1,g2,g3⟩;obtain⟨σ2,s1,s2⟩:=hw w'.heap.size w' σ' { tmps:= #[],defers:= [] } ⟨g1,rfl,fun i c x hc=>(by simp at hc),⟨[],rfl,.nil,nlr _,fun r hr=>(by cases hr)⟩⟩;exact⟨v,σ2,rfl,s1.hr,g2.ext s2,g3.trans s2⟩
end AF
namespace RC
def ji(L:List Tk):List AV:=L.flatMap tkC
theorem qg2(t:Tk):(tkC t).length=6:=rfl
theorem jL(L:List Tk):(ji L).length=L.length*6:=by
 unfold ji
 induction L with
 |nil=>rfl
 |cons a L ih=>rw[List.flatMap_cons,lap,ih,lco,qg2];omega
theorem qeP(A B:List Tk):ji (A++B)=ji A++ji B:=by simp[ji]
theorem qh4(a:Tk):ji [a]=tkC a:=by simp[ji]
theorem qok(L:List Tk): ∀i,(ji L).take (i*6)=ji (L.take i):=by
 induction L with
 |nil=>intro i;simp[ji]
 |cons a L ih=>
  intro i;cases i with
  |zero=>simp[ji]
  |succ i=>
   rw[show ji (a::L)=tkC a++ji L from rfl,show (a::L).take (i+1)=a::L.take i from rfl,show ji (a::L.take i)=tkC a++ji (L.take i)from rfl,←ih i];rw[show (i+1)*6=(tkC a).length+i*6 by rw[qg2];omega,List.take_append,ltl om,Nat.add_sub_cancel_left]
theorem qf1(L:List Tk): ∀i,(ji L).drop (i*6)=ji (L.drop i):=by
 induction L with
 |nil=>intro i;simp[ji]
 |cons a L ih=>
  intro i;cases i with
  |zero=>simp
  |succ i=>
   rw[show ji (a::L)=tkC a++ji L from rfl,show (a::L).drop (i+1)=L.drop i from rfl,←ih i];rw[show (i+1)*6=(tkC a).length+i*6 by rw[qg2];omega,List.drop_append,List.drop_eq_nil_of_le om,lna,Nat.add_sub_cancel_left]
theorem qbM{L:List Tk}{i:Nat}(hi:i<L.length):((ji L).drop (i*6)).take 6=tkC (L.getD i default):=by
 rw[qf1,List.drop_eq_getElem_cons hi,gdqA,zL hi];rfl
theorem qh5{L:List Tk}{i:Nat}(e:Tk)(hi:i<L.length):(ji L).take (i*6)++(tkC e++(ji L).drop (i*6+6))=ji (L.set i e):=by
 rw[List.set_eq_take_append_cons_drop,ipo hi,show i*6+6=(i+1)*6 by omega,qok,qf1,qeP];rw[show e::List.drop (i+1) L= [e]++List.drop (i+1) L from rfl,qeP,qh4]
theorem qeQ{L:List Tk}{i k:Nat}(hi:i<L.length)(hk:k<6):(ji L)[i*6+k]? =(tkC (L.getD i default))[k]? :=by
 rw[←qbM hi,List.getElem?_take,ipo hk,List.getElem?_drop]
theorem kr(L:List Tk)(n:Nat): ∀c∈ji L,qV n c=true:=by
 intro c hc;unfold ji at hc;obtain⟨x,_,hx⟩:=List.mem_flatMap.1 hc;unfold tkC at hx;simp only[List.mem_cons,List.not_mem_nil,or_false]at hx;rcases hx with rfl|rfl|rfl|rfl|rfl|rfl<;>rfl
structure Br where
 out:List Tk
 word:Str
 opn:Bool
 jn:Bool
 vo:Nat
 vw:Nat
 ad:Bool
def brX(a b c va:Nat)(q:Br):AObj:= .mem va 248 [.osl b q.vo 6 0 q.out.length,if q.ad=true then .op a va 1 else .nilp,.osl c q.vw 1 0 q.word.length,.bool q.opn,.bool q.jn,.bool false]
def brY(q:Br):AObj:=zk q.vo 103 (ji q.out)
def brO(h:List AObj)(a b c va:Nat)(q:Br):List AObj:=tri h a b c (brX a b c va q) (brY q) (qds q.vw q.word)
def qbg(L:List Tk)(w:Str):List Tk:=L.set (L.length-1) ⟨w,(L.getD (L.length-1) default).norm,(L.getD (L.length-1) default).page,(L.getD (L.length-1) default).line,(L.getD (L.length-1) default).flags,(L.getD (L.length-1) default).name⟩
def Br.nd(q:Br):Br:=if q.opn=true then ⟨qbg q.out q.word,[],false,q.jn,q.vo,q.vw+1,false⟩ else ⟨q.out,[],false,q.jn,q.vo,q.vw,false⟩
def Br.st(q:Br)(f:Int):Br:=⟨q.out++ [tkF (f+jfl q.jn q.out.length) []],q.word,q.opn,true,q.vo+1,q.vw,q.ad⟩
def Br.wb(q:Br)(c:UInt8):Br:=⟨q.out,q.word++ [c],q.opn,q.jn,q.vo,q.vw+1,true⟩
def Br.op(q:Br):Br:=⟨q.out,q.word,true,q.jn,q.vo,q.vw,q.ad⟩
def Br.sp(q:Br):Br:=⟨q.out,q.word,q.opn,false,q.vo,q.vw,q.ad⟩
def Br.tx(q:Br)(w:Str):Br:=⟨qbg q.out w,q.word,q.opn,q.jn,q.vo,q.vw,q.ad⟩
def Br.pt(q:Br)(c:UInt8):Br:=if q.opn=true∧qaV c=true then q.wb c else if bgn c=true then ((q.st 0).op).wb c else if kind c=6 then q.nd.sp else (q.nd.st 8).tx [c]
theorem jP{h:List AObj}{a b c:Nat}(t:T3 h a b c)(va:Nat)(q:Br):lowO h.length (brX a b c va q):=by
 intro x hx
 have:=t.la;have:=t.lb;have:=t.lc
 simp only[List.mem_cons,List.not_mem_nil,or_false]at hx;rcases hx with rfl|rfl|rfl|rfl|rfl|rfl
 ·simp[qV];assumption
 ·split
  ·simp[qV];assumption
  ·rfl
 ·simp[qV];assumption
 ·rfl
 ·rfl
 ·rfl
theorem qal(q:Br)(n:Nat):lowO n (brY q):=jt (kr q.out n)
theorem qed{h:List AObj}{a b c va:Nat}{q:Br}:(brO h a b c va q).length=h.length:=tri_len
end RC
end
section
open Go Go.Proofs AF HY LN
namespace AF
theorem qdk{v:Nat}{ty:TypeId}{cs:List AV}:qjY (some (zk v ty cs)) ty=true:=by
 unfold zk;split<;>simp[qjY]
end AF
namespace RC
section
variable {h : List AObj} {a b c va : Nat}
theorem qdG{q:Br}(hn:0<q.out.length):brY q= .mem q.vo 103 (ji q.out):=by
 unfold brY zk;rw[ine];intro e
 have:=congrArg List.length e
 rw[jL,lnl]at this;omega
theorem qtk(t:T3 h a b c)(q:Br)(hn:0<q.out.length)(hm:q.out.length≤1000000):ACalls Tryz.prog 256 [.op a va 0] (brO h a b c va q) (.op b q.vo ((q.out.length-1)*6)) (brO h a b c va q):=by
 have ta:=t.la;have tb:=t.lb;have tc:=t.lc;have zga: ∀ {X Y Z l},qr (a) (tri h a b c X Y Z++l)=some X:=qaw (t);have yga: ∀ {X Y Z},qr (a) (tri h a b c X Y Z)=some X:=fun {X Y Z}=>by have:=zga (X:=X) (Y:=Y) (Z:=Z) (l:= []);simpa only[lan] using this
 have zgb: ∀ {X Y Z l},qr (b) (tri h a b c X Y Z++l)=some Y:=qaP (t);have ygb: ∀ {X Y Z},qr (b) (tri h a b c X Y Z)=some Y:=fun {X Y Z}=>by have:=zgb (X:=X) (Y:=Y) (Z:=Z) (l:= []);simpa only[lan] using this
 have zgc: ∀ {X Y Z l},qr (c) (tri h a b c X Y Z++l)=some Z:=qax (t);have ygc: ∀ {X Y Z},qr (c) (tri h a b c X Y Z)=some Z:=fun {X Y Z}=>by have:=zgc (X:=X) (Y:=Y) (Z:=Z) (l:= []);simpa only[lan] using this
 have zsa: ∀ {X Y Z o l},qn (a) (tri h a b c X Y Z++l) o=tri h a b c o Y Z++l:=qaQ (t);have ysa: ∀ {X Y Z o},qn (a) (tri h a b c X Y Z) o=tri h a b c o Y Z:=fun {X Y Z o}=>by have:=zsa (X:=X) (Y:=Y) (Z:=Z) (o:=o) (l:= []);simpa only[lan] using this
 have zsb: ∀ {X Y Z o l},qn (b) (tri h a b c X Y Z++l) o=tri h a b c X o Z++l:=qa2 (t);have ysb: ∀ {X Y Z o},qn (b) (tri h a b c X Y Z) o=tri h a b c X o Z:=fun {X Y Z o}=>by have:=zsb (X:=X) (Y:=Y) (Z:=Z) (o:=o) (l:= []);simpa only[lan] using this
 have zsc: ∀ {X Y Z o l},qn (c) (tri h a b c X Y Z++l) o=tri h a b c X Y o++l:=qa3 (t);have ysc: ∀ {X Y Z o},qn (c) (tri h a b c X Y Z) o=tri h a b c X Y o:=fun {X Y Z o}=>by have:=zsc (X:=X) (Y:=Y) (Z:=Z) (o:=o) (l:= []);simpa only[lan] using this
 have zca: ∀ {X Y Z v l},cellsOf (tri h a b c X Y Z++l) (a) v=qv (some X) v:=qbN (t);have yca: ∀ {X Y Z v},cellsOf (tri h a b c X Y Z) (a) v=qv (some X) v:=fun {X Y Z v}=>by have:=zca (X:=X) (Y:=Y) (Z:=Z) (v:=v) (l:= []);simpa only[lan] using this
 have zcb: ∀ {X Y Z v l},cellsOf (tri h a b c X Y Z++l) (b) v=qv (some Y) v:=qbO (t);have ycb: ∀ {X Y Z v},cellsOf (tri h a b c X Y Z) (b) v=qv (some Y) v:=fun {X Y Z v}=>by have:=zcb (X:=X) (Y:=Y) (Z:=Z) (v:=v) (l:= []);simpa only[lan] using this
 have zcc: ∀ {X Y Z v l},cellsOf (tri h a b c X Y Z++l) (c) v=qv (some Z) v:=qbP (t);have ycc: ∀ {X Y Z v},cellsOf (tri h a b c X Y Z) (c) v=qv (some Z) v:=fun {X Y Z v}=>by have:=zcc (X:=X) (Y:=Y) (Z:=Z) (v:=v) (l:= []);simpa only[lan] using this
 have zla: ∀ {X Y Z v l},qF (tri h a b c X Y Z++l) (a) v=qG (some X) v:=qbQ (t);have yla: ∀ {X Y Z v},qF (tri h a b c X Y Z) (a) v=qG (some X) v:=fun {X Y Z v}=>by have:=zla (X:=X) (Y:=Y) (Z:=Z) (v:=v) (l:= []);simpa only[lan] using this
 have zlb: ∀ {X Y Z v l},qF (tri h a b c X Y Z++l) (b) v=qG (some Y) v:=qbR (t);have ylb: ∀ {X Y Z v},qF (tri h a b c X Y Z) (b) v=qG (some Y) v:=fun {X Y Z v}=>by have:=zlb (X:=X) (Y:=Y) (Z:=Z) (v:=v) (l:= []);simpa only[lan] using this
 have zlc: ∀ {X Y Z v l},qF (tri h a b c X Y Z++l) (c) v=qG (some Z) v:=qbS (t);have ylc: ∀ {X Y Z v},qF (tri h a b c X Y Z) (c) v=qG (some Z) v:=fun {X Y Z v}=>by have:=zlc (X:=X) (Y:=Y) (Z:=Z) (v:=v) (l:= []);simpa only[lan] using this
 have e1:((q.out.length:Int)-1).toNat=q.out.length-1:=by omega
 have k1:(0≤(q.out.length:Int)-1)=True:=eqt om;have k2:((q.out.length:Int)-1<q.out.length)=True:=eqt om;unfold brO;rw[qdG hn];unfold brX;refine acO qzx ?_;simp (disch:=omega) only[qxU,yca,ycb,ylb,ql,qaW,e1,k1,k2,go_sem]
 repeat' first
  |(apply qd;exact rvk;simp only[go_sem])
 rw[ine om];exact qi
theorem Wk.triNil{t:List AV}{X Z:AObj}{Y:AObj}{v i ve sz:Nat}{ty:TypeId}{cs:List AV}(T:T3 h a b c)(hX:X= .mem v ty cs)(hi:cs[i]? =some .nl)(hZ:Z= .emp ve):
  Wk t (tri h a b c X Y Z) t (tri h a b c (.mem v ty (cs.set i (.osl c ve sz 0 0))) Y Z):=by
 subst hX;subst hZ;have e:=qaQ (X:= .mem v ty cs) (Y:=Y) (Z:= .emp ve) (l:= []) (o:= .mem v ty (cs.set i (.osl c ve sz 0 0))) T;simp only[lan]at e;rw[←e];refine Wk.ownNil (j:=a) (k:=c) ?_ hi ?_
 ·have:=qaw (X:= .mem v ty cs) (Y:=Y) (Z:= .emp ve) (l:= []) T
  simpa only[lan] using this
 ·have:=qax (X:= .mem v ty cs) (Y:=Y) (Z:= .emp ve) (l:= []) T
  simpa only[lan] using this
theorem qwX(t:T3 h a b c)(X0 X1 X2 X3 X4 X5:AV)(Y:AObj)(v:Nat)(l0:qV h.length X0=true)(l3:qV h.length X3=true)(l4:qV h.length X4=true)(l5:qV h.length X5=true)(ly:lowO h.length Y):
  ACalls Tryz.prog 257 [.op a va 1] (tri h a b c (.mem va 248 [X0,X1,X2,X3,X4,X5]) Y (.emp v)) (.tup []) (tri h a b c (.mem va 248 [X0,.nilp,.osl c v 1 0 0,X3,X4,X5]) Y (.emp v)):=by
 have ta:=t.la;have tb:=t.lb;have tc:=t.lc;refine ACalls.wk (h':=tri h a b c (.mem va 248 [X0,.nilp,.nl,X3,X4,X5]) Y (.emp v)) ?_ (Wk.triNil (v:=va) (ty:=248) (cs:= [X0,.nilp,.nl,X3,X4,X5]) (i:=2) (sz:=1) t rfl rfl rfl);have zga: ∀ {X Y Z l},qr (a) (tri h a b c X Y Z++l)=some X:=qaw (t);have yga: ∀ {X Y Z},qr (a) (tri h a b c X Y Z)=some X:=fun {X Y Z}=>by have:=zga (X:=X) (Y:=Y) (Z:=Z) (l:= []);simpa only[lan] using this
 have zgb: ∀ {X Y Z l},qr (b) (tri h a b c X Y Z++l)=some Y:=qaP (t);have ygb: ∀ {X Y Z},qr (b) (tri h a b c X Y Z)=some Y:=fun {X Y Z}=>by have:=zgb (X:=X) (Y:=Y) (Z:=Z) (l:= []);simpa only[lan] using this
 have zgc: ∀ {X Y Z l},qr (c) (tri h a b c X Y Z++l)=some Z:=qax (t);have ygc: ∀ {X Y Z},qr (c) (tri h a b c X Y Z)=some Z:=fun {X Y Z}=>by have:=zgc (X:=X) (Y:=Y) (Z:=Z) (l:= []);simpa only[lan] using this
 have zsa: ∀ {X Y Z o l},qn (a) (tri h a b c X Y Z++l) o=tri h a b c o Y Z++l:=qaQ (t);have ysa: ∀ {X Y Z o},qn (a) (tri h a b c X Y Z) o=tri h a b c o Y Z:=fun {X Y Z o}=>by have:=zsa (X:=X) (Y:=Y) (Z:=Z) (o:=o) (l:= []);simpa only[lan] using this
 have zsb: ∀ {X Y Z o l},qn (b) (tri h a b c X Y Z++l) o=tri h a b c X o Z++l:=qa2 (t);have ysb: ∀ {X Y Z o},qn (b) (tri h a b c X Y Z) o=tri h a b c X o Z:=fun {X Y Z o}=>by have:=zsb (X:=X) (Y:=Y) (Z:=Z) (o:=o) (l:= []);simpa only[lan] using this
 have zsc: ∀ {X Y Z o l},qn (c) (tri h a b c X Y Z++l) o=tri h a b c X Y o++l:=qa3 (t);have ysc: ∀ {X Y Z o},qn (c) (tri h a b c X Y Z) o=tri h a b c X Y o:=fun {X Y Z o}=>by have:=zsc (X:=X) (Y:=Y) (Z:=Z) (o:=o) (l:= []);simpa only[lan] using this
 have zca: ∀ {X Y Z v l},cellsOf (tri h a b c X Y Z++l) (a) v=qv (some X) v:=qbN (t);have yca: ∀ {X Y Z v},cellsOf (tri h a b c X Y Z) (a) v=qv (some X) v:=fun {X Y Z v}=>by have:=zca (X:=X) (Y:=Y) (Z:=Z) (v:=v) (l:= []);simpa only[lan] using this
 have zcb: ∀ {X Y Z v l},cellsOf (tri h a b c X Y Z++l) (b) v=qv (some Y) v:=qbO (t);have ycb: ∀ {X Y Z v},cellsOf (tri h a b c X Y Z) (b) v=qv (some Y) v:=fun {X Y Z v}=>by have:=zcb (X:=X) (Y:=Y) (Z:=Z) (v:=v) (l:= []);simpa only[lan] using this
 have zcc: ∀ {X Y Z v l},cellsOf (tri h a b c X Y Z++l) (c) v=qv (some Z) v:=qbP (t);have ycc: ∀ {X Y Z v},cellsOf (tri h a b c X Y Z) (c) v=qv (some Z) v:=fun {X Y Z v}=>by have:=zcc (X:=X) (Y:=Y) (Z:=Z) (v:=v) (l:= []);simpa only[lan] using this
 have zla: ∀ {X Y Z v l},qF (tri h a b c X Y Z++l) (a) v=qG (some X) v:=qbQ (t);have yla: ∀ {X Y Z v},qF (tri h a b c X Y Z) (a) v=qG (some X) v:=fun {X Y Z v}=>by have:=zla (X:=X) (Y:=Y) (Z:=Z) (v:=v) (l:= []);simpa only[lan] using this
 have zlb: ∀ {X Y Z v l},qF (tri h a b c X Y Z++l) (b) v=qG (some Y) v:=qbR (t);have ylb: ∀ {X Y Z v},qF (tri h a b c X Y Z) (b) v=qG (some Y) v:=fun {X Y Z v}=>by have:=zlb (X:=X) (Y:=Y) (Z:=Z) (v:=v) (l:= []);simpa only[lan] using this
 have zlc: ∀ {X Y Z v l},qF (tri h a b c X Y Z++l) (c) v=qG (some Z) v:=qbS (t);have ylc: ∀ {X Y Z v},qF (tri h a b c X Y Z) (c) v=qG (some Z) v:=fun {X Y Z v}=>by have:=zlc (X:=X) (Y:=Y) (Z:=Z) (v:=v) (l:= []);simpa only[lan] using this
 refine acO qzy ?_;simp (disch:=omega) only[qxV,yga,ysa,yca,ql,go_sem];refine jC trivial (by simp only[tri_len]) (jM t (fun x hx=> ?_) ly trivial) ⟨rfl,rfl⟩ (qi);simp only[List.mem_cons,List.not_mem_nil,or_false]at hx;rcases hx with rfl|rfl|rfl|rfl|rfl|rfl
 ·exact l0
 ·rfl
 ·rfl
 ·exact l3
 ·exact l4
 ·exact l5
theorem qol{L:List Tk}(w:Str)(hn:0<L.length):(ji L).take ((L.length-1)*6)++([AV.str w]++(ji L).drop ((L.length-1)*6+1))=ji (qbg L w):=by
 unfold qbg;rw[←qh5 _ om];refine congrArg _ ?_;have e:(ji L).drop ((L.length-1)*6+1)=(tkC (L.getD (L.length-1) default)).drop 1++(ji L).drop ((L.length-1)*6+6):=by
  rw[←qbM (L:=L) (i:=L.length-1) om];have e2:(ji L).drop ((L.length-1)*6)=((ji L).drop ((L.length-1)*6)).take 6++((ji L).drop ((L.length-1)*6)).drop 6:=(List.take_append_drop _ _).symm;have hl:=jL L;have hl2:((ji L).drop ((L.length-1)*6)).length=L.length*6-(L.length-1)*6:=by rw[List.length_drop,hl]
  rw[←List.drop_drop,←List.drop_drop (i:=6),←List.drop_append_of_le_length (by rw[List.length_take];omega),List.take_append_drop]
 rw[e];rfl
theorem qaN(L:List Tk)(w:Str):(qbg L w).length=L.length:=by unfold qbg;rw[List.length_set]
theorem qtj(t:T3 h a b c)(q:Br)(ho:q.opn=true→0<q.out.length)(hw:q.opn=false→q.word= [])(hm:q.out.length≤1000000)(hl:q.word.length≤1000000):ACalls Tryz.prog 223 [.op a va 0] (brO h a b c va q) (.tup []) (brO h a b c va q.nd):=by
 have ta:=t.la;have tb:=t.lb;have tc:=t.lc;have zga: ∀ {X Y Z l},qr (a) (tri h a b c X Y Z++l)=some X:=qaw (t);have yga: ∀ {X Y Z},qr (a) (tri h a b c X Y Z)=some X:=fun {X Y Z}=>by have:=zga (X:=X) (Y:=Y) (Z:=Z) (l:= []);simpa only[lan] using this
 have zgb: ∀ {X Y Z l},qr (b) (tri h a b c X Y Z++l)=some Y:=qaP (t);have ygb: ∀ {X Y Z},qr (b) (tri h a b c X Y Z)=some Y:=fun {X Y Z}=>by have:=zgb (X:=X) (Y:=Y) (Z:=Z) (l:= []);simpa only[lan] using this
 have zgc: ∀ {X Y Z l},qr (c) (tri h a b c X Y Z++l)=some Z:=qax (t);have ygc: ∀ {X Y Z},qr (c) (tri h a b c X Y Z)=some Z:=fun {X Y Z}=>by have:=zgc (X:=X) (Y:=Y) (Z:=Z) (l:= []);simpa only[lan] using this
 have zsa: ∀ {X Y Z o l},qn (a) (tri h a b c X Y Z++l) o=tri h a b c o Y Z++l:=qaQ (t);have ysa: ∀ {X Y Z o},qn (a) (tri h a b c X Y Z) o=tri h a b c o Y Z:=fun {X Y Z o}=>by have:=zsa (X:=X) (Y:=Y) (Z:=Z) (o:=o) (l:= []);simpa only[lan] using this
 have zsb: ∀ {X Y Z o l},qn (b) (tri h a b c X Y Z++l) o=tri h a b c X o Z++l:=qa2 (t);have ysb: ∀ {X Y Z o},qn (b) (tri h a b c X Y Z) o=tri h a b c X o Z:=fun {X Y Z o}=>by have:=zsb (X:=X) (Y:=Y) (Z:=Z) (o:=o) (l:= []);simpa only[lan] using this
 have zsc: ∀ {X Y Z o l},qn (c) (tri h a b c X Y Z++l) o=tri h a b c X Y o++l:=qa3 (t);have ysc: ∀ {X Y Z o},qn (c) (tri h a b c X Y Z) o=tri h a b c X Y o:=fun {X Y Z o}=>by have:=zsc (X:=X) (Y:=Y) (Z:=Z) (o:=o) (l:= []);simpa only[lan] using this
 have zca: ∀ {X Y Z v l},cellsOf (tri h a b c X Y Z++l) (a) v=qv (some X) v:=qbN (t);have yca: ∀ {X Y Z v},cellsOf (tri h a b c X Y Z) (a) v=qv (some X) v:=fun {X Y Z v}=>by have:=zca (X:=X) (Y:=Y) (Z:=Z) (v:=v) (l:= []);simpa only[lan] using this
 have zcb: ∀ {X Y Z v l},cellsOf (tri h a b c X Y Z++l) (b) v=qv (some Y) v:=qbO (t);have ycb: ∀ {X Y Z v},cellsOf (tri h a b c X Y Z) (b) v=qv (some Y) v:=fun {X Y Z v}=>by have:=zcb (X:=X) (Y:=Y) (Z:=Z) (v:=v) (l:= []);simpa only[lan] using this
 have zcc: ∀ {X Y Z v l},cellsOf (tri h a b c X Y Z++l) (c) v=qv (some Z) v:=qbP (t);have ycc: ∀ {X Y Z v},cellsOf (tri h a b c X Y Z) (c) v=qv (some Z) v:=fun {X Y Z v}=>by have:=zcc (X:=X) (Y:=Y) (Z:=Z) (v:=v) (l:= []);simpa only[lan] using this
 have zla: ∀ {X Y Z v l},qF (tri h a b c X Y Z++l) (a) v=qG (some X) v:=qbQ (t);have yla: ∀ {X Y Z v},qF (tri h a b c X Y Z) (a) v=qG (some X) v:=fun {X Y Z v}=>by have:=zla (X:=X) (Y:=Y) (Z:=Z) (v:=v) (l:= []);simpa only[lan] using this
 have zlb: ∀ {X Y Z v l},qF (tri h a b c X Y Z++l) (b) v=qG (some Y) v:=qbR (t);have ylb: ∀ {X Y Z v},qF (tri h a b c X Y Z) (b) v=qG (some Y) v:=fun {X Y Z v}=>by have:=zlb (X:=X) (Y:=Y) (Z:=Z) (v:=v) (l:= []);simpa only[lan] using this
 have zlc: ∀ {X Y Z v l},qF (tri h a b c X Y Z++l) (c) v=qG (some Z) v:=qbS (t);have ylc: ∀ {X Y Z v},qF (tri h a b c X Y Z) (c) v=qG (some Z) v:=fun {X Y Z v}=>by have:=zlc (X:=X) (Y:=Y) (Z:=Z) (v:=v) (l:= []);simpa only[lan] using this
 cases hq:q.opn with
 |false=>
  have e1:q.nd=⟨q.out,[],false,q.jn,q.vo,q.vw,false⟩:=by unfold Br.nd;rw[hq];rfl
  rw[e1];have c1:=qwX (va:=va) t (.osl b q.vo 6 0 q.out.length) (if q.ad=true then .op a va 1 else .nilp) (.osl c q.vw 1 0 q.word.length) (.bool false) (.bool q.jn) (.bool false) (brY q) q.vw (by simp[qV];omega) rfl rfl rfl (qal q _);have hz:qds q.vw q.word= .emp q.vw:=by rw[hw hq];rfl
  unfold brO brX;rw[hz,hq];refine acO qsv ?_;simp (disch:=omega) only[qtw,yga,ysa,yca,ql,go_sem];refine qx c1 (by exact flk) ?_;simp (disch:=omega) only[go_sem];exact jC trivial (by simp only[tri_len]) (jM t (jP t va ⟨q.out,[],false,q.jn,q.vo,q.vw,false⟩) (qal q _) trivial) ⟨rfl,rfl⟩ (qi)
 |true=>
  have e1:q.nd=⟨qbg q.out q.word,[],false,q.jn,q.vo,q.vw+1,false⟩:=by unfold Br.nd;rw[hq];rfl
  rw[e1];have c1:=qtk (va:=va) t q (ho hq) hm;have hn:=ho hq;unfold brO at c1 ⊢;rw[qdG hn]at c1 ⊢;rw[qdG (q:=⟨qbg q.out q.word,[],false,q.jn,q.vo,q.vw+1,false⟩) (by simp only[qaN];exact hn)];unfold brX at c1 ⊢;rw[hq]at c1 ⊢;refine acO qsv ?_;simp (disch:=omega) only[qtw,yga,ysa,yca,ql,go_sem]
  repeat' first
   |(refine cA (c1) flk ?_;simp (disch:=omega) only[yca,ql,go_sem])
  refine qx (qFN a va c q.vw (.osl b q.vo 6 0 q.out.length) (.bool true) (.bool q.jn) (.bool false) (if q.ad=true then .op a va 1 else .nilp) q.word _ (fun e=>t.ac e.symm) yga ygc) (by exact flk) ?_;have hL:=jL q.out;have k3:((q.out.length-1)*6+1≤q.out.length*6)=True:=eqt om;have hX:=qol (L:=q.out) q.word hn;have c2:=qwX (va:=va) t (.osl b q.vo 6 0 q.out.length) (if q.ad=true then .op a va 1 else .nilp) (.osl c q.vw 1 0 q.word.length) (.bool false) (.bool q.jn) (.bool false) (.mem q.vo 103 (ji (qbg q.out q.word))) (q.vw+1) (by simp[qV];omega) rfl rfl rfl (kr _ _);simp (disch:=omega) only[yga,ygb,ysa,ysb,ysc,yca,ycb,ql,hL,k3,go_sem];rw[List.append_assoc,hX];refine qx c2 (by exact flk) ?_;simp (disch:=omega) only[go_sem];have eL:=qaN q.out q.word;simp only[eL];exact jC trivial (by simp only[tri_len]) (jM t (by have:=jP t va ⟨q.out,[],false,q.jn,q.vo,q.vw+1,false⟩;exact this) (kr _ _) trivial) ⟨rfl,rfl⟩ (qi)
end
end RC
end
section
open Go Go.Proofs AF HY LN
namespace RC
section
variable {h : List AObj} {a b c va : Nat}
theorem qwY(t:T3 h a b c)(q:Br)(f:Int)(x:UInt8)(hf:f=0∨f=8)(hm:q.out.length≤1000000):ACalls Tryz.prog 255 [.op a va 0,.agg (atC 1 x),.int .i64 f] (brO h a b c va q) (.tup []) (brO h a b c va (q.st f)):=by
 have ta:=t.la;have tb:=t.lb;have tc:=t.lc;have zga: ∀ {X Y Z l},qr (a) (tri h a b c X Y Z++l)=some X:=qaw (t);have yga: ∀ {X Y Z},qr (a) (tri h a b c X Y Z)=some X:=fun {X Y Z}=>by have:=zga (X:=X) (Y:=Y) (Z:=Z) (l:= []);simpa only[lan] using this
 have zgb: ∀ {X Y Z l},qr (b) (tri h a b c X Y Z++l)=some Y:=qaP (t);have ygb: ∀ {X Y Z},qr (b) (tri h a b c X Y Z)=some Y:=fun {X Y Z}=>by have:=zgb (X:=X) (Y:=Y) (Z:=Z) (l:= []);simpa only[lan] using this
 have zgc: ∀ {X Y Z l},qr (c) (tri h a b c X Y Z++l)=some Z:=qax (t);have ygc: ∀ {X Y Z},qr (c) (tri h a b c X Y Z)=some Z:=fun {X Y Z}=>by have:=zgc (X:=X) (Y:=Y) (Z:=Z) (l:= []);simpa only[lan] using this
 have zsa: ∀ {X Y Z o l},qn (a) (tri h a b c X Y Z++l) o=tri h a b c o Y Z++l:=qaQ (t);have ysa: ∀ {X Y Z o},qn (a) (tri h a b c X Y Z) o=tri h a b c o Y Z:=fun {X Y Z o}=>by have:=zsa (X:=X) (Y:=Y) (Z:=Z) (o:=o) (l:= []);simpa only[lan] using this
 have zsb: ∀ {X Y Z o l},qn (b) (tri h a b c X Y Z++l) o=tri h a b c X o Z++l:=qa2 (t);have ysb: ∀ {X Y Z o},qn (b) (tri h a b c X Y Z) o=tri h a b c X o Z:=fun {X Y Z o}=>by have:=zsb (X:=X) (Y:=Y) (Z:=Z) (o:=o) (l:= []);simpa only[lan] using this
 have zsc: ∀ {X Y Z o l},qn (c) (tri h a b c X Y Z++l) o=tri h a b c X Y o++l:=qa3 (t);have ysc: ∀ {X Y Z o},qn (c) (tri h a b c X Y Z) o=tri h a b c X Y o:=fun {X Y Z o}=>by have:=zsc (X:=X) (Y:=Y) (Z:=Z) (o:=o) (l:= []);simpa only[lan] using this
 have zca: ∀ {X Y Z v l},cellsOf (tri h a b c X Y Z++l) (a) v=qv (some X) v:=qbN (t);have yca: ∀ {X Y Z v},cellsOf (tri h a b c X Y Z) (a) v=qv (some X) v:=fun {X Y Z v}=>by have:=zca (X:=X) (Y:=Y) (Z:=Z) (v:=v) (l:= []);simpa only[lan] using this
 have zcb: ∀ {X Y Z v l},cellsOf (tri h a b c X Y Z++l) (b) v=qv (some Y) v:=qbO (t);have ycb: ∀ {X Y Z v},cellsOf (tri h a b c X Y Z) (b) v=qv (some Y) v:=fun {X Y Z v}=>by have:=zcb (X:=X) (Y:=Y) (Z:=Z) (v:=v) (l:= []);simpa only[lan] using this
 have zcc: ∀ {X Y Z v l},cellsOf (tri h a b c X Y Z++l) (c) v=qv (some Z) v:=qbP (t);have ycc: ∀ {X Y Z v},cellsOf (tri h a b c X Y Z) (c) v=qv (some Z) v:=fun {X Y Z v}=>by have:=zcc (X:=X) (Y:=Y) (Z:=Z) (v:=v) (l:= []);simpa only[lan] using this
 have zla: ∀ {X Y Z v l},qF (tri h a b c X Y Z++l) (a) v=qG (some X) v:=qbQ (t);have yla: ∀ {X Y Z v},qF (tri h a b c X Y Z) (a) v=qG (some X) v:=fun {X Y Z v}=>by have:=zla (X:=X) (Y:=Y) (Z:=Z) (v:=v) (l:= []);simpa only[lan] using this
 have zlb: ∀ {X Y Z v l},qF (tri h a b c X Y Z++l) (b) v=qG (some Y) v:=qbR (t);have ylb: ∀ {X Y Z v},qF (tri h a b c X Y Z) (b) v=qG (some Y) v:=fun {X Y Z v}=>by have:=zlb (X:=X) (Y:=Y) (Z:=Z) (v:=v) (l:= []);simpa only[lan] using this
 have zlc: ∀ {X Y Z v l},qF (tri h a b c X Y Z++l) (c) v=qG (some Z) v:=qbS (t);have ylc: ∀ {X Y Z v},qF (tri h a b c X Y Z) (c) v=qG (some Z) v:=fun {X Y Z v}=>by have:=zlc (X:=X) (Y:=Y) (Z:=Z) (v:=v) (l:= []);simpa only[lan] using this
 have hL:=jL q.out;obtain⟨g,hg⟩: ∃g,g=f+jfl q.jn q.out.length:=⟨_,rfl⟩
 have e1:q.st f=⟨q.out++ [tkF g []],q.word,q.opn,true,q.vo+1,q.vw,q.ad⟩:=by unfold Br.st;rw[hg]
 rw[e1];have o1:=qi7 (v:=q.vo) (ty:=103) (cs:=ji q.out);have k3:(q.out.length*6≤q.out.length*6)=True:=eqt (nlr _);have a2: ∀(x1:AV) (r:List AV),qhf (some (zk q.vo 103 (ji q.out))) 103 q.vo (q.out.length*6) 1 (x1::r)=zk (q.vo+1) 103 (ji q.out++x1::r):=fun x1 r=>by rw[appO_own1,ltl om]
 have eLn:(q.out++ [tkF g []]).length=q.out.length+1:=by simp
 have hfin:ji q.out++ [.str [],.str [],.str [],.int .i64 0,.int .i64 g,.str []]=ji (q.out++ [tkF g []]):=by rw[qeP,qh4];rfl
 unfold brO brX brY
 by_cases hj:q.jn=true∧0<q.out.length
 ·obtain⟨hj,hn⟩:=hj;have k1:((0:Int)<q.out.length)=True:=eqt om;have hg:g=f+16:=by rw[hg];unfold jfl;rw[ipo ⟨hj,hn⟩]
  have eo:qaz .or (.int .i64 f) (.int .i64 16)= .int .i64 g:=by
   rw[hg];rcases hf with rfl|rfl<;>rfl
  rw[hj];unfold atC;refine acO ql4 ?_;simp (disch:=omega) only[qps,zca,zlb,ql,qZ,k1,eo,go_sem]
  repeat' first
   |with_reducible apply aiA
  all_goals try exact clz
  refine jB ?Ta ?Ha ?h1 ?h2
  case h1=>
   simp (disch:=omega) only[zga,zgb,zsa,zsb,zca,zcb,zlb,ql,qZ,qdk,o1,hL,k3,a2,go_sem]
   repeat' first
    |with_reducible apply aiA
   all_goals first
    |omega
    |rfl
    |(rw[bne_iff_ne];omega)
    |skip
  case h2=>
  simp (disch:=omega) only[zga,zsa,zca,ql,go_sem];rw[hfin];simp only[eLn];exact zO trivial (by simp only[tri_len]) (jM t (by have:=jP t va ⟨q.out++ [tkF g []],q.word,q.opn,true,q.vo+1,q.vw,q.ad⟩;simpa only[brX,eLn] using this) (jt (kr _ _)) (je _ _ _)) ⟨rfl,rfl⟩ (qi)
 ·have hg:g=f:=by rw[hg];unfold jfl;rw[ine hj];omega
  subst hg;unfold atC;cases hj2:q.jn with
  |false=>
   refine acO ql4 ?_;simp (disch:=omega) only[qps,zca,zlb,ql,qZ,go_sem]
   repeat' first
    |with_reducible first|intro _|apply aiA
   all_goals try exact clz
   refine jB ?Tb ?Hb ?h1 ?h2
   case h1=>
    simp (disch:=omega) only[zga,zgb,zsa,zsb,zca,zcb,zlb,ql,qZ,qdk,o1,hL,k3,a2,go_sem]
    repeat' first
     |with_reducible apply aiA
    all_goals first
     |omega
     |rfl
     |(rw[bne_iff_ne];omega)
     |skip
   case h2=>
   simp (disch:=omega) only[zga,zsa,zca,ql,go_sem];rw[hfin];simp only[eLn];exact zO trivial (by simp only[tri_len]) (jM t (by have:=jP t va ⟨q.out++ [tkF g []],q.word,q.opn,true,q.vo+1,q.vw,q.ad⟩;simpa only[brX,eLn] using this) (jt (kr _ _)) (je _ _ _)) ⟨rfl,rfl⟩ (qi)
  |true=>
   have k1:((0:Int)<q.out.length)=False:=eqf (fun hc=>hj ⟨hj2,om⟩);refine acO ql4 ?_;simp (disch:=omega) only[qps,zca,zlb,ql,qZ,k1,go_sem]
   repeat' first
    |with_reducible apply aiA
   all_goals try exact clz
   refine jB ?Tc ?Hc ?h1 ?h2
   case h1=>
    simp (disch:=omega) only[zga,zgb,zsa,zsb,zca,zcb,zlb,ql,qZ,qdk,o1,hL,k3,a2,go_sem]
    repeat' first
     |with_reducible apply aiA
    all_goals first
     |omega
     |rfl
     |(rw[bne_iff_ne];omega)
     |skip
   case h2=>
   simp (disch:=omega) only[zga,zsa,zca,ql,go_sem];rw[hfin];simp only[eLn];exact zO trivial (by simp only[tri_len]) (jM t (by have:=jP t va ⟨q.out++ [tkF g []],q.word,q.opn,true,q.vo+1,q.vw,q.ad⟩;simpa only[brX,eLn] using this) (jt (kr _ _)) (je _ _ _)) ⟨rfl,rfl⟩ (qi)
end
end RC
end
section
open Go Go.Proofs AF
def qqt:List Nat:= [117,118,280,257,222,254,223,255,225,256]
def qgj:C:=
 ((C.ops [O1 3 (.box 0 253) 1]).seq ((C.ops [MC 4 (i6 0)]).seq (((C.ops [O1 5 (.fldA 5) 3,LD 6 5]).seq (C.cond (.t 6) (C.ops [MC 4 (i6 1)]) C.skip)).seq (C.block 0 ((C.ops [MV 23
 0,O1 24 .nilchk 23,O1 25 (.fldA 3) 24,LD 26 25,MV 27 26,P1 28 27 true (.fldA 1) 3,P1 29 27 true (.load none) 28,P1 30 27 true (.call 243 true) 29,PF 31 27 30,MV 22
 31]).seq (C.cond (.t 22) ((C.ops [MV 32 0,O1 33 (.call 256 false) 32,O1 34 .nilchk 33,O1 35 (.fldA 4) 34,LD 36 35,MV 37 4,BI 38 .or 36 37,O1 39 .nilchk 33,O1 40 (.fldA 4)
 39,ST 1 40 38]).seq (C.ops [MV 41 0,O1 42 .nilchk 41,O1 43 (.fldA 1) 42,O1 44 (.fldA 1) 3,LD 45 44,O2 46 (.call 280 false) 43 45])) ((C.ops [O1 48 (.fldA 1) 3,LD 49 48,O1
 50 (.call 274 true) 49,MV 47 50]).seq (C.cond (.t 47) ((C.ops [MV 51 0,O1 52 (.load (some 7)) 3,MV 53 4,ON 54 (.call 255 false) [.t 51,.t 52,.t 53]]).seq ((C.ops [MV 55 0,O1
 56 .nilchk 55,O1 57 (.fldA 3) 56,⟨none,none,.store 1,[.t 57,.c (.bool true)]⟩]).seq (C.ops [MV 58 0,O1 59 .nilchk 58,O1 60 (.fldA 1) 59,O1 61 (.fldA 1) 3,LD 62 61,O2 63
 (.call 280 false) 60 62]))) ((C.ops [O1 65 (.fldA 1) 3,LD 66 65,O1 67 (.call 176 true) 66,BC 68 .eql 67 (i6 6),MV 64 68]).seq (C.cond (.t 64) ((C.ops [MV 69 0,O1 70 (.call 223
 false) 69]).seq (C.ops [MV 71 0,O1 72 .nilchk 71,O1 73 (.fldA 4) 72,⟨none,none,.store 1,[.t 73,.c (.bool false)]⟩])) ((C.ops [MV 7 0,O1 8 (.call 223 false) 7]).seq ((C.ops
 [MV 9 0,O1 10 (.load (some 7)) 3,MV 11 4,BC 12 .or 11 (i6 8),ON 13 (.call 255 false) [.t 9,.t 10,.t 12]]).seq (C.draw (DT.one ⟨some 14,none,.mv,[.t 0]⟩ ((DT.one ⟨some 15,
 none,.call 256 false,[.t 14]⟩ (DT.one ⟨some 16,none,.fldA 1,[.t 3]⟩ (DT.one ⟨some 17,none,.load none,[.t 16]⟩ (DT.one ⟨some 18,none,.bslc 1 1 1 5 [.int .u8 0] [(0,1)],
 [.t 17]⟩ (DT.one ⟨some 19,none,.b2s,[.t 18]⟩ (DT.one ⟨some 20,none,.nilchk,[.t 15]⟩ (DT.one ⟨some 21,none,.fldA 0,[.t 20]⟩ (DT.one ⟨none,none,.store 1,[.t 21,.t 19]⟩
 DT.nil)))))))).two (DT.one ⟨some 16,none,.fldA 1,[.t 3]⟩ ((DT.one ⟨some 15,none,.call 256 false,[.t 14]⟩ (DT.one ⟨some 17,none,.load none,[.t 16]⟩ (DT.one ⟨some 18,none,
 .bslc 1 1 1 5 [.int .u8 0] [(0,1)],[.t 17]⟩ (DT.one ⟨some 19,none,.b2s,[.t 18]⟩ (DT.one ⟨some 20,none,.nilchk,[.t 15]⟩ (DT.one ⟨some 21,none,.fldA 0,[.t 20]⟩ (DT.one
 ⟨none,none,.store 1,[.t 21,.t 19]⟩ DT.nil))))))).two (DT.one ⟨some 17,none,.load none,[.t 16]⟩ ((DT.one ⟨some 15,none,.call 256 false,[.t 14]⟩ (DT.one ⟨some 18,none,
 .bslc 1 1 1 5 [.int .u8 0] [(0,1)],[.t 17]⟩ (DT.one ⟨some 19,none,.b2s,[.t 18]⟩ (DT.one ⟨some 20,none,.nilchk,[.t 15]⟩ (DT.one ⟨some 21,none,.fldA 0,[.t 20]⟩ (DT.one
 ⟨none,none,.store 1,[.t 21,.t 19]⟩ DT.nil)))))).two (DT.one ⟨some 18,none,.bslc 1 1 1 5 [.int .u8 0] [(0,1)],[.t 17]⟩ ((DT.one ⟨some 15,none,.call 256 false,[.t 14]⟩
 (DT.one ⟨some 19,none,.b2s,[.t 18]⟩ (DT.one ⟨some 20,none,.nilchk,[.t 15]⟩ (DT.one ⟨some 21,none,.fldA 0,[.t 20]⟩ (DT.one ⟨none,none,.store 1,[.t 21,.t 19]⟩
 DT.nil))))).two (DT.one ⟨some 19,none,.b2s,[.t 18]⟩ (DT.one ⟨some 15,none,.call 256 false,[.t 14]⟩ (DT.one ⟨some 20,none,.nilchk,[.t 15]⟩ (DT.one ⟨some 21,none,.fldA 0,
 [.t 20]⟩ (DT.one ⟨none,none,.store 1,[.t 21,.t 19]⟩
 DT.nil))))))))))))))))))))))))))
theorem qdQ:qM Tryz.prog 254 74 2 [] qgj:=fi Tryz.f254 [3,18] qqt []
end
section
open Go Go.Proofs AF HY LN
namespace RC
section
variable {h : List AObj} {a b c va : Nat}
theorem qa5(t:T3 h a b c)(q:Br)(l:List AObj):brO (h++l) a b c va q=brO h a b c va q++l:=qv3 t
theorem qla{f:FuncId}{args:List AV}{r:AV}{q q':Br}(hc: ∀h,T3 h a b c→ACalls Tryz.prog f args (brO h a b c va q) r (brO h a b c va q'))(t:T3 h a b c)(l:List AObj):ACalls Tryz.prog f args (brO h a b c va q++l) r (brO h a b c va q'++l):=by
 have:=hc (h++l) (t.app l)
 rwa [qa5 t,qa5 t]at this
structure qBT (q:Br):Prop where
 op:q.opn=true→0<q.out.length∧((q.out.getD (q.out.length-1) default).flags=0∨(q.out.getD (q.out.length-1) default).flags=16)
 cl:q.opn=false→q.word= []
 n:q.out.length≤900000
 w:q.word.length≤900000
theorem qwZ(q:Br):(if q.ad=true then AV.op a va 1 else .nilp)= .nilp∨(if q.ad=true then AV.op a va 1 else .nilp)= .op a va 1:=by
 split
 ·exact .inr rfl
 ·exact .inl rfl
theorem qf0{α:Type}{L:List α}{k:Nat}{x:α}(h:L[k]? =some x):L.take k++ [x]++L.drop (k+1)=L:=by
 obtain⟨h1,h2⟩:=lgs.1 h;rw[List.append_assoc,List.singleton_append,←h2,←List.drop_eq_getElem_cons h1,List.take_append_drop]
theorem qEf(t:T3 h a b c)(q:Br)(x:UInt8)(l:List AObj)(hw:q.word.length≤1000000):ACalls Tryz.prog 280 [.op a va 1,.int .u8 (x.toNat:Int)] (brO h a b c va q++l) .nilif (brO h a b c va (q.wb x)++l):=by
 have ta:=t.la;have tb:=t.lb;have tc:=t.lc;have zga: ∀ {X Y Z l},qr (a) (tri h a b c X Y Z++l)=some X:=qaw (t);have yga: ∀ {X Y Z},qr (a) (tri h a b c X Y Z)=some X:=fun {X Y Z}=>by have:=zga (X:=X) (Y:=Y) (Z:=Z) (l:= []);simpa only[lan] using this
 have zgb: ∀ {X Y Z l},qr (b) (tri h a b c X Y Z++l)=some Y:=qaP (t);have ygb: ∀ {X Y Z},qr (b) (tri h a b c X Y Z)=some Y:=fun {X Y Z}=>by have:=zgb (X:=X) (Y:=Y) (Z:=Z) (l:= []);simpa only[lan] using this
 have zgc: ∀ {X Y Z l},qr (c) (tri h a b c X Y Z++l)=some Z:=qax (t);have ygc: ∀ {X Y Z},qr (c) (tri h a b c X Y Z)=some Z:=fun {X Y Z}=>by have:=zgc (X:=X) (Y:=Y) (Z:=Z) (l:= []);simpa only[lan] using this
 have zsa: ∀ {X Y Z o l},qn (a) (tri h a b c X Y Z++l) o=tri h a b c o Y Z++l:=qaQ (t);have ysa: ∀ {X Y Z o},qn (a) (tri h a b c X Y Z) o=tri h a b c o Y Z:=fun {X Y Z o}=>by have:=zsa (X:=X) (Y:=Y) (Z:=Z) (o:=o) (l:= []);simpa only[lan] using this
 have zsb: ∀ {X Y Z o l},qn (b) (tri h a b c X Y Z++l) o=tri h a b c X o Z++l:=qa2 (t);have ysb: ∀ {X Y Z o},qn (b) (tri h a b c X Y Z) o=tri h a b c X o Z:=fun {X Y Z o}=>by have:=zsb (X:=X) (Y:=Y) (Z:=Z) (o:=o) (l:= []);simpa only[lan] using this
 have zsc: ∀ {X Y Z o l},qn (c) (tri h a b c X Y Z++l) o=tri h a b c X Y o++l:=qa3 (t);have ysc: ∀ {X Y Z o},qn (c) (tri h a b c X Y Z) o=tri h a b c X Y o:=fun {X Y Z o}=>by have:=zsc (X:=X) (Y:=Y) (Z:=Z) (o:=o) (l:= []);simpa only[lan] using this
 have zca: ∀ {X Y Z v l},cellsOf (tri h a b c X Y Z++l) (a) v=qv (some X) v:=qbN (t);have yca: ∀ {X Y Z v},cellsOf (tri h a b c X Y Z) (a) v=qv (some X) v:=fun {X Y Z v}=>by have:=zca (X:=X) (Y:=Y) (Z:=Z) (v:=v) (l:= []);simpa only[lan] using this
 have zcb: ∀ {X Y Z v l},cellsOf (tri h a b c X Y Z++l) (b) v=qv (some Y) v:=qbO (t);have ycb: ∀ {X Y Z v},cellsOf (tri h a b c X Y Z) (b) v=qv (some Y) v:=fun {X Y Z v}=>by have:=zcb (X:=X) (Y:=Y) (Z:=Z) (v:=v) (l:= []);simpa only[lan] using this
 have zcc: ∀ {X Y Z v l},cellsOf (tri h a b c X Y Z++l) (c) v=qv (some Z) v:=qbP (t);have ycc: ∀ {X Y Z v},cellsOf (tri h a b c X Y Z) (c) v=qv (some Z) v:=fun {X Y Z v}=>by have:=zcc (X:=X) (Y:=Y) (Z:=Z) (v:=v) (l:= []);simpa only[lan] using this
 have zla: ∀ {X Y Z v l},qF (tri h a b c X Y Z++l) (a) v=qG (some X) v:=qbQ (t);have yla: ∀ {X Y Z v},qF (tri h a b c X Y Z) (a) v=qG (some X) v:=fun {X Y Z v}=>by have:=zla (X:=X) (Y:=Y) (Z:=Z) (v:=v) (l:= []);simpa only[lan] using this
 have zlb: ∀ {X Y Z v l},qF (tri h a b c X Y Z++l) (b) v=qG (some Y) v:=qbR (t);have ylb: ∀ {X Y Z v},qF (tri h a b c X Y Z) (b) v=qG (some Y) v:=fun {X Y Z v}=>by have:=zlb (X:=X) (Y:=Y) (Z:=Z) (v:=v) (l:= []);simpa only[lan] using this
 have zlc: ∀ {X Y Z v l},qF (tri h a b c X Y Z++l) (c) v=qG (some Z) v:=qbS (t);have ylc: ∀ {X Y Z v},qF (tri h a b c X Y Z) (c) v=qG (some Z) v:=fun {X Y Z v}=>by have:=zlc (X:=X) (Y:=Y) (Z:=Z) (v:=v) (l:= []);simpa only[lan] using this
 have:=qF4 a va c q.vw (.osl b q.vo 6 0 q.out.length) (.bool q.opn) (.bool q.jn) (.bool false) (if q.ad=true then .op a va 1 else .nilp) q.word x (brO h a b c va q++l) (by rw[lap,qed];simp[qV];omega) rfl rfl rfl (fun e=>t.ac e.symm) zga (qwZ q) zgc om
 have e:qn c (qn a (brO h a b c va q++l) (.mem va 248 [.osl b q.vo 6 0 q.out.length,.op a va 1,.osl c (q.vw+1) 1 0 (q.word.length+1),.bool q.opn,.bool q.jn,.bool false])) (qds (q.vw+1) (q.word++ [x]))=brO h a b c va (q.wb x)++l:=by
  unfold brO;rw[zsa,zsc];unfold brX brY Br.wb;simp
 rw[e]at this;exact this
theorem qCd(t:T3 h a b c)(q:Br)(x:UInt8)(hq:qBT q):ACalls Tryz.prog 254 [.op a va 0,.agg (atC 1 x)] (brO h a b c va q) (.tup []) (brO h a b c va (q.pt x)):=by
 have ta:=t.la;have tb:=t.lb;have tc:=t.lc;have hn:=hq.n;have hw:=hq.w;have zga: ∀ {X Y Z l},qr (a) (tri h a b c X Y Z++l)=some X:=qaw (t);have yga: ∀ {X Y Z},qr (a) (tri h a b c X Y Z)=some X:=fun {X Y Z}=>by have:=zga (X:=X) (Y:=Y) (Z:=Z) (l:= []);simpa only[lan] using this
 have zgb: ∀ {X Y Z l},qr (b) (tri h a b c X Y Z++l)=some Y:=qaP (t);have ygb: ∀ {X Y Z},qr (b) (tri h a b c X Y Z)=some Y:=fun {X Y Z}=>by have:=zgb (X:=X) (Y:=Y) (Z:=Z) (l:= []);simpa only[lan] using this
 have zgc: ∀ {X Y Z l},qr (c) (tri h a b c X Y Z++l)=some Z:=qax (t);have ygc: ∀ {X Y Z},qr (c) (tri h a b c X Y Z)=some Z:=fun {X Y Z}=>by have:=zgc (X:=X) (Y:=Y) (Z:=Z) (l:= []);simpa only[lan] using this
 have zsa: ∀ {X Y Z o l},qn (a) (tri h a b c X Y Z++l) o=tri h a b c o Y Z++l:=qaQ (t);have ysa: ∀ {X Y Z o},qn (a) (tri h a b c X Y Z) o=tri h a b c o Y Z:=fun {X Y Z o}=>by have:=zsa (X:=X) (Y:=Y) (Z:=Z) (o:=o) (l:= []);simpa only[lan] using this
 have zsb: ∀ {X Y Z o l},qn (b) (tri h a b c X Y Z++l) o=tri h a b c X o Z++l:=qa2 (t);have ysb: ∀ {X Y Z o},qn (b) (tri h a b c X Y Z) o=tri h a b c X o Z:=fun {X Y Z o}=>by have:=zsb (X:=X) (Y:=Y) (Z:=Z) (o:=o) (l:= []);simpa only[lan] using this
 have zsc: ∀ {X Y Z o l},qn (c) (tri h a b c X Y Z++l) o=tri h a b c X Y o++l:=qa3 (t);have ysc: ∀ {X Y Z o},qn (c) (tri h a b c X Y Z) o=tri h a b c X Y o:=fun {X Y Z o}=>by have:=zsc (X:=X) (Y:=Y) (Z:=Z) (o:=o) (l:= []);simpa only[lan] using this
 have zca: ∀ {X Y Z v l},cellsOf (tri h a b c X Y Z++l) (a) v=qv (some X) v:=qbN (t);have yca: ∀ {X Y Z v},cellsOf (tri h a b c X Y Z) (a) v=qv (some X) v:=fun {X Y Z v}=>by have:=zca (X:=X) (Y:=Y) (Z:=Z) (v:=v) (l:= []);simpa only[lan] using this
 have zcb: ∀ {X Y Z v l},cellsOf (tri h a b c X Y Z++l) (b) v=qv (some Y) v:=qbO (t);have ycb: ∀ {X Y Z v},cellsOf (tri h a b c X Y Z) (b) v=qv (some Y) v:=fun {X Y Z v}=>by have:=zcb (X:=X) (Y:=Y) (Z:=Z) (v:=v) (l:= []);simpa only[lan] using this
 have zcc: ∀ {X Y Z v l},cellsOf (tri h a b c X Y Z++l) (c) v=qv (some Z) v:=qbP (t);have ycc: ∀ {X Y Z v},cellsOf (tri h a b c X Y Z) (c) v=qv (some Z) v:=fun {X Y Z v}=>by have:=zcc (X:=X) (Y:=Y) (Z:=Z) (v:=v) (l:= []);simpa only[lan] using this
 have zla: ∀ {X Y Z v l},qF (tri h a b c X Y Z++l) (a) v=qG (some X) v:=qbQ (t);have yla: ∀ {X Y Z v},qF (tri h a b c X Y Z) (a) v=qG (some X) v:=fun {X Y Z v}=>by have:=zla (X:=X) (Y:=Y) (Z:=Z) (v:=v) (l:= []);simpa only[lan] using this
 have zlb: ∀ {X Y Z v l},qF (tri h a b c X Y Z++l) (b) v=qG (some Y) v:=qbR (t);have ylb: ∀ {X Y Z v},qF (tri h a b c X Y Z) (b) v=qG (some Y) v:=fun {X Y Z v}=>by have:=zlb (X:=X) (Y:=Y) (Z:=Z) (v:=v) (l:= []);simpa only[lan] using this
 have zlc: ∀ {X Y Z v l},qF (tri h a b c X Y Z++l) (c) v=qG (some Z) v:=qbS (t);have ylc: ∀ {X Y Z v},qF (tri h a b c X Y Z) (c) v=qG (some Z) v:=fun {X Y Z v}=>by have:=zlc (X:=X) (Y:=Y) (Z:=Z) (v:=v) (l:= []);simpa only[lan] using this
 by_cases g1:q.opn=true∧qaV x=true
 ·rw[show q.pt x=q.wb x from by unfold Br.pt;rw[ipo g1]];obtain⟨g1,g2⟩:=g1;obtain⟨hop,hfl⟩:=hq.op g1;have c1:=fun h=>qB1 x h
  simp only[g2]at c1;have c2:=fun l=>qtk (va:=va) (t.app l) q hop om
  simp only[qa5 t]at c2;have c3:=fun l=>qEf (va:=va) t q x l om
  have hL:=jL q.out;obtain⟨F,hF⟩: ∃F,F=(q.out.getD (q.out.length-1) default).flags:=⟨_,rfl⟩
  rw[←hF]at hfl;have g4:(ji q.out)[(q.out.length-1)*6+4]? =some (.int .i64 F):=by rw[qeQ om om,hF];rfl
  have e0:qaz .or (.int .i64 F) (.int .i64 0)= .int .i64 F:=by rcases hfl with rfl|rfl<;>rfl
  have k3:((q.out.length-1)*6+4+1≤q.out.length*6)=True:=eqt om;have k4:((q.out.length-1)*6+4<q.out.length*6)=True:=eqt om;have e5:=qf0 g4;unfold brO at c2 c3 ⊢;rw[qdG hop]at c2 c3 ⊢;unfold brX at c2 c3 ⊢;rw[g1]at c2 c3 ⊢;unfold atC;refine acO qdQ ?_;simp (disch:=omega) only[qgj,zca,ql,go_sem]
  repeat' first
   |(refine cG (fun e=>c1 _) flk ?_;simp (disch:=omega) only[go_sem])
  refine qx (c2 _) (by exact flk) ?_;simp (disch:=omega) only[zgb,zsb,zca,zcb,ql,hL,g4,e0,k3,k4,e5,go_sem];refine qx (c3 _) (by exact flk) ?_;simp (disch:=omega) only[go_sem];exact zO trivial (by simp only[tri_len]) (jM t (jP t va (q.wb x)) (qal _ _) (je _ _ _)) ⟨rfl,rfl⟩ (qi)
 by_cases g2:bgn x=true
 ·rw[show q.pt x=((q.st 0).op).wb x from by unfold Br.pt;rw[ine g1,ipo g2]];have g3:q.opn=false:=by
   cases ho:q.opn with
   |false=>rfl
   |true=>exact absurd ⟨ho,qcG g2⟩ g1
  have c1:=fun h=>qBX x h
  rw[show (decide (kind x=1)||decide (kind x=3))=true from g2]at c1;have c2:=fun l=>qwY (va:=va) (t.app l) q 0 x (.inl rfl) om
  simp only[qa5 t]at c2;have c3:=fun l=>qEf (va:=va) t (q.st 0).op x l (by show q.word.length≤_;omega)
  unfold brO brX at c2 c3 ⊢;rw[g3]at c2 ⊢;unfold atC at c2 ⊢;refine acO qdQ ?_;simp (disch:=omega) only[qgj,zca,ql,go_sem]
  repeat' first
   |(refine qj ( .bool false) ?_;simp (disch:=omega) only[go_sem])
   |(refine cA (c1 _) flk ?_;simp (disch:=omega) only[go_sem])
  refine qx (c2 _) (by exact flk) ?_;simp (disch:=omega) only[zga,zsa,zca,ql,go_sem];refine qx (c3 _) (by exact flk) ?_;simp (disch:=omega) only[go_sem];exact zO trivial (by simp only[tri_len]) (jM t (jP t va (((q.st 0).op).wb x)) (qal _ _) (je _ _ _)) ⟨rfl,rfl⟩ (qi)
 by_cases g3:kind x=6
 ·rw[show q.pt x=q.nd.sp from by unfold Br.pt;rw[ine g1,ine g2,ipo g3]];have c1:=fun h=>qBX x h
  have hb:(decide (kind x=1)||decide (kind x=3))=false:=by simpa[bgn] using g2
  rw[hb]at c1;have c5:=fun h=>qB1 x h
  have c4:=fun h=>qcE x h
  rw[g3]at c4;have c2:=fun l=>qtj (va:=va) (t.app l) q (fun e=>(hq.op e).1) hq.cl om om
  simp only[qa5 t]at c2;have hi:q.opn=true→qaV x=false:=fun e=>by
   cases hx:qaV x with
   |false=>rfl
   |true=>exact absurd ⟨e,hx⟩ g1
  unfold brO brX at c2 ⊢;unfold atC;cases ho:q.opn with
  |true=>
   rw[hi ho]at c5;rw[ho]at c2;refine acO qdQ ?_;simp (disch:=omega) only[qgj,zca,ql,go_sem]
   repeat' first
    |((first|refine cA (c1 _) ?_ ?_|refine cA (c4 _) ?_ ?_|refine cG (fun e=>c5 _) ?_ ?_);exact flk;simp (disch:=omega) only[go_sem])
   refine qx (c2 _) (by exact flk) ?_;simp (disch:=omega) only[zga,zsa,zca,ql,go_sem];exact zO trivial (by simp only[tri_len]) (jM t (jP t va q.nd.sp) (qal _ _) (je _ _ _)) ⟨rfl,rfl⟩ (qi)
  |false=>
   rw[ho]at c2;refine acO qdQ ?_;simp (disch:=omega) only[qgj,zca,ql,go_sem]
   repeat' first
    |(refine qj ( .bool false) ?_;simp (disch:=omega) only[go_sem])
    |((first|refine cA (c1 _) ?_ ?_|refine cA (c4 _) ?_ ?_);exact flk;simp (disch:=omega) only[go_sem])
   refine qx (c2 _) (by exact flk) ?_;simp (disch:=omega) only[zga,zsa,zca,ql,go_sem];exact zO trivial (by simp only[tri_len]) (jM t (jP t va q.nd.sp) (qal _ _) (je _ _ _)) ⟨rfl,rfl⟩ (qi)
 rw[show q.pt x=(q.nd.st 8).tx [x]from by unfold Br.pt;rw[ine g1,ine g2,ine g3]];have c1:=fun h=>qBX x h
 have hb:(decide (kind x=1)||decide (kind x=3))=false:=by simpa[bgn] using g2
 rw[hb]at c1;have c5:=fun h=>qB1 x h
 have c4:=fun h=>qcE x h
 obtain⟨kx,hkx⟩: ∃kx,kx=kind x:=⟨_,rfl⟩
 rw[←hkx]at c4 g3;have q6:(kx=6)=False:=eqf g3;have c2:=fun l=>qtj (va:=va) (t.app l) q (fun e=>(hq.op e).1) hq.cl om om
 have hndl:q.nd.out.length=q.out.length:=by unfold Br.nd;split<;>simp only[qaN]
 have c6:=fun l=>qwY (va:=va) (t.app l) q.nd 8 x (.inr rfl) om
 obtain⟨r,hr⟩: ∃r,r=q.nd.st 8:=⟨_,rfl⟩
 have hrl:0<r.out.length:=by rw[hr];show 0<(q.nd.out++ [_]).length;simp
 have hrm:r.out.length≤1000000:=by rw[hr];show (q.nd.out++ [_]).length≤_;simp;omega
 rw[←hr]at c6 ⊢;have c7:=fun l=>qtk (va:=va) (t.app l) r hrl hrm
 simp only[qa5 t]at c2 c6 c7;have hi:q.opn=true→qaV x=false:=fun e=>by
  cases hx:qaV x with
  |false=>rfl
  |true=>exact absurd ⟨e,hx⟩ g1
 have hL:=jL r.out;have k3:((r.out.length-1)*6+1≤r.out.length*6)=True:=eqt om;have hX:=qol (L:=r.out) [x] hrl;have e8:qaz .or (.int .i64 0) (.int .i64 8)= .int .i64 8:=rfl;have hY:brY (r.tx [x])= .mem r.vo 103 (ji (qbg r.out [x])):=qdG (q:=r.tx [x]) (by show 0<(qbg r.out [x]).length;rw[qaN];exact hrl);have eL:(r.tx [x]).out.length=r.out.length:=qaN _ _;unfold brO at c2 c6 c7 ⊢;rw[hY];rw[qdG hrl]at c6 c7;unfold brX at c2 c6 c7 ⊢;rw[eL];unfold atC at c6 ⊢;cases ho:q.opn with
 |true=>
  rw[hi ho]at c5;rw[ho]at c2;refine acO qdQ ?_;simp (disch:=omega) only[qgj,zca,ql,go_sem]
  repeat' first
   |((first|refine cA (c1 _) ?_ ?_|refine cA (c4 _) ?_ ?_|refine cG (fun e=>c5 _) ?_ ?_);exact flk;simp (disch:=omega) only[q6,go_sem])
  refine qx (c2 _) (by exact flk) ?_;simp (disch:=omega) only[e8,go_sem];refine qx (c6 _) (by exact flk) ?_;simp (disch:=omega) only[go_sem];refine jB ?Ta ?Ha ?h1 ?h2
  case h1=>
   simp (disch:=omega) only[go_sem]
   repeat' first
    |(with_reducible apply aiA)
    |(refine qx (c7 _) (by exact flk) ?_;simp (disch:=omega) only[zgb,zsb,zcb,ql,hL,k3,go_sem])
   all_goals first
    |omega
    |rfl
    |(intro y hy;rw[List.mem_singleton]at hy;subst hy;exact qfz x)
    |skip
  case h2=>
  simp (disch:=omega) only[go_sem];rw[qfh x,List.append_assoc,hX];exact zO trivial (by simp only[tri_len]) (jM t (jP t va r) (kr _ _) (je _ _ _)) ⟨rfl,rfl⟩ (qi)
 |false=>
  rw[ho]at c2;refine acO qdQ ?_;simp (disch:=omega) only[qgj,zca,ql,go_sem]
  repeat' first
   |(refine qj ( .bool false) ?_;simp (disch:=omega) only[go_sem])
   |((first|refine cA (c1 _) ?_ ?_|refine cA (c4 _) ?_ ?_);exact flk;simp (disch:=omega) only[q6,go_sem])
  refine qx (c2 _) (by exact flk) ?_;simp (disch:=omega) only[e8,go_sem];refine qx (c6 _) (by exact flk) ?_;simp (disch:=omega) only[go_sem];refine jB ?Tb ?Hb ?h1 ?h2
  case h1=>
   simp (disch:=omega) only[go_sem]
   repeat' first
    |(with_reducible apply aiA)
    |(refine qx (c7 _) (by exact flk) ?_;simp (disch:=omega) only[zgb,zsb,zcb,ql,hL,k3,go_sem])
   all_goals first
    |omega
    |rfl
    |(intro y hy;rw[List.mem_singleton]at hy;subst hy;exact qfz x)
    |skip
  case h2=>
  simp (disch:=omega) only[go_sem];rw[qfh x,List.append_assoc,hX];exact zO trivial (by simp only[tri_len]) (jM t (jP t va r) (kr _ _) (je _ _ _)) ⟨rfl,rfl⟩ (qi)
theorem qCc(t:T3 h a b c)(q:Br)(x:UInt8)(hq:qBT q):ACalls Tryz.prog 222 [.op a va 0,.agg (atC 1 x)] (brO h a b c va q) (.tup []) (brO h a b c va (q.pt x)):=by
 have ta:=t.la;have tb:=t.lb;have tc:=t.lc;have zga: ∀ {X Y Z l},qr (a) (tri h a b c X Y Z++l)=some X:=qaw (t);have yga: ∀ {X Y Z},qr (a) (tri h a b c X Y Z)=some X:=fun {X Y Z}=>by have:=zga (X:=X) (Y:=Y) (Z:=Z) (l:= []);simpa only[lan] using this
 have zgb: ∀ {X Y Z l},qr (b) (tri h a b c X Y Z++l)=some Y:=qaP (t);have ygb: ∀ {X Y Z},qr (b) (tri h a b c X Y Z)=some Y:=fun {X Y Z}=>by have:=zgb (X:=X) (Y:=Y) (Z:=Z) (l:= []);simpa only[lan] using this
 have zgc: ∀ {X Y Z l},qr (c) (tri h a b c X Y Z++l)=some Z:=qax (t);have ygc: ∀ {X Y Z},qr (c) (tri h a b c X Y Z)=some Z:=fun {X Y Z}=>by have:=zgc (X:=X) (Y:=Y) (Z:=Z) (l:= []);simpa only[lan] using this
 have zsa: ∀ {X Y Z o l},qn (a) (tri h a b c X Y Z++l) o=tri h a b c o Y Z++l:=qaQ (t);have ysa: ∀ {X Y Z o},qn (a) (tri h a b c X Y Z) o=tri h a b c o Y Z:=fun {X Y Z o}=>by have:=zsa (X:=X) (Y:=Y) (Z:=Z) (o:=o) (l:= []);simpa only[lan] using this
 have zsb: ∀ {X Y Z o l},qn (b) (tri h a b c X Y Z++l) o=tri h a b c X o Z++l:=qa2 (t);have ysb: ∀ {X Y Z o},qn (b) (tri h a b c X Y Z) o=tri h a b c X o Z:=fun {X Y Z o}=>by have:=zsb (X:=X) (Y:=Y) (Z:=Z) (o:=o) (l:= []);simpa only[lan] using this
 have zsc: ∀ {X Y Z o l},qn (c) (tri h a b c X Y Z++l) o=tri h a b c X Y o++l:=qa3 (t);have ysc: ∀ {X Y Z o},qn (c) (tri h a b c X Y Z) o=tri h a b c X Y o:=fun {X Y Z o}=>by have:=zsc (X:=X) (Y:=Y) (Z:=Z) (o:=o) (l:= []);simpa only[lan] using this
 have zca: ∀ {X Y Z v l},cellsOf (tri h a b c X Y Z++l) (a) v=qv (some X) v:=qbN (t);have yca: ∀ {X Y Z v},cellsOf (tri h a b c X Y Z) (a) v=qv (some X) v:=fun {X Y Z v}=>by have:=zca (X:=X) (Y:=Y) (Z:=Z) (v:=v) (l:= []);simpa only[lan] using this
 have zcb: ∀ {X Y Z v l},cellsOf (tri h a b c X Y Z++l) (b) v=qv (some Y) v:=qbO (t);have ycb: ∀ {X Y Z v},cellsOf (tri h a b c X Y Z) (b) v=qv (some Y) v:=fun {X Y Z v}=>by have:=zcb (X:=X) (Y:=Y) (Z:=Z) (v:=v) (l:= []);simpa only[lan] using this
 have zcc: ∀ {X Y Z v l},cellsOf (tri h a b c X Y Z++l) (c) v=qv (some Z) v:=qbP (t);have ycc: ∀ {X Y Z v},cellsOf (tri h a b c X Y Z) (c) v=qv (some Z) v:=fun {X Y Z v}=>by have:=zcc (X:=X) (Y:=Y) (Z:=Z) (v:=v) (l:= []);simpa only[lan] using this
 have zla: ∀ {X Y Z v l},qF (tri h a b c X Y Z++l) (a) v=qG (some X) v:=qbQ (t);have yla: ∀ {X Y Z v},qF (tri h a b c X Y Z) (a) v=qG (some X) v:=fun {X Y Z v}=>by have:=zla (X:=X) (Y:=Y) (Z:=Z) (v:=v) (l:= []);simpa only[lan] using this
 have zlb: ∀ {X Y Z v l},qF (tri h a b c X Y Z++l) (b) v=qG (some Y) v:=qbR (t);have ylb: ∀ {X Y Z v},qF (tri h a b c X Y Z) (b) v=qG (some Y) v:=fun {X Y Z v}=>by have:=zlb (X:=X) (Y:=Y) (Z:=Z) (v:=v) (l:= []);simpa only[lan] using this
 have zlc: ∀ {X Y Z v l},qF (tri h a b c X Y Z++l) (c) v=qG (some Z) v:=qbS (t);have ylc: ∀ {X Y Z v},qF (tri h a b c X Y Z) (c) v=qG (some Z) v:=fun {X Y Z v}=>by have:=zlc (X:=X) (Y:=Y) (Z:=Z) (v:=v) (l:= []);simpa only[lan] using this
 have c2:=fun l=>qCd (va:=va) (t.app l) q x hq
 simp only[qa5 t]at c2;unfold brO brX at c2 ⊢;unfold atC at c2 ⊢;refine acO qzk ?_;simp (disch:=omega) only[qxI,go_sem];refine qx (c2 _) (by exact flk) ?_;simp (disch:=omega) only[go_sem];exact zO trivial (by simp only[tri_len]) (jM t (jP t va (q.pt x)) (qal _ _) (je _ _ _)) ⟨rfl,rfl⟩ (qi)
end
structure BrB (q:Br) (b:Bs):Prop where
 out:q.out=b.out
 word:q.word=b.word
 opn:q.opn=b.opn
 jn:q.jn=b.jn
theorem qd4(L:List Tk)(f:Int)(w:Str):qbg (L++ [tkF f []]) w=L++ [tkF f w]:=by
 unfold qbg;have e:(L++ [tkF f []]).length-1=L.length:=by simp
 rw[e];have g:(L++ [tkF f []]).getD L.length default=tkF f []:=by
  have:=jQ (L:=L) (M:= [tkF f []]) (a:=default) (i:=0)
  rw[Nat.add_zero]at this;rw[this];rfl
 rw[g,List.set_append_right _ _ (nlr _),Nat.sub_self];rfl
theorem qsL{q:Br}{b:Bs}{s:Str}(h:BrB q b)(hb:qo4 s b):q.nd.out=b.fin∧q.nd.word= []∧q.nd.opn=false∧q.nd.jn=b.jn:=by
 unfold Br.nd Bs.fin;cases ho:b.opn with
 |true=>
  rw[ipo (by rw[h.opn,ho]),ipo rfl];refine⟨?_,rfl,rfl,h.jn⟩;show qbg q.out q.word=_;rw[h.out,h.word];unfold Bs.out;rw[ipo ho,qd4]
 |false=>
  rw[ine (by rw[h.opn,ho];simp),ine (by simp),lan];refine⟨?_,rfl,rfl,h.jn⟩;show q.out=_;rw[h.out];unfold Bs.out;rw[ine (by rw[ho];simp),lan]
theorem qAz{q:Br}{b:Bs}{s:Str}(h:BrB q b)(hb:qo4 s b)(c:UInt8):BrB (q.pt c) (b.stp c):=by
 obtain⟨n1,n2,n3,n4⟩:=qsL h hb;unfold Br.pt Bs.stp
 by_cases g1:b.opn=true∧qaV c=true
 ·rw[ipo (by rw[h.opn];exact g1),ipo g1];refine⟨?_,?_,?_,h.jn⟩
  ·show q.out=_;rw[h.out];unfold Bs.out;rw[ipo g1.1,ipo rfl]
  ·show q.word++ [c]=_;rw[h.word]
  ·show q.opn=_;rw[h.opn,g1.1]
 rw[ine (by rw[h.opn];exact g1),ine g1]
 by_cases g2:bgn c=true
 ·rw[ipo g2,ipo g2];have ho:b.opn=false:=by
   cases ho:b.opn with
   |false=>rfl
   |true=>exact absurd ⟨ho,qcG g2⟩ g1
  have hf:q.out=b.fin:=by
   rw[h.out];unfold Bs.out Bs.fin;rw[ho];rfl
  refine⟨?_,?_,rfl,rfl⟩
  ·show q.out++ [tkF (0+jfl q.jn q.out.length) []]=_;rw[hf,h.jn];unfold Bs.out;rw[ipo rfl,Int.zero_add]
  ·show q.word++ [c]=_;rw[h.word,(hb.cl ho).1];rfl
 rw[ine g2,ine g2]
 by_cases g3:kind c=6
 ·rw[ipo g3,ipo g3];refine⟨?_,n2,n3,rfl⟩;show q.nd.out=_;rw[n1];unfold Bs.out;rw[ine (by simp),lan]
 ·rw[ine g3,ine g3];refine⟨?_,n2,n3,rfl⟩;show qbg (q.nd.out++ [tkF (8+jfl q.nd.jn q.nd.out.length) []]) [c]=_;rw[qd4,n1,n4];unfold Bs.out;rw[ine (by simp),lan]
theorem qCe{q:Br}{b:Bs}{s:Str}(h:BrB q b)(hb:qo4 s b)(hs:s.length≤900000):qBT q:=by
 have hl:=hb.len;have hc:=hb.cat;have ho:b.out.length=b.fin.length:=by unfold Bs.out Bs.fin;split<;>simp
 refine⟨fun e=> ?_,fun e=> ?_,?_,?_⟩
 ·rw[h.opn]at e;have e2:q.out=b.done++ [tkF b.fl []]:=by rw[h.out];unfold Bs.out;rw[ipo e]
  rw[e2];refine⟨by simp,?_⟩;have g:(b.done++ [tkF b.fl []]).getD ((b.done++ [tkF b.fl []]).length-1) default=tkF b.fl []:=by
   rw[show (b.done++ [tkF b.fl []]).length-1=b.done.length+0 by simp,jQ];rfl
  rw[g];exact (hb.op e).2.2
 ·rw[h.opn]at e;rw[h.word];exact (hb.cl e).1
 ·rw[h.out,ho];omega
 ·rw[h.word];cases e:b.opn with
  |false=>rw[(hb.cl e).1];simp
  |true=>
   have hm:b.word∈b.fin.map Tk.text:=by
    unfold Bs.fin;rw[ipo e,List.map_append];exact List.mem_append_right _ (List.mem_singleton.2 rfl)
   have h1:=qde hm;rw[hc]at h1
   have:=List.length_filter_le (fun c=> !decide (kind c=6)) s
   omega
def brI(vo vw:Nat)(s:Str):Br:=s.foldl Br.pt ⟨[],[],false,false,vo,vw,false⟩
theorem qw0(vo vw:Nat)(s:Str): ∀n,n≤s.length→BrB (brI vo vw (s.take n)) (bsL (s.take n)):=by
 intro n
 induction n with
 |zero=>intro _;exact⟨rfl,rfl,rfl,rfl⟩
 |succ n ih=>
  intro hn;rw[List.take_add_one,zL hn];show BrB (brI vo vw (s.take n++ [s[n]])) (bsL (s.take n++ [s[n]]));rw[qhm];unfold brI;rw[List.foldl_append];exact qAz (ih om) (qff _) _
theorem qpj(vo vw:Nat)(s:Str){n:Nat}(hn:n<s.length):brI vo vw (s.take (n+1))=(brI vo vw (s.take n)).pt (ch s n):=by
 unfold brI;rw[List.take_add_one,zL hn,List.foldl_append];simp[ch,gdqA,hn]
theorem qsg(vo vw:Nat)(s:Str)(hs:s.length≤900000){n:Nat}(hn:n≤s.length):qBT (brI vo vw (s.take n)):=qCe (qw0 vo vw s n hn) (qff _) (by rw[List.length_take];omega)
def nmL(L:List Tk)(i:Nat):List Tk:=(L.take i).map tkN++L.drop i
theorem qdh(L:List Tk)(i:Nat):(nmL L i).length=L.length:=by unfold nmL;simp;omega
theorem qAl{L:List Tk}{i:Nat}(hi:i<L.length):(nmL L i).getD i default=L.getD i default:=by
 unfold nmL;rw[gdqA,List.getElem?_append_right (by simp;omega),List.getElem?_drop,gdqA];simp[Nat.min_eq_left (Nat.le_of_lt hi)]
theorem qqG{L:List Tk}{i:Nat}(hi:i<L.length):nmL L (i+1)=(nmL L i).set i (tkN (L.getD i default)):=by
 unfold nmL;have e:((L.take i).map tkN).length=i:=by simp;omega
 rw[List.set_append_right _ _ om,e,Nat.sub_self,List.drop_eq_getElem_cons hi,List.set_cons_zero,List.take_add_one,zL hi,List.map_append,List.append_assoc,gdqA,zL hi];rfl
theorem qu4(L:List Tk):nmL L L.length=L.map tkN:=by unfold nmL;rw[List.take_length,List.drop_length,lan]
theorem qqH(L:List Tk):nmL L 0=L:=by unfold nmL;simp
end RC
end
section
open Go Go.Proofs AF
def quF:List Nat:= [117,118,280,257,222,254,223,255,225]
def qxo:C:=
 ((C.ops [O1 3 (.box 0 101) 0,ON 6 (.nilo 1 6 103) [],MC 7 (i6 0)]).seq (((C.ops [MV 14 1,O1 15 (.call 218 true) 14,BC 16 .neq 15 (i6 0),MV 17 16,MG 18 17 false 2,P1 19 17
 false (.call 219 true) 18,PC 20 17 false (.bin .neq) 19 (i6 0),PT 21 17 20]).seq (C.cond (.t 21) ((C.ops [ON 6 (.nilo 1 6 103) [],MC 7 (i6 1)]).seq C.ret) C.skip)).seq (((C.ops
 [O1 22 (.fldA 1) 3,LD 23 22,BC 24 .lss 23 (i6 0),MV 25 24,P1 26 25 false (.fldA 1) 3,P1 27 25 false (.load none) 26,PC 28 25 false (.bin .gtr) 27 (i6 4096),PT 29 25 28]).seq
 (C.cond (.t 29) ((C.ops [ON 6 (.nilo 1 6 103) [],MC 7 (i6 2)]).seq C.ret) C.skip)).seq (((C.ops [O1 30 (.fldA 0) 3,LD 31 30,O1 32 (.call 211 true) 31,O1 33 (.un UnOp.not)
 32]).seq (C.cond (.t 33) ((C.ops [ON 6 (.nilo 1 6 103) [],MC 7 (i6 14)]).seq C.ret) C.skip)).seq ((C.ops [MV 35 1,OC 36 (.call 220 true) 35 (i6 8),MV 34 36,O1 37 (.ext 0) 34,
 O1 38 (.ext 1) 34,MV 8 37,MV 9 38]).seq ((C.ops [MV 40 1,OC 41 (.call 220 true) 40 (i6 9),MV 39 41,O1 42 (.ext 0) 39,O1 43 (.ext 1) 39,MV 10 42,MV 11 43]).seq (((C.ops [MV
 44 8,MV 45 10,BI 46 .add 44 45,BC 47 .gtr 46 (i6 0)]).seq (C.cond (.t 47) ((C.ops [ON 6 (.nilo 1 6 103) [],MC 7 (i6 13)]).seq C.ret) C.skip)).seq ((C.ops [⟨some 12,none,
 .alloc 2 248 [.nl,.nilp,.nl,.bool false,.bool false,.bool false],[]⟩]).seq (((C.wk.seq (C.ops [O1 48 (.load (some 2)) 3,MV 49 1,O2 50 (.call 221 true) 48 49])).seq (C.block
 0 (C.range (.t 50) [51] (C.ops [⟨some 13,none,.alloc 3 253 [i6 0,.int .u8 0,i6 0,.str [],i6 0,.bool false,.str []],[]⟩,ST 7 13 51]) (C.block 1 (C.ops [O1 52 (.load (some
 7)) 13,O2 53 (.call 222 false) 12 52]))))).seq ((C.ops [O1 54 (.call 223 false) 12]).seq (((C.ops [O1 55 (.fldA 0) 12,LD 56 55,O1 57 .len 56,BC 58 .gtr 57 (i6 1024),MV 59 58,
 P1 60 59 false (.fldA 0) 12,P1 61 59 false (.load none) 60,PC 62 59 false (.call 161 true) 61 (.fn (Fn.func 224) [] []),PT 63 59 62]).seq (C.cond (.t 63) ((C.ops [ON 6 (.nilo 1
 6 103) [],MC 7 (i6 4)]).seq C.ret) C.skip)).seq ((C.ops [MV 64 2,O1 65 (.fldA 0) 12,LD 66 65,O2 67 (.call 225 false) 64 66,O1 68 (.ext 0) 67,O1 69 (.ext 1) 67,MV 6 68,MV 7
 69]).seq
 C.ret))))))))))))
theorem qyY:qM Tryz.prog 173 70 6 [RV.tmp 6,RV.tmp 7] qxo:=fi Tryz.f173 [3,6,12,13,9,11] quF [12]
end
section
open Go Go.Proofs AF HY LN
namespace RC
theorem qrU{t:Tk}(h:TkG t)(hl:t.text.length≤64):(qiS t.flags=false∧mkB t.flags=false∧ ∀i,i<t.text.length→qaV (ch t.text i)=true)∨(qiS t.flags=false∧mkB t.flags=true):=by
 rcases h.2 with⟨hf,c,r,e,hb,hr⟩|⟨hf,_⟩
 ·refine .inl ⟨by rcases hf with e|e<;>rw[e]<;>rfl,by rcases hf with e|e<;>rw[e]<;>rfl,fun i hi=> ?_⟩;rw[e]at hi ⊢;cases i with
  |zero=>exact qcG hb
  |succ i=>
   simp only[lco]at hi
   have:ch (c::r) (i+1)=r[i]'(by omega):=by simp[ch,gdqA,show i<r.length by omega]
   rw[this];exact hr _ (List.getElem_mem _)
 ·exact .inr ⟨by rcases hf with e|e<;>rw[e]<;>rfl,by rcases hf with e|e<;>rw[e]<;>rfl⟩
theorem qrT{t:Tk}(h:TkG t): ∃f:Nat,t.flags=f∧f<32:=by
 rcases h.2 with⟨hf|hf,_⟩|⟨hf|hf,_⟩
 ·exact⟨0,hf,om⟩
 ·exact⟨16,hf,om⟩
 ·exact⟨8,hf,om⟩
 ·exact⟨24,hf,om⟩
theorem qDt(L:List Tk)(b v:Nat)(h:List AObj)(hb:qr b h=some (zk v 103 (ji L)))(hg: ∀t∈L,TkG t)(hl: ∀t∈L,t.text.length≤64)(hn:L.length≤1000000):
  ACalls Tryz.prog 225 [.nl,.osl b v 6 0 L.length] h (.tup [.osl b v 6 0 L.length,.int .i64 0]) (qn b h (zk v 103 (ji (L.map tkN)))):=by
 have hbl:=zG hb;have hlv: ∀l,qF (h++l) b v=true:=fun l=>by rw[jq,zz hbl,hb,qZ];simp
 refine acO qzl ?_;simp (disch:=omega) only[qxJ,hlv,go_sem];refine qu (T:=fun i:Nat=>ze 49 [(0,.nl),(1,.osl b v 6 0 L.length),(10,.int .i64 L.length),(11,.int .i64 i)]) (H:=fun i=>qn b h (zk v 103 (ji (nmL L i)))++ [.emp 1]) (inv:=fun i=>i≤L.length) (m:=fun i=>L.length-i) 0 (nzl _) ?_ ?_
 ·rw[qqH,jK hb];refine Wk.temps ?_
  (simp only[go_sem,qg,qc,qa,qf];try (repeat' first|(with_reducible apply aiA)|(apply qh;omega)|(apply qe;rfl)|exact qi))
 rintro i i1 K hK;have hML:=qdh L i
 by_cases hi:i<L.length
 ·have k1:((i:Int)<L.length)=True:=eqt om;have hne:ji (nmL L i)≠ []:=fun e=>by
   have:=congrArg List.length e
   rw[jL,hML,lnl]at this;omega
  have ho:zk v 103 (ji (nmL L i))= .mem v 103 (ji (nmL L i)):=by unfold zk;rw[ine hne]
  rw[ho];have hM:=jL (nmL L i);rw[hML]at hM;obtain⟨t,ht⟩: ∃t,t=L.getD i default:=⟨_,rfl⟩
  have hmem:t∈L:=by rw[ht];exact jr hi
  have gt:=hg t hmem;have lt:=hl t hmem;have hat:=qAl hi;rw[←ht]at hat;have hsucc:=qqG hi;rw[←ht]at hsucc;obtain⟨M,hMe⟩: ∃M,M=nmL L i:=⟨_,rfl⟩
  rw[←hMe]at hM hat hsucc hML ⊢;have s1: ∀ {l w cs z},cellsOf (qn b h (.mem w 103 cs)++l) b z=if w=z then some cs else none:=qam hbl
  have s2: ∀ {l o o'},qn b (qn b h o++l) o'=qn b h o'++l:=qeH hbl;have s4: ∀ {l o},qr b (qn b h o++l)=some o:=qcL hbl;have s3: ∀ {l o w},qF (qn b h o++l) b w=qG (some o) w:=fun {l o w}=>by rw[jq,s4]
  have g0:(ji M)[i*6]? =some (.str t.text):=by
   have:=qeQ (L:=M) (i:=i) (k:=0) om om
   rw[Nat.add_zero]at this;rw[this,hat];rfl
  have b1:(i*6<L.length*6)=True:=eqt om;have b2:(i*6+1+1≤L.length*6)=True:=eqt om;have b3:(i*6+6≤L.length*6)=True:=eqt om;have hset:=qh5 (L:=M) (i:=i) (tkN t) om;rw[←hsucc]at hset;have hcut:=qbM (L:=M) (i:=i) om;rw[hat]at hcut;have hS:List.take (i*6+1) (ji M)++ [AV.str t.text]++List.drop (i*6+1+1) (ji M)=ji (nmL L (i+1)):=by
   rw[←hset];have e1:List.take (i*6+1) (ji M)=List.take (i*6) (ji M)++ [.str t.text]:=by
    rw[List.take_add_one,g0];rfl
   have e2:List.drop (i*6+1+1) (ji M)=(tkC t).drop 2++(ji M).drop (i*6+6):=by
    rw[←hcut,List.drop_take,List.drop_drop]
    have:List.drop (i*6+6) (ji M)=List.drop 4 (List.drop (i*6+2) (ji M)):=by rw[List.drop_drop]
    rw[this,show i*6+1+1=i*6+2 by omega];exact (List.take_append_drop 4 _).symm
   rw[e1,e2];simp[tkC,tkN]
  have hL2:=jL (nmL L (i+1));rw[qdh]at hL2;have hat2:(nmL L (i+1)).getD i default=tkN t:=by rw[hsucc];exact qep om
  have hcut2:=qbM (L:=nmL L (i+1)) (i:=i) (by rw[qdh];exact hi);rw[hat2]at hcut2;have h0':(ji (nmL L (i+1)))[i*6]? =some (.str t.text):=by
   have:=qeQ (L:=nmL L (i+1)) (i:=i) (k:=0) (by rw[qdh];exact hi) om
   rw[hat2]at this;exact this
  have hS2:List.take (i*6+1) (ji (nmL L (i+1)))++ [AV.str t.text]++List.drop (i*6+1+1) (ji (nmL L (i+1)))=ji (nmL L (i+1)):=by
   refine qf0 ?_;rw[qeQ (by rw[qdh];exact hi) om,hat2];rfl
  obtain⟨f,hf,hf2⟩:=qrT gt;have c1:=fun h=>qEC (tkN t) f h hf hf2
  have ho2:zk v 103 (ji (nmL L (i+1)))= .mem v 103 (ji (nmL L (i+1))):=by
   unfold zk;rw[ine fun e=> ?_]
   have:=congrArg List.length e
   rw[hL2,lnl]at this;omega
  rcases qrU gt lt with⟨q1,q2,q3⟩|⟨q1,q2⟩
  ·have hiw:(!qiS (tkN t).flags&& !mkB (tkN t).flags)=true:=by rw[show (tkN t).flags=t.flags from rfl,q1,q2];rfl
   rw[hiw]at c1;have c2:=fun h=>qDs t.text h lt q3
   simp (disch:=omega) only[k1,s1,s2,s4,hM,g0,b1,b2,b3,hS,hL2,hcut2,go_sem]
   repeat' first
    |((first|refine cA (c1 _) ?_ ?_|refine cA (c2 _) ?_ ?_);exact flk;simp (disch:=omega) only[k1,s1,s2,s4,b1,b2,hL2,h0',hS2,go_sem])
    |with_reducible apply aiA
   all_goals try exact clz
   refine hK _ _ (i+1) hi om ?_;rw[ho2];refine Wk.temps ?_
   (simp only[go_sem,qg,qc,qa,qf];try (repeat' first|(with_reducible apply aiA)|(apply qh;omega)|(apply qe;rfl)|exact qi))
  ·have hiw:(!qiS (tkN t).flags&& !mkB (tkN t).flags)=false:=by rw[show (tkN t).flags=t.flags from rfl,q1,q2];rfl
   rw[hiw]at c1;simp (disch:=omega) only[k1,s1,s2,s4,hM,g0,b1,b2,b3,hS,hL2,hcut2,go_sem]
   repeat' first
    |(refine cA (c1 _) flk ?_;simp (disch:=omega) only[k1,s1,b1,hL2,go_sem])
    |with_reducible apply aiA
   all_goals try exact clz
   refine hK _ _ (i+1) hi om ?_;rw[ho2];refine Wk.temps ?_
   (simp only[go_sem,qg,qc,qa,qf];try (repeat' first|(with_reducible apply aiA)|(apply qh;omega)|(apply qe;rfl)|exact qi))
 have k1:((i:Int)<L.length)=False:=eqf om;obtain rfl:i=L.length:=by omega
 simp (disch:=omega) only[k1,go_sem];rw[qu4];refine qaq ⟨trivial,trivial,trivial⟩ qL (fun o ho=>(jk ho).imp id (fun e=>by rw[e];exact jt (kr _ _))) ⟨rfl,rfl⟩ ?_;simp only[go_sem];rw[ine om];exact qi
end RC
end
section
open Go Go.Proofs AF HY LN
namespace AF
theorem qv4{h:List AObj}{a b c:Nat}{X Y Z o:AObj}(ho:o∈tri h a b c X Y Z):o∈h∨o=X∨o=Y∨o=Z:=by
 unfold tri at ho;rcases jk ho with h1|rfl
 ·rcases jk h1 with h1|rfl
  ·rcases jk h1 with h1|rfl
   ·exact .inl h1
   ·exact .inr (.inl rfl)
  ·exact .inr (.inr (.inl rfl))
 ·exact .inr (.inr (.inr rfl))
theorem qA9{h l:List AObj}{a b c k:Nat}{X Y Z:AObj}(hk:k<h.length)(ha:k≠a)(hb:k≠b)(hc:k≠c):qr k (tri h a b c X Y Z++l)=qr k h:=by
 rw[zz (by rw[tri_len];exact hk)];unfold tri;rw[qS hc,qS hb,qS ha]
theorem qBa{h l:List AObj}{a b c k:Nat}{X Y Z o:AObj}(hk:k<h.length)(ha:k≠a)(hb:k≠b)(hc:k≠c):qn k (tri h a b c X Y Z++l) o=tri (qn k h o) a b c X Y Z++l:=by
 rw[zC (by rw[tri_len];exact hk)];unfold tri;rw[kI hc,kI hb,kI ha]
theorem qsZ{h:List AObj}{a b c:Nat}{X Y Z:AObj}(ha:qr a h=some X)(hb:qr b h=some Y)(hc:qr c h=some Z):tri h a b c X Y Z=h:=by
 unfold tri;rw[jK ha,jK hb,jK hc]
end AF
namespace RC
theorem qeJ{v n:Nat}{L:List Tk}{ty:TypeId}{fz:Nat→Bool}{h:List AObj}{d:Nat}(hn:n=L.length):VLe (qhW (some (zk v ty (ji L))) v 6 0 n (rei fz h (d+1))) (zT L):=by
 subst hn;unfold zk;split
 ·rename_i e
  have:L= []:=by
   cases L with
   |nil=>rfl
   |cons a r=>exact absurd e (by simp[ji,tkC])
  subst this;rw[slOf_emp,ipo rfl];exact zf
 ·rw[slOf_mem,ipo ⟨rfl,by rw[jL];omega⟩];refine VLe.sl_eq rfl (fun i hi=> ?_);simp only[Nat.zero_add];rw[qbM hi];rfl
theorem qFU(t:Tk)(h:List AObj):ACalls Tryz.prog 224 [.agg (tkC t)] h (.bool (decide (64<t.text.length))) h:=by
 by_cases g:64<t.text.length
 ·have k1:((64:Int)<t.text.length)=True:=eqt om;rw[dqt g];refine acO qsw ?_;simp (disch:=omega) only[qtx,tkC,k1,go_sem]
  repeat' first
   |(apply qb;exact rvk;simp only[go_sem];exact qi)
 ·have k1:((64:Int)<t.text.length)=False:=eqf om;rw[dqf g];refine acO qsw ?_;simp (disch:=omega) only[qtx,tkC,k1,go_sem]
  repeat' first
   |(apply qb;exact rvk;simp only[go_sem];exact qi)
theorem qFr(L:List Tk)(h:List AObj)(hl:L.length≤1000000000):ACalls Tryz.prog 161 [zT L,.fn (.func 224) [] []] h (.bool (quS L)) h:=
 qyg qsm ⟨rfl,rfl⟩ ⟨rfl,rfl⟩ (qgv qsr L.length (fun j=>tkC (L.getD j default)) (fun j=> .agg (tkC (L.getD j default))) 224 [] [] (fun j=>decide (64<(L.getD j default).text.length)) h (fun i _=>⟨rfl,by simp[kB,tkC],rfl,rfl,rfl⟩) (fun i _=>qFU _ _) om)
end RC
end
