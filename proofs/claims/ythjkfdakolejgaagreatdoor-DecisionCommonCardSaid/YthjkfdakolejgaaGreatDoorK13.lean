import Derived.Test.YthjkfdakolejgaaGreatDoorK12
import Derived.Test.YthjkfdakolejgaaGreatDoorK3
import Derived.Test.YthjkfdakolejgaaGreatDoorK5
import Derived.Test.YthjkfdakolejgaaGreatDoorK8
import Derived.Test.YthjkfdakolejgaaGreatDoorProg
set_option linter.all false
set_option linter.unusedSimpArgs false
set_option linter.unusedVariables false
set_option linter.unusedSectionVars false
set_option maxHeartbeats 128000000
set_option maxRecDepth 100000
section
open Go Go.Proofs AF HY LN
namespace AF
theorem LowI.retY{h hh xs ys:List AObj}{ts:List AV}{L:LInfo}(s:LS)(hl:LowI h hh)(hts: ∀c∈ts,qU (h.length+1) c=true)(hy:ys.length=xs.length)(hz: ∀o∈ys,o∈xs∨ ∀n,lowO n o):
  (hh++ .lp s ts L::ys).length=(h++ .lp .ready ts L::xs).length∧ ∀o∈hh++ .lp s ts L::ys,o∈h++ .lp .ready ts L::xs∨lowO (h++ .lp .ready ts L::xs).length o:=by
 refine⟨by simp[hl.1,hy],fun o ho=> ?_⟩;rcases List.mem_append.1 ho with ho|ho
 ·rcases hl.2 o ho with h1|⟨h1,_⟩
  ·exact .inl (List.mem_append_left _ h1)
  ·exact .inr (lowO_mono (by simp) h1)
 ·rcases List.mem_cons.1 ho with rfl|ho
  ·exact .inr (fun c hc=>kB (by simp) c (hts c hc))
  ·rcases hz o ho with h1|h1
   ·exact .inl (List.mem_append_right _ (List.mem_cons_of_mem _ h1))
   ·exact .inr (h1 _)
end AF
namespace RC
def atC(k:Int)(c:UInt8):List AV:= [.int .i64 k,.int .u8 (c.toNat:Int),.int .i64 0,.str [],.int .i64 0,.bool false,.str []]
def atX(s:Str):List (List AV):=s.map fun c=> [.agg (atC 1 c)]
theorem qcU(s:Str):(atX s).length=s.length:=by unfold atX;simp
theorem qrK{s:Str}{i:Nat}(hi:i<(atX s).length):(atX s)[i]= [.agg (atC 1 (ch s i))]:=by
 have:i<s.length:=by rw[qcU]at hi;exact hi
 simp[atX,ch,gdqA,this]
def quV(s:Str)(j:Nat):UInt8:=if j=0 then 0 else ch s (j-1)
def cyA(n:Nat):AObj:= .mem 1 281 [.yld n]
def cxA(k:Int)(c:UInt8):AObj:= .mem 1 253 (atC k c)
def ceA(n:Nat):AObj:= .mem 1 282 [.fn (.func 253) [] [.op (n+2) 1 0,.op (n+1) 1 0,.op (n+3) 1 0]]
theorem qll(k:Int)(c:UInt8): ∀n,lowO n (cxA k c):=fun n d hd=>by
 simp[atC]at hd;rcases hd with rfl|rfl|rfl|rfl|rfl|rfl|rfl<;>rfl
section
variable {n : Nat} {hh m : List AObj} {st : LS} {ts : List AV} {LI : LInfo} {k : Int} {c : UInt8} {X : AObj}
theorem qBG(hl:hh.length=n):cellsOf (hh++ .lp st ts LI::cyA n::X::ceA n::m) (n+1) 1=some [.yld n]:=qQ (show qr _ _=some (cyA n) by subst hl;unfold qr;simp)
theorem qBH(hl:hh.length=n):qr (n+2) (hh++ .lp st ts LI::cyA n::X::ceA n::m)=some X:=by subst hl;unfold qr;simp
theorem qwn{Y:AObj}(hl:hh.length=n):qo (n+2) (hh++ .lp st ts LI::cyA n::X::ceA n::m) Y=hh++ .lp st ts LI::cyA n::Y::ceA n::m:=by subst hl;unfold qo;simp
end
theorem eachT(s:Str)(hl:s.length≤1000000)(h:List AObj)(ts:List AV)(LI:LInfo)(S:Nat→List AObj→Prop)(E:LS→List AObj→Prop)(hS: ∀i hh,S i hh→LowI h hh)(hE: ∀s hh,E s hh→LowI h hh)
  (body: ∀i hh tl,(hi:i<(atX s).length)→S i hh→ke Tryz.prog h.length ((atX s)[i]) (hh++ .lp .ready ts LI::tl) (fun r h'=> ∃hh',(r= .bool true∧S (i+1) hh'∧h'=hh'++ .lp .ready ts LI::tl)∨(∃s,r= .bool false∧E s hh'∧h'=hh'++ .lp s ts LI::tl)))
  (start:S 0 h) (hts: ∀c∈ts,qU (h.length+1) c=true):
  zZ Tryz.prog 253 [j9 s,.op (h.length+2) 1 0,.op (h.length+1) 1 0,.op (h.length+3) 1 0] (h++ [.lp .ready ts LI,cyA h.length,cxA 0 0,ceA h.length])
   (fun r h'=> ∃hh' c,(r= .bool true∧S s.length hh'∧h'=hh'++ [.lp .ready ts LI,cyA h.length,cxA 1 c,ceA h.length])∨(∃st,r= .bool false∧E st hh'∧h'=hh'++ [.lp st ts LI,cyA h.length,cxA 1 c,ceA h.length])):=by
 refine acQ qyZ ?_;simp (disch:=omega) only[qxm,j9,ndC,go_sem];have key: ∀(hh:List AObj) (k:Int) (c:UInt8),hh.length=h.length→ ∃B,B=hh++ [AObj.lp LS.ready ts LI,cyA h.length,cxA k c,ceA h.length]∧B.length=h.length+4∧qr (h.length+2) B=some (cxA k c)∧(∀Y m,cellsOf (qo (h.length+2) B Y++m) (h.length+1) 1=some [.yld h.length])∧
   (∀Y m,qo (h.length+2) B Y++m=hh++ [AObj.lp LS.ready ts LI,cyA h.length,Y,ceA h.length]++m):=fun hh k c hl=>by
  refine⟨_,rfl,by simp[hl],qBH (m:= []) hl,fun Y m=> ?_,fun Y m=> ?_⟩
  ·rw[qwn (m:= []) hl];have e:hh++ [AObj.lp LS.ready ts LI,cyA h.length,Y,ceA h.length]++m=hh++ .lp .ready ts LI::cyA h.length::Y::ceA h.length::m:=by simp
   rw[e];exact qBG hl
  ·rw[qwn (m:= []) hl]
 have ea: ∀(g:List AObj) st (X:AObj) m,g++ [AObj.lp st ts LI,cyA h.length,X,ceA h.length]++m=g++ .lp st ts LI::cyA h.length::X::ceA h.length::m:=fun g st X m=>by simp
 refine qt (T:=fun i:Nat×List AObj×AObj×AObj×UInt8=>qY 93 [(1,.op (h.length+2) 1 0),(2,.op (h.length+1) 1 0),(3,.op (h.length+3) 1 0),(11,j9 s),(12,.int .i64 ((1:Nat):Int)),(13,.int .i64 i.1)])
  (H:=fun i=>i.2.1++ [.lp .ready ts LI,cyA h.length,cxA (if i.1=0 then 0 else 1) i.2.2.2.2,ceA h.length]++ [i.2.2.1,i.2.2.2.1])
  (inv:=fun i=>i.1≤1∧S (if i.1=0 then 0 else s.length) i.2.1∧qI [i.2.2.1] 0=true∧qI [i.2.2.2.1] 0=true∧(i.1=0→i.2.2.2.2=0)) (m:=fun i=>1-i.1) (0,h,.emp 0,.emp 0,0) ⟨nzl _,start,rfl,rfl,fun _=>rfl⟩ (Wk.temps ?_) ?_
 ·(simp only[j9,ndC,go_sem,qh,qc,qa,qg];try (repeat' first|(with_reducible apply aiA)|(apply qf;omega)|(apply qe;rfl)|exact qi))
 rintro⟨i,hh,O7,O9,c⟩ ⟨i1,i2,i3,i4,i5⟩ K hK;simp only at i1 i2 i3 i4 i5 hK;obtain⟨hlen,hlow⟩:=hS _ _ i2;have i3': ∀m,qI (O7::m) 0=true:=fun _=>i3
 have i4': ∀m,qI (O9::m) 0=true:=fun _=>i4
 by_cases hi:i<1
 ·obtain rfl:i=0:=by omega
  obtain rfl:=i5 rfl;rw[ipo rfl]at i2;obtain⟨B,hB,hBl,hk,d1,d2⟩:=key hh 0 0 hlen;have hb:(h++ [AObj.lp LS.ready ts LI,cyA h.length,cxA 0 0,ceA h.length]).length=B.length:=by rw[hBl];simp
  have hkl:h.length+2<B.length:=by omega
  have s1: ∀ {l w cs z},cellsOf (qo (h.length+2) B (.mem w 253 cs)++l) (h.length+2) z=if w=z then some cs else none:=qae hkl
  have s2: ∀ {l o o'},qo (h.length+2) (qo (h.length+2) B o++l) o'=qo (h.length+2) B o'++l:=qeA hkl;have s4: ∀ {l o},qr (h.length+2) (qo (h.length+2) B o++l)=some o:=qcH hkl;show qW _ _ _ _ _ (hh++ [.lp .ready ts LI,cyA h.length,cxA 0 0,ceA h.length]++ [O7,O9]);rw[hb,←hB];have hB0:B=qo (h.length+2) B (.mem 1 253 (atC 0 0)):=(jI hk).symm;rw[show B++ [O7,O9]=qo (h.length+2) B (.mem 1 253 (atC 0 0))++ [O7,O9]from by rw[←hB0]];unfold atC;simp (disch:=omega) only[j9,ndC,i3',go_sem]
  repeat' first
   |with_reducible first|intro _|apply aiA
  all_goals try exact clz
  refine ku ?T ?H ?h1 ?h2
  case h1=>
   simp (disch:=omega) only[s1,s2,s4,go_sem]
   repeat' first
    |with_reducible apply aiA
   all_goals first
    |omega
    |rfl
    |skip
  case h2=>
  simp (disch:=omega) only[s1,s2,s4,go_sem]
  repeat' first
   |with_reducible first|intro _|apply aiA
  all_goals try exact clz
  rw[d2];obtain⟨O7',hO7⟩: ∃O7',O7'=AObj.mem (qq (some O7)+1) 189 (ndC s):=⟨_,rfl⟩
  refine qt (T:=fun j:Nat×List AObj=>qY 93 [(1,.op (h.length+2) 1 0),(2,.op (h.length+1) 1 0),(3,.op (h.length+3) 1 0),(7,.op B.length (qq (some O7)+1) 0),(11,j9 s),(12,.int .i64 ((1:Nat):Int)),(13,.int .i64 ((0:Nat):Int)),(70,.int .i64 s.length),(71,.int .i64 j.1)])
   (H:=fun j=>j.2++ [.lp .ready ts LI,cyA h.length,cxA 1 (quV s j.1),ceA h.length]++ [O7',O9])
   (inv:=fun j=>j.1≤s.length∧S j.1 j.2) (m:=fun j=>s.length-j.1) (0,hh) ⟨nzl _,i2⟩ ?_ ?_
  ·rw[hO7];refine Wk.temps ?_
   (simp only[j9,ndC,go_sem,qh,qc,qa,qg];try (repeat' first|(with_reducible apply aiA)|(apply qf;omega)|(apply qe;rfl)|exact qi))
  rintro⟨j,hj⟩ ⟨j1,j2⟩ K' hK';simp only at j1 j2 hK';obtain⟨jlen,jlow⟩:=hS _ _ j2;obtain⟨C,hC,hCl,ck,e1,e2⟩:=key hj 1 (quV s j) jlen;have ckl:h.length+2<C.length:=by omega
  have t1: ∀ {l w cs z},cellsOf (qo (h.length+2) C (.mem w 253 cs)++l) (h.length+2) z=if w=z then some cs else none:=qae ckl
  have t2: ∀ {l o o'},qo (h.length+2) (qo (h.length+2) C o++l) o'=qo (h.length+2) C o'++l:=qeA ckl;have t4: ∀ {l o},qr (h.length+2) (qo (h.length+2) C o++l)=some o:=qcH ckl;show qW _ _ _ _ _ (hj++ [.lp .ready ts LI,cyA h.length,cxA 1 (quV s j),ceA h.length]++ [O7',O9]);have hbc:B.length=C.length:=by rw[hBl,hCl]
  simp only[hbc];rw[←hC];have hC0:C=qo (h.length+2) C (.mem 1 253 (atC 1 (quV s j))):=(jI ck).symm;rw[show C++ [O7',O9]=qo (h.length+2) C (.mem 1 253 (atC 1 (quV s j)))++ [O7',O9]from by rw[←hC0]];unfold atC;rw[hO7]
  by_cases hjl:j<s.length
  ·have k1:((j:Int)<s.length)=True:=eqt om;have e:(s[j]?).getD 0=ch s j:=by simp[ch,gdqA]
   have hb':=fun tl=>body j hj tl (by rw[qcU];exact hjl) j2
   simp only[qrK,atC]at hb';simp (disch:=omega) only[j9,ndC,t1,t2,t4,k1,e,e1,go_sem]
   repeat' first
    |with_reducible apply aiA
   all_goals try exact clz
   ·rw[e2,ea];exact⟨.ready,ts,LI,kK jlen⟩
   ·rw[e2,ea];refine ke.mono ?_ (hb' _);rintro v h' ⟨hh',⟨rfl,hn,rfl⟩|⟨st,rfl,hs',rfl⟩⟩
    ·simp (disch:=omega) only[go_sem];rw[←ea];refine hK' _ _ (j+1,hh') ⟨hjl,hn⟩ (by simp only;omega) ?_;simp only[hO7,quV,Nat.add_sub_cancel,hbc];rw[ine om];refine Wk.temps ?_
     (simp only[j9,ndC,go_sem,qh,qc,qa,qg];try (repeat' first|(with_reducible apply aiA)|(apply qf;omega)|(apply qe;rfl)|exact qi))
    ·simp (disch:=omega) only[go_sem];rw[←ea hh' st];obtain⟨r1,r2⟩:=(hE _ _ hs').retY (L:=LI) (xs:= [cyA h.length,cxA 0 0,ceA h.length]) (ys:= [cyA h.length,cxA 1 (ch s j),ceA h.length]) st hts rfl (fun o ho=>by
      simp only[List.mem_cons,List.not_mem_nil,or_false]at ho;rcases ho with rfl|rfl|rfl
      ·left;simp
      ·right;exact qll 1 _
      ·left;simp)
     exact qaj ⟨trivial,trivial⟩ r1 r2 ⟨hh',ch s j,.inr ⟨st,rfl,hs',rfl⟩⟩ (qi)
  have k1:((j:Int)<s.length)=False:=eqf om;obtain rfl:j=s.length:=by omega
  simp (disch:=omega) only[j9,ndC,k1,go_sem];rw[e2];refine hK _ _ (1,hj,O7',O9,quV s s.length) ⟨nlr _,j2,by rw[hO7];rfl,i4,fun h=>absurd h (by simp)⟩ (by simp only;omega) ?_;simp only[hO7];refine Wk.temps ?_
  (simp only[j9,ndC,go_sem,qh,qc,qa,qg];try (repeat' first|(with_reducible apply aiA)|(apply qf;omega)|(apply qe;rfl)|exact qi))
 ·obtain rfl:i=1:=by omega
  have i2:S s.length hh:=i2;show qW _ _ _ _ _ (hh++ [.lp .ready ts LI,cyA h.length,cxA 1 c,ceA h.length]++ [O7,O9]);simp (disch:=omega) only[j9,ndC,go_sem]
  repeat' first
   |with_reducible first|intro _|apply aiA
  all_goals try exact clz
  obtain⟨r1,r2⟩:=(hS _ _ i2).retY (L:=LI) (xs:= [cyA h.length,cxA 0 0,ceA h.length]) (ys:= [cyA h.length,cxA 1 c,ceA h.length]) .ready hts rfl (fun o ho=>by
   simp only[List.mem_cons,List.not_mem_nil,or_false]at ho;rcases ho with rfl|rfl|rfl
   ·left;simp
   ·right;exact qll 1 c
   ·left;simp)
  exact qaj ⟨trivial,trivial⟩ r1 r2 ⟨hh,c,.inl ⟨rfl,i2,rfl⟩⟩ (qi)
end RC
end
section
open Go Go.Proofs AF HY LN
namespace RC
theorem itA(s:Str)(hl:s.length≤1000000):qou Tryz.prog 252 [.ip [.str [],.int .i64 0],.ip [j9 s]] (atX s):=by
 intro h ts LI S E hS hE body start hts;have hb:(h++ [AObj.lp LS.ready ts LI]).length=h.length+1:=by simp
 have ea: ∀st,h++ [AObj.lp st ts LI]++ [.mem 1 281 [.yld h.length],.mem 1 253 [.int .i64 0,.int .u8 0,.int .i64 0,.str [],.int .i64 0,.bool false,.str []],.mem 1 282 [.fn (.func 253) [] [.op (h.length+2) 1 0,.op (h.length+1) 1 0,.op (h.length+3) 1 0]]]=h++ [AObj.lp st ts LI,cyA h.length,cxA 0 0,ceA h.length]:=fun st=>by simp[cyA,cxA,ceA,atC]
 refine acQ qyY ?_;simp (disch:=omega) only[qxl,j9,go_sem]
 repeat' first
  |with_reducible apply aiA
 all_goals try exact clz
 simp only[hb,Nat.add_assoc,Nat.reduceAdd,ea];refine qkP (eachT s hl h ts LI S E hS hE body start hts) ?_;rintro v h' ⟨hh',c,⟨rfl,hn,rfl⟩|⟨st,rfl,hs',rfl⟩⟩
 ·simp (disch:=omega) only[go_sem];obtain⟨r1,r2⟩:=(hS _ _ hn).retX (L:=LI) (xs:= []) .ready hts;have eO:hh'++ [.lp .ready ts LI,cyA h.length,cxA 1 c,ceA h.length]=(hh'++ [.lp .ready ts LI])++ [cyA h.length,cxA 1 c,ceA h.length]:=by simp
  rw[eO];exact zL trivial r1 r2 ⟨hh',.inl ⟨by rw[qcU];exact hn,rfl⟩⟩ (qi)
 ·simp (disch:=omega) only[go_sem];obtain⟨r1,r2⟩:=(hE _ _ hs').retX (L:=LI) (xs:= []) st hts;have eO:hh'++ [.lp st ts LI,cyA h.length,cxA 1 c,ceA h.length]=(hh'++ [.lp st ts LI])++ [cyA h.length,cxA 1 c,ceA h.length]:=by simp
  rw[eO];exact zL trivial r1 r2 ⟨hh',.inr ⟨st,hs',rfl⟩⟩ (qi)
theorem qEn(s:Str)(h:List AObj):ACalls Tryz.prog 221 [.agg [.str [],.int .i64 0],j9 s] h (.fn (.func 252) [] [.ip [.str [],.int .i64 0],.ip [j9 s]]) h:=by
 refine acO qyM ?_;simp (disch:=omega) only[qxa,j9,ndC,go_sem]
 repeat' first
  |(apply qb;exact rvk;simp only[go_sem];exact qi)
end RC
end
section
open Go Go.Proofs AF HY RC LN
namespace HY
theorem qbR(w:World)(b d:Nat)(v:Value):w.grownBy (w.setCell ⟨b,d,none⟩ v) (some b):=by
 unfold World.setCell;refine⟨rfl,rfl,rfl,?_,fun k hk hne=> ?_⟩
 ·simp
 ·have:b≠k:=fun e=>hne (by rw[e])
  simp[Array.getElem?_modify,this]
theorem qCQ(n:Nat)(hn:6≤n):liesAt Tryz.prog Tryz.prog.depth 248 (n/Tryz.prog.cellsOf 248) 1 155 1=true:=by
 have e1:Tryz.prog.cellsOf 248=6:=by kernel_rfl
 have h1:liesAt Tryz.prog Tryz.prog.depth 248 1 1 155 1=true:=by kernel_rfl
 rw[e1];exact qc8 om _ h1
theorem ccT(kb vb:Nat)(z0 z1 z2 z3:AV)(A B:AV)(h:List AObj)(hk:qr kb h=some (.mem vb 248 [z0,A,B,z1,z2,z3]))(hA:A= .nilp∨A= .op kb vb 1):ACalls Tryz.prog 153 [.op kb vb 1] h (.tup []) (qo kb h (.mem vb 248 [z0,.op kb vb 1,B,z1,z2,z3])):=by
 refine⟨quB Tryz.func153 (by kernel_rfl) (by kernel_rfl),fun w σ xs H hv=> ?_⟩;obtain⟨x,rfl,hx⟩:=hv.one;have hc:=qQ hk;obtain⟨cs,o,b,arr,g1,rfl,g2,g3,g4,g5,g6,g7,g9,g8⟩:=kC H hx (by rw[hc];rfl);rw[hc]at g1;cases g1;have hobj:=H.obj kb _ o hk g2;obtain⟨_,hty,_⟩:=hobj;rw[hty]at g5;have g5b:=g5;have g5:=g5.plain (by decide);have hsz:6≤arr.size:=g7;have hc0:w.cell? ⟨b,1,none⟩=some arr[1]:=by rw[jY g5b];simp
 have hA0:=g8 1 A arr[1] rfl (by simp);have hsh:w.shape? b=some (248,arr.size):=by simp[World.shape?,g5]
 have hfz:w.frozen? ⟨b,1,none⟩=false:=by simp[World.frozen?,g5]
 have hkl:=zE hk;rcases hA with rfl|rfl
 ·rw[qeR hA0]at hc0;refine (callsIn_wide.2 (qg8 b 1 248 arr.size w hc0 om hsh hfz (qCQ _ hsz))).mono ?_;rintro e w' ⟨rfl,rfl⟩;have hg:w.grownBy (w.setCell ⟨b,1,none⟩ (.pointer (some ⟨b,1,none⟩))) o.blk:=by rw[g4];exact qbR w b 1 _
  have hh:=heap_setCell_same w b 1 arr 248 (.pointer (some ⟨b,1,none⟩)) g5;obtain⟨u1,u2⟩:=H.update (o':=o) (a':= .mem vb 248 [z0,.op kb vb 1,B,z1,z2,z3]) g2 hg (nlr _) (fun _=>rfl)
   (by intro b' e;rw[g4]at e;cases e;exact⟨.inl g4,(Array.getElem?_eq_some_iff.1 hh).1⟩) (fun b' r e hr=>by rw[g4]at e;cases e;rw[g5]at hr;cases hr)
   (fun e=>⟨g3,hty,b,_,g4,by rw[hty];exact .mk hh,by simp[g6],by simp;exact hsz,fun i y hi hy=>by
    simp only[Array.getElem?_setIfInBounds]at hy;split at hy
    ·split at hy
     ·cases hy;rfl
     ·cases hy
    ·exact g9 i y (by simpa using hi) hy,fun i c y hc hy=>by
    simp only[Array.getElem?_setIfInBounds]at hy;split at hy
    ·rename_i e0;split at hy
     ·cases hy;subst e0;simp at hc;subst hc;have hko:(σ.set kb o)[kb]? =some o:=by rw[List.getElem?_set_self (by rw[H.len];exact hkl)]
      exact .op o hko ⟨_,rfl⟩ om (fun _=>⟨b,g4,rfl⟩)
     ·cases hy
    ·rename_i e0;have hne:i≠1:=fun e1=>e0 e1.symm
     have hcs: [z0,.op kb vb 1,B,z1,z2,z3]= [z0,.nilp,B,z1,z2,z3].set 1 (.op kb vb 1):=rfl;rw[hcs,List.getElem?_set_ne (fun e1=>hne e1.symm)]at hc
     exact (g8 i c y hc hy).ext e⟩)
  exact⟨_,_,rfl,u1,.imm (.tup rfl (fun i c x hc=>by simp at hc)),u2⟩
 ·obtain⟨o',q1,q2,q3⟩:=qvF hA0;rw[g2]at q1;cases q1;obtain⟨b',q4,q5⟩:=q3 g3;rw[g4]at q4;cases q4;rw[q5]at hc0;refine (callsIn_wide.2 (qkU b 1 w hc0)).mono ?_;rintro e w' ⟨rfl,rfl⟩;rw[jI hk];exact⟨_,σ,rfl,H,.imm (.tup rfl (fun i c x hc=>by simp at hc)),Ext.refl w' σ⟩
theorem qg6{kb vb kj v m:Nat}{z0 z1 z2 z3:AV}{h:List AObj}{s:List UInt8}(lz0:qU h.length z0=true)(lz1:qU h.length z1=true)(lz2:qU h.length z2=true)(lz3:qU h.length z3=true)(hkl:kb<h.length)(hjl:kj<h.length): ∀o∈qo kj (qo kb h (.mem vb 248 [z0,.op kb vb 1,.osl kj v 1 0 m,z1,z2,z3])) (qdm v s),o∈h∨lowO h.length o:=by
 intro o ho;rcases jh ho with h1|rfl
 ·rcases jh h1 with h2|rfl
  ·exact .inl h2
  ·right;intro c hc;simp only[List.mem_cons,List.not_mem_nil,or_false]at hc;rcases hc with rfl|rfl|rfl|rfl|rfl|rfl
   ·exact lz0
   ·simpa[qU] using hkl
   ·simpa[qU] using hjl
   ·exact lz1
   ·exact lz2
   ·exact lz3
 ·exact .inr (ja v s _)
theorem qFw(kb vb kj v:Nat)(z0 z1 z2 z3:AV)(A:AV)(s:List UInt8)(u:UInt8)(h:List AObj)(lz0:qU h.length z0=true)(lz1:qU h.length z1=true)(lz2:qU h.length z2=true)(lz3:qU h.length z3=true)(hne:kj≠kb)(hk:qr kb h=some (.mem vb 248 [z0,A,.osl kj v 1 0 s.length,z1,z2,z3]))(hA:A= .nilp∨A= .op kb vb 1)(hj:qr kj h=some (qdm v s))(hl:s.length+1≤140737488355328):
  ACalls Tryz.prog 280 [.op kb vb 1,.int .u8 u.toNat] h .nilif (qo kj (qo kb h (.mem vb 248 [z0,.op kb vb 1,.osl kj (v+1) 1 0 (s.length+1),z1,z2,z3])) (qdm (v+1) (s++ [u]))):=by
 have hkl:=zE hk;have hjl:=zE hj;have hne':kb≠kj:=fun e=>hne e.symm
 have hj0:kj≠h.length:=by omega
 have hj1:kj≠h.length+1:=by omega
 have hk1: ∀l,qr kb (h++l)=some (.mem vb 248 [z0,A,.osl kj v 1 0 s.length,z1,z2,z3]):=fun l=>by rw[zw hkl,hk]
 refine acO qy6 ?_;simp (disch:=omega) only[qxt,go_sem];refine qy (ccT kb vb z0 z1 z2 z3 A _ _ (hk1 _) hA) ⟨rfl,trivial⟩ ?_
 by_cases hs:s= []
 ·subst hs;rw[qcD]at hj;simp (disch:=omega) only[zy,jl,qR,qej,qek,qey,qez,zN,jm,ql,qdP,hj,ze,go_sem]
  repeat' first
   |(with_reducible apply aiA)
  all_goals first
   |omega
   |(rw[bne_iff_ne];exact hj0)
   |(simp;done)
   |skip
  rw[qd7 hne',show AObj.mem (v+1) 5 [AV.int IntKind.u8 u.toNat]=qdm (v+1) [u]from (qa0 (s:= [u]) (by simp) _).symm];exact qaj ⟨trivial,trivial⟩ (by simp only[qK]) (qg6 lz0 lz1 lz2 lz3 hkl hjl) ⟨rfl,rfl⟩ (qi)
 ·rw[qa0 hs]at hj;simp (disch:=omega) only[zy,jl,qR,qej,qek,qey,qez,zN,jm,ql,qaQ,hj,jx,ze,go_sem]
  repeat' first
   |(with_reducible apply aiA)
  all_goals first
   |omega
   |(rw[bne_iff_ne];exact hj0)
   |(simp[jx];done)
   |skip
  rw[qd7 hne',ltl (by simp[jx]),show zD s++ [AV.int IntKind.u8 u.toNat]=zD (s++ [u])from (qdD s [u]).symm,←qa0 (s:=s++ [u]) (by simp)];exact qaj ⟨trivial,trivial⟩ (by simp only[qK]) (qg6 lz0 lz1 lz2 lz3 hkl hjl) ⟨rfl,rfl⟩ (qi)
theorem qFf(kb vb kj v:Nat)(z0 z1 z2 z3:AV)(A:AV)(s:List UInt8)(h:List AObj)(hne:kj≠kb)(hk:qr kb h=some (.mem vb 248 [z0,A,.osl kj v 1 0 s.length,z1,z2,z3]))(hj:qr kj h=some (qdm v s)):
  ACalls Tryz.prog 118 [.op kb vb 1] h (.str s) (qo kj h (.emp (v+1))):=by
 refine⟨quB Tryz.func118 (by kernel_rfl) (by kernel_rfl),fun w σ xs H hv=> ?_⟩;obtain⟨x,rfl,hx⟩:=hv.one;have hc:=qQ hk;obtain⟨cs,o,b,arr,g1,rfl,g2,g3,g4,g5,g6,g7,g9,g8⟩:=kC H hx (by rw[hc];rfl);rw[hc]at g1;cases g1;have hty:=(H.obj kb _ o hk g2).2.1;rw[hty]at g5;have g5b:=g5;have g5:=g5.plain (by decide);have hsz:6≤arr.size:=g7;have hc1:w.cell? ⟨b,1+1,none⟩=some arr[1+1]:=by rw[jY g5b];simp
 have hB:=g8 (1+1) _ arr[1+1] rfl (by simp);obtain⟨oj,j1,j2,j3⟩:=qoq hB;have hobj:=H.obj kj _ oj hj j1;have hkj:=zE hj
 by_cases hs:s= []
 ·subst hs;rw[qcD]at hj hobj;obtain⟨m1,m2⟩:=hobj;rcases j3 m1 with⟨_,_,_,e⟩|⟨b',cap,e,_⟩
  ·rw[e]at hc1;refine (callsIn_wide.2 (qhO b 1 w hc1)).mono ?_;rintro e w' ⟨rfl,rfl⟩;obtain⟨u1,u2⟩:=H.update (w':=w.drew) (o':= { oj with blk:=none,ver:=v+1 }) (a':= .emp (v+1)) j1 ⟨rfl,rfl,rfl,nlr _,fun _ _ _=>rfl⟩ (by simp only;omega) (by simp only;omega) (by intro b' e;cases e) (fun b' r e hr=>⟨r,hr⟩) (fun _=>⟨rfl,rfl⟩);exact⟨_,_,rfl,u1,.imm .str,u2⟩
  ·rw[m2]at e;cases e
 ·rw[qa0 hs]at hj hobj;obtain⟨m1,m2,bj,arrj,m3,m4,m5,m6,m7,m8⟩:=hobj;rcases j3 m1 with⟨e,_⟩|⟨b',cap,e1,e2,e3,e4,e5⟩
  ·rw[m3]at e;cases e
  ·rw[m3]at e1;cases e1;rw[e2]at hc1;rw[m2]at m4;have m4b:=m4;have m4:=m4.plain (by decide);rw[jx]at m6;refine (callsIn_wide.2 (qhP b 1 bj cap s arrj w hs hc1 m4 e3 e4 om (fun j x hx=> ?_))).mono ?_
   ·have hjl:j<s.length:=(lgs.1 hx).1;rw[jY m4b];have ea:arrj[j]? =some arrj[j]:=by simp
    have:=m8 j (.int .u8 x.toNat) arrj[j] (by simp[zD,hx]) ea
    rw[ea,zz this]
   ·rintro e w' ⟨rfl,rfl⟩;have hg:w.grownBy (w.drew.freeze ⟨bj,0,none⟩ s.length) oj.blk:=by
     rw[m3];exact qcf w bj s.length
    obtain⟨u1,u2⟩:=H.update (o':= { oj with blk:=none,ver:=v+1 }) (a':= .emp (v+1)) j1 hg (by simp only;omega) (by simp only;omega) (by intro b' e;cases e)
     (fun b' r e hr=>by rw[m3]at e;cases e;rw[m4]at hr;cases hr) (fun _=>⟨rfl,rfl⟩)
    exact⟨_,_,rfl,u1,.imm .str,u2⟩
end HY
end
section
open Go Go.Proofs AF HY LN
namespace AF
def tri(h:List AObj)(a b c:Nat)(X Y Z:AObj):List AObj:=qo c (qo b (qo a h X) Y) Z
structure T3 (h:List AObj) (a b c:Nat):Prop where
 la:a<h.length
 lb:b<h.length
 lc:c<h.length
 ab:a≠b
 ac:a≠c
 bc:b≠c
section
variable {h l : List AObj} {a b c n v : Nat} {X Y Z o : AObj}
theorem T3.app(t:T3 h a b c)(l:List AObj):T3 (h++l) a b c:=by
 have:=t.la;have:=t.lb;have:=t.lc
 exact⟨by rw[lap];omega,by rw[lap];omega,by rw[lap];omega,t.ab,t.ac,t.bc⟩
theorem tri_len:(tri h a b c X Y Z).length=h.length:=by unfold tri;simp only[qK]
theorem qvy(t:T3 h a b c):tri (h++l) a b c X Y Z=tri h a b c X Y Z++l:=by
 unfold tri;rw[zy t.la,zy (by rw[qK];exact t.lb),zy (by rw[qK,qK];exact t.lc)]
theorem qao(t:T3 h a b c):qr a (tri h a b c X Y Z++l)=some X:=by
 rw[zw (by rw[tri_len];exact t.la)];unfold tri;rw[qR t.ac,qR t.ab,jl t.la]
theorem qaK(t:T3 h a b c):qr b (tri h a b c X Y Z++l)=some Y:=by
 rw[zw (by rw[tri_len];exact t.lb)];unfold tri;rw[qR t.bc,jl (by rw[qK];exact t.lb)]
theorem qap(t:T3 h a b c):qr c (tri h a b c X Y Z++l)=some Z:=by
 rw[zw (by rw[tri_len];exact t.lc)];unfold tri;rw[jl (by rw[qK,qK];exact t.lc)]
theorem qaL(t:T3 h a b c):qo a (tri h a b c X Y Z++l) o=tri h a b c o Y Z++l:=by
 rw[zy (by rw[tri_len];exact t.la)];unfold tri;rw[kE t.ac,kE t.ab,qaa]
theorem qaW(t:T3 h a b c):qo b (tri h a b c X Y Z++l) o=tri h a b c X o Z++l:=by
 rw[zy (by rw[tri_len];exact t.lb)];unfold tri;rw[kE t.bc,qaa]
theorem qaX(t:T3 h a b c):qo c (tri h a b c X Y Z++l) o=tri h a b c X Y o++l:=by
 rw[zy (by rw[tri_len];exact t.lc)];unfold tri;rw[qaa]
theorem tri_go:qr (h.length+n) (tri h a b c X Y Z++l)=l[n]? :=by
 have:= @getO_app (tri h a b c X Y Z) l n
 rwa [tri_len]at this
theorem tri_go0:qr h.length (tri h a b c X Y Z++l)=l[0]? :=by
 have:= @getO_app0 (tri h a b c X Y Z) l
 rwa [tri_len]at this
theorem tri_so:qo (h.length+n) (tri h a b c X Y Z++l) o=tri h a b c X Y Z++l.set n o:=by
 have:= @setO_app (tri h a b c X Y Z) l n o
 rwa [tri_len]at this
theorem tri_so0:qo h.length (tri h a b c X Y Z++l) o=tri h a b c X Y Z++l.set 0 o:=by
 have:= @setO_app0 (tri h a b c X Y Z) l o
 rwa [tri_len]at this
theorem tri_co:cellsOf (tri h a b c X Y Z++l) (h.length+n) v=cellsOf l n v:=by unfold cellsOf;rw[tri_go];rfl
theorem tri_co0:cellsOf (tri h a b c X Y Z++l) h.length v=cellsOf l 0 v:=by unfold cellsOf;rw[tri_go0];rfl
theorem tri_to:qI (tri h a b c X Y Z++l) (h.length+n)=qI l n:=by unfold qI;rw[tri_go];rfl
theorem tri_to0:qI (tri h a b c X Y Z++l) h.length=qI l 0:=by unfold qI;rw[tri_go0];rfl
theorem tri_lo:qz (tri h a b c X Y Z++l) (h.length+n) v=qz l n v:=by unfold qz;rw[tri_go];rfl
theorem qbE(t:T3 h a b c):cellsOf (tri h a b c X Y Z++l) a v=qu (some X) v:=by rw[zN,qao t]
theorem qbF(t:T3 h a b c):cellsOf (tri h a b c X Y Z++l) b v=qu (some Y) v:=by rw[zN,qaK t]
theorem qbG(t:T3 h a b c):cellsOf (tri h a b c X Y Z++l) c v=qu (some Z) v:=by rw[zN,qap t]
theorem qbH(t:T3 h a b c):qz (tri h a b c X Y Z++l) a v=qF (some X) v:=by rw[jm,qao t]
theorem qbI(t:T3 h a b c):qz (tri h a b c X Y Z++l) b v=qF (some Y) v:=by rw[jm,qaK t]
theorem qbJ(t:T3 h a b c):qz (tri h a b c X Y Z++l) c v=qF (some Z) v:=by rw[jm,qap t]
theorem qvA(t:T3 h a b c){X' Y' Z':AObj}:tri (tri h a b c X Y Z) a b c X' Y' Z'=tri h a b c X' Y' Z':=by
 have e1:=qaL (X:=X) (Y:=Y) (Z:=Z) (l:= []) (o:=X') t;have e2:=qaW (X:=X') (Y:=Y) (Z:=Z) (l:= []) (o:=Y') t;have e3:=qaX (X:=X') (Y:=Y') (Z:=Z) (l:= []) (o:=Z') t;simp only[lan]at e1 e2 e3
 conv=>lhs;unfold tri
 rw[show qo c (qo b (qo a h X) Y) Z=tri h a b c X Y Z from rfl,e1,e2,e3]
theorem jK(t:T3 h a b c){X' Y' Z':AObj}(hx:lowO h.length X')(hy:lowO h.length Y')(hz:lowO h.length Z'): ∀o∈tri h a b c X' Y' Z',o∈tri h a b c X Y Z∨lowO (tri h a b c X Y Z).length o:=by
 intro o ho;rw[tri_len];rw[←qvA (X:=X) (Y:=Y) (Z:=Z) t]at ho;unfold tri at ho;rcases jh ho with h1|rfl
 ·rcases jh h1 with h1|rfl
  ·rcases jh h1 with h1|rfl
   ·exact .inl h1
   ·exact .inr hx
  ·exact .inr hy
 ·exact .inr hz
end
attribute [go_sem] tri_len tri_go tri_go0 tri_so tri_so0 tri_co tri_co0 tri_to tri_to0 tri_lo
theorem ACalls.wk{P:Program}{f:FuncId}{args:List AV}{h h' h'':List AObj}{r:AV}(hc:ACalls P f args h r h')(hw:Wk [] h' [] h''):ACalls P f args h r h'':=by
 refine⟨hc.1,fun w σ xs H hv=>(hc.2 w σ xs H hv).mono ?_⟩;rintro e w' ⟨v,σ',rfl,g1,g2,g3⟩;obtain⟨σ2,s1,s2⟩:=hw w'.heap.size w' σ' { tmps:= #[],defers:= [] } ⟨g1,rfl,fun i c x hc=>(by simp at hc),⟨[],rfl,.nil,nlr _,fun r hr=>(by cases hr)⟩⟩;exact⟨v,σ2,rfl,s1.hr,g2.ext s2,g3.trans s2⟩
end AF
namespace RC
def jg(L:List Tk):List AV:=L.flatMap tkC
theorem qgO(t:Tk):(tkC t).length=6:=rfl
theorem jJ(L:List Tk):(jg L).length=L.length*6:=by
 unfold jg
 induction L with
 |nil=>rfl
 |cons a L ih=>rw[List.flatMap_cons,lap,ih,lco,qgO];omega
theorem qeI(A B:List Tk):jg (A++B)=jg A++jg B:=by simp[jg]
theorem qhR(a:Tk):jg [a]=tkC a:=by simp[jg]
theorem qnR(L:List Tk): ∀i,(jg L).take (i*6)=jg (L.take i):=by
 induction L with
 |nil=>intro i;simp[jg]
 |cons a L ih=>
  intro i;cases i with
  |zero=>simp[jg]
  |succ i=>
   rw[show jg (a::L)=tkC a++jg L from rfl,show (a::L).take (i+1)=a::L.take i from rfl,show jg (a::L.take i)=tkC a++jg (L.take i)from rfl,←ih i];rw[show (i+1)*6=(tkC a).length+i*6 by rw[qgO];omega,List.take_append,ltl om,Nat.add_sub_cancel_left]
theorem qfP(L:List Tk): ∀i,(jg L).drop (i*6)=jg (L.drop i):=by
 induction L with
 |nil=>intro i;simp[jg]
 |cons a L ih=>
  intro i;cases i with
  |zero=>simp
  |succ i=>
   rw[show jg (a::L)=tkC a++jg L from rfl,show (a::L).drop (i+1)=L.drop i from rfl,←ih i];rw[show (i+1)*6=(tkC a).length+i*6 by rw[qgO];omega,List.drop_append,List.drop_eq_nil_of_le om,lna,Nat.add_sub_cancel_left]
theorem qbD{L:List Tk}{i:Nat}(hi:i<L.length):((jg L).drop (i*6)).take 6=tkC (L.getD i default):=by
 rw[qfP,List.drop_eq_getElem_cons hi,gdqA,zH hi];rfl
theorem qhS{L:List Tk}{i:Nat}(e:Tk)(hi:i<L.length):(jg L).take (i*6)++(tkC e++(jg L).drop (i*6+6))=jg (L.set i e):=by
 rw[List.set_eq_take_append_cons_drop,ipo hi,show i*6+6=(i+1)*6 by omega,qnR,qfP,qeI];rw[show e::List.drop (i+1) L= [e]++List.drop (i+1) L from rfl,qeI,qhR]
theorem qeJ{L:List Tk}{i k:Nat}(hi:i<L.length)(hk:k<6):(jg L)[i*6+k]? =(tkC (L.getD i default))[k]? :=by
 rw[←qbD hi,List.getElem?_take,ipo hk,List.getElem?_drop]
theorem kl(L:List Tk)(n:Nat): ∀c∈jg L,qU n c=true:=by
 intro c hc;unfold jg at hc;obtain⟨x,_,hx⟩:=List.mem_flatMap.1 hc;unfold tkC at hx;simp only[List.mem_cons,List.not_mem_nil,or_false]at hx;rcases hx with rfl|rfl|rfl|rfl|rfl|rfl<;>rfl
structure Br where
 out:List Tk
 word:Str
 opn:Bool
 jn:Bool
 vo:Nat
 vw:Nat
 ad:Bool
def brX(a b c va:Nat)(q:Br):AObj:= .mem va 248 [.osl b q.vo 6 0 q.out.length,if q.ad=true then .op a va 1 else .nilp,.osl c q.vw 1 0 q.word.length,.bool q.opn,.bool q.jn,.bool false]
def brY(q:Br):AObj:=qZ q.vo 103 (jg q.out)
def brO(h:List AObj)(a b c va:Nat)(q:Br):List AObj:=tri h a b c (brX a b c va q) (brY q) (qdm q.vw q.word)
def qa7(L:List Tk)(w:Str):List Tk:=L.set (L.length-1) ⟨w,(L.getD (L.length-1) default).norm,(L.getD (L.length-1) default).page,(L.getD (L.length-1) default).line,(L.getD (L.length-1) default).flags,(L.getD (L.length-1) default).name⟩
def Br.nd(q:Br):Br:=if q.opn=true then ⟨qa7 q.out q.word,[],false,q.jn,q.vo,q.vw+1,false⟩ else ⟨q.out,[],false,q.jn,q.vo,q.vw,false⟩
def Br.st(q:Br)(f:Int):Br:=⟨q.out++ [tkF (f+jfl q.jn q.out.length) []],q.word,q.opn,true,q.vo+1,q.vw,q.ad⟩
def Br.wb(q:Br)(c:UInt8):Br:=⟨q.out,q.word++ [c],q.opn,q.jn,q.vo,q.vw+1,true⟩
def Br.op(q:Br):Br:=⟨q.out,q.word,true,q.jn,q.vo,q.vw,q.ad⟩
def Br.sp(q:Br):Br:=⟨q.out,q.word,q.opn,false,q.vo,q.vw,q.ad⟩
def Br.tx(q:Br)(w:Str):Br:=⟨qa7 q.out w,q.word,q.opn,q.jn,q.vo,q.vw,q.ad⟩
def Br.pt(q:Br)(c:UInt8):Br:=if q.opn=true∧qaP c=true then q.wb c else if bgn c=true then ((q.st 0).op).wb c else if kind c=6 then q.nd.sp else (q.nd.st 8).tx [c]
theorem jN{h:List AObj}{a b c:Nat}(t:T3 h a b c)(va:Nat)(q:Br):lowO h.length (brX a b c va q):=by
 intro x hx
 have:=t.la;have:=t.lb;have:=t.lc
 simp only[List.mem_cons,List.not_mem_nil,or_false]at hx;rcases hx with rfl|rfl|rfl|rfl|rfl|rfl
 ·simp[qU];assumption
 ·split
  ·simp[qU];assumption
  ·rfl
 ·simp[qU];assumption
 ·rfl
 ·rfl
 ·rfl
theorem qac(q:Br)(n:Nat):lowO n (brY q):=jp (kl q.out n)
theorem qd8{h:List AObj}{a b c va:Nat}{q:Br}:(brO h a b c va q).length=h.length:=tri_len
end RC
end
section
open Go Go.Proofs AF HY LN
namespace AF
theorem qdf{v:Nat}{ty:TypeId}{cs:List AV}:qjI (some (qZ v ty cs)) ty=true:=by
 unfold qZ;split<;>simp[qjI]
end AF
namespace RC
section
variable {h : List AObj} {a b c va : Nat}
theorem qdC{q:Br}(hn:0<q.out.length):brY q= .mem q.vo 103 (jg q.out):=by
 unfold brY qZ;rw[ine];intro e
 have:=congrArg List.length e
 rw[jJ,lnl]at this;omega
theorem qsR(t:T3 h a b c)(q:Br)(hn:0<q.out.length)(hm:q.out.length≤1000000):ACalls Tryz.prog 256 [.op a va 0] (brO h a b c va q) (.op b q.vo ((q.out.length-1)*6)) (brO h a b c va q):=by
 have ta:=t.la;have tb:=t.lb;have tc:=t.lc;have zga: ∀ {X Y Z l},qr (a) (tri h a b c X Y Z++l)=some X:=qao (t);have yga: ∀ {X Y Z},qr (a) (tri h a b c X Y Z)=some X:=fun {X Y Z}=>by have:=zga (X:=X) (Y:=Y) (Z:=Z) (l:= []);simpa only[lan] using this
 have zgb: ∀ {X Y Z l},qr (b) (tri h a b c X Y Z++l)=some Y:=qaK (t);have ygb: ∀ {X Y Z},qr (b) (tri h a b c X Y Z)=some Y:=fun {X Y Z}=>by have:=zgb (X:=X) (Y:=Y) (Z:=Z) (l:= []);simpa only[lan] using this
 have zgc: ∀ {X Y Z l},qr (c) (tri h a b c X Y Z++l)=some Z:=qap (t);have ygc: ∀ {X Y Z},qr (c) (tri h a b c X Y Z)=some Z:=fun {X Y Z}=>by have:=zgc (X:=X) (Y:=Y) (Z:=Z) (l:= []);simpa only[lan] using this
 have zsa: ∀ {X Y Z o l},qo (a) (tri h a b c X Y Z++l) o=tri h a b c o Y Z++l:=qaL (t);have ysa: ∀ {X Y Z o},qo (a) (tri h a b c X Y Z) o=tri h a b c o Y Z:=fun {X Y Z o}=>by have:=zsa (X:=X) (Y:=Y) (Z:=Z) (o:=o) (l:= []);simpa only[lan] using this
 have zsb: ∀ {X Y Z o l},qo (b) (tri h a b c X Y Z++l) o=tri h a b c X o Z++l:=qaW (t);have ysb: ∀ {X Y Z o},qo (b) (tri h a b c X Y Z) o=tri h a b c X o Z:=fun {X Y Z o}=>by have:=zsb (X:=X) (Y:=Y) (Z:=Z) (o:=o) (l:= []);simpa only[lan] using this
 have zsc: ∀ {X Y Z o l},qo (c) (tri h a b c X Y Z++l) o=tri h a b c X Y o++l:=qaX (t);have ysc: ∀ {X Y Z o},qo (c) (tri h a b c X Y Z) o=tri h a b c X Y o:=fun {X Y Z o}=>by have:=zsc (X:=X) (Y:=Y) (Z:=Z) (o:=o) (l:= []);simpa only[lan] using this
 have zca: ∀ {X Y Z v l},cellsOf (tri h a b c X Y Z++l) (a) v=qu (some X) v:=qbE (t);have yca: ∀ {X Y Z v},cellsOf (tri h a b c X Y Z) (a) v=qu (some X) v:=fun {X Y Z v}=>by have:=zca (X:=X) (Y:=Y) (Z:=Z) (v:=v) (l:= []);simpa only[lan] using this
 have zcb: ∀ {X Y Z v l},cellsOf (tri h a b c X Y Z++l) (b) v=qu (some Y) v:=qbF (t);have ycb: ∀ {X Y Z v},cellsOf (tri h a b c X Y Z) (b) v=qu (some Y) v:=fun {X Y Z v}=>by have:=zcb (X:=X) (Y:=Y) (Z:=Z) (v:=v) (l:= []);simpa only[lan] using this
 have zcc: ∀ {X Y Z v l},cellsOf (tri h a b c X Y Z++l) (c) v=qu (some Z) v:=qbG (t);have ycc: ∀ {X Y Z v},cellsOf (tri h a b c X Y Z) (c) v=qu (some Z) v:=fun {X Y Z v}=>by have:=zcc (X:=X) (Y:=Y) (Z:=Z) (v:=v) (l:= []);simpa only[lan] using this
 have zla: ∀ {X Y Z v l},qz (tri h a b c X Y Z++l) (a) v=qF (some X) v:=qbH (t);have yla: ∀ {X Y Z v},qz (tri h a b c X Y Z) (a) v=qF (some X) v:=fun {X Y Z v}=>by have:=zla (X:=X) (Y:=Y) (Z:=Z) (v:=v) (l:= []);simpa only[lan] using this
 have zlb: ∀ {X Y Z v l},qz (tri h a b c X Y Z++l) (b) v=qF (some Y) v:=qbI (t);have ylb: ∀ {X Y Z v},qz (tri h a b c X Y Z) (b) v=qF (some Y) v:=fun {X Y Z v}=>by have:=zlb (X:=X) (Y:=Y) (Z:=Z) (v:=v) (l:= []);simpa only[lan] using this
 have zlc: ∀ {X Y Z v l},qz (tri h a b c X Y Z++l) (c) v=qF (some Z) v:=qbJ (t);have ylc: ∀ {X Y Z v},qz (tri h a b c X Y Z) (c) v=qF (some Z) v:=fun {X Y Z v}=>by have:=zlc (X:=X) (Y:=Y) (Z:=Z) (v:=v) (l:= []);simpa only[lan] using this
 have e1:((q.out.length:Int)-1).toNat=q.out.length-1:=by omega
 have k1:(0≤(q.out.length:Int)-1)=True:=eqt om;have k2:((q.out.length:Int)-1<q.out.length)=True:=eqt om;unfold brO;rw[qdC hn];unfold brX;refine acO qy0 ?_;simp (disch:=omega) only[qxn,yca,ycb,ylb,ql,qaQ,e1,k1,k2,go_sem]
 repeat' first
  |(apply qd;exact rvk;simp only[go_sem])
 rw[ine om];exact qi
theorem Wk.triNil{t:List AV}{X Z:AObj}{Y:AObj}{v i ve sz:Nat}{ty:TypeId}{cs:List AV}(T:T3 h a b c)(hX:X= .mem v ty cs)(hi:cs[i]? =some .nl)(hZ:Z= .emp ve):
  Wk t (tri h a b c X Y Z) t (tri h a b c (.mem v ty (cs.set i (.osl c ve sz 0 0))) Y Z):=by
 subst hX;subst hZ;have e:=qaL (X:= .mem v ty cs) (Y:=Y) (Z:= .emp ve) (l:= []) (o:= .mem v ty (cs.set i (.osl c ve sz 0 0))) T;simp only[lan]at e;rw[←e];refine Wk.ownNil (j:=a) (k:=c) ?_ hi ?_
 ·have:=qao (X:= .mem v ty cs) (Y:=Y) (Z:= .emp ve) (l:= []) T
  simpa only[lan] using this
 ·have:=qap (X:= .mem v ty cs) (Y:=Y) (Z:= .emp ve) (l:= []) T
  simpa only[lan] using this
theorem qwq(t:T3 h a b c)(X0 X1 X2 X3 X4 X5:AV)(Y:AObj)(v:Nat)(l0:qU h.length X0=true)(l3:qU h.length X3=true)(l4:qU h.length X4=true)(l5:qU h.length X5=true)(ly:lowO h.length Y):
  ACalls Tryz.prog 257 [.op a va 1] (tri h a b c (.mem va 248 [X0,X1,X2,X3,X4,X5]) Y (.emp v)) (.tup []) (tri h a b c (.mem va 248 [X0,.nilp,.osl c v 1 0 0,X3,X4,X5]) Y (.emp v)):=by
 have ta:=t.la;have tb:=t.lb;have tc:=t.lc;refine ACalls.wk (h':=tri h a b c (.mem va 248 [X0,.nilp,.nl,X3,X4,X5]) Y (.emp v)) ?_ (Wk.triNil (v:=va) (ty:=248) (cs:= [X0,.nilp,.nl,X3,X4,X5]) (i:=2) (sz:=1) t rfl rfl rfl);have zga: ∀ {X Y Z l},qr (a) (tri h a b c X Y Z++l)=some X:=qao (t);have yga: ∀ {X Y Z},qr (a) (tri h a b c X Y Z)=some X:=fun {X Y Z}=>by have:=zga (X:=X) (Y:=Y) (Z:=Z) (l:= []);simpa only[lan] using this
 have zgb: ∀ {X Y Z l},qr (b) (tri h a b c X Y Z++l)=some Y:=qaK (t);have ygb: ∀ {X Y Z},qr (b) (tri h a b c X Y Z)=some Y:=fun {X Y Z}=>by have:=zgb (X:=X) (Y:=Y) (Z:=Z) (l:= []);simpa only[lan] using this
 have zgc: ∀ {X Y Z l},qr (c) (tri h a b c X Y Z++l)=some Z:=qap (t);have ygc: ∀ {X Y Z},qr (c) (tri h a b c X Y Z)=some Z:=fun {X Y Z}=>by have:=zgc (X:=X) (Y:=Y) (Z:=Z) (l:= []);simpa only[lan] using this
 have zsa: ∀ {X Y Z o l},qo (a) (tri h a b c X Y Z++l) o=tri h a b c o Y Z++l:=qaL (t);have ysa: ∀ {X Y Z o},qo (a) (tri h a b c X Y Z) o=tri h a b c o Y Z:=fun {X Y Z o}=>by have:=zsa (X:=X) (Y:=Y) (Z:=Z) (o:=o) (l:= []);simpa only[lan] using this
 have zsb: ∀ {X Y Z o l},qo (b) (tri h a b c X Y Z++l) o=tri h a b c X o Z++l:=qaW (t);have ysb: ∀ {X Y Z o},qo (b) (tri h a b c X Y Z) o=tri h a b c X o Z:=fun {X Y Z o}=>by have:=zsb (X:=X) (Y:=Y) (Z:=Z) (o:=o) (l:= []);simpa only[lan] using this
 have zsc: ∀ {X Y Z o l},qo (c) (tri h a b c X Y Z++l) o=tri h a b c X Y o++l:=qaX (t);have ysc: ∀ {X Y Z o},qo (c) (tri h a b c X Y Z) o=tri h a b c X Y o:=fun {X Y Z o}=>by have:=zsc (X:=X) (Y:=Y) (Z:=Z) (o:=o) (l:= []);simpa only[lan] using this
 have zca: ∀ {X Y Z v l},cellsOf (tri h a b c X Y Z++l) (a) v=qu (some X) v:=qbE (t);have yca: ∀ {X Y Z v},cellsOf (tri h a b c X Y Z) (a) v=qu (some X) v:=fun {X Y Z v}=>by have:=zca (X:=X) (Y:=Y) (Z:=Z) (v:=v) (l:= []);simpa only[lan] using this
 have zcb: ∀ {X Y Z v l},cellsOf (tri h a b c X Y Z++l) (b) v=qu (some Y) v:=qbF (t);have ycb: ∀ {X Y Z v},cellsOf (tri h a b c X Y Z) (b) v=qu (some Y) v:=fun {X Y Z v}=>by have:=zcb (X:=X) (Y:=Y) (Z:=Z) (v:=v) (l:= []);simpa only[lan] using this
 have zcc: ∀ {X Y Z v l},cellsOf (tri h a b c X Y Z++l) (c) v=qu (some Z) v:=qbG (t);have ycc: ∀ {X Y Z v},cellsOf (tri h a b c X Y Z) (c) v=qu (some Z) v:=fun {X Y Z v}=>by have:=zcc (X:=X) (Y:=Y) (Z:=Z) (v:=v) (l:= []);simpa only[lan] using this
 have zla: ∀ {X Y Z v l},qz (tri h a b c X Y Z++l) (a) v=qF (some X) v:=qbH (t);have yla: ∀ {X Y Z v},qz (tri h a b c X Y Z) (a) v=qF (some X) v:=fun {X Y Z v}=>by have:=zla (X:=X) (Y:=Y) (Z:=Z) (v:=v) (l:= []);simpa only[lan] using this
 have zlb: ∀ {X Y Z v l},qz (tri h a b c X Y Z++l) (b) v=qF (some Y) v:=qbI (t);have ylb: ∀ {X Y Z v},qz (tri h a b c X Y Z) (b) v=qF (some Y) v:=fun {X Y Z v}=>by have:=zlb (X:=X) (Y:=Y) (Z:=Z) (v:=v) (l:= []);simpa only[lan] using this
 have zlc: ∀ {X Y Z v l},qz (tri h a b c X Y Z++l) (c) v=qF (some Z) v:=qbJ (t);have ylc: ∀ {X Y Z v},qz (tri h a b c X Y Z) (c) v=qF (some Z) v:=fun {X Y Z v}=>by have:=zlc (X:=X) (Y:=Y) (Z:=Z) (v:=v) (l:= []);simpa only[lan] using this
 refine acO qy1 ?_;simp (disch:=omega) only[qxo,yga,ysa,yca,ql,go_sem];refine jB trivial (by simp only[tri_len]) (jK t (fun x hx=> ?_) ly trivial) ⟨rfl,rfl⟩ (qi);simp only[List.mem_cons,List.not_mem_nil,or_false]at hx;rcases hx with rfl|rfl|rfl|rfl|rfl|rfl
 ·exact l0
 ·rfl
 ·rfl
 ·exact l3
 ·exact l4
 ·exact l5
theorem qnS{L:List Tk}(w:Str)(hn:0<L.length):(jg L).take ((L.length-1)*6)++([AV.str w]++(jg L).drop ((L.length-1)*6+1))=jg (qa7 L w):=by
 unfold qa7;rw[←qhS _ om];refine congrArg _ ?_;have e:(jg L).drop ((L.length-1)*6+1)=(tkC (L.getD (L.length-1) default)).drop 1++(jg L).drop ((L.length-1)*6+6):=by
  rw[←qbD (L:=L) (i:=L.length-1) om];have e2:(jg L).drop ((L.length-1)*6)=((jg L).drop ((L.length-1)*6)).take 6++((jg L).drop ((L.length-1)*6)).drop 6:=(List.take_append_drop _ _).symm;have hl:=jJ L;have hl2:((jg L).drop ((L.length-1)*6)).length=L.length*6-(L.length-1)*6:=by rw[List.length_drop,hl]
  rw[←List.drop_drop,←List.drop_drop (i:=6),←List.drop_append_of_le_length (by rw[List.length_take];omega),List.take_append_drop]
 rw[e];rfl
theorem qaH(L:List Tk)(w:Str):(qa7 L w).length=L.length:=by unfold qa7;rw[List.length_set]
theorem qsQ(t:T3 h a b c)(q:Br)(ho:q.opn=true→0<q.out.length)(hw:q.opn=false→q.word= [])(hm:q.out.length≤1000000)(hl:q.word.length≤1000000):ACalls Tryz.prog 223 [.op a va 0] (brO h a b c va q) (.tup []) (brO h a b c va q.nd):=by
 have ta:=t.la;have tb:=t.lb;have tc:=t.lc;have zga: ∀ {X Y Z l},qr (a) (tri h a b c X Y Z++l)=some X:=qao (t);have yga: ∀ {X Y Z},qr (a) (tri h a b c X Y Z)=some X:=fun {X Y Z}=>by have:=zga (X:=X) (Y:=Y) (Z:=Z) (l:= []);simpa only[lan] using this
 have zgb: ∀ {X Y Z l},qr (b) (tri h a b c X Y Z++l)=some Y:=qaK (t);have ygb: ∀ {X Y Z},qr (b) (tri h a b c X Y Z)=some Y:=fun {X Y Z}=>by have:=zgb (X:=X) (Y:=Y) (Z:=Z) (l:= []);simpa only[lan] using this
 have zgc: ∀ {X Y Z l},qr (c) (tri h a b c X Y Z++l)=some Z:=qap (t);have ygc: ∀ {X Y Z},qr (c) (tri h a b c X Y Z)=some Z:=fun {X Y Z}=>by have:=zgc (X:=X) (Y:=Y) (Z:=Z) (l:= []);simpa only[lan] using this
 have zsa: ∀ {X Y Z o l},qo (a) (tri h a b c X Y Z++l) o=tri h a b c o Y Z++l:=qaL (t);have ysa: ∀ {X Y Z o},qo (a) (tri h a b c X Y Z) o=tri h a b c o Y Z:=fun {X Y Z o}=>by have:=zsa (X:=X) (Y:=Y) (Z:=Z) (o:=o) (l:= []);simpa only[lan] using this
 have zsb: ∀ {X Y Z o l},qo (b) (tri h a b c X Y Z++l) o=tri h a b c X o Z++l:=qaW (t);have ysb: ∀ {X Y Z o},qo (b) (tri h a b c X Y Z) o=tri h a b c X o Z:=fun {X Y Z o}=>by have:=zsb (X:=X) (Y:=Y) (Z:=Z) (o:=o) (l:= []);simpa only[lan] using this
 have zsc: ∀ {X Y Z o l},qo (c) (tri h a b c X Y Z++l) o=tri h a b c X Y o++l:=qaX (t);have ysc: ∀ {X Y Z o},qo (c) (tri h a b c X Y Z) o=tri h a b c X Y o:=fun {X Y Z o}=>by have:=zsc (X:=X) (Y:=Y) (Z:=Z) (o:=o) (l:= []);simpa only[lan] using this
 have zca: ∀ {X Y Z v l},cellsOf (tri h a b c X Y Z++l) (a) v=qu (some X) v:=qbE (t);have yca: ∀ {X Y Z v},cellsOf (tri h a b c X Y Z) (a) v=qu (some X) v:=fun {X Y Z v}=>by have:=zca (X:=X) (Y:=Y) (Z:=Z) (v:=v) (l:= []);simpa only[lan] using this
 have zcb: ∀ {X Y Z v l},cellsOf (tri h a b c X Y Z++l) (b) v=qu (some Y) v:=qbF (t);have ycb: ∀ {X Y Z v},cellsOf (tri h a b c X Y Z) (b) v=qu (some Y) v:=fun {X Y Z v}=>by have:=zcb (X:=X) (Y:=Y) (Z:=Z) (v:=v) (l:= []);simpa only[lan] using this
 have zcc: ∀ {X Y Z v l},cellsOf (tri h a b c X Y Z++l) (c) v=qu (some Z) v:=qbG (t);have ycc: ∀ {X Y Z v},cellsOf (tri h a b c X Y Z) (c) v=qu (some Z) v:=fun {X Y Z v}=>by have:=zcc (X:=X) (Y:=Y) (Z:=Z) (v:=v) (l:= []);simpa only[lan] using this
 have zla: ∀ {X Y Z v l},qz (tri h a b c X Y Z++l) (a) v=qF (some X) v:=qbH (t);have yla: ∀ {X Y Z v},qz (tri h a b c X Y Z) (a) v=qF (some X) v:=fun {X Y Z v}=>by have:=zla (X:=X) (Y:=Y) (Z:=Z) (v:=v) (l:= []);simpa only[lan] using this
 have zlb: ∀ {X Y Z v l},qz (tri h a b c X Y Z++l) (b) v=qF (some Y) v:=qbI (t);have ylb: ∀ {X Y Z v},qz (tri h a b c X Y Z) (b) v=qF (some Y) v:=fun {X Y Z v}=>by have:=zlb (X:=X) (Y:=Y) (Z:=Z) (v:=v) (l:= []);simpa only[lan] using this
 have zlc: ∀ {X Y Z v l},qz (tri h a b c X Y Z++l) (c) v=qF (some Z) v:=qbJ (t);have ylc: ∀ {X Y Z v},qz (tri h a b c X Y Z) (c) v=qF (some Z) v:=fun {X Y Z v}=>by have:=zlc (X:=X) (Y:=Y) (Z:=Z) (v:=v) (l:= []);simpa only[lan] using this
 cases hq:q.opn with
 |false=>
  have e1:q.nd=⟨q.out,[],false,q.jn,q.vo,q.vw,false⟩:=by unfold Br.nd;rw[hq];rfl
  rw[e1];have c1:=qwq (va:=va) t (.osl b q.vo 6 0 q.out.length) (if q.ad=true then .op a va 1 else .nilp) (.osl c q.vw 1 0 q.word.length) (.bool false) (.bool q.jn) (.bool false) (brY q) q.vw (by simp[qU];omega) rfl rfl rfl (qac q _);have hz:qdm q.vw q.word= .emp q.vw:=by rw[hw hq];rfl
  unfold brO brX;rw[hz,hq];refine acO qr2 ?_;simp (disch:=omega) only[qs2,yga,ysa,yca,ql,go_sem];refine qy c1 (by exact flk) ?_;simp (disch:=omega) only[go_sem];exact jB trivial (by simp only[tri_len]) (jK t (jN t va ⟨q.out,[],false,q.jn,q.vo,q.vw,false⟩) (qac q _) trivial) ⟨rfl,rfl⟩ (qi)
 |true=>
  have e1:q.nd=⟨qa7 q.out q.word,[],false,q.jn,q.vo,q.vw+1,false⟩:=by unfold Br.nd;rw[hq];rfl
  rw[e1];have c1:=qsR (va:=va) t q (ho hq) hm;have hn:=ho hq;unfold brO at c1 ⊢;rw[qdC hn]at c1 ⊢;rw[qdC (q:=⟨qa7 q.out q.word,[],false,q.jn,q.vo,q.vw+1,false⟩) (by simp only[qaH];exact hn)];unfold brX at c1 ⊢;rw[hq]at c1 ⊢;refine acO qr2 ?_;simp (disch:=omega) only[qs2,yga,ysa,yca,ql,go_sem]
  repeat' first
   |(refine cA (c1) flk ?_;simp (disch:=omega) only[yca,ql,go_sem])
  refine qy (qFf a va c q.vw (.osl b q.vo 6 0 q.out.length) (.bool true) (.bool q.jn) (.bool false) (if q.ad=true then .op a va 1 else .nilp) q.word _ (fun e=>t.ac e.symm) yga ygc) (by exact flk) ?_;have hL:=jJ q.out;have k3:((q.out.length-1)*6+1≤q.out.length*6)=True:=eqt om;have hX:=qnS (L:=q.out) q.word hn;have c2:=qwq (va:=va) t (.osl b q.vo 6 0 q.out.length) (if q.ad=true then .op a va 1 else .nilp) (.osl c q.vw 1 0 q.word.length) (.bool false) (.bool q.jn) (.bool false) (.mem q.vo 103 (jg (qa7 q.out q.word))) (q.vw+1) (by simp[qU];omega) rfl rfl rfl (kl _ _);simp (disch:=omega) only[yga,ygb,ysa,ysb,ysc,yca,ycb,ql,hL,k3,go_sem];rw[List.append_assoc,hX];refine qy c2 (by exact flk) ?_;simp (disch:=omega) only[go_sem];have eL:=qaH q.out q.word;simp only[eL];exact jB trivial (by simp only[tri_len]) (jK t (by have:=jN t va ⟨q.out,[],false,q.jn,q.vo,q.vw+1,false⟩;exact this) (kl _ _) trivial) ⟨rfl,rfl⟩ (qi)
end
end RC
end
section
open Go Go.Proofs AF HY LN
namespace RC
section
variable {h : List AObj} {a b c va : Nat}
theorem qwr(t:T3 h a b c)(q:Br)(f:Int)(x:UInt8)(hf:f=0∨f=8)(hm:q.out.length≤1000000):ACalls Tryz.prog 255 [.op a va 0,.agg (atC 1 x),.int .i64 f] (brO h a b c va q) (.tup []) (brO h a b c va (q.st f)):=by
 have ta:=t.la;have tb:=t.lb;have tc:=t.lc;have zga: ∀ {X Y Z l},qr (a) (tri h a b c X Y Z++l)=some X:=qao (t);have yga: ∀ {X Y Z},qr (a) (tri h a b c X Y Z)=some X:=fun {X Y Z}=>by have:=zga (X:=X) (Y:=Y) (Z:=Z) (l:= []);simpa only[lan] using this
 have zgb: ∀ {X Y Z l},qr (b) (tri h a b c X Y Z++l)=some Y:=qaK (t);have ygb: ∀ {X Y Z},qr (b) (tri h a b c X Y Z)=some Y:=fun {X Y Z}=>by have:=zgb (X:=X) (Y:=Y) (Z:=Z) (l:= []);simpa only[lan] using this
 have zgc: ∀ {X Y Z l},qr (c) (tri h a b c X Y Z++l)=some Z:=qap (t);have ygc: ∀ {X Y Z},qr (c) (tri h a b c X Y Z)=some Z:=fun {X Y Z}=>by have:=zgc (X:=X) (Y:=Y) (Z:=Z) (l:= []);simpa only[lan] using this
 have zsa: ∀ {X Y Z o l},qo (a) (tri h a b c X Y Z++l) o=tri h a b c o Y Z++l:=qaL (t);have ysa: ∀ {X Y Z o},qo (a) (tri h a b c X Y Z) o=tri h a b c o Y Z:=fun {X Y Z o}=>by have:=zsa (X:=X) (Y:=Y) (Z:=Z) (o:=o) (l:= []);simpa only[lan] using this
 have zsb: ∀ {X Y Z o l},qo (b) (tri h a b c X Y Z++l) o=tri h a b c X o Z++l:=qaW (t);have ysb: ∀ {X Y Z o},qo (b) (tri h a b c X Y Z) o=tri h a b c X o Z:=fun {X Y Z o}=>by have:=zsb (X:=X) (Y:=Y) (Z:=Z) (o:=o) (l:= []);simpa only[lan] using this
 have zsc: ∀ {X Y Z o l},qo (c) (tri h a b c X Y Z++l) o=tri h a b c X Y o++l:=qaX (t);have ysc: ∀ {X Y Z o},qo (c) (tri h a b c X Y Z) o=tri h a b c X Y o:=fun {X Y Z o}=>by have:=zsc (X:=X) (Y:=Y) (Z:=Z) (o:=o) (l:= []);simpa only[lan] using this
 have zca: ∀ {X Y Z v l},cellsOf (tri h a b c X Y Z++l) (a) v=qu (some X) v:=qbE (t);have yca: ∀ {X Y Z v},cellsOf (tri h a b c X Y Z) (a) v=qu (some X) v:=fun {X Y Z v}=>by have:=zca (X:=X) (Y:=Y) (Z:=Z) (v:=v) (l:= []);simpa only[lan] using this
 have zcb: ∀ {X Y Z v l},cellsOf (tri h a b c X Y Z++l) (b) v=qu (some Y) v:=qbF (t);have ycb: ∀ {X Y Z v},cellsOf (tri h a b c X Y Z) (b) v=qu (some Y) v:=fun {X Y Z v}=>by have:=zcb (X:=X) (Y:=Y) (Z:=Z) (v:=v) (l:= []);simpa only[lan] using this
 have zcc: ∀ {X Y Z v l},cellsOf (tri h a b c X Y Z++l) (c) v=qu (some Z) v:=qbG (t);have ycc: ∀ {X Y Z v},cellsOf (tri h a b c X Y Z) (c) v=qu (some Z) v:=fun {X Y Z v}=>by have:=zcc (X:=X) (Y:=Y) (Z:=Z) (v:=v) (l:= []);simpa only[lan] using this
 have zla: ∀ {X Y Z v l},qz (tri h a b c X Y Z++l) (a) v=qF (some X) v:=qbH (t);have yla: ∀ {X Y Z v},qz (tri h a b c X Y Z) (a) v=qF (some X) v:=fun {X Y Z v}=>by have:=zla (X:=X) (Y:=Y) (Z:=Z) (v:=v) (l:= []);simpa only[lan] using this
 have zlb: ∀ {X Y Z v l},qz (tri h a b c X Y Z++l) (b) v=qF (some Y) v:=qbI (t);have ylb: ∀ {X Y Z v},qz (tri h a b c X Y Z) (b) v=qF (some Y) v:=fun {X Y Z v}=>by have:=zlb (X:=X) (Y:=Y) (Z:=Z) (v:=v) (l:= []);simpa only[lan] using this
 have zlc: ∀ {X Y Z v l},qz (tri h a b c X Y Z++l) (c) v=qF (some Z) v:=qbJ (t);have ylc: ∀ {X Y Z v},qz (tri h a b c X Y Z) (c) v=qF (some Z) v:=fun {X Y Z v}=>by have:=zlc (X:=X) (Y:=Y) (Z:=Z) (v:=v) (l:= []);simpa only[lan] using this
 have hL:=jJ q.out;obtain⟨g,hg⟩: ∃g,g=f+jfl q.jn q.out.length:=⟨_,rfl⟩
 have e1:q.st f=⟨q.out++ [tkF g []],q.word,q.opn,true,q.vo+1,q.vw,q.ad⟩:=by unfold Br.st;rw[hg]
 rw[e1];have o1:=qiR (v:=q.vo) (ty:=103) (cs:=jg q.out);have k3:(q.out.length*6≤q.out.length*6)=True:=eqt (nlr _);have a2: ∀(x1:AV) (r:List AV),qg0 (some (qZ q.vo 103 (jg q.out))) 103 q.vo (q.out.length*6) 1 (x1::r)=qZ (q.vo+1) 103 (jg q.out++x1::r):=fun x1 r=>by rw[appO_own1,ltl om]
 have eLn:(q.out++ [tkF g []]).length=q.out.length+1:=by simp
 have hfin:jg q.out++ [.str [],.str [],.str [],.int .i64 0,.int .i64 g,.str []]=jg (q.out++ [tkF g []]):=by rw[qeI,qhR];rfl
 unfold brO brX brY
 by_cases hj:q.jn=true∧0<q.out.length
 ·obtain⟨hj,hn⟩:=hj;have k1:((0:Int)<q.out.length)=True:=eqt om;have hg:g=f+16:=by rw[hg];unfold jfl;rw[ipo ⟨hj,hn⟩]
  have eo:qas .or (.int .i64 f) (.int .i64 16)= .int .i64 g:=by
   rw[hg];rcases hf with rfl|rfl<;>rfl
  rw[hj];unfold atC;refine acO qlL ?_;simp (disch:=omega) only[qoZ,zca,zlb,ql,qX,k1,eo,go_sem]
  repeat' first
   |with_reducible apply aiA
  all_goals try exact clz
  refine ku ?Ta ?Ha ?h1 ?h2
  case h1=>
   simp (disch:=omega) only[zga,zgb,zsa,zsb,zca,zcb,zlb,ql,qX,qdf,o1,hL,k3,a2,go_sem]
   repeat' first
    |with_reducible apply aiA
   all_goals first
    |omega
    |rfl
    |(rw[bne_iff_ne];omega)
    |skip
  case h2=>
  simp (disch:=omega) only[zga,zsa,zca,ql,go_sem];rw[hfin];simp only[eLn];exact zL trivial (by simp only[tri_len]) (jK t (by have:=jN t va ⟨q.out++ [tkF g []],q.word,q.opn,true,q.vo+1,q.vw,q.ad⟩;simpa only[brX,eLn] using this) (jp (kl _ _)) (ja _ _ _)) ⟨rfl,rfl⟩ (qi)
 ·have hg:g=f:=by rw[hg];unfold jfl;rw[ine hj];omega
  subst hg;unfold atC;cases hj2:q.jn with
  |false=>
   refine acO qlL ?_;simp (disch:=omega) only[qoZ,zca,zlb,ql,qX,go_sem]
   repeat' first
    |with_reducible first|intro _|apply aiA
   all_goals try exact clz
   refine ku ?Tb ?Hb ?h1 ?h2
   case h1=>
    simp (disch:=omega) only[zga,zgb,zsa,zsb,zca,zcb,zlb,ql,qX,qdf,o1,hL,k3,a2,go_sem]
    repeat' first
     |with_reducible apply aiA
    all_goals first
     |omega
     |rfl
     |(rw[bne_iff_ne];omega)
     |skip
   case h2=>
   simp (disch:=omega) only[zga,zsa,zca,ql,go_sem];rw[hfin];simp only[eLn];exact zL trivial (by simp only[tri_len]) (jK t (by have:=jN t va ⟨q.out++ [tkF g []],q.word,q.opn,true,q.vo+1,q.vw,q.ad⟩;simpa only[brX,eLn] using this) (jp (kl _ _)) (ja _ _ _)) ⟨rfl,rfl⟩ (qi)
  |true=>
   have k1:((0:Int)<q.out.length)=False:=eqf (fun hc=>hj ⟨hj2,om⟩);refine acO qlL ?_;simp (disch:=omega) only[qoZ,zca,zlb,ql,qX,k1,go_sem]
   repeat' first
    |with_reducible apply aiA
   all_goals try exact clz
   refine ku ?Tc ?Hc ?h1 ?h2
   case h1=>
    simp (disch:=omega) only[zga,zgb,zsa,zsb,zca,zcb,zlb,ql,qX,qdf,o1,hL,k3,a2,go_sem]
    repeat' first
     |with_reducible apply aiA
    all_goals first
     |omega
     |rfl
     |(rw[bne_iff_ne];omega)
     |skip
   case h2=>
   simp (disch:=omega) only[zga,zsa,zca,ql,go_sem];rw[hfin];simp only[eLn];exact zL trivial (by simp only[tri_len]) (jK t (by have:=jN t va ⟨q.out++ [tkF g []],q.word,q.opn,true,q.vo+1,q.vw,q.ad⟩;simpa only[brX,eLn] using this) (jp (kl _ _)) (ja _ _ _)) ⟨rfl,rfl⟩ (qi)
end
end RC
end
section
open Go Go.Proofs AF
def qpX:List Nat:= [117,118,280,257,222,254,223,255,225,256]
def qf6:C:=
 ((C.ops [O1 3 (.box 0 253) 1]).seq ((C.ops [MC 4 (i6 0)]).seq (((C.ops [O1 5 (.fldA 5) 3,LD 6 5]).seq (C.cond (.t 6) (C.ops [MC 4 (i6 1)]) C.skip)).seq (C.block 0 ((C.ops [MV 23
 0,O1 24 .nilchk 23,O1 25 (.fldA 3) 24,LD 26 25,MV 27 26,P1 28 27 true (.fldA 1) 3,P1 29 27 true (.load none) 28,P1 30 27 true (.call 243 true) 29,PF 31 27 30,MV 22
 31]).seq (C.cond (.t 22) ((C.ops [MV 32 0,O1 33 (.call 256 false) 32,O1 34 .nilchk 33,O1 35 (.fldA 4) 34,LD 36 35,MV 37 4,BI 38 .or 36 37,O1 39 .nilchk 33,O1 40 (.fldA 4)
 39,ST 1 40 38]).seq (C.ops [MV 41 0,O1 42 .nilchk 41,O1 43 (.fldA 1) 42,O1 44 (.fldA 1) 3,LD 45 44,O2 46 (.call 280 false) 43 45])) ((C.ops [O1 48 (.fldA 1) 3,LD 49 48,O1
 50 (.call 274 true) 49,MV 47 50]).seq (C.cond (.t 47) ((C.ops [MV 51 0,O1 52 (.load (some 7)) 3,MV 53 4,ON 54 (.call 255 false) [.t 51,.t 52,.t 53]]).seq ((C.ops [MV 55 0,O1
 56 .nilchk 55,O1 57 (.fldA 3) 56,⟨none,none,.store 1,[.t 57,.c (.bool true)]⟩]).seq (C.ops [MV 58 0,O1 59 .nilchk 58,O1 60 (.fldA 1) 59,O1 61 (.fldA 1) 3,LD 62 61,O2 63
 (.call 280 false) 60 62]))) ((C.ops [O1 65 (.fldA 1) 3,LD 66 65,O1 67 (.call 176 true) 66,BC 68 .eql 67 (i6 6),MV 64 68]).seq (C.cond (.t 64) ((C.ops [MV 69 0,O1 70 (.call 223
 false) 69]).seq (C.ops [MV 71 0,O1 72 .nilchk 71,O1 73 (.fldA 4) 72,⟨none,none,.store 1,[.t 73,.c (.bool false)]⟩])) ((C.ops [MV 7 0,O1 8 (.call 223 false) 7]).seq ((C.ops
 [MV 9 0,O1 10 (.load (some 7)) 3,MV 11 4,BC 12 .or 11 (i6 8),ON 13 (.call 255 false) [.t 9,.t 10,.t 12]]).seq (C.draw (DT.one ⟨some 14,none,.mv,[.t 0]⟩ ((DT.one ⟨some 15,
 none,.call 256 false,[.t 14]⟩ (DT.one ⟨some 16,none,.fldA 1,[.t 3]⟩ (DT.one ⟨some 17,none,.load none,[.t 16]⟩ (DT.one ⟨some 18,none,.bslc 1 1 1 5 [.int .u8 0] [(0,1)],
 [.t 17]⟩ (DT.one ⟨some 19,none,.b2s,[.t 18]⟩ (DT.one ⟨some 20,none,.nilchk,[.t 15]⟩ (DT.one ⟨some 21,none,.fldA 0,[.t 20]⟩ (DT.one ⟨none,none,.store 1,[.t 21,.t 19]⟩
 DT.nil)))))))).two (DT.one ⟨some 16,none,.fldA 1,[.t 3]⟩ ((DT.one ⟨some 15,none,.call 256 false,[.t 14]⟩ (DT.one ⟨some 17,none,.load none,[.t 16]⟩ (DT.one ⟨some 18,none,
 .bslc 1 1 1 5 [.int .u8 0] [(0,1)],[.t 17]⟩ (DT.one ⟨some 19,none,.b2s,[.t 18]⟩ (DT.one ⟨some 20,none,.nilchk,[.t 15]⟩ (DT.one ⟨some 21,none,.fldA 0,[.t 20]⟩ (DT.one
 ⟨none,none,.store 1,[.t 21,.t 19]⟩ DT.nil))))))).two (DT.one ⟨some 17,none,.load none,[.t 16]⟩ ((DT.one ⟨some 15,none,.call 256 false,[.t 14]⟩ (DT.one ⟨some 18,none,
 .bslc 1 1 1 5 [.int .u8 0] [(0,1)],[.t 17]⟩ (DT.one ⟨some 19,none,.b2s,[.t 18]⟩ (DT.one ⟨some 20,none,.nilchk,[.t 15]⟩ (DT.one ⟨some 21,none,.fldA 0,[.t 20]⟩ (DT.one
 ⟨none,none,.store 1,[.t 21,.t 19]⟩ DT.nil)))))).two (DT.one ⟨some 18,none,.bslc 1 1 1 5 [.int .u8 0] [(0,1)],[.t 17]⟩ ((DT.one ⟨some 15,none,.call 256 false,[.t 14]⟩
 (DT.one ⟨some 19,none,.b2s,[.t 18]⟩ (DT.one ⟨some 20,none,.nilchk,[.t 15]⟩ (DT.one ⟨some 21,none,.fldA 0,[.t 20]⟩ (DT.one ⟨none,none,.store 1,[.t 21,.t 19]⟩
 DT.nil))))).two (DT.one ⟨some 19,none,.b2s,[.t 18]⟩ (DT.one ⟨some 15,none,.call 256 false,[.t 14]⟩ (DT.one ⟨some 20,none,.nilchk,[.t 15]⟩ (DT.one ⟨some 21,none,.fldA 0,
 [.t 20]⟩ (DT.one ⟨none,none,.store 1,[.t 21,.t 19]⟩
 DT.nil))))))))))))))))))))))))))
theorem qdN:qL Tryz.prog 254 74 2 [] qf6:=fi Tryz.f254 [3,18] qpX []
end
section
open Go Go.Proofs AF HY LN
namespace RC
section
variable {h : List AObj} {a b c va : Nat}
theorem qaZ(t:T3 h a b c)(q:Br)(l:List AObj):brO (h++l) a b c va q=brO h a b c va q++l:=qvy t
theorem qkS{f:FuncId}{args:List AV}{r:AV}{q q':Br}(hc: ∀h,T3 h a b c→ACalls Tryz.prog f args (brO h a b c va q) r (brO h a b c va q'))(t:T3 h a b c)(l:List AObj):ACalls Tryz.prog f args (brO h a b c va q++l) r (brO h a b c va q'++l):=by
 have:=hc (h++l) (t.app l)
 rwa [qaZ t,qaZ t]at this
structure qBq (q:Br):Prop where
 op:q.opn=true→0<q.out.length∧((q.out.getD (q.out.length-1) default).flags=0∨(q.out.getD (q.out.length-1) default).flags=16)
 cl:q.opn=false→q.word= []
 n:q.out.length≤900000
 w:q.word.length≤900000
theorem qws(q:Br):(if q.ad=true then AV.op a va 1 else .nilp)= .nilp∨(if q.ad=true then AV.op a va 1 else .nilp)= .op a va 1:=by
 split
 ·exact .inr rfl
 ·exact .inl rfl
theorem qfO{α:Type}{L:List α}{k:Nat}{x:α}(h:L[k]? =some x):L.take k++ [x]++L.drop (k+1)=L:=by
 obtain⟨h1,h2⟩:=lgs.1 h;rw[List.append_assoc,List.singleton_append,←h2,←List.drop_eq_getElem_cons h1,List.take_append_drop]
theorem qDC(t:T3 h a b c)(q:Br)(x:UInt8)(l:List AObj)(hw:q.word.length≤1000000):ACalls Tryz.prog 280 [.op a va 1,.int .u8 (x.toNat:Int)] (brO h a b c va q++l) .nilif (brO h a b c va (q.wb x)++l):=by
 have ta:=t.la;have tb:=t.lb;have tc:=t.lc;have zga: ∀ {X Y Z l},qr (a) (tri h a b c X Y Z++l)=some X:=qao (t);have yga: ∀ {X Y Z},qr (a) (tri h a b c X Y Z)=some X:=fun {X Y Z}=>by have:=zga (X:=X) (Y:=Y) (Z:=Z) (l:= []);simpa only[lan] using this
 have zgb: ∀ {X Y Z l},qr (b) (tri h a b c X Y Z++l)=some Y:=qaK (t);have ygb: ∀ {X Y Z},qr (b) (tri h a b c X Y Z)=some Y:=fun {X Y Z}=>by have:=zgb (X:=X) (Y:=Y) (Z:=Z) (l:= []);simpa only[lan] using this
 have zgc: ∀ {X Y Z l},qr (c) (tri h a b c X Y Z++l)=some Z:=qap (t);have ygc: ∀ {X Y Z},qr (c) (tri h a b c X Y Z)=some Z:=fun {X Y Z}=>by have:=zgc (X:=X) (Y:=Y) (Z:=Z) (l:= []);simpa only[lan] using this
 have zsa: ∀ {X Y Z o l},qo (a) (tri h a b c X Y Z++l) o=tri h a b c o Y Z++l:=qaL (t);have ysa: ∀ {X Y Z o},qo (a) (tri h a b c X Y Z) o=tri h a b c o Y Z:=fun {X Y Z o}=>by have:=zsa (X:=X) (Y:=Y) (Z:=Z) (o:=o) (l:= []);simpa only[lan] using this
 have zsb: ∀ {X Y Z o l},qo (b) (tri h a b c X Y Z++l) o=tri h a b c X o Z++l:=qaW (t);have ysb: ∀ {X Y Z o},qo (b) (tri h a b c X Y Z) o=tri h a b c X o Z:=fun {X Y Z o}=>by have:=zsb (X:=X) (Y:=Y) (Z:=Z) (o:=o) (l:= []);simpa only[lan] using this
 have zsc: ∀ {X Y Z o l},qo (c) (tri h a b c X Y Z++l) o=tri h a b c X Y o++l:=qaX (t);have ysc: ∀ {X Y Z o},qo (c) (tri h a b c X Y Z) o=tri h a b c X Y o:=fun {X Y Z o}=>by have:=zsc (X:=X) (Y:=Y) (Z:=Z) (o:=o) (l:= []);simpa only[lan] using this
 have zca: ∀ {X Y Z v l},cellsOf (tri h a b c X Y Z++l) (a) v=qu (some X) v:=qbE (t);have yca: ∀ {X Y Z v},cellsOf (tri h a b c X Y Z) (a) v=qu (some X) v:=fun {X Y Z v}=>by have:=zca (X:=X) (Y:=Y) (Z:=Z) (v:=v) (l:= []);simpa only[lan] using this
 have zcb: ∀ {X Y Z v l},cellsOf (tri h a b c X Y Z++l) (b) v=qu (some Y) v:=qbF (t);have ycb: ∀ {X Y Z v},cellsOf (tri h a b c X Y Z) (b) v=qu (some Y) v:=fun {X Y Z v}=>by have:=zcb (X:=X) (Y:=Y) (Z:=Z) (v:=v) (l:= []);simpa only[lan] using this
 have zcc: ∀ {X Y Z v l},cellsOf (tri h a b c X Y Z++l) (c) v=qu (some Z) v:=qbG (t);have ycc: ∀ {X Y Z v},cellsOf (tri h a b c X Y Z) (c) v=qu (some Z) v:=fun {X Y Z v}=>by have:=zcc (X:=X) (Y:=Y) (Z:=Z) (v:=v) (l:= []);simpa only[lan] using this
 have zla: ∀ {X Y Z v l},qz (tri h a b c X Y Z++l) (a) v=qF (some X) v:=qbH (t);have yla: ∀ {X Y Z v},qz (tri h a b c X Y Z) (a) v=qF (some X) v:=fun {X Y Z v}=>by have:=zla (X:=X) (Y:=Y) (Z:=Z) (v:=v) (l:= []);simpa only[lan] using this
 have zlb: ∀ {X Y Z v l},qz (tri h a b c X Y Z++l) (b) v=qF (some Y) v:=qbI (t);have ylb: ∀ {X Y Z v},qz (tri h a b c X Y Z) (b) v=qF (some Y) v:=fun {X Y Z v}=>by have:=zlb (X:=X) (Y:=Y) (Z:=Z) (v:=v) (l:= []);simpa only[lan] using this
 have zlc: ∀ {X Y Z v l},qz (tri h a b c X Y Z++l) (c) v=qF (some Z) v:=qbJ (t);have ylc: ∀ {X Y Z v},qz (tri h a b c X Y Z) (c) v=qF (some Z) v:=fun {X Y Z v}=>by have:=zlc (X:=X) (Y:=Y) (Z:=Z) (v:=v) (l:= []);simpa only[lan] using this
 have:=qFw a va c q.vw (.osl b q.vo 6 0 q.out.length) (.bool q.opn) (.bool q.jn) (.bool false) (if q.ad=true then .op a va 1 else .nilp) q.word x (brO h a b c va q++l) (by rw[lap,qd8];simp[qU];omega) rfl rfl rfl (fun e=>t.ac e.symm) zga (qws q) zgc om
 have e:qo c (qo a (brO h a b c va q++l) (.mem va 248 [.osl b q.vo 6 0 q.out.length,.op a va 1,.osl c (q.vw+1) 1 0 (q.word.length+1),.bool q.opn,.bool q.jn,.bool false])) (qdm (q.vw+1) (q.word++ [x]))=brO h a b c va (q.wb x)++l:=by
  unfold brO;rw[zsa,zsc];unfold brX brY Br.wb;simp
 rw[e]at this;exact this
theorem qBL(t:T3 h a b c)(q:Br)(x:UInt8)(hq:qBq q):ACalls Tryz.prog 254 [.op a va 0,.agg (atC 1 x)] (brO h a b c va q) (.tup []) (brO h a b c va (q.pt x)):=by
 have ta:=t.la;have tb:=t.lb;have tc:=t.lc;have hn:=hq.n;have hw:=hq.w;have zga: ∀ {X Y Z l},qr (a) (tri h a b c X Y Z++l)=some X:=qao (t);have yga: ∀ {X Y Z},qr (a) (tri h a b c X Y Z)=some X:=fun {X Y Z}=>by have:=zga (X:=X) (Y:=Y) (Z:=Z) (l:= []);simpa only[lan] using this
 have zgb: ∀ {X Y Z l},qr (b) (tri h a b c X Y Z++l)=some Y:=qaK (t);have ygb: ∀ {X Y Z},qr (b) (tri h a b c X Y Z)=some Y:=fun {X Y Z}=>by have:=zgb (X:=X) (Y:=Y) (Z:=Z) (l:= []);simpa only[lan] using this
 have zgc: ∀ {X Y Z l},qr (c) (tri h a b c X Y Z++l)=some Z:=qap (t);have ygc: ∀ {X Y Z},qr (c) (tri h a b c X Y Z)=some Z:=fun {X Y Z}=>by have:=zgc (X:=X) (Y:=Y) (Z:=Z) (l:= []);simpa only[lan] using this
 have zsa: ∀ {X Y Z o l},qo (a) (tri h a b c X Y Z++l) o=tri h a b c o Y Z++l:=qaL (t);have ysa: ∀ {X Y Z o},qo (a) (tri h a b c X Y Z) o=tri h a b c o Y Z:=fun {X Y Z o}=>by have:=zsa (X:=X) (Y:=Y) (Z:=Z) (o:=o) (l:= []);simpa only[lan] using this
 have zsb: ∀ {X Y Z o l},qo (b) (tri h a b c X Y Z++l) o=tri h a b c X o Z++l:=qaW (t);have ysb: ∀ {X Y Z o},qo (b) (tri h a b c X Y Z) o=tri h a b c X o Z:=fun {X Y Z o}=>by have:=zsb (X:=X) (Y:=Y) (Z:=Z) (o:=o) (l:= []);simpa only[lan] using this
 have zsc: ∀ {X Y Z o l},qo (c) (tri h a b c X Y Z++l) o=tri h a b c X Y o++l:=qaX (t);have ysc: ∀ {X Y Z o},qo (c) (tri h a b c X Y Z) o=tri h a b c X Y o:=fun {X Y Z o}=>by have:=zsc (X:=X) (Y:=Y) (Z:=Z) (o:=o) (l:= []);simpa only[lan] using this
 have zca: ∀ {X Y Z v l},cellsOf (tri h a b c X Y Z++l) (a) v=qu (some X) v:=qbE (t);have yca: ∀ {X Y Z v},cellsOf (tri h a b c X Y Z) (a) v=qu (some X) v:=fun {X Y Z v}=>by have:=zca (X:=X) (Y:=Y) (Z:=Z) (v:=v) (l:= []);simpa only[lan] using this
 have zcb: ∀ {X Y Z v l},cellsOf (tri h a b c X Y Z++l) (b) v=qu (some Y) v:=qbF (t);have ycb: ∀ {X Y Z v},cellsOf (tri h a b c X Y Z) (b) v=qu (some Y) v:=fun {X Y Z v}=>by have:=zcb (X:=X) (Y:=Y) (Z:=Z) (v:=v) (l:= []);simpa only[lan] using this
 have zcc: ∀ {X Y Z v l},cellsOf (tri h a b c X Y Z++l) (c) v=qu (some Z) v:=qbG (t);have ycc: ∀ {X Y Z v},cellsOf (tri h a b c X Y Z) (c) v=qu (some Z) v:=fun {X Y Z v}=>by have:=zcc (X:=X) (Y:=Y) (Z:=Z) (v:=v) (l:= []);simpa only[lan] using this
 have zla: ∀ {X Y Z v l},qz (tri h a b c X Y Z++l) (a) v=qF (some X) v:=qbH (t);have yla: ∀ {X Y Z v},qz (tri h a b c X Y Z) (a) v=qF (some X) v:=fun {X Y Z v}=>by have:=zla (X:=X) (Y:=Y) (Z:=Z) (v:=v) (l:= []);simpa only[lan] using this
 have zlb: ∀ {X Y Z v l},qz (tri h a b c X Y Z++l) (b) v=qF (some Y) v:=qbI (t);have ylb: ∀ {X Y Z v},qz (tri h a b c X Y Z) (b) v=qF (some Y) v:=fun {X Y Z v}=>by have:=zlb (X:=X) (Y:=Y) (Z:=Z) (v:=v) (l:= []);simpa only[lan] using this
 have zlc: ∀ {X Y Z v l},qz (tri h a b c X Y Z++l) (c) v=qF (some Z) v:=qbJ (t);have ylc: ∀ {X Y Z v},qz (tri h a b c X Y Z) (c) v=qF (some Z) v:=fun {X Y Z v}=>by have:=zlc (X:=X) (Y:=Y) (Z:=Z) (v:=v) (l:= []);simpa only[lan] using this
 by_cases g1:q.opn=true∧qaP x=true
 ·rw[show q.pt x=q.wb x from by unfold Br.pt;rw[ipo g1]];obtain⟨g1,g2⟩:=g1;obtain⟨hop,hfl⟩:=hq.op g1;have c1:=fun h=>qBz x h
  simp only[g2]at c1;have c2:=fun l=>qsR (va:=va) (t.app l) q hop om
  simp only[qaZ t]at c2;have c3:=fun l=>qDC (va:=va) t q x l om
  have hL:=jJ q.out;obtain⟨F,hF⟩: ∃F,F=(q.out.getD (q.out.length-1) default).flags:=⟨_,rfl⟩
  rw[←hF]at hfl;have g4:(jg q.out)[(q.out.length-1)*6+4]? =some (.int .i64 F):=by rw[qeJ om om,hF];rfl
  have e0:qas .or (.int .i64 F) (.int .i64 0)= .int .i64 F:=by rcases hfl with rfl|rfl<;>rfl
  have k3:((q.out.length-1)*6+4+1≤q.out.length*6)=True:=eqt om;have k4:((q.out.length-1)*6+4<q.out.length*6)=True:=eqt om;have e5:=qfO g4;unfold brO at c2 c3 ⊢;rw[qdC hop]at c2 c3 ⊢;unfold brX at c2 c3 ⊢;rw[g1]at c2 c3 ⊢;unfold atC;refine acO qdN ?_;simp (disch:=omega) only[qf6,zca,ql,go_sem]
  repeat' first
   |(refine cG (fun e=>c1 _) flk ?_;simp (disch:=omega) only[go_sem])
  refine qy (c2 _) (by exact flk) ?_;simp (disch:=omega) only[zgb,zsb,zca,zcb,ql,hL,g4,e0,k3,k4,e5,go_sem];refine qy (c3 _) (by exact flk) ?_;simp (disch:=omega) only[go_sem];exact zL trivial (by simp only[tri_len]) (jK t (jN t va (q.wb x)) (qac _ _) (ja _ _ _)) ⟨rfl,rfl⟩ (qi)
 by_cases g2:bgn x=true
 ·rw[show q.pt x=((q.st 0).op).wb x from by unfold Br.pt;rw[ine g1,ipo g2]];have g3:q.opn=false:=by
   cases ho:q.opn with
   |false=>rfl
   |true=>exact absurd ⟨ho,qcC g2⟩ g1
  have c1:=fun h=>qBu x h
  rw[show (decide (kind x=1)||decide (kind x=3))=true from g2]at c1;have c2:=fun l=>qwr (va:=va) (t.app l) q 0 x (.inl rfl) om
  simp only[qaZ t]at c2;have c3:=fun l=>qDC (va:=va) t (q.st 0).op x l (by show q.word.length≤_;omega)
  unfold brO brX at c2 c3 ⊢;rw[g3]at c2 ⊢;unfold atC at c2 ⊢;refine acO qdN ?_;simp (disch:=omega) only[qf6,zca,ql,go_sem]
  repeat' first
   |(refine qj ( .bool false) ?_;simp (disch:=omega) only[go_sem])
   |(refine cA (c1 _) flk ?_;simp (disch:=omega) only[go_sem])
  refine qy (c2 _) (by exact flk) ?_;simp (disch:=omega) only[zga,zsa,zca,ql,go_sem];refine qy (c3 _) (by exact flk) ?_;simp (disch:=omega) only[go_sem];exact zL trivial (by simp only[tri_len]) (jK t (jN t va (((q.st 0).op).wb x)) (qac _ _) (ja _ _ _)) ⟨rfl,rfl⟩ (qi)
 by_cases g3:kind x=6
 ·rw[show q.pt x=q.nd.sp from by unfold Br.pt;rw[ine g1,ine g2,ipo g3]];have c1:=fun h=>qBu x h
  have hb:(decide (kind x=1)||decide (kind x=3))=false:=by simpa[bgn] using g2
  rw[hb]at c1;have c5:=fun h=>qBz x h
  have c4:=fun h=>qcz x h
  rw[g3]at c4;have c2:=fun l=>qsQ (va:=va) (t.app l) q (fun e=>(hq.op e).1) hq.cl om om
  simp only[qaZ t]at c2;have hi:q.opn=true→qaP x=false:=fun e=>by
   cases hx:qaP x with
   |false=>rfl
   |true=>exact absurd ⟨e,hx⟩ g1
  unfold brO brX at c2 ⊢;unfold atC;cases ho:q.opn with
  |true=>
   rw[hi ho]at c5;rw[ho]at c2;refine acO qdN ?_;simp (disch:=omega) only[qf6,zca,ql,go_sem]
   repeat' first
    |((first|refine cA (c1 _) ?_ ?_|refine cA (c4 _) ?_ ?_|refine cG (fun e=>c5 _) ?_ ?_);exact flk;simp (disch:=omega) only[go_sem])
   refine qy (c2 _) (by exact flk) ?_;simp (disch:=omega) only[zga,zsa,zca,ql,go_sem];exact zL trivial (by simp only[tri_len]) (jK t (jN t va q.nd.sp) (qac _ _) (ja _ _ _)) ⟨rfl,rfl⟩ (qi)
  |false=>
   rw[ho]at c2;refine acO qdN ?_;simp (disch:=omega) only[qf6,zca,ql,go_sem]
   repeat' first
    |(refine qj ( .bool false) ?_;simp (disch:=omega) only[go_sem])
    |((first|refine cA (c1 _) ?_ ?_|refine cA (c4 _) ?_ ?_);exact flk;simp (disch:=omega) only[go_sem])
   refine qy (c2 _) (by exact flk) ?_;simp (disch:=omega) only[zga,zsa,zca,ql,go_sem];exact zL trivial (by simp only[tri_len]) (jK t (jN t va q.nd.sp) (qac _ _) (ja _ _ _)) ⟨rfl,rfl⟩ (qi)
 rw[show q.pt x=(q.nd.st 8).tx [x]from by unfold Br.pt;rw[ine g1,ine g2,ine g3]];have c1:=fun h=>qBu x h
 have hb:(decide (kind x=1)||decide (kind x=3))=false:=by simpa[bgn] using g2
 rw[hb]at c1;have c5:=fun h=>qBz x h
 have c4:=fun h=>qcz x h
 obtain⟨kx,hkx⟩: ∃kx,kx=kind x:=⟨_,rfl⟩
 rw[←hkx]at c4 g3;have q6:(kx=6)=False:=eqf g3;have c2:=fun l=>qsQ (va:=va) (t.app l) q (fun e=>(hq.op e).1) hq.cl om om
 have hndl:q.nd.out.length=q.out.length:=by unfold Br.nd;split<;>simp only[qaH]
 have c6:=fun l=>qwr (va:=va) (t.app l) q.nd 8 x (.inr rfl) om
 obtain⟨r,hr⟩: ∃r,r=q.nd.st 8:=⟨_,rfl⟩
 have hrl:0<r.out.length:=by rw[hr];show 0<(q.nd.out++ [_]).length;simp
 have hrm:r.out.length≤1000000:=by rw[hr];show (q.nd.out++ [_]).length≤_;simp;omega
 rw[←hr]at c6 ⊢;have c7:=fun l=>qsR (va:=va) (t.app l) r hrl hrm
 simp only[qaZ t]at c2 c6 c7;have hi:q.opn=true→qaP x=false:=fun e=>by
  cases hx:qaP x with
  |false=>rfl
  |true=>exact absurd ⟨e,hx⟩ g1
 have hL:=jJ r.out;have k3:((r.out.length-1)*6+1≤r.out.length*6)=True:=eqt om;have hX:=qnS (L:=r.out) [x] hrl;have e8:qas .or (.int .i64 0) (.int .i64 8)= .int .i64 8:=rfl;have hY:brY (r.tx [x])= .mem r.vo 103 (jg (qa7 r.out [x])):=qdC (q:=r.tx [x]) (by show 0<(qa7 r.out [x]).length;rw[qaH];exact hrl);have eL:(r.tx [x]).out.length=r.out.length:=qaH _ _;unfold brO at c2 c6 c7 ⊢;rw[hY];rw[qdC hrl]at c6 c7;unfold brX at c2 c6 c7 ⊢;rw[eL];unfold atC at c6 ⊢;cases ho:q.opn with
 |true=>
  rw[hi ho]at c5;rw[ho]at c2;refine acO qdN ?_;simp (disch:=omega) only[qf6,zca,ql,go_sem]
  repeat' first
   |((first|refine cA (c1 _) ?_ ?_|refine cA (c4 _) ?_ ?_|refine cG (fun e=>c5 _) ?_ ?_);exact flk;simp (disch:=omega) only[q6,go_sem])
  refine qy (c2 _) (by exact flk) ?_;simp (disch:=omega) only[e8,go_sem];refine qy (c6 _) (by exact flk) ?_;simp (disch:=omega) only[go_sem];refine ku ?Ta ?Ha ?h1 ?h2
  case h1=>
   simp (disch:=omega) only[go_sem]
   repeat' first
    |(with_reducible apply aiA)
    |(refine qy (c7 _) (by exact flk) ?_;simp (disch:=omega) only[zgb,zsb,zcb,ql,hL,k3,go_sem])
   all_goals first
    |omega
    |rfl
    |(intro y hy;rw[List.mem_singleton]at hy;subst hy;exact qfo x)
    |skip
  case h2=>
  simp (disch:=omega) only[go_sem];rw[qe7 x,List.append_assoc,hX];exact zL trivial (by simp only[tri_len]) (jK t (jN t va r) (kl _ _) (ja _ _ _)) ⟨rfl,rfl⟩ (qi)
 |false=>
  rw[ho]at c2;refine acO qdN ?_;simp (disch:=omega) only[qf6,zca,ql,go_sem]
  repeat' first
   |(refine qj ( .bool false) ?_;simp (disch:=omega) only[go_sem])
   |((first|refine cA (c1 _) ?_ ?_|refine cA (c4 _) ?_ ?_);exact flk;simp (disch:=omega) only[q6,go_sem])
  refine qy (c2 _) (by exact flk) ?_;simp (disch:=omega) only[e8,go_sem];refine qy (c6 _) (by exact flk) ?_;simp (disch:=omega) only[go_sem];refine ku ?Tb ?Hb ?h1 ?h2
  case h1=>
   simp (disch:=omega) only[go_sem]
   repeat' first
    |(with_reducible apply aiA)
    |(refine qy (c7 _) (by exact flk) ?_;simp (disch:=omega) only[zgb,zsb,zcb,ql,hL,k3,go_sem])
   all_goals first
    |omega
    |rfl
    |(intro y hy;rw[List.mem_singleton]at hy;subst hy;exact qfo x)
    |skip
  case h2=>
  simp (disch:=omega) only[go_sem];rw[qe7 x,List.append_assoc,hX];exact zL trivial (by simp only[tri_len]) (jK t (jN t va r) (kl _ _) (ja _ _ _)) ⟨rfl,rfl⟩ (qi)
theorem qBK(t:T3 h a b c)(q:Br)(x:UInt8)(hq:qBq q):ACalls Tryz.prog 222 [.op a va 0,.agg (atC 1 x)] (brO h a b c va q) (.tup []) (brO h a b c va (q.pt x)):=by
 have ta:=t.la;have tb:=t.lb;have tc:=t.lc;have zga: ∀ {X Y Z l},qr (a) (tri h a b c X Y Z++l)=some X:=qao (t);have yga: ∀ {X Y Z},qr (a) (tri h a b c X Y Z)=some X:=fun {X Y Z}=>by have:=zga (X:=X) (Y:=Y) (Z:=Z) (l:= []);simpa only[lan] using this
 have zgb: ∀ {X Y Z l},qr (b) (tri h a b c X Y Z++l)=some Y:=qaK (t);have ygb: ∀ {X Y Z},qr (b) (tri h a b c X Y Z)=some Y:=fun {X Y Z}=>by have:=zgb (X:=X) (Y:=Y) (Z:=Z) (l:= []);simpa only[lan] using this
 have zgc: ∀ {X Y Z l},qr (c) (tri h a b c X Y Z++l)=some Z:=qap (t);have ygc: ∀ {X Y Z},qr (c) (tri h a b c X Y Z)=some Z:=fun {X Y Z}=>by have:=zgc (X:=X) (Y:=Y) (Z:=Z) (l:= []);simpa only[lan] using this
 have zsa: ∀ {X Y Z o l},qo (a) (tri h a b c X Y Z++l) o=tri h a b c o Y Z++l:=qaL (t);have ysa: ∀ {X Y Z o},qo (a) (tri h a b c X Y Z) o=tri h a b c o Y Z:=fun {X Y Z o}=>by have:=zsa (X:=X) (Y:=Y) (Z:=Z) (o:=o) (l:= []);simpa only[lan] using this
 have zsb: ∀ {X Y Z o l},qo (b) (tri h a b c X Y Z++l) o=tri h a b c X o Z++l:=qaW (t);have ysb: ∀ {X Y Z o},qo (b) (tri h a b c X Y Z) o=tri h a b c X o Z:=fun {X Y Z o}=>by have:=zsb (X:=X) (Y:=Y) (Z:=Z) (o:=o) (l:= []);simpa only[lan] using this
 have zsc: ∀ {X Y Z o l},qo (c) (tri h a b c X Y Z++l) o=tri h a b c X Y o++l:=qaX (t);have ysc: ∀ {X Y Z o},qo (c) (tri h a b c X Y Z) o=tri h a b c X Y o:=fun {X Y Z o}=>by have:=zsc (X:=X) (Y:=Y) (Z:=Z) (o:=o) (l:= []);simpa only[lan] using this
 have zca: ∀ {X Y Z v l},cellsOf (tri h a b c X Y Z++l) (a) v=qu (some X) v:=qbE (t);have yca: ∀ {X Y Z v},cellsOf (tri h a b c X Y Z) (a) v=qu (some X) v:=fun {X Y Z v}=>by have:=zca (X:=X) (Y:=Y) (Z:=Z) (v:=v) (l:= []);simpa only[lan] using this
 have zcb: ∀ {X Y Z v l},cellsOf (tri h a b c X Y Z++l) (b) v=qu (some Y) v:=qbF (t);have ycb: ∀ {X Y Z v},cellsOf (tri h a b c X Y Z) (b) v=qu (some Y) v:=fun {X Y Z v}=>by have:=zcb (X:=X) (Y:=Y) (Z:=Z) (v:=v) (l:= []);simpa only[lan] using this
 have zcc: ∀ {X Y Z v l},cellsOf (tri h a b c X Y Z++l) (c) v=qu (some Z) v:=qbG (t);have ycc: ∀ {X Y Z v},cellsOf (tri h a b c X Y Z) (c) v=qu (some Z) v:=fun {X Y Z v}=>by have:=zcc (X:=X) (Y:=Y) (Z:=Z) (v:=v) (l:= []);simpa only[lan] using this
 have zla: ∀ {X Y Z v l},qz (tri h a b c X Y Z++l) (a) v=qF (some X) v:=qbH (t);have yla: ∀ {X Y Z v},qz (tri h a b c X Y Z) (a) v=qF (some X) v:=fun {X Y Z v}=>by have:=zla (X:=X) (Y:=Y) (Z:=Z) (v:=v) (l:= []);simpa only[lan] using this
 have zlb: ∀ {X Y Z v l},qz (tri h a b c X Y Z++l) (b) v=qF (some Y) v:=qbI (t);have ylb: ∀ {X Y Z v},qz (tri h a b c X Y Z) (b) v=qF (some Y) v:=fun {X Y Z v}=>by have:=zlb (X:=X) (Y:=Y) (Z:=Z) (v:=v) (l:= []);simpa only[lan] using this
 have zlc: ∀ {X Y Z v l},qz (tri h a b c X Y Z++l) (c) v=qF (some Z) v:=qbJ (t);have ylc: ∀ {X Y Z v},qz (tri h a b c X Y Z) (c) v=qF (some Z) v:=fun {X Y Z v}=>by have:=zlc (X:=X) (Y:=Y) (Z:=Z) (v:=v) (l:= []);simpa only[lan] using this
 have c2:=fun l=>qBL (va:=va) (t.app l) q x hq
 simp only[qaZ t]at c2;unfold brO brX at c2 ⊢;unfold atC at c2 ⊢;refine acO qyN ?_;simp (disch:=omega) only[qxb,go_sem];refine qy (c2 _) (by exact flk) ?_;simp (disch:=omega) only[go_sem];exact zL trivial (by simp only[tri_len]) (jK t (jN t va (q.pt x)) (qac _ _) (ja _ _ _)) ⟨rfl,rfl⟩ (qi)
end
structure BrB (q:Br) (b:Bs):Prop where
 out:q.out=b.out
 word:q.word=b.word
 opn:q.opn=b.opn
 jn:q.jn=b.jn
theorem qd1(L:List Tk)(f:Int)(w:Str):qa7 (L++ [tkF f []]) w=L++ [tkF f w]:=by
 unfold qa7;have e:(L++ [tkF f []]).length-1=L.length:=by simp
 rw[e];have g:(L++ [tkF f []]).getD L.length default=tkF f []:=by
  have:=qbQ (L:=L) (M:= [tkF f []]) (a:=default) (i:=0)
  rw[Nat.add_zero]at this;rw[this];rfl
 rw[g,List.set_append_right _ _ (nlr _),Nat.sub_self];rfl
theorem qsk{q:Br}{b:Bs}{s:Str}(h:BrB q b)(hb:qoB s b):q.nd.out=b.fin∧q.nd.word= []∧q.nd.opn=false∧q.nd.jn=b.jn:=by
 unfold Br.nd Bs.fin;cases ho:b.opn with
 |true=>
  rw[ipo (by rw[h.opn,ho]),ipo rfl];refine⟨?_,rfl,rfl,h.jn⟩;show qa7 q.out q.word=_;rw[h.out,h.word];unfold Bs.out;rw[ipo ho,qd1]
 |false=>
  rw[ine (by rw[h.opn,ho];simp),ine (by simp),lan];refine⟨?_,rfl,rfl,h.jn⟩;show q.out=_;rw[h.out];unfold Bs.out;rw[ine (by rw[ho];simp),lan]
theorem qz5{q:Br}{b:Bs}{s:Str}(h:BrB q b)(hb:qoB s b)(c:UInt8):BrB (q.pt c) (b.stp c):=by
 obtain⟨n1,n2,n3,n4⟩:=qsk h hb;unfold Br.pt Bs.stp
 by_cases g1:b.opn=true∧qaP c=true
 ·rw[ipo (by rw[h.opn];exact g1),ipo g1];refine⟨?_,?_,?_,h.jn⟩
  ·show q.out=_;rw[h.out];unfold Bs.out;rw[ipo g1.1,ipo rfl]
  ·show q.word++ [c]=_;rw[h.word]
  ·show q.opn=_;rw[h.opn,g1.1]
 rw[ine (by rw[h.opn];exact g1),ine g1]
 by_cases g2:bgn c=true
 ·rw[ipo g2,ipo g2];have ho:b.opn=false:=by
   cases ho:b.opn with
   |false=>rfl
   |true=>exact absurd ⟨ho,qcC g2⟩ g1
  have hf:q.out=b.fin:=by
   rw[h.out];unfold Bs.out Bs.fin;rw[ho];rfl
  refine⟨?_,?_,rfl,rfl⟩
  ·show q.out++ [tkF (0+jfl q.jn q.out.length) []]=_;rw[hf,h.jn];unfold Bs.out;rw[ipo rfl,Int.zero_add]
  ·show q.word++ [c]=_;rw[h.word,(hb.cl ho).1];rfl
 rw[ine g2,ine g2]
 by_cases g3:kind c=6
 ·rw[ipo g3,ipo g3];refine⟨?_,n2,n3,rfl⟩;show q.nd.out=_;rw[n1];unfold Bs.out;rw[ine (by simp),lan]
 ·rw[ine g3,ine g3];refine⟨?_,n2,n3,rfl⟩;show qa7 (q.nd.out++ [tkF (8+jfl q.nd.jn q.nd.out.length) []]) [c]=_;rw[qd1,n1,n4];unfold Bs.out;rw[ine (by simp),lan]
theorem qBM{q:Br}{b:Bs}{s:Str}(h:BrB q b)(hb:qoB s b)(hs:s.length≤900000):qBq q:=by
 have hl:=hb.len;have hc:=hb.cat;have ho:b.out.length=b.fin.length:=by unfold Bs.out Bs.fin;split<;>simp
 refine⟨fun e=> ?_,fun e=> ?_,?_,?_⟩
 ·rw[h.opn]at e;have e2:q.out=b.done++ [tkF b.fl []]:=by rw[h.out];unfold Bs.out;rw[ipo e]
  rw[e2];refine⟨by simp,?_⟩;have g:(b.done++ [tkF b.fl []]).getD ((b.done++ [tkF b.fl []]).length-1) default=tkF b.fl []:=by
   rw[show (b.done++ [tkF b.fl []]).length-1=b.done.length+0 by simp,qbQ];rfl
  rw[g];exact (hb.op e).2.2
 ·rw[h.opn]at e;rw[h.word];exact (hb.cl e).1
 ·rw[h.out,ho];omega
 ·rw[h.word];cases e:b.opn with
  |false=>rw[(hb.cl e).1];simp
  |true=>
   have hm:b.word∈b.fin.map Tk.text:=by
    unfold Bs.fin;rw[ipo e,List.map_append];exact List.mem_append_right _ (List.mem_singleton.2 rfl)
   have h1:=qc9 hm;rw[hc]at h1
   have:=List.length_filter_le (fun c=> !decide (kind c=6)) s
   omega
def brI(vo vw:Nat)(s:Str):Br:=s.foldl Br.pt ⟨[],[],false,false,vo,vw,false⟩
theorem qwt(vo vw:Nat)(s:Str): ∀n,n≤s.length→BrB (brI vo vw (s.take n)) (bsL (s.take n)):=by
 intro n
 induction n with
 |zero=>intro _;exact⟨rfl,rfl,rfl,rfl⟩
 |succ n ih=>
  intro hn;rw[List.take_add_one,zH hn];show BrB (brI vo vw (s.take n++ [s[n]])) (bsL (s.take n++ [s[n]]));rw[qg7];unfold brI;rw[List.foldl_append];exact qz5 (ih om) (qe6 _) _
theorem qoQ(vo vw:Nat)(s:Str){n:Nat}(hn:n<s.length):brI vo vw (s.take (n+1))=(brI vo vw (s.take n)).pt (ch s n):=by
 unfold brI;rw[List.take_add_one,zH hn,List.foldl_append];simp[ch,gdqA,hn]
theorem qrL(vo vw:Nat)(s:Str)(hs:s.length≤900000){n:Nat}(hn:n≤s.length):qBq (brI vo vw (s.take n)):=qBM (qwt vo vw s n hn) (qe6 _) (by rw[List.length_take];omega)
def nmL(L:List Tk)(i:Nat):List Tk:=(L.take i).map tkN++L.drop i
theorem qdc(L:List Tk)(i:Nat):(nmL L i).length=L.length:=by unfold nmL;simp;omega
theorem qzR{L:List Tk}{i:Nat}(hi:i<L.length):(nmL L i).getD i default=L.getD i default:=by
 unfold nmL;rw[gdqA,List.getElem?_append_right (by simp;omega),List.getElem?_drop,gdqA];simp[Nat.min_eq_left (Nat.le_of_lt hi)]
theorem qp9{L:List Tk}{i:Nat}(hi:i<L.length):nmL L (i+1)=(nmL L i).set i (tkN (L.getD i default)):=by
 unfold nmL;have e:((L.take i).map tkN).length=i:=by simp;omega
 rw[List.set_append_right _ _ om,e,Nat.sub_self,List.drop_eq_getElem_cons hi,List.set_cons_zero,List.take_add_one,zH hi,List.map_append,List.append_assoc,gdqA,zH hi];rfl
theorem quy(L:List Tk):nmL L L.length=L.map tkN:=by unfold nmL;rw[List.take_length,List.drop_length,lan]
theorem qqa(L:List Tk):nmL L 0=L:=by unfold nmL;simp
end RC
end
section
open Go Go.Proofs AF
def qud:List Nat:= [117,118,280,257,222,254,223,255,225]
def qwR:C:=
 ((C.ops [O1 3 (.box 0 101) 0,ON 6 (.nilo 1 6 103) [],MC 7 (i6 0)]).seq (((C.ops [MV 14 1,O1 15 (.call 218 true) 14,BC 16 .neq 15 (i6 0),MV 17 16,MG 18 17 false 2,P1 19 17
 false (.call 219 true) 18,PC 20 17 false (.bin .neq) 19 (i6 0),PT 21 17 20]).seq (C.cond (.t 21) ((C.ops [ON 6 (.nilo 1 6 103) [],MC 7 (i6 1)]).seq C.ret) C.skip)).seq (((C.ops
 [O1 22 (.fldA 1) 3,LD 23 22,BC 24 .lss 23 (i6 0),MV 25 24,P1 26 25 false (.fldA 1) 3,P1 27 25 false (.load none) 26,PC 28 25 false (.bin .gtr) 27 (i6 4096),PT 29 25 28]).seq
 (C.cond (.t 29) ((C.ops [ON 6 (.nilo 1 6 103) [],MC 7 (i6 2)]).seq C.ret) C.skip)).seq (((C.ops [O1 30 (.fldA 0) 3,LD 31 30,O1 32 (.call 211 true) 31,O1 33 (.un UnOp.not)
 32]).seq (C.cond (.t 33) ((C.ops [ON 6 (.nilo 1 6 103) [],MC 7 (i6 14)]).seq C.ret) C.skip)).seq ((C.ops [MV 35 1,OC 36 (.call 220 true) 35 (i6 8),MV 34 36,O1 37 (.ext 0) 34,
 O1 38 (.ext 1) 34,MV 8 37,MV 9 38]).seq ((C.ops [MV 40 1,OC 41 (.call 220 true) 40 (i6 9),MV 39 41,O1 42 (.ext 0) 39,O1 43 (.ext 1) 39,MV 10 42,MV 11 43]).seq (((C.ops [MV
 44 8,MV 45 10,BI 46 .add 44 45,BC 47 .gtr 46 (i6 0)]).seq (C.cond (.t 47) ((C.ops [ON 6 (.nilo 1 6 103) [],MC 7 (i6 13)]).seq C.ret) C.skip)).seq ((C.ops [⟨some 12,none,
 .alloc 2 248 [.nl,.nilp,.nl,.bool false,.bool false,.bool false],[]⟩]).seq (((C.wk.seq (C.ops [O1 48 (.load (some 2)) 3,MV 49 1,O2 50 (.call 221 true) 48 49])).seq (C.block
 0 (C.range (.t 50) [51] (C.ops [⟨some 13,none,.alloc 3 253 [i6 0,.int .u8 0,i6 0,.str [],i6 0,.bool false,.str []],[]⟩,ST 7 13 51]) (C.block 1 (C.ops [O1 52 (.load (some
 7)) 13,O2 53 (.call 222 false) 12 52]))))).seq ((C.ops [O1 54 (.call 223 false) 12]).seq (((C.ops [O1 55 (.fldA 0) 12,LD 56 55,O1 57 .len 56,BC 58 .gtr 57 (i6 1024),MV 59 58,
 P1 60 59 false (.fldA 0) 12,P1 61 59 false (.load none) 60,PC 62 59 false (.call 161 true) 61 (.fn (Fn.func 224) [] []),PT 63 59 62]).seq (C.cond (.t 63) ((C.ops [ON 6 (.nilo 1
 6 103) [],MC 7 (i6 4)]).seq C.ret) C.skip)).seq ((C.ops [MV 64 2,O1 65 (.fldA 0) 12,LD 66 65,O2 67 (.call 225 false) 64 66,O1 68 (.ext 0) 67,O1 69 (.ext 1) 67,MV 6 68,MV 7
 69]).seq
 C.ret))))))))))))
theorem qys:qL Tryz.prog 173 70 6 [RV.tmp 6,RV.tmp 7] qwR:=fi Tryz.f173 [3,6,12,13,9,11] qud [12]
end
section
open Go Go.Proofs AF HY LN
namespace RC
theorem qrn{t:Tk}(h:TkG t)(hl:t.text.length≤64):(qiC t.flags=false∧mkB t.flags=false∧ ∀i,i<t.text.length→qaP (ch t.text i)=true)∨(qiC t.flags=false∧mkB t.flags=true):=by
 rcases h.2 with⟨hf,c,r,e,hb,hr⟩|⟨hf,_⟩
 ·refine .inl ⟨by rcases hf with e|e<;>rw[e]<;>rfl,by rcases hf with e|e<;>rw[e]<;>rfl,fun i hi=> ?_⟩;rw[e]at hi ⊢;cases i with
  |zero=>exact qcC hb
  |succ i=>
   simp only[lco]at hi
   have:ch (c::r) (i+1)=r[i]'(by omega):=by simp[ch,gdqA,show i<r.length by omega]
   rw[this];exact hr _ (List.getElem_mem _)
 ·exact .inr ⟨by rcases hf with e|e<;>rw[e]<;>rfl,by rcases hf with e|e<;>rw[e]<;>rfl⟩
theorem qrm{t:Tk}(h:TkG t): ∃f:Nat,t.flags=f∧f<32:=by
 rcases h.2 with⟨hf|hf,_⟩|⟨hf|hf,_⟩
 ·exact⟨0,hf,om⟩
 ·exact⟨16,hf,om⟩
 ·exact⟨8,hf,om⟩
 ·exact⟨24,hf,om⟩
theorem qCZ(L:List Tk)(b v:Nat)(h:List AObj)(hb:qr b h=some (qZ v 103 (jg L)))(hg: ∀t∈L,TkG t)(hl: ∀t∈L,t.text.length≤64)(hn:L.length≤1000000):
  ACalls Tryz.prog 225 [.nl,.osl b v 6 0 L.length] h (.tup [.osl b v 6 0 L.length,.int .i64 0]) (qo b h (qZ v 103 (jg (L.map tkN)))):=by
 have hbl:=zE hb;have hlv: ∀l,qz (h++l) b v=true:=fun l=>by rw[jm,zw hbl,hb,qX];simp
 refine acO qyO ?_;simp (disch:=omega) only[qxc,hlv,go_sem];refine qt (T:=fun i:Nat=>qY 49 [(0,.nl),(1,.osl b v 6 0 L.length),(10,.int .i64 L.length),(11,.int .i64 i)]) (H:=fun i=>qo b h (qZ v 103 (jg (nmL L i)))++ [.emp 1]) (inv:=fun i=>i≤L.length) (m:=fun i=>L.length-i) 0 (nzl _) ?_ ?_
 ·rw[qqa,jI hb];refine Wk.temps ?_
  (simp only[go_sem,qh,qc,qa,qg];try (repeat' first|(with_reducible apply aiA)|(apply qf;omega)|(apply qe;rfl)|exact qi))
 rintro i i1 K hK;have hML:=qdc L i
 by_cases hi:i<L.length
 ·have k1:((i:Int)<L.length)=True:=eqt om;have hne:jg (nmL L i)≠ []:=fun e=>by
   have:=congrArg List.length e
   rw[jJ,hML,lnl]at this;omega
  have ho:qZ v 103 (jg (nmL L i))= .mem v 103 (jg (nmL L i)):=by unfold qZ;rw[ine hne]
  rw[ho];have hM:=jJ (nmL L i);rw[hML]at hM;obtain⟨t,ht⟩: ∃t,t=L.getD i default:=⟨_,rfl⟩
  have hmem:t∈L:=by rw[ht];exact jo hi
  have gt:=hg t hmem;have lt:=hl t hmem;have hat:=qzR hi;rw[←ht]at hat;have hsucc:=qp9 hi;rw[←ht]at hsucc;obtain⟨M,hMe⟩: ∃M,M=nmL L i:=⟨_,rfl⟩
  rw[←hMe]at hM hat hsucc hML ⊢;have s1: ∀ {l w cs z},cellsOf (qo b h (.mem w 103 cs)++l) b z=if w=z then some cs else none:=qae hbl
  have s2: ∀ {l o o'},qo b (qo b h o++l) o'=qo b h o'++l:=qeA hbl;have s4: ∀ {l o},qr b (qo b h o++l)=some o:=qcH hbl;have s3: ∀ {l o w},qz (qo b h o++l) b w=qF (some o) w:=fun {l o w}=>by rw[jm,s4]
  have g0:(jg M)[i*6]? =some (.str t.text):=by
   have:=qeJ (L:=M) (i:=i) (k:=0) om om
   rw[Nat.add_zero]at this;rw[this,hat];rfl
  have b1:(i*6<L.length*6)=True:=eqt om;have b2:(i*6+1+1≤L.length*6)=True:=eqt om;have b3:(i*6+6≤L.length*6)=True:=eqt om;have hset:=qhS (L:=M) (i:=i) (tkN t) om;rw[←hsucc]at hset;have hcut:=qbD (L:=M) (i:=i) om;rw[hat]at hcut;have hS:List.take (i*6+1) (jg M)++ [AV.str t.text]++List.drop (i*6+1+1) (jg M)=jg (nmL L (i+1)):=by
   rw[←hset];have e1:List.take (i*6+1) (jg M)=List.take (i*6) (jg M)++ [.str t.text]:=by
    rw[List.take_add_one,g0];rfl
   have e2:List.drop (i*6+1+1) (jg M)=(tkC t).drop 2++(jg M).drop (i*6+6):=by
    rw[←hcut,List.drop_take,List.drop_drop]
    have:List.drop (i*6+6) (jg M)=List.drop 4 (List.drop (i*6+2) (jg M)):=by rw[List.drop_drop]
    rw[this,show i*6+1+1=i*6+2 by omega];exact (List.take_append_drop 4 _).symm
   rw[e1,e2];simp[tkC,tkN]
  have hL2:=jJ (nmL L (i+1));rw[qdc]at hL2;have hat2:(nmL L (i+1)).getD i default=tkN t:=by rw[hsucc];exact qei om
  have hcut2:=qbD (L:=nmL L (i+1)) (i:=i) (by rw[qdc];exact hi);rw[hat2]at hcut2;have h0':(jg (nmL L (i+1)))[i*6]? =some (.str t.text):=by
   have:=qeJ (L:=nmL L (i+1)) (i:=i) (k:=0) (by rw[qdc];exact hi) om
   rw[hat2]at this;exact this
  have hS2:List.take (i*6+1) (jg (nmL L (i+1)))++ [AV.str t.text]++List.drop (i*6+1+1) (jg (nmL L (i+1)))=jg (nmL L (i+1)):=by
   refine qfO ?_;rw[qeJ (by rw[qdc];exact hi) om,hat2];rfl
  obtain⟨f,hf,hf2⟩:=qrm gt;have c1:=fun h=>qD0 (tkN t) f h hf hf2
  have ho2:qZ v 103 (jg (nmL L (i+1)))= .mem v 103 (jg (nmL L (i+1))):=by
   unfold qZ;rw[ine fun e=> ?_]
   have:=congrArg List.length e
   rw[hL2,lnl]at this;omega
  rcases qrn gt lt with⟨q1,q2,q3⟩|⟨q1,q2⟩
  ·have hiw:(!qiC (tkN t).flags&& !mkB (tkN t).flags)=true:=by rw[show (tkN t).flags=t.flags from rfl,q1,q2];rfl
   rw[hiw]at c1;have c2:=fun h=>qCY t.text h lt q3
   simp (disch:=omega) only[k1,s1,s2,s4,hM,g0,b1,b2,b3,hS,hL2,hcut2,go_sem]
   repeat' first
    |((first|refine cA (c1 _) ?_ ?_|refine cA (c2 _) ?_ ?_);exact flk;simp (disch:=omega) only[k1,s1,s2,s4,b1,b2,hL2,h0',hS2,go_sem])
    |with_reducible apply aiA
   all_goals try exact clz
   refine hK _ _ (i+1) hi om ?_;rw[ho2];refine Wk.temps ?_
   (simp only[go_sem,qh,qc,qa,qg];try (repeat' first|(with_reducible apply aiA)|(apply qf;omega)|(apply qe;rfl)|exact qi))
  ·have hiw:(!qiC (tkN t).flags&& !mkB (tkN t).flags)=false:=by rw[show (tkN t).flags=t.flags from rfl,q1,q2];rfl
   rw[hiw]at c1;simp (disch:=omega) only[k1,s1,s2,s4,hM,g0,b1,b2,b3,hS,hL2,hcut2,go_sem]
   repeat' first
    |(refine cA (c1 _) flk ?_;simp (disch:=omega) only[k1,s1,b1,hL2,go_sem])
    |with_reducible apply aiA
   all_goals try exact clz
   refine hK _ _ (i+1) hi om ?_;rw[ho2];refine Wk.temps ?_
   (simp only[go_sem,qh,qc,qa,qg];try (repeat' first|(with_reducible apply aiA)|(apply qf;omega)|(apply qe;rfl)|exact qi))
 have k1:((i:Int)<L.length)=False:=eqf om;obtain rfl:i=L.length:=by omega
 simp (disch:=omega) only[k1,go_sem];rw[quy];refine qaj ⟨trivial,trivial,trivial⟩ qK (fun o ho=>(jh ho).imp id (fun e=>by rw[e];exact jp (kl _ _))) ⟨rfl,rfl⟩ ?_;simp only[go_sem];rw[ine om];exact qi
end RC
end
section
open Go Go.Proofs AF HY LN
namespace AF
theorem qvz{h:List AObj}{a b c:Nat}{X Y Z o:AObj}(ho:o∈tri h a b c X Y Z):o∈h∨o=X∨o=Y∨o=Z:=by
 unfold tri at ho;rcases jh ho with h1|rfl
 ·rcases jh h1 with h1|rfl
  ·rcases jh h1 with h1|rfl
   ·exact .inl h1
   ·exact .inr (.inl rfl)
  ·exact .inr (.inr (.inl rfl))
 ·exact .inr (.inr (.inr rfl))
theorem qAG{h l:List AObj}{a b c k:Nat}{X Y Z:AObj}(hk:k<h.length)(ha:k≠a)(hb:k≠b)(hc:k≠c):qr k (tri h a b c X Y Z++l)=qr k h:=by
 rw[zw (by rw[tri_len];exact hk)];unfold tri;rw[qR hc,qR hb,qR ha]
theorem qAH{h l:List AObj}{a b c k:Nat}{X Y Z o:AObj}(hk:k<h.length)(ha:k≠a)(hb:k≠b)(hc:k≠c):qo k (tri h a b c X Y Z++l) o=tri (qo k h o) a b c X Y Z++l:=by
 rw[zy (by rw[tri_len];exact hk)];unfold tri;rw[kE hc,kE hb,kE ha]
theorem qsy{h:List AObj}{a b c:Nat}{X Y Z:AObj}(ha:qr a h=some X)(hb:qr b h=some Y)(hc:qr c h=some Z):tri h a b c X Y Z=h:=by
 unfold tri;rw[jI ha,jI hb,jI hc]
end AF
namespace RC
theorem qeB{v n:Nat}{L:List Tk}{ty:TypeId}{fz:Nat→Bool}{h:List AObj}{d:Nat}(hn:n=L.length):VLe (qhH (some (qZ v ty (jg L))) v 6 0 n (rei fz h (d+1))) (zO L):=by
 subst hn;unfold qZ;split
 ·rename_i e
  have:L= []:=by
   cases L with
   |nil=>rfl
   |cons a r=>exact absurd e (by simp[jg,tkC])
  subst this;rw[slOf_emp,ipo rfl];exact zg
 ·rw[slOf_mem,ipo ⟨rfl,by rw[jJ];omega⟩];refine VLe.sl_eq rfl (fun i hi=> ?_);simp only[Nat.zero_add];rw[qbD hi];rfl
theorem qFm(t:Tk)(h:List AObj):ACalls Tryz.prog 224 [.agg (tkC t)] h (.bool (decide (64<t.text.length))) h:=by
 by_cases g:64<t.text.length
 ·have k1:((64:Int)<t.text.length)=True:=eqt om;rw[dqt g];refine acO qr3 ?_;simp (disch:=omega) only[qs3,tkC,k1,go_sem]
  repeat' first
   |(apply qb;exact rvk;simp only[go_sem];exact qi)
 ·have k1:((64:Int)<t.text.length)=False:=eqf om;rw[dqf g];refine acO qr3 ?_;simp (disch:=omega) only[qs3,tkC,k1,go_sem]
  repeat' first
   |(apply qb;exact rvk;simp only[go_sem];exact qi)
theorem qET(L:List Tk)(h:List AObj)(hl:L.length≤1000000000):ACalls Tryz.prog 161 [zO L,.fn (.func 224) [] []] h (.bool (qun L)) h:=
 qxL qrT ⟨rfl,rfl⟩ ⟨rfl,rfl⟩ (qgi qrY L.length (fun j=>tkC (L.getD j default)) (fun j=> .agg (tkC (L.getD j default))) 224 [] [] (fun j=>decide (64<(L.getD j default).text.length)) h (fun i _=>⟨rfl,by simp[kr,tkC],rfl,rfl,rfl⟩) (fun i _=>qFm _ _) om)
end RC
end
