import Derived.Test.YtgoandblgcjleaaGreatDoorK14
import Derived.Test.YtgoandblgcjleaaGreatDoorK3
import Derived.Test.YtgoandblgcjleaaGreatDoorK5
import Derived.Test.YtgoandblgcjleaaGreatDoorK8
import Derived.Test.YtgoandblgcjleaaGreatDoorProg
import Derived.Test.YtgoandblgcjleaaGreatDoorK13
import Derived.Test.YtgoandblgcjleaaGreatDoorK12
import Derived.Test.YtgoandblgcjleaaGreatDoorK10
import Derived.Test.YtgoandblgcjleaaGreatDoorK7
set_option linter.all false
set_option linter.unusedSimpArgs false
set_option linter.unusedVariables false
set_option linter.unusedSectionVars false
set_option maxHeartbeats 64000000
set_option maxRecDepth 100000
section
open Go Go.Proofs AF HY LN
namespace RC
structure qwp (x:Co):Prop where
 sc:x.sec.length≤1000000000
 sg:x.sig.length≤1000000000
 ss: ∀i,(x.sig.getD i []).length≤1000000000
 tk:x.tok.length≤1000000000
 tl: ∀i,(x.tok.getD i []).length≤1000000000
 te: ∀i j,qsK ((x.tok.getD i []).getD j default)
 cl:x.col.length≤1000000000
 ce: ∀i,(x.col.getD i []).length≤1000000000
theorem qCP(s:Str)(h:List AObj)(hs:s.length≤1000000000):ACalls Tryz.prog 204 [.str s] h (.bool (qiS s)) h:=by
 have c1:=fun h=>qrH s h hs
 unfold qiS;cases g:qfG s with
 |true=>
  rw[g]at c1;simp only[if_true]at c1;have c2:=fun h=>t44 (s.take (s.length-1)) h (by simp;omega)
  rw[ipo rfl];cases g2:jp (s.take (s.length-1))with
  |true=>
   rw[g2]at c2;have k7:decide ((s.length:Int)≤16)=decide (s.length≤16):=decide_eq_decide.2 om;refine acO qhb ?_;simp (disch:=omega) only[qkG,go_sem]
   repeat' first
    |((first|refine cA (c1 _) ?_ ?_|refine cA (c2 _) ?_ ?_);exact flk;simp (disch:=omega) only[k7,go_sem])
    |(apply qe;exact rvk;simp only[go_sem];exact qk)
    |with_reducible apply aiA
   all_goals try exact clz
  |false=>
   rw[g2]at c2;refine acO qhb ?_;simp (disch:=omega) only[qkG,go_sem]
   repeat' first
    |((first|refine cA (c1 _) ?_ ?_|refine cA (c2 _) ?_ ?_);exact flk;simp (disch:=omega) only[go_sem])
    |(apply qe;exact rvk;simp only[go_sem];exact qk)
    |with_reducible apply aiA
   all_goals try exact clz
 |false=>
  rw[g]at c1;rw[ine (by simp)]at c1 ⊢;have c2:=fun h=>t44 s h hs
  cases g2:jp s with
  |true=>
   rw[g2]at c2;refine acO qhb ?_;simp (disch:=omega) only[qkG,go_sem]
   repeat' first
    |((first|refine cA (c1 _) ?_ ?_|refine cA (c2 _) ?_ ?_);exact flk;simp (disch:=omega) only[go_sem])
    |(apply qe;exact rvk;simp only[go_sem];exact qk)
    |with_reducible apply aiA
   all_goals try exact clz
  |false=>
   rw[g2]at c2;refine acO qhb ?_;simp (disch:=omega) only[qkG,go_sem]
   repeat' first
    |((first|refine cA (c1 _) ?_ ?_|refine cA (c2 _) ?_ ?_);exact flk;simp (disch:=omega) only[go_sem])
    |(apply qe;exact rvk;simp only[go_sem];exact qk)
    |with_reducible apply aiA
   all_goals try exact clz
theorem qEU(t:Tk)(h:List AObj)(hz:qsK t)(hp:qag SG h):ACalls Tryz.prog 206 [.agg (tkC t)] h (.bool (!decide (tkE t=0))) h:=by
 have c1:=fun l=>tkP t (h++l) hz (hp.app l)
 obtain⟨e,he⟩: ∃e,e=tkE t:=⟨_,rfl⟩
 rw[←he]at c1 ⊢;unfold tkC at c1;refine acO qy7 ?_;simp (disch:=omega) only[qxp,tkC,go_sem]
 repeat' first
  |(refine cA (c1 _) flk ?_;simp (disch:=omega) only[go_sem])
  |(apply qb;exact rvk;simp only[go_sem];exact qk)
theorem qD2(l:List Tk)(h:List AObj)(hl:l.length≤1000000000)(hz: ∀j,qsK (l.getD j default))(hp:qag SG h):
  ACalls Tryz.prog 205 [qbK l,.fn (.func 206) [] []] h (.bool (zd (fun j=> !decide (tkE (l.getD j default)=0)) l.length)) h:=by
 unfold qbK;refine qo9 qy6 ⟨rfl,rfl⟩ ⟨rfl,rfl⟩ (qba qzj l.length (fun j=>tkC (l.getD j default)) (fun j=> .agg (tkC (l.getD j default))) _ [] [] _ h (fun i _=>⟨rfl,by simp[ji,tkC],rfl,rfl,rfl⟩) (fun i _=> ?_) om);exact qEU _ h (hz i) hp
theorem qEV(x:Co)(h:List AObj)(hz:qwp x)(hp:qag SG h):ACalls Tryz.prog 152 [.str x.sec,strs x.sig,qP x.tok] h (.int .i64 (srE x)) h:=by
 obtain⟨R,hR⟩: ∃R,R=srE x:=⟨_,rfl⟩
 rw[←hR];unfold srE at hR;have z1:=hz.sg;have z2:=hz.tk;have cN:=fun h=>t44 x.sec h hz.sc
 cases g0:jp x.sec with
 |false=>
  rw[g0]at cN;rw[ipo g0]at hR;rw[hR];refine acO qg7 ?_;simp (disch:=omega) only[qkC,strs,qP,go_sem]
  repeat' first
   |(refine cA (cN _) flk ?_;simp (disch:=omega) only[go_sem])
   |(apply qe;exact rvk;simp only[go_sem];exact qk)
 |true=>
 rw[g0]at cN;rw[ine (by rw[g0];simp)]at hR
 by_cases g1:x.sig.length=0
 ·have k1:((x.sig.length:Int)=0)=True:=eqt om;rw[ipo g1]at hR;rw[hR];refine acO qg7 ?_;simp (disch:=omega) only[qkC,strs,qP,go_sem]
  repeat' first
   |(refine cA (cN _) flk ?_;simp (disch:=omega) only[k1,go_sem])
   |(apply qe;exact rvk;simp only[go_sem];exact qk)
 have k1:((x.sig.length:Int)=0)=False:=eqf om;rw[ine g1]at hR
 by_cases g2:32<x.sig.length
 ·have k2:((32:Int)<x.sig.length)=True:=eqt om;rw[ipo g2]at hR;rw[hR];refine acO qg7 ?_;simp (disch:=omega) only[qkC,strs,qP,go_sem]
  repeat' first
   |(refine cA (cN _) flk ?_;simp (disch:=omega) only[k1,k2,go_sem])
   |(apply qe;exact rvk;simp only[go_sem];exact qk)
 have k2:((32:Int)<x.sig.length)=False:=eqf om;rw[ine g2]at hR;refine acO qg7 ?_;simp (disch:=omega) only[qkC,strs,qP,go_sem]
 repeat' first
  |(refine cA (cN _) flk ?_;simp (disch:=omega) only[k1,k2,go_sem])
 refine qn (T:=fun i:Nat=>qI 56 [(1,strs x.sig),(2,qP x.tok),(23,strs x.sig),(24,.int .i64 x.sig.length),(25,.int .i64 i)]) (H:=fun _=>h) (inv:=fun i=>i≤x.sig.length∧ ∀j,j<i→jm x.sig j=0) (m:=fun i=>x.sig.length-i) 0 ⟨nzl _,fun j hj=>by omega⟩ (Wk.temps ?_) ?_
 ·(simp only[strs,qP,go_sem,qj,qd,qa,qi];try (repeat' first|(with_reducible apply aiA)|(apply qh;omega)|(apply qg;rfl)|exact qk))
 rintro i ⟨i1,i2⟩ K hK
 by_cases hi:i<x.sig.length
 ·have k3:((i:Int)<x.sig.length)=True:=eqt om;have k4:((i:Int)≤x.sig.length)=True:=eqt om;have hE:=qO (f:=jm x.sig) hi i2;have hs:jm x.sig i=if qiS (x.sig.getD i [])=false then 14 else if zd (fun j=>decide (x.sig.getD i []=x.sig.getD j [])) i=true then 7 else 0:=rfl
  have c87:=fun h=>qCP (x.sig.getD i []) h (hz.ss i)
  have c88:=fun h=>qla i (fun j=>x.sig.getD j []) (x.sig.getD i []) h om
  obtain⟨s,hsx⟩: ∃s,s=x.sig.getD i []:=⟨_,rfl⟩
  have es:=hsx.symm;rw[es]at hs c87;simp only[es]at hs c88;cases g3:qiS s with
  |false=>
   rw[g3]at c87;rw[ipo g3]at hs;have hne:qaZ (jm x.sig) 0 x.sig.length≠0:=by rw[hE (by rw[hs];decide),hs];decide
   have hV:R=14:=by rw[hR,ipo hne,hE (by rw[hs];decide),hs]
   rw[hV];simp (disch:=omega) only[strs,qP,k3,es,go_sem]
   repeat' first
    |(refine cA (c87 _) flk ?_;simp (disch:=omega) only[k4,go_sem])
    |(apply qe;exact rvk;simp only[go_sem];exact qk)
    |with_reducible apply aiA
   all_goals try exact clz
  |true=>
  rw[g3]at c87;rw[ine (by rw[g3];simp)]at hs;cases g4:zd (fun j=>decide (s=x.sig.getD j [])) i with
  |true=>
   rw[g4]at c88;rw[ipo g4]at hs;have hne:qaZ (jm x.sig) 0 x.sig.length≠0:=by rw[hE (by rw[hs];decide),hs];decide
   have hV:R=7:=by rw[hR,ipo hne,hE (by rw[hs];decide),hs]
   rw[hV];simp (disch:=omega) only[strs,qP,k3,es,go_sem]
   repeat' first
    |((first|refine cA (c87 _) ?_ ?_|refine cA (c88 _) ?_ ?_);exact flk;simp (disch:=omega) only[k4,Nat.sub_zero,go_sem])
    |(apply qe;exact rvk;simp only[go_sem];exact qk)
    |with_reducible apply aiA
   all_goals try exact clz
  |false=>
   rw[g4]at c88;rw[ine (by rw[g4];simp)]at hs;simp (disch:=omega) only[strs,qP,k3,es,go_sem]
   repeat' first
    |((first|refine cA (c87 _) ?_ ?_|refine cA (c88 _) ?_ ?_);exact flk;simp (disch:=omega) only[k4,Nat.sub_zero,go_sem])
    |with_reducible apply aiA
   all_goals try exact clz
   refine hK _ _ (i+1) ⟨hi,fun j hj=> ?_⟩ om (Wk.temps ?_)
   ·by_cases e:j=i
    ·subst e;exact hs
    ·exact i2 j om
   ·(simp only[strs,qP,go_sem,qj,qd,qa,qi];try (repeat' first|(with_reducible apply aiA)|(apply qh;omega)|(apply qg;rfl)|exact qk))
 have k3:((i:Int)<x.sig.length)=False:=eqf om;have hn0:=qz (f:=jm x.sig) (fun j (hj:j<x.sig.length)=>i2 j om);rw[ine (fun hc=>hc hn0)]at hR
 by_cases g5:x.tok.length=x.sig.length
 case neg=>
  have k5:((x.tok.length:Int)=x.sig.length)=False:=eqf om;rw[ipo g5]at hR;rw[hR];simp (disch:=omega) only[strs,qP,k3,k5,go_sem]
  repeat' first
   |(apply qe;exact rvk;simp only[go_sem];exact qk)
 have k5:((x.tok.length:Int)=x.sig.length)=True:=eqt om;rw[ine (fun hc=>hc g5)]at hR;clear hK;simp (disch:=omega) only[strs,qP,k3,k5,go_sem];obtain⟨rw0,hrw⟩: ∃f:Nat→Int,f=fun i=>qjj (x.tok.getD i []):=⟨_,rfl⟩
 have er: ∀i,rw0 i=qjj (x.tok.getD i []):=fun i=>by rw[hrw]
 rw[←hrw]at hR;refine qn (T:=fun i:Nat=>qI 56 [(44,qP x.tok),(45,.int .i64 x.tok.length),(46,.int .i64 i)]) (H:=fun _=>h) (inv:=fun i=>i≤x.tok.length∧ ∀j,j<i→rw0 j=0) (m:=fun i=>x.tok.length-i) 0 ⟨nzl _,fun j hj=>by omega⟩ (Wk.temps ?_) ?_
 ·(simp only[qP,go_sem,qj,qd,qa,qi];try (repeat' first|(with_reducible apply aiA)|(apply qh;omega)|(apply qg;rfl)|exact qk))
 rintro i ⟨i1,i2⟩ K hK
 by_cases hi:i<x.tok.length
 ·have k6:((i:Int)<x.tok.length)=True:=eqt om;have hE:=qO (f:=rw0) hi i2;have hs:=er i;have zl:=hz.tl i;have zt:=hz.te i;obtain⟨l,hl⟩: ∃l,l=x.tok.getD i []:=⟨_,rfl⟩
  have el:=hl.symm;rw[el]at hs zl;simp only[el]at zt;unfold qjj at hs
  by_cases g6:1024<l.length
  ·have k7:((1024:Int)<l.length)=True:=eqt om;rw[ipo g6]at hs;have hV:R=4:=by rw[hR,hE (by rw[hs];decide),hs]
   rw[hV];simp (disch:=omega) only[qP,qbK,k6,k7,el,go_sem]
   repeat' first
    |(apply qe;exact rvk;simp only[go_sem];exact qk)
    |with_reducible apply aiA
   all_goals try exact clz
  have k7:((1024:Int)<l.length)=False:=eqf om;rw[ine g6]at hs;have cT:=qD2 l h zl zt hp;have eA:zd (fun j=>decide (tkE (l.getD j default)≠0)) l.length=zd (fun j=> !decide (tkE (l.getD j default)=0)) l.length:=qhR fun j _=>by simp
  rw[eA]at hs;unfold qbK at cT;obtain⟨b,hb⟩: ∃b,b=zd (fun j=> !decide (tkE (l.getD j default)=0)) l.length:=⟨_,rfl⟩
  rw[←hb]at hs cT;cases b with
  |true=>
   rw[ipo rfl]at hs;have hV:R=1:=by rw[hR,hE (by rw[hs];decide),hs]
   rw[hV];simp (disch:=omega) only[qP,qbK,k6,k7,el,go_sem]
   repeat' first
    |(refine cA (cT) flk ?_;simp (disch:=omega) only[go_sem])
    |(apply qe;exact rvk;simp only[go_sem];exact qk)
    |with_reducible apply aiA
   all_goals try exact clz
  |false=>
   rw[ine (by simp)]at hs;simp (disch:=omega) only[qP,qbK,k6,k7,el,go_sem]
   repeat' first
    |(refine cA (cT) flk ?_;simp (disch:=omega) only[go_sem])
    |with_reducible apply aiA
   all_goals try exact clz
   refine hK _ _ (i+1) ⟨hi,fun j hj=> ?_⟩ om (Wk.temps ?_)
   ·by_cases e:j=i
    ·subst e;exact hs
    ·exact i2 j om
   ·(simp only[qP,qbK,go_sem,qj,qd,qa,qi];try (repeat' first|(with_reducible apply aiA)|(apply qh;omega)|(apply qg;rfl)|exact qk))
 ·have k6:((i:Int)<x.tok.length)=False:=eqf om;rw[qz (fun j (hj:j<x.tok.length)=>i2 j om)]at hR;rw[hR];simp (disch:=omega) only[qP,k6,go_sem]
  repeat' first
   |(apply qe;exact rvk;simp only[go_sem];exact qk)
theorem qEI(l:List Tk)(h:List AObj):ACalls Tryz.prog 254 [qbK l] h (.bool (decide (1024<l.length))) h:=by
 have k:decide ((1024:Int)<l.length)=decide (1024<l.length):=decide_eq_decide.2 om;refine acO qzn ?_;simp (disch:=omega) only[qxC,qbK,go_sem]
 repeat' first
  |(apply qe;exact rvk;simp only[go_sem];apply qg)
 all_goals try exact clz
theorem qEJ(L:List (List Tk))(h:List AObj)(h1:0<L.length)(h2:L.length≤32)(h3: ∀s,s<L.length→(L.getD s []).length≤1024):ACalls Tryz.prog 208 [qP L] h (.int .i64 0) h:=by
 have k1:((L.length:Int)=0)=False:=eqf om;have k2:((32:Int)<L.length)=False:=eqf om;have c: ∀h,ACalls Tryz.prog 253 [qP L,.fn (.func 254) [] []] h (.bool false) h:=fun h=>by
  have e:zd (fun j=>decide (1024<(L.getD j []).length)) L.length=false:=qo.2 fun s hs=>dqf (by have:=h3 s hs;omega)
  rw[←e];unfold qP;refine qo9 qzm ⟨rfl,rfl⟩ ⟨rfl,rfl⟩ (qba qzB L.length (fun j=> [qbK (L.getD j [])]) (fun j=>qbK (L.getD j [])) _ [] [] _ h (fun i _=>⟨rfl,by simp[ji],rfl,rfl,rfl⟩) (fun i _=> ?_) om);exact qEI _ h
 unfold qP at c;refine acO qy8 ?_;simp (disch:=omega) only[qxq,qP,k1,k2,go_sem]
 repeat' first
  |(refine cG (fun e=>c _) flk ?_;simp (disch:=omega) only[go_sem])
  |(apply qe;exact rvk;simp only[go_sem];exact qk)
def gC(g:Nat→AV)(n:Nat):List AV:=(List.range n).map g
theorem qat(g:Nat→AV)(n:Nat):(gC g n).length=n:=by simp[gC]
theorem qcH{g:Nat→AV}{n k:Nat}(hk:k<n):(gC g n)[k]? =some (g k):=by
 unfold gC;rw[List.getElem?_map,List.getElem?_range hk];rfl
theorem qaC{p q:Nat→AV}{n:Nat}(h: ∀k,k<n→p k=q k):gC p n=gC q n:=by
 unfold gC;exact List.map_congr_left fun k hk=>by rw[h k (List.mem_range.1 hk)]
theorem qsk{g:Nat→AV}{n u:Nat}(x:AV)(hu:u<n):List.take u (gC g n)++ [x]++List.drop (u+1) (gC g n)=gC (fun k=>if k=u then x else g k) n:=by
 refine List.ext_getElem? fun k=> ?_
 by_cases hk:k<n
 ·rw[qcH hk]
  by_cases h1:k<u
  ·rw[List.append_assoc,List.getElem?_append_left (by rw[List.length_take,qat];omega),List.getElem?_take_of_lt h1,qcH hk,ine om]
  ·by_cases h2:k=u
   ·subst h2;rw[List.append_assoc,List.getElem?_append_right (by rw[List.length_take,qat];omega),List.length_take,qat,show k-min k n=0 by omega,ipo rfl];rfl
   ·rw[List.getElem?_append_right (by rw[lap,List.length_take,qat];simp only[lco,lnl];omega),lap,List.length_take,qat,List.getElem?_drop];simp only[lco,lnl];rw[show u+1+(k-(min u n+(0+1)))=k by omega,qcH hk,ine h2]
 ·rw[List.getElem?_eq_none (by simp only[lap,List.length_take,List.length_drop,qat,lco,lnl];omega),List.getElem?_eq_none (by rw[qat];omega)]
theorem qlP(z:AV)(n:Nat):qS [z] n=gC (fun _=>z) n:=by
 induction n with
 |zero=>rfl
 |succ n ih=>
  have e:gC (fun _=>z) (n+1)=z::gC (fun _=>z) n:=by
   unfold gC;rw[List.range_succ_eq_map,List.map_cons,List.map_map];rfl
  rw[e,←ih];rfl
section
variable {tok : List (List Tk)} {col : List (List Int)} {i s : Nat}
theorem qtK(h:(col.getD i []).length≠tok.length):qfW tok col i=false:=by unfold qfW;rw[dqf h,Bool.false_and]
theorem qya(hs:s<tok.length)(h:enB tok col i s=false):qfW tok col i=false:=by
 unfold qfW;rw[qG.2 ⟨s,hs,by rw[h];rfl⟩];simp
theorem qyb(h1:(col.getD i []).length=tok.length)(h2: ∀s,s<tok.length→enB tok col i s=true):qfW tok col i=zd (fun s=> !decide ((col.getD i []).getD s 0= -1)) tok.length:=by
 unfold qfW;rw[dqt h1,qo.2 (fun s hs=>by rw[h2 s hs];rfl)];simp
theorem qBI(hi:i<col.length)(h:qfW tok col i=false):alB tok col=false:=by
 unfold alB;rw[qG.2 ⟨i,hi,by rw[h];rfl⟩];simp
theorem qwL(hs:s<tok.length)(h:cnC col s col.length≠(tok.getD s []).length):alB tok col=false:=by
 unfold alB;rw[qG.2 ⟨s,hs,by rw[dqf h];rfl⟩,Bool.not_true,Bool.and_false]
theorem qwM(h1: ∀i,i<col.length→qfW tok col i=true)(h2: ∀s,s<tok.length→cnC col s col.length=(tok.getD s []).length):alB tok col=true:=by
 unfold alB;rw[qo.2 (fun i hi=>by rw[h1 i hi];rfl),qo.2 (fun s hs=>by rw[dqt (h2 s hs)];rfl)];rfl
theorem qx9: ∀i,cnC col s i≤i:=by
 intro i
 induction i with
 |zero=>exact nlr _
 |succ i ih=>unfold cnC;split<;>omega
def atA(col:List (List Int))(i s k:Nat):AV:= .int .i64 ((if k<s then cnC col k (i+1) else cnC col k i:Nat):Int)
theorem qwQ:atA col i s s= .int .i64 (cnC col s i:Int):=by unfold atA;rw[ine (Nat.lt_irrefl _)]
theorem qBL(n:Nat):gC (atA col 0 0) n=gC (fun _=> .int .i64 0) n:=qaC fun k _=>by unfold atA;rw[ine (nnz _)];rfl
theorem qsU(n:Nat):gC (atA col i n) n=gC (atA col (i+1) 0) n:=qaC fun k hk=>by unfold atA;rw[ipo hk,ine (nnz _)]
theorem qoA{n:Nat}(h:(col.getD i []).getD s 0= -1):gC (atA col i s) n=gC (atA col i (s+1)) n:=qaC fun k hk=>by
 unfold atA
 by_cases e:k=s
 ·subst e;rw[ine (Nat.lt_irrefl _),ipo (Nat.lt_succ_self _)];show _=AV.int .i64 ((cnC col k i+if (col.getD i []).getD k 0= -1 then 0 else 1:Nat):Int);rw[ipo h];rfl
 ·by_cases h1:k<s
  ·rw[ipo h1,ipo om]
  ·rw[ine h1,ine om]
theorem qoB{n:Nat}(hs:s<n)(h:(col.getD i []).getD s 0≠ -1):List.take s (gC (atA col i s) n)++ [.int .i64 ((cnC col s i:Int)+1)]++List.drop (s+1) (gC (atA col i s) n)=gC (atA col i (s+1)) n:=by
 rw[qsk _ hs];refine qaC fun k hk=> ?_
 unfold atA
 by_cases e:k=s
 ·subst e;rw[ipo rfl,ipo (Nat.lt_succ_self _)];show _=AV.int .i64 ((cnC col k i+if (col.getD i []).getD k 0= -1 then 0 else 1:Nat):Int);rw[ine h];rfl
 ·rw[ine e]
  by_cases h1:k<s
  ·rw[ipo h1,ipo om]
  ·rw[ine h1,ine om]
theorem qjG(p:Nat→Bool)(n:Nat):zd p (n+1)=(zd p n||p n):=by
 cases e:zd p n with
 |true=>obtain⟨i,h1,h2⟩:=qG.1 e;exact qG.2 ⟨i,om,h2⟩
 |false=>
  have h:=qo.1 e;cases e2:p n with
  |true=>exact qG.2 ⟨n,om,e2⟩
  |false=>
   refine qo.2 fun i hi=> ?_
   by_cases g:i=n
   ·subst g;exact e2
   ·exact h i om
end
theorem qDT(tok:List (List Tk))(col:List (List Int))(h:List AObj)(hn:tok.length≤1000000000)(hc:col.length≤1000000000)(hl: ∀s,(tok.getD s []).length≤1000000000)(hm: ∀i,(col.getD i []).length≤1000000000):
  ACalls Tryz.prog 209 [qP tok,qE col] h (.bool (alB tok col)) h:=by
 have k0:(0≤(tok.length:Int))=True:=eqt om;have k1:((tok.length:Int)≤9223372036854775807)=True:=eqt om;obtain⟨R,hR⟩: ∃R,R=alB tok col:=⟨_,rfl⟩
 rw[←hR];refine acO qy9 ?_;simp (disch:=omega) only[qxr,qP,qE,k0,go_sem]
 repeat' first
  |with_reducible apply aiA
 all_goals try exact clz
 all_goals try rw[itn]
 rw[qlP,←qBL (col:=col)];refine qn (T:=fun i:Nat=>qI 76 [(0,qP tok),(5,.osl h.length 1 1 0 tok.length),(15,qE col),(16,.int .i64 col.length),(17,.int .i64 i)])
  (H:=fun i=>h++ [.mem 1 3 (gC (atA col i 0) tok.length)])
  (inv:=fun i=>i≤col.length∧ ∀j,j<i→qfW tok col j=true) (m:=fun i=>col.length-i) 0 ⟨nzl _,fun j hj=>absurd hj (nnz j)⟩ (Wk.temps ?_) ?_
 ·(simp only[qP,qE,go_sem,qj,qd,qa,qi];try (repeat' first|(with_reducible apply aiA)|(apply qh;omega)|(apply qg;rfl)|exact qk))
 rintro i ⟨i1,i2⟩ K hK
 by_cases hi:i<col.length
 ·have k2:((i:Int)<col.length)=True:=eqt om;have hno:qfW tok col i=false→R=false:=fun hx=>by rw[hR];exact qBI hi hx
  have hlen:= @qtK tok col i;have hen:= @qya tok col i;have heq:= @qyb tok col i;have hskip:= @qoA col i;have hstep:= @qoB col i;have hmi:=hm i;have hE: ∀s,enB tok col i s=(decide ((col.getD i []).getD s 0= -1)||(decide ((col.getD i []).getD s 0=(cnC col s i:Int))&&decide ((col.getD i []).getD s 0<((tok.getD s []).length:Int)))):=fun _=>rfl
  obtain⟨c,hcx⟩: ∃c,c=col.getD i []:=⟨_,rfl⟩
  have ec:=hcx.symm;rw[ec]at hlen heq hmi;simp only[ec]at hskip hstep hE
  by_cases g1:c.length=tok.length
  case neg=>
   have k3:((c.length:Int)=tok.length)=False:=eqf om;rw[hno (hlen g1)];simp (disch:=omega) only[qP,qE,ql,k2,k3,ec,go_sem]
   repeat' first
    |(apply qb;exact rvk;simp only[go_sem];exact qk)
    |with_reducible apply aiA
   all_goals try exact clz
  have k3:((c.length:Int)=tok.length)=True:=eqt om;have heq:=heq g1;simp (disch:=omega) only[qP,qE,ql,k2,k3,ec,go_sem]
  repeat' first
   |with_reducible apply aiA
  all_goals try exact clz
  refine qn (T:=fun s:Nat=>qI 76 [(0,qP tok),(5,.osl h.length 1 1 0 tok.length),(8,.bool (zd (fun s=> !decide (c.getD s 0= -1)) s)),(15,qE col),(16,.int .i64 col.length),(17,.int .i64 i),(26,ql c),(27,.int .i64 c.length),(28,.int .i64 s)])
   (H:=fun s=>h++ [.mem 1 3 (gC (atA col i s) tok.length)])
   (inv:=fun s=>s≤c.length∧ ∀j,j<s→enB tok col i j=true) (m:=fun s=>c.length-s) 0 ⟨nzl _,fun j hj=>absurd hj (nnz j)⟩ (Wk.temps ?_) ?_
  ·(simp only[qP,qE,ql,go_sem,qj,qd,qa,qi];try (repeat' first|(with_reducible apply aiA)|(apply qh;omega)|(apply qg;rfl)|exact qk))
  rintro s ⟨s1,s2⟩ K2 hK2
  by_cases hs:s<c.length
  ·have t1:((s:Int)<c.length)=True:=eqt om;have t0:(0≤(s:Int))=True:=eqt om;have hsn:s<tok.length:=by omega
   have t2:((s:Int)<tok.length)=True:=eqt om;have t3:(s<tok.length)=True:=eqt hsn;have t4:(s+1≤tok.length)=True:=eqt hsn;have gl:=qat (atA col i s) tok.length;have gg:=qcH (g:=atA col i s) hsn;rw[qwQ]at gg;have hsk:=hskip (s:=s) (n:=tok.length);have hst:=hstep (s:=s) hsn;have hcn:= @qx9 col s i;have hlt:=hl s;have hEs:=hE s;have hap:=qjG (fun s=> !decide (c.getD s 0= -1)) s;obtain⟨t,ht⟩: ∃t,t=c.getD s 0:=⟨_,rfl⟩
   obtain⟨l,hlx⟩: ∃l,l=tok.getD s []:=⟨_,rfl⟩
   have et:=ht.symm;have el:=hlx.symm;rw[et]at hsk hst hEs;rw[el]at hEs hlt;simp only[et]at hap;obtain⟨a,ha⟩: ∃a,a=zd (fun s=> !decide (c.getD s 0= -1)) s:=⟨_,rfl⟩
   have ea:=ha.symm;rw[ea]at hap;obtain⟨q,hq⟩: ∃q:Nat,q=cnC col s i:=⟨_,rfl⟩
   have eq:=hq.symm;rw[eq]at hst hEs hcn gg;have b2:((q:Int)+1≤9223372036854775807)=True:=eqt om;have b3:(-9223372036854775808≤(q:Int)+1)=True:=eqt om
   by_cases g2:t= -1
   ·have k4:(t= -1)=True:=eqt g2;rw[dqt g2,Bool.true_or]at hEs;have hap':zd (fun s=> !decide (c.getD s 0= -1)) (s+1)=a:=by rw[hap,dqt g2];simp
    simp (disch:=omega) only[qP,qE,ql,t0,t1,t2,t3,k4,et,ea,gl,gg,Nat.mul_one,Nat.zero_add,go_sem]
    repeat' first
     |with_reducible apply aiA
    all_goals try exact clz
    rw[hsk g2];refine hK2 _ _ (s+1) ⟨hs,fun j hj=> ?_⟩ om (Wk.temps ?_)
    ·by_cases e:j=s
     ·subst e;exact hEs
     ·exact s2 j om
    ·rw[hap']
     (simp only[qP,qE,ql,go_sem,qj,qd,qa,qi];try (repeat' first|(with_reducible apply aiA)|(apply qh;omega)|(apply qg;rfl)|exact qk))
   have k4:(t= -1)=False:=eqf g2;rw[dqf g2,Bool.false_or]at hEs;have hap':zd (fun s=> !decide (c.getD s 0= -1)) (s+1)=true:=by rw[hap,dqf g2];simp
   by_cases g3:t=(q:Int)
   case neg=>
    have k5:(t=(q:Int))=False:=eqf g3;rw[dqf g3,Bool.false_and]at hEs;rw[hno (hen hsn hEs)];simp (disch:=omega) only[qP,qE,ql,t0,t1,t2,t3,t4,k4,k5,et,ea,gl,gg,Nat.mul_one,Nat.zero_add,go_sem]
    repeat' first
     |(apply qb;exact rvk;simp only[go_sem];exact qk)
     |with_reducible apply aiA
    all_goals try exact clz
   have k5:(t=(q:Int))=True:=eqt g3;rw[dqt g3,Bool.true_and]at hEs
   by_cases g4:(l.length:Int)≤t
   ·have k6:((l.length:Int)≤t)=True:=eqt g4;rw[dqf om]at hEs;rw[hno (hen hsn hEs)];simp (disch:=omega) only[qP,qbK,qE,ql,t0,t1,t2,t3,t4,k4,k5,k6,et,ea,el,gl,gg,Nat.mul_one,Nat.zero_add,go_sem]
    repeat' first
     |(apply qb;exact rvk;simp only[go_sem];exact qk)
     |with_reducible apply aiA
    all_goals try exact clz
   ·have k6:((l.length:Int)≤t)=False:=eqf g4;rw[dqt om]at hEs;have hst:=hst g2;simp (disch:=omega) only[qP,qbK,qE,ql,t0,t1,t2,t3,t4,k4,k5,k6,et,ea,el,gl,gg,hst,Nat.mul_one,Nat.zero_add,Option.isSome_some,go_sem]
    repeat' first
     |with_reducible apply aiA
    all_goals try exact clz
    try rw[hst]
    refine hK2 _ _ (s+1) ⟨hs,fun j hj=> ?_⟩ om (Wk.temps ?_)
    ·by_cases e:j=s
     ·subst e;exact hEs
     ·exact s2 j om
    ·rw[hap']
     (simp only[qP,qbK,qE,ql,go_sem,qj,qd,qa,qi];try (repeat' first|(with_reducible apply aiA)|(apply qh;omega)|(apply qg;rfl)|exact qk))
  ·have t1:((s:Int)<c.length)=False:=eqf om;have es:s=tok.length:=by omega
   have heq:=heq fun j hj=>s2 j om
   rw[←es]at heq;rw[es]at*;cases ga:zd (fun s=> !decide (c.getD s 0= -1)) tok.length with
   |false=>
    rw[ga]at heq;rw[hno heq];simp (disch:=omega) only[qP,qE,ql,go_sem]
    repeat' first
     |(apply qb;exact rvk;simp only[go_sem];exact qk)
     |with_reducible first|intro _|apply aiA
    all_goals try exact clz
   |true=>
    rw[ga]at heq;simp (disch:=omega) only[qP,qE,ql,go_sem]
    repeat' first
     |with_reducible first|intro _|apply aiA
    all_goals try exact clz
    rw[qsU];refine hK _ _ (i+1) ⟨hi,fun j hj=> ?_⟩ om (Wk.temps ?_)
    ·by_cases e:j=i
     ·subst e;exact heq
     ·exact i2 j om
    ·(simp only[qP,qE,ql,go_sem,qj,qd,qa,qi];try (repeat' first|(with_reducible apply aiA)|(apply qh;omega)|(apply qg;rfl)|exact qk))
 have k2:((i:Int)<col.length)=False:=eqf om;obtain rfl:i=col.length:=by omega
 clear hK;simp (disch:=omega) only[qP,qE,k2,go_sem];refine qn (T:=fun s:Nat=>qI 76 [(0,qP tok),(5,.osl h.length 1 1 0 tok.length),(61,.int .i64 tok.length),(62,.int .i64 s)])
  (H:=fun _=>h++ [.mem 1 3 (gC (atA col col.length 0) tok.length)])
  (inv:=fun s=>s≤tok.length∧ ∀j,j<s→cnC col j col.length=(tok.getD j []).length) (m:=fun s=>tok.length-s) 0 ⟨nzl _,fun j hj=>absurd hj (nnz j)⟩ (Wk.temps ?_) ?_
 ·(simp only[qP,go_sem,qj,qd,qa,qi];try (repeat' first|(with_reducible apply aiA)|(apply qh;omega)|(apply qg;rfl)|exact qk))
 rintro s ⟨s1,s2⟩ K hK
 by_cases hs:s<tok.length
 ·have t1:((s:Int)<tok.length)=True:=eqt om;have t0:(0≤(s:Int))=True:=eqt om;have t3:(s<tok.length)=True:=eqt hs;have t4:(s+1≤tok.length)=True:=eqt hs;have gl:=qat (atA col col.length 0) tok.length;have gg:=qcH (g:=atA col col.length 0) hs;have e0:atA col col.length 0 s= .int .i64 (cnC col s col.length:Int):=by unfold atA;rw[ine (nnz _)]
  rw[e0]at gg;have hno:= @qwL tok col s hs;obtain⟨q,hq⟩: ∃q:Nat,q=cnC col s col.length:=⟨_,rfl⟩
  have eq:=hq.symm;have hs2:q=(tok.getD s []).length→cnC col s col.length=(tok.getD s []).length:=fun e=>by rw[←hq];exact e
  rw[eq]at gg hno;obtain⟨l,hlx⟩: ∃l,l=tok.getD s []:=⟨_,rfl⟩
  have el:=hlx.symm;rw[el]at hno hs2
  by_cases g:q=l.length
  ·have k5:((q:Int)=l.length)=True:=eqt om;simp (disch:=omega) only[qP,qbK,t0,t1,t3,k5,el,gl,gg,Nat.mul_one,Nat.zero_add,go_sem]
   repeat' first
    |with_reducible apply aiA
   all_goals try exact clz
   refine hK _ _ (s+1) ⟨hs,fun j hj=> ?_⟩ om (Wk.temps ?_)
   ·by_cases e:j=s
    ·subst e;rw[el];exact hs2 g
    ·exact s2 j om
   ·(simp only[qP,qbK,go_sem,qj,qd,qa,qi];try (repeat' first|(with_reducible apply aiA)|(apply qh;omega)|(apply qg;rfl)|exact qk))
  ·have k5:((q:Int)=l.length)=False:=eqf om;rw[hR,hno g];simp (disch:=omega) only[qP,qbK,t0,t1,t3,k5,el,gl,gg,Nat.mul_one,Nat.zero_add,go_sem]
   repeat' first
    |(apply qb;exact rvk;simp only[go_sem];exact qk)
    |with_reducible apply aiA
   all_goals try exact clz
 ·have t1:((s:Int)<tok.length)=False:=eqf om;rw[hR,qwM i2 (fun j hj=>s2 j om)];simp (disch:=omega) only[qP,t1,go_sem]
  repeat' first
   |(apply qb;exact rvk;simp only[go_sem];exact qk)
theorem qEH(tok:List (List Tk))(col:List (List Int))(h:List AObj)(h1:0<tok.length)(h2:tok.length≤32)(h3: ∀s,s<tok.length→(tok.getD s []).length≤1024)(hc:col.length≤1000000000)(hl: ∀s,(tok.getD s []).length≤1000000000)(hm: ∀i,(col.getD i []).length≤1000000000):
  ACalls Tryz.prog 153 [qP tok,qE col] h (.int .i64 (if alB tok col=true then 0 else 19)) h:=by
 have c1:=fun h=>qEJ tok h h1 h2 h3
 have c2:=fun h=>qDT tok col h om hc hl hm
 cases g:alB tok col<;>rw[g]at c2
 all_goals
  refine acO qyK ?_;simp (disch:=omega) only[qw5,go_sem]
  repeat' first
   |((first|refine cA (c1 _) ?_ ?_|refine cA (c2 _) ?_ ?_);exact flk;simp (disch:=omega) only[go_sem])
   |(apply qe;exact rvk;simp only[go_sem];exact qk)
theorem qAX{x:Co}(h:srE x=0):0<x.sig.length∧x.sig.length≤32∧x.tok.length=x.sig.length∧ ∀s,s<x.tok.length→(x.tok.getD s []).length≤1024:=by
 unfold srE at h;split at h
 ·cases h
 split at h
 ·cases h
 rename_i g2;split at h
 ·cases h
 rename_i g3;split at h
 ·rename_i g4;exact absurd h g4
 split at h
 ·cases h
 rename_i g5;have h3:=jS.1 h;refine⟨om,om,Classical.not_not.1 g5,fun s hs=> ?_⟩
 have:=h3 s hs
 unfold qjj at this;split at this
 ·cases this
 ·omega
theorem coP(x:Co)(h:List AObj)(hz:qwp x)(hp:qag SG h):ACalls Tryz.prog 81 [.agg (coC x)] h (.int .i64 (coE x)) h:=by
 have c1:=fun l=>qEV x (h++l) hz (hp.app l)
 unfold coE
 by_cases g:srE x=0
 case neg=>
  have k1:(srE x=0)=False:=eqf g;rw[ipo g];obtain⟨e,he⟩: ∃e,e=srE x:=⟨_,rfl⟩
  rw[←he]at c1 k1 ⊢;unfold strs qP at c1;refine acO qzR ?_;simp (disch:=omega) only[qBW,coC,strs,qP,go_sem]
  repeat' first
   |(refine cA (c1 _) flk ?_;simp (disch:=omega) only[k1,go_sem])
   |(apply qb;exact rvk;simp only[go_sem];exact qk)
 rw[ine (fun hc=>hc g)];obtain⟨o1,o2,o3,o4⟩:=qAX g;have c2:=fun h=>qEH x.tok x.col h om om o4 hz.cl hz.tl hz.ce
 rw[g]at c1;unfold strs qP at c1;unfold qP qE at c2;cases g2:alB x.tok x.col<;>rw[g2]at c2
 all_goals
  refine acO qzR ?_;simp (disch:=omega) only[qBW,coC,strs,qP,qE,go_sem]
  repeat' first
   |((first|refine cA (c1 _) ?_ ?_|refine cA (c2 _) ?_ ?_);exact flk;simp (disch:=omega) only[go_sem])
   |(apply qb;exact rvk;simp only[go_sem];first|exact qk|apply qh)
   |with_reducible first|intro _|apply aiA
  all_goals try exact clz
end RC
end
section
open Go Go.Proofs AF
def zW:List Nat:= []
def qts:C:=
 ((C.ops [O1 3 (.box 0 26) 0,MC 6 (.str []),MC 7 (.bool false)]).seq ((C.ops [O1 9 (.fldA 3) 3,LD 10 9,MV 11 1,O2 12 (.idxA 1) 10 11,LD 13 12,MV 14 2,O2 15 (.idxA 1) 13 14,
 LD 16 15,MV 8 16]).seq (((C.ops [MV 17 8,BC 18 .lss 17 (i6 0)]).seq (C.cond (.t 18) ((C.ops [MC 6 (.str []),MC 7 (.bool false)]).seq C.ret) C.skip)).seq ((C.ops [O1 19 (.fldA 2)
 3,LD 20 19,MV 21 2,O2 22 (.idxA 1) 20 21,LD 23 22,MV 24 8,O2 25 (.idxA 6) 23 24,O1 26 (.fldA 0) 25,LD 27 26,MV 6 27,MC 7 (.bool true)]).seq
 C.ret))))
theorem qsd:qB Tryz.prog 300 28 1 [RV.tmp 6,RV.tmp 7] qts:=fi Tryz.f300 [3] zW []
def qxL:C:=
 ((C.ops [O1 2 (.box 0 26) 0,MC 4 (.bool false)]).seq ((C.ops [O1 11 (.load (some 4)) 2,MV 12 1,ON 13 (.call 300 true) [.t 11,.t 12,.c (i6 0)],MV 10 13,O1 14 (.ext 0) 10,O1
 15 (.ext 1) 10,MV 5 14,MV 6 15]).seq (((C.ops [O1 16 (.fldA 1) 2,LD 17 16,O1 18 .len 17,MC 19 (i6 0)]).seq (C.block 0 ((C.ops [BI 20 .lss 19 18]).seq ((C.cond (.t 20) C.skip
 (C.exit 0)).seq ((C.block 1 ((C.ops [MV 21 19,MV 7 21]).seq ((C.ops [O1 23 (.load (some 4)) 2,MV 24 1,MV 25 7,ON 26 (.call 300 true) [.t 23,.t 24,.t 25],MV 22 26,O1 27
 (.ext 0) 22,O1 28 (.ext 1) 22,MV 8 27,MV 9 28]).seq ((C.ops [MV 29 6,O1 30 (.un UnOp.not) 29,MV 31 30,MG 32 31 false 9,P1 33 31 false (.un UnOp.not) 32,PT 34 31 33,MV 35
 34,MG 36 35 false 8,MG 37 35 false 5,P2 38 35 false (.bin .neq) 36 37,PT 39 35 38]).seq (C.cond (.t 39) ((C.ops [MC 4 (.bool false)]).seq C.ret) C.skip))))).seq (C.ops [BC 40
 .add 19 (i6 1),MV 19 40])))).loop)).seq ((C.ops [MC 4 (.bool true)]).seq
 C.ret))))
theorem qzw:qB Tryz.prog 278 41 1 [RV.tmp 4] qxL:=fi Tryz.f278 [2] zW []
def qxx:C:=
 ((C.ops [O1 1 (.box 0 26) 0,MC 2 .nilfn]).seq ((C.ops [O1 3 (.mkfn (Fn.func 277) 0) 1,MV 2 3]).seq
 C.ret))
theorem qzf:qB Tryz.prog 233 4 1 [RV.tmp 2] qxx:=fi Tryz.f233 [1] zW []
def qxK:C:=
 ((C.ops [MC 3 (i6 0)]).seq (C.block 0 (((C.ops [MV 5 3,O1 6 (.fldA 3) 1,LD 7 6,O1 8 .len 7,BI 9 .lss 5 8]).seq (C.cond (.t 9) C.skip (C.exit 0))).seq (C.block 1 ((C.ops [MV 10
 3,MV 4 10]).seq ((C.block 2 (((C.ops [MV 11 4,O1 12 (.fldA 3) 1,LD 13 12,O1 14 .len 13,BI 15 .lss 11 14,MV 16 15,P1 17 16 true (.load (some 4)) 1,MG 18 16 true 4,P2 19 16
 true (.call 278 true) 17 18,P1 20 16 true (.un UnOp.not) 19,PF 21 16 20]).seq (C.cond (.t 21) C.skip (C.exit 2))).seq (C.block 3 (C.ops [MV 22 4,BC 23 .add 22 (i6 1),MV 4
 23]))).loop).seq (((C.ops [MV 24 4,MV 25 3,BI 26 .gtr 24 25,MV 27 26,MG 28 27 true 0,MG 29 27 true 3,MG 30 27 true 4,PN 31 27 true .callv [.t 28,.t 29,.t 30],P1 32 27
 true (.un UnOp.not) 31,PF 33 27 32]).seq (C.cond (.t 33) C.ret C.skip)).seq (C.ops [MV 34 4,BC 35 .add 34 (i6 1),MV 3
 35])))))).loop))
theorem qzv:qB Tryz.prog 277 36 0 [] qxK:=fi Tryz.f277 [] zW []
def qxH:C:=
 ((C.ops [O1 4 (.box 0 26) 0,ON 8 (.nilo 1 1 9) []]).seq ((C.ops [ON 9 (.nilo 2 1 9) []]).seq (((C.ops [MV 13 1,MV 10 13]).seq (C.block 0 (((C.ops [MV 14 10,MV 15 2,BI 16 .lss
 14 15]).seq (C.cond (.t 16) C.skip (C.exit 0))).seq ((C.block 1 ((C.ops [O1 20 (.load (some 4)) 4,MV 21 10,MV 22 3,ON 23 (.call 300 true) [.t 20,.t 21,.t 22],MV 19 23,O1 24
 (.ext 0) 19,O1 25 (.ext 1) 19,MV 11 24,MV 12 25]).seq ((C.ops [MV 26 12]).seq (C.cond (.t 26) (C.ops [MV 27 9,MV 28 11,⟨some 29,none,.bslc 3 1 1 9 [.str []] [(0,1)],[.t
 28]⟩,O2 30 (.app 4 1 9 16) 27 29,MV 9 30]) C.skip)))).seq (C.ops [MV 17 10,BC 18 .add 17 (i6 1),MV 10 18]))).loop)).seq ((C.ops [MV 31 9,MV 8 31]).seq
 C.ret))))
theorem qzs:qB Tryz.prog 274 32 5 [RV.tmp 8] qxH:=fi Tryz.f274 [4,8,9,29,30] zW []
def qxI:C:=
 ((C.ops [O1 4 (.box 0 89) 1,O1 5 (.box 1 280) 2,MC 6 (i6 0)]).seq ((C.ops [MV 7 0,O2 8 (.mkfn (Fn.func 301) 0) 5 4,O2 9 (.call 127 true) 7 8,MV 6 9]).seq
 C.ret))
theorem qzt:qB Tryz.prog 275 10 2 [RV.tmp 6] qxI:=fi Tryz.f275 [4,5] zW []
def qxR:C:=
 ((C.ops [O1 3 (.box 0 89) 0,MC 4 (.bool false)]).seq ((C.ops [LD 5 1,O1 6 (.load (some 2)) 2,O1 7 (.load (some 2)) 3,ON 8 .callv [.t 5,.t 6,.t 7],MV 4 8]).seq
 C.ret))
theorem qzD:qB Tryz.prog 301 9 1 [RV.tmp 4] qxR:=fi Tryz.f301 [3] zW []
def qxw:C:=
 ((C.ops [O1 3 (.box 0 26) 0,ON 6 (.nilo 1 2 89) []]).seq ((C.ops [ON 7 (.nilo 2 2 89) []]).seq (((C.ops [O1 11 (.fldA 1) 3,LD 12 11,O1 13 .len 12,MC 14 (i6 0)]).seq (C.block 0
 ((C.ops [BI 15 .lss 14 13]).seq ((C.cond (.t 15) C.skip (C.exit 0)).seq ((C.block 1 ((C.ops [MV 16 14,MV 8 16]).seq ((C.ops [O1 17 (.load (some 4)) 3,MV 18 1,MV 19 2,MV 20 8,
 ON 21 (.call 274 true) [.t 17,.t 18,.t 19,.t 20],MV 22 8,⟨some 23,none,.bslc 3 1 1 3 [i6 0] [(0,1)],[.t 22]⟩,⟨some 24,none,.build [.nl,.nl] [(0,1),(1,1)],[.t 21,
 .t 23]⟩,⟨some 9,none,.alloc 4 89 [.nl,.nl],[]⟩,ST 2 9 24]).seq ((C.ops [MV 25 7,O1 26 (.load (some 2)) 9,ON 27 (.call 275 true) [.t 25,.t 26,.c (.fn (Fn.func 276) []
 [])],MV 10 27]).seq (((C.ops [MV 28 10,BC 29 .lss 28 (i6 0)]).seq (C.cond (.t 29) ((C.ops [MV 30 7,O1 31 (.load (some 2)) 9,⟨some 32,none,.bslc 5 2 1 89 [.nl,.nl] [(0,2)],
 [.t 31]⟩,O2 33 (.app 6 2 89 48) 30 32,MV 7 33]).seq (C.exit 1)) C.skip)).seq (C.ops [MV 34 7,MV 35 10,MV 36 7,MV 37 10,O2 38 (.idxA 2) 36 37,O1 39 (.fldA 1) 38,LD 40 39,MV
 41 8,⟨some 42,none,.bslc 7 1 1 3 [i6 0] [(0,1)],[.t 41]⟩,O2 43 (.app 8 1 3 8) 40 42,O2 44 (.idxA 2) 34 35,O1 45 (.fldA 1) 44,ST 1 45 43])))))).seq (C.ops [BC 46 .add 14
 (i6 1),MV 14 46])))).loop)).seq ((C.ops [MV 47 7,MV 6 47]).seq
 C.ret))))
theorem qze:qB Tryz.prog 232 48 9 [RV.tmp 6] qxw:=fi Tryz.f232 [3,6,7,23,9,32,33,42,43] zW []
def qxJ:C:=
 ((C.ops [O1 2 (.box 0 89) 0,O1 3 (.box 1 89) 1,MC 4 (.bool false)]).seq ((C.ops [O1 5 (.fldA 0) 2,LD 6 5,O1 7 (.fldA 0) 3,LD 8 7,O2 9 (.call 53 true) 6 8,MV 4 9]).seq
 C.ret))
theorem qzu:qB Tryz.prog 276 10 2 [RV.tmp 4] qxJ:=fi Tryz.f276 [2,3] zW []
def qxv:C:=
 ((C.ops [MC 4 (.bool false)]).seq ((C.ops [MV 5 0,MV 6 1,ON 7 (.call 272 true) [.t 5,.t 6,.c (.fn (Fn.func 273) [] [])],MV 4 7]).seq
 C.ret))
theorem qzd:qB Tryz.prog 231 8 0 [RV.tmp 4] qxv:=fi Tryz.f231 [] zW []
def qtq:C:=
 ((C.ops [O1 2 (.box 0 89) 0,O1 3 (.box 1 89) 1,MC 4 (.bool false)]).seq ((C.ops [O1 5 (.fldA 0) 2,LD 6 5,O1 7 (.fldA 0) 3,LD 8 7,O2 9 (.call 53 true) 6 8,MV 10 9,P1 11 10
 true (.fldA 1) 2,P1 12 10 true (.load none) 11,P1 13 10 true (.fldA 1) 3,P1 14 10 true (.load none) 13,P2 15 10 true (.call 40 true) 12 14,PF 16 10 15,MV 4 16]).seq
 C.ret))
theorem qsb:qB Tryz.prog 273 17 2 [RV.tmp 4] qtq:=fi Tryz.f273 [2,3] zW []
def qxd:C:=
 ((C.ops [O1 2 (.box 0 26) 0,O1 3 (.box 1 27) 1,⟨some 4,none,.alloc 2 4 [.bool false],[]⟩]).seq ((C.ops [MC 5 (i6 (-1))]).seq (((C.ops [LD 10 3,O1 11 .len 10,MC 12 (i6
 0)]).seq (C.block 0 ((C.ops [BI 13 .lss 12 11]).seq ((C.cond (.t 13) C.skip (C.exit 0)).seq ((C.block 1 ((C.ops [O2 14 (.idxA 3) 10 12,O1 15 (.load (some 3)) 14,⟨some 7,none,
 .alloc 3 83 [i6 0,i6 0,.nl],[]⟩,ST 3 7 15]).seq (((C.ops [O1 16 (.fldA 0) 7,LD 17 16,MV 18 5,BI 19 .leq 17 18,MV 20 19,P1 21 20 false (.fldA 0) 7,P1 22 20 false (.load
 none) 21,PC 23 20 false (.bin .lss) 22 (i6 0),PT 24 20 23,MV 25 24,P1 26 25 false (.fldA 0) 7,P1 27 25 false (.load none) 26,P1 28 25 false (.fldA 1) 7,P1 29 25 false (.load
 none) 28,P2 30 25 false (.bin .geq) 27 29,PT 31 25 30,MV 32 31,P1 33 32 false (.fldA 1) 7,P1 34 32 false (.load none) 33,P1 35 32 false (.fldA 3) 2,P1 36 32 false (.load
 none) 35,P1 37 32 false .len 36,P2 38 32 false (.bin .gtr) 34 37,PT 39 32 38,MV 40 39,P1 41 40 false (.fldA 2) 7,P1 42 40 false (.load none) 41,P1 43 40 false (.load (some
 4)) 2,P1 44 40 false (.fldA 0) 7,P1 45 40 false (.load none) 44,P1 46 40 false (.fldA 1) 7,P1 47 40 false (.load none) 46,PN 48 40 false (.call 232 true) [.t 43,.t 45,.t
 47],P2 49 40 false (.call 231 true) 42 48,P1 50 40 false (.un UnOp.not) 49,PT 51 40 50]).seq (C.cond (.t 51) ((C.ops [⟨none,none,.store 1,[.t 4,.c (.bool false)]⟩]).seq
 C.ret) C.skip)).seq (C.ops [O1 52 (.fldA 1) 7,LD 53 52,MV 5 53])))).seq (C.ops [BC 54 .add 12 (i6 1),MV 12 54])))).loop)).seq (((C.ops [O1 55 (.load (some 4)) 2,O1 56 (.call
 233 true) 55]).seq (C.block 2 (C.range (.t 56) [57,58] ((C.ops [⟨some 8,none,.alloc 4 3 [i6 0],[]⟩,ST 1 8 57]).seq (C.ops [⟨some 9,none,.alloc 5 3 [i6 0],[]⟩,ST 1 9 58]))
 (C.block 3 ((C.ops [LD 59 3,O2 60 (.mkfn (Fn.func 234) 0) 8 9,O2 61 (.call 54 true) 59 60,O1 62 (.un UnOp.not) 61]).seq (C.cond (.t 62) ((C.ops [⟨none,none,.store 1,[.t 4,.c
 (.bool false)]⟩]).seq C.ret) C.skip)))))).seq ((C.ops [⟨none,none,.store 1,[.t 4,.c (.bool true)]⟩]).seq
 C.ret)))))
theorem qyS:qB Tryz.prog 177 63 6 [RV.cell 4 none] qxd:=fi Tryz.f177 [2,3,4,7,8,9] zW []
def qtl:C:=
 ((C.ops [O1 3 (.box 0 83) 0,MC 4 (.bool false)]).seq ((C.ops [O1 5 (.fldA 0) 3,LD 6 5,LD 7 1,BI 8 .leq 6 7,MV 9 8,P1 10 9 true (.load none) 2,P1 11 9 true (.fldA 1) 3,P1 12
 9 true (.load none) 11,P2 13 9 true (.bin .leq) 10 12,PF 14 9 13,MV 4 14]).seq
 C.ret))
theorem qr6:qB Tryz.prog 234 15 1 [RV.tmp 4] qtl:=fi Tryz.f234 [3] zW []
def qs4:C:=
 ((C.ops [O1 2 (.box 0 26) 0,MC 4 (i6 0)]).seq (((C.ops [O1 5 (.load (some 4)) 2,O1 6 (.call 81 true) 5,BC 7 .neq 6 (i6 0)]).seq (C.cond (.t 7) ((C.ops [MC 4 (i6 1)]).seq C.ret)
 C.skip)).seq (((C.ops [O1 8 (.load (some 4)) 2,MV 9 1,O2 10 (.call 177 true) 8 9,O1 11 (.un UnOp.not) 10]).seq (C.cond (.t 11) ((C.ops [MC 4 (i6 20)]).seq C.ret) C.skip)).seq
 ((C.ops [MC 4 (i6 0)]).seq
 C.ret))))
theorem qrL:qB Tryz.prog 111 12 1 [RV.tmp 4] qs4:=fi Tryz.f111 [2] zW []
def qs5:C:=
 ((C.ops [O1 3 (.box 0 3) 1,MC 4 (i6 0),MC 5 (i6 0)]).seq (((C.ops [LD 6 3,BC 7 .lss 6 (i6 0)]).seq (C.cond (.t 7) ((C.ops [MC 4 (i6 0),MC 5 (i6 2)]).seq C.ret) C.skip)).seq
 ((C.ops [MV 8 0,O1 9 (.mkfn (Fn.func 178) 0) 3,O2 10 (.call 128 true) 8 9,MV 4 10,MC 5 (i6 0)]).seq
 C.ret)))
theorem qrM:qB Tryz.prog 113 11 1 [RV.tmp 4,RV.tmp 5] qs5:=fi Tryz.f113 [3] zW []
def qth:C:=
 ((C.ops [O1 2 (.box 0 83) 0,MC 3 (.bool false)]).seq ((C.ops [O1 4 (.fldA 0) 2,LD 5 4,LD 6 1,BI 7 .leq 5 6,MV 8 7,P1 9 8 true (.load none) 1,P1 10 8 true (.fldA 1) 2,P1 11
 8 true (.load none) 10,P2 12 8 true (.bin .lss) 9 11,PF 13 8 12,MV 3 13]).seq
 C.ret))
theorem qr2:qB Tryz.prog 178 14 1 [RV.tmp 3] qth:=fi Tryz.f178 [2] zW []
end
section
open Go Go.Proofs AF
def qlW:List Nat:= []
def qs6:C:=
 ((C.ops [O1 3 (.box 0 64) 0,MC 4 (.bool false)]).seq ((C.ops [O1 5 (.fldA 1) 3,LD 6 5,LD 7 1,BI 8 .eql 6 7,MV 9 8,P1 10 9 true (.fldA 0) 3,P1 11 9 true (.load none) 10,P1
 12 9 true (.load none) 2,P2 13 9 true (.bin .eql) 11 12,PF 14 9 13,MV 4 14]).seq
 C.ret))
theorem qrN:qB Tryz.prog 114 15 1 [RV.tmp 4] qs6:=fi Tryz.f114 [3] qlW []
def jF:C:=
 ((C.ops [O1 5 (.box 0 26) 0,O1 7 (.box 1 64) 2,O1 8 (.box 2 64) 3,MC 10 (i6 0)]).seq ((C.block 0 ((C.ops [O1 14 (.fldA 0) 7,LD 15 14,BC 16 .eql 15 (.str []),MV 17 16,P1 18
 17 false (.fldA 0) 7,P1 19 17 false (.load none) 18,P1 20 17 false .slen 19,PC 21 17 false (.bin .gtr) 20 (i6 64),PT 22 17 21,MV 13 22]).seq (C.cond (.t 13) ((C.ops [MC 10 (i6
 11)]).seq C.ret) ((C.ops [O1 24 (.fldA 1) 7,LD 25 24,BC 26 .lss 25 (i6 0),MV 27 26,P1 28 27 false (.fldA 1) 7,P1 29 27 false (.load none) 28,P1 30 27 false (.fldA 3) 5,P1 31
 27 false (.load none) 30,P1 32 27 false .len 31,P2 33 27 false (.bin .geq) 29 32,PT 34 27 33,MV 35 34,MG 36 35 false 4,P1 37 35 false (.un UnOp.not) 36,MG 38 35 false 37,P1
 39 38 true (.fldA 1) 7,P1 40 38 true (.load none) 39,P1 41 38 true (.fldA 1) 8,P1 42 38 true (.load none) 41,P2 43 38 true (.bin .lss) 40 42,QF 44 35 false 38 43,PT 45 35 44,
 MV 23 45]).seq (C.cond (.t 23) ((C.ops [MC 10 (i6 19)]).seq C.ret) ((C.ops [O1 47 (.fldA 2) 7,LD 48 47,BC 49 .lss 48 (i6 (-1)),MV 50 49,P1 51 50 false (.fldA 2) 7,P1 52 50
 false (.load none) 51,MG 53 50 false 1,P1 54 50 false .len 53,P2 55 50 false (.bin .geq) 52 54,PT 56 50 55,MV 46 56]).seq (C.cond (.t 46) ((C.ops [MC 10 (i6 20)]).seq C.ret)
 C.skip))))))).seq (((C.ops [MV 58 1,O1 59 (.fldA 1) 7,LD 60 59,O2 61 (.call 113 true) 58 60,MV 57 61,O1 62 (.ext 0) 57,O1 63 (.ext 1) 57,MV 11 62,MV 12 63]).seq ((C.ops [MV
 64 11,O1 65 (.fldA 2) 7,LD 66 65,BI 67 .neq 64 66]).seq (C.cond (.t 67) ((C.ops [MC 10 (i6 20)]).seq C.ret) C.skip))).seq (((C.ops [O1 68 (.fldA 3) 7,LD 69 68,BC 70 .lss 69
 (i6 (-1)),MV 71 70,P1 72 71 false (.fldA 2) 7,P1 73 71 false (.load none) 72,PC 74 71 false (.bin .lss) 73 (i6 0),MG 75 71 false 74,P1 76 75 true (.fldA 3) 7,P1 77 75 true
 (.load none) 76,PC 78 75 true (.bin .neq) 77 (i6 (-1)),QF 79 71 false 75 78,PT 80 71 79,MV 81 80,MG 82 81 false 4,P1 83 81 false (.un UnOp.not) 82,MG 84 81 false 83,P1 85
 84 true (.fldA 2) 7,P1 86 84 true (.load none) 85,PC 87 84 true (.bin .geq) 86 (i6 0),QF 88 81 false 84 87,MG 89 81 false 88,P1 90 89 true (.fldA 2) 7,P1 91 89 true (.load
 none) 90,P1 92 89 true (.fldA 2) 8,P1 93 89 true (.load none) 92,P2 94 89 true (.bin .eql) 91 93,QF 95 81 false 89 94,MG 96 81 false 95,P1 97 96 true (.fldA 3) 7,P1 98 96
 true (.load none) 97,P1 99 96 true (.fldA 3) 8,P1 100 96 true (.load none) 99,P2 101 96 true (.bin .neq) 98 100,QF 102 81 false 96 101,PT 103 81 102]).seq (C.cond (.t 103)
 ((C.ops [MC 10 (i6 2)]).seq C.ret) C.skip)).seq ((C.ops [MC 10 (i6 0)]).seq
 C.ret)))))
theorem zL:qB Tryz.prog 112 104 3 [RV.tmp 10] jF:=fi Tryz.f112 [5,7,8] qlW []
end
section
open Go Go.Proofs AF HY LN
namespace RC
theorem qCa(u:Un)(c:Int)(h:List AObj):ACalls Tryz.prog 178 [.agg (unC u),.ip [.int .i64 c]] h (.bool (decide (u.frm≤c)&&decide (c<u.to))) h:=by
 by_cases g:u.frm≤c
 ·have k1:(u.frm≤c)=True:=eqt g;rw[dqt g,Bool.true_and];refine acO qr2 ?_;simp (disch:=omega) only[qth,unC,k1,go_sem]
  repeat' first
   |(apply qb;exact rvk;simp only[go_sem];exact qk)
   |with_reducible apply aiA
  all_goals try exact clz
 ·have k1:(u.frm≤c)=False:=eqf g;rw[dqf g,Bool.false_and];refine acO qr2 ?_;simp (disch:=omega) only[qth,unC,k1,go_sem]
  repeat' first
   |(apply qb;exact rvk;simp only[go_sem];exact qk)
   |with_reducible apply aiA
  all_goals try exact clz
theorem qEC(l:List Un)(c:Int)(k v:Nat)(h:List AObj)(hk:qA k h=some (.mem v 3 [.int .i64 c]))(hl:l.length≤1000000000):
  ACalls Tryz.prog 128 [zf l,.fn (.func 178) [] [.op k v 0]] h (.int .i64 (fnU l c)) h:=by
 have hc:=qQ hk;unfold zf fnU;refine qba qrT l.length (fun j=>unC (l.getD j default)) (fun j=> .agg (unC (l.getD j default))) _ [] [.op k v 0] _ h (fun i _=>⟨rfl,by simp[ji,unC],rfl,rfl,rfl⟩) (fun i _=> ?_) om;refine ACalls.borrow ?_ rfl;have e:([AV.agg (unC (l.getD i default))]++ [AV.op k v 0]).map (rei (fun _=>true) h 8)= [.agg (unC (l.getD i default)),.ip [.int .i64 c]]:=by
  simp only[lca,lna,List.map_cons,List.map_nil,rei_op,if_true,hc,ipOf_some,List.drop_zero,rei_agg];rfl
 rw[lna,e];exact qCa _ c _
def fnR(l:List Un)(c:Int):Int:=if c<0 then 0 else fnU l c
def fnE(c:Int):Int:=if c<0 then 2 else 0
theorem qDy(l:List Un)(c:Int)(h:List AObj)(hl:l.length≤1000000000):ACalls Tryz.prog 113 [zf l,.int .i64 c] h (.tup [.int .i64 (fnR l c),.int .i64 (fnE c)]) h:=by
 unfold fnR fnE
 by_cases g:c<0
 ·have k1:(c<0)=True:=eqt g;rw[ipo g,ipo g];refine acO qrM ?_;simp (disch:=omega) only[qs5,k1,go_sem]
  repeat' first
   |(apply qb;exact rvk;simp only[go_sem];exact qk)
   |with_reducible apply aiA
  all_goals try exact clz
 ·have k1:(c<0)=False:=eqf g;rw[ine g,ine g];have c1:=qEC l c h.length 1 (h++ [.mem 1 3 [.int .i64 c]]) (by rw[getO_app0];rfl) hl;refine acO qrM ?_;simp (disch:=omega) only[qs5,k1,go_sem]
  repeat' first
   |(refine cA (c1) flk ?_;simp (disch:=omega) only[go_sem])
   |(apply qb;exact rvk;simp only[go_sem];exact qk)
   |with_reducible apply aiA
  all_goals try exact clz
theorem qFe(x:Co)(l:List Un)(w bef:Wd)(first:Bool)(h:List AObj)(hl:l.length≤1000000000)(hc:x.col.length≤1000000000)(hw:w.text.length≤1000000000):
  ACalls Tryz.prog 112 [.agg (coC x),zf l,.agg (wdC w),.agg (wdC bef),.bool first] h (.int .i64 (wdE x l w bef first)) h:=by
 obtain⟨R,hR⟩: ∃R,R=wdE x l w bef first:=⟨_,rfl⟩
 rw[←hR];unfold wdE at hR;have cF:=fun h=>qDy l w.col h hl
 by_cases g0:w.text= []
 ·have k0:(w.text= [])=True:=eqt g0;rw[ipo (.inl g0)]at hR;rw[hR];refine acO zL ?_;simp (disch:=omega) only[jF,coC,wdC,zf,k0,go_sem]
  repeat' first
   |(apply qb;exact rvk;simp only[go_sem];exact qk)
 have k0:(w.text= [])=False:=eqf g0;simp only[k0,false_or]at hR;obtain⟨p,hp⟩: ∃p,p=fnU l w.col:=⟨_,rfl⟩
 rw[←hp]at hR;cases first with
 |true=>
  simp only[Bool.true_eq_false,false_and,or_false]at hR
  by_cases gB:64<w.text.length
  ·have kB:((64:Int)<w.text.length)=True:=eqt (by first|exact gB|omega);have hV:R=11:=by rw[hR];(repeat' split)<;>first|rfl|(exfalso;omega)
   rw[hV];refine acO zL ?_;simp (disch:=omega) only[jF,coC,wdC,zf,qE,k0,kB,go_sem]
   repeat' first
    |(apply qb;exact rvk;simp only[go_sem];exact qk)
  ·have kB:((64:Int)<w.text.length)=False:=eqf (by first|exact gB|omega)
   by_cases gC:w.col<0
   ·have kC:(w.col<0)=True:=eqt (by first|exact gC|omega);have hV:R=19:=by rw[hR];(repeat' split)<;>first|rfl|(exfalso;omega)
    rw[hV];refine acO zL ?_;simp (disch:=omega) only[jF,coC,wdC,zf,qE,k0,kB,kC,go_sem]
    repeat' first
     |(apply qb;exact rvk;simp only[go_sem];exact qk)
   ·have kC:(w.col<0)=False:=eqf (by first|exact gC|omega);have eF:fnR l w.col=p:=by unfold fnR;rw[ine gC,hp]
    have eE:fnE w.col=0:=ine gC;simp only[eF,eE]at cF
    by_cases gD:(x.col.length:Int)≤w.col
    ·have kD:((x.col.length:Int)≤w.col)=True:=eqt (by first|exact gD|omega);have hV:R=19:=by rw[hR];(repeat' split)<;>first|rfl|(exfalso;omega)
     rw[hV];refine acO zL ?_;simp (disch:=omega) only[jF,coC,wdC,zf,qE,k0,kB,kC,kD,go_sem]
     repeat' first
      |(apply qb;exact rvk;simp only[go_sem];exact qk)
      |with_reducible apply aiA
     all_goals try exact clz
    ·have kD:((x.col.length:Int)≤w.col)=False:=eqf (by first|exact gD|omega)
     by_cases gG:w.unit< -1
     ·have kG:(w.unit< -1)=True:=eqt (by first|exact gG|omega);have hV:R=20:=by rw[hR];(repeat' split)<;>first|rfl|(exfalso;omega)
      rw[hV];refine acO zL ?_;simp (disch:=omega) only[jF,coC,wdC,zf,qE,k0,kB,kC,kD,kG,go_sem]
      repeat' first
       |(apply qb;exact rvk;simp only[go_sem];first|exact qk|apply qh)
       |with_reducible first|intro _|apply aiA
      all_goals try exact clz
     ·have kG:(w.unit< -1)=False:=eqf (by first|exact gG|omega)
      by_cases gH:(l.length:Int)≤w.unit
      ·have kH:((l.length:Int)≤w.unit)=True:=eqt (by first|exact gH|omega);have hV:R=20:=by rw[hR];(repeat' split)<;>first|rfl|(exfalso;omega)
       rw[hV];refine acO zL ?_;simp (disch:=omega) only[jF,coC,wdC,zf,qE,k0,kB,kC,kD,kG,kH,go_sem]
       repeat' first
        |(apply qb;exact rvk;simp only[go_sem];first|exact qk|apply qh)
        |with_reducible first|intro _|apply aiA
       all_goals try exact clz
      ·have kH:((l.length:Int)≤w.unit)=False:=eqf (by first|exact gH|omega)
       by_cases gI:p=w.unit
       ·have kI:(p=w.unit)=True:=eqt (by first|exact gI|omega)
        by_cases gJ:w.dec< -1
        ·have kJ:(w.dec< -1)=True:=eqt (by first|exact gJ|omega);have hV:R=2:=by rw[hR];(repeat' split)<;>first|rfl|(exfalso;omega)
         rw[hV];refine acO zL ?_;simp (disch:=omega) only[jF,coC,wdC,zf,qE,k0,kB,kC,kD,kG,kH,go_sem]
         repeat' first
          |(refine cA (cF _) flk ?_;simp (disch:=omega) only[kI,kJ,go_sem])
          |(apply qb;exact rvk;simp only[go_sem];first|exact qk|apply qh)
          |with_reducible first|intro _|apply aiA
         all_goals try exact clz
        ·have kJ:(w.dec< -1)=False:=eqf (by first|exact gJ|omega)
         by_cases gK:w.unit<0
         ·have kK:(w.unit<0)=True:=eqt (by first|exact gK|omega);have kKb:(0≤w.unit)=False:=eqf (by first|exact gK|omega)
          by_cases gL:w.dec= -1
          ·have kL:(w.dec= -1)=True:=eqt (by first|exact gL|omega);have hV:R=0:=by rw[hR];(repeat' split)<;>first|rfl|(exfalso;omega)
           rw[hV];refine acO zL ?_;simp (disch:=omega) only[jF,coC,wdC,zf,qE,k0,kB,kC,kD,kG,kH,go_sem]
           repeat' first
            |(refine cA (cF _) flk ?_;simp (disch:=omega) only[kI,kJ,kK,kKb,kL,go_sem])
            |(apply qb;exact rvk;simp only[go_sem];first|exact qk|apply qh)
            |with_reducible first|intro _|apply aiA
           all_goals try exact clz
          ·have kL:(w.dec= -1)=False:=eqf (by first|exact gL|omega);have hV:R=2:=by rw[hR];(repeat' split)<;>first|rfl|(exfalso;omega)
           rw[hV];refine acO zL ?_;simp (disch:=omega) only[jF,coC,wdC,zf,qE,k0,kB,kC,kD,kG,kH,go_sem]
           repeat' first
            |(refine cA (cF _) flk ?_;simp (disch:=omega) only[kI,kJ,kK,kKb,kL,go_sem])
            |(apply qb;exact rvk;simp only[go_sem];first|exact qk|apply qh)
            |with_reducible first|intro _|apply aiA
           all_goals try exact clz
         ·have kK:(w.unit<0)=False:=eqf (by first|exact gK|omega);have kKb:(0≤w.unit)=True:=eqt (by first|exact gK|omega);have hV:R=0:=by rw[hR];(repeat' split)<;>first|rfl|(exfalso;omega)
          rw[hV];refine acO zL ?_;simp (disch:=omega) only[jF,coC,wdC,zf,qE,k0,kB,kC,kD,kG,kH,go_sem]
          repeat' first
           |(refine cA (cF _) flk ?_;simp (disch:=omega) only[kI,kJ,kK,kKb,go_sem])
           |(apply qb;exact rvk;simp only[go_sem];first|exact qk|apply qh)
           |with_reducible first|intro _|apply aiA
          all_goals try exact clz
       ·have kI:(p=w.unit)=False:=eqf (by first|exact gI|omega);have hV:R=20:=by rw[hR];(repeat' split)<;>first|rfl|(exfalso;omega)
        rw[hV];refine acO zL ?_;simp (disch:=omega) only[jF,coC,wdC,zf,qE,k0,kB,kC,kD,kG,kH,go_sem]
        repeat' first
         |(refine cA (cF _) flk ?_;simp (disch:=omega) only[kI,go_sem])
         |(apply qb;exact rvk;simp only[go_sem];first|exact qk|apply qh)
         |with_reducible first|intro _|apply aiA
        all_goals try exact clz
 |false=>
  simp only[true_and]at hR
  by_cases gB:64<w.text.length
  ·have kB:((64:Int)<w.text.length)=True:=eqt (by first|exact gB|omega);have hV:R=11:=by rw[hR];(repeat' split)<;>first|rfl|(exfalso;omega)
   rw[hV];refine acO zL ?_;simp (disch:=omega) only[jF,coC,wdC,zf,qE,k0,kB,go_sem]
   repeat' first
    |(apply qb;exact rvk;simp only[go_sem];exact qk)
  ·have kB:((64:Int)<w.text.length)=False:=eqf (by first|exact gB|omega)
   by_cases gC:w.col<0
   ·have kC:(w.col<0)=True:=eqt (by first|exact gC|omega);have hV:R=19:=by rw[hR];(repeat' split)<;>first|rfl|(exfalso;omega)
    rw[hV];refine acO zL ?_;simp (disch:=omega) only[jF,coC,wdC,zf,qE,k0,kB,kC,go_sem]
    repeat' first
     |(apply qb;exact rvk;simp only[go_sem];exact qk)
   ·have kC:(w.col<0)=False:=eqf (by first|exact gC|omega);have eF:fnR l w.col=p:=by unfold fnR;rw[ine gC,hp]
    have eE:fnE w.col=0:=ine gC;simp only[eF,eE]at cF
    by_cases gD:(x.col.length:Int)≤w.col
    ·have kD:((x.col.length:Int)≤w.col)=True:=eqt (by first|exact gD|omega);have hV:R=19:=by rw[hR];(repeat' split)<;>first|rfl|(exfalso;omega)
     rw[hV];refine acO zL ?_;simp (disch:=omega) only[jF,coC,wdC,zf,qE,k0,kB,kC,kD,go_sem]
     repeat' first
      |(apply qb;exact rvk;simp only[go_sem];exact qk)
      |with_reducible apply aiA
     all_goals try exact clz
    ·have kD:((x.col.length:Int)≤w.col)=False:=eqf (by first|exact gD|omega)
     by_cases gF:w.col<bef.col
     ·have kF:(w.col<bef.col)=True:=eqt (by first|exact gF|omega);have hV:R=19:=by rw[hR];(repeat' split)<;>first|rfl|(exfalso;omega)
      rw[hV];refine acO zL ?_;simp (disch:=omega) only[jF,coC,wdC,zf,qE,k0,kB,kC,kD,kF,go_sem]
      repeat' first
       |(apply qb;exact rvk;simp only[go_sem];exact qk)
       |with_reducible apply aiA
      all_goals try exact clz
     ·have kF:(w.col<bef.col)=False:=eqf (by first|exact gF|omega)
      by_cases gG:w.unit< -1
      ·have kG:(w.unit< -1)=True:=eqt (by first|exact gG|omega);have hV:R=20:=by rw[hR];(repeat' split)<;>first|rfl|(exfalso;omega)
       rw[hV];refine acO zL ?_;simp (disch:=omega) only[jF,coC,wdC,zf,qE,k0,kB,kC,kD,kF,kG,go_sem]
       repeat' first
        |(apply qb;exact rvk;simp only[go_sem];exact qk)
        |with_reducible apply aiA
       all_goals try exact clz
      ·have kG:(w.unit< -1)=False:=eqf (by first|exact gG|omega)
       by_cases gH:(l.length:Int)≤w.unit
       ·have kH:((l.length:Int)≤w.unit)=True:=eqt (by first|exact gH|omega);have hV:R=20:=by rw[hR];(repeat' split)<;>first|rfl|(exfalso;omega)
        rw[hV];refine acO zL ?_;simp (disch:=omega) only[jF,coC,wdC,zf,qE,k0,kB,kC,kD,kF,kG,kH,go_sem]
        repeat' first
         |(apply qb;exact rvk;simp only[go_sem];exact qk)
         |with_reducible apply aiA
        all_goals try exact clz
       ·have kH:((l.length:Int)≤w.unit)=False:=eqf (by first|exact gH|omega)
        by_cases gI:p=w.unit
        ·have kI:(p=w.unit)=True:=eqt (by first|exact gI|omega)
         by_cases gJ:w.dec< -1
         ·have kJ:(w.dec< -1)=True:=eqt (by first|exact gJ|omega);have hV:R=2:=by rw[hR];(repeat' split)<;>first|rfl|(exfalso;omega)
          rw[hV];refine acO zL ?_;simp (disch:=omega) only[jF,coC,wdC,zf,qE,k0,kB,kC,kD,kF,kG,kH,go_sem]
          repeat' first
           |(refine cA (cF _) flk ?_;simp (disch:=omega) only[kI,kJ,go_sem])
           |(apply qb;exact rvk;simp only[go_sem];exact qk)
           |with_reducible apply aiA
          all_goals try exact clz
         ·have kJ:(w.dec< -1)=False:=eqf (by first|exact gJ|omega)
          by_cases gK:w.unit<0
          ·have kK:(w.unit<0)=True:=eqt (by first|exact gK|omega);have kKb:(0≤w.unit)=False:=eqf (by first|exact gK|omega)
           by_cases gL:w.dec= -1
           ·have kL:(w.dec= -1)=True:=eqt (by first|exact gL|omega);have hV:R=0:=by rw[hR];(repeat' split)<;>first|rfl|(exfalso;omega)
            rw[hV];refine acO zL ?_;simp (disch:=omega) only[jF,coC,wdC,zf,qE,k0,kB,kC,kD,kF,kG,kH,go_sem]
            repeat' first
             |(refine cA (cF _) flk ?_;simp (disch:=omega) only[kI,kJ,kK,kKb,kL,go_sem])
             |(apply qb;exact rvk;simp only[go_sem];first|exact qk|apply qh)
             |with_reducible first|intro _|apply aiA
            all_goals try exact clz
           ·have kL:(w.dec= -1)=False:=eqf (by first|exact gL|omega);have hV:R=2:=by rw[hR];(repeat' split)<;>first|rfl|(exfalso;omega)
            rw[hV];refine acO zL ?_;simp (disch:=omega) only[jF,coC,wdC,zf,qE,k0,kB,kC,kD,kF,kG,kH,go_sem]
            repeat' first
             |(refine cA (cF _) flk ?_;simp (disch:=omega) only[kI,kJ,kK,kKb,kL,go_sem])
             |(apply qb;exact rvk;simp only[go_sem];exact qk)
             |with_reducible apply aiA
            all_goals try exact clz
          ·have kK:(w.unit<0)=False:=eqf (by first|exact gK|omega);have kKb:(0≤w.unit)=True:=eqt (by first|exact gK|omega)
           by_cases gO:w.unit=bef.unit
           ·have kO:(w.unit=bef.unit)=True:=eqt (by first|exact gO|omega)
            by_cases gP:w.dec=bef.dec
            ·have kP:(w.dec=bef.dec)=True:=eqt (by first|exact gP|omega);have hV:R=0:=by rw[hR];(repeat' split)<;>first|rfl|(exfalso;omega)
             rw[hV];refine acO zL ?_;simp (disch:=omega) only[jF,coC,wdC,zf,qE,k0,kB,kC,kD,kF,kG,kH,go_sem]
             repeat' first
              |(refine cA (cF _) flk ?_;simp (disch:=omega) only[kI,kJ,kK,kKb,kO,kP,go_sem])
              |(apply qb;exact rvk;simp only[go_sem];first|exact qk|apply qh)
              |with_reducible first|intro _|apply aiA
             all_goals try exact clz
            ·have kP:(w.dec=bef.dec)=False:=eqf (by first|exact gP|omega);have hV:R=2:=by rw[hR];(repeat' split)<;>first|rfl|(exfalso;omega)
             rw[hV];refine acO zL ?_;simp (disch:=omega) only[jF,coC,wdC,zf,qE,k0,kB,kC,kD,kF,kG,kH,go_sem]
             repeat' first
              |(refine cA (cF _) flk ?_;simp (disch:=omega) only[kI,kJ,kK,kKb,kO,kP,go_sem])
              |(apply qb;exact rvk;simp only[go_sem];first|exact qk|apply qh)
              |with_reducible first|intro _|apply aiA
             all_goals try exact clz
           ·have kO:(w.unit=bef.unit)=False:=eqf (by first|exact gO|omega);have hV:R=0:=by rw[hR];(repeat' split)<;>first|rfl|(exfalso;omega)
            rw[hV];refine acO zL ?_;simp (disch:=omega) only[jF,coC,wdC,zf,qE,k0,kB,kC,kD,kF,kG,kH,go_sem]
            repeat' first
             |(refine cA (cF _) flk ?_;simp (disch:=omega) only[kI,kJ,kK,kKb,kO,go_sem])
             |(apply qb;exact rvk;simp only[go_sem];first|exact qk|apply qh)
             |with_reducible first|intro _|apply aiA
            all_goals try exact clz
        ·have kI:(p=w.unit)=False:=eqf (by first|exact gI|omega);have hV:R=20:=by rw[hR];(repeat' split)<;>first|rfl|(exfalso;omega)
         rw[hV];refine acO zL ?_;simp (disch:=omega) only[jF,coC,wdC,zf,qE,k0,kB,kC,kD,kF,kG,kH,go_sem]
         repeat' first
          |(refine cA (cF _) flk ?_;simp (disch:=omega) only[kI,go_sem])
          |(apply qb;exact rvk;simp only[go_sem];exact qk)
          |with_reducible apply aiA
         all_goals try exact clz
section
variable {x : Co} {k s : Nat}
theorem qB4(h:List AObj)(ho:CoOk x)(hk:k<x.col.length)(hs:s<x.sig.length):ACalls Tryz.prog 300 [.agg (coC x),.int .i64 (k:Int),.int .i64 (s:Int)] h (.tup [.str ((clT x k s).getD []),.bool (clT x k s).isSome]) h:=by
 have hcl:=ho.cl k hk;have hce:=ho.ce k hk s hs;have htn:=ho.tn;unfold clT;obtain⟨c,hc⟩: ∃c,c=x.col.getD k []:=⟨_,rfl⟩
 have ec:=hc.symm;rw[ec]at hcl hce ⊢;obtain⟨t,ht⟩: ∃t,t=c.getD s 0:=⟨_,rfl⟩
 have et:=ht.symm;rw[et]at hce ⊢;obtain⟨l,hl⟩: ∃l,l=x.tok.getD s []:=⟨_,rfl⟩
 have el:=hl.symm;rw[el]at hce ⊢;have k0:(0≤(k:Int))=True:=eqt om;have k1:((k:Int)<x.col.length)=True:=eqt om;have k2:((s:Int)<c.length)=True:=eqt om;have k3:((s:Int)<x.tok.length)=True:=eqt om;have k4:(0≤(s:Int))=True:=eqt om
 by_cases g:t<0
 ·have k5:(t<0)=True:=eqt g;rw[ipo g];refine acO qsd ?_;simp (disch:=omega) only[qts,coC,qE,ql,k0,k1,k2,k4,k5,ec,et,go_sem]
  repeat' first
   |(apply qb;exact rvk;simp only[go_sem];exact qk)
   |with_reducible apply aiA
  all_goals try exact clz
 ·have k5:(t<0)=False:=eqf g;rw[ine g];have k6:(t<l.length)=True:=eqt (by rcases hce with e|e;omega;omega);have k7:(0≤t)=True:=eqt om;obtain⟨w,hw⟩: ∃w,w=l.getD t.toNat default:=⟨_,rfl⟩
  have ew:=hw.symm;rw[ew];refine acO qsd ?_;simp (disch:=omega) only[qts,coC,qE,ql,qP,qbK,tkC,k0,k1,k2,k3,k4,k5,k6,k7,ec,et,el,ew,go_sem]
  repeat' first
   |(apply qb;exact rvk;simp only[go_sem];exact qk)
   |with_reducible apply aiA
  all_goals try exact clz
theorem cmP(h:List AObj)(ho:CoOk x)(hk:k<x.col.length):ACalls Tryz.prog 278 [.agg (coC x),.int .i64 (k:Int)] h (.bool (cmB x k)) h:=by
 have hsg:=ho.sg;obtain⟨R,hR⟩: ∃R,R=cmB x k:=⟨_,rfl⟩
 rw[←hR];unfold cmB at hR;have c0:=fun h=>qB4 (x:=x) (k:=k) (s:=0) h ho hk hsg.1
 obtain⟨o0,ho0⟩: ∃o0,o0=clT x k 0:=⟨_,rfl⟩
 rw[←ho0]at hR c0;have ez:((0:Nat):Int)=0:=rfl;rw[ez]at c0;have zl: ∀g,valL g .len [strs x.sig]= .int .i64 x.sig.length:=fun _=>rfl
 have zo: ∀g,okL g .len [strs x.sig]=True:=fun _=>eqt trivial
 unfold coC at c0;refine acO qzw ?_;simp (disch:=omega) only[qxL,coC,go_sem]
 repeat' first
  |(refine cA (c0 _) flk ?_;simp (disch:=omega) only[zl,zo,go_sem])
  |with_reducible apply aiA
 all_goals try exact clz
 refine qn (T:=fun i:Nat=>qI 41 [(1,.int .i64 (k:Int)),(2,.op h.length 1 0),(5,.str (o0.getD [])),(6,.bool o0.isSome),(18,.int .i64 x.sig.length),(19,.int .i64 i)]) (H:=fun _=>h++ [.mem 1 26 (coC x)])
  (inv:=fun i=>i≤x.sig.length∧ ∀j,j<i→(decide (clT x k j=none)|| !decide (clT x k j=o0))=false) (m:=fun i=>x.sig.length-i) 0 ⟨nzl _,fun j hj=>absurd hj (nnz j)⟩ (Wk.temps ?_) ?_
 ·(simp only[go_sem,qj,qd,qa,qi];try (repeat' first|(with_reducible apply aiA)|(apply qh;omega)|(apply qg;rfl)|exact qk))
 rintro i ⟨i1,i2⟩ K hK
 by_cases hi:i<x.sig.length
 ·have k1:((i:Int)<x.sig.length)=True:=eqt om;have c1:=fun h=>qB4 (x:=x) (k:=k) (s:=i) h ho hk hi
  have hno:(decide (clT x k i=none)|| !decide (clT x k i=o0))=true→R=false:=fun hx=>by rw[hR,qG.2 ⟨i,hi,hx⟩];rfl
  have hS:(decide (clT x k i=none)|| !decide (clT x k i=o0))=false→ ∀j,j<i+1→(decide (clT x k j=none)|| !decide (clT x k j=o0))=false:=fun hx j hj=>by
   by_cases e:j=i
   ·subst e;exact hx
   ·exact i2 j om
  obtain⟨o,hox⟩: ∃o,o=clT x k i:=⟨_,rfl⟩
  rw[←hox]at hno hS;rw[←hox]at c1;unfold coC at c1;cases o0 with
  |none=>
   have hV:R=false:=hno (by cases o<;>simp);rw[hV];simp (disch:=omega) only[coC,k1,Option.isSome_none,Option.getD_none,go_sem]
   repeat' first
    |(refine cA (c1 _) flk ?_;simp (disch:=omega) only[go_sem])
    |(apply qb;exact rvk;simp only[go_sem];exact qk)
    |with_reducible apply aiA
   all_goals try exact clz
  |some w0=>
  cases o with
  |none=>
   rw[hno rfl];simp (disch:=omega) only[coC,k1,Option.isSome_some,Option.getD_some,go_sem]
   repeat' first
    |(refine cA (c1 _) flk ?_;simp (disch:=omega) only[Option.isSome_none,Option.getD_none,Option.getD_some,go_sem])
    |(apply qb;exact rvk;simp only[go_sem];exact qk)
    |with_reducible apply aiA
   all_goals try exact clz
  |some w=>
  by_cases g:w=w0
  ·have q1:(w=w0)=True:=eqt g;simp (disch:=omega) only[coC,k1,Option.isSome_some,Option.getD_some,go_sem]
   repeat' first
    |(refine cA (c1 _) flk ?_;simp (disch:=omega) only[q1,Option.isSome_some,Option.getD_some,go_sem])
    |with_reducible apply aiA
   all_goals try exact clz
   refine hK _ _ (i+1) ⟨hi,hS (by rw[g];simp)⟩ om (Wk.temps ?_)
   (simp only[go_sem,qj,qd,qa,qi];try (repeat' first|(with_reducible apply aiA)|(apply qh;omega)|(apply qg;rfl)|exact qk))
  ·have q1:(w=w0)=False:=eqf g;rw[hno (by simp[g])];simp (disch:=omega) only[coC,k1,Option.isSome_some,Option.getD_some,go_sem]
   repeat' first
    |(refine cA (c1 _) flk ?_;simp (disch:=omega) only[q1,Option.isSome_some,Option.getD_some,go_sem])
    |(apply qb;exact rvk;simp only[go_sem];exact qk)
    |with_reducible apply aiA
   all_goals try exact clz
 ·have k1:((i:Int)<x.sig.length)=False:=eqf om;have hV:R=true:=by rw[hR,qo.2 fun j hj=>i2 j om];rfl
  rw[hV];simp (disch:=omega) only[coC,k1,go_sem]
  repeat' first
   |(apply qb;exact rvk;simp only[go_sem];exact qk)
end
theorem rdP(x:Co)(f t s:Nat)(h:List AObj)(ho:CoOk x)(ht:t≤x.col.length)(hs:s<x.sig.length)(hn:x.col.length≤1000000000):ACalls Tryz.prog 274 [.agg (coC x),.int .i64 (f:Int),.int .i64 (t:Int),.int .i64 (s:Int)] h (strs (rdG x s f (t-f))) h:=by
 refine acO qzs ?_;simp (disch:=omega) only[qxH,coC,go_sem];refine qn (T:=fun i:Nat×Nat×AObj=>qI 32 [(2,.int .i64 (t:Int)),(3,.int .i64 (s:Int)),(4,.op h.length 1 0),(9,.osl (h.length+2) i.2.1 1 0 (rdG x s f i.1).length),(10,.int .i64 ((f+i.1:Nat):Int))])
  (H:=fun i=>h++ [.mem 1 26 (coC x),.emp 1,zP i.2.1 9 (zY (rdG x s f i.1)),i.2.2,.emp 0])
  (inv:=fun i=>i.1≤t-f∧qC [i.2.2] 0=true) (m:=fun i=>t-f-i.1) (0,1,.emp 0) ⟨nzl _,rfl⟩ (Wk.temps ?_) ?_
 ·(simp only[rdG,lnl,Nat.add_zero,go_sem,qj,qd,qa,qi];try (repeat' first|(with_reducible apply aiA)|(apply qh;omega)|(apply qg;rfl)|exact qk))
 rintro⟨d,v,O⟩ ⟨i1,i2⟩ K hK;simp only at i1 i2 hK;have i2': ∀m,qC (O::m) 0=true:=fun _=>i2
 have hln:=qed x s f d;have hst:rdG x s f (d+1)=rdG x s f d++(clT x (f+d) s).toList:=rfl;obtain⟨L,hL⟩: ∃L,L=rdG x s f d:=⟨_,rfl⟩
 rw[←hL]at hln hst;have eL:=hL.symm;have eC:=jb L
 by_cases hi:f+d<t
 ·have k1:(((f+d:Nat):Int)<t)=True:=eqt om;have c1:=fun h=>qB4 (x:=x) (k:=f+d) (s:=s) h ho om hs
  obtain⟨o,hox⟩: ∃o,o=clT x (f+d) s:=⟨_,rfl⟩
  rw[←hox]at hst c1;unfold coC at c1;have eTk:List.take L.length (zY L)=zY L:=ltl om;cases o with
  |none=>
   have hst:rdG x s f (d+1)=L:=by rw[hst];simp
   simp (disch:=omega) only[coC,k1,eL,go_sem]
   repeat' first
    |(refine cA (c1 _) flk ?_;simp (disch:=omega) only[i2',Option.isSome_none,Option.getD_none,go_sem])
    |with_reducible apply aiA
   all_goals try exact clz
   refine hK _ _ (d+1,v,O) ⟨om,i2⟩ (by simp only;omega) ?_;simp only[hst];refine Wk.temps ?_
   (simp only[go_sem,qj,qd,qa,qi];try (repeat' first|(with_reducible apply aiA)|(apply qh;omega)|(apply qg;rfl)|exact qk))
  |some w=>
   have hst:rdG x s f (d+1)=L++ [w]:=hst;simp (disch:=omega) only[coC,k1,eL,Option.isSome_some,Option.getD_some,go_sem]
   repeat' first
    |(refine cA (c1 _) flk ?_;simp (disch:=omega) only[i2',eC,eTk,Nat.mul_one,Option.isSome_some,Option.getD_some,go_sem])
    |with_reducible apply aiA
   all_goals try exact clz
   have eA:zY L++ [AV.str w]=zY (rdG x s f (d+1)):=by rw[hst,qaF];rfl
   try rw[eA]
   refine hK _ _ (d+1,v+1,.mem (qr (some O)+1) 9 [.str w]) ⟨om,rfl⟩ (by simp only;omega) ?_;simp only[hst,lap,lco,lnl];refine Wk.temps ?_
   (simp only[go_sem,qj,qd,qa,qi];try (repeat' first|(with_reducible apply aiA)|(apply qh;omega)|(apply qg;rfl)|exact qk))
 ·have k1:(((f+d:Nat):Int)<t)=False:=eqf om;obtain rfl:d=t-f:=by omega
  rw[eL];simp (disch:=omega) only[k1,go_sem]
  repeat' first
   |(apply qb;exact rvk;simp only[go_sem])
  exact qei (fun _=>rfl) rfl
def rnX(x:Co):List (List AV):=(qgl (cmB x) x.col.length).map fun r=> [.int .i64 (r.1:Int),.int .i64 (r.2:Int)]
theorem qEP(x:Co)(h:List AObj):ACalls Tryz.prog 233 [.agg (coC x)] h (.fn (.func 277) [] [.ip (coC x)]) h:=by
 unfold coC;refine acO qzf ?_;simp (disch:=omega) only[qxx,go_sem]
 repeat' first
  |(apply qb;exact rvk;simp only[go_sem];exact qk)
theorem qEN(u:Un)(f t:Int)(h:List AObj):ACalls Tryz.prog 234 [.agg (unC u),.ip [.int .i64 f],.ip [.int .i64 t]] h (.bool (decide (u.frm≤f)&&decide (t≤u.to))) h:=by
 by_cases g:u.frm≤f
 ·have k1:(u.frm≤f)=True:=eqt g;rw[dqt g,Bool.true_and];refine acO qr6 ?_;simp (disch:=omega) only[qtl,unC,k1,go_sem]
  repeat' first
   |(apply qb;exact rvk;simp only[go_sem];exact qk)
   |with_reducible apply aiA
  all_goals try exact clz
 ·have k1:(u.frm≤f)=False:=eqf g;rw[dqf g,Bool.false_and];refine acO qr6 ?_;simp (disch:=omega) only[qtl,unC,k1,go_sem]
  repeat' first
   |(apply qb;exact rvk;simp only[go_sem];exact qk)
   |with_reducible apply aiA
  all_goals try exact clz
theorem qAp{p:Nat→Bool}{n f t:Nat}(h1:f≤t)(h2:t≤n)(h3: ∀j,f≤j→j<t→p j=false)(h4:t<n→p t=true):nxt p (n-f) f=t:=by
 obtain⟨a1,a2,a3,a4⟩:=qd3 p (n-f) f;rcases Nat.lt_trichotomy (nxt p (n-f) f) t with h|h|h
 ·have:=a4 om
  rw[h3 _ a1 h]at this;cases this
 ·exact h
 ·have:=h4 om
  rw[a3 t h1 h]at this;cases this
theorem qAK{x:Co}{pre rest:List (Nat×Nat)}{r:Nat×Nat}(h:qgl (cmB x) x.col.length=pre++r::rest): ∃g:pre.length<(rnX x).length,(rnX x)[pre.length]= [.int .i64 (r.1:Int),.int .i64 (r.2:Int)]:=by
 unfold rnX;refine⟨by rw[h];simp,?_⟩;simp only[h,List.getElem_map];rw[List.getElem_append_right (nlr _)];simp
structure RnS where
 f:Nat
 D:Nat
 pre:List (Nat×Nat)
 hh:List AObj
theorem itR(x:Co)(ho:CoOk x)(hn:x.col.length≤1000000000):qwq Tryz.prog 277 [.ip (coC x)] (rnX x):=by
 intro h ts LI S E hS hE body start hts;have hcom:=fun k h hk=>cmP (x:=x) (k:=k) h ho hk
 obtain⟨p,hp⟩: ∃p,p=cmB x:=⟨_,rfl⟩
 have hxl:(rnX x).length=(qgl p x.col.length).length:=by rw[hp];simp[rnX]
 have hat:= @qAK x;rw[←hp]at hat;rw[←hp]at hcom;refine acQ qzv ?_;simp (disch:=omega) only[qxK,coC,go_sem];refine qn (T:=fun i:RnS=>qI 36 [(0,.yld h.length),(1,.ip (coC x)),(3,.int .i64 i.f)]) (H:=fun i=>i.hh++ [.lp .ready ts LI])
  (inv:=fun i=>i.f≤x.col.length+1∧x.col.length-i.f<i.D∧qgl p x.col.length=i.pre++kR p x.col.length i.D i.f∧S i.pre.length i.hh) (m:=fun i=>x.col.length+1-i.f) ⟨0,x.col.length+1,[],h⟩ ⟨nzl _,by simp only;omega,rfl,start⟩ (Wk.temps ?_) ?_
 ·(simp only[coC,go_sem,qj,qd,qi];try (repeat' first|(with_reducible apply aiA)|(apply qh;omega)|(apply qg;rfl)|exact qk))
 rintro⟨f,D,pre,hh⟩ ⟨i1,i2,i3,i4⟩ K hK;simp only at i1 i2 i3 i4 hK;obtain⟨hlen,hlow⟩:=hS _ _ i4;have hb:(h++ [AObj.lp LS.ready ts LI]).length=(hh++ [AObj.lp LS.ready ts LI]).length:=by simp[hlen]
 by_cases hi:f<x.col.length
 ·have q0:((f:Int)<x.col.length)=True:=eqt om;obtain⟨D',rfl⟩: ∃D',D=D'+1:=⟨D-1,om⟩
  have hD:kR p x.col.length (D'+1) f=(if f<nxt p (x.col.length-f) f then [(f,nxt p (x.col.length-f) f)] else [])++kR p x.col.length D' (nxt p (x.col.length-f) f+1):=by
   conv=>lhs;unfold kR
   rw[ine om]
  simp (disch:=omega) only[coC,qE,q0,go_sem]
  repeat' first
   |with_reducible apply aiA
  all_goals try exact clz
  refine qn (T:=fun t:Nat=>qI 36 [(0,.yld h.length),(1,.ip (coC x)),(3,.int .i64 f),(4,.int .i64 t)]) (H:=fun _=>hh++ [.lp .ready ts LI])
   (inv:=fun t=>f≤t∧t≤x.col.length∧ ∀j,f≤j→j<t→p j=false) (m:=fun t=>x.col.length-t) f ⟨nlr _,om,fun j h1 h2=>by omega⟩ (Wk.temps ?_) ?_
  ·(simp only[coC,go_sem,qj,qd,qa,qi];try (repeat' first|(with_reducible apply aiA)|(apply qh;omega)|(apply qg;rfl)|exact qk))
  rintro t ⟨t1,t2,t3⟩ K2 hK2;have fin:(t<x.col.length→p t=true)→kR p x.col.length (D'+1) f=(if f<t then [(f,t)] else [])++kR p x.col.length D' (t+1):=fun h4=>by
   rw[hD,qAp t1 t2 t3 h4]
  have hend: ∀hh',kR p x.col.length (D'+1) f=(if f<t then [(f,t)] else [])++kR p x.col.length D' (t+1)→S (pre++if f<t then [(f,t)] else []).length hh'→qgl p x.col.length=(pre++if f<t then [(f,t)] else [])++kR p x.col.length D' (t+1):=fun hh' h1 _=>by
   rw[i3,h1,List.append_assoc]
  by_cases ht:t<x.col.length
  ·have q1:((t:Int)<x.col.length)=True:=eqt om;have c1:=fun h=>hcom t h ht
   cases hpt:p t with
   |false=>
    rw[hpt]at c1;unfold coC qE at c1;simp (disch:=omega) only[coC,qE,q1,go_sem]
    repeat' first
     |(refine cG (fun e=>c1 _) flk ?_;simp (disch:=omega) only[go_sem])
     |with_reducible apply aiA
    all_goals try exact clz
    refine hK2 _ _ (t+1) ⟨om,ht,fun j h1 h2=> ?_⟩ om (Wk.temps ?_)
    ·by_cases e:j=t
     ·subst e;exact hpt
     ·exact t3 j h1 om
    ·(simp only[coC,go_sem,qj,qd,qa,qi];try (repeat' first|(with_reducible apply aiA)|(apply qh;omega)|(apply qg;rfl)|exact qk))
   |true=>
    rw[hpt]at c1;have hf:=fin fun _=>hpt
    unfold coC qE at c1
    by_cases gt:f<t
    ·have q2:((f:Int)<t)=True:=eqt om;rw[ipo gt]at hf;rw[hf]at i3;obtain⟨hdl,hxx⟩:=hat (pre:=pre) (r:=(f,t)) (rest:=kR p x.col.length D' (t+1)) i3;have hb':=body pre.length hh [] hdl i4;rw[hxx]at hb';have i5:qgl p x.col.length=(pre++ [(f,t)])++kR p x.col.length D' (t+1):=by rw[i3];simp
     simp (disch:=omega) only[coC,qE,q1,go_sem]
     repeat' first
      |(refine cG (fun e=>c1 _) flk ?_;simp (disch:=omega) only[q2,go_sem])
      |with_reducible apply aiA
     all_goals try exact clz
     ·exact⟨.ready,ts,LI,kz hlen⟩
     ·refine ku.mono ?_ hb';rintro v h' ⟨hh',⟨rfl,hn',rfl⟩|⟨st,rfl,hs',rfl⟩⟩
      ·simp (disch:=omega) only[go_sem];refine hK _ _ ⟨t+1,D',pre++ [(f,t)],hh'⟩ ⟨by simp only;omega,by simp only;omega,i5,by simp only[lap,lco,lnl];exact hn'⟩ (by simp only;omega) (Wk.temps ?_)
       (simp only[coC,go_sem,qj,qd,qa,qi];try (repeat' first|(with_reducible apply aiA)|(apply qh;omega)|(apply qg;rfl)|exact qk))
      ·simp (disch:=omega) only[go_sem];obtain⟨r1,r2⟩:=(hE _ _ hs').ret (L:=LI) st hts;exact ky trivial r1 r2 ⟨_,.inr ⟨st,hs',rfl⟩⟩ (qk)
    ·have q2:((f:Int)<t)=False:=eqf om;rw[ine gt,lna]at hf;rw[hf]at i3;simp (disch:=omega) only[coC,qE,q1,go_sem]
     repeat' first
      |(refine cG (fun e=>c1 _) flk ?_;simp (disch:=omega) only[q2,go_sem])
      |with_reducible apply aiA
     all_goals try exact clz
     refine hK _ _ ⟨t+1,D',pre,hh⟩ ⟨by simp only;omega,by simp only;omega,i3,i4⟩ (by simp only;omega) (Wk.temps ?_)
     (simp only[coC,go_sem,qj,qd,qa,qi];try (repeat' first|(with_reducible apply aiA)|(apply qh;omega)|(apply qg;rfl)|exact qk))
  ·have q1:((t:Int)<x.col.length)=False:=eqf om;have hf:=fin fun hx=>absurd hx ht
   by_cases gt:f<t
   ·have q2:((f:Int)<t)=True:=eqt om;rw[ipo gt]at hf;rw[hf]at i3;obtain⟨hdl,hxx⟩:=hat (pre:=pre) (r:=(f,t)) (rest:=kR p x.col.length D' (t+1)) i3;have hb':=body pre.length hh [] hdl i4;rw[hxx]at hb';have i5:qgl p x.col.length=(pre++ [(f,t)])++kR p x.col.length D' (t+1):=by rw[i3];simp
    simp (disch:=omega) only[coC,qE,q1,go_sem]
    repeat' first
     |(refine qm ( .bool false) ?_;simp (disch:=omega) only[q2,go_sem])
     |with_reducible apply aiA
    all_goals try exact clz
    ·exact⟨.ready,ts,LI,kz hlen⟩
    ·refine ku.mono ?_ hb';rintro v h' ⟨hh',⟨rfl,hn',rfl⟩|⟨st,rfl,hs',rfl⟩⟩
     ·simp (disch:=omega) only[go_sem];refine hK _ _ ⟨t+1,D',pre++ [(f,t)],hh'⟩ ⟨by simp only;omega,by simp only;omega,i5,by simp only[lap,lco,lnl];exact hn'⟩ (by simp only;omega) (Wk.temps ?_)
      (simp only[coC,go_sem,qj,qd,qa,qi];try (repeat' first|(with_reducible apply aiA)|(apply qh;omega)|(apply qg;rfl)|exact qk))
     ·simp (disch:=omega) only[go_sem];obtain⟨r1,r2⟩:=(hE _ _ hs').ret (L:=LI) st hts;exact ky trivial r1 r2 ⟨_,.inr ⟨st,hs',rfl⟩⟩ (qk)
   ·exact absurd (show f<t by omega) gt
 ·have q0:((f:Int)<x.col.length)=False:=eqf om;have hD:kR p x.col.length D f= []:=by
   cases D with
   |zero=>rfl
   |succ D=>unfold kR;rw[ipo om]
  rw[hD,lan]at i3;simp (disch:=omega) only[coC,qE,q0,go_sem]
  repeat' first
   |with_reducible apply aiA
  all_goals try exact clz
  obtain⟨r1,r2⟩:=(hS _ _ i4).ret (L:=LI) .ready hts;exact ky trivial r1 r2 ⟨hh,.inl ⟨by rw[hxl,i3];exact i4,rfl⟩⟩ (qk)
structure qwJ (l:List Un):Prop where
 n:l.length≤1000000000
 rd: ∀i,(l.getD i default).rds.length≤1000000000
 sr: ∀i j,((l.getD i default).rds.getD j default).src.length≤1000000000
 wd: ∀i j,((l.getD i default).rds.getD j default).words.length≤1000000000
structure qsJ (L:List Rd):Prop where
 n:L.length≤1000000000
 sr: ∀j,(L.getD j default).src.length≤1000000000
 wd: ∀j,(L.getD j default).words.length≤1000000000
theorem qDx(a b:List Str)(h:List AObj)(h1:a.length≤1000000000)(h2:b.length≤1000000000):ACalls Tryz.prog 53 [strs a,strs b] h (.bool (decide (a=b))) h:=by
 have c:=qyp a b.length (fun j=>b.getD j []) h h1 h2;have e:decide (a.length=b.length∧ ∀i,i<a.length→a.getD i []=b.getD i [])=decide (a=b):=decide_eq_decide.2 (je ([]:Str)).symm;rw[e]at c;exact c
theorem qDw(a b:List Int)(h:List AObj)(h1:a.length≤1000000000)(h2:b.length≤1000000000):ACalls Tryz.prog 40 [ql a,ql b] h (.bool (decide (a=b))) h:=by
 have c:=qDv qCe a.length b.length (fun j=> .i (a.getD j 0)) (fun j=> .i (b.getD j 0)) h (fun _ _ _=>rfl) om om;simp only[At.v,At.i.injEq]at c;have e:decide (a.length=b.length∧ ∀i,i<a.length→a.getD i 0=b.getD i 0)=decide (a=b):=decide_eq_decide.2 (je (0:Int)).symm;rw[e]at c;exact c
theorem qCK{r s:Rd}:r=s↔r.words=s.words∧r.src=s.src:=by
 cases r;cases s;simp
theorem qEQ(r s:Rd)(h:List AObj)(h1:r.words.length≤1000000000)(h2:s.words.length≤1000000000)(h3:r.src.length≤1000000000)(h4:s.src.length≤1000000000):ACalls Tryz.prog 273 [.agg (rdC r),.agg (rdC s)] h (.bool (decide (r=s))) h:=by
 have c1:=fun h=>qDx r.words s.words h h1 h2
 have c2:=fun h=>qDw r.src s.src h h3 h4
 have e:decide (r=s)=(decide (r.words=s.words)&&decide (r.src=s.src)):=by rw[←Bool.decide_and];exact decide_eq_decide.2 qCK
 rw[e];obtain⟨a,ha⟩: ∃a,a=decide (r.words=s.words):=⟨_,rfl⟩
 obtain⟨b,hb⟩: ∃b,b=decide (r.src=s.src):=⟨_,rfl⟩
 rw[←ha,←hb];simp only[←ha]at c1;simp only[←hb]at c2;cases a with
 |true=>
  rw[Bool.true_and];refine acO qsb ?_;simp (disch:=omega) only[qtq,rdC,go_sem]
  repeat' first
   |((first|refine cA (c1 _) ?_ ?_|refine cG (fun e=>c2 _) ?_ ?_);exact flk;simp (disch:=omega) only[go_sem])
   |(apply qb;exact rvk;simp only[go_sem];exact qk)
   |with_reducible apply aiA
  all_goals try exact clz
 |false=>
  rw[Bool.false_and];refine acO qsb ?_;simp (disch:=omega) only[qtq,rdC,go_sem]
  repeat' first
   |(refine qm ( .bool false) ?_;simp (disch:=omega) only[go_sem])
   |(refine cA (c1 _) flk ?_;simp (disch:=omega) only[go_sem])
   |(apply qb;exact rvk;simp only[go_sem];exact qk)
theorem efP(a b:List Rd)(h:List AObj)(za:qsJ a)(zb:qsJ b):ACalls Tryz.prog 272 [jo a,jo b,.fn (.func 273) [] []] h (.bool (decide (a=b))) h:=by
 have ha:=za.n;have hb:=zb.n;have he:decide (a=b)=decide (a.length=b.length∧ ∀i,i<a.length→a.getD i default=b.getD i default):=decide_eq_decide.2 (je (default:Rd));obtain⟨R,hR⟩: ∃R,R=decide (a=b):=⟨_,rfl⟩
 rw[←hR]at he ⊢
 by_cases g:a.length=b.length
 case neg=>
  have k1:((a.length:Int)=b.length)=False:=eqf om;rw[dqf (fun hc=>g hc.1)]at he;rw[he];refine acO qsa ?_;simp (disch:=omega) only[qtp,jo,k1,go_sem]
  repeat' first
   |(apply qb;exact rvk;simp only[go_sem];exact qk)
 have k1:((a.length:Int)=b.length)=True:=eqt om;refine acO qsa ?_;simp (disch:=omega) only[qtp,jo,k1,go_sem];refine qn (T:=fun i:Nat×AObj×AObj=>qI 32 [(1,jo b),(2,.fn (.func 273) [] []),(15,jo a),(16,.int .i64 a.length),(17,.int .i64 i.1)]) (H:=fun i=>h++ [i.2.1,i.2.2])
  (inv:=fun i=>i.1≤a.length∧qC [i.2.1] 0=true∧qC [i.2.2] 0=true∧ ∀j,j<i.1→a.getD j default=b.getD j default) (m:=fun i=>a.length-i.1) (0,.emp 0,.emp 0) ⟨nzl _,rfl,rfl,fun j hj=>absurd hj (nnz j)⟩ (Wk.temps ?_) ?_
 ·(simp only[jo,go_sem,qj,qd,qa,qi];try (repeat' first|(with_reducible apply aiA)|(apply qh;omega)|(apply qg;rfl)|exact qk))
 rintro⟨i,O1,O2⟩ ⟨i1,j1,j2,i2⟩ K hK;simp only at i1 j1 j2 i2 hK;have j1': ∀m,qC (O1::m) 0=true:=fun _=>j1
 have j2': ∀m,qC (O2::m) 0=true:=fun _=>j2
 by_cases hi:i<a.length
 ·have k2:((i:Int)<a.length)=True:=eqt om;have k3:((i:Int)<b.length)=True:=eqt om;have c1:=fun h=>qEQ (a.getD i default) (b.getD i default) h (za.wd i) (zb.wd i) (za.sr i) (zb.sr i)
  have hno: ¬a.getD i default=b.getD i default→R=false:=fun hx=>by rw[he];exact dqf fun hc=>hx (hc.2 i hi)
  have hS:a.getD i default=b.getD i default→ ∀j,j<i+1→a.getD j default=b.getD j default:=fun hx j hj=>by
   by_cases e:j=i
   ·subst e;exact hx
   ·exact i2 j om
  obtain⟨r,hr⟩: ∃r,r=a.getD i default:=⟨_,rfl⟩
  obtain⟨s,hs⟩: ∃s,s=b.getD i default:=⟨_,rfl⟩
  have er:=hr.symm;have es:=hs.symm;rw[er,es]at hno hS;simp only[er,es]at c1;unfold rdC at c1
  by_cases g2:r=s
  ·have k4:decide (r=s)=true:=dqt g2;simp only[k4]at c1;simp (disch:=omega) only[jo,rdC,k2,k3,er,es,j1',j2',go_sem]
   repeat' first
    |(refine qw (c1 _) ?_;simp (disch:=omega) only[go_sem])
    |with_reducible apply aiA
   all_goals try exact clz
   refine hK _ _ (i+1,_,_) ⟨hi,rfl,rfl,hS g2⟩ (by simp only;omega) (Wk.temps ?_)
   (simp only[jo,go_sem,qj,qd,qa,qi];try (repeat' first|(with_reducible apply aiA)|(apply qh;omega)|(apply qg;rfl)|exact qk))
  ·have k4:decide (r=s)=false:=dqf g2;simp only[k4]at c1;rw[hno g2];simp (disch:=omega) only[jo,rdC,k2,k3,er,es,j1',j2',go_sem]
   repeat' first
    |(refine qw (c1 _) ?_;simp (disch:=omega) only[go_sem])
    |(apply qb;exact rvk;simp only[go_sem];exact qk)
    |with_reducible apply aiA
   all_goals try exact clz
 ·have k2:((i:Int)<a.length)=False:=eqf om;rw[he,dqt ⟨g,fun j hj=>i2 j om⟩];simp (disch:=omega) only[jo,k2,go_sem]
  repeat' first
   |(apply qb;exact rvk;simp only[go_sem];exact qk)
theorem qER(a b:List Rd)(h:List AObj)(za:qsJ a)(zb:qsJ b):ACalls Tryz.prog 231 [jo a,jo b] h (.bool (decide (a=b))) h:=by
 have c1:=fun h=>efP a b h za zb
 refine acO qzd ?_;simp (disch:=omega) only[qxv,go_sem]
 repeat' first
  |(refine cA (c1 _) flk ?_;simp (disch:=omega) only[go_sem])
  |(apply qe;exact rvk;simp only[go_sem];exact qk)
theorem qEL(r s:Rd)(h:List AObj)(h1:r.words.length≤1000000000)(h2:s.words.length≤1000000000):ACalls Tryz.prog 276 [.agg (rdC r),.agg (rdC s)] h (.bool (decide (r.words=s.words))) h:=by
 have c1:=fun h=>qDx r.words s.words h h1 h2
 refine acO qzu ?_;simp (disch:=omega) only[qxJ,rdC,go_sem]
 repeat' first
  |(refine cA (c1 _) flk ?_;simp (disch:=omega) only[go_sem])
  |(apply qb;exact rvk;simp only[go_sem];exact qk)
theorem fd1(r y:Rd)(h:List AObj)(h1:r.words.length≤1000000000)(h2:y.words.length≤1000000000):ACalls Tryz.prog 301 [.agg (rdC y),.ip [.fn (.func 276) [] []],.ip (rdC r)] h (.bool (decide (r.words=y.words))) h:=by
 have c1:=fun h=>qEL r y h h1 h2
 unfold rdC at c1;refine acO qzD ?_;simp (disch:=omega) only[qxR,rdC,go_sem]
 repeat' first
  |(refine qw (c1 _) ?_;simp (disch:=omega) only[go_sem])
  |(apply qb;exact rvk;simp only[go_sem];exact qk)
  |with_reducible apply aiA
 all_goals try exact clz
theorem fdP(L:List Rd)(r:Rd)(h:List AObj)(hL:L.length≤1000000000)(h1:r.words.length≤1000000000)(h2: ∀j,(L.getD j default).words.length≤1000000000):ACalls Tryz.prog 275 [jo L,.agg (rdC r),.fn (.func 276) [] []] h (.int .i64 (qjB L r.words)) h:=by
 have c1: ∀k v k2 v2 H,qA k H=some (.mem v 89 (rdC r))→qA k2 H=some (.mem v2 280 [.fn (.func 276) [] []])→
   ACalls Tryz.prog 127 [jo L,.fn (.func 301) [] [.op k2 v2 0,.op k v 0]] H (.int .i64 (qjB L r.words)) H:=fun k v k2 v2 H hk hk2=>by
  have hc:=qQ hk;have hc2:=qQ hk2;unfold jo qjB;refine qba qrS L.length (fun j=>rdC (L.getD j default)) (fun j=> .agg (rdC (L.getD j default))) _ [] [.op k2 v2 0,.op k v 0] _ H (fun i _=>⟨rfl,by simp[ji,rdC],rfl,rfl,rfl⟩) (fun i _=> ?_) om;refine ACalls.borrow ?_ rfl;have e:([AV.agg (rdC (L.getD i default))]++ [AV.op k2 v2 0,AV.op k v 0]).map (rei (fun _=>true) H 8)= [.agg (rdC (L.getD i default)),.ip [.fn (.func 276) [] []],.ip (rdC r)]:=by
   simp only[lca,lna,List.map_cons,List.map_nil,rei_op,if_true,hc,hc2,ipOf_some,List.drop_zero,rei_agg];rfl
  rw[lna,e];exact fd1 r _ _ h1 (h2 i)
 have c2:=c1 h.length 1 (h.length+1) 1 (h++ [.mem 1 89 (rdC r),.mem 1 280 [.fn (.func 276) [] []]]) (by rw[getO_app0];rfl) (by simp only[go_sem]);unfold rdC at c2;refine acO qzt ?_;simp (disch:=omega) only[qxI,rdC,go_sem]
 repeat' first
  |(refine cA (c2) flk ?_;simp (disch:=omega) only[go_sem])
  |(apply qb;exact rvk;simp only[go_sem];exact qk)
def gnB(sec:Str)(sig:List Str):Bool:=zd (fun i=>decide (20<(sig.getD i []).length)) sig.length||decide (20<sec.length)
def qvB(t:Tk):Bool:=decide (12<t.text.length)||(decide (12<t.norm.length)||(decide (20<t.page.length)||decide (20<t.name.length)))
def qAc(i:Nat)(r:List Tk):Bool:=decide (6<r.length)||((decide (4≤i)&&decide (1<r.length))||zd (fun k=>qvB (r.getD k default)) r.length)
def prN(L:List (List Tk)):Nat→Nat
 |0=>1
 |i+1=>if i<4 then prN L i*((L.getD i []).length+1) else prN L i
def gtB(L:List (List Tk)):Bool:=zd (fun i=>qAc i (L.getD i [])) L.length||(decide (400<prN L L.length)||((decide (6<L.length)&&decide (L.length≤32))||decide (34<L.length)))
def qCr(x:Co):Bool:=zd (fun i=>decide (36<(x.col.getD i []).length)) x.col.length||(gtB x.tok||(decide (24<x.col.length)||(decide (36<x.sig.length)||gnB x.sec x.sig)))
def guR(u:Un)(k:Nat):Bool:=decide (8<(u.rds.getD k default).src.length)||gwB (u.rds.getD k default).words 8
def guB(u:Un):Bool:=decide (6<u.rds.length)||zd (guR u) u.rds.length
def qCs(l:List Un):Bool:=zd (fun i=>guB (l.getD i default)) l.length||decide (12<l.length)
end RC
end
section
open Go Go.Proofs AF
def qlX:List Nat:= []
def qDs:C:=
 ((C.ops [⟨some 0,none,.alloc 0 26 [.str [],.nl,.nl,.nl],[]⟩]).seq ((C.ops [⟨some 1,none,.bslc 1 1 2 9 [.str []] [(0,1),(1,1)],[.c (.str [65]),.c (.str [66])]⟩,ON 2
 (.call 163 true) [.c (.str [100,101,117,115])],ON 3 (.call 163 true) [.c (.str [101,115,116])],ON 4 (.call 163 true) [.c (.str [98,111,110,117,115])],⟨some 5,none,
 .bslc 2 6 3 124 [.str [],.str [],.str [],i6 0,i6 0,.str []] [(0,6),(6,6),(12,6)],[.t 2,.t 3,.t 4]⟩,ON 6 (.call 163 true) [.c (.str [100,101,117,115])],ON 7 (.call
 163 true) [.c (.str [98,111,110,117,115])],⟨some 8,none,.bslc 3 6 2 124 [.str [],.str [],.str [],i6 0,i6 0,.str []] [(0,6),(6,6)],[.t 6,.t 7]⟩,⟨some 9,none,
 .bslc 4 1 2 125 [.nl] [(0,1),(1,1)],[.t 5,.t 8]⟩,⟨some 10,none,.bslc 5 1 2 3 [i6 0] [(0,1),(1,1)],[.c (i6 0),.c (i6 0)]⟩,⟨some 11,none,.bslc 6 1 2 3 [i6 0] [(0,1),
 (1,1)],[.c (i6 1),.c (i6 (-1))]⟩,⟨some 12,none,.bslc 7 1 2 3 [i6 0] [(0,1),(1,1)],[.c (i6 2),.c (i6 1)]⟩,⟨some 13,none,.bslc 8 1 3 62 [.nl] [(0,1),(1,1),(2,1)],
 [.t 10,.t 11,.t 12]⟩,⟨some 14,none,.build [.str [],.nl,.nl,.nl] [(0,1),(1,1),(2,1),(3,1)],[.c (.str [97]),.t 1,.t 9,.t 13]⟩,ST 4 0 14]).seq
 C.ret))
theorem qCp:qB Tryz.prog 97 15 9 [RV.cell 0 (some 4)] qDs:=fi Tryz.f97 [0,1,5,8,9,10,11,12,13] qlX []
def qw8:C:=
 ((C.ops [⟨some 2,none,.alloc 0 124 [.str [],.str [],.str [],i6 0,i6 0,.str []],[]⟩]).seq ((C.ops [MV 3 0,MV 4 0,⟨some 5,none,.build [.str [],.str [],.str [],i6 0,i6
 0,.str []] [(0,1),(1,1)],[.t 3,.t 4]⟩,ST 6 2 5]).seq
 C.ret))
theorem qyN:qB Tryz.prog 163 6 1 [RV.cell 2 (some 6)] qw8:=fi Tryz.f163 [2] qlX []
end
section
open Go Go.Proofs AF HY LN
namespace RC
def qaN(L:List (List Str)):AV:= .sl L.length fun i=> [strs (L.getD i [])]
def qaY(L:List Bool):AV:= .sl L.length fun i=> [.bool (L.getD i false)]
theorem flag_clsV(L:List (List Str)):(qaN L).flag=true:=rfl
theorem strip_clsV(L:List (List Str)):(qaN L).strip=qaN L:=rfl
theorem flag_bolV(L:List Bool):(qaY L).flag=true:=rfl
theorem strip_bolV(L:List Bool):(qaY L).strip=qaY L:=rfl
section
variable {fz : Nat → Bool} {h : List AObj} {n : Nat}
theorem rei_clsV(L:List (List Str)):rei fz h (n+1) (qaN L)=qaN L:=rfl
theorem rei_bolV(L:List Bool):rei fz h (n+1) (qaY L)=qaY L:=rfl
theorem frz_clsV(L:List (List Str)):frz fz h (n+1) (qaN L)=qaN L:=rfl
theorem frz_bolV(L:List Bool):frz fz h (n+1) (qaY L)=qaY L:=rfl
end
attribute [go_sem] flag_clsV strip_clsV flag_bolV strip_bolV rei_clsV rei_bolV frz_clsV frz_bolV
def qCt(a:Ap):Bool:=qCr a.x||(qCs a.l||(qlN a.x.sig a.gs||(decide (18<a.gs.length)||(decide (12<a.cls.length)||(zd (fun j=>gwB (a.cls.getD j []) 8) a.cls.length||(decide (14<a.b.length)||(zd (fun j=>decide (30<(a.b.getD j default).text.length)) a.b.length||(decide (18<a.lay.length)||(zd (fun j=>decide (40<(a.lay.getD j []).length)) a.lay.length||decide (20<a.pos.length))))))))))
theorem zh{α:Type}{d:α}(L:List α)(P:α→Prop)(hd:P d)(h: ∀i,i<L.length→P (L.getD i d)): ∀i,P (L.getD i d):=by
 intro i
 by_cases hi:i<L.length
 ·exact h i hi
 ·rw[gdqA,List.getElem?_eq_none om];exact hd
theorem qzW{x:Co}(h:qCr x=false):qwp x∧x.col.length≤24∧x.sig.length≤36:=by
 unfold qCr at h;rw[Bool.or_eq_false_iff,Bool.or_eq_false_iff,Bool.or_eq_false_iff,Bool.or_eq_false_iff,qo,decide_eq_false_iff_not,decide_eq_false_iff_not]at h;obtain⟨h1,h2,h3,h4,h5⟩:=h;unfold gtB at h2;rw[Bool.or_eq_false_iff,qo,Bool.or_eq_false_iff,Bool.or_eq_false_iff,decide_eq_false_iff_not,decide_eq_false_iff_not]at h2;obtain⟨t1,t2,t3,t4⟩:=h2;unfold gnB at h5;rw[Bool.or_eq_false_iff,qo,decide_eq_false_iff_not]at h5;obtain⟨n1,n2⟩:=h5;have hrow: ∀i,i<x.tok.length→(x.tok.getD i []).length≤6∧ ∀j,j<(x.tok.getD i []).length→qvB ((x.tok.getD i []).getD j default)=false:=fun i hi=>by
  have:=t1 i hi
  unfold qAc at this;rw[Bool.or_eq_false_iff,Bool.or_eq_false_iff,decide_eq_false_iff_not,qo]at this;exact⟨om,this.2.2⟩
 have hd0:qsK (default:Tk):=⟨by decide,by decide,by decide,by decide⟩
 refine⟨⟨om,om,?_,om,?_,?_,om,?_⟩,om,om⟩
 ·exact zh x.sig (fun s=>s.length≤1000000000) (by decide) fun i hi=>by
   have:=of_decide_eq_false (n1 i hi)
   omega
 ·exact zh x.tok (fun s=>s.length≤1000000000) (by decide) fun i hi=>by have:=(hrow i hi).1;omega
 ·exact zh x.tok (fun s=> ∀j,qsK (s.getD j default)) (fun j=>by simpa using hd0) fun i hi=>zh _ qsK hd0 fun j hj=>by
   have:=(hrow i hi).2 j hj
   unfold qvB at this;simp only[Bool.or_eq_false_iff,decide_eq_false_iff_not]at this;exact⟨om,om,om,om⟩
 ·exact zh x.col (fun s=>s.length≤1000000000) (by decide) fun i hi=>by
   have:=of_decide_eq_false (h1 i hi)
   omega
theorem qzX{l:List Un}(h:qCs l=false):qwJ l∧l.length≤12:=by
 unfold qCs at h;rw[Bool.or_eq_false_iff,qo,decide_eq_false_iff_not]at h;obtain⟨h1,h2⟩:=h;have hu: ∀i,i<l.length→(l.getD i default).rds.length≤6∧ ∀j,j<(l.getD i default).rds.length→((l.getD i default).rds.getD j default).src.length≤8∧((l.getD i default).rds.getD j default).words.length≤8:=fun i hi=>by
  have:=h1 i hi
  unfold guB at this;rw[Bool.or_eq_false_iff,decide_eq_false_iff_not,qo]at this;refine⟨om,fun j hj=> ?_⟩;have h3:=this.2 j hj;unfold guR at h3;rw[Bool.or_eq_false_iff,decide_eq_false_iff_not]at h3
  have:=(qdq h3.2).1
  exact⟨om,om⟩
 refine⟨⟨om,?_,?_,?_⟩,om⟩
 ·exact zh l (fun u=>u.rds.length≤1000000000) (by decide) fun i hi=>by have:=(hu i hi).1;omega
 ·exact zh l (fun u=> ∀j,(u.rds.getD j default).src.length≤1000000000) (fun j=>by simp[show (default:Un).rds= []from rfl,show (default:Rd).src= []from rfl]) fun i hi=>zh _ (fun r:Rd=>r.src.length≤1000000000) (by decide) fun j hj=>by have:=(hu i hi).2 j hj;omega
 ·exact zh l (fun u=> ∀j,(u.rds.getD j default).words.length≤1000000000) (fun j=>by simp[show (default:Un).rds= []from rfl,show (default:Rd).words= []from rfl]) fun i hi=>zh _ (fun r:Rd=>r.words.length≤1000000000) (by decide) fun j hj=>by have:=(hu i hi).2 j hj;omega
structure qBG (a:Ap):Prop where
 co:qwp a.x
 un:qwJ a.l
 l12:a.l.length≤12
 b14:a.b.length≤14
 bt: ∀i,(a.b.getD i default).text.length≤30
 y18:a.lay.length≤18
 yl: ∀i,(a.lay.getD i []).length≤40
 p20:a.pos.length≤20
 c12:a.cls.length≤12
 cw: ∀i,(a.cls.getD i []).length≤8
 g42:qlN a.x.sig a.gs=false
theorem qur{a:Ap}(h:qCt a=false):qBG a:=by
 unfold qCt at h;simp only[Bool.or_eq_false_iff,decide_eq_false_iff_not]at h;obtain⟨h1,h2,h3,h4,h5,h6,h7,h8,h9,h10,h11⟩:=h;obtain⟨o1,o2,o3⟩:=qzW h1;obtain⟨u1,u2⟩:=qzX h2;refine⟨o1,u1,u2,om,?_,om,?_,om,om,?_,h3⟩
 ·exact zh a.b (fun w=>w.text.length≤30) (by decide) fun i hi=>by have:=of_decide_eq_false (qo.1 h8 i hi);omega
 ·exact zh a.lay (fun s=>s.length≤40) (by decide) fun i hi=>by have:=of_decide_eq_false (qo.1 h10 i hi);omega
 ·exact zh a.cls (fun w=>w.length≤8) (by decide) fun i hi=>(qdq (qo.1 h6 i hi)).1
end RC
end
section
namespace AF
open Go
theorem Wk.moveCell{t:List AV}{h:List AObj}{i j a w v:Nat}{ty ty':TypeId}{ds cs:List AV}{sz off len:Nat}
  (hi:qA i h=some (.mem w ty' ds)) (ha:ds[a]? =some (.osl j v sz off len)) (hj:qA j h=some (.mem v ty cs)) (hne:i≠j):
  Wk t h t (setO i (setO j h (.emp (v+1))) (.mem w ty' (ds.set a (.osl h.length 1 sz off len)))++ [.mem 1 ty cs]):=by
 intro N W σ A H;obtain⟨p1,p2⟩:=H.hr.pushN 1;have hjl:=jd hj;have hil:=jd hi;have hj':qA j (h++ [.emp 0])=some (.mem v ty cs):=by rw[jz hjl];exact hj
 have hg:qA h.length (h++ [AObj.emp 0])=some (.emp 0):=by unfold qA;rw[List.getElem?_append_right (nlr _),Nat.sub_self];rfl
 have hk':qC (h++ [.emp 0]) h.length=true:=by unfold qC;rw[hg]
 obtain⟨σ2,q1,q2,q3⟩:=HR.move (h:=h++ [.emp 0]) p1 hj' hk' om;have e0:setO h.length (setO j (h++ [.emp 0]) (.emp (v+1))) (.mem (qr (qA h.length (h++ [.emp 0]))+1) ty cs)=setO j h (.emp (v+1))++ [.mem 1 ty cs]:=by
  rw[hg];unfold setO;rw[List.set_append_left _ _ hjl,List.set_append_right _ _ (by rw[List.length_set];exact nlr _),List.length_set,Nat.sub_self];rfl
 rw[e0]at q1;rw[hg]at q3;have ee:=p2.trans q2;have hiq:qA i (setO j h (.emp (v+1))++ [.mem 1 ty cs])=some (.mem w ty' ds):=by
  rw[jz (by rw[jj];exact hil),qbQ (by exact hne)];exact hi
 obtain⟨o,b,arr,o1,o2,o3,o4,o5,o6,o7,o8,o9⟩:=jg q1 (qQ hiq);obtain⟨o',b',arr',r1,r2,r3,r4,r5,r6,r7,r8,r9⟩:=jg H.hr (qQ hi);obtain⟨o2',s1,s2,s3⟩:=ee.obj i o' r1;rw[o1]at s1;cases s1;have eo:o=o':=s3 (o2.trans r2.symm);subst eo;rw[o4]at r4;cases r4;have earr:arr=arr':=by
  obtain⟨T,fz,_,x1⟩:=o5;obtain⟨T',fz',_,x2⟩:=r5;rw[x1]at x2;cases x2;rfl
 subst earr;have q:=q1.recell (cs':=ds.set a (.osl h.length 1 sz off len)) hiq o1 o4 o5 o6 (by simpa using o7) (fun n x hn hx=>o8 n x (by simpa using hn) hx) (fun n d x hd hx=>by
  rw[List.getElem?_set]at hd;split at hd
  ·rename_i e;subst e;split at hd
   ·cases hd;exact q3 sz off len x ((r9 a _ x ha hx).ext p2)
   ·cases hd
  ·exact o9 n d x hd hx)
 have e1:setO i (setO j h (.emp (v+1))++ [.mem 1 ty cs]) (.mem w ty' (ds.set a (.osl h.length 1 sz off len)))=setO i (setO j h (.emp (v+1))) (.mem w ty' (ds.set a (.osl h.length 1 sz off len)))++ [.mem 1 ty cs]:=by
  unfold setO;rw[List.set_append_left _ _ (by rw[List.length_set];exact hil)]
 rw[e1]at q;exact⟨σ2,⟨q,H.sz,fun n d x hd hx=>(H.tm n d x hd hx).ext ee,qaO ee H.df⟩,ee⟩
end AF
end
