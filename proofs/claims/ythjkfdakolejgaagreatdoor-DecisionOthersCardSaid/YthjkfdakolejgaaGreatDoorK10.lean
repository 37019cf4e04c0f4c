import Derived.Test.YthjkfdakolejgaaGreatDoorK9
import Derived.Test.YthjkfdakolejgaaGreatDoorK3
import Derived.Test.YthjkfdakolejgaaGreatDoorK5
import Derived.Test.YthjkfdakolejgaaGreatDoorK8
import Derived.Test.YthjkfdakolejgaaGreatDoorProg
set_option linter.all false
set_option linter.unusedSimpArgs false
set_option linter.unusedVariables false
set_option linter.unusedSectionVars false
set_option maxHeartbeats 64000000
set_option maxRecDepth 100000
section
open Go Go.Proofs AF HY LN
namespace RC
structure qdE (x:Co):Prop where
 sc:x.sec.length≤1000000000
 sg:x.sig.length≤1000000000
 ss: ∀i,(x.sig.getD i []).length≤1000000000
 tk:x.tok.length≤1000000000
 tl: ∀i,(x.tok.getD i []).length≤1000000000
 te: ∀i j,qsa ((x.tok.getD i []).getD j default)
 cl:x.col.length≤1000000000
 ce: ∀i,(x.col.getD i []).length≤1000000000
theorem qDF(s:Str)(h:List AObj)(hs:s.length≤1000000000):ACalls Tryz.prog 159 [.str s] h (.bool (qrw s)) h:=by
 have c1:=fun h=>qyh s h hs
 unfold qrw;cases g:qgS s with
 |true=>
  rw[g]at c1;simp only[if_true]at c1;have c2:=fun h=>t44 (s.take (s.length-1)) h (by simp;omega)
  rw[ipo rfl];cases g2:qac (s.take (s.length-1))with
  |true=>
   rw[g2]at c2;have k7:decide ((s.length:Int)≤16)=decide (s.length≤16):=decide_eq_decide.2 om;refine acO qhw ?_;simp (disch:=omega) only[qk1,go_sem]
   repeat' first
    |((first|refine cA (c1 _) ?_ ?_|refine cA (c2 _) ?_ ?_);exact flk;simp (disch:=omega) only[k7,go_sem])
    |(apply qd;exact rvk;simp only[go_sem];exact qi)
    |with_reducible apply aiA
   all_goals try exact clz
  |false=>
   rw[g2]at c2;refine acO qhw ?_;simp (disch:=omega) only[qk1,go_sem]
   repeat' first
    |((first|refine cA (c1 _) ?_ ?_|refine cA (c2 _) ?_ ?_);exact flk;simp (disch:=omega) only[go_sem])
    |(apply qd;exact rvk;simp only[go_sem];exact qi)
    |with_reducible apply aiA
   all_goals try exact clz
 |false=>
  rw[g]at c1;rw[ine (by simp)]at c1 ⊢;have c2:=fun h=>t44 s h hs
  cases g2:qac s with
  |true=>
   rw[g2]at c2;refine acO qhw ?_;simp (disch:=omega) only[qk1,go_sem]
   repeat' first
    |((first|refine cA (c1 _) ?_ ?_|refine cA (c2 _) ?_ ?_);exact flk;simp (disch:=omega) only[go_sem])
    |(apply qd;exact rvk;simp only[go_sem];exact qi)
    |with_reducible apply aiA
   all_goals try exact clz
  |false=>
   rw[g2]at c2;refine acO qhw ?_;simp (disch:=omega) only[qk1,go_sem]
   repeat' first
    |((first|refine cA (c1 _) ?_ ?_|refine cA (c2 _) ?_ ?_);exact flk;simp (disch:=omega) only[go_sem])
    |(apply qd;exact rvk;simp only[go_sem];exact qi)
    |with_reducible apply aiA
   all_goals try exact clz
theorem qFJ(t:Tk)(h:List AObj)(hz:qsa t)(hp:kQ SG h):ACalls Tryz.prog 162 [.agg (tkC t)] h (.bool (!decide (tkE t=0))) h:=by
 have c1:=fun l=>tkP t (h++l) hz (hp.app l)
 obtain⟨e,he⟩: ∃e,e=tkE t:=⟨_,rfl⟩
 rw[←he]at c1 ⊢;unfold tkC at c1;refine acO qyS ?_;simp (disch:=omega) only[qxj,tkC,go_sem]
 repeat' first
  |(refine cA (c1 _) flk ?_;simp (disch:=omega) only[go_sem])
  |(apply qb;exact rvk;simp only[go_sem];exact qi)
theorem qEZ(l:List Tk)(h:List AObj)(hl:l.length≤1000000000)(hz: ∀j,qsa (l.getD j default))(hp:kQ SG h):
  ACalls Tryz.prog 161 [zT l,.fn (.func 162) [] []] h (.bool (ju (fun j=> !decide (tkE (l.getD j default)=0)) l.length)) h:=by
 unfold zT;refine qyg qsm ⟨rfl,rfl⟩ ⟨rfl,rfl⟩ (qgv qsr l.length (fun j=>tkC (l.getD j default)) (fun j=> .agg (tkC (l.getD j default))) _ [] [] _ h (fun i _=>⟨rfl,by simp[kB,tkC],rfl,rfl,rfl⟩) (fun i _=> ?_) om);exact qFJ _ h (hz i) hp
theorem qFK(x:Co)(h:List AObj)(hz:qdE x)(hp:kQ SG h):ACalls Tryz.prog 120 [.str x.sec,strs x.sig,qm x.tok] h (.int .i64 (srE x)) h:=by
 obtain⟨R,hR⟩: ∃R,R=srE x:=⟨_,rfl⟩
 rw[←hR];unfold srE at hR;have z1:=hz.sg;have z2:=hz.tk;have cN:=fun h=>t44 x.sec h hz.sc
 cases g0:qac x.sec with
 |false=>
  rw[g0]at cN;rw[ipo g0]at hR;rw[hR];refine acO qhs ?_;simp (disch:=omega) only[qkX,strs,qm,go_sem]
  repeat' first
   |(refine cA (cN _) flk ?_;simp (disch:=omega) only[go_sem])
   |(apply qd;exact rvk;simp only[go_sem];exact qi)
 |true=>
 rw[g0]at cN;rw[ine (by rw[g0];simp)]at hR
 by_cases g1:x.sig.length=0
 ·have k1:((x.sig.length:Int)=0)=True:=eqt om;rw[ipo g1]at hR;rw[hR];refine acO qhs ?_;simp (disch:=omega) only[qkX,strs,qm,go_sem]
  repeat' first
   |(refine cA (cN _) flk ?_;simp (disch:=omega) only[k1,go_sem])
   |(apply qd;exact rvk;simp only[go_sem];exact qi)
 have k1:((x.sig.length:Int)=0)=False:=eqf om;rw[ine g1]at hR
 by_cases g2:32<x.sig.length
 ·have k2:((32:Int)<x.sig.length)=True:=eqt om;rw[ipo g2]at hR;rw[hR];refine acO qhs ?_;simp (disch:=omega) only[qkX,strs,qm,go_sem]
  repeat' first
   |(refine cA (cN _) flk ?_;simp (disch:=omega) only[k1,k2,go_sem])
   |(apply qd;exact rvk;simp only[go_sem];exact qi)
 have k2:((32:Int)<x.sig.length)=False:=eqf om;rw[ine g2]at hR;refine acO qhs ?_;simp (disch:=omega) only[qkX,strs,qm,go_sem]
 repeat' first
  |(refine cA (cN _) flk ?_;simp (disch:=omega) only[k1,k2,go_sem])
 refine qu (T:=fun i:Nat=>ze 56 [(1,strs x.sig),(2,qm x.tok),(23,strs x.sig),(24,.int .i64 x.sig.length),(25,.int .i64 i)]) (H:=fun _=>h) (inv:=fun i=>i≤x.sig.length∧ ∀j,j<i→j8 x.sig j=0) (m:=fun i=>x.sig.length-i) 0 ⟨nzl _,fun j hj=>by omega⟩ (Wk.temps ?_) ?_
 ·(simp only[strs,qm,go_sem,qg,qc,qa,qf];try (repeat' first|(with_reducible apply aiA)|(apply qh;omega)|(apply qe;rfl)|exact qi))
 rintro i ⟨i1,i2⟩ K hK
 by_cases hi:i<x.sig.length
 ·have k3:((i:Int)<x.sig.length)=True:=eqt om;have k4:((i:Int)≤x.sig.length)=True:=eqt om;have hE:=qaU (f:=j8 x.sig) hi i2;have hs:j8 x.sig i=if qrw (x.sig.getD i [])=false then 14 else if ju (fun j=>decide (x.sig.getD i []=x.sig.getD j [])) i=true then 7 else 0:=rfl
  have c87:=fun h=>qDF (x.sig.getD i []) h (hz.ss i)
  have c88:=fun h=>qCD i (fun j=>x.sig.getD j []) (x.sig.getD i []) h om
  obtain⟨s,hsx⟩: ∃s,s=x.sig.getD i []:=⟨_,rfl⟩
  have es:=hsx.symm;rw[es]at hs c87;simp only[es]at hs c88;cases g3:qrw s with
  |false=>
   rw[g3]at c87;rw[ipo g3]at hs;have hne:qbs (j8 x.sig) 0 x.sig.length≠0:=by rw[hE (by rw[hs];decide),hs];decide
   have hV:R=14:=by rw[hR,ipo hne,hE (by rw[hs];decide),hs]
   rw[hV];simp (disch:=omega) only[strs,qm,k3,es,go_sem]
   repeat' first
    |(refine cA (c87 _) flk ?_;simp (disch:=omega) only[k4,go_sem])
    |(apply qd;exact rvk;simp only[go_sem];exact qi)
    |with_reducible apply aiA
   all_goals try exact clz
  |true=>
  rw[g3]at c87;rw[ine (by rw[g3];simp)]at hs;cases g4:ju (fun j=>decide (s=x.sig.getD j [])) i with
  |true=>
   rw[g4]at c88;rw[ipo g4]at hs;have hne:qbs (j8 x.sig) 0 x.sig.length≠0:=by rw[hE (by rw[hs];decide),hs];decide
   have hV:R=7:=by rw[hR,ipo hne,hE (by rw[hs];decide),hs]
   rw[hV];simp (disch:=omega) only[strs,qm,k3,es,go_sem]
   repeat' first
    |((first|refine cA (c87 _) ?_ ?_|refine cA (c88 _) ?_ ?_);exact flk;simp (disch:=omega) only[k4,Nat.sub_zero,go_sem])
    |(apply qd;exact rvk;simp only[go_sem];exact qi)
    |with_reducible apply aiA
   all_goals try exact clz
  |false=>
   rw[g4]at c88;rw[ine (by rw[g4];simp)]at hs;simp (disch:=omega) only[strs,qm,k3,es,go_sem]
   repeat' first
    |((first|refine cA (c87 _) ?_ ?_|refine cA (c88 _) ?_ ?_);exact flk;simp (disch:=omega) only[k4,Nat.sub_zero,go_sem])
    |with_reducible apply aiA
   all_goals try exact clz
   refine hK _ _ (i+1) ⟨hi,fun j hj=> ?_⟩ om (Wk.temps ?_)
   ·by_cases e:j=i
    ·subst e;exact hs
    ·exact i2 j om
   ·(simp only[strs,qm,go_sem,qg,qc,qa,qf];try (repeat' first|(with_reducible apply aiA)|(apply qh;omega)|(apply qe;rfl)|exact qi))
 have k3:((i:Int)<x.sig.length)=False:=eqf om;have hn0:=jY (f:=j8 x.sig) (fun j (hj:j<x.sig.length)=>i2 j om);rw[ine (fun hc=>hc hn0)]at hR
 by_cases g5:x.tok.length=x.sig.length
 case neg=>
  have k5:((x.tok.length:Int)=x.sig.length)=False:=eqf om;rw[ipo g5]at hR;rw[hR];simp (disch:=omega) only[strs,qm,k3,k5,go_sem]
  repeat' first
   |(apply qd;exact rvk;simp only[go_sem];exact qi)
 have k5:((x.tok.length:Int)=x.sig.length)=True:=eqt om;rw[ine (fun hc=>hc g5)]at hR;clear hK;simp (disch:=omega) only[strs,qm,k3,k5,go_sem];obtain⟨rw0,hrw⟩: ∃f:Nat→Int,f=fun i=>qeO (x.tok.getD i []):=⟨_,rfl⟩
 have er: ∀i,rw0 i=qeO (x.tok.getD i []):=fun i=>by rw[hrw]
 rw[←hrw]at hR;refine qu (T:=fun i:Nat=>ze 56 [(44,qm x.tok),(45,.int .i64 x.tok.length),(46,.int .i64 i)]) (H:=fun _=>h) (inv:=fun i=>i≤x.tok.length∧ ∀j,j<i→rw0 j=0) (m:=fun i=>x.tok.length-i) 0 ⟨nzl _,fun j hj=>by omega⟩ (Wk.temps ?_) ?_
 ·(simp only[qm,go_sem,qg,qc,qa,qf];try (repeat' first|(with_reducible apply aiA)|(apply qh;omega)|(apply qe;rfl)|exact qi))
 rintro i ⟨i1,i2⟩ K hK
 by_cases hi:i<x.tok.length
 ·have k6:((i:Int)<x.tok.length)=True:=eqt om;have hE:=qaU (f:=rw0) hi i2;have hs:=er i;have zl:=hz.tl i;have zt:=hz.te i;obtain⟨l,hl⟩: ∃l,l=x.tok.getD i []:=⟨_,rfl⟩
  have el:=hl.symm;rw[el]at hs zl;simp only[el]at zt;unfold qeO at hs
  by_cases g6:1024<l.length
  ·have k7:((1024:Int)<l.length)=True:=eqt om;rw[ipo g6]at hs;have hV:R=4:=by rw[hR,hE (by rw[hs];decide),hs]
   rw[hV];simp (disch:=omega) only[qm,zT,k6,k7,el,go_sem]
   repeat' first
    |(apply qd;exact rvk;simp only[go_sem];exact qi)
    |with_reducible apply aiA
   all_goals try exact clz
  have k7:((1024:Int)<l.length)=False:=eqf om;rw[ine g6]at hs;have cT:=qEZ l h zl zt hp;have eA:ju (fun j=>decide (tkE (l.getD j default)≠0)) l.length=ju (fun j=> !decide (tkE (l.getD j default)=0)) l.length:=qim fun j _=>by simp
  rw[eA]at hs;unfold zT at cT;obtain⟨b,hb⟩: ∃b,b=ju (fun j=> !decide (tkE (l.getD j default)=0)) l.length:=⟨_,rfl⟩
  rw[←hb]at hs cT;cases b with
  |true=>
   rw[ipo rfl]at hs;have hV:R=1:=by rw[hR,hE (by rw[hs];decide),hs]
   rw[hV];simp (disch:=omega) only[qm,zT,k6,k7,el,go_sem]
   repeat' first
    |(refine cA (cT) flk ?_;simp (disch:=omega) only[go_sem])
    |(apply qd;exact rvk;simp only[go_sem];exact qi)
    |with_reducible apply aiA
   all_goals try exact clz
  |false=>
   rw[ine (by simp)]at hs;simp (disch:=omega) only[qm,zT,k6,k7,el,go_sem]
   repeat' first
    |(refine cA (cT) flk ?_;simp (disch:=omega) only[go_sem])
    |with_reducible apply aiA
   all_goals try exact clz
   refine hK _ _ (i+1) ⟨hi,fun j hj=> ?_⟩ om (Wk.temps ?_)
   ·by_cases e:j=i
    ·subst e;exact hs
    ·exact i2 j om
   ·(simp only[qm,zT,go_sem,qg,qc,qa,qf];try (repeat' first|(with_reducible apply aiA)|(apply qh;omega)|(apply qe;rfl)|exact qi))
 ·have k6:((i:Int)<x.tok.length)=False:=eqf om;rw[jY (fun j (hj:j<x.tok.length)=>i2 j om)]at hR;rw[hR];simp (disch:=omega) only[qm,k6,go_sem]
  repeat' first
   |(apply qd;exact rvk;simp only[go_sem];exact qi)
theorem qFv(l:List Tk)(h:List AObj):ACalls Tryz.prog 213 [zT l] h (.bool (decide (1024<l.length))) h:=by
 have k:decide ((1024:Int)<l.length)=decide (1024<l.length):=decide_eq_decide.2 om;refine acO qze ?_;simp (disch:=omega) only[qxC,zT,go_sem]
 repeat' first
  |(apply qd;exact rvk;simp only[go_sem];apply qe)
 all_goals try exact clz
theorem qFw(L:List (List Tk))(h:List AObj)(h1:0<L.length)(h2:L.length≤32)(h3: ∀s,s<L.length→(L.getD s []).length≤1024):ACalls Tryz.prog 164 [qm L] h (.int .i64 0) h:=by
 have k1:((L.length:Int)=0)=False:=eqf om;have k2:((32:Int)<L.length)=False:=eqf om;have c: ∀h,ACalls Tryz.prog 212 [qm L,.fn (.func 213) [] []] h (.bool false) h:=fun h=>by
  have e:ju (fun j=>decide (1024<(L.getD j []).length)) L.length=false:=qt.2 fun s hs=>dqf (by have:=h3 s hs;omega)
  rw[←e];unfold qm;refine qyg qzd ⟨rfl,rfl⟩ ⟨rfl,rfl⟩ (qgv qzo L.length (fun j=> [zT (L.getD j [])]) (fun j=>zT (L.getD j [])) _ [] [] _ h (fun i _=>⟨rfl,by simp[kB],rfl,rfl,rfl⟩) (fun i _=> ?_) om);exact qFv _ h
 unfold qm at c;refine acO qyT ?_;simp (disch:=omega) only[qxk,qm,k1,k2,go_sem]
 repeat' first
  |(refine cG (fun e=>c _) flk ?_;simp (disch:=omega) only[go_sem])
  |(apply qd;exact rvk;simp only[go_sem];exact qi)
def gC(g:Nat→AV)(n:Nat):List AV:=(List.range n).map g
theorem qaa(g:Nat→AV)(n:Nat):(gC g n).length=n:=by simp[gC]
theorem qbt{g:Nat→AV}{n k:Nat}(hk:k<n):(gC g n)[k]? =some (g k):=by
 unfold gC;rw[List.getElem?_map,List.getElem?_range hk];rfl
theorem qcJ{p q:Nat→AV}{n:Nat}(h: ∀k,k<n→p k=q k):gC p n=gC q n:=by
 unfold gC;exact List.map_congr_left fun k hk=>by rw[h k (List.mem_range.1 hk)]
theorem qz0{g:Nat→AV}{n u:Nat}(x:AV)(hu:u<n):List.take u (gC g n)++ [x]++List.drop (u+1) (gC g n)=gC (fun k=>if k=u then x else g k) n:=by
 refine List.ext_getElem? fun k=> ?_
 by_cases hk:k<n
 ·rw[qbt hk]
  by_cases h1:k<u
  ·rw[List.append_assoc,List.getElem?_append_left (by rw[List.length_take,qaa];omega),List.getElem?_take_of_lt h1,qbt hk,ine om]
  ·by_cases h2:k=u
   ·subst h2;rw[List.append_assoc,List.getElem?_append_right (by rw[List.length_take,qaa];omega),List.length_take,qaa,show k-min k n=0 by omega,ipo rfl];rfl
   ·rw[List.getElem?_append_right (by rw[lap,List.length_take,qaa];simp only[lco,lnl];omega),lap,List.length_take,qaa,List.getElem?_drop];simp only[lco,lnl];rw[show u+1+(k-(min u n+(0+1)))=k by omega,qbt hk,ine h2]
 ·rw[List.getElem?_eq_none (by simp only[lap,List.length_take,List.length_drop,qaa,lco,lnl];omega),List.getElem?_eq_none (by rw[qaa];omega)]
theorem qma(z:AV)(n:Nat):qY [z] n=gC (fun _=>z) n:=by
 induction n with
 |zero=>rfl
 |succ n ih=>
  have e:gC (fun _=>z) (n+1)=z::gC (fun _=>z) n:=by
   unfold gC;rw[List.range_succ_eq_map,List.map_cons,List.map_map];rfl
  rw[e,←ih];rfl
section
variable {tok : List (List Tk)} {col : List (List Int)} {i s : Nat}
theorem qlw(h:(col.getD i []).length≠tok.length):qfn tok col i=false:=by unfold qfn;rw[dqf h,Bool.false_and]
theorem qsk(hs:s<tok.length)(h:enB tok col i s=false):qfn tok col i=false:=by
 unfold qfn;rw[qR.2 ⟨s,hs,by rw[h];rfl⟩];simp
theorem qsl(h1:(col.getD i []).length=tok.length)(h2: ∀s,s<tok.length→enB tok col i s=true):qfn tok col i=ju (fun s=> !decide ((col.getD i []).getD s 0= -1)) tok.length:=by
 unfold qfn;rw[dqt h1,qt.2 (fun s hs=>by rw[h2 s hs];rfl)];simp
theorem qwN(hi:i<col.length)(h:qfn tok col i=false):alB tok col=false:=by
 unfold alB;rw[qR.2 ⟨i,hi,by rw[h];rfl⟩];simp
theorem qsb(hs:s<tok.length)(h:cnC col s col.length≠(tok.getD s []).length):alB tok col=false:=by
 unfold alB;rw[qR.2 ⟨s,hs,by rw[dqf h];rfl⟩,Bool.not_true,Bool.and_false]
theorem qsc(h1: ∀i,i<col.length→qfn tok col i=true)(h2: ∀s,s<tok.length→cnC col s col.length=(tok.getD s []).length):alB tok col=true:=by
 unfold alB;rw[qt.2 (fun i hi=>by rw[h1 i hi];rfl),qt.2 (fun s hs=>by rw[dqt (h2 s hs)];rfl)];rfl
theorem qsj: ∀i,cnC col s i≤i:=by
 intro i
 induction i with
 |zero=>exact nlr _
 |succ i ih=>unfold cnC;split<;>omega
def atA(col:List (List Int))(i s k:Nat):AV:= .int .i64 ((if k<s then cnC col k (i+1) else cnC col k i:Nat):Int)
theorem qse:atA col i s s= .int .i64 (cnC col s i:Int):=by unfold atA;rw[ine (Nat.lt_irrefl _)]
theorem qwT(n:Nat):gC (atA col 0 0) n=gC (fun _=> .int .i64 0) n:=qcJ fun k _=>by unfold atA;rw[ine (nnz _)];rfl
theorem qj7(n:Nat):gC (atA col i n) n=gC (atA col (i+1) 0) n:=qcJ fun k hk=>by unfold atA;rw[ipo hk,ine (nnz _)]
theorem qhg{n:Nat}(h:(col.getD i []).getD s 0= -1):gC (atA col i s) n=gC (atA col i (s+1)) n:=qcJ fun k hk=>by
 unfold atA
 by_cases e:k=s
 ·subst e;rw[ine (Nat.lt_irrefl _),ipo (Nat.lt_succ_self _)];show _=AV.int .i64 ((cnC col k i+if (col.getD i []).getD k 0= -1 then 0 else 1:Nat):Int);rw[ipo h];rfl
 ·by_cases h1:k<s
  ·rw[ipo h1,ipo om]
  ·rw[ine h1,ine om]
theorem qhh{n:Nat}(hs:s<n)(h:(col.getD i []).getD s 0≠ -1):List.take s (gC (atA col i s) n)++ [.int .i64 ((cnC col s i:Int)+1)]++List.drop (s+1) (gC (atA col i s) n)=gC (atA col i (s+1)) n:=by
 rw[qz0 _ hs];refine qcJ fun k hk=> ?_
 unfold atA
 by_cases e:k=s
 ·subst e;rw[ipo rfl,ipo (Nat.lt_succ_self _)];show _=AV.int .i64 ((cnC col k i+if (col.getD i []).getD k 0= -1 then 0 else 1:Nat):Int);rw[ine h];rfl
 ·rw[ine e]
  by_cases h1:k<s
  ·rw[ipo h1,ipo om]
  ·rw[ine h1,ine om]
theorem qe8(p:Nat→Bool)(n:Nat):ju p (n+1)=(ju p n||p n):=by
 cases e:ju p n with
 |true=>obtain⟨i,h1,h2⟩:=qR.1 e;exact qR.2 ⟨i,om,h2⟩
 |false=>
  have h:=qt.1 e;cases e2:p n with
  |true=>exact qR.2 ⟨n,om,e2⟩
  |false=>
   refine qt.2 fun i hi=> ?_
   by_cases g:i=n
   ·subst g;exact e2
   ·exact h i om
end
theorem qES(tok:List (List Tk))(col:List (List Int))(h:List AObj)(hn:tok.length≤1000000000)(hc:col.length≤1000000000)(hl: ∀s,(tok.getD s []).length≤1000000000)(hm: ∀i,(col.getD i []).length≤1000000000):
  ACalls Tryz.prog 165 [qm tok,qw col] h (.bool (alB tok col)) h:=by
 have k0:(0≤(tok.length:Int))=True:=eqt om;have k1:((tok.length:Int)≤9223372036854775807)=True:=eqt om;obtain⟨R,hR⟩: ∃R,R=alB tok col:=⟨_,rfl⟩
 rw[←hR];refine acO qyU ?_;simp (disch:=omega) only[qxl,qm,qw,k0,go_sem]
 repeat' first
  |with_reducible apply aiA
 all_goals try exact clz
 all_goals try rw[itn]
 rw[qma,←qwT (col:=col)];refine qu (T:=fun i:Nat=>ze 76 [(0,qm tok),(5,.osl h.length 1 1 0 tok.length),(15,qw col),(16,.int .i64 col.length),(17,.int .i64 i)])
  (H:=fun i=>h++ [.mem 1 3 (gC (atA col i 0) tok.length)])
  (inv:=fun i=>i≤col.length∧ ∀j,j<i→qfn tok col j=true) (m:=fun i=>col.length-i) 0 ⟨nzl _,fun j hj=>absurd hj (nnz j)⟩ (Wk.temps ?_) ?_
 ·(simp only[qm,qw,go_sem,qg,qc,qa,qf];try (repeat' first|(with_reducible apply aiA)|(apply qh;omega)|(apply qe;rfl)|exact qi))
 rintro i ⟨i1,i2⟩ K hK
 by_cases hi:i<col.length
 ·have k2:((i:Int)<col.length)=True:=eqt om;have hno:qfn tok col i=false→R=false:=fun hx=>by rw[hR];exact qwN hi hx
  have hlen:= @qlw tok col i;have hen:= @qsk tok col i;have heq:= @qsl tok col i;have hskip:= @qhg col i;have hstep:= @qhh col i;have hmi:=hm i;have hE: ∀s,enB tok col i s=(decide ((col.getD i []).getD s 0= -1)||(decide ((col.getD i []).getD s 0=(cnC col s i:Int))&&decide ((col.getD i []).getD s 0<((tok.getD s []).length:Int)))):=fun _=>rfl
  obtain⟨c,hcx⟩: ∃c,c=col.getD i []:=⟨_,rfl⟩
  have ec:=hcx.symm;rw[ec]at hlen heq hmi;simp only[ec]at hskip hstep hE
  by_cases g1:c.length=tok.length
  case neg=>
   have k3:((c.length:Int)=tok.length)=False:=eqf om;rw[hno (hlen g1)];simp (disch:=omega) only[qm,qw,qI,k2,k3,ec,go_sem]
   repeat' first
    |(apply qb;exact rvk;simp only[go_sem];exact qi)
    |with_reducible apply aiA
   all_goals try exact clz
  have k3:((c.length:Int)=tok.length)=True:=eqt om;have heq:=heq g1;simp (disch:=omega) only[qm,qw,qI,k2,k3,ec,go_sem]
  repeat' first
   |with_reducible apply aiA
  all_goals try exact clz
  refine qu (T:=fun s:Nat=>ze 76 [(0,qm tok),(5,.osl h.length 1 1 0 tok.length),(8,.bool (ju (fun s=> !decide (c.getD s 0= -1)) s)),(15,qw col),(16,.int .i64 col.length),(17,.int .i64 i),(26,qI c),(27,.int .i64 c.length),(28,.int .i64 s)])
   (H:=fun s=>h++ [.mem 1 3 (gC (atA col i s) tok.length)])
   (inv:=fun s=>s≤c.length∧ ∀j,j<s→enB tok col i j=true) (m:=fun s=>c.length-s) 0 ⟨nzl _,fun j hj=>absurd hj (nnz j)⟩ (Wk.temps ?_) ?_
  ·(simp only[qm,qw,qI,go_sem,qg,qc,qa,qf];try (repeat' first|(with_reducible apply aiA)|(apply qh;omega)|(apply qe;rfl)|exact qi))
  rintro s ⟨s1,s2⟩ K2 hK2
  by_cases hs:s<c.length
  ·have t1:((s:Int)<c.length)=True:=eqt om;have t0:(0≤(s:Int))=True:=eqt om;have hsn:s<tok.length:=by omega
   have t2:((s:Int)<tok.length)=True:=eqt om;have t3:(s<tok.length)=True:=eqt hsn;have t4:(s+1≤tok.length)=True:=eqt hsn;have gl:=qaa (atA col i s) tok.length;have gg:=qbt (g:=atA col i s) hsn;rw[qse]at gg;have hsk:=hskip (s:=s) (n:=tok.length);have hst:=hstep (s:=s) hsn;have hcn:= @qsj col s i;have hlt:=hl s;have hEs:=hE s;have hap:=qe8 (fun s=> !decide (c.getD s 0= -1)) s;obtain⟨t,ht⟩: ∃t,t=c.getD s 0:=⟨_,rfl⟩
   obtain⟨l,hlx⟩: ∃l,l=tok.getD s []:=⟨_,rfl⟩
   have et:=ht.symm;have el:=hlx.symm;rw[et]at hsk hst hEs;rw[el]at hEs hlt;simp only[et]at hap;obtain⟨a,ha⟩: ∃a,a=ju (fun s=> !decide (c.getD s 0= -1)) s:=⟨_,rfl⟩
   have ea:=ha.symm;rw[ea]at hap;obtain⟨q,hq⟩: ∃q:Nat,q=cnC col s i:=⟨_,rfl⟩
   have eq:=hq.symm;rw[eq]at hst hEs hcn gg;have b2:((q:Int)+1≤9223372036854775807)=True:=eqt om;have b3:(-9223372036854775808≤(q:Int)+1)=True:=eqt om
   by_cases g2:t= -1
   ·have k4:(t= -1)=True:=eqt g2;rw[dqt g2,Bool.true_or]at hEs;have hap':ju (fun s=> !decide (c.getD s 0= -1)) (s+1)=a:=by rw[hap,dqt g2];simp
    simp (disch:=omega) only[qm,qw,qI,t0,t1,t2,t3,k4,et,ea,gl,gg,Nat.mul_one,Nat.zero_add,go_sem]
    repeat' first
     |with_reducible apply aiA
    all_goals try exact clz
    rw[hsk g2];refine hK2 _ _ (s+1) ⟨hs,fun j hj=> ?_⟩ om (Wk.temps ?_)
    ·by_cases e:j=s
     ·subst e;exact hEs
     ·exact s2 j om
    ·rw[hap']
     (simp only[qm,qw,qI,go_sem,qg,qc,qa,qf];try (repeat' first|(with_reducible apply aiA)|(apply qh;omega)|(apply qe;rfl)|exact qi))
   have k4:(t= -1)=False:=eqf g2;rw[dqf g2,Bool.false_or]at hEs;have hap':ju (fun s=> !decide (c.getD s 0= -1)) (s+1)=true:=by rw[hap,dqf g2];simp
   by_cases g3:t=(q:Int)
   case neg=>
    have k5:(t=(q:Int))=False:=eqf g3;rw[dqf g3,Bool.false_and]at hEs;rw[hno (hen hsn hEs)];simp (disch:=omega) only[qm,qw,qI,t0,t1,t2,t3,t4,k4,k5,et,ea,gl,gg,Nat.mul_one,Nat.zero_add,go_sem]
    repeat' first
     |(apply qb;exact rvk;simp only[go_sem];exact qi)
     |with_reducible apply aiA
    all_goals try exact clz
   have k5:(t=(q:Int))=True:=eqt g3;rw[dqt g3,Bool.true_and]at hEs
   by_cases g4:(l.length:Int)≤t
   ·have k6:((l.length:Int)≤t)=True:=eqt g4;rw[dqf om]at hEs;rw[hno (hen hsn hEs)];simp (disch:=omega) only[qm,zT,qw,qI,t0,t1,t2,t3,t4,k4,k5,k6,et,ea,el,gl,gg,Nat.mul_one,Nat.zero_add,go_sem]
    repeat' first
     |(apply qb;exact rvk;simp only[go_sem];exact qi)
     |with_reducible apply aiA
    all_goals try exact clz
   ·have k6:((l.length:Int)≤t)=False:=eqf g4;rw[dqt om]at hEs;have hst:=hst g2;simp (disch:=omega) only[qm,zT,qw,qI,t0,t1,t2,t3,t4,k4,k5,k6,et,ea,el,gl,gg,hst,Nat.mul_one,Nat.zero_add,Option.isSome_some,go_sem]
    repeat' first
     |with_reducible apply aiA
    all_goals try exact clz
    try rw[hst]
    refine hK2 _ _ (s+1) ⟨hs,fun j hj=> ?_⟩ om (Wk.temps ?_)
    ·by_cases e:j=s
     ·subst e;exact hEs
     ·exact s2 j om
    ·rw[hap']
     (simp only[qm,zT,qw,qI,go_sem,qg,qc,qa,qf];try (repeat' first|(with_reducible apply aiA)|(apply qh;omega)|(apply qe;rfl)|exact qi))
  ·have t1:((s:Int)<c.length)=False:=eqf om;have es:s=tok.length:=by omega
   have heq:=heq fun j hj=>s2 j om
   rw[←es]at heq;rw[es]at*;cases ga:ju (fun s=> !decide (c.getD s 0= -1)) tok.length with
   |false=>
    rw[ga]at heq;rw[hno heq];simp (disch:=omega) only[qm,qw,qI,go_sem]
    repeat' first
     |(apply qb;exact rvk;simp only[go_sem];exact qi)
     |with_reducible first|intro _|apply aiA
    all_goals try exact clz
   |true=>
    rw[ga]at heq;simp (disch:=omega) only[qm,qw,qI,go_sem]
    repeat' first
     |with_reducible first|intro _|apply aiA
    all_goals try exact clz
    rw[qj7];refine hK _ _ (i+1) ⟨hi,fun j hj=> ?_⟩ om (Wk.temps ?_)
    ·by_cases e:j=i
     ·subst e;exact heq
     ·exact i2 j om
    ·(simp only[qm,qw,qI,go_sem,qg,qc,qa,qf];try (repeat' first|(with_reducible apply aiA)|(apply qh;omega)|(apply qe;rfl)|exact qi))
 have k2:((i:Int)<col.length)=False:=eqf om;obtain rfl:i=col.length:=by omega
 clear hK;simp (disch:=omega) only[qm,qw,k2,go_sem];refine qu (T:=fun s:Nat=>ze 76 [(0,qm tok),(5,.osl h.length 1 1 0 tok.length),(61,.int .i64 tok.length),(62,.int .i64 s)])
  (H:=fun _=>h++ [.mem 1 3 (gC (atA col col.length 0) tok.length)])
  (inv:=fun s=>s≤tok.length∧ ∀j,j<s→cnC col j col.length=(tok.getD j []).length) (m:=fun s=>tok.length-s) 0 ⟨nzl _,fun j hj=>absurd hj (nnz j)⟩ (Wk.temps ?_) ?_
 ·(simp only[qm,go_sem,qg,qc,qa,qf];try (repeat' first|(with_reducible apply aiA)|(apply qh;omega)|(apply qe;rfl)|exact qi))
 rintro s ⟨s1,s2⟩ K hK
 by_cases hs:s<tok.length
 ·have t1:((s:Int)<tok.length)=True:=eqt om;have t0:(0≤(s:Int))=True:=eqt om;have t3:(s<tok.length)=True:=eqt hs;have t4:(s+1≤tok.length)=True:=eqt hs;have gl:=qaa (atA col col.length 0) tok.length;have gg:=qbt (g:=atA col col.length 0) hs;have e0:atA col col.length 0 s= .int .i64 (cnC col s col.length:Int):=by unfold atA;rw[ine (nnz _)]
  rw[e0]at gg;have hno:= @qsb tok col s hs;obtain⟨q,hq⟩: ∃q:Nat,q=cnC col s col.length:=⟨_,rfl⟩
  have eq:=hq.symm;have hs2:q=(tok.getD s []).length→cnC col s col.length=(tok.getD s []).length:=fun e=>by rw[←hq];exact e
  rw[eq]at gg hno;obtain⟨l,hlx⟩: ∃l,l=tok.getD s []:=⟨_,rfl⟩
  have el:=hlx.symm;rw[el]at hno hs2
  by_cases g:q=l.length
  ·have k5:((q:Int)=l.length)=True:=eqt om;simp (disch:=omega) only[qm,zT,t0,t1,t3,k5,el,gl,gg,Nat.mul_one,Nat.zero_add,go_sem]
   repeat' first
    |with_reducible apply aiA
   all_goals try exact clz
   refine hK _ _ (s+1) ⟨hs,fun j hj=> ?_⟩ om (Wk.temps ?_)
   ·by_cases e:j=s
    ·subst e;rw[el];exact hs2 g
    ·exact s2 j om
   ·(simp only[qm,zT,go_sem,qg,qc,qa,qf];try (repeat' first|(with_reducible apply aiA)|(apply qh;omega)|(apply qe;rfl)|exact qi))
  ·have k5:((q:Int)=l.length)=False:=eqf om;rw[hR,hno g];simp (disch:=omega) only[qm,zT,t0,t1,t3,k5,el,gl,gg,Nat.mul_one,Nat.zero_add,go_sem]
   repeat' first
    |(apply qb;exact rvk;simp only[go_sem];exact qi)
    |with_reducible apply aiA
   all_goals try exact clz
 ·have t1:((s:Int)<tok.length)=False:=eqf om;rw[hR,qsc i2 (fun j hj=>s2 j om)];simp (disch:=omega) only[qm,t1,go_sem]
  repeat' first
   |(apply qb;exact rvk;simp only[go_sem];exact qi)
theorem qFu(tok:List (List Tk))(col:List (List Int))(h:List AObj)(h1:0<tok.length)(h2:tok.length≤32)(h3: ∀s,s<tok.length→(tok.getD s []).length≤1024)(hc:col.length≤1000000000)(hl: ∀s,(tok.getD s []).length≤1000000000)(hm: ∀i,(col.getD i []).length≤1000000000):
  ACalls Tryz.prog 121 [qm tok,qw col] h (.int .i64 (if alB tok col=true then 0 else 19)) h:=by
 have c1:=fun h=>qFw tok h h1 h2 h3
 have c2:=fun h=>qES tok col h om hc hl hm
 cases g:alB tok col<;>rw[g]at c2
 all_goals
  refine acO qyA ?_;simp (disch:=omega) only[qw2,go_sem]
  repeat' first
   |((first|refine cA (c1 _) ?_ ?_|refine cA (c2 _) ?_ ?_);exact flk;simp (disch:=omega) only[go_sem])
   |(apply qd;exact rvk;simp only[go_sem];exact qi)
theorem qsY{x:Co}(h:srE x=0):0<x.sig.length∧x.sig.length≤32∧x.tok.length=x.sig.length∧ ∀s,s<x.tok.length→(x.tok.getD s []).length≤1024:=by
 unfold srE at h;split at h
 ·cases h
 split at h
 ·cases h
 rename_i g2;split at h
 ·cases h
 rename_i g3;split at h
 ·rename_i g4;exact absurd h g4
 split at h
 ·cases h
 rename_i g5;have h3:=jD.1 h;refine⟨om,om,Classical.not_not.1 g5,fun s hs=> ?_⟩
 have:=h3 s hs
 unfold qeO at this;split at this
 ·cases this
 ·omega
theorem coP(x:Co)(h:List AObj)(hz:qdE x)(hp:kQ SG h):ACalls Tryz.prog 67 [.agg (coC x)] h (.int .i64 (coE x)) h:=by
 have c1:=fun l=>qFK x (h++l) hz (hp.app l)
 unfold coE
 by_cases g:srE x=0
 case neg=>
  have k1:(srE x=0)=False:=eqf g;rw[ipo g];obtain⟨e,he⟩: ∃e,e=srE x:=⟨_,rfl⟩
  rw[←he]at c1 k1 ⊢;unfold strs qm at c1;refine acO qzO ?_;simp (disch:=omega) only[qCj,coC,strs,qm,go_sem]
  repeat' first
   |(refine cA (c1 _) flk ?_;simp (disch:=omega) only[k1,go_sem])
   |(apply qb;exact rvk;simp only[go_sem];exact qi)
 rw[ine (fun hc=>hc g)];obtain⟨o1,o2,o3,o4⟩:=qsY g;have c2:=fun h=>qFu x.tok x.col h om om o4 hz.cl hz.tl hz.ce
 rw[g]at c1;unfold strs qm at c1;unfold qm qw at c2;cases g2:alB x.tok x.col<;>rw[g2]at c2
 all_goals
  refine acO qzO ?_;simp (disch:=omega) only[qCj,coC,strs,qm,qw,go_sem]
  repeat' first
   |((first|refine cA (c1 _) ?_ ?_|refine cA (c2 _) ?_ ?_);exact flk;simp (disch:=omega) only[go_sem])
   |(apply qb;exact rvk;simp only[go_sem];first|exact qi|apply qh)
   |with_reducible first|intro _|apply aiA
  all_goals try exact clz
structure Va where
 words:List Str
 sigla:List Str
 deriving Inhabited
structure En where
 layer:Int
 frm:Int
 to:Int
 pos:Bool
 sup:List Str
 vars:List Va
 deriving Inhabited
def vaC(v:Va):List AV:= [strs v.words,strs v.sigla]
def qs0(vs:List Va):AV:= .sl vs.length fun i=>vaC (vs.getD i default)
def enC(e:En):List AV:= [.int .i64 e.layer,.int .i64 e.frm,.int .i64 e.to,.bool e.pos,strs e.sup,qs0 e.vars]
def qoZ(l:List En):AV:= .sl l.length fun i=>enC (l.getD i default)
theorem qlY(L:List Va):(qs0 L).flag=true:=rfl
theorem qjC(L:List Va):(qs0 L).strip=qs0 L:=rfl
theorem qqm{fz:Nat→Bool}{h:List AObj}{n:Nat}(L:List Va):frz fz h (n+1) (qs0 L)=qs0 L:=rfl
theorem qrl{fz:Nat→Bool}{h:List AObj}{n:Nat}(L:List Va):rei fz h (n+1) (qs0 L)=qs0 L:=rfl
theorem qlT(L:List En):(qoZ L).flag=true:=rfl
theorem qjx(L:List En):(qoZ L).strip=qoZ L:=rfl
theorem qqi{fz:Nat→Bool}{h:List AObj}{n:Nat}(L:List En):frz fz h (n+1) (qoZ L)=qoZ L:=rfl
theorem qrh{fz:Nat→Bool}{h:List AObj}{n:Nat}(L:List En):rei fz h (n+1) (qoZ L)=qoZ L:=rfl
attribute [go_sem] qlY qjC qqm qrl qlT qjx qqi qrh
theorem qCL(ws:List Str)(m:Nat)(k:Nat→Str)(h:List AObj)(h1:ws.length≤1000000000)(h2:m≤1000000000):
  ACalls Tryz.prog 36 [strs ws,.sl m (fun j=> [.str (k j)])] h (.bool (decide (ws.length=m∧ ∀i,i<ws.length→ws.getD i []=k i))) h:=by
 unfold strs
 have:=qCJ qzM ws.length m (fun j=> .s (ws.getD j [])) (fun j=> .s (k j)) h (fun _ _ _=>rfl) om om
 simpa only[At.v,At.s.injEq] using this
theorem qa9{α:Type}[Inhabited α]{a b:List α}(d:α):a=b↔a.length=b.length∧ ∀i,i<a.length→a.getD i d=b.getD i d:=by
 constructor
 ·rintro rfl;exact⟨rfl,fun _ _=>rfl⟩
 ·rintro⟨h1,h2⟩;apply List.ext_getElem h1;intro i h3 h4
  have:=h2 i h3
  rw[gdqA,gdqA,zL h3,zL h4]at this;exact this
def qo3(t:List Str)(f g:Nat):List Str:=(t.drop f).take (g-f)
theorem qrR{t:List Str}{f g:Nat}(h1:f≤g)(h2:g≤t.length):(qo3 t f g).length=g-f:=by unfold qo3;simp;omega
def qr5(t:List Str)(e:En)(i:Nat):Int:=
 if qoW (e.vars.getD i default).words≠0 then 11 else if (e.vars.getD i default).words=qo3 t e.frm.toNat e.to.toNat then 9 else
  if ju (fun j=>decide ((e.vars.getD i default).words=(e.vars.getD j default).words)) i=true then 7 else if (e.vars.getD i default).sigla.length=0 then 5 else 0
def cnt(names:List Str)(gs:List Gr)(e:En):Nat→List Int
 |0=>qsh (List.replicate 32 0) (qdr names gs e.sup)
 |i+1=>qsh (cnt names gs e i) (qdr names gs (e.vars.getD i default).sigla)
def qv6(C:List Int):Bool:=ju (fun i=>decide (1<C.getD i 0)) C.length
def qwF(t:List Str)(e:En):Prop:=e.layer<0∨16≤e.layer∨e.frm<0∨e.to<e.frm∨(t.length:Int)<e.to
instance (t:List Str) (e:En):Decidable (qwF t e):=by unfold qwF;infer_instance
def qCs(names:List Str)(gs:List Gr)(t:List Str)(e:En):Int:=
 if sgE names gs≠0 then 1 else if 4096<t.length then 4 else if qoW t≠0 then 11 else if qwF t e then 2 else
  if 0<e.sup.length∧e.pos=false then 1 else if e.vars.length=0 then 5 else
   if qbs (qr5 t e) 0 e.vars.length≠0 then qbs (qr5 t e) 0 e.vars.length else
    if qiG names gs e.sup≠0 then qiG names gs e.sup else
     if qbs (fun i=>qiG names gs (e.vars.getD i default).sigla) 0 e.vars.length≠0 then qbs (fun i=>qiG names gs (e.vars.getD i default).sigla) 0 e.vars.length else
      if qv6 (cnt names gs e e.vars.length)=true then 17 else 0
theorem fmI(l:List Int):List.flatMap (fun i=> [AV.int .i64 (l.getD i 0)]) (List.range l.length)=qU l:=by
 induction l with
 |nil=>rfl
 |cons a l ih=>
  rw[lco,List.range_succ_eq_map,List.flatMap_cons,List.flatMap_map];show AV.int .i64 a::List.flatMap (fun i=> [AV.int .i64 (l.getD i 0)]) (List.range l.length)=_;rw[ih];rfl
theorem qqD{p:Nat→Bool}{n:Nat}{x:Int}:x∈qmz p n↔ ∃k:Nat,k<n∧p k=true∧x=k:=by
 unfold qmz;constructor
 ·intro h;obtain⟨k,hk,rfl⟩:=List.mem_map.1 h;obtain⟨h1,h2⟩:=List.mem_filter.1 hk;exact⟨k,List.mem_range.1 h1,h2,rfl⟩
 ·rintro⟨k,h1,h2,rfl⟩;exact List.mem_map.2 ⟨k,List.mem_filter.2 ⟨List.mem_range.2 h1,h2⟩,rfl⟩
def qj2(names:List Str)(gs:List Gr)(e:En):Nat→List Int×Bool
 |0=>(qdr names gs e.sup,false)
 |i+1=>(qmz (fun k=>decide ((k:Int)∈(qj2 names gs e i).1)||decide ((k:Int)∈qdr names gs (e.vars.getD i default).sigla)) 64,(qj2 names gs e i).2||(qj2 names gs e i).1.any fun x=>decide (x∈qdr names gs (e.vars.getD i default).sigla))
theorem qo6(names:List Str)(gs:List Gr)(e:En)(i:Nat):qj2 names gs e (i+1)=(qmz (fun k=>decide ((k:Int)∈(qj2 names gs e i).1)||decide ((k:Int)∈qdr names gs (e.vars.getD i default).sigla)) 64,(qj2 names gs e i).2||(qj2 names gs e i).1.any fun x=>decide (x∈qdr names gs (e.vars.getD i default).sigla)):=rfl
theorem qpm(L:List Int): ∀(C:List Int) (j:Nat),L.Nodup→(∀x∈L,0≤x∧x<C.length)→j<C.length→(qsh C L).getD j 0=C.getD j 0+if (j:Int)∈L then 1 else 0:=by
 induction L with
 |nil=>intro C j _ _ _;simp[qsh]
 |cons n L ih=>
  intro C j hn hL hj;obtain⟨h1,h2⟩:=List.nodup_cons.1 hn;have hb:=hL n (by simp);show (qsh (C.set n.toNat (C.getD n.toNat 0+1)) L).getD j 0=_;rw[ih _ j h2 (fun x hx=>by rw[List.length_set];exact hL x (by simp[hx])) (by rw[List.length_set];exact hj)]
  by_cases e:(j:Int)=n
  ·have e2:n.toNat=j:=by omega
   have e3: ¬(j:Int)∈L:=by rw[e];exact h1
   rw[ine e3,ipo (by rw[e];simp),e2]
   have:(C.set j (C.getD j 0+1)).getD j 0=C.getD j 0+1:=by
    rw[gdqA,List.getElem?_set_self hj];rfl
   rw[this];omega
  ·have e2: ¬n.toNat=j:=by omega
   have:(C.set n.toNat (C.getD n.toNat 0+1)).getD j 0=C.getD j 0:=by
    rw[gdqA,List.getElem?_set_ne e2,←gdqA]
   rw[this];congr 1;simp[e]
theorem qiX(p:Nat→Bool)(n:Nat):(qmz p n).Nodup:=by
 unfold qmz;rw[List.Nodup,List.pairwise_map];refine List.Pairwise.imp ?_ (List.Pairwise.filter _ List.nodup_range);intro a b hab hc;exact hab (by have hx:(a:Int)=(b:Int):=hc;omega)
theorem qdP(names:List Str)(gs:List Gr)(sg:List Str):(qdr names gs sg).Nodup:=by
 unfold qdr;split
 ·exact qiX _ _
 ·exact List.nodup_nil
structure qBV (A:List Int) (B:Bool) (C:List Int):Prop where
 len:C.length=32
 rng: ∀x∈A,0≤x∧x<32
 mem: ∀k:Nat,k<32→((k:Int)∈A↔1≤C.getD k 0)
 nn: ∀k:Nat,k<32→0≤C.getD k 0
 tw:B=true↔ ∃k:Nat,k<32∧1<C.getD k 0
theorem qhC{A O A' C:List Int}{B:Bool}(h:qBV A B C)(ho:O.Nodup)(hr: ∀x∈O,0≤x∧x<32)(hA: ∀x,x∈A'↔x∈A∨x∈O):qBV A' (B||A.any fun x=>decide (x∈O)) (qsh C O):=by
 have hl:=h.len;have hg:=fun (k:Nat) (hk:k<32)=>qpm O C k ho (fun x hx=>by have:=hr x hx;omega) om
 refine⟨by rw[qpn,hl],fun x hx=> ?_,fun k hk=> ?_,fun k hk=> ?_,?_⟩
 ·rcases (hA x).1 hx with hx|hx
  ·exact h.rng x hx
  ·exact hr x hx
 ·rw[hA,h.mem k hk,hg k hk]
  have:=h.nn k hk
  by_cases e:(k:Int)∈O
  ·rw[ipo e];exact⟨fun _=>by omega,fun _=> .inr e⟩
  ·rw[ine e];constructor
   ·rintro (h1|h1)
    ·omega
    ·exact absurd h1 e
   ·intro h1;exact .inl om
 ·rw[hg k hk]
  have:=h.nn k hk
  split<;>omega
 ·rw[Bool.or_eq_true,h.tw,List.any_eq_true];constructor
  ·rintro (⟨k,hk,h1⟩|⟨x,hx,h1⟩)
   ·refine⟨k,hk,?_⟩;rw[hg k hk];split<;>omega
   ·have h1:=of_decide_eq_true h1;have hx2:=h.rng x hx;have e:((x.toNat:Nat):Int)=x:=by omega
    refine⟨x.toNat,om,?_⟩;rw[hg _ om,e,ipo h1]
    have:=(h.mem x.toNat om).1 (by rw[e];exact hx)
    omega
  ·rintro⟨k,hk,h1⟩;rw[hg k hk]at h1
   by_cases e:(k:Int)∈O
   ·rw[ipo e]at h1;exact .inr ⟨(k:Int),(h.mem k hk).2 om,dqt e⟩
   ·rw[ine e]at h1;exact .inl ⟨k,hk,om⟩
theorem quK:qBV [] false (List.replicate 32 0):=by
 have g: ∀k:Nat,k<32→(List.replicate 32 (0:Int)).getD k 0=0:=fun k hk=>by
  rw[gdqA,List.getElem?_replicate,ipo hk];rfl
 refine⟨by simp,fun x hx=>by simp at hx,fun k hk=> ?_,fun k hk=> ?_,?_⟩
 ·rw[g k hk];simp
 ·rw[g k hk];omega
 ·constructor
  ·intro h;cases h
  ·rintro⟨k,hk,h1⟩;rw[g k hk]at h1;omega
theorem qs9(names:List Str)(gs:List Gr)(e:En): ∀i,qBV (qj2 names gs e i).1 (qj2 names gs e i).2 (cnt names gs e i):=by
 have hO:=fun sg=>qcQ (@qpY names gs sg)
 intro i
 induction i with
 |zero=>
  have:=qhC (A':=qdr names gs e.sup) quK (qdP names gs e.sup) (hO e.sup) (fun x=>by simp)
  exact this
 |succ i ih=>
  rw[qo6];unfold cnt;refine qhC ih (qdP _ _ _) (hO _) (fun x=> ?_);rw[qqD];constructor
  ·rintro⟨k,hk,h1,rfl⟩;simpa using h1
  ·intro hx;have hb:0≤x∧x<32:=by
    rcases hx with hx|hx
    ·exact ih.rng x hx
    ·exact hO _ x hx
   have e:((x.toNat:Nat):Int)=x:=by omega
   refine⟨x.toNat,om,?_,e.symm⟩;simp only[e];simpa using hx
theorem qe7(names:List Str)(gs:List Gr)(e:En)(i:Nat):qv6 (cnt names gs e i)=(qj2 names gs e i).2:=by
 have h:=qs9 names gs e i;unfold qv6;rw[h.len,Bool.eq_iff_iff,h.tw,qR];simp only[decide_eq_true_eq]
def inV(names:List Str)(gs:List Gr)(e:En)(src:Int)(i:Nat):Bool:=decide (src∈qdr names gs (e.vars.getD i default).sigla)
def vIx(names:List Str)(gs:List Gr)(e:En)(src:Int):Int:=qcM (inV names gs e src) e.vars.length 0
def qhi(a b:En):Bool:=decide (a.frm<b.frm)||decide (a.frm=b.frm)&&decide (a.to<b.to)
end RC
end
section
namespace RC
variable {α : Type}
def qdv(lt:α→α→Bool)(x:α):List α→List α
 | []=> [x]
 |y::r=>if lt x y=true then y::qdv lt x r else x::y::r
def qfV(lt:α→α→Bool):List α→List α→List α
 |acc,[]=>acc
 |acc,x::r=>qfV lt (qdv lt x acc) r
def qwK(lt:α→α→Bool):Prop:= ∀a b c,lt a b=false→lt b c=false→lt a c=false
def Asy(lt:α→α→Bool):Prop:= ∀a b,lt a b=true→lt b a=false
def qww(lt:α→α→Bool)(l:List α):Prop:=l.Pairwise fun a b=>lt a b=false
theorem qqw{lt:α→α→Bool}{x:α}: ∀ {l:List α} {z:α},z∈qdv lt x l↔z=x∨z∈l:=by
 intro l
 induction l with
 |nil=>intro z;simp[qdv]
 |cons y r ih=>
  intro z;unfold qdv;split
  ·simp only[List.mem_cons,ih];constructor
   ·rintro (h|h|h)
    ·exact .inr (.inl h)
    ·exact .inl h
    ·exact .inr (.inr h)
   ·rintro (h|h|h)
    ·exact .inr (.inl h)
    ·exact .inl h
    ·exact .inr (.inr h)
  ·simp
theorem qda{lt:α→α→Bool}(hn:qwK lt)(ha:Asy lt){x:α}: ∀ {l:List α},qww lt l→qww lt (qdv lt x l):=by
 intro l
 induction l with
 |nil=>intro _;exact List.pairwise_singleton _ _
 |cons y r ih=>
  intro h;obtain⟨h1,h2⟩:=List.pairwise_cons.1 h;unfold qdv
  by_cases g:lt x y=true
  ·rw[ipo g];refine List.pairwise_cons.2 ⟨fun z hz=> ?_,ih h2⟩;rcases qqw.1 hz with rfl|hz
   ·exact ha _ _ g
   ·exact h1 z hz
  ·rw[ine g];have g:lt x y=false:=by simpa using g
   refine List.pairwise_cons.2 ⟨fun z hz=> ?_,h⟩;rcases List.mem_cons.1 hz with rfl|hz
   ·exact g
   ·exact hn _ _ _ g (h1 z hz)
theorem qml{lt:α→α→Bool}{x:α}{l:List α}(h: ∀z∈l,lt x z=false):qdv lt x l=x::l:=by
 cases l with
 |nil=>rfl
 |cons y r=>
  unfold qdv;rw[ine (by rw[h y (by simp)];simp)]
theorem qgu{lt:α→α→Bool}(hn:qwK lt)(p:α→Bool)(x:α): ∀ {l:List α},qww lt l→(qdv lt x l).filter p=if p x=true then qdv lt x (l.filter p) else l.filter p:=by
 intro l
 induction l with
 |nil=>intro _;unfold qdv;by_cases h:p x=true<;>simp[h,qdv]
 |cons y r ih=>
  intro h;obtain⟨h1,h2⟩:=List.pairwise_cons.1 h
  by_cases g:lt x y=true
  ·have e:qdv lt x (y::r)=y::qdv lt x r:=by rw[qdv,ipo g]
   rw[e,List.filter_cons,List.filter_cons,ih h2]
   by_cases hy:p y=true
   ·rw[ipo hy,ipo hy]
    by_cases hx:p x=true
    ·rw[ipo hx,ipo hx,qdv,ipo g]
    ·rw[ine hx,ine hx]
   ·rw[ine hy,ine hy]
  ·have e:qdv lt x (y::r)=x::y::r:=by rw[qdv,ine g]
   have g:lt x y=false:=by simpa using g
   rw[e]
   by_cases hx:p x=true
   ·rw[ipo hx,List.filter_cons,ipo hx,qml];intro z hz;rcases List.mem_cons.1 (List.mem_filter.1 hz).1 with rfl|hz
    ·exact g
    ·exact hn _ _ _ g (h1 z hz)
   ·rw[ine hx,List.filter_cons,ine hx]
theorem qfr{lt:α→α→Bool}(hn:qwK lt)(ha:Asy lt)(p:α→Bool): ∀(l acc:List α),qww lt acc→(qfV lt acc l).filter p=qfV lt (acc.filter p) (l.filter p):=by
 intro l
 induction l with
 |nil=>intro acc _;rfl
 |cons x r ih=>
  intro acc h;rw[qfV,ih _ (qda hn ha h),qgu hn p x h,List.filter_cons]
  by_cases hx:p x=true
  ·rw[ipo hx,ipo hx,qfV]
  ·rw[ine hx,ine hx]
theorem qfW{lt:α→α→Bool}(hn:qwK lt)(ha:Asy lt): ∀(l acc:List α),qww lt acc→qww lt (qfV lt acc l):=by
 intro l
 induction l with
 |nil=>intro acc h;exact h
 |cons x r ih=>intro acc h;exact ih _ (qda hn ha h)
end RC
end
section
namespace RC
variable {α : Type}
end RC
end
section
open Go Go.Proofs AF HY LN
namespace RC
theorem qbk{a b:En}:qhi a b=true↔a.frm<b.frm∨a.frm=b.frm∧a.to<b.to:=by
 unfold qhi;simp[Bool.or_eq_true,Bool.and_eq_true]
theorem qbY{a b:En}:qhi a b=false↔b.frm<a.frm∨a.frm=b.frm∧b.to≤a.to:=by
 have:= @qbk a b
 cases h:qhi a b with
 |true=>rw[h]at this;simp only[true_iff]at this;simp only[Bool.true_eq_false,false_iff];omega
 |false=>rw[h]at this;simp only[Bool.false_eq_true,false_iff]at this;simp only[true_iff];omega
theorem qhk:qwK qhi:=by
 intro a b c h1 h2;rw[qbY]at*;omega
theorem qhj:Asy qhi:=by
 intro a b h;rw[qbk]at h;rw[qbY];omega
def qwI(l:List En):List En:=(qfV qhi [] l).reverse
def qFf(names:List Str)(gs:List Gr)(src:Int)(e:En):Bool:=decide (0≤vIx names gs e src)
def ofE(names:List Str)(gs:List Gr)(l:List En)(src:Int):List En:=(qwI l).filter (qFf names gs src)
theorem qmm{α:Type}{lt:α→α→Bool}{x:α}: ∀l:List α,(qdv lt x l).Perm (x::l):=by
 intro l
 induction l with
 |nil=>exact List.Perm.refl _
 |cons y r ih=>
  unfold qdv;split
  ·exact (List.Perm.cons y ih).trans (List.Perm.swap x y r)
  ·exact List.Perm.refl _
theorem qjm{α:Type}{lt:α→α→Bool}: ∀l acc:List α,(qfV lt acc l).Perm (acc++l):=by
 intro l
 induction l with
 |nil=>intro acc;rw[lan];exact List.Perm.refl _
 |cons x r ih=>
  intro acc;refine (ih _).trans ((List.Perm.append_right r (qmm acc)).trans ?_);exact (List.perm_middle (a:=x) (l₁:=acc) (l₂:=r)).symm
theorem qfY(l:List En):(qwI l).Perm l:=(List.reverse_perm _).trans (by simpa using qjm (lt:=qhi) l [])
theorem qgR(l:List En):(qwI l).Pairwise fun a b=>qhi b a=false:=by
 unfold qwI;rw[List.pairwise_reverse];exact qfW qhk qhj l [] List.Pairwise.nil
def qc6(a b:En):Bool:=decide (b.frm<a.to)||decide (a.frm=b.frm)&&decide (a.to=b.to)
def qaF:List En→Bool
 |a::b::r=>qc6 a b||qaF (b::r)
 |_=>false
theorem qlr(L:List En):qaF L=true↔ ∃i,i+1<L.length∧qc6 (L.getD i default) (L.getD (i+1) default)=true:=by
 induction L with
 |nil=>simp[qaF]
 |cons a L ih=>
  cases L with
  |nil=>simp[qaF]
  |cons b r=>
   rw[qaF,Bool.or_eq_true,ih];constructor
   ·rintro (h|⟨i,h1,h2⟩)
    ·exact⟨0,by simp,h⟩
    ·exact⟨i+1,by simpa using h1,h2⟩
   ·rintro⟨i,h1,h2⟩;cases i with
    |zero=>exact .inl h2
    |succ i=>exact .inr ⟨i,by simpa using h1,h2⟩
def qhe(names:List Str)(gs:List Gr)(l:List En):Bool:=ju (fun s=>qaF (ofE names gs l (s:Int))) names.length
theorem qdL{a:En}{r:List En}(h:qaF (a::r)=false):qaF r=false:=by
 cases r with
 |nil=>rfl
 |cons b r=>rw[qaF,Bool.or_eq_false_iff]at h;exact h.2
theorem qn8{L:List En}(hs:L.Pairwise fun a b=>qhi b a=false)(hc:qaF L=false):L.Pairwise fun a b=>qhi a b=true:=by
 induction L with
 |nil=>exact List.Pairwise.nil
 |cons a r ih=>
  obtain⟨h1,h2⟩:=List.pairwise_cons.1 hs;have h3:=ih h2 (qdL hc);refine List.pairwise_cons.2 ⟨?_,h3⟩;cases r with
  |nil=>intro z hz;cases hz
  |cons b r=>
   have hab:qhi a b=true:=by
    rw[qaF,Bool.or_eq_false_iff]at hc;have h5:=hc.1;unfold qc6 at h5;rw[Bool.or_eq_false_iff,Bool.and_eq_false_imp,decide_eq_false_iff_not,decide_eq_true_iff,decide_eq_false_iff_not]at h5;have h4:=h1 b (by simp);rw[qbY]at h4;rw[qbk];obtain⟨h5,h6⟩:=h5
    by_cases e:a.frm=b.frm
    ·have:=h6 e;omega
    ·omega
   intro z hz;rcases List.mem_cons.1 hz with rfl|hz
   ·exact hab
   ·have h6:=(List.pairwise_cons.1 h3).1 z hz;rw[qbk]at*;omega
theorem qpH{L:List En}(hc:qaF L=false){i:Nat}(hi:i+1<L.length):(L.getD i default).to≤(L.getD (i+1) default).frm:=by
 cases h:qc6 (L.getD i default) (L.getD (i+1) default)with
 |true=>rw[(qlr L).2 ⟨i,hi,h⟩]at hc;cases hc
 |false=>
  unfold qc6 at h;rw[Bool.or_eq_false_iff,decide_eq_false_iff_not]at h;omega
theorem qi1(names:List Str)(gs:List Gr)(l:List En)(src:Int):(ofE names gs l src).Pairwise fun a b=>qhi b a=false:=List.Pairwise.filter _ (qgR l)
theorem qa0{names:List Str}{gs:List Gr}{l:List En}(h:qhe names gs l=false){s:Nat}(hs:s<names.length):qaF (ofE names gs l (s:Int))=false:=
 qt.1 h s hs
structure qwu (names:List Str) (gs:List Gr) (t:List Str) (l:List En):Prop where
 sg:sgE names gs=0
 n:l.length≤4096
 ck: ∀e∈l,qCs names gs t e=0
 cl:qhe names gs l=false
structure qB4 (names:List Str) (gs:List Gr) (t:List Str) (e:En):Prop where
 sg:sgE names gs=0
 tn:t.length≤4096
 tw:qoW t=0
 lay:0≤e.layer∧e.layer<16
 rng:0≤e.frm∧e.frm≤e.to∧e.to≤t.length
 sp:0<e.sup.length→e.pos=true
 ne:e.vars.length≠0
 va: ∀i,i<e.vars.length→qr5 t e i=0
 es:qiG names gs e.sup=0
 ev: ∀i,i<e.vars.length→qiG names gs (e.vars.getD i default).sigla=0
 tc:(qj2 names gs e e.vars.length).2=false
theorem qlp{names:List Str}{gs:List Gr}{t:List Str}{e:En}:qCs names gs t e=0↔qB4 names gs t e:=by
 unfold qCs;constructor
 ·intro h;split at h
  ·cases h
  rename_i h1;split at h
  ·cases h
  rename_i h2;split at h
  ·cases h
  rename_i h3;split at h
  ·cases h
  rename_i h4;split at h
  ·cases h
  rename_i h5;split at h
  ·cases h
  rename_i h6;split at h
  ·rename_i h7;exact absurd h h7
  rename_i h7;split at h
  ·rename_i h8;exact absurd h h8
  rename_i h8;split at h
  ·rename_i h9;exact absurd h h9
  rename_i h9;split at h
  ·cases h
  rename_i h10;unfold qwF at h4;refine⟨Classical.not_not.1 h1,om,Classical.not_not.1 h3,om,om,fun h=> ?_,h6,jD.1 (Classical.not_not.1 h7),Classical.not_not.1 h8,jD.1 (Classical.not_not.1 h9),?_⟩
  ·cases hp:e.pos with
   |true=>rfl
   |false=>exact absurd ⟨h,hp⟩ h5
  ·rw[qe7]at h10;simpa using h10
 ·rintro⟨h1,h2,h3,h4,h5,h6,h7,h8,h9,h10,h11⟩;have hr: ¬qwF t e:=by unfold qwF;omega
  rw[ine (fun hc=>hc h1),ine om,ine (fun hc=>hc h3),ine hr,ine (by rintro⟨a,b⟩;rw[h6 a]at b;cases b),ine h7,ine (fun hc=>hc (jY (f:=qr5 t e) h8)),ine (fun hc=>hc h9),
   ine (fun hc=>hc (jY (f:=fun i=>qiG names gs (e.vars.getD i default).sigla) h10)),ine (by rw[qe7,h11];simp)]
section
variable {k v w : Nat} {h : List AObj} {o o' : AObj} {ty : TypeId} {cs : List AV}
theorem cellsOf_setm(hk:k<h.length):cellsOf (qn k h (.mem w ty cs)) k v=if w=v then some cs else none:=by
 have:=qam (l:= []) (v:=v) (w:=w) (ty:=ty) (cs:=cs) hk
 simpa using this
theorem setO_setm:qn k (qn k h o) o'=qn k h o':=qai
end
attribute [go_sem] cellsOf_setm setO_setm
theorem qqB{k v:Nat}{h:List AObj}{ty:TypeId}{cs:List AV}(hl: ∀n,∀c∈cs,qV n c=true): ∀o∈qn k h (.mem v ty cs),o∈h∨lowO h.length o:=by
 intro o ho;rcases jk ho with h1|rfl
 ·exact .inl h1
 ·exact .inr (fun c hc=>hl _ c hc)
end RC
end
section
open Go Go.Proofs AF HY LN
namespace AF
theorem Wk.cells{t:List AV}{h:List AObj}{j v:Nat}{ty:TypeId}{cs cs':List AV}(hj:qr j h=some (.mem v ty cs))(hc:qbW cs cs'):Wk t h t (qn j h (.mem v ty cs')):=by
 intro N w σ a H;have hjl:j<σ.length:=by rw[H.hr.len];exact zG hj
 have ho:=zL hjl;obtain⟨m1,m2,b,arr,m3,m4,m5,m6,m7,m8⟩:=H.hr.obj j _ _ hj ho;have q:=H.hr.recell (cs':=cs') hj ho m3 m4 m5 (by rw[hc.length];exact m6) (fun i x hi hx=>m7 i x (by rw[←hc.length];exact hi) hx) (fun i c x hi hx=>by
  obtain⟨c0,h1,h2⟩:=hc.get i c hi
  exact h2 _ _ _ (m8 i c0 x h1 hx))
 exact⟨σ,⟨q,H.sz,H.tm,H.df⟩,Ext.refl _ _⟩
end AF
namespace RC
end RC
end
section
open Go Go.Proofs AF HY LN
namespace RC
def stV(names:List Str)(gs:List Gr)(e:En):AV:= .sl e.vars.length fun j=> [qI (qdr names gs (e.vars.getD j default).sigla)]
def msV(names:List Str)(gs:List Gr)(L:List En):AV:= .sl L.length fun i=> [stV names gs (L.getD i default)]
theorem qp4(names:List Str)(gs:List Gr)(e:En):(stV names gs e).flag=true:=rfl
theorem qoe(names:List Str)(gs:List Gr)(e:En):(stV names gs e).strip=stV names gs e:=rfl
theorem qp2(names:List Str)(gs:List Gr)(L:List En):(msV names gs L).flag=true:=rfl
theorem qoc(names:List Str)(gs:List Gr)(L:List En):(msV names gs L).strip=msV names gs L:=rfl
theorem quw{fz:Nat→Bool}{h:List AObj}{n:Nat}(names:List Str)(gs:List Gr)(e:En):frz fz h (n+1) (stV names gs e)=stV names gs e:=rfl
theorem qvE{fz:Nat→Bool}{h:List AObj}{n:Nat}(names:List Str)(gs:List Gr)(e:En):rei fz h (n+1) (stV names gs e)=stV names gs e:=rfl
theorem quv{fz:Nat→Bool}{h:List AObj}{n:Nat}(names:List Str)(gs:List Gr)(L:List En):frz fz h (n+1) (msV names gs L)=msV names gs L:=rfl
theorem qvD{fz:Nat→Bool}{h:List AObj}{n:Nat}(names:List Str)(gs:List Gr)(L:List En):rei fz h (n+1) (msV names gs L)=msV names gs L:=rfl
attribute [go_sem] qp4 qoe qp2 qoc quw qvE quv qvD
end RC
end
section
open Go Go.Proofs AF HY LN
namespace AF
theorem zy{P:Program}{f:FuncId}{cap:List AV}{xs:List (List AV)}(hf:qoX P f cap xs){ps:List Nat}{b:Nat}{x y:C}{Q:Ex→Nx}{ts:List AV}{h:List AObj}(hps: ∀a∈xs,a.length=ps.length)
  (S:Nat→List AObj→Prop) (E:Ex→List AObj→Prop) (hS: ∀i hh,S i hh→LowI h hh) (hE: ∀s hh,E s hh→LowI h hh)
  (start:S 0 h) (hts: ∀c∈ts,qV (h.length+1) c=true)
  (body: ∀i hh tl L TS,(hi:i<xs.length)→S i hh→hh.length=h.length→ ∀(K:Nx) (K2:Ex→Nx),
   (∀t2 X hm,X=hm++ .lp .ready TS L::tl→hm.length=h.length→qX P b y K2 t2 (hm++ .lp .busy TS L::tl)→K t2 X)→
   (∀t3 X hh',X=hh'++ .lp .busy TS L::tl→hh'.length=h.length→S (i+1) hh'→K2 .normal t3 X)→
   (∀t3 X hh',X=hh'++ .lp .busy TS L::tl→hh'.length=h.length→E .ret hh'→K2 .ret t3 X)→
   (∀id t3 X hh',X=hh'++ .lp .busy TS L::tl→hh'.length=h.length→E (.exit id) hh'→K2 (.exit id) t3 X)→
   qX P b x (Ex.andThen K (fun _ _ _=>False)) (kJ ts ps (xs[i])) (hh++ .lp .ready TS L::tl))
  (done: ∀hh,S xs.length hh→Q .normal ts hh) (doneE: ∀e hh,E e hh→match e with
   | .normal=>False
   |e=>Q e ts hh):
  qfM P (.fn (.func f) [] cap) ps (qX P b x) (qX P b y) Q ts h:=by
 intro L hy;show jc _ _ _ _ _;have key:=hf h ts L S (fun s hh=>match s with
  | .ret=>E .ret hh
  | .exit id=>E (.exit id) hh
  |_=>False) hS
  (by
   intro s hh hs;cases s with
   |ret=>exact hE _ _ hs
   |exit id=>exact hE _ _ hs
   |ready=>exact hs.elim
   |busy=>exact hs.elim)
  (by
   intro i hh tl hi i4;have hlen:=(hS _ _ i4).1;refine hy h.length ts _ _ _ (kR hlen) (hps _ (List.getElem_mem hi)) ?_;refine qaR (Q:=Ex.andThen (fun t2 h2=> ∃hm,hm.length=h.length∧h2=hm++ .lp .ready ts L::tl∧
    qX P b y (fun e t3 h3=> ∃hh',h3=hh'++ .lp .busy ts L::tl∧hh'.length=h.length∧match e with
     | .normal=>S (i+1) hh'
     | .ret=>E .ret hh'
     | .exit id=>E (.exit id) hh') t2 (hm++ .lp .busy ts L::tl)) (fun _ _ _=>False)) ?_
    (body i hh tl L ts hi i4 hlen _ _ (fun t2 X hm e1 e2 e3=>⟨hm,e2,e1,e3⟩) (fun t3 X hh' e1 e2 e3=>⟨hh',e1,e2,e3⟩) (fun t3 X hh' e1 e2 e3=>⟨hh',e1,e2,e3⟩) (fun id t3 X hh' e1 e2 e3=>⟨hh',e1,e2,e3⟩))
   intro e t2 h2 hq;cases e with
   |ret=>exact hq.elim
   |exit id=>exact hq.elim
   |normal=>
    obtain⟨hm,hml,rfl,h3⟩:=hq;refine⟨rfl,⟨ts,kR hml⟩,fun ts' hts'=> ?_⟩;rw[kR hml]at hts';cases hts';rw[qcw hml];refine qaR ?_ h3;rintro e t3 h3' ⟨hh',rfl,g1,g2⟩;refine⟨ts,kR g1,?_⟩;cases e with
    |normal=>exact⟨hh',.inl ⟨rfl,g2,qcw g1⟩⟩
    |ret=>exact⟨hh',.inr ⟨.ret,rfl,g2,qcw g1⟩⟩
    |exit id=>exact⟨hh',.inr ⟨.exit id,rfl,g2,qcw g1⟩⟩)
  start hts
 refine key.le (qbW.refl _) ?_;rintro v h' ⟨hh,⟨g1,rfl⟩|⟨s,g1,rfl⟩⟩
 ·have hl:=hS _ _ g1;exact⟨v,qi,hh,.ready,ts,L,rfl,hl.1,fun o ho=>(hl.2 o ho).imp (fun h=>h) And.left,done hh g1⟩
 ·cases s with
  |ready=>exact g1.elim
  |busy=>exact g1.elim
  |ret=>
   have hl:=hE _ _ g1;exact⟨v,qi,hh,.ret,ts,L,rfl,hl.1,fun o ho=>(hl.2 o ho).imp (fun h=>h) And.left,doneE _ _ g1⟩
  |exit id=>
   have hl:=hE _ _ g1;exact⟨v,qi,hh,.exit id,ts,L,rfl,hl.1,fun o ho=>(hl.2 o ho).imp (fun h=>h) And.left,doneE _ _ g1⟩
end AF
namespace RC
theorem qhD(n:Nat)(L:List Str):qV n (strs L)=true:=rfl
end RC
end
section
open Go Go.Proofs AF HY LN
namespace AF
theorem Wk.ownNil{t:List AV}{h:List AObj}{j v i k ve sz:Nat}{ty:TypeId}{cs:List AV}(hj:qr j h=some (.mem v ty cs))(hi:cs[i]? =some .nl)(hk:qr k h=some (.emp ve)):
  Wk t h t (qn j h (.mem v ty (cs.set i (.osl k ve sz 0 0)))):=by
 intro N w σ a H;have hjl:j<σ.length:=by rw[H.hr.len];exact zG hj
 have hkl:k<σ.length:=by rw[H.hr.len];exact zG hk
 have ho:=zL hjl;have hok:=zL hkl;obtain⟨e1,e2⟩:=H.hr.obj k _ _ hk hok;obtain⟨m1,m2,b,arr,m3,m4,m5,m6,m7,m8⟩:=H.hr.obj j _ _ hj ho;have q:=H.hr.recell (cs':=cs.set i (.osl k ve sz 0 0)) hj ho m3 m4 m5 (by simpa using m6) (fun n x hn hx=>m7 n x (by simpa using hn) hx) (fun n c x hn hx=>by
  rw[List.getElem?_set]at hn;split at hn
  ·rename_i e;subst e;split at hn
   ·cases hn;have hv:=m8 i _ x hi hx;cases hv with
    |imm hv=>
     cases hv;exact .osl _ hok ⟨none,0,0,rfl⟩ (Nat.le_of_eq e1.symm) (fun _=> .inl ⟨e2,rfl,rfl,rfl⟩)
   ·cases hn
  ·exact m8 n c x hn hx)
 exact⟨σ,⟨q,H.sz,H.tm,H.df⟩,Ext.refl _ _⟩
end AF
namespace RC
structure qEO (t:List Str) (L:List En):Prop where
 rg: ∀i,i<L.length→0≤(L.getD i default).frm∧(L.getD i default).frm≤(L.getD i default).to∧(L.getD i default).to≤t.length
 nx: ∀i,i+1<L.length→(L.getD i default).to≤(L.getD (i+1) default).frm
theorem qu5{names:List Str}{gs:List Gr}{l:List En}{src:Int}{e:En}(h:e∈ofE names gs l src):e∈l:=(qfY l).subset (List.mem_filter.1 h).1
theorem qmd{L:List En}{i:Nat}(hi:i<L.length):L.getD i default∈L:=by
 rw[gdqA,zL hi];exact List.getElem_mem hi
theorem qwu.tx{names:List Str}{gs:List Gr}{t:List Str}{l:List En}(h:qwu names gs t l){s:Nat}(hs:s<names.length):qEO t (ofE names gs l (s:Int)):=
 ⟨fun i hi=>(qlp.1 (h.ck _ (qu5 (qmd hi)))).rng,fun i hi=>qpH (qa0 h.cl hs) hi⟩
end RC
end
section
open Go Go.Proofs AF HY LN
namespace RC
def qvZ(L:List (List Str)):AV:= .sl L.length fun i=> [strs (L.getD i [])]
theorem qiN(L:List (List Str)):(qvZ L).flag=true:=rfl
theorem qgX(L:List (List Str)):(qvZ L).strip=qvZ L:=rfl
attribute [go_sem] qiN qgX
theorem qaX(L:List Str):(qak L).length=L.length:=by simp[qak]
theorem qrH(L M:List Str):qak (L++M)=qak L++qak M:=by simp[qak]
theorem qrI{L:List Str}:qak L= []↔L= []:=by simp[qak]
theorem qrJ{L:List Str}{n:Nat}(g:AV→AV)(hg: ∀s,g (.str s)= .str s)(hn:n=L.length):VLe (.sl n fun i=>(((qak L).drop i).take 1).map g) (strs L):=by
 subst hn;refine VLe.sl_eq rfl (fun i hi=> ?_);unfold qak;rw[←List.map_drop,List.drop_eq_getElem_cons hi,List.map_cons,List.take_succ_cons,List.take_zero,List.map_cons,List.map_nil,hg,gdqA,zL hi];rfl
theorem qqa{α β:Type}(f:α→β)(L:List α):L.flatMap (fun i=> [f i])=L.map f:=by
 induction L with
 |nil=>rfl
 |cons a L ih=>rw[List.flatMap_cons,ih];rfl
theorem qn4(h:List AObj){t:List Str}{a b:Nat}(h1:a≤b)(h2:b≤t.length):qk h (.sl (b-a) fun i=> [.str (t.getD (a+i) [])])=some (b-a,qak (qo3 t a b)):=by
 show some (b-a,(List.range (b-a)).flatMap fun i=> [AV.str (t.getD (a+i) [])])=_;rw[qqa (fun i=>AV.str (t.getD (a+i) []))];congr 2;unfold qak qo3;apply List.ext_getElem
 ·simp;omega
 ·intro i g1 g2;have hi:i<b-a:=by simpa using g1
  have hl:a+i<t.length:=by omega
  simp[gdqA,hl]
theorem qrF(h:List AObj)(t:List Str):qk h (strs t)=some (t.length,qak t):=by
 have:=qn4 h (t:=t) (a:=0) (b:=t.length) (nzl _) (nlr _)
 simp only[Nat.sub_zero,Nat.zero_add]at this;have e:qo3 t 0 t.length=t:=by simp[qo3]
 rw[e]at this;exact this
end RC
end
section
open Go Go.Proofs AF HY LN
namespace AF
theorem kA{P:Program}{f:FuncId}{first cap args:List AV}{d:Option Nat}{nx:Nx}{t:List AV}{h h':List AObj}{r:AV}(hc:ACalls P f (first++args++cap) h r h')(hn:nx (qT t d r) h'):qbn P (.fn (.func f) first cap::args) d nx t h:=⟨_,hc.toQ,by rintro _ _ ⟨rfl,rfl⟩;exact hn⟩
theorem jt{v:Nat}{ty:TypeId}{cs:List AV}{n:Nat}(h: ∀c∈cs,qV n c=true):lowO n (zk v ty cs):=by
 unfold zk;split
 ·trivial
 ·exact h
theorem qZ{v w:Nat}{ty:TypeId}{cs:List AV}:qG (some (zk v ty cs)) w=(v==w):=by unfold zk;split<;>rfl
theorem qi7{v:Nat}{ty:TypeId}{cs:List AV}:(qv (some (zk v ty cs)) v).getD []=cs:=by
 unfold zk;split
 ·rename_i e;rw[e];rfl
 ·rw[ql,ipo rfl];rfl
end AF
namespace RC
theorem qjl(L:List Str):(strs L).solid=true:=rfl
theorem qix(L:List Str):(strs L).cells= [strs L]:=rfl
theorem qge{k v z p n:Nat}(L:List Str):qch (.osl k v z p n) (strs L)=true:=rfl
attribute [go_sem] qjl qix qge
theorem qeI{v:Nat}{L:List Str}{g:AV→AV}{n:Nat}(hg: ∀s,g (.str s)= .str s)(hn:n=L.length):VLe (qhW (some (zk v 9 (qak L))) v 1 0 n g) (strs L):=by
 subst hn
 by_cases h:L= []
 ·subst h;show VLe (qhW (some (.emp v)) v 1 0 0 g) _;rw[slOf_emp,ipo rfl];exact zf
 ·have e0:zk v 9 (qak L)= .mem v 9 (qak L):=qas (fun e=>h (qrI.1 e));rw[e0,slOf_mem,ipo ⟨rfl,by rw[qaX];omega⟩];simp only[Nat.zero_add,Nat.mul_one];exact qrJ g hg rfl
end RC
end
section
open Go Go.Proofs AF HY LN
namespace RC
def clT(x:Co)(k s:Nat):Option Str:=if (x.col.getD k []).getD s 0<0 then none else some ((x.tok.getD s []).getD ((x.col.getD k []).getD s 0).toNat default).text
def cmB(x:Co)(k:Nat):Bool:= !ju (fun s=>decide (clT x k s=none)|| !decide (clT x k s=clT x k 0)) x.sig.length
def rdG(x:Co)(s f:Nat):Nat→List Str
 |0=> []
 |d+1=>rdG x s f d++(clT x (f+d) s).toList
theorem qeD(x:Co)(s f:Nat): ∀d,(rdG x s f d).length≤d:=by
 intro d
 induction d with
 |zero=>exact nlr _
 |succ d ih=>
  unfold rdG;rw[lap];cases clT x (f+d) s with
  |none=>simp only[Option.toList_none,lnl];omega
  |some w=>simp only[Option.toList_some,lco,lnl];omega
def qjW(L:List Rd)(w:List Str):Int:=qcM (fun j=>decide (w=(L.getD j default).words)) L.length 0
def qga(L:List Rd)(w:List Str)(s:Nat):List Rd:=if qjW L w<0 then L++ [⟨w,[(s:Int)]⟩] else L.set (qjW L w).toNat ⟨w,(L.getD (qjW L w).toNat default).src++ [(s:Int)]⟩
def qcs(x:Co)(f d:Nat):Nat→List Rd
 |0=> []
 |s+1=>qga (qcs x f d s) (rdG x s f d) s
def qe5(x:Co)(f t:Nat):List Rd:=qcs x f (t-f) x.sig.length
theorem qo9(L:List Rd)(w:List Str)(s:Nat):(qga L w s).length≤L.length+1:=by
 unfold qga;split
 ·simp
 ·rw[List.length_set];omega
theorem qhQ(x:Co)(f d:Nat): ∀s,(qcs x f d s).length≤s:=by
 intro s
 induction s with
 |zero=>exact nlr _
 |succ s ih=>
  have:=qo9 (qcs x f d s) (rdG x s f d) s
  unfold qcs;omega
def unB(x:Co)(beh:Int)(u:Un):Bool:= !(decide (u.frm≤beh)||(decide (u.frm<0)||(decide (u.to≤u.frm)||(decide ((x.col.length:Int)<u.to)|| !decide (u.rds=qe5 x u.frm.toNat u.to.toNat)))))
def beH(l:List Un)(i:Nat):Int:=if i=0 then-1 else (l.getD (i-1) default).to
def qd6(x:Co)(l:List Un):Bool:= !ju (fun i=> !unB x (beH l i) (l.getD i default)) l.length
def cvB(l:List Un)(k:Nat):Bool:=ju (fun i=>decide ((l.getD i default).frm≤k)&&decide ((k:Int)<(l.getD i default).to)) l.length
def cvA(x:Co)(l:List Un):Bool:= !ju (fun k=> !cvB l k&& !cmB x k) x.col.length
def rgB(x:Co)(l:List Un):Bool:=qd6 x l&&cvA x l
def vaE(x:Co)(l:List Un):Int:=if coE x≠0 then 1 else if rgB x l=false then 20 else 0
def nxt(p:Nat→Bool):Nat→Nat→Nat
 |0,k=>k
 |d+1,k=>if p k=true then k else nxt p d (k+1)
theorem qhG(p:Nat→Bool): ∀d k,k≤nxt p d k∧nxt p d k≤k+d∧(∀j,k≤j→j<nxt p d k→p j=false)∧(nxt p d k<k+d→p (nxt p d k)=true):=by
 intro d
 induction d with
 |zero=>intro k;exact⟨nlr _,nlr _,fun j h1 h2=>by unfold nxt at h2;omega,fun h=>by unfold nxt at h;omega⟩
 |succ d ih=>
  intro k;unfold nxt;split
  ·rename_i h;exact⟨nlr _,om,fun j h1 h2=>by omega,fun _=>h⟩
  ·rename_i h;obtain⟨h1,h2,h3,h4⟩:=ih (k+1);refine⟨om,om,fun j g1 g2=> ?_,fun g=>h4 om⟩
   by_cases e:j=k
   ·subst e;simpa using h
   ·exact h3 j om g2
def kP(p:Nat→Bool)(n:Nat):Nat→Nat→List (Nat×Nat)
 |0,_=> []
 |d+1,f=>if n≤f then [] else (if f<nxt p (n-f) f then [(f,nxt p (n-f) f)] else [])++kP p n d (nxt p (n-f) f+1)
def qd3(p:Nat→Bool)(n:Nat):List (Nat×Nat):=kP p n (n+1) 0
theorem qeE(p:Nat→Bool)(n:Nat): ∀d f,(∀r∈kP p n d f,f≤r.1∧r.1<r.2∧r.2≤n∧ ∀k,r.1≤k→k<r.2→p k=false)∧(n-f<d→ ∀k,f≤k→k<n→p k=false→ ∃r∈kP p n d f,r.1≤k∧k<r.2):=by
 intro d
 induction d with
 |zero=>intro f;exact⟨fun r hr=>absurd hr List.not_mem_nil,fun h=>absurd h (nnz _)⟩
 |succ d ih=>
  intro f;unfold kP;split
  ·rename_i h;exact⟨fun r hr=>absurd hr List.not_mem_nil,fun _ k h1 h2=>by omega⟩
  ·rename_i h;obtain⟨h1,h2,h3,h4⟩:=qhG p (n-f) f;obtain⟨i1,i2⟩:=ih (nxt p (n-f) f+1);obtain⟨t,ht⟩: ∃t,t=nxt p (n-f) f:=⟨_,rfl⟩
   rw[←ht]at h1 h2 h3 h4 i1 i2 ⊢;refine⟨fun r hr=> ?_,fun hd k k1 k2 k3=> ?_⟩
   ·rcases List.mem_append.1 hr with hr|hr
    ·split at hr
     ·rename_i hft;rw[List.mem_singleton]at hr;subst hr;exact⟨nlr _,hft,by simp only;omega,h3⟩
     ·cases hr
    ·obtain⟨g1,g2⟩:=i1 r hr;exact⟨om,g2⟩
   ·by_cases hk:k<t
    ·refine⟨(f,t),List.mem_append_left _ ?_,k1,hk⟩;rw[ipo om];exact List.mem_singleton.2 rfl
    ·have hne:k≠t:=fun e=>by
      subst e;rw[h4 om]at k3;cases k3
     obtain⟨r,hr,g⟩:=i2 om k om k2 k3;exact⟨r,List.mem_append_right _ hr,g⟩
theorem qnB{p:Nat→Bool}{n:Nat}{r:Nat×Nat}(hr:r∈qd3 p n):r.1<r.2∧r.2≤n∧ ∀k,r.1≤k→k<r.2→p k=false:=((qeE p n (n+1) 0).1 r hr).2
theorem qrr{p:Nat→Bool}{n k:Nat}(hk:k<n)(hp:p k=false): ∃r∈qd3 p n,r.1≤k∧k<r.2:=(qeE p n (n+1) 0).2 om k (nzl _) hk hp
structure qEQ (x:Co) (l:List Un):Prop where
 pw:l.Pairwise fun a b=>a.to<b.frm
 rg: ∀u∈l,0≤u.frm∧u.frm<u.to∧u.to≤x.col.length∧u.rds=qe5 x u.frm.toNat u.to.toNat
theorem qoq{x:Co}{beh:Int}{u:Un}:unB x beh u=true↔beh<u.frm∧0≤u.frm∧u.frm<u.to∧u.to≤x.col.length∧u.rds=qe5 x u.frm.toNat u.to.toNat:=by
 unfold unB;simp only[Bool.not_eq_true',Bool.or_eq_false_iff,decide_eq_false_iff_not,Bool.not_eq_false',decide_eq_true_eq];constructor
 ·rintro⟨h1,h2,h3,h4,h5⟩;exact⟨om,om,om,om,h5⟩
 ·rintro⟨h1,h2,h3,h4,h5⟩;exact⟨om,om,om,om,h5⟩
theorem qg4{x:Co}{l:List Un}(h:qd6 x l=true):qEQ x l:=by
 unfold qd6 at h;rw[Bool.not_eq_true',qt]at h;have h1: ∀i,i<l.length→beH l i<(l.getD i default).frm∧0≤(l.getD i default).frm∧(l.getD i default).frm<(l.getD i default).to∧(l.getD i default).to≤x.col.length∧(l.getD i default).rds=qe5 x (l.getD i default).frm.toNat (l.getD i default).to.toNat:=fun i hi=>
  qoq.1 (by simpa using h i hi)
 have g: ∀i (hi:i<l.length),l.getD i default=l[i]:=fun i hi=>by rw[gdqA,zL hi];rfl
 refine⟨List.pairwise_iff_getElem.2 fun i j hi hj hij=> ?_,fun u hu=> ?_⟩
 ·have key: ∀d,i+1+d<l.length→(l.getD i default).to<(l.getD (i+1+d) default).frm:=by
   intro d
   induction d with
   |zero=>
    intro hd
    have:=(h1 (i+1) hd).1
    unfold beH at this;rw[ine om,Nat.add_sub_cancel]at this;exact this
   |succ d ih=>
    intro hd;have h2:=ih om;have h3:=(h1 (i+1+d) om).2.2.1;have h4:=(h1 (i+1+d+1) om).1;unfold beH at h4;rw[ine om,Nat.add_sub_cancel]at h4;rw[←Nat.add_assoc];omega
  have:=key (j-(i+1)) om
  rw[show i+1+(j-(i+1))=j by omega,g i hi,g j hj]at this;exact this
 ·obtain⟨i,hi,rfl⟩:=List.getElem_of_mem hu
  have:=(h1 i hi).2
  rw[g i hi]at this;exact this
theorem qlx{l:List Un}{k:Nat}:cvB l k=true↔ ∃u∈l,u.frm≤k∧(k:Int)<u.to:=by
 unfold cvB;rw[qR];constructor
 ·rintro⟨i,hi,h⟩;rw[gdqA,zL hi,Bool.and_eq_true,decide_eq_true_iff,decide_eq_true_iff]at h;exact⟨_,List.getElem_mem hi,h⟩
 ·rintro⟨u,hu,h⟩;obtain⟨i,hi,rfl⟩:=List.getElem_of_mem hu;refine⟨i,hi,?_⟩;rw[gdqA,zL hi,Bool.and_eq_true,decide_eq_true_iff,decide_eq_true_iff];exact h
def rnB(l:List Un)(r:Nat×Nat):Bool:=ju (fun i=>decide ((l.getD i default).frm≤r.1)&&decide ((r.2:Int)≤(l.getD i default).to)) l.length
theorem qnu{l:List Un}{r:Nat×Nat}:rnB l r=true↔ ∃u∈l,u.frm≤r.1∧(r.2:Int)≤u.to:=by
 unfold rnB;rw[qR];constructor
 ·rintro⟨i,hi,h⟩;rw[gdqA,zL hi,Bool.and_eq_true,decide_eq_true_iff,decide_eq_true_iff]at h;exact⟨_,List.getElem_mem hi,h⟩
 ·rintro⟨u,hu,h⟩;obtain⟨i,hi,rfl⟩:=List.getElem_of_mem hu;refine⟨i,hi,?_⟩;rw[gdqA,zL hi,Bool.and_eq_true,decide_eq_true_iff,decide_eq_true_iff];exact h
theorem qqE{α:Type}{L:List α}{R:α→α→Prop}(h:L.Pairwise R){a b:α}(ha:a∈L)(hb:b∈L)(hne:a≠b):R a b∨R b a:=by
 induction L with
 |nil=>cases ha
 |cons c r ih=>
  obtain⟨h1,h2⟩:=List.pairwise_cons.1 h;rcases List.mem_cons.1 ha with ea|na
  ·rcases List.mem_cons.1 hb with eb|nb
   ·exact absurd (ea.trans eb.symm) hne
   ·rw[ea];exact .inl (h1 b nb)
  ·rcases List.mem_cons.1 hb with eb|nb
   ·rw[eb];exact .inr (h1 a na)
   ·exact ih h2 na nb
theorem qt2{x:Co}{l:List Un}(h:qd6 x l=true):((qd3 (cmB x) x.col.length).all (rnB l)=true)↔cvA x l=true:=by
 have ho:=qg4 h;unfold cvA;rw[List.all_eq_true,Bool.not_eq_true',qt];constructor
 ·intro hr k hk;cases hc:cmB x k with
  |true=>simp
  |false=>
   obtain⟨r,hr1,r1,r2⟩:=qrr hk hc;obtain⟨u,hu,u1,u2⟩:=qnu.1 (hr r hr1);rw[qlx.2 ⟨u,hu,om,om⟩];rfl
 ·intro hk r hr;obtain⟨r1,r2,r3⟩:=qnB hr;have cov: ∀k,r.1≤k→k<r.2→ ∃u∈l,u.frm≤(k:Int)∧(k:Int)<u.to:=fun k h1 h2=>by
   have h3:=hk k om;rw[r3 k h1 h2,Bool.not_false,Bool.and_true,Bool.not_eq_false']at h3;exact qlx.1 h3
  obtain⟨u,hu,u1,u2⟩:=cov r.1 (nlr _) r1;refine qnu.2 ⟨u,hu,u1,?_⟩
  by_cases ht:(r.2:Int)≤u.to
  ·exact ht
  ·exfalso;have hur:=ho.rg u hu;obtain⟨k,hk2⟩: ∃k:Nat,u.to=(k:Int):=⟨u.to.toNat,om⟩
   obtain⟨v,hv,v1,v2⟩:=cov k om om;have hvr:=ho.rg v hv
   by_cases e:u=v
   ·subst e;omega
   ·rcases qqE ho.pw hu hv e with h1|h1
    ·omega
    ·omega
end RC
end
section
open Go Go.Proofs AF
def jm:List Nat:= []
def qts:C:=
 ((C.ops [O1 3 (.box 0 26) 0,MC 6 (.str []),MC 7 (.bool false)]).seq ((C.ops [O1 9 (.fldA 3) 3,LD 10 9,MV 11 1,O2 12 (.idxA 1) 10 11,LD 13 12,MV 14 2,O2 15 (.idxA 1) 13 14,
 LD 16 15,MV 8 16]).seq (((C.ops [MV 17 8,BC 18 .lss 17 (i6 0)]).seq (C.cond (.t 18) ((C.ops [MC 6 (.str []),MC 7 (.bool false)]).seq C.ret) C.skip)).seq ((C.ops [O1 19 (.fldA 2)
 3,LD 20 19,MV 21 2,O2 22 (.idxA 1) 20 21,LD 23 22,MV 24 8,O2 25 (.idxA 6) 23 24,O1 26 (.fldA 0) 25,LD 27 26,MV 6 27,MC 7 (.bool true)]).seq
 C.ret))))
theorem qsq:qM Tryz.prog 185 28 1 [RV.tmp 6,RV.tmp 7] qts:=fi Tryz.f185 [3] jm []
def qxc:C:=
 ((C.ops [O1 2 (.box 0 26) 0,MC 4 (.bool false)]).seq ((C.ops [O1 11 (.load (some 4)) 2,MV 12 1,ON 13 (.call 185 true) [.t 11,.t 12,.c (i6 0)],MV 10 13,O1 14 (.ext 0) 10,O1
 15 (.ext 1) 10,MV 5 14,MV 6 15]).seq (((C.ops [O1 16 (.fldA 1) 2,LD 17 16,O1 18 .len 17,MC 19 (i6 0)]).seq (C.block 0 ((C.ops [BI 20 .lss 19 18]).seq ((C.cond (.t 20) C.skip
 (C.exit 0)).seq ((C.block 1 ((C.ops [MV 21 19,MV 7 21]).seq ((C.ops [O1 23 (.load (some 4)) 2,MV 24 1,MV 25 7,ON 26 (.call 185 true) [.t 23,.t 24,.t 25],MV 22 26,O1 27
 (.ext 0) 22,O1 28 (.ext 1) 22,MV 8 27,MV 9 28]).seq ((C.ops [MV 29 6,O1 30 (.un UnOp.not) 29,MV 31 30,MG 32 31 false 9,P1 33 31 false (.un UnOp.not) 32,PT 34 31 33,MV 35
 34,MG 36 35 false 8,MG 37 35 false 5,P2 38 35 false (.bin .neq) 36 37,PT 39 35 38]).seq (C.cond (.t 39) ((C.ops [MC 4 (.bool false)]).seq C.ret) C.skip))))).seq (C.ops [BC 40
 .add 19 (i6 1),MV 19 40])))).loop)).seq ((C.ops [MC 4 (.bool true)]).seq
 C.ret))))
theorem qyK:qM Tryz.prog 140 41 1 [RV.tmp 4] qxc:=fi Tryz.f140 [2] jm []
def qEq:C:=
 ((C.ops [O1 1 (.box 0 26) 0,MC 2 .nilfn]).seq ((C.ops [O1 3 (.mkfn (Fn.func 139) 0) 1,MV 2 3]).seq
 C.ret))
theorem qC5:qM Tryz.prog 88 4 1 [RV.tmp 2] qEq:=fi Tryz.f88 [1] jm []
def qxb:C:=
 ((C.ops [MC 3 (i6 0)]).seq (C.block 0 (((C.ops [MV 5 3,O1 6 (.fldA 3) 1,LD 7 6,O1 8 .len 7,BI 9 .lss 5 8]).seq (C.cond (.t 9) C.skip (C.exit 0))).seq (C.block 1 ((C.ops [MV 10
 3,MV 4 10]).seq ((C.block 2 (((C.ops [MV 11 4,O1 12 (.fldA 3) 1,LD 13 12,O1 14 .len 13,BI 15 .lss 11 14,MV 16 15,P1 17 16 true (.load (some 4)) 1,MG 18 16 true 4,P2 19 16
 true (.call 140 true) 17 18,P1 20 16 true (.un UnOp.not) 19,PF 21 16 20]).seq (C.cond (.t 21) C.skip (C.exit 2))).seq (C.block 3 (C.ops [MV 22 4,BC 23 .add 22 (i6 1),MV 4
 23]))).loop).seq (((C.ops [MV 24 4,MV 25 3,BI 26 .gtr 24 25,MV 27 26,MG 28 27 true 0,MG 29 27 true 3,MG 30 27 true 4,PN 31 27 true .callv [.t 28,.t 29,.t 30],P1 32 27
 true (.un UnOp.not) 31,PF 33 27 32]).seq (C.cond (.t 33) C.ret C.skip)).seq (C.ops [MV 34 4,BC 35 .add 34 (i6 1),MV 3
 35])))))).loop))
theorem qyJ:qM Tryz.prog 139 36 0 [] qxb:=fi Tryz.f139 [] jm []
def qxd:C:=
 ((C.ops [O1 4 (.box 0 26) 0,ON 8 (.nilo 1 1 9) []]).seq ((C.ops [ON 9 (.nilo 2 1 9) []]).seq (((C.ops [MV 13 1,MV 10 13]).seq (C.block 0 (((C.ops [MV 14 10,MV 15 2,BI 16 .lss
 14 15]).seq (C.cond (.t 16) C.skip (C.exit 0))).seq ((C.block 1 ((C.ops [O1 20 (.load (some 4)) 4,MV 21 10,MV 22 3,ON 23 (.call 185 true) [.t 20,.t 21,.t 22],MV 19 23,O1 24
 (.ext 0) 19,O1 25 (.ext 1) 19,MV 11 24,MV 12 25]).seq ((C.ops [MV 26 12]).seq (C.cond (.t 26) (C.ops [MV 27 9,MV 28 11,⟨some 29,none,.bslc 3 1 1 9 [.str []] [(0,1)],[.t
 28]⟩,O2 30 (.app 4 1 9 16) 27 29,MV 9 30]) C.skip)))).seq (C.ops [MV 17 10,BC 18 .add 17 (i6 1),MV 10 18]))).loop)).seq ((C.ops [MV 31 9,MV 8 31]).seq
 C.ret))))
theorem qyL:qM Tryz.prog 141 32 5 [RV.tmp 8] qxd:=fi Tryz.f141 [4,8,9,29,30] jm []
def qxe:C:=
 ((C.ops [O1 4 (.box 0 87) 1,O1 5 (.box 1 181) 2,MC 6 (i6 0)]).seq ((C.ops [MV 7 0,O2 8 (.mkfn (Fn.func 186) 0) 5 4,O2 9 (.call 104 true) 7 8,MV 6 9]).seq
 C.ret))
theorem qyM:qM Tryz.prog 142 10 2 [RV.tmp 6] qxe:=fi Tryz.f142 [4,5] jm []
def qxx:C:=
 ((C.ops [O1 3 (.box 0 87) 0,MC 4 (.bool false)]).seq ((C.ops [LD 5 1,O1 6 (.load (some 2)) 2,O1 7 (.load (some 2)) 3,ON 8 .callv [.t 5,.t 6,.t 7],MV 4 8]).seq
 C.ret))
theorem qy7:qM Tryz.prog 186 9 1 [RV.tmp 4] qxx:=fi Tryz.f186 [3] jm []
def qEr:C:=
 ((C.ops [O1 3 (.box 0 26) 0,ON 6 (.nilo 1 2 87) []]).seq ((C.ops [ON 7 (.nilo 2 2 87) []]).seq (((C.ops [O1 11 (.fldA 1) 3,LD 12 11,O1 13 .len 12,MC 14 (i6 0)]).seq (C.block 0
 ((C.ops [BI 15 .lss 14 13]).seq ((C.cond (.t 15) C.skip (C.exit 0)).seq ((C.block 1 ((C.ops [MV 16 14,MV 8 16]).seq ((C.ops [O1 17 (.load (some 4)) 3,MV 18 1,MV 19 2,MV 20 8,
 ON 21 (.call 141 true) [.t 17,.t 18,.t 19,.t 20],MV 22 8,⟨some 23,none,.bslc 3 1 1 3 [i6 0] [(0,1)],[.t 22]⟩,⟨some 24,none,.build [.nl,.nl] [(0,1),(1,1)],[.t 21,
 .t 23]⟩,⟨some 9,none,.alloc 4 87 [.nl,.nl],[]⟩,ST 2 9 24]).seq ((C.ops [MV 25 7,O1 26 (.load (some 2)) 9,ON 27 (.call 142 true) [.t 25,.t 26,.c (.fn (Fn.func 143) []
 [])],MV 10 27]).seq (((C.ops [MV 28 10,BC 29 .lss 28 (i6 0)]).seq (C.cond (.t 29) ((C.ops [MV 30 7,O1 31 (.load (some 2)) 9,⟨some 32,none,.bslc 5 2 1 87 [.nl,.nl] [(0,2)],
 [.t 31]⟩,O2 33 (.app 6 2 87 48) 30 32,MV 7 33]).seq (C.exit 1)) C.skip)).seq (C.ops [MV 34 7,MV 35 10,MV 36 7,MV 37 10,O2 38 (.idxA 2) 36 37,O1 39 (.fldA 1) 38,LD 40 39,MV
 41 8,⟨some 42,none,.bslc 7 1 1 3 [i6 0] [(0,1)],[.t 41]⟩,O2 43 (.app 8 1 3 8) 40 42,O2 44 (.idxA 2) 34 35,O1 45 (.fldA 1) 44,ST 1 45 43])))))).seq (C.ops [BC 46 .add 14
 (i6 1),MV 14 46])))).loop)).seq ((C.ops [MV 47 7,MV 6 47]).seq
 C.ret))))
theorem qC6:qM Tryz.prog 89 48 9 [RV.tmp 6] qEr:=fi Tryz.f89 [3,6,7,23,9,32,33,42,43] jm []
def qxf:C:=
 ((C.ops [O1 2 (.box 0 87) 0,O1 3 (.box 1 87) 1,MC 4 (.bool false)]).seq ((C.ops [O1 5 (.fldA 0) 2,LD 6 5,O1 7 (.fldA 0) 3,LD 8 7,O2 9 (.call 36 true) 6 8,MV 4 9]).seq
 C.ret))
theorem qyN:qM Tryz.prog 143 10 2 [RV.tmp 4] qxf:=fi Tryz.f143 [2,3] jm []
def qxm:C:=
 ((C.ops [MC 4 (.bool false)]).seq ((C.ops [MV 5 0,MV 6 1,ON 7 (.call 214 true) [.t 5,.t 6,.c (.fn (Fn.func 215) [] [])],MV 4 7]).seq
 C.ret))
theorem qyV:qM Tryz.prog 166 8 0 [RV.tmp 4] qxm:=fi Tryz.f166 [] jm []
def qtv:C:=
 ((C.ops [O1 2 (.box 0 87) 0,O1 3 (.box 1 87) 1,MC 4 (.bool false)]).seq ((C.ops [O1 5 (.fldA 0) 2,LD 6 5,O1 7 (.fldA 0) 3,LD 8 7,O2 9 (.call 36 true) 6 8,MV 10 9,P1 11 10
 true (.fldA 1) 2,P1 12 10 true (.load none) 11,P1 13 10 true (.fldA 1) 3,P1 14 10 true (.load none) 13,P2 15 10 true (.call 50 true) 12 14,PF 16 10 15,MV 4 16]).seq
 C.ret))
theorem qsu:qM Tryz.prog 215 17 2 [RV.tmp 4] qtv:=fi Tryz.f215 [2,3] jm []
def qw3:C:=
 ((C.ops [O1 2 (.box 0 26) 0,O1 3 (.box 1 28) 1,⟨some 4,none,.alloc 2 4 [.bool false],[]⟩]).seq ((C.ops [MC 5 (i6 (-1))]).seq (((C.ops [LD 10 3,O1 11 .len 10,MC 12 (i6
 0)]).seq (C.block 0 ((C.ops [BI 13 .lss 12 11]).seq ((C.cond (.t 13) C.skip (C.exit 0)).seq ((C.block 1 ((C.ops [O2 14 (.idxA 3) 10 12,O1 15 (.load (some 3)) 14,⟨some 7,none,
 .alloc 3 64 [i6 0,i6 0,.nl],[]⟩,ST 3 7 15]).seq (((C.ops [O1 16 (.fldA 0) 7,LD 17 16,MV 18 5,BI 19 .leq 17 18,MV 20 19,P1 21 20 false (.fldA 0) 7,P1 22 20 false (.load
 none) 21,PC 23 20 false (.bin .lss) 22 (i6 0),PT 24 20 23,MV 25 24,P1 26 25 false (.fldA 0) 7,P1 27 25 false (.load none) 26,P1 28 25 false (.fldA 1) 7,P1 29 25 false (.load
 none) 28,P2 30 25 false (.bin .geq) 27 29,PT 31 25 30,MV 32 31,P1 33 32 false (.fldA 1) 7,P1 34 32 false (.load none) 33,P1 35 32 false (.fldA 3) 2,P1 36 32 false (.load
 none) 35,P1 37 32 false .len 36,P2 38 32 false (.bin .gtr) 34 37,PT 39 32 38,MV 40 39,P1 41 40 false (.fldA 2) 7,P1 42 40 false (.load none) 41,P1 43 40 false (.load (some
 4)) 2,P1 44 40 false (.fldA 0) 7,P1 45 40 false (.load none) 44,P1 46 40 false (.fldA 1) 7,P1 47 40 false (.load none) 46,PN 48 40 false (.call 89 true) [.t 43,.t 45,.t 47],
 P2 49 40 false (.call 166 true) 42 48,P1 50 40 false (.un UnOp.not) 49,PT 51 40 50]).seq (C.cond (.t 51) ((C.ops [⟨none,none,.store 1,[.t 4,.c (.bool false)]⟩]).seq C.ret)
 C.skip)).seq (C.ops [O1 52 (.fldA 1) 7,LD 53 52,MV 5 53])))).seq (C.ops [BC 54 .add 12 (i6 1),MV 12 54])))).loop)).seq (((C.ops [O1 55 (.load (some 4)) 2,O1 56 (.call 88 true)
 55]).seq (C.block 2 (C.range (.t 56) [57,58] ((C.ops [⟨some 8,none,.alloc 4 3 [i6 0],[]⟩,ST 1 8 57]).seq (C.ops [⟨some 9,none,.alloc 5 3 [i6 0],[]⟩,ST 1 9 58])) (C.block 3
 ((C.ops [LD 59 3,O2 60 (.mkfn (Fn.func 167) 0) 8 9,O2 61 (.call 33 true) 59 60,O1 62 (.un UnOp.not) 61]).seq (C.cond (.t 62) ((C.ops [⟨none,none,.store 1,[.t 4,.c (.bool
 false)]⟩]).seq C.ret) C.skip)))))).seq ((C.ops [⟨none,none,.store 1,[.t 4,.c (.bool true)]⟩]).seq
 C.ret)))))
theorem qyB:qM Tryz.prog 122 63 6 [RV.cell 4 none] qw3:=fi Tryz.f122 [2,3,4,7,8,9] jm []
def qtp:C:=
 ((C.ops [O1 3 (.box 0 64) 0,MC 4 (.bool false)]).seq ((C.ops [O1 5 (.fldA 0) 3,LD 6 5,LD 7 1,BI 8 .leq 6 7,MV 9 8,P1 10 9 true (.load none) 2,P1 11 9 true (.fldA 1) 3,P1 12
 9 true (.load none) 11,P2 13 9 true (.bin .leq) 10 12,PF 14 9 13,MV 4 14]).seq
 C.ret))
theorem qsn:qM Tryz.prog 167 15 1 [RV.tmp 4] qtp:=fi Tryz.f167 [3] jm []
def qCk:C:=
 ((C.ops [O1 2 (.box 0 26) 0,MC 4 (i6 0)]).seq (((C.ops [O1 5 (.load (some 4)) 2,O1 6 (.call 67 true) 5,BC 7 .neq 6 (i6 0)]).seq (C.cond (.t 7) ((C.ops [MC 4 (i6 1)]).seq C.ret)
 C.skip)).seq (((C.ops [O1 8 (.load (some 4)) 2,MV 9 1,O2 10 (.call 122 true) 8 9,O1 11 (.un UnOp.not) 10]).seq (C.cond (.t 11) ((C.ops [MC 4 (i6 20)]).seq C.ret) C.skip)).seq
 ((C.ops [MC 4 (i6 0)]).seq
 C.ret))))
theorem qzP:qM Tryz.prog 69 12 1 [RV.tmp 4] qCk:=fi Tryz.f69 [2] jm []
def qCi:C:=
 ((C.ops [O1 3 (.box 0 3) 1,MC 4 (i6 0),MC 5 (i6 0)]).seq (((C.ops [LD 6 3,BC 7 .lss 6 (i6 0)]).seq (C.cond (.t 7) ((C.ops [MC 4 (i6 0),MC 5 (i6 2)]).seq C.ret) C.skip)).seq
 ((C.ops [MV 8 0,O1 9 (.mkfn (Fn.func 95) 0) 3,O2 10 (.call 91 true) 8 9,MV 4 10,MC 5 (i6 0)]).seq
 C.ret)))
theorem qzN:qM Tryz.prog 42 11 1 [RV.tmp 4,RV.tmp 5] qCi:=fi Tryz.f42 [3] jm []
def qCo:C:=
 ((C.ops [O1 2 (.box 0 64) 0,MC 3 (.bool false)]).seq ((C.ops [O1 4 (.fldA 0) 2,LD 5 4,LD 6 1,BI 7 .leq 5 6,MV 8 7,P1 9 8 true (.load none) 1,P1 10 8 true (.fldA 1) 2,P1 11
 8 true (.load none) 10,P2 12 8 true (.bin .lss) 9 11,PF 13 8 12,MV 3 13]).seq
 C.ret))
theorem qzU:qM Tryz.prog 95 14 1 [RV.tmp 3] qCo:=fi Tryz.f95 [2] jm []
end
section
open Go Go.Proofs AF HY LN
namespace RC
section
variable {x : Co} {k s : Nat}
theorem qCu(h:List AObj)(ho:CoOk x)(hk:k<x.col.length)(hs:s<x.sig.length):ACalls Tryz.prog 185 [.agg (coC x),.int .i64 (k:Int),.int .i64 (s:Int)] h (.tup [.str ((clT x k s).getD []),.bool (clT x k s).isSome]) h:=by
 have hcl:=ho.cl k hk;have hce:=ho.ce k hk s hs;have htn:=ho.tn;unfold clT;obtain⟨c,hc⟩: ∃c,c=x.col.getD k []:=⟨_,rfl⟩
 have ec:=hc.symm;rw[ec]at hcl hce ⊢;obtain⟨t,ht⟩: ∃t,t=c.getD s 0:=⟨_,rfl⟩
 have et:=ht.symm;rw[et]at hce ⊢;obtain⟨l,hl⟩: ∃l,l=x.tok.getD s []:=⟨_,rfl⟩
 have el:=hl.symm;rw[el]at hce ⊢;have k0:(0≤(k:Int))=True:=eqt om;have k1:((k:Int)<x.col.length)=True:=eqt om;have k2:((s:Int)<c.length)=True:=eqt om;have k3:((s:Int)<x.tok.length)=True:=eqt om;have k4:(0≤(s:Int))=True:=eqt om
 by_cases g:t<0
 ·have k5:(t<0)=True:=eqt g;rw[ipo g];refine acO qsq ?_;simp (disch:=omega) only[qts,coC,qw,qI,k0,k1,k2,k4,k5,ec,et,go_sem]
  repeat' first
   |(apply qb;exact rvk;simp only[go_sem];exact qi)
   |with_reducible apply aiA
  all_goals try exact clz
 ·have k5:(t<0)=False:=eqf g;rw[ine g];have k6:(t<l.length)=True:=eqt (by rcases hce with e|e;omega;omega);have k7:(0≤t)=True:=eqt om;obtain⟨w,hw⟩: ∃w,w=l.getD t.toNat default:=⟨_,rfl⟩
  have ew:=hw.symm;rw[ew];refine acO qsq ?_;simp (disch:=omega) only[qts,coC,qw,qI,qm,zT,tkC,k0,k1,k2,k3,k4,k5,k6,k7,ec,et,el,ew,go_sem]
  repeat' first
   |(apply qb;exact rvk;simp only[go_sem];exact qi)
   |with_reducible apply aiA
  all_goals try exact clz
theorem cmP(h:List AObj)(ho:CoOk x)(hk:k<x.col.length):ACalls Tryz.prog 140 [.agg (coC x),.int .i64 (k:Int)] h (.bool (cmB x k)) h:=by
 have hsg:=ho.sg;obtain⟨R,hR⟩: ∃R,R=cmB x k:=⟨_,rfl⟩
 rw[←hR];unfold cmB at hR;have c0:=fun h=>qCu (x:=x) (k:=k) (s:=0) h ho hk hsg.1
 obtain⟨o0,ho0⟩: ∃o0,o0=clT x k 0:=⟨_,rfl⟩
 rw[←ho0]at hR c0;have ez:((0:Nat):Int)=0:=rfl;rw[ez]at c0;have zl: ∀g,valL g .len [strs x.sig]= .int .i64 x.sig.length:=fun _=>rfl
 have zo: ∀g,okL g .len [strs x.sig]=True:=fun _=>eqt trivial
 unfold coC at c0;refine acO qyK ?_;simp (disch:=omega) only[qxc,coC,go_sem]
 repeat' first
  |(refine cA (c0 _) flk ?_;simp (disch:=omega) only[zl,zo,go_sem])
  |with_reducible apply aiA
 all_goals try exact clz
 refine qu (T:=fun i:Nat=>ze 41 [(1,.int .i64 (k:Int)),(2,.op h.length 1 0),(5,.str (o0.getD [])),(6,.bool o0.isSome),(18,.int .i64 x.sig.length),(19,.int .i64 i)]) (H:=fun _=>h++ [.mem 1 26 (coC x)])
  (inv:=fun i=>i≤x.sig.length∧ ∀j,j<i→(decide (clT x k j=none)|| !decide (clT x k j=o0))=false) (m:=fun i=>x.sig.length-i) 0 ⟨nzl _,fun j hj=>absurd hj (nnz j)⟩ (Wk.temps ?_) ?_
 ·(simp only[go_sem,qg,qc,qa,qf];try (repeat' first|(with_reducible apply aiA)|(apply qh;omega)|(apply qe;rfl)|exact qi))
 rintro i ⟨i1,i2⟩ K hK
 by_cases hi:i<x.sig.length
 ·have k1:((i:Int)<x.sig.length)=True:=eqt om;have c1:=fun h=>qCu (x:=x) (k:=k) (s:=i) h ho hk hi
  have hno:(decide (clT x k i=none)|| !decide (clT x k i=o0))=true→R=false:=fun hx=>by rw[hR,qR.2 ⟨i,hi,hx⟩];rfl
  have hS:(decide (clT x k i=none)|| !decide (clT x k i=o0))=false→ ∀j,j<i+1→(decide (clT x k j=none)|| !decide (clT x k j=o0))=false:=fun hx j hj=>by
   by_cases e:j=i
   ·subst e;exact hx
   ·exact i2 j om
  obtain⟨o,hox⟩: ∃o,o=clT x k i:=⟨_,rfl⟩
  rw[←hox]at hno hS;rw[←hox]at c1;unfold coC at c1;cases o0 with
  |none=>
   have hV:R=false:=hno (by cases o<;>simp);rw[hV];simp (disch:=omega) only[coC,k1,Option.isSome_none,Option.getD_none,go_sem]
   repeat' first
    |(refine cA (c1 _) flk ?_;simp (disch:=omega) only[go_sem])
    |(apply qb;exact rvk;simp only[go_sem];exact qi)
    |with_reducible apply aiA
   all_goals try exact clz
  |some w0=>
  cases o with
  |none=>
   rw[hno rfl];simp (disch:=omega) only[coC,k1,Option.isSome_some,Option.getD_some,go_sem]
   repeat' first
    |(refine cA (c1 _) flk ?_;simp (disch:=omega) only[Option.isSome_none,Option.getD_none,Option.getD_some,go_sem])
    |(apply qb;exact rvk;simp only[go_sem];exact qi)
    |with_reducible apply aiA
   all_goals try exact clz
  |some w=>
  by_cases g:w=w0
  ·have q1:(w=w0)=True:=eqt g;simp (disch:=omega) only[coC,k1,Option.isSome_some,Option.getD_some,go_sem]
   repeat' first
    |(refine cA (c1 _) flk ?_;simp (disch:=omega) only[q1,Option.isSome_some,Option.getD_some,go_sem])
    |with_reducible apply aiA
   all_goals try exact clz
   refine hK _ _ (i+1) ⟨hi,hS (by rw[g];simp)⟩ om (Wk.temps ?_)
   (simp only[go_sem,qg,qc,qa,qf];try (repeat' first|(with_reducible apply aiA)|(apply qh;omega)|(apply qe;rfl)|exact qi))
  ·have q1:(w=w0)=False:=eqf g;rw[hno (by simp[g])];simp (disch:=omega) only[coC,k1,Option.isSome_some,Option.getD_some,go_sem]
   repeat' first
    |(refine cA (c1 _) flk ?_;simp (disch:=omega) only[q1,Option.isSome_some,Option.getD_some,go_sem])
    |(apply qb;exact rvk;simp only[go_sem];exact qi)
    |with_reducible apply aiA
   all_goals try exact clz
 ·have k1:((i:Int)<x.sig.length)=False:=eqf om;have hV:R=true:=by rw[hR,qt.2 fun j hj=>i2 j om];rfl
  rw[hV];simp (disch:=omega) only[coC,k1,go_sem]
  repeat' first
   |(apply qb;exact rvk;simp only[go_sem];exact qi)
end
theorem rdP(x:Co)(f t s:Nat)(h:List AObj)(ho:CoOk x)(ht:t≤x.col.length)(hs:s<x.sig.length)(hn:x.col.length≤1000000000):ACalls Tryz.prog 141 [.agg (coC x),.int .i64 (f:Int),.int .i64 (t:Int),.int .i64 (s:Int)] h (strs (rdG x s f (t-f))) h:=by
 refine acO qyL ?_;simp (disch:=omega) only[qxd,coC,go_sem];refine qu (T:=fun i:Nat×Nat×AObj=>ze 32 [(2,.int .i64 (t:Int)),(3,.int .i64 (s:Int)),(4,.op h.length 1 0),(9,.osl (h.length+2) i.2.1 1 0 (rdG x s f i.1).length),(10,.int .i64 ((f+i.1:Nat):Int))])
  (H:=fun i=>h++ [.mem 1 26 (coC x),.emp 1,zk i.2.1 9 (qak (rdG x s f i.1)),i.2.2,.emp 0])
  (inv:=fun i=>i.1≤t-f∧qJ [i.2.2] 0=true) (m:=fun i=>t-f-i.1) (0,1,.emp 0) ⟨nzl _,rfl⟩ (Wk.temps ?_) ?_
 ·(simp only[rdG,lnl,Nat.add_zero,go_sem,qg,qc,qa,qf];try (repeat' first|(with_reducible apply aiA)|(apply qh;omega)|(apply qe;rfl)|exact qi))
 rintro⟨d,v,O⟩ ⟨i1,i2⟩ K hK;simp only at i1 i2 hK;have i2': ∀m,qJ (O::m) 0=true:=fun _=>i2
 have hln:=qeD x s f d;have hst:rdG x s f (d+1)=rdG x s f d++(clT x (f+d) s).toList:=rfl;obtain⟨L,hL⟩: ∃L,L=rdG x s f d:=⟨_,rfl⟩
 rw[←hL]at hln hst;have eL:=hL.symm;have eC:=qaX L
 by_cases hi:f+d<t
 ·have k1:(((f+d:Nat):Int)<t)=True:=eqt om;have c1:=fun h=>qCu (x:=x) (k:=f+d) (s:=s) h ho om hs
  obtain⟨o,hox⟩: ∃o,o=clT x (f+d) s:=⟨_,rfl⟩
  rw[←hox]at hst c1;unfold coC at c1;have eTk:List.take L.length (qak L)=qak L:=ltl om;cases o with
  |none=>
   have hst:rdG x s f (d+1)=L:=by rw[hst];simp
   simp (disch:=omega) only[coC,k1,eL,go_sem]
   repeat' first
    |(refine cA (c1 _) flk ?_;simp (disch:=omega) only[i2',Option.isSome_none,Option.getD_none,go_sem])
    |with_reducible apply aiA
   all_goals try exact clz
   refine hK _ _ (d+1,v,O) ⟨om,i2⟩ (by simp only;omega) ?_;simp only[hst];refine Wk.temps ?_
   (simp only[go_sem,qg,qc,qa,qf];try (repeat' first|(with_reducible apply aiA)|(apply qh;omega)|(apply qe;rfl)|exact qi))
  |some w=>
   have hst:rdG x s f (d+1)=L++ [w]:=hst;simp (disch:=omega) only[coC,k1,eL,Option.isSome_some,Option.getD_some,go_sem]
   repeat' first
    |(refine cA (c1 _) flk ?_;simp (disch:=omega) only[i2',eC,eTk,Nat.mul_one,Option.isSome_some,Option.getD_some,go_sem])
    |with_reducible apply aiA
   all_goals try exact clz
   have eA:qak L++ [AV.str w]=qak (rdG x s f (d+1)):=by rw[hst,qrH];rfl
   try rw[eA]
   refine hK _ _ (d+1,v+1,.mem (qo (some O)+1) 9 [.str w]) ⟨om,rfl⟩ (by simp only;omega) ?_;simp only[hst,lap,lco,lnl];refine Wk.temps ?_
   (simp only[go_sem,qg,qc,qa,qf];try (repeat' first|(with_reducible apply aiA)|(apply qh;omega)|(apply qe;rfl)|exact qi))
 ·have k1:(((f+d:Nat):Int)<t)=False:=eqf om;obtain rfl:d=t-f:=by omega
  rw[eL];simp (disch:=omega) only[k1,go_sem]
  repeat' first
   |(apply qb;exact rvk;simp only[go_sem])
  exact qeI (fun _=>rfl) rfl
def fnU(l:List Un)(c:Int):Int:=qcM (fun i=>decide ((l.getD i default).frm≤c)&&decide (c<(l.getD i default).to)) l.length 0
theorem ql7(l:List Un)(c:Int): -1≤fnU l c∧fnU l c<l.length:=by
 unfold fnU;rcases jb (fun i=>decide ((l.getD i default).frm≤c)&&decide (c<(l.getD i default).to)) l.length with⟨i,h1,_,_,h4⟩|⟨_,h2⟩
 ·rw[h4];omega
 ·rw[h2];omega
def gwB(ws:List Str)(n:Nat):Bool:=ju (fun i=>decide (20<(ws.getD i []).length)) ws.length||decide (n<ws.length)
theorem kq{p:Nat→Bool}{i:Nat}(h: ∀j,j<i→p j=false)(hp:p i=false): ∀j,j<i+1→p j=false:=by
 intro j hj
 by_cases e:j=i
 ·subst e;exact hp
 ·exact h j om
theorem gwP(ws:List Str)(n:Nat)(h:List AObj)(hn:ws.length≤9223372036854775807):ACalls Tryz.prog 146 [strs ws,.int .i64 n] h (.bool (gwB ws n)) h:=by
 obtain⟨R,hR⟩: ∃R,R=gwB ws n:=⟨_,rfl⟩
 rw[←hR];unfold gwB at hR;refine acO qyQ ?_;simp (disch:=omega) only[qxi,strs,go_sem];refine qu (T:=fun i:Nat=>ze 22 [(0,strs ws),(1,.int .i64 n),(5,.int .i64 i)]) (H:=fun _=>h) (inv:=fun i=>i≤ws.length∧ ∀j,j<i→(fun i=>decide (20<(ws.getD i []).length)) j=false) (m:=fun i=>ws.length-i) 0 ⟨nzl _,fun j hj=>by omega⟩ (Wk.temps ?_) ?_
 ·(simp only[strs,go_sem,qg,qc,qa,qf];try (repeat' first|(with_reducible apply aiA)|(apply qh;omega)|(apply qe;rfl)|exact qi))
 rintro i ⟨i1,i2⟩ K hK
 by_cases hi:i<ws.length
 ·have k1:((i:Int)<ws.length)=True:=eqt om
  by_cases g:20<(ws.getD i []).length
  ·have hV:R=true:=by rw[hR,qR.2 ⟨i,hi,dqt g⟩];rfl
   obtain⟨s,hs⟩: ∃s,s=ws.getD i []:=⟨_,rfl⟩
   have es:=hs.symm;rw[es]at g;have k2:((20:Int)<s.length)=True:=eqt om;rw[hV];simp (disch:=omega) only[strs,k1,k2,es,go_sem]
   repeat' first
    |(apply qd;exact rvk;simp only[go_sem];exact qi)
    |with_reducible apply aiA
   all_goals try exact clz
  ·have i3:=kq i2 (dqf g);obtain⟨s,hs⟩: ∃s,s=ws.getD i []:=⟨_,rfl⟩
   have es:=hs.symm;rw[es]at g;have k2:((20:Int)<s.length)=False:=eqf om;simp (disch:=omega) only[strs,k1,k2,es,go_sem]
   repeat' first
    |with_reducible apply aiA
   all_goals try exact clz
   refine hK _ _ (i+1) ⟨hi,i3⟩ om (Wk.temps ?_)
   (simp only[strs,go_sem,qg,qc,qa,qf];try (repeat' first|(with_reducible apply aiA)|(apply qh;omega)|(apply qe;rfl)|exact qi))
 ·have k1:((i:Int)<ws.length)=False:=eqf om;rw[qt.2 (fun j hj=>i2 j om),Bool.false_or]at hR;have e:decide ((n:Int)<ws.length)=R:=by rw[hR];exact decide_eq_decide.2 om
  simp (disch:=omega) only[strs,k1,go_sem]
  repeat' first
   |(apply qd;exact rvk;simp only[go_sem];apply qe)
  all_goals try exact clz
theorem qAb{ws:List Str}{n:Nat}(h:gwB ws n=false):ws.length≤n∧ ∀i,(ws.getD i []).length≤20:=by
 unfold gwB at h;rw[Bool.or_eq_false_iff,decide_eq_false_iff_not,qt]at h;refine⟨om,fun i=> ?_⟩
 by_cases hi:i<ws.length
 ·have:=of_decide_eq_false (h.1 i hi)
  omega
 ·rw[gdqA,List.getElem?_eq_none om];exact nzl _
end RC
end
section
open Go Go.Proofs AF HY LN
namespace AF
end AF
namespace RC
theorem qjj(L:List Gr):(qo0 L).solid=true:=rfl
theorem qiv(L:List Gr):(qo0 L).cells= [qo0 L]:=rfl
theorem qji(L:List En):(qoZ L).solid=true:=rfl
theorem qiu(L:List En):(qoZ L).cells= [qoZ L]:=rfl
theorem qnW(names:List Str)(gs:List Gr)(e:En):(stV names gs e).solid=true:=rfl
theorem qll(names:List Str)(gs:List Gr)(e:En):(stV names gs e).cells= [stV names gs e]:=rfl
theorem qnU(names:List Str)(gs:List Gr)(L:List En):(msV names gs L).solid=true:=rfl
theorem qlj(names:List Str)(gs:List Gr)(L:List En):(msV names gs L).cells= [msV names gs L]:=rfl
theorem qgL(L:List Int):(qI L).solid=true:=rfl
theorem qgl(L:List Int):(qI L).cells= [qI L]:=rfl
attribute [go_sem] qjj qiv qji qiu qnW qll qnU qlj qgL qgl
end RC
end
section
open Go Go.Proofs AF HY LN
namespace RC
section
variable (names : List Str) (gs : List Gr) (t : List Str) (l : List En) (src : Int) (h : List AObj)
theorem qrx{v n:Nat}{L:List Int}{g:AV→AV}(hg: ∀s,g (.int .i64 s)= .int .i64 s)(hn:n=L.length):VLe (qhW (some (zk v 3 (qU L))) v 1 0 n g) (qI L):=by
 subst hn
 by_cases h:L= []
 ·subst h;show VLe (qhW (some (.emp v)) v 1 0 0 g) _;rw[slOf_emp,ipo rfl];exact zf
 ·have e0:zk v 3 (qU L)= .mem v 3 (qU L):=qas (fun e=>h (qmp.1 e));rw[e0,slOf_mem,ipo ⟨rfl,by rw[jZ];omega⟩];simp only[Nat.zero_add,Nat.mul_one];exact qmq g hg rfl
end
section
variable (names : List Str) (gs : List Gr) (t : List Str) (l : List En) (src : Int) (h : List AObj)
end
theorem eqS(a:List Str)(h:List AObj)(hn:a.length≤1000000000):ACalls Tryz.prog 36 [strs a,strs a] h (.bool true) h:=by
 have c:=qCJ qzM a.length a.length (fun j=> .s (a.getD j [])) (fun j=> .s (a.getD j [])) h (fun _ _ _=>rfl) om om;rw[dqt ⟨rfl,fun _ _=>rfl⟩]at c;exact c
theorem qCK{L:List Str}{X:AV}{h:List AObj}(hv:qbW ([strs L,X].map (rei (fun _=>true) h 8)) [strs L,strs L])(hn:L.length≤1000000000):ACalls Tryz.prog 36 [strs L,X] h (.bool true) h:=
 ACalls.borrow ((eqS L [] hn).le hv (qi)) rfl
end RC
end
section
open Go Go.Proofs AF HY LN
namespace RC
end RC
namespace RC
end RC
end
section
open Go Go.Proofs AF HY LN
namespace AF
structure qwv (E:AV) (n:Nat) (cs:List AV):Prop where
 fl:E.flag=true
 st:E.strip=E
 vl: ∀g,valL g .len [E]= .int .i64 n
 ok: ∀g,okL g .len [E]=True
 sc: ∀g,qk g E=some (n,cs)
 ap: ∀k v z p m,qch (.osl k v z p m) E=true
theorem qwv.sl(n:Nat)(f:Nat→List AV):qwv (.sl n f) n ((List.range n).flatMap f):=⟨rfl,rfl,fun _=>rfl,fun _=>eqt trivial,fun _=>rfl,fun _ _ _ _ _=>rfl⟩
end AF
namespace RC
theorem qwv.strs(L:List Str):qwv (strs L) L.length (qak L):=⟨rfl,rfl,fun _=>rfl,fun _=>eqt trivial,fun g=>qrF g L,fun _ _ _ _ _=>rfl⟩
theorem qwv.sub{t:List Str}{a b:Nat}(h1:a≤b)(h2:b≤t.length):qwv (.sl (b-a) fun i=> [.str (t.getD (a+i) [])]) (qo3 t a b).length (qak (qo3 t a b)):=by
 rw[qrR h1 h2];exact⟨rfl,rfl,fun _=>rfl,fun _=>eqt trivial,fun g=>qn4 g h1 h2,fun _ _ _ _ _=>rfl⟩
end RC
end
section
open Go Go.Proofs AF HY LN
namespace RC
def qjG(ms:List Nat):AV:= .sl ms.length fun i=> [.int .u64 ((ms.getD i 0:Nat):Int)]
theorem qiO(L:List Nat):(qjG L).flag=true:=rfl
theorem qgY(L:List Nat):(qjG L).strip=qjG L:=rfl
theorem qgO(L:List Nat):(qjG L).solid=true:=rfl
theorem qgo(L:List Nat):(qjG L).cells= [qjG L]:=rfl
attribute [go_sem] qiO qgY qgO qgo
structure qs5 (L:List Rd) (s:Nat):Prop where
 src: ∀r∈L,r.src.Pairwise (· < ·)∧ ∀x∈r.src,0≤x∧x<s
 ne: ∀i j,i<j→j<L.length→(L.getD i default).words≠(L.getD j default).words
theorem qb6(L:List Rd)(w:List Str):(∃i,i<L.length∧(L.getD i default).words=w∧qjW L w=i)∨((∀i,i<L.length→(L.getD i default).words≠w)∧qjW L w<0):=by
 unfold qjW;rcases jb (fun j=>decide (w=(L.getD j default).words)) L.length with⟨i,h1,h2,_,h4⟩|⟨h1,h2⟩
 ·exact .inl ⟨i,h1,(of_decide_eq_true h2).symm,h4⟩
 ·exact .inr ⟨fun i hi e=>of_decide_eq_false (h1 i hi) e.symm,om⟩
theorem kC{L:List Rd}{i j:Nat}{r:Rd}(hi:i<L.length):(L.set i r).getD j default=if j=i then r else L.getD j default:=by
 rw[gdqA,List.getElem?_set]
 by_cases e:i=j
 ·subst e;rw[ipo rfl,ipo hi,ipo rfl];rfl
 ·rw[ine e,ine (fun h=>e h.symm),gdqA]
theorem qo8{L:List Rd}{w:List Str}{s:Nat}(h:qs5 L s):qs5 (qga L w s) (s+1):=by
 have g: ∀i (hi:i<L.length),L.getD i default=L[i]:=fun i hi=>by rw[gdqA,zL hi];rfl
 rcases qb6 L w with⟨i,h1,h2,h3⟩|⟨h1,h2⟩
 ·have e:qga L w s=L.set i ⟨w,(L.getD i default).src++ [(s:Int)]⟩:=by
   unfold qga;rw[h3,ine om,itn]
  rw[e];have hm:=h.src (L.getD i default) (by rw[g i h1];exact List.getElem_mem h1);refine⟨fun r hr=> ?_,fun a b hab hb=> ?_⟩
  ·rcases List.mem_or_eq_of_mem_set hr with hr|rfl
   ·obtain⟨a,b⟩:=h.src r hr;exact⟨a,fun x hx=>by have:=b x hx;omega⟩
   ·refine⟨List.pairwise_append.2 ⟨hm.1,List.pairwise_singleton _ _,fun a ha b hb=> ?_⟩,fun x hx=> ?_⟩
    ·rw[List.mem_singleton]at hb
     have:=hm.2 a ha
     omega
    ·rcases List.mem_append.1 hx with hx|hx
     ·have:=hm.2 x hx;omega
     ·rw[List.mem_singleton]at hx;omega
  ·rw[List.length_set]at hb;rw[kC h1,kC h1];have key: ∀j,j<L.length→j≠i→(L.getD j default).words≠w:=fun j hj hne e=>by
    rw[←h2]at e;rcases Nat.lt_or_gt_of_ne hne with hlt|hlt
    ·exact h.ne j i hlt h1 e
    ·exact h.ne i j hlt hj e.symm
   by_cases ea:a=i
   ·rw[ipo ea,ine om];exact fun e=>key b hb om e.symm
   ·rw[ine ea]
    by_cases eb:b=i
    ·rw[ipo eb];exact key a om ea
    ·rw[ine eb];exact h.ne a b hab hb
 ·have e:qga L w s=L++ [⟨w,[(s:Int)]⟩]:=by
   unfold qga;rw[ipo h2]
  rw[e];refine⟨fun r hr=> ?_,fun a b hab hb=> ?_⟩
  ·rcases List.mem_append.1 hr with hr|hr
   ·obtain⟨a,b⟩:=h.src r hr;exact⟨a,fun x hx=>by have:=b x hx;omega⟩
   ·rw[List.mem_singleton]at hr;subst hr;exact⟨List.pairwise_singleton _ _,fun x hx=>by rw[List.mem_singleton]at hx;omega⟩
  ·rw[lap,List.length_singleton]at hb;have ga: ∀j,j<L.length→(L++ [(⟨w,[(s:Int)]⟩:Rd)]).getD j default=L.getD j default:=fun j hj=>by
    rw[gdqA,List.getElem?_append_left hj,gdqA]
   rw[ga a om]
   by_cases eb:b<L.length
   ·rw[ga b eb];exact h.ne a b hab eb
   ·have:b=L.length:=by omega
    subst this;have gb:(L++ [(⟨w,[(s:Int)]⟩:Rd)]).getD L.length default=⟨w,[(s:Int)]⟩:=by
     rw[gdqA,List.getElem?_append_right (nlr _),Nat.sub_self];rfl
    rw[gb];exact h1 a om
theorem qhP(x:Co)(f d:Nat): ∀s,qs5 (qcs x f d s) s:=by
 intro s
 induction s with
 |zero=>exact⟨fun r hr=>absurd hr List.not_mem_nil,fun i j _ h=>absurd h (nnz j)⟩
 |succ s ih=>exact qo8 ih
structure qs4 (L:List Rd) (s:Nat) (W:Nat→List Str):Prop where
 has: ∀i,i<s→ ∃j,j<L.length∧(i:Int)∈(L.getD j default).src
 wd: ∀j,j<L.length→ ∀x∈(L.getD j default).src,(L.getD j default).words=W x.toNat
 nn: ∀j,j<L.length→(L.getD j default).src≠ []
theorem qbu{L:List Rd}{r:Rd}{j:Nat}:(L++ [r]).getD j default=if j<L.length then L.getD j default else if j=L.length then r else default:=by
 rw[gdqA];split
 ·rename_i h;rw[List.getElem?_append_left h,gdqA]
 ·rename_i h;rw[List.getElem?_append_right om];split
  ·rename_i e;subst e;rw[Nat.sub_self];rfl
  ·rw[List.getElem?_eq_none (by rw[List.length_singleton];omega)];rfl
theorem qo7{L:List Rd}{s:Nat}{W:Nat→List Str}(h:qs4 L s W):qs4 (qga L (W s) s) (s+1) W:=by
 rcases qb6 L (W s)with⟨k,h1,h2,h3⟩|⟨h1,h2⟩
 ·have e:qga L (W s) s=L.set k ⟨W s,(L.getD k default).src++ [(s:Int)]⟩:=by
   unfold qga;rw[h3,ine om,itn]
  rw[e];refine⟨fun i hi=> ?_,fun j hj x hx=> ?_,fun j hj=> ?_⟩
  ·by_cases ei:i=s
   ·subst ei;exact⟨k,by rw[List.length_set];exact h1,by rw[kC h1,ipo rfl];exact List.mem_append_right _ (List.mem_singleton.2 rfl)⟩
   ·obtain⟨j,hj,hx⟩:=h.has i om;refine⟨j,by rw[List.length_set];exact hj,?_⟩;rw[kC h1];split
    ·rename_i e';subst e';exact List.mem_append_left _ hx
    ·exact hx
  ·rw[List.length_set]at hj;rw[kC h1]at hx ⊢;split at hx
   ·rename_i e';rw[ipo e'];rcases List.mem_append.1 hx with hx|hx
    ·rw[←h2];exact h.wd k h1 x hx
    ·rw[List.mem_singleton]at hx;subst hx;rfl
   ·rename_i e';rw[ine e'];exact h.wd j hj x hx
  ·rw[List.length_set]at hj;rw[kC h1];split
   ·exact fun e=>absurd (List.append_eq_nil_iff.1 e).2 (by simp)
   ·exact h.nn j hj
 ·have e:qga L (W s) s=L++ [⟨W s,[(s:Int)]⟩]:=by
   unfold qga;rw[ipo h2]
  rw[e];refine⟨fun i hi=> ?_,fun j hj x hx=> ?_,fun j hj=> ?_⟩
  ·by_cases ei:i=s
   ·subst ei;exact⟨L.length,by rw[lap,List.length_singleton];omega,by rw[qbu,ine om,ipo rfl];exact List.mem_singleton.2 rfl⟩
   ·obtain⟨j,hj,hx⟩:=h.has i om;exact⟨j,by rw[lap,List.length_singleton];omega,by rw[qbu,ipo hj];exact hx⟩
  ·rw[lap,List.length_singleton]at hj;rw[qbu]at hx ⊢;split at hx
   ·rename_i hl;rw[ipo hl];exact h.wd j hl x hx
   ·rename_i hl;rw[ine hl,ipo om];rw[ipo om]at hx;rw[List.mem_singleton]at hx;subst hx;rfl
  ·rw[lap,List.length_singleton]at hj;rw[qbu];split
   ·rename_i hl;exact h.nn j hl
   ·rw[ipo om];simp
theorem qhO(x:Co)(f d:Nat): ∀s,qs4 (qcs x f d s) s fun i=>rdG x i f d:=by
 intro s
 induction s with
 |zero=>exact⟨fun i h=>absurd h (nnz i),fun j h=>absurd h (nnz j),fun j h=>absurd h (nnz j)⟩
 |succ s ih=>exact qo7 ih
end RC
end
