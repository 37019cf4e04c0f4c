import Derived.Test.YtmieflnoheifbaaGreatDoorK9
import Derived.Test.YtmieflnoheifbaaGreatDoorK3
import Derived.Test.YtmieflnoheifbaaGreatDoorK5
import Derived.Test.YtmieflnoheifbaaGreatDoorK8
import Derived.Test.YtmieflnoheifbaaGreatDoorProg
set_option linter.all false
set_option maxHeartbeats 64000000
set_option maxRecDepth 100000
section
open Go Go.Proofs AF HY LN
namespace RC
structure qbd (x:Co):Prop where
 sc:x.sec.length<=1000000000
 sg:x.sig.length<=1000000000
 ss: ∀i,(x.sig.getD i []).length<=1000000000
 tk:x.tok.length<=1000000000
 tl: ∀i,(x.tok.getD i []).length<=1000000000
 te: ∀i j,qq2 ((x.tok.getD i []).getD j default)
 cl:x.col.length<=1000000000
 ce: ∀i,(x.col.getD i []).length<=1000000000
theorem qDZ(s:Str)(h:wh)(hs:s.length<=1000000000):ACalls Tryz.prog 182 [.str s] h (.bool (qqm s)) h:=by
 have c1:=λh=>qxM s h hs
 unfold qqm;cases g:qf6 s with
 |true=>
  rw[g]at c1;simp only[if_true]at c1;have c2:=λh=>t44 (s.take (s.length-1)) h (by simp;omega)
  rw[ipo rfl];cases g2:f6 (s.take (s.length-1))with
  |true=>
   rw[g2]at c2;have k7:decide ((s.length:Int)<=16)=decide (s.length<=16):=decide_eq_decide.2 om;refine acO qgL ?_;simp (disch:=omega) only[qj1,go_sem]
   repeat' first|((first|refine cA (c1 _) ?_ ?_|refine cA (c2 _) ?_ ?_);exact flk;simp (disch:=omega) only[k7,go_sem])|exact wc|with_reducible apply aiA|exact clz|fail
  |false=>
   rw[g2]at c2;refine acO qgL ?_;simp (disch:=omega) only[qj1,go_sem]
   repeat' first|((first|refine cA (c1 _) ?_ ?_|refine cA (c2 _) ?_ ?_);exact flk;simp (disch:=omega) only[go_sem])|exact wc|with_reducible apply aiA|exact clz|fail
 |false=>
  rw[g]at c1;rw[ine (by simp)]at c1 ⊢;have c2:=λh=>t44 s h hs
  cases g2:f6 s with
  |true=>
   rw[g2]at c2;refine acO qgL ?_;simp (disch:=omega) only[qj1,go_sem]
   repeat' first|((first|refine cA (c1 _) ?_ ?_|refine cA (c2 _) ?_ ?_);exact flk;simp (disch:=omega) only[go_sem])|exact wc|with_reducible apply aiA|exact clz|fail
  |false=>
   rw[g2]at c2;refine acO qgL ?_;simp (disch:=omega) only[qj1,go_sem]
   repeat' first|((first|refine cA (c1 _) ?_ ?_|refine cA (c2 _) ?_ ?_);exact flk;simp (disch:=omega) only[go_sem])|exact wc|with_reducible apply aiA|exact clz|fail
theorem qGs(t:Tk)(h:wh)(hz:qq2 t)(hp:cb SG h):ACalls Tryz.prog 184 [.agg (tkC t)] h (.bool (!decide (tkE t=0))) h:=by
 have c1:=λl=>tkP t (h++l) hz (hp.app l)
 obtain⟨e,he⟩:=wg (tkE t)
 rw[<-he]at c1 ⊢;unfold tkC at c1;refine acO qyp ?_;simp (disch:=omega) only[qwp,tkC,go_sem]
 repeat' first|(refine cA (c1 _) flk ?_;simp (disch:=omega) only[go_sem])|exact wa|fail
theorem qFt(l:List Tk)(h:wh)(hl:l.length<=1000000000)(hz: ∀j,qq2 (l.getD j default))(hp:cb SG h):
  ACalls Tryz.prog 183 [zy l,.fn (.func 184) [] []] h (.bool (jC (λj=> !decide (tkE (l.getD j default)=0)) l.length)) h:=by
 unfold zy;refine qxL qrm ⟨rfl,rfl⟩ ⟨rfl,rfl⟩ (qeG qrt l.length (λj=>tkC (l.getD j default)) (λj=> .agg (tkC (l.getD j default))) _ [] [] _ h (λi _=>⟨rfl,by simp[kv,tkC],rfl,rfl,rfl⟩) (λi _=> ?_) om);exact qGs _ h (hz i) hp
theorem qGt(x:Co)(h:wh)(hz:qbd x)(hp:cb SG h):ACalls Tryz.prog 111 [.str x.sec,strs x.sig,qn x.tok] h (.int .i64 (srE x)) h:=by
 obtain⟨R,hR⟩:=wg (srE x)
 rw[<-hR];unfold srE at hR;have z1:=hz.sg;have z2:=hz.tk;have cN:=λh=>t44 x.sec h hz.sc
 cases g0:f6 x.sec with
 |false=>
  rw[g0]at cN;rw[ipo g0]at hR;rw[hR];refine acO qgH ?_;simp (disch:=omega) only[qjX,strs,qn,go_sem]
  repeat' first|(refine cA (cN _) flk ?_;simp (disch:=omega) only[go_sem])|exact wc|fail
 |true=>
 rw[g0]at cN;rw[ine (by rw[g0];simp)]at hR
 by_cases g1:x.sig.length=0
 ·have k1:((x.sig.length:Int)=0)=True:=wj;rw[ipo g1]at hR;rw[hR];refine acO qgH ?_;simp (disch:=omega) only[qjX,strs,qn,go_sem]
  repeat' first|(refine cA (cN _) flk ?_;simp (disch:=omega) only[k1,go_sem])|exact wc|fail
 have k1:((x.sig.length:Int)=0)=False:=wl;rw[ine g1]at hR
 by_cases g2:32<x.sig.length
 ·have k2:((32:Int)<x.sig.length)=True:=wj;rw[ipo g2]at hR;rw[hR];refine acO qgH ?_;simp (disch:=omega) only[qjX,strs,qn,go_sem]
  repeat' first|(refine cA (cN _) flk ?_;simp (disch:=omega) only[k1,k2,go_sem])|exact wc|fail
 have k2:((32:Int)<x.sig.length)=False:=wl;rw[ine g2]at hR;refine acO qgH ?_;simp (disch:=omega) only[qjX,strs,qn,go_sem]
 repeat' first|(refine cA (cN _) flk ?_;simp (disch:=omega) only[k1,k2,go_sem])
 refine qk (T:=λi:Nat=>qP 56 [(1,strs x.sig),(2,qn x.tok),(23,strs x.sig),(24,.int .i64 x.sig.length),(25,.int .i64 i)]) (H:=λ_=>h) (inv:=λi=>i<=x.sig.length∧ ∀j,j<i->kf x.sig j=0) (m:=λi=>x.sig.length-i) 0 ⟨nzl _,λj hj=>by omega⟩ (Wk.temps ?_) ?_
 ·(simp only[strs,qn,go_sem,qf,qc,qa,qe];try exact we)
 rintro i ⟨i1,i2⟩ K hK
 by_cases hi:i<x.sig.length
 ·have k3:((i:Int)<x.sig.length)=True:=wj;have k4:((i:Int)<=x.sig.length)=True:=wj;have hE:=Ux (f:=kf x.sig) hi i2;have hs:kf x.sig i=if qqm (x.sig.getD i [])=false then 14 else if jC (λj=>decide (x.sig.getD i []=x.sig.getD j [])) i=true then 7 else 0:=rfl
  have c87:=λh=>qDZ (x.sig.getD i []) h (hz.ss i)
  have c88:=λh=>qCX i (λj=>x.sig.getD j []) (x.sig.getD i []) h om
  obtain⟨s,hsx⟩:=wg (x.sig.getD i [])
  have es:=hsx.symm;rw[es]at hs c87;simp only[es]at hs c88;cases g3:qqm s with
  |false=>
   rw[g3]at c87;rw[ipo g3]at hs;have hne:qah (kf x.sig) 0 x.sig.length≠0:=by rw[hE (by rw[hs];decide),hs];decide
   have hV:R=14:=by rw[hR,ipo hne,hE (by rw[hs];decide),hs]
   rw[hV];simp (disch:=omega) only[strs,qn,k3,es,go_sem]
   repeat' first|(refine cA (c87 _) flk ?_;simp (disch:=omega) only[k4,go_sem])|exact wc|with_reducible apply aiA|exact clz|fail
  |true=>
  rw[g3]at c87;rw[ine (by rw[g3];simp)]at hs;cases g4:jC (λj=>decide (s=x.sig.getD j [])) i with
  |true=>
   rw[g4]at c88;rw[ipo g4]at hs;have hne:qah (kf x.sig) 0 x.sig.length≠0:=by rw[hE (by rw[hs];decide),hs];decide
   have hV:R=7:=by rw[hR,ipo hne,hE (by rw[hs];decide),hs]
   rw[hV];simp (disch:=omega) only[strs,qn,k3,es,go_sem]
   repeat' first|((first|refine cA (c87 _) ?_ ?_|refine cA (c88 _) ?_ ?_);exact flk;simp (disch:=omega) only[k4,Nat.sub_zero,go_sem])|exact wc|with_reducible apply aiA|exact clz|fail
  |false=>
   rw[g4]at c88;rw[ine (by rw[g4];simp)]at hs;simp (disch:=omega) only[strs,qn,k3,es,go_sem]
   repeat' first|((first|refine cA (c87 _) ?_ ?_|refine cA (c88 _) ?_ ?_);exact flk;simp (disch:=omega) only[k4,Nat.sub_zero,go_sem])|with_reducible apply aiA|exact clz|fail
   refine hK _ _ (i+1) ⟨hi,λj hj=> ?_⟩ om (Wk.temps ?_)
   ·by_cases e:j=i
    ·subst e;exact hs
    ·exact i2 j om
   ·(simp only[strs,qn,go_sem,qf,qc,qa,qe];try exact we)
 have k3:((i:Int)<x.sig.length)=False:=wl;have hn0:=jO (f:=kf x.sig) (λj (hj:j<x.sig.length)=>i2 j om);rw[ine (λhc=>hc hn0)]at hR
 by_cases g5:x.tok.length=x.sig.length
 case neg=>
  have k5:((x.tok.length:Int)=x.sig.length)=False:=wl;rw[ipo g5]at hR;rw[hR];simp (disch:=omega) only[strs,qn,k3,k5,go_sem]
  repeat' first|exact wc|fail
 have k5:((x.tok.length:Int)=x.sig.length)=True:=wj;rw[ine (λhc=>hc g5)]at hR;clear hK;simp (disch:=omega) only[strs,qn,k3,k5,go_sem];obtain⟨rw0,hrw⟩: ∃f:Nat->Int,f=λi=>qd4 (x.tok.getD i []):=⟨_,rfl⟩
 have er: ∀i,rw0 i=qd4 (x.tok.getD i []):=λi=>by rw[hrw]
 rw[<-hrw]at hR;refine qk (T:=λi:Nat=>qP 56 [(44,qn x.tok),(45,.int .i64 x.tok.length),(46,.int .i64 i)]) (H:=λ_=>h) (inv:=λi=>i<=x.tok.length∧ ∀j,j<i->rw0 j=0) (m:=λi=>x.tok.length-i) 0 ⟨nzl _,λj hj=>by omega⟩ (Wk.temps ?_) ?_
 ·(simp only[qn,go_sem,qf,qc,qa,qe];try exact we)
 rintro i ⟨i1,i2⟩ K hK
 by_cases hi:i<x.tok.length
 ·have k6:((i:Int)<x.tok.length)=True:=wj;have hE:=Ux (f:=rw0) hi i2;have hs:=er i;have zl:=hz.tl i;have zt:=hz.te i;obtain⟨l,hl⟩:=wg (x.tok.getD i [])
  have el:=hl.symm;rw[el]at hs zl;simp only[el]at zt;unfold qd4 at hs
  by_cases g6:1024<l.length
  ·have k7:((1024:Int)<l.length)=True:=wj;rw[ipo g6]at hs;have hV:R=4:=by rw[hR,hE (by rw[hs];decide),hs]
   rw[hV];simp (disch:=omega) only[qn,zy,k6,k7,el,go_sem]
   repeat' first|exact wc|with_reducible apply aiA|exact clz|fail
  have k7:((1024:Int)<l.length)=False:=wl;rw[ine g6]at hs;have cT:=qFt l h zl zt hp;have eA:jC (λj=>decide (tkE (l.getD j default)≠0)) l.length=jC (λj=> !decide (tkE (l.getD j default)=0)) l.length:=qhu λj _=>by simp
  rw[eA]at hs;unfold zy at cT;obtain⟨b,hb⟩:=wg (jC (λj=> !decide (tkE (l.getD j default)=0)) l.length)
  rw[<-hb]at hs cT;cases b with
  |true=>
   rw[ipo rfl]at hs;have hV:R=1:=by rw[hR,hE (by rw[hs];decide),hs]
   rw[hV];simp (disch:=omega) only[qn,zy,k6,k7,el,go_sem]
   repeat' first|(refine cA (cT) flk ?_;simp (disch:=omega) only[go_sem])|exact wc|with_reducible apply aiA|exact clz|fail
  |false=>
   rw[ine (by simp)]at hs;simp (disch:=omega) only[qn,zy,k6,k7,el,go_sem]
   repeat' first|(refine cA (cT) flk ?_;simp (disch:=omega) only[go_sem])|with_reducible apply aiA|exact clz|fail
   refine hK _ _ (i+1) ⟨hi,λj hj=> ?_⟩ om (Wk.temps ?_)
   ·by_cases e:j=i
    ·subst e;exact hs
    ·exact i2 j om
   ·(simp only[qn,zy,go_sem,qf,qc,qa,qe];try exact we)
 ·have k6:((i:Int)<x.tok.length)=False:=wl;rw[jO (λj (hj:j<x.tok.length)=>i2 j om)]at hR;rw[hR];simp (disch:=omega) only[qn,k6,go_sem]
  repeat' first|exact wc|fail
theorem qF4(l:List Tk)(h:wh):ACalls Tryz.prog 262 [zy l] h (.bool (decide (1024<l.length))) h:=by
 have k:decide ((1024:Int)<l.length)=decide (1024<l.length):=decide_eq_decide.2 om;refine acO qyU ?_;simp (disch:=omega) only[qwS,zy,go_sem]
 repeat' first|(apply qh;exact rvk;simp only[go_sem];apply qd)|exact clz|fail
theorem qF5(L:List (List Tk))(h:wh)(h1:0<L.length)(h2:L.length<=32)(h3: ∀s,s<L.length->(L.getD s []).length<=1024):ACalls Tryz.prog 186 [qn L] h (.int .i64 0) h:=by
 have k1:((L.length:Int)=0)=False:=wl;have k2:((32:Int)<L.length)=False:=wl;have c: ∀h,ACalls Tryz.prog 261 [qn L,.fn (.func 262) [] []] h (.bool false) h:=λh=>by
  have e:jC (λj=>decide (1024<(L.getD j []).length)) L.length=false:=qp.2 λs hs=>dqf (by have:=h3 s hs;omega)
  rw[<-e];unfold qn;refine qxL qyT ⟨rfl,rfl⟩ ⟨rfl,rfl⟩ (qeG qzd L.length (λj=> [zy (L.getD j [])]) (λj=>zy (L.getD j [])) _ [] [] _ h (λi _=>⟨rfl,by simp[kv],rfl,rfl,rfl⟩) (λi _=> ?_) om);exact qF4 _ h
 unfold qn at c;refine acO qyq ?_;simp (disch:=omega) only[qwq,qn,k1,k2,go_sem]
 repeat' first|(refine cG (λe=>c _) flk ?_;simp (disch:=omega) only[go_sem])|exact wc|fail
def gC(g:Nat->AV)(n:Nat):wi:=(List.range n).map g
theorem fb(g:Nat->AV)(n:Nat):(gC g n).length=n:=by simp[gC]
theorem qaL{g:Nat->AV}{n k:Nat}(hk:k<n):(gC g n)[k]? =some (g k):=by
 unfold gC;rw[List.getElem?_map,List.getElem?_range hk];rfl
theorem qb2{p q:Nat->AV}{n:Nat}(h: ∀k,k<n->p k=q k):gC p n=gC q n:=by
 unfold gC;exact List.map_congr_left λk hk=>by rw[h k (List.mem_range.1 hk)]
theorem qz0{g:Nat->AV}{n u:Nat}(x:AV)(hu:u<n):List.take u (gC g n)++ [x]++List.drop (u+1) (gC g n)=gC (λk=>if k=u then x else g k) n:=by
 refine List.ext_getElem? λk=> ?_
 by_cases hk:k<n
 ·rw[qaL hk]
  by_cases h1:k<u
  ·rw[List.append_assoc,List.getElem?_append_left (by rw[List.length_take,fb];omega),List.getElem?_take_of_lt h1,qaL hk,ine om]
  ·by_cases h2:k=u
   ·subst h2;rw[List.append_assoc,List.getElem?_append_right (by rw[List.length_take,fb];omega),List.length_take,fb,show k-min k n=0 by omega,ipo rfl];rfl
   ·rw[List.getElem?_append_right (by rw[lap,List.length_take,fb];simp only[lco,lnl];omega),lap,List.length_take,fb,List.getElem?_drop];simp only[lco,lnl];rw[show u+1+(k-(min u n+(0+1)))=k by omega,qaL hk,ine h2]
 ·rw[List.getElem?_eq_none (by simp only[lap,List.length_take,List.length_drop,fb,lco,lnl];omega),List.getElem?_eq_none (by rw[fb];omega)]
theorem qld(z:AV)(n:Nat):zM [z] n=gC (λ_=>z) n:=by
 induction n with
 |zero=>rfl
 |succ n ih=>
  have e:gC (λ_=>z) (n+1)=z::gC (λ_=>z) n:=by
   unfold gC;rw[List.range_succ_eq_map,List.map_cons,List.map_map];rfl
  rw[e,<-ih];rfl
section
variable {tok : List (List Tk)} {col : List (List Int)} {i s : Nat}
theorem qkx(h:(col.getD i []).length≠tok.length):qey tok col i=false:=by unfold qey;rw[dqf h,Bool.false_and]
theorem qrf(hs:s<tok.length)(h:enB tok col i s=false):qey tok col i=false:=by
 unfold qey;rw[qN.2 ⟨s,hs,by rw[h];rfl⟩];simp
theorem qrg(h1:(col.getD i []).length=tok.length)(h2: ∀s,s<tok.length->enB tok col i s=true):qey tok col i=jC (λs=> !decide ((col.getD i []).getD s 0= -1)) tok.length:=by
 unfold qey;rw[dqt h1,qp.2 (λs hs=>by rw[h2 s hs];rfl)];simp
theorem qvS(hi:i<col.length)(h:qey tok col i=false):alB tok col=false:=by
 unfold alB;rw[qN.2 ⟨i,hi,by rw[h];rfl⟩];simp
theorem qq4(hs:s<tok.length)(h:cnC col s col.length≠(tok.getD s []).length):alB tok col=false:=by
 unfold alB;rw[qN.2 ⟨s,hs,by rw[dqf h];rfl⟩,Bool.not_true,Bool.and_false]
theorem qq5(h1: ∀i,i<col.length->qey tok col i=true)(h2: ∀s,s<tok.length->cnC col s col.length=(tok.getD s []).length):alB tok col=true:=by
 unfold alB;rw[qp.2 (λi hi=>by rw[h1 i hi];rfl),qp.2 (λs hs=>by rw[dqt (h2 s hs)];rfl)];rfl
theorem qre: ∀i,cnC col s i<=i:=by
 intro i
 induction i with
 |zero=>exact nlr _
 |succ i ih=>unfold cnC;split<;>omega
def atA(col:List (List Int))(i s k:Nat):AV:= .int .i64 ((if k<s then cnC col k (i+1) else cnC col k i:Nat):Int)
theorem qq8:atA col i s s= .int .i64 (cnC col s i:Int):=by unfold atA;rw[ine (Nat.lt_irrefl _)]
theorem qvZ(n:Nat):gC (atA col 0 0) n=gC (λ_=> .int .i64 0) n:=qb2 λk _=>by unfold atA;rw[ine (nnz _)];rfl
theorem qi7(n:Nat):gC (atA col i n) n=gC (atA col (i+1) 0) n:=qb2 λk hk=>by unfold atA;rw[ipo hk,ine (nnz _)]
theorem qgu{n:Nat}(h:(col.getD i []).getD s 0= -1):gC (atA col i s) n=gC (atA col i (s+1)) n:=qb2 λk hk=>by
 unfold atA
 by_cases e:k=s
 ·subst e;rw[ine (Nat.lt_irrefl _),ipo (Nat.lt_succ_self _)];show _=AV.int .i64 ((cnC col k i+if (col.getD i []).getD k 0= -1 then 0 else 1:Nat):Int);rw[ipo h];rfl
 ·by_cases h1:k<s
  ·rw[ipo h1,ipo om]
  ·rw[ine h1,ine om]
theorem qgv{n:Nat}(hs:s<n)(h:(col.getD i []).getD s 0≠ -1):List.take s (gC (atA col i s) n)++ [.int .i64 ((cnC col s i:Int)+1)]++List.drop (s+1) (gC (atA col i s) n)=gC (atA col i (s+1)) n:=by
 rw[qz0 _ hs];refine qb2 λk hk=> ?_
 unfold atA
 by_cases e:k=s
 ·subst e;rw[ipo rfl,ipo (Nat.lt_succ_self _)];show _=AV.int .i64 ((cnC col k i+if (col.getD i []).getD k 0= -1 then 0 else 1:Nat):Int);rw[ine h];rfl
 ·rw[ine e]
  by_cases h1:k<s
  ·rw[ipo h1,ipo om]
  ·rw[ine h1,ine om]
theorem qcg(p:Nat->Bool)(n:Nat):jC p (n+1)=(jC p n||p n):=by
 cases e:jC p n with
 |true=>obtain⟨i,h1,h2⟩:=qN.1 e;exact qN.2 ⟨i,om,h2⟩
 |false=>
  have h:=qp.1 e;cases e2:p n with
  |true=>exact qN.2 ⟨n,om,e2⟩
  |false=>
   refine qp.2 λi hi=> ?_
   by_cases g:i=n
   ·subst g;exact e2
   ·exact h i om
end
theorem qFk(tok:List (List Tk))(col:List (List Int))(h:wh)(hn:tok.length<=1000000000)(hc:col.length<=1000000000)(hl: ∀s,(tok.getD s []).length<=1000000000)(hm: ∀i,(col.getD i []).length<=1000000000):
  ACalls Tryz.prog 187 [qn tok,qv col] h (.bool (alB tok col)) h:=by
 have k0:(0<=(tok.length:Int))=True:=wj;have k1:((tok.length:Int)<=9223372036854775807)=True:=wj;obtain⟨R,hR⟩:=wg (alB tok col)
 rw[<-hR];refine acO qyr ?_;simp (disch:=omega) only[qwr,qn,qv,k0,go_sem]
 repeat' first|with_reducible apply aiA|exact clz|fail
 all_goals try rw[itn]
 rw[qld,<-qvZ (col:=col)];refine qk (T:=λi:Nat=>qP 76 [(0,qn tok),(5,.osl h.length 1 1 0 tok.length),(15,qv col),(16,.int .i64 col.length),(17,.int .i64 i)])
  (H:=λi=>h++ [.mem 1 3 (gC (atA col i 0) tok.length)])
  (inv:=λi=>i<=col.length∧ ∀j,j<i->qey tok col j=true) (m:=λi=>col.length-i) 0 ⟨nzl _,λj hj=>absurd hj (nnz j)⟩ (Wk.temps ?_) ?_
 ·(simp only[qn,qv,go_sem,qf,qc,qa,qe];try exact we)
 rintro i ⟨i1,i2⟩ K hK
 by_cases hi:i<col.length
 ·have k2:((i:Int)<col.length)=True:=wj;have hno:qey tok col i=false->R=false:=λhx=>by rw[hR];exact qvS hi hx
  have hlen:= @qkx tok col i;have hen:= @qrf tok col i;have heq:= @qrg tok col i;have hskip:= @qgu col i;have hstep:= @qgv col i;have hmi:=hm i;have hE: ∀s,enB tok col i s=(decide ((col.getD i []).getD s 0= -1)||(decide ((col.getD i []).getD s 0=(cnC col s i:Int))&&decide ((col.getD i []).getD s 0<((tok.getD s []).length:Int)))):=λ_=>rfl
  obtain⟨c,hcx⟩:=wg (col.getD i [])
  have ec:=hcx.symm;rw[ec]at hlen heq hmi;simp only[ec]at hskip hstep hE
  by_cases g1:c.length=tok.length
  case neg=>
   have k3:((c.length:Int)=tok.length)=False:=wl;rw[hno (hlen g1)];simp (disch:=omega) only[qn,qv,qx,k2,k3,ec,go_sem]
   repeat' first|exact wa|with_reducible apply aiA|exact clz|fail
  have k3:((c.length:Int)=tok.length)=True:=wj;have heq:=heq g1;simp (disch:=omega) only[qn,qv,qx,k2,k3,ec,go_sem]
  repeat' first|with_reducible apply aiA|exact clz|fail
  refine qk (T:=λs:Nat=>qP 76 [(0,qn tok),(5,.osl h.length 1 1 0 tok.length),(8,.bool (jC (λs=> !decide (c.getD s 0= -1)) s)),(15,qv col),(16,.int .i64 col.length),(17,.int .i64 i),(26,qx c),(27,.int .i64 c.length),(28,.int .i64 s)])
   (H:=λs=>h++ [.mem 1 3 (gC (atA col i s) tok.length)])
   (inv:=λs=>s<=c.length∧ ∀j,j<s->enB tok col i j=true) (m:=λs=>c.length-s) 0 ⟨nzl _,λj hj=>absurd hj (nnz j)⟩ (Wk.temps ?_) ?_
  ·(simp only[qn,qv,qx,go_sem,qf,qc,qa,qe];try exact we)
  rintro s ⟨s1,s2⟩ K2 hK2
  by_cases hs:s<c.length
  ·have t1:((s:Int)<c.length)=True:=wj;have t0:(0<=(s:Int))=True:=wj;have hsn:s<tok.length:=by omega
   have t2:((s:Int)<tok.length)=True:=wj;have t3:(s<tok.length)=True:=eqt hsn;have t4:(s+1<=tok.length)=True:=eqt hsn;have gl:=fb (atA col i s) tok.length;have gg:=qaL (g:=atA col i s) hsn;rw[qq8]at gg;have hsk:=hskip (s:=s) (n:=tok.length);have hst:=hstep (s:=s) hsn;have hcn:= @qre col s i;have hlt:=hl s;have hEs:=hE s;have hap:=qcg (λs=> !decide (c.getD s 0= -1)) s;obtain⟨t,ht⟩:=wg (c.getD s 0)
   obtain⟨l,hlx⟩:=wg (tok.getD s [])
   have et:=ht.symm;have el:=hlx.symm;rw[et]at hsk hst hEs;rw[el]at hEs hlt;simp only[et]at hap;obtain⟨a,ha⟩:=wg (jC (λs=> !decide (c.getD s 0= -1)) s)
   have ea:=ha.symm;rw[ea]at hap;obtain⟨q,hq⟩: ∃q:Nat,q=cnC col s i:=⟨_,rfl⟩
   have eq:=hq.symm;rw[eq]at hst hEs hcn gg;have b2:((q:Int)+1<=9223372036854775807)=True:=wj;have b3:(-9223372036854775808<=(q:Int)+1)=True:=wj
   by_cases g2:t= -1
   ·have k4:(t= -1)=True:=eqt g2;rw[dqt g2,Bool.true_or]at hEs;have hap':jC (λs=> !decide (c.getD s 0= -1)) (s+1)=a:=by rw[hap,dqt g2];simp
    simp (disch:=omega) only[qn,qv,qx,t0,t1,t2,t3,k4,et,ea,gl,gg,Nat.mul_one,Nat.zero_add,go_sem]
    repeat' first|with_reducible apply aiA|exact clz|fail
    rw[hsk g2];refine hK2 _ _ (s+1) ⟨hs,λj hj=> ?_⟩ om (Wk.temps ?_)
    ·by_cases e:j=s
     ·subst e;exact hEs
     ·exact s2 j om
    ·rw[hap']
     (simp only[qn,qv,qx,go_sem,qf,qc,qa,qe];try exact we)
   have k4:(t= -1)=False:=eqf g2;rw[dqf g2,Bool.false_or]at hEs;have hap':jC (λs=> !decide (c.getD s 0= -1)) (s+1)=true:=by rw[hap,dqf g2];simp
   by_cases g3:t=(q:Int)
   case neg=>
    have k5:(t=(q:Int))=False:=eqf g3;rw[dqf g3,Bool.false_and]at hEs;rw[hno (hen hsn hEs)];simp (disch:=omega) only[qn,qv,qx,t0,t1,t2,t3,t4,k4,k5,et,ea,gl,gg,Nat.mul_one,Nat.zero_add,go_sem]
    repeat' first|exact wa|with_reducible apply aiA|exact clz|fail
   have k5:(t=(q:Int))=True:=eqt g3;rw[dqt g3,Bool.true_and]at hEs
   by_cases g4:(l.length:Int)<=t
   ·have k6:((l.length:Int)<=t)=True:=eqt g4;rw[dqf om]at hEs;rw[hno (hen hsn hEs)];simp (disch:=omega) only[qn,zy,qv,qx,t0,t1,t2,t3,t4,k4,k5,k6,et,ea,el,gl,gg,Nat.mul_one,Nat.zero_add,go_sem]
    repeat' first|exact wa|with_reducible apply aiA|exact clz|fail
   ·have k6:((l.length:Int)<=t)=False:=eqf g4;rw[dqt om]at hEs;have hst:=hst g2;simp (disch:=omega) only[qn,zy,qv,qx,t0,t1,t2,t3,t4,k4,k5,k6,et,ea,el,gl,gg,hst,Nat.mul_one,Nat.zero_add,Option.isSome_some,go_sem]
    repeat' first|with_reducible apply aiA|exact clz|fail
    try rw[hst]
    refine hK2 _ _ (s+1) ⟨hs,λj hj=> ?_⟩ om (Wk.temps ?_)
    ·by_cases e:j=s
     ·subst e;exact hEs
     ·exact s2 j om
    ·rw[hap']
     (simp only[qn,zy,qv,qx,go_sem,qf,qc,qa,qe];try exact we)
  ·have t1:((s:Int)<c.length)=False:=wl;have es:s=tok.length:=by omega
   have heq:=heq λj hj=>s2 j om
   rw[<-es]at heq;rw[es]at*;cases ga:jC (λs=> !decide (c.getD s 0= -1)) tok.length with
   |false=>
    rw[ga]at heq;rw[hno heq];simp (disch:=omega) only[qn,qv,qx,go_sem]
    repeat' first|exact wa|(with_reducible first|intro _|apply aiA)|exact clz|fail
   |true=>
    rw[ga]at heq;simp (disch:=omega) only[qn,qv,qx,go_sem]
    repeat' first|(with_reducible first|intro _|apply aiA)|exact clz|fail
    rw[qi7];refine hK _ _ (i+1) ⟨hi,λj hj=> ?_⟩ om (Wk.temps ?_)
    ·by_cases e:j=i
     ·subst e;exact heq
     ·exact i2 j om
    ·(simp only[qn,qv,qx,go_sem,qf,qc,qa,qe];try exact we)
 have k2:((i:Int)<col.length)=False:=wl;obtain rfl:i=col.length:=by omega
 clear hK;simp (disch:=omega) only[qn,qv,k2,go_sem];refine qk (T:=λs:Nat=>qP 76 [(0,qn tok),(5,.osl h.length 1 1 0 tok.length),(61,.int .i64 tok.length),(62,.int .i64 s)])
  (H:=λ_=>h++ [.mem 1 3 (gC (atA col col.length 0) tok.length)])
  (inv:=λs=>s<=tok.length∧ ∀j,j<s->cnC col j col.length=(tok.getD j []).length) (m:=λs=>tok.length-s) 0 ⟨nzl _,λj hj=>absurd hj (nnz j)⟩ (Wk.temps ?_) ?_
 ·(simp only[qn,go_sem,qf,qc,qa,qe];try exact we)
 rintro s ⟨s1,s2⟩ K hK
 by_cases hs:s<tok.length
 ·have t1:((s:Int)<tok.length)=True:=wj;have t0:(0<=(s:Int))=True:=wj;have t3:(s<tok.length)=True:=eqt hs;have t4:(s+1<=tok.length)=True:=eqt hs;have gl:=fb (atA col col.length 0) tok.length;have gg:=qaL (g:=atA col col.length 0) hs;have e0:atA col col.length 0 s= .int .i64 (cnC col s col.length:Int):=by unfold atA;rw[ine (nnz _)]
  rw[e0]at gg;have hno:= @qq4 tok col s hs;obtain⟨q,hq⟩: ∃q:Nat,q=cnC col s col.length:=⟨_,rfl⟩
  have eq:=hq.symm;have hs2:q=(tok.getD s []).length->cnC col s col.length=(tok.getD s []).length:=λe=>by rw[<-hq];exact e
  rw[eq]at gg hno;obtain⟨l,hlx⟩:=wg (tok.getD s [])
  have el:=hlx.symm;rw[el]at hno hs2
  by_cases g:q=l.length
  ·have k5:((q:Int)=l.length)=True:=wj;simp (disch:=omega) only[qn,zy,t0,t1,t3,k5,el,gl,gg,Nat.mul_one,Nat.zero_add,go_sem]
   repeat' first|with_reducible apply aiA|exact clz|fail
   refine hK _ _ (s+1) ⟨hs,λj hj=> ?_⟩ om (Wk.temps ?_)
   ·by_cases e:j=s
    ·subst e;rw[el];exact hs2 g
    ·exact s2 j om
   ·(simp only[qn,zy,go_sem,qf,qc,qa,qe];try exact we)
  ·have k5:((q:Int)=l.length)=False:=wl;rw[hR,hno g];simp (disch:=omega) only[qn,zy,t0,t1,t3,k5,el,gl,gg,Nat.mul_one,Nat.zero_add,go_sem]
   repeat' first|exact wa|with_reducible apply aiA|exact clz|fail
 ·have t1:((s:Int)<tok.length)=False:=wl;rw[hR,qq5 i2 (λj hj=>s2 j om)];simp (disch:=omega) only[qn,t1,go_sem]
  repeat' first|exact wa|fail
theorem qF3(tok:List (List Tk))(col:List (List Int))(h:wh)(h1:0<tok.length)(h2:tok.length<=32)(h3: ∀s,s<tok.length->(tok.getD s []).length<=1024)(hc:col.length<=1000000000)(hl: ∀s,(tok.getD s []).length<=1000000000)(hm: ∀i,(col.getD i []).length<=1000000000):
  ACalls Tryz.prog 112 [qn tok,qv col] h (.int .i64 (if alB tok col=true then 0 else 19)) h:=by
 have c1:=λh=>qF5 tok h h1 h2 h3
 have c2:=λh=>qFk tok col h om hc hl hm
 cases g:alB tok col<;>rw[g]at c2
 all_goals
  refine acO qx4 ?_;simp (disch:=omega) only[qv7,go_sem]
  repeat' first|((first|refine cA (c1 _) ?_ ?_|refine cA (c2 _) ?_ ?_);exact flk;simp (disch:=omega) only[go_sem])|exact wc|fail
theorem qrZ{x:Co}(h:srE x=0):0<x.sig.length∧x.sig.length<=32∧x.tok.length=x.sig.length∧ ∀s,s<x.tok.length->(x.tok.getD s []).length<=1024:=by
 unfold srE at h;split at h
 ·cases h
 split at h
 ·cases h
 rename_i g2;split at h
 ·cases h
 rename_i g3;split at h
 ·rename_i g4;exact absurd h g4
 split at h
 ·cases h
 rename_i g5;have h3:=jW.1 h;refine⟨om,om,Classical.not_not.1 g5,λs hs=> ?_⟩
 have:=h3 s hs
 unfold qd4 at this;split at this
 ·cases this
 ·omega
theorem coP(x:Co)(h:wh)(hz:qbd x)(hp:cb SG h):ACalls Tryz.prog 47 [.agg (coC x)] h (.int .i64 (coE x)) h:=by
 have c1:=λl=>qGt x (h++l) hz (hp.app l)
 unfold coE
 by_cases g:srE x=0
 case neg=>
  have k1:(srE x=0)=False:=eqf g;rw[ipo g];obtain⟨e,he⟩:=wg (srE x)
  rw[<-he]at c1 k1 ⊢;unfold strs qn at c1;refine acO qzG ?_;simp (disch:=omega) only[qCB,coC,strs,qn,go_sem]
  repeat' first|(refine cA (c1 _) flk ?_;simp (disch:=omega) only[k1,go_sem])|exact wa|fail
 rw[ine (λhc=>hc g)];obtain⟨o1,o2,o3,o4⟩:=qrZ g;have c2:=λh=>qF3 x.tok x.col h om om o4 hz.cl hz.tl hz.ce
 rw[g]at c1;unfold strs qn at c1;unfold qn qv at c2;cases g2:alB x.tok x.col<;>rw[g2]at c2
 all_goals
  refine acO qzG ?_;simp (disch:=omega) only[qCB,coC,strs,qn,qv,go_sem]
  repeat' first|((first|refine cA (c1 _) ?_ ?_|refine cA (c2 _) ?_ ?_);exact flk;simp (disch:=omega) only[go_sem])|(apply qb;exact rvk;simp only[go_sem];first|exact qi|apply qg)|(with_reducible first|intro _|apply aiA)|exact clz|fail
structure Va where
 words:List Str
 sigla:List Str
 deriving Inhabited
structure En where
 layer:Int
 frm:Int
 to:Int
 pos:Bool
 sup:List Str
 vars:List Va
 deriving Inhabited
def vaC(v:Va):wi:= [strs v.words,strs v.sigla]
def qr2(vs:List Va):AV:= .sl vs.length λi=>vaC (vs.getD i default)
def enC(e:En):wi:= [.int .i64 e.layer,.int .i64 e.frm,.int .i64 e.to,.bool e.pos,strs e.sup,qr2 e.vars]
def qnJ(l:List En):AV:= .sl l.length λi=>enC (l.getD i default)
theorem qkX(L:List Va):(qr2 L).flag=true:=rfl
theorem qiI(L:List Va):(qr2 L).strip=qr2 L:=rfl
theorem qo9{fz:Nat->Bool}{h:wh}{n:Nat}(L:List Va):frz fz h (n+1) (qr2 L)=qr2 L:=rfl
theorem qp6{fz:Nat->Bool}{h:wh}{n:Nat}(L:List Va):rei fz h (n+1) (qr2 L)=qr2 L:=rfl
theorem qkS(L:List En):(qnJ L).flag=true:=rfl
theorem qiD(L:List En):(qnJ L).strip=qnJ L:=rfl
theorem qo5{fz:Nat->Bool}{h:wh}{n:Nat}(L:List En):frz fz h (n+1) (qnJ L)=qnJ L:=rfl
theorem qp2{fz:Nat->Bool}{h:wh}{n:Nat}(L:List En):rei fz h (n+1) (qnJ L)=qnJ L:=rfl
attribute [go_sem] qkX qiI qo9 qp6 qkS qiD qo5 qp2
theorem qC4(ws:List Str)(m:Nat)(k:Nat->Str)(h:wh)(h1:ws.length<=1000000000)(h2:m<=1000000000):
  ACalls Tryz.prog 18 [strs ws,.sl m (λj=> [.str (k j)])] h (.bool (decide (ws.length=m∧ ∀i,i<ws.length->ws.getD i []=k i))) h:=by
 unfold strs
 have:=qCg qys ws.length m (λj=> .s (ws.getD j [])) (λj=> .s (k j)) h (λ_ _ _=>rfl) om om
 simpa only[At.v,At.s.injEq] using this
theorem jX{α:Type}[Inhabited α]{a b:List α}(d:α):a=b↔a.length=b.length∧ ∀i,i<a.length->a.getD i d=b.getD i d:=by
 constructor
 ·rintro rfl;exact⟨rfl,λ_ _=>rfl⟩
 ·rintro⟨h1,h2⟩;apply List.ext_getElem h1;intro i h3 h4
  have:=h2 i h3
  rw[gdqA,gdqA,zD h3,zD h4]at this;exact this
def qnN(t:List Str)(f g:Nat):List Str:=(t.drop f).take (g-f)
theorem qqI{t:List Str}{f g:Nat}(h1:f<=g)(h2:g<=t.length):(qnN t f g).length=g-f:=by unfold qnN;simp;omega
def qqX(t:List Str)(e:En)(i:Nat):Int:=
 if qnG (e.vars.getD i default).words≠0 then 11 else if (e.vars.getD i default).words=qnN t e.frm.toNat e.to.toNat then 9 else
  if jC (λj=>decide ((e.vars.getD i default).words=(e.vars.getD j default).words)) i=true then 7 else if (e.vars.getD i default).sigla.length=0 then 5 else 0
def cnt(names:List Str)(gs:List Gr)(e:En):Nat->List Int
 |0=>qrc (List.replicate 32 0) (qcE names gs e.sup)
 |i+1=>qrc (cnt names gs e i) (qcE names gs (e.vars.getD i default).sigla)
def qva(C:List Int):Bool:=jC (λi=>decide (1<C.getD i 0)) C.length
def qvK(t:List Str)(e:En):Prop:=e.layer<0∨16<=e.layer∨e.frm<0∨e.to<e.frm∨(t.length:Int)<e.to
instance (t:List Str) (e:En):Decidable (qvK t e):=by unfold qvK;infer_instance
def qCN(names:List Str)(gs:List Gr)(t:List Str)(e:En):Int:=
 if sgE names gs≠0 then 1 else if 4096<t.length then 4 else if qnG t≠0 then 11 else if qvK t e then 2 else
  if 0<e.sup.length∧e.pos=false then 1 else if e.vars.length=0 then 5 else
   if qah (qqX t e) 0 e.vars.length≠0 then qah (qqX t e) 0 e.vars.length else
    if qhN names gs e.sup≠0 then qhN names gs e.sup else
     if qah (λi=>qhN names gs (e.vars.getD i default).sigla) 0 e.vars.length≠0 then qah (λi=>qhN names gs (e.vars.getD i default).sigla) 0 e.vars.length else
      if qva (cnt names gs e e.vars.length)=true then 17 else 0
theorem fmI(l:List Int):List.flatMap (λi=> [AV.int .i64 (l.getD i 0)]) (List.range l.length)=qM l:=by
 induction l with
 |nil=>rfl
 |cons a l ih=>
  rw[lco,List.range_succ_eq_map,List.flatMap_cons,List.flatMap_map];show AV.int .i64 a::List.flatMap (λi=> [AV.int .i64 (l.getD i 0)]) (List.range l.length)=_;rw[ih];rfl
theorem qpo{p:Nat->Bool}{n:Nat}{x:Int}:x∈qlw p n↔ ∃k:Nat,k<n∧p k=true∧x=k:=by
 unfold qlw;constructor
 ·intro h;obtain⟨k,hk,rfl⟩:=List.mem_map.1 h;obtain⟨h1,h2⟩:=List.mem_filter.1 hk;exact⟨k,List.mem_range.1 h1,h2,rfl⟩
 ·rintro⟨k,h1,h2,rfl⟩;exact List.mem_map.2 ⟨k,List.mem_filter.2 ⟨List.mem_range.2 h1,h2⟩,rfl⟩
theorem smw(ws:List Str)(m:Nat)(k:Nat->Str)(h:wh)(h1:ws.length<=1000000000)(h2:m<=1000000000):
  ACalls Tryz.prog 93 [strs ws,.sl m (λj=> [.str (k j)])] h (.bool (decide (ws.length=m∧ ∀i,i<ws.length->ws.getD i []=k i))) h:=by
 obtain⟨R,hR⟩:=wg (decide (ws.length=m∧ ∀i,i<ws.length->ws.getD i []=k i))
 rw[<-hR]
 by_cases g:ws.length=m
 ·have k0:((ws.length:Int)=m)=True:=wj;refine acO qzO ?_;simp (disch:=omega) only[qCH,strs,k0,go_sem];refine qk (T:=λi:Nat=>qP 26 [(0,strs ws),(1,.sl m (λj=> [.str (k j)])),(5,.int .i64 i)]) (H:=λ_=>h) (inv:=λi=>i<=ws.length∧ ∀j,j<i->ws.getD j []=k j) (m:=λi=>ws.length-i) 0 ⟨nzl _,λj hj=>by omega⟩ (Wk.temps ?_) ?_
  ·(simp only[strs,go_sem,qf,qc,qa,qe];try exact we)
  rintro i ⟨i1,i2⟩ K hK
  by_cases hi:i<ws.length
  ·have k1:((i:Int)<ws.length)=True:=wj;have k3:((i:Int)<m)=True:=wj;obtain⟨x,hx⟩:=wg (ws.getD i [])
   have ex:=hx.symm
   by_cases e:x=k i
   ·have k2:(x=k i)=True:=eqt e;simp (disch:=omega) only[strs,k1,k2,k3,ex,go_sem]
    repeat' first|with_reducible apply aiA|exact clz|fail
    refine hK _ _ (i+1) ⟨hi,λj hj=> ?_⟩ om (Wk.temps ?_)
    ·by_cases e':j=i
     ·subst e';rw[ex];exact e
     ·exact i2 j om
    ·(simp only[strs,go_sem,qf,qc,qa,qe];try exact we)
   ·have k2:(x=k i)=False:=eqf e;have hV:R=false:=by rw[hR];exact dqf λhc=>e (by rw[<-ex];exact hc.2 i hi)
    rw[hV];simp (disch:=omega) only[strs,k1,k2,k3,ex,go_sem]
    repeat' first|exact wc|with_reducible apply aiA|exact clz|fail
  ·have k1:((i:Int)<ws.length)=False:=wl;have hV:R=true:=by rw[hR];exact dqt ⟨g,λj hj=>i2 j om⟩
   rw[hV];simp (disch:=omega) only[strs,k1,go_sem]
   repeat' first|exact wc|fail
 ·have k0:((ws.length:Int)=m)=False:=wl;have hV:R=false:=by rw[hR];exact dqf λhc=>g hc.1
  rw[hV];refine acO qzO ?_;simp (disch:=omega) only[qCH,strs,k0,go_sem]
  repeat' first|exact wc|fail
theorem qD3(a b:List Str)(h:wh)(h1:a.length<=1000000000)(h2:b.length<=1000000000):
  ACalls Tryz.prog 93 [strs a,strs b] h (.bool (decide (a=b))) h:=by
 have c:=smw a b.length (λj=>b.getD j []) h h1 h2;have e:decide (a.length=b.length∧ ∀i,i<a.length->a.getD i []=b.getD i [])=decide (a=b):=decide_eq_decide.2 (jX ([]:Str)).symm;rw[e]at c;exact c
def qi3(names:List Str)(gs:List Gr)(e:En):Nat->List Int×Bool
 |0=>(qcE names gs e.sup,false)
 |i+1=>(qlw (λk=>decide ((k:Int)∈(qi3 names gs e i).1)||decide ((k:Int)∈qcE names gs (e.vars.getD i default).sigla)) 64,(qi3 names gs e i).2||(qi3 names gs e i).1.any λx=>decide (x∈qcE names gs (e.vars.getD i default).sigla))
theorem qnS(names:List Str)(gs:List Gr)(e:En)(i:Nat):qi3 names gs e (i+1)=(qlw (λk=>decide ((k:Int)∈(qi3 names gs e i).1)||decide ((k:Int)∈qcE names gs (e.vars.getD i default).sigla)) 64,(qi3 names gs e i).2||(qi3 names gs e i).1.any λx=>decide (x∈qcE names gs (e.vars.getD i default).sigla)):=rfl
theorem qn9(L:List Int): ∀(C:List Int) (j:Nat),L.Nodup->(∀x∈L,0<=x∧x<C.length)->j<C.length->(qrc C L).getD j 0=C.getD j 0+if (j:Int)∈L then 1 else 0:=by
 induction L with
 |nil=>intro C j _ _ _;simp[qrc]
 |cons n L ih=>
  intro C j hn hL hj;obtain⟨h1,h2⟩:=List.nodup_cons.1 hn;have hb:=hL n (by simp);show (qrc (C.set n.toNat (C.getD n.toNat 0+1)) L).getD j 0=_;rw[ih _ j h2 (λx hx=>by rw[List.length_set];exact hL x (by simp[hx])) (by rw[List.length_set];exact hj)]
  by_cases e:(j:Int)=n
  ·have e2:n.toNat=j:=by omega
   have e3: ¬(j:Int)∈L:=by rw[e];exact h1
   rw[ine e3,ipo (by rw[e];simp),e2]
   have:(C.set j (C.getD j 0+1)).getD j 0=C.getD j 0+1:=by
    rw[gdqA,List.getElem?_set_self hj];rfl
   rw[this];omega
  ·have e2: ¬n.toNat=j:=by omega
   have:(C.set n.toNat (C.getD n.toNat 0+1)).getD j 0=C.getD j 0:=by
    rw[gdqA,List.getElem?_set_ne e2,<-gdqA]
   rw[this];congr 1;simp[e]
theorem qh3(p:Nat->Bool)(n:Nat):(qlw p n).Nodup:=by
 unfold qlw;rw[List.Nodup,List.pairwise_map];refine List.Pairwise.imp ?_ (List.Pairwise.filter _ List.nodup_range);intro a b hab hc;exact hab (by have hx:(a:Int)=(b:Int):=hc;omega)
theorem qc3(names:List Str)(gs:List Gr)(sg:List Str):(qcE names gs sg).Nodup:=by
 unfold qcE;split
 ·exact qh3 _ _
 ·exact List.nodup_nil
structure qCa (A:List Int) (B:Bool) (C:List Int):Prop where
 len:C.length=32
 rng: ∀x∈A,0<=x∧x<32
 mem: ∀k:Nat,k<32->((k:Int)∈A↔1<=C.getD k 0)
 nn: ∀k:Nat,k<32->0<=C.getD k 0
 tw:B=true↔ ∃k:Nat,k<32∧1<C.getD k 0
theorem qgT{A O A' C:List Int}{B:Bool}(h:qCa A B C)(ho:O.Nodup)(hr: ∀x∈O,0<=x∧x<32)(hA: ∀x,x∈A'↔x∈A∨x∈O):qCa A' (B||A.any λx=>decide (x∈O)) (qrc C O):=by
 have hl:=h.len;have hg:=λ(k:Nat) (hk:k<32)=>qn9 O C k ho (λx hx=>by have:=hr x hx;omega) om
 refine⟨by rw[qoa,hl],λx hx=> ?_,λk hk=> ?_,λk hk=> ?_,?_⟩
 ·rcases (hA x).1 hx with hx|hx
  ·exact h.rng x hx
  ·exact hr x hx
 ·rw[hA,h.mem k hk,hg k hk]
  have:=h.nn k hk
  by_cases e:(k:Int)∈O
  ·rw[ipo e];exact⟨λ_=>by omega,λ_=> .inr e⟩
  ·rw[ine e];constructor
   ·rintro (h1|h1)
    ·omega
    ·exact absurd h1 e
   ·intro h1;exact .inl om
 ·rw[hg k hk]
  have:=h.nn k hk
  split<;>omega
 ·rw[Bool.or_eq_true,h.tw,List.any_eq_true];constructor
  ·rintro (⟨k,hk,h1⟩|⟨x,hx,h1⟩)
   ·refine⟨k,hk,?_⟩;rw[hg k hk];split<;>omega
   ·have h1:=of_decide_eq_true h1;have hx2:=h.rng x hx;have e:((x.toNat:Nat):Int)=x:=by omega
    refine⟨x.toNat,om,?_⟩;rw[hg _ om,e,ipo h1]
    have:=(h.mem x.toNat om).1 (by rw[e];exact hx)
    omega
  ·rintro⟨k,hk,h1⟩;rw[hg k hk]at h1
   by_cases e:(k:Int)∈O
   ·rw[ipo e]at h1;exact .inr ⟨(k:Int),(h.mem k hk).2 om,dqt e⟩
   ·rw[ine e]at h1;exact .inl ⟨k,hk,om⟩
theorem qtN:qCa [] false (List.replicate 32 0):=by
 have g: ∀k:Nat,k<32->(List.replicate 32 (0:Int)).getD k 0=0:=λk hk=>by
  rw[gdqA,List.getElem?_replicate,ipo hk];rfl
 refine⟨by simp,λx hx=>by simp at hx,λk hk=> ?_,λk hk=> ?_,?_⟩
 ·rw[g k hk];simp
 ·rw[g k hk];omega
 ·constructor
  ·intro h;cases h
  ·rintro⟨k,hk,h1⟩;rw[g k hk]at h1;omega
theorem qsa(names:List Str)(gs:List Gr)(e:En): ∀i,qCa (qi3 names gs e i).1 (qi3 names gs e i).2 (cnt names gs e i):=by
 have hO:=λsg=>qb6 (@qoM names gs sg)
 intro i
 induction i with
 |zero=>
  have:=qgT (A':=qcE names gs e.sup) qtN (qc3 names gs e.sup) (hO e.sup) (λx=>by simp)
  exact this
 |succ i ih=>
  rw[qnS];unfold cnt;refine qgT ih (qc3 _ _ _) (hO _) (λx=> ?_);rw[qpo];constructor
  ·rintro⟨k,hk,h1,rfl⟩;simpa using h1
  ·intro hx;have hb:0<=x∧x<32:=by
    rcases hx with hx|hx
    ·exact ih.rng x hx
    ·exact hO _ x hx
   have e:((x.toNat:Nat):Int)=x:=by omega
   refine⟨x.toNat,om,?_,e.symm⟩;simp only[e];simpa using hx
theorem qen(names:List Str)(gs:List Gr)(e:En)(i:Nat):qva (cnt names gs e i)=(qi3 names gs e i).2:=by
 have h:=qsa names gs e i;unfold qva;rw[h.len,Bool.eq_iff_iff,h.tw,qN];simp only[decide_eq_true_eq]
def inV(names:List Str)(gs:List Gr)(e:En)(src:Int)(i:Nat):Bool:=decide (src∈qcE names gs (e.vars.getD i default).sigla)
def vIx(names:List Str)(gs:List Gr)(e:En)(src:Int):Int:=qbE (inV names gs e src) e.vars.length 0
def qgx(a b:En):Bool:=decide (a.frm<b.frm)||decide (a.frm=b.frm)&&decide (a.to<b.to)
end RC
end
section
open Go Go.Proofs AF
end
section
open Go Go.Proofs AF HY LN
namespace RC
end RC
end
section
namespace RC
variable {α : Type}
def qcK(lt:α->α->Bool)(x:α):List α->List α
 | []=> [x]
 |y::r=>if lt x y=true then y::qcK lt x r else x::y::r
def qe5(lt:α->α->Bool):List α->List α->List α
 |acc,[]=>acc
 |acc,x::r=>qe5 lt (qcK lt x acc) r
def qvP(lt:α->α->Bool):Prop:= ∀a b c,lt a b=false->lt b c=false->lt a c=false
def Asy(lt:α->α->Bool):Prop:= ∀a b,lt a b=true->lt b a=false
def qvA(lt:α->α->Bool)(l:List α):Prop:=l.Pairwise λa b=>lt a b=false
theorem qpj{lt:α->α->Bool}{x:α}: ∀ {l:List α} {z:α},z∈qcK lt x l↔z=x∨z∈l:=by
 intro l
 induction l with
 |nil=>intro z;simp[qcK]
 |cons y r ih=>
  intro z;unfold qcK;split
  ·simp only[List.mem_cons,ih];constructor
   ·rintro (h|h|h)
    ·exact .inr (.inl h)
    ·exact .inl h
    ·exact .inr (.inr h)
   ·rintro (h|h|h)
    ·exact .inr (.inl h)
    ·exact .inl h
    ·exact .inr (.inr h)
  ·simp
theorem qcr{lt:α->α->Bool}(hn:qvP lt)(ha:Asy lt){x:α}: ∀ {l:List α},qvA lt l->qvA lt (qcK lt x l):=by
 intro l
 induction l with
 |nil=>intro _;exact List.pairwise_singleton _ _
 |cons y r ih=>
  intro h;obtain⟨h1,h2⟩:=List.pairwise_cons.1 h;unfold qcK
  by_cases g:lt x y=true
  ·rw[ipo g];refine List.pairwise_cons.2 ⟨λz hz=> ?_,ih h2⟩;rcases qpj.1 hz with rfl|hz
   ·exact ha _ _ g
   ·exact h1 z hz
  ·rw[ine g];have g:lt x y=false:=by simpa using g
   refine List.pairwise_cons.2 ⟨λz hz=> ?_,h⟩;rcases List.mem_cons.1 hz with rfl|hz
   ·exact g
   ·exact hn _ _ _ g (h1 z hz)
theorem qll{lt:α->α->Bool}{x:α}{l:List α}(h: ∀z∈l,lt x z=false):qcK lt x l=x::l:=by
 cases l with
 |nil=>rfl
 |cons y r=>
  unfold qcK;rw[ine (by rw[h y (by simp)];simp)]
theorem qfI{lt:α->α->Bool}(hn:qvP lt)(p:α->Bool)(x:α): ∀ {l:List α},qvA lt l->(qcK lt x l).filter p=if p x=true then qcK lt x (l.filter p) else l.filter p:=by
 intro l
 induction l with
 |nil=>intro _;unfold qcK;by_cases h:p x=true<;>simp[h,qcK]
 |cons y r ih=>
  intro h;obtain⟨h1,h2⟩:=List.pairwise_cons.1 h
  by_cases g:lt x y=true
  ·have e:qcK lt x (y::r)=y::qcK lt x r:=by rw[qcK,ipo g]
   rw[e,List.filter_cons,List.filter_cons,ih h2]
   by_cases hy:p y=true
   ·rw[ipo hy,ipo hy]
    by_cases hx:p x=true
    ·rw[ipo hx,ipo hx,qcK,ipo g]
    ·rw[ine hx,ine hx]
   ·rw[ine hy,ine hy]
  ·have e:qcK lt x (y::r)=x::y::r:=by rw[qcK,ine g]
   have g:lt x y=false:=by simpa using g
   rw[e]
   by_cases hx:p x=true
   ·rw[ipo hx,List.filter_cons,ipo hx,qll];intro z hz;rcases List.mem_cons.1 (List.mem_filter.1 hz).1 with rfl|hz
    ·exact g
    ·exact hn _ _ _ g (h1 z hz)
   ·rw[ine hx,List.filter_cons,ine hx]
theorem qeB{lt:α->α->Bool}(hn:qvP lt)(ha:Asy lt)(p:α->Bool): ∀(l acc:List α),qvA lt acc->(qe5 lt acc l).filter p=qe5 lt (acc.filter p) (l.filter p):=by
 intro l
 induction l with
 |nil=>intro acc _;rfl
 |cons x r ih=>
  intro acc h;rw[qe5,ih _ (qcr hn ha h),qfI hn p x h,List.filter_cons]
  by_cases hx:p x=true
  ·rw[ipo hx,ipo hx,qe5]
  ·rw[ine hx,ine hx]
theorem qe6{lt:α->α->Bool}(hn:qvP lt)(ha:Asy lt): ∀(l acc:List α),qvA lt acc->qvA lt (qe5 lt acc l):=by
 intro l
 induction l with
 |nil=>intro acc h;exact h
 |cons x r ih=>intro acc h;exact ih _ (qcr hn ha h)
end RC
end
section
namespace RC
variable {α : Type}
end RC
end
section
open Go Go.Proofs AF HY LN
namespace RC
theorem qaA{a b:En}:qgx a b=true↔a.frm<b.frm∨a.frm=b.frm∧a.to<b.to:=by
 unfold qgx;simp[Bool.or_eq_true,Bool.and_eq_true]
theorem qbf{a b:En}:qgx a b=false↔b.frm<a.frm∨a.frm=b.frm∧b.to<=a.to:=by
 have:= @qaA a b
 cases h:qgx a b with
 |true=>rw[h]at this;simp only[true_iff]at this;simp only[Bool.true_eq_false,false_iff];omega
 |false=>rw[h]at this;simp only[Bool.false_eq_true,false_iff]at this;simp only[true_iff];omega
theorem qgz:qvP qgx:=by
 intro a b c h1 h2;rw[qbf]at*;omega
theorem qgy:Asy qgx:=by
 intro a b h;rw[qaA]at h;rw[qbf];omega
def qvN(l:List En):List En:=(qe5 qgx [] l).reverse
def qFM(names:List Str)(gs:List Gr)(src:Int)(e:En):Bool:=decide (0<=vIx names gs e src)
def ofE(names:List Str)(gs:List Gr)(l:List En)(src:Int):List En:=(qvN l).filter (qFM names gs src)
theorem qlm{α:Type}{lt:α->α->Bool}{x:α}: ∀l:List α,(qcK lt x l).Perm (x::l):=by
 intro l
 induction l with
 |nil=>exact List.Perm.refl _
 |cons y r ih=>
  unfold qcK;split
  ·exact (List.Perm.cons y ih).trans (List.Perm.swap x y r)
  ·exact List.Perm.refl _
theorem qis{α:Type}{lt:α->α->Bool}: ∀l acc:List α,(qe5 lt acc l).Perm (acc++l):=by
 intro l
 induction l with
 |nil=>intro acc;rw[lan];exact List.Perm.refl _
 |cons x r ih=>
  intro acc;refine (ih _).trans ((List.Perm.append_right r (qlm acc)).trans ?_);exact (List.perm_middle (a:=x) (l₁:=acc) (l₂:=r)).symm
theorem qe8(l:List En):(qvN l).Perm l:=(List.reverse_perm _).trans (by simpa using qis (lt:=qgx) l [])
theorem qf5(l:List En):(qvN l).Pairwise λa b=>qgx b a=false:=by
 unfold qvN;rw[List.pairwise_reverse];exact qe6 qgz qgy l [] List.Pairwise.nil
def qco(a b:En):Bool:=decide (b.frm<a.to)||decide (a.frm=b.frm)&&decide (a.to=b.to)
def UQ:List En->Bool
 |a::b::r=>qco a b||UQ (b::r)
 |_=>false
theorem qks(L:List En):UQ L=true↔ ∃i,i+1<L.length∧qco (L.getD i default) (L.getD (i+1) default)=true:=by
 induction L with
 |nil=>simp[UQ]
 |cons a L ih=>
  cases L with
  |nil=>simp[UQ]
  |cons b r=>
   rw[UQ,Bool.or_eq_true,ih];constructor
   ·rintro (h|⟨i,h1,h2⟩)
    ·exact⟨0,by simp,h⟩
    ·exact⟨i+1,by simpa using h1,h2⟩
   ·rintro⟨i,h1,h2⟩;cases i with
    |zero=>exact .inl h2
    |succ i=>exact .inr ⟨i,by simpa using h1,h2⟩
def qgs(names:List Str)(gs:List Gr)(l:List En):Bool:=jC (λs=>UQ (ofE names gs l (s:Int))) names.length
theorem qc0{a:En}{r:List En}(h:UQ (a::r)=false):UQ r=false:=by
 cases r with
 |nil=>rfl
 |cons b r=>rw[UQ,Bool.or_eq_false_iff]at h;exact h.2
theorem qmV{L:List En}(hs:L.Pairwise λa b=>qgx b a=false)(hc:UQ L=false):L.Pairwise λa b=>qgx a b=true:=by
 induction L with
 |nil=>exact List.Pairwise.nil
 |cons a r ih=>
  obtain⟨h1,h2⟩:=List.pairwise_cons.1 hs;have h3:=ih h2 (qc0 hc);refine List.pairwise_cons.2 ⟨?_,h3⟩;cases r with
  |nil=>intro z hz;cases hz
  |cons b r=>
   have hab:qgx a b=true:=by
    rw[UQ,Bool.or_eq_false_iff]at hc;have h5:=hc.1;unfold qco at h5;rw[Bool.or_eq_false_iff,Bool.and_eq_false_imp,decide_eq_false_iff_not,decide_eq_true_iff,decide_eq_false_iff_not]at h5;have h4:=h1 b (by simp);rw[qbf]at h4;rw[qaA];obtain⟨h5,h6⟩:=h5
    by_cases e:a.frm=b.frm
    ·have:=h6 e;omega
    ·omega
   intro z hz;rcases List.mem_cons.1 hz with rfl|hz
   ·exact hab
   ·have h6:=(List.pairwise_cons.1 h3).1 z hz;rw[qaA]at*;omega
theorem qoy{L:List En}(hc:UQ L=false){i:Nat}(hi:i+1<L.length):(L.getD i default).to<=(L.getD (i+1) default).frm:=by
 cases h:qco (L.getD i default) (L.getD (i+1) default)with
 |true=>rw[(qks L).2 ⟨i,hi,h⟩]at hc;cases hc
 |false=>
  unfold qco at h;rw[Bool.or_eq_false_iff,decide_eq_false_iff_not]at h;omega
theorem qh7(names:List Str)(gs:List Gr)(l:List En)(src:Int):(ofE names gs l src).Pairwise λa b=>qgx b a=false:=List.Pairwise.filter _ (qf5 l)
theorem qad{names:List Str}{gs:List Gr}{l:List En}(h:qgs names gs l=false){s:Nat}(hs:s<names.length):UQ (ofE names gs l (s:Int))=false:=
 qp.1 h s hs
structure qvy (names:List Str) (gs:List Gr) (t:List Str) (l:List En):Prop where
 sg:sgE names gs=0
 n:l.length<=4096
 ck: ∀e∈l,qCN names gs t e=0
 cl:qgs names gs l=false
structure qCn (names:List Str) (gs:List Gr) (t:List Str) (e:En):Prop where
 sg:sgE names gs=0
 tn:t.length<=4096
 tw:qnG t=0
 lay:0<=e.layer∧e.layer<16
 rng:0<=e.frm∧e.frm<=e.to∧e.to<=t.length
 sp:0<e.sup.length->e.pos=true
 ne:e.vars.length≠0
 va: ∀i,i<e.vars.length->qqX t e i=0
 es:qhN names gs e.sup=0
 ev: ∀i,i<e.vars.length->qhN names gs (e.vars.getD i default).sigla=0
 tc:(qi3 names gs e e.vars.length).2=false
theorem qkq{names:List Str}{gs:List Gr}{t:List Str}{e:En}:qCN names gs t e=0↔qCn names gs t e:=by
 unfold qCN;constructor
 ·intro h;split at h
  ·cases h
  rename_i h1;split at h
  ·cases h
  rename_i h2;split at h
  ·cases h
  rename_i h3;split at h
  ·cases h
  rename_i h4;split at h
  ·cases h
  rename_i h5;split at h
  ·cases h
  rename_i h6;split at h
  ·rename_i h7;exact absurd h h7
  rename_i h7;split at h
  ·rename_i h8;exact absurd h h8
  rename_i h8;split at h
  ·rename_i h9;exact absurd h h9
  rename_i h9;split at h
  ·cases h
  rename_i h10;unfold qvK at h4;refine⟨Classical.not_not.1 h1,om,Classical.not_not.1 h3,om,om,λh=> ?_,h6,jW.1 (Classical.not_not.1 h7),Classical.not_not.1 h8,jW.1 (Classical.not_not.1 h9),?_⟩
  ·cases hp:e.pos with
   |true=>rfl
   |false=>exact absurd ⟨h,hp⟩ h5
  ·rw[qen]at h10;simpa using h10
 ·rintro⟨h1,h2,h3,h4,h5,h6,h7,h8,h9,h10,h11⟩;have hr: ¬qvK t e:=by unfold qvK;omega
  rw[ine (λhc=>hc h1),ine om,ine (λhc=>hc h3),ine hr,ine (by rintro⟨a,b⟩;rw[h6 a]at b;cases b),ine h7,ine (λhc=>hc (jO (f:=qqX t e) h8)),ine (λhc=>hc h9),
   ine (λhc=>hc (jO (f:=λi=>qhN names gs (e.vars.getD i default).sigla) h10)),ine (by rw[qen,h11];simp)]
section
variable {k v w : Nat} {h : wh} {o o' : AObj} {ty : TypeId} {cs : wi}
theorem cellsOf_setm(hk:k<h.length):cellsOf (qt k h (.mem w ty cs)) k v=if w=v then some cs else none:=by
 have:=KD (l:= []) (v:=v) (w:=w) (ty:=ty) (cs:=cs) hk
 simpa using this
theorem setO_setm:qt k (qt k h o) o'=qt k h o':=gL
end
attribute [go_sem] cellsOf_setm setO_setm
theorem qpn{k v:Nat}{h:wh}{ty:TypeId}{cs:wi}(hl: ∀n,∀c∈cs,qV n c=true): ∀o∈qt k h (.mem v ty cs),o∈h∨lowO h.length o:=by
 intro o ho;rcases jt ho with h1|rfl
 ·exact .inl h1
 ·exact .inr (λc hc=>hl _ c hc)
end RC
end
section
open Go Go.Proofs AF HY LN
namespace AF
theorem Wk.cells{t:wi}{h:wh}{j v:Nat}{ty:TypeId}{cs cs':wi}(hj:qu j h=some (.mem v ty cs))(hc:qbb cs cs'):Wk t h t (qt j h (.mem v ty cs')):=by
 intro N w σ a H;have hjl:j<σ.length:=by rw[H.hr.len];exact zR hj
 have ho:=zD hjl;obtain⟨m1,m2,b,arr,m3,m4,m5,m6,m7,m8⟩:=H.hr.obj j _ _ hj ho;have q:=H.hr.recell (cs':=cs') hj ho m3 m4 m5 (by rw[hc.length];exact m6) (λi x hi hx=>m7 i x (by rw[<-hc.length];exact hi) hx) (λi c x hi hx=>by
  obtain⟨c0,h1,h2⟩:=hc.get i c hi
  exact h2 _ _ _ (m8 i c0 x h1 hx))
 exact⟨σ,⟨q,H.sz,H.tm,H.df⟩,Ext.refl _ _⟩
end AF
namespace RC
end RC
end
section
open Go Go.Proofs AF HY LN
namespace RC
def stV(names:List Str)(gs:List Gr)(e:En):AV:= .sl e.vars.length λj=> [qx (qcE names gs (e.vars.getD j default).sigla)]
def msV(names:List Str)(gs:List Gr)(L:List En):AV:= .sl L.length λi=> [stV names gs (L.getD i default)]
theorem qoS(names:List Str)(gs:List Gr)(e:En):(stV names gs e).flag=true:=rfl
theorem qm1(names:List Str)(gs:List Gr)(e:En):(stV names gs e).strip=stV names gs e:=rfl
theorem qoQ(names:List Str)(gs:List Gr)(L:List En):(msV names gs L).flag=true:=rfl
theorem qmZ(names:List Str)(gs:List Gr)(L:List En):(msV names gs L).strip=msV names gs L:=rfl
theorem qtv{fz:Nat->Bool}{h:wh}{n:Nat}(names:List Str)(gs:List Gr)(e:En):frz fz h (n+1) (stV names gs e)=stV names gs e:=rfl
theorem quE{fz:Nat->Bool}{h:wh}{n:Nat}(names:List Str)(gs:List Gr)(e:En):rei fz h (n+1) (stV names gs e)=stV names gs e:=rfl
theorem qtu{fz:Nat->Bool}{h:wh}{n:Nat}(names:List Str)(gs:List Gr)(L:List En):frz fz h (n+1) (msV names gs L)=msV names gs L:=rfl
theorem quD{fz:Nat->Bool}{h:wh}{n:Nat}(names:List Str)(gs:List Gr)(L:List En):rei fz h (n+1) (msV names gs L)=msV names gs L:=rfl
attribute [go_sem] qoS qm1 qoQ qmZ qtv quE qtu quD
end RC
end
section
open Go Go.Proofs AF HY LN
namespace AF
theorem zJ{P:Program}{f:FuncId}{cap:wi}{xs:List wi}(hf:qnH P f cap xs){ps:List Nat}{b:Nat}{x y:C}{Q:Ex->Nx}{ts:wi}{h:wh}(hps: ∀a∈xs,a.length=ps.length)
  (S:Nat->wh->Prop) (E:Ex->wh->Prop) (hS: ∀i hh,S i hh->LowI h hh) (hE: ∀s hh,E s hh->LowI h hh)
  (start:S 0 h) (hts: ∀c∈ts,qV (h.length+1) c=true)
  (body: ∀i hh tl L TS,(hi:i<xs.length)->S i hh->hh.length=h.length-> ∀(K:Nx) (K2:Ex->Nx),
   (∀t2 X hm,X=hm++ .lp .ready TS L::tl->hm.length=h.length->ze P b y K2 t2 (hm++ .lp .busy TS L::tl)->K t2 X)->
   (∀t3 X hh',X=hh'++ .lp .busy TS L::tl->hh'.length=h.length->S (i+1) hh'->K2 .normal t3 X)->
   (∀t3 X hh',X=hh'++ .lp .busy TS L::tl->hh'.length=h.length->E .ret hh'->K2 .ret t3 X)->
   (∀id t3 X hh',X=hh'++ .lp .busy TS L::tl->hh'.length=h.length->E (.exit id) hh'->K2 (.exit id) t3 X)->
   ze P b x (Ex.andThen K (λ_ _ _=>False)) (kN ts ps (xs[i])) (hh++ .lp .ready TS L::tl))
  (done: ∀hh,S xs.length hh->Q .normal ts hh) (doneE: ∀e hh,E e hh->match e with
   | .normal=>False
   |e=>Q e ts hh):
  qeV P (.fn (.func f) [] cap) ps (ze P b x) (ze P b y) Q ts h:=by
 intro L hy;show jj _ _ _ _ _;have key:=hf h ts L S (λs hh=>match s with
  | .ret=>E .ret hh
  | .exit id=>E (.exit id) hh
  |_=>False) hS
  (by
   intro s hh hs;cases s with
   |ret=>exact hE _ _ hs
   |exit id=>exact hE _ _ hs
   |ready=>exact hs.elim
   |busy=>exact hs.elim)
  (by
   intro i hh tl hi i4;have hlen:=(hS _ _ i4).1;refine hy h.length ts _ _ _ (kT hlen) (hps _ (List.getElem_mem hi)) ?_;refine U4 (Q:=Ex.andThen (λt2 h2=> ∃hm,hm.length=h.length∧h2=hm++ .lp .ready ts L::tl∧
    ze P b y (λe t3 h3=> ∃hh',h3=hh'++ .lp .busy ts L::tl∧hh'.length=h.length∧match e with
     | .normal=>S (i+1) hh'
     | .ret=>E .ret hh'
     | .exit id=>E (.exit id) hh') t2 (hm++ .lp .busy ts L::tl)) (λ_ _ _=>False)) ?_
    (body i hh tl L ts hi i4 hlen _ _ (λt2 X hm e1 e2 e3=>⟨hm,e2,e1,e3⟩) (λt3 X hh' e1 e2 e3=>⟨hh',e1,e2,e3⟩) (λt3 X hh' e1 e2 e3=>⟨hh',e1,e2,e3⟩) (λid t3 X hh' e1 e2 e3=>⟨hh',e1,e2,e3⟩))
   intro e t2 h2 hq;cases e with
   |ret=>exact hq.elim
   |exit id=>exact hq.elim
   |normal=>
    obtain⟨hm,hml,rfl,h3⟩:=hq;refine⟨rfl,⟨ts,kT hml⟩,λts' hts'=> ?_⟩;rw[kT hml]at hts';cases hts';rw[qbO hml];refine U4 ?_ h3;rintro e t3 h3' ⟨hh',rfl,g1,g2⟩;refine⟨ts,kT g1,?_⟩;cases e with
    |normal=>exact⟨hh',.inl ⟨rfl,g2,qbO g1⟩⟩
    |ret=>exact⟨hh',.inr ⟨.ret,rfl,g2,qbO g1⟩⟩
    |exit id=>exact⟨hh',.inr ⟨.exit id,rfl,g2,qbO g1⟩⟩)
  start hts
 refine key.le (qbb.refl _) ?_;rintro v h' ⟨hh,⟨g1,rfl⟩|⟨s,g1,rfl⟩⟩
 ·have hl:=hS _ _ g1;exact⟨v,qi,hh,.ready,ts,L,rfl,hl.1,λo ho=>(hl.2 o ho).imp (λh=>h) And.left,done hh g1⟩
 ·cases s with
  |ready=>exact g1.elim
  |busy=>exact g1.elim
  |ret=>
   have hl:=hE _ _ g1;exact⟨v,qi,hh,.ret,ts,L,rfl,hl.1,λo ho=>(hl.2 o ho).imp (λh=>h) And.left,doneE _ _ g1⟩
  |exit id=>
   have hl:=hE _ _ g1;exact⟨v,qi,hh,.exit id,ts,L,rfl,hl.1,λo ho=>(hl.2 o ho).imp (λh=>h) And.left,doneE _ _ g1⟩
end AF
namespace RC
theorem qgU(n:Nat)(L:List Str):qV n (strs L)=true:=rfl
end RC
end
section
open Go Go.Proofs AF HY LN
namespace AF
theorem Wk.ownNil{t:wi}{h:wh}{j v i k ve sz:Nat}{ty:TypeId}{cs:wi}(hj:qu j h=some (.mem v ty cs))(hi:cs[i]? =some .nl)(hk:qu k h=some (.emp ve)):
  Wk t h t (qt j h (.mem v ty (cs.set i (.osl k ve sz 0 0)))):=by
 intro N w σ a H;have hjl:j<σ.length:=by rw[H.hr.len];exact zR hj
 have hkl:k<σ.length:=by rw[H.hr.len];exact zR hk
 have ho:=zD hjl;have hok:=zD hkl;obtain⟨e1,e2⟩:=H.hr.obj k _ _ hk hok;obtain⟨m1,m2,b,arr,m3,m4,m5,m6,m7,m8⟩:=H.hr.obj j _ _ hj ho;have q:=H.hr.recell (cs':=cs.set i (.osl k ve sz 0 0)) hj ho m3 m4 m5 (by simpa using m6) (λn x hn hx=>m7 n x (by simpa using hn) hx) (λn c x hn hx=>by
  rw[List.getElem?_set]at hn;split at hn
  ·rename_i e;subst e;split at hn
   ·cases hn;have hv:=m8 i _ x hi hx;cases hv with
    |imm hv=>
     cases hv;exact .osl _ hok ⟨none,0,0,rfl⟩ (Nat.le_of_eq e1.symm) (λ_=> .inl ⟨e2,rfl,rfl,rfl⟩)
   ·cases hn
  ·exact m8 n c x hn hx)
 exact⟨σ,⟨q,H.sz,H.tm,H.df⟩,Ext.refl _ _⟩
end AF
namespace RC
structure qFg (t:List Str) (L:List En):Prop where
 rg: ∀i,i<L.length->0<=(L.getD i default).frm∧(L.getD i default).frm<=(L.getD i default).to∧(L.getD i default).to<=t.length
 nx: ∀i,i+1<L.length->(L.getD i default).to<=(L.getD (i+1) default).frm
theorem qt6{names:List Str}{gs:List Gr}{l:List En}{src:Int}{e:En}(h:e∈ofE names gs l src):e∈l:=(qe8 l).subset (List.mem_filter.1 h).1
theorem qlg{L:List En}{i:Nat}(hi:i<L.length):L.getD i default∈L:=by
 rw[gdqA,zD hi];exact List.getElem_mem hi
theorem qvy.tx{names:List Str}{gs:List Gr}{t:List Str}{l:List En}(h:qvy names gs t l){s:Nat}(hs:s<names.length):qFg t (ofE names gs l (s:Int)):=
 ⟨λi hi=>(qkq.1 (h.ck _ (qt6 (qlg hi)))).rng,λi hi=>qoy (qad h.cl hs) hi⟩
end RC
end
section
open Go Go.Proofs AF HY LN
namespace RC
def quZ(L:List (List Str)):AV:= .sl L.length λi=> [strs (L.getD i [])]
theorem qhU(L:List (List Str)):(quZ L).flag=true:=rfl
theorem qgb(L:List (List Str)):(quZ L).strip=quZ L:=rfl
attribute [go_sem] qhU qgb
theorem jG(L:List Str):(jF L).length=L.length:=by simp[jF]
theorem qhh(L M:List Str):jF (L++M)=jF L++jF M:=by simp[jF]
theorem qqA{L:List Str}:jF L= []↔L= []:=by simp[jF]
theorem qd3{L:List Str}{n:Nat}(g:AV->AV)(hg: ∀s,g (.str s)= .str s)(hn:n=L.length):VLe (.sl n λi=>(((jF L).drop i).take 1).map g) (strs L):=by
 subst hn;refine VLe.sl_eq rfl (λi hi=> ?_);unfold jF;rw[<-List.map_drop,List.drop_eq_getElem_cons hi,List.map_cons,List.take_succ_cons,List.take_zero,List.map_cons,List.map_nil,hg,gdqA,zD hi];rfl
theorem qoX{α β:Type}(f:α->β)(L:List α):L.flatMap (λi=> [f i])=L.map f:=by
 induction L with
 |nil=>rfl
 |cons a L ih=>rw[List.flatMap_cons,ih];rfl
theorem qmR(h:wh){t:List Str}{a b:Nat}(h1:a<=b)(h2:b<=t.length):ql h (.sl (b-a) λi=> [.str (t.getD (a+i) [])])=some (b-a,jF (qnN t a b)):=by
 show some (b-a,(List.range (b-a)).flatMap λi=> [AV.str (t.getD (a+i) [])])=_;rw[qoX (λi=>AV.str (t.getD (a+i) []))];congr 2;unfold jF qnN;apply List.ext_getElem
 ·simp;omega
 ·intro i g1 g2;have hi:i<b-a:=by simpa using g1
  have hl:a+i<t.length:=by omega
  simp[gdqA,hl]
theorem qqy(h:wh)(t:List Str):ql h (strs t)=some (t.length,jF t):=by
 have:=qmR h (t:=t) (a:=0) (b:=t.length) (nzl _) (nlr _)
 simp only[Nat.sub_zero,Nat.zero_add]at this;have e:qnN t 0 t.length=t:=by simp[qnN]
 rw[e]at this;exact this
end RC
end
section
open Go Go.Proofs AF
end
section
open Go Go.Proofs AF HY LN
namespace AF
theorem kC{P:Program}{f:FuncId}{first cap args:wi}{d:Option Nat}{nx:Nx}{t:wi}{h h':wh}{r:AV}(hc:ACalls P f (first++args++cap) h r h')(hn:nx (qY t d r) h'):qaE P (.fn (.func f) first cap::args) d nx t h:=⟨_,hc.toQ,by rintro _ _ ⟨rfl,rfl⟩;exact hn⟩
theorem jE{v:Nat}{ty:TypeId}{cs:wi}{n:Nat}(h: ∀c∈cs,qV n c=true):lowO n (zw v ty cs):=by
 unfold zw;split
 ·trivial
 ·exact h
theorem zk{v w:Nat}{ty:TypeId}{cs:wi}:qJ (some (zw v ty cs)) w=(v==w):=by unfold zw;split<;>rfl
theorem qid{v:Nat}{ty:TypeId}{cs:wi}:(qw (some (zw v ty cs)) v).getD []=cs:=by
 unfold zw;split
 ·rename_i e;rw[e];rfl
 ·rw[qm,ipo rfl];rfl
end AF
namespace RC
theorem qir(L:List Str):(strs L).solid=true:=rfl
theorem qhF(L:List Str):(strs L).cells= [strs L]:=rfl
theorem qfp{k v z p n:Nat}(L:List Str):qaz (.osl k v z p n) (strs L)=true:=rfl
attribute [go_sem] qir qhF qfp
theorem qa0{v:Nat}{L:List Str}{g:AV->AV}{n:Nat}(hg: ∀s,g (.str s)= .str s)(hn:n=L.length):VLe (qe4 (some (zw v 9 (jF L))) v 1 0 n g) (strs L):=by
 subst hn
 by_cases h:L= []
 ·subst h;show VLe (qe4 (some (.emp v)) v 1 0 0 g) _;rw[slOf_emp,ipo rfl];exact qU
 ·have e0:zw v 9 (jF L)= .mem v 9 (jF L):=c8 (λe=>h (qqA.1 e));rw[e0,slOf_mem,ipo ⟨rfl,by rw[jG];omega⟩];simp only[Nat.zero_add,Nat.mul_one];exact qd3 g hg rfl
end RC
end
section
open Go Go.Proofs AF HY LN
namespace RC
def clT(x:Co)(k s:Nat):Option Str:=if (x.col.getD k []).getD s 0<0 then none else some ((x.tok.getD s []).getD ((x.col.getD k []).getD s 0).toNat default).text
def cmB(x:Co)(k:Nat):Bool:= !jC (λs=>decide (clT x k s=none)|| !decide (clT x k s=clT x k 0)) x.sig.length
def rdG(x:Co)(s f:Nat):Nat->List Str
 |0=> []
 |d+1=>rdG x s f d++(clT x (f+d) s).toList
theorem qaq(x:Co)(s f:Nat): ∀d,(rdG x s f d).length<=d:=by
 intro d
 induction d with
 |zero=>exact nlr _
 |succ d ih=>
  unfold rdG;rw[lap];cases clT x (f+d) s with
  |none=>simp only[Option.toList_none,lnl];omega
  |some w=>simp only[Option.toList_some,lco,lnl];omega
def qbK(L:List Rd)(w:List Str):Int:=qbE (λj=>decide (w=(L.getD j default).words)) L.length 0
def qdn(L:List Rd)(w:List Str)(s:Nat):List Rd:=if qbK L w<0 then L++ [⟨w,[(s:Int)]⟩] else L.set (qbK L w).toNat ⟨w,(L.getD (qbK L w).toNat default).src++ [(s:Int)]⟩
def kI(x:Co)(f d:Nat):Nat->List Rd
 |0=> []
 |s+1=>qdn (kI x f d s) (rdG x s f d) s
def qbL(x:Co)(f t:Nat):List Rd:=kI x f (t-f) x.sig.length
theorem qnV(L:List Rd)(w:List Str)(s:Nat):(qdn L w s).length<=L.length+1:=by
 unfold qdn;split
 ·simp
 ·rw[List.length_set];omega
theorem qdQ(x:Co)(f d:Nat): ∀s,(kI x f d s).length<=s:=by
 intro s
 induction s with
 |zero=>exact nlr _
 |succ s ih=>
  have:=qnV (kI x f d s) (rdG x s f d) s
  unfold kI;omega
def unB(x:Co)(beh:Int)(u:Un):Bool:= !(decide (u.frm<=beh)||(decide (u.frm<0)||(decide (u.to<=u.frm)||(decide ((x.col.length:Int)<u.to)|| !decide (u.rds=qbL x u.frm.toNat u.to.toNat)))))
def beH(l:List Un)(i:Nat):Int:=if i=0 then-1 else (l.getD (i-1) default).to
def qbc(x:Co)(l:List Un):Bool:= !jC (λi=> !unB x (beH l i) (l.getD i default)) l.length
def cvB(l:List Un)(k:Nat):Bool:=jC (λi=>decide ((l.getD i default).frm<=k)&&decide ((k:Int)<(l.getD i default).to)) l.length
def cvA(x:Co)(l:List Un):Bool:= !jC (λk=> !cvB l k&& !cmB x k) x.col.length
def rgB(x:Co)(l:List Un):Bool:=qbc x l&&cvA x l
def vaE(x:Co)(l:List Un):Int:=if coE x≠0 then 1 else if rgB x l=false then 20 else 0
def nxt(p:Nat->Bool):Nat->Nat->Nat
 |0,k=>k
 |d+1,k=>if p k=true then k else nxt p d (k+1)
theorem qgX(p:Nat->Bool): ∀d k,k<=nxt p d k∧nxt p d k<=k+d∧(∀j,k<=j->j<nxt p d k->p j=false)∧(nxt p d k<k+d->p (nxt p d k)=true):=by
 intro d
 induction d with
 |zero=>intro k;exact⟨nlr _,nlr _,λj h1 h2=>by unfold nxt at h2;omega,λh=>by unfold nxt at h;omega⟩
 |succ d ih=>
  intro k;unfold nxt;split
  ·rename_i h;exact⟨nlr _,om,λj h1 h2=>by omega,λ_=>h⟩
  ·rename_i h;obtain⟨h1,h2,h3,h4⟩:=ih (k+1);refine⟨om,om,λj g1 g2=> ?_,λg=>h4 om⟩
   by_cases e:j=k
   ·subst e;simpa using h
   ·exact h3 j om g2
def kS(p:Nat->Bool)(n:Nat):Nat->Nat->List (Nat×Nat)
 |0,_=> []
 |d+1,f=>if n<=f then [] else (if f<nxt p (n-f) f then [(f,nxt p (n-f) f)] else [])++kS p n d (nxt p (n-f) f+1)
def qdh(p:Nat->Bool)(n:Nat):List (Nat×Nat):=kS p n (n+1) 0
theorem qdS(p:Nat->Bool)(n:Nat): ∀d f,(∀r∈kS p n d f,f<=r.1∧r.1<r.2∧r.2<=n∧ ∀k,r.1<=k->k<r.2->p k=false)∧(n-f<d-> ∀k,f<=k->k<n->p k=false-> ∃r∈kS p n d f,r.1<=k∧k<r.2):=by
 intro d
 induction d with
 |zero=>intro f;exact⟨λr hr=>absurd hr List.not_mem_nil,λh=>absurd h (nnz _)⟩
 |succ d ih=>
  intro f;unfold kS;split
  ·rename_i h;exact⟨λr hr=>absurd hr List.not_mem_nil,λ_ k h1 h2=>by omega⟩
  ·rename_i h;obtain⟨h1,h2,h3,h4⟩:=qgX p (n-f) f;obtain⟨i1,i2⟩:=ih (nxt p (n-f) f+1);obtain⟨t,ht⟩:=wg (nxt p (n-f) f)
   rw[<-ht]at h1 h2 h3 h4 i1 i2 ⊢;refine⟨λr hr=> ?_,λhd k k1 k2 k3=> ?_⟩
   ·rcases List.mem_append.1 hr with hr|hr
    ·split at hr
     ·rename_i hft;rw[List.mem_singleton]at hr;subst hr;exact⟨nlr _,hft,by simp only;omega,h3⟩
     ·cases hr
    ·obtain⟨g1,g2⟩:=i1 r hr;exact⟨om,g2⟩
   ·by_cases hk:k<t
    ·refine⟨(f,t),List.mem_append_left _ ?_,k1,hk⟩;rw[ipo om];exact List.mem_singleton.2 rfl
    ·have hne:k≠t:=λe=>by
      subst e;rw[h4 om]at k3;cases k3
     obtain⟨r,hr,g⟩:=i2 om k om k2 k3;exact⟨r,List.mem_append_right _ hr,g⟩
theorem qmr{p:Nat->Bool}{n:Nat}{r:Nat×Nat}(hr:r∈qdh p n):r.1<r.2∧r.2<=n∧ ∀k,r.1<=k->k<r.2->p k=false:=((qdS p n (n+1) 0).1 r hr).2
theorem qqc{p:Nat->Bool}{n k:Nat}(hk:k<n)(hp:p k=false): ∃r∈qdh p n,r.1<=k∧k<r.2:=(qdS p n (n+1) 0).2 om k (nzl _) hk hp
structure qFi (x:Co) (l:List Un):Prop where
 pw:l.Pairwise λa b=>a.to<b.frm
 rg: ∀u∈l,0<=u.frm∧u.frm<u.to∧u.to<=x.col.length∧u.rds=qbL x u.frm.toNat u.to.toNat
theorem qna{x:Co}{beh:Int}{u:Un}:unB x beh u=true↔beh<u.frm∧0<=u.frm∧u.frm<u.to∧u.to<=x.col.length∧u.rds=qbL x u.frm.toNat u.to.toNat:=by
 unfold unB;simp only[Bool.not_eq_true',Bool.or_eq_false_iff,decide_eq_false_iff_not,Bool.not_eq_false',decide_eq_true_eq];constructor
 ·rintro⟨h1,h2,h3,h4,h5⟩;exact⟨om,om,om,om,h5⟩
 ·rintro⟨h1,h2,h3,h4,h5⟩;exact⟨om,om,om,om,h5⟩
theorem qd7{x:Co}{l:List Un}(h:qbc x l=true):qFi x l:=by
 unfold qbc at h;rw[Bool.not_eq_true',qp]at h;have h1: ∀i,i<l.length->beH l i<(l.getD i default).frm∧0<=(l.getD i default).frm∧(l.getD i default).frm<(l.getD i default).to∧(l.getD i default).to<=x.col.length∧(l.getD i default).rds=qbL x (l.getD i default).frm.toNat (l.getD i default).to.toNat:=λi hi=>
  qna.1 (by simpa using h i hi)
 have g: ∀i (hi:i<l.length),l.getD i default=l[i]:=λi hi=>by rw[gdqA,zD hi];rfl
 refine⟨List.pairwise_iff_getElem.2 λi j hi hj hij=> ?_,λu hu=> ?_⟩
 ·have key: ∀d,i+1+d<l.length->(l.getD i default).to<(l.getD (i+1+d) default).frm:=by
   intro d
   induction d with
   |zero=>
    intro hd
    have:=(h1 (i+1) hd).1
    unfold beH at this;rw[ine om,Nat.add_sub_cancel]at this;exact this
   |succ d ih=>
    intro hd;have h2:=ih om;have h3:=(h1 (i+1+d) om).2.2.1;have h4:=(h1 (i+1+d+1) om).1;unfold beH at h4;rw[ine om,Nat.add_sub_cancel]at h4;rw[<-Nat.add_assoc];omega
  have:=key (j-(i+1)) om
  rw[show i+1+(j-(i+1))=j by omega,g i hi,g j hj]at this;exact this
 ·obtain⟨i,hi,rfl⟩:=List.getElem_of_mem hu
  have:=(h1 i hi).2
  rw[g i hi]at this;exact this
theorem qkA{l:List Un}{k:Nat}:cvB l k=true↔ ∃u∈l,u.frm<=k∧(k:Int)<u.to:=by
 unfold cvB;rw[qN];constructor
 ·rintro⟨i,hi,h⟩;rw[gdqA,zD hi,Bool.and_eq_true,decide_eq_true_iff,decide_eq_true_iff]at h;exact⟨_,List.getElem_mem hi,h⟩
 ·rintro⟨u,hu,h⟩;obtain⟨i,hi,rfl⟩:=List.getElem_of_mem hu;refine⟨i,hi,?_⟩;rw[gdqA,zD hi,Bool.and_eq_true,decide_eq_true_iff,decide_eq_true_iff];exact h
def rnB(l:List Un)(r:Nat×Nat):Bool:=jC (λi=>decide ((l.getD i default).frm<=r.1)&&decide ((r.2:Int)<=(l.getD i default).to)) l.length
theorem qml{l:List Un}{r:Nat×Nat}:rnB l r=true↔ ∃u∈l,u.frm<=r.1∧(r.2:Int)<=u.to:=by
 unfold rnB;rw[qN];constructor
 ·rintro⟨i,hi,h⟩;rw[gdqA,zD hi,Bool.and_eq_true,decide_eq_true_iff,decide_eq_true_iff]at h;exact⟨_,List.getElem_mem hi,h⟩
 ·rintro⟨u,hu,h⟩;obtain⟨i,hi,rfl⟩:=List.getElem_of_mem hu;refine⟨i,hi,?_⟩;rw[gdqA,zD hi,Bool.and_eq_true,decide_eq_true_iff,decide_eq_true_iff];exact h
theorem qpp{α:Type}{L:List α}{R:α->α->Prop}(h:L.Pairwise R){a b:α}(ha:a∈L)(hb:b∈L)(hne:a≠b):R a b∨R b a:=by
 induction L with
 |nil=>cases ha
 |cons c r ih=>
  obtain⟨h1,h2⟩:=List.pairwise_cons.1 h;rcases List.mem_cons.1 ha with ea|na
  ·rcases List.mem_cons.1 hb with eb|nb
   ·exact absurd (ea.trans eb.symm) hne
   ·rw[ea];exact .inl (h1 b nb)
  ·rcases List.mem_cons.1 hb with eb|nb
   ·rw[eb];exact .inr (h1 a na)
   ·exact ih h2 na nb
theorem qs7{x:Co}{l:List Un}(h:qbc x l=true):((qdh (cmB x) x.col.length).all (rnB l)=true)↔cvA x l=true:=by
 have ho:=qd7 h;unfold cvA;rw[List.all_eq_true,Bool.not_eq_true',qp];constructor
 ·intro hr k hk;cases hc:cmB x k with
  |true=>simp
  |false=>
   obtain⟨r,hr1,r1,r2⟩:=qqc hk hc;obtain⟨u,hu,u1,u2⟩:=qml.1 (hr r hr1);rw[qkA.2 ⟨u,hu,om,om⟩];rfl
 ·intro hk r hr;obtain⟨r1,r2,r3⟩:=qmr hr;have cov: ∀k,r.1<=k->k<r.2-> ∃u∈l,u.frm<=(k:Int)∧(k:Int)<u.to:=λk h1 h2=>by
   have h3:=hk k om;rw[r3 k h1 h2,Bool.not_false,Bool.and_true,Bool.not_eq_false']at h3;exact qkA.1 h3
  obtain⟨u,hu,u1,u2⟩:=cov r.1 (nlr _) r1;refine qml.2 ⟨u,hu,u1,?_⟩
  by_cases ht:(r.2:Int)<=u.to
  ·exact ht
  ·exfalso;have hur:=ho.rg u hu;obtain⟨k,hk2⟩: ∃k:Nat,u.to=(k:Int):=⟨u.to.toNat,om⟩
   obtain⟨v,hv,v1,v2⟩:=cov k om om;have hvr:=ho.rg v hv
   by_cases e:u=v
   ·subst e;omega
   ·rcases qpp ho.pw hu hv e with h1|h1
    ·omega
    ·omega
end RC
end
section
open Go Go.Proofs AF
def jy:List Nat:= []
def qss:C:=
 (vU [O1 3 (.box 0 26) 0,MC 6 (.str []),MC 7 (.bool false)] (vU [vN 9 3 3,LD 10 9,MV 11 1,O2 12 (.idxA 1) 10 11,LD 13 12,MV 14 2,O2 15 (.idxA 1) 13 14,LD 16 15,MV 8 16] ((vU [MV
 17 8,vP 18 .lss 17 0] (vV 18 (vX [MC 6 (.str []),MC 7 (.bool false)]))).seq (vX [vN 19 2 3,LD 20 19,MV 21 2,O2 22 (.idxA 1) 20 21,LD 23 22,MV 24 8,O2 25 (.idxA 6) 23 24,vN 26 0
 25,LD 27 26,MV 6 27,MC 7 (.bool true)]))))
theorem qro:qG Tryz.prog 215 28 1 [RV.tmp 6,RV.tmp 7] qss:=fi Tryz.f215 [3] jy []
def qv9:C:=
 (vU [O1 2 (.box 0 26) 0,MC 4 (.bool false)] (vU [O1 11 (.load (some 4)) 2,MV 12 1,ON 13 (.call 215 true) [.t 11,.t 12,.c (i6 0)],MV 10 13,O1 14 (.ext 0) 10,O1 15 (.ext 1) 10,MV
 5 14,MV 6 15] ((vU [vN 16 1 2,LD 17 16,O1 18 .len 17,vO 19 0] (C.block 0 (vU [BI 20 .lss 19 18] ((vW 20 0).seq ((C.block 1 (vU [MV 21 19,MV 7 21] (vU [O1 23 (.load (some 4))
 2,MV 24 1,MV 25 7,ON 26 (.call 215 true) [.t 23,.t 24,.t 25],MV 22 26,O1 27 (.ext 0) 22,O1 28 (.ext 1) 22,MV 8 27,MV 9 28] (vU [MV 29 6,O1 30 (.un UnOp.not) 29,MV 31 30,vS 32
 31 9,vQ 33 31 (.un UnOp.not) 32,PT 34 31 33,MV 35 34,vS 36 35 8,vS 37 35 5,vR 38 35 (.bin .neq) 36 37,PT 39 35 38] (vV 39 (vX [MC 4 (.bool false)])))))).seq (vY [vP 40 .add 19
 1,MV 19 40])))).loop)).seq (vX [MC 4 (.bool true)]))))
theorem qx9:qG Tryz.prog 140 41 1 [RV.tmp 4] qv9:=fi Tryz.f140 [2] jy []
def qEG:C:=
 (vU [O1 1 (.box 0 26) 0,MC 2 .nilfn] (vX [O1 3 (.mkfn (Fn.func 139) 0) 1,MV 2 3]))
theorem qDg:qG Tryz.prog 62 4 1 [RV.tmp 2] qEG:=fi Tryz.f62 [1] jy []
def qv8:C:=
 (vU [vO 3 0] (C.block 0 ((vU [MV 5 3,vN 6 3 1,LD 7 6,O1 8 .len 7,BI 9 .lss 5 8] (vW 9 0)).seq (C.block 1 (vU [MV 10 3,MV 4 10] ((C.block 2 ((vU [MV 11 4,vN 12 3 1,LD 13 12,O1 14
 .len 13,BI 15 .lss 11 14,MV 16 15,P1 17 16 true (.load (some 4)) 1,MG 18 16 true 4,P2 19 16 true (.call 140 true) 17 18,P1 20 16 true (.un UnOp.not) 19,PF 21 16 20] (vW 21
 2)).seq (C.block 3 (vZ 22 4))).loop).seq ((vU [MV 24 4,MV 25 3,BI 26 .gtr 24 25,MV 27 26,MG 28 27 true 0,MG 29 27 true 3,MG 30 27 true 4,PN 31 27 true .callv [.t 28,.t 29,.t
 30],P1 32 27 true (.un UnOp.not) 31,PF 33 27 32] (vV 33 C.ret)).seq (vY [MV 34 4,vP 35 .add 34 1,MV 3 35])))))).loop))
theorem qx8:qG Tryz.prog 139 36 0 [] qv8:=fi Tryz.f139 [] jy []
def qwa:C:=
 (vU [O1 4 (.box 0 26) 0,ON 8 (.nilo 1 1 9) []] (vU [ON 9 (.nilo 2 1 9) []] ((vU [MV 13 1,MV 10 13] (C.block 0 ((vU [MV 14 10,MV 15 2,BI 16 .lss 14 15] (vW 16 0)).seq ((C.block 1
 (vU [O1 20 (.load (some 4)) 4,MV 21 10,MV 22 3,ON 23 (.call 215 true) [.t 20,.t 21,.t 22],MV 19 23,O1 24 (.ext 0) 19,O1 25 (.ext 1) 19,MV 11 24,MV 12 25] (vU [MV 26 12] (vV 26
 (vY [MV 27 9,MV 28 11,⟨some 29,none,.bslc 3 1 1 9 [.str []] [(0,1)],[.t 28]⟩,O2 30 (.app 4 1 9 16) 27 29,MV 9 30]))))).seq (vZ 17 10))).loop)).seq (vX [MV 31 9,MV 8 31]))))
theorem qya:qG Tryz.prog 141 32 5 [RV.tmp 8] qwa:=fi Tryz.f141 [4,8,9,29,30] jy []
def qwb:C:=
 (vU [O1 4 (.box 0 152) 1,O1 5 (.box 1 218) 2,vO 6 0] (vX [MV 7 0,O2 8 (.mkfn (Fn.func 216) 0) 5 4,O2 9 (.call 91 true) 7 8,MV 6 9]))
theorem qyb:qG Tryz.prog 142 10 2 [RV.tmp 6] qwb:=fi Tryz.f142 [4,5] jy []
def qwv:C:=
 (vU [O1 3 (.box 0 152) 0,MC 4 (.bool false)] (vX [LD 5 1,O1 6 (.load (some 2)) 2,O1 7 (.load (some 2)) 3,ON 8 .callv [.t 5,.t 6,.t 7],MV 4 8]))
theorem qyw:qG Tryz.prog 216 9 1 [RV.tmp 4] qwv:=fi Tryz.f216 [3] jy []
def qEH:C:=
 (vU [O1 3 (.box 0 26) 0,ON 6 (.nilo 1 2 152) []] (vU [ON 7 (.nilo 2 2 152) []] ((vU [vN 11 1 3,LD 12 11,O1 13 .len 12,vO 14 0] (C.block 0 (vU [BI 15 .lss 14 13] ((vW 15 0).seq
 ((C.block 1 (vU [MV 16 14,MV 8 16] (vU [O1 17 (.load (some 4)) 3,MV 18 1,MV 19 2,MV 20 8,ON 21 (.call 141 true) [.t 17,.t 18,.t 19,.t 20],MV 22 8,⟨some 23,none,.bslc 3 1 1 3
 [i6 0] [(0,1)],[.t 22]⟩,⟨some 24,none,.build [.nl,.nl] [(0,1),(1,1)],[.t 21,.t 23]⟩,⟨some 9,none,.alloc 4 152 [.nl,.nl],[]⟩,ST 2 9 24] (vU [MV 25 7,O1 26 (.load (some 2)) 9,ON
 27 (.call 142 true) [.t 25,.t 26,.c (.fn (Fn.func 143) [] [])],MV 10 27] ((vU [MV 28 10,vP 29 .lss 28 0] (vV 29 (vU [MV 30 7,O1 31 (.load (some 2)) 9,⟨some 32,none,.bslc 5 2 1
 152 [.nl,.nl] [(0,2)],[.t 31]⟩,O2 33 (.app 6 2 152 48) 30 32,MV 7 33] (C.exit 1)))).seq (vY [MV 34 7,MV 35 10,MV 36 7,MV 37 10,O2 38 (.idxA 2) 36 37,vN 39 1 38,LD 40 39,MV 41
 8,⟨some 42,none,.bslc 7 1 1 3 [i6 0] [(0,1)],[.t 41]⟩,O2 43 (.app 8 1 3 8) 40 42,O2 44 (.idxA 2) 34 35,vN 45 1 44,ST 1 45 43])))))).seq (vY [vP 46 .add 14 1,MV 14
 46])))).loop)).seq (vX [MV 47 7,MV 6 47]))))
theorem qDh:qG Tryz.prog 63 48 9 [RV.tmp 6] qEH:=fi Tryz.f63 [3,6,7,23,9,32,33,42,43] jy []
def qwc:C:=
 (vU [O1 2 (.box 0 152) 0,O1 3 (.box 1 152) 1,MC 4 (.bool false)] (vX [vN 5 0 2,LD 6 5,vN 7 0 3,LD 8 7,O2 9 (.call 18 true) 6 8,MV 4 9]))
theorem qyc:qG Tryz.prog 143 10 2 [RV.tmp 4] qwc:=fi Tryz.f143 [2,3] jy []
def qwC:C:=
 (vU [MC 4 (.bool false)] (vX [MV 5 0,MV 6 1,ON 7 (.call 291 true) [.t 5,.t 6,.c (.fn (Fn.func 292) [] [])],MV 4 7]))
theorem qyD:qG Tryz.prog 225 8 0 [RV.tmp 4] qwC:=fi Tryz.f225 [] jy []
def qsB:C:=
 (vU [O1 2 (.box 0 152) 0,O1 3 (.box 1 152) 1,MC 4 (.bool false)] (vX [vN 5 0 2,LD 6 5,vN 7 0 3,LD 8 7,O2 9 (.call 18 true) 6 8,MV 10 9,P1 11 10 true (.fldA 1) 2,P1 12 10 true
 (.load none) 11,P1 13 10 true (.fldA 1) 3,P1 14 10 true (.load none) 13,P2 15 10 true (.call 30 true) 12 14,PF 16 10 15,MV 4 16]))
theorem qry:qG Tryz.prog 292 17 2 [RV.tmp 4] qsB:=fi Tryz.f292 [2,3] jy []
def qwk:C:=
 (vU [O1 2 (.box 0 26) 0,O1 3 (.box 1 31) 1,⟨some 4,none,.alloc 2 4 [.bool false],[]⟩] (vU [MC 5 (i6 (-1))] ((vU [LD 10 3,O1 11 .len 10,vO 12 0] (C.block 0 (vU [BI 13 .lss 12 11]
 ((vW 13 0).seq ((C.block 1 (vU [O2 14 (.idxA 3) 10 12,O1 15 (.load (some 3)) 14,⟨some 7,none,.alloc 3 39 [i6 0,i6 0,.nl],[]⟩,ST 3 7 15] ((vU [vN 16 0 7,LD 17 16,MV 18 5,BI 19
 .leq 17 18,MV 20 19,v7 21 20 0 7,v8 22 20 21,vT 23 20 (.bin .lss) 22 (i6 0),PT 24 20 23,MV 25 24,v7 26 25 0 7,v8 27 25 26,v7 28 25 1 7,v8 29 25 28,vR 30 25 (.bin .geq) 27 29,PT
 31 25 30,MV 32 31,v7 33 32 1 7,v8 34 32 33,v7 35 32 3 2,v8 36 32 35,vQ 37 32 .len 36,vR 38 32 (.bin .gtr) 34 37,PT 39 32 38,MV 40 39,v7 41 40 2 7,v8 42 40 41,vQ 43 40 (.load
 (some 4)) 2,v7 44 40 0 7,v8 45 40 44,v7 46 40 1 7,v8 47 40 46,PN 48 40 false (.call 63 true) [.t 43,.t 45,.t 47],vR 49 40 (.call 225 true) 42 48,vQ 50 40 (.un UnOp.not) 49,PT
 51 40 50] (vV 51 (vX [⟨none,none,.store 1,[.t 4,.c (.bool false)]⟩]))).seq (vY [vN 52 1 7,LD 53 52,MV 5 53])))).seq (vY [vP 54 .add 12 1,MV 12 54])))).loop)).seq ((vU [O1 55
 (.load (some 4)) 2,O1 56 (.call 62 true) 55] (C.block 2 (C.range (.t 56) [57,58] (vU [⟨some 8,none,.alloc 4 3 [i6 0],[]⟩,ST 1 8 57] (vY [⟨some 9,none,.alloc 5 3 [i6 0],[]⟩,ST 1
 9 58])) (C.block 3 (vU [LD 59 3,O2 60 (.mkfn (Fn.func 226) 0) 8 9,O2 61 (.call 14 true) 59 60,O1 62 (.un UnOp.not) 61] (vV 62 (vX [⟨none,none,.store 1,[.t 4,.c (.bool
 false)]⟩]))))))).seq (vX [⟨none,none,.store 1,[.t 4,.c (.bool true)]⟩])))))
theorem qyk:qG Tryz.prog 152 63 6 [RV.cell 4 none] qwk:=fi Tryz.f152 [2,3,4,7,8,9] jy []
def qsu:C:=
 (vU [O1 3 (.box 0 39) 0,MC 4 (.bool false)] (vX [vN 5 0 3,LD 6 5,LD 7 1,BI 8 .leq 6 7,MV 9 8,P1 10 9 true (.load none) 2,P1 11 9 true (.fldA 1) 3,P1 12 9 true (.load none) 11,P2
 13 9 true (.bin .leq) 10 12,PF 14 9 13,MV 4 14]))
theorem qrq:qG Tryz.prog 226 15 1 [RV.tmp 4] qsu:=fi Tryz.f226 [3] jy []
def qCE:C:=
 (vU [O1 2 (.box 0 26) 0,vO 4 0] ((vU [O1 5 (.load (some 4)) 2,O1 6 (.call 47 true) 5,vP 7 .neq 6 0] (vV 7 (vX [vO 4 1]))).seq ((vU [O1 8 (.load (some 4)) 2,MV 9 1,O2 10 (.call
 152 true) 8 9,O1 11 (.un UnOp.not) 10] (vV 11 (vX [vO 4 20]))).seq (vX [vO 4 0]))))
theorem qzK:qG Tryz.prog 74 12 1 [RV.tmp 4] qCE:=fi Tryz.f74 [2] jy []
def qCF:C:=
 (vU [O1 3 (.box 0 3) 1,vO 4 0,vO 5 0] ((vU [LD 6 3,vP 7 .lss 6 0] (vV 7 (vX [vO 4 0,vO 5 2]))).seq (vX [MV 8 0,O1 9 (.mkfn (Fn.func 153) 0) 3,O2 10 (.call 65 true) 8 9,MV 4
 10,vO 5 0])))
theorem qzL:qG Tryz.prog 76 11 1 [RV.tmp 4,RV.tmp 5] qCF:=fi Tryz.f76 [3] jy []
def qso:C:=
 (vU [O1 2 (.box 0 39) 0,MC 3 (.bool false)] (vX [vN 4 0 2,LD 5 4,LD 6 1,BI 7 .leq 5 6,MV 8 7,P1 9 8 true (.load none) 1,P1 10 8 true (.fldA 1) 2,P1 11 8 true (.load none) 10,P2
 12 8 true (.bin .lss) 9 11,PF 13 8 12,MV 3 13]))
theorem qrj:qG Tryz.prog 153 14 1 [RV.tmp 3] qso:=fi Tryz.f153 [2] jy []
end
section
open Go Go.Proofs AF HY LN
namespace RC
section
variable {x : Co} {k s : Nat}
theorem qCR(h:wh)(ho:CoOk x)(hk:k<x.col.length)(hs:s<x.sig.length):ACalls Tryz.prog 215 [.agg (coC x),.int .i64 (k:Int),.int .i64 (s:Int)] h (.tup [.str ((clT x k s).getD []),.bool (clT x k s).isSome]) h:=by
 have hcl:=ho.cl k hk;have hce:=ho.ce k hk s hs;have htn:=ho.tn;unfold clT;obtain⟨c,hc⟩:=wg (x.col.getD k [])
 have ec:=hc.symm;rw[ec]at hcl hce ⊢;obtain⟨t,ht⟩:=wg (c.getD s 0)
 have et:=ht.symm;rw[et]at hce ⊢;obtain⟨l,hl⟩:=wg (x.tok.getD s [])
 have el:=hl.symm;rw[el]at hce ⊢;have k0:(0<=(k:Int))=True:=wj;have k1:((k:Int)<x.col.length)=True:=wj;have k2:((s:Int)<c.length)=True:=wj;have k3:((s:Int)<x.tok.length)=True:=wj;have k4:(0<=(s:Int))=True:=wj
 by_cases g:t<0
 ·have k5:(t<0)=True:=eqt g;rw[ipo g];refine acO qro ?_;simp (disch:=omega) only[qss,coC,qv,qx,k0,k1,k2,k4,k5,ec,et,go_sem]
  repeat' first|exact wa|with_reducible apply aiA|exact clz|fail
 ·have k5:(t<0)=False:=eqf g;rw[ine g];have k6:(t<l.length)=True:=eqt (by rcases hce with e|e;omega;omega);have k7:(0<=t)=True:=wj;obtain⟨w,hw⟩:=wg (l.getD t.toNat default)
  have ew:=hw.symm;rw[ew];refine acO qro ?_;simp (disch:=omega) only[qss,coC,qv,qx,qn,zy,tkC,k0,k1,k2,k3,k4,k5,k6,k7,ec,et,el,ew,go_sem]
  repeat' first|exact wa|with_reducible apply aiA|exact clz|fail
theorem cmP(h:wh)(ho:CoOk x)(hk:k<x.col.length):ACalls Tryz.prog 140 [.agg (coC x),.int .i64 (k:Int)] h (.bool (cmB x k)) h:=by
 have hsg:=ho.sg;obtain⟨R,hR⟩:=wg (cmB x k)
 rw[<-hR];unfold cmB at hR;have c0:=λh=>qCR (x:=x) (k:=k) (s:=0) h ho hk hsg.1
 obtain⟨o0,ho0⟩:=wg (clT x k 0)
 rw[<-ho0]at hR c0;have ez:((0:Nat):Int)=0:=rfl;rw[ez]at c0;have zl: ∀g,valL g .len [strs x.sig]= .int .i64 x.sig.length:=λ_=>rfl
 have zo: ∀g,okL g .len [strs x.sig]=True:=λ_=>eqt trivial
 unfold coC at c0;refine acO qx9 ?_;simp (disch:=omega) only[qv9,coC,go_sem]
 repeat' first|(refine cA (c0 _) flk ?_;simp (disch:=omega) only[zl,zo,go_sem])|with_reducible apply aiA|exact clz|fail
 refine qk (T:=λi:Nat=>qP 41 [(1,.int .i64 (k:Int)),(2,.op h.length 1 0),(5,.str (o0.getD [])),(6,.bool o0.isSome),(18,.int .i64 x.sig.length),(19,.int .i64 i)]) (H:=λ_=>h++ [.mem 1 26 (coC x)])
  (inv:=λi=>i<=x.sig.length∧ ∀j,j<i->(decide (clT x k j=none)|| !decide (clT x k j=o0))=false) (m:=λi=>x.sig.length-i) 0 ⟨nzl _,λj hj=>absurd hj (nnz j)⟩ (Wk.temps ?_) ?_
 ·(simp only[go_sem,qf,qc,qa,qe];try exact we)
 rintro i ⟨i1,i2⟩ K hK
 by_cases hi:i<x.sig.length
 ·have k1:((i:Int)<x.sig.length)=True:=wj;have c1:=λh=>qCR (x:=x) (k:=k) (s:=i) h ho hk hi
  have hno:(decide (clT x k i=none)|| !decide (clT x k i=o0))=true->R=false:=λhx=>by rw[hR,qN.2 ⟨i,hi,hx⟩];rfl
  have hS:(decide (clT x k i=none)|| !decide (clT x k i=o0))=false-> ∀j,j<i+1->(decide (clT x k j=none)|| !decide (clT x k j=o0))=false:=λhx j hj=>by
   by_cases e:j=i
   ·subst e;exact hx
   ·exact i2 j om
  obtain⟨o,hox⟩:=wg (clT x k i)
  rw[<-hox]at hno hS;rw[<-hox]at c1;unfold coC at c1;cases o0 with
  |none=>
   have hV:R=false:=hno (by cases o<;>simp);rw[hV];simp (disch:=omega) only[coC,k1,Option.isSome_none,Option.getD_none,go_sem]
   repeat' first|(refine cA (c1 _) flk ?_;simp (disch:=omega) only[go_sem])|exact wa|with_reducible apply aiA|exact clz|fail
  |some w0=>
  cases o with
  |none=>
   rw[hno rfl];simp (disch:=omega) only[coC,k1,Option.isSome_some,Option.getD_some,go_sem]
   repeat' first|(refine cA (c1 _) flk ?_;simp (disch:=omega) only[Option.isSome_none,Option.getD_none,Option.getD_some,go_sem])|exact wa|with_reducible apply aiA|exact clz|fail
  |some w=>
  by_cases g:w=w0
  ·have q1:(w=w0)=True:=eqt g;simp (disch:=omega) only[coC,k1,Option.isSome_some,Option.getD_some,go_sem]
   repeat' first|(refine cA (c1 _) flk ?_;simp (disch:=omega) only[q1,Option.isSome_some,Option.getD_some,go_sem])|with_reducible apply aiA|exact clz|fail
   refine hK _ _ (i+1) ⟨hi,hS (by rw[g];simp)⟩ om (Wk.temps ?_)
   (simp only[go_sem,qf,qc,qa,qe];try exact we)
  ·have q1:(w=w0)=False:=eqf g;rw[hno (by simp[g])];simp (disch:=omega) only[coC,k1,Option.isSome_some,Option.getD_some,go_sem]
   repeat' first|(refine cA (c1 _) flk ?_;simp (disch:=omega) only[q1,Option.isSome_some,Option.getD_some,go_sem])|exact wa|with_reducible apply aiA|exact clz|fail
 ·have k1:((i:Int)<x.sig.length)=False:=wl;have hV:R=true:=by rw[hR,qp.2 λj hj=>i2 j om];rfl
  rw[hV];simp (disch:=omega) only[coC,k1,go_sem]
  repeat' first|exact wa|fail
end
theorem rdP(x:Co)(f t s:Nat)(h:wh)(ho:CoOk x)(ht:t<=x.col.length)(hs:s<x.sig.length)(hn:x.col.length<=1000000000):ACalls Tryz.prog 141 [.agg (coC x),.int .i64 (f:Int),.int .i64 (t:Int),.int .i64 (s:Int)] h (strs (rdG x s f (t-f))) h:=by
 refine acO qya ?_;simp (disch:=omega) only[qwa,coC,go_sem];refine qk (T:=λi:Nat×Nat×AObj=>qP 32 [(2,.int .i64 (t:Int)),(3,.int .i64 (s:Int)),(4,.op h.length 1 0),(9,.osl (h.length+2) i.2.1 1 0 (rdG x s f i.1).length),(10,.int .i64 ((f+i.1:Nat):Int))])
  (H:=λi=>h++ [.mem 1 26 (coC x),.emp 1,zw i.2.1 9 (jF (rdG x s f i.1)),i.2.2,.emp 0])
  (inv:=λi=>i.1<=t-f∧qz [i.2.2] 0=true) (m:=λi=>t-f-i.1) (0,1,.emp 0) ⟨nzl _,rfl⟩ (Wk.temps ?_) ?_
 ·(simp only[rdG,lnl,Nat.add_zero,go_sem,qf,qc,qa,qe];try exact we)
 rintro⟨d,v,O⟩ ⟨i1,i2⟩ K hK;simp only at i1 i2 hK;have i2': ∀m,qz (O::m) 0=true:=λ_=>i2
 have hln:=qaq x s f d;have hst:rdG x s f (d+1)=rdG x s f d++(clT x (f+d) s).toList:=rfl;obtain⟨L,hL⟩:=wg (rdG x s f d)
 rw[<-hL]at hln hst;have eL:=hL.symm;have eC:=jG L
 by_cases hi:f+d<t
 ·have k1:(((f+d:Nat):Int)<t)=True:=wj;have c1:=λh=>qCR (x:=x) (k:=f+d) (s:=s) h ho om hs
  obtain⟨o,hox⟩:=wg (clT x (f+d) s)
  rw[<-hox]at hst c1;unfold coC at c1;have eTk:List.take L.length (jF L)=jF L:=ltl om;cases o with
  |none=>
   have hst:rdG x s f (d+1)=L:=by rw[hst];simp
   simp (disch:=omega) only[coC,k1,eL,go_sem]
   repeat' first|(refine cA (c1 _) flk ?_;simp (disch:=omega) only[i2',Option.isSome_none,Option.getD_none,go_sem])|with_reducible apply aiA|exact clz|fail
   refine hK _ _ (d+1,v,O) ⟨om,i2⟩ (by simp only;omega) ?_;simp only[hst];refine Wk.temps ?_
   (simp only[go_sem,qf,qc,qa,qe];try exact we)
  |some w=>
   have hst:rdG x s f (d+1)=L++ [w]:=hst;simp (disch:=omega) only[coC,k1,eL,Option.isSome_some,Option.getD_some,go_sem]
   repeat' first|(refine cA (c1 _) flk ?_;simp (disch:=omega) only[i2',eC,eTk,Nat.mul_one,Option.isSome_some,Option.getD_some,go_sem])|with_reducible apply aiA|exact clz|fail
   have eA:jF L++ [AV.str w]=jF (rdG x s f (d+1)):=by rw[hst,qhh];rfl
   try rw[eA]
   refine hK _ _ (d+1,v+1,.mem (qo (some O)+1) 9 [.str w]) ⟨om,rfl⟩ (by simp only;omega) ?_;simp only[hst,lap,lco,lnl];refine Wk.temps ?_
   (simp only[go_sem,qf,qc,qa,qe];try exact we)
 ·have k1:(((f+d:Nat):Int)<t)=False:=wl;obtain rfl:d=t-f:=by omega
  rw[eL];simp (disch:=omega) only[k1,go_sem]
  repeat' first|(apply qb;exact rvk;simp only[go_sem])
  exact qa0 (λ_=>rfl) rfl
def fnU(l:List Un)(c:Int):Int:=qbE (λi=>decide ((l.getD i default).frm<=c)&&decide (c<(l.getD i default).to)) l.length 0
theorem qla(l:List Un)(c:Int): -1<=fnU l c∧fnU l c<l.length:=by
 unfold fnU;rcases zE (λi=>decide ((l.getD i default).frm<=c)&&decide (c<(l.getD i default).to)) l.length with⟨i,h1,_,_,h4⟩|⟨_,h2⟩
 ·rw[h4];omega
 ·rw[h2];omega
theorem qgO{l:List Un}{c:Int}{k:Nat}(h:fnU l c=k):k<l.length∧(l.getD k default).frm<=c∧c<(l.getD k default).to:=by
 unfold fnU at h;rcases zE (λi=>decide ((l.getD i default).frm<=c)&&decide (c<(l.getD i default).to)) l.length with⟨i,h1,h2,_,h4⟩|⟨_,h2⟩
 ·rw[h4]at h;have e:i=k:=by omega
  subst e;rw[Bool.and_eq_true,decide_eq_true_iff,decide_eq_true_iff]at h2;exact⟨h1,h2⟩
 ·rw[h2]at h;omega
theorem qrE{l:List Un}{c:Int}(h:fnU l c<0){i:Nat}(hi:i<l.length): ¬((l.getD i default).frm<=c∧c<(l.getD i default).to):=by
 unfold fnU at h;rcases zE (λi=>decide ((l.getD i default).frm<=c)&&decide (c<(l.getD i default).to)) l.length with⟨j,_,_,_,h4⟩|⟨h1,_⟩
 ·rw[h4]at h;omega
 ·have:=h1 i hi
  rw[Bool.and_eq_false_iff,decide_eq_false_iff_not,decide_eq_false_iff_not]at this;omega
theorem qzQ{x:Co}{l:List Un}(h:qbc x l=true){c:Int}{k:Nat}(hk:k<l.length)(h1:(l.getD k default).frm<=c)(h2:c<(l.getD k default).to):fnU l c=k:=by
 have ho:=qd7 h;rcases Int.lt_or_le (fnU l c) 0 with hn|hn
 ·exact absurd ⟨h1,h2⟩ (qrE hn hk)
 ·obtain⟨j,hj⟩: ∃j:Nat,fnU l c=j:=⟨(fnU l c).toNat,om⟩
  obtain⟨j1,j2,j3⟩:=qgO hj;rw[hj];have g: ∀i (hi:i<l.length),l.getD i default=l[i]:=λi hi=>by rw[gdqA,zD hi];rfl
  rw[g k hk]at h1 h2;rw[g j j1]at j2 j3;rcases Nat.lt_trichotomy j k with e|e|e
  ·have:=List.pairwise_iff_getElem.1 ho.pw j k j1 hk e;omega
  ·omega
  ·have:=List.pairwise_iff_getElem.1 ho.pw k j hk j1 e;omega
def gwB(ws:List Str)(n:Nat):Bool:=jC (λi=>decide (20<(ws.getD i []).length)) ws.length||decide (n<ws.length)
theorem jD{p:Nat->Bool}{i:Nat}(h: ∀j,j<i->p j=false)(hp:p i=false): ∀j,j<i+1->p j=false:=by
 intro j hj
 by_cases e:j=i
 ·subst e;exact hp
 ·exact h j om
theorem gwP(ws:List Str)(n:Nat)(h:wh)(hn:ws.length<=9223372036854775807):ACalls Tryz.prog 158 [strs ws,.int .i64 n] h (.bool (gwB ws n)) h:=by
 obtain⟨R,hR⟩:=wg (gwB ws n)
 rw[<-hR];unfold gwB at hR;refine acO qyl ?_;simp (disch:=omega) only[qwl,strs,go_sem];refine qk (T:=λi:Nat=>qP 22 [(0,strs ws),(1,.int .i64 n),(5,.int .i64 i)]) (H:=λ_=>h) (inv:=λi=>i<=ws.length∧ ∀j,j<i->(λi=>decide (20<(ws.getD i []).length)) j=false) (m:=λi=>ws.length-i) 0 ⟨nzl _,λj hj=>by omega⟩ (Wk.temps ?_) ?_
 ·(simp only[strs,go_sem,qf,qc,qa,qe];try exact we)
 rintro i ⟨i1,i2⟩ K hK
 by_cases hi:i<ws.length
 ·have k1:((i:Int)<ws.length)=True:=wj
  by_cases g:20<(ws.getD i []).length
  ·have hV:R=true:=by rw[hR,qN.2 ⟨i,hi,dqt g⟩];rfl
   obtain⟨s,hs⟩:=wg (ws.getD i [])
   have es:=hs.symm;rw[es]at g;have k2:((20:Int)<s.length)=True:=wj;rw[hV];simp (disch:=omega) only[strs,k1,k2,es,go_sem]
   repeat' first|exact wc|with_reducible apply aiA|exact clz|fail
  ·have i3:=jD i2 (dqf g);obtain⟨s,hs⟩:=wg (ws.getD i [])
   have es:=hs.symm;rw[es]at g;have k2:((20:Int)<s.length)=False:=wl;simp (disch:=omega) only[strs,k1,k2,es,go_sem]
   repeat' first|with_reducible apply aiA|exact clz|fail
   refine hK _ _ (i+1) ⟨hi,i3⟩ om (Wk.temps ?_)
   (simp only[strs,go_sem,qf,qc,qa,qe];try exact we)
 ·have k1:((i:Int)<ws.length)=False:=wl;rw[qp.2 (λj hj=>i2 j om),Bool.false_or]at hR;have e:decide ((n:Int)<ws.length)=R:=by rw[hR];exact decide_eq_decide.2 om
  simp (disch:=omega) only[strs,k1,go_sem]
  repeat' first|(apply qh;exact rvk;simp only[go_sem];apply qd)|exact clz|fail
theorem qAb{ws:List Str}{n:Nat}(h:gwB ws n=false):ws.length<=n∧ ∀i,(ws.getD i []).length<=20:=by
 unfold gwB at h;rw[Bool.or_eq_false_iff,decide_eq_false_iff_not,qp]at h;refine⟨om,λi=> ?_⟩
 by_cases hi:i<ws.length
 ·have:=of_decide_eq_false (h.1 i hi)
  omega
 ·rw[gdqA,List.getElem?_eq_none om];exact nzl _
end RC
end
section
open Go Go.Proofs AF
end
section
open Go Go.Proofs AF HY LN
namespace AF
end AF
namespace RC
theorem qip(L:List Gr):(qnK L).solid=true:=rfl
theorem qhD(L:List Gr):(qnK L).cells= [qnK L]:=rfl
theorem qio(L:List En):(qnJ L).solid=true:=rfl
theorem qhC(L:List En):(qnJ L).cells= [qnJ L]:=rfl
theorem qmK(names:List Str)(gs:List Gr)(e:En):(stV names gs e).solid=true:=rfl
theorem qkm(names:List Str)(gs:List Gr)(e:En):(stV names gs e).cells= [stV names gs e]:=rfl
theorem qmI(names:List Str)(gs:List Gr)(L:List En):(msV names gs L).solid=true:=rfl
theorem qkk(names:List Str)(gs:List Gr)(L:List En):(msV names gs L).cells= [msV names gs L]:=rfl
theorem qfZ(L:List Int):(qx L).solid=true:=rfl
theorem qfx(L:List Int):(qx L).cells= [qx L]:=rfl
attribute [go_sem] qip qhD qio qhC qmK qkm qmI qkk qfZ qfx
end RC
end
section
open Go Go.Proofs AF HY LN
namespace RC
section
variable (names : List Str) (gs : List Gr) (t : List Str) (l : List En) (src : Int) (h : wh)
theorem qqn{v n:Nat}{L:List Int}{g:AV->AV}(hg: ∀s,g (.int .i64 s)= .int .i64 s)(hn:n=L.length):VLe (qe4 (some (zw v 3 (qM L))) v 1 0 n g) (qx L):=by
 subst hn
 by_cases h:L= []
 ·subst h;show VLe (qe4 (some (.emp v)) v 1 0 0 g) _;rw[slOf_emp,ipo rfl];exact qU
 ·have e0:zw v 3 (qM L)= .mem v 3 (qM L):=c8 (λe=>h (qeK.1 e));rw[e0,slOf_mem,ipo ⟨rfl,by rw[ja];omega⟩];simp only[Nat.zero_add,Nat.mul_one];exact qct g hg rfl
end
section
variable (names : List Str) (gs : List Gr) (t : List Str) (l : List En) (src : Int) (h : wh)
end
theorem eqS(a:List Str)(h:wh)(hn:a.length<=1000000000):ACalls Tryz.prog 18 [strs a,strs a] h (.bool true) h:=by
 have c:=qCg qys a.length a.length (λj=> .s (a.getD j [])) (λj=> .s (a.getD j [])) h (λ_ _ _=>rfl) om om;rw[dqt ⟨rfl,λ_ _=>rfl⟩]at c;exact c
theorem eqI(a:List Int)(h:wh)(hn:a.length<=1000000000):ACalls Tryz.prog 30 [qx a,qx a] h (.bool true) h:=by
 have c:=qCg qzc a.length a.length (λj=> .i (a.getD j 0)) (λj=> .i (a.getD j 0)) h (λ_ _ _=>rfl) om om;rw[dqt ⟨rfl,λ_ _=>rfl⟩]at c;exact c
theorem qC2{L:List Str}{X:AV}{h:wh}(hv:qbb ([strs L,X].map (rei (λ_=>true) h 8)) [strs L,strs L])(hn:L.length<=1000000000):ACalls Tryz.prog 18 [strs L,X] h (.bool true) h:=
 ACalls.borrow ((eqS L [] hn).le hv (qi)) rfl
end RC
end
section
open Go Go.Proofs AF HY LN
namespace RC
end RC
namespace RC
end RC
end
section
open Go Go.Proofs AF HY LN
namespace AF
structure qvz (E:AV) (n:Nat) (cs:wi):Prop where
 fl:E.flag=true
 st:E.strip=E
 vl: ∀g,valL g .len [E]= .int .i64 n
 ok: ∀g,okL g .len [E]=True
 sc: ∀g,ql g E=some (n,cs)
 ap: ∀k v z p m,qaz (.osl k v z p m) E=true
theorem qvz.sl(n:Nat)(f:Nat->wi):qvz (.sl n f) n ((List.range n).flatMap f):=⟨rfl,rfl,λ_=>rfl,λ_=>eqt trivial,λ_=>rfl,λ_ _ _ _ _=>rfl⟩
end AF
namespace RC
theorem qvz.strs(L:List Str):qvz (strs L) L.length (jF L):=⟨rfl,rfl,λ_=>rfl,λ_=>eqt trivial,λg=>qqy g L,λ_ _ _ _ _=>rfl⟩
theorem qvz.sub{t:List Str}{a b:Nat}(h1:a<=b)(h2:b<=t.length):qvz (.sl (b-a) λi=> [.str (t.getD (a+i) [])]) (qnN t a b).length (jF (qnN t a b)):=by
 rw[qqI h1 h2];exact⟨rfl,rfl,λ_=>rfl,λ_=>eqt trivial,λg=>qmR g h1 h2,λ_ _ _ _ _=>rfl⟩
end RC
end
section
open Go Go.Proofs AF HY LN
namespace RC
def qiL(ms:List Nat):AV:= .sl ms.length λi=> [.int .u64 ((ms.getD i 0:Nat):Int)]
theorem qhV(L:List Nat):(qiL L).flag=true:=rfl
theorem qgc(L:List Nat):(qiL L).strip=qiL L:=rfl
theorem qf2(L:List Nat):(qiL L).solid=true:=rfl
theorem qfA(L:List Nat):(qiL L).cells= [qiL L]:=rfl
attribute [go_sem] qhV qgc qf2 qfA
end RC
end
section
open Go Go.Proofs AF
end
section
open Go Go.Proofs AF HY LN
namespace RC
end RC
end
