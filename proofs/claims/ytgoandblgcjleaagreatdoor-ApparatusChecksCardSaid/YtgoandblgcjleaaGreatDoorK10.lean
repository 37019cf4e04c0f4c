import Derived.Test.YtgoandblgcjleaaGreatDoorK9
import Derived.Test.YtgoandblgcjleaaGreatDoorK4
import Derived.Below
import Derived.Test.YtgoandblgcjleaaGreatDoorK1
import Derived.Lib.AppendIntMem
import Derived.Stop.LaidErr
import Derived.Lib.ItoaLen
import Derived.Test.YtgoandblgcjleaaGreatDoorK5
set_option linter.all false
set_option linter.unusedSimpArgs false
set_option linter.unusedVariables false
set_option linter.unusedSectionVars false
set_option maxHeartbeats 16000000
set_option maxRecDepth 100000
section
open Go Go.Proofs AF HY LN
namespace RC
theorem _root_.AF.Wk.kill2{t:List AV}{h l:List AObj}{a b:AObj}{v:Nat}{ty:TypeId}{cs:List AV}:Wk t (h++a::b:: .mem v ty cs::l) t (h++a::b:: .emp (v+1)::l):=by
 have:=Wk.kill0 (t:=t) (h:=h++ [a,b]) (l:=l) (v:=v) (ty:=ty) (cs:=cs)
 simpa using this
theorem qbm{n:Int}(h0:0≤n)(h1:n<18446744073709551616):IntKind.u64.wrap n=n:=by
 have e1:(2:Int)^IntKind.bits IntKind.u64=18446744073709551616:=by decide
 have e3:IntKind.signed IntKind.u64=false:=rfl;unfold IntKind.wrap;rw[e1,e3];simp only[Bool.false_and,Bool.false_eq_true,if_false];omega
theorem jB(a:Nat):BitVec.ofInt 64 (a:Int)=BitVec.ofNat 64 a:=by simp
theorem qhq{a b:Nat}(ha:a<2^64)(hb:b<2^64):orK .u64 (a:Int) (b:Int)=((a|||b:Nat):Int):=by
 have hab:a|||b<2^64:=Nat.or_lt_two_pow ha hb;unfold orK;rw[show IntKind.bits IntKind.u64=64 from rfl,jB,jB,BitVec.toNat_or,BitVec.toNat_ofNat,BitVec.toNat_ofNat,Nat.mod_eq_of_lt ha,Nat.mod_eq_of_lt hb];exact qbm om om
theorem qsQ{a b:Nat}(ha:a<2^64)(hb:b<2^64):qok .u64 (a:Int) (b:Int)=((a&&&b:Nat):Int):=by
 have hab:a&&&b<2^64:=Nat.lt_of_le_of_lt Nat.and_le_left ha;unfold qok;rw[show IntKind.bits IntKind.u64=64 from rfl,jB,jB,BitVec.toNat_and,BitVec.toNat_ofNat,BitVec.toNat_ofNat,Nat.mod_eq_of_lt ha,Nat.mod_eq_of_lt hb];exact qbm om om
theorem qgn{n:Nat}(hn:n<64):qwD .u64 1 (n:Int)=((2^n:Nat):Int):=by
 unfold qwD;rw[show IntKind.bits IntKind.u64=64 from rfl,itn,Nat.min_eq_left om];have h2:(2:Nat)^n<2^64:=Nat.pow_lt_pow_right om hn;rw[Int.one_mul,show ((2:Int)^n)=((2^n:Nat):Int) by simp];exact qbm (Int.natCast_nonneg _) (Int.ofNat_lt.2 (show 2^n<18446744073709551616 from h2))
theorem qvs{a n:Nat}(hn:n<64):qvr .u64 (a:Int) (n:Int)=((a>>>n:Nat):Int):=by
 unfold qvr;rw[show IntKind.bits IntKind.u64=64 from rfl,itn,Nat.min_eq_left om,Nat.shiftRight_eq_div_pow,show ((2:Int)^n)=((2^n:Nat):Int) by simp,Int.fdiv_eq_ediv_of_nonneg _ (Int.natCast_nonneg _)];rfl
theorem qkw{a n:Nat}(ha:a<2^64)(hn:n<64):qok .u64 (qvr .u64 (a:Int) (n:Int)) 1=if a.testBit n=true then 1 else 0:=by
 rw[qvs hn,show (1:Int)=((1:Nat):Int)from rfl,qsQ (Nat.lt_of_le_of_lt (by rw[Nat.shiftRight_eq_div_pow];exact Nat.div_le_self _ _) ha) (by decide)]
 have:(a>>>n)&&&1=(a.testBit n).toNat:=by rw[Nat.testBit];simp[Nat.and_comm 1];rcases Nat.mod_two_eq_zero_or_one (a>>>n)with h|h<;>simp[h]
 rw[this];cases a.testBit n<;>rfl
def qaf(l:List Int):Nat:=l.foldl (fun a n=>a|||2^n.toNat) 0
def inB(b:Int)(l:List Int):Prop:= ∀i,i<l.length→0≤l.getD i 0∧l.getD i 0<b
theorem qsq(l:List Int): ∀a:Nat,a<2^64→(∀n∈l,0≤n∧n<64)→l.foldl (fun a n=>a|||2^n.toNat) a<2^64∧ ∀i,(l.foldl (fun a n=>a|||2^n.toNat) a).testBit i=(a.testBit i||decide ((i:Int)∈l)):=by
 induction l with
 |nil=>intro a ha _;exact⟨ha,fun i=>by simp⟩
 |cons n l ih=>
  intro a ha hl;have hn:=hl n (by simp);obtain⟨h1,h2⟩:=ih (a|||2^n.toNat) (Nat.or_lt_two_pow ha (Nat.pow_lt_pow_right om om)) (fun m hm=>hl m (by simp[hm]));refine⟨h1,fun i=> ?_⟩;rw[List.foldl_cons,h2 i,Nat.testBit_or,Nat.testBit_two_pow]
  by_cases e:(i:Int)=n
  ·have e':n.toNat=i:=by omega
   simp[e,e']
  ·have e': ¬n.toNat=i:=by omega
   simp[e,e']
theorem jl{l:List Int}{b:Int}(h:inB b l): ∀n∈l,0≤n∧n<b:=by
 intro n hn;obtain⟨i,hi,e⟩:=List.getElem_of_mem hn
 have:=h i hi
 rw[gdqA,zp hi]at this;rw[←e];exact this
theorem qcR{l:List Int}(h:inB 64 l):qaf l<2^64:=(qsq l 0 (by decide) (jl h)).1
theorem qaa{l:List Int}(h:inB 64 l)(i:Nat):(qaf l).testBit i=decide ((i:Int)∈l):=by
 have:=(qsq l 0 (by decide) (jl h)).2 i
 rw[Nat.zero_testBit,Bool.false_or]at this;exact this
theorem qpS{l:List Int}{b:Int}{i:Nat}(h:inB b l)(hi:i≤l.length):inB b (l.take i):=by
 intro j hj;rw[List.length_take]at hj
 have:=h j om
 rw[gdqA,List.getElem?_take,ipo om,←gdqA];exact this
theorem qp2{l:List Int}{i:Nat}(hi:i<l.length):qaf (l.take (i+1))=qaf (l.take i)|||2^(l.getD i 0).toNat:=by
 unfold qaf;rw[List.take_add_one,zp hi,List.foldl_append,gdqA,zp hi];rfl
theorem qBB(l:List Int)(h:List AObj)(hl:l.length≤1000000000)(hb:inB 64 l):ACalls Tryz.prog 125 [ql l] h (.int .u64 (qaf l:Int)) h:=by
 refine acO qyB ?_;simp (disch:=omega) only[qwX,ql,go_sem];refine qn (T:=fun i:Nat=>qI 18 [(3,.int .u64 (qaf (l.take i):Int)),(6,ql l),(7,.int .i64 l.length),(8,.int .i64 i)]) (H:=fun _=>h) (inv:=fun i=>i≤l.length) (m:=fun i=>l.length-i) 0 (nzl _) (Wk.temps ?_) ?_
 ·(simp only[ql,go_sem,qj,qd,qa,qi];try (repeat' first|(with_reducible apply aiA)|(apply qh;omega)|(apply qg;rfl)|exact qk))
 rintro i i1 K hK
 by_cases hi:i<l.length
 ·have k1:((i:Int)<l.length)=True:=eqt om;have hv:=hb i hi;have hst:=qp2 hi;obtain⟨v,hv'⟩: ∃v,v=l.getD i 0:=⟨_,rfl⟩
  have ev:=hv'.symm;rw[ev]at hv hst;obtain⟨u,rfl⟩: ∃u:Nat,v=(u:Int):=⟨v.toNat,om⟩
  rw[itn]at hst;have k2:(0≤(u:Int))=True:=eqt om;have e1:=qgn (n:=u) om;have hm:=qcR (qpS hb i1);have h2:(2:Nat)^u<2^64:=Nat.pow_lt_pow_right om om;have e2:=qhq hm h2;simp (disch:=omega) only[ql,k1,k2,ev,e1,e2,go_sem]
  repeat' first
   |with_reducible apply aiA
  all_goals try exact clz
  refine hK _ _ (i+1) hi om (Wk.temps ?_);rw[hst]
  (simp only[ql,go_sem,qj,qd,qa,qi];try (repeat' first|(with_reducible apply aiA)|(apply qh;omega)|(apply qg;rfl)|exact qk))
 ·have k1:((i:Int)<l.length)=False:=eqf om;have e:i=l.length:=by omega
  subst e;rw[List.take_length];simp (disch:=omega) only[ql,k1,go_sem]
  repeat' first
   |(apply qe;exact rvk;simp only[go_sem];exact qk)
def qT(p:Nat→Bool)(k:Nat):List Int:=((List.range k).filter p).map Int.ofNat
theorem zH(p:Nat→Bool)(k:Nat):qT p (k+1)=qT p k++if p k=true then [(k:Int)] else []:=by
 unfold qT;rw[List.range_succ,List.filter_append,List.map_append];congr 1;rw[List.filter_cons];split<;>rfl
theorem qN(p:Nat→Bool)(k:Nat):(qT p k).length≤k:=by
 unfold qT;rw[List.length_map];exact Nat.le_trans (List.length_filter_le _ _) (by simp)
def qp(L:List Int):List AV:=L.map fun n=> .int .i64 n
theorem qy(L:List Int):(qp L).length=L.length:=by simp[qp]
theorem qR(L M:List Int):qp (L++M)=qp L++qp M:=by simp[qp]
theorem qe4{L:List Int}:qp L= []↔L= []:=by simp[qp]
theorem zO{L:List Int}{n:Nat}(g:AV→AV)(hg: ∀n,g (.int .i64 n)= .int .i64 n)(hn:n=L.length):VLe (.sl n fun i=>(((qp L).drop i).take 1).map g) (ql L):=by
 subst hn;refine VLe.sl_eq rfl (fun i hi=> ?_);unfold qp;rw[←List.map_drop,List.drop_eq_getElem_cons hi,List.map_cons,List.take_succ_cons,List.take_zero,List.map_cons,List.map_nil,hg,gdqA,zp hi];rfl
set_option maxHeartbeats 2000000 in
theorem qCE(m:Nat)(h:List AObj)(hm:m<2^64):ACalls Tryz.prog 126 [.int .u64 (m:Int)] h (ql (qT m.testBit 64)) h:=by
 refine acO qyC ?_;simp (disch:=omega) only[qwY,go_sem];refine qn (T:=fun i:Nat×Nat×Nat=>qI 19 [(0,.int .u64 (m:Int)),(3,.osl (h.length+1) i.2.1 1 0 (qT m.testBit i.1).length),(5,.int .i64 i.1)]) (H:=fun i=>h++ [.emp 1,zP i.2.1 3 (qp (qT m.testBit i.1)),.emp i.2.2,.emp 0])
  (inv:=fun i=>i.1≤64) (m:=fun i=>64-i.1) (0,1,0) (nzl _) (Wk.temps ?_) ?_
 ·(simp only[qT,List.range_zero,List.filter_nil,lnl,go_sem,qj,qd,qa,qi];try (repeat' first|(with_reducible apply aiA)|(apply qh;omega)|(apply qg;rfl)|exact qk))
 rintro⟨i,v,w⟩ i1 K hK;simp only at i1 hK;have hst:=zH m.testBit i;have hln:=qN m.testBit i;obtain⟨L,hL⟩: ∃L,L=qT m.testBit i:=⟨_,rfl⟩
 rw[←hL]at hst hln;have eL:=hL.symm;have eC:=qy L
 by_cases hi:i<64
 ·have k1:((i:Int)<64)=True:=eqt om;have k2:(0≤(i:Int))=True:=eqt om;have e1:=qkw (a:=m) (n:=i) hm hi;cases g:m.testBit i with
  |true=>
   rw[g,ipo rfl]at e1;rw[g,ipo rfl]at hst;have eT:List.take L.length (qp L)=qp L:=ltl om;simp (disch:=omega) only[k1,k2,e1,eL,Nat.mul_one,go_sem]
   repeat' first
    |with_reducible apply aiA
   all_goals try exact clz
   have eA:qp L++ [AV.int .i64 (i:Int)]=qp (L++ [(i:Int)]):=by rw[qR];rfl
   rw[eT,eA];refine hK _ _ (i+1,v+1,w+1+1) hi (by simp only;omega) (Wk.trans Wk.kill2 ?_);simp only[hst];refine Wk.temps ?_
   (simp only[lap,go_sem,qj,qd,qa,qi];try (repeat' first|(with_reducible apply aiA)|(apply qh;omega)|(apply qg;rfl)|exact qk))
  |false=>
   rw[g,ine (by simp)]at e1;rw[g,ine (by simp),lan]at hst;simp (disch:=omega) only[k1,k2,e1,eL,go_sem]
   repeat' first
    |with_reducible first|intro _|apply aiA
   all_goals try exact clz
   refine hK _ _ (i+1,v,w) hi (by simp only;omega) ?_;simp only[hst];refine Wk.temps ?_
   (simp only[go_sem,qj,qd,qa,qi];try (repeat' first|(with_reducible apply aiA)|(apply qh;omega)|(apply qg;rfl)|exact qk))
 ·have k1:((i:Int)<64)=False:=eqf om;obtain rfl:i=64:=by omega
  rw[←hL]
  by_cases g:L= []
  ·subst g;have e0:zP v 3 (qp [])= .emp v:=rfl;rw[e0];simp (disch:=omega) only[k1,go_sem]
   repeat' first
    |(apply qb;exact rvk;simp only[go_sem])
   exact jf
  ·have e0:zP v 3 (qp L)= .mem v 3 (qp L):=jJ (fun e=>g (qe4.1 e));rw[e0];simp (disch:=omega) only[k1,go_sem]
   repeat' first
    |(apply qb;exact rvk;simp only[go_sem])
   rw[ipo om];refine zO _ ?_ rfl;intro n;rfl
theorem qik(L:List Int):(ql L).flag=true:=rfl
theorem qgz(L:List Int):(ql L).strip=ql L:=rfl
theorem qlM{fz:Nat→Bool}{h:List AObj}{n:Nat}(L:List Int):frz fz h (n+1) (ql L)=ql L:=rfl
theorem qm3{fz:Nat→Bool}{h:List AObj}{n:Nat}(L:List Int):rei fz h (n+1) (ql L)=ql L:=rfl
theorem qlA(L:List Str):(strs L).flag=true:=rfl
theorem qjf(L:List Str):(strs L).strip=strs L:=rfl
theorem qpL{fz:Nat→Bool}{h:List AObj}{n:Nat}(L:List Str):frz fz h (n+1) (strs L)=strs L:=rfl
theorem qqE{fz:Nat→Bool}{h:List AObj}{n:Nat}(L:List Str):rei fz h (n+1) (strs L)=strs L:=rfl
theorem qly(L:List Gr):(qu L).flag=true:=rfl
theorem qjd(L:List Gr):(qu L).strip=qu L:=rfl
theorem qpK{fz:Nat→Bool}{h:List AObj}{n:Nat}(L:List Gr):frz fz h (n+1) (qu L)=qu L:=rfl
theorem qqD{fz:Nat→Bool}{h:List AObj}{n:Nat}(L:List Gr):rei fz h (n+1) (qu L)=qu L:=rfl
attribute [go_sem] qik qgz qlM qm3 qlA qjf qpL qqE qly qjd qpK qqD
theorem qEo(x:Gr)(y:Str)(h:List AObj):ACalls Tryz.prog 124 [.agg (grC x),.ip [.str y]] h (.bool (decide (y=x.name))) h:=by
 have k:decide (x.name=y)=decide (y=x.name):=decide_eq_decide.2 ⟨Eq.symm,Eq.symm⟩;refine acO qyA ?_;simp (disch:=omega) only[qwW,grC,go_sem]
 repeat' first
  |(apply qb;exact rvk;simp only[go_sem];apply qg)
  |with_reducible apply aiA
 all_goals try exact clz
theorem qED(n:Nat)(gs:List Gr)(y:Str)(k v:Nat)(h:List AObj)(hk:qA k h=some (.mem v 9 [.str y]))(hn:n≤gs.length)(hl:gs.length≤1000000000):
  ACalls Tryz.prog 123 [.sl n (fun j=>grC (gs.getD j default)),.fn (.func 124) [] [.op k v 0]] h (.int .i64 (j8 (fun j=>decide (y=(gs.getD j default).name)) n 0)) h:=by
 have hc:=qQ hk;refine qba qrR n (fun j=>grC (gs.getD j default)) (fun j=> .agg (grC (gs.getD j default))) _ [] [.op k v 0] _ h (fun i _=>⟨rfl,by simp[ji,grC],rfl,rfl,rfl⟩) (fun i _=> ?_) om;refine ACalls.borrow ?_ rfl;have e:([AV.agg (grC (gs.getD i default))]++ [AV.op k v 0]).map (rei (fun _=>true) h 8)= [.agg (grC (gs.getD i default)),.ip [.str y]]:=by
  simp only[lca,lna,List.map_cons,List.map_nil,rei_op,if_true,hc,ipOf_some,List.drop_zero,rei_agg];rfl
 rw[lna,e];exact qEo _ y _
def nIx(names:List Str)(s:Str):Int:=j8 (fun j=>decide (s=names.getD j [])) names.length 0
def gIx(gs:List Gr)(s:Str):Int:=j8 (fun j=>decide (s=(gs.getD j default).name)) gs.length 0
def qbE(names:List Str)(gs:List Gr)(sg:List Str)(i:Nat):Int:=
 if nIx names (sg.getD i [])<0∧gIx gs (sg.getD i [])<0 then 6 else if zd (fun j=>decide (sg.getD i []=sg.getD j [])) i=true then 7 else 0
def els(names:List Str)(gs:List Gr)(s:Str):List Int:=if 0≤nIx names s then [nIx names s] else (gs.getD (gIx gs s).toNat default).mem
def qez(names:List Str)(gs:List Gr)(sg:List Str):Nat→Nat
 |0=>0
 |i+1=>qez names gs sg i|||qaf (els names gs (sg.getD i []))
def kx(names:List Str)(gs:List Gr)(sg:List Str):Int:=if sgE names gs≠0 then 1 else qaZ (qbE names gs sg) 0 sg.length
def jC(names:List Str)(gs:List Gr)(sg:List Str):List Int:=if kx names gs sg=0 then qT (qez names gs sg sg.length).testBit 64 else []
theorem qac{b:Int}{l:List Int}(h:qai b l=0):inB b l∧ ∀i,0<i→i<l.length→l.getD (i-1) 0<l.getD i 0:=by
 unfold qai at h;rw[jS]at h;refine⟨fun i hi=> ?_,fun i h0 hi=> ?_⟩
 ·have:=h i hi
  unfold qbC at this;split at this
  ·cases this
  ·rename_i hc;omega
 ·have:=h i hi
  unfold qbC at this;split at this
  ·cases this
  ·split at this
   ·cases this
   ·rename_i hc;omega
structure qwI (names:List Str) (gs:List Gr):Prop where
 n32:names.length≤32
 g16:gs.length≤16
 na: ∀i,i<names.length→jm names i=0
 gr: ∀i,i<gs.length→qdT names gs i=0
theorem qdB{names:List Str}{gs:List Gr}(h:sgE names gs=0):qwI names gs:=by
 unfold sgE at h;split at h
 ·cases h
 split at h
 ·rename_i h1;exact absurd h h1
 split at h
 ·cases h
 rename_i h1 h2 h3;exact⟨om,om,jS.1 (by simpa using h2),jS.1 h⟩
theorem qf6{names:List Str}{gs:List Gr}(h:qwI names gs){i:Nat}(hi:i<gs.length):qai names.length (gs.getD i default).mem=0:=by
 have:=h.gr i hi
 unfold qdT at this
 repeat' split at this
 all_goals first|(cases this;done)|exact this
theorem qcS(names:List Str)(s:Str):(∃k:Nat,k<names.length∧names.getD k []=s∧nIx names s=k)∨((∀j,j<names.length→s≠names.getD j [])∧nIx names s= -1):=by
 rcases zy (fun j=>decide (s=names.getD j [])) names.length with⟨i,h1,h2,_,h4⟩|⟨h1,h2⟩
 ·exact .inl ⟨i,h1,(of_decide_eq_true h2).symm,h4⟩
 ·exact .inr ⟨fun j hj=>of_decide_eq_false (h1 j hj),h2⟩
theorem qcI(gs:List Gr)(s:Str):(∃k:Nat,k<gs.length∧(gs.getD k default).name=s∧gIx gs s=k)∨((∀j,j<gs.length→s≠(gs.getD j default).name)∧gIx gs s= -1):=by
 rcases zy (fun j=>decide (s=(gs.getD j default).name)) gs.length with⟨i,h1,h2,_,h4⟩|⟨h1,h2⟩
 ·exact .inl ⟨i,h1,(of_decide_eq_true h2).symm,h4⟩
 ·exact .inr ⟨fun j hj=>of_decide_eq_false (h1 j hj),h2⟩
theorem qfZ{names:List Str}{gs:List Gr}{s:Str}(h:qwI names gs)(hf: ¬(nIx names s<0∧gIx gs s<0)):inB names.length (els names gs s):=by
 unfold els;rcases qcS names s with⟨k,h1,_,h3⟩|⟨_,h3⟩
 ·rw[h3,ipo om];intro i hi
  have:i=0:=by simpa using hi
  subst this;simp only[List.getD_cons_zero];omega
 ·rw[h3,ine om];rcases qcI gs s with⟨k,g1,_,g3⟩|⟨_,g3⟩
  ·rw[g3,itn];exact (qac (qf6 h g1)).1
  ·exact absurd ⟨om,om⟩ hf
theorem qdU{b c:Int}{l:List Int}(h:inB b l)(hbc:b≤c):inB c l:=fun i hi=>⟨(h i hi).1,by have:=(h i hi).2;omega⟩
theorem qfI{names:List Str}{gs:List Gr}{sg:List Str}(h:qwI names gs): ∀ {i:Nat},(∀j,j<i→qbE names gs sg j=0)→qez names gs sg i<2^64∧ ∀k,(qez names gs sg i).testBit k=decide (∃j,j<i∧(k:Int)∈els names gs (sg.getD j [])):=by
 intro i
 induction i with
 |zero=>intro _;exact⟨Nat.two_pow_pos 64,fun k=>by simp[qez]⟩
 |succ i ih=>
  intro hz;obtain⟨h1,h2⟩:=ih (fun j hj=>hz j om);have h3: ¬(nIx names (sg.getD i [])<0∧gIx gs (sg.getD i [])<0):=by
   intro hc
   have:=hz i om
   unfold qbE at this;rw[ipo hc]at this;cases this
  have h4:inB 64 (els names gs (sg.getD i [])):=qdU (qfZ h h3) (by have:=h.n32;omega);refine⟨Nat.or_lt_two_pow h1 (qcR h4),fun k=> ?_⟩;unfold qez;rw[Nat.testBit_or,h2 k,qaa h4 k,←Bool.decide_or];refine decide_eq_decide.2 ⟨?_,?_⟩
  ·rintro (⟨j,hj,hm⟩|hm)
   ·exact⟨j,om,hm⟩
   ·exact⟨i,om,hm⟩
  ·rintro⟨j,hj,hm⟩
   by_cases e:j=i
   ·subst e;exact .inr hm
   ·exact .inl ⟨j,om,hm⟩
theorem _root_.AF.Wk.kill1{t:List AV}{h l:List AObj}{a:AObj}{v:Nat}{ty:TypeId}{cs:List AV}:Wk t (h++a:: .mem v ty cs::l) t (h++a:: .emp (v+1)::l):=by
 have:=Wk.kill0 (t:=t) (h:=h++ [a]) (l:=l) (v:=v) (ty:=ty) (cs:=cs)
 simpa using this
theorem zu{e:Int}:VLe (.tup [.nl,.int .i64 e]) (.tup [ql [],.int .i64 e]):=qL ⟨jf,qk,trivial⟩
set_option maxHeartbeats 4000000 in
theorem qEp(names:List Str)(gs:List Gr)(sg:List Str)(h:List AObj)(hz:Szs names gs)(hs:sg.length≤1000000000):
  ACalls Tryz.prog 50 [strs names,qu gs,strs sg] h (.tup [ql (jC names gs sg),.int .i64 (kx names gs sg)]) h:=by
 have c59:=fun h=>sgP names gs h hz
 obtain⟨z1,z2,z3,z4,z5⟩:=hz;obtain⟨R,hR⟩: ∃R,R=kx names gs sg:=⟨_,rfl⟩
 obtain⟨Q,hQ⟩: ∃Q,Q=jC names gs sg:=⟨_,rfl⟩
 rw[←hR,←hQ];unfold jC at hQ;rw[←hR]at hQ;unfold kx at hR;obtain⟨e,he⟩: ∃e,e=sgE names gs:=⟨_,rfl⟩
 rw[←he]at c59 hR
 by_cases g0: ¬e=0
 ·have k0:(e=0)=False:=eqf g0;rw[ipo g0]at hR;rw[ine om]at hQ;rw[hR,hQ];refine acO qzM ?_;simp (disch:=omega) only[qBR,strs,qu,go_sem];unfold strs qu at c59
  repeat' first
   |(refine cA (c59 _) flk ?_;simp (disch:=omega) only[k0,go_sem])
   |(apply qb;exact rvk;simp only[go_sem])
  exact zu
 have g0:e=0:=Classical.not_not.1 g0;have k0:(e=0)=True:=eqt g0;rw[ine (fun hc=>hc g0)]at hR;have hok:=qdB (he.symm.trans g0);have h32:=hok.n32;unfold strs qu at c59;refine acO qzM ?_;simp (disch:=omega) only[qBR,strs,qu,go_sem]
 repeat' first
  |(refine cA (c59 _) flk ?_;simp (disch:=omega) only[k0,go_sem])
 refine qn (T:=fun i:Nat×Nat=>qI 61 [(0,strs names),(1,qu gs),(2,strs sg),(8,.int .u64 (qez names gs sg i.1:Int)),(17,strs sg),(18,.int .i64 sg.length),(19,.int .i64 i.1)]) (H:=fun i=>h++ [.emp 1,.emp i.2])
  (inv:=fun i=>i.1≤sg.length∧ ∀j,j<i.1→qbE names gs sg j=0) (m:=fun i=>sg.length-i.1) (0,0) ⟨nzl _,fun j hj=>absurd hj (nnz j)⟩ (Wk.temps ?_) ?_
 ·(simp only[strs,qu,qez,go_sem,qj,qd,qa,qi];try (repeat' first|(with_reducible apply aiA)|(apply qh;omega)|(apply qg;rfl)|exact qk))
 rintro⟨i,v⟩ ⟨i1,i2⟩ K hK;simp only at i1 i2 hK;obtain⟨m1,m2⟩:=qfI hok i2;have hst:qez names gs sg (i+1)=qez names gs sg i|||qaf (els names gs (sg.getD i [])):=rfl;obtain⟨a,ha⟩: ∃a,a=qez names gs sg i:=⟨_,rfl⟩
 have ea:=ha.symm;rw[ea]at m1 hst
 by_cases hi:i<sg.length
 ·have k1:((i:Int)<sg.length)=True:=eqt om;have k2:((i:Int)≤sg.length)=True:=eqt om;have hE:=qO (f:=qbE names gs sg) hi i2;have hs:qbE names gs sg i=if nIx names (sg.getD i [])<0∧gIx gs (sg.getD i [])<0 then 6 else if zd (fun j=>decide (sg.getD i []=sg.getD j [])) i=true then 7 else 0:=rfl
  obtain⟨s,hsx⟩: ∃s,s=sg.getD i []:=⟨_,rfl⟩
  have es:=hsx.symm;simp only[es]at hs hst;have c102:=fun h=>qAj names.length (fun j=>names.getD j []) s h z1
  have c103:=qED gs.length gs s (h.length+1) (v+1) (h++ [.emp 1,.mem (v+1) 9 [.str s]]) (by rw[getO_app];rfl) (nlr _) z2;have c88:=fun h=>qla i (fun j=>sg.getD j []) s h om
  have hn:=qcS names s;have hg:=qcI gs s;obtain⟨n,hnx⟩: ∃n,n=nIx names s:=⟨_,rfl⟩
  obtain⟨g,hgx⟩: ∃g,g=gIx gs s:=⟨_,rfl⟩
  have hnx':j8 (fun j=>decide (s=names.getD j [])) names.length 0=n:=hnx.symm;have hgx':j8 (fun j=>decide (s=(gs.getD j default).name)) gs.length 0=g:=hgx.symm;rw[hnx']at c102;rw[hgx']at c103;rw[←hnx]at hn hs;rw[←hgx]at hg hs
  by_cases g1:n<0∧g<0
  ·have q1:(n<0)=True:=eqt g1.1;have q2:(g<0)=True:=eqt g1.2;rw[ipo g1]at hs;have hV:R=6:=by rw[hR,hE (by rw[hs];decide),hs]
   rw[hV,ine (by decide)]at hQ;rw[hV,hQ];simp (disch:=omega) only[strs,qu,k1,es,ea,go_sem]
   repeat' first
    |((first|refine cA (c102 _) ?_ ?_|refine cA (c103) ?_ ?_);exact flk;simp (disch:=omega) only[k2,q1,q2,go_sem])
    |(apply qb;exact rvk;simp only[go_sem])
    |with_reducible apply aiA
   all_goals try exact clz
   exact zu
  rw[ine g1]at hs;cases g2:zd (fun j=>decide (s=sg.getD j [])) i with
  |true=>
   rw[g2]at c88;rw[ipo g2]at hs;have hV:R=7:=by rw[hR,hE (by rw[hs];decide),hs]
   rw[hV,ine (by decide)]at hQ;rw[hV,hQ]
   by_cases g3:n<0
   ·have q1:(n<0)=True:=eqt g3;have q2:(g<0)=False:=eqf (fun hc=>g1 ⟨g3,hc⟩);simp (disch:=omega) only[strs,qu,k1,es,ea,go_sem]
    repeat' first
     |((first|refine cA (c102 _) ?_ ?_|refine cA (c103) ?_ ?_|refine cA (c88 _) ?_ ?_);exact flk;simp (disch:=omega) only[k2,q1,q2,Nat.sub_zero,go_sem])
     |(apply qb;exact rvk;simp only[go_sem])
     |with_reducible apply aiA
    all_goals try exact clz
    exact zu
   ·have q1:(n<0)=False:=eqf g3;simp (disch:=omega) only[strs,qu,k1,es,ea,go_sem]
    repeat' first
     |((first|refine cA (c102 _) ?_ ?_|refine cA (c103) ?_ ?_|refine cA (c88 _) ?_ ?_);exact flk;simp (disch:=omega) only[k2,q1,Nat.sub_zero,go_sem])
     |(apply qb;exact rvk;simp only[go_sem])
     |with_reducible first|intro _|apply aiA
    all_goals try exact clz
    exact zu
  |false=>
  rw[g2]at c88;rw[ine (by rw[g2];simp)]at hs
  by_cases g3:n<0
  ·have q1:(n<0)=True:=eqt g3;have q2:(g<0)=False:=eqf (fun hc=>g1 ⟨g3,hc⟩);have q3:(0≤n)=False:=eqf om;have eE:els names gs s=(gs.getD g.toNat default).mem:=by unfold els;rw[←hnx,←hgx,ine om]
   rcases hg with⟨k,p1,p2,rfl⟩|⟨_,p2⟩
   ·rw[itn]at eE;have hB:=(qac (qf6 hok p1)).1;have hB64:inB 64 (gs.getD k default).mem:=qdU hB om;have z5k:=z5 k;obtain⟨w,hw⟩: ∃w,w=gs.getD k default:=⟨_,rfl⟩
    have ew:=hw.symm;rw[ew]at hB64 z5k eE;rw[eE]at hst;have c96:=fun h=>qBB w.mem h z5k hB64
    have q4:((k:Int)<gs.length)=True:=eqt om;have q5:(0≤(k:Int))=True:=eqt om;have e2:=qhq m1 (qcR hB64);unfold ql at c96;simp (disch:=omega) only[strs,qu,grC,ql,k1,es,ea,go_sem]
    repeat' first
     |((first|refine cA (c102 _) ?_ ?_|refine cA (c103) ?_ ?_|refine cA (c88 _) ?_ ?_|refine cA (c96 _) ?_ ?_);exact flk;simp (disch:=omega) only[k2,ew,q1,q2,q3,q4,q5,e2,Nat.sub_zero,go_sem])
     |with_reducible apply aiA
    all_goals try exact clz
    refine hK _ _ (i+1,v+1+1) ⟨hi,fun j hj=> ?_⟩ (by simp only;omega) (Wk.trans Wk.kill1 ?_)
    ·by_cases e':j=i
     ·subst e';exact hs
     ·exact i2 j (by simp only at hj;omega)
    ·simp only[hst];refine Wk.temps ?_
     (simp only[strs,qu,go_sem,qj,qd,qa,qi];try (repeat' first|(with_reducible apply aiA)|(apply qh;omega)|(apply qg;rfl)|exact qk))
   ·exact absurd ⟨g3,om⟩ g1
  ·have q1:(n<0)=False:=eqf g3;have q3:(0≤n)=True:=eqt om;rcases hn with⟨k,p1,p2,rfl⟩|⟨_,p2⟩
   ·have eE:els names gs s= [(k:Int)]:=by unfold els;rw[←hnx,ipo om]
    have eM:qaf [(k:Int)]=2^k:=by show 0|||2^(k:Int).toNat=2^k;simp
    rw[eE,eM]at hst;have e1:=qgn (n:=k) om;have e2:=qhq m1 (show 2^k<2^64 from Nat.pow_lt_pow_right om om);simp (disch:=omega) only[strs,qu,k1,es,ea,go_sem]
    repeat' first
     |((first|refine cA (c102 _) ?_ ?_|refine cA (c103) ?_ ?_|refine cA (c88 _) ?_ ?_);exact flk;simp (disch:=omega) only[k2,q1,q3,e1,e2,Nat.sub_zero,go_sem])
     |(apply qb;exact rvk;simp only[go_sem])
     |with_reducible first|intro _|apply aiA
    all_goals try exact clz
    refine hK _ _ (i+1,v+1+1) ⟨hi,fun j hj=> ?_⟩ (by simp only;omega) (Wk.trans Wk.kill1 ?_)
    ·by_cases e':j=i
     ·subst e';exact hs
     ·exact i2 j (by simp only at hj;omega)
    ·simp only[hst];refine Wk.temps ?_
     (simp only[strs,qu,go_sem,qj,qd,qa,qi];try (repeat' first|(with_reducible apply aiA)|(apply qh;omega)|(apply qg;rfl)|exact qk))
   ·exact absurd g3 om
 ·have k1:((i:Int)<sg.length)=False:=eqf om;have e':i=sg.length:=by omega
  subst e';have hV:R=0:=by rw[hR,qz (fun j hj=>i2 j hj)]
  rw[hV,ipo rfl,ea]at hQ;have c100:=fun h=>qCE a h m1
  rw[hV,hQ];simp (disch:=omega) only[strs,qu,k1,ea,go_sem]
  repeat' first
   |(refine cA (c100 _) flk ?_;simp (disch:=omega) only[go_sem])
   |(apply qb;exact rvk;simp only[go_sem];exact qk)
end RC
end
section
namespace AF
open Go Go.RowKit
theorem Ext.ofBelow{w w':World}{σ:List OB}{h:List AObj}(H:HR w σ h)(hb:Below w.heap.size w w'):HR w' σ h∧Ext w σ w' σ:=by
 have e:Ext w σ w' σ:=⟨hb.os,hb.tape,hb.output,hb.size,fun b hl _=>hb.block b hl,fun _ h=> .inl h,fun _ o h=>⟨o,h,nlr _,fun _=>rfl⟩,
  fun b r h=>⟨r,(hb.block b (Array.getElem?_eq_some_iff.1 h).1).trans h⟩⟩
 exact⟨⟨H.len,H.inj,fun k o b h1 h2=>Nat.lt_of_lt_of_le (H.lt k o b h1 h2) hb.size,fun k a o h1 h2=>(H.obj k a o h1 h2).ext e (fun b h3=>hb.block b (H.lt k o b h2 h3))⟩,e⟩
end AF
end
section
namespace AF
open Go Go.ChangeShapes Go.WideShapes Go.ChangeAt Go.RowKit
def qmQ:OB:=⟨none,0,0,0⟩
theorem qgf(b:Nat): ¬own [qmQ] b:=by
 rintro⟨k,o,h,h2⟩;cases k with
 |zero=>simp at h;subst h;cases h2
 |succ k=>simp at h
theorem qAe{w:World}{bs:List Nat}{G:World→Prop}(hb: ∀b,b∈bs→ ∃arr T fz,w.heap[b]? =some (.cells arr T fz))(hG: ∀w':World,(∀b,b∈bs→w'.heap[b]? =w.heap[b]?)→G w'):
  HR w [qmQ] [.pin bs G]:=by
 refine⟨rfl,?_,?_,?_⟩
 ·intro i j oi oj b hi hj bi;cases i with
  |zero=>simp at hi;subst hi;cases bi
  |succ i=>simp at hi
 ·intro k o b hk hb';cases k with
  |zero=>simp at hk;subst hk;cases hb'
  |succ k=>simp at hk
 ·intro k a o ha ho;cases k with
  |zero=>
   simp at ha ho;subst ha;subst ho;exact⟨rfl,rfl,fun b h=>⟨qgf b,hb b h⟩,hG⟩
  |succ k=>simp at ha
theorem quc(w:World):Ext w [] w [qmQ]:=
 ⟨rfl,rfl,rfl,nlr _,fun _ _ _=>rfl,fun b h=>absurd h (qgf b),fun k o h=>by simp at h,fun _ r h=>⟨r,h⟩⟩
theorem qjL{w w':World}{σ':List OB}(h:Ext w [qmQ] w' σ'):Below w.heap.size w w':=⟨h.os,h.tape,h.output,h.size,fun k hk=>h.keep k hk (qgf k)⟩
theorem VRs.ext{w w':World}{σ σ':List OB}(h:Ext w σ w' σ'){avs:List AV}{xs:List Value}(hv:VRs w σ avs xs):VRs w' σ' avs xs:=⟨hv.1,fun i c x hc hx=>(hv.2 i c x hc hx).ext h⟩
theorem qAx{w:World}{σ:List OB}{h:List AObj}{k:Nat}{bs:List Nat}{G:World→Prop}(H:HR w σ h)(hk:h[k]? =some (.pin bs G)):G w:=by
 have hl:k<σ.length:=by rw[H.len];exact (lgs.1 hk).1
 obtain⟨_,_,_,h4⟩:=H.obj k _ σ[k] hk (zp hl);exact h4 w (fun _ _=>rfl)
theorem qe8{H:Type}{enc:TypeId×Value→H}{P:Program}{W:World}{f:Func}{fid:FuncId}{s:ChangeSpec}{args:Array Value}{ds gs:List (DataW H)}{before:List MemPlace}{tb:TypeId}{bs:List Nat}{G:World→Prop}
  (hl:laidOutB P=true) (hv:s.vars= []) (hfn: ∀ds',ds'.length=f.params.size→s.fn H ds'= { results:= [.lit (.bool true)],args:=ds' })
  (hrt:f.resultTypes= #[tb]) (htb:P.underlying tb=some .bool) (hro: ∀t∈f.params.toList,P.readableRec t=true∧t<P.types.size)
  (hW:DataW.Whole enc P f.params.toList s.vars false W args.toList ds gs before)
  (hb: ∀b,b∈bs→ ∃arr T fz,W.heap[b]? =some (.cells arr T fz)) (hG: ∀w':World,(∀b,b∈bs→w'.heap[b]? =W.heap[b]?)→G w')
  (hc: ∀p,DataW.TrodAll enc P W 0 (fun _=>true) true f.params.toList args.toList ds p→ds.length=f.params.size∧ ∃avs:List AV,VRs W [] avs args.toList∧ACalls P fid avs [.pin bs G] (.bool true) [.pin bs G]):
  Calls P fid args W fun e W'=> ∃v,e= .returned v∧s.post enc P f false true false false W args v W':=by
 have hW':=hW;obtain⟨p,q,hA,hV,rfl,hz,_⟩:=hW;rw[hv]at hV;obtain⟨rfl,rfl⟩:=trodVars_none hV;obtain⟨hlen,avs,h1,h2⟩:=hc p hA;rw[lan]at hW';have h3:=h2.2 W [qmQ] args.toList (qAe hb hG) (h1.ext (quc W));rw[Array.toArray_toList]at h3;refine (callsIn_wide.1 h3).mono ?_;rintro e W' ⟨v,σ',rfl,g1,g2,g3⟩;obtain rfl:=zZ g2;exact⟨_,rfl,qpZ hl hv (hfn ds hlen) hrt htb hro hW' hA (qjL g3)⟩
theorem qeq{P:Program}{w w':World}{name:String}{g:Nat}(hg:P.globalNamed name=some g)(h:w'.heap[g]? =w.heap[g]?):w'.var? P name=w.var? P name:=by
 unfold World.var?;rw[hg];simp only[Option.bind_some];rw[h]
theorem qcZ{P:Program}{w:World}{name:String}{g:Nat}{cs:Array Value}(hg:P.globalNamed name=some g)(h:w.var? P name=some cs): ∃arr T fz,w.heap[g]? =some (.cells arr T fz):=by
 unfold World.var? at h;rw[hg]at h;simp only[Option.bind_some]at h;split at h
 ·rename_i cs T fz hc;exact⟨_,_,_,hc⟩
 ·cases h
end AF
end
section
open Go Go.Proofs AF HY
namespace LN
def qrw (w : World) : Prop := Lib.TabIs Tryz.prog w "internal/strconv.uint64pow10" .u64 Lib.pow10Tab
def qwF (w : World) : Prop := (∃ tp p, w.var? Tryz.prog "strconv.ErrSyntax" = some #[.iface tp p]) ∧ ∃ tp p, w.var? Tryz.prog "strconv.ErrRange" = some #[.iface tp p]
def qag(Q:World→Prop)(h:List AObj):Prop:= ∃(k:Nat) (bs:List Nat) (G:World→Prop),h[k]? =some (.pin bs G)∧ ∀w,G w→Q w
theorem qag.app{Q:World→Prop}{h:List AObj}(hp:qag Q h)(l:List AObj):qag Q (h++l):=by
 obtain⟨k,bs,G,h1,h2⟩:=hp;exact⟨k,bs,G,by rw[List.getElem?_append_left (lgs.1 h1).1];exact h1,h2⟩
theorem qag.mono{Q Q':World→Prop}{h:List AObj}(hp:qag Q h)(hq: ∀w,Q w→Q' w):qag Q' h:=by
 obtain⟨k,bs,G,h1,h2⟩:=hp;exact⟨k,bs,G,h1,fun w hw=>hq w (h2 w hw)⟩
theorem qag.of{Q:World→Prop}{h:List AObj}{w:World}{σ:List OB}(hp:qag Q h)(H:HR w σ h):Q w:=by
 obtain⟨k,bs,G,h1,h2⟩:=hp;exact h2 w (qAx H h1)
theorem t48(n:Int)(h:List AObj)(hp:qag qrw h)(h0: -9223372036854775808≤n)(h1:n≤9223372036854775807):ACalls Tryz.prog 86 [.int .i64 n] h (.str (Lib.itoa n)) h:=by
 refine⟨qwz Tryz.func86 (by kernel_rfl) (by kernel_rfl),fun w σ xs H hv=> ?_⟩;obtain⟨x,rfl,hx⟩:=hv.one;rw[zk hx];refine (callsIn_wide.2 (Any.strconv_Itoa Tryz.laysM171 n h0 h1 w (hp.of H))).mono ?_;rintro e w' ⟨rfl,k,os,rfl⟩;obtain⟨g1,g2⟩:=Ext.ofBelow H (Lib.below_grow w.heap.size w (nlr _) k os);exact⟨_,σ,rfl,g1,.imm .str,g2⟩
def qsV(s:List UInt8):Int:=
 match Lib.atoiAll s with
 | .ok _=>0
 | .range=>Lib.atoiSat s
 |_=>0
def qoC(s:List UInt8):AV:=
 match Lib.atoiAll s with
 | .ok v=> .tup [.int .i64 v,.nilif]
 |_=> .tup [.int .i64 (qsV s),.ifc]
theorem t50(s:List UInt8)(h:List AObj)(hp:qag qwF h)(hl:s.length≤281474976710656):ACalls Tryz.prog 291 [.str s] h (qoC s) h:=by
 refine⟨qwz Tryz.func291 (by kernel_rfl) (by kernel_rfl),fun w σ xs H hv=> ?_⟩;obtain⟨x,rfl,hx⟩:=hv.one;rw[zU hx];have hsz:(⟨s.toArray⟩:ByteArray).size≤281474976710656:=by simpa[ByteArray.size] using hl
 obtain⟨⟨t1,p1,e1⟩,t2,p2,e2⟩:=hp.of H;unfold qoC qsV;have hd:(⟨s.toArray⟩:ByteArray).data.toList=s:=rfl;cases hs:Lib.atoiAll s
 ·rename_i v;refine (callsIn_wide.2 (Any.strconv_Atoi_ok Tryz.laysC172 ⟨s.toArray⟩ om v (by rw[hd];exact hs) w)).mono ?_;rintro e w' ⟨rfl,hw⟩;have hb:Go.RowKit.Below w.heap.size w w':=by
   rcases hw with rfl|⟨t,rfl⟩
   ·exact Go.RowKit.Below.refl _ _
   ·exact Lib.bytesWorld_below _ _ _
  obtain⟨g1,g2⟩:=Ext.ofBelow H hb;refine⟨_,σ,rfl,g1,.imm (.tup rfl (fun i c y hc hy=> ?_)),g2⟩
  match i with
  |0=>simp at hc hy;subst hc hy;exact .int
  |1=>simp at hc hy;subst hc hy;exact .nilif
  |i+2=>simp at hc
 ·refine (callsIn_wide.2 (Any.strconv_Atoi_syntax_var Tryz.laysC172 ⟨s.toArray⟩ hsz (by rw[hd];exact hs) t1 p1 w e1)).mono ?_;rintro e w' ⟨N,rfl,_,_,hb⟩;obtain⟨g1,g2⟩:=Ext.ofBelow H hb;refine⟨_,σ,rfl,g1,.imm (.tup rfl (fun i c y hc hy=> ?_)),g2⟩
  match i with
  |0=>simp at hc hy;subst hc hy;exact .int
  |1=>simp at hc hy;subst hc hy;exact .ifc
  |i+2=>simp at hc
 ·refine (callsIn_wide.2 (Any.strconv_Atoi_range_var Tryz.laysC172 ⟨s.toArray⟩ hsz (by rw[hd];exact hs) t2 p2 w e2)).mono ?_;rintro e w' ⟨N,rfl,_,_,hb⟩;obtain⟨g1,g2⟩:=Ext.ofBelow H hb;refine⟨_,σ,rfl,g1,.imm (.tup rfl (fun i c y hc hy=> ?_)),g2⟩
  match i with
  |0=>simp at hc hy;subst hc hy;exact .int
  |1=>simp at hc hy;subst hc hy;exact .ifc
  |i+2=>simp at hc
theorem qmC: ∀(l r:List UInt8) (acc:Nat),Lib.parseUint10 acc (l++r)=match Lib.parseUint10 acc l with
  | .ok v=>Lib.parseUint10 v r
  |e=>e:=by
 intro l
 induction l with
 |nil=>intro r acc;rfl
 |cons c l ih=>
  intro r acc;rw[lca,Lib.parseUint10,Lib.parseUint10]
  by_cases h1:48≤c.toNat∧c.toNat≤57
  ·rw[ipo h1,ipo h1]
   by_cases h2:1844674407370955162≤acc
   ·rw[ipo h2,ipo h2]
   ·rw[ine h2,ine h2]
    by_cases h3:18446744073709551616≤acc*10+(c.toNat-48)
    ·rw[ipo h3,ipo h3]
    ·rw[ine h3,ine h3];exact ih r _
  ·rw[ine h1,ine h1]
theorem qdN{d:Nat}(h:d<10):(UInt8.ofNat (48+d)).toNat=48+d:=by
 rw[UInt8.toNat_ofNat'];omega
theorem qmD: ∀u,u<1000000000→Lib.parseUint10 0 (Lib.decDigits u)= .ok u:=by
 intro u
 induction u using Nat.strongRecOn with
 |_ u ih=>
  intro hu
  by_cases h:u<10
  ·rw[Lib.decDigits,dif_pos h,Lib.parseUint10,qdN h,ipo om,ine om,ine om,Lib.parseUint10];congr 1;omega
  ·rw[Lib.decDigits,dif_neg h,qmC,ih (u/10) om om];simp only;rw[Lib.parseUint10,qdN om,ipo om,ine om,ine om,Lib.parseUint10];congr 1;omega
theorem qic: ∀u,∀c∈Lib.decDigits u,48≤c.toNat∧c.toNat≤57:=by
 intro u
 induction u using Nat.strongRecOn with
 |_ u ih=>
  intro c hc
  by_cases h:u<10
  ·rw[Lib.decDigits,dif_pos h,List.mem_singleton]at hc;subst hc;rw[qdN h];omega
  ·rw[Lib.decDigits,dif_neg h]at hc;rcases List.mem_append.1 hc with hc|hc
   ·exact ih (u/10) om c hc
   ·rw[List.mem_singleton]at hc;subst hc;rw[qdN om];omega
theorem qye(u:Nat):Lib.decDigits u≠ []:=by
 intro h
 have:=Lib.decDigits_length u
 have:=Lib.nDigits_pos u
 rw[h]at*;simp at*;omega
theorem qeA{n:Int}(h0:0≤n)(h1:n<1000000000):Lib.atoiAll (Lib.itoa n)= .ok n:=by
 obtain⟨u,rfl⟩: ∃u:Nat,n=u:=⟨n.toNat,om⟩
 rw[Lib.itoa_nonneg];have hd:=qic u;have hp:=qmD u om;have hne:=qye u;cases hl:Lib.decDigits u with
 |nil=>exact absurd hl hne
 |cons c r=>
  rw[hl]at hd hp;have hc:=hd c (List.mem_cons_self ..);unfold Lib.atoiAll;simp only;rw[ine (show¬(c.toNat=43∨c.toNat=45) by omega)];unfold Lib.parseMag;rw[ine (by simp),hp];simp only;rw[ine om,ine om,ine om]
end LN
end
section
open Go Go.Proofs AF HY LN
namespace RC
theorem qgV{s:Str}{v:Int}(h:Lib.atoiAll s= .ok v): -9223372036854775808≤v∧v≤9223372036854775807:=by
 unfold Lib.atoiAll at h;split at h
 ·cases h
 ·simp only at h;split at h
  ·cases h
  ·cases h
  ·split at h
   ·cases h
   ·split at h
    ·cases h
    ·rename_i h1 h2;cases h;split
     ·rename_i h3;have:=mt (And.intro h3) h2;omega
     ·rename_i h3;have:=mt (And.intro h3) h1;omega
theorem qdY{k:Nat}(h:k≤64):(Lib.itoa (k:Int)).length≤9:=by
 rw[Lib.itoa_nonneg]
 by_cases g:k<10
 ·rw[Lib.decDigits,dif_pos g];simp
 ·rw[Lib.decDigits,dif_neg g,Lib.decDigits,dif_pos (show k/10<10 by omega)];simp
def qtV(s:Str):Bool:=match Lib.atoiAll s with
 | .ok v=>decide (1≤v)&&(decide (s.length≤9)&&decide (Lib.itoa v=s))
 |_=>false
def qwu(s:Str):Int:=match Lib.atoiAll s with
 | .ok v=>v
 |_=>qsV s
def SG(w:World):Prop:=qrw w∧qwF w
theorem SG.pow{h:List AObj}(hp:qag SG h):qag qrw h:=hp.mono fun _ h=>h.1
theorem SG.err{h:List AObj}(hp:qag SG h):qag qwF h:=hp.mono fun _ h=>h.2
theorem qEh(s:Str)(h:List AObj)(hs:s.length≤1000000000)(hp:qag SG h):ACalls Tryz.prog 287 [.str s] h (.tup [.int .i64 (qwu s),.bool (qtV s)]) h:=by
 have c180:=t50 s h (SG.err hp) om;unfold qwu qtV;unfold qoC at c180;cases ha:Lib.atoiAll s
 ·rename_i v;rw[ha]at c180;simp only at c180;obtain⟨r1,r2⟩:=qgV ha;have c181:=t48 v h (SG.pow hp) r1 r2;obtain⟨t,ht⟩: ∃t,t=Lib.itoa v:=⟨_,rfl⟩
  rw[←ht]at c181;simp only[←ht]
  by_cases g1:1≤v
  ·have k1:(1≤v)=True:=eqt g1;rw[dqt g1]
   by_cases g2:s.length≤9
   ·have k2:((s.length:Int)≤9)=True:=eqt om;rw[dqt g2];refine acO qeW ?_;simp (disch:=omega) only[qhY,go_sem]
    repeat' first
     |((first|refine cA (c180) ?_ ?_|refine cG (fun e=>c181) ?_ ?_);exact flk;simp (disch:=omega) only[k1,k2,go_sem])
     |(apply qe;exact rvk;simp only[go_sem];exact qk)
     |with_reducible apply aiA
    all_goals try exact clz
   ·have k2:((s.length:Int)≤9)=False:=eqf om;rw[dqf g2];refine acO qeW ?_;simp (disch:=omega) only[qhY,go_sem]
    repeat' first
     |(refine qm ( .str []) ?_;simp (disch:=omega) only[go_sem])
     |(refine cA (c180) flk ?_;simp (disch:=omega) only[k1,k2,go_sem])
     |(apply qe;exact rvk;simp only[go_sem];exact qk)
     |with_reducible apply aiA
    all_goals try exact clz
  ·have k1:(1≤v)=False:=eqf g1;rw[dqf g1];refine acO qeW ?_;simp (disch:=omega) only[qhY,go_sem]
   repeat' first
    |(refine qm ( .str []) ?_;simp (disch:=omega) only[go_sem])
    |(refine cA (c180) flk ?_;simp (disch:=omega) only[k1,go_sem])
    |(apply qe;exact rvk;simp only[go_sem];exact qk)
    |with_reducible first|intro _|apply aiA
   all_goals try exact clz
 ·rw[ha]at c180;simp only at c180;refine acO qeW ?_;simp (disch:=omega) only[qhY,go_sem]
  repeat' first
   |(refine qm ( .str []) ?_;simp (disch:=omega) only[go_sem])
   |(refine cA (c180) flk ?_;simp (disch:=omega) only[go_sem])
   |(apply qe;exact rvk;simp only[go_sem];exact qk)
   |with_reducible first|intro _|apply aiA
  all_goals try exact clz
 ·rw[ha]at c180;simp only at c180;refine acO qeW ?_;simp (disch:=omega) only[qhY,go_sem]
  repeat' first
   |(refine qm ( .str []) ?_;simp (disch:=omega) only[go_sem])
   |(refine cA (c180) flk ?_;simp (disch:=omega) only[go_sem])
   |(apply qe;exact rvk;simp only[go_sem];exact qk)
   |with_reducible first|intro _|apply aiA
  all_goals try exact clz
def pre(s:Str):Bool:=decide (1≤s.length)&&decide (s.take 1= [91])
theorem qsl(s:Str)(h:List AObj)(hs:s.length≤1000000000):ACalls Tryz.prog 314 [.str s,.str [91]] h (.bool (pre s)) h:=by
 unfold pre
 by_cases g:1≤s.length
 ·have k1:((1:Int)≤s.length)=True:=eqt om;rw[dqt g];refine acO qsg ?_;simp (disch:=omega) only[qtv,qd6,k1,go_sem]
  repeat' first
   |(apply qe;exact rvk;simp only[go_sem];exact qk)
   |with_reducible apply aiA
  all_goals try exact clz
 ·have k1:((1:Int)≤s.length)=False:=eqf om;rw[dqf g];refine acO qsg ?_;simp (disch:=omega) only[qtv,qd6,k1,go_sem]
  repeat' first
   |(apply qe;exact rvk;simp only[go_sem];exact qk)
theorem qtN(s:Str)(h:List AObj)(hs:s.length≤1000000000):ACalls Tryz.prog 306 [.str s,.str [91]] h (.tup [.str (if pre s=true then s.drop 1 else s),.bool (pre s)]) h:=by
 have c1:=fun h=>qsl s h hs
 cases g:pre s with
 |true=>
  rw[g]at c1;have g1:1≤s.length:=by unfold pre at g;simp at g;omega
  have k4:((1:Int)≤s.length)=True:=eqt om;have k5:List.take (s.length-1) (List.drop 1 s)=s.drop 1:=ltl (by simp);refine acO qse ?_;simp (disch:=omega) only[qtt,go_sem]
  repeat' first
   |(refine cA (c1 _) flk ?_;simp (disch:=omega) only[qd6,k4,go_sem])
   |(apply qe;exact rvk;simp only[go_sem])
   |with_reducible apply aiA
  all_goals try exact clz
  simp only[Int.toNat_one,k5];exact qk
 |false=>
  rw[g]at c1;refine acO qse ?_;simp (disch:=omega) only[qtt,go_sem]
  repeat' first
   |(refine cA (c1 _) flk ?_;simp (disch:=omega) only[go_sem])
   |(apply qe;exact rvk;simp only[go_sem];exact qk)
theorem qyc(s:Str)(h:List AObj)(hs:s.length≤1000000000):ACalls Tryz.prog 286 [.str s,.str [91]] h (.tup [.str (if pre s=true then s.drop 1 else s),.bool (pre s)]) h:=by
 have c1:=fun h=>qtN s h hs
 refine acO qzy ?_;simp (disch:=omega) only[qxN,go_sem]
 repeat' first
  |(refine cA (c1 _) flk ?_;simp (disch:=omega) only[go_sem])
  |(apply qe;exact rvk;simp only[go_sem];exact qk)
  |with_reducible apply aiA
 all_goals try exact clz
def qaW(s:Str):Bool:=decide (1≤s.length)&&decide (s.drop (s.length-1)= [93])
theorem quv(s:Str)(h:List AObj)(hs:s.length≤1000000000):ACalls Tryz.prog 304 [.str s,.str [93]] h (.bool (qaW s)) h:=by
 unfold qaW
 by_cases g:1≤s.length
 ·have k1:((1:Int)≤s.length)=True:=eqt om;have k2:((s.length:Int)-1).toNat=s.length-1:=by omega
  have k3:(0≤(s.length:Int)-1)=True:=eqt om;have k4:((s.length:Int)-1≤s.length)=True:=eqt om;have k5:List.take (s.length-(s.length-1)) (List.drop (s.length-1) s)=s.drop (s.length-1):=ltl (by simp);rw[dqt g];refine acO qhe ?_;simp (disch:=omega) only[qkJ,qd6,k1,k2,k3,k4,k5,go_sem]
  repeat' first
   |(apply qe;exact rvk;simp only[go_sem];exact qk)
   |with_reducible apply aiA
  all_goals try exact clz
 ·have k1:((1:Int)≤s.length)=False:=eqf om;rw[dqf g];refine acO qhe ?_;simp (disch:=omega) only[qkJ,qd6,k1,go_sem]
  repeat' first
   |(apply qe;exact rvk;simp only[go_sem];exact qk)
theorem qpb(s:Str)(h:List AObj)(hs:s.length≤1000000000):ACalls Tryz.prog 284 [.str s,.str [93]] h (.tup [.str (if qaW s=true then s.take (s.length-1) else s),.bool (qaW s)]) h:=by
 have c1:=fun h=>quv s h hs
 cases g:qaW s with
 |true=>
  rw[g]at c1;have g1:1≤s.length:=by unfold qaW at g;simp at g;omega
  have k2:((s.length:Int)-1).toNat=s.length-1:=by omega
  have k3:(0≤(s.length:Int)-1)=True:=eqt om;have k4:((s.length:Int)-1≤s.length)=True:=eqt om;refine acO qhd ?_;simp (disch:=omega) only[qkI,go_sem]
  repeat' first
   |(refine cA (c1 _) flk ?_;simp (disch:=omega) only[qd6,k2,k3,k4,Nat.sub_zero,go_sem])
   |(apply qe;exact rvk;simp only[go_sem];exact qk)
   |with_reducible apply aiA
  all_goals try exact clz
 |false=>
  rw[g]at c1;refine acO qhd ?_;simp (disch:=omega) only[qkI,go_sem]
  repeat' first
   |(refine cA (c1 _) flk ?_;simp (disch:=omega) only[go_sem])
   |(apply qe;exact rvk;simp only[go_sem];exact qk)
theorem qtP(s:Str)(h:List AObj)(hs:s.length≤1000000000):ACalls Tryz.prog 241 [.str s,.str [93]] h (.tup [.str (if qaW s=true then s.take (s.length-1) else s),.bool (qaW s)]) h:=by
 have c1:=fun h=>qpb s h hs
 refine acO qr7 ?_;simp (disch:=omega) only[qtm,go_sem]
 repeat' first
  |(refine cA (c1 _) flk ?_;simp (disch:=omega) only[go_sem])
  |(apply qe;exact rvk;simp only[go_sem];exact qk)
  |with_reducible apply aiA
 all_goals try exact clz
def qb6(s:Str):Bool:=(List.range 64).any fun k=>decide (s=91::(Lib.itoa ((k+1:Nat):Int)++ [93]))
def qcb(s:Str):Bool:=qae s||(if s.length=1 then decide (zG (ch s 0)=5)||decide (zG (ch s 0)=4) else qb6 s)
def qoo(s:Str):Str:=if qaW (if pre s=true then s.drop 1 else s)=true then (if pre s=true then s.drop 1 else s).take ((if pre s=true then s.drop 1 else s).length-1) else if pre s=true then s.drop 1 else s
def qzY(s:Str):Bool:=pre s&&qaW (if pre s=true then s.drop 1 else s)&&qtV (qoo s)&&decide (qwu (qoo s)≤64)
theorem qz0(s:Str):qzY s=qb6 s:=by
 cases g:qb6 s with
 |true=>
  unfold qb6 at g;rw[List.any_eq_true]at g;obtain⟨k,hk,e⟩:=g;have hk':k<64:=by simpa using hk
  have e:=of_decide_eq_true e;obtain⟨t,ht⟩: ∃t,t=Lib.itoa ((k+1:Nat):Int):=⟨_,rfl⟩
  rw[←ht]at e;have ha:Lib.atoiAll t= .ok ((k+1:Nat):Int):=by rw[ht];exact qeA om om
  have hl:t.length≤9:=by
   rw[ht];exact qdY om
  have p1:pre s=true:=by rw[e];simp[pre]
  have p2:s.drop 1=t++ [93]:=by rw[e];rfl
  have p3:qaW (t++ [93])=true:=by unfold qaW;simp
  have p4:qoo s=t:=by unfold qoo;rw[ipo p1,p2,ipo p3];simp
  have p5:qtV t=true:=by unfold qtV;rw[ha];simp only;rw[←ht];simp;omega
  have p6:qwu t=((k+1:Nat):Int):=by unfold qwu;rw[ha]
  unfold qzY;rw[p4,p1,ipo rfl,p2,p3,p5,p6];simp;omega
 |false=>
  cases q:qzY s with
  |false=>rfl
  |true=>
   exfalso;unfold qzY at q;simp only[Bool.and_eq_true,decide_eq_true_eq]at q;obtain⟨⟨⟨q1,q2⟩,q3⟩,q4⟩:=q;rw[ipo q1]at q2;obtain⟨m,hm⟩: ∃m,m=qoo s:=⟨_,rfl⟩
   have hm':=hm;unfold qoo at hm';rw[ipo q1,ipo q2]at hm';rw[←hm]at q3 q4;unfold qtV at q3;unfold qwu at q4;cases ha:Lib.atoiAll m
   ·rename_i v;rw[ha]at q3 q4;simp only[Bool.and_eq_true,decide_eq_true_eq]at q3 q4;obtain⟨r1,r2,r3⟩:=q3;unfold pre at q1;unfold qaW at q2;simp only[Bool.and_eq_true,decide_eq_true_eq]at q1 q2;have e1:s=91::s.drop 1:=by
     have:=List.take_append_drop 1 s
     rw[q1.2]at this;exact this.symm
    have e2:s.drop 1=m++ [93]:=by
     have:=List.take_append_drop ((s.drop 1).length-1) (s.drop 1)
     rw[q2.2,←hm']at this;exact this.symm
    have:qb6 s=true:=by
     unfold qb6;rw[List.any_eq_true];refine⟨v.toNat-1,by simp;omega,dqt ?_⟩;rw[show ((v.toNat-1+1:Nat):Int)=v by omega,r3,←e2,←e1]
    rw[g]at this;cases this
   ·rw[ha]at q3;cases q3
   ·rw[ha]at q3;cases q3
theorem qDd(s:Str)(h:List AObj)(hs:s.length≤1000000000)(hp:qag SG h):ACalls Tryz.prog 244 [.str s] h (.bool (qcb s)) h:=by
 have c167:=fun h=>t88 s h hs
 unfold qcb;cases g:qae s with
 |true=>
  rw[g]at c167;refine acO qlH ?_;simp (disch:=omega) only[qoP,go_sem]
  repeat' first
   |(refine cA (c167 _) flk ?_;simp (disch:=omega) only[go_sem])
   |(apply qe;exact rvk;simp only[go_sem];exact qk)
 |false=>
 rw[g]at c167;rw[Bool.false_or]
 by_cases g1:s.length=1
 ·have k1:((s.length:Int)=1)=True:=eqt om;have k2:((0:Int)<s.length)=True:=eqt om;rw[ipo g1];have e:(s[0]?).getD 0=ch s 0:=by simp[ch,gdqA]
  have c153:=fun h=>qda (ch s 0) h
  obtain⟨k,hk⟩: ∃k,k=zG (ch s 0):=⟨_,rfl⟩
  rw[←hk]at c153 ⊢;refine acO qlH ?_;simp (disch:=omega) only[qoP,go_sem]
  repeat' first
   |((first|refine cA (c167 _) ?_ ?_|refine cA (c153 _) ?_ ?_);exact flk;simp (disch:=omega) only[k1,k2,e,Int.toNat_zero,go_sem])
   |(apply qe;exact rvk;simp only[go_sem];exact qk)
   |with_reducible apply aiA
  all_goals try exact clz
 ·have k1:((s.length:Int)=1)=False:=eqf om;rw[ine g1,←qz0];have c168:=fun h=>qyc s h hs
  unfold qzY;have hm:qoo s=if qaW (if pre s=true then s.drop 1 else s)=true then (if pre s=true then s.drop 1 else s).take ((if pre s=true then s.drop 1 else s).length-1) else if pre s=true then s.drop 1 else s:=rfl
  obtain⟨u,hu⟩: ∃u,u=if pre s=true then s.drop 1 else s:=⟨_,rfl⟩
  rw[←hu]at c168 hm ⊢;have hul:u.length≤s.length:=by rw[hu];split<;>simp
  have c126:=fun h=>qtP u h om
  rw[←hm]at c126;have hml:(qoo s).length≤u.length:=by rw[hm];split<;>simp
  have c169:=qEh (qoo s) h om hp;obtain⟨m,hmm⟩: ∃m,m=qoo s:=⟨_,rfl⟩
  rw[←hmm]at c126 c169 ⊢;obtain⟨a,ha⟩: ∃a,a=pre s:=⟨_,rfl⟩
  obtain⟨b,hb⟩: ∃b,b=qaW u:=⟨_,rfl⟩
  obtain⟨c,hc⟩: ∃c,c=qtV m:=⟨_,rfl⟩
  rw[←ha]at c168 ⊢;rw[←hb]at c126 ⊢;rw[←hc]at c169 ⊢;cases a<;>cases b<;>cases c
  all_goals
   refine acO qlH ?_;simp (disch:=omega) only[qoP,go_sem]
   repeat' first
    |((first|refine cA (c167 _) ?_ ?_|refine cA (c168 _) ?_ ?_|refine cA (c126 _) ?_ ?_|refine cA (c169) ?_ ?_);exact flk;simp (disch:=omega) only[k1,go_sem])
    |(apply qe;exact rvk;simp only[go_sem];exact qk)
    |with_reducible apply aiA
   all_goals try exact clz
def wE(s:Str):Int:=if qcb s=true then 0 else 11
theorem qEE(s:Str)(h:List AObj)(hs:s.length≤1000000000)(hp:qag SG h):ACalls Tryz.prog 194 [.agg [.str s,.str [],.int .i64 0]] h (.int .i64 (wE s)) h:=by
 have c160:=fun l=>qDd s (h++l) hs (hp.app l)
 unfold wE;cases g:qcb s with
 |true=>
  rw[g]at c160;refine acO qr3 ?_;simp (disch:=omega) only[qti,go_sem]
  repeat' first
   |(refine qm ( .bool false) ?_;simp (disch:=omega) only[go_sem])
   |(refine cA (c160 _) flk ?_;simp (disch:=omega) only[go_sem])
   |(apply qb;exact rvk;simp only[go_sem];first|exact qk|apply qh)
   |with_reducible first|intro _|apply aiA
  all_goals try exact clz
 |false=>
  rw[g]at c160;refine acO qr3 ?_;simp (disch:=omega) only[qti,go_sem]
  repeat' first
   |(refine qm ( .bool false) ?_;simp (disch:=omega) only[go_sem])
   |(refine cA (c160 _) flk ?_;simp (disch:=omega) only[go_sem])
   |(apply qb;exact rvk;simp only[go_sem];exact qk)
def kp(L:List Str):Int:=qaZ (fun i=>wE (L.getD i [])) 0 L.length
theorem qDP(L:List Str)(h:List AObj)(hl:L.length≤1000000000)(hs: ∀i,(L.getD i []).length≤1000000000)(hp:qag SG h):ACalls Tryz.prog 138 [strs L] h (.int .i64 (kp L)) h:=by
 obtain⟨R,hR⟩: ∃R,R=kp L:=⟨_,rfl⟩
 rw[←hR];unfold kp at hR;refine acO qyF ?_;simp (disch:=omega) only[qw0,strs,go_sem];refine qn (T:=fun i:Nat=>qI 19 [(6,strs L),(7,.int .i64 L.length),(8,.int .i64 i)]) (H:=fun _=>h) (inv:=fun i=>i≤L.length∧ ∀j,j<i→wE (L.getD j [])=0) (m:=fun i=>L.length-i) 0 ⟨nzl _,fun j hj=>absurd hj (nnz j)⟩ (Wk.temps ?_) ?_
 ·(simp only[strs,go_sem,qj,qd,qa,qi];try (repeat' first|(with_reducible apply aiA)|(apply qh;omega)|(apply qg;rfl)|exact qk))
 rintro i ⟨i1,i2⟩ K hK
 by_cases hi:i<L.length
 ·have k1:((i:Int)<L.length)=True:=eqt om;have c145:=qEE (L.getD i []) h (hs i) hp;obtain⟨e,he⟩: ∃e,e=wE (L.getD i []):=⟨_,rfl⟩
  rw[←he]at c145
  by_cases g:e=0
  ·have q1:(e=0)=True:=eqt g;simp (disch:=omega) only[strs,k1,go_sem]
   repeat' first
    |(refine cA (c145) flk ?_;simp (disch:=omega) only[q1,go_sem])
    |with_reducible apply aiA
   all_goals try exact clz
   refine hK _ _ (i+1) ⟨hi,fun j hj=> ?_⟩ om (Wk.temps ?_)
   ·by_cases e':j=i
    ·subst e';rw[←he,g]
    ·exact i2 j om
   ·(simp only[strs,go_sem,qj,qd,qa,qi];try (repeat' first|(with_reducible apply aiA)|(apply qh;omega)|(apply qg;rfl)|exact qk))
  ·have q1:(e=0)=False:=eqf g;have hV:R=e:=by rw[hR,qO (f:=fun i=>wE (L.getD i [])) hi i2 (by rw[←he];exact g),he]
   rw[hV];simp (disch:=omega) only[strs,k1,go_sem]
   repeat' first
    |(refine cA (c145) flk ?_;simp (disch:=omega) only[q1,go_sem])
    |(apply qe;exact rvk;simp only[go_sem];exact qk)
    |with_reducible apply aiA
   all_goals try exact clz
 ·have k1:((i:Int)<L.length)=False:=eqf om;have hV:R=0:=by rw[hR,qz (f:=fun i=>wE (L.getD i [])) (fun j hj=>i2 j om)]
  rw[hV];simp (disch:=omega) only[strs,k1,go_sem]
  repeat' first
   |(apply qe;exact rvk;simp only[go_sem];exact qk)
theorem qss(h:List AObj):ACalls Tryz.prog 259 [.str []] h (.bool true) h:=by
 refine acO qzr ?_;simp (disch:=omega) only[qxG,go_sem]
 repeat' first
  |(refine qm ( .bool false) ?_;simp (disch:=omega) only[go_sem])
  |(apply qe;exact rvk;simp only[go_sem];exact qk)
theorem qBz(a b c:Str)(n f g:Int)(d:Str)(h:List AObj)(hf:0≤f)(hf2:f≤31)(hg:0<g):ACalls Tryz.prog 255 [.agg [.str a,.str b,.str c,.int .i64 n,.int .i64 f,.str d],.int .i64 g] h (.bool (decide (f/g%2=1))) h:=by
 have k1:(g=0)=False:=eqf om;have k2:0≤f/g:=Int.ediv_nonneg hf om;have k3:f/g≤f:=Int.ediv_le_self _ hf;refine acO qzo ?_;simp (disch:=omega) only[qxD,go_sem]
 repeat' first
  |(apply qb;exact rvk;simp only[go_sem];exact qk)
  |with_reducible apply aiA
 all_goals try exact clz
theorem qEt(s:Str)(h:List AObj)(hs:s.length≤1000000000)(hp:qag SG h):ACalls Tryz.prog 256 [.str s] h (.bool (qb6 s)) h:=by
 refine acO qzp ?_;simp (disch:=omega) only[qxE,go_sem];refine qn (T:=fun i:Nat=>qI 14 [(0,.str s),(3,.int .i64 ((i+1:Nat):Int))]) (H:=fun _=>h) (inv:=fun i=>i≤64∧ ∀j,j<i→s≠91::(Lib.itoa ((j+1:Nat):Int)++ [93])) (m:=fun i=>64-i) 0 ⟨nzl _,fun j hj=>absurd hj (nnz j)⟩ (Wk.temps ?_) ?_
 ·(simp only[go_sem,qj,qd,qa,qi];try (repeat' first|(with_reducible apply aiA)|(apply qh;omega)|(apply qg;rfl)|exact qk))
 rintro i ⟨i1,i2⟩ K hK;have ec:((i+1:Nat):Int)=(i:Int)+1:=by omega
 by_cases hi:i<64
 ·have k1:((i:Int)+1≤64)=True:=eqt om;have c181:=t48 ((i:Int)+1) h (SG.pow hp) om om;have hl:(Lib.itoa ((i:Int)+1)).length≤9:=by rw[←ec];exact qdY om
  obtain⟨t,ht⟩: ∃t,t=Lib.itoa ((i:Int)+1):=⟨_,rfl⟩
  rw[←ht]at c181 hl
  by_cases g:s=91::(t++ [93])
  ·have q1:(s=91::(t++ [93]))=True:=eqt g;have hV:qb6 s=true:=by
    unfold qb6;rw[List.any_eq_true];exact⟨i,by simpa using hi,dqt (by rw[ec,←ht];exact g)⟩
   rw[hV];simp (disch:=omega) only[ec,k1,go_sem]
   repeat' first
    |(refine cA (c181) flk ?_;simp (disch:=omega) only[q1,go_sem])
    |(apply qe;exact rvk;simp only[go_sem];exact qk)
    |with_reducible apply aiA
   all_goals try exact clz
  ·have q1:(s=91::(t++ [93]))=False:=eqf g;simp (disch:=omega) only[ec,k1,go_sem]
   repeat' first
    |(refine cA (c181) flk ?_;simp (disch:=omega) only[q1,go_sem])
    |with_reducible apply aiA
   all_goals try exact clz
   refine hK _ _ (i+1) ⟨hi,fun j hj=> ?_⟩ om (Wk.temps ?_)
   ·by_cases e':j=i
    ·subst e';rw[ec,←ht];exact g
    ·exact i2 j om
   ·(simp only[go_sem,qj,qd,qa,qi];try (repeat' first|(with_reducible apply aiA)|(apply qh;omega)|(apply qg;rfl)|exact qk))
 ·have k1:((i:Int)+1≤64)=False:=eqf om;have hV:qb6 s=false:=by
   cases e:qb6 s with
   |false=>rfl
   |true=>
    unfold qb6 at e;rw[List.any_eq_true]at e;obtain⟨j,hj,e⟩:=e;exact absurd (of_decide_eq_true e) (i2 j (by have:j<64:=(by simpa using hj);omega))
  rw[hV];simp (disch:=omega) only[ec,k1,go_sem]
  repeat' first
   |(apply qe;exact rvk;simp only[go_sem];exact qk)
theorem qx7(s:Str)(h:List AObj)(hs:s.length≤1000000000)(hp:qag SG h):ACalls Tryz.prog 211 [.agg [.str s,.str s,.str [],.int .i64 0,.int .i64 2,.str []]] h (.int .i64 (if qb6 s=true then 0 else 11)) h:=by
 have d1:decide ((2:Int)/2%2=1)=true:=rfl;have d2:decide ((2:Int)/8%2=1)=false:=rfl;have c1:=fun h=>qBz s s [] 0 2 2 [] h (by decide) (by decide) (by decide)
 have c2:=fun h=>qBz s s [] 0 2 8 [] h (by decide) (by decide) (by decide)
 rw[d1]at c1;rw[d2]at c2;have c3:=fun l=>qEt s (h++l) hs (hp.app l)
 have c4:=fun h=>qss h
 cases g:qb6 s with
 |true=>
  rw[g]at c3;refine acO qdp ?_;simp (disch:=omega) only[qfP,go_sem]
  repeat' first
   |((first|refine cA (c1 _) ?_ ?_|refine cA (c2 _) ?_ ?_|refine cA (c3 _) ?_ ?_|refine cA (c4 _) ?_ ?_|refine cG (fun e=>c4 _) ?_ ?_);exact flk;simp (disch:=omega) only[go_sem])
   |(apply qb;exact rvk;simp only[go_sem];first|exact qk|apply qh)
   |with_reducible first|intro _|apply aiA
  all_goals try exact clz
 |false=>
  rw[g]at c3;refine acO qdp ?_;simp (disch:=omega) only[qfP,go_sem]
  repeat' first
   |((first|refine cA (c1 _) ?_ ?_|refine cA (c2 _) ?_ ?_|refine cA (c3 _) ?_ ?_);exact flk;simp (disch:=omega) only[go_sem])
   |(apply qb;exact rvk;simp only[go_sem];first|exact qk|apply qh)
   |with_reducible first|intro _|apply aiA
  all_goals try exact clz
theorem qx8(s:Str)(h:List AObj)(hs:s.length≤1):ACalls Tryz.prog 211 [.agg [.str s,.str s,.str [],.int .i64 0,.int .i64 8,.str []]] h (.int .i64 (if s.length=1∧(zG (ch s 0)=5∨zG (ch s 0)=4) then 0 else 11)) h:=by
 have d1:decide ((8:Int)/2%2=1)=false:=rfl;have d2:decide ((8:Int)/8%2=1)=true:=rfl;have c1:=fun h=>qBz s s [] 0 8 2 [] h (by decide) (by decide) (by decide)
 have c2:=fun h=>qBz s s [] 0 8 8 [] h (by decide) (by decide) (by decide)
 rw[d1]at c1;rw[d2]at c2;have c4:=fun h=>qss h
 by_cases g:s.length=1
 ·have k1:((s.length:Int)=1)=True:=eqt om;have k2:((0:Int)<s.length)=True:=eqt om;have e:(s[0]?).getD 0=ch s 0:=by simp[ch,gdqA]
  have c5:=fun h=>qdb (ch s 0) h
  obtain⟨k,hk⟩: ∃k,k=zG (ch s 0):=⟨_,rfl⟩
  rw[←hk]at c5 ⊢
  by_cases g1:k=5
  ·have q1:(k=5)=True:=eqt g1;rw[ipo ⟨g,.inl g1⟩];refine acO qdp ?_;simp (disch:=omega) only[qfP,go_sem]
   repeat' first
    |(refine qm ( .int .i64 0) ?_;simp (disch:=omega) only[go_sem])
    |((first|refine cA (c1 _) ?_ ?_|refine cA (c2 _) ?_ ?_|refine cG (fun e=>c5 _) ?_ ?_|refine cA (c4 _) ?_ ?_|refine cG (fun e=>c4 _) ?_ ?_);exact flk;simp (disch:=omega) only[k1,k2,e,q1,Int.toNat_zero,go_sem])
    |(apply qb;exact rvk;simp only[go_sem];first|exact qk|apply qh)
    |with_reducible first|intro _|apply aiA
   all_goals try exact clz
  ·have q1:(k=5)=False:=eqf g1
   by_cases g2:k=4
   ·have q2:(k=4)=True:=eqt g2;rw[ipo ⟨g,.inr g2⟩];refine acO qdp ?_;simp (disch:=omega) only[qfP,go_sem]
    repeat' first
     |((first|refine cA (c1 _) ?_ ?_|refine cA (c2 _) ?_ ?_|refine cG (fun e=>c5 _) ?_ ?_|refine cA (c4 _) ?_ ?_|refine cG (fun e=>c4 _) ?_ ?_);exact flk;simp (disch:=omega) only[k1,k2,e,q1,q2,Int.toNat_zero,go_sem])
     |(apply qb;exact rvk;simp only[go_sem];first|exact qk|apply qh)
     |with_reducible first|intro _|apply aiA
    all_goals try exact clz
   ·have q2:(k=4)=False:=eqf g2;rw[ine (by rintro⟨_,h|h⟩<;>contradiction)];refine acO qdp ?_;simp (disch:=omega) only[qfP,go_sem]
    repeat' first
     |((first|refine cA (c1 _) ?_ ?_|refine cA (c2 _) ?_ ?_|refine cG (fun e=>c5 _) ?_ ?_);exact flk;simp (disch:=omega) only[k1,k2,e,q1,q2,Int.toNat_zero,go_sem])
     |(apply qb;exact rvk;simp only[go_sem];first|exact qk|apply qh)
     |with_reducible first|intro _|apply aiA
    all_goals try exact clz
 ·have k1:((s.length:Int)=1)=False:=eqf om;rw[ine (fun hc=>g hc.1)];refine acO qdp ?_;simp (disch:=omega) only[qfP,go_sem]
  repeat' first
   |(refine qm ( .int .i64 0) ?_;simp (disch:=omega) only[go_sem])
   |((first|refine cA (c1 _) ?_ ?_|refine cA (c2 _) ?_ ?_);exact flk;simp (disch:=omega) only[k1,go_sem])
   |(apply qb;exact rvk;simp only[go_sem];first|exact qk|apply qh)
   |with_reducible first|intro _|apply aiA
  all_goals try exact clz
theorem qDe(s:Str)(h:List AObj)(hs:s.length≤1000000000)(hp:qag SG h):ACalls Tryz.prog 193 [.str s] h (.bool (qcb s)) h:=by
 have c1:=fun h=>t93 s h hs
 unfold qcb;cases g:qae s with
 |true=>
  rw[g]at c1;refine acO qeU ?_;simp (disch:=omega) only[qhW,go_sem]
  repeat' first
   |(refine cA (c1 _) flk ?_;simp (disch:=omega) only[go_sem])
   |(apply qe;exact rvk;simp only[go_sem];exact qk)
 |false=>
 rw[g]at c1;rw[Bool.false_or]
 by_cases g1:1<s.length
 ·have k1:((1:Int)<s.length)=True:=eqt om;rw[ine om];have c2:=qx7 s h hs hp;cases g2:qb6 s with
  |true=>
   rw[g2]at c2;refine acO qeU ?_;simp (disch:=omega) only[qhW,go_sem]
   repeat' first
    |((first|refine cA (c1 _) ?_ ?_|refine cA (c2) ?_ ?_);exact flk;simp (disch:=omega) only[k1,go_sem])
    |(apply qe;exact rvk;simp only[go_sem];exact qk)
  |false=>
   rw[g2]at c2;refine acO qeU ?_;simp (disch:=omega) only[qhW,go_sem]
   repeat' first
    |((first|refine cA (c1 _) ?_ ?_|refine cA (c2) ?_ ?_);exact flk;simp (disch:=omega) only[k1,go_sem])
    |(apply qe;exact rvk;simp only[go_sem];exact qk)
 ·have k1:((1:Int)<s.length)=False:=eqf om;have c2:=qx8 s h om
  by_cases g2:s.length=1∧(zG (ch s 0)=5∨zG (ch s 0)=4)
  ·rw[ipo g2]at c2;rw[ipo g2.1,show (decide (zG (ch s 0)=5)||decide (zG (ch s 0)=4))=true by simpa using g2.2];refine acO qeU ?_;simp (disch:=omega) only[qhW,go_sem]
   repeat' first
    |((first|refine cA (c1 _) ?_ ?_|refine cA (c2) ?_ ?_);exact flk;simp (disch:=omega) only[k1,go_sem])
    |(apply qe;exact rvk;simp only[go_sem];exact qk)
  ·rw[ine g2]at c2;have hV:(if s.length=1 then decide (zG (ch s 0)=5)||decide (zG (ch s 0)=4) else qb6 s)=false:=by
    by_cases g3:s.length=1
    ·rw[ipo g3];simp only[Bool.or_eq_false_iff,decide_eq_false_iff_not];exact⟨fun hc=>g2 ⟨g3,.inl hc⟩,fun hc=>g2 ⟨g3,.inr hc⟩⟩
    ·rw[ine g3]
     have:s= []:=List.eq_nil_of_length_eq_zero om
     subst this;unfold qb6;rw[List.any_eq_false];intro k _;simp
   rw[hV];refine acO qeU ?_;simp (disch:=omega) only[qhW,go_sem]
   repeat' first
    |((first|refine cA (c1 _) ?_ ?_|refine cA (c2) ?_ ?_);exact flk;simp (disch:=omega) only[k1,go_sem])
    |(apply qe;exact rvk;simp only[go_sem];exact qk)
theorem qEF(s:Str)(h:List AObj)(hs:s.length≤1000000000)(hp:qag SG h):ACalls Tryz.prog 137 [.agg [.str s,.str [],.int .i64 0]] h (.int .i64 (wE s)) h:=by
 have c1:=fun l=>qDe s (h++l) hs (hp.app l)
 unfold wE;cases g:qcb s with
 |true=>
  rw[g]at c1;refine acO qrU ?_;simp (disch:=omega) only[qs9,go_sem]
  repeat' first
   |(refine qm ( .bool false) ?_;simp (disch:=omega) only[go_sem])
   |(refine cA (c1 _) flk ?_;simp (disch:=omega) only[go_sem])
   |(apply qb;exact rvk;simp only[go_sem];first|exact qk|apply qh)
   |with_reducible first|intro _|apply aiA
  all_goals try exact clz
 |false=>
  rw[g]at c1;refine acO qrU ?_;simp (disch:=omega) only[qs9,go_sem]
  repeat' first
   |(refine qm ( .bool false) ?_;simp (disch:=omega) only[go_sem])
   |(refine cA (c1 _) flk ?_;simp (disch:=omega) only[go_sem])
   |(apply qb;exact rvk;simp only[go_sem];exact qk)
theorem qsH(s:Str)(h:List AObj)(hs:s.length≤1000000000)(hp:qag SG h):ACalls Tryz.prog 147 [.str s] h (.bool (qcb s)) h:=by
 have c1:=qEF s h hs hp;unfold wE at c1;cases g:qcb s with
 |true=>
  rw[g]at c1;refine acO qrX ?_;simp (disch:=omega) only[qtc,go_sem]
  repeat' first
   |(refine cA (c1) flk ?_;simp (disch:=omega) only[go_sem])
   |(apply qe;exact rvk;simp only[go_sem];exact qk)
 |false=>
  rw[g]at c1;refine acO qrX ?_;simp (disch:=omega) only[qtc,go_sem]
  repeat' first
   |(refine cA (c1) flk ?_;simp (disch:=omega) only[go_sem])
   |(apply qe;exact rvk;simp only[go_sem];exact qk)
end RC
end
section
open Go Go.Proofs AF HY LN
namespace RC
theorem gt1(n:Int)(h:List AObj):ACalls Tryz.prog 191 [.int .i64 n] h (.bool (decide (1<n))) h:=by
 refine acO qyX ?_;simp (disch:=omega) only[qxg,go_sem]
 repeat' first
  |(apply qe;exact rvk;simp only[go_sem];exact qk)
theorem qB3(cs:List Int)(h:List AObj)(hl:cs.length≤1000000):ACalls Tryz.prog 190 [ql cs,.fn (.func 191) [] []] h (.bool (zd (fun i=>decide (1<cs.getD i 0)) cs.length)) h:=
 qo9 qyW ⟨rfl,rfl⟩ ⟨rfl,rfl⟩ (qba qzh cs.length (fun i=> [.int .i64 (cs.getD i 0)]) (fun i=> .int .i64 (cs.getD i 0)) _ [] [] _ h (fun i _=>⟨rfl,by simp[ji],rfl,rfl,rfl⟩) (fun i _=>gt1 _ _) om)
open Go.Shelf Go.RowKit in
theorem qo2(cs:List Int)(w:World)(b:Nat)(hl:cs.length=32)(hb:b<w.heap.size)(hc: ∀i,i<32→w.cell? ⟨b,i,none⟩=some (.int .i64 (cs.getD i 0))):
  Calls Tryz.prog 190 #[.slice (some ⟨b,0,none⟩) 32 32,.func (.func 191) #[] #[]] w fun e w'=>e= .returned (.bool (zd (fun i=>decide (1<cs.getD i 0)) cs.length))∧Below w.heap.size w w':=by
 have H0:HR w [] []:=⟨rfl,by simp,by simp,by simp⟩
 have h0: ∀b,¬own [] b:=fun b ⟨k,o,h1,_⟩=>by simp at h1
 have hI:ql cs= .sl 32 (fun i=> [.int .i64 (cs.getD i 0)]):=by unfold ql;rw[hl]
 have h3:=qB3 cs [] om;rw[hI]at h3;have h3:=h3.2 w [] [.slice (some ⟨b,0,none⟩) 32 32,.func (.func 191) #[] #[]] H0 ⟨rfl,fun i c x hc' hx=>by
  match i with
  |0=>
   simp at hc' hx;subst hc' hx;refine .imm (.sl 1 b 0 32 (fun i j=> .int .i64 (cs.getD i 0)) (nlr _) (by decide) (fun _=>h0 b) hb (fun i _=>rfl) (fun i j hi hj=> ?_) (fun i j _ _=>rfl) (fun i j c hi hj=> ?_))
   ·have:j=0:=by omega
    subst this;simpa using hc i om
   ·match j with
    |0=>simp at hj;subst hj;exact .int
    |j+1=>simp at hj
  |1=>
   simp at hc' hx;subst hc' hx;exact .imm (.fn rfl rfl (by simp) (by simp))
  |i+2=>simp at hc'⟩
 refine (callsIn_wide.1 h3).mono ?_;rintro e w' ⟨v,σ',rfl,g1,g2,g3⟩;obtain rfl:=zZ g2;exact⟨rfl,⟨g3.os,g3.tape,g3.output,g3.size,fun k hk=>g3.keep k hk (h0 k)⟩⟩
open Go.Shelf Go.RowKit in
theorem qrg(cs:List Int)(w:World)(hl:cs.length=32):
  Calls Tryz.prog 133 #[.agg (cs.map fun n=>Value.int .i64 n).toArray] w fun e w'=>e= .returned (.bool (zd (fun i=>decide (1<cs.getD i 0)) cs.length))∧Below w.heap.size w w':=by
 go_enter Tryz.func133,Tryz.ntmps133
 go_wp2_with (go_at_fn 190)
 have hh: ∀o:Obj,(w.alloc o).heap[w.heap.size]? =some o:=fun o=>by
  show (w.heap.push o)[w.heap.size]? =some o;simp
 refine (qo2 cs _ _ hl ?_ ?_).mono ?_
 ·show w.heap.size<(w.heap.push _).size;simp
 ·intro i hi;simp only[World.cell?,hh];simp[gdqA,hl,hi]
 ·rintro e w' ⟨rfl,hb⟩;simp only
  go_wp2
  go_ret
  exact⟨rfl,((Below.refl _ _).alloc (nlr _) _).trans (hb.mono (by show w.heap.size≤(w.heap.push _).size;simp))⟩
theorem twP(cs:List Int)(h:List AObj)(hl:cs.length=32):ACalls Tryz.prog 133 [.agg (cs.map fun n=>AV.int .i64 n)] h (.bool (zd (fun i=>decide (1<cs.getD i 0)) cs.length)) h:=by
 refine⟨qwz Tryz.func133 (by kernel_rfl) (by kernel_rfl),fun w σ xs H hv=> ?_⟩;obtain⟨x,rfl,hx⟩:=hv.one;obtain⟨vs,rfl,hvl,_,hvv⟩:=qbl hx;have e:vs=(cs.map fun n=>Value.int .i64 n).toArray:=by
  apply Array.ext
  ·simpa using hvl
  ·intro i h1 h2;have hi:i<cs.length:=by simpa using h2
   have:=hvv i (.int .i64 cs[i]) vs[i] (by simp[hi]) (by simp[h1])
   rw[zk this];simp
 subst e;refine (callsIn_wide.2 (qrg cs w hl)).mono ?_;rintro e w' ⟨rfl,hb⟩;obtain⟨g1,g2⟩:=Ext.ofBelow H hb;exact⟨_,σ,rfl,g1,.imm .bool,g2⟩
end RC
end
section
open Go Go.Proofs AF HY LN
namespace RC
def qcx(C L:List Int):List Int:=L.foldl (fun C n=>C.set n.toNat (C.getD n.toNat 0+1)) C
theorem qcc(L:List Int): ∀C:List Int,(qcx C L).length=C.length:=by
 induction L with
 |nil=>intro C;rfl
 |cons n L ih=>intro C;show (qcx (C.set _ _) L).length=_;rw[ih];simp
theorem qeH{C L:List Int}{i:Nat}(hi:i<L.length):qcx C (L.take (i+1))=(qcx C (L.take i)).set (L.getD i 0).toNat ((qcx C (L.take i)).getD (L.getD i 0).toNat 0+1):=by
 unfold qcx;rw[List.take_add_one,zp hi,List.foldl_append,gdqA,zp hi];rfl
theorem ql4{C:List Int}{n:Nat}(x:Int)(h:n<C.length):List.take n (qp C)++ [AV.int .i64 x]++List.drop (n+1) (qp C)=qp (C.set n x):=by
 unfold qp;rw[←List.map_take,←List.map_drop,List.set_eq_take_append_cons_drop,ipo h];simp
theorem qe3{C:List Int}{n:Nat}(h:n<C.length):(qp C)[n]? =some (.int .i64 (C.getD n 0)):=by
 unfold qp;rw[List.getElem?_map,zp h,gdqA,zp h];rfl
theorem qmd{L:List Int}{n:Nat}{c:AV}(h:c∈qp L):lowV n c=true:=by
 unfold qp at h;obtain⟨x,_,rfl⟩:=List.mem_map.1 h;rfl
theorem qg5{names:List Str}{gs:List Gr}{sg:List Str}:inB names.length (jC names gs sg)∧ ∀i,0<i→i<(jC names gs sg).length→(jC names gs sg).getD (i-1) 0<(jC names gs sg).getD i 0:=by
 unfold jC;split
 ·rename_i h;have h':=h;unfold kx at h';split at h'
  ·cases h'
  rename_i h1;have hok:=qdB (by simpa using h1);have hz:=jS.1 h';obtain⟨m1,m2⟩:=qfI hok hz;have hsort:(qT (qez names gs sg sg.length).testBit 64).Pairwise (· < ·):=by
   unfold qT;rw[List.pairwise_map];exact (List.pairwise_lt_range.filter _).imp (fun h=>Int.ofNat_lt.2 h)
  have hmem: ∀n∈qT (qez names gs sg sg.length).testBit 64,0≤n∧n<names.length:=by
   intro n hn;unfold qT at hn;obtain⟨k,hk,rfl⟩:=List.mem_map.1 hn;have hk2:=(List.mem_filter.1 hk).2;rw[m2 k]at hk2;obtain⟨j,hj,hm⟩:=of_decide_eq_true hk2;have hf: ¬(nIx names (sg.getD j [])<0∧gIx gs (sg.getD j [])<0):=by
    intro hc
    have:=hz j hj
    unfold qbE at this;rw[ipo hc]at this;cases this
   exact jl (qfZ hok hf) _ hm
  refine⟨fun i hi=> ?_,fun i h0 hi=> ?_⟩
  ·rw[gdqA,zp hi];exact hmem _ (List.getElem_mem hi)
  ·rw[gdqA,gdqA,zp hi,zp (show i-1<_ by omega)];exact List.pairwise_iff_getElem.1 hsort (i-1) i om hi om
 ·exact⟨fun i hi=>absurd hi (nnz i),fun i _ hi=>absurd hi (nnz i)⟩
theorem qg6{names:List Str}{gs:List Gr}{sg:List Str}:inB 32 (jC names gs sg):=by
 by_cases h:kx names gs sg=0
 ·have h':=h;unfold kx at h';split at h'
  ·cases h'
  rename_i h1;have hok:=qdB (by simpa using h1);exact qdU qg5.1 (by have:=hok.n32;omega)
 ·have:jC names gs sg= []:=by unfold jC;rw[ine h]
  rw[this];exact fun i hi=>absurd hi (nnz i)
theorem qdR{names:List Str}{gs:List Gr}{sg:List Str}:(jC names gs sg).length≤64:=by
 unfold jC;split
 ·exact qN _ _
 ·simp
theorem qdH{C L:List Int}{B:Int}(hc: ∀i,0≤C.getD i 0∧C.getD i 0≤B): ∀(i:Nat),i≤L.length→ ∀j,0≤(qcx C (L.take i)).getD j 0∧(qcx C (L.take i)).getD j 0≤B+i:=by
 intro i
 induction i with
 |zero=>intro _ j;simpa[qcx] using hc j
 |succ i ih=>
  intro hi j;rw[qeH om];have h1:=ih om j;have h2:=ih om (L.getD i 0).toNat;rw[gdqA,List.getElem?_set];split
  ·rename_i e1;split
   ·simp only[Option.getD_some];omega
   ·simp;omega
  ·rw[←gdqA];omega
theorem qB5(names:List Str)(gs:List Gr)(sg:List Str)(C:List Int)(k v:Nat)(ty:TypeId)(h:List AObj)(hz:Szs names gs)(hs:sg.length≤1000000000)(hk:qA k h=some (.mem v ty (qp C)))(hC:C.length=32)(B:Int)(hB0:B≤1000000000000000000)(hc: ∀i,0≤C.getD i 0∧C.getD i 0≤B):
  ACalls Tryz.prog 132 [strs names,qu gs,strs sg,.op k v 0] h (.int .i64 (kx names gs sg)) (setO k h (.mem v ty (qp (qcx C (jC names gs sg))))):=by
 have c62:=fun h=>qEp names gs sg h hz hs
 have hB:= @qg6 names gs sg;have hL:= @qdR names gs sg;obtain⟨L,hLx⟩: ∃L,L=jC names gs sg:=⟨_,rfl⟩
 rw[←hLx]at c62 hB hL ⊢;obtain⟨e,he⟩: ∃e,e=kx names gs sg:=⟨_,rfl⟩
 rw[←he]at c62 ⊢;have hkl:=jd hk;have bnd:=qdH (L:=L) hc;refine acO qyE ?_;simp (disch:=omega) only[qwZ,go_sem]
 repeat' first
  |(refine cA (c62 _) flk ?_;simp (disch:=omega) only[ql,go_sem])
  |with_reducible apply aiA
 all_goals try exact clz
 refine qn (T:=fun i:Nat=>qI 36 [(3,.op k v 0),(10,.int .i64 e),(20,ql L),(21,.int .i64 L.length),(22,.int .i64 i)]) (H:=fun i=>setO k h (.mem v ty (qp (qcx C (L.take i))))) (inv:=fun i=>i≤L.length) (m:=fun i=>L.length-i) 0 (nzl _) ?_ ?_
 ·have e0:setO k h (.mem v ty (qp (qcx C (L.take 0))))=h:=qfp hk;rw[e0];refine Wk.temps ?_
  (simp only[ql,go_sem,qj,qd,qa,qi];try (repeat' first|(with_reducible apply aiA)|(apply qh;omega)|(apply qg;rfl)|exact qk))
 rintro i i1 K hK;have hl:=qcc (L.take i) C;rw[hC]at hl;have bn:=bnd i i1;have hst:= @qeH C L i;obtain⟨D,hD⟩: ∃D,D=qcx C (L.take i):=⟨_,rfl⟩
 have eD:=hD.symm;rw[eD]at hl bn hst;have f1:cellsOf (setO k h (.mem v ty (qp D))) k v=some (qp D):=qQ (qau hkl);have f2:=qau (o:= .mem v ty (qp D)) hkl;have f3: ∀o',setO k (setO k h (.mem v ty (qp D))) o'=setO k h o':=fun _=>qfq
 by_cases hi:i<L.length
 ·have k1:((i:Int)<L.length)=True:=eqt om;have hv:=hB i hi;have hst:=hst hi;obtain⟨n,hn⟩: ∃n,n=L.getD i 0:=⟨_,rfl⟩
  have en:=hn.symm;rw[en]at hv hst;obtain⟨u,rfl⟩: ∃u:Nat,n=(u:Int):=⟨n.toNat,om⟩
  rw[itn]at hst;have hu:u<D.length:=by omega
  have k2:(0≤(u:Int))=True:=eqt om;have k3:((u:Int)<32)=True:=eqt om;have k4:(u<D.length)=True:=eqt hu;have k5:(u+1≤D.length)=True:=eqt hu;have g1:=qe3 hu;have g2:=ql4 (D.getD u 0+1) hu;have g3:=qy D;have b1:=bn u;have b2:(D.getD u 0+1≤9223372036854775807)=True:=eqt om;have b3:(-9223372036854775808≤D.getD u 0+1)=True:=eqt om;simp (disch:=omega) only[ql,k1,k2,k4,k5,en,eD,f1,f2,f3,g1,g2,g3,Nat.mul_one,Nat.zero_add,Option.getD_some,Option.isSome_some,go_sem]
  repeat' first
   |with_reducible apply aiA
  all_goals try exact clz
  rw[←hst];refine hK _ _ (i+1) hi om (Wk.temps ?_)
  (simp only[ql,go_sem,qj,qd,qa,qi];try (repeat' first|(with_reducible apply aiA)|(apply qh;omega)|(apply qg;rfl)|exact qk))
 ·have k1:((i:Int)<L.length)=False:=eqf om;have e':i=L.length:=by omega
  subst e';rw[List.take_length]at hD;rw[List.take_length,←hD];simp (disch:=omega) only[ql,k1,go_sem];refine qhf ⟨trivial,trivial⟩ jj (fun o ho=> ?_) ⟨rfl,rfl⟩ (qk);rcases qd1 ho with h1|rfl
  ·exact .inl h1
  ·exact .inr (fun c hc=>qmd hc)
structure Tk where
 text:Str
 norm:Str
 page:Str
 line:Int
 flags:Int
 name:Str
 deriving Inhabited, DecidableEq
def tkC(t:Tk):List AV:= [.str t.text,.str t.norm,.str t.page,.int .i64 t.line,.int .i64 t.flags,.str t.name]
def qbK(l:List Tk):AV:= .sl l.length fun i=>tkC (l.getD i default)
def qP(L:List (List Tk)):AV:= .sl L.length fun i=> [qbK (L.getD i [])]
def qE(L:List (List Int)):AV:= .sl L.length fun i=> [ql (L.getD i [])]
structure Co where
 sec:Str
 sig:List Str
 tok:List (List Tk)
 col:List (List Int)
 deriving Inhabited
def coC(x:Co):List AV:= [.str x.sec,strs x.sig,qP x.tok,qE x.col]
structure Rd where
 words:List Str
 src:List Int
 deriving Inhabited, DecidableEq
def rdC(r:Rd):List AV:= [strs r.words,ql r.src]
def jo(l:List Rd):AV:= .sl l.length fun i=>rdC (l.getD i default)
structure Un where
 frm:Int
 to:Int
 rds:List Rd
 deriving Inhabited, DecidableEq
def unC(u:Un):List AV:= [.int .i64 u.frm,.int .i64 u.to,jo u.rds]
def zf(l:List Un):AV:= .sl l.length fun i=>unC (l.getD i default)
structure Wd where
 text:Str
 col:Int
 unit:Int
 dec:Int
 joined:Bool
 verse:Bool
 name:Str
 deriving Inhabited, DecidableEq
def wdC(w:Wd):List AV:= [.str w.text,.int .i64 w.col,.int .i64 w.unit,.int .i64 w.dec,.bool w.joined,.bool w.verse,.str w.name]
def qZ(l:List Wd):AV:= .sl l.length fun i=>wdC (l.getD i default)
theorem flag_tksV(L:List Tk):(qbK L).flag=true:=rfl
theorem strip_tksV(L:List Tk):(qbK L).strip=qbK L:=rfl
theorem flag_tkssV(L:List (List Tk)):(qP L).flag=true:=rfl
theorem strip_tkssV(L:List (List Tk)):(qP L).strip=qP L:=rfl
theorem flag_colsV(L:List (List Int)):(qE L).flag=true:=rfl
theorem strip_colsV(L:List (List Int)):(qE L).strip=qE L:=rfl
theorem flag_rdsV(L:List Rd):(jo L).flag=true:=rfl
theorem strip_rdsV(L:List Rd):(jo L).strip=jo L:=rfl
theorem flag_unsV(L:List Un):(zf L).flag=true:=rfl
theorem strip_unsV(L:List Un):(zf L).strip=zf L:=rfl
theorem flag_wdsV(L:List Wd):(qZ L).flag=true:=rfl
theorem strip_wdsV(L:List Wd):(qZ L).strip=qZ L:=rfl
section
variable {fz : Nat → Bool} {h : List AObj} {n : Nat}
theorem rei_tksV(L:List Tk):rei fz h (n+1) (qbK L)=qbK L:=rfl
theorem rei_tkssV(L:List (List Tk)):rei fz h (n+1) (qP L)=qP L:=rfl
theorem rei_colsV(L:List (List Int)):rei fz h (n+1) (qE L)=qE L:=rfl
theorem rei_rdsV(L:List Rd):rei fz h (n+1) (jo L)=jo L:=rfl
theorem rei_unsV(L:List Un):rei fz h (n+1) (zf L)=zf L:=rfl
theorem rei_wdsV(L:List Wd):rei fz h (n+1) (qZ L)=qZ L:=rfl
theorem frz_tksV(L:List Tk):frz fz h (n+1) (qbK L)=qbK L:=rfl
theorem frz_tkssV(L:List (List Tk)):frz fz h (n+1) (qP L)=qP L:=rfl
theorem frz_colsV(L:List (List Int)):frz fz h (n+1) (qE L)=qE L:=rfl
theorem frz_rdsV(L:List Rd):frz fz h (n+1) (jo L)=jo L:=rfl
theorem frz_unsV(L:List Un):frz fz h (n+1) (zf L)=zf L:=rfl
theorem frz_wdsV(L:List Wd):frz fz h (n+1) (qZ L)=qZ L:=rfl
end
attribute [go_sem] flag_tksV strip_tksV flag_tkssV strip_tkssV flag_colsV strip_colsV flag_rdsV strip_rdsV flag_unsV strip_unsV flag_wdsV strip_wdsV rei_tksV rei_tkssV rei_colsV rei_rdsV rei_unsV rei_wdsV frz_tksV frz_tkssV frz_colsV frz_rdsV frz_unsV frz_wdsV
def qus(f:Int):Bool:=f.toNat.testBit 1
def mkB(f:Int):Bool:=f.toNat.testBit 3
def qwx(s:Str):Bool:=decide (s= [])||jp s
def qBA(s:Str):Bool:=decide (s.length=1)&&(decide (zG (ch s 0)=5)||decide (zG (ch s 0)=4))
def quB(c:UInt8):Bool:=decide (zG c=1)||(decide (zG c=3)||(decide (zG c=2)||decide (zG c=4)))
def qAo(s:Str):Bool:=decide (s≠ [])&&(decide (s.length≤64)&&(List.range s.length).all fun i=>quB (ch s i))
def txB(t:Tk):Bool:=if qus t.flags=true then qb6 t.text&&decide (t.norm=t.text) else if mkB t.flags=true then qBA t.text&&decide (t.norm=t.text) else qae t.text&&qAo t.norm
def tkE(t:Tk):Int:=
 if t.flags<0∨31<t.flags then 2 else if qus t.flags=true∧mkB t.flags=true then 8 else if txB t=false then 11 else if t.line<0 then 2 else if qwx t.page=false∨qwx t.name=false then 14 else 0
def qjj(l:List Tk):Int:=if 1024<l.length then 4 else if zd (fun j=>decide (tkE (l.getD j default)≠0)) l.length=true then 1 else 0
def srE(x:Co):Int:=
 if jp x.sec=false then 14 else if x.sig.length=0 then 5 else if 32<x.sig.length then 4 else if qaZ (jm x.sig) 0 x.sig.length≠0 then qaZ (jm x.sig) 0 x.sig.length else
  if x.tok.length≠x.sig.length then 9 else qaZ (fun i=>qjj (x.tok.getD i [])) 0 x.tok.length
def cnC(col:List (List Int))(s:Nat):Nat→Nat
 |0=>0
 |i+1=>cnC col s i+if (col.getD i []).getD s 0= -1 then 0 else 1
def enB(tok:List (List Tk))(col:List (List Int))(i s:Nat):Bool:=
 decide ((col.getD i []).getD s 0= -1)||(decide ((col.getD i []).getD s 0=(cnC col s i:Int))&&decide ((col.getD i []).getD s 0<((tok.getD s []).length:Int)))
def qfW(tok:List (List Tk))(col:List (List Int))(i:Nat):Bool:=
 decide ((col.getD i []).length=tok.length)&&(!zd (fun s=> !enB tok col i s) tok.length&&zd (fun s=> !decide ((col.getD i []).getD s 0= -1)) tok.length)
def alB(tok:List (List Tk))(col:List (List Int)):Bool:=
 !zd (fun i=> !qfW tok col i) col.length&& !zd (fun s=> !decide (cnC col s col.length=(tok.getD s []).length)) tok.length
def coE(x:Co):Int:=if srE x≠0 then srE x else if alB x.tok x.col=false then 19 else 0
structure CoOk (x:Co):Prop where
 sg:0<x.sig.length∧x.sig.length≤32
 tn:x.tok.length=x.sig.length
 tl: ∀s,s<x.tok.length→(x.tok.getD s []).length≤1024
 te: ∀s,s<x.tok.length→ ∀j,j<(x.tok.getD s []).length→tkE ((x.tok.getD s []).getD j default)=0
 cl: ∀i,i<x.col.length→(x.col.getD i []).length=x.sig.length
 ce: ∀i,i<x.col.length→ ∀s,s<x.sig.length→(x.col.getD i []).getD s 0= -1∨((x.col.getD i []).getD s 0=(cnC x.col s i:Int)∧(x.col.getD i []).getD s 0<((x.tok.getD s []).length:Int))
 cs: ∀i,i<x.col.length→ ∃s,s<x.sig.length∧(x.col.getD i []).getD s 0≠ -1
 ct: ∀s,s<x.sig.length→cnC x.col s x.col.length=(x.tok.getD s []).length
theorem qk9{x:Co}(h:coE x=0):CoOk x:=by
 unfold coE at h;split at h
 ·rename_i h1;exact absurd h h1
 rename_i h1;have h1:=Classical.not_not.1 h1;split at h
 ·cases h
 rename_i h2;unfold srE at h1;split at h1
 ·cases h1
 split at h1
 ·cases h1
 rename_i g2;split at h1
 ·cases h1
 rename_i g3;split at h1
 ·rename_i g4;exact absurd h1 g4
 split at h1
 ·cases h1
 rename_i g5;have g5:=Classical.not_not.1 g5;have h3:=jS.1 h1;have h2:alB x.tok x.col=true:=by simpa using h2
 unfold alB at h2;rw[Bool.and_eq_true,Bool.not_eq_true',Bool.not_eq_true',qo,qo]at h2;obtain⟨h4,h5⟩:=h2;have h6: ∀i,i<x.col.length→qfW x.tok x.col i=true:=fun i hi=>by simpa using h4 i hi
 have hrow: ∀s,s<x.tok.length→(x.tok.getD s []).length≤1024∧ ∀j,j<(x.tok.getD s []).length→tkE ((x.tok.getD s []).getD j default)=0:=fun s hs=>by
  have:=h3 s hs
  unfold qjj at this;split at this
  ·cases this
  rename_i k1;split at this
  ·cases this
  rename_i k2;refine⟨om,fun j hj=> ?_⟩
  have:=qo.1 (by simpa using k2) j hj
  simpa using this
 refine⟨om,g5,fun s hs=>(hrow s hs).1,fun s hs=>(hrow s hs).2,fun i hi=> ?_,fun i hi s hs=> ?_,fun i hi=> ?_,fun s hs=> ?_⟩
 ·have:=h6 i hi
  unfold qfW at this;rw[Bool.and_eq_true,decide_eq_true_iff]at this;omega
 ·have:=h6 i hi
  unfold qfW at this;rw[Bool.and_eq_true,Bool.and_eq_true,Bool.not_eq_true',qo]at this
  have:=this.2.1 s om
  have this:enB x.tok x.col i s=true:=by simpa using this
  unfold enB at this;simpa[Bool.or_eq_true,Bool.and_eq_true] using this
 ·have:=h6 i hi
  unfold qfW at this;rw[Bool.and_eq_true,Bool.and_eq_true]at this;obtain⟨s,hs,hv⟩:=qG.1 this.2.2;exact⟨s,om,by simpa using hv⟩
 ·have:=h5 s om
  simpa using this
def clT(x:Co)(k s:Nat):Option Str:=if (x.col.getD k []).getD s 0<0 then none else some ((x.tok.getD s []).getD ((x.col.getD k []).getD s 0).toNat default).text
def cmB(x:Co)(k:Nat):Bool:= !zd (fun s=>decide (clT x k s=none)|| !decide (clT x k s=clT x k 0)) x.sig.length
def rdG(x:Co)(s f:Nat):Nat→List Str
 |0=> []
 |d+1=>rdG x s f d++(clT x (f+d) s).toList
theorem qed(x:Co)(s f:Nat): ∀d,(rdG x s f d).length≤d:=by
 intro d
 induction d with
 |zero=>exact nlr _
 |succ d ih=>
  unfold rdG;rw[lap];cases clT x (f+d) s with
  |none=>simp only[Option.toList_none,lnl];omega
  |some w=>simp only[Option.toList_some,lco,lnl];omega
def qjB(L:List Rd)(w:List Str):Int:=j8 (fun j=>decide (w=(L.getD j default).words)) L.length 0
def qfC(L:List Rd)(w:List Str)(s:Nat):List Rd:=if qjB L w<0 then L++ [⟨w,[(s:Int)]⟩] else L.set (qjB L w).toNat ⟨w,(L.getD (qjB L w).toNat default).src++ [(s:Int)]⟩
def qbW(x:Co)(f d:Nat):Nat→List Rd
 |0=> []
 |s+1=>qfC (qbW x f d s) (rdG x s f d) s
def qiJ(x:Co)(f t:Nat):List Rd:=qbW x f (t-f) x.sig.length
theorem qou(L:List Rd)(w:List Str)(s:Nat):(qfC L w s).length≤L.length+1:=by
 unfold qfC;split
 ·simp
 ·rw[List.length_set];omega
theorem qhw(x:Co)(f d:Nat): ∀s,(qbW x f d s).length≤s:=by
 intro s
 induction s with
 |zero=>exact nlr _
 |succ s ih=>
  have:=qou (qbW x f d s) (rdG x s f d) s
  unfold qbW;omega
def unB(x:Co)(beh:Int)(u:Un):Bool:= !(decide (u.frm≤beh)||(decide (u.frm<0)||(decide (u.to≤u.frm)||(decide ((x.col.length:Int)<u.to)|| !decide (u.rds=qiJ x u.frm.toNat u.to.toNat)))))
def beH(l:List Un)(i:Nat):Int:=if i=0 then-1 else (l.getD (i-1) default).to
def qop(x:Co)(l:List Un):Bool:= !zd (fun i=> !unB x (beH l i) (l.getD i default)) l.length
def cvB(l:List Un)(k:Nat):Bool:=zd (fun i=>decide ((l.getD i default).frm≤k)&&decide ((k:Int)<(l.getD i default).to)) l.length
def cvA(x:Co)(l:List Un):Bool:= !zd (fun k=> !cvB l k&& !cmB x k) x.col.length
def rgB(x:Co)(l:List Un):Bool:=qop x l&&cvA x l
def vaE(x:Co)(l:List Un):Int:=if coE x≠0 then 1 else if rgB x l=false then 20 else 0
def nxt(p:Nat→Bool):Nat→Nat→Nat
 |0,k=>k
 |d+1,k=>if p k=true then k else nxt p d (k+1)
theorem qd3(p:Nat→Bool): ∀d k,k≤nxt p d k∧nxt p d k≤k+d∧(∀j,k≤j→j<nxt p d k→p j=false)∧(nxt p d k<k+d→p (nxt p d k)=true):=by
 intro d
 induction d with
 |zero=>intro k;exact⟨nlr _,nlr _,fun j h1 h2=>by unfold nxt at h2;omega,fun h=>by unfold nxt at h;omega⟩
 |succ d ih=>
  intro k;unfold nxt;split
  ·rename_i h;exact⟨nlr _,om,fun j h1 h2=>by omega,fun _=>h⟩
  ·rename_i h;obtain⟨h1,h2,h3,h4⟩:=ih (k+1);refine⟨om,om,fun j g1 g2=> ?_,fun g=>h4 om⟩
   by_cases e:j=k
   ·subst e;simpa using h
   ·exact h3 j om g2
def kR(p:Nat→Bool)(n:Nat):Nat→Nat→List (Nat×Nat)
 |0,_=> []
 |d+1,f=>if n≤f then [] else (if f<nxt p (n-f) f then [(f,nxt p (n-f) f)] else [])++kR p n d (nxt p (n-f) f+1)
def qgl(p:Nat→Bool)(n:Nat):List (Nat×Nat):=kR p n (n+1) 0
theorem qhB(p:Nat→Bool)(n:Nat): ∀d f,(∀r∈kR p n d f,f≤r.1∧r.1<r.2∧r.2≤n∧ ∀k,r.1≤k→k<r.2→p k=false)∧(n-f<d→ ∀k,f≤k→k<n→p k=false→ ∃r∈kR p n d f,r.1≤k∧k<r.2):=by
 intro d
 induction d with
 |zero=>intro f;exact⟨fun r hr=>absurd hr List.not_mem_nil,fun h=>absurd h (nnz _)⟩
 |succ d ih=>
  intro f;unfold kR;split
  ·rename_i h;exact⟨fun r hr=>absurd hr List.not_mem_nil,fun _ k h1 h2=>by omega⟩
  ·rename_i h;obtain⟨h1,h2,h3,h4⟩:=qd3 p (n-f) f;obtain⟨i1,i2⟩:=ih (nxt p (n-f) f+1);obtain⟨t,ht⟩: ∃t,t=nxt p (n-f) f:=⟨_,rfl⟩
   rw[←ht]at h1 h2 h3 h4 i1 i2 ⊢;refine⟨fun r hr=> ?_,fun hd k k1 k2 k3=> ?_⟩
   ·rcases List.mem_append.1 hr with hr|hr
    ·split at hr
     ·rename_i hft;rw[List.mem_singleton]at hr;subst hr;exact⟨nlr _,hft,by simp only;omega,h3⟩
     ·cases hr
    ·obtain⟨g1,g2⟩:=i1 r hr;exact⟨om,g2⟩
   ·by_cases hk:k<t
    ·refine⟨(f,t),List.mem_append_left _ ?_,k1,hk⟩;rw[ipo om];exact List.mem_singleton.2 rfl
    ·have hne:k≠t:=fun e=>by
      subst e;rw[h4 om]at k3;cases k3
     obtain⟨r,hr,g⟩:=i2 om k om k2 k3;exact⟨r,List.mem_append_right _ hr,g⟩
theorem qvk{p:Nat→Bool}{n:Nat}{r:Nat×Nat}(hr:r∈qgl p n):r.1<r.2∧r.2≤n∧ ∀k,r.1≤k→k<r.2→p k=false:=((qhB p n (n+1) 0).1 r hr).2
theorem qqL{p:Nat→Bool}{n k:Nat}(hk:k<n)(hp:p k=false): ∃r∈qgl p n,r.1≤k∧k<r.2:=(qhB p n (n+1) 0).2 om k (nzl _) hk hp
structure qDS (x:Co) (l:List Un):Prop where
 pw:l.Pairwise fun a b=>a.to<b.frm
 rg: ∀u∈l,0≤u.frm∧u.frm<u.to∧u.to≤x.col.length∧u.rds=qiJ x u.frm.toNat u.to.toNat
theorem qvD{x:Co}{beh:Int}{u:Un}:unB x beh u=true↔beh<u.frm∧0≤u.frm∧u.frm<u.to∧u.to≤x.col.length∧u.rds=qiJ x u.frm.toNat u.to.toNat:=by
 unfold unB;simp only[Bool.not_eq_true',Bool.or_eq_false_iff,decide_eq_false_iff_not,Bool.not_eq_false',decide_eq_true_eq];constructor
 ·rintro⟨h1,h2,h3,h4,h5⟩;exact⟨om,om,om,om,h5⟩
 ·rintro⟨h1,h2,h3,h4,h5⟩;exact⟨om,om,om,om,h5⟩
theorem qeo{x:Co}{l:List Un}(h:qop x l=true):qDS x l:=by
 unfold qop at h;rw[Bool.not_eq_true',qo]at h;have h1: ∀i,i<l.length→beH l i<(l.getD i default).frm∧0≤(l.getD i default).frm∧(l.getD i default).frm<(l.getD i default).to∧(l.getD i default).to≤x.col.length∧(l.getD i default).rds=qiJ x (l.getD i default).frm.toNat (l.getD i default).to.toNat:=fun i hi=>
  qvD.1 (by simpa using h i hi)
 have g: ∀i (hi:i<l.length),l.getD i default=l[i]:=fun i hi=>by rw[gdqA,zp hi];rfl
 refine⟨List.pairwise_iff_getElem.2 fun i j hi hj hij=> ?_,fun u hu=> ?_⟩
 ·have key: ∀d,i+1+d<l.length→(l.getD i default).to<(l.getD (i+1+d) default).frm:=by
   intro d
   induction d with
   |zero=>
    intro hd
    have:=(h1 (i+1) hd).1
    unfold beH at this;rw[ine om,Nat.add_sub_cancel]at this;exact this
   |succ d ih=>
    intro hd;have h2:=ih om;have h3:=(h1 (i+1+d) om).2.2.1;have h4:=(h1 (i+1+d+1) om).1;unfold beH at h4;rw[ine om,Nat.add_sub_cancel]at h4;rw[←Nat.add_assoc];omega
  have:=key (j-(i+1)) om
  rw[show i+1+(j-(i+1))=j by omega,g i hi,g j hj]at this;exact this
 ·obtain⟨i,hi,rfl⟩:=List.getElem_of_mem hu
  have:=(h1 i hi).2
  rw[g i hi]at this;exact this
theorem qlb{l:List Un}{k:Nat}:cvB l k=true↔ ∃u∈l,u.frm≤k∧(k:Int)<u.to:=by
 unfold cvB;rw[qG];constructor
 ·rintro⟨i,hi,h⟩;rw[gdqA,zp hi,Bool.and_eq_true,decide_eq_true_iff,decide_eq_true_iff]at h;exact⟨_,List.getElem_mem hi,h⟩
 ·rintro⟨u,hu,h⟩;obtain⟨i,hi,rfl⟩:=List.getElem_of_mem hu;refine⟨i,hi,?_⟩;rw[gdqA,zp hi,Bool.and_eq_true,decide_eq_true_iff,decide_eq_true_iff];exact h
def rnB(l:List Un)(r:Nat×Nat):Bool:=zd (fun i=>decide ((l.getD i default).frm≤r.1)&&decide ((r.2:Int)≤(l.getD i default).to)) l.length
theorem qm5{l:List Un}{r:Nat×Nat}:rnB l r=true↔ ∃u∈l,u.frm≤r.1∧(r.2:Int)≤u.to:=by
 unfold rnB;rw[qG];constructor
 ·rintro⟨i,hi,h⟩;rw[gdqA,zp hi,Bool.and_eq_true,decide_eq_true_iff,decide_eq_true_iff]at h;exact⟨_,List.getElem_mem hi,h⟩
 ·rintro⟨u,hu,h⟩;obtain⟨i,hi,rfl⟩:=List.getElem_of_mem hu;refine⟨i,hi,?_⟩;rw[gdqA,zp hi,Bool.and_eq_true,decide_eq_true_iff,decide_eq_true_iff];exact h
theorem qp1{α:Type}{L:List α}{R:α→α→Prop}(h:L.Pairwise R){a b:α}(ha:a∈L)(hb:b∈L)(hne:a≠b):R a b∨R b a:=by
 induction L with
 |nil=>cases ha
 |cons c r ih=>
  obtain⟨h1,h2⟩:=List.pairwise_cons.1 h;rcases List.mem_cons.1 ha with ea|na
  ·rcases List.mem_cons.1 hb with eb|nb
   ·exact absurd (ea.trans eb.symm) hne
   ·rw[ea];exact .inl (h1 b nb)
  ·rcases List.mem_cons.1 hb with eb|nb
   ·rw[eb];exact .inr (h1 a na)
   ·exact ih h2 na nb
theorem qtU{x:Co}{l:List Un}(h:qop x l=true):((qgl (cmB x) x.col.length).all (rnB l)=true)↔cvA x l=true:=by
 have ho:=qeo h;unfold cvA;rw[List.all_eq_true,Bool.not_eq_true',qo];constructor
 ·intro hr k hk;cases hc:cmB x k with
  |true=>simp
  |false=>
   obtain⟨r,hr1,r1,r2⟩:=qqL hk hc;obtain⟨u,hu,u1,u2⟩:=qm5.1 (hr r hr1);rw[qlb.2 ⟨u,hu,om,om⟩];rfl
 ·intro hk r hr;obtain⟨r1,r2,r3⟩:=qvk hr;have cov: ∀k,r.1≤k→k<r.2→ ∃u∈l,u.frm≤(k:Int)∧(k:Int)<u.to:=fun k h1 h2=>by
   have h3:=hk k om;rw[r3 k h1 h2,Bool.not_false,Bool.and_true,Bool.not_eq_false']at h3;exact qlb.1 h3
  obtain⟨u,hu,u1,u2⟩:=cov r.1 (nlr _) r1;refine qm5.2 ⟨u,hu,u1,?_⟩
  by_cases ht:(r.2:Int)≤u.to
  ·exact ht
  ·exfalso;have hur:=ho.rg u hu;obtain⟨k,hk2⟩: ∃k:Nat,u.to=(k:Int):=⟨u.to.toNat,om⟩
   obtain⟨v,hv,v1,v2⟩:=cov k om om;have hvr:=ho.rg v hv
   by_cases e:u=v
   ·subst e;omega
   ·rcases qp1 ho.pw hu hv e with h1|h1
    ·omega
    ·omega
def fnU(l:List Un)(c:Int):Int:=j8 (fun i=>decide ((l.getD i default).frm≤c)&&decide (c<(l.getD i default).to)) l.length 0
theorem qsh{l:List Un}{c:Int}{k:Nat}(h:fnU l c=k):k<l.length∧(l.getD k default).frm≤c∧c<(l.getD k default).to:=by
 unfold fnU at h;rcases zy (fun i=>decide ((l.getD i default).frm≤c)&&decide (c<(l.getD i default).to)) l.length with⟨i,h1,h2,_,h4⟩|⟨_,h2⟩
 ·rw[h4]at h;have e:i=k:=by omega
  subst e;rw[Bool.and_eq_true,decide_eq_true_iff,decide_eq_true_iff]at h2;exact⟨h1,h2⟩
 ·rw[h2]at h;omega
theorem qsi{l:List Un}{c:Int}(h:fnU l c<0){i:Nat}(hi:i<l.length): ¬((l.getD i default).frm≤c∧c<(l.getD i default).to):=by
 unfold fnU at h;rcases zy (fun i=>decide ((l.getD i default).frm≤c)&&decide (c<(l.getD i default).to)) l.length with⟨j,_,_,_,h4⟩|⟨h1,_⟩
 ·rw[h4]at h;omega
 ·have:=h1 i hi
  rw[Bool.and_eq_false_iff,decide_eq_false_iff_not,decide_eq_false_iff_not]at this;omega
theorem qzU{x:Co}{l:List Un}(h:qop x l=true){c:Int}{k:Nat}(hk:k<l.length)(h1:(l.getD k default).frm≤c)(h2:c<(l.getD k default).to):fnU l c=k:=by
 have ho:=qeo h;rcases Int.lt_or_le (fnU l c) 0 with hn|hn
 ·exact absurd ⟨h1,h2⟩ (qsi hn hk)
 ·obtain⟨j,hj⟩: ∃j:Nat,fnU l c=j:=⟨(fnU l c).toNat,om⟩
  obtain⟨j1,j2,j3⟩:=qsh hj;rw[hj];have g: ∀i (hi:i<l.length),l.getD i default=l[i]:=fun i hi=>by rw[gdqA,zp hi];rfl
  rw[g k hk]at h1 h2;rw[g j j1]at j2 j3;rcases Nat.lt_trichotomy j k with e|e|e
  ·have:=List.pairwise_iff_getElem.1 ho.pw j k j1 hk e;omega
  ·omega
  ·have:=List.pairwise_iff_getElem.1 ho.pw k j hk j1 e;omega
def wdE(x:Co)(l:List Un)(w bef:Wd)(first:Bool):Int:=
 if w.text= []∨64<w.text.length then 11 else if w.col<0∨(x.col.length:Int)≤w.col∨(first=false∧w.col<bef.col) then 19 else if w.unit< -1∨(l.length:Int)≤w.unit then 20 else
  if fnU l w.col≠w.unit then 20 else if w.dec< -1∨(w.unit<0∧w.dec≠ -1)∨(first=false∧0≤w.unit∧w.unit=bef.unit∧w.dec≠bef.dec) then 2 else 0
def qjK(b:List Wd)(i:Nat):Wd:=if i=0 then default else b.getD (i-1) default
def qoq(x:Co)(l:List Un)(b:List Wd)(i:Nat):Int:=wdE x l (b.getD i default) (qjK b i) (decide (i=0))
def cW(b:List Wd)(c:Int):Nat→Nat
 |0=>0
 |i+1=>cW b c i+if (b.getD i default).col=c then 1 else 0
def txA(x:Co)(c:Nat):Str:=((x.tok.getD 0 []).getD ((x.col.getD c []).getD 0 0).toNat default).text
def ccB(x:Co)(b:List Wd)(c:Nat):Bool:=decide (cW b c b.length=1)&&zd (fun i=>decide ((b.getD i default).col=c)&&decide ((b.getD i default).text=txA x c)) b.length
def qB2(x:Co)(l:List Un)(b:List Wd)(c:Nat):Int:=if 0≤fnU l c then 0 else if ccB x b c=true then 0 else 9
def pvE(x:Co)(l:List Un)(b:List Wd):Int:=
 if vaE x l≠0 then vaE x l else if qaZ (qoq x l b) 0 b.length≠0 then qaZ (qoq x l b) 0 b.length else qaZ (qB2 x l b) 0 x.col.length
structure qwH (x:Co) (l:List Un) (b:List Wd):Prop where
 co:coE x=0
 un:qop x l=true
 cv:cvA x l=true
 tx: ∀i,i<b.length→(b.getD i default).text≠ []∧(b.getD i default).text.length≤64
 cl: ∀i,i<b.length→0≤(b.getD i default).col∧(b.getD i default).col<x.col.length
 ord: ∀i,i+1<b.length→(b.getD i default).col≤(b.getD (i+1) default).col
 un2: ∀i,i<b.length→fnU l (b.getD i default).col=(b.getD i default).unit
 cc: ∀c,c<x.col.length→fnU l c<0→ccB x b c=true
theorem qAC{x:Co}{l:List Un}{b:List Wd}(h:pvE x l b=0):qwH x l b:=by
 unfold pvE at h;split at h
 ·rename_i h1;exact absurd h h1
 rename_i h1;have h1:=Classical.not_not.1 h1;split at h
 ·rename_i h2;exact absurd h h2
 rename_i h2;have h2:=jS.1 (Classical.not_not.1 h2);have h3:=jS.1 h;unfold vaE at h1;split at h1
 ·cases h1
 rename_i g1;split at h1
 ·cases h1
 rename_i g2;have g2:rgB x l=true:=by simpa using g2
 unfold rgB at g2;rw[Bool.and_eq_true]at g2;have hw: ∀i,i<b.length→((b.getD i default).text≠ []∧(b.getD i default).text.length≤64)∧(0≤(b.getD i default).col∧(b.getD i default).col<x.col.length)∧(0<i→(qjK b i).col≤(b.getD i default).col)∧fnU l (b.getD i default).col=(b.getD i default).unit:=fun i hi=>by
  have:=h2 i hi
  unfold qoq wdE at this;split at this
  ·cases this
  rename_i k1;split at this
  ·cases this
  rename_i k2;split at this
  ·cases this
  split at this
  ·cases this
  rename_i k4;refine⟨⟨fun e=>k1 (.inl e),Nat.le_of_not_lt fun e=>k1 (.inr e)⟩,⟨om,om⟩,fun h0=> ?_,Classical.not_not.1 k4⟩;refine Int.not_lt.1 fun hc=>k2 (.inr (.inr ⟨dqf om,hc⟩))
 refine⟨Classical.not_not.1 g1,g2.1,g2.2,fun i hi=>(hw i hi).1,fun i hi=>(hw i hi).2.1,fun i hi=> ?_,fun i hi=>(hw i hi).2.2.2,fun c hc hn=> ?_⟩
 ·have:=(hw (i+1) hi).2.2.1 om
  unfold qjK at this;rw[ine om,Nat.add_sub_cancel]at this;exact this
 ·have:=h3 c hc
  unfold qB2 at this;rw[ine om]at this;split at this
  ·assumption
  ·cases this
def cP(p:Nat→Bool):Nat→Nat
 |0=>0
 |i+1=>cP p i+if p i=true then 1 else 0
theorem qoT(p:Nat→Bool): ∀n,cP p n≤n:=by
 intro n
 induction n with
 |zero=>exact nlr _
 |succ n ih=>unfold cP;split<;>omega
theorem qxZ{p:Nat→Bool}: ∀ {n:Nat},(∀i,i<n→p i=true)→cP p n=n:=by
 intro n
 induction n with
 |zero=>intro _;rfl
 |succ n ih=>intro h;unfold cP;rw[ih fun i hi=>h i om,ipo (h n om)]
theorem qx1{p:Nat→Bool}: ∀ {n:Nat},(∀i,i+1<n→p (i+1)=true→p i=true)→ ∀i,i<n→(p i=true↔i<cP p n):=by
 intro n
 induction n with
 |zero=>intro _ i h;exact absurd h (nnz i)
 |succ n ih=>
  intro hm i hi;have h0:=ih fun j hj=>hm j om
  unfold cP;cases hn:p n with
  |true=>
   rw[ipo rfl];have hall: ∀d,d≤n→p (n-d)=true:=by
    intro d
    induction d with
    |zero=>intro _;exact hn
    |succ d ihd=>
     intro hd;refine hm (n-(d+1)) om ?_;rw[show n-(d+1)+1=n-d by omega];exact ihd om
   have hp: ∀j,j≤n→p j=true:=fun j hj=>by
    have:=hall (n-j) om
    rwa [show n-(n-j)=j by omega]at this
   rw[qxZ fun j hj=>hp j om,hp i om];exact⟨fun _=>by omega,fun _=>rfl⟩
  |false=>
   rw[ine (by simp),Nat.add_zero]
   by_cases e:i=n
   ·subst e
    have:=qoT p i
    rw[hn];exact⟨fun h=>absurd h (by simp),fun h=>by omega⟩
   ·exact h0 i om
theorem qx0{q:Nat→Bool}{F G:Nat}(hFG:F≤G): ∀ {n:Nat},(∀i,i<n→(q i=true↔F≤i∧i<G))→cP q n=min n G-min n F:=by
 intro n
 induction n with
 |zero=>intro _;simp[cP]
 |succ n ih=>
  intro h;unfold cP;rw[ih fun i hi=>h i om];have hn:=h n om;split
  ·rename_i hq
   have:=hn.1 hq
   omega
  ·rename_i hq
   have: ¬(F≤n∧n<G):=fun hc=>hq (hn.2 hc)
   omega
theorem quw{q:Nat→Bool}{F G n:Nat}(hGn:G≤n)(h: ∀i,i<n→(q i=true↔F≤i∧i<G)):j8 q n 0=if F<G then (F:Int) else-1:=by
 split
 ·rename_i hl;exact kg om (fun j hj=>by
   cases hq:q j with
   |false=>rfl
   |true=>have:=(h j om).1 hq;omega) ((h F om).2 ⟨nlr _,hl⟩)
 ·rename_i hl;refine kA fun j hj=> ?_
  cases hq:q j with
  |false=>rfl
  |true=>have:=(h j hj).1 hq;omega
def qc0(q:Nat→Bool)(n f:Nat):Nat:=nxt (fun i=> !q i) (n-f) f
theorem qeG(q:Nat→Bool){n f:Nat}(hf:f≤n):f≤qc0 q n f∧qc0 q n f≤n∧(∀j,f≤j→j<qc0 q n f→q j=true)∧(qc0 q n f<n→q (qc0 q n f)=false):=by
 obtain⟨h1,h2,h3,h4⟩:=qd3 (fun i=> !q i) (n-f) f;refine⟨h1,by unfold qc0;omega,fun j g1 g2=>by simpa using h3 j g1 g2,fun g=> ?_⟩
 have:=h4 (by unfold qc0 at g;omega)
 simpa[qc0] using this
def qoG(q:Nat→Bool)(n f:Nat):Bool:=zd (fun i=>decide (qc0 q n f≤i)&&q i) n
def qgw(q:Nat→Bool)(n:Nat):Int:=if j8 q n 0<0 then 6 else if qoG q n (j8 q n 0).toNat=true then 10 else 0
def qq2(q:Nat→Bool)(n:Nat):Int:=if qgw q n=0 then j8 q n 0 else 0
def qq3(q:Nat→Bool)(n:Nat):Int:=if qgw q n=0 then (qc0 q n (j8 q n 0).toNat:Int) else 0
theorem qgZ{q:Nat→Bool}{f t:Nat}(hft:f≤t)(h0: ∀i,i<f→q i=false)(h1: ∀i,f≤i→i<t→q i=true): ∀ {n:Nat},t≤n→cP q n=t-f+(cP q n-cP q t)∧cP q t=t-f∧(cP q n=cP q t↔ ∀i,t≤i→i<n→q i=false):=by
 have hz: ∀j,j≤f→cP q j=0:=by
  intro j
  induction j with
  |zero=>intro _;rfl
  |succ j ih=>intro hj;unfold cP;rw[ih om,h0 j om,ine (by simp)]
 have ht: ∀j,f≤j→j≤t→cP q j=j-f:=by
  intro j
  induction j with
  |zero=>intro a _;simp[cP]
  |succ j ih=>
   intro a b
   by_cases e:f=j+1
   ·rw[hz (j+1) om];omega
   ·unfold cP;rw[ih om om,h1 j om om,ipo rfl];omega
 have hm: ∀d,cP q t≤cP q (t+d)∧(cP q (t+d)=cP q t↔ ∀i,t≤i→i<t+d→q i=false):=by
  intro d
  induction d with
  |zero=>exact⟨nlr _,fun _ i a b=>by omega,fun _=>rfl⟩
  |succ d ih=>
   obtain⟨i1,i2⟩:=ih;have e:cP q (t+(d+1))=cP q (t+d)+if q (t+d)=true then 1 else 0:=rfl
   rw[e];cases hq:q (t+d)with
   |true=>
    rw[ipo rfl];refine⟨om,fun h=>by omega,fun h=> ?_⟩
    have:=h (t+d) om om
    rw[hq]at this;cases this
   |false=>
    rw[ine (by simp),Nat.add_zero];refine⟨i1,fun h i a b=> ?_,fun h=>i2.2 fun i a b=>h i a om⟩
    by_cases e':i=t+d
    ·subst e';exact hq
    ·exact i2.1 h i a om
 intro n hn;obtain⟨a,b⟩:=hm (n-t);rw[show t+(n-t)=n by omega]at a b
 have:=ht t hft (nlr _)
 exact⟨om,this,b⟩
theorem qvw{q:Nat→Bool}{n f:Nat}(hf:f<n)(h0: ∀i,i<f→q i=false)(hq:q f=true):
  qoG q n f=zd (fun i=>decide (f≤i)&&(decide (i<f+cP q n)&& !q i)) n∧(qoG q n f=false→f+cP q n=qc0 q n f):=by
 obtain⟨b1,b2,b3,b4⟩:=qeG q (n:=n) (f:=f) om;obtain⟨c1,c2,c3⟩:=qgZ b1 h0 b3 b2;cases hb:qoG q n f with
 |false=>
  have hn: ∀i,qc0 q n f≤i→i<n→q i=false:=fun i h1 h2=>by
   have:=qo.1 hb i h2
   rw[dqt h1,Bool.true_and]at this;exact this
  have e:=c3.2 hn;refine⟨(qo.2 fun i hi=> ?_).symm,fun _=>by omega⟩
  by_cases g:f≤i∧i<f+cP q n
  ·rw[b3 i g.1 om];simp
  ·by_cases g1:f≤i
   ·rw[dqf (show¬i<f+cP q n by omega)];simp
   ·rw[dqf g1];simp
 |true=>
  refine⟨(qG.2 ?_).symm,fun h=>by cases h⟩;obtain⟨i,hi,hv⟩:=qG.1 hb;rw[Bool.and_eq_true,decide_eq_true_iff]at hv;have hne:cP q n≠cP q (qc0 q n f):=fun e=>by
   have:=c3.1 e i hv.1 hi
   rw[hv.2]at this;cases this
  have hle:cP q (qc0 q n f)≤cP q n:=by omega
  have hlt:qc0 q n f<n:=by omega
  exact⟨qc0 q n f,hlt,by rw[b4 hlt,dqt b1,dqt (show qc0 q n f<f+cP q n by omega)];rfl⟩
def inU(b:List Wd)(k:Int)(i:Nat):Bool:=decide ((b.getD i default).unit=k)
def bfU(b:List Wd)(c:Int)(i:Nat):Bool:=decide ((b.getD i default).col<c)
theorem qhF{x:Co}{l:List Un}{b:List Wd}(h:qwH x l b){k:Nat}(hk:k<l.length):
  ∃F G,F≤G∧G≤b.length∧(∀i,i<b.length→(bfU b (l.getD k default).frm i=true↔i<F))∧(∀i,i<b.length→(inU b k i=true↔F≤i∧i<G))∧cP (bfU b (l.getD k default).frm) b.length=F∧cP (inU b k) b.length=G-F:=by
 obtain⟨u,hu⟩: ∃u,u=l.getD k default:=⟨_,rfl⟩
 have hur:=(qeo h.un).rg u (by rw[hu,gdqA,zp hk];exact List.getElem_mem hk);have hpre: ∀c,∀i,i<b.length→(bfU b c i=true↔i<cP (bfU b c) b.length):=fun c=>qx1 fun i hi hp=>by
  have:=h.ord i hi
  unfold bfU at hp ⊢;rw[decide_eq_true_iff]at hp ⊢;omega
 have h1:=hpre u.frm;have h2:=hpre u.to;have hq: ∀i,i<b.length→(inU b k i=true↔cP (bfU b u.frm) b.length≤i∧i<cP (bfU b u.to) b.length):=fun i hi=>by
  have g1:=h1 i hi;have g2:=h2 i hi;unfold bfU at g1 g2;rw[decide_eq_true_iff]at g1 g2;unfold inU;rw[decide_eq_true_iff];constructor
  ·intro e;obtain⟨_,k2,k3⟩:=qsh (show fnU l (b.getD i default).col=k by rw[h.un2 i hi,e]);rw[←hu]at k2 k3;exact⟨Nat.le_of_not_lt fun hc=>absurd (g1.2 hc) om,g2.1 k3⟩
  ·rintro⟨e1,e2⟩;have k2:u.frm≤(b.getD i default).col:=Int.not_lt.1 fun hc=>by have:=g1.1 hc;exact absurd this (Nat.not_lt.2 e1)
   have k3:=g2.2 e2;rw[←h.un2 i hi];exact qzU h.un hk (by rw[←hu];exact k2) (by rw[←hu];exact k3)
 have hle:cP (bfU b u.frm) b.length≤cP (bfU b u.to) b.length:=by
  rcases Nat.lt_or_ge (cP (bfU b u.to) b.length) (cP (bfU b u.frm) b.length)with hlt|hge
  ·have hi:cP (bfU b u.to) b.length<b.length:=by have:=qoT (bfU b u.frm) b.length;omega
   have g1:=(h1 _ hi).2 hlt;have g2: ¬_:=fun hc=>absurd ((h2 _ hi).1 hc) (Nat.lt_irrefl _)
   unfold bfU at g1 g2;rw[decide_eq_true_iff]at g1 g2;omega
  ·exact hge
 have hGn:=qoT (bfU b u.to) b.length;refine⟨cP (bfU b u.frm) b.length,cP (bfU b u.to) b.length,hle,hGn,by rw[←hu];exact h1,hq,by rw[←hu],?_⟩;rw[qx0 hle hq];omega
end RC
end
