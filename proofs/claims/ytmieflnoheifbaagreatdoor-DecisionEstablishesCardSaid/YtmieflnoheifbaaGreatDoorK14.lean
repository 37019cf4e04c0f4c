import Derived.Test.YtmieflnoheifbaaGreatDoorK13
import Derived.Test.YtmieflnoheifbaaGreatDoorK3
import Derived.Test.YtmieflnoheifbaaGreatDoorK5
import Derived.Test.YtmieflnoheifbaaGreatDoorK8
import Derived.Test.YtmieflnoheifbaaGreatDoorProg
import Derived.Test.YtmieflnoheifbaaGreatDoorK12
import Derived.Test.YtmieflnoheifbaaGreatDoorK11
set_option linter.all false
set_option maxHeartbeats 128000000
set_option maxRecDepth 100000
section
open Go Go.Proofs AF HY LN
namespace RC
section
variable {h : wh} {a b c va : Nat}
theorem qal(t:T3 h a b c)(q:Br)(l:wh):brO (h++l) a b c va q=brO h a b c va q++l:=qu7 t
theorem qkb{f:FuncId}{args:wi}{r:AV}{q q':Br}(hc: ∀h,T3 h a b c->ACalls Tryz.prog f args (brO h a b c va q) r (brO h a b c va q'))(t:T3 h a b c)(l:wh):ACalls Tryz.prog f args (brO h a b c va q++l) r (brO h a b c va q'++l):=by
 have:=hc (h++l) (t.app l)
 rwa [qal t,qal t]at this
structure qB8 (q:Br):Prop where
 op:q.opn=true->0<q.out.length∧((q.out.getD (q.out.length-1) default).flags=0∨(q.out.getD (q.out.length-1) default).flags=16)
 cl:q.opn=false->q.word= []
 n:q.out.length<=900000
 w:q.word.length<=900000
theorem qv5(q:Br):(if q.ad=true then AV.op a va 1 else .nilp)= .nilp∨(if q.ad=true then AV.op a va 1 else .nilp)= .op a va 1:=by
 split
 ·exact .inr rfl
 ·exact .inl rfl
theorem qfa{α:Type}{L:List α}{k:Nat}{x:α}(h:L[k]? =some x):L.take k++ [x]++L.drop (k+1)=L:=by
 obtain⟨h1,h2⟩:=lgs.1 h;rw[List.append_assoc,List.singleton_append,<-h2,<-List.drop_eq_getElem_cons h1,List.take_append_drop]
theorem qEz(t:T3 h a b c)(q:Br)(x:UInt8)(l:wh)(hw:q.word.length<=1000000):ACalls Tryz.prog 377 [.op a va 1,.int .u8 (x.toNat:Int)] (brO h a b c va q++l) .nilif (brO h a b c va (q.wb x)++l):=by
 have ta:=t.la;have tb:=t.lb;have tc:=t.lc;have zga: ∀ {X Y Z l},qu (a) (tri h a b c X Y Z++l)=some X:=UG (t);have yga: ∀ {X Y Z},qu (a) (tri h a b c X Y Z)=some X:=λ{X Y Z}=>by have:=zga (X:=X) (Y:=Y) (Z:=Z) (l:= []);simpa only[lan] using this
 have zgb: ∀ {X Y Z l},qu (b) (tri h a b c X Y Z++l)=some Y:=U0 (t);have ygb: ∀ {X Y Z},qu (b) (tri h a b c X Y Z)=some Y:=λ{X Y Z}=>by have:=zgb (X:=X) (Y:=Y) (Z:=Z) (l:= []);simpa only[lan] using this
 have zgc: ∀ {X Y Z l},qu (c) (tri h a b c X Y Z++l)=some Z:=UH (t);have ygc: ∀ {X Y Z},qu (c) (tri h a b c X Y Z)=some Z:=λ{X Y Z}=>by have:=zgc (X:=X) (Y:=Y) (Z:=Z) (l:= []);simpa only[lan] using this
 have zsa: ∀ {X Y Z o l},qt (a) (tri h a b c X Y Z++l) o=tri h a b c o Y Z++l:=U1 (t);have ysa: ∀ {X Y Z o},qt (a) (tri h a b c X Y Z) o=tri h a b c o Y Z:=λ{X Y Z o}=>by have:=zsa (X:=X) (Y:=Y) (Z:=Z) (o:=o) (l:= []);simpa only[lan] using this
 have zsb: ∀ {X Y Z o l},qt (b) (tri h a b c X Y Z++l) o=tri h a b c X o Z++l:=qaj (t);have ysb: ∀ {X Y Z o},qt (b) (tri h a b c X Y Z) o=tri h a b c X o Z:=λ{X Y Z o}=>by have:=zsb (X:=X) (Y:=Y) (Z:=Z) (o:=o) (l:= []);simpa only[lan] using this
 have zsc: ∀ {X Y Z o l},qt (c) (tri h a b c X Y Z++l) o=tri h a b c X Y o++l:=qak (t);have ysc: ∀ {X Y Z o},qt (c) (tri h a b c X Y Z) o=tri h a b c X Y o:=λ{X Y Z o}=>by have:=zsc (X:=X) (Y:=Y) (Z:=Z) (o:=o) (l:= []);simpa only[lan] using this
 have zca: ∀ {X Y Z v l},cellsOf (tri h a b c X Y Z++l) (a) v=qw (some X) v:=qa4 (t);have yca: ∀ {X Y Z v},cellsOf (tri h a b c X Y Z) (a) v=qw (some X) v:=λ{X Y Z v}=>by have:=zca (X:=X) (Y:=Y) (Z:=Z) (v:=v) (l:= []);simpa only[lan] using this
 have zcb: ∀ {X Y Z v l},cellsOf (tri h a b c X Y Z++l) (b) v=qw (some Y) v:=qa5 (t);have ycb: ∀ {X Y Z v},cellsOf (tri h a b c X Y Z) (b) v=qw (some Y) v:=λ{X Y Z v}=>by have:=zcb (X:=X) (Y:=Y) (Z:=Z) (v:=v) (l:= []);simpa only[lan] using this
 have zcc: ∀ {X Y Z v l},cellsOf (tri h a b c X Y Z++l) (c) v=qw (some Z) v:=qa6 (t);have ycc: ∀ {X Y Z v},cellsOf (tri h a b c X Y Z) (c) v=qw (some Z) v:=λ{X Y Z v}=>by have:=zcc (X:=X) (Y:=Y) (Z:=Z) (v:=v) (l:= []);simpa only[lan] using this
 have zla: ∀ {X Y Z v l},qH (tri h a b c X Y Z++l) (a) v=qJ (some X) v:=qa7 (t);have yla: ∀ {X Y Z v},qH (tri h a b c X Y Z) (a) v=qJ (some X) v:=λ{X Y Z v}=>by have:=zla (X:=X) (Y:=Y) (Z:=Z) (v:=v) (l:= []);simpa only[lan] using this
 have zlb: ∀ {X Y Z v l},qH (tri h a b c X Y Z++l) (b) v=qJ (some Y) v:=qa8 (t);have ylb: ∀ {X Y Z v},qH (tri h a b c X Y Z) (b) v=qJ (some Y) v:=λ{X Y Z v}=>by have:=zlb (X:=X) (Y:=Y) (Z:=Z) (v:=v) (l:= []);simpa only[lan] using this
 have zlc: ∀ {X Y Z v l},qH (tri h a b c X Y Z++l) (c) v=qJ (some Z) v:=qa9 (t);have ylc: ∀ {X Y Z v},qH (tri h a b c X Y Z) (c) v=qJ (some Z) v:=λ{X Y Z v}=>by have:=zlc (X:=X) (Y:=Y) (Z:=Z) (v:=v) (l:= []);simpa only[lan] using this
 have:=qGM a va c q.vw (.osl b q.vo 6 0 q.out.length) (.bool q.opn) (.bool q.jn) (.bool false) (if q.ad=true then .op a va 1 else .nilp) q.word x (brO h a b c va q++l) (by rw[lap,qds];simp[qV];omega) rfl rfl rfl (λe=>t.ac e.symm) zga (qv5 q) zgc om
 have e:qt c (qt a (brO h a b c va q++l) (.mem va 343 [.osl b q.vo 6 0 q.out.length,.op a va 1,.osl c (q.vw+1) 1 0 (q.word.length+1),.bool q.opn,.bool q.jn,.bool false])) (qcG (q.vw+1) (q.word++ [x]))=brO h a b c va (q.wb x)++l:=by
  unfold brO;rw[zsa,zsc];unfold brX brY Br.wb;simp
 rw[e]at this;exact this
theorem qCv(t:T3 h a b c)(q:Br)(x:UInt8)(hq:qB8 q):ACalls Tryz.prog 344 [.op a va 0,.agg (atC 1 x)] (brO h a b c va q) (.tup []) (brO h a b c va (q.pt x)):=by
 have ta:=t.la;have tb:=t.lb;have tc:=t.lc;have hn:=hq.n;have hw:=hq.w;have zga: ∀ {X Y Z l},qu (a) (tri h a b c X Y Z++l)=some X:=UG (t);have yga: ∀ {X Y Z},qu (a) (tri h a b c X Y Z)=some X:=λ{X Y Z}=>by have:=zga (X:=X) (Y:=Y) (Z:=Z) (l:= []);simpa only[lan] using this
 have zgb: ∀ {X Y Z l},qu (b) (tri h a b c X Y Z++l)=some Y:=U0 (t);have ygb: ∀ {X Y Z},qu (b) (tri h a b c X Y Z)=some Y:=λ{X Y Z}=>by have:=zgb (X:=X) (Y:=Y) (Z:=Z) (l:= []);simpa only[lan] using this
 have zgc: ∀ {X Y Z l},qu (c) (tri h a b c X Y Z++l)=some Z:=UH (t);have ygc: ∀ {X Y Z},qu (c) (tri h a b c X Y Z)=some Z:=λ{X Y Z}=>by have:=zgc (X:=X) (Y:=Y) (Z:=Z) (l:= []);simpa only[lan] using this
 have zsa: ∀ {X Y Z o l},qt (a) (tri h a b c X Y Z++l) o=tri h a b c o Y Z++l:=U1 (t);have ysa: ∀ {X Y Z o},qt (a) (tri h a b c X Y Z) o=tri h a b c o Y Z:=λ{X Y Z o}=>by have:=zsa (X:=X) (Y:=Y) (Z:=Z) (o:=o) (l:= []);simpa only[lan] using this
 have zsb: ∀ {X Y Z o l},qt (b) (tri h a b c X Y Z++l) o=tri h a b c X o Z++l:=qaj (t);have ysb: ∀ {X Y Z o},qt (b) (tri h a b c X Y Z) o=tri h a b c X o Z:=λ{X Y Z o}=>by have:=zsb (X:=X) (Y:=Y) (Z:=Z) (o:=o) (l:= []);simpa only[lan] using this
 have zsc: ∀ {X Y Z o l},qt (c) (tri h a b c X Y Z++l) o=tri h a b c X Y o++l:=qak (t);have ysc: ∀ {X Y Z o},qt (c) (tri h a b c X Y Z) o=tri h a b c X Y o:=λ{X Y Z o}=>by have:=zsc (X:=X) (Y:=Y) (Z:=Z) (o:=o) (l:= []);simpa only[lan] using this
 have zca: ∀ {X Y Z v l},cellsOf (tri h a b c X Y Z++l) (a) v=qw (some X) v:=qa4 (t);have yca: ∀ {X Y Z v},cellsOf (tri h a b c X Y Z) (a) v=qw (some X) v:=λ{X Y Z v}=>by have:=zca (X:=X) (Y:=Y) (Z:=Z) (v:=v) (l:= []);simpa only[lan] using this
 have zcb: ∀ {X Y Z v l},cellsOf (tri h a b c X Y Z++l) (b) v=qw (some Y) v:=qa5 (t);have ycb: ∀ {X Y Z v},cellsOf (tri h a b c X Y Z) (b) v=qw (some Y) v:=λ{X Y Z v}=>by have:=zcb (X:=X) (Y:=Y) (Z:=Z) (v:=v) (l:= []);simpa only[lan] using this
 have zcc: ∀ {X Y Z v l},cellsOf (tri h a b c X Y Z++l) (c) v=qw (some Z) v:=qa6 (t);have ycc: ∀ {X Y Z v},cellsOf (tri h a b c X Y Z) (c) v=qw (some Z) v:=λ{X Y Z v}=>by have:=zcc (X:=X) (Y:=Y) (Z:=Z) (v:=v) (l:= []);simpa only[lan] using this
 have zla: ∀ {X Y Z v l},qH (tri h a b c X Y Z++l) (a) v=qJ (some X) v:=qa7 (t);have yla: ∀ {X Y Z v},qH (tri h a b c X Y Z) (a) v=qJ (some X) v:=λ{X Y Z v}=>by have:=zla (X:=X) (Y:=Y) (Z:=Z) (v:=v) (l:= []);simpa only[lan] using this
 have zlb: ∀ {X Y Z v l},qH (tri h a b c X Y Z++l) (b) v=qJ (some Y) v:=qa8 (t);have ylb: ∀ {X Y Z v},qH (tri h a b c X Y Z) (b) v=qJ (some Y) v:=λ{X Y Z v}=>by have:=zlb (X:=X) (Y:=Y) (Z:=Z) (v:=v) (l:= []);simpa only[lan] using this
 have zlc: ∀ {X Y Z v l},qH (tri h a b c X Y Z++l) (c) v=qJ (some Z) v:=qa9 (t);have ylc: ∀ {X Y Z v},qH (tri h a b c X Y Z) (c) v=qJ (some Z) v:=λ{X Y Z v}=>by have:=zlc (X:=X) (Y:=Y) (Z:=Z) (v:=v) (l:= []);simpa only[lan] using this
 by_cases g1:q.opn=true∧ko x=true
 ·rw[show q.pt x=q.wb x from by unfold Br.pt;rw[ipo g1]];obtain⟨g1,g2⟩:=g1;obtain⟨hop,hfl⟩:=hq.op g1;have c1:=λh=>qCi x h
  simp only[g2]at c1;have c2:=λl=>qsk (va:=va) (t.app l) q hop om
  simp only[qal t]at c2;have c3:=λl=>qEz (va:=va) t q x l om
  have hL:=ju q.out;obtain⟨F,hF⟩:=wg ((q.out.getD (q.out.length-1) default).flags)
  rw[<-hF]at hfl;have g4:(z7 q.out)[(q.out.length-1)*6+4]? =some (.int .i64 F):=by rw[qd5 om om,hF];rfl
  have e0:UJ .or (.int .i64 F) (.int .i64 0)= .int .i64 F:=by rcases hfl with rfl|rfl<;>rfl
  have k3:((q.out.length-1)*6+4+1<=q.out.length*6)=True:=wj;have k4:((q.out.length-1)*6+4<q.out.length*6)=True:=wj;have e5:=qfa g4;unfold brO at c2 c3 ⊢;rw[qcU hop]at c2 c3 ⊢;unfold brX at c2 c3 ⊢;rw[g1]at c2 c3 ⊢;unfold atC;refine acO qc4 ?_;simp (disch:=omega) only[qfv,zca,qm,go_sem]
  repeat' first|(refine cG (λe=>c1 _) flk ?_;simp (disch:=omega) only[go_sem])
  refine qE (c2 _) (by exact flk) ?_;simp (disch:=omega) only[zgb,zsb,zca,zcb,qm,hL,g4,e0,k3,k4,e5,go_sem];refine qE (c3 _) (by exact flk) ?_;simp (disch:=omega) only[go_sem];exact zX trivial (by simp only[tri_len]) (jS t (jU t va (q.wb x)) (so _ _) (jl _ _ _)) ⟨rfl,rfl⟩ (qi)
 by_cases g2:bgn x=true
 ·rw[show q.pt x=((q.st 0).op).wb x from by unfold Br.pt;rw[ine g1,ipo g2]];have g3:q.opn=false:=by
   cases ho:q.opn with
   |false=>rfl
   |true=>exact absurd ⟨ho,U3 g2⟩ g1
  have c1:=λh=>qCc x h
  rw[show (decide (kind x=1)||decide (kind x=3))=true from g2]at c1;have c2:=λl=>qv4 (va:=va) (t.app l) q 0 x (.inl rfl) om
  simp only[qal t]at c2;have c3:=λl=>qEz (va:=va) t (q.st 0).op x l (by show q.word.length<=_;omega)
  unfold brO brX at c2 c3 ⊢;rw[g3]at c2 ⊢;unfold atC at c2 ⊢;refine acO qc4 ?_;simp (disch:=omega) only[qfv,zca,qm,go_sem]
  repeat' first|(refine qj ( .bool false) ?_;simp (disch:=omega) only[go_sem])|(refine cA (c1 _) flk ?_;simp (disch:=omega) only[go_sem])
  refine qE (c2 _) (by exact flk) ?_;simp (disch:=omega) only[zga,zsa,zca,qm,go_sem];refine qE (c3 _) (by exact flk) ?_;simp (disch:=omega) only[go_sem];exact zX trivial (by simp only[tri_len]) (jS t (jU t va (((q.st 0).op).wb x)) (so _ _) (jl _ _ _)) ⟨rfl,rfl⟩ (qi)
 by_cases g3:kind x=6
 ·rw[show q.pt x=q.nd.sp from by unfold Br.pt;rw[ine g1,ine g2,ipo g3]];have c1:=λh=>qCc x h
  have hb:(decide (kind x=1)||decide (kind x=3))=false:=by simpa[bgn] using g2
  rw[hb]at c1;have c5:=λh=>qCi x h
  have c4:=λh=>qbY x h
  rw[g3]at c4;have c2:=λl=>qsj (va:=va) (t.app l) q (λe=>(hq.op e).1) hq.cl om om
  simp only[qal t]at c2;have hi:q.opn=true->ko x=false:=λe=>by
   cases hx:ko x with
   |false=>rfl
   |true=>exact absurd ⟨e,hx⟩ g1
  unfold brO brX at c2 ⊢;unfold atC;cases ho:q.opn with
  |true=>
   rw[hi ho]at c5;rw[ho]at c2;refine acO qc4 ?_;simp (disch:=omega) only[qfv,zca,qm,go_sem]
   repeat' first|((first|refine cA (c1 _) ?_ ?_|refine cA (c4 _) ?_ ?_|refine cG (λe=>c5 _) ?_ ?_);exact flk;simp (disch:=omega) only[go_sem])
   refine qE (c2 _) (by exact flk) ?_;simp (disch:=omega) only[zga,zsa,zca,qm,go_sem];exact zX trivial (by simp only[tri_len]) (jS t (jU t va q.nd.sp) (so _ _) (jl _ _ _)) ⟨rfl,rfl⟩ (qi)
  |false=>
   rw[ho]at c2;refine acO qc4 ?_;simp (disch:=omega) only[qfv,zca,qm,go_sem]
   repeat' first|(refine qj ( .bool false) ?_;simp (disch:=omega) only[go_sem])|((first|refine cA (c1 _) ?_ ?_|refine cA (c4 _) ?_ ?_);exact flk;simp (disch:=omega) only[go_sem])
   refine qE (c2 _) (by exact flk) ?_;simp (disch:=omega) only[zga,zsa,zca,qm,go_sem];exact zX trivial (by simp only[tri_len]) (jS t (jU t va q.nd.sp) (so _ _) (jl _ _ _)) ⟨rfl,rfl⟩ (qi)
 rw[show q.pt x=(q.nd.st 8).tx [x]from by unfold Br.pt;rw[ine g1,ine g2,ine g3]];have c1:=λh=>qCc x h
 have hb:(decide (kind x=1)||decide (kind x=3))=false:=by simpa[bgn] using g2
 rw[hb]at c1;have c5:=λh=>qCi x h
 have c4:=λh=>qbY x h
 obtain⟨kx,hkx⟩:=wg (kind x)
 rw[<-hkx]at c4 g3;have q6:(kx=6)=False:=eqf g3;have c2:=λl=>qsj (va:=va) (t.app l) q (λe=>(hq.op e).1) hq.cl om om
 have hndl:q.nd.out.length=q.out.length:=by unfold Br.nd;split<;>simp only[UZ]
 have c6:=λl=>qv4 (va:=va) (t.app l) q.nd 8 x (.inr rfl) om
 obtain⟨r,hr⟩:=wg (q.nd.st 8)
 have hrl:0<r.out.length:=by rw[hr];show 0<(q.nd.out++ [_]).length;simp
 have hrm:r.out.length<=1000000:=by rw[hr];show (q.nd.out++ [_]).length<=_;simp;omega
 rw[<-hr]at c6 ⊢;have c7:=λl=>qsk (va:=va) (t.app l) r hrl hrm
 simp only[qal t]at c2 c6 c7;have hi:q.opn=true->ko x=false:=λe=>by
  cases hx:ko x with
  |false=>rfl
  |true=>exact absurd ⟨e,hx⟩ g1
 have hL:=ju r.out;have k3:((r.out.length-1)*6+1<=r.out.length*6)=True:=wj;have hX:=qm7 (L:=r.out) [x] hrl;have e8:UJ .or (.int .i64 0) (.int .i64 8)= .int .i64 8:=rfl;have hY:brY (r.tx [x])= .mem r.vo 119 (z7 (qau r.out [x])):=qcU (q:=r.tx [x]) (by show 0<(qau r.out [x]).length;rw[UZ];exact hrl);have eL:(r.tx [x]).out.length=r.out.length:=UZ _ _;unfold brO at c2 c6 c7 ⊢;rw[hY];rw[qcU hrl]at c6 c7;unfold brX at c2 c6 c7 ⊢;rw[eL];unfold atC at c6 ⊢;cases ho:q.opn with
 |true=>
  rw[hi ho]at c5;rw[ho]at c2;refine acO qc4 ?_;simp (disch:=omega) only[qfv,zca,qm,go_sem]
  repeat' first|((first|refine cA (c1 _) ?_ ?_|refine cA (c4 _) ?_ ?_|refine cG (λe=>c5 _) ?_ ?_);exact flk;simp (disch:=omega) only[q6,go_sem])
  refine qE (c2 _) (by exact flk) ?_;simp (disch:=omega) only[e8,go_sem];refine qE (c6 _) (by exact flk) ?_;simp (disch:=omega) only[go_sem];refine kl ?Ta ?Ha ?h1 ?h2
  case h1=>
   simp (disch:=omega) only[go_sem]
   repeat' first|(with_reducible apply aiA)|(refine qE (c7 _) (by exact flk) ?_;simp (disch:=omega) only[zgb,zsb,zcb,qm,hL,k3,go_sem])
   all_goals first
    |omega
    |rfl
    |(intro y hy;rw[List.mem_singleton]at hy;subst hy;exact UT x)
    |skip
  case h2=>
  simp (disch:=omega) only[go_sem];rw[UO x,List.append_assoc,hX];exact zX trivial (by simp only[tri_len]) (jS t (jU t va r) (ky _ _) (jl _ _ _)) ⟨rfl,rfl⟩ (qi)
 |false=>
  rw[ho]at c2;refine acO qc4 ?_;simp (disch:=omega) only[qfv,zca,qm,go_sem]
  repeat' first|(refine qj ( .bool false) ?_;simp (disch:=omega) only[go_sem])|((first|refine cA (c1 _) ?_ ?_|refine cA (c4 _) ?_ ?_);exact flk;simp (disch:=omega) only[q6,go_sem])
  refine qE (c2 _) (by exact flk) ?_;simp (disch:=omega) only[e8,go_sem];refine qE (c6 _) (by exact flk) ?_;simp (disch:=omega) only[go_sem];refine kl ?Tb ?Hb ?h1 ?h2
  case h1=>
   simp (disch:=omega) only[go_sem]
   repeat' first|(with_reducible apply aiA)|(refine qE (c7 _) (by exact flk) ?_;simp (disch:=omega) only[zgb,zsb,zcb,qm,hL,k3,go_sem])
   all_goals first
    |omega
    |rfl
    |(intro y hy;rw[List.mem_singleton]at hy;subst hy;exact UT x)
    |skip
  case h2=>
  simp (disch:=omega) only[go_sem];rw[UO x,List.append_assoc,hX];exact zX trivial (by simp only[tri_len]) (jS t (jU t va r) (ky _ _) (jl _ _ _)) ⟨rfl,rfl⟩ (qi)
theorem qCu(t:T3 h a b c)(q:Br)(x:UInt8)(hq:qB8 q):ACalls Tryz.prog 287 [.op a va 0,.agg (atC 1 x)] (brO h a b c va q) (.tup []) (brO h a b c va (q.pt x)):=by
 have ta:=t.la;have tb:=t.lb;have tc:=t.lc;have zga: ∀ {X Y Z l},qu (a) (tri h a b c X Y Z++l)=some X:=UG (t);have yga: ∀ {X Y Z},qu (a) (tri h a b c X Y Z)=some X:=λ{X Y Z}=>by have:=zga (X:=X) (Y:=Y) (Z:=Z) (l:= []);simpa only[lan] using this
 have zgb: ∀ {X Y Z l},qu (b) (tri h a b c X Y Z++l)=some Y:=U0 (t);have ygb: ∀ {X Y Z},qu (b) (tri h a b c X Y Z)=some Y:=λ{X Y Z}=>by have:=zgb (X:=X) (Y:=Y) (Z:=Z) (l:= []);simpa only[lan] using this
 have zgc: ∀ {X Y Z l},qu (c) (tri h a b c X Y Z++l)=some Z:=UH (t);have ygc: ∀ {X Y Z},qu (c) (tri h a b c X Y Z)=some Z:=λ{X Y Z}=>by have:=zgc (X:=X) (Y:=Y) (Z:=Z) (l:= []);simpa only[lan] using this
 have zsa: ∀ {X Y Z o l},qt (a) (tri h a b c X Y Z++l) o=tri h a b c o Y Z++l:=U1 (t);have ysa: ∀ {X Y Z o},qt (a) (tri h a b c X Y Z) o=tri h a b c o Y Z:=λ{X Y Z o}=>by have:=zsa (X:=X) (Y:=Y) (Z:=Z) (o:=o) (l:= []);simpa only[lan] using this
 have zsb: ∀ {X Y Z o l},qt (b) (tri h a b c X Y Z++l) o=tri h a b c X o Z++l:=qaj (t);have ysb: ∀ {X Y Z o},qt (b) (tri h a b c X Y Z) o=tri h a b c X o Z:=λ{X Y Z o}=>by have:=zsb (X:=X) (Y:=Y) (Z:=Z) (o:=o) (l:= []);simpa only[lan] using this
 have zsc: ∀ {X Y Z o l},qt (c) (tri h a b c X Y Z++l) o=tri h a b c X Y o++l:=qak (t);have ysc: ∀ {X Y Z o},qt (c) (tri h a b c X Y Z) o=tri h a b c X Y o:=λ{X Y Z o}=>by have:=zsc (X:=X) (Y:=Y) (Z:=Z) (o:=o) (l:= []);simpa only[lan] using this
 have zca: ∀ {X Y Z v l},cellsOf (tri h a b c X Y Z++l) (a) v=qw (some X) v:=qa4 (t);have yca: ∀ {X Y Z v},cellsOf (tri h a b c X Y Z) (a) v=qw (some X) v:=λ{X Y Z v}=>by have:=zca (X:=X) (Y:=Y) (Z:=Z) (v:=v) (l:= []);simpa only[lan] using this
 have zcb: ∀ {X Y Z v l},cellsOf (tri h a b c X Y Z++l) (b) v=qw (some Y) v:=qa5 (t);have ycb: ∀ {X Y Z v},cellsOf (tri h a b c X Y Z) (b) v=qw (some Y) v:=λ{X Y Z v}=>by have:=zcb (X:=X) (Y:=Y) (Z:=Z) (v:=v) (l:= []);simpa only[lan] using this
 have zcc: ∀ {X Y Z v l},cellsOf (tri h a b c X Y Z++l) (c) v=qw (some Z) v:=qa6 (t);have ycc: ∀ {X Y Z v},cellsOf (tri h a b c X Y Z) (c) v=qw (some Z) v:=λ{X Y Z v}=>by have:=zcc (X:=X) (Y:=Y) (Z:=Z) (v:=v) (l:= []);simpa only[lan] using this
 have zla: ∀ {X Y Z v l},qH (tri h a b c X Y Z++l) (a) v=qJ (some X) v:=qa7 (t);have yla: ∀ {X Y Z v},qH (tri h a b c X Y Z) (a) v=qJ (some X) v:=λ{X Y Z v}=>by have:=zla (X:=X) (Y:=Y) (Z:=Z) (v:=v) (l:= []);simpa only[lan] using this
 have zlb: ∀ {X Y Z v l},qH (tri h a b c X Y Z++l) (b) v=qJ (some Y) v:=qa8 (t);have ylb: ∀ {X Y Z v},qH (tri h a b c X Y Z) (b) v=qJ (some Y) v:=λ{X Y Z v}=>by have:=zlb (X:=X) (Y:=Y) (Z:=Z) (v:=v) (l:= []);simpa only[lan] using this
 have zlc: ∀ {X Y Z v l},qH (tri h a b c X Y Z++l) (c) v=qJ (some Z) v:=qa9 (t);have ylc: ∀ {X Y Z v},qH (tri h a b c X Y Z) (c) v=qJ (some Z) v:=λ{X Y Z v}=>by have:=zlc (X:=X) (Y:=Y) (Z:=Z) (v:=v) (l:= []);simpa only[lan] using this
 have c2:=λl=>qCv (va:=va) (t.app l) q x hq
 simp only[qal t]at c2;unfold brO brX at c2 ⊢;unfold atC at c2 ⊢;refine acO qy4 ?_;simp (disch:=omega) only[qw1,go_sem];refine qE (c2 _) (by exact flk) ?_;simp (disch:=omega) only[go_sem];exact zX trivial (by simp only[tri_len]) (jS t (jU t va (q.pt x)) (so _ _) (jl _ _ _)) ⟨rfl,rfl⟩ (qi)
end
structure BrB (q:Br) (b:Bs):Prop where
 out:q.out=b.out
 word:q.word=b.word
 opn:q.opn=b.opn
 jn:q.jn=b.jn
theorem qdi(L:List Tk)(f:Int)(w:Str):qau (L++ [tkF f []]) w=L++ [tkF f w]:=by
 unfold qau;have e:(L++ [tkF f []]).length-1=L.length:=by simp
 rw[e];have g:(L++ [tkF f []]).getD L.length default=tkF f []:=by
  have:=qbh (L:=L) (M:= [tkF f []]) (a:=default) (i:=0)
  rw[Nat.add_zero]at this;rw[this];rfl
 rw[g,List.set_append_right _ _ (nlr _),Nat.sub_self];rfl
theorem qrN{q:Br}{b:Bs}{s:Str}(h:BrB q b)(hb:qnP s b):q.nd.out=b.fin∧q.nd.word= []∧q.nd.opn=false∧q.nd.jn=b.jn:=by
 unfold Br.nd Bs.fin;cases ho:b.opn with
 |true=>
  rw[ipo (by rw[h.opn,ho]),ipo rfl];refine⟨?_,rfl,rfl,h.jn⟩;show qau q.out q.word=_;rw[h.out,h.word];unfold Bs.out;rw[ipo ho,qdi]
 |false=>
  rw[ine (by rw[h.opn,ho];simp),ine (by simp),lan];refine⟨?_,rfl,rfl,h.jn⟩;show q.out=_;rw[h.out];unfold Bs.out;rw[ine (by rw[ho];simp),lan]
theorem qAH{q:Br}{b:Bs}{s:Str}(h:BrB q b)(hb:qnP s b)(c:UInt8):BrB (q.pt c) (b.stp c):=by
 obtain⟨n1,n2,n3,n4⟩:=qrN h hb;unfold Br.pt Bs.stp
 by_cases g1:b.opn=true∧ko c=true
 ·rw[ipo (by rw[h.opn];exact g1),ipo g1];refine⟨?_,?_,?_,h.jn⟩
  ·show q.out=_;rw[h.out];unfold Bs.out;rw[ipo g1.1,ipo rfl]
  ·show q.word++ [c]=_;rw[h.word]
  ·show q.opn=_;rw[h.opn,g1.1]
 rw[ine (by rw[h.opn];exact g1),ine g1]
 by_cases g2:bgn c=true
 ·rw[ipo g2,ipo g2];have ho:b.opn=false:=by
   cases ho:b.opn with
   |false=>rfl
   |true=>exact absurd ⟨ho,U3 g2⟩ g1
  have hf:q.out=b.fin:=by
   rw[h.out];unfold Bs.out Bs.fin;rw[ho];rfl
  refine⟨?_,?_,rfl,rfl⟩
  ·show q.out++ [tkF (0+jfl q.jn q.out.length) []]=_;rw[hf,h.jn];unfold Bs.out;rw[ipo rfl,Int.zero_add]
  ·show q.word++ [c]=_;rw[h.word,(hb.cl ho).1];rfl
 rw[ine g2,ine g2]
 by_cases g3:kind c=6
 ·rw[ipo g3,ipo g3];refine⟨?_,n2,n3,rfl⟩;show q.nd.out=_;rw[n1];unfold Bs.out;rw[ine (by simp),lan]
 ·rw[ine g3,ine g3];refine⟨?_,n2,n3,rfl⟩;show qau (q.nd.out++ [tkF (8+jfl q.nd.jn q.nd.out.length) []]) [c]=_;rw[qdi,n1,n4];unfold Bs.out;rw[ine (by simp),lan]
theorem qCw{q:Br}{b:Bs}{s:Str}(h:BrB q b)(hb:qnP s b)(hs:s.length<=900000):qB8 q:=by
 have hl:=hb.len;have hc:=hb.cat;have ho:b.out.length=b.fin.length:=by unfold Bs.out Bs.fin;split<;>simp
 refine⟨λe=> ?_,λe=> ?_,?_,?_⟩
 ·rw[h.opn]at e;have e2:q.out=b.done++ [tkF b.fl []]:=by rw[h.out];unfold Bs.out;rw[ipo e]
  rw[e2];refine⟨by simp,?_⟩;have g:(b.done++ [tkF b.fl []]).getD ((b.done++ [tkF b.fl []]).length-1) default=tkF b.fl []:=by
   rw[show (b.done++ [tkF b.fl []]).length-1=b.done.length+0 by simp,qbh];rfl
  rw[g];exact (hb.op e).2.2
 ·rw[h.opn]at e;rw[h.word];exact (hb.cl e).1
 ·rw[h.out,ho];omega
 ·rw[h.word];cases e:b.opn with
  |false=>rw[(hb.cl e).1];simp
  |true=>
   have hm:b.word∈b.fin.map Tk.text:=by
    unfold Bs.fin;rw[ipo e,List.map_append];exact List.mem_append_right _ (List.mem_singleton.2 rfl)
   have h1:=qcv hm;rw[hc]at h1
   have:=List.length_filter_le (λc=> !decide (kind c=6)) s
   omega
def brI(vo vw:Nat)(s:Str):Br:=s.foldl Br.pt ⟨[],[],false,false,vo,vw,false⟩
theorem qv6(vo vw:Nat)(s:Str): ∀n,n<=s.length->BrB (brI vo vw (s.take n)) (bsL (s.take n)):=by
 intro n
 induction n with
 |zero=>intro _;exact⟨rfl,rfl,rfl,rfl⟩
 |succ n ih=>
  intro hn;rw[List.take_add_one,zD hn];show BrB (brI vo vw (s.take n++ [s[n]])) (bsL (s.take n++ [s[n]]));rw[qaC];unfold brI;rw[List.foldl_append];exact qAH (ih om) (qcV _) _
theorem qn5(vo vw:Nat)(s:Str){n:Nat}(hn:n<s.length):brI vo vw (s.take (n+1))=(brI vo vw (s.take n)).pt (ch s n):=by
 unfold brI;rw[List.take_add_one,zD hn,List.foldl_append];simp[ch,gdqA,hn]
theorem qrb(vo vw:Nat)(s:Str)(hs:s.length<=900000){n:Nat}(hn:n<=s.length):qB8 (brI vo vw (s.take n)):=qCw (qv6 vo vw s n hn) (qcV _) (by rw[List.length_take];omega)
def nmL(L:List Tk)(i:Nat):List Tk:=(L.take i).map tkN++L.drop i
theorem qcw(L:List Tk)(i:Nat):(nmL L i).length=L.length:=by unfold nmL;simp;omega
theorem qAr{L:List Tk}{i:Nat}(hi:i<L.length):(nmL L i).getD i default=L.getD i default:=by
 unfold nmL;rw[gdqA,List.getElem?_append_right (by simp;omega),List.getElem?_drop,gdqA];simp[Nat.min_eq_left (Nat.le_of_lt hi)]
theorem qpr{L:List Tk}{i:Nat}(hi:i<L.length):nmL L (i+1)=(nmL L i).set i (tkN (L.getD i default)):=by
 unfold nmL;have e:((L.take i).map tkN).length=i:=by simp;omega
 rw[List.set_append_right _ _ om,e,Nat.sub_self,List.drop_eq_getElem_cons hi,List.set_cons_zero,List.take_add_one,zD hi,List.map_append,List.append_assoc,gdqA,zD hi];rfl
theorem qt5(L:List Tk):nmL L L.length=L.map tkN:=by unfold nmL;rw[List.take_length,List.drop_length,lan]
theorem qps(L:List Tk):nmL L 0=L:=by unfold nmL;simp
end RC
end
section
open Go Go.Proofs AF
def qtF:List Nat:= [277,278,377,347,287,344,288,345,290]
def qwB:C:=
 (vU [O1 3 (.box 0 117) 0,ON 6 (.nilo 1 6 119) [],vO 7 0] ((vU [MV 14 1,O1 15 (.call 283 true) 14,vP 16 .neq 15 0,MV 17 16,vS 18 17 2,vQ 19 17 (.call 284 true) 18,vT 20 17 (.bin
 .neq) 19 (i6 0),PT 21 17 20] (vV 21 (vX [ON 6 (.nilo 1 6 119) [],vO 7 1]))).seq ((vU [vN 22 1 3,LD 23 22,vP 24 .lss 23 0,MV 25 24,v7 26 25 1 3,v8 27 25 26,vT 28 25 (.bin .gtr)
 27 (i6 4096),PT 29 25 28] (vV 29 (vX [ON 6 (.nilo 1 6 119) [],vO 7 2]))).seq ((vU [vN 30 0 3,LD 31 30,O1 32 (.call 260 true) 31,O1 33 (.un UnOp.not) 32] (vV 33 (vX [ON 6 (.nilo
 1 6 119) [],vO 7 14]))).seq (vU [MV 35 1,OC 36 (.call 285 true) 35 (i6 8),MV 34 36,O1 37 (.ext 0) 34,O1 38 (.ext 1) 34,MV 8 37,MV 9 38] (vU [MV 40 1,OC 41 (.call 285 true) 40
 (i6 9),MV 39 41,O1 42 (.ext 0) 39,O1 43 (.ext 1) 39,MV 10 42,MV 11 43] ((vU [MV 44 8,MV 45 10,BI 46 .add 44 45,vP 47 .gtr 46 0] (vV 47 (vX [ON 6 (.nilo 1 6 119) [],vO 7
 13]))).seq (vU [⟨some 12,none,.alloc 2 343 [.nl,.nilp,.nl,.bool false,.bool false,.bool false],[]⟩] (((C.wk.seq (vY [O1 48 (.load (some 2)) 3,MV 49 1,O2 50 (.call 286 true) 48
 49])).seq (C.block 0 (C.range (.t 50) [51] (vY [⟨some 13,none,.alloc 3 348 [i6 0,.int .u8 0,i6 0,.str [],i6 0,.bool false,.str []],[]⟩,ST 7 13 51]) (C.block 1 (vY [O1 52 (.load
 (some 7)) 13,O2 53 (.call 287 false) 12 52]))))).seq (vU [O1 54 (.call 288 false) 12] ((vU [vN 55 0 12,LD 56 55,O1 57 .len 56,vP 58 .gtr 57 1024,MV 59 58,v7 60 59 0 12,v8 61 59
 60,vT 62 59 (.call 183 true) 61 (.fn (Fn.func 289) [] []),PT 63 59 62] (vV 63 (vX [ON 6 (.nilo 1 6 119) [],vO 7 4]))).seq (vX [MV 64 2,vN 65 0 12,LD 66 65,O2 67 (.call 290
 false) 64 66,O1 68 (.ext 0) 67,O1 69 (.ext 1) 67,MV 6 68,MV 7 69]))))))))))))
theorem qyC:qG Tryz.prog 224 70 6 [RV.tmp 6,RV.tmp 7] qwB:=fi Tryz.f224 [3,6,12,13,9,11] qtF [12]
end
section
open Go Go.Proofs AF HY LN
namespace RC
theorem qqN{t:Tk}(h:TkG t)(hl:t.text.length<=64):(qhY t.flags=false∧mkB t.flags=false∧ ∀i,i<t.text.length->ko (ch t.text i)=true)∨(qhY t.flags=false∧mkB t.flags=true):=by
 rcases h.2 with⟨hf,c,r,e,hb,hr⟩|⟨hf,_⟩
 ·refine .inl ⟨by rcases hf with e|e<;>rw[e]<;>rfl,by rcases hf with e|e<;>rw[e]<;>rfl,λi hi=> ?_⟩;rw[e]at hi ⊢;cases i with
  |zero=>exact U3 hb
  |succ i=>
   simp only[lco]at hi
   have:ch (c::r) (i+1)=r[i]'(by omega):=by simp[ch,gdqA,show i<r.length by omega]
   rw[this];exact hr _ (List.getElem_mem _)
 ·exact .inr ⟨by rcases hf with e|e<;>rw[e]<;>rfl,by rcases hf with e|e<;>rw[e]<;>rfl⟩
theorem qqM{t:Tk}(h:TkG t): ∃f:Nat,t.flags=f∧f<32:=by
 rcases h.2 with⟨hf|hf,_⟩|⟨hf|hf,_⟩
 ·exact⟨0,hf,om⟩
 ·exact⟨16,hf,om⟩
 ·exact⟨8,hf,om⟩
 ·exact⟨24,hf,om⟩
theorem qDQ(L:List Tk)(b v:Nat)(h:wh)(hb:qu b h=some (zw v 119 (z7 L)))(hg: ∀t∈L,TkG t)(hl: ∀t∈L,t.text.length<=64)(hn:L.length<=1000000):
  ACalls Tryz.prog 290 [.nl,.osl b v 6 0 L.length] h (.tup [.osl b v 6 0 L.length,.int .i64 0]) (qt b h (zw v 119 (z7 (L.map tkN)))):=by
 have hbl:=zR hb;have hlv: ∀l,qH (h++l) b v=true:=λl=>by rw[jp,zL hbl,hb,zk];simp
 refine acO qy6 ?_;simp (disch:=omega) only[qw2,hlv,go_sem];refine qk (T:=λi:Nat=>qP 49 [(0,.nl),(1,.osl b v 6 0 L.length),(10,.int .i64 L.length),(11,.int .i64 i)]) (H:=λi=>qt b h (zw v 119 (z7 (nmL L i)))++ [.emp 1]) (inv:=λi=>i<=L.length) (m:=λi=>L.length-i) 0 (nzl _) ?_ ?_
 ·rw[qps,jR hb];refine Wk.temps ?_
  (simp only[go_sem,qf,qc,qa,qe];try exact we)
 rintro i i1 K hK;have hML:=qcw L i
 by_cases hi:i<L.length
 ·have k1:((i:Int)<L.length)=True:=wj;have hne:z7 (nmL L i)≠ []:=λe=>by
   have:=congrArg List.length e
   rw[ju,hML,lnl]at this;omega
  have ho:zw v 119 (z7 (nmL L i))= .mem v 119 (z7 (nmL L i)):=by unfold zw;rw[ine hne]
  rw[ho];have hM:=ju (nmL L i);rw[hML]at hM;obtain⟨t,ht⟩:=wg (L.getD i default)
  have hmem:t∈L:=by rw[ht];exact zS hi
  have gt:=hg t hmem;have lt:=hl t hmem;have hat:=qAr hi;rw[<-ht]at hat;have hsucc:=qpr hi;rw[<-ht]at hsucc;obtain⟨M,hMe⟩:=wg (nmL L i)
  rw[<-hMe]at hM hat hsucc hML ⊢;have s1: ∀ {l w cs z},cellsOf (qt b h (.mem w 119 cs)++l) b z=if w=z then some cs else none:=KD hbl
  have s2: ∀ {l o o'},qt b (qt b h o++l) o'=qt b h o'++l:=qdV hbl;have s4: ∀ {l o},qu b (qt b h o++l)=some o:=qb4 hbl;have s3: ∀ {l o w},qH (qt b h o++l) b w=qJ (some o) w:=λ{l o w}=>by rw[jp,s4]
  have g0:(z7 M)[i*6]? =some (.str t.text):=by
   have:=qd5 (L:=M) (i:=i) (k:=0) om om
   rw[Nat.add_zero]at this;rw[this,hat];rfl
  have b1:(i*6<L.length*6)=True:=wj;have b2:(i*6+1+1<=L.length*6)=True:=wj;have b3:(i*6+6<=L.length*6)=True:=wj;have hset:=qhk (L:=M) (i:=i) (tkN t) om;rw[<-hsucc]at hset;have hcut:=qa3 (L:=M) (i:=i) om;rw[hat]at hcut;have hS:List.take (i*6+1) (z7 M)++ [AV.str t.text]++List.drop (i*6+1+1) (z7 M)=z7 (nmL L (i+1)):=by
   rw[<-hset];have e1:List.take (i*6+1) (z7 M)=List.take (i*6) (z7 M)++ [.str t.text]:=by
    rw[List.take_add_one,g0];rfl
   have e2:List.drop (i*6+1+1) (z7 M)=(tkC t).drop 2++(z7 M).drop (i*6+6):=by
    rw[<-hcut,List.drop_take,List.drop_drop]
    have:List.drop (i*6+6) (z7 M)=List.drop 4 (List.drop (i*6+2) (z7 M)):=by rw[List.drop_drop]
    rw[this,show i*6+1+1=i*6+2 by omega];exact (List.take_append_drop 4 _).symm
   rw[e1,e2];simp[tkC,tkN]
  have hL2:=ju (nmL L (i+1));rw[qcw]at hL2;have hat2:(nmL L (i+1)).getD i default=tkN t:=by rw[hsucc];exact qdz om
  have hcut2:=qa3 (L:=nmL L (i+1)) (i:=i) (by rw[qcw];exact hi);rw[hat2]at hcut2;have h0':(z7 (nmL L (i+1)))[i*6]? =some (.str t.text):=by
   have:=qd5 (L:=nmL L (i+1)) (i:=i) (k:=0) (by rw[qcw];exact hi) om
   rw[hat2]at this;exact this
  have hS2:List.take (i*6+1) (z7 (nmL L (i+1)))++ [AV.str t.text]++List.drop (i*6+1+1) (z7 (nmL L (i+1)))=z7 (nmL L (i+1)):=by
   refine qfa ?_;rw[qd5 (by rw[qcw];exact hi) om,hat2];rfl
  obtain⟨f,hf,hf2⟩:=qqM gt;have c1:=λh=>qE2 (tkN t) f h hf hf2
  have ho2:zw v 119 (z7 (nmL L (i+1)))= .mem v 119 (z7 (nmL L (i+1))):=by
   unfold zw;rw[ine λe=> ?_]
   have:=congrArg List.length e
   rw[hL2,lnl]at this;omega
  rcases qqN gt lt with⟨q1,q2,q3⟩|⟨q1,q2⟩
  ·have hiw:(!qhY (tkN t).flags&& !mkB (tkN t).flags)=true:=by rw[show (tkN t).flags=t.flags from rfl,q1,q2];rfl
   rw[hiw]at c1;have c2:=λh=>qDP t.text h lt q3
   simp (disch:=omega) only[k1,s1,s2,s4,hM,g0,b1,b2,b3,hS,hL2,hcut2,go_sem]
   repeat' first|((first|refine cA (c1 _) ?_ ?_|refine cA (c2 _) ?_ ?_);exact flk;simp (disch:=omega) only[k1,s1,s2,s4,b1,b2,hL2,h0',hS2,go_sem])|with_reducible apply aiA|exact clz|fail
   refine hK _ _ (i+1) hi om ?_;rw[ho2];refine Wk.temps ?_
   (simp only[go_sem,qf,qc,qa,qe];try exact we)
  ·have hiw:(!qhY (tkN t).flags&& !mkB (tkN t).flags)=false:=by rw[show (tkN t).flags=t.flags from rfl,q1,q2];rfl
   rw[hiw]at c1;simp (disch:=omega) only[k1,s1,s2,s4,hM,g0,b1,b2,b3,hS,hL2,hcut2,go_sem]
   repeat' first|(refine cA (c1 _) flk ?_;simp (disch:=omega) only[k1,s1,b1,hL2,go_sem])|with_reducible apply aiA|exact clz|fail
   refine hK _ _ (i+1) hi om ?_;rw[ho2];refine Wk.temps ?_
   (simp only[go_sem,qf,qc,qa,qe];try exact we)
 have k1:((i:Int)<L.length)=False:=wl;obtain rfl:i=L.length:=by omega
 simp (disch:=omega) only[k1,go_sem];rw[qt5];refine DV ⟨trivial,trivial,trivial⟩ qO (λo ho=>(jt ho).imp id (λe=>by rw[e];exact jE (ky _ _))) ⟨rfl,rfl⟩ ?_;simp only[go_sem];rw[ine om];exact qi
end RC
end
section
open Go Go.Proofs AF HY LN
namespace AF
theorem qu8{h:wh}{a b c:Nat}{X Y Z o:AObj}(ho:o∈tri h a b c X Y Z):o∈h∨o=X∨o=Y∨o=Z:=by
 unfold tri at ho;rcases jt ho with h1|rfl
 ·rcases jt h1 with h1|rfl
  ·rcases jt h1 with h1|rfl
   ·exact .inl h1
   ·exact .inr (.inl rfl)
  ·exact .inr (.inr (.inl rfl))
 ·exact .inr (.inr (.inr rfl))
theorem qBp{h l:wh}{a b c k:Nat}{X Y Z:AObj}(hk:k<h.length)(ha:k≠a)(hb:k≠b)(hc:k≠c):qu k (tri h a b c X Y Z++l)=qu k h:=by
 rw[zL (by rw[tri_len];exact hk)];unfold tri;rw[qT hc,qT hb,qT ha]
theorem qBq{h l:wh}{a b c k:Nat}{X Y Z o:AObj}(hk:k<h.length)(ha:k≠a)(hb:k≠b)(hc:k≠c):qt k (tri h a b c X Y Z++l) o=tri (qt k h o) a b c X Y Z++l:=by
 rw[zN (by rw[tri_len];exact hk)];unfold tri;rw[kM hc,kM hb,kM ha]
theorem qr1{h:wh}{a b c:Nat}{X Y Z:AObj}(ha:qu a h=some X)(hb:qu b h=some Y)(hc:qu c h=some Z):tri h a b c X Y Z=h:=by
 unfold tri;rw[jR ha,jR hb,jR hc]
end AF
namespace RC
theorem qa1{v n:Nat}{L:List Tk}{ty:TypeId}{fz:Nat->Bool}{h:wh}{d:Nat}(hn:n=L.length):VLe (qe4 (some (zw v ty (z7 L))) v 6 0 n (rei fz h (d+1))) (zy L):=by
 subst hn;unfold zw;split
 ·rename_i e
  have:L= []:=by
   cases L with
   |nil=>rfl
   |cons a r=>exact absurd e (by simp[z7,tkC])
  subst this;rw[slOf_emp,ipo rfl];exact qU
 ·rw[slOf_mem,ipo ⟨rfl,by rw[ju];omega⟩];refine VLe.sl_eq rfl (λi hi=> ?_);simp only[Nat.zero_add];rw[qa3 hi];rfl
theorem qGC(t:Tk)(h:wh):ACalls Tryz.prog 289 [.agg (tkC t)] h (.bool (decide (64<t.text.length))) h:=by
 by_cases g:64<t.text.length
 ·have k1:((64:Int)<t.text.length)=True:=wj;rw[dqt g];refine acO qrw ?_;simp (disch:=omega) only[qsz,tkC,k1,go_sem]
  repeat' first|exact wa|fail
 ·have k1:((64:Int)<t.text.length)=False:=wl;rw[dqf g];refine acO qrw ?_;simp (disch:=omega) only[qsz,tkC,k1,go_sem]
  repeat' first|exact wa|fail
theorem qF0(L:List Tk)(h:wh)(hl:L.length<=1000000000):ACalls Tryz.prog 183 [zy L,.fn (.func 289) [] []] h (.bool (qfO L)) h:=
 qxL qrm ⟨rfl,rfl⟩ ⟨rfl,rfl⟩ (qeG qrt L.length (λj=>tkC (L.getD j default)) (λj=> .agg (tkC (L.getD j default))) 289 [] [] (λj=>decide (64<(L.getD j default).text.length)) h (λi _=>⟨rfl,by simp[kv,tkC],rfl,rfl,rfl⟩) (λi _=>qGC _ _) om)
end RC
end
section
open Go Go.Proofs AF HY LN
namespace RC
def qhl(s:Str):List Tk:=if qcA s=0 then qav s else []
theorem qD9(s:Str)(h:wh)(hl:s.length<=1000)(hs:s≠ [])(hc:zz s=0)(hg:jf h frmN frmC):ACalls Tryz.prog 224 [.agg [.str [],.int .i64 0],zY s,.nl] h (.tup [zy (qhl s),.int .i64 (qcA s)]) h:=by
 have c1:=λl=>qCO s (h++l) om om hs hc hg.app
 have c2:=λh=>qE7 h
 have c3:=λh=>qDL [] h (by simp)
 rw[show qiZ []=true from rfl]at c3;have c4:=λl=>qEW s 8 (h++l) om om (λl'=>qCO s (h++l++l') om om hs hc hg.app.app)
 have c9:=λl=>qEW s 9 (h++l) om om (λl'=>qCO s (h++l++l') om om hs hc hg.app.app)
 have c5:=λh=>qFq s h
 unfold zY at c1 c4 c5 c9;refine acO qyC ?_;simp (disch:=omega) only[qwB,zY,go_sem]
 repeat' first|((first|refine cA (c1 _) ?_ ?_|refine cG (λe=>c2 _) ?_ ?_|refine cA (c3 _) ?_ ?_|refine cA (c4 _) ?_ ?_|refine cA (c9 _) ?_ ?_);exact flk;simp (disch:=omega) only[go_sem])|(apply qb;exact rvk;simp only[go_sem])|(with_reducible first|intro _|apply aiA)|exact clz|fail
 refine⟨_,_,(Wk.ownNil (j:=h.length+2) (i:=0) (k:=h.length+4) (v:=1) (ty:=343) (cs:= [.nl,.nilp,.nl,.bool false,.bool false,.bool false]) (ve:=0) (sz:=6) ?m1 rfl ?m2).trans
  (Wk.ownNil (j:=h.length+2) (i:=2) (k:=h.length+5) (v:=1) (ty:=343) (cs:= [.osl (h.length+4) 0 6 0 0,.nilp,.nl,.bool false,.bool false,.bool false]) (ve:=0) (sz:=1) ?m3 rfl ?m4),?_⟩
 case m1=>simp only[go_sem]
 case m2=>simp only[go_sem]
 case m3=>
  simp only[List.set_cons_zero,go_sem]
 case m4=>simp only[List.set_cons_zero,go_sem]
 simp (disch:=omega) only[List.set_cons_zero,List.set_cons_succ,go_sem]
 repeat' first|(refine cA (c5 _) flk ?_;simp (disch:=omega) only[go_sem])
 obtain⟨base,hbase⟩: ∃base:AObj->wh,base=λO=>h++ [.mem 1 117 [.str [],.int .i64 0],.emp 1,.mem 1 343 [.osl (h.length+4) 0 6 0 0,.nilp,.osl (h.length+5) 0 1 0 0,.bool false,.bool false,.bool false],O,.emp 0,.emp 0]:=⟨_,rfl⟩
 have hbl: ∀O,(base O).length=h.length+6:=λO=>by rw[hbase];simp
 have hT: ∀O,T3 (base O) (h.length+2) (h.length+4) (h.length+5):=λO=>⟨by rw[hbl];omega,by rw[hbl];omega,by rw[hbl];omega,om,om,om⟩
 have f1: ∀ {O X Y Z l},qu (h.length+3) (tri (base O) (h.length+2) (h.length+4) (h.length+5) X Y Z++l)=some O:=λ{O X Y Z l}=>by
  rw[qBp (by rw[hbl];omega) om om om,hbase];simp only[go_sem]
 have f2: ∀ {O O' X Y Z l},qt (h.length+3) (tri (base O) (h.length+2) (h.length+4) (h.length+5) X Y Z++l) O'=tri (base O') (h.length+2) (h.length+4) (h.length+5) X Y Z++l:=λ{O O' X Y Z l}=>by
  rw[qBq (by rw[hbl];omega) om om om,hbase];simp only[go_sem]
 have f4: ∀ {v w ty cs X Y Z l},cellsOf (tri (base (.mem v ty cs)) (h.length+2) (h.length+4) (h.length+5) X Y Z++l) (h.length+3) w=if v=w then some cs else none:=λ{v w ty cs X Y Z l}=>by rw[zH,f1];rfl
 have eT: ∀ {O X Y Z},tri (base O) (h.length+2) (h.length+4) (h.length+5) X Y Z=h++ [.mem 1 117 [.str [],.int .i64 0],.emp 1,X,O,Y,Z]:=λ{O X Y Z}=>by
  rw[hbase];unfold tri;simp only[go_sem]
 have hst:base (.emp 0)=brO (base (.emp 0)) (h.length+2) (h.length+4) (h.length+5) 1 (brI 0 0 (s.take 0)):=by
  refine (qr1 ?_ ?_ ?_).symm
  ·rw[hbase];simp only[go_sem];rfl
  ·rw[hbase];simp only[go_sem];rfl
  ·rw[hbase];simp only[go_sem];rfl
 have hLow: ∀(q:Br) O,(∀n,lowO n O)->LowI (base (.emp 0)) (brO (base O) (h.length+2) (h.length+4) (h.length+5) 1 q):=λq O lO=>by
  refine⟨by rw[qds,hbl,hbl],λo ho=> ?_⟩;rcases qu8 ho with h1|rfl|rfl|rfl
  ·rw[hbase]at h1 ⊢;rcases List.mem_append.1 h1 with h1|h1
   ·exact .inl (List.mem_append_left _ h1)
   ·simp only[List.mem_cons,List.not_mem_nil,or_false]at h1;rcases h1 with rfl|rfl|rfl|rfl|rfl|rfl
    ·left;simp
    ·left;simp
    ·left;simp
    ·right;exact⟨lO _,lO _⟩
    ·left;simp
    ·left;simp
  ·right
   have:=jU (hT O) 1 q
   rw[hbl]at this ⊢;exact⟨this,lowO_mono om this⟩
  ·right;exact⟨so _ _,so _ _⟩
  ·right;exact⟨jl _ _ _,jl _ _ _⟩
 have e0:h++ [.mem 1 117 [.str [],.int .i64 0],.emp 1,.mem 1 343 [.osl (h.length+4) 0 6 0 0,.nilp,.osl (h.length+5) 0 1 0 0,.bool false,.bool false,.bool false],.emp 0,.emp 0,.emp 0]=base (.emp 0):=by rw[hbase]
 rw[e0];refine zJ (xs:=atX s) (itA s om) (λa ha=> ?_)
  (S:=λi hh=> ∃O,qz [O] 0=true∧(∀n,lowO n O)∧hh=brO (base O) (h.length+2) (h.length+4) (h.length+5) 1 (brI 0 0 (s.take i))) (E:=λ_ _=>False) ?_ ?_ ?_ ?_ ?_ ?_ ?_
 ·obtain⟨c,_,rfl⟩:=List.mem_map.1 (show a∈s.map _ from ha);rfl
 ·rintro i hh ⟨O,_,l1,rfl⟩;exact hLow _ _ l1
 ·intro s hh hf;exact hf.elim
 ·exact⟨.emp 0,rfl,λ_=>trivial,hst⟩
 ·rw[hbl];simp[qV,qV.lowVs]
  try omega
 ·rintro i hh tl LI TS hi ⟨O,s1,l1,rfl⟩ hlen K K2 hK hN hR' hX;have hi':i<s.length:=by rw[qci]at hi;exact hi
  rw[qq9 hi];have t:=hT O;have f3: ∀ {X Y Z l},qz (tri (base O) (h.length+2) (h.length+4) (h.length+5) X Y Z++l) (h.length+3)=true:=λ{X Y Z l}=>by unfold qz;rw[f1];exact s1
  simp only[kN];unfold brO;simp (disch:=omega) only[f1,f2,f3,f4,atC,go_sem];refine hK _ _ (brO (base (.mem (qo (some O)+1) 348 (atC 1 (ch s i)))) (h.length+2) (h.length+4) (h.length+5) 1 (brI 0 0 (s.take i))) ?_ ?_ ?_
  ·rfl
  ·rw[qds,hbl,hbl]
  ·have cA:=qkb (va:=1) (λh' t'=>qCu (va:=1) t' (brI 0 0 (s.take i)) (ch s i) (qrb 0 0 s om om)) (hT (.mem (qo (some O)+1) 348 (atC 1 (ch s i)))) (.lp .busy TS LI::tl);unfold brO atC at cA;unfold brO;simp (disch:=omega) only[f4,atC,go_sem];refine qE cA (by exact flk) ?_;simp (disch:=omega) only[go_sem];refine hN _ _ (brO (base (.mem (qo (some O)+1) 348 (atC 1 (ch s i)))) (h.length+2) (h.length+4) (h.length+5) 1 ((brI 0 0 (s.take i)).pt (ch s i))) rfl (by rw[qds,hbl,hbl]) ⟨_,?_,?_,by rw[qn5 0 0 s hi']⟩
   ·rfl
   ·intro n d hd;simp[atC]at hd;rcases hd with rfl|rfl|rfl|rfl|rfl|rfl|rfl<;>rfl
 ·rintro hh ⟨O,s1,l1,rfl⟩;have t:=hT O;rw[qci,List.take_length];have hqo:=qrb 0 0 s om (nlr s.length);have hqb:=qv6 0 0 s s.length (nlr _);rw[List.take_length]at hqo hqb;obtain⟨q,hq⟩:=wg (brI 0 0 s)
  rw[<-hq]at hqo hqb ⊢;obtain⟨n1,n2,n3,n4⟩:=qrN hqb (qcV s);have n1:q.nd.out=qaw s:=n1;have cE:=qsj (va:=1) t q (λe=>(hqo.op e).1) hqo.cl (by have:=hqo.n;omega) (by have:=hqo.w;omega);simp (disch:=omega) only[go_sem];refine qE cE (by exact flk) ?_;obtain⟨r,hr⟩:=wg q.nd
  rw[<-hr]at n1 ⊢;have zga: ∀ {X Y Z l},qu (h.length+2) (tri (base O) (h.length+2) (h.length+4) (h.length+5) X Y Z++l)=some X:=UG (t);have yga: ∀ {X Y Z},qu (h.length+2) (tri (base O) (h.length+2) (h.length+4) (h.length+5) X Y Z)=some X:=λ{X Y Z}=>by have:=zga (X:=X) (Y:=Y) (Z:=Z) (l:= []);simpa only[lan] using this
  have zgb: ∀ {X Y Z l},qu (h.length+4) (tri (base O) (h.length+2) (h.length+4) (h.length+5) X Y Z++l)=some Y:=U0 (t);have ygb: ∀ {X Y Z},qu (h.length+4) (tri (base O) (h.length+2) (h.length+4) (h.length+5) X Y Z)=some Y:=λ{X Y Z}=>by have:=zgb (X:=X) (Y:=Y) (Z:=Z) (l:= []);simpa only[lan] using this
  have zgc: ∀ {X Y Z l},qu (h.length+5) (tri (base O) (h.length+2) (h.length+4) (h.length+5) X Y Z++l)=some Z:=UH (t);have ygc: ∀ {X Y Z},qu (h.length+5) (tri (base O) (h.length+2) (h.length+4) (h.length+5) X Y Z)=some Z:=λ{X Y Z}=>by have:=zgc (X:=X) (Y:=Y) (Z:=Z) (l:= []);simpa only[lan] using this
  have zsa: ∀ {X Y Z o l},qt (h.length+2) (tri (base O) (h.length+2) (h.length+4) (h.length+5) X Y Z++l) o=tri (base O) (h.length+2) (h.length+4) (h.length+5) o Y Z++l:=U1 (t);have ysa: ∀ {X Y Z o},qt (h.length+2) (tri (base O) (h.length+2) (h.length+4) (h.length+5) X Y Z) o=tri (base O) (h.length+2) (h.length+4) (h.length+5) o Y Z:=λ{X Y Z o}=>by have:=zsa (X:=X) (Y:=Y) (Z:=Z) (o:=o) (l:= []);simpa only[lan] using this
  have zsb: ∀ {X Y Z o l},qt (h.length+4) (tri (base O) (h.length+2) (h.length+4) (h.length+5) X Y Z++l) o=tri (base O) (h.length+2) (h.length+4) (h.length+5) X o Z++l:=qaj (t);have ysb: ∀ {X Y Z o},qt (h.length+4) (tri (base O) (h.length+2) (h.length+4) (h.length+5) X Y Z) o=tri (base O) (h.length+2) (h.length+4) (h.length+5) X o Z:=λ{X Y Z o}=>by have:=zsb (X:=X) (Y:=Y) (Z:=Z) (o:=o) (l:= []);simpa only[lan] using this
  have zsc: ∀ {X Y Z o l},qt (h.length+5) (tri (base O) (h.length+2) (h.length+4) (h.length+5) X Y Z++l) o=tri (base O) (h.length+2) (h.length+4) (h.length+5) X Y o++l:=qak (t);have ysc: ∀ {X Y Z o},qt (h.length+5) (tri (base O) (h.length+2) (h.length+4) (h.length+5) X Y Z) o=tri (base O) (h.length+2) (h.length+4) (h.length+5) X Y o:=λ{X Y Z o}=>by have:=zsc (X:=X) (Y:=Y) (Z:=Z) (o:=o) (l:= []);simpa only[lan] using this
  have zca: ∀ {X Y Z v l},cellsOf (tri (base O) (h.length+2) (h.length+4) (h.length+5) X Y Z++l) (h.length+2) v=qw (some X) v:=qa4 (t);have yca: ∀ {X Y Z v},cellsOf (tri (base O) (h.length+2) (h.length+4) (h.length+5) X Y Z) (h.length+2) v=qw (some X) v:=λ{X Y Z v}=>by have:=zca (X:=X) (Y:=Y) (Z:=Z) (v:=v) (l:= []);simpa only[lan] using this
  have zcb: ∀ {X Y Z v l},cellsOf (tri (base O) (h.length+2) (h.length+4) (h.length+5) X Y Z++l) (h.length+4) v=qw (some Y) v:=qa5 (t);have ycb: ∀ {X Y Z v},cellsOf (tri (base O) (h.length+2) (h.length+4) (h.length+5) X Y Z) (h.length+4) v=qw (some Y) v:=λ{X Y Z v}=>by have:=zcb (X:=X) (Y:=Y) (Z:=Z) (v:=v) (l:= []);simpa only[lan] using this
  have zcc: ∀ {X Y Z v l},cellsOf (tri (base O) (h.length+2) (h.length+4) (h.length+5) X Y Z++l) (h.length+5) v=qw (some Z) v:=qa6 (t);have ycc: ∀ {X Y Z v},cellsOf (tri (base O) (h.length+2) (h.length+4) (h.length+5) X Y Z) (h.length+5) v=qw (some Z) v:=λ{X Y Z v}=>by have:=zcc (X:=X) (Y:=Y) (Z:=Z) (v:=v) (l:= []);simpa only[lan] using this
  have zla: ∀ {X Y Z v l},qH (tri (base O) (h.length+2) (h.length+4) (h.length+5) X Y Z++l) (h.length+2) v=qJ (some X) v:=qa7 (t);have yla: ∀ {X Y Z v},qH (tri (base O) (h.length+2) (h.length+4) (h.length+5) X Y Z) (h.length+2) v=qJ (some X) v:=λ{X Y Z v}=>by have:=zla (X:=X) (Y:=Y) (Z:=Z) (v:=v) (l:= []);simpa only[lan] using this
  have zlb: ∀ {X Y Z v l},qH (tri (base O) (h.length+2) (h.length+4) (h.length+5) X Y Z++l) (h.length+4) v=qJ (some Y) v:=qa8 (t);have ylb: ∀ {X Y Z v},qH (tri (base O) (h.length+2) (h.length+4) (h.length+5) X Y Z) (h.length+4) v=qJ (some Y) v:=λ{X Y Z v}=>by have:=zlb (X:=X) (Y:=Y) (Z:=Z) (v:=v) (l:= []);simpa only[lan] using this
  have zlc: ∀ {X Y Z v l},qH (tri (base O) (h.length+2) (h.length+4) (h.length+5) X Y Z++l) (h.length+5) v=qJ (some Z) v:=qa9 (t);have ylc: ∀ {X Y Z v},qH (tri (base O) (h.length+2) (h.length+4) (h.length+5) X Y Z) (h.length+5) v=qJ (some Z) v:=λ{X Y Z v}=>by have:=zlc (X:=X) (Y:=Y) (Z:=Z) (v:=v) (l:= []);simpa only[lan] using this
  have hrl:=qfd s;have hor:r.out.length=(qaw s).length:=by rw[n1]
  have k1:((1024:Int)<r.out.length)=False:=wl;have hcE:=λh=>qF0 (qaw s) h om
  unfold brO brX brY;rw[n1];rw[n1]at k1;have hL:=ju (qaw s);have hb64:=qbm (L:=qaw s);have hTE:qcA s=if qfO (qaw s)=true then 4 else 0:=rfl
  have hTL:qhl s=if qcA s=0 then qav s else []:=rfl
  cases hB:qfO (qaw s)with
  |true=>
   rw[hB]at hTE hcE;rw[ipo rfl]at hTE;rw[hTE,ine (by decide)]at hTL;rw[hTE,hTL];simp (disch:=omega) only[yca,ylb,qm,zk,k1,go_sem];refine cG (λ_=>ACalls.borrow (r:= .bool true) ((hcE []).le ?g1 (qi)) rfl) (λ_=>by exact flk) ?_
   case g1=>
    simp only[List.map_cons,List.map_nil,go_sem,if_true];rw[ygb];exact⟨qa1 rfl,qi,trivial⟩
   simp (disch:=omega) only[yca,qm,go_sem]
   repeat' first|with_reducible apply aiA
   ·rw[eT];simp only[go_sem]
   ·rw[eT];simp only[go_sem];refine qdy rfl ⟨trivial,trivial,trivial⟩ ⟨rfl,rfl⟩ ?_;simp only[go_sem];exact VLe.tup ⟨qU,qi,trivial⟩
  |false=>
   rw[hB]at hTE hcE;rw[ine (by simp)]at hTE;rw[hTE,ipo rfl]at hTL;rw[hTE,hTL];simp (disch:=omega) only[yca,ylb,qm,zk,k1,go_sem];refine cG (λ_=>ACalls.borrow (r:= .bool false) ((hcE []).le ?g2 (qi)) rfl) (λ_=>by exact flk) ?_
   case g2=>
    simp only[List.map_cons,List.map_nil,go_sem,if_true];rw[ygb];exact⟨qa1 rfl,qi,trivial⟩
   simp (disch:=omega) only[yca,qm,go_sem];refine qE (qDQ (qaw s) (h.length+4) r.vo _ ygb (qhm s) (hb64.1 hB) om) (by exact flk) ?_;simp (disch:=omega) only[ysb,go_sem]
   repeat' first|with_reducible apply aiA|exact clz|fail
   rw[eT];refine qdy rfl ⟨trivial,trivial,trivial⟩ ⟨rfl,rfl⟩ ?_;simp only[go_sem];exact VLe.tup ⟨qa1 (by simp[qav]),qi,trivial⟩
 ·intro e hh hf;exact hf.elim
end RC
end
section
open Go Go.Proofs AF
def qgQ:List Nat:= [224]
def qoc:C:=
 (vU [ON 2 (.nilo 0 1 9) [],vO 3 0] ((vU [MV 7 0,O1 8 (.call 219 true) 7,MV 4 8] (vU [MV 9 4,vP 10 .neq 9 0] (vV 10 (vX [MV 11 4,ON 2 (.nilo 0 1 9) [],MV 3 11])))).seq ((vU [MV
 12 0,BC 13 .eql 12 (.str [])] (vV 13 (vX [ON 2 (.nilo 0 1 9) [],vO 3 0]))).seq (vU [⟨some 15,none,.build [.str [],i6 0] [],[]⟩,MV 16 0,⟨some 17,none,.build [i6 0,.str [],i6
 0,.nl] [(0,1),(1,1)],[.c (i6 1),.t 16]⟩,⟨some 18,none,.bslc 1 4 1 234 [i6 0,.str [],i6 0,.nl] [(0,4)],[.t 17]⟩,ON 19 (.call 224 false) [.t 15,.t 18,.c .nl],MV 14 19,O1 20 (.ext
 0) 14,O1 21 (.ext 1) 14,MV 5 20,MV 6 21] (vX [MV 22 5,O1 23 (.call 64 true) 22,MV 24 6,MV 2 23,MV 3 24])))))
theorem qk0:qG Tryz.prog 165 25 2 [RV.tmp 2,RV.tmp 3] qoc:=fi Tryz.f165 [2,18] qgQ []
def qwi:C:=
 (vU [ON 2 (.nilo 0 6 119) []] (vU [⟨some 6,none,.build [.str [],i6 0] [],[]⟩,MV 7 0,⟨some 8,none,.build [i6 0,.str [],i6 0,.nl] [(0,1),(1,1)],[.c (i6 1),.t 7]⟩,⟨some
 9,none,.bslc 1 4 1 234 [i6 0,.str [],i6 0,.nl] [(0,4)],[.t 8]⟩,ON 10 (.call 224 false) [.t 6,.t 9,.c .nl],MV 5 10,O1 11 (.ext 0) 5,O1 12 (.ext 1) 5,MV 3 11,MV 4 12] (vX [MV 13
 3,MV 2 13])))
theorem qyi:qG Tryz.prog 150 14 2 [RV.tmp 2] qwi:=fi Tryz.f150 [2,9] qgQ []
end
section
open Go Go.Proofs AF
def jP:List Nat:= []
def qcX:C:=
 (vU [O1 3 (.box 0 26) 0,O1 5 (.box 1 65) 2,vO 6 0,vO 7 0] ((C.block 0 (vU [vN 15 0 5,LD 16 15,vP 17 .lss 16 1,MV 18 17,v7 19 18 0 5,v8 20 18 19,vT 21 18 (.bin .gtr) 20 (i6 3),PT
 22 18 21,MV 14 22] (C.cond (.t 14) (vX [vO 6 0,vO 7 8]) (vU [vN 24 3 5,LD 25 24,BC 26 .neq 25 (.str []),MV 27 26,P1 28 27 true (.fldA 0) 5,P1 29 27 true (.load none) 28,PC 30
 27 true (.bin .neq) 29 (i6 2),PF 31 27 30,MV 23 31] (vV 23 (vX [vO 6 0,vO 7 1])))))).seq (vU [vN 32 1 3,LD 33 32,vN 34 1 5,LD 35 34,O2 36 (.call 125 true) 33 35,MV 8 36] ((vU
 [MV 37 8,vP 38 .lss 37 0] (vV 38 (vX [vO 6 0,vO 7 6]))).seq (vU [O1 40 (.load (some 4)) 3,MV 41 8,vN 42 2 5,LD 43 42,ON 44 (.call 164 true) [.t 40,.t 41,.t 43],MV 39 44,O1 45
 (.ext 0) 39,O1 46 (.ext 1) 39,MV 9 45,MV 10 46] ((vU [MV 47 10,vP 48 .neq 47 0] (vV 48 (vX [vO 6 0,vO 7 6]))).seq (vU [MV 50 1,MV 51 9,O2 52 (.call 76 true) 50 51,MV 49 52,O1
 53 (.ext 0) 49,O1 54 (.ext 1) 49,MV 11 53,MV 10 54] ((vU [MV 55 10,vP 56 .neq 55 0,MV 57 56,vS 58 57 11,vT 59 57 (.bin .lss) 58 (i6 0),PT 60 57 59] (vV 60 (vX [vO 6 0,vO 7
 20]))).seq ((vU [vN 61 0 5,LD 62 61,vP 63 .eql 62 2] (vV 63 (vU [vN 65 3 5,LD 66 65,O1 67 (.call 165 true) 66,MV 64 67,O1 68 (.ext 0) 64,O1 69 (.ext 1) 64,MV 12 68,MV 13 69]
 ((vU [MV 70 13,vP 71 .neq 70 0] (vV 71 (vX [MV 72 13,vO 6 0,MV 7 72]))).seq (vU [MV 73 12,O1 74 .len 73,vP 75 .eql 74 0] (vV 75 (vX [vO 6 0,vO 7 5]))))))).seq (vX [MV 76 11,MV
 6 76,vO 7 0]))))))))))
theorem CS:qG Tryz.prog 95 77 2 [RV.tmp 6,RV.tmp 7] qcX:=fi Tryz.f95 [3,5] jP []
def qCC:C:=
 (vU [O1 3 (.box 0 26) 0,ON 6 (.nilo 1 1 3) [],vO 7 0] ((vU [MV 13 2,O1 14 .len 13,vP 15 .gtr 14 256] (vV 15 (vX [ON 6 (.nilo 1 1 3) [],vO 7 4]))).seq (vU [ON 8 (.nilo 2 1 3) []]
 ((vU [MV 16 2,O1 17 .len 16,vO 18 0] (C.block 0 (vU [BI 19 .lss 18 17] ((vW 19 0).seq ((C.block 1 (vU [O2 20 (.idxA 4) 16 18,O1 21 (.load (some 4)) 20,⟨some 10,none,.alloc 3 65
 [i6 0,.str [],i6 0,.str []],[]⟩,ST 4 10 21] (vU [O1 23 (.load (some 4)) 3,MV 24 1,O1 25 (.load (some 4)) 10,ON 26 (.call 95 true) [.t 23,.t 24,.t 25],MV 22 26,O1 27 (.ext 0)
 22,O1 28 (.ext 1) 22,MV 11 27,MV 12 28] ((vU [MV 29 12,vP 30 .neq 29 0] (vV 30 (vX [MV 31 12,ON 6 (.nilo 1 1 3) [],MV 7 31]))).seq (vY [MV 32 8,MV 33 11,⟨some 34,none,.bslc 4 1
 1 3 [i6 0] [(0,1)],[.t 33]⟩,O2 35 (.app 5 1 3 8) 32 34,MV 8 35]))))).seq (vY [vP 36 .add 18 1,MV 18 36])))).loop)).seq (vX [MV 37 8,MV 6 37,vO 7 0])))))
theorem qzI:qG Tryz.prog 67 38 6 [RV.tmp 6,RV.tmp 7] qCC:=fi Tryz.f67 [3,6,8,10,34,35] jP []
def qxB:C:=
 (vU [MC 4 (.bool false)] ((vU [MV 5 0,O1 6 (.call 145 true) 5] (vV 6 (vX [MV 7 1,O1 8 (.call 145 true) 7,O1 9 (.un UnOp.not) 8,MV 10 9,MG 11 10 true 1,PC 12 10 true (.bin .neq)
 11 (.str [39]),PF 13 10 12,MV 4 13]))).seq (vX [MC 4 (.bool true)])))
theorem qo2:qG Tryz.prog 70 14 0 [RV.tmp 4] qxB:=fi Tryz.f70 [] jP []
def qEJ:C:=
 (vU [O1 4 (.box 0 26) 0,O1 5 (.box 1 3) 1,O1 6 (.box 2 3) 2,O1 7 (.box 3 3) 3,MC 8 .nilfn] (vX [ON 9 (.mkfn (Fn.func 146) 0) [.t 5,.t 6,.t 4,.t 7],MV 8 9]))
theorem qDj:qG Tryz.prog 72 10 4 [RV.tmp 8] qEJ:=fi Tryz.f72 [4,5,6,7] jP []
def qwe:C:=
 (vU [LD 8 1,MV 6 8] (C.block 0 ((vU [MV 9 6,LD 10 2,BI 11 .lss 9 10] (vW 11 0)).seq ((C.block 1 (vU [vN 14 3 3,LD 15 14,MV 16 6,O2 17 (.idxA 1) 15 16,LD 18 17,LD 19 4,O2 20
 (.idxA 1) 18 19,LD 21 20,MV 7 21] (vU [MV 22 7,vP 23 .geq 22 0,MV 24 23,MG 25 24 true 0,P1 26 24 true (.fldA 2) 3,P1 27 24 true (.load none) 26,P1 28 24 true (.load none) 4,P2
 29 24 true (.idxA 1) 27 28,P1 30 24 true (.load none) 29,MG 31 24 true 7,P2 32 24 true (.idxA 6) 30 31,P1 33 24 true (.load (some 6)) 32,MG 34 24 true 6,⟨some 35,some
 (24,true),.build [.str [],.str [],.str [],i6 0,i6 0,.str [],i6 0] [(0,6),(6,1)],[.t 33,.t 34]⟩,P2 36 24 true .callv 25 35,P1 37 24 true (.un UnOp.not) 36,PF 38 24 37] (vV 38
 C.ret)))).seq (vZ 12 6))).loop))
theorem qye:qG Tryz.prog 146 39 0 [] qwe:=fi Tryz.f146 [] jP []
def qEK:C:=
 (vU [⟨some 0,none,.alloc 0 142 [.nilfn,.nilfn,.nilfn,.nilfn],[]⟩] (vX [⟨some 1,none,.build [.nilfn,.nilfn,.nilfn,.nilfn] [(1,1),(2,1),(3,1)],[.c (.fn (Fn.func 147) [] []),.c
 (.fn (Fn.func 149) [] []),.c (.fn (Fn.func 151) [] [])]⟩,ST 4 0 1]))
theorem qDk:qG Tryz.prog 73 2 1 [RV.cell 0 (some 4)] qEK:=fi Tryz.f73 [0] jP []
def qwf:C:=
 (vU [O1 3 (.box 0 26) 0,O1 4 (.box 1 39) 1,O1 5 (.box 2 65) 2,ON 6 (.nilo 3 7 131) []] (vX [O1 7 (.load (some 4)) 3,vN 8 0 4,LD 9 8,vN 10 1 4,LD 11 10,vN 12 1 3,LD 13 12,vN 14 1
 5,LD 15 14,O2 16 (.call 125 true) 13 15,ON 17 (.call 72 true) [.t 7,.t 9,.t 11,.t 16],O1 18 (.call 148 true) 17,MV 6 18]))
theorem qyf:qG Tryz.prog 147 19 4 [RV.tmp 6] qwf:=fi Tryz.f147 [3,4,5,6] jP []
def qwh:C:=
 (vU [O1 3 (.box 0 26) 0,O1 4 (.box 1 39) 1,O1 5 (.box 2 65) 2,ON 6 (.nilo 3 7 131) []] (vU [ON 7 (.nilo 4 7 131) []] ((vU [vN 10 3 5,LD 11 10,O1 12 (.call 150 true) 11,O1 13
 .len 12,vO 14 0] (C.block 0 (vU [BI 15 .lss 14 13] ((vW 15 0).seq ((C.block 1 (vU [O2 16 (.idxA 6) 12 14,O1 17 (.load (some 6)) 16,⟨some 9,none,.alloc 5 119 [.str [],.str
 [],.str [],i6 0,i6 0,.str []],[]⟩,ST 6 9 17] (vU [vN 18 4 9,LD 19 18,vP 20 .andNot 19 4,vN 21 4 9,ST 1 21 20] (vU [vN 22 5 9,⟨none,none,.store 1,[.t 22,.c (.str [])]⟩] (vY [MV
 23 7,O1 24 (.load (some 6)) 9,vN 25 0 4,LD 26 25,⟨some 27,none,.build [.str [],.str [],.str [],i6 0,i6 0,.str [],i6 0] [(0,6),(6,1)],[.t 24,.t 26]⟩,⟨some 28,none,.bslc 6 7 1
 131 [.str [],.str [],.str [],i6 0,i6 0,.str [],i6 0] [(0,7)],[.t 27]⟩,O2 29 (.app 7 7 131 88) 23 28,MV 7 29]))))).seq (vY [vP 30 .add 14 1,MV 14 30])))).loop)).seq (vX [MV 31
 7,MV 6 31]))))
theorem qyh:qG Tryz.prog 149 32 8 [RV.tmp 6] qwh:=fi Tryz.f149 [3,4,5,6,7,9,28,29] jP []
def qwj:C:=
 (vU [O1 3 (.box 0 26) 0,O1 4 (.box 1 39) 1,O1 5 (.box 2 65) 2,ON 6 (.nilo 3 7 131) []] (vX [ON 6 (.nilo 3 7 131) []]))
theorem qyj:qG Tryz.prog 151 7 4 [RV.tmp 6] qwj:=fi Tryz.f151 [3,4,5,6] jP []
def qwg:C:=
 (vU [ON 2 (.nilo 0 7 131) []] (vX [MV 3 0,ON 4 (.call 223 true) [.c .nl,.t 3],MV 2 4]))
theorem qyg:qG Tryz.prog 148 5 1 [RV.tmp 2] qwg:=fi Tryz.f148 [2] jP []
def qCz:C:=
 (vU [O1 4 (.box 0 26) 0,ON 8 (.nilo 1 1 3) [],vO 9 0] (vU [O1 17 (.load (some 4)) 4,MV 18 1,MV 19 2,MV 20 3,ON 21 (.call 17 true) [.t 17,.t 18,.t 19,.t 20],MV 16 21,O1 22 (.ext
 0) 16,O1 23 (.ext 1) 16,MV 10 22,MV 11 23] ((vU [MV 24 11,vP 25 .neq 24 0] (vV 25 (vX [MV 26 11,ON 8 (.nilo 1 1 3) [],MV 9 26]))).seq (vU [ON 12 (.nilo 2 1 3) []] ((vU [MV 27
 1,O1 28 .len 27,vO 29 0] (C.block 0 (vU [BI 30 .lss 29 28] ((vW 30 0).seq ((C.block 1 (vU [MV 31 29,O2 32 (.idxA 3) 27 29,O1 33 (.load (some 3)) 32,⟨some 14,none,.alloc 3 39
 [i6 0,i6 0,.nl],[]⟩,MV 13 31,ST 3 14 33] (vU [MV 34 10,MV 35 13,O2 36 (.call 90 true) 34 35,⟨some 15,none,.alloc 4 22 [.nl],[]⟩,ST 1 15 36] (vY [MV 37 12,vN 38 2 14,LD 39 38,O1
 40 (.mkfn (Fn.func 92) 0) 15,O2 41 (.call 91 true) 39 40,⟨some 42,none,.bslc 5 1 1 3 [i6 0] [(0,1)],[.t 41]⟩,O2 43 (.app 6 1 3 8) 37 42,MV 12 43])))).seq (vY [vP 44 .add 29
 1,MV 29 44])))).loop)).seq (vX [MV 45 12,MV 8 45,vO 9 0]))))))
theorem qyW:qG Tryz.prog 27 46 7 [RV.tmp 8,RV.tmp 9] qCz:=fi Tryz.f27 [4,8,12,14,15,42,43] jP []
def qER:C:=
 (vU [O1 2 (.box 0 152) 0,MC 3 (.bool false)] (vX [vN 4 0 2,LD 5 4,LD 6 1,O2 7 (.call 18 true) 5 6,MV 3 7]))
theorem qDr:qG Tryz.prog 92 8 1 [RV.tmp 3] qER:=fi Tryz.f92 [2] jP []
def qob:C:=
 (vU [O1 3 (.box 0 26) 0,O1 4 (.box 1 3) 1,O1 5 (.box 2 3) 2,vO 6 0,vO 7 0] ((vU [O1 8 (.load (some 4)) 3,O1 9 (.call 47 true) 8,vP 10 .neq 9 0] (vV 10 (vX [vO 6 0,vO 7 1]))).seq
 ((vU [LD 11 4,vP 12 .lss 11 0,MV 13 12,v8 14 13 4,v7 15 13 1 3,v8 16 13 15,vQ 17 13 .len 16,vR 18 13 (.bin .geq) 14 17,PT 19 13 18,MV 20 19,v8 21 20 5,vT 22 20 (.bin .lss) 21
 (i6 0),PT 23 20 22,MV 24 23,v8 25 24 5,v7 26 24 2 3,v8 27 24 26,v8 28 24 4,vR 29 24 (.idxA 1) 27 28,v8 30 24 29,vQ 31 24 .len 30,vR 32 24 (.bin .geq) 25 31,PT 33 24 32] (vV 33
 (vX [vO 6 0,vO 7 2]))).seq (vX [vN 34 3 3,LD 35 34,O2 36 (.mkfn (Fn.func 240) 0) 4 5,O2 37 (.call 239 true) 35 36,MV 6 37,vO 7 0]))))
theorem qkZ:qG Tryz.prog 164 38 3 [RV.tmp 6,RV.tmp 7] qob:=fi Tryz.f164 [3,4,5] jP []
def qwL:C:=
 (vU [MC 4 (.bool false)] (vX [MV 5 0,LD 6 1,O2 7 (.idxA 1) 5 6,LD 8 7,LD 9 2,BI 10 .eql 8 9,MV 4 10]))
theorem qyN:qG Tryz.prog 240 11 0 [RV.tmp 4] qwL:=fi Tryz.f240 [] jP []
end
section
open Go Go.Proofs AF HY LN
namespace AF
theorem ACalls.frzd{P:Program}{f:FuncId}{args:wi}{h h':wh}{r:AV}(ks:List Nat)(hs:dr ks h=true)(hc:ACalls P f (args.map (frz (λk=>ks.contains k) h 8)) (qbU ks h) r h'):ACalls P f args h r h':=by
 refine⟨hc.1,λw σ xs H hv=> ?_⟩;obtain⟨σ1,g1,g2,g3,g4⟩:=qeM ks H hs;have hv1:VRs w σ1 (args.map (frz (λk=>ks.contains k) h 8)) xs:=⟨by rw[hv.1];simp,λi c x hc hx=>by
  rw[List.getElem?_map,Option.map_eq_some_iff]at hc;obtain⟨c0,hc,rfl⟩:=hc
  exact qlc H (λb hb=>(g4 b hb).elim λj ⟨o,h1,h2,h3⟩=>⟨j,o,by simpa using h1,h2,h3⟩) (λj o hj ho=>g3 j o (by simpa using hj) ho) 8 (hv.2 i c0 x hc hx)⟩
 refine (hc.2 w σ1 xs g1 hv1).mono ?_;rintro e w' ⟨v,σ',rfl,k1,k2,k3⟩;exact⟨v,σ',rfl,k1,k2,g2.trans k3⟩
end AF
namespace RC
def qdk(b:List Tk):List Str:=b.map Tk.text
theorem qqO(s:Str):(qhl s).length<=s.length:=by
 unfold qhl;split
 ·exact UC s
 ·exact nzl _
theorem qGO(b:List Tk)(h:wh)(hn:b.length<=1000000):ACalls Tryz.prog 64 [zy b] h (strs (qdk b)) h:=by
 refine acO qDi ?_;simp (disch:=omega) only[qEI,zy,go_sem];refine qk (T:=λs:Nat×Nat×AObj×AObj=>qP 19 [(6,zy b),(7,.int .i64 b.length),(8,.int .i64 s.1),(3,.osl (h.length+1) s.2.1 1 0 s.1)])
  (H:=λs=>h++ [.emp 1,zw s.2.1 9 (jF (qdk (b.take s.1))),s.2.2.1,s.2.2.2,.emp 0])
  (inv:=λs=>s.1<=b.length∧qz [s.2.2.1] 0=true∧qz [s.2.2.2] 0=true) (m:=λs=>b.length-s.1) (0,1,.emp 0,.emp 0) ⟨nzl _,rfl,rfl⟩ (Wk.temps ?_) ?_
 ·(simp only[zy,go_sem,qf,qc,qa,qe];try exact we)
 rintro⟨i,v,O1,O2⟩ ⟨i1,i2,i3⟩ K hK;simp only at i1 i2 i3 hK;have i2': ∀m,qz (O1::m) 0=true:=λ_=>i2
 have i3': ∀m,qz (O2::m) 0=true:=λ_=>i3
 have eL:(qdk (b.take i)).length=i:=by unfold qdk;rw[List.length_map,List.length_take];omega
 by_cases hi:i<b.length
 ·have k1:((i:Int)<b.length)=True:=wj;have hS:qdk (b.take (i+1))=qdk (b.take i)++ [(b.getD i default).text]:=by
   unfold qdk;rw[List.take_add_one,zD hi,gdqA,zD hi,List.map_append];rfl
  obtain⟨L,hL⟩:=wg (qdk (b.take i))
  rw[<-hL]at hS eL ⊢;obtain⟨w,hw⟩:=wg (b.getD i default)
  have ew:=hw.symm;rw[ew]at hS;have eC:=jG L;have eTk:List.take i (jF L)=jF L:=ltl om;simp (disch:=omega) only[zy,tkC,k1,ew,i2',i3',eC,eL,eTk,Nat.mul_one,go_sem]
  repeat' first|with_reducible apply aiA|exact clz|fail
  have eA:jF L++ [AV.str w.text]=jF (L++ [w.text]):=by simp[jF]
  have eD:(AV.str w.text::List.drop 1 (zM [AV.str []] 1))= [AV.str w.text]:=rfl;rw[eA,eD];refine hK _ _ (i+1,v+1,.mem (qo (some O1)+1) 119 (tkC w),.mem (qo (some O2)+1) 9 [.str w.text]) ⟨hi,rfl,rfl⟩ (by simp only;omega) ?_;simp only[hS,tkC];refine Wk.temps ?_
  (simp only[zy,tkC,go_sem,qf,qc,qa,qe];try exact we)
 have k1:((i:Int)<b.length)=False:=wl;obtain rfl:i=b.length:=by omega
 rw[List.take_length]at eL ⊢;simp (disch:=omega) only[k1,go_sem]
 repeat' first|(apply qb;exact rvk;simp only[go_sem])
 exact qa0 (λ_=>rfl) eL.symm
theorem qBn(s:Str)(h:wh)(hl:s.length<=1000)(hs:s≠ [])(hc:zz s=0)(hg:jf h frmN frmC):ACalls Tryz.prog 224 [.agg [.str [],.int .i64 0],.osl (h.length+1) 1 4 0 1,.nl] (h++ [.emp 1,.mem 1 234 (.int .i64 1:: .str s:: .int .i64 0:: .nl::List.drop 4 (zM [.int .i64 0,.str [],.int .i64 0,.nl] 1))]) (.tup [zy (qhl s),.int .i64 (qcA s)]) (h++ [.emp 1,.emp 2]):=by
 have c1:=qD9 s (h++ [.emp 1,.emp 2]) hl hs hc hg.app;refine ACalls.frzd [h.length+1] ?s1 ?s2
 case s1=>simp only[dr,go_sem]
 case s2=>
  simp only[List.map_cons,List.map_nil,qbU,go_sem];have e: [h.length+1].contains (h.length+1)=true:=by simp
  simp only[e,if_true];refine c1.le ⟨qi,?_,qi,trivial⟩ (qi);unfold zY;refine VLe.sl_eq rfl (λi hi=> ?_);obtain rfl:i=0:=by omega
  rfl
theorem qE9(s:Str)(h:wh)(hl:s.length<=1000)(hg:jf h frmN frmC):ACalls Tryz.prog 165 [.str s] h (.tup [strs (if zz s≠0 then [] else qdk (qhl s)),.int .i64 (qd2 s)]) h:=by
 have c0: ∀h,ACalls Tryz.prog 219 [.str s] h (.int .i64 (zz s)) h:=λh=>qD5 s h om
 unfold qd2
 by_cases g:zz s=0
 case neg=>
  have k1:(zz s=0)=False:=eqf g;rw[ipo g,ipo g];refine acO qk0 ?_;simp (disch:=omega) only[qoc,go_sem]
  repeat' first|(refine cA (c0 _) flk ?_;simp (disch:=omega) only[k1,go_sem])|(apply qb;exact rvk;simp only[go_sem])
  exact VLe.tup ⟨qU,qi,trivial⟩
 rw[ine (by simpa using g),ine (by simpa using g)];rw[g]at c0
 by_cases hs:s= []
 ·subst hs;refine acO qk0 ?_;simp (disch:=omega) only[qoc,go_sem]
  repeat' first|(refine cA (c0 _) flk ?_;simp (disch:=omega) only[go_sem])|(apply qb;exact rvk;simp only[go_sem])
  exact VLe.tup ⟨qU,qi,trivial⟩
 have k2:(s= [])=False:=eqf hs;have c2:=λh=>qGO (qhl s) h (Nat.le_trans (qqO s) om)
 refine acO qk0 ?_;simp (disch:=omega) only[qoc,go_sem]
 repeat' first|(refine cA (c0 _) flk ?_;simp (disch:=omega) only[k2,go_sem])
 refine qE (qBn s h hl hs g hg) (by exact flk) ?_;simp (disch:=omega) only[go_sem]
 repeat' first|(refine cA (c2 _) flk ?_;simp (disch:=omega) only[go_sem])|exact wa|with_reducible apply aiA|exact clz|fail
theorem qFw(s:Str)(h:wh)(hl:s.length<=1000)(hs:s≠ [])(hc:zz s=0)(hg:jf h frmN frmC):ACalls Tryz.prog 150 [.str s] h (zy (qhl s)) h:=by
 refine acO qyi ?_;simp (disch:=omega) only[qwi,go_sem];refine qE (qBn s h hl hs hc hg) (by exact flk) ?_;simp (disch:=omega) only[go_sem]
 repeat' first|exact wa|with_reducible apply aiA|exact clz|fail
end RC
end
section
open Go Go.Proofs AF HY LN
namespace RC
theorem UI{x:Co}{l:List Un}(h:qbc x l=true){k:Nat}(hk:k<l.length):(l.getD k default).frm=frN l k∧(l.getD k default).to=toN l k∧frN l k<toN l k∧toN l k<=x.col.length∧(l.getD k default).rds=qbL x (frN l k) (toN l k):=by
 have ho:=qd7 h;have hm:l.getD k default∈l:=by
  rw[gdqA,zD hk];exact List.getElem_mem hk
 obtain⟨h1,h2,h3,h4⟩:=ho.rg _ hm;unfold frN toN;refine⟨om,om,om,om,h4⟩
theorem qvb{x:Co}{l:List Un}(h:qbc x l=true){j k:Nat}(hj:j<k)(hk:k<l.length):toN l j<frN l k:=by
 have ho:=qd7 h;have hp:=List.pairwise_iff_getElem.1 ho.pw j k om hk hj;have e: ∀i (hi:i<l.length),l.getD i default=l[i]:=λi hi=>by rw[gdqA,zD hi];rfl
 obtain⟨a1,a2,_⟩:=UI h (show j<l.length by omega);obtain⟨b1,b2,_⟩:=UI h hk;rw[e j om]at a1 a2;rw[e k hk]at b1 b2;omega
theorem qg1{x:Co}{l:List Un}(h:qbc x l=true){k:Nat}(hk:k<l.length):jq l k<=frN l k:=by
 unfold jq;split
 ·exact nzl _
 ·exact Nat.le_of_lt (qvb h om hk)
theorem qdL{x:Co}{l:List Un}(h:qbc x l=true){k:Nat}(hk:k<=l.length):jq l k<=x.col.length:=by
 unfold jq;split
 ·exact nzl _
 ·exact (UI h (show k-1<l.length by omega)).2.2.2.1
theorem qg2(l:List Un)(k:Nat):jq l (k+1)=toN l k:=by unfold jq;rw[ine om,Nat.add_sub_cancel]
theorem qzR{x:Co}{l:List Un}(h:qbc x l=true){k c:Nat}(hk:k<l.length)(h1:frN l k<=c)(h2:c<toN l k):fnU l (c:Int)=k:=by
 obtain⟨a1,a2,_⟩:=UI h hk;exact qzQ h hk om om
theorem qzS{x:Co}{l:List Un}(h:qbc x l=true){k c:Nat}(hk:k<=l.length)(h1:jq l k<=c)(h2:k<l.length->c<frN l k):fnU l (c:Int)= -1:=by
 obtain⟨g1,g2⟩:=qla l (c:Int)
 by_cases hn:fnU l (c:Int)<0
 ·omega
 exfalso;obtain⟨j,hj⟩: ∃j:Nat,fnU l (c:Int)=j:=⟨(fnU l (c:Int)).toNat,om⟩
 obtain⟨j1,j2,j3⟩:=qgO hj;obtain⟨a1,a2,_⟩:=UI h j1;rcases Nat.lt_or_ge j k with e|e
 ·have:toN l j<=jq l k:=by
   unfold jq;rw[ine om];rcases Nat.lt_or_ge j (k-1)with e2|e2
   ·have:=qvb h e2 om
    obtain⟨_,_,b3,_⟩:=UI h (show k-1<l.length by omega);omega
   ·have:j=k-1:=by omega
    subst this;exact nlr _
  omega
 ·have h3:=h2 om;rcases Nat.lt_or_ge k j with e2|e2
  ·have:=qvb h e2 j1
   obtain⟨_,_,b3,_⟩:=UI h (show k<l.length by omega);omega
  ·have:j=k:=by omega
   subst this;omega
def rwc(x:Co)(l:List Un)(d:List Dc)(s:Nat)(c:Nat):List Rw:=
 if fnU l (c:Int)<0 then [⟨pcT x s c,-1,-1⟩] else if (l.getD (fnU l (c:Int)).toNat default).frm=c then rwU x l d s (fnU l (c:Int)).toNat else []
def rwS(x:Co)(l:List Un)(d:List Dc)(s:Nat):Nat->List Rw
 |0=> []
 |c+1=>rwS x l d s c++rwc x l d s c
theorem qky{x:Co}{l:List Un}(hc:cvA x l=true)(ho:CoOk x){s c:Nat}(hs:s<x.sig.length)(h:c<x.col.length)(hf:fnU l (c:Int)<0):pcB x s c=true∧clT x c s=clT x c 0∧clT x c s≠none:=by
 unfold cvA at hc;rw[Bool.not_eq_true',qp]at hc;have h1:=hc c h;rw[Bool.and_eq_false_iff,Bool.not_eq_false',Bool.not_eq_false']at h1;rcases h1 with h1|h1
 ·exfalso;unfold cvB at h1;obtain⟨i,hi,hv⟩:=qN.1 h1;rw[Bool.and_eq_true,decide_eq_true_iff,decide_eq_true_iff]at hv;exact qrE hf hi hv
 ·unfold cmB at h1;rw[Bool.not_eq_true',qp]at h1;have h2:=h1 s hs;rw[Bool.or_eq_false_iff,Bool.not_eq_false',decide_eq_false_iff_not,decide_eq_true_iff]at h2;refine⟨?_,h2.2,h2.1⟩;have h3:=h2.1;unfold clT at h3;unfold pcB
  by_cases g:(x.col.getD c []).getD s 0<0
  ·rw[ipo g]at h3;exact absurd rfl h3
  ·simpa using g
theorem qqd(x:Co)(s f:Nat):rwC x s f f= []:=by unfold rwC;rw[Nat.sub_self];rfl
theorem qqe{x:Co}{s f t:Nat}(h:f<=t):rwC x s f (t+1)=rwC x s f t++if pcB x s t=true then [⟨pcT x s t,-1,-1⟩] else []:=by
 unfold rwC;rw[show t+1-f=(t-f)+1 by omega];show rwM (spk x s f (t-f)++if pcB x s (f+(t-f))=true then [pcT x s (f+(t-f))] else []) (-1) (-1)=_;rw[show f+(t-f)=t by omega];unfold rwM;rw[List.map_append];congr 1;split<;>rfl
theorem quM{x:Co}{l:List Un}(d:List Dc){s:Nat}(h:qbc x l=true)(hc:cvA x l=true)(ho:CoOk x)(hs:s<x.sig.length):
  ∀k,k<=l.length-> ∀m,jq l k<=m->m<=x.col.length->(k<l.length->m<=frN l k)->rwS x l d s m=rwL x l d s k++rwC x s (jq l k) m:=by
 have com: ∀k,k<=l.length-> ∀i,jq l k+i<=x.col.length->(k<l.length->jq l k+i<=frN l k)->rwS x l d s (jq l k)=rwL x l d s k->rwS x l d s (jq l k+i)=rwL x l d s k++rwC x s (jq l k) (jq l k+i):=by
  intro k hk i
  induction i with
  |zero=>
   intro h1 h2 h3;rw[Nat.add_zero,qqd,lan,h3]
  |succ i ih=>
   intro h1 h2 h3;have e:=ih om (λhk=>by have:=h2 hk;omega) h3;show rwS x l d s (jq l k+i)++rwc x l d s (jq l k+i)=_;have f:=qzS h hk (c:=jq l k+i) (Nat.le_add_right _ _) (λhk=>by have:=h2 hk;omega);have hp:=qky hc ho hs (c:=jq l k+i) om om;rw[e,<-Nat.add_assoc,qqe (Nat.le_add_right _ _),ipo hp.1,List.append_assoc];congr 2;unfold rwc;rw[ipo om]
 have key: ∀k,k<=l.length->rwS x l d s (jq l k)=rwL x l d s k:=by
  intro k
  induction k with
  |zero=>intro _;rfl
  |succ k ih=>
   intro hk;have h1:=ih om;have hpl:=qg1 h (show k<l.length by omega);obtain⟨a1,a2,a3,a4,_⟩:=UI h (show k<l.length by omega);have h2:=com k om (frN l k-jq l k) om (λ_=>by omega) h1;rw[show jq l k+(frN l k-jq l k)=frN l k by omega]at h2;have h3: ∀i,frN l k+1+i<=toN l k->rwS x l d s (frN l k+1+i)=rwL x l d s (k+1):=by
    intro i
    induction i with
    |zero=>
     intro _;show rwS x l d s (frN l k)++rwc x l d s (frN l k)=_;have f:=qzR h (show k<l.length by omega) (nlr (frN l k)) a3;unfold rwc;rw[f,ine om,itn,ipo a1,h2];show _=rwL x l d s k++(rwC x s (jq l k) (frN l k)++rwU x l d s k);rw[List.append_assoc]
    |succ i ih2=>
     intro hi;show rwS x l d s (frN l k+1+i)++rwc x l d s (frN l k+1+i)=_;have f:=qzR h (c:=frN l k+1+i) (show k<l.length by omega) om om;rw[ih2 om];unfold rwc;rw[f,ine om,itn,ine (by rw[a1];omega),lan]
   have h4:=h3 (toN l k-(frN l k+1)) om;rw[show frN l k+1+(toN l k-(frN l k+1))=toN l k by omega]at h4;rw[qg2];exact h4
 intro k hk m h1 h2 h3
 have:=com k hk (m-jq l k) om (λhk=>by have:=h3 hk;omega) (key k hk)
 rwa [show jq l k+(m-jq l k)=m by omega]at this
theorem quL{x:Co}{l:List Un}(d:List Dc){s:Nat}(h:qbc x l=true)(hc:cvA x l=true)(ho:CoOk x)(hs:s<x.sig.length):rwS x l d s x.col.length=rwA x l d s:=
 quM d h hc ho hs l.length (nlr _) _ (qdL h (nlr _)) (nlr _) (λh=>absurd h (Nat.lt_irrefl _))
theorem qxK{col:List (List Int)}{s t:Nat}: ∀ {n:Nat},t<cnC col s n-> ∃k,k<n∧(col.getD k []).getD s 0≠ -1∧cnC col s k=t:=by
 intro n
 induction n with
 |zero=>intro h;exact absurd h (nnz _)
 |succ n ih=>
  intro h;unfold cnC at h
  by_cases g:t<cnC col s n
  ·obtain⟨k,h1,h2⟩:=ih g;exact⟨k,om,h2⟩
  ·split at h
   ·omega
   ·rename_i g2;exact⟨n,Nat.lt_succ_self n,g2,om⟩
theorem qaG{x:Co}(ho:CoOk x){s:Nat}(hs:s<x.sig.length){t:Int}(h0:0<=t)(ht:t<((x.tok.getD s []).length:Int)):0<=kD x s t∧kD x s t<x.col.length:=by
 obtain⟨k,k1,k2,k3⟩:=qxK (col:=x.col) (s:=s) (t:=t.toNat) (n:=x.col.length) (by rw[ho.ct s hs];omega);unfold kD;rcases zE (λk=>decide ((x.col.getD k []).getD s 0=t)) x.col.length with⟨i,g1,g2,_,g4⟩|⟨g1,g2⟩
 ·rw[g4];omega
 ·have:=g1 k k1
  rcases ho.ce k k1 s hs with e|⟨e,_⟩
  ·exact absurd e k2
  ·rw[decide_eq_false_iff_not]at this;exact absurd (by rw[e,k3];omega) this
theorem qFu(c:List Int)(s:Nat)(t:Int)(h:wh)(hs:s<c.length)(hc:c.length<=1000000000):ACalls Tryz.prog 240 [qx c,.ip [.int .i64 (s:Int)],.ip [.int .i64 t]] h (.bool (decide (c.getD s 0=t))) h:=by
 have k0:(0<=(s:Int))=True:=wj;have k1:((s:Int)<c.length)=True:=wj;refine acO qyN ?_;simp (disch:=omega) only[qwL,qx,k0,k1,go_sem]
 repeat' first|exact wc|with_reducible apply aiA|exact clz|fail
theorem qFS(col:List (List Int))(s:Nat)(t:Int)(k v k2 v2:Nat)(h:wh)(hk:qu k h=some (.mem v 3 [.int .i64 (s:Int)]))(hk2:qu k2 h=some (.mem v2 3 [.int .i64 t]))(hl:col.length<=1000000000)(hm: ∀i,i<col.length->s<(col.getD i []).length∧(col.getD i []).length<=1000000000):
  ACalls Tryz.prog 239 [qv col,.fn (.func 240) [] [.op k v 0,.op k2 v2 0]] h (.int .i64 (qbE (λi=>decide ((col.getD i []).getD s 0=t)) col.length 0)) h:=by
 have hc:=qR hk;have hc2:=qR hk2;unfold qv;refine qeG qyM col.length (λj=> [qx (col.getD j [])]) (λj=>qx (col.getD j [])) _ [] [.op k v 0,.op k2 v2 0] _ h (λi _=>⟨rfl,by simp[kv],rfl,rfl,rfl⟩) (λi hi=> ?_) om;refine ACalls.borrow ?_ rfl;have e:([qx (col.getD i [])]++ [AV.op k v 0,AV.op k2 v2 0]).map (rei (λ_=>true) h 8)= [qx (col.getD i []),.ip [.int .i64 (s:Int)],.ip [.int .i64 t]]:=by
  simp only[lca,lna,List.map_cons,List.map_nil,rei_op,if_true,hc,hc2,ipOf_some,List.drop_zero];rfl
 rw[lna,e];exact qFu _ s t _ (hm i hi).1 (hm i hi).2
theorem qCV(x:Co)(s:Nat)(t:Int)(h:wh)(hz:qbd x)(hp:cb SG h)(h1:coE x=0)(hs:s<x.sig.length):ACalls Tryz.prog 164 [.agg (coC x),.int .i64 (s:Int),.int .i64 t] h (.tup [.int .i64 (if 0<=t∧t<((x.tok.getD s []).length:Int) then kD x s t else 0),.int .i64 (if 0<=t∧t<((x.tok.getD s []).length:Int) then 0 else 2)]) h:=by
 have ho:=qag h1;have hsg:=hz.sg;have htl:=hz.tl s;have htn:=ho.tn;have c1:=λl=>coP x (h++l) hz (hp.app l)
 simp only[h1]at c1;have zu: ∀g l,valL g .len [zy l]= .int .i64 l.length:=λ_ _=>rfl
 have zv: ∀g l,okL g .len [zy l]=True:=λ_ _=>eqt trivial
 have k0:((s:Int)<0)=False:=wl;have k1:((x.sig.length:Int)<=s)=False:=wl;have k5:(0<=(s:Int))=True:=wj;have k6:((s:Int)<x.tok.length)=True:=wj
 by_cases g:0<=t∧t<((x.tok.getD s []).length:Int)
 ·rw[ipo g,ipo g];have k2:(t<0)=False:=wl;have k3:(((x.tok.getD s []).length:Int)<=t)=False:=wl;have c2:=qFS x.col s t (h.length+1) 1 (h.length+2) 1 (h++ [.mem 1 26 (coC x),.mem 1 3 [.int .i64 (s:Int)],.mem 1 3 [.int .i64 t]]) (by simp only[go_sem]) (by simp only[go_sem]) hz.cl (λi hi=>⟨by rw[ho.cl i hi];exact hs,hz.ce i⟩);unfold coC at c1 c2;refine acO qkZ ?_;simp (disch:=omega) only[qob,coC,qn,strs,go_sem]
  repeat' first|((first|refine cA (c1 _) ?_ ?_|refine cA (c2) ?_ ?_);exact flk;simp (disch:=omega) only[k0,k1,k2,k3,k5,k6,zu,zv,go_sem])|exact wa|with_reducible apply aiA|exact clz|fail
 ·rw[ine g,ine g];unfold coC at c1
  by_cases g2:t<0
  ·have k2:(t<0)=True:=wj;refine acO qkZ ?_;simp (disch:=omega) only[qob,coC,qn,strs,go_sem]
   repeat' first|(refine cA (c1 _) flk ?_;simp (disch:=omega) only[k0,k1,k2,k5,k6,zu,zv,go_sem])|exact wa|with_reducible apply aiA|exact clz|fail
  ·have k2:(t<0)=False:=wl;have k3:(((x.tok.getD s []).length:Int)<=t)=True:=wj;refine acO qkZ ?_;simp (disch:=omega) only[qob,coC,qn,strs,go_sem]
   repeat' first|(refine cA (c1 _) flk ?_;simp (disch:=omega) only[k0,k1,k2,k3,k5,k6,zu,zv,go_sem])|exact wa|with_reducible apply aiA|exact clz|fail
theorem qFU(b s:Str)(h:wh)(hb:b.length<=1000000000)(hs:s.length<=1000000000):ACalls Tryz.prog 70 [.str b,.str s] h (.bool (qvE b s)) h:=by
 have c1:=λh=>t88 b h hb
 have c2:=λh=>t88 s h hs
 unfold qvE;cases g1:ke b with
 |false=>
  rw[g1]at c1;rw[ine (by decide)];refine acO qo2 ?_;simp (disch:=omega) only[qxB,go_sem]
  repeat' first|(refine cA (c1 _) flk ?_;simp (disch:=omega) only[go_sem])|exact wc|fail
 |true=>
  rw[g1]at c1;rw[ipo rfl];cases g2:ke s with
  |true=>
   rw[g2]at c2;refine acO qo2 ?_;simp (disch:=omega) only[qxB,go_sem]
   repeat' first|((first|refine cA (c1 _) ?_ ?_|refine cA (c2 _) ?_ ?_);exact flk;simp (disch:=omega) only[go_sem])|exact wc|fail
  |false=>
   rw[g2]at c2
   by_cases g3:s= [39]
   ·subst g3;refine acO qo2 ?_;simp (disch:=omega) only[qxB,go_sem]
    repeat' first|((first|refine cA (c1 _) ?_ ?_|refine cA (c2 _) ?_ ?_);exact flk;simp (disch:=omega) only[go_sem])|exact wc|fail
   ·have k3:(s= [39])=False:=eqf g3;rw[dqf g3];refine acO qo2 ?_;simp (disch:=omega) only[qxB,go_sem]
    repeat' first|((first|refine cA (c1 _) ?_ ?_|refine cA (c2 _) ?_ ?_);exact flk;simp (disch:=omega) only[k3,go_sem])|exact wc|fail
def dpN(x:Co)(l:List Un)(o:Dc):Int:=if qao x l o=0 then kQ x l o else 0
theorem dpP(x:Co)(l:List Un)(o:Dc)(h:wh)(hz:qbd x)(hu:qcS l)(hp:cb SG h)(hg:jf h frmN frmC)(h1:coE x=0)(ht:o.txt.length<=1000):ACalls Tryz.prog 95 [.agg (coC x),qZ l,.agg (dcC o)] h (.tup [.int .i64 (dpN x l o),.int .i64 (qao x l o)]) h:=by
 have ho:=qag h1;unfold dpN;have hE:qao x l o=(if o.kind<1∨3<o.kind then 8 else if o.txt≠ []∧o.kind≠2 then 1 else if tkB x o=false then 6 else if kQ x l o<0 then 20 else cjE o):=rfl
 by_cases g1:o.kind<1
 ·have k1:(o.kind<1)=True:=eqt g1;rw[ipo (.inl g1)]at hE;rw[hE,ine (by decide)];refine acO CS ?_;simp (disch:=omega) only[qcX,coC,dcC,k1,go_sem]
  repeat' first|exact wa|fail
 have k1:(o.kind<1)=False:=eqf g1
 by_cases g2:3<o.kind
 ·have k2:(3<o.kind)=True:=eqt g2;rw[ipo (.inr g2)]at hE;rw[hE,ine (by decide)];refine acO CS ?_;simp (disch:=omega) only[qcX,coC,dcC,k1,k2,go_sem]
  repeat' first|exact wa|fail
 have k2:(3<o.kind)=False:=eqf g2;rw[ine (λe=>e.elim g1 g2)]at hE
 by_cases g3:o.txt≠ []∧o.kind≠2
 ·have k3:(o.txt= [])=False:=eqf g3.1;have k4:(o.kind=2)=False:=eqf g3.2;rw[ipo g3]at hE;rw[hE,ine (by decide)];refine acO CS ?_;simp (disch:=omega) only[qcX,coC,dcC,k1,k2,k3,k4,go_sem]
  repeat' first|exact wa|with_reducible apply aiA|exact clz|fail
 rw[ine g3]at hE;have c1:=λh=>qtQ x.sig.length (λj=>x.sig.getD j []) o.sig h hz.sg
 have hS:qbE (λj=>decide (o.sig=x.sig.getD j [])) x.sig.length 0=qX x o.sig:=rfl;simp only[hS]at c1
 by_cases g4:o.kind=2
 ·have k4:(o.kind=2)=True:=eqt g4
  by_cases ge:o.txt= []
  ·have k3:(o.txt= [])=True:=eqt ge;have htk:tkB x o=(decide (0<=qX x o.sig)&&(decide (0<=o.tok)&&decide (o.tok<((x.tok.getD (qX x o.sig).toNat []).length:Int)))):=rfl
   by_cases g5:qX x o.sig<0
   ·have k5:(qX x o.sig<0)=True:=eqt g5;rw[dqf om,Bool.false_and]at htk;rw[ipo htk]at hE;rw[hE,ine (by decide)];unfold strs at*;refine acO CS ?_;simp (disch:=omega) only[qcX,coC,dcC,k1,k2,k3,k4,strs,go_sem]
    repeat' first|(refine cA (c1 _) flk ?_;simp (disch:=omega) only[k5,go_sem])|exact wa|with_reducible apply aiA|exact clz|fail
   obtain⟨S,hSn⟩: ∃S:Nat,qX x o.sig=S:=⟨(qX x o.sig).toNat,om⟩
   have hSl:S<x.sig.length:=by
    rcases zE (λj=>decide (o.sig=x.sig.getD j [])) x.sig.length with⟨i,q1,_,_,q4⟩|⟨_,q2⟩
    ·have e:qX x o.sig=i:=q4;omega
    ·have e:qX x o.sig= -1:=q2;omega
   have k5:((S:Int)<0)=False:=wl;rw[hSn,dqt om,Bool.true_and,itn]at htk;simp only[hSn]at c1;have c2:=λl'=>qCV x S o.tok (h++l') hz (hp.app l') h1 hSl
   by_cases g6:0<=o.tok∧o.tok<((x.tok.getD S []).length:Int)
   case neg=>
    have htk:tkB x o=false:=by rw[htk];simpa using λe=>Int.not_lt.1 λhc=>g6 ⟨e,hc⟩
    rw[ipo htk]at hE;rw[hE,ine (by decide)];simp only[ine g6]at c2;unfold coC at c2;refine acO CS ?_;simp (disch:=omega) only[qcX,coC,dcC,k1,k2,k3,k4,strs,go_sem]
    repeat' first|((first|refine cA (c1 _) ?_ ?_|refine cA (c2 _) ?_ ?_);exact flk;simp (disch:=omega) only[k5,go_sem])|exact wa|(with_reducible first|intro _|apply aiA)|exact clz|fail
   have htk:tkB x o=true:=by rw[htk];simpa using g6
   rw[ine (by rw[htk];decide)]at hE;simp only[ipo g6]at c2;have hpl:kQ x l o=fnU l (kD x S o.tok):=by unfold kQ;rw[hSn,itn]
   have hcn:=qaG ho hSl g6.1 g6.2;have c3:=λh=>qDv l (kD x S o.tok) h hu.n
   have e1:fnR l (kD x S o.tok)=kQ x l o:=by unfold fnR;rw[ine om,hpl]
   have e2:fnE (kD x S o.tok)=0:=by unfold fnE;rw[ine om]
   rw[e1,e2]at c3;unfold coC at c2
   by_cases g7:kQ x l o<0
   ·have k7:(kQ x l o<0)=True:=eqt g7;rw[ipo g7]at hE;rw[hE,ine (by decide)];refine acO CS ?_;simp (disch:=omega) only[qcX,coC,dcC,k1,k2,k3,k4,strs,go_sem]
    repeat' first|((first|refine cA (c1 _) ?_ ?_|refine cA (c2 _) ?_ ?_|refine cA (c3 _) ?_ ?_);exact flk;simp (disch:=omega) only[k4,k5,k7,go_sem])|exact wa|with_reducible apply aiA|exact clz|fail
   have k7:(kQ x l o<0)=False:=eqf g7;rw[ine g7]at hE;unfold cjE at hE;rw[ipo g4]at hE;have c4:=λl'=>qE9 o.txt (h++l') ht hg.app
   by_cases g8:qd2 o.txt=0
   case neg=>
    have k8:(qd2 o.txt=0)=False:=eqf g8;rw[ipo g8]at hE;rw[hE,ine g8];refine acO CS ?_;simp (disch:=omega) only[qcX,coC,dcC,k1,k2,k3,k4,strs,go_sem]
    repeat' first|((first|refine cA (c1 _) ?_ ?_|refine cA (c2 _) ?_ ?_|refine cA (c3 _) ?_ ?_|refine cA (c4 _) ?_ ?_);exact flk;simp (disch:=omega) only[k4,k5,k7,k8,strs,go_sem])|exact wa|with_reducible apply aiA|exact clz|fail
   rw[ine (by simpa using g8)]at hE;have g9:zz o.txt=0∧qcA o.txt=0:=by
    unfold qd2 at g8;split at g8
    ·rename_i q;exact absurd g8 q
    ·rename_i q;exact⟨Classical.not_not.1 q,g8⟩
   have hR:qfm o.txt=qdk (qhl o.txt):=by unfold qfm qhl;rw[ipo g8,ipo g9.2];rfl
   simp only[g8,ine (show¬zz o.txt≠0 by simpa using g9.1),<-hR]at c4;cases hL:qfm o.txt with
   |nil=>
    rw[hL]at hE c4;rw[ipo rfl]at hE;rw[hE,ine (by decide)];refine acO CS ?_;simp (disch:=omega) only[qcX,coC,dcC,k1,k2,k3,k4,strs,go_sem]
    repeat' first|((first|refine cA (c1 _) ?_ ?_|refine cA (c2 _) ?_ ?_|refine cA (c3 _) ?_ ?_|refine cA (c4 _) ?_ ?_);exact flk;simp (disch:=omega) only[k4,k5,k7,strs,go_sem])|(apply qb;exact rvk;simp only[go_sem];first|exact qi|skip)|(with_reducible first|intro _|apply aiA)|exact clz|fail
   |cons a r=>
    rw[hL]at hE c4;rw[ine (by simp)]at hE;rw[hE,ipo rfl];have k9:(((a::r).length:Int)=0)=False:=eqf (by simp;omega);refine acO CS ?_;simp (disch:=omega) only[qcX,coC,dcC,k1,k2,k3,k4,strs,go_sem]
    repeat' first|((first|refine cA (c1 _) ?_ ?_|refine cA (c2 _) ?_ ?_|refine cA (c3 _) ?_ ?_|refine cA (c4 _) ?_ ?_);exact flk;simp (disch:=omega) only[k4,k5,k7,strs,go_sem])|(apply qb;exact rvk;simp only[go_sem];first|exact qi|skip)|(with_reducible first|intro _|apply aiA)|exact clz|fail
  ·have k3:(o.txt= [])=False:=eqf ge;have htk:tkB x o=(decide (0<=qX x o.sig)&&(decide (0<=o.tok)&&decide (o.tok<((x.tok.getD (qX x o.sig).toNat []).length:Int)))):=rfl
   by_cases g5:qX x o.sig<0
   ·have k5:(qX x o.sig<0)=True:=eqt g5;rw[dqf om,Bool.false_and]at htk;rw[ipo htk]at hE;rw[hE,ine (by decide)];unfold strs at*;refine acO CS ?_;simp (disch:=omega) only[qcX,coC,dcC,k1,k2,k3,k4,strs,go_sem]
    repeat' first|(refine cA (c1 _) flk ?_;simp (disch:=omega) only[k5,go_sem])|exact wa|with_reducible apply aiA|exact clz|fail
   obtain⟨S,hSn⟩: ∃S:Nat,qX x o.sig=S:=⟨(qX x o.sig).toNat,om⟩
   have hSl:S<x.sig.length:=by
    rcases zE (λj=>decide (o.sig=x.sig.getD j [])) x.sig.length with⟨i,q1,_,_,q4⟩|⟨_,q2⟩
    ·have e:qX x o.sig=i:=q4;omega
    ·have e:qX x o.sig= -1:=q2;omega
   have k5:((S:Int)<0)=False:=wl;rw[hSn,dqt om,Bool.true_and,itn]at htk;simp only[hSn]at c1;have c2:=λl'=>qCV x S o.tok (h++l') hz (hp.app l') h1 hSl
   by_cases g6:0<=o.tok∧o.tok<((x.tok.getD S []).length:Int)
   case neg=>
    have htk:tkB x o=false:=by rw[htk];simpa using λe=>Int.not_lt.1 λhc=>g6 ⟨e,hc⟩
    rw[ipo htk]at hE;rw[hE,ine (by decide)];simp only[ine g6]at c2;unfold coC at c2;refine acO CS ?_;simp (disch:=omega) only[qcX,coC,dcC,k1,k2,k3,k4,strs,go_sem]
    repeat' first|((first|refine cA (c1 _) ?_ ?_|refine cA (c2 _) ?_ ?_);exact flk;simp (disch:=omega) only[k5,go_sem])|exact wa|(with_reducible first|intro _|apply aiA)|exact clz|fail
   have htk:tkB x o=true:=by rw[htk];simpa using g6
   rw[ine (by rw[htk];decide)]at hE;simp only[ipo g6]at c2;have hpl:kQ x l o=fnU l (kD x S o.tok):=by unfold kQ;rw[hSn,itn]
   have hcn:=qaG ho hSl g6.1 g6.2;have c3:=λh=>qDv l (kD x S o.tok) h hu.n
   have e1:fnR l (kD x S o.tok)=kQ x l o:=by unfold fnR;rw[ine om,hpl]
   have e2:fnE (kD x S o.tok)=0:=by unfold fnE;rw[ine om]
   rw[e1,e2]at c3;unfold coC at c2
   by_cases g7:kQ x l o<0
   ·have k7:(kQ x l o<0)=True:=eqt g7;rw[ipo g7]at hE;rw[hE,ine (by decide)];refine acO CS ?_;simp (disch:=omega) only[qcX,coC,dcC,k1,k2,k3,k4,strs,go_sem]
    repeat' first|((first|refine cA (c1 _) ?_ ?_|refine cA (c2 _) ?_ ?_|refine cA (c3 _) ?_ ?_);exact flk;simp (disch:=omega) only[k4,k5,k7,go_sem])|exact wa|with_reducible apply aiA|exact clz|fail
   have k7:(kQ x l o<0)=False:=eqf g7;rw[ine g7]at hE;unfold cjE at hE;rw[ipo g4]at hE;have c4:=λl'=>qE9 o.txt (h++l') ht hg.app
   by_cases g8:qd2 o.txt=0
   case neg=>
    have k8:(qd2 o.txt=0)=False:=eqf g8;rw[ipo g8]at hE;rw[hE,ine g8];refine acO CS ?_;simp (disch:=omega) only[qcX,coC,dcC,k1,k2,k3,k4,strs,go_sem]
    repeat' first|((first|refine cA (c1 _) ?_ ?_|refine cA (c2 _) ?_ ?_|refine cA (c3 _) ?_ ?_|refine cA (c4 _) ?_ ?_);exact flk;simp (disch:=omega) only[k4,k5,k7,k8,strs,go_sem])|exact wa|with_reducible apply aiA|exact clz|fail
   rw[ine (by simpa using g8)]at hE;have g9:zz o.txt=0∧qcA o.txt=0:=by
    unfold qd2 at g8;split at g8
    ·rename_i q;exact absurd g8 q
    ·rename_i q;exact⟨Classical.not_not.1 q,g8⟩
   have hR:qfm o.txt=qdk (qhl o.txt):=by unfold qfm qhl;rw[ipo g8,ipo g9.2];rfl
   simp only[g8,ine (show¬zz o.txt≠0 by simpa using g9.1),<-hR]at c4;cases hL:qfm o.txt with
   |nil=>
    rw[hL]at hE c4;rw[ipo rfl]at hE;rw[hE,ine (by decide)];refine acO CS ?_;simp (disch:=omega) only[qcX,coC,dcC,k1,k2,k3,k4,strs,go_sem]
    repeat' first|((first|refine cA (c1 _) ?_ ?_|refine cA (c2 _) ?_ ?_|refine cA (c3 _) ?_ ?_|refine cA (c4 _) ?_ ?_);exact flk;simp (disch:=omega) only[k4,k5,k7,strs,go_sem])|(apply qb;exact rvk;simp only[go_sem];first|exact qi|skip)|(with_reducible first|intro _|apply aiA)|exact clz|fail
   |cons a r=>
    rw[hL]at hE c4;rw[ine (by simp)]at hE;rw[hE,ipo rfl];have k9:(((a::r).length:Int)=0)=False:=eqf (by simp;omega);refine acO CS ?_;simp (disch:=omega) only[qcX,coC,dcC,k1,k2,k3,k4,strs,go_sem]
    repeat' first|((first|refine cA (c1 _) ?_ ?_|refine cA (c2 _) ?_ ?_|refine cA (c3 _) ?_ ?_|refine cA (c4 _) ?_ ?_);exact flk;simp (disch:=omega) only[k4,k5,k7,strs,go_sem])|(apply qb;exact rvk;simp only[go_sem];first|exact qi|skip)|(with_reducible first|intro _|apply aiA)|exact clz|fail
 ·have k4:(o.kind=2)=False:=eqf g4;have ge:o.txt= []:=Classical.not_not.1 λhc=>g3 ⟨hc,g4⟩
  have k3:(o.txt= [])=True:=eqt ge;have htk:tkB x o=(decide (0<=qX x o.sig)&&(decide (0<=o.tok)&&decide (o.tok<((x.tok.getD (qX x o.sig).toNat []).length:Int)))):=rfl
  by_cases g5:qX x o.sig<0
  ·have k5:(qX x o.sig<0)=True:=eqt g5;rw[dqf om,Bool.false_and]at htk;rw[ipo htk]at hE;rw[hE,ine (by decide)];unfold strs at*;refine acO CS ?_;simp (disch:=omega) only[qcX,coC,dcC,k1,k2,k3,k4,strs,go_sem]
   repeat' first|(refine cA (c1 _) flk ?_;simp (disch:=omega) only[k5,go_sem])|exact wa|with_reducible apply aiA|exact clz|fail
  obtain⟨S,hSn⟩: ∃S:Nat,qX x o.sig=S:=⟨(qX x o.sig).toNat,om⟩
  have hSl:S<x.sig.length:=by
   rcases zE (λj=>decide (o.sig=x.sig.getD j [])) x.sig.length with⟨i,q1,_,_,q4⟩|⟨_,q2⟩
   ·have e:qX x o.sig=i:=q4;omega
   ·have e:qX x o.sig= -1:=q2;omega
  have k5:((S:Int)<0)=False:=wl;rw[hSn,dqt om,Bool.true_and,itn]at htk;simp only[hSn]at c1;have c2:=λl'=>qCV x S o.tok (h++l') hz (hp.app l') h1 hSl
  by_cases g6:0<=o.tok∧o.tok<((x.tok.getD S []).length:Int)
  case neg=>
   have htk:tkB x o=false:=by rw[htk];simpa using λe=>Int.not_lt.1 λhc=>g6 ⟨e,hc⟩
   rw[ipo htk]at hE;rw[hE,ine (by decide)];simp only[ine g6]at c2;unfold coC at c2;refine acO CS ?_;simp (disch:=omega) only[qcX,coC,dcC,k1,k2,k3,k4,strs,go_sem]
   repeat' first|((first|refine cA (c1 _) ?_ ?_|refine cA (c2 _) ?_ ?_);exact flk;simp (disch:=omega) only[k5,go_sem])|exact wa|(with_reducible first|intro _|apply aiA)|exact clz|fail
  have htk:tkB x o=true:=by rw[htk];simpa using g6
  rw[ine (by rw[htk];decide)]at hE;simp only[ipo g6]at c2;have hpl:kQ x l o=fnU l (kD x S o.tok):=by unfold kQ;rw[hSn,itn]
  have hcn:=qaG ho hSl g6.1 g6.2;have c3:=λh=>qDv l (kD x S o.tok) h hu.n
  have e1:fnR l (kD x S o.tok)=kQ x l o:=by unfold fnR;rw[ine om,hpl]
  have e2:fnE (kD x S o.tok)=0:=by unfold fnE;rw[ine om]
  rw[e1,e2]at c3;unfold coC at c2
  by_cases g7:kQ x l o<0
  ·have k7:(kQ x l o<0)=True:=eqt g7;rw[ipo g7]at hE;rw[hE,ine (by decide)];refine acO CS ?_;simp (disch:=omega) only[qcX,coC,dcC,k1,k2,k3,k4,strs,go_sem]
   repeat' first|((first|refine cA (c1 _) ?_ ?_|refine cA (c2 _) ?_ ?_|refine cA (c3 _) ?_ ?_);exact flk;simp (disch:=omega) only[k4,k5,k7,go_sem])|exact wa|with_reducible apply aiA|exact clz|fail
  have k7:(kQ x l o<0)=False:=eqf g7;rw[ine g7]at hE;unfold cjE at hE;rw[ine g4]at hE;rw[hE,ipo rfl];refine acO CS ?_;simp (disch:=omega) only[qcX,coC,dcC,k1,k2,k3,k4,strs,go_sem]
  repeat' first|((first|refine cA (c1 _) ?_ ?_|refine cA (c2 _) ?_ ?_|refine cA (c3 _) ?_ ?_);exact flk;simp (disch:=omega) only[k4,k5,k7,go_sem])|exact wa|with_reducible apply aiA|exact clz|fail
end RC
end
