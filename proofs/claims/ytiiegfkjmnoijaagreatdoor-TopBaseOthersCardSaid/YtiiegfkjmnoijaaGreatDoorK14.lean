import Derived.Test.YtiiegfkjmnoijaaGreatDoorK13
import Derived.Test.YtiiegfkjmnoijaaGreatDoorK3
import Derived.Test.YtiiegfkjmnoijaaGreatDoorK5
import Derived.Test.YtiiegfkjmnoijaaGreatDoorK8
import Derived.Test.YtiiegfkjmnoijaaGreatDoorProg
import Derived.Test.YtiiegfkjmnoijaaGreatDoorK12
import Derived.Test.YtiiegfkjmnoijaaGreatDoorK11
set_option linter.all false
set_option maxHeartbeats 128000000
set_option maxRecDepth 100000
section
open Go Go.Proofs AF HY LN
namespace RC
section
variable {h : w6} {a b c va : Nat}
theorem yh(t:T3 h a b c)(q:Br)(l:w6):brO (h++l) a b c va q=brO h a b c va q++l:=Gm t
theorem Qh{f:FuncId}{args:w7}{r:AV}{q q':Br}(hc: ∀h,T3 h a b c->ACalls Tryz.prog f args (brO h a b c va q) r (brO h a b c va q'))(t:T3 h a b c)(l:w6):ACalls Tryz.prog f args (brO h a b c va q++l) r (brO h a b c va q'++l):=by
 have:=hc (h++l) (t.app l)
 rwa [yh t,yh t]at this
structure qbo (q:Br):Prop where
 op:q.opn=true->0<q.out.length∧((q.out.getD (q.out.length-1) default).flags=0∨(q.out.getD (q.out.length-1) default).flags=16)
 cl:q.opn=false->q.word= []
 n:q.out.length<=900000
 w:q.word.length<=900000
theorem HJ(q:Br):(if q.ad=true then AV.op a va 1 else .nilp)= .nilp∨(if q.ad=true then AV.op a va 1 else .nilp)= .op a va 1:=by
 split
 ·exact .inr rfl
 ·exact .inl rfl
theorem lV{α:Type}{L:List α}{k:Nat}{x:α}(h:L[k]? =some x):L.take k++ [x]++L.drop (k+1)=L:=by
 obtain⟨h1,h2⟩:=lgs.1 h;rw[List.append_assoc,List.singleton_append,<-h2,<-List.drop_eq_getElem_cons h1,List.take_append_drop]
theorem qed(t:T3 h a b c)(q:Br)(x:UInt8)(l:w6)(hw:q.word.length<=1000000):ACalls Tryz.prog 307 [.op a va 1,.int .u8 (x.toNat:Int)] (brO h a b c va q++l) .nilif (brO h a b c va (q.wb x)++l):=by
 have ta:=t.la;have tb:=t.lb;have tc:=t.lc;have zga: ∀ {X Y Z l},qv (a) (tri h a b c X Y Z++l)=some X:=xe (t);have yga: ∀ {X Y Z},qv (a) (tri h a b c X Y Z)=some X:=λ{X Y Z}=>by have:=zga (X:=X) (Y:=Y) (Z:=Z) (l:= []);simpa only[lan] using this
 have zgb: ∀ {X Y Z l},qv (b) (tri h a b c X Y Z++l)=some Y:=xF (t);have ygb: ∀ {X Y Z},qv (b) (tri h a b c X Y Z)=some Y:=λ{X Y Z}=>by have:=zgb (X:=X) (Y:=Y) (Z:=Z) (l:= []);simpa only[lan] using this
 have zgc: ∀ {X Y Z l},qv (c) (tri h a b c X Y Z++l)=some Z:=xf (t);have ygc: ∀ {X Y Z},qv (c) (tri h a b c X Y Z)=some Z:=λ{X Y Z}=>by have:=zgc (X:=X) (Y:=Y) (Z:=Z) (l:= []);simpa only[lan] using this
 have zsa: ∀ {X Y Z o l},qu (a) (tri h a b c X Y Z++l) o=tri h a b c o Y Z++l:=xG (t);have ysa: ∀ {X Y Z o},qu (a) (tri h a b c X Y Z) o=tri h a b c o Y Z:=λ{X Y Z o}=>by have:=zsa (X:=X) (Y:=Y) (Z:=Z) (o:=o) (l:= []);simpa only[lan] using this
 have zsb: ∀ {X Y Z o l},qu (b) (tri h a b c X Y Z++l) o=tri h a b c X o Z++l:=yd (t);have ysb: ∀ {X Y Z o},qu (b) (tri h a b c X Y Z) o=tri h a b c X o Z:=λ{X Y Z o}=>by have:=zsb (X:=X) (Y:=Y) (Z:=Z) (o:=o) (l:= []);simpa only[lan] using this
 have zsc: ∀ {X Y Z o l},qu (c) (tri h a b c X Y Z++l) o=tri h a b c X Y o++l:=ye (t);have ysc: ∀ {X Y Z o},qu (c) (tri h a b c X Y Z) o=tri h a b c X Y o:=λ{X Y Z o}=>by have:=zsc (X:=X) (Y:=Y) (Z:=Z) (o:=o) (l:= []);simpa only[lan] using this
 have zca: ∀ {X Y Z v l},cellsOf (tri h a b c X Y Z++l) (a) v=qw (some X) v:=y7 (t);have yca: ∀ {X Y Z v},cellsOf (tri h a b c X Y Z) (a) v=qw (some X) v:=λ{X Y Z v}=>by have:=zca (X:=X) (Y:=Y) (Z:=Z) (v:=v) (l:= []);simpa only[lan] using this
 have zcb: ∀ {X Y Z v l},cellsOf (tri h a b c X Y Z++l) (b) v=qw (some Y) v:=y8 (t);have ycb: ∀ {X Y Z v},cellsOf (tri h a b c X Y Z) (b) v=qw (some Y) v:=λ{X Y Z v}=>by have:=zcb (X:=X) (Y:=Y) (Z:=Z) (v:=v) (l:= []);simpa only[lan] using this
 have zcc: ∀ {X Y Z v l},cellsOf (tri h a b c X Y Z++l) (c) v=qw (some Z) v:=y9 (t);have ycc: ∀ {X Y Z v},cellsOf (tri h a b c X Y Z) (c) v=qw (some Z) v:=λ{X Y Z v}=>by have:=zcc (X:=X) (Y:=Y) (Z:=Z) (v:=v) (l:= []);simpa only[lan] using this
 have zla: ∀ {X Y Z v l},qI (tri h a b c X Y Z++l) (a) v=qM (some X) v:=aa (t);have yla: ∀ {X Y Z v},qI (tri h a b c X Y Z) (a) v=qM (some X) v:=λ{X Y Z v}=>by have:=zla (X:=X) (Y:=Y) (Z:=Z) (v:=v) (l:= []);simpa only[lan] using this
 have zlb: ∀ {X Y Z v l},qI (tri h a b c X Y Z++l) (b) v=qM (some Y) v:=ae (t);have ylb: ∀ {X Y Z v},qI (tri h a b c X Y Z) (b) v=qM (some Y) v:=λ{X Y Z v}=>by have:=zlb (X:=X) (Y:=Y) (Z:=Z) (v:=v) (l:= []);simpa only[lan] using this
 have zlc: ∀ {X Y Z v l},qI (tri h a b c X Y Z++l) (c) v=qM (some Z) v:=af (t);have ylc: ∀ {X Y Z v},qI (tri h a b c X Y Z) (c) v=qM (some Z) v:=λ{X Y Z v}=>by have:=zlc (X:=X) (Y:=Y) (Z:=Z) (v:=v) (l:= []);simpa only[lan] using this
 have:=qgp a va c q.vw (.osl b q.vo 6 0 q.out.length) (.bool q.opn) (.bool q.jn) (.bool false) (if q.ad=true then .op a va 1 else .nilp) q.word x (brO h a b c va q++l) (by rw[lap,fp];simp[ze];omega) rfl rfl rfl (λe=>t.ac e.symm) zga (HJ q) zgc om
 have e:qu c (qu a (brO h a b c va q++l) (.mem va 264 [.osl b q.vo 6 0 q.out.length,.op a va 1,.osl c (q.vw+1) 1 0 (q.word.length+1),.bool q.opn,.bool q.jn,.bool false])) (dy (q.vw+1) (q.word++ [x]))=brO h a b c va (q.wb x)++l:=by
  unfold brO;rw[zsa,zsc];unfold brX brY Br.wb;simp
 rw[e]at this;exact this
theorem qbM(t:T3 h a b c)(q:Br)(x:UInt8)(hq:qbo q):ACalls Tryz.prog 282 [.op a va 0,.agg (atC 1 x)] (brO h a b c va q) (.tup []) (brO h a b c va (q.pt x)):=by
 have ta:=t.la;have tb:=t.lb;have tc:=t.lc;have hn:=hq.n;have hw:=hq.w;have zga: ∀ {X Y Z l},qv (a) (tri h a b c X Y Z++l)=some X:=xe (t);have yga: ∀ {X Y Z},qv (a) (tri h a b c X Y Z)=some X:=λ{X Y Z}=>by have:=zga (X:=X) (Y:=Y) (Z:=Z) (l:= []);simpa only[lan] using this
 have zgb: ∀ {X Y Z l},qv (b) (tri h a b c X Y Z++l)=some Y:=xF (t);have ygb: ∀ {X Y Z},qv (b) (tri h a b c X Y Z)=some Y:=λ{X Y Z}=>by have:=zgb (X:=X) (Y:=Y) (Z:=Z) (l:= []);simpa only[lan] using this
 have zgc: ∀ {X Y Z l},qv (c) (tri h a b c X Y Z++l)=some Z:=xf (t);have ygc: ∀ {X Y Z},qv (c) (tri h a b c X Y Z)=some Z:=λ{X Y Z}=>by have:=zgc (X:=X) (Y:=Y) (Z:=Z) (l:= []);simpa only[lan] using this
 have zsa: ∀ {X Y Z o l},qu (a) (tri h a b c X Y Z++l) o=tri h a b c o Y Z++l:=xG (t);have ysa: ∀ {X Y Z o},qu (a) (tri h a b c X Y Z) o=tri h a b c o Y Z:=λ{X Y Z o}=>by have:=zsa (X:=X) (Y:=Y) (Z:=Z) (o:=o) (l:= []);simpa only[lan] using this
 have zsb: ∀ {X Y Z o l},qu (b) (tri h a b c X Y Z++l) o=tri h a b c X o Z++l:=yd (t);have ysb: ∀ {X Y Z o},qu (b) (tri h a b c X Y Z) o=tri h a b c X o Z:=λ{X Y Z o}=>by have:=zsb (X:=X) (Y:=Y) (Z:=Z) (o:=o) (l:= []);simpa only[lan] using this
 have zsc: ∀ {X Y Z o l},qu (c) (tri h a b c X Y Z++l) o=tri h a b c X Y o++l:=ye (t);have ysc: ∀ {X Y Z o},qu (c) (tri h a b c X Y Z) o=tri h a b c X Y o:=λ{X Y Z o}=>by have:=zsc (X:=X) (Y:=Y) (Z:=Z) (o:=o) (l:= []);simpa only[lan] using this
 have zca: ∀ {X Y Z v l},cellsOf (tri h a b c X Y Z++l) (a) v=qw (some X) v:=y7 (t);have yca: ∀ {X Y Z v},cellsOf (tri h a b c X Y Z) (a) v=qw (some X) v:=λ{X Y Z v}=>by have:=zca (X:=X) (Y:=Y) (Z:=Z) (v:=v) (l:= []);simpa only[lan] using this
 have zcb: ∀ {X Y Z v l},cellsOf (tri h a b c X Y Z++l) (b) v=qw (some Y) v:=y8 (t);have ycb: ∀ {X Y Z v},cellsOf (tri h a b c X Y Z) (b) v=qw (some Y) v:=λ{X Y Z v}=>by have:=zcb (X:=X) (Y:=Y) (Z:=Z) (v:=v) (l:= []);simpa only[lan] using this
 have zcc: ∀ {X Y Z v l},cellsOf (tri h a b c X Y Z++l) (c) v=qw (some Z) v:=y9 (t);have ycc: ∀ {X Y Z v},cellsOf (tri h a b c X Y Z) (c) v=qw (some Z) v:=λ{X Y Z v}=>by have:=zcc (X:=X) (Y:=Y) (Z:=Z) (v:=v) (l:= []);simpa only[lan] using this
 have zla: ∀ {X Y Z v l},qI (tri h a b c X Y Z++l) (a) v=qM (some X) v:=aa (t);have yla: ∀ {X Y Z v},qI (tri h a b c X Y Z) (a) v=qM (some X) v:=λ{X Y Z v}=>by have:=zla (X:=X) (Y:=Y) (Z:=Z) (v:=v) (l:= []);simpa only[lan] using this
 have zlb: ∀ {X Y Z v l},qI (tri h a b c X Y Z++l) (b) v=qM (some Y) v:=ae (t);have ylb: ∀ {X Y Z v},qI (tri h a b c X Y Z) (b) v=qM (some Y) v:=λ{X Y Z v}=>by have:=zlb (X:=X) (Y:=Y) (Z:=Z) (v:=v) (l:= []);simpa only[lan] using this
 have zlc: ∀ {X Y Z v l},qI (tri h a b c X Y Z++l) (c) v=qM (some Z) v:=af (t);have ylc: ∀ {X Y Z v},qI (tri h a b c X Y Z) (c) v=qM (some Z) v:=λ{X Y Z v}=>by have:=zlc (X:=X) (Y:=Y) (Z:=Z) (v:=v) (l:= []);simpa only[lan] using this
 by_cases g1:q.opn=true∧xO x=true
 ·rw[show q.pt x=q.wb x from by unfold Br.pt;rw[ipo g1]];obtain⟨g1,g2⟩:=g1;obtain⟨hop,hfl⟩:=hq.op g1;have c1:=λh=>qby x h
  simp only[g2]at c1;have c2:=λl=>CP (va:=va) (t.app l) q hop om
  simp only[yh t]at c2;have c3:=λl=>qed (va:=va) t q x l om
  have hL:=jV q.out;obtain⟨F,hF⟩:=wD ((q.out.getD (q.out.length-1) default).flags)
  rw[<-hF]at hfl;have g4:(jA q.out)[(q.out.length-1)*6+4]? =some (.int .i64 F):=by rw[gV om om,hF];rfl
  have e0:xg .or (.int .i64 F) (.int .i64 0)= .int .i64 F:=by rcases hfl with rfl|rfl<;>rfl
  have k3:((q.out.length-1)*6+4+1<=q.out.length*6)=True:=xv;have k4:((q.out.length-1)*6+4<q.out.length*6)=True:=xv;have e5:=lV g4;unfold brO at c2 c3 ⊢;rw[dO hop]at c2 c3 ⊢;unfold brX at c2 c3 ⊢;rw[g1]at c2 c3 ⊢;unfold atC;refine acO dX ?_;simp (disch:=omega) only[mE,zca,ql,go_sem]
  repeat' first|(refine cG (λe=>c1 _) flk ?_;simp (disch:=omega) only[go_sem])
  refine qE (c2 _) (by exact flk) ?_;simp (disch:=omega) only[zgb,zsb,zca,zcb,ql,hL,g4,e0,k3,k4,e5,go_sem];refine qE (c3 _) (by exact flk) ?_;simp (disch:=omega) only[go_sem];exact zW trivial (by simp only[tri_len]) (jW t (jY t va (q.wb x)) (wS _ _) (jt _ _ _)) ⟨rfl,rfl⟩ (qi)
 by_cases g2:bgn x=true
 ·rw[show q.pt x=((q.st 0).op).wb x from by unfold Br.pt;rw[ine g1,ipo g2]];have g3:q.opn=false:=by
   cases ho:q.opn with
   |false=>rfl
   |true=>exact absurd ⟨ho,bB g2⟩ g1
  have c1:=λh=>qbs x h
  rw[show (decide (kind x=1)||decide (kind x=3))=true from g2]at c1;have c2:=λl=>HI (va:=va) (t.app l) q 0 x (.inl rfl) om
  simp only[yh t]at c2;have c3:=λl=>qed (va:=va) t (q.st 0).op x l (by show q.word.length<=_;omega)
  unfold brO brX at c2 c3 ⊢;rw[g3]at c2 ⊢;unfold atC at c2 ⊢;refine acO dX ?_;simp (disch:=omega) only[mE,zca,ql,go_sem]
  repeat' first|(refine qj ( .bool false) ?_;simp (disch:=omega) only[go_sem])|(refine cA (c1 _) flk ?_;simp (disch:=omega) only[go_sem])
  refine qE (c2 _) (by exact flk) ?_;simp (disch:=omega) only[zga,zsa,zca,ql,go_sem];refine qE (c3 _) (by exact flk) ?_;simp (disch:=omega) only[go_sem];exact zW trivial (by simp only[tri_len]) (jW t (jY t va (((q.st 0).op).wb x)) (wS _ _) (jt _ _ _)) ⟨rfl,rfl⟩ (qi)
 by_cases g3:kind x=6
 ·rw[show q.pt x=q.nd.sp from by unfold Br.pt;rw[ine g1,ine g2,ipo g3]];have c1:=λh=>qbs x h
  have hb:(decide (kind x=1)||decide (kind x=3))=false:=by simpa[bgn] using g2
  rw[hb]at c1;have c5:=λh=>qby x h
  have c4:=λh=>bz x h
  rw[g3]at c4;have c2:=λl=>CO (va:=va) (t.app l) q (λe=>(hq.op e).1) hq.cl om om
  simp only[yh t]at c2;have hi:q.opn=true->xO x=false:=λe=>by
   cases hx:xO x with
   |false=>rfl
   |true=>exact absurd ⟨e,hx⟩ g1
  unfold brO brX at c2 ⊢;unfold atC;cases ho:q.opn with
  |true=>
   rw[hi ho]at c5;rw[ho]at c2;refine acO dX ?_;simp (disch:=omega) only[mE,zca,ql,go_sem]
   repeat' first|((first|refine cA (c1 _) ?_ ?_|refine cA (c4 _) ?_ ?_|refine cG (λe=>c5 _) ?_ ?_);exact flk;simp (disch:=omega) only[go_sem])
   refine qE (c2 _) (by exact flk) ?_;simp (disch:=omega) only[zga,zsa,zca,ql,go_sem];exact zW trivial (by simp only[tri_len]) (jW t (jY t va q.nd.sp) (wS _ _) (jt _ _ _)) ⟨rfl,rfl⟩ (qi)
  |false=>
   rw[ho]at c2;refine acO dX ?_;simp (disch:=omega) only[mE,zca,ql,go_sem]
   repeat' first|(refine qj ( .bool false) ?_;simp (disch:=omega) only[go_sem])|((first|refine cA (c1 _) ?_ ?_|refine cA (c4 _) ?_ ?_);exact flk;simp (disch:=omega) only[go_sem])
   refine qE (c2 _) (by exact flk) ?_;simp (disch:=omega) only[zga,zsa,zca,ql,go_sem];exact zW trivial (by simp only[tri_len]) (jW t (jY t va q.nd.sp) (wS _ _) (jt _ _ _)) ⟨rfl,rfl⟩ (qi)
 rw[show q.pt x=(q.nd.st 8).tx [x]from by unfold Br.pt;rw[ine g1,ine g2,ine g3]];have c1:=λh=>qbs x h
 have hb:(decide (kind x=1)||decide (kind x=3))=false:=by simpa[bgn] using g2
 rw[hb]at c1;have c5:=λh=>qby x h
 have c4:=λh=>bz x h
 obtain⟨kx,hkx⟩:=wD (kind x)
 rw[<-hkx]at c4 g3;have q6:(kx=6)=False:=eqf g3;have c2:=λl=>CO (va:=va) (t.app l) q (λe=>(hq.op e).1) hq.cl om om
 have hndl:q.nd.out.length=q.out.length:=by unfold Br.nd;split<;>simp only[xE]
 have c6:=λl=>HI (va:=va) (t.app l) q.nd 8 x (.inr rfl) om
 obtain⟨r,hr⟩:=wD (q.nd.st 8)
 have hrl:0<r.out.length:=by rw[hr];show 0<(q.nd.out++ [_]).length;simp
 have hrm:r.out.length<=1000000:=by rw[hr];show (q.nd.out++ [_]).length<=_;simp;omega
 rw[<-hr]at c6 ⊢;have c7:=λl=>CP (va:=va) (t.app l) r hrl hrm
 simp only[yh t]at c2 c6 c7;have hi:q.opn=true->xO x=false:=λe=>by
  cases hx:xO x with
  |false=>rfl
  |true=>exact absurd ⟨e,hx⟩ g1
 have hL:=jV r.out;have k3:((r.out.length-1)*6+1<=r.out.length*6)=True:=xv;have hX:=KU (L:=r.out) [x] hrl;have e8:xg .or (.int .i64 0) (.int .i64 8)= .int .i64 8:=rfl;have hY:brY (r.tx [x])= .mem r.vo 92 (jA (yr r.out [x])):=dO (q:=r.tx [x]) (by show 0<(yr r.out [x]).length;rw[xE];exact hrl);have eL:(r.tx [x]).out.length=r.out.length:=xE _ _;unfold brO at c2 c6 c7 ⊢;rw[hY];rw[dO hrl]at c6 c7;unfold brX at c2 c6 c7 ⊢;rw[eL];unfold atC at c6 ⊢;cases ho:q.opn with
 |true=>
  rw[hi ho]at c5;rw[ho]at c2;refine acO dX ?_;simp (disch:=omega) only[mE,zca,ql,go_sem]
  repeat' first|((first|refine cA (c1 _) ?_ ?_|refine cA (c4 _) ?_ ?_|refine cG (λe=>c5 _) ?_ ?_);exact flk;simp (disch:=omega) only[q6,go_sem])
  refine qE (c2 _) (by exact flk) ?_;simp (disch:=omega) only[e8,go_sem];refine qE (c6 _) (by exact flk) ?_;simp (disch:=omega) only[go_sem];refine jL ?Ta ?Ha ?h1 ?h2
  case h1=>
   simp (disch:=omega) only[go_sem]
   repeat' first|(with_reducible apply aiA)|(refine qE (c7 _) (by exact flk) ?_;simp (disch:=omega) only[zgb,zsb,zcb,ql,hL,k3,go_sem])
   all_goals first
    |omega
    |rfl
    |(intro y hy;rw[List.mem_singleton]at hy;subst hy;exact cO x)
    |skip
  case h2=>
  simp (disch:=omega) only[go_sem];rw[b9 x,List.append_assoc,hX];exact zW trivial (by simp only[tri_len]) (jW t (jY t va r) (kE _ _) (jt _ _ _)) ⟨rfl,rfl⟩ (qi)
 |false=>
  rw[ho]at c2;refine acO dX ?_;simp (disch:=omega) only[mE,zca,ql,go_sem]
  repeat' first|(refine qj ( .bool false) ?_;simp (disch:=omega) only[go_sem])|((first|refine cA (c1 _) ?_ ?_|refine cA (c4 _) ?_ ?_);exact flk;simp (disch:=omega) only[q6,go_sem])
  refine qE (c2 _) (by exact flk) ?_;simp (disch:=omega) only[e8,go_sem];refine qE (c6 _) (by exact flk) ?_;simp (disch:=omega) only[go_sem];refine jL ?Tb ?Hb ?h1 ?h2
  case h1=>
   simp (disch:=omega) only[go_sem]
   repeat' first|(with_reducible apply aiA)|(refine qE (c7 _) (by exact flk) ?_;simp (disch:=omega) only[zgb,zsb,zcb,ql,hL,k3,go_sem])
   all_goals first
    |omega
    |rfl
    |(intro y hy;rw[List.mem_singleton]at hy;subst hy;exact cO x)
    |skip
  case h2=>
  simp (disch:=omega) only[go_sem];rw[b9 x,List.append_assoc,hX];exact zW trivial (by simp only[tri_len]) (jW t (jY t va r) (kE _ _) (jt _ _ _)) ⟨rfl,rfl⟩ (qi)
theorem qbL(t:T3 h a b c)(q:Br)(x:UInt8)(hq:qbo q):ACalls Tryz.prog 244 [.op a va 0,.agg (atC 1 x)] (brO h a b c va q) (.tup []) (brO h a b c va (q.pt x)):=by
 have ta:=t.la;have tb:=t.lb;have tc:=t.lc;have zga: ∀ {X Y Z l},qv (a) (tri h a b c X Y Z++l)=some X:=xe (t);have yga: ∀ {X Y Z},qv (a) (tri h a b c X Y Z)=some X:=λ{X Y Z}=>by have:=zga (X:=X) (Y:=Y) (Z:=Z) (l:= []);simpa only[lan] using this
 have zgb: ∀ {X Y Z l},qv (b) (tri h a b c X Y Z++l)=some Y:=xF (t);have ygb: ∀ {X Y Z},qv (b) (tri h a b c X Y Z)=some Y:=λ{X Y Z}=>by have:=zgb (X:=X) (Y:=Y) (Z:=Z) (l:= []);simpa only[lan] using this
 have zgc: ∀ {X Y Z l},qv (c) (tri h a b c X Y Z++l)=some Z:=xf (t);have ygc: ∀ {X Y Z},qv (c) (tri h a b c X Y Z)=some Z:=λ{X Y Z}=>by have:=zgc (X:=X) (Y:=Y) (Z:=Z) (l:= []);simpa only[lan] using this
 have zsa: ∀ {X Y Z o l},qu (a) (tri h a b c X Y Z++l) o=tri h a b c o Y Z++l:=xG (t);have ysa: ∀ {X Y Z o},qu (a) (tri h a b c X Y Z) o=tri h a b c o Y Z:=λ{X Y Z o}=>by have:=zsa (X:=X) (Y:=Y) (Z:=Z) (o:=o) (l:= []);simpa only[lan] using this
 have zsb: ∀ {X Y Z o l},qu (b) (tri h a b c X Y Z++l) o=tri h a b c X o Z++l:=yd (t);have ysb: ∀ {X Y Z o},qu (b) (tri h a b c X Y Z) o=tri h a b c X o Z:=λ{X Y Z o}=>by have:=zsb (X:=X) (Y:=Y) (Z:=Z) (o:=o) (l:= []);simpa only[lan] using this
 have zsc: ∀ {X Y Z o l},qu (c) (tri h a b c X Y Z++l) o=tri h a b c X Y o++l:=ye (t);have ysc: ∀ {X Y Z o},qu (c) (tri h a b c X Y Z) o=tri h a b c X Y o:=λ{X Y Z o}=>by have:=zsc (X:=X) (Y:=Y) (Z:=Z) (o:=o) (l:= []);simpa only[lan] using this
 have zca: ∀ {X Y Z v l},cellsOf (tri h a b c X Y Z++l) (a) v=qw (some X) v:=y7 (t);have yca: ∀ {X Y Z v},cellsOf (tri h a b c X Y Z) (a) v=qw (some X) v:=λ{X Y Z v}=>by have:=zca (X:=X) (Y:=Y) (Z:=Z) (v:=v) (l:= []);simpa only[lan] using this
 have zcb: ∀ {X Y Z v l},cellsOf (tri h a b c X Y Z++l) (b) v=qw (some Y) v:=y8 (t);have ycb: ∀ {X Y Z v},cellsOf (tri h a b c X Y Z) (b) v=qw (some Y) v:=λ{X Y Z v}=>by have:=zcb (X:=X) (Y:=Y) (Z:=Z) (v:=v) (l:= []);simpa only[lan] using this
 have zcc: ∀ {X Y Z v l},cellsOf (tri h a b c X Y Z++l) (c) v=qw (some Z) v:=y9 (t);have ycc: ∀ {X Y Z v},cellsOf (tri h a b c X Y Z) (c) v=qw (some Z) v:=λ{X Y Z v}=>by have:=zcc (X:=X) (Y:=Y) (Z:=Z) (v:=v) (l:= []);simpa only[lan] using this
 have zla: ∀ {X Y Z v l},qI (tri h a b c X Y Z++l) (a) v=qM (some X) v:=aa (t);have yla: ∀ {X Y Z v},qI (tri h a b c X Y Z) (a) v=qM (some X) v:=λ{X Y Z v}=>by have:=zla (X:=X) (Y:=Y) (Z:=Z) (v:=v) (l:= []);simpa only[lan] using this
 have zlb: ∀ {X Y Z v l},qI (tri h a b c X Y Z++l) (b) v=qM (some Y) v:=ae (t);have ylb: ∀ {X Y Z v},qI (tri h a b c X Y Z) (b) v=qM (some Y) v:=λ{X Y Z v}=>by have:=zlb (X:=X) (Y:=Y) (Z:=Z) (v:=v) (l:= []);simpa only[lan] using this
 have zlc: ∀ {X Y Z v l},qI (tri h a b c X Y Z++l) (c) v=qM (some Z) v:=af (t);have ylc: ∀ {X Y Z v},qI (tri h a b c X Y Z) (c) v=qM (some Z) v:=λ{X Y Z v}=>by have:=zlc (X:=X) (Y:=Y) (Z:=Z) (v:=v) (l:= []);simpa only[lan] using this
 have c2:=λl=>qbM (va:=va) (t.app l) q x hq
 simp only[yh t]at c2;unfold brO brX at c2 ⊢;unfold atC at c2 ⊢;refine acO Nw ?_;simp (disch:=omega) only[IJ,go_sem];refine qE (c2 _) (by exact flk) ?_;simp (disch:=omega) only[go_sem];exact zW trivial (by simp only[tri_len]) (jW t (jY t va (q.pt x)) (wS _ _) (jt _ _ _)) ⟨rfl,rfl⟩ (qi)
end
structure BrB (q:Br) (b:Bs):Prop where
 out:q.out=b.out
 word:q.word=b.word
 opn:q.opn=b.opn
 jn:q.jn=b.jn
theorem fd(L:List Tk)(f:Int)(w:Str):yr (L++ [tkF f []]) w=L++ [tkF f w]:=by
 unfold yr;have e:(L++ [tkF f []]).length-1=L.length:=by simp
 rw[e];have g:(L++ [tkF f []]).getD L.length default=tkF f []:=by
  have:=al (L:=L) (M:= [tkF f []]) (a:=default) (i:=0)
  rw[Nat.add_zero]at this;rw[this];rfl
 rw[g,List.set_append_right _ _ (nlr _),Nat.sub_self];rfl
theorem BO{q:Br}{b:Bs}{s:Str}(h:BrB q b)(hb:VQ s b):q.nd.out=b.fin∧q.nd.word= []∧q.nd.opn=false∧q.nd.jn=b.jn:=by
 unfold Br.nd Bs.fin;cases ho:b.opn with
 |true=>
  rw[ipo (by rw[h.opn,ho]),ipo rfl];refine⟨?_,rfl,rfl,h.jn⟩;show yr q.out q.word=_;rw[h.out,h.word];unfold Bs.out;rw[ipo ho,fd]
 |false=>
  rw[ine (by rw[h.opn,ho];simp),ine (by simp),lan];refine⟨?_,rfl,rfl,h.jn⟩;show q.out=_;rw[h.out];unfold Bs.out;rw[ine (by rw[ho];simp),lan]
theorem Pm{q:Br}{b:Bs}{s:Str}(h:BrB q b)(hb:VQ s b)(c:UInt8):BrB (q.pt c) (b.stp c):=by
 obtain⟨n1,n2,n3,n4⟩:=BO h hb;unfold Br.pt Bs.stp
 by_cases g1:b.opn=true∧xO c=true
 ·rw[ipo (by rw[h.opn];exact g1),ipo g1];refine⟨?_,?_,?_,h.jn⟩
  ·show q.out=_;rw[h.out];unfold Bs.out;rw[ipo g1.1,ipo rfl]
  ·show q.word++ [c]=_;rw[h.word]
  ·show q.opn=_;rw[h.opn,g1.1]
 rw[ine (by rw[h.opn];exact g1),ine g1]
 by_cases g2:bgn c=true
 ·rw[ipo g2,ipo g2];have ho:b.opn=false:=by
   cases ho:b.opn with
   |false=>rfl
   |true=>exact absurd ⟨ho,bB g2⟩ g1
  have hf:q.out=b.fin:=by
   rw[h.out];unfold Bs.out Bs.fin;rw[ho];rfl
  refine⟨?_,?_,rfl,rfl⟩
  ·show q.out++ [tkF (0+jfl q.jn q.out.length) []]=_;rw[hf,h.jn];unfold Bs.out;rw[ipo rfl,Int.zero_add]
  ·show q.word++ [c]=_;rw[h.word,(hb.cl ho).1];rfl
 rw[ine g2,ine g2]
 by_cases g3:kind c=6
 ·rw[ipo g3,ipo g3];refine⟨?_,n2,n3,rfl⟩;show q.nd.out=_;rw[n1];unfold Bs.out;rw[ine (by simp),lan]
 ·rw[ine g3,ine g3];refine⟨?_,n2,n3,rfl⟩;show yr (q.nd.out++ [tkF (8+jfl q.nd.jn q.nd.out.length) []]) [c]=_;rw[fd,n1,n4];unfold Bs.out;rw[ine (by simp),lan]
theorem qbN{q:Br}{b:Bs}{s:Str}(h:BrB q b)(hb:VQ s b)(hs:s.length<=900000):qbo q:=by
 have hl:=hb.len;have hc:=hb.cat;have ho:b.out.length=b.fin.length:=by unfold Bs.out Bs.fin;split<;>simp
 refine⟨λe=> ?_,λe=> ?_,?_,?_⟩
 ·rw[h.opn]at e;have e2:q.out=b.done++ [tkF b.fl []]:=by rw[h.out];unfold Bs.out;rw[ipo e]
  rw[e2];refine⟨by simp,?_⟩;have g:(b.done++ [tkF b.fl []]).getD ((b.done++ [tkF b.fl []]).length-1) default=tkF b.fl []:=by
   rw[show (b.done++ [tkF b.fl []]).length-1=b.done.length+0 by simp,al];rfl
  rw[g];exact (hb.op e).2.2
 ·rw[h.opn]at e;rw[h.word];exact (hb.cl e).1
 ·rw[h.out,ho];omega
 ·rw[h.word];cases e:b.opn with
  |false=>rw[(hb.cl e).1];simp
  |true=>
   have hm:b.word∈b.fin.map Tk.text:=by
    unfold Bs.fin;rw[ipo e,List.map_append];exact List.mem_append_right _ (List.mem_singleton.2 rfl)
   have h1:=cQ hm;rw[hc]at h1
   have:=List.length_filter_le (λc=> !decide (kind c=6)) s
   omega
def brI(vo vw:Nat)(s:Str):Br:=s.foldl Br.pt ⟨[],[],false,false,vo,vw,false⟩
theorem HK(vo vw:Nat)(s:Str): ∀n,n<=s.length->BrB (brI vo vw (s.take n)) (bsL (s.take n)):=by
 intro n
 induction n with
 |zero=>intro _;exact⟨rfl,rfl,rfl,rfl⟩
 |succ n ih=>
  intro hn;rw[List.take_add_one,zG hn];show BrB (brI vo vw (s.take n++ [s[n]])) (bsL (s.take n++ [s[n]]));rw[oC];unfold brI;rw[List.foldl_append];exact Pm (ih om) (iC _) _
theorem V7(vo vw:Nat)(s:Str){n:Nat}(hn:n<s.length):brI vo vw (s.take (n+1))=(brI vo vw (s.take n)).pt (ch s n):=by
 unfold brI;rw[List.take_add_one,zG hn,List.foldl_append];simp[ch,gdqA,hn]
theorem AY(vo vw:Nat)(s:Str)(hs:s.length<=900000){n:Nat}(hn:n<=s.length):qbo (brI vo vw (s.take n)):=qbN (HK vo vw s n hn) (iC _) (by rw[List.length_take];omega)
def nmL(L:List Tk)(i:Nat):List Tk:=(L.take i).map tkN++L.drop i
theorem cR(L:List Tk)(i:Nat):(nmL L i).length=L.length:=by unfold nmL;simp;omega
theorem OU{L:List Tk}{i:Nat}(hi:i<L.length):(nmL L i).getD i default=L.getD i default:=by
 unfold nmL;rw[gdqA,List.getElem?_append_right (by simp;omega),List.getElem?_drop,gdqA];simp[Nat.min_eq_left (Nat.le_of_lt hi)]
theorem XS{L:List Tk}{i:Nat}(hi:i<L.length):nmL L (i+1)=(nmL L i).set i (tkN (L.getD i default)):=by
 unfold nmL;have e:((L.take i).map tkN).length=i:=by simp;omega
 rw[List.set_append_right _ _ om,e,Nat.sub_self,List.drop_eq_getElem_cons hi,List.set_cons_zero,List.take_add_one,zG hi,List.map_append,List.append_assoc,gdqA,zG hi];rfl
theorem EU(L:List Tk):nmL L L.length=L.map tkN:=by unfold nmL;rw[List.take_length,List.drop_length,lan]
theorem XT(L:List Tk):nmL L 0=L:=by unfold nmL;simp
end RC
end
section
open Go Go.Proofs AF
def EC:List Nat:= [118,116,307,285,244,282,245,283,247]
def Il:C:=
 (v6 [O1 3 (.box 0 88) 0,ON 6 (.nilo 1 6 92) [],vU 7 0] ((v6 [MV 14 1,O1 15 (.call 240 true) 14,vV 16 .neq 15 0,MV 17 16,vY 18 17 2,vW 19 17 (.call 241 true) 18,vZ 20 17 (.bin
 .neq) 19 (i6 0),PT 21 17 20] (v7 21 (wa [ON 6 (.nilo 1 6 92) [],vU 7 1]))).seq ((v6 [vT 22 1 3,LD 23 22,vV 24 .lss 23 0,MV 25 24,wh 26 25 1 3,wi 27 25 26,vZ 28 25 (.bin .gtr)
 27 (i6 4096),PT 29 25 28] (v7 29 (wa [ON 6 (.nilo 1 6 92) [],vU 7 2]))).seq ((v6 [vT 30 0 3,LD 31 30,O1 32 (.call 234 true) 31,O1 33 (.un UnOp.not) 32] (v7 33 (wa [ON 6 (.nilo
 1 6 92) [],vU 7 14]))).seq (v6 [MV 35 1,OC 36 (.call 242 true) 35 (i6 8),MV 34 36,O1 37 (.ext 0) 34,O1 38 (.ext 1) 34,MV 8 37,MV 9 38] (v6 [MV 40 1,OC 41 (.call 242 true) 40
 (i6 9),MV 39 41,O1 42 (.ext 0) 39,O1 43 (.ext 1) 39,MV 10 42,MV 11 43] ((v6 [MV 44 8,MV 45 10,BI 46 .add 44 45,vV 47 .gtr 46 0] (v7 47 (wa [ON 6 (.nilo 1 6 92) [],vU 7
 13]))).seq (v6 [⟨some 12,none,.alloc 2 264 [.nl,.nilp,.nl,.bool false,.bool false,.bool false],[]⟩] (((C.wk.seq (wc [O1 48 (.load (some 2)) 3,MV 49 1,O2 50 (.call 243 true) 48
 49])).seq (C.block 0 (C.range (.t 50) [51] (wc [⟨some 13,none,.alloc 3 269 [i6 0,.int .u8 0,i6 0,.str [],i6 0,.bool false,.str []],[]⟩,ST 7 13 51]) (C.block 1 (wc [O1 52 (.load
 (some 7)) 13,O2 53 (.call 244 false) 12 52]))))).seq (v6 [O1 54 (.call 245 false) 12] ((v6 [vT 55 0 12,LD 56 55,O1 57 .len 56,vV 58 .gtr 57 1024,MV 59 58,wh 60 59 0 12,wi 61 59
 60,vZ 62 59 (.call 172 true) 61 (.fn (Fn.func 246) [] []),PT 63 59 62] (v7 63 (wa [ON 6 (.nilo 1 6 92) [],vU 7 4]))).seq (wa [MV 64 2,vT 65 0 12,LD 66 65,O2 67 (.call 247
 false) 64 66,O1 68 (.ext 0) 67,O1 69 (.ext 1) 67,MV 6 68,MV 7 69]))))))))))))
theorem M1:qN Tryz.prog 182 70 6 [RV.tmp 6,RV.tmp 7] Il:=fi Tryz.f182 [3,6,12,13,9,11] EC [12]
end
section
open Go Go.Proofs AF HY LN
namespace RC
theorem Ak{t:Tk}(h:TkG t)(hl:t.text.length<=64):(rR t.flags=false∧mkB t.flags=false∧ ∀i,i<t.text.length->xO (ch t.text i)=true)∨(rR t.flags=false∧mkB t.flags=true):=by
 rcases h.2 with⟨hf,c,r,e,hb,hr⟩|⟨hf,_⟩
 ·refine .inl ⟨by rcases hf with e|e<;>rw[e]<;>rfl,by rcases hf with e|e<;>rw[e]<;>rfl,λi hi=> ?_⟩;rw[e]at hi ⊢;cases i with
  |zero=>exact bB hb
  |succ i=>
   simp only[lco]at hi
   have:ch (c::r) (i+1)=r[i]'(by omega):=by simp[ch,gdqA,show i<r.length by omega]
   rw[this];exact hr _ (List.getElem_mem _)
 ·exact .inr ⟨by rcases hf with e|e<;>rw[e]<;>rfl,by rcases hf with e|e<;>rw[e]<;>rfl⟩
theorem Aj{t:Tk}(h:TkG t): ∃f:Nat,t.flags=f∧f<32:=by
 rcases h.2 with⟨hf|hf,_⟩|⟨hf|hf,_⟩
 ·exact⟨0,hf,om⟩
 ·exact⟨16,hf,om⟩
 ·exact⟨8,hf,om⟩
 ·exact⟨24,hf,om⟩
theorem qdi(L:List Tk)(b v:Nat)(h:w6)(hb:qv b h=some (zE v 92 (jA L)))(hg: ∀t∈L,TkG t)(hl: ∀t∈L,t.text.length<=64)(hn:L.length<=1000000):
  ACalls Tryz.prog 247 [.nl,.osl b v 6 0 L.length] h (.tup [.osl b v 6 0 L.length,.int .i64 0]) (qu b h (zE v 92 (jA (L.map tkN)))):=by
 have hbl:=zA hb;have hlv: ∀l,qI (h++l) b v=true:=λl=>by rw[jI,zQ hbl,hb,zC];simp
 refine acO Ny ?_;simp (disch:=omega) only[IK,hlv,go_sem];refine qp (T:=λi:Nat=>zw 49 [(0,.nl),(1,.osl b v 6 0 L.length),(10,.int .i64 L.length),(11,.int .i64 i)]) (H:=λi=>qu b h (zE v 92 (jA (nmL L i)))++ [.emp 1]) (inv:=λi=>i<=L.length) (m:=λi=>L.length-i) 0 (nzl _) ?_ ?_
 ·rw[XT,jJ hb];refine Wk.temps ?_
  (simp only[go_sem,qg,qc,qa,qf];try exact wr)
 rintro i i1 K hK;have hML:=cR L i
 by_cases hi:i<L.length
 ·have k1:((i:Int)<L.length)=True:=xv;have hne:jA (nmL L i)≠ []:=λe=>by
   have:=congrArg List.length e
   rw[jV,hML,lnl]at this;omega
  have ho:zE v 92 (jA (nmL L i))= .mem v 92 (jA (nmL L i)):=by unfold zE;rw[ine hne]
  rw[ho];have hM:=jV (nmL L i);rw[hML]at hM;obtain⟨t,ht⟩:=wD (L.getD i default)
  have hmem:t∈L:=by rw[ht];exact zh hi
  have gt:=hg t hmem;have lt:=hl t hmem;have hat:=OU hi;rw[<-ht]at hat;have hsucc:=XS hi;rw[<-ht]at hsucc;obtain⟨M,hMe⟩:=wD (nmL L i)
  rw[<-hMe]at hM hat hsucc hML ⊢;have s1: ∀ {l w cs z},cellsOf (qu b h (.mem w 92 cs)++l) b z=if w=z then some cs else none:=wT hbl
  have s2: ∀ {l o o'},qu b (qu b h o++l) o'=qu b h o'++l:=gy hbl;have s4: ∀ {l o},qv b (qu b h o++l)=some o:=bG hbl;have s3: ∀ {l o w},qI (qu b h o++l) b w=qM (some o) w:=λ{l o w}=>by rw[jI,s4]
  have g0:(jA M)[i*6]? =some (.str t.text):=by
   have:=gV (L:=M) (i:=i) (k:=0) om om
   rw[Nat.add_zero]at this;rw[this,hat];rfl
  have b1:(i*6<L.length*6)=True:=xv;have b2:(i*6+1+1<=L.length*6)=True:=xv;have b3:(i*6+6<=L.length*6)=True:=xv;have hset:=pO (L:=M) (i:=i) (tkN t) om;rw[<-hsucc]at hset;have hcut:=y6 (L:=M) (i:=i) om;rw[hat]at hcut;have hS:List.take (i*6+1) (jA M)++ [AV.str t.text]++List.drop (i*6+1+1) (jA M)=jA (nmL L (i+1)):=by
   rw[<-hset];have e1:List.take (i*6+1) (jA M)=List.take (i*6) (jA M)++ [.str t.text]:=by
    rw[List.take_add_one,g0];rfl
   have e2:List.drop (i*6+1+1) (jA M)=(tkC t).drop 2++(jA M).drop (i*6+6):=by
    rw[<-hcut,List.drop_take,List.drop_drop]
    have:List.drop (i*6+6) (jA M)=List.drop 4 (List.drop (i*6+2) (jA M)):=by rw[List.drop_drop]
    rw[this,show i*6+1+1=i*6+2 by omega];exact (List.take_append_drop 4 _).symm
   rw[e1,e2];simp[tkC,tkN]
  have hL2:=jV (nmL L (i+1));rw[cR]at hL2;have hat2:(nmL L (i+1)).getD i default=tkN t:=by rw[hsucc];exact wX om
  have hcut2:=y6 (L:=nmL L (i+1)) (i:=i) (by rw[cR];exact hi);rw[hat2]at hcut2;have h0':(jA (nmL L (i+1)))[i*6]? =some (.str t.text):=by
   have:=gV (L:=nmL L (i+1)) (i:=i) (k:=0) (by rw[cR];exact hi) om
   rw[hat2]at this;exact this
  have hS2:List.take (i*6+1) (jA (nmL L (i+1)))++ [AV.str t.text]++List.drop (i*6+1+1) (jA (nmL L (i+1)))=jA (nmL L (i+1)):=by
   refine lV ?_;rw[gV (by rw[cR];exact hi) om,hat2];rfl
  obtain⟨f,hf,hf2⟩:=Aj gt;have c1:=λh=>qeH (tkN t) f h hf hf2
  have ho2:zE v 92 (jA (nmL L (i+1)))= .mem v 92 (jA (nmL L (i+1))):=by
   unfold zE;rw[ine λe=> ?_]
   have:=congrArg List.length e
   rw[hL2,lnl]at this;omega
  rcases Ak gt lt with⟨q1,q2,q3⟩|⟨q1,q2⟩
  ·have hiw:(!rR (tkN t).flags&& !mkB (tkN t).flags)=true:=by rw[show (tkN t).flags=t.flags from rfl,q1,q2];rfl
   rw[hiw]at c1;have c2:=λh=>qdh t.text h lt q3
   simp (disch:=omega) only[k1,s1,s2,s4,hM,g0,b1,b2,b3,hS,hL2,hcut2,go_sem]
   repeat' first|((first|refine cA (c1 _) ?_ ?_|refine cA (c2 _) ?_ ?_);exact flk;simp (disch:=omega) only[k1,s1,s2,s4,b1,b2,hL2,h0',hS2,go_sem])|with_reducible apply aiA|exact clz|fail
   refine hK _ _ (i+1) hi om ?_;rw[ho2];refine Wk.temps ?_
   (simp only[go_sem,qg,qc,qa,qf];try exact wr)
  ·have hiw:(!rR (tkN t).flags&& !mkB (tkN t).flags)=false:=by rw[show (tkN t).flags=t.flags from rfl,q1,q2];rfl
   rw[hiw]at c1;simp (disch:=omega) only[k1,s1,s2,s4,hM,g0,b1,b2,b3,hS,hL2,hcut2,go_sem]
   repeat' first|(refine cA (c1 _) flk ?_;simp (disch:=omega) only[k1,s1,b1,hL2,go_sem])|with_reducible apply aiA|exact clz|fail
   refine hK _ _ (i+1) hi om ?_;rw[ho2];refine Wk.temps ?_
   (simp only[go_sem,qg,qc,qa,qf];try exact wr)
 have k1:((i:Int)<L.length)=False:=xD;obtain rfl:i=L.length:=by omega
 simp (disch:=omega) only[k1,go_sem];rw[EU];refine wG ⟨trivial,trivial,trivial⟩ qQ (λo ho=>(jB ho).imp id (λe=>by rw[e];exact ju (kE _ _))) ⟨rfl,rfl⟩ ?_;simp only[go_sem];rw[ine om];exact qi
end RC
end
section
open Go Go.Proofs AF HY LN
namespace AF
theorem Gn{h:w6}{a b c:Nat}{X Y Z o:AObj}(ho:o∈tri h a b c X Y Z):o∈h∨o=X∨o=Y∨o=Z:=by
 unfold tri at ho;rcases jB ho with h1|rfl
 ·rcases jB h1 with h1|rfl
  ·rcases jB h1 with h1|rfl
   ·exact .inl h1
   ·exact .inr (.inl rfl)
  ·exact .inr (.inr (.inl rfl))
 ·exact .inr (.inr (.inr rfl))
theorem Rt{h l:w6}{a b c k:Nat}{X Y Z:AObj}(hk:k<h.length)(ha:k≠a)(hb:k≠b)(hc:k≠c):qv k (tri h a b c X Y Z++l)=qv k h:=by
 rw[zQ (by rw[tri_len];exact hk)];unfold tri;rw[qX hc,qX hb,qX ha]
theorem Ru{h l:w6}{a b c k:Nat}{X Y Z o:AObj}(hk:k<h.length)(ha:k≠a)(hb:k≠b)(hc:k≠c):qu k (tri h a b c X Y Z++l) o=tri (qu k h o) a b c X Y Z++l:=by
 rw[zR (by rw[tri_len];exact hk)];unfold tri;rw[kY hc,kY hb,kY ha]
theorem Cb{h:w6}{a b c:Nat}{X Y Z:AObj}(ha:qv a h=some X)(hb:qv b h=some Y)(hc:qv c h=some Z):tri h a b c X Y Z=h:=by
 unfold tri;rw[jJ ha,jJ hb,jJ hc]
end AF
namespace RC
theorem gM{v n:Nat}{L:List Tk}{ty:TypeId}{fz:Nat->Bool}{h:w6}{d:Nat}(hn:n=L.length):VLe (mo (some (zE v ty (jA L))) v 6 0 n (rei fz h (d+1))) (zX L):=by
 subst hn;unfold zE;split
 ·rename_i e
  have:L= []:=by
   cases L with
   |nil=>rfl
   |cons a r=>exact absurd e (by simp[jA,tkC])
  subst this;rw[slOf_emp,ipo rfl];exact qY
 ·rw[slOf_mem,ipo ⟨rfl,by rw[jV];omega⟩];refine VLe.sl_eq rfl (λi hi=> ?_);simp only[Nat.zero_add];rw[y6 hi];rfl
theorem qgh(t:Tk)(h:w6):ACalls Tryz.prog 246 [.agg (tkC t)] h (.bool (decide (64<t.text.length))) h:=by
 by_cases g:64<t.text.length
 ·have k1:((64:Int)<t.text.length)=True:=xv;rw[dqt g];refine acO Bt ?_;simp (disch:=omega) only[Db,tkC,k1,go_sem]
  repeat' first|exact wj|fail
 ·have k1:((64:Int)<t.text.length)=False:=xD;rw[dqf g];refine acO Bt ?_;simp (disch:=omega) only[Db,tkC,k1,go_sem]
  repeat' first|exact wj|fail
theorem qfK(L:List Tk)(h:w6)(hl:L.length<=1000000000):ACalls Tryz.prog 172 [zX L,.fn (.func 246) [] []] h (.bool (EI L)) h:=
 A9 Bf ⟨rfl,rfl⟩ ⟨rfl,rfl⟩ (cC Bl L.length (λj=>tkC (L.getD j default)) (λj=> .agg (tkC (L.getD j default))) 246 [] [] (λj=>decide (64<(L.getD j default).text.length)) h (λi _=>⟨rfl,by simp[j0,tkC],rfl,rfl,rfl⟩) (λi _=>qgh _ _) om)
end RC
end
section
open Go Go.Proofs AF HY LN
namespace RC
def pQ(s:Str):List Tk:=if pP s=0 then gW s else []
theorem qdy(s:Str)(h:w6)(hl:s.length<=1000)(hs:s≠ [])(hc:jc s=0)(hg:z7 h frmN frmC):ACalls Tryz.prog 182 [.agg [.str [],.int .i64 0],kp s,.nl] h (.tup [zX (pQ s),.int .i64 (pP s)]) h:=by
 have c1:=λl=>qb6 s (h++l) om om hs hc hg.app
 have c2:=λh=>qeN h
 have c3:=λh=>qdf [] h (by simp)
 rw[show ZL []=true from rfl]at c3;have c4:=λl=>qey s 8 (h++l) om om (λl'=>qb6 s (h++l++l') om om hs hc hg.app.app)
 have c9:=λl=>qey s 9 (h++l) om om (λl'=>qb6 s (h++l++l') om om hs hc hg.app.app)
 have c5:=λh=>qe9 s h
 unfold kp at c1 c4 c5 c9;refine acO M1 ?_;simp (disch:=omega) only[Il,kp,go_sem]
 repeat' first|((first|refine cA (c1 _) ?_ ?_|refine cG (λe=>c2 _) ?_ ?_|refine cA (c3 _) ?_ ?_|refine cA (c4 _) ?_ ?_|refine cA (c9 _) ?_ ?_);exact flk;simp (disch:=omega) only[go_sem])|(apply qb;exact rvk;simp only[go_sem])|(with_reducible first|intro _|apply aiA)|exact clz|fail
 refine⟨_,_,(Wk.ownNil (j:=h.length+2) (i:=0) (k:=h.length+4) (v:=1) (ty:=264) (cs:= [.nl,.nilp,.nl,.bool false,.bool false,.bool false]) (ve:=0) (sz:=6) ?m1 rfl ?m2).trans
  (Wk.ownNil (j:=h.length+2) (i:=2) (k:=h.length+5) (v:=1) (ty:=264) (cs:= [.osl (h.length+4) 0 6 0 0,.nilp,.nl,.bool false,.bool false,.bool false]) (ve:=0) (sz:=1) ?m3 rfl ?m4),?_⟩
 case m1=>simp only[go_sem]
 case m2=>simp only[go_sem]
 case m3=>
  simp only[List.set_cons_zero,go_sem]
 case m4=>simp only[List.set_cons_zero,go_sem]
 simp (disch:=omega) only[List.set_cons_zero,List.set_cons_succ,go_sem]
 repeat' first|(refine cA (c5 _) flk ?_;simp (disch:=omega) only[go_sem])
 obtain⟨base,hbase⟩: ∃base:AObj->w6,base=λO=>h++ [.mem 1 88 [.str [],.int .i64 0],.emp 1,.mem 1 264 [.osl (h.length+4) 0 6 0 0,.nilp,.osl (h.length+5) 0 1 0 0,.bool false,.bool false,.bool false],O,.emp 0,.emp 0]:=⟨_,rfl⟩
 have hbl: ∀O,(base O).length=h.length+6:=λO=>by rw[hbase];simp
 have hT: ∀O,T3 (base O) (h.length+2) (h.length+4) (h.length+5):=λO=>⟨by rw[hbl];omega,by rw[hbl];omega,by rw[hbl];omega,om,om,om⟩
 have f1: ∀ {O X Y Z l},qv (h.length+3) (tri (base O) (h.length+2) (h.length+4) (h.length+5) X Y Z++l)=some O:=λ{O X Y Z l}=>by
  rw[Rt (by rw[hbl];omega) om om om,hbase];simp only[go_sem]
 have f2: ∀ {O O' X Y Z l},qu (h.length+3) (tri (base O) (h.length+2) (h.length+4) (h.length+5) X Y Z++l) O'=tri (base O') (h.length+2) (h.length+4) (h.length+5) X Y Z++l:=λ{O O' X Y Z l}=>by
  rw[Ru (by rw[hbl];omega) om om om,hbase];simp only[go_sem]
 have f4: ∀ {v w ty cs X Y Z l},cellsOf (tri (base (.mem v ty cs)) (h.length+2) (h.length+4) (h.length+5) X Y Z++l) (h.length+3) w=if v=w then some cs else none:=λ{v w ty cs X Y Z l}=>by rw[jb,f1];rfl
 have eT: ∀ {O X Y Z},tri (base O) (h.length+2) (h.length+4) (h.length+5) X Y Z=h++ [.mem 1 88 [.str [],.int .i64 0],.emp 1,X,O,Y,Z]:=λ{O X Y Z}=>by
  rw[hbase];unfold tri;simp only[go_sem]
 have hst:base (.emp 0)=brO (base (.emp 0)) (h.length+2) (h.length+4) (h.length+5) 1 (brI 0 0 (s.take 0)):=by
  refine (Cb ?_ ?_ ?_).symm
  ·rw[hbase];simp only[go_sem];rfl
  ·rw[hbase];simp only[go_sem];rfl
  ·rw[hbase];simp only[go_sem];rfl
 have hLow: ∀(q:Br) O,(∀n,lowO n O)->LowI (base (.emp 0)) (brO (base O) (h.length+2) (h.length+4) (h.length+5) 1 q):=λq O lO=>by
  refine⟨by rw[fp,hbl,hbl],λo ho=> ?_⟩;rcases Gn ho with h1|rfl|rfl|rfl
  ·rw[hbase]at h1 ⊢;rcases List.mem_append.1 h1 with h1|h1
   ·exact .inl (List.mem_append_left _ h1)
   ·simp only[List.mem_cons,List.not_mem_nil,or_false]at h1;rcases h1 with rfl|rfl|rfl|rfl|rfl|rfl
    ·left;simp
    ·left;simp
    ·left;simp
    ·right;exact⟨lO _,lO _⟩
    ·left;simp
    ·left;simp
  ·right
   have:=jY (hT O) 1 q
   rw[hbl]at this ⊢;exact⟨this,lowO_mono om this⟩
  ·right;exact⟨wS _ _,wS _ _⟩
  ·right;exact⟨jt _ _ _,jt _ _ _⟩
 have e0:h++ [.mem 1 88 [.str [],.int .i64 0],.emp 1,.mem 1 264 [.osl (h.length+4) 0 6 0 0,.nilp,.osl (h.length+5) 0 1 0 0,.bool false,.bool false,.bool false],.emp 0,.emp 0,.emp 0]=base (.emp 0):=by rw[hbase]
 rw[e0];refine zJ (xs:=atX s) (itA s om) (λa ha=> ?_)
  (S:=λi hh=> ∃O,qK [O] 0=true∧(∀n,lowO n O)∧hh=brO (base O) (h.length+2) (h.length+4) (h.length+5) 1 (brI 0 0 (s.take i))) (E:=λ_ _=>False) ?_ ?_ ?_ ?_ ?_ ?_ ?_
 ·obtain⟨c,_,rfl⟩:=List.mem_map.1 (show a∈s.map _ from ha);rfl
 ·rintro i hh ⟨O,_,l1,rfl⟩;exact hLow _ _ l1
 ·intro s hh hf;exact hf.elim
 ·exact⟨.emp 0,rfl,λ_=>trivial,hst⟩
 ·rw[hbl];simp[ze,ze.lowVs]
  try omega
 ·rintro i hh tl LI TS hi ⟨O,s1,l1,rfl⟩ hlen K K2 hK hN hR' hX;have hi':i<s.length:=by rw[bZ]at hi;exact hi
  rw[AX hi];have t:=hT O;have f3: ∀ {X Y Z l},qK (tri (base O) (h.length+2) (h.length+4) (h.length+5) X Y Z++l) (h.length+3)=true:=λ{X Y Z l}=>by unfold qK;rw[f1];exact s1
  simp only[kA];unfold brO;simp (disch:=omega) only[f1,f2,f3,f4,atC,go_sem];refine hK _ _ (brO (base (.mem (qn (some O)+1) 269 (atC 1 (ch s i)))) (h.length+2) (h.length+4) (h.length+5) 1 (brI 0 0 (s.take i))) ?_ ?_ ?_
  ·rfl
  ·rw[fp,hbl,hbl]
  ·have cA:=Qh (va:=1) (λh' t'=>qbL (va:=1) t' (brI 0 0 (s.take i)) (ch s i) (AY 0 0 s om om)) (hT (.mem (qn (some O)+1) 269 (atC 1 (ch s i)))) (.lp .busy TS LI::tl);unfold brO atC at cA;unfold brO;simp (disch:=omega) only[f4,atC,go_sem];refine qE cA (by exact flk) ?_;simp (disch:=omega) only[go_sem];refine hN _ _ (brO (base (.mem (qn (some O)+1) 269 (atC 1 (ch s i)))) (h.length+2) (h.length+4) (h.length+5) 1 ((brI 0 0 (s.take i)).pt (ch s i))) rfl (by rw[fp,hbl,hbl]) ⟨_,?_,?_,by rw[V7 0 0 s hi']⟩
   ·rfl
   ·intro n d hd;simp[atC]at hd;rcases hd with rfl|rfl|rfl|rfl|rfl|rfl|rfl<;>rfl
 ·rintro hh ⟨O,s1,l1,rfl⟩;have t:=hT O;rw[bZ,List.take_length];have hqo:=AY 0 0 s om (nlr s.length);have hqb:=HK 0 0 s s.length (nlr _);rw[List.take_length]at hqo hqb;obtain⟨q,hq⟩:=wD (brI 0 0 s)
  rw[<-hq]at hqo hqb ⊢;obtain⟨n1,n2,n3,n4⟩:=BO hqb (iC s);have n1:q.nd.out=yu s:=n1;have cE:=CO (va:=1) t q (λe=>(hqo.op e).1) hqo.cl (by have:=hqo.n;omega) (by have:=hqo.w;omega);simp (disch:=omega) only[go_sem];refine qE cE (by exact flk) ?_;obtain⟨r,hr⟩:=wD q.nd
  rw[<-hr]at n1 ⊢;have zga: ∀ {X Y Z l},qv (h.length+2) (tri (base O) (h.length+2) (h.length+4) (h.length+5) X Y Z++l)=some X:=xe (t);have yga: ∀ {X Y Z},qv (h.length+2) (tri (base O) (h.length+2) (h.length+4) (h.length+5) X Y Z)=some X:=λ{X Y Z}=>by have:=zga (X:=X) (Y:=Y) (Z:=Z) (l:= []);simpa only[lan] using this
  have zgb: ∀ {X Y Z l},qv (h.length+4) (tri (base O) (h.length+2) (h.length+4) (h.length+5) X Y Z++l)=some Y:=xF (t);have ygb: ∀ {X Y Z},qv (h.length+4) (tri (base O) (h.length+2) (h.length+4) (h.length+5) X Y Z)=some Y:=λ{X Y Z}=>by have:=zgb (X:=X) (Y:=Y) (Z:=Z) (l:= []);simpa only[lan] using this
  have zgc: ∀ {X Y Z l},qv (h.length+5) (tri (base O) (h.length+2) (h.length+4) (h.length+5) X Y Z++l)=some Z:=xf (t);have ygc: ∀ {X Y Z},qv (h.length+5) (tri (base O) (h.length+2) (h.length+4) (h.length+5) X Y Z)=some Z:=λ{X Y Z}=>by have:=zgc (X:=X) (Y:=Y) (Z:=Z) (l:= []);simpa only[lan] using this
  have zsa: ∀ {X Y Z o l},qu (h.length+2) (tri (base O) (h.length+2) (h.length+4) (h.length+5) X Y Z++l) o=tri (base O) (h.length+2) (h.length+4) (h.length+5) o Y Z++l:=xG (t);have ysa: ∀ {X Y Z o},qu (h.length+2) (tri (base O) (h.length+2) (h.length+4) (h.length+5) X Y Z) o=tri (base O) (h.length+2) (h.length+4) (h.length+5) o Y Z:=λ{X Y Z o}=>by have:=zsa (X:=X) (Y:=Y) (Z:=Z) (o:=o) (l:= []);simpa only[lan] using this
  have zsb: ∀ {X Y Z o l},qu (h.length+4) (tri (base O) (h.length+2) (h.length+4) (h.length+5) X Y Z++l) o=tri (base O) (h.length+2) (h.length+4) (h.length+5) X o Z++l:=yd (t);have ysb: ∀ {X Y Z o},qu (h.length+4) (tri (base O) (h.length+2) (h.length+4) (h.length+5) X Y Z) o=tri (base O) (h.length+2) (h.length+4) (h.length+5) X o Z:=λ{X Y Z o}=>by have:=zsb (X:=X) (Y:=Y) (Z:=Z) (o:=o) (l:= []);simpa only[lan] using this
  have zsc: ∀ {X Y Z o l},qu (h.length+5) (tri (base O) (h.length+2) (h.length+4) (h.length+5) X Y Z++l) o=tri (base O) (h.length+2) (h.length+4) (h.length+5) X Y o++l:=ye (t);have ysc: ∀ {X Y Z o},qu (h.length+5) (tri (base O) (h.length+2) (h.length+4) (h.length+5) X Y Z) o=tri (base O) (h.length+2) (h.length+4) (h.length+5) X Y o:=λ{X Y Z o}=>by have:=zsc (X:=X) (Y:=Y) (Z:=Z) (o:=o) (l:= []);simpa only[lan] using this
  have zca: ∀ {X Y Z v l},cellsOf (tri (base O) (h.length+2) (h.length+4) (h.length+5) X Y Z++l) (h.length+2) v=qw (some X) v:=y7 (t);have yca: ∀ {X Y Z v},cellsOf (tri (base O) (h.length+2) (h.length+4) (h.length+5) X Y Z) (h.length+2) v=qw (some X) v:=λ{X Y Z v}=>by have:=zca (X:=X) (Y:=Y) (Z:=Z) (v:=v) (l:= []);simpa only[lan] using this
  have zcb: ∀ {X Y Z v l},cellsOf (tri (base O) (h.length+2) (h.length+4) (h.length+5) X Y Z++l) (h.length+4) v=qw (some Y) v:=y8 (t);have ycb: ∀ {X Y Z v},cellsOf (tri (base O) (h.length+2) (h.length+4) (h.length+5) X Y Z) (h.length+4) v=qw (some Y) v:=λ{X Y Z v}=>by have:=zcb (X:=X) (Y:=Y) (Z:=Z) (v:=v) (l:= []);simpa only[lan] using this
  have zcc: ∀ {X Y Z v l},cellsOf (tri (base O) (h.length+2) (h.length+4) (h.length+5) X Y Z++l) (h.length+5) v=qw (some Z) v:=y9 (t);have ycc: ∀ {X Y Z v},cellsOf (tri (base O) (h.length+2) (h.length+4) (h.length+5) X Y Z) (h.length+5) v=qw (some Z) v:=λ{X Y Z v}=>by have:=zcc (X:=X) (Y:=Y) (Z:=Z) (v:=v) (l:= []);simpa only[lan] using this
  have zla: ∀ {X Y Z v l},qI (tri (base O) (h.length+2) (h.length+4) (h.length+5) X Y Z++l) (h.length+2) v=qM (some X) v:=aa (t);have yla: ∀ {X Y Z v},qI (tri (base O) (h.length+2) (h.length+4) (h.length+5) X Y Z) (h.length+2) v=qM (some X) v:=λ{X Y Z v}=>by have:=zla (X:=X) (Y:=Y) (Z:=Z) (v:=v) (l:= []);simpa only[lan] using this
  have zlb: ∀ {X Y Z v l},qI (tri (base O) (h.length+2) (h.length+4) (h.length+5) X Y Z++l) (h.length+4) v=qM (some Y) v:=ae (t);have ylb: ∀ {X Y Z v},qI (tri (base O) (h.length+2) (h.length+4) (h.length+5) X Y Z) (h.length+4) v=qM (some Y) v:=λ{X Y Z v}=>by have:=zlb (X:=X) (Y:=Y) (Z:=Z) (v:=v) (l:= []);simpa only[lan] using this
  have zlc: ∀ {X Y Z v l},qI (tri (base O) (h.length+2) (h.length+4) (h.length+5) X Y Z++l) (h.length+5) v=qM (some Z) v:=af (t);have ylc: ∀ {X Y Z v},qI (tri (base O) (h.length+2) (h.length+4) (h.length+5) X Y Z) (h.length+5) v=qM (some Z) v:=λ{X Y Z v}=>by have:=zlc (X:=X) (Y:=Y) (Z:=Z) (v:=v) (l:= []);simpa only[lan] using this
  have hrl:=lZ s;have hor:r.out.length=(yu s).length:=by rw[n1]
  have k1:((1024:Int)<r.out.length)=False:=xD;have hcE:=λh=>qfK (yu s) h om
  unfold brO brX brY;rw[n1];rw[n1]at k1;have hL:=jV (yu s);have hb64:=aw (L:=yu s);have hTE:pP s=if EI (yu s)=true then 4 else 0:=rfl
  have hTL:pQ s=if pP s=0 then gW s else []:=rfl
  cases hB:EI (yu s)with
  |true=>
   rw[hB]at hTE hcE;rw[ipo rfl]at hTE;rw[hTE,ine (by decide)]at hTL;rw[hTE,hTL];simp (disch:=omega) only[yca,ylb,ql,zC,k1,go_sem];refine cG (λ_=>ACalls.borrow (r:= .bool true) ((hcE []).le ?g1 (qi)) rfl) (λ_=>by exact flk) ?_
   case g1=>
    simp only[List.map_cons,List.map_nil,go_sem,if_true];rw[ygb];exact⟨gM rfl,qi,trivial⟩
   simp (disch:=omega) only[yca,ql,go_sem]
   repeat' first|with_reducible apply aiA
   ·rw[eT];simp only[go_sem]
   ·rw[eT];simp only[go_sem];refine fD rfl ⟨trivial,trivial,trivial⟩ ⟨rfl,rfl⟩ ?_;simp only[go_sem];exact VLe.tup ⟨qY,qi,trivial⟩
  |false=>
   rw[hB]at hTE hcE;rw[ine (by simp)]at hTE;rw[hTE,ipo rfl]at hTL;rw[hTE,hTL];simp (disch:=omega) only[yca,ylb,ql,zC,k1,go_sem];refine cG (λ_=>ACalls.borrow (r:= .bool false) ((hcE []).le ?g2 (qi)) rfl) (λ_=>by exact flk) ?_
   case g2=>
    simp only[List.map_cons,List.map_nil,go_sem,if_true];rw[ygb];exact⟨gM rfl,qi,trivial⟩
   simp (disch:=omega) only[yca,ql,go_sem];refine qE (qdi (yu s) (h.length+4) r.vo _ ygb (pR s) (hb64.1 hB) om) (by exact flk) ?_;simp (disch:=omega) only[ysb,go_sem]
   repeat' first|with_reducible apply aiA|exact clz|fail
   rw[eT];refine fD rfl ⟨trivial,trivial,trivial⟩ ⟨rfl,rfl⟩ ?_;simp only[go_sem];exact VLe.tup ⟨gM (by simp[gW]),qi,trivial⟩
 ·intro e hh hf;exact hf.elim
end RC
end
section
open Go Go.Proofs AF
def oU:List Nat:= [182]
def We:C:=
 (v6 [ON 2 (.nilo 0 1 9) [],vU 3 0] ((v6 [MV 7 0,O1 8 (.call 181 true) 7,MV 4 8] (v6 [MV 9 4,vV 10 .neq 9 0] (v7 10 (wa [MV 11 4,ON 2 (.nilo 0 1 9) [],MV 3 11])))).seq ((v6 [MV
 12 0,BC 13 .eql 12 (.str [])] (v7 13 (wa [ON 2 (.nilo 0 1 9) [],vU 3 0]))).seq (v6 [⟨some 15,none,.build [.str [],i6 0] [],[]⟩,MV 16 0,⟨some 17,none,.build [i6 0,.str [],i6
 0,.nl] [(0,1),(1,1)],[.c (i6 1),.t 16]⟩,⟨some 18,none,.bslc 1 4 1 198 [i6 0,.str [],i6 0,.nl] [(0,4)],[.t 17]⟩,ON 19 (.call 182 false) [.t 15,.t 18,.c .nl],MV 14 19,O1 20 (.ext
 0) 14,O1 21 (.ext 1) 14,MV 5 20,MV 6 21] (wa [MV 22 5,O1 23 (.call 91 true) 22,MV 24 6,MV 2 23,MV 3 24])))))
theorem Za:qN Tryz.prog 132 25 2 [RV.tmp 2,RV.tmp 3] We:=fi Tryz.f132 [2,18] oU []
def H5:C:=
 (v6 [ON 2 (.nilo 0 6 92) []] (v6 [⟨some 6,none,.build [.str [],i6 0] [],[]⟩,MV 7 0,⟨some 8,none,.build [i6 0,.str [],i6 0,.nl] [(0,1),(1,1)],[.c (i6 1),.t 7]⟩,⟨some 9,none,.bslc
 1 4 1 198 [i6 0,.str [],i6 0,.nl] [(0,4)],[.t 8]⟩,ON 10 (.call 182 false) [.t 6,.t 9,.c .nl],MV 5 10,O1 11 (.ext 0) 5,O1 12 (.ext 1) 5,MV 3 11,MV 4 12] (wa [MV 13 3,MV 2 13])))
theorem ME:qN Tryz.prog 139 14 2 [RV.tmp 2] H5:=fi Tryz.f139 [2,9] oU []
end
section
open Go Go.Proofs AF
def jS:List Nat:= []
def dQ:C:=
 (v6 [O1 3 (.box 0 26) 0,O1 5 (.box 1 43) 2,vU 6 0,vU 7 0] ((C.block 0 (v6 [vT 15 0 5,LD 16 15,vV 17 .lss 16 1,MV 18 17,wh 19 18 0 5,wi 20 18 19,vZ 21 18 (.bin .gtr) 20 (i6 3),PT
 22 18 21,MV 14 22] (C.cond (.t 14) (wa [vU 6 0,vU 7 8]) (v6 [vT 24 3 5,LD 25 24,BC 26 .neq 25 (.str []),MV 27 26,P1 28 27 true (.fldA 0) 5,P1 29 27 true (.load none) 28,PC 30
 27 true (.bin .neq) 29 (i6 2),PF 31 27 30,MV 23 31] (v7 23 (wa [vU 6 0,vU 7 1])))))).seq (v6 [vT 32 1 3,LD 33 32,vT 34 1 5,LD 35 34,O2 36 (.call 22 true) 33 35,MV 8 36] ((v6
 [MV 37 8,vV 38 .lss 37 0] (v7 38 (wa [vU 6 0,vU 7 6]))).seq (v6 [O1 40 (.load (some 4)) 3,MV 41 8,vT 42 2 5,LD 43 42,ON 44 (.call 131 true) [.t 40,.t 41,.t 43],MV 39 44,O1 45
 (.ext 0) 39,O1 46 (.ext 1) 39,MV 9 45,MV 10 46] ((v6 [MV 47 10,vV 48 .neq 47 0] (v7 48 (wa [vU 6 0,vU 7 6]))).seq (v6 [MV 50 1,MV 51 9,O2 52 (.call 71 true) 50 51,MV 49 52,O1
 53 (.ext 0) 49,O1 54 (.ext 1) 49,MV 11 53,MV 10 54] ((v6 [MV 55 10,vV 56 .neq 55 0,MV 57 56,vY 58 57 11,vZ 59 57 (.bin .lss) 58 (i6 0),PT 60 57 59] (v7 60 (wa [vU 6 0,vU 7
 20]))).seq ((v6 [vT 61 0 5,LD 62 61,vV 63 .eql 62 2] (v7 63 (v6 [vT 65 3 5,LD 66 65,O1 67 (.call 132 true) 66,MV 64 67,O1 68 (.ext 0) 64,O1 69 (.ext 1) 64,MV 12 68,MV 13 69]
 ((v6 [MV 70 13,vV 71 .neq 70 0] (v7 71 (wa [MV 72 13,vU 6 0,MV 7 72]))).seq (v6 [MV 73 12,O1 74 .len 73,vV 75 .eql 74 0] (v7 75 (wa [vU 6 0,vU 7 5]))))))).seq (wa [MV 76 11,MV
 6 76,vU 7 0]))))))))))
theorem wW:qN Tryz.prog 76 77 2 [RV.tmp 6,RV.tmp 7] dQ:=fi Tryz.f76 [3,5] jS []
def qbP:C:=
 (v6 [O1 3 (.box 0 26) 0,O1 5 (.box 1 43) 2,vU 6 0,vU 7 0] ((v6 [O1 9 (.load (some 4)) 3,MV 10 1,O2 11 (.call 75 true) 9 10,MV 8 11] (v6 [MV 12 8,vV 13 .neq 12 0] (v7 13 (wa [MV
 14 8,vU 6 0,MV 7 14])))).seq (wa [O1 15 (.load (some 4)) 3,MV 16 1,O1 17 (.load (some 4)) 5,ON 18 (.call 76 true) [.t 15,.t 16,.t 17],O1 19 (.ext 0) 18,O1 20 (.ext 1) 18,MV 6
 19,MV 7 20])))
theorem Nh:qN Tryz.prog 20 21 2 [RV.tmp 6,RV.tmp 7] qbP:=fi Tryz.f20 [3,5] jS []
def qbX:C:=
 (v6 [O1 3 (.box 0 26) 0,ON 6 (.nilo 1 1 3) [],vU 7 0] ((v6 [MV 13 2,O1 14 .len 13,vV 15 .gtr 14 256] (v7 15 (wa [ON 6 (.nilo 1 1 3) [],vU 7 4]))).seq (v6 [ON 8 (.nilo 2 1 3) []]
 ((v6 [MV 16 2,O1 17 .len 16,vU 18 0] (C.block 0 (v6 [BI 19 .lss 18 17] ((v8 19 0).seq ((C.block 1 (v6 [O2 20 (.idxA 4) 16 18,O1 21 (.load (some 4)) 20,⟨some 10,none,.alloc 3 43
 [i6 0,.str [],i6 0,.str []],[]⟩,ST 4 10 21] (v6 [O1 23 (.load (some 4)) 3,MV 24 1,O1 25 (.load (some 4)) 10,ON 26 (.call 76 true) [.t 23,.t 24,.t 25],MV 22 26,O1 27 (.ext 0)
 22,O1 28 (.ext 1) 22,MV 11 27,MV 12 28] ((v6 [MV 29 12,vV 30 .neq 29 0] (v7 30 (wa [MV 31 12,ON 6 (.nilo 1 1 3) [],MV 7 31]))).seq (wc [MV 32 8,MV 33 11,⟨some 34,none,.bslc 4 1
 1 3 [i6 0] [(0,1)],[.t 33]⟩,O2 35 (.app 5 1 3 8) 32 34,MV 8 35]))))).seq (wc [vV 36 .add 18 1,MV 18 36])))).loop)).seq (wa [MV 37 8,MV 6 37,vU 7 0])))))
theorem Ob:qN Tryz.prog 78 38 6 [RV.tmp 6,RV.tmp 7] qbX:=fi Tryz.f78 [3,6,8,10,34,35] jS []
def Lh:C:=
 (v6 [MC 4 (.bool false)] ((v6 [MV 5 0,O1 6 (.call 134 true) 5] (v7 6 (wa [MV 7 1,O1 8 (.call 134 true) 7,O1 9 (.un UnOp.not) 8,MV 10 9,MG 11 10 true 1,PC 12 10 true (.bin .neq)
 11 (.str [39]),PF 13 10 12,MV 4 13]))).seq (wa [MC 4 (.bool true)])))
theorem Xi:qN Tryz.prog 81 14 0 [RV.tmp 4] Lh:=fi Tryz.f81 [] jS []
def qeq:C:=
 (v6 [O1 4 (.box 0 26) 0,O1 5 (.box 1 3) 1,O1 6 (.box 2 3) 2,O1 7 (.box 3 3) 3,MC 8 .nilfn] (wa [ON 9 (.mkfn (Fn.func 135) 0) [.t 5,.t 6,.t 4,.t 7],MV 8 9]))
theorem qcJ:qN Tryz.prog 83 10 4 [RV.tmp 8] qeq:=fi Tryz.f83 [4,5,6,7] jS []
def HV:C:=
 (v6 [LD 8 1,MV 6 8] (C.block 0 ((v6 [MV 9 6,LD 10 2,BI 11 .lss 9 10] (v8 11 0)).seq ((C.block 1 (v6 [vT 14 3 3,LD 15 14,MV 16 6,O2 17 (.idxA 1) 15 16,LD 18 17,LD 19 4,O2 20
 (.idxA 1) 18 19,LD 21 20,MV 7 21] (v6 [MV 22 7,vV 23 .geq 22 0,MV 24 23,MG 25 24 true 0,P1 26 24 true (.fldA 2) 3,P1 27 24 true (.load none) 26,P1 28 24 true (.load none) 4,P2
 29 24 true (.idxA 1) 27 28,P1 30 24 true (.load none) 29,MG 31 24 true 7,P2 32 24 true (.idxA 6) 30 31,P1 33 24 true (.load (some 6)) 32,MG 34 24 true 6,⟨some 35,some
 (24,true),.build [.str [],.str [],.str [],i6 0,i6 0,.str [],i6 0] [(0,6),(6,1)],[.t 33,.t 34]⟩,P2 36 24 true .callv 25 35,P1 37 24 true (.un UnOp.not) 36,PF 38 24 37] (v7 38
 C.ret)))).seq (we 12 6))).loop))
theorem Me:qN Tryz.prog 135 39 0 [] HV:=fi Tryz.f135 [] jS []
def qer:C:=
 (v6 [⟨some 0,none,.alloc 0 128 [.nilfn,.nilfn,.nilfn,.nilfn],[]⟩] (wa [⟨some 1,none,.build [.nilfn,.nilfn,.nilfn,.nilfn] [(1,1),(2,1),(3,1)],[.c (.fn (Fn.func 136) [] []),.c
 (.fn (Fn.func 138) [] []),.c (.fn (Fn.func 140) [] [])]⟩,ST 4 0 1]))
theorem qcK:qN Tryz.prog 84 2 1 [RV.cell 0 (some 4)] qer:=fi Tryz.f84 [0] jS []
def HW:C:=
 (v6 [O1 3 (.box 0 26) 0,O1 4 (.box 1 64) 1,O1 5 (.box 2 43) 2,ON 6 (.nilo 3 7 120) []] (wa [O1 7 (.load (some 4)) 3,vT 8 0 4,LD 9 8,vT 10 1 4,LD 11 10,vT 12 1 3,LD 13 12,vT 14 1
 5,LD 15 14,O2 16 (.call 22 true) 13 15,ON 17 (.call 83 true) [.t 7,.t 9,.t 11,.t 16],O1 18 (.call 137 true) 17,MV 6 18]))
theorem MA:qN Tryz.prog 136 19 4 [RV.tmp 6] HW:=fi Tryz.f136 [3,4,5,6] jS []
def H4:C:=
 (v6 [O1 3 (.box 0 26) 0,O1 4 (.box 1 64) 1,O1 5 (.box 2 43) 2,ON 6 (.nilo 3 7 120) []] (v6 [ON 7 (.nilo 4 7 120) []] ((v6 [vT 10 3 5,LD 11 10,O1 12 (.call 139 true) 11,O1 13
 .len 12,vU 14 0] (C.block 0 (v6 [BI 15 .lss 14 13] ((v8 15 0).seq ((C.block 1 (v6 [O2 16 (.idxA 6) 12 14,O1 17 (.load (some 6)) 16,⟨some 9,none,.alloc 5 92 [.str [],.str
 [],.str [],i6 0,i6 0,.str []],[]⟩,ST 6 9 17] (v6 [vT 18 4 9,LD 19 18,vV 20 .andNot 19 4,vT 21 4 9,ST 1 21 20] (v6 [vT 22 5 9,⟨none,none,.store 1,[.t 22,.c (.str [])]⟩] (wc [MV
 23 7,O1 24 (.load (some 6)) 9,vT 25 0 4,LD 26 25,⟨some 27,none,.build [.str [],.str [],.str [],i6 0,i6 0,.str [],i6 0] [(0,6),(6,1)],[.t 24,.t 26]⟩,⟨some 28,none,.bslc 6 7 1
 120 [.str [],.str [],.str [],i6 0,i6 0,.str [],i6 0] [(0,7)],[.t 27]⟩,O2 29 (.app 7 7 120 88) 23 28,MV 7 29]))))).seq (wc [vV 30 .add 14 1,MV 14 30])))).loop)).seq (wa [MV 31
 7,MV 6 31]))))
theorem MD:qN Tryz.prog 138 32 8 [RV.tmp 6] H4:=fi Tryz.f138 [3,4,5,6,7,9,28,29] jS []
def H6:C:=
 (v6 [O1 3 (.box 0 26) 0,O1 4 (.box 1 64) 1,O1 5 (.box 2 43) 2,ON 6 (.nilo 3 7 120) []] (wa [ON 6 (.nilo 3 7 120) []]))
theorem MF:qN Tryz.prog 140 7 4 [RV.tmp 6] H6:=fi Tryz.f140 [3,4,5,6] jS []
def HZ:C:=
 (v6 [ON 2 (.nilo 0 7 120) []] (wa [MV 3 0,ON 4 (.call 188 true) [.c .nl,.t 3],MV 2 4]))
theorem MB:qN Tryz.prog 137 5 1 [RV.tmp 2] HZ:=fi Tryz.f137 [2] jS []
def Wc:C:=
 (v6 [O1 3 (.box 0 26) 0,O1 4 (.box 1 3) 1,O1 5 (.box 2 3) 2,vU 6 0,vU 7 0] ((v6 [O1 8 (.load (some 4)) 3,O1 9 (.call 67 true) 8,vV 10 .neq 9 0] (v7 10 (wa [vU 6 0,vU 7 1]))).seq
 ((v6 [LD 11 4,vV 12 .lss 11 0,MV 13 12,wi 14 13 4,wh 15 13 1 3,wi 16 13 15,vW 17 13 .len 16,vX 18 13 (.bin .geq) 14 17,PT 19 13 18,MV 20 19,wi 21 20 5,vZ 22 20 (.bin .lss) 21
 (i6 0),PT 23 20 22,MV 24 23,wi 25 24 5,wh 26 24 2 3,wi 27 24 26,wi 28 24 4,vX 29 24 (.idxA 1) 27 28,wi 30 24 29,vW 31 24 .len 30,vX 32 24 (.bin .geq) 25 31,PT 33 24 32] (v7 33
 (wa [vU 6 0,vU 7 2]))).seq (wa [vT 34 3 3,LD 35 34,O2 36 (.mkfn (Fn.func 180) 0) 4 5,O2 37 (.call 179 true) 35 36,MV 6 37,vU 7 0]))))
theorem Q9:qN Tryz.prog 131 38 3 [RV.tmp 6,RV.tmp 7] Wc:=fi Tryz.f131 [3,4,5] jS []
def Ik:C:=
 (v6 [MC 4 (.bool false)] (wa [MV 5 0,LD 6 1,O2 7 (.idxA 1) 5 6,LD 8 7,LD 9 2,BI 10 .eql 8 9,MV 4 10]))
theorem MZ:qN Tryz.prog 180 11 0 [RV.tmp 4] Ik:=fi Tryz.f180 [] jS []
def I9:C:=
 (v6 [O1 2 (.box 0 26) 0,ON 4 (.nilo 1 1 9) [],vU 5 0] ((v6 [O1 6 (.load (some 4)) 2,O1 7 (.call 67 true) 6,vV 8 .neq 7 0] (v7 8 (wa [ON 4 (.nilo 1 1 9) [],vU 5 1]))).seq ((v6
 [MV 9 1,vV 10 .lss 9 0,MV 11 10,vY 12 11 1,wh 13 11 1 2,wi 14 11 13,vW 15 11 .len 14,vX 16 11 (.bin .geq) 12 15,PT 17 11 16] (v7 17 (wa [ON 4 (.nilo 1 1 9) [],vU 5 2]))).seq
 (wa [vT 18 2 2,LD 19 18,MV 20 1,O2 21 (.idxA 1) 19 20,LD 22 21,O1 23 (.call 91 true) 22,MV 4 23,vU 5 0]))))
theorem Xe:qN Tryz.prog 32 24 2 [RV.tmp 4,RV.tmp 5] I9:=fi Tryz.f32 [2,4] jS []
end
section
open Go Go.Proofs AF HY LN
namespace AF
theorem ACalls.frzd{P:Program}{f:FuncId}{args:w7}{h h':w6}{r:AV}(ks:List Nat)(hs:j8 ks h=true)(hc:ACalls P f (args.map (frz (λk=>ks.contains k) h 8)) (xu ks h) r h'):ACalls P f args h r h':=by
 refine⟨hc.1,λw σ xs H hv=> ?_⟩;obtain⟨σ1,g1,g2,g3,g4⟩:=yP ks H hs;have hv1:VRs w σ1 (args.map (frz (λk=>ks.contains k) h 8)) xs:=⟨by rw[hv.1];simp,λi c x hc hx=>by
  rw[List.getElem?_map,Option.map_eq_some_iff]at hc;obtain⟨c0,hc,rfl⟩:=hc
  exact iR H (λb hb=>(g4 b hb).elim λj ⟨o,h1,h2,h3⟩=>⟨j,o,by simpa using h1,h2,h3⟩) (λj o hj ho=>g3 j o (by simpa using hj) ho) 8 (hv.2 i c0 x hc hx)⟩
 refine (hc.2 w σ1 xs g1 hv1).mono ?_;rintro e w' ⟨v,σ',rfl,k1,k2,k3⟩;exact⟨v,σ',rfl,k1,k2,g2.trans k3⟩
end AF
namespace RC
def mq(b:List Tk):List Str:=b.map Tk.text
theorem Am(s:Str):(pQ s).length<=s.length:=by
 unfold pQ;split
 ·exact bT s
 ·exact nzl _
theorem qeT(b:List Tk)(h:w6)(hn:b.length<=1000000):ACalls Tryz.prog 91 [zX b] h (strs (mq b)) h:=by
 refine acO qcQ ?_;simp (disch:=omega) only[qex,zX,go_sem];refine qp (T:=λs:Nat×Nat×AObj×AObj=>zw 19 [(6,zX b),(7,.int .i64 b.length),(8,.int .i64 s.1),(3,.osl (h.length+1) s.2.1 1 0 s.1)])
  (H:=λs=>h++ [.emp 1,zE s.2.1 9 (kc (mq (b.take s.1))),s.2.2.1,s.2.2.2,.emp 0])
  (inv:=λs=>s.1<=b.length∧qK [s.2.2.1] 0=true∧qK [s.2.2.2] 0=true) (m:=λs=>b.length-s.1) (0,1,.emp 0,.emp 0) ⟨nzl _,rfl,rfl⟩ (Wk.temps ?_) ?_
 ·(simp only[zX,go_sem,qg,qc,qa,qf];try exact wr)
 rintro⟨i,v,O1,O2⟩ ⟨i1,i2,i3⟩ K hK;simp only at i1 i2 i3 hK;have i2': ∀m,qK (O1::m) 0=true:=λ_=>i2
 have i3': ∀m,qK (O2::m) 0=true:=λ_=>i3
 have eL:(mq (b.take i)).length=i:=by unfold mq;rw[List.length_map,List.length_take];omega
 by_cases hi:i<b.length
 ·have k1:((i:Int)<b.length)=True:=xv;have hS:mq (b.take (i+1))=mq (b.take i)++ [(b.getD i default).text]:=by
   unfold mq;rw[List.take_add_one,zG hi,gdqA,zG hi,List.map_append];rfl
  obtain⟨L,hL⟩:=wD (mq (b.take i))
  rw[<-hL]at hS eL ⊢;obtain⟨w,hw⟩:=wD (b.getD i default)
  have ew:=hw.symm;rw[ew]at hS;have eC:=wF L;have eTk:List.take i (kc L)=kc L:=ltl om;simp (disch:=omega) only[zX,tkC,k1,ew,i2',i3',eC,eL,eTk,Nat.mul_one,go_sem]
  repeat' first|with_reducible apply aiA|exact clz|fail
  have eA:kc L++ [AV.str w.text]=kc (L++ [w.text]):=by simp[kc]
  have eD:(AV.str w.text::List.drop 1 (zU [AV.str []] 1))= [AV.str w.text]:=rfl;rw[eA,eD];refine hK _ _ (i+1,v+1,.mem (qn (some O1)+1) 92 (tkC w),.mem (qn (some O2)+1) 9 [.str w.text]) ⟨hi,rfl,rfl⟩ (by simp only;omega) ?_;simp only[hS,tkC];refine Wk.temps ?_
  (simp only[zX,tkC,go_sem,qg,qc,qa,qf];try exact wr)
 have k1:((i:Int)<b.length)=False:=xD;obtain rfl:i=b.length:=by omega
 rw[List.take_length]at eL ⊢;simp (disch:=omega) only[k1,go_sem]
 repeat' first|(apply qb;exact rvk;simp only[go_sem])
 exact y5 (λ_=>rfl) eL.symm
theorem Rr(s:Str)(h:w6)(hl:s.length<=1000)(hs:s≠ [])(hc:jc s=0)(hg:z7 h frmN frmC):ACalls Tryz.prog 182 [.agg [.str [],.int .i64 0],.osl (h.length+1) 1 4 0 1,.nl] (h++ [.emp 1,.mem 1 198 (.int .i64 1:: .str s:: .int .i64 0:: .nl::List.drop 4 (zU [.int .i64 0,.str [],.int .i64 0,.nl] 1))]) (.tup [zX (pQ s),.int .i64 (pP s)]) (h++ [.emp 1,.emp 2]):=by
 have c1:=qdy s (h++ [.emp 1,.emp 2]) hl hs hc hg.app;refine ACalls.frzd [h.length+1] ?s1 ?s2
 case s1=>simp only[j8,go_sem]
 case s2=>
  simp only[List.map_cons,List.map_nil,xu,go_sem];have e: [h.length+1].contains (h.length+1)=true:=by simp
  simp only[e,if_true];refine c1.le ⟨qi,?_,qi,trivial⟩ (qi);unfold kp;refine VLe.sl_eq rfl (λi hi=> ?_);obtain rfl:i=0:=by omega
  rfl
theorem qeO(s:Str)(h:w6)(hl:s.length<=1000)(hg:z7 h frmN frmC):ACalls Tryz.prog 132 [.str s] h (.tup [strs (if jc s≠0 then [] else mq (pQ s)),.int .i64 (tQ s)]) h:=by
 have c0: ∀h,ACalls Tryz.prog 181 [.str s] h (.int .i64 (jc s)) h:=λh=>qdx s h om
 unfold tQ
 by_cases g:jc s=0
 case neg=>
  have k1:(jc s=0)=False:=eqf g;rw[ipo g,ipo g];refine acO Za ?_;simp (disch:=omega) only[We,go_sem]
  repeat' first|(refine cA (c0 _) flk ?_;simp (disch:=omega) only[k1,go_sem])|(apply qb;exact rvk;simp only[go_sem])
  exact VLe.tup ⟨qY,qi,trivial⟩
 rw[ine (by simpa using g),ine (by simpa using g)];rw[g]at c0
 by_cases hs:s= []
 ·subst hs;refine acO Za ?_;simp (disch:=omega) only[We,go_sem]
  repeat' first|(refine cA (c0 _) flk ?_;simp (disch:=omega) only[go_sem])|(apply qb;exact rvk;simp only[go_sem])
  exact VLe.tup ⟨qY,qi,trivial⟩
 have k2:(s= [])=False:=eqf hs;have c2:=λh=>qeT (pQ s) h (Nat.le_trans (Am s) om)
 refine acO Za ?_;simp (disch:=omega) only[We,go_sem]
 repeat' first|(refine cA (c0 _) flk ?_;simp (disch:=omega) only[k2,go_sem])
 refine qE (Rr s h hl hs g hg) (by exact flk) ?_;simp (disch:=omega) only[go_sem]
 repeat' first|(refine cA (c2 _) flk ?_;simp (disch:=omega) only[go_sem])|exact wj|with_reducible apply aiA|exact clz|fail
theorem qfg(s:Str)(h:w6)(hl:s.length<=1000)(hs:s≠ [])(hc:jc s=0)(hg:z7 h frmN frmC):ACalls Tryz.prog 139 [.str s] h (zX (pQ s)) h:=by
 refine acO ME ?_;simp (disch:=omega) only[H5,go_sem];refine qE (Rr s h hl hs hc hg) (by exact flk) ?_;simp (disch:=omega) only[go_sem]
 repeat' first|exact wj|with_reducible apply aiA|exact clz|fail
end RC
end
section
open Go Go.Proofs AF HY LN
namespace RC
theorem jO{x:Co}{l:List Un}(h:wJ x l=true){k:Nat}(hk:k<l.length):(l.getD k default).frm=frN l k∧(l.getD k default).to=toN l k∧frN l k<toN l k∧toN l k<=x.col.length∧(l.getD k default).rds=dG x (frN l k) (toN l k):=by
 have ho:=aN h;have hm:l.getD k default∈l:=by
  rw[gdqA,zG hk];exact List.getElem_mem hk
 obtain⟨h1,h2,h3,h4⟩:=ho.rg _ hm;unfold frN toN;refine⟨om,om,om,om,h4⟩
theorem Gu{x:Co}{l:List Un}(h:wJ x l=true){j k:Nat}(hj:j<k)(hk:k<l.length):toN l j<frN l k:=by
 have ho:=aN h;have hp:=List.pairwise_iff_getElem.1 ho.pw j k om hk hj;have e: ∀i (hi:i<l.length),l.getD i default=l[i]:=λi hi=>by rw[gdqA,zG hi];rfl
 obtain⟨a1,a2,_⟩:=jO h (show j<l.length by omega);obtain⟨b1,b2,_⟩:=jO h hk;rw[e j om]at a1 a2;rw[e k hk]at b1 b2;omega
theorem aW{x:Co}{l:List Un}(h:wJ x l=true){k:Nat}(hk:k<l.length):zx l k<=frN l k:=by
 unfold zx;split
 ·exact nzl _
 ·exact Nat.le_of_lt (Gu h om hk)
theorem xa{x:Co}{l:List Un}(h:wJ x l=true){k:Nat}(hk:k<=l.length):zx l k<=x.col.length:=by
 unfold zx;split
 ·exact nzl _
 ·exact (jO h (show k-1<l.length by omega)).2.2.2.1
theorem xR(l:List Un)(k:Nat):zx l (k+1)=toN l k:=by unfold zx;rw[ine om,Nat.add_sub_cancel]
theorem Xl{x:Co}{l:List Un}(h:wJ x l=true){k c:Nat}(hk:k<l.length)(h1:frN l k<=c)(h2:c<toN l k):fnU l (c:Int)=k:=by
 obtain⟨a1,a2,_⟩:=jO h hk;exact Oe h hk om om
theorem Zh{x:Co}{l:List Un}(h:wJ x l=true){k c:Nat}(hk:k<=l.length)(h1:zx l k<=c)(h2:k<l.length->c<frN l k):fnU l (c:Int)= -1:=by
 obtain⟨g1,g2⟩:=yk l (c:Int)
 by_cases hn:fnU l (c:Int)<0
 ·omega
 exfalso;obtain⟨j,hj⟩: ∃j:Nat,fnU l (c:Int)=j:=⟨(fnU l (c:Int)).toNat,om⟩
 obtain⟨j1,j2,j3⟩:=BA hj;obtain⟨a1,a2,_⟩:=jO h j1;rcases Nat.lt_or_ge j k with e|e
 ·have:toN l j<=zx l k:=by
   unfold zx;rw[ine om];rcases Nat.lt_or_ge j (k-1)with e2|e2
   ·have:=Gu h e2 om
    obtain⟨_,_,b3,_⟩:=jO h (show k-1<l.length by omega);omega
   ·have:j=k-1:=by omega
    subst this;exact nlr _
  omega
 ·have h3:=h2 om;rcases Nat.lt_or_ge k j with e2|e2
  ·have:=Gu h e2 j1
   obtain⟨_,_,b3,_⟩:=jO h (show k<l.length by omega);omega
  ·have:j=k:=by omega
   subst this;omega
def rwc(x:Co)(l:List Un)(d:List Dc)(s:Nat)(c:Nat):List Rw:=
 if fnU l (c:Int)<0 then [⟨pcT x s c,-1,-1⟩] else if (l.getD (fnU l (c:Int)).toNat default).frm=c then rwU x l d s (fnU l (c:Int)).toNat else []
def rwS(x:Co)(l:List Un)(d:List Dc)(s:Nat):Nat->List Rw
 |0=> []
 |c+1=>rwS x l d s c++rwc x l d s c
theorem iI{x:Co}{l:List Un}(hc:cvA x l=true)(ho:CoOk x){s c:Nat}(hs:s<x.sig.length)(h:c<x.col.length)(hf:fnU l (c:Int)<0):pcB x s c=true∧clT x c s=clT x c 0∧clT x c s≠none:=by
 unfold cvA at hc;rw[Bool.not_eq_true',qr]at hc;have h1:=hc c h;rw[Bool.and_eq_false_iff,Bool.not_eq_false',Bool.not_eq_false']at h1;rcases h1 with h1|h1
 ·exfalso;unfold cvB at h1;obtain⟨i,hi,hv⟩:=qS.1 h1;rw[Bool.and_eq_true,decide_eq_true_iff,decide_eq_true_iff]at hv;exact Zg hf hi hv
 ·unfold cmB at h1;rw[Bool.not_eq_true',qr]at h1;have h2:=h1 s hs;rw[Bool.or_eq_false_iff,Bool.not_eq_false',decide_eq_false_iff_not,decide_eq_true_iff]at h2;refine⟨?_,h2.2,h2.1⟩;have h3:=h2.1;unfold clT at h3;unfold pcB
  by_cases g:(x.col.getD c []).getD s 0<0
  ·rw[ipo g]at h3;exact absurd rfl h3
  ·simpa using g
theorem YN(x:Co)(s f:Nat):rwC x s f f= []:=by unfold rwC;rw[Nat.sub_self];rfl
theorem YO{x:Co}{s f t:Nat}(h:f<=t):rwC x s f (t+1)=rwC x s f t++if pcB x s t=true then [⟨pcT x s t,-1,-1⟩] else []:=by
 unfold rwC;rw[show t+1-f=(t-f)+1 by omega];show rwM (spk x s f (t-f)++if pcB x s (f+(t-f))=true then [pcT x s (f+(t-f))] else []) (-1) (-1)=_;rw[show f+(t-f)=t by omega];unfold rwM;rw[List.map_append];congr 1;split<;>rfl
theorem F2{x:Co}{l:List Un}(d:List Dc){s:Nat}(h:wJ x l=true)(hc:cvA x l=true)(ho:CoOk x)(hs:s<x.sig.length):
  ∀k,k<=l.length-> ∀m,zx l k<=m->m<=x.col.length->(k<l.length->m<=frN l k)->rwS x l d s m=rwL x l d s k++rwC x s (zx l k) m:=by
 have com: ∀k,k<=l.length-> ∀i,zx l k+i<=x.col.length->(k<l.length->zx l k+i<=frN l k)->rwS x l d s (zx l k)=rwL x l d s k->rwS x l d s (zx l k+i)=rwL x l d s k++rwC x s (zx l k) (zx l k+i):=by
  intro k hk i
  induction i with
  |zero=>
   intro h1 h2 h3;rw[Nat.add_zero,YN,lan,h3]
  |succ i ih=>
   intro h1 h2 h3;have e:=ih om (λhk=>by have:=h2 hk;omega) h3;show rwS x l d s (zx l k+i)++rwc x l d s (zx l k+i)=_;have f:=Zh h hk (c:=zx l k+i) (Nat.le_add_right _ _) (λhk=>by have:=h2 hk;omega);have hp:=iI hc ho hs (c:=zx l k+i) om om;rw[e,<-Nat.add_assoc,YO (Nat.le_add_right _ _),ipo hp.1,List.append_assoc];congr 2;unfold rwc;rw[ipo om]
 have key: ∀k,k<=l.length->rwS x l d s (zx l k)=rwL x l d s k:=by
  intro k
  induction k with
  |zero=>intro _;rfl
  |succ k ih=>
   intro hk;have h1:=ih om;have hpl:=aW h (show k<l.length by omega);obtain⟨a1,a2,a3,a4,_⟩:=jO h (show k<l.length by omega);have h2:=com k om (frN l k-zx l k) om (λ_=>by omega) h1;rw[show zx l k+(frN l k-zx l k)=frN l k by omega]at h2;have h3: ∀i,frN l k+1+i<=toN l k->rwS x l d s (frN l k+1+i)=rwL x l d s (k+1):=by
    intro i
    induction i with
    |zero=>
     intro _;show rwS x l d s (frN l k)++rwc x l d s (frN l k)=_;have f:=Xl h (show k<l.length by omega) (nlr (frN l k)) a3;unfold rwc;rw[f,ine om,itn,ipo a1,h2];show _=rwL x l d s k++(rwC x s (zx l k) (frN l k)++rwU x l d s k);rw[List.append_assoc]
    |succ i ih2=>
     intro hi;show rwS x l d s (frN l k+1+i)++rwc x l d s (frN l k+1+i)=_;have f:=Xl h (c:=frN l k+1+i) (show k<l.length by omega) om om;rw[ih2 om];unfold rwc;rw[f,ine om,itn,ine (by rw[a1];omega),lan]
   have h4:=h3 (toN l k-(frN l k+1)) om;rw[show frN l k+1+(toN l k-(frN l k+1))=toN l k by omega]at h4;rw[xR];exact h4
 intro k hk m h1 h2 h3
 have:=com k hk (m-zx l k) om (λhk=>by have:=h3 hk;omega) (key k hk)
 rwa [show zx l k+(m-zx l k)=m by omega]at this
theorem FZ{x:Co}{l:List Un}(d:List Dc){s:Nat}(h:wJ x l=true)(hc:cvA x l=true)(ho:CoOk x)(hs:s<x.sig.length):rwS x l d s x.col.length=rwA x l d s:=
 F2 d h hc ho hs l.length (nlr _) _ (xa h (nlr _)) (nlr _) (λh=>absurd h (Nat.lt_irrefl _))
theorem Lp{col:List (List Int)}{s t:Nat}: ∀ {n:Nat},t<cnC col s n-> ∃k,k<n∧(col.getD k []).getD s 0≠ -1∧cnC col s k=t:=by
 intro n
 induction n with
 |zero=>intro h;exact absurd h (nnz _)
 |succ n ih=>
  intro h;unfold cnC at h
  by_cases g:t<cnC col s n
  ·obtain⟨k,h1,h2⟩:=ih g;exact⟨k,om,h2⟩
  ·split at h
   ·omega
   ·rename_i g2;exact⟨n,Nat.lt_succ_self n,g2,om⟩
theorem fw{x:Co}(ho:CoOk x){s:Nat}(hs:s<x.sig.length){t:Int}(h0:0<=t)(ht:t<((x.tok.getD s []).length:Int)):0<=wp x s t∧wp x s t<x.col.length:=by
 obtain⟨k,k1,k2,k3⟩:=Lp (col:=x.col) (s:=s) (t:=t.toNat) (n:=x.col.length) (by rw[ho.ct s hs];omega);unfold wp;rcases zI (λk=>decide ((x.col.getD k []).getD s 0=t)) x.col.length with⟨i,g1,g2,_,g4⟩|⟨g1,g2⟩
 ·rw[g4];omega
 ·have:=g1 k k1
  rcases ho.ce k k1 s hs with e|⟨e,_⟩
  ·exact absurd e k2
  ·rw[decide_eq_false_iff_not]at this;exact absurd (by rw[e,k3];omega) this
theorem qfe(c:List Int)(s:Nat)(t:Int)(h:w6)(hs:s<c.length)(hc:c.length<=1000000000):ACalls Tryz.prog 180 [qz c,.ip [.int .i64 (s:Int)],.ip [.int .i64 t]] h (.bool (decide (c.getD s 0=t))) h:=by
 have k0:(0<=(s:Int))=True:=xv;have k1:((s:Int)<c.length)=True:=xv;refine acO MZ ?_;simp (disch:=omega) only[Ik,qz,k0,k1,go_sem]
 repeat' first|exact wm|with_reducible apply aiA|exact clz|fail
theorem qfB(col:List (List Int))(s:Nat)(t:Int)(k v k2 v2:Nat)(h:w6)(hk:qv k h=some (.mem v 3 [.int .i64 (s:Int)]))(hk2:qv k2 h=some (.mem v2 3 [.int .i64 t]))(hl:col.length<=1000000000)(hm: ∀i,i<col.length->s<(col.getD i []).length∧(col.getD i []).length<=1000000000):
  ACalls Tryz.prog 179 [qo col,.fn (.func 180) [] [.op k v 0,.op k2 v2 0]] h (.int .i64 (yM (λi=>decide ((col.getD i []).getD s 0=t)) col.length 0)) h:=by
 have hc:=qL hk;have hc2:=qL hk2;unfold qo;refine cC MX col.length (λj=> [qz (col.getD j [])]) (λj=>qz (col.getD j [])) _ [] [.op k v 0,.op k2 v2 0] _ h (λi _=>⟨rfl,by simp[j0],rfl,rfl,rfl⟩) (λi hi=> ?_) om;refine ACalls.borrow ?_ rfl;have e:([qz (col.getD i [])]++ [AV.op k v 0,AV.op k2 v2 0]).map (rei (λ_=>true) h 8)= [qz (col.getD i []),.ip [.int .i64 (s:Int)],.ip [.int .i64 t]]:=by
  simp only[lca,lna,List.map_cons,List.map_nil,rei_op,if_true,hc,hc2,ipOf_some,List.drop_zero];rfl
 rw[lna,e];exact qfe _ s t _ (hm i hi).1 (hm i hi).2
theorem qcd(x:Co)(s:Nat)(t:Int)(h:w6)(hz:yx x)(hp:kt SG h)(h1:coE x=0)(hs:s<x.sig.length):ACalls Tryz.prog 131 [.agg (coC x),.int .i64 (s:Int),.int .i64 t] h (.tup [.int .i64 (if 0<=t∧t<((x.tok.getD s []).length:Int) then wp x s t else 0),.int .i64 (if 0<=t∧t<((x.tok.getD s []).length:Int) then 0 else 2)]) h:=by
 have ho:=kh h1;have hsg:=hz.sg;have htl:=hz.tl s;have htn:=ho.tn;have c1:=λl=>coP x (h++l) hz (hp.app l)
 simp only[h1]at c1;have zu: ∀g l,valL g .len [zX l]= .int .i64 l.length:=λ_ _=>rfl
 have zv: ∀g l,okL g .len [zX l]=True:=λ_ _=>eqt trivial
 have k0:((s:Int)<0)=False:=xD;have k1:((x.sig.length:Int)<=s)=False:=xD;have k5:(0<=(s:Int))=True:=xv;have k6:((s:Int)<x.tok.length)=True:=xv
 by_cases g:0<=t∧t<((x.tok.getD s []).length:Int)
 ·rw[ipo g,ipo g];have k2:(t<0)=False:=xD;have k3:(((x.tok.getD s []).length:Int)<=t)=False:=xD;have c2:=qfB x.col s t (h.length+1) 1 (h.length+2) 1 (h++ [.mem 1 26 (coC x),.mem 1 3 [.int .i64 (s:Int)],.mem 1 3 [.int .i64 t]]) (by simp only[go_sem]) (by simp only[go_sem]) hz.cl (λi hi=>⟨by rw[ho.cl i hi];exact hs,hz.ce i⟩);unfold coC at c1 c2;refine acO Q9 ?_;simp (disch:=omega) only[Wc,coC,qm,strs,go_sem]
  repeat' first|((first|refine cA (c1 _) ?_ ?_|refine cA (c2) ?_ ?_);exact flk;simp (disch:=omega) only[k0,k1,k2,k3,k5,k6,zu,zv,go_sem])|exact wj|with_reducible apply aiA|exact clz|fail
 ·rw[ine g,ine g];unfold coC at c1
  by_cases g2:t<0
  ·have k2:(t<0)=True:=xv;refine acO Q9 ?_;simp (disch:=omega) only[Wc,coC,qm,strs,go_sem]
   repeat' first|(refine cA (c1 _) flk ?_;simp (disch:=omega) only[k0,k1,k2,k5,k6,zu,zv,go_sem])|exact wj|with_reducible apply aiA|exact clz|fail
  ·have k2:(t<0)=False:=xD;have k3:(((x.tok.getD s []).length:Int)<=t)=True:=xv;refine acO Q9 ?_;simp (disch:=omega) only[Wc,coC,qm,strs,go_sem]
   repeat' first|(refine cA (c1 _) flk ?_;simp (disch:=omega) only[k0,k1,k2,k3,k5,k6,zu,zv,go_sem])|exact wj|with_reducible apply aiA|exact clz|fail
theorem qfE(b s:Str)(h:w6)(hb:b.length<=1000000000)(hs:s.length<=1000000000):ACalls Tryz.prog 81 [.str b,.str s] h (.bool (qc4 b s)) h:=by
 have c1:=λh=>t88 b h hb
 have c2:=λh=>t88 s h hs
 unfold qc4;cases g1:kU b with
 |false=>
  rw[g1]at c1;rw[ine (by decide)];refine acO Xi ?_;simp (disch:=omega) only[Lh,go_sem]
  repeat' first|(refine cA (c1 _) flk ?_;simp (disch:=omega) only[go_sem])|exact wm|fail
 |true=>
  rw[g1]at c1;rw[ipo rfl];cases g2:kU s with
  |true=>
   rw[g2]at c2;refine acO Xi ?_;simp (disch:=omega) only[Lh,go_sem]
   repeat' first|((first|refine cA (c1 _) ?_ ?_|refine cA (c2 _) ?_ ?_);exact flk;simp (disch:=omega) only[go_sem])|exact wm|fail
  |false=>
   rw[g2]at c2
   by_cases g3:s= [39]
   ·subst g3;refine acO Xi ?_;simp (disch:=omega) only[Lh,go_sem]
    repeat' first|((first|refine cA (c1 _) ?_ ?_|refine cA (c2 _) ?_ ?_);exact flk;simp (disch:=omega) only[go_sem])|exact wm|fail
   ·have k3:(s= [39])=False:=eqf g3;rw[dqf g3];refine acO Xi ?_;simp (disch:=omega) only[Lh,go_sem]
    repeat' first|((first|refine cA (c1 _) ?_ ?_|refine cA (c2 _) ?_ ?_);exact flk;simp (disch:=omega) only[k3,go_sem])|exact wm|fail
def dpN(x:Co)(l:List Un)(o:Dc):Int:=if yb x l o=0 then jN x l o else 0
theorem dpP(x:Co)(l:List Un)(o:Dc)(h:w6)(hz:yx x)(hu:bo l)(hp:kt SG h)(hg:z7 h frmN frmC)(h1:coE x=0)(ht:o.txt.length<=1000):ACalls Tryz.prog 76 [.agg (coC x),zf l,.agg (dcC o)] h (.tup [.int .i64 (dpN x l o),.int .i64 (yb x l o)]) h:=by
 have ho:=kh h1;unfold dpN;have hE:yb x l o=(if o.kind<1∨3<o.kind then 8 else if o.txt≠ []∧o.kind≠2 then 1 else if tkB x o=false then 6 else if jN x l o<0 then 20 else cjE o):=rfl
 by_cases g1:o.kind<1
 ·have k1:(o.kind<1)=True:=eqt g1;rw[ipo (.inl g1)]at hE;rw[hE,ine (by decide)];refine acO wW ?_;simp (disch:=omega) only[dQ,coC,dcC,k1,go_sem]
  repeat' first|exact wj|fail
 have k1:(o.kind<1)=False:=eqf g1
 by_cases g2:3<o.kind
 ·have k2:(3<o.kind)=True:=eqt g2;rw[ipo (.inr g2)]at hE;rw[hE,ine (by decide)];refine acO wW ?_;simp (disch:=omega) only[dQ,coC,dcC,k1,k2,go_sem]
  repeat' first|exact wj|fail
 have k2:(3<o.kind)=False:=eqf g2;rw[ine (λe=>e.elim g1 g2)]at hE
 by_cases g3:o.txt≠ []∧o.kind≠2
 ·have k3:(o.txt= [])=False:=eqf g3.1;have k4:(o.kind=2)=False:=eqf g3.2;rw[ipo g3]at hE;rw[hE,ine (by decide)];refine acO wW ?_;simp (disch:=omega) only[dQ,coC,dcC,k1,k2,k3,k4,go_sem]
  repeat' first|exact wj|with_reducible apply aiA|exact clz|fail
 rw[ine g3]at hE;have c1:=λh=>XJ x.sig.length (λj=>x.sig.getD j []) o.sig h hz.sg
 have hS:yM (λj=>decide (o.sig=x.sig.getD j [])) x.sig.length 0=zM x o.sig:=rfl;simp only[hS]at c1
 by_cases g4:o.kind=2
 ·have k4:(o.kind=2)=True:=eqt g4
  by_cases ge:o.txt= []
  ·have k3:(o.txt= [])=True:=eqt ge;have htk:tkB x o=(decide (0<=zM x o.sig)&&(decide (0<=o.tok)&&decide (o.tok<((x.tok.getD (zM x o.sig).toNat []).length:Int)))):=rfl
   by_cases g5:zM x o.sig<0
   ·have k5:(zM x o.sig<0)=True:=eqt g5;rw[dqf om,Bool.false_and]at htk;rw[ipo htk]at hE;rw[hE,ine (by decide)];unfold strs at*;refine acO wW ?_;simp (disch:=omega) only[dQ,coC,dcC,k1,k2,k3,k4,strs,go_sem]
    repeat' first|(refine cA (c1 _) flk ?_;simp (disch:=omega) only[k5,go_sem])|exact wj|with_reducible apply aiA|exact clz|fail
   obtain⟨S,hSn⟩: ∃S:Nat,zM x o.sig=S:=⟨(zM x o.sig).toNat,om⟩
   have hSl:S<x.sig.length:=by
    rcases zI (λj=>decide (o.sig=x.sig.getD j [])) x.sig.length with⟨i,q1,_,_,q4⟩|⟨_,q2⟩
    ·have e:zM x o.sig=i:=q4;omega
    ·have e:zM x o.sig= -1:=q2;omega
   have k5:((S:Int)<0)=False:=xD;rw[hSn,dqt om,Bool.true_and,itn]at htk;simp only[hSn]at c1;have c2:=λl'=>qcd x S o.tok (h++l') hz (hp.app l') h1 hSl
   by_cases g6:0<=o.tok∧o.tok<((x.tok.getD S []).length:Int)
   case neg=>
    have htk:tkB x o=false:=by rw[htk];simpa using λe=>Int.not_lt.1 λhc=>g6 ⟨e,hc⟩
    rw[ipo htk]at hE;rw[hE,ine (by decide)];simp only[ine g6]at c2;unfold coC at c2;refine acO wW ?_;simp (disch:=omega) only[dQ,coC,dcC,k1,k2,k3,k4,strs,go_sem]
    repeat' first|((first|refine cA (c1 _) ?_ ?_|refine cA (c2 _) ?_ ?_);exact flk;simp (disch:=omega) only[k5,go_sem])|exact wj|(with_reducible first|intro _|apply aiA)|exact clz|fail
   have htk:tkB x o=true:=by rw[htk];simpa using g6
   rw[ine (by rw[htk];decide)]at hE;simp only[ipo g6]at c2;have hpl:jN x l o=fnU l (wp x S o.tok):=by unfold jN;rw[hSn,itn]
   have hcn:=fw ho hSl g6.1 g6.2;have c3:=λh=>Of l (wp x S o.tok) h hu.n
   have e1:fnR l (wp x S o.tok)=jN x l o:=by unfold fnR;rw[ine om,hpl]
   have e2:fnE (wp x S o.tok)=0:=by unfold fnE;rw[ine om]
   rw[e1,e2]at c3;unfold coC at c2
   by_cases g7:jN x l o<0
   ·have k7:(jN x l o<0)=True:=eqt g7;rw[ipo g7]at hE;rw[hE,ine (by decide)];refine acO wW ?_;simp (disch:=omega) only[dQ,coC,dcC,k1,k2,k3,k4,strs,go_sem]
    repeat' first|((first|refine cA (c1 _) ?_ ?_|refine cA (c2 _) ?_ ?_|refine cA (c3 _) ?_ ?_);exact flk;simp (disch:=omega) only[k4,k5,k7,go_sem])|exact wj|with_reducible apply aiA|exact clz|fail
   have k7:(jN x l o<0)=False:=eqf g7;rw[ine g7]at hE;unfold cjE at hE;rw[ipo g4]at hE;have c4:=λl'=>qeO o.txt (h++l') ht hg.app
   by_cases g8:tQ o.txt=0
   case neg=>
    have k8:(tQ o.txt=0)=False:=eqf g8;rw[ipo g8]at hE;rw[hE,ine g8];refine acO wW ?_;simp (disch:=omega) only[dQ,coC,dcC,k1,k2,k3,k4,strs,go_sem]
    repeat' first|((first|refine cA (c1 _) ?_ ?_|refine cA (c2 _) ?_ ?_|refine cA (c3 _) ?_ ?_|refine cA (c4 _) ?_ ?_);exact flk;simp (disch:=omega) only[k4,k5,k7,k8,strs,go_sem])|exact wj|with_reducible apply aiA|exact clz|fail
   rw[ine (by simpa using g8)]at hE;have g9:jc o.txt=0∧pP o.txt=0:=by
    unfold tQ at g8;split at g8
    ·rename_i q;exact absurd g8 q
    ·rename_i q;exact⟨Classical.not_not.1 q,g8⟩
   have hR:B8 o.txt=mq (pQ o.txt):=by unfold B8 pQ;rw[ipo g8,ipo g9.2];rfl
   simp only[g8,ine (show¬jc o.txt≠0 by simpa using g9.1),<-hR]at c4;cases hL:B8 o.txt with
   |nil=>
    rw[hL]at hE c4;rw[ipo rfl]at hE;rw[hE,ine (by decide)];refine acO wW ?_;simp (disch:=omega) only[dQ,coC,dcC,k1,k2,k3,k4,strs,go_sem]
    repeat' first|((first|refine cA (c1 _) ?_ ?_|refine cA (c2 _) ?_ ?_|refine cA (c3 _) ?_ ?_|refine cA (c4 _) ?_ ?_);exact flk;simp (disch:=omega) only[k4,k5,k7,strs,go_sem])|(apply qb;exact rvk;simp only[go_sem];first|exact qi|skip)|(with_reducible first|intro _|apply aiA)|exact clz|fail
   |cons a r=>
    rw[hL]at hE c4;rw[ine (by simp)]at hE;rw[hE,ipo rfl];have k9:(((a::r).length:Int)=0)=False:=eqf (by simp;omega);refine acO wW ?_;simp (disch:=omega) only[dQ,coC,dcC,k1,k2,k3,k4,strs,go_sem]
    repeat' first|((first|refine cA (c1 _) ?_ ?_|refine cA (c2 _) ?_ ?_|refine cA (c3 _) ?_ ?_|refine cA (c4 _) ?_ ?_);exact flk;simp (disch:=omega) only[k4,k5,k7,strs,go_sem])|(apply qb;exact rvk;simp only[go_sem];first|exact qi|skip)|(with_reducible first|intro _|apply aiA)|exact clz|fail
  ·have k3:(o.txt= [])=False:=eqf ge;have htk:tkB x o=(decide (0<=zM x o.sig)&&(decide (0<=o.tok)&&decide (o.tok<((x.tok.getD (zM x o.sig).toNat []).length:Int)))):=rfl
   by_cases g5:zM x o.sig<0
   ·have k5:(zM x o.sig<0)=True:=eqt g5;rw[dqf om,Bool.false_and]at htk;rw[ipo htk]at hE;rw[hE,ine (by decide)];unfold strs at*;refine acO wW ?_;simp (disch:=omega) only[dQ,coC,dcC,k1,k2,k3,k4,strs,go_sem]
    repeat' first|(refine cA (c1 _) flk ?_;simp (disch:=omega) only[k5,go_sem])|exact wj|with_reducible apply aiA|exact clz|fail
   obtain⟨S,hSn⟩: ∃S:Nat,zM x o.sig=S:=⟨(zM x o.sig).toNat,om⟩
   have hSl:S<x.sig.length:=by
    rcases zI (λj=>decide (o.sig=x.sig.getD j [])) x.sig.length with⟨i,q1,_,_,q4⟩|⟨_,q2⟩
    ·have e:zM x o.sig=i:=q4;omega
    ·have e:zM x o.sig= -1:=q2;omega
   have k5:((S:Int)<0)=False:=xD;rw[hSn,dqt om,Bool.true_and,itn]at htk;simp only[hSn]at c1;have c2:=λl'=>qcd x S o.tok (h++l') hz (hp.app l') h1 hSl
   by_cases g6:0<=o.tok∧o.tok<((x.tok.getD S []).length:Int)
   case neg=>
    have htk:tkB x o=false:=by rw[htk];simpa using λe=>Int.not_lt.1 λhc=>g6 ⟨e,hc⟩
    rw[ipo htk]at hE;rw[hE,ine (by decide)];simp only[ine g6]at c2;unfold coC at c2;refine acO wW ?_;simp (disch:=omega) only[dQ,coC,dcC,k1,k2,k3,k4,strs,go_sem]
    repeat' first|((first|refine cA (c1 _) ?_ ?_|refine cA (c2 _) ?_ ?_);exact flk;simp (disch:=omega) only[k5,go_sem])|exact wj|(with_reducible first|intro _|apply aiA)|exact clz|fail
   have htk:tkB x o=true:=by rw[htk];simpa using g6
   rw[ine (by rw[htk];decide)]at hE;simp only[ipo g6]at c2;have hpl:jN x l o=fnU l (wp x S o.tok):=by unfold jN;rw[hSn,itn]
   have hcn:=fw ho hSl g6.1 g6.2;have c3:=λh=>Of l (wp x S o.tok) h hu.n
   have e1:fnR l (wp x S o.tok)=jN x l o:=by unfold fnR;rw[ine om,hpl]
   have e2:fnE (wp x S o.tok)=0:=by unfold fnE;rw[ine om]
   rw[e1,e2]at c3;unfold coC at c2
   by_cases g7:jN x l o<0
   ·have k7:(jN x l o<0)=True:=eqt g7;rw[ipo g7]at hE;rw[hE,ine (by decide)];refine acO wW ?_;simp (disch:=omega) only[dQ,coC,dcC,k1,k2,k3,k4,strs,go_sem]
    repeat' first|((first|refine cA (c1 _) ?_ ?_|refine cA (c2 _) ?_ ?_|refine cA (c3 _) ?_ ?_);exact flk;simp (disch:=omega) only[k4,k5,k7,go_sem])|exact wj|with_reducible apply aiA|exact clz|fail
   have k7:(jN x l o<0)=False:=eqf g7;rw[ine g7]at hE;unfold cjE at hE;rw[ipo g4]at hE;have c4:=λl'=>qeO o.txt (h++l') ht hg.app
   by_cases g8:tQ o.txt=0
   case neg=>
    have k8:(tQ o.txt=0)=False:=eqf g8;rw[ipo g8]at hE;rw[hE,ine g8];refine acO wW ?_;simp (disch:=omega) only[dQ,coC,dcC,k1,k2,k3,k4,strs,go_sem]
    repeat' first|((first|refine cA (c1 _) ?_ ?_|refine cA (c2 _) ?_ ?_|refine cA (c3 _) ?_ ?_|refine cA (c4 _) ?_ ?_);exact flk;simp (disch:=omega) only[k4,k5,k7,k8,strs,go_sem])|exact wj|with_reducible apply aiA|exact clz|fail
   rw[ine (by simpa using g8)]at hE;have g9:jc o.txt=0∧pP o.txt=0:=by
    unfold tQ at g8;split at g8
    ·rename_i q;exact absurd g8 q
    ·rename_i q;exact⟨Classical.not_not.1 q,g8⟩
   have hR:B8 o.txt=mq (pQ o.txt):=by unfold B8 pQ;rw[ipo g8,ipo g9.2];rfl
   simp only[g8,ine (show¬jc o.txt≠0 by simpa using g9.1),<-hR]at c4;cases hL:B8 o.txt with
   |nil=>
    rw[hL]at hE c4;rw[ipo rfl]at hE;rw[hE,ine (by decide)];refine acO wW ?_;simp (disch:=omega) only[dQ,coC,dcC,k1,k2,k3,k4,strs,go_sem]
    repeat' first|((first|refine cA (c1 _) ?_ ?_|refine cA (c2 _) ?_ ?_|refine cA (c3 _) ?_ ?_|refine cA (c4 _) ?_ ?_);exact flk;simp (disch:=omega) only[k4,k5,k7,strs,go_sem])|(apply qb;exact rvk;simp only[go_sem];first|exact qi|skip)|(with_reducible first|intro _|apply aiA)|exact clz|fail
   |cons a r=>
    rw[hL]at hE c4;rw[ine (by simp)]at hE;rw[hE,ipo rfl];have k9:(((a::r).length:Int)=0)=False:=eqf (by simp;omega);refine acO wW ?_;simp (disch:=omega) only[dQ,coC,dcC,k1,k2,k3,k4,strs,go_sem]
    repeat' first|((first|refine cA (c1 _) ?_ ?_|refine cA (c2 _) ?_ ?_|refine cA (c3 _) ?_ ?_|refine cA (c4 _) ?_ ?_);exact flk;simp (disch:=omega) only[k4,k5,k7,strs,go_sem])|(apply qb;exact rvk;simp only[go_sem];first|exact qi|skip)|(with_reducible first|intro _|apply aiA)|exact clz|fail
 ·have k4:(o.kind=2)=False:=eqf g4;have ge:o.txt= []:=Classical.not_not.1 λhc=>g3 ⟨hc,g4⟩
  have k3:(o.txt= [])=True:=eqt ge;have htk:tkB x o=(decide (0<=zM x o.sig)&&(decide (0<=o.tok)&&decide (o.tok<((x.tok.getD (zM x o.sig).toNat []).length:Int)))):=rfl
  by_cases g5:zM x o.sig<0
  ·have k5:(zM x o.sig<0)=True:=eqt g5;rw[dqf om,Bool.false_and]at htk;rw[ipo htk]at hE;rw[hE,ine (by decide)];unfold strs at*;refine acO wW ?_;simp (disch:=omega) only[dQ,coC,dcC,k1,k2,k3,k4,strs,go_sem]
   repeat' first|(refine cA (c1 _) flk ?_;simp (disch:=omega) only[k5,go_sem])|exact wj|with_reducible apply aiA|exact clz|fail
  obtain⟨S,hSn⟩: ∃S:Nat,zM x o.sig=S:=⟨(zM x o.sig).toNat,om⟩
  have hSl:S<x.sig.length:=by
   rcases zI (λj=>decide (o.sig=x.sig.getD j [])) x.sig.length with⟨i,q1,_,_,q4⟩|⟨_,q2⟩
   ·have e:zM x o.sig=i:=q4;omega
   ·have e:zM x o.sig= -1:=q2;omega
  have k5:((S:Int)<0)=False:=xD;rw[hSn,dqt om,Bool.true_and,itn]at htk;simp only[hSn]at c1;have c2:=λl'=>qcd x S o.tok (h++l') hz (hp.app l') h1 hSl
  by_cases g6:0<=o.tok∧o.tok<((x.tok.getD S []).length:Int)
  case neg=>
   have htk:tkB x o=false:=by rw[htk];simpa using λe=>Int.not_lt.1 λhc=>g6 ⟨e,hc⟩
   rw[ipo htk]at hE;rw[hE,ine (by decide)];simp only[ine g6]at c2;unfold coC at c2;refine acO wW ?_;simp (disch:=omega) only[dQ,coC,dcC,k1,k2,k3,k4,strs,go_sem]
   repeat' first|((first|refine cA (c1 _) ?_ ?_|refine cA (c2 _) ?_ ?_);exact flk;simp (disch:=omega) only[k5,go_sem])|exact wj|(with_reducible first|intro _|apply aiA)|exact clz|fail
  have htk:tkB x o=true:=by rw[htk];simpa using g6
  rw[ine (by rw[htk];decide)]at hE;simp only[ipo g6]at c2;have hpl:jN x l o=fnU l (wp x S o.tok):=by unfold jN;rw[hSn,itn]
  have hcn:=fw ho hSl g6.1 g6.2;have c3:=λh=>Of l (wp x S o.tok) h hu.n
  have e1:fnR l (wp x S o.tok)=jN x l o:=by unfold fnR;rw[ine om,hpl]
  have e2:fnE (wp x S o.tok)=0:=by unfold fnE;rw[ine om]
  rw[e1,e2]at c3;unfold coC at c2
  by_cases g7:jN x l o<0
  ·have k7:(jN x l o<0)=True:=eqt g7;rw[ipo g7]at hE;rw[hE,ine (by decide)];refine acO wW ?_;simp (disch:=omega) only[dQ,coC,dcC,k1,k2,k3,k4,strs,go_sem]
   repeat' first|((first|refine cA (c1 _) ?_ ?_|refine cA (c2 _) ?_ ?_|refine cA (c3 _) ?_ ?_);exact flk;simp (disch:=omega) only[k4,k5,k7,go_sem])|exact wj|with_reducible apply aiA|exact clz|fail
  have k7:(jN x l o<0)=False:=eqf g7;rw[ine g7]at hE;unfold cjE at hE;rw[ine g4]at hE;rw[hE,ipo rfl];refine acO wW ?_;simp (disch:=omega) only[dQ,coC,dcC,k1,k2,k3,k4,strs,go_sem]
  repeat' first|((first|refine cA (c1 _) ?_ ?_|refine cA (c2 _) ?_ ?_|refine cA (c3 _) ?_ ?_);exact flk;simp (disch:=omega) only[k4,k5,k7,go_sem])|exact wj|with_reducible apply aiA|exact clz|fail
end RC
end
