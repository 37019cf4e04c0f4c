import Derived.Test.YtmieflnoheifbaaGreatDoorK14
import Derived.Test.YtmieflnoheifbaaGreatDoorK13
import Derived.Test.YtmieflnoheifbaaGreatDoorK12
import Derived.Test.YtmieflnoheifbaaGreatDoorK3
import Derived.Test.YtmieflnoheifbaaGreatDoorK5
import Derived.Test.YtmieflnoheifbaaGreatDoorK8
import Derived.Test.YtmieflnoheifbaaGreatDoorProg
import Derived.Test.YtmieflnoheifbaaGreatDoorK11
import Derived.Test.YtmieflnoheifbaaGreatDoorK9
import Derived.Test.YtmieflnoheifbaaGreatDoorK10
set_option linter.all false
set_option maxHeartbeats 128000000
set_option maxRecDepth 100000
section
open Go Go.Proofs AF HY LN
namespace RC
theorem qBq: ∀f:Nat,f<32->qnt .i64 (f:Int) 4=if f.testBit 2 then 4 else 0:=by decide+kernel
theorem qvs: ∀f:Nat,f<32->qnt .i64 (f:Int) 16=if f.testBit 4 then 16 else 0:=by decide+kernel
def qtF(W:List Wd):Option Str:=if W.length=0 then none else some (W.getD (W.length-1) default).text
section
variable {h : wh} {a b c va : Nat}
def qtY(h:wh)(a b c:Nat)(va vb:Nat)(W:List Wd)(Z:AObj):wh:=tri h a b c (.mem va 45 [.osl b vb 7 0 W.length]) (zg vb 133 (jD W)) Z
theorem qEi(t:T3 h a b c)(W:List Wd)(p:Pc)(u d:Int)(vb F:Nat)(Z:AObj)(hZ: ∀n,lowO n Z)(hF:p.t.flags=F)(hF2:F<32)(hx:p.t.text.length<=1000000000)(hW:W.length<=1000000000)(hWx: ∀w∈W,w.text.length<=1000000000):ACalls Tryz.prog 69 [.agg (pcC p),.int .i64 u,.int .i64 d,.op a va 0] (qtY h a b c va vb W Z) (.tup []) (qtY h a b c va (vb+1) (W++ [mkW (qtF W) ⟨p,u,d⟩]) Z):=by
 have ta:=t.la;have tb:=t.lb;have tc:=t.lc;have zga: ∀ {X Y Z l},qt (a) (tri h a b c X Y Z++l)=some X:=DV (t);have yga: ∀ {X Y Z},qt (a) (tri h a b c X Y Z)=some X:=λ{X Y Z}=>by have:=zga (X:=X) (Y:=Y) (Z:=Z) (l:= []);simpa only[lan] using this
 have zgb: ∀ {X Y Z l},qt (b) (tri h a b c X Y Z++l)=some Y:=UR (t);have ygb: ∀ {X Y Z},qt (b) (tri h a b c X Y Z)=some Y:=λ{X Y Z}=>by have:=zgb (X:=X) (Y:=Y) (Z:=Z) (l:= []);simpa only[lan] using this
 have zgc: ∀ {X Y Z l},qt (c) (tri h a b c X Y Z++l)=some Z:=Ux (t);have ygc: ∀ {X Y Z},qt (c) (tri h a b c X Y Z)=some Z:=λ{X Y Z}=>by have:=zgc (X:=X) (Y:=Y) (Z:=Z) (l:= []);simpa only[lan] using this
 have zsa: ∀ {X Y Z o l},qr (a) (tri h a b c X Y Z++l) o=tri h a b c o Y Z++l:=US (t);have ysa: ∀ {X Y Z o},qr (a) (tri h a b c X Y Z) o=tri h a b c o Y Z:=λ{X Y Z o}=>by have:=zsa (X:=X) (Y:=Y) (Z:=Z) (o:=o) (l:= []);simpa only[lan] using this
 have zsb: ∀ {X Y Z o l},qr (b) (tri h a b c X Y Z++l) o=tri h a b c X o Z++l:=qab (t);have ysb: ∀ {X Y Z o},qr (b) (tri h a b c X Y Z) o=tri h a b c X o Z:=λ{X Y Z o}=>by have:=zsb (X:=X) (Y:=Y) (Z:=Z) (o:=o) (l:= []);simpa only[lan] using this
 have zsc: ∀ {X Y Z o l},qr (c) (tri h a b c X Y Z++l) o=tri h a b c X Y o++l:=qac (t);have ysc: ∀ {X Y Z o},qr (c) (tri h a b c X Y Z) o=tri h a b c X Y o:=λ{X Y Z o}=>by have:=zsc (X:=X) (Y:=Y) (Z:=Z) (o:=o) (l:= []);simpa only[lan] using this
 have zca: ∀ {X Y Z v l},cellsOf (tri h a b c X Y Z++l) (a) v=qw (some X) v:=qaQ (t);have yca: ∀ {X Y Z v},cellsOf (tri h a b c X Y Z) (a) v=qw (some X) v:=λ{X Y Z v}=>by have:=zca (X:=X) (Y:=Y) (Z:=Z) (v:=v) (l:= []);simpa only[lan] using this
 have zcb: ∀ {X Y Z v l},cellsOf (tri h a b c X Y Z++l) (b) v=qw (some Y) v:=qaR (t);have ycb: ∀ {X Y Z v},cellsOf (tri h a b c X Y Z) (b) v=qw (some Y) v:=λ{X Y Z v}=>by have:=zcb (X:=X) (Y:=Y) (Z:=Z) (v:=v) (l:= []);simpa only[lan] using this
 have zcc: ∀ {X Y Z v l},cellsOf (tri h a b c X Y Z++l) (c) v=qw (some Z) v:=qaS (t);have ycc: ∀ {X Y Z v},cellsOf (tri h a b c X Y Z) (c) v=qw (some Z) v:=λ{X Y Z v}=>by have:=zcc (X:=X) (Y:=Y) (Z:=Z) (v:=v) (l:= []);simpa only[lan] using this
 have zla: ∀ {X Y Z v l},qF (tri h a b c X Y Z++l) (a) v=qH (some X) v:=qaT (t);have yla: ∀ {X Y Z v},qF (tri h a b c X Y Z) (a) v=qH (some X) v:=λ{X Y Z v}=>by have:=zla (X:=X) (Y:=Y) (Z:=Z) (v:=v) (l:= []);simpa only[lan] using this
 have zlb: ∀ {X Y Z v l},qF (tri h a b c X Y Z++l) (b) v=qH (some Y) v:=qaU (t);have ylb: ∀ {X Y Z v},qF (tri h a b c X Y Z) (b) v=qH (some Y) v:=λ{X Y Z v}=>by have:=zlb (X:=X) (Y:=Y) (Z:=Z) (v:=v) (l:= []);simpa only[lan] using this
 have zlc: ∀ {X Y Z v l},qF (tri h a b c X Y Z++l) (c) v=qH (some Z) v:=qaV (t);have ylc: ∀ {X Y Z v},qF (tri h a b c X Y Z) (c) v=qH (some Z) v:=λ{X Y Z v}=>by have:=zlc (X:=X) (Y:=Y) (Z:=Z) (v:=v) (l:= []);simpa only[lan] using this
 have e4:=qBq F hF2;have e16:=qvs F hF2;have hL:=qhf W;have ev:qDb p.t.flags=F.testBit 2:=by unfold qDb;rw[hF,itn]
 have ej:jnB p.t.flags=F.testBit 4:=by unfold jnB;rw[hF,itn]
 unfold mkW;simp only[ev,ej];unfold qtY;have eTk:List.take (W.length*7) (jD W)=jD W:=ltl om;have lo: ∀(n:Nat),lowO h.length (.mem va 45 [.osl b (vb+1) 7 0 n]):=λn cc hc=>by
  rw[List.mem_singleton]at hc;subst hc;simp[qT];omega
 have lq: ∀L:List Wd,lowO h.length (zg (vb+1) 133 (jD L)):=λL=>jy (qb0 L _)
 have fin: ∀(w:Wd) (tt:wj) (tl:wh),fnQ [] (tri h a b c (.mem va 45 [.osl b vb 7 0 W.length]) (zg vb 133 (jD W)) Z) (λr1 h1=>r1= .tup []∧h1=tri h a b c (.mem va 45 [.osl b (vb+1) 7 0 (W++ [w]).length]) (zg (vb+1) 133 (jD (W++ [w]))) Z) .normal tt (tri h a b c (.mem va 45 [.osl b (vb+1) 7 0 (W.length+1)]) (zg (vb+1) 133 (jD W++wdC w)) Z++tl):=λw tt tl=>by
  have eA:jD W++wdC w=jD (W++ [w]):=by rw[qqK,qqL]
  rw[eA,show (W++ [w]).length=W.length+1 by simp];exact zR trivial (by simp only[tri_len]) (jO t (lo _) (lq _) (hZ _)) ⟨rfl,rfl⟩ (qi)
 have k4:((4:Int)=0)=False:=eqf (by decide);have k16:((16:Int)=0)=False:=eqf (by decide);have hb1: ∀n,(b !=h.length+n)=true:=λn=>by simp;omega
 by_cases hW0:W= []
 ·have k0:((0:Int)<W.length)=False:=eqf (by rw[hW0];simp);have eG:(qw (some (zg vb 133 (jD W))) vb).getD []=jD W:=by rw[hW0];rfl
  have el:qtF W=none:=by unfold qtF;rw[ipo (by rw[hW0];rfl)]
  rw[el];cases g2:F.testBit 2<;>cases g4:F.testBit 4<;>rw[g2]at e4<;>rw[g4]at e16<;>simp only[Bool.false_eq_true,if_false,if_true]at e4 e16
  all_goals
   refine acO qkS ?_;simp (disch:=omega) only[qu9,pcC,tkC,hF,e4,e16,zca,zcb,zlb,qZ,ql,eG,hL,k0,k4,k16,decide_true,decide_false,Bool.not_false,Bool.not_true,Bool.and_false,go_sem]
   repeat' first|(refine qj ( .bool false) ?_;simp (disch:=omega) only[zga,zgb,zsa,zsb,zca,zcb,zlb,qZ,ql,eG,eTk,hL,Bool.not_false,Bool.and_false,go_sem])|with_reducible apply aiA|exact clz|fail
  all_goals try exact hb1 _
  all_goals exact fin ⟨_,_,_,_,_,_,_⟩ _ _
 ·have hpos:0<W.length:=List.length_pos_iff.2 hW0;have k0:((0:Int)<W.length)=True:=wl;obtain⟨z,hz⟩:=wg (W.getD (W.length-1) default)
  have el:qtF W=some z.text:=by unfold qtF;rw[ine om,hz]
  rw[el];have hzx:=hWx z (by rw[hz];exact jf om);have gI:(jD W)[(W.length-1)*7]? =some (.str z.text):=by
   have:=qhe (L:=W) (i:=W.length-1) om
   rw[<-hz]at this;have h2:(((jD W).drop ((W.length-1)*7)).take 7)[0]? =some (.str z.text):=by rw[this];rfl
   rwa [List.getElem?_take,ipo om,List.getElem?_drop,Nat.add_zero]at h2
  have eI:((W.length:Int)-1).toNat=W.length-1:=by omega
  have eO:qw (some (zg vb 133 (jD W))) vb=some (jD W):=by
   rw[jU (λe=>by rw[e]at hL;simp at hL;omega),ql,ipo rfl]
  have c1:=λh=>qET z.text p.t.text h hzx hx
  cases g2:F.testBit 2<;>cases g4:F.testBit 4<;>rw[g2]at e4<;>rw[g4]at e16<;>simp only[Bool.false_eq_true,if_false,if_true]at e4 e16
  case false.false=>
   refine acO qkS ?_;simp (disch:=omega) only[qu9,pcC,tkC,hF,e4,e16,zca,zcb,zlb,qZ,ql,eO,hL,k0,decide_true,Bool.not_false,Bool.not_true,Bool.and_true,Bool.false_and,Bool.true_and,eI,gI,go_sem]
   repeat' first|(refine qj ( .bool false) ?_;simp (disch:=omega) only[zga,zgb,zsa,zsb,zca,zcb,zlb,qZ,ql,eO,eTk,hL,Bool.not_false,Bool.false_and,Bool.true_and,go_sem])|with_reducible apply aiA|exact clz|fail
   all_goals try exact hb1 _
   exact fin ⟨_,_,_,_,_,_,_⟩ _ _
  case false.true=>
   refine acO qkS ?_;simp (disch:=omega) only[qu9,pcC,tkC,hF,e4,e16,zca,zcb,zlb,qZ,ql,eO,hL,k0,k16,decide_true,decide_false,Bool.not_false,Bool.not_true,Bool.and_true,Bool.false_and,Bool.true_and,eI,gI,go_sem]
   repeat' first|(refine cG (λe=>c1 _) flk ?_;simp (disch:=omega) only[zga,zgb,zsa,zsb,zca,zcb,zlb,qZ,ql,eO,eTk,hL,Bool.not_true,Bool.false_and,Bool.true_and,go_sem])|with_reducible apply aiA|exact clz|fail
   all_goals try exact hb1 _
   exact fin ⟨_,_,_,_,_,_,_⟩ _ _
  case true.false=>
   refine acO qkS ?_;simp (disch:=omega) only[qu9,pcC,tkC,hF,e4,e16,zca,zcb,zlb,qZ,ql,eO,hL,k0,k4,decide_true,decide_false,Bool.not_false,Bool.not_true,Bool.and_true,Bool.false_and,Bool.true_and,eI,gI,go_sem]
   repeat' first|(refine qj ( .bool false) ?_;simp (disch:=omega) only[zga,zgb,zsa,zsb,zca,zcb,zlb,qZ,ql,eO,eTk,hL,Bool.not_false,Bool.false_and,Bool.true_and,go_sem])|with_reducible apply aiA|exact clz|fail
   all_goals try exact hb1 _
   exact fin ⟨_,_,_,_,_,_,_⟩ _ _
  case true.true=>
   refine acO qkS ?_;simp (disch:=omega) only[qu9,pcC,tkC,hF,e4,e16,zca,zcb,zlb,qZ,ql,eO,hL,k0,k4,k16,decide_true,decide_false,Bool.not_false,Bool.not_true,Bool.and_true,Bool.false_and,Bool.true_and,eI,gI,go_sem]
   repeat' first|(refine cG (λe=>c1 _) flk ?_;simp (disch:=omega) only[zga,zgb,zsa,zsb,zca,zcb,zlb,qZ,ql,eO,eTk,hL,Bool.not_true,Bool.false_and,Bool.true_and,go_sem])|with_reducible apply aiA|exact clz|fail
   all_goals try exact hb1 _
   exact fin ⟨_,_,_,_,_,_,_⟩ _ _
end
structure qA7 (x:Co) (l:List Un) (d:List Dc) (s:Nat):Prop where
 ca:coE x=0
 us:qcC x l=true
 cv:cvA x l=true
 sl:s<x.sig.length
 dl:d.length<=256
 pl: ∀j,j<d.length->U3 x l (d.getD j default)=0
 ln:(rwA x l d s).length<=1024
theorem qhb{x:Co}{l:List Un}(h:vaE x l=0):coE x=0∧qcC x l=true∧cvA x l=true:=by
 unfold vaE at h;split at h
 ·cases h
 rename_i h1;split at h
 ·cases h
 rename_i h2;have h2:rgB x l=true:=by simpa using h2
 unfold rgB at h2;rw[Bool.and_eq_true]at h2;exact⟨Classical.not_not.1 h1,h2.1,h2.2⟩
theorem qlR{x:Co}{l:List Un}{d:List Dc}(h:KD x l d=0):d.length<=256∧ ∀j,j<d.length->U3 x l (d.getD j default)=0:=by
 unfold KD at h;split at h
 ·cases h
 exact⟨om,jS.1 h⟩
theorem qzx{x:Co}(h:CoOk x){s k:Nat}(hs:s<x.sig.length)(hk:k<x.col.length)(hb:pcB x s k=true):tkE (pcT x s k).t=0∧((x.col.getD k []).getD s 0).toNat<(x.tok.getD s []).length:=by
 unfold pcB at hb;have hb:=of_decide_eq_true hb;rcases h.ce k hk s hs with e|⟨e1,e2⟩
 ·omega
 ·exact⟨h.te s (by rw[h.tn];exact hs) _ om,om⟩
theorem quG{t:Tk}(h:tkE t=0):t.text≠ []∧t.text.length<=64:=by
 have h1:=qAg h;unfold txB at h1;split at h1
 ·rw[Bool.and_eq_true]at h1;have h2:=h1.1;unfold qer at h2;rw[List.any_eq_true]at h2;obtain⟨k,hk,e⟩:=h2;rw[of_decide_eq_true e];refine⟨List.cons_ne_nil _ _,?_⟩;have h3:((List.range 64).all λk=>decide ((91::(Lib.itoa ((k+1:Nat):Int)++ [93]):Str).length<=64))=true:=by decide+kernel
  exact of_decide_eq_true (List.all_eq_true.1 h3 k hk)
 ·split at h1
  ·rw[Bool.and_eq_true]at h1;have h2:=h1.1;unfold qvb at h2;rw[Bool.and_eq_true,decide_eq_true_iff]at h2;refine⟨λe=> ?_,om⟩;rw[e]at h2;cases h2.1
  ·rw[Bool.and_eq_true]at h1;have h2:=h1.1;rw[qaB]at h2;simp only[Bool.and_eq_true,decide_eq_true_eq]at h2;refine⟨λe=> ?_,om⟩;rw[e]at h2;simp at h2
def PcF(p:Pc):Prop:=(∃F:Nat,p.t.flags=F∧F<32)∧p.t.text.length<=64
theorem qt2{p:Pc}(h:tkE p.t=0):PcF p:=by
 refine⟨?_,(quG h).2⟩;unfold tkE at h;split at h
 ·cases h
 ·rename_i g;exact⟨p.t.flags.toNat,om,om⟩
theorem UM{x:Co}(ho:CoOk x){s f d:Nat}(hs:s<x.sig.length)(hd:f+d<=x.col.length): ∀p∈spk x s f d,PcF p:=by
 intro p hp;obtain⟨k,k1,k2,k3,rfl⟩:=qtG.1 hp;exact qt2 (qzx ho hs om k3).1
theorem qrE{s:Str}{f:Int}(h:qd8 s=0): ∀p∈cjP (qbX s) f,PcF p:=by
 intro p hp;unfold cjP at hp;obtain⟨t,ht,rfl⟩:=List.mem_map.1 hp;obtain⟨_,g⟩:=qmR ht;refine⟨?_,?_⟩
 ·rcases g with g|g|g|g
  ·exact⟨0,g,om⟩
  ·exact⟨16,g,om⟩
  ·exact⟨8,g,om⟩
  ·exact⟨24,g,om⟩
 ·unfold qd8 at h;split at h
  ·cases h
  ·rename_i g2;have g3:=qcW.1 (Bool.eq_false_iff.2 g2);obtain⟨u,_,e,hu⟩:=qmS s ht
   have:=g3 u hu
   rw[e];exact this
theorem qnS{L:List Rw}{n:Nat}(h: ∀r∈L,r.p.t.text.length<=n): ∀w∈bsW L,w.text.length<=n:=by
 intro w hw;unfold bsW at hw;obtain⟨i,hi,rfl⟩:=List.mem_map.1 hw;rw[List.mem_range]at hi;exact h _ (jf hi)
theorem qvp{hh:wh}{a b c va vb:Nat}{Z:AObj}(t:T3 hh a b c)(L:List Rw)(p:Pc)(u d:Int)(hX:qt a hh=some (.mem va 45 [.osl b vb 7 0 L.length]))(hY:qt b hh=some (zg vb 133 (jD (bsW L))))(hZg:qt c hh=some Z)(hZ: ∀n,lowO n Z)(hp:PcF p)(hL:L.length<=1000000000)(hLx: ∀r∈L,PcF r.p):
  ACalls Tryz.prog 69 [.agg (pcC p),.int .i64 u,.int .i64 d,.op a va 0] hh (.tup []) (qr b (qr a hh (.mem va 45 [.osl b (vb+1) 7 0 (L.length+1)])) (zg (vb+1) 133 (jD (bsW (L++ [⟨p,u,d⟩]))))):=by
 obtain⟨⟨F,f1,f2⟩,f3⟩:=hp;have h1:=qEi (va:=va) t (bsW L) p u d vb F Z hZ f1 f2 om (by rw[qaf];exact hL) (λw hw=>Nat.le_trans (qnS (n:=64) (λr hr=>(hLx r hr).2) w hw) om);have e1:qtY hh a b c va vb (bsW L) Z=hh:=by
  unfold qtY;rw[qaf];exact qrN hX hY hZg
 have e2:qtF (bsW L)=qpF (L++ [⟨p,u,d⟩]) L.length:=by
  rw[qlS];unfold qtF;rw[qaf]
 rw[e1,e2,<-qnR]at h1;have e3:qtY hh a b c va (vb+1) (bsW (L++ [⟨p,u,d⟩])) Z=qr b (qr a hh (.mem va 45 [.osl b (vb+1) 7 0 (L.length+1)])) (zg (vb+1) 133 (jD (bsW (L++ [⟨p,u,d⟩])))):=by
  unfold qtY tri;rw[qaf,lap,lco,lnl];refine jN ?_;rw[qN (λe=>t.bc e.symm),qN (λe=>t.ac e.symm)];exact hZg
 rw[e3]at h1;exact h1
end RC
end
section
open Go Go.Proofs AF
end
section
open Go Go.Proofs AF HY LN
namespace RC
theorem qrD(b:List Wd)(k:Int): ∀n,(owG b k n).length<=n:=by
 intro n
 induction n with
 |zero=>exact nlr _
 |succ n ih=>
  unfold owG;rw[lap];split
  ·simp only[lco,lnl];omega
  ·simp only[lnl];omega
end RC
end
section
open Go Go.Proofs AF
end
section
open Go Go.Proofs AF
end
section
open Go Go.Proofs AF HY LN
namespace RC
theorem qDY(s:Str)(h:wh)(hs:s.length<=1000000000):ACalls Tryz.prog 214 [.str s] h (.bool (qlh s)) h:=by
 have c1:=λh=>t53 s h hs
 unfold qlh
 by_cases g:s= []
 ·subst g;rw[dqt rfl,Bool.true_or];refine acO qrb ?_;simp (disch:=omega) only[qsc,go_sem]
  repeat' first|(refine qj ( .bool false) ?_;simp (disch:=omega) only[go_sem])|exact wc|fail
 ·have k1:(s= [])=False:=eqf g;rw[dqf g,Bool.false_or];refine acO qrb ?_;simp (disch:=omega) only[qsc,k1,go_sem]
  repeat' first|(refine cG (λe=>c1 _) flk ?_;simp (disch:=omega) only[go_sem])|exact wc|fail
theorem qtv(c:UInt8):kY c=(decide (kind c=1)||(decide (kind c=2)||(decide (kind c=3)||decide (kind c=4)))):=by
 unfold kY;cases decide (kind c=1)<;>cases decide (kind c=2)<;>cases decide (kind c=3)<;>rfl
theorem qEc(c:UInt8)(h:wh):ACalls Tryz.prog 213 [.int .u8 (c.toNat:Int)] h (.bool (kY c)) h:=by
 have c5:=λh=>qbi c h
 rw[qtv];obtain⟨k,hk⟩:=wg (kind c)
 rw[<-hk]at c5 ⊢
 by_cases g1:k=1
 ·have q1:(k=1)=True:=eqt g1;rw[dqt g1,Bool.true_or];refine acO qgv ?_;simp (disch:=omega) only[qjP,go_sem]
  repeat' first|(refine cA (c5 _) flk ?_;simp (disch:=omega) only[q1,go_sem])|exact wc|fail
 have q1:(k=1)=False:=eqf g1;rw[dqf g1,Bool.false_or]
 by_cases g2:k=2
 ·have q2:(k=2)=True:=eqt g2;rw[dqt g2,Bool.true_or];refine acO qgv ?_;simp (disch:=omega) only[qjP,go_sem]
  repeat' first|(refine cA (c5 _) flk ?_;simp (disch:=omega) only[q1,q2,go_sem])|exact wc|fail
 have q2:(k=2)=False:=eqf g2;rw[dqf g2,Bool.false_or]
 by_cases g3:k=3
 ·have q3:(k=3)=True:=eqt g3;rw[dqt g3,Bool.true_or];refine acO qgv ?_;simp (disch:=omega) only[qjP,go_sem]
  repeat' first|(refine cA (c5 _) flk ?_;simp (disch:=omega) only[q1,q2,q3,go_sem])|exact wc|fail
 have q3:(k=3)=False:=eqf g3;rw[dqf g3,Bool.false_or];refine acO qgv ?_;simp (disch:=omega) only[qjP,go_sem]
 repeat' first|(refine cA (c5 _) flk ?_;simp (disch:=omega) only[q1,q2,q3,go_sem])|exact wc|fail
theorem qB0: ∀f:Nat,f<32->decide ((f:Int)/2%2=1)=f.testBit 1:=by decide+kernel
theorem qB1: ∀f:Nat,f<32->decide ((f:Int)/8%2=1)=f.testBit 3:=by decide+kernel
theorem tkR(t:Tk)(h:wh)(hz:qqP t)(hp:kt SG h):ACalls Tryz.prog 138 [.agg (tkC t)] h (.int .i64 (tkE t)) h:=by
 obtain⟨R,hR⟩:=wg (tkE t)
 rw[<-hR];unfold tkE at hR
 by_cases g1:t.flags<0
 ·have k1:(t.flags<0)=True:=eqt g1;rw[ipo (.inl g1)]at hR;rw[hR];refine acO ja ?_;simp (disch:=omega) only[jZ,tkC,go_sem]
  repeat' first|exact wa|(with_reducible first|intro _|apply aiA)|exact clz|fail
 have k1:(t.flags<0)=False:=eqf g1
 by_cases g2:31<t.flags
 ·have k2:((31:Int)<t.flags)=True:=eqt g2;rw[ipo (.inr g2)]at hR;rw[hR];refine acO ja ?_;simp (disch:=omega) only[jZ,tkC,go_sem]
  repeat' first|exact wa|(with_reducible first|intro _|apply aiA)|exact clz|fail
 have k2:((31:Int)<t.flags)=False:=eqf g2;rw[ine om]at hR;obtain⟨f,hf⟩: ∃f:Nat,t.flags=(f:Int):=⟨t.flags.toNat,om⟩
 have hf2:f<32:=by omega
 have eg:qhN t.flags=f.testBit 1:=by unfold qhN;rw[hf,itn]
 have ek:mkB t.flags=f.testBit 3:=by unfold mkB;rw[hf,itn]
 have dA:=λh=>qDU t.text t.norm t.page t.line t.flags 2 t.name h om om (by decide)
 have dB:=λh=>qDU t.text t.norm t.page t.line t.flags 8 t.name h om om (by decide)
 have cP:=λl=>qDY t.page (h++l) hz.pg
 have cM:=λl=>qDY t.name (h++l) hz.na
 have hG:=λl=>qEK t.text (h++l) hz.tx (hp.app l)
 have cW:=λl=>t93 t.text (h++l) hz.tx
 have cK:=λh=>qbi (ch t.text 0) h
 have e0:(t.text[0]?).getD 0=ch t.text 0:=by simp[ch,gdqA]
 unfold txB at hR;rw[eg,ek]at hR;rw[hf]at dA dB k1 k2;rw[qB0 f hf2]at dA;rw[qB1 f hf2]at dB;obtain⟨bp,hbp⟩: ∃b,b=qlh t.page:=⟨_,rfl⟩
 obtain⟨bm,hbm⟩: ∃b,b=qlh t.name:=⟨_,rfl⟩
 obtain⟨bg,hbg⟩: ∃b,b=qer t.text:=⟨_,rfl⟩
 obtain⟨bw,hbw⟩: ∃b,b=kC t.text:=⟨_,rfl⟩
 rw[<-hbp,<-hbm,<-hbg,<-hbw]at hR;simp only[<-hbp]at cP;simp only[<-hbm]at cM;simp only[<-hbg]at hG;simp only[<-hbw]at cW;have eM:qvb t.text=(decide (t.text.length=1)&&(decide (kind (ch t.text 0)=5)||decide (kind (ch t.text 0)=4))):=rfl;have eN:qvc t.norm=(decide (t.norm≠ [])&&(decide (t.norm.length<=64)&&(List.range t.norm.length).all λi=>kY (ch t.norm i))):=rfl;rw[eM,eN]at hR;obtain⟨kd,hkd⟩:=wg (kind (ch t.text 0))
 rw[<-hkd]at hR cK;have q2:(t.text.length=1)=True->((0:Int)<t.text.length)=True:=λe=>eqt (by have:=of_eq_true e;omega)
 cases ga:f.testBit 1<;>cases gb:f.testBit 3<;>rw[ga]at hR dA<;>rw[gb]at hR dB<;>simp only[Bool.false_eq_true,if_true,if_false,and_true,and_false,and_self]at hR
 ·cases bw with
  |false=>
   rw[Bool.false_and,ipo rfl]at hR;rw[hR];refine acO ja ?_;simp (disch:=omega) only[jZ,tkC,hf,k1,k2,go_sem]
   repeat' first|((first|refine cA (dA _) ?_ ?_|refine cA (dB _) ?_ ?_|refine cA (cW _) ?_ ?_);exact flk;simp (disch:=omega) only[go_sem])|exact wa|fail
  |true=>
  rw[Bool.true_and]at hR
  by_cases g5:t.norm= []
  ·have k5:(t.norm= [])=True:=eqt g5;rw[dqf (λhc=>hc g5),Bool.false_and,ipo rfl]at hR;rw[hR];refine acO ja ?_;simp (disch:=omega) only[jZ,tkC,hf,k1,k2,go_sem]
   repeat' first|((first|refine cA (dA _) ?_ ?_|refine cA (dB _) ?_ ?_|refine cA (cW _) ?_ ?_);exact flk;simp (disch:=omega) only[k5,go_sem])|exact wa|fail
  have k5:(t.norm= [])=False:=eqf g5;rw[dqt g5,Bool.true_and]at hR
  by_cases g6:t.norm.length<=64
  case neg=>
   have k6:((64:Int)<t.norm.length)=True:=wl;rw[dqf g6,Bool.false_and,ipo rfl]at hR;rw[hR];refine acO ja ?_;simp (disch:=omega) only[jZ,tkC,hf,k1,k2,go_sem]
   repeat' first|((first|refine cA (dA _) ?_ ?_|refine cA (dB _) ?_ ?_|refine cA (cW _) ?_ ?_);exact flk;simp (disch:=omega) only[k5,k6,go_sem])|exact wa|fail
  have k6:((64:Int)<t.norm.length)=False:=wm;rw[dqt g6,Bool.true_and]at hR;refine acO ja ?_;simp (disch:=omega) only[jZ,tkC,hf,k1,k2,go_sem]
  repeat' first|((first|refine cA (dA _) ?_ ?_|refine cA (dB _) ?_ ?_|refine cA (cW _) ?_ ?_);exact flk;simp (disch:=omega) only[k5,k6,go_sem])
  refine qn (T:=λi:Nat=>qO 105 [(1,.op h.length 1 0),(5,.int .i64 i)]) (H:=λ_=>h++ [.mem 1 119 [.str t.text,.str t.norm,.str t.page,.int .i64 t.line,.int .i64 (f:Int),.str t.name]]) (inv:=λi=>i<=t.norm.length∧ ∀j,j<i->kY (ch t.norm j)=true) (m:=λi=>t.norm.length-i) 0 ⟨nzl _,λj hj=>absurd hj (nnz j)⟩ (Wk.temps ?_) ?_
  ·(simp only[go_sem,qf,qc,qa,qe];try exact we)
  rintro i ⟨i1,i2⟩ K hK
  by_cases hi:i<t.norm.length
  ·have r1:((i:Int)<t.norm.length)=True:=wl;have r0:(0<=(i:Int))=True:=wl;have ei:(t.norm[i]?).getD 0=ch t.norm i:=by unfold ch;exact (gdqA).symm
   have cV:=λh=>qEc (ch t.norm i) h
   cases gi:kY (ch t.norm i)with
   |false=>
    rw[gi]at cV;have hall:((List.range t.norm.length).all λi=>kY (ch t.norm i))=false:=by
     rw[List.all_eq_false];exact⟨i,by simpa using hi,by rw[gi];simp⟩
    rw[hall,ipo rfl]at hR;rw[hR];simp (disch:=omega) only[r0,r1,ei,go_sem]
    repeat' first|(refine cA (cV _) flk ?_;simp (disch:=omega) only[go_sem])|exact wa|fail
   |true=>
    rw[gi]at cV;simp (disch:=omega) only[r0,r1,ei,go_sem]
    repeat' first|(refine cA (cV _) flk ?_;simp (disch:=omega) only[go_sem])
    refine hK _ _ (i+1) ⟨hi,λj hj=> ?_⟩ om (Wk.temps ?_)
    ·by_cases e:j=i
     ·subst e;exact gi
     ·exact i2 j om
    ·(simp only[go_sem,qf,qc,qa,qe];try exact we)
  have r1:((i:Int)<t.norm.length)=False:=wm;have hall:((List.range t.norm.length).all λi=>kY (ch t.norm i))=true:=by
   rw[List.all_eq_true];exact λj hj=>i2 j (by have:=List.mem_range.1 hj;omega)
  rw[hall,ine (by simp)]at hR;clear hK
  by_cases g4:t.line<0
  ·have k4:(t.line<0)=True:=eqt g4;rw[ipo g4]at hR;rw[hR];simp (disch:=omega) only[r1,k4,go_sem]
   repeat' first|exact wa|fail
  have k4:(t.line<0)=False:=eqf g4;rw[ine g4]at hR;cases bp with
  |false=>
   rw[ipo (.inl rfl)]at hR;rw[hR];simp (disch:=omega) only[r1,k4,go_sem]
   repeat' first|(refine qj ( .bool false) ?_;simp (disch:=omega) only[go_sem])|(refine cA (cP _) flk ?_;simp (disch:=omega) only[go_sem])|exact wa|fail
  |true=>
  cases bm with
  |false=>
   rw[ipo (.inr rfl)]at hR;rw[hR];simp (disch:=omega) only[r1,k4,go_sem]
   repeat' first|((first|refine cA (cP _) ?_ ?_|refine cG (λe=>cM _) ?_ ?_);exact flk;simp (disch:=omega) only[go_sem])|exact wa|with_reducible apply aiA|exact clz|fail
  |true=>
  rw[ine (by simp)]at hR;rw[hR];simp (disch:=omega) only[r1,k4,go_sem]
  repeat' first|((first|refine cA (cP _) ?_ ?_|refine cG (λe=>cM _) ?_ ?_);exact flk;simp (disch:=omega) only[go_sem])|exact wa|with_reducible apply aiA|exact clz|fail
 ·by_cases g5:t.text.length=1
  case neg=>
   have k5:((t.text.length:Int)=1)=False:=wm;rw[dqf g5,Bool.false_and,Bool.false_and,ipo rfl]at hR;rw[hR];refine acO ja ?_;simp (disch:=omega) only[jZ,tkC,hf,k1,k2,go_sem]
   repeat' first|(refine qj ( .int .i64 0) ?_;simp (disch:=omega) only[go_sem])|((first|refine cA (dA _) ?_ ?_|refine cA (dB _) ?_ ?_);exact flk;simp (disch:=omega) only[k5,go_sem])|exact wa|(with_reducible first|intro _|apply aiA)|exact clz|fail
  have k5:((t.text.length:Int)=1)=True:=wl;have k6:((0:Int)<t.text.length)=True:=wl;rw[dqt g5,Bool.true_and]at hR
  by_cases g50:kd=5
  ·have k50:(kd=5)=True:=eqt g50;rw[dqt g50,Bool.true_or,Bool.true_and]at hR
   by_cases g7:t.norm=t.text
   case neg=>
    have k7:(t.norm=t.text)=False:=eqf g7;rw[dqf g7,ipo rfl]at hR;rw[hR];refine acO ja ?_;simp (disch:=omega) only[jZ,tkC,hf,k1,k2,false_imp_iff,true_imp_iff,go_sem]
    repeat' first|(refine qj ( .int .i64 0) ?_;simp (disch:=omega) only[false_and,false_imp_iff,true_imp_iff,k7,go_sem])|((first|refine cA (dA _) ?_ ?_|refine cA (dB _) ?_ ?_|refine cG (λe=>cK _) ?_ ?_);exact flk;simp (disch:=omega) only[k5,k6,e0,Int.toNat_zero,k50,false_and,false_imp_iff,true_imp_iff,go_sem])|exact wa|(with_reducible first|intro _|apply aiA)|exact clz|fail
   have k7:(t.norm=t.text)=True:=eqt g7;rw[dqt g7,ine (by simp)]at hR
   by_cases g4:t.line<0
   ·have k4:(t.line<0)=True:=eqt g4;rw[ipo g4]at hR;rw[hR];refine acO ja ?_;simp (disch:=omega) only[jZ,tkC,hf,k1,k2,false_imp_iff,true_imp_iff,go_sem]
    repeat' first|(refine qj ( .int .i64 0) ?_;simp (disch:=omega) only[false_and,false_imp_iff,true_imp_iff,k7,k4,go_sem])|((first|refine cA (dA _) ?_ ?_|refine cA (dB _) ?_ ?_|refine cG (λe=>cK _) ?_ ?_);exact flk;simp (disch:=omega) only[k5,k6,e0,Int.toNat_zero,k50,false_and,false_imp_iff,true_imp_iff,go_sem])|exact wa|with_reducible apply aiA|exact clz|fail
   have k4:(t.line<0)=False:=eqf g4;rw[ine g4]at hR;cases bp with
   |false=>
    rw[ipo (.inl rfl)]at hR;rw[hR];refine acO ja ?_;simp (disch:=omega) only[jZ,tkC,hf,k1,k2,false_imp_iff,true_imp_iff,go_sem]
    repeat' first|(refine qj ( .int .i64 0) ?_;simp (disch:=omega) only[false_and,false_imp_iff,true_imp_iff,k7,k4,go_sem])|((first|refine cA (dA _) ?_ ?_|refine cA (dB _) ?_ ?_|refine cG (λe=>cK _) ?_ ?_|refine cA (cP _) ?_ ?_);exact flk;simp (disch:=omega) only[k5,k6,e0,Int.toNat_zero,k50,false_and,false_imp_iff,true_imp_iff,go_sem])|exact wa|with_reducible apply aiA|exact clz|fail
   |true=>
   cases bm with
   |false=>
    rw[ipo (.inr rfl)]at hR;rw[hR];refine acO ja ?_;simp (disch:=omega) only[jZ,tkC,hf,k1,k2,false_imp_iff,true_imp_iff,go_sem]
    repeat' first|(refine qj ( .int .i64 0) ?_;simp (disch:=omega) only[false_and,false_imp_iff,true_imp_iff,k7,k4,go_sem])|((first|refine cA (dA _) ?_ ?_|refine cA (dB _) ?_ ?_|refine cG (λe=>cK _) ?_ ?_|refine cA (cP _) ?_ ?_|refine cG (λe=>cM _) ?_ ?_);exact flk;simp (disch:=omega) only[k5,k6,e0,Int.toNat_zero,k50,false_and,false_imp_iff,true_imp_iff,go_sem])|exact wa|with_reducible apply aiA|exact clz|fail
   |true=>
   rw[ine (by simp)]at hR;rw[hR];refine acO ja ?_;simp (disch:=omega) only[jZ,tkC,hf,k1,k2,false_imp_iff,true_imp_iff,go_sem]
   repeat' first|(refine qj ( .int .i64 0) ?_;simp (disch:=omega) only[false_and,false_imp_iff,true_imp_iff,k7,k4,go_sem])|((first|refine cA (dA _) ?_ ?_|refine cA (dB _) ?_ ?_|refine cG (λe=>cK _) ?_ ?_|refine cA (cP _) ?_ ?_|refine cG (λe=>cM _) ?_ ?_);exact flk;simp (disch:=omega) only[k5,k6,e0,Int.toNat_zero,k50,false_and,false_imp_iff,true_imp_iff,go_sem])|exact wa|with_reducible apply aiA|exact clz|fail
  have k50:(kd=5)=False:=eqf g50;rw[dqf g50,Bool.false_or]at hR
  by_cases g40:kd=4
  ·have k40:(kd=4)=True:=eqt g40;rw[dqt g40,Bool.true_and]at hR
   by_cases g7:t.norm=t.text
   case neg=>
    have k7:(t.norm=t.text)=False:=eqf g7;rw[dqf g7,ipo rfl]at hR;rw[hR];refine acO ja ?_;simp (disch:=omega) only[jZ,tkC,hf,k1,k2,go_sem]
    repeat' first|((first|refine cA (dA _) ?_ ?_|refine cA (dB _) ?_ ?_|refine cG (λe=>cK _) ?_ ?_);exact flk;simp (disch:=omega) only[k5,k6,e0,Int.toNat_zero,k50,k40,k7,go_sem])|exact wa|with_reducible apply aiA|exact clz|fail
   have k7:(t.norm=t.text)=True:=eqt g7;rw[dqt g7,ine (by simp)]at hR
   by_cases g4:t.line<0
   ·have k4:(t.line<0)=True:=eqt g4;rw[ipo g4]at hR;rw[hR];refine acO ja ?_;simp (disch:=omega) only[jZ,tkC,hf,k1,k2,go_sem]
    repeat' first|((first|refine cA (dA _) ?_ ?_|refine cA (dB _) ?_ ?_|refine cG (λe=>cK _) ?_ ?_);exact flk;simp (disch:=omega) only[k5,k6,e0,Int.toNat_zero,k50,k40,k7,k4,go_sem])|exact wa|with_reducible apply aiA|exact clz|fail
   have k4:(t.line<0)=False:=eqf g4;rw[ine g4]at hR;cases bp with
   |false=>
    rw[ipo (.inl rfl)]at hR;rw[hR];refine acO ja ?_;simp (disch:=omega) only[jZ,tkC,hf,k1,k2,go_sem]
    repeat' first|(refine qj ( .bool false) ?_;simp (disch:=omega) only[go_sem])|((first|refine cA (dA _) ?_ ?_|refine cA (dB _) ?_ ?_|refine cG (λe=>cK _) ?_ ?_|refine cA (cP _) ?_ ?_);exact flk;simp (disch:=omega) only[k5,k6,e0,Int.toNat_zero,k50,k40,k7,k4,go_sem])|exact wa|with_reducible apply aiA|exact clz|fail
   |true=>
   cases bm with
   |false=>
    rw[ipo (.inr rfl)]at hR;rw[hR];refine acO ja ?_;simp (disch:=omega) only[jZ,tkC,hf,k1,k2,go_sem]
    repeat' first|((first|refine cA (dA _) ?_ ?_|refine cA (dB _) ?_ ?_|refine cG (λe=>cK _) ?_ ?_|refine cA (cP _) ?_ ?_|refine cG (λe=>cM _) ?_ ?_);exact flk;simp (disch:=omega) only[k5,k6,e0,Int.toNat_zero,k50,k40,k7,k4,go_sem])|exact wa|with_reducible apply aiA|exact clz|fail
   |true=>
   rw[ine (by simp)]at hR;rw[hR];refine acO ja ?_;simp (disch:=omega) only[jZ,tkC,hf,k1,k2,go_sem]
   repeat' first|((first|refine cA (dA _) ?_ ?_|refine cA (dB _) ?_ ?_|refine cG (λe=>cK _) ?_ ?_|refine cA (cP _) ?_ ?_|refine cG (λe=>cM _) ?_ ?_);exact flk;simp (disch:=omega) only[k5,k6,e0,Int.toNat_zero,k50,k40,k7,k4,go_sem])|exact wa|with_reducible apply aiA|exact clz|fail
  have k40:(kd=4)=False:=eqf g40;rw[dqf g40,Bool.false_and,ipo rfl]at hR;rw[hR];refine acO ja ?_;simp (disch:=omega) only[jZ,tkC,hf,k1,k2,go_sem]
  repeat' first|((first|refine cA (dA _) ?_ ?_|refine cA (dB _) ?_ ?_|refine cG (λe=>cK _) ?_ ?_);exact flk;simp (disch:=omega) only[k5,k6,e0,Int.toNat_zero,k50,k40,go_sem])|exact wa|with_reducible apply aiA|exact clz|fail
 ·cases bg with
  |false=>
   rw[Bool.false_and,ipo rfl]at hR;rw[hR];refine acO ja ?_;simp (disch:=omega) only[jZ,tkC,hf,k1,k2,go_sem]
   repeat' first|((first|refine cA (dA _) ?_ ?_|refine cA (dB _) ?_ ?_|refine cA (hG _) ?_ ?_);exact flk;simp (disch:=omega) only[go_sem])|exact wa|fail
  |true=>
  rw[Bool.true_and]at hR
  by_cases g7:t.norm=t.text
  case neg=>
   have k7:(t.norm=t.text)=False:=eqf g7;rw[dqf g7,ipo rfl]at hR;rw[hR];refine acO ja ?_;simp (disch:=omega) only[jZ,tkC,hf,k1,k2,go_sem]
   repeat' first|((first|refine cA (dA _) ?_ ?_|refine cA (dB _) ?_ ?_|refine cA (hG _) ?_ ?_);exact flk;simp (disch:=omega) only[k7,go_sem])|exact wa|fail
  have k7:(t.norm=t.text)=True:=eqt g7;rw[dqt g7,ine (by simp)]at hR
  by_cases g4:t.line<0
  ·have k4:(t.line<0)=True:=eqt g4;rw[ipo g4]at hR;rw[hR];refine acO ja ?_;simp (disch:=omega) only[jZ,tkC,hf,k1,k2,go_sem]
   repeat' first|((first|refine cA (dA _) ?_ ?_|refine cA (dB _) ?_ ?_|refine cA (hG _) ?_ ?_);exact flk;simp (disch:=omega) only[k7,k4,go_sem])|exact wa|fail
  have k4:(t.line<0)=False:=eqf g4;rw[ine g4]at hR;cases bp with
  |false=>
   rw[ipo (.inl rfl)]at hR;rw[hR];refine acO ja ?_;simp (disch:=omega) only[jZ,tkC,hf,k1,k2,go_sem]
   repeat' first|(refine qj ( .bool false) ?_;simp (disch:=omega) only[go_sem])|((first|refine cA (dA _) ?_ ?_|refine cA (dB _) ?_ ?_|refine cA (hG _) ?_ ?_|refine cA (cP _) ?_ ?_);exact flk;simp (disch:=omega) only[k7,k4,go_sem])|exact wa|fail
  |true=>
  cases bm with
  |false=>
   rw[ipo (.inr rfl)]at hR;rw[hR];refine acO ja ?_;simp (disch:=omega) only[jZ,tkC,hf,k1,k2,go_sem]
   repeat' first|((first|refine cA (dA _) ?_ ?_|refine cA (dB _) ?_ ?_|refine cA (hG _) ?_ ?_|refine cA (cP _) ?_ ?_|refine cG (λe=>cM _) ?_ ?_);exact flk;simp (disch:=omega) only[k7,k4,go_sem])|exact wa|with_reducible apply aiA|exact clz|fail
  |true=>
  rw[ine (by simp)]at hR;rw[hR];refine acO ja ?_;simp (disch:=omega) only[jZ,tkC,hf,k1,k2,go_sem]
  repeat' first|((first|refine cA (dA _) ?_ ?_|refine cA (dB _) ?_ ?_|refine cA (hG _) ?_ ?_|refine cA (cP _) ?_ ?_|refine cG (λe=>cM _) ?_ ?_);exact flk;simp (disch:=omega) only[k7,k4,go_sem])|exact wa|with_reducible apply aiA|exact clz|fail
 ·rw[hR];refine acO ja ?_;simp (disch:=omega) only[jZ,tkC,hf,k1,k2,go_sem]
  repeat' first|((first|refine cA (dA _) ?_ ?_|refine cA (dB _) ?_ ?_);exact flk;simp (disch:=omega) only[go_sem])|exact wa|fail
theorem qz9(s:Str)(h:wh)(hs:s.length<=1000000000):ACalls Tryz.prog 137 [.str s] h (.bool (qp9 s)) h:=by
 unfold qp9;have c1:=λh=>t53 s h hs
 by_cases g:1<=s.length
 ·rw[qql s g];have k0:((0:Int)<s.length)=True:=wl;have k2:((s.length:Int)-1).toNat=s.length-1:=by omega
  have k3:(0<=(s.length:Int)-1)=True:=wl;have k4:((s.length:Int)-1<=s.length)=True:=wl;have k5:((s.length:Int)-1<s.length)=True:=wl;obtain⟨b,hb⟩:=wg ((s[s.length-1]?).getD 0)
  have eb:=hb.symm;rw[eb];have c2:=λh=>t53 (s.take (s.length-1)) h (by simp;omega)
  by_cases g2:b.toNat=42
  ·have k6:((b.toNat:Int)=42)=True:=wl;rw[ipo (by simpa using g2)]
   by_cases g3:s.length<=16
   ·have k7:((s.length:Int)<=16)=True:=wl;rw[dqt g3];refine acO qgr ?_;simp (disch:=omega) only[qjL,k0,k2,k3,k4,k5,eb,k6,k7,go_sem]
    repeat' first|(refine cG (λe=>c2 _) flk ?_;simp (disch:=omega) only[go_sem])|exact wc|with_reducible apply aiA|exact clz|fail
   ·have k7:((s.length:Int)<=16)=False:=wm;rw[dqf g3];refine acO qgr ?_;simp (disch:=omega) only[qjL,k0,k2,k3,k4,k5,eb,k6,k7,go_sem]
    repeat' first|(refine qj ( .bool false) ?_;simp (disch:=omega) only[go_sem])|exact wc|fail
  ·have k6:((b.toNat:Int)=42)=False:=wm;rw[ine (by simpa using g2)];refine acO qgr ?_;simp (disch:=omega) only[qjL,k0,k2,k3,k4,k5,eb,k6,go_sem]
   repeat' first|(refine cA (c1 _) flk ?_;simp (disch:=omega) only[go_sem])|exact wc|fail
 ·have e:s= []:=List.eq_nil_of_length_eq_zero om;subst e;rw[ine (by decide)];refine acO qgr ?_;simp (disch:=omega) only[qjL,go_sem]
  repeat' first|((first|refine cA (c1 _) ?_ ?_|refine cG (λe=>c1 _) ?_ ?_);exact flk;simp (disch:=omega) only[go_sem])|exact wc|(with_reducible first|intro _|apply aiA)|exact clz|fail
theorem hdR(x:Co)(h:wh)(hz:qad x)(hp:kt SG h):ACalls Tryz.prog 60 [.str x.sec,strs x.sig,qm x.tok] h (.int .i64 (srE x)) h:=by
 obtain⟨R,hR⟩:=wg (srE x)
 rw[<-hR];unfold srE at hR;have z1:=hz.sg;have z2:=hz.tk;have cN:=λh=>t53 x.sec h hz.sc
 cases g0:cb x.sec with
 |false=>
  rw[g0]at cN;rw[ipo g0]at hR;rw[hR];refine acO qoM ?_;simp (disch:=omega) only[qwV,strs,qm,go_sem]
  repeat' first|(refine cA (cN _) flk ?_;simp (disch:=omega) only[go_sem])|exact wc|fail
 |true=>
 rw[g0]at cN;rw[ine (by rw[g0];simp)]at hR
 by_cases g1:x.sig.length=0
 ·have k1:((x.sig.length:Int)=0)=True:=wl;rw[ipo g1]at hR;rw[hR];refine acO qoM ?_;simp (disch:=omega) only[qwV,strs,qm,go_sem]
  repeat' first|(refine cA (cN _) flk ?_;simp (disch:=omega) only[k1,go_sem])|exact wc|fail
 have k1:((x.sig.length:Int)=0)=False:=wm;rw[ine g1]at hR
 by_cases g2:32<x.sig.length
 ·have k2:((32:Int)<x.sig.length)=True:=wl;rw[ipo g2]at hR;rw[hR];refine acO qoM ?_;simp (disch:=omega) only[qwV,strs,qm,go_sem]
  repeat' first|(refine cA (cN _) flk ?_;simp (disch:=omega) only[k1,k2,go_sem])|exact wc|fail
 have k2:((32:Int)<x.sig.length)=False:=wm;rw[ine g2]at hR;refine acO qoM ?_;simp (disch:=omega) only[qwV,strs,qm,go_sem]
 repeat' first|(refine cA (cN _) flk ?_;simp (disch:=omega) only[k1,k2,go_sem])
 refine qn (T:=λi:Nat=>qO 81 [(1,strs x.sig),(2,qm x.tok),(7,.int .i64 i)]) (H:=λ_=>h) (inv:=λi=>i<=x.sig.length∧ ∀j,j<i->j9 x.sig j=0) (m:=λi=>x.sig.length-i) 0 ⟨nzl _,λj hj=>by omega⟩ (Wk.temps ?_) ?_
 ·(simp only[strs,qm,go_sem,qf,qc,qa,qe];try exact we)
 rintro i ⟨i1,i2⟩ K hK
 by_cases hi:i<x.sig.length
 ·have k3:((i:Int)<x.sig.length)=True:=wl;have hE:=gO (f:=j9 x.sig) hi i2;have hs:j9 x.sig i=if qp9 (x.sig.getD i [])=false then 14 else if jv (λj=>decide (x.sig.getD i []=x.sig.getD j [])) i=true then 7 else 0:=rfl
  have c87:=λh=>qz9 (x.sig.getD i []) h (hz.ss i)
  obtain⟨s,hsx⟩:=wg (x.sig.getD i [])
  have es:=hsx.symm;rw[es]at hs c87;cases g3:qp9 s with
  |false=>
   rw[g3]at c87;rw[ipo g3]at hs;have hne:U9 (j9 x.sig) 0 x.sig.length≠0:=by rw[hE (by rw[hs];decide),hs];decide
   have hV:R=14:=by rw[hR,ipo hne,hE (by rw[hs];decide),hs]
   rw[hV];simp (disch:=omega) only[strs,qm,k3,es,go_sem]
   repeat' first|(refine cA (c87 _) flk ?_;simp (disch:=omega) only[go_sem])|exact wc|with_reducible apply aiA|exact clz|fail
  |true=>
  rw[g3]at c87;rw[ine (by rw[g3];simp)]at hs;simp (disch:=omega) only[strs,qm,k3,es,go_sem]
  repeat' first|(refine cA (c87 _) flk ?_;simp (disch:=omega) only[go_sem])|with_reducible apply aiA|exact clz|fail
  refine qn (T:=λk:Nat=>qO 81 [(1,strs x.sig),(2,qm x.tok),(7,.int .i64 i),(8,.int .i64 k)]) (H:=λ_=>h) (inv:=λk=>k<=i∧ ∀j,j<k-> ¬s=x.sig.getD j []) (m:=λk=>i-k) 0 ⟨nzl _,λj hj=>by omega⟩ (Wk.temps ?_) ?_
  ·(simp only[strs,qm,go_sem,qf,qc,qa,qe];try exact we)
  rintro k ⟨u1,u2⟩ K2 hK2
  by_cases hk:k<i
  ·have t1:((k:Int)<i)=True:=wl;have t2:((k:Int)<x.sig.length)=True:=wl;obtain⟨y,hy⟩:=wg (x.sig.getD k [])
   have ey:=hy.symm
   by_cases g4:y=s
   ·have k4:(y=s)=True:=eqt g4;rw[ipo (qK.2 ⟨k,hk,by rw[ey,g4];simp⟩)]at hs;have hne:U9 (j9 x.sig) 0 x.sig.length≠0:=by rw[hE (by rw[hs];decide),hs];decide
    have hV:R=7:=by rw[hR,ipo hne,hE (by rw[hs];decide),hs]
    rw[hV];simp (disch:=omega) only[strs,qm,k3,t1,t2,k4,es,ey,go_sem]
    repeat' first|exact wc|with_reducible apply aiA|exact clz|fail
   ·have k4:(y=s)=False:=eqf g4;simp (disch:=omega) only[strs,qm,k3,t1,t2,k4,es,ey,go_sem]
    repeat' first|with_reducible apply aiA|exact clz|fail
    refine hK2 _ _ (k+1) ⟨hk,λj hj=> ?_⟩ om (Wk.temps ?_)
    ·by_cases e:j=k
     ·subst e;rw[ey];exact λe=>g4 e.symm
     ·exact u2 j om
    ·(simp only[strs,qm,go_sem,qf,qc,qa,qe];try exact we)
  ·have t1:((k:Int)<i)=False:=wm;obtain rfl:k=i:=by omega
   rw[ine (by rw[qq.2 λj hj=>dqf (u2 j hj)];simp)]at hs;simp (disch:=omega) only[strs,qm,t1,go_sem];refine hK _ _ (k+1) ⟨hi,λj hj=> ?_⟩ om (Wk.temps ?_)
   ·by_cases e:j=k
    ·subst e;exact hs
    ·exact i2 j om
   ·(simp only[strs,qm,go_sem,qf,qc,qa,qe];try exact we)
 have k3:((i:Int)<x.sig.length)=False:=wm;have hn0:=jH (f:=j9 x.sig) (λj (hj:j<x.sig.length)=>i2 j om);rw[ine (λhc=>hc hn0)]at hR
 by_cases g5:x.tok.length=x.sig.length
 case neg=>
  have k5:((x.tok.length:Int)=x.sig.length)=False:=wm;rw[ipo g5]at hR;rw[hR];simp (disch:=omega) only[strs,qm,k3,k5,go_sem]
  repeat' first|exact wc|fail
 have k5:((x.tok.length:Int)=x.sig.length)=True:=wl;rw[ine (λhc=>hc g5)]at hR;clear hK;simp (disch:=omega) only[strs,qm,k3,k5,go_sem];obtain⟨rw0,hrw⟩: ∃f:Nat->Int,f=λi=>qdS (x.tok.getD i []):=⟨_,rfl⟩
 have er: ∀i,rw0 i=qdS (x.tok.getD i []):=λi=>by rw[hrw]
 rw[<-hrw]at hR;refine qn (T:=λi:Nat=>qO 81 [(2,qm x.tok),(9,.int .i64 i)]) (H:=λ_=>h) (inv:=λi=>i<=x.tok.length∧ ∀j,j<i->rw0 j=0) (m:=λi=>x.tok.length-i) 0 ⟨nzl _,λj hj=>by omega⟩ (Wk.temps ?_) ?_
 ·(simp only[qm,go_sem,qf,qc,qa,qe];try exact we)
 rintro i ⟨i1,i2⟩ K hK
 by_cases hi:i<x.tok.length
 ·have k6:((i:Int)<x.tok.length)=True:=wl;have hE:=gO (f:=rw0) hi i2;have hs:=er i;have zl:=hz.tl i;have zt:=hz.te i;obtain⟨l,hl⟩:=wg (x.tok.getD i [])
  have el:=hl.symm;rw[el]at hs zl;simp only[el]at zt;unfold qdS at hs
  by_cases g6:1024<l.length
  ·have k7:((1024:Int)<l.length)=True:=wl;rw[ipo g6]at hs;have hV:R=4:=by rw[hR,hE (by rw[hs];decide),hs]
   rw[hV];simp (disch:=omega) only[qm,zJ,k6,k7,el,go_sem]
   repeat' first|exact wc|with_reducible apply aiA|exact clz|fail
  have k7:((1024:Int)<l.length)=False:=wm;rw[ine g6]at hs;simp (disch:=omega) only[qm,zJ,k6,k7,el,go_sem]
  repeat' first|with_reducible apply aiA|exact clz|fail
  refine qn (T:=λk:Nat=>qO 81 [(2,qm x.tok),(9,.int .i64 i),(10,.int .i64 k)]) (H:=λ_=>h) (inv:=λk=>k<=l.length∧ ∀j,j<k->tkE (l.getD j default)=0) (m:=λk=>l.length-k) 0 ⟨nzl _,λj hj=>by omega⟩ (Wk.temps ?_) ?_
  ·(simp only[qm,zJ,go_sem,qf,qc,qa,qe];try exact we)
  rintro k ⟨u1,u2⟩ K2 hK2
  by_cases hk:k<l.length
  ·have t1:((k:Int)<l.length)=True:=wl;have cT:=tkR (l.getD k default) h (zt k) hp;obtain⟨t,ht⟩:=wg (l.getD k default)
   have et:=ht.symm;rw[et]at cT;obtain⟨e,he⟩:=wg (tkE t)
   rw[<-he]at cT;unfold tkC at cT
   by_cases g7:e=0
   ·have k8:(e=0)=True:=eqt g7;simp (disch:=omega) only[qm,zJ,tkC,k6,t1,el,et,go_sem]
    repeat' first|(refine cA (cT) flk ?_;simp (disch:=omega) only[k8,go_sem])|with_reducible apply aiA|exact clz|fail
    refine hK2 _ _ (k+1) ⟨hk,λj hj=> ?_⟩ om (Wk.temps ?_)
    ·by_cases e:j=k
     ·subst e;rw[et,<-he];exact g7
     ·exact u2 j om
    ·(simp only[qm,zJ,go_sem,qf,qc,qa,qe];try exact we)
   ·have k8:(e=0)=False:=eqf g7;rw[ipo (qK.2 ⟨k,hk,by rw[et,<-he];simp[g7]⟩)]at hs;have hV:R=1:=by rw[hR,hE (by rw[hs];decide),hs]
    rw[hV];simp (disch:=omega) only[qm,zJ,tkC,k6,t1,el,et,go_sem]
    repeat' first|(refine cA (cT) flk ?_;simp (disch:=omega) only[k8,go_sem])|exact wc|with_reducible apply aiA|exact clz|fail
  ·have t1:((k:Int)<l.length)=False:=wm;rw[ine (by rw[qq.2 λj (hj:j<l.length)=>by rw[u2 j om];simp];simp)]at hs;simp (disch:=omega) only[qm,zJ,k6,t1,el,go_sem]
   repeat' first|with_reducible apply aiA|exact clz|fail
   refine hK _ _ (i+1) ⟨hi,λj hj=> ?_⟩ om (Wk.temps ?_)
   ·by_cases e:j=i
    ·subst e;exact hs
    ·exact i2 j om
   ·(simp only[qm,zJ,go_sem,qf,qc,qa,qe];try exact we)
 ·have k6:((i:Int)<x.tok.length)=False:=wm;rw[jH (λj (hj:j<x.tok.length)=>i2 j om)]at hR;rw[hR];simp (disch:=omega) only[qm,k6,go_sem]
  repeat' first|exact wc|fail
theorem coR(x:Co)(h:wh)(hz:qad x)(hp:kt SG h):ACalls Tryz.prog 10 [.agg (coC x)] h (.int .i64 (coE x)) h:=by
 have c1:=λl=>hdR x (h++l) hz (hp.app l)
 unfold coE
 by_cases g:srE x=0
 case neg=>
  have k1:(srE x=0)=False:=eqf g;rw[ipo g];obtain⟨e,he⟩:=wg (srE x)
  rw[<-he]at c1 k1 ⊢;refine acO qxo ?_;simp (disch:=omega) only[qBz,coC,go_sem]
  repeat' first|(refine cA (c1 _) flk ?_;simp (disch:=omega) only[k1,go_sem])|exact wa|fail
 rw[ine (λhc=>hc g)];obtain⟨o1,o2,o3,o4⟩:=qrM g;rw[g]at c1;have zg1: ∀g,valL g .len [strs x.sig]= .int .i64 x.tok.length:=λ_=>by rw[o3];rfl
 have zg2: ∀g,okL g .len [strs x.sig]=True:=λ_=>eqt trivial
 have hn:=hz.tk;have hc:=hz.cl;have hl:=hz.tl;have hm:=hz.ce;obtain⟨R,hR⟩:=wg (if alB x.tok x.col=false then (19:Int) else 0)
 rw[<-hR];have k0:(0<=(x.tok.length:Int))=True:=wl;have k1:((x.tok.length:Int)<=9223372036854775807)=True:=wl;have eS:=o3.symm;refine acO qxo ?_;simp (disch:=omega) only[qBz,coC,go_sem]
 repeat' first|(refine cA (c1 _) flk ?_;simp (disch:=omega) only[k0,zg1,zg2,go_sem])|with_reducible apply aiA|exact clz|fail
 all_goals try rw[itn]
 rw[qkV];obtain⟨tok,htok⟩:=wg x.tok
 obtain⟨col,hcol⟩:=wg x.col
 have eS2:x.sig.length=tok.length:=by rw[htok];exact eS
 rw[<-htok,<-hcol]at hR;rw[<-htok]at k0 k1 hn;simp only[<-htok]at hl o4;rw[<-hcol]at hc;simp only[<-hcol]at hm;have eC:coC x= [.str x.sec,strs x.sig,qm tok,qu col]:=by rw[htok,hcol];rfl
 have zc:qu col= .sl col.length λi=> [qv (col.getD i [])]:=rfl
 have zt:qm tok= .sl tok.length λi=> [zJ (tok.getD i [])]:=rfl
 try simp only[<-htok,<-hcol]
 rw[<-qvw (col:=col)];refine qn (T:=λi:Nat=>qO 99 [(1,.op h.length 1 0),(4,.osl (h.length+1) 1 1 0 tok.length),(5,.int .i64 i)])
  (H:=λi=>h++ [.mem 1 26 [.str x.sec,strs x.sig,qm tok,qu col],.mem 1 3 (gC (atA col i 0) tok.length)])
  (inv:=λi=>i<=col.length∧ ∀j,j<i->qek tok col j=true) (m:=λi=>col.length-i) 0 ⟨nzl _,λj hj=>absurd hj (nnz j)⟩ (Wk.temps ?_) ?_
 ·(simp only[strs,zt,zc,go_sem,qf,qc,qa,qe];try exact we)
 rintro i ⟨i1,i2⟩ K hK
 by_cases hi:i<col.length
 ·have k2:((i:Int)<col.length)=True:=wl;have ki:(0<=(i:Int))=True:=wl;have hno:qek tok col i=false->R=19:=λhx=>by rw[hR,qvq hi hx,ipo rfl]
  have hlen:= @qkl tok col i;have hen:= @qq5 tok col i;have heq:= @qq6 tok col i;have hskip:= @qgf col i;have hstep:= @qgg col i;have hmi:=hm i;have hE: ∀s,enB tok col i s=(decide ((col.getD i []).getD s 0= -1)||(decide ((col.getD i []).getD s 0=(cnC col s i:Int))&&decide ((col.getD i []).getD s 0<((tok.getD s []).length:Int)))):=λ_=>rfl
  obtain⟨c,hcx⟩:=wg (col.getD i [])
  have ec:=hcx.symm;rw[ec]at hlen heq hmi;simp only[ec]at hskip hstep hE
  by_cases g1:c.length=tok.length
  case neg=>
   have k3:((c.length:Int)=tok.length)=False:=wm;rw[hno (hlen g1)];simp (disch:=omega) only[zc,qv,k2,ki,k3,ec,go_sem]
   repeat' first|exact wa|with_reducible apply aiA|exact clz|fail
  have k3:((c.length:Int)=tok.length)=True:=wl;have heq:=heq g1;simp (disch:=omega) only[zc,qv,k2,ki,k3,ec,go_sem]
  repeat' first|with_reducible apply aiA|exact clz|fail
  refine qn (T:=λs:Nat=>qO 99 [(1,.op h.length 1 0),(4,.osl (h.length+1) 1 1 0 tok.length),(5,.int .i64 i),(6,qv c),(7,.bool (jv (λs=> !decide (c.getD s 0= -1)) s)),(8,.int .i64 s)])
   (H:=λs=>h++ [.mem 1 26 [.str x.sec,strs x.sig,qm tok,qu col],.mem 1 3 (gC (atA col i s) tok.length)])
   (inv:=λs=>s<=c.length∧ ∀j,j<s->enB tok col i j=true) (m:=λs=>c.length-s) 0 ⟨nzl _,λj hj=>absurd hj (nnz j)⟩ (Wk.temps ?_) ?_
  ·(simp only[qv,go_sem,qf,qc,qa,qe];try exact we)
  rintro s ⟨s1,s2⟩ K2 hK2
  by_cases hs:s<c.length
  ·have t1:((s:Int)<c.length)=True:=wl;have t0:(0<=(s:Int))=True:=wl;have hsn:s<tok.length:=by omega
   have t2:((s:Int)<tok.length)=True:=wl;have t3:(s<tok.length)=True:=eqt hsn;have t4:(s+1<=tok.length)=True:=eqt hsn;have gl:=wi (atA col i s) tok.length;have gg:=qay (g:=atA col i s) hsn;rw[qqU]at gg;have hsk:=hskip (s:=s) (n:=tok.length);have hst:=hstep (s:=s) hsn;have hcn:= @qq4 col s i;have hlt:=hl s;have hEs:=hE s;have hap:=qb2 (λs=> !decide (c.getD s 0= -1)) s;obtain⟨t,ht⟩:=wg (c.getD s 0)
   obtain⟨l,hlx⟩:=wg (tok.getD s [])
   have et:=ht.symm;have el:=hlx.symm;rw[et]at hsk hst hEs;rw[el]at hEs hlt;simp only[et]at hap;obtain⟨a,ha⟩:=wg (jv (λs=> !decide (c.getD s 0= -1)) s)
   have ea:=ha.symm;rw[ea]at hap;obtain⟨q,hq⟩: ∃q:Nat,q=cnC col s i:=⟨_,rfl⟩
   have eq:=hq.symm;rw[eq]at hst hEs hcn gg;have b2:((q:Int)+1<=9223372036854775807)=True:=wl;have b3:(-9223372036854775808<=(q:Int)+1)=True:=wl
   by_cases g2:t= -1
   ·have k4:(t= -1)=True:=eqt g2;rw[dqt g2,Bool.true_or]at hEs;have hap':jv (λs=> !decide (c.getD s 0= -1)) (s+1)=a:=by rw[hap,dqt g2];simp
    simp (disch:=omega) only[qv,t0,t1,t2,t3,k4,et,ea,gl,gg,Nat.mul_one,Nat.zero_add,go_sem]
    repeat' first|with_reducible apply aiA|exact clz|fail
    rw[hsk g2];refine hK2 _ _ (s+1) ⟨hs,λj hj=> ?_⟩ om (Wk.temps ?_)
    ·by_cases e:j=s
     ·subst e;exact hEs
     ·exact s2 j om
    ·rw[hap']
     (simp only[qv,go_sem,qf,qc,qa,qe];try exact we)
   have k4:(t= -1)=False:=eqf g2;rw[dqf g2,Bool.false_or]at hEs;have hap':jv (λs=> !decide (c.getD s 0= -1)) (s+1)=true:=by rw[hap,dqf g2];simp
   by_cases g3:t=(q:Int)
   case neg=>
    have k5:(t=(q:Int))=False:=eqf g3;rw[dqf g3,Bool.false_and]at hEs;rw[hno (hen hsn hEs)];simp (disch:=omega) only[zt,qv,t0,t1,t2,t3,t4,k4,k5,et,ea,gl,gg,Nat.mul_one,Nat.zero_add,go_sem]
    repeat' first|exact wa|with_reducible apply aiA|exact clz|fail
   have k5:(t=(q:Int))=True:=eqt g3;rw[dqt g3,Bool.true_and]at hEs
   by_cases g4:(l.length:Int)<=t
   ·have k6:((l.length:Int)<=t)=True:=eqt g4;rw[dqf om]at hEs;rw[hno (hen hsn hEs)];simp (disch:=omega) only[zt,zJ,qv,t0,t1,t2,t3,t4,k4,k5,k6,et,ea,el,gl,gg,Nat.mul_one,Nat.zero_add,go_sem]
    repeat' first|exact wa|with_reducible apply aiA|exact clz|fail
   ·have k6:((l.length:Int)<=t)=False:=eqf g4;rw[dqt om]at hEs;have hst:=hst g2;simp (disch:=omega) only[zt,zJ,qv,t0,t1,t2,t3,t4,k4,k5,k6,et,ea,el,gl,gg,hst,Nat.mul_one,Nat.zero_add,Option.isSome_some,go_sem]
    repeat' first|with_reducible apply aiA|exact clz|fail
    try rw[hst]
    refine hK2 _ _ (s+1) ⟨hs,λj hj=> ?_⟩ om (Wk.temps ?_)
    ·by_cases e:j=s
     ·subst e;exact hEs
     ·exact s2 j om
    ·rw[hap']
     (simp only[qv,go_sem,qf,qc,qa,qe];try exact we)
  ·have t1:((s:Int)<c.length)=False:=wm;have es:s=tok.length:=by omega
   have heq:=heq λj hj=>s2 j om
   rw[<-es]at heq;cases ga:jv (λs=> !decide (c.getD s 0= -1)) s with
   |false=>
    rw[ga]at heq;rw[hno heq];simp (disch:=omega) only[qv,t1,go_sem]
    repeat' first|exact wa|fail
   |true=>
    rw[ga]at heq;simp (disch:=omega) only[qv,t1,go_sem];have ege:gC (atA col i s) tok.length=gC (atA col (i+1) 0) tok.length:=by rw[es];exact qiV _
    rw[ege];refine hK _ _ (i+1) ⟨hi,λj hj=> ?_⟩ om (Wk.temps ?_)
    ·by_cases e:j=i
     ·subst e;exact heq
     ·exact i2 j om
    ·(simp only[go_sem,qf,qc,qa,qe];try exact we)
 have k2:((i:Int)<col.length)=False:=wm;obtain rfl:i=col.length:=by omega
 clear hK;simp (disch:=omega) only[zc,k2,go_sem]
 repeat' first|with_reducible apply aiA|exact clz|fail
 refine qn (T:=λs:Nat=>qO 99 [(1,.op h.length 1 0),(4,.osl (h.length+1) 1 1 0 tok.length),(9,.int .i64 s)])
  (H:=λ_=>h++ [.mem 1 26 [.str x.sec,strs x.sig,qm tok,qu col],.mem 1 3 (gC (atA col col.length 0) tok.length)])
  (inv:=λs=>s<=tok.length∧ ∀j,j<s->cnC col j col.length=(tok.getD j []).length) (m:=λs=>tok.length-s) 0 ⟨nzl _,λj hj=>absurd hj (nnz j)⟩ (Wk.temps ?_) ?_
 ·(simp only[go_sem,qf,qc,qa,qe];try exact we)
 rintro s ⟨s1,s2⟩ K hK
 by_cases hs:s<tok.length
 ·have t1:((s:Int)<tok.length)=True:=wl;have t0:(0<=(s:Int))=True:=wl;have t3:(s<tok.length)=True:=eqt hs;have t4:(s+1<=tok.length)=True:=eqt hs;have gl:=wi (atA col col.length 0) tok.length;have gg:=qay (g:=atA col col.length 0) hs;have e0:atA col col.length 0 s= .int .i64 (cnC col s col.length:Int):=by unfold atA;rw[ine (nnz _)]
  rw[e0]at gg;have hno:= @qqR tok col s hs;obtain⟨q,hq⟩: ∃q:Nat,q=cnC col s col.length:=⟨_,rfl⟩
  have eq:=hq.symm;have hs2:q=(tok.getD s []).length->cnC col s col.length=(tok.getD s []).length:=λe=>by rw[<-hq];exact e
  rw[eq]at gg hno;obtain⟨l,hlx⟩:=wg (tok.getD s [])
  have el:=hlx.symm;rw[el]at hno hs2
  by_cases g:q=l.length
  ·have k5:((q:Int)=l.length)=True:=wl;simp (disch:=omega) only[zt,zJ,t0,t1,t3,k5,el,gl,gg,Nat.mul_one,Nat.zero_add,go_sem]
   repeat' first|with_reducible apply aiA|exact clz|fail
   refine hK _ _ (s+1) ⟨hs,λj hj=> ?_⟩ om (Wk.temps ?_)
   ·by_cases e:j=s
    ·subst e;rw[el];exact hs2 g
    ·exact s2 j om
   ·(simp only[go_sem,qf,qc,qa,qe];try exact we)
  ·have k5:((q:Int)=l.length)=False:=wm;rw[hR,hno g,ipo rfl];simp (disch:=omega) only[zt,zJ,t0,t1,t3,k5,el,gl,gg,Nat.mul_one,Nat.zero_add,go_sem]
   repeat' first|exact wa|with_reducible apply aiA|exact clz|fail
 ·have t1:((s:Int)<tok.length)=False:=wm;rw[hR,qqS i2 (λj hj=>s2 j om),ine (by simp)];simp (disch:=omega) only[t1,go_sem]
  repeat' first|exact wa|fail
end RC
end
section
open Go Go.Proofs AF
def qo1:List Nat:= []
def qBL:C:=
 (vU [MC 4 (.bool false)] ((vU [MV 6 0,O1 7 .len 6,MV 8 1,O1 9 .len 8,BI 10 .neq 7 9] (vV 10 (vX [MC 4 (.bool false)]))).seq ((vU [vO 5 0] (C.block 0 ((v6 11 5 0 0).seq ((C.block
 1 (vU [MV 17 0,MV 18 5,O2 19 (.idxA 1) 17 18,LD 20 19,MV 21 1,MV 22 5,O2 23 (.idxA 1) 21 22,LD 24 23,BI 25 .neq 20 24] (vV 25 (vX [MC 4 (.bool false)])))).seq (vZ 15
 5))).loop)).seq (vX [MC 4 (.bool true)]))))
theorem qyU:qI Tryz.prog 99 26 0 [RV.tmp 4] qBL:=fi Tryz.f99 [] qo1 []
end
section
open Go Go.Proofs AF HY LN
namespace RC
def bC(p:Nat->Bool)(n:Nat):wj:=(List.range n).map λk=> .bool (p k)
theorem U7(p:Nat->Bool)(n:Nat):(bC p n).length=n:=by simp[bC]
theorem qgh{p:Nat->Bool}{n k:Nat}(hk:k<n):(bC p n)[k]? =some (.bool (p k)):=by
 unfold bC;rw[List.getElem?_map,List.getElem?_range hk];rfl
theorem UT{p q:Nat->Bool}{n:Nat}(h: ∀k,k<n->p k=q k):bC p n=bC q n:=by
 unfold bC;exact List.map_congr_left λk hk=>by rw[h k (List.mem_range.1 hk)]
theorem qqW{p:Nat->Bool}{n u:Nat}(hu:u<n):List.take u (bC p n)++ [AV.bool true]++List.drop (u+1) (bC p n)=bC (λk=>p k||decide (k=u)) n:=by
 refine List.ext_getElem? λk=> ?_
 by_cases hk:k<n
 ·rw[qgh hk]
  by_cases h1:k<u
  ·rw[List.append_assoc,List.getElem?_append_left (by rw[List.length_take,U7];omega),List.getElem?_take_of_lt h1,qgh hk,dqf om,Bool.or_false]
  ·by_cases h2:k=u
   ·subst h2;rw[List.append_assoc,List.getElem?_append_right (by rw[List.length_take,U7];omega),List.length_take,U7,show k-min k n=0 by omega,dqt rfl,Bool.or_true];rfl
   ·rw[List.getElem?_append_right (by rw[lap,List.length_take,U7];simp only[lco,lnl];omega),lap,List.length_take,U7,List.getElem?_drop];simp only[lco,lnl];rw[show u+1+(k-(min u n+(0+1)))=k by omega,qgh hk,dqf h2,Bool.or_false]
 ·rw[List.getElem?_eq_none (by simp only[lap,List.length_take,List.length_drop,U7,lco,lnl];omega),List.getElem?_eq_none (by rw[U7];omega)]
theorem qr2(n:Nat):zk [AV.bool false] n=bC (λ_=>false) n:=by
 induction n with
 |zero=>rfl
 |succ n ih=>
  have e:bC (λ_=>false) (n+1)=AV.bool false::bC (λ_=>false) n:=by
   unfold bC;rw[List.range_succ_eq_map,List.map_cons,List.map_map];rfl
  rw[e,<-ih];rfl
theorem qD4(a b:List Int)(h:wh)(h1:a.length<=1000000000)(h2:b.length<=1000000000):ACalls Tryz.prog 99 [qv a,qv b] h (.bool (decide (a=b))) h:=by
 obtain⟨R,hR⟩:=wg (decide (a=b))
 have he:R=decide (a.length=b.length∧ ∀i,i<a.length->a.getD i 0=b.getD i 0):=by rw[hR];exact decide_eq_decide.2 (jT (0:Int))
 rw[<-hR]
 by_cases g:a.length=b.length
 case neg=>
  have k1:((a.length:Int)=b.length)=False:=wm;rw[dqf (λhc=>g hc.1)]at he;rw[he];refine acO qyU ?_;simp (disch:=omega) only[qBL,qv,k1,go_sem]
  repeat' first|exact wc|fail
 have k1:((a.length:Int)=b.length)=True:=wl;refine acO qyU ?_;simp (disch:=omega) only[qBL,qv,k1,go_sem];refine qn (T:=λi:Nat=>qO 26 [(0,qv a),(1,qv b),(5,.int .i64 i)]) (H:=λ_=>h) (inv:=λi=>i<=a.length∧ ∀j,j<i->a.getD j 0=b.getD j 0) (m:=λi=>a.length-i) 0 ⟨nzl _,λj hj=>absurd hj (nnz j)⟩ (Wk.temps ?_) ?_
 ·(simp only[qv,go_sem,qf,qc,qa,qe];try exact we)
 rintro i ⟨i1,i2⟩ K hK
 by_cases hi:i<a.length
 ·have k2:((i:Int)<a.length)=True:=wl;have k3:((i:Int)<b.length)=True:=wl;have k0:(0<=(i:Int))=True:=wl;have hno: ¬a.getD i 0=b.getD i 0->R=false:=λhx=>by rw[he];exact dqf λhc=>hx (hc.2 i hi)
  obtain⟨x,hx⟩:=wg (a.getD i 0)
  obtain⟨y,hy⟩:=wg (b.getD i 0)
  have ex:=hx.symm;have ey:=hy.symm;rw[ex,ey]at hno
  by_cases g2:x=y
  ·have q:(x=y)=True:=eqt g2;simp (disch:=omega) only[qv,k0,k2,k3,ex,ey,q,go_sem]
   repeat' first|with_reducible apply aiA|exact clz|fail
   refine hK _ _ (i+1) ⟨hi,λj hj=> ?_⟩ om (Wk.temps ?_)
   ·by_cases e:j=i
    ·subst e;rw[ex,ey];exact g2
    ·exact i2 j om
   ·(simp only[qv,go_sem,qf,qc,qa,qe];try exact we)
  ·have q:(x=y)=False:=eqf g2;rw[hno g2];simp (disch:=omega) only[qv,k0,k2,k3,ex,ey,q,go_sem]
   repeat' first|exact wc|with_reducible apply aiA|exact clz|fail
 ·have k2:((i:Int)<a.length)=False:=wm;rw[he,dqt ⟨g,λj hj=>i2 j om⟩];simp (disch:=omega) only[qv,k2,go_sem]
  repeat' first|exact wc|fail
theorem qFl(a b:List Rd)(h:wh)(za:qiQ a)(zb:qiQ b):ACalls Tryz.prog 229 [ji a,ji b] h (.bool (decide (a=b))) h:=by
 have ha:=za.n;have hb:=zb.n;obtain⟨R,hR⟩:=wg (decide (a=b))
 have he:R=decide (a.length=b.length∧ ∀i,i<a.length->a.getD i default=b.getD i default):=by rw[hR];exact decide_eq_decide.2 (jT (default:Rd))
 rw[<-hR]
 by_cases g:a.length=b.length
 case neg=>
  have k1:((a.length:Int)=b.length)=False:=wm;rw[dqf (λhc=>g hc.1)]at he;rw[he];refine acO qrf ?_;simp (disch:=omega) only[qsg,ji,k1,go_sem]
  repeat' first|exact wc|fail
 have k1:((a.length:Int)=b.length)=True:=wl;refine acO qrf ?_;simp (disch:=omega) only[qsg,ji,k1,go_sem];refine qn (T:=λi:Nat=>qO 43 [(0,ji a),(1,ji b),(5,.int .i64 i)]) (H:=λ_=>h) (inv:=λi=>i<=a.length∧ ∀j,j<i->a.getD j default=b.getD j default) (m:=λi=>a.length-i) 0 ⟨nzl _,λj hj=>absurd hj (nnz j)⟩ (Wk.temps ?_) ?_
 ·(simp only[ji,go_sem,qf,qc,qa,qe];try exact we)
 rintro i ⟨i1,i2⟩ K hK
 by_cases hi:i<a.length
 ·have k2:((i:Int)<a.length)=True:=wl;have k3:((i:Int)<b.length)=True:=wl;have k0:(0<=(i:Int))=True:=wl;have c1:=λh=>qD5 (a.getD i default).words (b.getD i default).words h (za.wd i) (zb.wd i)
  have c2:=λh=>qD4 (a.getD i default).src (b.getD i default).src h (za.sr i) (zb.sr i)
  have hno: ¬a.getD i default=b.getD i default->R=false:=λhx=>by rw[he];exact dqf λhc=>hx (hc.2 i hi)
  obtain⟨x,hx⟩:=wg (a.getD i default)
  obtain⟨y,hy⟩:=wg (b.getD i default)
  have ex:=hx.symm;have ey:=hy.symm;rw[ex,ey]at hno;simp only[ex,ey]at c1 c2
  by_cases g2:x.words=y.words
  case neg=>
   rw[dqf g2]at c1;rw[hno (λe=>g2 (qpK.1 e).1)];simp (disch:=omega) only[ji,rdC,k0,k2,k3,ex,ey,go_sem]
   repeat' first|(refine qj ( .bool false) ?_;simp (disch:=omega) only[go_sem])|(refine cA (c1 _) flk ?_;simp (disch:=omega) only[k0,k2,k3,ex,ey,go_sem])|exact wc|fail
  rw[dqt g2]at c1
  by_cases g3:x.src=y.src
  ·rw[dqt g3]at c2;simp (disch:=omega) only[ji,rdC,k0,k2,k3,ex,ey,go_sem]
   repeat' first|((first|refine cA (c1 _) ?_ ?_|refine cG (λe=>c2 _) ?_ ?_);exact flk;simp (disch:=omega) only[k0,k2,k3,ex,ey,go_sem])|with_reducible apply aiA|exact clz|fail
   refine hK _ _ (i+1) ⟨hi,λj hj=> ?_⟩ om (Wk.temps ?_)
   ·by_cases e:j=i
    ·subst e;rw[ex,ey];exact qpK.2 ⟨g2,g3⟩
    ·exact i2 j om
   ·(simp only[ji,go_sem,qf,qc,qa,qe];try exact we)
  ·rw[dqf g3]at c2;rw[hno (λe=>g3 (qpK.1 e).2)];simp (disch:=omega) only[ji,rdC,k0,k2,k3,ex,ey,go_sem]
   repeat' first|((first|refine cA (c1 _) ?_ ?_|refine cG (λe=>c2 _) ?_ ?_);exact flk;simp (disch:=omega) only[k0,k2,k3,ex,ey,go_sem])|exact wc|with_reducible apply aiA|exact clz|fail
 ·have k2:((i:Int)<a.length)=False:=wm;rw[he,dqt ⟨g,λj hj=>i2 j om⟩];simp (disch:=omega) only[ji,k2,go_sem]
  repeat' first|exact wc|fail
theorem qEx(x:Co)(k:Nat)(h:wh)(ho:CoOk x)(hk:k<x.col.length):ACalls Tryz.prog 231 [.agg (coC x),qv (x.col.getD k [])] h (.bool (cmB x k)) h:=by
 have hsg:=ho.sg;have hcl:=ho.cl k hk;have htn:=ho.tn;obtain⟨R,hR⟩:=wg (cmB x k)
 rw[<-hR];unfold cmB at hR;have hce:=ho.ce k hk;have hct: ∀s,clT x k s=if (x.col.getD k []).getD s 0<0 then none else some ((x.tok.getD s []).getD ((x.col.getD k []).getD s 0).toNat default).text:=λ_=>rfl
 obtain⟨c,hc⟩:=wg (x.col.getD k [])
 rw[<-hc]at hcl hce ⊢;simp only[<-hc]at hct;refine acO qxZ ?_;simp (disch:=omega) only[qwb,coC,qv,go_sem];refine qn (T:=λi:Nat=>qO 42 [(1,qv c),(2,.op h.length 1 0),(5,.int .i64 i)]) (H:=λ_=>h++ [.mem 1 26 (coC x)])
  (inv:=λi=>i<=c.length∧ ∀j,j<i->(decide (clT x k j=none)|| !decide (clT x k j=clT x k 0))=false) (m:=λi=>c.length-i) 0 ⟨nzl _,λj hj=>absurd hj (nnz j)⟩ (Wk.temps ?_) ?_
 ·(simp only[qv,go_sem,qf,qc,qa,qe];try exact we)
 rintro i ⟨i1,i2⟩ K hK
 by_cases hi:i<c.length
 ·have k1:((i:Int)<c.length)=True:=wl;have k0:(0<=(i:Int))=True:=wl;have k2:((0:Int)<c.length)=True:=wl;have k3:((i:Int)<x.tok.length)=True:=wl;have k4:((0:Int)<x.tok.length)=True:=wl;have hno:(decide (clT x k i=none)|| !decide (clT x k i=clT x k 0))=true->R=false:=λhx=>by rw[hR,qK.2 ⟨i,om,hx⟩];rfl
  have hS:(decide (clT x k i=none)|| !decide (clT x k i=clT x k 0))=false-> ∀j,j<i+1->(decide (clT x k j=none)|| !decide (clT x k j=clT x k 0))=false:=λhx j hj=>by
   by_cases e:j=i
   ·subst e;exact hx
   ·exact i2 j om
  have h0:c.getD i 0<0∨(0<=c.getD 0 0):=by
   by_cases e:i=0
   ·subst e;omega
   ·have:=i2 0 om
    have h1:=hct 0
    by_cases g:c.getD 0 0<0
    ·rw[ipo g]at h1;rw[h1]at this;simp at this
    ·exact .inr om
  have e1:=hce i om;have e2:=hce 0 om;have t1:=hct i;have t2:=hct 0;obtain⟨t,ht⟩:=wg (c.getD i 0)
  obtain⟨t0,ht0⟩:=wg (c.getD 0 0)
  have et:=ht.symm;have et0:=ht0.symm;rw[et]at h0 e1 t1;rw[et0]at h0 e2 t2;obtain⟨l,hl⟩:=wg (x.tok.getD i [])
  obtain⟨l0,hl0⟩:=wg (x.tok.getD 0 [])
  have el:=hl.symm;have el0:=hl0.symm;rw[el]at e1 t1;rw[el0]at e2 t2
  by_cases g:t<0
  ·have q1:(t<0)=True:=eqt g;rw[ipo g]at t1;rw[hno (by rw[t1];rfl)];simp (disch:=omega) only[coC,qv,k0,k1,et,q1,go_sem]
   repeat' first|exact wa|with_reducible apply aiA|exact clz|fail
  have q1:(t<0)=False:=eqf g;rw[ine g]at t1;have g0: ¬t0<0:=by omega
  rw[ine g0]at t2;have q2:(0<=t)=True:=wl;have q3:(0<=t0)=True:=wl;have q4:(t<l.length)=True:=eqt (by rcases e1 with e|e;omega;omega);have q5:(t0<l0.length)=True:=eqt (by rcases e2 with e|e;omega;omega);obtain⟨a,ha⟩:=wg (l.getD t.toNat default)
  obtain⟨a0,ha0⟩:=wg (l0.getD t0.toNat default)
  have ea:=ha.symm;have ea0:=ha0.symm;rw[ea]at t1;rw[ea0]at t2;rw[t1,t2]at hno;have z0:Int.toNat 0=0:=rfl
  by_cases g2:a.text=a0.text
  ·have q6:(a.text=a0.text)=True:=eqt g2;simp (disch:=omega) only[coC,qv,qm,zJ,tkC,k0,k1,k2,k3,k4,et,et0,el,el0,ea,ea0,q1,q2,q3,q4,q5,q6,z0,go_sem]
   repeat' first|with_reducible apply aiA|exact clz|fail
   refine hK _ _ (i+1) ⟨hi,hS (by rw[t1,t2,g2];simp)⟩ om (Wk.temps ?_)
   (simp only[qv,go_sem,qf,qc,qa,qe];try exact we)
  ·have q6:(a.text=a0.text)=False:=eqf g2;rw[hno (by simp[g2])];simp (disch:=omega) only[coC,qv,qm,zJ,tkC,k0,k1,k2,k3,k4,et,et0,el,el0,ea,ea0,q1,q2,q3,q4,q5,q6,z0,go_sem]
   repeat' first|exact wa|with_reducible apply aiA|exact clz|fail
 ·have k1:((i:Int)<c.length)=False:=wm;have hV:R=true:=by rw[hR,qq.2 λj hj=>i2 j om];rfl
  rw[hV];simp (disch:=omega) only[coC,qv,k1,go_sem]
  repeat' first|exact wa|fail
theorem qE6(x:Co)(f t s:Nat)(h:wh)(ho:CoOk x)(ht:t<=x.col.length)(hs:s<x.sig.length)(hn:x.col.length<=1000000000):ACalls Tryz.prog 294 [.agg (coC x),.int .i64 (f:Int),.int .i64 (t:Int),.int .i64 (s:Int)] h (strs (rdG x s f (t-f))) h:=by
 have htn:=ho.tn;refine acO qym ?_;simp (disch:=omega) only[qwx,coC,go_sem];have eM:zk [AV.str []] 0=jl (rdG x s f 0):=rfl;rw[eM];refine qn (T:=λi:Nat×Nat×AObj=>qO 42 [(2,.int .i64 (t:Int)),(3,.int .i64 (s:Int)),(4,.op h.length 1 0),(9,.osl (h.length+2) i.2.1 1 0 (rdG x s f i.1).length),(10,.int .i64 ((f+i.1:Nat):Int))])
  (H:=λi=>h++ [.mem 1 26 (coC x),.emp 1,.mem i.2.1 9 (jl (rdG x s f i.1)),i.2.2,.emp 0])
  (inv:=λi=>i.1<=t-f∧qy [i.2.2] 0=true) (m:=λi=>t-f-i.1) (0,1,.emp 0) ⟨nzl _,rfl⟩ (Wk.temps ?_) ?_
 ·(simp only[rdG,lnl,Nat.add_zero,go_sem,qf,qc,qa,qe];try exact we)
 rintro⟨d,v,O⟩ ⟨i1,i2⟩ K hK;simp only at i1 i2 hK;have i2': ∀m,qy (O::m) 0=true:=λ_=>i2
 have hln:=qai x s f d;have hst:rdG x s f (d+1)=rdG x s f d++(clT x (f+d) s).toList:=rfl;obtain⟨L,hL⟩:=wg (rdG x s f d)
 rw[<-hL]at hln hst;have eL:=hL.symm;have eC:=jh L
 by_cases hi:f+d<t
 ·have k1:(((f+d:Nat):Int)<t)=True:=wl;have k2:(((f+d:Nat):Int)<x.col.length)=True:=wl;have k0:(0<=((f+d:Nat):Int))=True:=wl;have k3:((s:Int)<x.tok.length)=True:=wl;have k4:(0<=(s:Int))=True:=wl;have hct:clT x (f+d) s=if (x.col.getD (f+d) []).getD s 0<0 then none else some ((x.tok.getD s []).getD ((x.col.getD (f+d) []).getD s 0).toNat default).text:=rfl
  have hce:=ho.ce (f+d) om s hs;have hcl:=ho.cl (f+d) om;obtain⟨c,hc⟩:=wg (x.col.getD (f+d) [])
  have ec:=hc.symm;rw[ec]at hct hce hcl;have k5:((s:Int)<c.length)=True:=wl;obtain⟨q,hq⟩:=wg (c.getD s 0)
  have eq:=hq.symm;rw[eq]at hct hce;obtain⟨l,hl⟩:=wg (x.tok.getD s [])
  have el:=hl.symm;rw[el]at hct hce;have eTk:List.take L.length (jl L)=jl L:=ltl om
  by_cases g:q<0
  ·have q1:(q<0)=True:=eqt g;have q1':(0<=q)=False:=wm;rw[ipo g]at hct;have hst:rdG x s f (d+1)=L:=by rw[hst,hct];simp
   simp (disch:=omega) only[coC,qu,qv,k0,k1,k2,k4,k5,i2',eL,ec,eq,q1',go_sem]
   repeat' first|with_reducible apply aiA|exact clz|fail
   refine hK _ _ (d+1,v,O) ⟨om,i2⟩ (by simp only;omega) ?_;simp only[hst];refine Wk.temps ?_
   (simp only[go_sem,qf,qc,qa,qe];try exact we)
  ·have q1:(q<0)=False:=eqf g;have q1':(0<=q)=True:=wl;have q2:(q<l.length)=True:=eqt (by rcases hce with e|e;omega;omega);rw[ine g]at hct;obtain⟨w,hw⟩:=wg (l.getD q.toNat default)
   have ew:=hw.symm;rw[ew]at hct;have hst:rdG x s f (d+1)=L++ [w.text]:=by rw[hst,hct];rfl
   simp (disch:=omega) only[coC,qu,qv,qm,zJ,tkC,k0,k1,k2,k3,k4,k5,i2',eL,ec,eq,el,ew,q1',q2,Nat.mul_one,eC,eTk,go_sem]
   repeat' first|with_reducible apply aiA|exact clz|fail
   have eA:jl L++ [AV.str w.text]=jl (rdG x s f (d+1)):=by rw[hst,qg2];rfl
   have eD:(AV.str w.text::List.drop 1 (zk [AV.str []] 1))= [AV.str w.text]:=rfl
   try rw[eA]
   try rw[eD]
   refine hK _ _ (d+1,v+1,.mem (qo (some O)+1) 9 [.str w.text]) ⟨om,rfl⟩ (by simp only;omega) ?_;simp only[hst,lap,lco,lnl];refine Wk.temps ?_
   (simp only[go_sem,qf,qc,qa,qe];try exact we)
 ·have k1:(((f+d:Nat):Int)<t)=False:=wm;obtain rfl:d=t-f:=by omega
  rw[eL];simp (disch:=omega) only[k1,go_sem]
  repeat' first|(apply qb;exact rvk;simp only[go_sem])
  rw[ipo (by rw[jh];exact nlr _)];exact qbW _ (λ_=>rfl) rfl
theorem qCJ{h M:wh}{a0 a1 a2 a3 a4 a5 a6 a7:AObj}:(h++a0::a1::a2::a3::a4::a5::a6::a7::M).length=h.length+8+M.length:=by
 simp only[lap,lco];omega
theorem qgz{h M:wh}{a0 a1 a2 a3 a4 a5 a6 a7:AObj}{j:Nat}:qt (h.length+8+j) (h++a0::a1::a2::a3::a4::a5::a6::a7::M)=M[j]? :=by
 unfold qt;rw[List.getElem?_append_right om,show h.length+8+j-h.length=j+8 by omega];rfl
theorem qz4{h M:wh}{a0 a1 a2 a3 a4 a5 a6 a7 o:AObj}{j:Nat}:qr (h.length+8+j) (h++a0::a1::a2::a3::a4::a5::a6::a7::M) o=h++a0::a1::a2::a3::a4::a5::a6::a7::M.set j o:=by
 unfold qr;rw[List.set_append_right _ _ om,show h.length+8+j-h.length=j+8 by omega];rfl
theorem qpM{base:Nat}{L:List Rd}{fz:Nat->Bool}{H:wh}{d:Nat}(hf: ∀j,j<L.length->fz (base+j)=true)(hj: ∀j,j<L.length->qt (base+j) H=some (.mem (L.getD j default).src.length 3 (qS (L.getD j default).src))):
  VLe (.sl L.length λi=>List.map (rei fz H (d+2)) (List.take 2 (List.drop (i*2) (jY base L)))) (ji L):=by
 refine VLe.sl (λi hi=> ?_);rw[qgO hi];refine⟨ILe.refl _,?_,trivial⟩;show ILe (rei fz H (d+1+1) (.osl (base+i) _ 1 0 _)) _;rw[rei_osl,ipo (hf i hi),hj i hi];exact qgC (λ_=>rfl) rfl
theorem qE9(x:Co)(f t:Nat)(h:wh)(ho:CoOk x)(ht:t<=x.col.length)(hn:x.col.length<=1000000000):ACalls Tryz.prog 230 [.agg (coC x),.int .i64 (f:Int),.int .i64 (t:Int)] h (ji (qbE x f t)) h:=by
 have zl: ∀g,valL g .len [strs x.sig]= .int .i64 x.sig.length:=λ_=>rfl
 have zo: ∀g,okL g .len [strs x.sig]=True:=λ_=>eqt trivial
 refine acO qxY ?_;simp (disch:=omega) only[qwa,coC,go_sem];have eM:zk [AV.nl,AV.nl] 0=jY (h.length+8) (kG x f (t-f) 0):=rfl
 try rw[eM]
 have eO: ∀l:wh,l=l++qcZ (kG x f (t-f) 0):=λl=>by simp[kG,qcZ]
 refine qn (T:=λi:Nat×Nat×AObj×AObj×AObj=>qO 64 [(1,.int .i64 (f:Int)),(2,.int .i64 (t:Int)),(3,.op h.length 1 0),(7,.osl (h.length+2) i.2.1 2 0 (kG x f (t-f) i.1).length),(8,.int .i64 i.1)])
  (H:=λi=>h++ .mem 1 26 (coC x):: .emp 1:: .mem i.2.1 152 (jY (h.length+8) (kG x f (t-f) i.1))::i.2.2.1:: .emp 0::i.2.2.2.1::i.2.2.2.2:: .emp 0::qcZ (kG x f (t-f) i.1))
  (inv:=λi=>i.1<=x.sig.length∧qy [i.2.2.1] 0=true∧qy [i.2.2.2.1] 0=true∧qy [i.2.2.2.2] 0=true) (m:=λi=>x.sig.length-i.1) (0,1,.emp 0,.emp 0,.emp 0) ⟨nzl _,rfl,rfl,rfl⟩ (Wk.temps ?_) ?_
 ·(simp only[kG,lnl,go_sem,qf,qc,qa,qe];try exact we)
 rintro⟨s,v,O3,O5,O6⟩ ⟨i1,j3,j5,j6⟩ K hK;simp only at i1 j3 j5 j6 hK;have j5': ∀m,qy (O5::m) 0=true:=λ_=>j5
 have j6': ∀m,qy (O6::m) 0=true:=λ_=>j6
 have hst:kG x f (t-f) (s+1)=qdd (kG x f (t-f) s) (rdG x s f (t-f)) s:=rfl;have hln:=qdG x f (t-f) s;have hsg:=ho.sg;obtain⟨L,hL⟩:=wg (kG x f (t-f) s)
 rw[<-hL]at hst hln;have eL:=hL.symm
 by_cases hs:s<x.sig.length
 case neg=>
  have k1:((s:Int)<x.sig.length)=False:=wm;obtain rfl:s=x.sig.length:=by omega
  have hF:qbE x f t=L:=by rw[hL];rfl
  rw[hF];simp (disch:=omega) only[k1,eL,coC,zl,zo,go_sem]
  repeat' first|(apply qb;exact rvk;simp only[go_sem])
  rw[ipo (by rw[UX];omega)];exact qpM (d:=5) (λj _=>dqt om) (λj hj=>by rw[qgz];exact qdD hj)
 have k1:((s:Int)<x.sig.length)=True:=wl;have c21:=λh=>qE6 x f t s h ho ht hs hn
 have hRd:=qdE x f (t-f) s;obtain⟨w,hw⟩:=wg (rdG x s f (t-f))
 have hwl:w.length<=1000000000:=by have:=qai x s f (t-f);rw[<-hw]at this;omega
 rw[<-hw]at hst;simp only[<-hw]at c21;unfold coC at c21;rw[eL]at hRd;have hwL: ∀j,(L.getD j default).words.length<=1000000000:=jA L (λr=>r.words.length<=1000000000) (by decide) λj hj=>by
  have h1:=hRd.nn j hj;obtain⟨y,ys,e⟩:=List.exists_cons_of_ne_nil h1;have h2:=hRd.wd j hj y (by rw[e];exact List.mem_cons_self);rw[h2]
  have:=qai x y.toNat f (t-f)
  omega
 have hob:= @qdD L;have eKl:=UX (h.length+8) L;simp (disch:=omega) only[coC,k1,eL,zl,zo,go_sem]
 repeat' first|(refine cA (c21 _) flk ?_;simp (disch:=omega) only[go_sem])
 --the search
 refine qn (T:=λi:Nat×Bool×AObj=>qO 64 [(1,.int .i64 (f:Int)),(2,.int .i64 (t:Int)),(3,.op h.length 1 0),(7,.osl (h.length+2) v 2 0 L.length),(8,.int .i64 s),(9,strs w),(10,.bool i.2.1),(11,.int .i64 i.1)])
  (H:=λi=>h++ .mem 1 26 (coC x):: .emp 1:: .mem v 152 (jY (h.length+8) (if i.2.1=true then kG x f (t-f) (s+1) else L))::i.2.2:: .emp 0::O5::O6:: .emp 0::qcZ (if i.2.1=true then kG x f (t-f) (s+1) else L))
  (inv:=λi=>i.1<=L.length∧qy [i.2.2] 0=true∧(i.2.1=false-> ∀j,j<i.1->(L.getD j default).words≠w)∧(i.2.1=true->(kG x f (t-f) (s+1)).length=L.length)) (m:=λi=>L.length-i.1) (0,false,O3) ⟨nzl _,j3,λ_ j hj=>absurd hj (nnz j),λe=>(by cases e)⟩ (Wk.temps ?_) ?_
 ·(simp only[go_sem,qf,qc,qa,qe];try exact we)
 rintro⟨k,fd,O4⟩ ⟨m1,m2,m3,m4⟩ K2 hK2;simp only at m1 m2 m3 m4 hK2;have m2': ∀m,qy (O4::m) 0=true:=λ_=>m2
 cases fd with
 |true=>
  have m4:=m4 rfl;have hS:L.length=(kG x f (t-f) (s+1)).length:=m4.symm;simp only[if_true]at hK2 ⊢
  by_cases hk:k<L.length
  ·have t1:((k:Int)<L.length)=True:=wl;simp (disch:=omega) only[t1,go_sem];refine hK _ _ (s+1,v,O4,O5,O6) ⟨hs,m2,j5,j6⟩ (by simp only;omega) ?_;simp only[<-hS];refine Wk.temps ?_
   (simp only[go_sem,qf,qc,qa,qe];try exact we)
  ·have t1:((k:Int)<L.length)=False:=wm;simp (disch:=omega) only[t1,go_sem];refine hK _ _ (s+1,v,O4,O5,O6) ⟨hs,m2,j5,j6⟩ (by simp only;omega) ?_;simp only[<-hS];refine Wk.temps ?_
   (simp only[go_sem,qf,qc,qa,qe];try exact we)
 |false=>
 have m3:=m3 rfl;simp only[Bool.false_eq_true,if_false]at hK2 ⊢
 by_cases hk:k<L.length
 ·have t1:((k:Int)<L.length)=True:=wl;have t0:(0<=(k:Int))=True:=wl;have c86:=λh=>qD5 (L.getD k default).words w h (hwL k) hwl
  obtain⟨A,B,a1,a2,a3⟩:=qa8 (h.length+8) L hk;have a3:=a3 ((L.getD k default).src++ [(s:Int)]);have hob:=hob hk;have gw:(jY (h.length+8) L)[k*2]? =some (strs (L.getD k default).words):=by
   rw[a2,List.append_assoc,List.getElem?_append_right om,show k*2-A.length=0 by omega];rfl
  have gg:(jY (h.length+8) L)[k*2+1]? =some (.osl (h.length+8+k) (L.getD k default).src.length 1 0 (L.getD k default).src.length):=by
   rw[a2,List.append_assoc,List.getElem?_append_right om,show k*2+1-A.length=1 by omega];rfl
  have hSl:(L.getD k default).src.length<=1000:=by
   have:=(qdF x f (t-f) s).src (L.getD k default) (by rw[eL,gdqA,zz hk];exact List.getElem_mem hk)
   have:=qfd (hi:=(s:Int)) (lo:=0) this.1 this.2
   omega
  have hrd:qe8 L w=k->kG x f (t-f) (s+1)=L.set k ⟨w,(L.getD k default).src++ [(s:Int)]⟩:=λe=>by
   rw[hst];unfold qdd;rw[e,ine om,itn]
  obtain⟨r,hr⟩:=wg (L.getD k default)
  have er:=hr.symm;rw[er]at a2 a3 hob gw gg hSl hrd;simp only[er]at c86;have k22:(k*2+2<=(jY (h.length+8) L).length)=True:=wl;have k21:(k*2+1<=(jY (h.length+8) L).length)=True:=wl
  by_cases g:r.words=w
  case neg=>
   rw[dqf g]at c86;simp (disch:=omega) only[t0,t1,gw,eKl,Option.getD_some,Option.isSome_some,Nat.mul_one,go_sem]
   repeat' first|(refine cA (c86 _) flk ?_;simp (disch:=omega) only[t0,t1,eKl,Option.getD_some,Option.isSome_some,Nat.mul_one,go_sem])|with_reducible apply aiA|exact clz|fail
   refine hK2 _ _ (k+1,false,O4) ⟨hk,m2,λ_ j hj=> ?_,λe=>(by cases e)⟩ (by simp only;omega) ?_
   ·by_cases e:j=k
    ·subst e;rw[er];exact g
    ·exact m3 j (by simp only at hj;omega)
   simp only[Bool.false_eq_true,if_false];refine Wk.temps ?_
   (simp only[go_sem,qf,qc,qa,qe];try exact we)
  rw[dqt g]at c86;have hix:qe8 L w=k:=by
   unfold qe8;refine kS hk (λj hj=>dqf λe=>m3 j hj e.symm) (dqt ?_);rw[er,g]
  have hst2:=hrd hix;have hos:= @qgR L k ⟨w,r.src++ [(s:Int)]⟩;rw[<-hst2]at hos;rw[g,<-hst2]at a3;rw[g]at a2;dsimp only at hos;obtain⟨S,hS⟩:=wg r.src
  rw[<-hS]at a2 a3 hob hos gg hSl;rw[lap,List.length_singleton]at a3 hos;rw[qex,show qS [(s:Int)]= [AV.int .i64 (s:Int)]from rfl]at hos;have gs:List.take (k*2+1) (jY (h.length+8) L)++ [.osl (h.length+8+k) (S.length+1) 1 0 (S.length+1)]++List.drop (k*2+1+1) (jY (h.length+8) L)=jY (h.length+8) (kG x f (t-f) (s+1)):=by
   rw[a2,a3];exact qkm om
  have eI:=jK S;have el2:(kG x f (t-f) (s+1)).length=L.length:=by rw[hst2,List.length_set]
  have eTi:List.take S.length (qS S)=qS S:=ltl om;simp (disch:=omega) only[t0,t1,gw,eKl,Option.getD_some,Option.isSome_some,Nat.mul_one,itn,go_sem]
  repeat' first|(refine cA (c86 _) flk ?_;simp (disch:=omega) only[t0,t1,gg,m2',eKl,Option.getD_some,Option.isSome_some,qgz,qz4,hob,eTi,Nat.mul_one,itn,go_sem])|with_reducible apply aiA|exact clz|fail
  all_goals try (simp only[jk,zC,qgz,hob,c8,ql,if_true,Option.getD_some,eI,beq_self_eq_true];done)
  all_goals try (simp only[bne_iff_ne];omega)
  all_goals try (simp only[zC,qgz,hob,ql,if_true,Option.getD_some,eI];exact nlr _)
  rw[gs];have eD:(AV.int .i64 (s:Int)::List.drop 1 (zk [i6 0] 1))= [AV.int .i64 (s:Int)]:=rfl;simp only[eD];rw[hos];refine hK2 _ _ (k+1,true,.mem (qo (some O4)+1) 3 [.int .i64 (s:Int)]) ⟨hk,rfl,λe=>(by cases e),λ_=>el2⟩ (by simp only;omega) ?_;simp only[if_true,coC];refine Wk.temps ?_
  (simp only[go_sem,qf,qc,qa,qe];try exact we)
 --not there
 obtain rfl:k=L.length:=by omega
 have t1:((L.length:Int)<L.length)=False:=wm;have hix:qe8 L w<0:=by
  rcases UW L w with⟨i,h1,h2,_⟩|⟨_,h2⟩
  ·exact absurd h2 (m3 i h1)
  ·exact h2
 have hst2:kG x f (t-f) (s+1)=L++ [⟨w,[(s:Int)]⟩]:=by
  rw[hst];unfold qdd;rw[ipo hix]
 have eTk:List.take (L.length*2) (jY (h.length+8) L)=jY (h.length+8) L:=ltl om;clear hK2;simp (disch:=omega) only[t1,j5',j6',eTk,eKl,Nat.mul_one,go_sem]
 repeat' first|with_reducible apply aiA|exact clz|fail
 have el2:(kG x f (t-f) (s+1)).length=L.length+1:=by rw[hst2,lap];rfl
 have eo:qcZ (kG x f (t-f) (s+1))=qcZ L++ [.mem 1 3 [.int .i64 (s:Int)]]:=by rw[hst2,qgP];rfl
 have ek:jY (h.length+8) (kG x f (t-f) (s+1))=jY (h.length+8) L++ [strs w,.osl (h.length+8+L.length) 1 1 0 1]:=by rw[hst2,qeI];rfl
 have eset:(jY (h.length+8) L++ [strs w,AV.osl (h.length+5) (qo (some O5)+1) 1 0 1]).set (L.length*2+1) (.osl (h.length+8+L.length) 1 1 0 1)=jY (h.length+8) L++ [strs w,.osl (h.length+8+L.length) 1 1 0 1]:=by
  rw[List.set_append_right _ _ om,eKl,show L.length*2+1-2*L.length=1 by omega];rfl
 refine hK _ _ (s+1,v+1,O4,.emp (qo (some O5)+1+1),.mem (qo (some O6)+1) 152 [strs w,.osl (h.length+5) (qo (some O5)+1) 1 0 1]) ⟨hs,m2,rfl,rfl⟩ (by simp only;omega)
  (Wk.trans (Wk.moveCell (i:=h.length+2) (j:=h.length+5) (a:=L.length*2+1) (w:=v+1) (v:=qo (some O5)+1) (ty:=3) (ty':=152) (ds:=jY (h.length+8) L++ [strs w,.osl (h.length+5) (qo (some O5)+1) 1 0 1]) (cs:= [.int .i64 (s:Int)]) (sz:=1) (off:=0) (len:=1) ?m1 ?m2 ?m3 om) ?m4)
 case m1=>simp only[go_sem]
 case m2=>
  rw[List.getElem?_append_right om,show L.length*2+1-(jY (h.length+8) L).length=1 by omega];rfl
 case m3=>simp only[go_sem];rfl
 case m4=>
  have eD:(AV.int .i64 (s:Int)::List.drop 1 (zk [i6 0] 1))= [AV.int .i64 (s:Int)]:=rfl;have eD2: ∀c:AV,(strs w::c::List.drop 2 (zk [AV.nl,AV.nl] 1))= [strs w,c]:=λ_=>rfl
  simp only[eo,ek,el2,coC,eD,eD2,qCJ,qgQ,go_sem,eset,List.append_assoc,lca];refine Wk.temps ?_
  (simp only[go_sem,qf,qc,qa,qe];try exact we)
end RC
end
