import Derived.Test.YtiiegfkjmnoijaaGreatDoorK3
import Derived.Test.YtiiegfkjmnoijaaGreatDoorK5
import Derived.Test.YtiiegfkjmnoijaaGreatDoorK8
import Derived.Test.YtiiegfkjmnoijaaGreatDoorProg
import Derived.Test.YtiiegfkjmnoijaaGreatDoorK14
import Derived.Test.YtiiegfkjmnoijaaGreatDoorK13
import Derived.Test.YtiiegfkjmnoijaaGreatDoorK12
import Derived.Test.YtiiegfkjmnoijaaGreatDoorK11
import Derived.Test.YtiiegfkjmnoijaaGreatDoorK9
import Derived.Test.YtiiegfkjmnoijaaGreatDoorK10
set_option linter.all false
set_option maxHeartbeats 256000000
set_option maxRecDepth 100000
section
open Go Go.Proofs AF
def qrZ:List Nat:= [80]
def qul:C:=
 (vU [O1 4 (.box 0 120) 0] (vU [vN 9 0 4,vN 10 0 9,LD 11 10,vN 12 6 4,LD 13 12,MV 14 1,MV 15 2,vN 16 0 4,vN 17 4 16,LD 18 17,vP 19 .and 18 4,vP 20 .neq 19 0,vN 21 0 4,vN 22 5
 21,LD 23 22,⟨some 24,none,.build [.str [],i6 0,i6 0,i6 0,.bool false,.bool false,.str []] [(0,1),(1,1),(2,1),(3,1),(5,1),(6,1)],[.t 11,.t 13,.t 14,.t 15,.t 20,.t 23]⟩,⟨some
 7,none,.alloc 1 36 [.str [],i6 0,i6 0,i6 0,.bool false,.bool false,.str []],[]⟩,ST 7 7 24] (vU [LD 25 3,O1 26 .len 25,MV 8 26] (vU [vN 27 0 4,vN 28 4 27,LD 29 28,vP 30 .and 29
 16,vP 31 .neq 30 0,MV 32 31,MG 33 32 true 8,PC 34 32 true (.bin .gtr) 33 (i6 0),PF 35 32 34,MV 36 35,P1 37 36 true (.load none) 3,MG 38 36 true 8,PC 39 36 true (.bin .sub) 38
 (i6 1),P2 40 36 true (.idxA 7) 37 39,P1 41 36 true (.fldA 0) 40,P1 42 36 true (.load none) 41,P1 43 36 true (.fldA 0) 7,P1 44 36 true (.load none) 43,P2 45 36 true (.call 81
 true) 42 44,PF 46 36 45,vN 47 4 7,ST 1 47 46] (vY [LD 48 3,O1 49 (.load (some 7)) 7,⟨some 50,none,.bslc 2 7 1 36 [.str [],i6 0,i6 0,i6 0,.bool false,.bool false,.str []]
 [(0,7)],[.t 49]⟩,O2 51 (.app 3 7 36 64) 48 50,ST 1 3 51])))))
theorem qje:qM Tryz.prog 80 52 4 [] qul:=fi Tryz.f80 [4,7,50,51] qrZ []
end
section
open Go Go.Proofs AF HY LN
namespace RC
theorem qAd: ∀f:Nat,f<32->ql3 .i64 (f:Int) 4=if f.testBit 2 then 4 else 0:=by decide+kernel
theorem quB: ∀f:Nat,f<32->ql3 .i64 (f:Int) 16=if f.testBit 4 then 16 else 0:=by decide+kernel
def qsg(W:List Wd):Option Str:=if W.length=0 then none else some (W.getD (W.length-1) default).text
section
variable {h : wh} {a b c va : Nat}
def qsA(h:wh)(a b c:Nat)(va vb:Nat)(W:List Wd)(Z:AObj):wh:=tri h a b c (.mem va 29 [.osl b vb 7 0 W.length]) (qZ vb 36 (jB W)) Z
theorem qCN(t:T3 h a b c)(W:List Wd)(p:Pc)(u d:Int)(vb F:Nat)(Z:AObj)(hZ: ∀n,lowO n Z)(hF:p.t.flags=F)(hF2:F<32)(hx:p.t.text.length<=1000000000)(hW:W.length<=1000000000)(hWx: ∀w∈W,w.text.length<=1000000000):ACalls Tryz.prog 80 [.agg (pcC p),.int .i64 u,.int .i64 d,.op a va 0] (qsA h a b c va vb W Z) (.tup []) (qsA h a b c va (vb+1) (W++ [mkW (qsg W) ⟨p,u,d⟩]) Z):=by
 have ta:=t.la;have tb:=t.lb;have tc:=t.lc;have zga: ∀ {X Y Z l},qr (a) (tri h a b c X Y Z++l)=some X:=CS (t);have yga: ∀ {X Y Z},qr (a) (tri h a b c X Y Z)=some X:=λ{X Y Z}=>by have:=zga (X:=X) (Y:=Y) (Z:=Z) (l:= []);simpa only[lan] using this
 have zgb: ∀ {X Y Z l},qr (b) (tri h a b c X Y Z++l)=some Y:=Sv (t);have ygb: ∀ {X Y Z},qr (b) (tri h a b c X Y Z)=some Y:=λ{X Y Z}=>by have:=zgb (X:=X) (Y:=Y) (Z:=Z) (l:= []);simpa only[lan] using this
 have zgc: ∀ {X Y Z l},qr (c) (tri h a b c X Y Z++l)=some Z:=DV (t);have ygc: ∀ {X Y Z},qr (c) (tri h a b c X Y Z)=some Z:=λ{X Y Z}=>by have:=zgc (X:=X) (Y:=Y) (Z:=Z) (l:= []);simpa only[lan] using this
 have zsa: ∀ {X Y Z o l},qq (a) (tri h a b c X Y Z++l) o=tri h a b c o Y Z++l:=Sz (t);have ysa: ∀ {X Y Z o},qq (a) (tri h a b c X Y Z) o=tri h a b c o Y Z:=λ{X Y Z o}=>by have:=zsa (X:=X) (Y:=Y) (Z:=Z) (o:=o) (l:= []);simpa only[lan] using this
 have zsb: ∀ {X Y Z o l},qq (b) (tri h a b c X Y Z++l) o=tri h a b c X o Z++l:=S0 (t);have ysb: ∀ {X Y Z o},qq (b) (tri h a b c X Y Z) o=tri h a b c X o Z:=λ{X Y Z o}=>by have:=zsb (X:=X) (Y:=Y) (Z:=Z) (o:=o) (l:= []);simpa only[lan] using this
 have zsc: ∀ {X Y Z o l},qq (c) (tri h a b c X Y Z++l) o=tri h a b c X Y o++l:=S3 (t);have ysc: ∀ {X Y Z o},qq (c) (tri h a b c X Y Z) o=tri h a b c X Y o:=λ{X Y Z o}=>by have:=zsc (X:=X) (Y:=Y) (Z:=Z) (o:=o) (l:= []);simpa only[lan] using this
 have zca: ∀ {X Y Z v l},cellsOf (tri h a b c X Y Z++l) (a) v=qx (some X) v:=TV (t);have yca: ∀ {X Y Z v},cellsOf (tri h a b c X Y Z) (a) v=qx (some X) v:=λ{X Y Z v}=>by have:=zca (X:=X) (Y:=Y) (Z:=Z) (v:=v) (l:= []);simpa only[lan] using this
 have zcb: ∀ {X Y Z v l},cellsOf (tri h a b c X Y Z++l) (b) v=qx (some Y) v:=TW (t);have ycb: ∀ {X Y Z v},cellsOf (tri h a b c X Y Z) (b) v=qx (some Y) v:=λ{X Y Z v}=>by have:=zcb (X:=X) (Y:=Y) (Z:=Z) (v:=v) (l:= []);simpa only[lan] using this
 have zcc: ∀ {X Y Z v l},cellsOf (tri h a b c X Y Z++l) (c) v=qx (some Z) v:=TX (t);have ycc: ∀ {X Y Z v},cellsOf (tri h a b c X Y Z) (c) v=qx (some Z) v:=λ{X Y Z v}=>by have:=zcc (X:=X) (Y:=Y) (Z:=Z) (v:=v) (l:= []);simpa only[lan] using this
 have zla: ∀ {X Y Z v l},qF (tri h a b c X Y Z++l) (a) v=qI (some X) v:=TY (t);have yla: ∀ {X Y Z v},qF (tri h a b c X Y Z) (a) v=qI (some X) v:=λ{X Y Z v}=>by have:=zla (X:=X) (Y:=Y) (Z:=Z) (v:=v) (l:= []);simpa only[lan] using this
 have zlb: ∀ {X Y Z v l},qF (tri h a b c X Y Z++l) (b) v=qI (some Y) v:=TZ (t);have ylb: ∀ {X Y Z v},qF (tri h a b c X Y Z) (b) v=qI (some Y) v:=λ{X Y Z v}=>by have:=zlb (X:=X) (Y:=Y) (Z:=Z) (v:=v) (l:= []);simpa only[lan] using this
 have zlc: ∀ {X Y Z v l},qF (tri h a b c X Y Z++l) (c) v=qI (some Z) v:=T0 (t);have ylc: ∀ {X Y Z v},qF (tri h a b c X Y Z) (c) v=qI (some Z) v:=λ{X Y Z v}=>by have:=zlc (X:=X) (Y:=Y) (Z:=Z) (v:=v) (l:= []);simpa only[lan] using this
 have e4:=qAd F hF2;have e16:=quB F hF2;have hL:=qfx W;have ev:qBV p.t.flags=F.testBit 2:=by unfold qBV;rw[hF,itn]
 have ej:jnB p.t.flags=F.testBit 4:=by unfold jnB;rw[hF,itn]
 unfold mkW;simp only[ev,ej];unfold qsA;have eTk:List.take (W.length*7) (jB W)=jB W:=ltl om;have lo: ∀(n:Nat),lowO h.length (.mem va 29 [.osl b (vb+1) 7 0 n]):=λn cc hc=>by
  rw[List.mem_singleton]at hc;subst hc;simp[qS];omega
 have lq: ∀L:List Wd,lowO h.length (qZ (vb+1) 36 (jB L)):=λL=>ji (qai L _)
 have fin: ∀(w:Wd) (tt:wi) (tl:wh),fnQ [] (tri h a b c (.mem va 29 [.osl b vb 7 0 W.length]) (qZ vb 36 (jB W)) Z) (λr1 h1=>r1= .tup []∧h1=tri h a b c (.mem va 29 [.osl b (vb+1) 7 0 (W++ [w]).length]) (qZ (vb+1) 36 (jB (W++ [w]))) Z) .normal tt (tri h a b c (.mem va 29 [.osl b (vb+1) 7 0 (W.length+1)]) (qZ (vb+1) 36 (jB W++wdC w)) Z++tl):=λw tt tl=>by
  have eA:jB W++wdC w=jB (W++ [w]):=by rw[qph,qpi]
  rw[eA,show (W++ [w]).length=W.length+1 by simp];exact zI trivial (by simp only[tri_len]) (jJ t (lo _) (lq _) (hZ _)) ⟨rfl,rfl⟩ (qi)
 have k4:((4:Int)=0)=False:=eqf (by decide);have k16:((16:Int)=0)=False:=eqf (by decide);have hb1: ∀n,(b !=h.length+n)=true:=λn=>by simp;omega
 by_cases hW0:W= []
 ·have k0:((0:Int)<W.length)=False:=eqf (by rw[hW0];simp);have eG:(qx (some (qZ vb 36 (jB W))) vb).getD []=jB W:=by rw[hW0];rfl
  have el:qsg W=none:=by unfold qsg;rw[ipo (by rw[hW0];rfl)]
  rw[el];cases g2:F.testBit 2<;>cases g4:F.testBit 4<;>rw[g2]at e4<;>rw[g4]at e16<;>simp only[Bool.false_eq_true,if_false,if_true]at e4 e16
  all_goals
   refine acO qje ?_;simp (disch:=omega) only[qul,pcC,tkC,hF,e4,e16,zca,zcb,zlb,ze,ql,eG,hL,k0,k4,k16,decide_true,decide_false,Bool.not_false,Bool.not_true,Bool.and_false,go_sem]
   repeat' first|(refine qj ( .bool false) ?_;simp (disch:=omega) only[zga,zgb,zsa,zsb,zca,zcb,zlb,ze,ql,eG,eTk,hL,Bool.not_false,Bool.and_false,go_sem])|with_reducible apply aiA|exact clz|fail
  all_goals try exact hb1 _
  all_goals exact fin ⟨_,_,_,_,_,_,_⟩ _ _
 ·have hpos:0<W.length:=List.length_pos_iff.2 hW0;have k0:((0:Int)<W.length)=True:=wj;obtain⟨z,hz⟩:=wg (W.getD (W.length-1) default)
  have el:qsg W=some z.text:=by unfold qsg;rw[ine om,hz]
  rw[el];have hzx:=hWx z (by rw[hz];exact zJ om);have gI:(jB W)[(W.length-1)*7]? =some (.str z.text):=by
   have:=qfw (L:=W) (i:=W.length-1) om
   rw[<-hz]at this;have h2:(((jB W).drop ((W.length-1)*7)).take 7)[0]? =some (.str z.text):=by rw[this];rfl
   rwa [List.getElem?_take,ipo om,List.getElem?_drop,Nat.add_zero]at h2
  have eI:((W.length:Int)-1).toNat=W.length-1:=by omega
  have eO:qx (some (qZ vb 36 (jB W))) vb=some (jB W):=by
   rw[so (λe=>by rw[e]at hL;simp at hL;omega),ql,ipo rfl]
  have c1:=λh=>qDl z.text p.t.text h hzx hx
  cases g2:F.testBit 2<;>cases g4:F.testBit 4<;>rw[g2]at e4<;>rw[g4]at e16<;>simp only[Bool.false_eq_true,if_false,if_true]at e4 e16
  case false.false=>
   refine acO qje ?_;simp (disch:=omega) only[qul,pcC,tkC,hF,e4,e16,zca,zcb,zlb,ze,ql,eO,hL,k0,decide_true,Bool.not_false,Bool.not_true,Bool.and_true,Bool.false_and,Bool.true_and,eI,gI,go_sem]
   repeat' first|(refine qj ( .bool false) ?_;simp (disch:=omega) only[zga,zgb,zsa,zsb,zca,zcb,zlb,ze,ql,eO,eTk,hL,Bool.not_false,Bool.false_and,Bool.true_and,go_sem])|with_reducible apply aiA|exact clz|fail
   all_goals try exact hb1 _
   exact fin ⟨_,_,_,_,_,_,_⟩ _ _
  case false.true=>
   refine acO qje ?_;simp (disch:=omega) only[qul,pcC,tkC,hF,e4,e16,zca,zcb,zlb,ze,ql,eO,hL,k0,k16,decide_true,decide_false,Bool.not_false,Bool.not_true,Bool.and_true,Bool.false_and,Bool.true_and,eI,gI,go_sem]
   repeat' first|(refine cG (λe=>c1 _) flk ?_;simp (disch:=omega) only[zga,zgb,zsa,zsb,zca,zcb,zlb,ze,ql,eO,eTk,hL,Bool.not_true,Bool.false_and,Bool.true_and,go_sem])|with_reducible apply aiA|exact clz|fail
   all_goals try exact hb1 _
   exact fin ⟨_,_,_,_,_,_,_⟩ _ _
  case true.false=>
   refine acO qje ?_;simp (disch:=omega) only[qul,pcC,tkC,hF,e4,e16,zca,zcb,zlb,ze,ql,eO,hL,k0,k4,decide_true,decide_false,Bool.not_false,Bool.not_true,Bool.and_true,Bool.false_and,Bool.true_and,eI,gI,go_sem]
   repeat' first|(refine qj ( .bool false) ?_;simp (disch:=omega) only[zga,zgb,zsa,zsb,zca,zcb,zlb,ze,ql,eO,eTk,hL,Bool.not_false,Bool.false_and,Bool.true_and,go_sem])|with_reducible apply aiA|exact clz|fail
   all_goals try exact hb1 _
   exact fin ⟨_,_,_,_,_,_,_⟩ _ _
  case true.true=>
   refine acO qje ?_;simp (disch:=omega) only[qul,pcC,tkC,hF,e4,e16,zca,zcb,zlb,ze,ql,eO,hL,k0,k4,k16,decide_true,decide_false,Bool.not_false,Bool.not_true,Bool.and_true,Bool.false_and,Bool.true_and,eI,gI,go_sem]
   repeat' first|(refine cG (λe=>c1 _) flk ?_;simp (disch:=omega) only[zga,zgb,zsa,zsb,zca,zcb,zlb,ze,ql,eO,eTk,hL,Bool.not_true,Bool.false_and,Bool.true_and,go_sem])|with_reducible apply aiA|exact clz|fail
   all_goals try exact hb1 _
   exact fin ⟨_,_,_,_,_,_,_⟩ _ _
end
structure qaQ (x:Co) (l:List Un) (d:List Dc) (s:Nat):Prop where
 ca:coE x=0
 us:UG x l=true
 cv:cvA x l=true
 sl:s<x.sig.length
 dl:d.length<=256
 pl: ∀j,j<d.length->qaW x l (d.getD j default)=0
 ln:(rwA x l d s).length<=1024
theorem qdu{x:Co}{l:List Un}(h:vaE x l=0):coE x=0∧UG x l=true∧cvA x l=true:=by
 unfold vaE at h;split at h
 ·cases h
 rename_i h1;split at h
 ·cases h
 rename_i h2;have h2:rgB x l=true:=by simpa using h2
 unfold rgB at h2;rw[Bool.and_eq_true]at h2;exact⟨Classical.not_not.1 h1,h2.1,h2.2⟩
theorem qsK{x:Co}{l:List Un}{d:List Dc}(h:Ur x l d=0):d.length<=256∧ ∀j,j<d.length->qaW x l (d.getD j default)=0:=by
 unfold Ur at h;split at h
 ·cases h
 exact⟨om,jq.1 h⟩
theorem qwv{x:Co}{l:List Un}{d:List Dc}{s:Int}(h:esE x l d s=0):0<=s∧qaQ x l d s.toNat:=by
 unfold esE at h;split at h
 ·rename_i h1;exact absurd h h1
 rename_i h1;split at h
 ·cases h
 rename_i h2;split at h
 ·rename_i h3;exact absurd h h3
 rename_i h3;split at h
 ·cases h
 rename_i h4;obtain⟨a1,a2,a3⟩:=qdu (Classical.not_not.1 h1);obtain⟨b1,b2⟩:=qsK (Classical.not_not.1 h3);exact⟨om,a1,a2,a3,om,b1,b2,om⟩
theorem qaQ.co{x:Co}{l:List Un}{d:List Dc}{s:Nat}(h:qaQ x l d s):CoOk x:=SU h.ca
theorem qj6{x:Co}(h:CoOk x){s k:Nat}(hs:s<x.sig.length)(hk:k<x.col.length)(hb:pcB x s k=true):tkE (pcT x s k).t=0∧((x.col.getD k []).getD s 0).toNat<(x.tok.getD s []).length:=by
 unfold pcB at hb;have hb:=of_decide_eq_true hb;rcases h.ce k hk s hs with e|⟨e1,e2⟩
 ·omega
 ·exact⟨h.te s (by rw[h.tn];exact hs) _ om,om⟩
theorem qlq{t:Tk}(h:tkE t=0):t.text≠ []∧t.text.length<=64:=by
 have h1:=qzp h;unfold txB at h1;split at h1
 ·rw[Bool.and_eq_true]at h1;have h2:=h1.1;unfold qbN at h2;rw[List.any_eq_true]at h2;obtain⟨k,hk,e⟩:=h2;rw[of_decide_eq_true e];refine⟨List.cons_ne_nil _ _,?_⟩;have h3:((List.range 64).all λk=>decide ((91::(Lib.itoa ((k+1:Nat):Int)++ [93]):Str).length<=64))=true:=by decide+kernel
  exact of_decide_eq_true (List.all_eq_true.1 h3 k hk)
 ·split at h1
  ·rw[Bool.and_eq_true]at h1;have h2:=h1.1;unfold qp4 at h2;rw[Bool.and_eq_true,decide_eq_true_iff]at h2;refine⟨λe=> ?_,om⟩;rw[e]at h2;cases h2.1
  ·rw[Bool.and_eq_true]at h1;have h2:=h1.1;rw[TI]at h2;simp only[Bool.and_eq_true,decide_eq_true_eq]at h2;refine⟨λe=> ?_,om⟩;rw[e]at h2;simp at h2
structure RwP (x:Co) (l:List Un) (d:List Dc) (s k:Nat) (r:Rw):Prop where
 u:r.u=k
 f:(frN l k:Int)<=r.p.c
 t:r.p.c<toN l k
 dr: -1<=r.d∧r.d<d.length
 tx:r.p.t.text≠ []∧r.p.t.text.length<=64
theorem qjA{x:Co}{l:List Un}{d:List Dc}{s:Nat}(h:qaQ x l d s){k:Nat}(hl: ¬Uo x l d k d.length<0):
  (Uo x l d k d.length).toNat<d.length∧qaW x l (d.getD (Uo x l d k d.length).toNat default)=0∧FU x l (d.getD (Uo x l d k d.length).toNat default)=k:=by
 have h1:=TK x l d k d.length;refine⟨om,h.pl _ om,qjC (n:=d.length) om⟩
theorem qk7{x:Co}(h:CoOk x){s f d:Nat}(hs:s<x.sig.length)(hd:f+d<=x.col.length){p:Pc}(hp:p∈spk x s f d):(f:Int)<=p.c∧p.c<((f+d:Nat):Int)∧p.t.text≠ []∧p.t.text.length<=64:=by
 obtain⟨k,h1,h2,h3,rfl⟩:=qbS.1 hp;obtain⟨a1,_⟩:=qj6 h hs (show k<x.col.length by omega) h3;obtain⟨b1,b2⟩:=qlq a1;exact⟨by show (f:Int)<=((k:Nat):Int);omega,by show ((k:Nat):Int)<_;omega,b1,b2⟩
theorem qsI{x:Co}{l:List Un}{d:List Dc}{s:Nat}(h:qaQ x l d s){k:Nat}(hk:k<l.length){o:Dc}(ho:qaW x l o=0){p:Pc}(hp:p∈qg8 x l k o):(frN l k:Int)<=p.c∧p.c<toN l k∧p.t.text≠ []∧p.t.text.length<=64:=by
 obtain⟨a1,a2,a3,a4,_⟩:=kX h.us hk;obtain⟨b1,b2,b3,b4,b5,b6⟩:=Sm ho;obtain⟨c1,c2,_⟩:=qbv b4;unfold qg8 at hp;split at hp
 ·obtain⟨e1,e2,e3⟩:=qk7 h.co c2 (show frN l k+(toN l k-frN l k)<=x.col.length by omega) hp;exact⟨e1,om,e3⟩
 ·split at hp
  ·rename_i g2;obtain⟨t,ht,rfl⟩:=List.mem_map.1 hp;obtain⟨u,hu,rfl,hu0⟩:=qet o.txt ht;obtain⟨_,e2,_⟩:=qeM b6 g2;have e3:=qtp.1 e2 u hu0;refine⟨?_,?_,hu.ne,e3⟩
   ·show (frN l k:Int)<=(l.getD k default).frm;omega
   ·show (l.getD k default).frm<toN l k;omega
  ·cases hp
theorem qqh{x:Co}{l:List Un}{d:List Dc}{s:Nat}(h:qaQ x l d s){k:Nat}(hk:k<l.length){r:Rw}(hr:r∈rwU x l d s k):RwP x l d s k r:=by
 obtain⟨a1,a2,a3,a4,_⟩:=kX h.us hk;have hg:=TK x l d k d.length;unfold rwU at hr;split at hr
 ·obtain⟨g1,g2,g3⟩:=zV.1 hr;obtain⟨e1,e2,e3⟩:=qk7 h.co h.sl (show frN l k+(toN l k-frN l k)<=x.col.length by omega) g1;exact⟨g2,e1,om,om,e3⟩
 ·rename_i hl;obtain⟨g1,g2,g3⟩:=zV.1 hr;obtain⟨c1,c2,_⟩:=qjA h hl;obtain⟨e1,e2,e3⟩:=qsI h hk c2 g1;exact⟨g2,e1,e2,om,e3⟩
theorem qkN{x:Co}{l:List Un}{d:List Dc}{s:Nat}(h:qaQ x l d s){f t:Nat}(ht:t<=x.col.length){r:Rw}(hr:r∈rwC x s f t):r.u= -1∧r.d= -1∧(f:Int)<=r.p.c∧r.p.c<t∧r.p.t.text≠ []∧r.p.t.text.length<=64:=by
 unfold rwC at hr;obtain⟨g1,g2,g3⟩:=zV.1 hr
 by_cases hft:f<=t
 ·obtain⟨e1,e2,e3⟩:=qk7 h.co h.sl (show f+(t-f)<=x.col.length by omega) g1;exact⟨g2,g3,e1,om,e3⟩
 ·rw[show t-f=0 by omega]at g1;cases g1
structure RwG (x:Co) (l:List Un) (d:List Dc) (r:Rw):Prop where
 c:0<=r.p.c∧r.p.c<x.col.length
 u:fnU l r.p.c=r.u
 d: -1<=r.d∧r.d<d.length
 n:r.u<0->r.u= -1∧r.d= -1
 tx:r.p.t.text≠ []∧r.p.t.text.length<=64
theorem qy6{x:Co}{l:List Un}{d:List Dc}{s k:Nat}(h:qaQ x l d s)(hk:k<l.length){r:Rw}(hr:RwP x l d s k r):RwG x l d r:=by
 obtain⟨a1,a2,a3,a4,_⟩:=kX h.us hk;have h1:=hr.f;have h2:=hr.t;have h3:=hr.u;refine⟨om,?_,hr.dr,λhn=>by omega,hr.tx⟩
 have:=qrI h.us hk (c:=r.p.c.toNat) om om
 rw[show ((r.p.c.toNat:Nat):Int)=r.p.c by omega]at this;rw[this,h3]
theorem qy4{x:Co}{l:List Un}{d:List Dc}{s:Nat}(h:qaQ x l d s){k t:Nat}(hk:k<=l.length)(ht:t<=x.col.length)(hf:k<l.length->t<=frN l k){r:Rw}(hr:r∈rwC x s (jb l k) t):RwG x l d r:=by
 obtain⟨g1,g2,g3,g4,g5⟩:=qkN h ht hr;refine⟨om,?_,om,λ_=>⟨g1,g2⟩,g5⟩
 have:=qpV h.us hk (c:=r.p.c.toNat) om (λhk=>by have:=hf hk;omega)
 rw[show ((r.p.c.toNat:Nat):Int)=r.p.c by omega]at this;rw[this,g1]
theorem qqg{x:Co}{l:List Un}{d:List Dc}{s:Nat}(h:qaQ x l d s): ∀k,k<=l.length->(∀r∈rwL x l d s k,RwG x l d r∧r.p.c<jb l k∧r.u<k)∧(rwL x l d s k).Pairwise λa b=>a.p.c<=b.p.c:=by
 intro k
 induction k with
 |zero=>intro _;exact⟨λr hr=>(by cases hr),List.Pairwise.nil⟩
 |succ k ih=>
  intro hk;obtain⟨i1,i2⟩:=ih om;obtain⟨a1,a2,a3,a4,_⟩:=kX h.us (show k<l.length by omega);have hp:=qdb h.us (show k<l.length by omega);have c1:=λr (hr:r∈rwC x s (jb l k) (frN l k))=>qkN h (show frN l k<=x.col.length by omega) hr
  have u1:=λr (hr:r∈rwU x l d s k)=>qqh h (show k<l.length by omega) hr
  have mem: ∀r∈rwL x l d s (k+1),r∈rwL x l d s k∨r∈rwC x s (jb l k) (frN l k)∨r∈rwU x l d s k:=λr hr=>by
   rcases List.mem_append.1 (show r∈rwL x l d s k++_ from hr)with hr|hr
   ·exact .inl hr
   ·exact .inr (List.mem_append.1 hr)
  refine⟨λr hr=> ?_,?_⟩
  ·rw[qbY];rcases mem r hr with hr|hr|hr
   ·obtain⟨g1,g2,g3⟩:=i1 r hr;exact⟨g1,om,om⟩
   ·obtain⟨g1,g2,g3,g4,g5⟩:=c1 r hr;exact⟨qy4 h (show k<=l.length by omega) om (λ_=>nlr _) hr,om,om⟩
   ·have g:=u1 r hr
    have:=g.t
    have:=g.u
    exact⟨qy6 h om g,om,om⟩
  ·show (rwL x l d s k++(rwC x s (jb l k) (frN l k)++rwU x l d s k)).Pairwise _;rw[List.pairwise_append];refine⟨i2,?_,λa ha b hb=> ?_⟩
   ·rw[List.pairwise_append];refine⟨?_,?_,λa ha b hb=> ?_⟩
    ·unfold rwC rwM;rw[List.pairwise_map];exact spk_pw x s (jb l k) _
    ·unfold rwU;split
     ·unfold rwM;rw[List.pairwise_map];exact spk_pw x s _ _
     ·unfold rwM;rw[List.pairwise_map];unfold qg8;split
      ·exact spk_pw x _ _ _
      ·split
       ·rw[List.pairwise_map];exact List.pairwise_of_forall λ_ _=>Int.le_refl _
       ·exact List.Pairwise.nil
    ·have:=(c1 a ha).2.2.2.1
     have:=(u1 b hb).f
     omega
   ·have h1:=(i1 a ha).2.1;rcases List.mem_append.1 hb with hb|hb
    ·have:=(c1 b hb).2.2.1;omega
    ·have:=(u1 b hb).f;omega
where
 spk_pw (x:Co) (s f:Nat): ∀d,(spk x s f d).Pairwise λa b=>a.c<=b.c:=by
  intro d
  induction d with
  |zero=>exact List.Pairwise.nil
  |succ d ih=>
   unfold spk;rw[List.pairwise_append];refine⟨ih,?_,λa ha b hb=> ?_⟩
   ·split
    ·exact List.pairwise_singleton _ _
    ·exact List.Pairwise.nil
   ·obtain⟨k,h1,h2,_,rfl⟩:=qbS.1 ha;split at hb
    ·rw[List.mem_singleton]at hb;subst hb;show ((k:Nat):Int)<=((f+d:Nat):Int);omega
    ·cases hb
theorem qqf{x:Co}{l:List Un}{d:List Dc}{s:Nat}(h:qaQ x l d s):(∀r∈rwA x l d s,RwG x l d r)∧(rwA x l d s).Pairwise λa b=>a.p.c<=b.p.c:=by
 obtain⟨i1,i2⟩:=qqg h l.length (nlr _);refine⟨λr hr=> ?_,?_⟩
 ·rcases List.mem_append.1 (show r∈rwL x l d s l.length++_ from hr)with hr|hr
  ·exact (i1 r hr).1
  ·exact qy4 h (nlr _) (nlr _) (λh=>absurd h (Nat.lt_irrefl _)) hr
 ·show (rwL x l d s l.length++_).Pairwise _;rw[List.pairwise_append];refine⟨i2,?_,λa ha b hb=> ?_⟩
  ·unfold rwC rwM;rw[List.pairwise_map];exact qqg.spk_pw x s _ _
  ·have h1:=(i1 a ha).2.1;have h2:=(qkN h (nlr _) hb).2.2.1;omega
def PcF(p:Pc):Prop:=(∃F:Nat,p.t.flags=F∧F<32)∧p.t.text.length<=64
theorem qsF{p:Pc}(h:tkE p.t=0):PcF p:=by
 refine⟨?_,(qlq h).2⟩;unfold tkE at h;split at h
 ·cases h
 ·rename_i g;exact⟨p.t.flags.toNat,om,om⟩
theorem Sj{x:Co}(ho:CoOk x){s f d:Nat}(hs:s<x.sig.length)(hd:f+d<=x.col.length): ∀p∈spk x s f d,PcF p:=by
 intro p hp;obtain⟨k,k1,k2,k3,rfl⟩:=qbS.1 hp;exact qsF (qj6 ho hs om k3).1
theorem qqa{s:Str}{f:Int}(h:qfo s=0): ∀p∈cjP (qaZ s) f,PcF p:=by
 intro p hp;unfold cjP at hp;obtain⟨t,ht,rfl⟩:=List.mem_map.1 hp;obtain⟨_,g⟩:=qlt ht;refine⟨?_,?_⟩
 ·rcases g with g|g|g|g
  ·exact⟨0,g,om⟩
  ·exact⟨16,g,om⟩
  ·exact⟨8,g,om⟩
  ·exact⟨24,g,om⟩
 ·unfold qfo at h;split at h
  ·cases h
  ·rename_i g2;have g3:=Um.1 (Bool.eq_false_iff.2 g2);obtain⟨u,_,e,hu⟩:=qet s ht
   have:=g3 u hu
   rw[e];exact this
theorem qmr{L:List Rw}{n:Nat}(h: ∀r∈L,r.p.t.text.length<=n): ∀w∈bsW L,w.text.length<=n:=by
 intro w hw;unfold bsW at hw;obtain⟨i,hi,rfl⟩:=List.mem_map.1 hw;rw[List.mem_range]at hi;exact h _ (zJ hi)
theorem quy{hh:wh}{a b c va vb:Nat}{Z:AObj}(t:T3 hh a b c)(L:List Rw)(p:Pc)(u d:Int)(hX:qr a hh=some (.mem va 29 [.osl b vb 7 0 L.length]))(hY:qr b hh=some (qZ vb 36 (jB (bsW L))))(hZg:qr c hh=some Z)(hZ: ∀n,lowO n Z)(hp:PcF p)(hL:L.length<=1000000000)(hLx: ∀r∈L,PcF r.p):
  ACalls Tryz.prog 80 [.agg (pcC p),.int .i64 u,.int .i64 d,.op a va 0] hh (.tup []) (qq b (qq a hh (.mem va 29 [.osl b (vb+1) 7 0 (L.length+1)])) (qZ (vb+1) 36 (jB (bsW (L++ [⟨p,u,d⟩]))))):=by
 obtain⟨⟨F,f1,f2⟩,f3⟩:=hp;have h1:=qCN (va:=va) t (bsW L) p u d vb F Z hZ f1 f2 om (by rw[km];exact hL) (λw hw=>Nat.le_trans (qmr (n:=64) (λr hr=>(hLx r hr).2) w hw) om);have e1:qsA hh a b c va vb (bsW L) Z=hh:=by
  unfold qsA;rw[km];exact qqo hX hY hZg
 have e2:qsg (bsW L)=ql7 (L++ [⟨p,u,d⟩]) L.length:=by
  rw[qkl];unfold qsg;rw[km]
 rw[e1,e2,<-qmq]at h1;have e3:qsA hh a b c va (vb+1) (bsW (L++ [⟨p,u,d⟩])) Z=qq b (qq a hh (.mem va 29 [.osl b (vb+1) 7 0 (L.length+1)])) (qZ (vb+1) 36 (jB (bsW (L++ [⟨p,u,d⟩])))):=by
  unfold qsA tri;rw[km,lap,lco,lnl];refine jc ?_;rw[qH (λe=>t.bc e.symm),qH (λe=>t.ac e.symm)];exact hZg
 rw[e3]at h1;exact h1
end RC
end
section
open Go Go.Proofs AF
def R2:List Nat:= []
def quT:C:=
 (vU [O1 2 (.box 0 29) 0,O1 3 (.box 1 3) 1,MC 4 .nilfn] (vX [O2 5 (.mkfn (Fn.func 166) 0) 2 3,MV 4 5]))
theorem qwE:qM Tryz.prog 123 6 2 [RV.tmp 4] quT:=fi Tryz.f123 [2,3] R2 []
def qvc:C:=
 (vU [LD 6 1,O1 7 .len 6,vO 8 0] (C.block 0 (vU [BI 9 .lss 8 7] ((vW 9 0).seq ((C.block 1 (vU [MV 10 8,O2 11 (.idxA 7) 6 8,O1 12 (.load (some 7)) 11,⟨some 5,none,.alloc 0 36
 [.str [],i6 0,i6 0,i6 0,.bool false,.bool false,.str []],[]⟩,MV 4 10,ST 7 5 12] (vU [vN 13 2 5,LD 14 13,LD 15 2,BI 16 .eql 14 15,MV 17 16,MG 18 17 true 0,MG 19 17 true 4,P1 20
 17 true (.load (some 7)) 5,PN 21 17 true .callv [.t 18,.t 19,.t 20],P1 22 17 true (.un UnOp.not) 21,PF 23 17 22] (vV 23 C.ret)))).seq (vY [vP 24 .add 8 1,MV 8 24])))).loop))
theorem qwZ:qM Tryz.prog 166 25 1 [] qvc:=fi Tryz.f166 [5] R2 []
def qvb:C:=
 (vU [O1 2 (.box 0 97) 0,MC 3 (.bool false)] (vX [vN 4 0 2,LD 5 4,LD 6 1,O2 7 (.call 36 true) 5 6,MV 3 7]))
theorem qwY:qM Tryz.prog 165 8 1 [RV.tmp 3] qvb:=fi Tryz.f165 [2] R2 []
def qvs:C:=
 (vU [O1 4 (.box 0 26) 0,ON 8 (.nilo 1 1 3) [],vO 9 0] ((vU [O1 11 (.load (some 4)) 4,MV 12 1,MV 13 2,ON 14 (.call 17 true) [.t 11,.t 12,.t 13],MV 10 14] (vU [MV 15 10,vP 16 .neq
 15 0] (vV 16 (vX [MV 17 10,ON 8 (.nilo 1 1 3) [],MV 9 17])))).seq ((vU [MV 18 3,vP 19 .lss 18 0,MV 20 19,vS 21 20 3,vS 22 20 2,vQ 23 20 .len 22,vR 24 20 (.bin .geq) 21 23,PT 25
 20 24] (vV 25 (vX [ON 8 (.nilo 1 1 3) [],vO 9 2]))).seq (vX [O1 26 (.load (some 4)) 4,MV 27 1,MV 28 2,MV 29 3,ON 30 (.call 74 true) [.t 26,.t 27,.t 28,.t 29],MV 8 30,vO 9 0]))))
theorem qng:qM Tryz.prog 19 31 2 [RV.tmp 8,RV.tmp 9] qvs:=fi Tryz.f19 [4,8] R2 []
def quO:C:=
 (vU [MC 2 (.bool false)] ((vU [vO 3 0] (C.block 0 ((v6 4 3 0 0).seq ((C.block 1 (vU [MV 10 0,MV 11 3,O2 12 (.idxA 4) 10 11,vN 13 3 12,LD 14 13,O1 15 .slen 14,vP 16 .gtr 15 80,MV
 17 16,vS 18 17 0,vS 19 17 3,vR 20 17 (.idxA 4) 18 19,v7 21 17 1 20,v8 22 17 21,vQ 23 17 .slen 22,vT 24 17 (.bin .gtr) 23 (i6 20),PT 25 17 24] (vV 25 (vX [MC 2 (.bool
 true)])))).seq (vZ 8 3))).loop)).seq (vX [MV 26 0,O1 27 .len 26,vP 28 .gtr 27 8,MV 2 28])))
theorem qwz:qM Tryz.prog 110 29 0 [RV.tmp 2] quO:=fi Tryz.f110 [] R2 []
def qCf:C:=
 (vU [MC 0 (.bool false)] (vU [ON 12 (.call 111 true) [],MV 11 12,O1 13 (.ext 0) 11,O1 14 (.ext 1) 11,O1 15 (.ext 2) 11,O1 16 (.ext 3) 11,⟨some 1,none,.alloc 0 26 [.str
 [],.nl,.nl,.nl],[]⟩,ST 4 1 13,MV 2 14,MV 3 15,MV 4 16] (vU [O1 18 (.load (some 4)) 1,MV 19 2,MV 20 4,ON 21 (.call 19 true) [.t 18,.t 19,.t 20,.c (i6 1)],MV 17 21,O1 22 (.ext 0)
 17,O1 23 (.ext 1) 17,MV 5 22,MV 6 23] (vU [O1 25 (.load (some 4)) 1,MV 26 2,MV 27 3,MV 28 4,ON 29 (.call 60 true) [.t 25,.t 26,.t 27,.t 28,.c (i6 0)],MV 24 29,O1 30 (.ext 0)
 24,O1 31 (.ext 1) 24,MV 7 30,MV 8 31] (vU [O1 33 (.load (some 4)) 1,MV 34 2,MV 35 3,MV 36 4,ON 37 (.call 60 true) [.t 33,.t 34,.t 35,.t 36,.c (i6 1)],MV 32 37,O1 38 (.ext 0)
 32,O1 39 (.ext 1) 32,MV 9 38,MV 10 39] (vX [MV 40 6,vP 41 .eql 40 0,MV 42 41,MG 43 42 true 8,PC 44 42 true (.bin .eql) 43 (i6 0),PF 45 42 44,MV 46 45,MG 47 46 true 10,PC 48 46
 true (.bin .eql) 47 (i6 0),PF 49 46 48,MV 50 49,MG 51 50 true 5,⟨some 52,some (50,true),.bslc 1 1 1 3 [i6 0] [(0,1)],[.c (i6 1)]⟩,P2 53 50 true (.call 45 true) 51 52,PF 54 50
 53,MV 55 54,MG 56 55 true 7,PC 57 55 true (.bin .eql) 56 (.str [100,101,117,115,58,32,65,32,66,59,32,99,111,109,109,111,110]),PF 58 55 57,MV 59 58,MG 60 59 true 9,PC 61 59 true
 (.bin .eql) 60 (.str [101,114,97,116,58,32,66,59,32,100,101,99,105,115,105,111,110,32,48,44,32,99,104,111,105,99,101,32,111,102,32,66]),PF 62 59 61,MV 0 62]))))))
theorem qA7:qM Tryz.prog 56 63 2 [RV.tmp 0] qCf:=fi Tryz.f56 [1,52] R2 []
def quP:C:=
 (vU [⟨some 0,none,.alloc 0 26 [.str [],.nl,.nl,.nl],[]⟩,ON 1 (.nilo 1 3 64) [],ON 2 (.nilo 2 4 43) [],ON 3 (.nilo 3 7 36) []] (vU [MC 4 (.fn (Fn.func 156) [] [])] (vU [⟨some
 8,none,.bslc 4 1 2 9 [.str []] [(0,1),(1,1)],[.c (.str [65]),.c (.str [66])]⟩,MV 9 4,OC 10 .callv 9 (.str [100,101,117,115]),MV 11 4,OC 12 .callv 11 (.str [101,115,116]),⟨some
 13,none,.bslc 5 6 2 92 [.str [],.str [],.str [],i6 0,i6 0,.str []] [(0,6),(6,6)],[.t 10,.t 12]⟩,MV 14 4,OC 15 .callv 14 (.str [100,101,117,115]),MV 16 4,OC 17 .callv 16 (.str
 [101,114,97,116]),⟨some 18,none,.bslc 6 6 2 92 [.str [],.str [],.str [],i6 0,i6 0,.str []] [(0,6),(6,6)],[.t 15,.t 17]⟩,⟨some 19,none,.bslc 7 1 2 93 [.nl] [(0,1),(1,1)],[.t
 13,.t 18]⟩,⟨some 20,none,.bslc 8 1 2 3 [i6 0] [(0,1),(1,1)],[.c (i6 0),.c (i6 0)]⟩,⟨some 21,none,.bslc 9 1 2 3 [i6 0] [(0,1),(1,1)],[.c (i6 1),.c (i6 1)]⟩,⟨some 22,none,.bslc
 10 1 2 39 [.nl] [(0,1),(1,1)],[.t 20,.t 21]⟩,⟨some 23,none,.build [.str [],.nl,.nl,.nl] [(0,1),(1,1),(2,1),(3,1)],[.c (.str [73]),.t 8,.t 19,.t 22]⟩,⟨some 5,none,.alloc 11 26
 [.str [],.nl,.nl,.nl],[]⟩,ST 4 5 23] (vU [⟨some 24,none,.bslc 12 1 1 9 [.str []] [(0,1)],[.c (.str [101,115,116])]⟩,⟨some 25,none,.bslc 13 1 1 3 [i6 0] [(0,1)],[.c (i6
 0)]⟩,⟨some 26,none,.build [.nl,.nl] [(0,1),(1,1)],[.t 24,.t 25]⟩,⟨some 27,none,.bslc 14 1 1 9 [.str []] [(0,1)],[.c (.str [101,114,97,116])]⟩,⟨some 28,none,.bslc 15 1 1 3 [i6
 0] [(0,1)],[.c (i6 1)]⟩,⟨some 29,none,.build [.nl,.nl] [(0,1),(1,1)],[.t 27,.t 28]⟩,⟨some 30,none,.bslc 16 2 2 97 [.nl,.nl] [(0,2),(2,2)],[.t 26,.t 29]⟩,⟨some 31,none,.build
 [i6 0,i6 0,.nl] [(0,1),(1,1),(2,1)],[.c (i6 1),.c (i6 2),.t 30]⟩,⟨some 32,none,.bslc 17 3 1 64 [i6 0,i6 0,.nl] [(0,3)],[.t 31]⟩,MV 6 32] (vU [⟨some 33,none,.build [i6 0,.str
 [],i6 0,.str []] [(0,1),(1,1),(2,1)],[.c (i6 1),.c (.str [66]),.c (i6 1)]⟩,⟨some 34,none,.bslc 18 4 1 43 [i6 0,.str [],i6 0,.str []] [(0,4)],[.t 33]⟩,MV 7 34] (vX [O1 35 (.load
 (some 4)) 5,MV 36 6,MV 37 7,⟨some 38,none,.build [.str [],i6 0,i6 0,i6 0,.bool false,.bool false,.str []] [(0,1),(2,1),(3,1)],[.c (.str [100,101,117,115]),.c (i6 (-1)),.c (i6
 (-1))]⟩,⟨some 39,none,.build [.str [],i6 0,i6 0,i6 0,.bool false,.bool false,.str []] [(0,1),(1,1)],[.c (.str [101,114,97,116]),.c (i6 1)]⟩,⟨some 40,none,.bslc 19 7 2 36 [.str
 [],i6 0,i6 0,i6 0,.bool false,.bool false,.str []] [(0,7),(7,7)],[.t 38,.t 39]⟩,ST 4 0 35,MV 1 36,MV 2 37,MV 3 40]))))))
theorem qwA:qM Tryz.prog 111 41 20 [RV.cell 0 (some 4),RV.tmp 1,RV.tmp 2,RV.tmp 3] quP:=fi Tryz.f111 [0,1,2,3,8,13,18,19,20,21,22,5,24,25,27,28,30,32,34,40] R2 []
def qu9:C:=
 (vU [⟨some 2,none,.alloc 0 92 [.str [],.str [],.str [],i6 0,i6 0,.str []],[]⟩] (vX [MV 3 0,MV 4 0,⟨some 5,none,.build [.str [],.str [],.str [],i6 0,i6 0,.str []]
 [(0,1),(1,1)],[.t 3,.t 4]⟩,ST 6 2 5]))
theorem qwW:qM Tryz.prog 156 6 1 [RV.cell 2 (some 6)] qu9:=fi Tryz.f156 [2] R2 []
end
section
open Go Go.Proofs AF HY LN
namespace RC
theorem qyG(b:List Wd)(k:Int): ∀n,(owG b k n).length<=n:=by
 intro n
 induction n with
 |zero=>exact nlr _
 |succ n ih=>
  unfold owG;rw[lap];split
  ·simp only[lco,lnl];omega
  ·simp only[lnl];omega
end RC
end
section
open Go Go.Proofs AF
def qrV:List Nat:= []
def quS:C:=
 (vU [vO 6 0] (vU [⟨some 7,none,.alloc 0 22 [.nl],[]⟩] (((C.wk.seq (vY [MV 10 1,MV 11 2,O2 12 (.call 123 true) 10 11])).seq (C.block 0 (C.range (.t 12) [13,14] (vY [⟨some
 9,none,.alloc 1 36 [.str [],i6 0,i6 0,i6 0,.bool false,.bool false,.str []],[]⟩,ST 7 9 14]) (C.block 1 (vY [LD 15 7,vN 16 0 9,LD 17 16,⟨some 18,none,.bslc 2 1 1 9 [.str []]
 [(0,1)],[.t 17]⟩,O2 19 (.app 3 1 9 16) 15 18,ST 1 7 19]))))).seq ((C.wk.seq (vY [MV 20 0,MV 21 2,O2 22 (.idxA 3) 20 21,vN 23 2 22,LD 24 23,O1 25 (.mkfn (Fn.func 165) 0) 7,O2 26
 (.call 102 true) 24 25,MV 6 26])).seq C.ret))))
theorem qwD:qM Tryz.prog 122 27 4 [RV.tmp 6] quS:=fi Tryz.f122 [7,9,18,19] qrV [2,5]
end
section
open Go Go.Proofs AF
def qrW:List Nat:= [130]
def qv3:C:=
 (vU [O1 4 (.box 0 26) 0,ON 8 (.nilo 1 1 3) []] (vU [MV 13 2,MV 14 3,O2 15 (.idxA 7) 13 14,vN 16 2 15,LD 17 16,MV 9 17] ((vU [MV 18 9,vP 19 .lss 18 0] (vV 19 (vU [ON 10 (.nilo 2
 1 3) []] ((vU [vN 20 1 4,LD 21 20,O1 22 .len 21,vO 23 0] (C.block 0 (vU [BI 24 .lss 23 22] ((vW 24 0).seq ((C.block 1 (vU [MV 25 23,MV 11 25] (vY [MV 26 10,MV 27 11,⟨some
 28,none,.bslc 3 1 1 3 [i6 0] [(0,1)],[.t 27]⟩,O2 29 (.app 4 1 3 8) 26 28,MV 10 29]))).seq (vY [vP 30 .add 23 1,MV 23 30])))).loop)).seq (vX [MV 31 10,MV 8 31]))))).seq ((vU [MV
 32 1,MV 33 2,MV 34 9,ON 35 (.call 122 true) [.t 32,.t 33,.t 34],MV 12 35] (vU [MV 36 12,vP 37 .geq 36 0] (vV 37 (vX [MV 38 1,MV 39 9,O2 40 (.idxA 3) 38 39,vN 41 2 40,LD 42
 41,MV 43 12,O2 44 (.idxA 2) 42 43,vN 45 1 44,LD 46 45,O1 47 (.call 130 false) 46,MV 8 47])))).seq (vX [ON 8 (.nilo 1 1 3) []])))))
theorem qnh:qM Tryz.prog 74 48 5 [RV.tmp 8] qv3:=fi Tryz.f74 [4,8,10,28,29] qrW []
end
section
open Go Go.Proofs AF HY LN
namespace RC
def wdX(b:List Wd)(k:Int)(n:Nat):List wi:=flG (inU b k) (λi=> [.int .i64 (i:Int),.agg (wdC (b.getD i default))]) n
theorem qD9(b:List Wd)(k:Int)(h:wh):ACalls Tryz.prog 123 [jD b,.int .i64 k] h (.fn (.func 166) [] [.ip [jD b],.ip [.int .i64 k]]) h:=by
 refine acO qwE ?_;simp (disch:=omega) only[quT,jD,go_sem]
 repeat' first|exact wa|fail
theorem itW(b:List Wd)(k:Int)(hn:b.length<=1000000000):qhc Tryz.prog 166 [.ip [jD b],.ip [.int .i64 k]] (wdX b k b.length):=by
 intro h ts LI S E hS hE body start hts;refine acQ qwZ ?_;simp (disch:=omega) only[qvc,jD,go_sem]
 repeat' first|with_reducible apply aiA|exact clz|fail
 obtain⟨p,hp⟩:=wg (inU b k)
 obtain⟨g,hg⟩: ∃g:Nat->wi,g=λi=> [.int .i64 (i:Int),.agg (wdC (b.getD i default))]:=⟨_,rfl⟩
 have hX:wdX b k b.length=flG p g b.length:=by rw[hp,hg];rfl
 refine qu (T:=λi:Nat×wh×AObj=>zf 25 [(0,.yld h.length),(2,.ip [.int .i64 k]),(6,jD b),(7,.int .i64 b.length),(8,.int .i64 i.1)])
  (H:=λi=>i.2.1++ [.lp .ready ts LI]++ [i.2.2])
  (inv:=λi=>i.1<=b.length∧S (flG p g i.1).length i.2.1∧qJ [i.2.2] 0=true) (m:=λi=>b.length-i.1) (0,h,.emp 0) ⟨nzl _,start,rfl⟩ (Wk.temps ?_) ?_
 ·(simp only[jD,go_sem,qg,qc,qb,qf];try exact we)
 rintro⟨i,hh,O⟩ ⟨i1,i2,i3⟩ K hK;simp only at i1 i2 i3 hK;obtain⟨hlen,hlow⟩:=hS _ _ i2;have hb:(h++ [AObj.lp LS.ready ts LI]).length=(hh++ [AObj.lp LS.ready ts LI]).length:=by simp[hlen]
 rw[hb];have i3': ∀m,qJ (O::m) 0=true:=λ_=>i3
 by_cases hi:i<b.length
 ·have q0:((i:Int)<b.length)=True:=wj;have hst:flG p g (i+1)=flG p g i++if p i=true then [g i] else []:=rfl
  have hpi:p i=decide ((b.getD i default).unit=k):=by rw[hp];rfl
  have hgi:g i= [.int .i64 (i:Int),.agg (wdC (b.getD i default))]:=by rw[hg]
  have hat:=λhpp=>qwx (p:=p) (g:=g) (i:=i) hpp hi
  obtain⟨w,hw⟩:=wg (b.getD i default)
  have ew:=hw.symm;rw[ew]at hpi hgi
  by_cases gz:w.unit=k
  ·have q1:(w.unit=k)=True:=eqt gz;rw[dqt gz]at hpi;rw[hpi,ipo rfl]at hst;obtain⟨hdl,hxx⟩:=hat hpi;rw[hgi]at hxx;have hdl':(flG p g i).length<(wdX b k b.length).length:=by rw[hX];exact hdl
   have hxx':(wdX b k b.length)[(flG p g i).length]= [.int .i64 (i:Int),.agg (wdC w)]:=by simp only[hX];exact hxx
   have hb':=λO'=>body (flG p g i).length hh [O'] hdl' i2
   rw[hxx']at hb';have hlst:(flG p g (i+1)).length=(flG p g i).length+1:=by rw[hst];simp
   simp (disch:=omega) only[jD,i3',q0,ew,wdC,q1,go_sem]
   repeat' first|with_reducible apply aiA|exact clz|fail
   ·exact⟨.ready,ts,LI,by rw[List.append_assoc];exact kp hlen⟩
   ·rw[List.append_assoc];refine jP.mono ?_ (hb' _);rintro v h' ⟨hh',⟨rfl,hn,rfl⟩|⟨st,rfl,hs',rfl⟩⟩
    ·simp (disch:=omega) only[go_sem];refine hK _ _ (i+1,hh',.mem (qn (some O)+1) 36 (wdC w)) ⟨hi,by simp only;rw[hlst];exact hn,rfl⟩ (by simp only;omega) ?_;simp only[List.append_assoc];refine Wk.temps ?_
     (simp only[jD,wdC,go_sem,qg,qc,qb,qf];try exact we)
    ·simp (disch:=omega) only[go_sem];obtain⟨r1,r2⟩:=(hE _ _ hs').ret (L:=LI) st hts;have eO: ∀O',hh'++AObj.lp st ts LI:: [O']=(hh'++ [AObj.lp st ts LI])++ [O']:=λ_=>by simp
     rw[eO];exact jX trivial r1 r2 ⟨_,.inr ⟨st,hs',rfl⟩⟩ (qi)
  ·have q1:(w.unit=k)=False:=eqf gz;rw[dqf gz]at hpi;rw[hpi,ine (by simp),lan]at hst;simp (disch:=omega) only[jD,i3',q0,ew,wdC,q1,go_sem]
   repeat' first|with_reducible apply aiA|exact clz|fail
   refine hK _ _ (i+1,hh,.mem (qn (some O)+1) 36 (wdC w)) ⟨hi,by simp only;rw[hst];exact i2,rfl⟩ (by simp only;omega) ?_;simp only;refine Wk.temps ?_
   (simp only[jD,wdC,go_sem,qg,qc,qb,qf];try exact we)
 ·have e:i=b.length:=by omega
  subst e;have q0:((b.length:Int)<b.length)=False:=wm;simp (disch:=omega) only[jD,i3',q0,go_sem];obtain⟨r1,r2⟩:=(hS _ _ i2).ret (L:=LI) .ready hts;exact zI trivial r1 r2 ⟨hh,.inl ⟨by rw[hX];exact i2,rfl⟩⟩ (qi)
theorem qtJ(b:List Wd)(k:Int): ∀n,n<=b.length->(wdX b k n).length=(owG b k n).length∧ ∀i (hi:i<(wdX b k n).length),∃(j:Nat) (w:Wd),(wdX b k n)[i]= [.int .i64 (j:Int),.agg (wdC w)]∧(owG b k n)[i]? =some w.text∧j<n∧w=b.getD j default:=by
 intro n hn;have hs:owG b k n=flG (inU b k) (λi=>(b.getD i default).text) n:=by
  clear hn
  induction n with
  |zero=>rfl
  |succ n ih=>
   unfold owG flG;rw[ih];congr 1;unfold inU
   by_cases g:(b.getD n default).unit=k
   ·rw[ipo g,ipo (dqt g)]
   ·rw[ine g,ine (by simpa using g)]
 rw[hs];refine⟨qiW _ _ _ _,λi hi=> ?_⟩;obtain⟨r,r1,r2,r3,r4⟩:=qwy (p:=inU b k) (g:=λi=>([.int .i64 (i:Int),.agg (wdC (b.getD i default))]:wi)) (k:=λi=>(b.getD i default).text) (n:=n) (i:=i) hi;exact⟨r,b.getD r default,r3,r4,r1,rfl⟩
def brK(l:List Un)(b:List Wd)(k:Nat):Int:=Uh (λr=>decide (((l.getD k default).rds.getD r default).words=owG b (k:Int) b.length)) (l.getD k default).rds.length 0
theorem qDx(r:Rd)(own:List Str)(h:wh)(h1:r.words.length<=1000000000)(h2:own.length<=1000000000):ACalls Tryz.prog 165 [.agg (rdC r),.ip [strs own]] h (.bool (decide (r.words=own))) h:=by
 have c1:=λh=>qAR r.words own h h1 h2
 unfold strs at c1;refine acO qwY ?_;simp (disch:=omega) only[qvb,rdC,strs,go_sem]
 repeat' first|(refine cA (c1 _) flk ?_;simp (disch:=omega) only[go_sem])|exact wa|with_reducible apply aiA|exact clz|fail
theorem qBr(L:List Rd)(own:List Str)(k v:Nat)(h:wh)(hk:qr k h=some (.mem v 22 [strs own]))(hl:L.length<=1000000000)(hw: ∀j,(L.getD j default).words.length<=1000000000)(ho:own.length<=1000000000):
  ACalls Tryz.prog 102 [kf L,.fn (.func 165) [] [.op k v 0]] h (.int .i64 (Uh (λr=>decide ((L.getD r default).words=own)) L.length 0)) h:=by
 have hc:=qG hk;unfold kf;refine qbP qpA L.length (λj=>rdC (L.getD j default)) (λj=> .agg (rdC (L.getD j default))) _ [] [.op k v 0] _ h (λi _=>⟨rfl,by simp[jU,rdC],rfl,rfl,rfl⟩) (λi _=> ?_) om;refine ACalls.borrow ?_ rfl;have e:([AV.agg (rdC (L.getD i default))]++ [AV.op k v 0]).map (rei (λ_=>true) h 8)= [.agg (rdC (L.getD i default)),.ip [strs own]]:=by
  simp only[lca,lna,List.map_cons,List.map_nil,rei_op,if_true,hc,ipOf_some,List.drop_zero,rei_agg];rfl
 rw[lna,e];exact qDx _ own _ (hw i) ho
theorem qse(w:Wd)(n v:Nat)(ty:TypeId):lowO n (.mem v ty (wdC w)):=by
 intro c hc;simp only[wdC,List.mem_cons,List.not_mem_nil,or_false]at hc;rcases hc with rfl|rfl|rfl|rfl|rfl|rfl|rfl<;>rfl
theorem qnI(s:Str)(n v:Nat)(ty:TypeId):lowO n (.mem v ty [.str s]):=by
 intro c hc;rw[List.mem_singleton]at hc;rw[hc];rfl
theorem qyT(l:List Un)(b:List Wd)(k:Nat)(h:wh)(hu:qbx l)(hb:b.length<=1000000)(hk:k<l.length):ACalls Tryz.prog 122 [zA l,jD b,.int .i64 (k:Int)] h (.int .i64 (brK l b k)) h:=by
 have c108:=λh=>qD9 b (k:Int) h
 have hol:=qyG b (k:Int) b.length;obtain⟨hxl,hxg⟩:=qtJ b (k:Int) b.length (nlr _);have hbr:brK l b k=Uh (λr=>decide (((l.getD k default).rds.getD r default).words=owG b (k:Int) b.length)) (l.getD k default).rds.length 0:=rfl;obtain⟨W,hW⟩:=wg (owG b (k:Int) b.length)
 rw[<-hW]at hxl hol;simp only[<-hW]at hxg hbr;have zu:zA l= .sl l.length λi=>unC (l.getD i default):=rfl
 refine acO qwD ?_;simp (disch:=omega) only[quS,go_sem];refine⟨_,_,Wk.ownNil (j:=h.length) (i:=0) (k:=h.length+3) (v:=1) (ty:=22) (cs:= [.nl]) (ve:=0) (sz:=1) ?m1 rfl ?m2,?_⟩
 case m1=>simp only[go_sem]
 case m2=>simp only[go_sem]
 simp (disch:=omega) only[List.set_cons_zero,go_sem]
 repeat' first|(refine cA (c108 _) flk ?_;simp (disch:=omega) only[go_sem])
 refine zh (xs:=wdX b (k:Int) b.length) (itW b (k:Int) om) ?e0
  (S:=λi hh=> ∃w O1 O2,qJ [O1] 0=true∧qJ [O2] 0=true∧(∀n,lowO n O1)∧(∀n,lowO n O2)∧hh=h++ [.mem 1 22 [.osl (h.length+3) w 1 0 i],O1,O2,qZ w 9 (jo (W.take i))])
  (E:=λ_ _=>False) ?e1 (λ_ _ h=>h.elim) ?e2 ?e3 ?e4 ?e5 (λ_ _ h=>h.elim)
 case e0=>
  intro x hx;obtain⟨i,hi,e⟩:=List.getElem_of_mem hx;obtain⟨j,w,e2,_⟩:=hxg i hi;rw[<-e,e2];rfl
 case e1=>
  rintro i hh ⟨w,O1,O2,_,_,l1,l2,rfl⟩;refine LowI.app rfl (λo ho=> ?_);simp only[List.mem_cons,List.not_mem_nil,or_false]at ho;rcases ho with rfl|rfl|rfl|rfl
  ·right;constructor<;>(intro c hc;simp only[List.mem_cons,List.not_mem_nil,or_false]at hc;rcases hc with rfl;simp[qS])
  ·right;exact⟨l1 _,l1 _⟩
  ·right;exact⟨l2 _,l2 _⟩
  ·right;exact⟨ji (qfl _ _),ji (qfl _ _)⟩
 case e2=>exact⟨0,.emp 0,.emp 0,rfl,rfl,λ_=>trivial,λ_=>trivial,rfl⟩
 case e3=>
  have lu: ∀n,qS n (zA l)=true:=λ_=>rfl
  have lw: ∀n,qS n (jD b)=true:=λ_=>rfl
  simp[qS,qS.lowVs,lu,lw]
  try omega
 case e4=>
  rintro i hh tl LI TS hi ⟨w,O1,O2,p1,p2,l1,l2,rfl⟩ hlen K4 K5 hK4 hN hR' hX;obtain⟨j,wd,e2,e3,_,_⟩:=hxg i hi;rw[e2];rw[hxl]at hi;have p1': ∀m,qJ (O1::m) 0=true:=λ_=>p1
  have p2': ∀m,qJ (O2::m) 0=true:=λ_=>p2
  have hTk:W.take (i+1)=W.take i++ [wd.text]:=by rw[List.take_add_one,e3];rfl
  have hTl:(W.take i).length=i:=by rw[List.length_take];omega
  have eVl:=jH (W.take i);rw[hTl]at eVl;have eVk:List.take i (jo (W.take i))=jo (W.take i):=ltl om;have eVn:jo (W.take (i+1))=jo (W.take i)++ [.str wd.text]:=by rw[hTk,qcd];rfl
  simp only[kg];simp (disch:=omega) only[List.append_assoc,wdC,p1',go_sem];refine hK4 _ _ (h++ [.mem 1 22 [.osl (h.length+3) w 1 0 i],.mem (qn (some O1)+1) 36 (wdC wd),O2,qZ w 9 (jo (W.take i))]) (by simp[wdC]) (by simp) ?_;simp (disch:=omega) only[List.append_assoc,wdC,p2',eVl,eVk,Nat.mul_one,go_sem]
  repeat' first|with_reducible apply aiA|exact clz|fail
  refine hN _ _ (h++ [.mem 1 22 [.osl (h.length+3) (w+1) 1 0 (i+1)],.mem (qn (some O1)+1) 36 (wdC wd),.mem (qn (some O2)+1) 9 [.str wd.text],qZ (w+1) 9 (jo (W.take (i+1)))]) (by rw[eVn,List.append_assoc];rfl) (by simp)
   ⟨w+1,_,_,rfl,rfl,λn=>qse _ _ _ _,λn=>qnI _ _ _ _,rfl⟩
 case e5=>
  rintro hh ⟨w,O1,O2,p1,p2,l1,l2,rfl⟩;rw[hxl,List.take_length];simp (disch:=omega) only[go_sem];refine⟨_,_,Wk.fzCell (j:=h.length) (k:=h.length+3) (i:=0) (v:=1) (ty:=22) (cs:= [.osl (h.length+3) w 1 0 W.length]) (c:= .osl (h.length+3) w 1 0 W.length) (c':=strs W) ?n1 rfl ?n2 om ?n3,?_⟩
  case n1=>simp only[go_sem]
  case n2=>simp only[go_sem]
  case n3=>
   rw[qnp,getO_app];exact qaf (λ_=>rfl) rfl
  have c127:=λH hk=>qBr (l.getD k default).rds W h.length 1 H hk (hu.rd k) (hu.wd k) om
  rw[<-hbr]at c127;have k1:((k:Int)<l.length)=True:=wj;have k0:(0<=(k:Int))=True:=wj;obtain⟨u,hux⟩:=wg (l.getD k default)
  have eu:=hux.symm;simp only[eu]at c127;simp (disch:=omega) only[List.set_cons_zero,zu,unC,k0,k1,eu,go_sem]
  repeat' first|with_reducible apply aiA|exact clz|fail
  refine cA (c127 _ ?ka) (by exact flk) ?_
  case ka=>simp only[go_sem]
  simp (disch:=omega) only[go_sem]
  repeat' first|exact wa|fail
theorem qCx(s:Str)(h:wh)(hs:s.length<=1000000000):ACalls Tryz.prog 193 [.str s] h (.bool (qjH s)) h:=by
 have c1:=λh=>t53 s h hs
 unfold qjH
 by_cases g:s= []
 ·subst g;rw[dqt rfl,Bool.true_or];refine acO qpI ?_;simp (disch:=omega) only[qqM,go_sem]
  repeat' first|(refine qj ( .bool false) ?_;simp (disch:=omega) only[go_sem])|exact wc|fail
 ·have k1:(s= [])=False:=eqf g;rw[dqf g,Bool.false_or];refine acO qpI ?_;simp (disch:=omega) only[qqM,k1,go_sem]
  repeat' first|(refine cG (λe=>c1 _) flk ?_;simp (disch:=omega) only[go_sem])|exact wc|fail
theorem qr5(c:UInt8):SI c=(decide (kind c=1)||(decide (kind c=2)||(decide (kind c=3)||decide (kind c=4)))):=by
 unfold SI;cases decide (kind c=1)<;>cases decide (kind c=2)<;>cases decide (kind c=3)<;>rfl
theorem qD0(c:UInt8)(h:wh):ACalls Tryz.prog 192 [.int .u8 (c.toNat:Int)] h (.bool (SI c)) h:=by
 have c5:=λh=>qaH c h
 rw[qr5];obtain⟨k,hk⟩:=wg (kind c)
 rw[<-hk]at c5 ⊢
 by_cases g1:k=1
 ·have q1:(k=1)=True:=eqt g1;rw[dqt g1,Bool.true_or];refine acO qeV ?_;simp (disch:=omega) only[qid,go_sem]
  repeat' first|(refine cA (c5 _) flk ?_;simp (disch:=omega) only[q1,go_sem])|exact wc|fail
 have q1:(k=1)=False:=eqf g1;rw[dqf g1,Bool.false_or]
 by_cases g2:k=2
 ·have q2:(k=2)=True:=eqt g2;rw[dqt g2,Bool.true_or];refine acO qeV ?_;simp (disch:=omega) only[qid,go_sem]
  repeat' first|(refine cA (c5 _) flk ?_;simp (disch:=omega) only[q1,q2,go_sem])|exact wc|fail
 have q2:(k=2)=False:=eqf g2;rw[dqf g2,Bool.false_or]
 by_cases g3:k=3
 ·have q3:(k=3)=True:=eqt g3;rw[dqt g3,Bool.true_or];refine acO qeV ?_;simp (disch:=omega) only[qid,go_sem]
  repeat' first|(refine cA (c5 _) flk ?_;simp (disch:=omega) only[q1,q2,q3,go_sem])|exact wc|fail
 have q3:(k=3)=False:=eqf g3;rw[dqf g3,Bool.false_or];refine acO qeV ?_;simp (disch:=omega) only[qid,go_sem]
 repeat' first|(refine cA (c5 _) flk ?_;simp (disch:=omega) only[q1,q2,q3,go_sem])|exact wc|fail
theorem qAL: ∀f:Nat,f<32->decide ((f:Int)/2%2=1)=f.testBit 1:=by decide+kernel
theorem qAM: ∀f:Nat,f<32->decide ((f:Int)/8%2=1)=f.testBit 3:=by decide+kernel
theorem tkR(t:Tk)(h:wh)(hz:qpm t)(hp:kY SG h):ACalls Tryz.prog 143 [.agg (tkC t)] h (.int .i64 (tkE t)) h:=by
 obtain⟨R,hR⟩:=wg (tkE t)
 rw[<-hR];unfold tkE at hR
 by_cases g1:t.flags<0
 ·have k1:(t.flags<0)=True:=eqt g1;rw[ipo (.inl g1)]at hR;rw[hR];refine acO z7 ?_;simp (disch:=omega) only[jQ,tkC,go_sem]
  repeat' first|exact wa|(with_reducible first|intro _|apply aiA)|exact clz|fail
 have k1:(t.flags<0)=False:=eqf g1
 by_cases g2:31<t.flags
 ·have k2:((31:Int)<t.flags)=True:=eqt g2;rw[ipo (.inr g2)]at hR;rw[hR];refine acO z7 ?_;simp (disch:=omega) only[jQ,tkC,go_sem]
  repeat' first|exact wa|(with_reducible first|intro _|apply aiA)|exact clz|fail
 have k2:((31:Int)<t.flags)=False:=eqf g2;rw[ine om]at hR;obtain⟨f,hf⟩: ∃f:Nat,t.flags=(f:Int):=⟨t.flags.toNat,om⟩
 have hf2:f<32:=by omega
 have eg:qf5 t.flags=f.testBit 1:=by unfold qf5;rw[hf,itn]
 have ek:mkB t.flags=f.testBit 3:=by unfold mkB;rw[hf,itn]
 have dA:=λh=>qCt t.text t.norm t.page t.line t.flags 2 t.name h om om (by decide)
 have dB:=λh=>qCt t.text t.norm t.page t.line t.flags 8 t.name h om om (by decide)
 have cP:=λl=>qCx t.page (h++l) hz.pg
 have cM:=λl=>qCx t.name (h++l) hz.na
 have hG:=λl=>qDd t.text (h++l) hz.tx (hp.app l)
 have cW:=λl=>t93 t.text (h++l) hz.tx
 have cK:=λh=>qaH (ch t.text 0) h
 have e0:(t.text[0]?).getD 0=ch t.text 0:=by simp[ch,gdqA]
 unfold txB at hR;rw[eg,ek]at hR;rw[hf]at dA dB k1 k2;rw[qAL f hf2]at dA;rw[qAM f hf2]at dB;obtain⟨bp,hbp⟩: ∃b,b=qjH t.page:=⟨_,rfl⟩
 obtain⟨bm,hbm⟩: ∃b,b=qjH t.name:=⟨_,rfl⟩
 obtain⟨bg,hbg⟩: ∃b,b=qbN t.text:=⟨_,rfl⟩
 obtain⟨bw,hbw⟩: ∃b,b=jR t.text:=⟨_,rfl⟩
 rw[<-hbp,<-hbm,<-hbg,<-hbw]at hR;simp only[<-hbp]at cP;simp only[<-hbm]at cM;simp only[<-hbg]at hG;simp only[<-hbw]at cW;have eM:qp4 t.text=(decide (t.text.length=1)&&(decide (kind (ch t.text 0)=5)||decide (kind (ch t.text 0)=4))):=rfl;have eN:qun t.norm=(decide (t.norm≠ [])&&(decide (t.norm.length<=64)&&(List.range t.norm.length).all λi=>SI (ch t.norm i))):=rfl;rw[eM,eN]at hR;obtain⟨kd,hkd⟩:=wg (kind (ch t.text 0))
 rw[<-hkd]at hR cK;have q2:(t.text.length=1)=True->((0:Int)<t.text.length)=True:=λe=>eqt (by have:=of_eq_true e;omega)
 cases ga:f.testBit 1<;>cases gb:f.testBit 3<;>rw[ga]at hR dA<;>rw[gb]at hR dB<;>simp only[Bool.false_eq_true,if_true,if_false,and_true,and_false,and_self]at hR
 ·cases bw with
  |false=>
   rw[Bool.false_and,ipo rfl]at hR;rw[hR];refine acO z7 ?_;simp (disch:=omega) only[jQ,tkC,hf,k1,k2,go_sem]
   repeat' first|((first|refine cA (dA _) ?_ ?_|refine cA (dB _) ?_ ?_|refine cA (cW _) ?_ ?_);exact flk;simp (disch:=omega) only[go_sem])|exact wa|fail
  |true=>
  rw[Bool.true_and]at hR
  by_cases g5:t.norm= []
  ·have k5:(t.norm= [])=True:=eqt g5;rw[dqf (λhc=>hc g5),Bool.false_and,ipo rfl]at hR;rw[hR];refine acO z7 ?_;simp (disch:=omega) only[jQ,tkC,hf,k1,k2,go_sem]
   repeat' first|((first|refine cA (dA _) ?_ ?_|refine cA (dB _) ?_ ?_|refine cA (cW _) ?_ ?_);exact flk;simp (disch:=omega) only[k5,go_sem])|exact wa|fail
  have k5:(t.norm= [])=False:=eqf g5;rw[dqt g5,Bool.true_and]at hR
  by_cases g6:t.norm.length<=64
  case neg=>
   have k6:((64:Int)<t.norm.length)=True:=wj;rw[dqf g6,Bool.false_and,ipo rfl]at hR;rw[hR];refine acO z7 ?_;simp (disch:=omega) only[jQ,tkC,hf,k1,k2,go_sem]
   repeat' first|((first|refine cA (dA _) ?_ ?_|refine cA (dB _) ?_ ?_|refine cA (cW _) ?_ ?_);exact flk;simp (disch:=omega) only[k5,k6,go_sem])|exact wa|fail
  have k6:((64:Int)<t.norm.length)=False:=wm;rw[dqt g6,Bool.true_and]at hR;refine acO z7 ?_;simp (disch:=omega) only[jQ,tkC,hf,k1,k2,go_sem]
  repeat' first|((first|refine cA (dA _) ?_ ?_|refine cA (dB _) ?_ ?_|refine cA (cW _) ?_ ?_);exact flk;simp (disch:=omega) only[k5,k6,go_sem])
  refine qu (T:=λi:Nat=>zf 105 [(1,.op h.length 1 0),(5,.int .i64 i)]) (H:=λ_=>h++ [.mem 1 92 [.str t.text,.str t.norm,.str t.page,.int .i64 t.line,.int .i64 (f:Int),.str t.name]]) (inv:=λi=>i<=t.norm.length∧ ∀j,j<i->SI (ch t.norm j)=true) (m:=λi=>t.norm.length-i) 0 ⟨nzl _,λj hj=>absurd hj (nnz j)⟩ (Wk.temps ?_) ?_
  ·(simp only[go_sem,qg,qc,qb,qf];try exact we)
  rintro i ⟨i1,i2⟩ K hK
  by_cases hi:i<t.norm.length
  ·have r1:((i:Int)<t.norm.length)=True:=wj;have r0:(0<=(i:Int))=True:=wj;have ei:(t.norm[i]?).getD 0=ch t.norm i:=by unfold ch;exact (gdqA).symm
   have cV:=λh=>qD0 (ch t.norm i) h
   cases gi:SI (ch t.norm i)with
   |false=>
    rw[gi]at cV;have hall:((List.range t.norm.length).all λi=>SI (ch t.norm i))=false:=by
     rw[List.all_eq_false];exact⟨i,by simpa using hi,by rw[gi];simp⟩
    rw[hall,ipo rfl]at hR;rw[hR];simp (disch:=omega) only[r0,r1,ei,go_sem]
    repeat' first|(refine cA (cV _) flk ?_;simp (disch:=omega) only[go_sem])|exact wa|fail
   |true=>
    rw[gi]at cV;simp (disch:=omega) only[r0,r1,ei,go_sem]
    repeat' first|(refine cA (cV _) flk ?_;simp (disch:=omega) only[go_sem])
    refine hK _ _ (i+1) ⟨hi,λj hj=> ?_⟩ om (Wk.temps ?_)
    ·by_cases e:j=i
     ·subst e;exact gi
     ·exact i2 j om
    ·(simp only[go_sem,qg,qc,qb,qf];try exact we)
  have r1:((i:Int)<t.norm.length)=False:=wm;have hall:((List.range t.norm.length).all λi=>SI (ch t.norm i))=true:=by
   rw[List.all_eq_true];exact λj hj=>i2 j (by have:=List.mem_range.1 hj;omega)
  rw[hall,ine (by simp)]at hR;clear hK
  by_cases g4:t.line<0
  ·have k4:(t.line<0)=True:=eqt g4;rw[ipo g4]at hR;rw[hR];simp (disch:=omega) only[r1,k4,go_sem]
   repeat' first|exact wa|fail
  have k4:(t.line<0)=False:=eqf g4;rw[ine g4]at hR;cases bp with
  |false=>
   rw[ipo (.inl rfl)]at hR;rw[hR];simp (disch:=omega) only[r1,k4,go_sem]
   repeat' first|(refine qj ( .bool false) ?_;simp (disch:=omega) only[go_sem])|(refine cA (cP _) flk ?_;simp (disch:=omega) only[go_sem])|exact wa|fail
  |true=>
  cases bm with
  |false=>
   rw[ipo (.inr rfl)]at hR;rw[hR];simp (disch:=omega) only[r1,k4,go_sem]
   repeat' first|((first|refine cA (cP _) ?_ ?_|refine cG (λe=>cM _) ?_ ?_);exact flk;simp (disch:=omega) only[go_sem])|exact wa|with_reducible apply aiA|exact clz|fail
  |true=>
  rw[ine (by simp)]at hR;rw[hR];simp (disch:=omega) only[r1,k4,go_sem]
  repeat' first|((first|refine cA (cP _) ?_ ?_|refine cG (λe=>cM _) ?_ ?_);exact flk;simp (disch:=omega) only[go_sem])|exact wa|with_reducible apply aiA|exact clz|fail
 ·by_cases g5:t.text.length=1
  case neg=>
   have k5:((t.text.length:Int)=1)=False:=wm;rw[dqf g5,Bool.false_and,Bool.false_and,ipo rfl]at hR;rw[hR];refine acO z7 ?_;simp (disch:=omega) only[jQ,tkC,hf,k1,k2,go_sem]
   repeat' first|(refine qj ( .int .i64 0) ?_;simp (disch:=omega) only[go_sem])|((first|refine cA (dA _) ?_ ?_|refine cA (dB _) ?_ ?_);exact flk;simp (disch:=omega) only[k5,go_sem])|exact wa|(with_reducible first|intro _|apply aiA)|exact clz|fail
  have k5:((t.text.length:Int)=1)=True:=wj;have k6:((0:Int)<t.text.length)=True:=wj;rw[dqt g5,Bool.true_and]at hR
  by_cases g50:kd=5
  ·have k50:(kd=5)=True:=eqt g50;rw[dqt g50,Bool.true_or,Bool.true_and]at hR
   by_cases g7:t.norm=t.text
   case neg=>
    have k7:(t.norm=t.text)=False:=eqf g7;rw[dqf g7,ipo rfl]at hR;rw[hR];refine acO z7 ?_;simp (disch:=omega) only[jQ,tkC,hf,k1,k2,false_imp_iff,true_imp_iff,go_sem]
    repeat' first|(refine qj ( .int .i64 0) ?_;simp (disch:=omega) only[false_and,false_imp_iff,true_imp_iff,k7,go_sem])|((first|refine cA (dA _) ?_ ?_|refine cA (dB _) ?_ ?_|refine cG (λe=>cK _) ?_ ?_);exact flk;simp (disch:=omega) only[k5,k6,e0,Int.toNat_zero,k50,false_and,false_imp_iff,true_imp_iff,go_sem])|exact wa|(with_reducible first|intro _|apply aiA)|exact clz|fail
   have k7:(t.norm=t.text)=True:=eqt g7;rw[dqt g7,ine (by simp)]at hR
   by_cases g4:t.line<0
   ·have k4:(t.line<0)=True:=eqt g4;rw[ipo g4]at hR;rw[hR];refine acO z7 ?_;simp (disch:=omega) only[jQ,tkC,hf,k1,k2,false_imp_iff,true_imp_iff,go_sem]
    repeat' first|(refine qj ( .int .i64 0) ?_;simp (disch:=omega) only[false_and,false_imp_iff,true_imp_iff,k7,k4,go_sem])|((first|refine cA (dA _) ?_ ?_|refine cA (dB _) ?_ ?_|refine cG (λe=>cK _) ?_ ?_);exact flk;simp (disch:=omega) only[k5,k6,e0,Int.toNat_zero,k50,false_and,false_imp_iff,true_imp_iff,go_sem])|exact wa|with_reducible apply aiA|exact clz|fail
   have k4:(t.line<0)=False:=eqf g4;rw[ine g4]at hR;cases bp with
   |false=>
    rw[ipo (.inl rfl)]at hR;rw[hR];refine acO z7 ?_;simp (disch:=omega) only[jQ,tkC,hf,k1,k2,false_imp_iff,true_imp_iff,go_sem]
    repeat' first|(refine qj ( .int .i64 0) ?_;simp (disch:=omega) only[false_and,false_imp_iff,true_imp_iff,k7,k4,go_sem])|((first|refine cA (dA _) ?_ ?_|refine cA (dB _) ?_ ?_|refine cG (λe=>cK _) ?_ ?_|refine cA (cP _) ?_ ?_);exact flk;simp (disch:=omega) only[k5,k6,e0,Int.toNat_zero,k50,false_and,false_imp_iff,true_imp_iff,go_sem])|exact wa|with_reducible apply aiA|exact clz|fail
   |true=>
   cases bm with
   |false=>
    rw[ipo (.inr rfl)]at hR;rw[hR];refine acO z7 ?_;simp (disch:=omega) only[jQ,tkC,hf,k1,k2,false_imp_iff,true_imp_iff,go_sem]
    repeat' first|(refine qj ( .int .i64 0) ?_;simp (disch:=omega) only[false_and,false_imp_iff,true_imp_iff,k7,k4,go_sem])|((first|refine cA (dA _) ?_ ?_|refine cA (dB _) ?_ ?_|refine cG (λe=>cK _) ?_ ?_|refine cA (cP _) ?_ ?_|refine cG (λe=>cM _) ?_ ?_);exact flk;simp (disch:=omega) only[k5,k6,e0,Int.toNat_zero,k50,false_and,false_imp_iff,true_imp_iff,go_sem])|exact wa|with_reducible apply aiA|exact clz|fail
   |true=>
   rw[ine (by simp)]at hR;rw[hR];refine acO z7 ?_;simp (disch:=omega) only[jQ,tkC,hf,k1,k2,false_imp_iff,true_imp_iff,go_sem]
   repeat' first|(refine qj ( .int .i64 0) ?_;simp (disch:=omega) only[false_and,false_imp_iff,true_imp_iff,k7,k4,go_sem])|((first|refine cA (dA _) ?_ ?_|refine cA (dB _) ?_ ?_|refine cG (λe=>cK _) ?_ ?_|refine cA (cP _) ?_ ?_|refine cG (λe=>cM _) ?_ ?_);exact flk;simp (disch:=omega) only[k5,k6,e0,Int.toNat_zero,k50,false_and,false_imp_iff,true_imp_iff,go_sem])|exact wa|with_reducible apply aiA|exact clz|fail
  have k50:(kd=5)=False:=eqf g50;rw[dqf g50,Bool.false_or]at hR
  by_cases g40:kd=4
  ·have k40:(kd=4)=True:=eqt g40;rw[dqt g40,Bool.true_and]at hR
   by_cases g7:t.norm=t.text
   case neg=>
    have k7:(t.norm=t.text)=False:=eqf g7;rw[dqf g7,ipo rfl]at hR;rw[hR];refine acO z7 ?_;simp (disch:=omega) only[jQ,tkC,hf,k1,k2,go_sem]
    repeat' first|((first|refine cA (dA _) ?_ ?_|refine cA (dB _) ?_ ?_|refine cG (λe=>cK _) ?_ ?_);exact flk;simp (disch:=omega) only[k5,k6,e0,Int.toNat_zero,k50,k40,k7,go_sem])|exact wa|with_reducible apply aiA|exact clz|fail
   have k7:(t.norm=t.text)=True:=eqt g7;rw[dqt g7,ine (by simp)]at hR
   by_cases g4:t.line<0
   ·have k4:(t.line<0)=True:=eqt g4;rw[ipo g4]at hR;rw[hR];refine acO z7 ?_;simp (disch:=omega) only[jQ,tkC,hf,k1,k2,go_sem]
    repeat' first|((first|refine cA (dA _) ?_ ?_|refine cA (dB _) ?_ ?_|refine cG (λe=>cK _) ?_ ?_);exact flk;simp (disch:=omega) only[k5,k6,e0,Int.toNat_zero,k50,k40,k7,k4,go_sem])|exact wa|with_reducible apply aiA|exact clz|fail
   have k4:(t.line<0)=False:=eqf g4;rw[ine g4]at hR;cases bp with
   |false=>
    rw[ipo (.inl rfl)]at hR;rw[hR];refine acO z7 ?_;simp (disch:=omega) only[jQ,tkC,hf,k1,k2,go_sem]
    repeat' first|(refine qj ( .bool false) ?_;simp (disch:=omega) only[go_sem])|((first|refine cA (dA _) ?_ ?_|refine cA (dB _) ?_ ?_|refine cG (λe=>cK _) ?_ ?_|refine cA (cP _) ?_ ?_);exact flk;simp (disch:=omega) only[k5,k6,e0,Int.toNat_zero,k50,k40,k7,k4,go_sem])|exact wa|with_reducible apply aiA|exact clz|fail
   |true=>
   cases bm with
   |false=>
    rw[ipo (.inr rfl)]at hR;rw[hR];refine acO z7 ?_;simp (disch:=omega) only[jQ,tkC,hf,k1,k2,go_sem]
    repeat' first|((first|refine cA (dA _) ?_ ?_|refine cA (dB _) ?_ ?_|refine cG (λe=>cK _) ?_ ?_|refine cA (cP _) ?_ ?_|refine cG (λe=>cM _) ?_ ?_);exact flk;simp (disch:=omega) only[k5,k6,e0,Int.toNat_zero,k50,k40,k7,k4,go_sem])|exact wa|with_reducible apply aiA|exact clz|fail
   |true=>
   rw[ine (by simp)]at hR;rw[hR];refine acO z7 ?_;simp (disch:=omega) only[jQ,tkC,hf,k1,k2,go_sem]
   repeat' first|((first|refine cA (dA _) ?_ ?_|refine cA (dB _) ?_ ?_|refine cG (λe=>cK _) ?_ ?_|refine cA (cP _) ?_ ?_|refine cG (λe=>cM _) ?_ ?_);exact flk;simp (disch:=omega) only[k5,k6,e0,Int.toNat_zero,k50,k40,k7,k4,go_sem])|exact wa|with_reducible apply aiA|exact clz|fail
  have k40:(kd=4)=False:=eqf g40;rw[dqf g40,Bool.false_and,ipo rfl]at hR;rw[hR];refine acO z7 ?_;simp (disch:=omega) only[jQ,tkC,hf,k1,k2,go_sem]
  repeat' first|((first|refine cA (dA _) ?_ ?_|refine cA (dB _) ?_ ?_|refine cG (λe=>cK _) ?_ ?_);exact flk;simp (disch:=omega) only[k5,k6,e0,Int.toNat_zero,k50,k40,go_sem])|exact wa|with_reducible apply aiA|exact clz|fail
 ·cases bg with
  |false=>
   rw[Bool.false_and,ipo rfl]at hR;rw[hR];refine acO z7 ?_;simp (disch:=omega) only[jQ,tkC,hf,k1,k2,go_sem]
   repeat' first|((first|refine cA (dA _) ?_ ?_|refine cA (dB _) ?_ ?_|refine cA (hG _) ?_ ?_);exact flk;simp (disch:=omega) only[go_sem])|exact wa|fail
  |true=>
  rw[Bool.true_and]at hR
  by_cases g7:t.norm=t.text
  case neg=>
   have k7:(t.norm=t.text)=False:=eqf g7;rw[dqf g7,ipo rfl]at hR;rw[hR];refine acO z7 ?_;simp (disch:=omega) only[jQ,tkC,hf,k1,k2,go_sem]
   repeat' first|((first|refine cA (dA _) ?_ ?_|refine cA (dB _) ?_ ?_|refine cA (hG _) ?_ ?_);exact flk;simp (disch:=omega) only[k7,go_sem])|exact wa|fail
  have k7:(t.norm=t.text)=True:=eqt g7;rw[dqt g7,ine (by simp)]at hR
  by_cases g4:t.line<0
  ·have k4:(t.line<0)=True:=eqt g4;rw[ipo g4]at hR;rw[hR];refine acO z7 ?_;simp (disch:=omega) only[jQ,tkC,hf,k1,k2,go_sem]
   repeat' first|((first|refine cA (dA _) ?_ ?_|refine cA (dB _) ?_ ?_|refine cA (hG _) ?_ ?_);exact flk;simp (disch:=omega) only[k7,k4,go_sem])|exact wa|fail
  have k4:(t.line<0)=False:=eqf g4;rw[ine g4]at hR;cases bp with
  |false=>
   rw[ipo (.inl rfl)]at hR;rw[hR];refine acO z7 ?_;simp (disch:=omega) only[jQ,tkC,hf,k1,k2,go_sem]
   repeat' first|(refine qj ( .bool false) ?_;simp (disch:=omega) only[go_sem])|((first|refine cA (dA _) ?_ ?_|refine cA (dB _) ?_ ?_|refine cA (hG _) ?_ ?_|refine cA (cP _) ?_ ?_);exact flk;simp (disch:=omega) only[k7,k4,go_sem])|exact wa|fail
  |true=>
  cases bm with
  |false=>
   rw[ipo (.inr rfl)]at hR;rw[hR];refine acO z7 ?_;simp (disch:=omega) only[jQ,tkC,hf,k1,k2,go_sem]
   repeat' first|((first|refine cA (dA _) ?_ ?_|refine cA (dB _) ?_ ?_|refine cA (hG _) ?_ ?_|refine cA (cP _) ?_ ?_|refine cG (λe=>cM _) ?_ ?_);exact flk;simp (disch:=omega) only[k7,k4,go_sem])|exact wa|with_reducible apply aiA|exact clz|fail
  |true=>
  rw[ine (by simp)]at hR;rw[hR];refine acO z7 ?_;simp (disch:=omega) only[jQ,tkC,hf,k1,k2,go_sem]
  repeat' first|((first|refine cA (dA _) ?_ ?_|refine cA (dB _) ?_ ?_|refine cA (hG _) ?_ ?_|refine cA (cP _) ?_ ?_|refine cG (λe=>cM _) ?_ ?_);exact flk;simp (disch:=omega) only[k7,k4,go_sem])|exact wa|with_reducible apply aiA|exact clz|fail
 ·rw[hR];refine acO z7 ?_;simp (disch:=omega) only[jQ,tkC,hf,k1,k2,go_sem]
  repeat' first|((first|refine cA (dA _) ?_ ?_|refine cA (dB _) ?_ ?_);exact flk;simp (disch:=omega) only[go_sem])|exact wa|fail
theorem qzl(s:Str)(h:wh)(hs:s.length<=1000000000):ACalls Tryz.prog 142 [.str s] h (.bool (qfg s)) h:=by
 unfold qfg;have c1:=λh=>t53 s h hs
 by_cases g:1<=s.length
 ·rw[qoQ s g];have k0:((0:Int)<s.length)=True:=wj;have k2:((s.length:Int)-1).toNat=s.length-1:=by omega
  have k3:(0<=(s.length:Int)-1)=True:=wj;have k4:((s.length:Int)-1<=s.length)=True:=wj;have k5:((s.length:Int)-1<s.length)=True:=wj;obtain⟨b,hb⟩:=wg ((s[s.length-1]?).getD 0)
  have eb:=hb.symm;rw[eb];have c2:=λh=>t53 (s.take (s.length-1)) h (by simp;omega)
  by_cases g2:b.toNat=42
  ·have k6:((b.toNat:Int)=42)=True:=wj;rw[ipo (by simpa using g2)]
   by_cases g3:s.length<=16
   ·have k7:((s.length:Int)<=16)=True:=wj;rw[dqt g3];refine acO qeS ?_;simp (disch:=omega) only[qia,k0,k2,k3,k4,k5,eb,k6,k7,go_sem]
    repeat' first|(refine cG (λe=>c2 _) flk ?_;simp (disch:=omega) only[go_sem])|exact wc|with_reducible apply aiA|exact clz|fail
   ·have k7:((s.length:Int)<=16)=False:=wm;rw[dqf g3];refine acO qeS ?_;simp (disch:=omega) only[qia,k0,k2,k3,k4,k5,eb,k6,k7,go_sem]
    repeat' first|(refine qj ( .bool false) ?_;simp (disch:=omega) only[go_sem])|exact wc|fail
  ·have k6:((b.toNat:Int)=42)=False:=wm;rw[ine (by simpa using g2)];refine acO qeS ?_;simp (disch:=omega) only[qia,k0,k2,k3,k4,k5,eb,k6,go_sem]
   repeat' first|(refine cA (c1 _) flk ?_;simp (disch:=omega) only[go_sem])|exact wc|fail
 ·have e:s= []:=List.eq_nil_of_length_eq_zero om;subst e;rw[ine (by decide)];refine acO qeS ?_;simp (disch:=omega) only[qia,go_sem]
  repeat' first|((first|refine cA (c1 _) ?_ ?_|refine cG (λe=>c1 _) ?_ ?_);exact flk;simp (disch:=omega) only[go_sem])|exact wc|(with_reducible first|intro _|apply aiA)|exact clz|fail
theorem hdR(x:Co)(h:wh)(hz:qaN x)(hp:kY SG h):ACalls Tryz.prog 87 [.str x.sec,strs x.sig,qm x.tok] h (.int .i64 (srE x)) h:=by
 obtain⟨R,hR⟩:=wg (srE x)
 rw[<-hR];unfold srE at hR;have z1:=hz.sg;have z2:=hz.tk;have cN:=λh=>t53 x.sec h hz.sc
 cases g0:j8 x.sec with
 |false=>
  rw[g0]at cN;rw[ipo g0]at hR;rw[hR];refine acO qnj ?_;simp (disch:=omega) only[qv5,strs,qm,go_sem]
  repeat' first|(refine cA (cN _) flk ?_;simp (disch:=omega) only[go_sem])|exact wc|fail
 |true=>
 rw[g0]at cN;rw[ine (by rw[g0];simp)]at hR
 by_cases g1:x.sig.length=0
 ·have k1:((x.sig.length:Int)=0)=True:=wj;rw[ipo g1]at hR;rw[hR];refine acO qnj ?_;simp (disch:=omega) only[qv5,strs,qm,go_sem]
  repeat' first|(refine cA (cN _) flk ?_;simp (disch:=omega) only[k1,go_sem])|exact wc|fail
 have k1:((x.sig.length:Int)=0)=False:=wm;rw[ine g1]at hR
 by_cases g2:32<x.sig.length
 ·have k2:((32:Int)<x.sig.length)=True:=wj;rw[ipo g2]at hR;rw[hR];refine acO qnj ?_;simp (disch:=omega) only[qv5,strs,qm,go_sem]
  repeat' first|(refine cA (cN _) flk ?_;simp (disch:=omega) only[k1,k2,go_sem])|exact wc|fail
 have k2:((32:Int)<x.sig.length)=False:=wm;rw[ine g2]at hR;refine acO qnj ?_;simp (disch:=omega) only[qv5,strs,qm,go_sem]
 repeat' first|(refine cA (cN _) flk ?_;simp (disch:=omega) only[k1,k2,go_sem])
 refine qu (T:=λi:Nat=>zf 81 [(1,strs x.sig),(2,qm x.tok),(7,.int .i64 i)]) (H:=λ_=>h) (inv:=λi=>i<=x.sig.length∧ ∀j,j<i->jE x.sig j=0) (m:=λi=>x.sig.length-i) 0 ⟨nzl _,λj hj=>by omega⟩ (Wk.temps ?_) ?_
 ·(simp only[strs,qm,go_sem,qg,qc,qb,qf];try exact we)
 rintro i ⟨i1,i2⟩ K hK
 by_cases hi:i<x.sig.length
 ·have k3:((i:Int)<x.sig.length)=True:=wj;have hE:=kM (f:=jE x.sig) hi i2;have hs:jE x.sig i=if qfg (x.sig.getD i [])=false then 14 else if jp (λj=>decide (x.sig.getD i []=x.sig.getD j [])) i=true then 7 else 0:=rfl
  have c87:=λh=>qzl (x.sig.getD i []) h (hz.ss i)
  obtain⟨s,hsx⟩:=wg (x.sig.getD i [])
  have es:=hsx.symm;rw[es]at hs c87;cases g3:qfg s with
  |false=>
   rw[g3]at c87;rw[ipo g3]at hs;have hne:SE (jE x.sig) 0 x.sig.length≠0:=by rw[hE (by rw[hs];decide),hs];decide
   have hV:R=14:=by rw[hR,ipo hne,hE (by rw[hs];decide),hs]
   rw[hV];simp (disch:=omega) only[strs,qm,k3,es,go_sem]
   repeat' first|(refine cA (c87 _) flk ?_;simp (disch:=omega) only[go_sem])|exact wc|with_reducible apply aiA|exact clz|fail
  |true=>
  rw[g3]at c87;rw[ine (by rw[g3];simp)]at hs;simp (disch:=omega) only[strs,qm,k3,es,go_sem]
  repeat' first|(refine cA (c87 _) flk ?_;simp (disch:=omega) only[go_sem])|with_reducible apply aiA|exact clz|fail
  refine qu (T:=λk:Nat=>zf 81 [(1,strs x.sig),(2,qm x.tok),(7,.int .i64 i),(8,.int .i64 k)]) (H:=λ_=>h) (inv:=λk=>k<=i∧ ∀j,j<k-> ¬s=x.sig.getD j []) (m:=λk=>i-k) 0 ⟨nzl _,λj hj=>by omega⟩ (Wk.temps ?_) ?_
  ·(simp only[strs,qm,go_sem,qg,qc,qb,qf];try exact we)
  rintro k ⟨u1,u2⟩ K2 hK2
  by_cases hk:k<i
  ·have t1:((k:Int)<i)=True:=wj;have t2:((k:Int)<x.sig.length)=True:=wj;obtain⟨y,hy⟩:=wg (x.sig.getD k [])
   have ey:=hy.symm
   by_cases g4:y=s
   ·have k4:(y=s)=True:=eqt g4;rw[ipo (qR.2 ⟨k,hk,by rw[ey,g4];simp⟩)]at hs;have hne:SE (jE x.sig) 0 x.sig.length≠0:=by rw[hE (by rw[hs];decide),hs];decide
    have hV:R=7:=by rw[hR,ipo hne,hE (by rw[hs];decide),hs]
    rw[hV];simp (disch:=omega) only[strs,qm,k3,t1,t2,k4,es,ey,go_sem]
    repeat' first|exact wc|with_reducible apply aiA|exact clz|fail
   ·have k4:(y=s)=False:=eqf g4;simp (disch:=omega) only[strs,qm,k3,t1,t2,k4,es,ey,go_sem]
    repeat' first|with_reducible apply aiA|exact clz|fail
    refine hK2 _ _ (k+1) ⟨hk,λj hj=> ?_⟩ om (Wk.temps ?_)
    ·by_cases e:j=k
     ·subst e;rw[ey];exact λe=>g4 e.symm
     ·exact u2 j om
    ·(simp only[strs,qm,go_sem,qg,qc,qb,qf];try exact we)
  ·have t1:((k:Int)<i)=False:=wm;obtain rfl:k=i:=by omega
   rw[ine (by rw[qt.2 λj hj=>dqf (u2 j hj)];simp)]at hs;simp (disch:=omega) only[strs,qm,t1,go_sem];refine hK _ _ (k+1) ⟨hi,λj hj=> ?_⟩ om (Wk.temps ?_)
   ·by_cases e:j=k
    ·subst e;exact hs
    ·exact i2 j om
   ·(simp only[strs,qm,go_sem,qg,qc,qb,qf];try exact we)
 have k3:((i:Int)<x.sig.length)=False:=wm;have hn0:=z8 (f:=jE x.sig) (λj (hj:j<x.sig.length)=>i2 j om);rw[ine (λhc=>hc hn0)]at hR
 by_cases g5:x.tok.length=x.sig.length
 case neg=>
  have k5:((x.tok.length:Int)=x.sig.length)=False:=wm;rw[ipo g5]at hR;rw[hR];simp (disch:=omega) only[strs,qm,k3,k5,go_sem]
  repeat' first|exact wc|fail
 have k5:((x.tok.length:Int)=x.sig.length)=True:=wj;rw[ine (λhc=>hc g5)]at hR;clear hK;simp (disch:=omega) only[strs,qm,k3,k5,go_sem];obtain⟨rw0,hrw⟩: ∃f:Nat->Int,f=λi=>qch (x.tok.getD i []):=⟨_,rfl⟩
 have er: ∀i,rw0 i=qch (x.tok.getD i []):=λi=>by rw[hrw]
 rw[<-hrw]at hR;refine qu (T:=λi:Nat=>zf 81 [(2,qm x.tok),(9,.int .i64 i)]) (H:=λ_=>h) (inv:=λi=>i<=x.tok.length∧ ∀j,j<i->rw0 j=0) (m:=λi=>x.tok.length-i) 0 ⟨nzl _,λj hj=>by omega⟩ (Wk.temps ?_) ?_
 ·(simp only[qm,go_sem,qg,qc,qb,qf];try exact we)
 rintro i ⟨i1,i2⟩ K hK
 by_cases hi:i<x.tok.length
 ·have k6:((i:Int)<x.tok.length)=True:=wj;have hE:=kM (f:=rw0) hi i2;have hs:=er i;have zl:=hz.tl i;have zt:=hz.te i;obtain⟨l,hl⟩:=wg (x.tok.getD i [])
  have el:=hl.symm;rw[el]at hs zl;simp only[el]at zt;unfold qch at hs
  by_cases g6:1024<l.length
  ·have k7:((1024:Int)<l.length)=True:=wj;rw[ipo g6]at hs;have hV:R=4:=by rw[hR,hE (by rw[hs];decide),hs]
   rw[hV];simp (disch:=omega) only[qm,zT,k6,k7,el,go_sem]
   repeat' first|exact wc|with_reducible apply aiA|exact clz|fail
  have k7:((1024:Int)<l.length)=False:=wm;rw[ine g6]at hs;simp (disch:=omega) only[qm,zT,k6,k7,el,go_sem]
  repeat' first|with_reducible apply aiA|exact clz|fail
  refine qu (T:=λk:Nat=>zf 81 [(2,qm x.tok),(9,.int .i64 i),(10,.int .i64 k)]) (H:=λ_=>h) (inv:=λk=>k<=l.length∧ ∀j,j<k->tkE (l.getD j default)=0) (m:=λk=>l.length-k) 0 ⟨nzl _,λj hj=>by omega⟩ (Wk.temps ?_) ?_
  ·(simp only[qm,zT,go_sem,qg,qc,qb,qf];try exact we)
  rintro k ⟨u1,u2⟩ K2 hK2
  by_cases hk:k<l.length
  ·have t1:((k:Int)<l.length)=True:=wj;have cT:=tkR (l.getD k default) h (zt k) hp;obtain⟨t,ht⟩:=wg (l.getD k default)
   have et:=ht.symm;rw[et]at cT;obtain⟨e,he⟩:=wg (tkE t)
   rw[<-he]at cT;unfold tkC at cT
   by_cases g7:e=0
   ·have k8:(e=0)=True:=eqt g7;simp (disch:=omega) only[qm,zT,tkC,k6,t1,el,et,go_sem]
    repeat' first|(refine cA (cT) flk ?_;simp (disch:=omega) only[k8,go_sem])|with_reducible apply aiA|exact clz|fail
    refine hK2 _ _ (k+1) ⟨hk,λj hj=> ?_⟩ om (Wk.temps ?_)
    ·by_cases e:j=k
     ·subst e;rw[et,<-he];exact g7
     ·exact u2 j om
    ·(simp only[qm,zT,go_sem,qg,qc,qb,qf];try exact we)
   ·have k8:(e=0)=False:=eqf g7;rw[ipo (qR.2 ⟨k,hk,by rw[et,<-he];simp[g7]⟩)]at hs;have hV:R=1:=by rw[hR,hE (by rw[hs];decide),hs]
    rw[hV];simp (disch:=omega) only[qm,zT,tkC,k6,t1,el,et,go_sem]
    repeat' first|(refine cA (cT) flk ?_;simp (disch:=omega) only[k8,go_sem])|exact wc|with_reducible apply aiA|exact clz|fail
  ·have t1:((k:Int)<l.length)=False:=wm;rw[ine (by rw[qt.2 λj (hj:j<l.length)=>by rw[u2 j om];simp];simp)]at hs;simp (disch:=omega) only[qm,zT,k6,t1,el,go_sem]
   repeat' first|with_reducible apply aiA|exact clz|fail
   refine hK _ _ (i+1) ⟨hi,λj hj=> ?_⟩ om (Wk.temps ?_)
   ·by_cases e:j=i
    ·subst e;exact hs
    ·exact i2 j om
   ·(simp only[qm,zT,go_sem,qg,qc,qb,qf];try exact we)
 ·have k6:((i:Int)<x.tok.length)=False:=wm;rw[z8 (λj (hj:j<x.tok.length)=>i2 j om)]at hR;rw[hR];simp (disch:=omega) only[qm,k6,go_sem]
  repeat' first|exact wc|fail
theorem coR(x:Co)(h:wh)(hz:qaN x)(hp:kY SG h):ACalls Tryz.prog 29 [.agg (coC x)] h (.int .i64 (coE x)) h:=by
 have c1:=λl=>hdR x (h++l) hz (hp.app l)
 unfold coE
 by_cases g:srE x=0
 case neg=>
  have k1:(srE x=0)=False:=eqf g;rw[ipo g];obtain⟨e,he⟩:=wg (srE x)
  rw[<-he]at c1 k1 ⊢;refine acO qxK ?_;simp (disch:=omega) only[qAo,coC,go_sem]
  repeat' first|(refine cA (c1 _) flk ?_;simp (disch:=omega) only[k1,go_sem])|exact wa|fail
 rw[ine (λhc=>hc g)];obtain⟨o1,o2,o3,o4⟩:=qql g;rw[g]at c1;have zg1: ∀g,valL g .len [strs x.sig]= .int .i64 x.tok.length:=λ_=>by rw[o3];rfl
 have zg2: ∀g,okL g .len [strs x.sig]=True:=λ_=>eqt trivial
 have hn:=hz.tk;have hc:=hz.cl;have hl:=hz.tl;have hm:=hz.ce;obtain⟨R,hR⟩:=wg (if alB x.tok x.col=false then (19:Int) else 0)
 rw[<-hR];have k0:(0<=(x.tok.length:Int))=True:=wj;have k1:((x.tok.length:Int)<=9223372036854775807)=True:=wj;have eS:=o3.symm;refine acO qxK ?_;simp (disch:=omega) only[qAo,coC,go_sem]
 repeat' first|(refine cA (c1 _) flk ?_;simp (disch:=omega) only[k0,zg1,zg2,go_sem])|with_reducible apply aiA|exact clz|fail
 all_goals try rw[itn]
 rw[qdW];obtain⟨tok,htok⟩:=wg x.tok
 obtain⟨col,hcol⟩:=wg x.col
 have eS2:x.sig.length=tok.length:=by rw[htok];exact eS
 rw[<-htok,<-hcol]at hR;rw[<-htok]at k0 k1 hn;simp only[<-htok]at hl o4;rw[<-hcol]at hc;simp only[<-hcol]at hm;have eC:coC x= [.str x.sec,strs x.sig,qm tok,qp col]:=by rw[htok,hcol];rfl
 have zc:qp col= .sl col.length λi=> [qy (col.getD i [])]:=rfl
 have zt:qm tok= .sl tok.length λi=> [zT (tok.getD i [])]:=rfl
 try simp only[<-htok,<-hcol]
 rw[<-quF (col:=col)];refine qu (T:=λi:Nat=>zf 99 [(1,.op h.length 1 0),(4,.osl (h.length+1) 1 1 0 tok.length),(5,.int .i64 i)])
  (H:=λi=>h++ [.mem 1 26 [.str x.sec,strs x.sig,qm tok,qp col],.mem 1 3 (gC (atA col i 0) tok.length)])
  (inv:=λi=>i<=col.length∧ ∀j,j<i->qcO tok col j=true) (m:=λi=>col.length-i) 0 ⟨nzl _,λj hj=>absurd hj (nnz j)⟩ (Wk.temps ?_) ?_
 ·(simp only[strs,zt,zc,go_sem,qg,qc,qb,qf];try exact we)
 rintro i ⟨i1,i2⟩ K hK
 by_cases hi:i<col.length
 ·have k2:((i:Int)<col.length)=True:=wj;have ki:(0<=(i:Int))=True:=wj;have hno:qcO tok col i=false->R=19:=λhx=>by rw[hR,quz hi hx,ipo rfl]
  have hlen:= @qiE tok col i;have hen:= @qpy tok col i;have heq:= @qpz tok col i;have hskip:= @qeE col i;have hstep:= @qeF col i;have hmi:=hm i;have hE: ∀s,enB tok col i s=(decide ((col.getD i []).getD s 0= -1)||(decide ((col.getD i []).getD s 0=(cnC col s i:Int))&&decide ((col.getD i []).getD s 0<((tok.getD s []).length:Int)))):=λ_=>rfl
  obtain⟨c,hcx⟩:=wg (col.getD i [])
  have ec:=hcx.symm;rw[ec]at hlen heq hmi;simp only[ec]at hskip hstep hE
  by_cases g1:c.length=tok.length
  case neg=>
   have k3:((c.length:Int)=tok.length)=False:=wm;rw[hno (hlen g1)];simp (disch:=omega) only[zc,qy,k2,ki,k3,ec,go_sem]
   repeat' first|exact wa|with_reducible apply aiA|exact clz|fail
  have k3:((c.length:Int)=tok.length)=True:=wj;have heq:=heq g1;simp (disch:=omega) only[zc,qy,k2,ki,k3,ec,go_sem]
  repeat' first|with_reducible apply aiA|exact clz|fail
  refine qu (T:=λs:Nat=>zf 99 [(1,.op h.length 1 0),(4,.osl (h.length+1) 1 1 0 tok.length),(5,.int .i64 i),(6,qy c),(7,.bool (jp (λs=> !decide (c.getD s 0= -1)) s)),(8,.int .i64 s)])
   (H:=λs=>h++ [.mem 1 26 [.str x.sec,strs x.sig,qm tok,qp col],.mem 1 3 (gC (atA col i s) tok.length)])
   (inv:=λs=>s<=c.length∧ ∀j,j<s->enB tok col i j=true) (m:=λs=>c.length-s) 0 ⟨nzl _,λj hj=>absurd hj (nnz j)⟩ (Wk.temps ?_) ?_
  ·(simp only[qy,go_sem,qg,qc,qb,qf];try exact we)
  rintro s ⟨s1,s2⟩ K2 hK2
  by_cases hs:s<c.length
  ·have t1:((s:Int)<c.length)=True:=wj;have t0:(0<=(s:Int))=True:=wj;have hsn:s<tok.length:=by omega
   have t2:((s:Int)<tok.length)=True:=wj;have t3:(s<tok.length)=True:=eqt hsn;have t4:(s+1<=tok.length)=True:=eqt hsn;have gl:=kn (atA col i s) tok.length;have gg:=RZ (g:=atA col i s) hsn;rw[qpr]at gg;have hsk:=hskip (s:=s) (n:=tok.length);have hst:=hstep (s:=s) hsn;have hcn:= @qpx col s i;have hlt:=hl s;have hEs:=hE s;have hap:=qcD (λs=> !decide (c.getD s 0= -1)) s;obtain⟨t,ht⟩:=wg (c.getD s 0)
   obtain⟨l,hlx⟩:=wg (tok.getD s [])
   have et:=ht.symm;have el:=hlx.symm;rw[et]at hsk hst hEs;rw[el]at hEs hlt;simp only[et]at hap;obtain⟨a,ha⟩:=wg (jp (λs=> !decide (c.getD s 0= -1)) s)
   have ea:=ha.symm;rw[ea]at hap;obtain⟨q,hq⟩: ∃q:Nat,q=cnC col s i:=⟨_,rfl⟩
   have eq:=hq.symm;rw[eq]at hst hEs hcn gg;have b2:((q:Int)+1<=9223372036854775807)=True:=wj;have b3:(-9223372036854775808<=(q:Int)+1)=True:=wj
   by_cases g2:t= -1
   ·have k4:(t= -1)=True:=eqt g2;rw[dqt g2,Bool.true_or]at hEs;have hap':jp (λs=> !decide (c.getD s 0= -1)) (s+1)=a:=by rw[hap,dqt g2];simp
    simp (disch:=omega) only[qy,t0,t1,t2,t3,k4,et,ea,gl,gg,Nat.mul_one,Nat.zero_add,go_sem]
    repeat' first|with_reducible apply aiA|exact clz|fail
    rw[hsk g2];refine hK2 _ _ (s+1) ⟨hs,λj hj=> ?_⟩ om (Wk.temps ?_)
    ·by_cases e:j=s
     ·subst e;exact hEs
     ·exact s2 j om
    ·rw[hap']
     (simp only[qy,go_sem,qg,qc,qb,qf];try exact we)
   have k4:(t= -1)=False:=eqf g2;rw[dqf g2,Bool.false_or]at hEs;have hap':jp (λs=> !decide (c.getD s 0= -1)) (s+1)=true:=by rw[hap,dqf g2];simp
   by_cases g3:t=(q:Int)
   case neg=>
    have k5:(t=(q:Int))=False:=eqf g3;rw[dqf g3,Bool.false_and]at hEs;rw[hno (hen hsn hEs)];simp (disch:=omega) only[zt,qy,t0,t1,t2,t3,t4,k4,k5,et,ea,gl,gg,Nat.mul_one,Nat.zero_add,go_sem]
    repeat' first|exact wa|with_reducible apply aiA|exact clz|fail
   have k5:(t=(q:Int))=True:=eqt g3;rw[dqt g3,Bool.true_and]at hEs
   by_cases g4:(l.length:Int)<=t
   ·have k6:((l.length:Int)<=t)=True:=eqt g4;rw[dqf om]at hEs;rw[hno (hen hsn hEs)];simp (disch:=omega) only[zt,zT,qy,t0,t1,t2,t3,t4,k4,k5,k6,et,ea,el,gl,gg,Nat.mul_one,Nat.zero_add,go_sem]
    repeat' first|exact wa|with_reducible apply aiA|exact clz|fail
   ·have k6:((l.length:Int)<=t)=False:=eqf g4;rw[dqt om]at hEs;have hst:=hst g2;simp (disch:=omega) only[zt,zT,qy,t0,t1,t2,t3,t4,k4,k5,k6,et,ea,el,gl,gg,hst,Nat.mul_one,Nat.zero_add,Option.isSome_some,go_sem]
    repeat' first|with_reducible apply aiA|exact clz|fail
    try rw[hst]
    refine hK2 _ _ (s+1) ⟨hs,λj hj=> ?_⟩ om (Wk.temps ?_)
    ·by_cases e:j=s
     ·subst e;exact hEs
     ·exact s2 j om
    ·rw[hap']
     (simp only[qy,go_sem,qg,qc,qb,qf];try exact we)
  ·have t1:((s:Int)<c.length)=False:=wm;have es:s=tok.length:=by omega
   have heq:=heq λj hj=>s2 j om
   rw[<-es]at heq;cases ga:jp (λs=> !decide (c.getD s 0= -1)) s with
   |false=>
    rw[ga]at heq;rw[hno heq];simp (disch:=omega) only[qy,t1,go_sem]
    repeat' first|exact wa|fail
   |true=>
    rw[ga]at heq;simp (disch:=omega) only[qy,t1,go_sem];have ege:gC (atA col i s) tok.length=gC (atA col (i+1) 0) tok.length:=by rw[es];exact qhi _
    rw[ege];refine hK _ _ (i+1) ⟨hi,λj hj=> ?_⟩ om (Wk.temps ?_)
    ·by_cases e:j=i
     ·subst e;exact heq
     ·exact i2 j om
    ·(simp only[go_sem,qg,qc,qb,qf];try exact we)
 have k2:((i:Int)<col.length)=False:=wm;obtain rfl:i=col.length:=by omega
 clear hK;simp (disch:=omega) only[zc,k2,go_sem]
 repeat' first|with_reducible apply aiA|exact clz|fail
 refine qu (T:=λs:Nat=>zf 99 [(1,.op h.length 1 0),(4,.osl (h.length+1) 1 1 0 tok.length),(9,.int .i64 s)])
  (H:=λ_=>h++ [.mem 1 26 [.str x.sec,strs x.sig,qm tok,qp col],.mem 1 3 (gC (atA col col.length 0) tok.length)])
  (inv:=λs=>s<=tok.length∧ ∀j,j<s->cnC col j col.length=(tok.getD j []).length) (m:=λs=>tok.length-s) 0 ⟨nzl _,λj hj=>absurd hj (nnz j)⟩ (Wk.temps ?_) ?_
 ·(simp only[go_sem,qg,qc,qb,qf];try exact we)
 rintro s ⟨s1,s2⟩ K hK
 by_cases hs:s<tok.length
 ·have t1:((s:Int)<tok.length)=True:=wj;have t0:(0<=(s:Int))=True:=wj;have t3:(s<tok.length)=True:=eqt hs;have t4:(s+1<=tok.length)=True:=eqt hs;have gl:=kn (atA col col.length 0) tok.length;have gg:=RZ (g:=atA col col.length 0) hs;have e0:atA col col.length 0 s= .int .i64 (cnC col s col.length:Int):=by unfold atA;rw[ine (nnz _)]
  rw[e0]at gg;have hno:= @qpo tok col s hs;obtain⟨q,hq⟩: ∃q:Nat,q=cnC col s col.length:=⟨_,rfl⟩
  have eq:=hq.symm;have hs2:q=(tok.getD s []).length->cnC col s col.length=(tok.getD s []).length:=λe=>by rw[<-hq];exact e
  rw[eq]at gg hno;obtain⟨l,hlx⟩:=wg (tok.getD s [])
  have el:=hlx.symm;rw[el]at hno hs2
  by_cases g:q=l.length
  ·have k5:((q:Int)=l.length)=True:=wj;simp (disch:=omega) only[zt,zT,t0,t1,t3,k5,el,gl,gg,Nat.mul_one,Nat.zero_add,go_sem]
   repeat' first|with_reducible apply aiA|exact clz|fail
   refine hK _ _ (s+1) ⟨hs,λj hj=> ?_⟩ om (Wk.temps ?_)
   ·by_cases e:j=s
    ·subst e;rw[el];exact hs2 g
    ·exact s2 j om
   ·(simp only[go_sem,qg,qc,qb,qf];try exact we)
  ·have k5:((q:Int)=l.length)=False:=wm;rw[hR,hno g,ipo rfl];simp (disch:=omega) only[zt,zT,t0,t1,t3,k5,el,gl,gg,Nat.mul_one,Nat.zero_add,go_sem]
   repeat' first|exact wa|with_reducible apply aiA|exact clz|fail
 ·have t1:((s:Int)<tok.length)=False:=wm;rw[hR,qpp i2 (λj hj=>s2 j om),ine (by simp)];simp (disch:=omega) only[t1,go_sem]
  repeat' first|exact wa|fail
end RC
end
section
open Go Go.Proofs AF
end
section
open Go Go.Proofs AF HY LN
namespace RC
end RC
end
section
open Go Go.Proofs AF
def qrX:List Nat:= []
def qqI:C:=
 (vU [ON 2 (.nilo 0 1 3) []] ((vU [MV 3 0,O1 4 (.isnil .slice false) 3] (vV 4 (vX [ON 2 (.nilo 0 1 3) []]))).seq (vX [⟨some 5,none,.bslc 1 1 0 3 [i6 0] [],[]⟩,MV 6 0,O2 7 (.app 2
 1 3 8) 5 6,MV 2 7])))
theorem qpD:qM Tryz.prog 130 8 3 [RV.tmp 2] qqI:=fi Tryz.f130 [2,5,7] qrX []
end
