import Derived.Test.YtgoandblgcjleaaGreatDoorK17
import Derived.Test.YtgoandblgcjleaaGreatDoorK15
import Derived.Test.YtgoandblgcjleaaGreatDoorK16
import Derived.Test.YtgoandblgcjleaaGreatDoorK3
import Derived.Test.YtgoandblgcjleaaGreatDoorK5
import Derived.Test.YtgoandblgcjleaaGreatDoorK8
import Derived.Test.YtgoandblgcjleaaGreatDoorProg
import Derived.Test.YtgoandblgcjleaaGreatDoorK9
import Derived.Test.YtgoandblgcjleaaGreatDoorRows
import Derived.LaidLaws
set_option linter.all false
set_option linter.unusedSimpArgs false
set_option linter.unusedVariables false
set_option linter.unusedSectionVars false
set_option maxHeartbeats 256000000
set_option maxRecDepth 100000
section
open Go Go.Proofs AF HY LN
namespace RC
theorem qy5{a:Ap}(h:qu1 a.x a.l a.b){k:Nat}(hk:k<a.l.length):spG a.b (k:Int) (a.l.getD k default).frm=frK a k:=by
 obtain⟨f1,f2,f3,f4⟩:=qdB h hk;unfold spG;refine qlw (n:=a.b.length) (f:=0) (Nat.zero_le _) (by omega) (fun j _ hj=> ?_) (fun hj=> ?_)
 ·unfold qur;rw[(f3 j (by omega)).2 hj]
  have:inU a.b (k:Int) j=false:=by
   cases hq:inU a.b (k:Int) j with
   |false=>rfl
   |true=>exact absurd ((f4 j (by omega)).1 hq).1 (by omega)
  rw[this];rfl
 ·unfold qur
  have:bfU a.b (a.l.getD k default).frm (frK a k)=false:=by
   cases hq:bfU a.b (a.l.getD k default).frm (frK a k)with
   |false=>rfl
   |true=>exact absurd ((f3 _ hj).1 hq) (by omega)
  rw[this];simp
def suG(a:Ap)(k y:Nat):Nat→List Str
 |0=> []
 |r+1=>if ((a.l.getD k default).rds.getD r default).words=qdg a k∧a.pos.getD y false=true then shR a.x.sig a.gs ((a.l.getD k default).rds.getD r default).src else suG a k y r
theorem qy9{a:Ap}{k y n:Nat}(hi:qff (a.l.getD k default).rds n):suG a k y (a.l.getD k default).rds.length=suK a k y:=by
 obtain⟨L,hL⟩: ∃L,L=(a.l.getD k default).rds:=⟨_,rfl⟩
 have key: ∀m,m≤L.length→suG a k y m=if a.pos.getD y false=true∧0≤baK a k∧(baK a k).toNat<m then shR a.x.sig a.gs (L.getD (baK a k).toNat default).src else []:=by
  intro m;have hb:=zd (fun r=>decide ((L.getD r default).words=qdg a k)) L.length;have hbk:baK a k=qag (fun r=>decide ((L.getD r default).words=qdg a k)) L.length 0:=by rw[hL];rfl
  rw[←hbk]at hb
  induction m with
  |zero=>intro _;rw[if_neg (fun hc=>Nat.not_lt_zero _ hc.2.2)];rfl
  |succ m ih=>
   intro hm;have hs:suG a k y (m+1)=if (L.getD m default).words=qdg a k∧a.pos.getD y false=true then shR a.x.sig a.gs (L.getD m default).src else suG a k y m:=by rw[hL];rfl
   rw[hs,ih (by omega)]
   by_cases g:(L.getD m default).words=qdg a k
   ·have hbm:baK a k=(m:Int):=by
     rcases hb with⟨i,h1,h2,h3,h4⟩|⟨h1,_⟩
     ·have h2:=of_decide_eq_true h2
      by_cases e:i=m
      ·rw[←e];exact h4
      ·exfalso;rcases Nat.lt_or_gt_of_ne e with h|h
       ·exact hi.ne i m h (by rw[←hL];omega) (by rw[←hL,h2,g])
       ·exact hi.ne m i h (by rw[←hL];omega) (by rw[←hL,h2,g])
     ·exact absurd g (by simpa using h1 m (by omega))
    rw[hbm,Int.toNat_natCast]
    by_cases p:a.pos.getD y false=true
    ·rw[if_pos ⟨g,p⟩,if_pos ⟨p,by omega,by omega⟩]
    ·rw[if_neg (fun hc=>p hc.2),if_neg (fun hc=>p hc.1),if_neg (fun hc=>p hc.1)]
   ·rw[if_neg (fun hc=>g hc.1)];have hne:0≤baK a k→(baK a k).toNat≠m:=fun h0 e=>by
     rcases hb with⟨i,h1,h2,h3,h4⟩|⟨_,h2⟩
     ·have h2:=of_decide_eq_true h2;rw[h4,Int.toNat_natCast]at e;subst e;exact g h2
     ·omega
    by_cases c:a.pos.getD y false=true∧0≤baK a k∧(baK a k).toNat<m
    ·rw[if_pos c,if_pos ⟨c.1,c.2.1,by omega⟩]
    ·rw[if_neg c,if_neg (fun hc=>c ⟨hc.1,hc.2.1,by have:=hne hc.2.1;omega⟩)]
 rw[←hL,key L.length (Nat.le_refl _)];unfold suK;rw[←hL];have hb:=zd (fun r=>decide ((L.getD r default).words=qdg a k)) L.length;have hbk:baK a k=qag (fun r=>decide ((L.getD r default).words=qdg a k)) L.length 0:=by rw[hL];rfl
 rw[←hbk]at hb
 by_cases c:a.pos.getD y false=true∧0≤baK a k
 ·have h3:(baK a k).toNat<L.length:=by rcases hb with⟨i,h1,_,_,h4⟩|⟨_,h2⟩<;>omega
  rw[if_pos c,if_pos ⟨c.1,c.2,h3⟩]
 ·rw[if_neg c,if_neg (fun hc=>c ⟨hc.1,hc.2.1⟩)]
theorem qzd(a:Ap)(k y:Nat): ∀r,(vrG a k y r).length≤r:=by
 intro r
 induction r with
 |zero=>exact Nat.le_refl _
 |succ r ih=>
  unfold vrG;rw[List.length_append];split
  ·simp only[List.length_cons,List.length_nil];omega
  ·simp only[List.length_nil];omega
structure EZ where
 i:Nat
 v:Nat
 O3:AObj
 O4:AObj
 O5:AObj
 e6:Nat
 O7:AObj
theorem qCO(a:Ap)(h:List AObj)(hz:qnF a)(hp:qaz SG h):
  ACalls Tryz.prog 26 [.agg (coC a.x),qy a.l,jm a.cls,qU a.b,qF a.gs,strs a.lay,jD a.pos] h (.tup [qbm (enR a),.int .i64 (enE a)]) h:=by
 have hsz:=qra hz.g42;have z1:=hz.l12;have z2:=hz.b14;have z3:=hz.y18;have z4:=hz.p20;have z5:=hz.c12;have c38:=fun l'=>qBb a.x a.l a.b (h++l') hz.co hz.un (by omega) (fun i=>by have:=hz.bt i;omega) (hp.app l')
 have c122:=fun h=>sgR a.x.sig a.gs h hsz
 have c27:=fun h=>qB8 a.lay h
 have nl0:VLe AV.nl (qbm []):=jS;have y1: ∀g,valL g .len [jD a.pos]= .int .i64 a.pos.length:=fun _=>rfl
 have y2: ∀g,okL g .len [jD a.pos]=True:=fun _=>eq_true trivial
 have y3: ∀g,valL g .len [strs a.lay]= .int .i64 a.lay.length:=fun _=>rfl
 have y4: ∀g,okL g .len [strs a.lay]=True:=fun _=>eq_true trivial
 have y5: ∀g,valL g .len [jm a.cls]= .int .i64 a.cls.length:=fun _=>rfl
 have y6: ∀g,okL g .len [jm a.cls]=True:=fun _=>eq_true trivial
 have y7: ∀g,valL g .len [qy a.l]= .int .i64 a.l.length:=fun _=>rfl
 have y8: ∀g,okL g .len [qy a.l]=True:=fun _=>eq_true trivial
 obtain⟨R,hR⟩: ∃R,R=enR a:=⟨_,rfl⟩
 obtain⟨E,hE⟩: ∃E,E=enE a:=⟨_,rfl⟩
 rw[←hR,←hE];unfold enR at hR;rw[←hE]at hR;unfold enE at hE;unfold coC at c38
 by_cases g1:pvE a.x a.l a.b=0
 case neg=>
  have k1:(pvE a.x a.l a.b=0)=False:=eq_false g1;rw[if_pos g1]at hE;rw[hE,if_neg g1]at hR;rw[hR,hE];refine acO qhT ?_;simp (disch:=omega) only[qsc,coC,go_sem]
  repeat' first
   |(refine cA (c38 _) ?_ ?_;exact flk;simp (disch:=omega) only[k1,go_sem])
   |(apply qb;exact rvk;simp only[go_sem])
  exact zD ⟨nl0,qj,trivial⟩
 rw[if_neg (fun hc=>hc g1)]at hE;rw[g1]at c38
 by_cases g2:sgE a.x.sig a.gs=0
 case neg=>
  have k2:(sgE a.x.sig a.gs=0)=False:=eq_false g2;rw[if_pos g2]at hE;rw[hE,if_neg (by decide)]at hR;rw[hR,hE];refine acO qhT ?_;simp (disch:=omega) only[qsc,coC,go_sem]
  repeat' first
   |((first|refine cA (c38 _) ?_ ?_|refine cA (c122 _) ?_ ?_);exact flk;simp (disch:=omega) only[k2,go_sem])
   |(apply qb;exact rvk;simp only[go_sem])
  exact zD ⟨nl0,qj,trivial⟩
 rw[if_neg (fun hc=>hc g2)]at hE;rw[g2]at c122
 by_cases g3:lyE a.lay=0
 case neg=>
  have k3:(lyE a.lay=0)=False:=eq_false g3;rw[if_pos g3]at hE;rw[hE,if_neg g3]at hR;rw[hR,hE];refine acO qhT ?_;simp (disch:=omega) only[qsc,coC,go_sem]
  repeat' first
   |((first|refine cA (c38 _) ?_ ?_|refine cA (c122 _) ?_ ?_|refine cA (c27 _) ?_ ?_);exact flk;simp (disch:=omega) only[k3,go_sem])
   |(apply qb;exact rvk;simp only[go_sem])
  exact zD ⟨nl0,qj,trivial⟩
 rw[if_neg (fun hc=>hc g3)]at hE;rw[g3]at c27
 by_cases g4:a.pos.length=a.lay.length
 case neg=>
  have k4:((a.pos.length:Int)=a.lay.length)=False:=eq_false (by omega);rw[if_pos (.inl g4)]at hE;rw[hE,if_neg (by decide)]at hR;rw[hR,hE];refine acO qhT ?_;simp (disch:=omega) only[qsc,coC,go_sem]
  repeat' first
   |((first|refine cA (c38 _) ?_ ?_|refine cA (c122 _) ?_ ?_|refine cA (c27 _) ?_ ?_);exact flk;simp (disch:=omega) only[k4,y1,y2,y3,y4,y5,y6,y7,y8,go_sem])
   |(apply qb;exact rvk;simp only[go_sem])
  exact zD ⟨nl0,qj,trivial⟩
 have k4:((a.pos.length:Int)=a.lay.length)=True:=eq_true (by omega)
 by_cases g5:a.cls.length=a.l.length
 case neg=>
  have k5:((a.cls.length:Int)=a.l.length)=False:=eq_false (by omega);rw[if_pos (.inr g5)]at hE;rw[hE,if_neg (by decide)]at hR;rw[hR,hE];refine acO qhT ?_;simp (disch:=omega) only[qsc,coC,go_sem]
  repeat' first
   |((first|refine cA (c38 _) ?_ ?_|refine cA (c122 _) ?_ ?_|refine cA (c27 _) ?_ ?_);exact flk;simp (disch:=omega) only[k4,k5,y1,y2,y3,y4,y5,y6,y7,y8,go_sem])
   |(apply qb;exact rvk;simp only[go_sem])
  exact zD ⟨nl0,qj,trivial⟩
 have k5:((a.cls.length:Int)=a.l.length)=True:=eq_true (by omega);rw[if_neg (by rintro (h|h)<;>contradiction)]at hE;refine acO qhT ?_;simp (disch:=omega) only[qsc,coC,go_sem]
 repeat' first
  |((first|refine cA (c38 _) ?_ ?_|refine cA (c122 _) ?_ ?_|refine cA (c27 _) ?_ ?_);exact flk;simp (disch:=omega) only[k4,k5,y1,y2,y3,y4,y5,y6,y7,y8,go_sem])
 have vv:(∀j,j<a.l.length→(a.cls.getD j []).length=(a.l.getD j default).rds.length)→E=0:=fun hx=>by
  rw[hE,qn.2 (fun j hj=>by rw[decide_eq_true (hx j hj)];rfl),if_neg (by simp)]
 have x1:qy a.l= .sl a.l.length fun i=>unC (a.l.getD i default):=rfl
 have x2:jm a.cls= .sl a.cls.length fun i=> [strs (a.cls.getD i [])]:=rfl
 have x3:jD a.pos= .sl a.pos.length fun i=> [.bool (a.pos.getD i false)]:=rfl
 refine qm (T:=fun i:Nat=>qI 183 [(1,qy a.l),(2,jm a.cls),(3,qU a.b),(4,qF a.gs),(5,strs a.lay),(6,jD a.pos),(7,.op h.length 1 0),(18,.int .i64 i)])
  (H:=fun _=>h++ [.mem 1 26 (coC a.x),.emp 1,.emp 0,.emp 0,.emp 0,.emp 0,.emp 0,.emp 0,.emp 0])
  (inv:=fun i=>i≤a.l.length∧ ∀j,j<i→(a.cls.getD j []).length=(a.l.getD j default).rds.length) (m:=fun i=>a.l.length-i) 0 ⟨Nat.zero_le _,fun j hj=>absurd hj (Nat.not_lt_zero j)⟩ (Wk.temps ?_) ?_
 ·(simp only[x1,x2,x3,go_sem,qh,qd,qa,qg];try (repeat' first|(with_reducible apply aiA)|(apply qi;omega)|(apply qe;rfl)|exact qj))
 rintro i ⟨i1,i3⟩ K hK
 by_cases hi:i<a.l.length
 ·have k6:((i:Int)<a.l.length)=True:=eq_true (by omega);have k7:((i:Int)<a.cls.length)=True:=eq_true (by omega);have k0:(0≤(i:Int))=True:=eq_true (by omega);have hbad: ¬(a.cls.getD i []).length=(a.l.getD i default).rds.length→E=9:=fun hx=>by
   rw[hE,qv.2 ⟨i,hi,by rw[decide_eq_false hx];rfl⟩,if_pos rfl]
  have hS:(a.cls.getD i []).length=(a.l.getD i default).rds.length→ ∀j,j<i+1→(a.cls.getD j []).length=(a.l.getD j default).rds.length:=fun hx j hj=>by
   by_cases e:j=i
   ·subst e;exact hx
   ·exact i3 j (by omega)
  obtain⟨u,hu⟩: ∃u,u=a.l.getD i default:=⟨_,rfl⟩
  have eu:=hu.symm;obtain⟨c,hc⟩: ∃c,c=a.cls.getD i []:=⟨_,rfl⟩
  have ec:=hc.symm;rw[eu,ec]at hbad hS;have zc1: ∀g,valL g .len [strs c]= .int .i64 c.length:=fun _=>rfl
  have zc2: ∀g,okL g .len [strs c]=True:=fun _=>eq_true trivial
  have zr1: ∀g,valL g .len [zx u.rds]= .int .i64 u.rds.length:=fun _=>rfl
  have zr2: ∀g,okL g .len [zx u.rds]=True:=fun _=>eq_true trivial
  by_cases g6:c.length=u.rds.length
  ·have k8:((c.length:Int)=u.rds.length)=True:=eq_true (by omega);simp (disch:=omega) only[x1,x2,unC,k0,k6,k7,k8,eu,ec,zc1,zc2,zr1,zr2,go_sem]
   repeat' first
    |with_reducible apply aiA
   all_goals try exact clz
   refine hK _ _ (i+1) ⟨hi,hS g6⟩ (by omega) (Wk.temps ?_)
   (simp only[x1,x2,x3,go_sem,qh,qd,qa,qg];try (repeat' first|(with_reducible apply aiA)|(apply qi;omega)|(apply qe;rfl)|exact qj))
  ·have k8:((c.length:Int)=u.rds.length)=False:=eq_false (by omega);have hE9:=hbad g6;rw[hE9,if_neg (by decide)]at hR;rw[hR,hE9];simp (disch:=omega) only[x1,x2,unC,k0,k6,k7,k8,eu,ec,zc1,zc2,zr1,zr2,go_sem]
   repeat' first
    |(apply qb;exact rvk;simp only[go_sem])
    |with_reducible apply aiA
   all_goals try exact clz
   exact zD ⟨nl0,qj,trivial⟩
 have k6:((i:Int)<a.l.length)=False:=eq_false (by omega);have hE0:E=0:=vv fun j hj=>i3 j (by omega)
 have hcl: ∀j,j<a.l.length→(a.cls.getD j []).length=(a.l.getD j default).rds.length:=fun j hj=>i3 j (by omega)
 rw[hE0,if_pos rfl]at hR;rw[hR,hE0];clear hK hE hE0 vv hR i3;have hok:=qrs g1;have hsgl:=(qc6 hok.co).sg;have h8:=qeu hz.g42 g2;simp (disch:=omega) only[x1,k6,go_sem];have eM:qS zEn 0=qai (enU a 0):=rfl;unfold zEn at eM
 try rw[eM]
 refine qm (T:=fun s:EZ=>qI 183 [(1,qy a.l),(2,jm a.cls),(3,qU a.b),(4,qF a.gs),(5,strs a.lay),(6,jD a.pos),(7,.op h.length 1 0),(19,.osl (h.length+2) s.v 6 0 (enU a s.i).length),(20,.int .i64 s.i)])
  (H:=fun s=>h++ [.mem 1 26 (coC a.x),.emp 1,.mem s.v 58 (qai (enU a s.i)),s.O3,s.O4,s.O5,.emp s.e6,s.O7,.emp 0])
  (inv:=fun s=>s.i≤a.l.length∧qz [s.O3] 0=true∧qz [s.O4] 0=true∧qz [s.O5] 0=true∧qz [s.O7] 0=true) (m:=fun s=>a.l.length-s.i) ⟨0,1,.emp 0,.emp 0,.emp 0,0,.emp 0⟩ ⟨Nat.zero_le _,rfl,rfl,rfl,rfl⟩ (Wk.temps ?_) ?_
 ·(simp only[x1,x2,x3,enU,List.length_nil,go_sem,qh,qd,qa,qg];try (repeat' first|(with_reducible apply aiA)|(apply qi;omega)|(apply qe;rfl)|exact qj))
 rintro⟨k,v,O3,O4,O5,e6,O7⟩ ⟨s1,p3,p4,p5,p7⟩ K hK;simp only at s1 p3 p4 p5 p7 hK
 by_cases hk:k<a.l.length
 case neg=>
  have k7:((k:Int)<a.l.length)=False:=eq_false (by omega);obtain rfl:k=a.l.length:=by omega
  simp (disch:=omega) only[x1,k7,go_sem]
  repeat' first
   |(apply qb;exact rvk;simp only[go_sem])
  rw[if_pos (by rw[qca];exact Nat.le_refl _)];exact zD ⟨qoq rfl,qj,trivial⟩
 have k7:((k:Int)<a.l.length)=True:=eq_true (by omega);have k0:(0≤(k:Int))=True:=eq_true (by omega);have k8:((k:Int)<a.cls.length)=True:=eq_true (by omega);have hcu:=hcl k hk;have c100:=fun h=>qyH a.b (k:Int) h (by omega)
 have c101:=fun h=>qDq a.b (k:Int) (a.l.getD k default) h (by omega)
 rw[qy5 hok hk]at c101;obtain⟨f1,f2,_,_⟩:=qdB hok hk;have eG:toK a k=frK a k+cP (inU a.b (k:Int)) a.b.length:=rfl;rw[←eG]at c101;have eow:owG a.b (k:Int) a.b.length=qdg a k:=rfl;simp only[eow]at c100;have hWl:(qdg a k).length≤1000000:=by rw[←eow];have:=qrn a.b (k:Int) a.b.length;omega
 have hmem:a.l.getD k default∈a.l:=by rw[gdqA,zA hk];exact List.getElem_mem hk
 have hur:=(qcJ hok.un).rg _ hmem;have hri:qff (a.l.getD k default).rds a.x.sig.length:=by rw[hur.2.2.2];exact qg3 _ _ _
 have hsuS:=fun y=>qy9 (y:=y) hri
 have hsuD: ∀y r,suG a k y (r+1)=if ((a.l.getD k default).rds.getD r default).words=qdg a k∧a.pos.getD y false=true then shR a.x.sig a.gs ((a.l.getD k default).rds.getD r default).src else suG a k y r:=fun _ _=>rfl
 have hvrD: ∀y r,vrG a k y (r+1)=vrG a k y r++if lyN a.lay ((a.cls.getD k []).getD r [])=y∧((a.l.getD k default).rds.getD r default).words≠qdg a k then [⟨((a.l.getD k default).rds.getD r default).words,shR a.x.sig a.gs ((a.l.getD k default).rds.getD r default).src⟩] else []:=fun _ _=>rfl
 have hvrK: ∀y,vrG a k y (a.l.getD k default).rds.length=vrK a k y:=fun _=>rfl
 have zrl:=hz.un.rd k;have zwd:=hz.un.wd k;obtain⟨u,hu⟩: ∃u,u=a.l.getD k default:=⟨_,rfl⟩
 have eu:=hu.symm;obtain⟨F,hF⟩: ∃F,F=frK a k:=⟨_,rfl⟩
 obtain⟨G,hG⟩: ∃G,G=toK a k:=⟨_,rfl⟩
 obtain⟨W,hW⟩: ∃W,W=qdg a k:=⟨_,rfl⟩
 have eW:=hW.symm;obtain⟨cl,hclx⟩: ∃cl,cl=a.cls.getD k []:=⟨_,rfl⟩
 have ecl:=hclx.symm;simp only[←hF,←hG,eu]at c101;simp only[eW]at c100;simp only[eu,eW,ecl]at hsuS hsuD hvrD hvrK;rw[eW]at hWl;rw[eu]at zrl hri;simp only[eu]at zwd;rw[eu,ecl]at hcu;unfold unC at c101;simp (disch:=omega) only[x1,unC,k7,go_sem]
 repeat' first
  |((first|refine cA (c100 _) ?_ ?_|refine cA (c101 _) ?_ ?_);exact flk;simp (disch:=omega) only[k0,k7,eu,go_sem])
  |with_reducible apply aiA
 all_goals try exact clz
 have hy0:enU a k++enY a k 0=enU a k:=by show enU a k++ []=_;simp
 have hsr: ∀r,r<u.rds.length→(u.rds.getD r default).src.length≤32∧qb7 a.x.sig a.gs (u.rds.getD r default).src=0:=fun r hr=>by
  have h1:=hri.src (u.rds.getD r default) (by rw[gdqA,zA hr];exact List.getElem_mem hr);have h2:=qcm (hi:=((a.x.sig.length:Nat):Int)) (lo:=0) h1.1 h1.2;refine⟨by omega,?_⟩;unfold qb7;rw[if_pos g2];exact qrh h1.1 h1.2
 rw[←hy0];refine qm (T:=fun s:EZ=>qI 183 [(1,qy a.l),(2,jm a.cls),(3,qU a.b),(4,qF a.gs),(5,strs a.lay),(6,jD a.pos),(7,.op h.length 1 0),(19,.osl (h.length+2) s.v 6 0 (enU a k++enY a k s.i).length),(20,.int .i64 k),(21,strs W),(22,.int .i64 (F:Int)),(23,.int .i64 (G:Int)),(24,.int .i64 s.i)])
  (H:=fun s=>h++ [.mem 1 26 (coC a.x),.emp 1,.mem s.v 58 (qai (enU a k++enY a k s.i)),s.O3,s.O4,s.O5,.emp s.e6,s.O7,.emp 0])
  (inv:=fun s=>s.i≤a.lay.length∧qz [s.O3] 0=true∧qz [s.O4] 0=true∧qz [s.O5] 0=true∧qz [s.O7] 0=true) (m:=fun s=>a.lay.length-s.i) ⟨0,v,O3,O4,O5,e6,O7⟩ ⟨Nat.zero_le _,p3,p4,p5,p7⟩ (Wk.temps ?_) ?_
 ·(simp only[x1,x2,x3,unC,go_sem,qh,qd,qa,qg];try (repeat' first|(with_reducible apply aiA)|(apply qi;omega)|(apply qe;rfl)|exact qj))
 clear p3 p4 p5 p7;rintro⟨y,v,O3,O4,O5,e6,O7⟩ ⟨y1',p3,p4,p5,p7⟩ K3 hK3;simp only at y1' p3 p4 p5 p7 hK3;have p3': ∀m,qz (O3::m) 0=true:=fun _=>p3
 have p7': ∀m,qz (O7::m) 0=true:=fun _=>p7
 have hys:enY a k (y+1)=enY a k y++if vrK a k y= [] then [] else [enK a k y]:=rfl
 by_cases hy:y<a.lay.length
 case neg=>
  have r2:((y:Int)<a.lay.length)=False:=eq_false (by omega);obtain rfl:y=a.lay.length:=by omega
  have hus:enU a k++enY a k a.lay.length=enU a (k+1):=rfl;rw[hus];simp (disch:=omega) only[y3,y4,r2,go_sem];refine hK _ _ ⟨k+1,v,O3,O4,O5,e6,O7⟩ ⟨hk,p3,p4,p5,p7⟩ (by simp only;omega) (Wk.temps ?_)
  (simp only[x1,x2,x3,go_sem,qh,qd,qa,qg];try (repeat' first|(with_reducible apply aiA)|(apply qi;omega)|(apply qe;rfl)|exact qj))
 have r2:((y:Int)<a.lay.length)=True:=eq_true (by omega);have r3:((y:Int)<a.pos.length)=True:=eq_true (by omega);have r0:(0≤(y:Int))=True:=eq_true (by omega);obtain⟨pb,hpb⟩: ∃pb,pb=a.pos.getD y false:=⟨_,rfl⟩
 have epb:=hpb.symm;have hsuS:=hsuS y;have hsuD:=hsuD y;have hvrD:=hvrD y;have hvrK:=hvrK y;simp only[epb]at hsuD;simp (disch:=omega) only[y3,y4,x3,r0,r2,r3,epb,p3',go_sem]
 repeat' first
  |with_reducible apply aiA
 all_goals try exact clz
 obtain⟨v3,hv3⟩: ∃v3,v3=qq (some O3)+1:=⟨_,rfl⟩
 simp only[←hv3];refine qm (T:=fun s:EZ=>qI 183 [(1,qy a.l),(2,jm a.cls),(3,qU a.b),(4,qF a.gs),(5,strs a.lay),(6,jD a.pos),(7,.op h.length 1 0),(19,.osl (h.length+2) v 6 0 (enU a k++enY a k y).length),(20,.int .i64 k),(21,strs W),(22,.int .i64 (F:Int)),(23,.int .i64 (G:Int)),(24,.int .i64 y),(25,.op (h.length+3) v3 0),(26,.int .i64 s.i)])
  (H:=fun s=>h++ [.mem 1 26 (coC a.x),.emp 1,.mem v 58 (qai (enU a k++enY a k y)),.mem v3 58 [.int .i64 (y:Int),.int .i64 (F:Int),.int .i64 (G:Int),.bool pb,strs (suG a k y s.i),.osl (h.length+6) s.e6 2 0 (vrG a k y s.i).length],s.O4,s.O5,zV s.e6 85 (qbZ (vrG a k y s.i)),O7,.emp 0])
  (inv:=fun s=>s.i≤u.rds.length∧qz [s.O4] 0=true∧qz [s.O5] 0=true) (m:=fun s=>u.rds.length-s.i) ⟨0,0,.emp 0,O4,O5,e6,.emp 0⟩ ⟨Nat.zero_le _,p4,p5⟩
  (Wk.trans (Wk.trans (Wk.cells (j:=h.length+3) (v:=v3) (ty:=58) (cs:= [.int .i64 (y:Int),.int .i64 (F:Int),.int .i64 (G:Int),.bool pb,.nl,.nl]) (cs':= [.int .i64 (y:Int),.int .i64 (F:Int),.int .i64 (G:Int),.bool pb,strs [],.nl]) ?m1 ?m2)
   (Wk.ownNil (j:=h.length+3) (i:=5) (k:=h.length+6) (v:=v3) (ty:=58) (cs:= [.int .i64 (y:Int),.int .i64 (F:Int),.int .i64 (G:Int),.bool pb,strs [],.nl]) (ve:=e6) (sz:=2) ?m3 rfl ?m4)) ?m5) ?m6
 case m1=>simp only[go_sem]
 case m2=>exact⟨qj,qj,qj,qj,jS,qj,trivial⟩
 case m3=>simp only[go_sem]
 case m4=>simp only[go_sem]
 case m5=>
  have eo:zV e6 85 (qbZ (vrG a k y 0))= .emp e6:=rfl;have es:suG a k y 0= []:=rfl;have ev:(vrG a k y 0).length=0:=rfl;simp only[go_sem,eo,es,ev,List.set_cons_succ,List.set_cons_zero];refine Wk.temps ?_
  (simp only[x1,x2,x3,go_sem,qh,qd,qa,qg];try (repeat' first|(with_reducible apply aiA)|(apply qi;omega)|(apply qe;rfl)|exact qj))
 case m6=>
 clear p4 p5;rintro⟨r,vx,OX,O4,O5,w,OY⟩ ⟨r1',p4,p5⟩ K4 hK4;simp only at r1' p4 p5 hK4;have p4': ∀m,qz (O4::m) 0=true:=fun _=>p4
 have p5': ∀m,qz (O5::m) 0=true:=fun _=>p5
 have hvl:=qzd a k y r;have hsuD:=hsuD r;have hvrD:=hvrD r;obtain⟨S,hS⟩: ∃S,S=suG a k y r:=⟨_,rfl⟩
 obtain⟨V,hV⟩: ∃V,V=vrG a k y r:=⟨_,rfl⟩
 have eS:=hS.symm;have eV:=hV.symm;rw[eS]at hsuD;rw[eV]at hvrD hvl;have eVl:=qdZ V;have eVk:List.take (V.length*2) (qbZ V)=qbZ V:=List.take_of_length_le (by omega)
 by_cases hr:r<u.rds.length
 case pos=>
  have t1:((r:Int)<u.rds.length)=True:=eq_true (by omega);have t0:(0≤(r:Int))=True:=eq_true (by omega);have t2:((r:Int)<cl.length)=True:=eq_true (by omega);obtain⟨sl,sE⟩:=hsr r hr;have zw:=zwd r;have c28:=fun h=>qCe a.lay (cl.getD r []) h (by omega) (fun i=>by have:=hz.yl i;omega)
  have elr:lyR a.lay (cl.getD r [])=lyN a.lay (cl.getD r []):=by unfold lyR;rw[if_pos g3]
  rw[elr,g3]at c28;obtain⟨cs,hcs⟩: ∃cs,cs=cl.getD r []:=⟨_,rfl⟩
  have ecs:=hcs.symm;rw[ecs]at hvrD;simp only[ecs]at c28;obtain⟨rd,hrd⟩: ∃rd,rd=u.rds.getD r default:=⟨_,rfl⟩
  have erd:=hrd.symm;rw[erd]at hsuD hvrD sl sE zw;have c102:=fun h=>qDm a.x.sig a.gs rd.src h hsz (by omega) (fun _=>h8)
  have c103:=fun h=>qvd rd.words W h zw (by omega)
  simp only[sE]at c102;obtain⟨sh,hsh⟩: ∃sh,sh=shR a.x.sig a.gs rd.src:=⟨_,rfl⟩
  rw[←hsh]at hsuD hvrD;simp only[←hsh]at c102;obtain⟨n,hn⟩: ∃n,n=lyN a.lay cs:=⟨_,rfl⟩
  rw[←hn]at hvrD;simp only[←hn]at c28;have xr:zx u.rds= .sl u.rds.length fun i=>rdC (u.rds.getD i default):=rfl
  by_cases g6:rd.words=W
  ·rw[decide_eq_true g6]at c103;have hvr:vrG a k y (r+1)=V:=by rw[hvrD,if_neg (fun hc=>hc.2 g6),List.append_nil]
   cases pb with
   |true=>
    rw[if_pos ⟨g6,rfl⟩]at hsuD;simp (disch:=omega) only[x1,x3,xr,unC,rdC,coC,k0,k7,t0,t1,eu,erd,p4',eS,eV,go_sem]
    repeat' first
     |((first|refine cA (c102 _) ?_ ?_|refine cA (c103 _) ?_ ?_);exact flk;simp (disch:=omega) only[r0,r3,epb,List.set_cons_succ,List.set_cons_zero,go_sem])
     |with_reducible apply aiA
    all_goals try exact clz
    refine hK4 _ _ ⟨r+1,0,.emp 0,.mem (qq (some O4)+1) 89 (rdC rd),O5,w,.emp 0⟩ ⟨hr,rfl,p5⟩ (by simp only;omega) ?_;simp only[hsuD,hvr,rdC];refine Wk.temps ?_
    (simp only[x1,x2,x3,go_sem,qh,qd,qa,qg];try (repeat' first|(with_reducible apply aiA)|(apply qi;omega)|(apply qe;rfl)|exact qj))
   |false=>
    rw[if_neg (by simp)]at hsuD;simp (disch:=omega) only[x1,x3,xr,unC,rdC,coC,k0,k7,t0,t1,eu,erd,p4',eS,eV,go_sem]
    repeat' first
     |((first|refine cA (c102 _) ?_ ?_|refine cA (c103 _) ?_ ?_);exact flk;simp (disch:=omega) only[r0,r3,epb,List.set_cons_succ,List.set_cons_zero,go_sem])
     |with_reducible apply aiA
    all_goals try exact clz
    refine hK4 _ _ ⟨r+1,0,.emp 0,.mem (qq (some O4)+1) 89 (rdC rd),O5,w,.emp 0⟩ ⟨hr,rfl,p5⟩ (by simp only;omega) ?_;simp only[hsuD,hvr,rdC];refine Wk.temps ?_
    (simp only[x1,x2,x3,go_sem,qh,qd,qa,qg];try (repeat' first|(with_reducible apply aiA)|(apply qi;omega)|(apply qe;rfl)|exact qj))
  rw[decide_eq_false g6]at c103;rw[if_neg (fun hc=>g6 hc.1)]at hsuD;have x2':strs cl= .sl cl.length fun i=> [.str (cl.getD i [])]:=rfl
  by_cases g7:n=(y:Int)
  ·have q7:(n=(y:Int))=True:=eq_true g7;rw[if_pos ⟨g7,g6⟩]at hvrD;have eVn:qbZ (vrG a k y (r+1))=qbZ V++ [strs rd.words,strs sh]:=by rw[hvrD,qhi];rfl
   have eVq:(vrG a k y (r+1)).length=V.length+1:=by rw[hvrD,List.length_append];rfl
   simp (disch:=omega) only[x1,x2,x3,xr,unC,rdC,coC,k0,k7,t0,t1,eu,erd,p4',eS,eV,go_sem]
   repeat' first
    |((first|refine cA (c102 _) ?_ ?_|refine cA (c103 _) ?_ ?_|refine cA (c28 _) ?_ ?_);exact flk;simp (disch:=omega) only[x2',k0,k8,t0,t2,ecl,ecs,r0,r3,epb,p5',q7,eVl,eVk,List.set_cons_succ,List.set_cons_zero,go_sem])
    |with_reducible apply aiA
   all_goals try exact clz
   have eD2: ∀c c':AV,(c::c'::List.drop 2 (qS [AV.nl,AV.nl] 1))= [c,c']:=fun _ _=>rfl
   try simp only[eD2]
   try rw[←eVn]
   refine hK4 _ _ ⟨r+1,0,.emp 0,.mem (qq (some O4)+1) 89 (rdC rd),.mem (qq (some O5)+1) 85 [strs rd.words,strs sh],w+1,.emp 0⟩ ⟨hr,rfl,rfl⟩ (by simp only;omega) ?_;simp only[hsuD,eVq,rdC];refine Wk.temps ?_
   (simp only[x1,x2,x3,go_sem,qh,qd,qa,qg];try (repeat' first|(with_reducible apply aiA)|(apply qi;omega)|(apply qe;rfl)|exact qj))
  ·have q7:(n=(y:Int))=False:=eq_false g7;rw[if_neg (fun hc=>g7 hc.1),List.append_nil]at hvrD;simp (disch:=omega) only[x1,x2,x3,xr,unC,rdC,coC,k0,k7,t0,t1,eu,erd,p4',eS,eV,go_sem]
   repeat' first
    |((first|refine cA (c102 _) ?_ ?_|refine cA (c103 _) ?_ ?_|refine cA (c28 _) ?_ ?_);exact flk;simp (disch:=omega) only[x2',k0,k8,t0,t2,ecl,ecs,r0,r3,epb,p5',q7,List.set_cons_succ,List.set_cons_zero,go_sem])
    |with_reducible apply aiA
   all_goals try exact clz
   refine hK4 _ _ ⟨r+1,0,.emp 0,.mem (qq (some O4)+1) 89 (rdC rd),O5,w,.emp 0⟩ ⟨hr,rfl,p5⟩ (by simp only;omega) ?_;simp only[hsuD,hvrD,rdC];refine Wk.temps ?_
   (simp only[x1,x2,x3,go_sem,qh,qd,qa,qg];try (repeat' first|(with_reducible apply aiA)|(apply qi;omega)|(apply qe;rfl)|exact qj))
 case neg=>
 obtain rfl:r=u.rds.length:=by omega
 have t1:((u.rds.length:Int)<u.rds.length)=False:=eq_false (by omega);have eV2:vrK a k y=V:=by rw[←hvrK,hV]
 have eS2:suK a k y=S:=by rw[←hsuS,hS]
 clear hK4;have xr:zx u.rds= .sl u.rds.length fun i=>rdC (u.rds.getD i default):=rfl
 rw[eS,eV];simp (disch:=omega) only[x1,xr,unC,k0,k7,t1,eu,go_sem]
 repeat' first
  |with_reducible apply aiA
 all_goals try exact clz
 refine⟨_,_,Wk.fzCell (j:=h.length+3) (k:=h.length+6) (i:=5) (v:=v3) (ty:=58) (cs:= [.int .i64 (y:Int),.int .i64 (F:Int),.int .i64 (G:Int),.bool pb,strs S,.osl (h.length+6) w 2 0 V.length]) (c:= .osl (h.length+6) w 2 0 V.length) (c':=qaQ V) ?n1 rfl ?n2 (by omega) ?n3,?_⟩
 case n1=>simp only[go_sem]
 case n2=>simp only[go_sem]
 case n3=>
  rw[qa4,getO_app];exact qhb rfl
 have zv: ∀g,valL g .len [qaQ V]= .int .i64 V.length:=fun _=>rfl
 have zw: ∀g,okL g .len [qaQ V]=True:=fun _=>eq_true trivial
 have hMl:=qfv a k y;have hMb0:k*a.lay.length≤12*18:=Nat.mul_le_mul (by omega) z3
 by_cases hV0:V.length=0
 ·have n0:((0:Int)<V.length)=False:=eq_false (by omega);have hnil:V= []:=List.eq_nil_of_length_eq_zero hV0;rw[eV2,hnil,if_pos rfl,List.append_nil]at hys;simp (disch:=omega) only[List.set_cons_succ,List.set_cons_zero,zv,zw,n0,go_sem]
  repeat' first
   |with_reducible apply aiA
  all_goals try exact clz
  refine hK3 _ _ ⟨y+1,v,.mem v3 58 [.int .i64 (y:Int),.int .i64 (F:Int),.int .i64 (G:Int),.bool pb,strs S,qaQ V],O4,O5,w+1,O7⟩ ⟨hy,rfl,p4,p5,p7⟩ (by simp only;omega) ?_;simp only[hys];refine Wk.temps ?_
  (simp only[x1,x2,x3,go_sem,qh,qd,qa,qg];try (repeat' first|(with_reducible apply aiA)|(apply qi;omega)|(apply qe;rfl)|exact qj))
 have n0:((0:Int)<V.length)=True:=eq_true (by omega);have hne: ¬V= []:=fun e=>hV0 (by rw[e];rfl)
 rw[eV2,if_neg hne]at hys;have hen:enC (enK a k y)= [.int .i64 (y:Int),.int .i64 (F:Int),.int .i64 (G:Int),.bool pb,strs S,qaQ V]:=by
  unfold enK enC;rw[epb,←hF,←hG,eV2,eS2]
 obtain⟨M,hM⟩: ∃M,M=enU a k++enY a k y:=⟨_,rfl⟩
 have hMn:enU a k++enY a k (y+1)=M++ [enK a k y]:=by rw[hys,hM,List.append_assoc]
 rw[←hM]at hMl ⊢;have hMb:M.length≤1000:=by omega
 have eMl:=qca M;have eMk:List.take (M.length*6) (qai M)=qai M:=List.take_of_length_le (by omega);have eMn:qai (enU a k++enY a k (y+1))=qai M++enC (enK a k y):=by rw[hMn,qgy,qgA]
 have eMq:(enU a k++enY a k (y+1)).length=M.length+1:=by rw[hMn,List.length_append];rfl
 rw[hen]at eMn;simp (disch:=omega) only[List.set_cons_succ,List.set_cons_zero,zv,zw,n0,p7',eMl,eMk,go_sem]
 repeat' first
  |with_reducible apply aiA
 all_goals try exact clz
 try rw[←eMn]
 refine hK3 _ _ ⟨y+1,v+1,.mem v3 58 [.int .i64 (y:Int),.int .i64 (F:Int),.int .i64 (G:Int),.bool pb,strs S,qaQ V],O4,O5,w+1,.mem (qq (some O7)+1) 58 [.int .i64 (y:Int),.int .i64 (F:Int),.int .i64 (G:Int),.bool pb,strs S,qaQ V]⟩ ⟨hy,rfl,p4,p5,rfl⟩ (by simp only;omega) ?_;simp only[eMq];refine Wk.temps ?_
 (simp only[x1,x2,x3,go_sem,qh,qd,qa,qg];try (repeat' first|(with_reducible apply aiA)|(apply qi;omega)|(apply qe;rfl)|exact qj))
end RC
end
section
open Go Go.Proofs AF
def qoT:List Nat:= []
def c4s:C:=
 ((C.ops [O1 2 (.box 0 47) 0,MC 4 (.bool false)]).seq (((C.ops [O1 13 (.load (some 10)) 2,O1 14 (.call 23 true) 13,MV 15 14,MG 16 15 false 1,P1 17 15 false .slen 16,PC 18 15
 false (.bin .gtr) 17 (i6 30),PT 19 15 18]).seq (C.cond (.t 19) ((C.ops [ON 20 (.call 24 true) [],MV 4 20]).seq C.ret) C.skip)).seq ((C.ops [O1 22 (.load (some 10)) 2,O1 23
 (.call 25 true) 22,MV 21 23,O1 24 (.ext 0) 21,O1 25 (.ext 1) 21,MV 5 24,MV 6 25]).seq ((C.ops [O1 27 (.fldA 0) 2,O1 28 (.load (some 4)) 27,O1 29 (.fldA 4) 2,LD 30 29,O1 31
 (.fldA 5) 2,LD 32 31,O1 33 (.fldA 6) 2,LD 34 33,O1 35 (.fldA 7) 2,LD 36 35,O1 37 (.fldA 8) 2,LD 38 37,O1 39 (.fldA 9) 2,LD 40 39,ON 41 (.call 26 true) [.t 28,.t 30,.t
 32,.t 34,.t 36,.t 38,.t 40],MV 26 41,O1 42 (.ext 0) 26,O1 43 (.ext 1) 26,MV 7 42,MV 8 43]).seq ((C.ops [O1 45 (.fldA 8) 2,LD 46 45,MV 47 1,O2 48 (.call 27 true) 46 47,
 MV 44 48,O1 49 (.ext 0) 44,O1 50 (.ext 1) 44,MV 9 49,MV 10 50]).seq ((C.ops [O1 52 (.fldA 8) 2,LD 53 52,MV 54 1,O2 55 (.call 28 true) 53 54,MV 51 55,O1 56 (.ext 0) 51,O1
 57 (.ext 1) 51,MV 11 56,MV 12 57]).seq ((C.ops [MV 58 5,MV 59 7,O2 60 (.call 29 true) 58 59,MV 61 60,MG 62 61 true 6,MG 63 61 true 8,P2 64 61 true (.bin .eql) 62 63,PF 65
 61 64,MV 66 65,MG 67 66 true 9,MG 68 66 true 11,P2 69 66 true (.bin .eql) 67 68,PF 70 66 69,MV 71 70,MG 72 71 true 10,MG 73 71 true 12,P2 74 71 true (.bin .eql) 72 73,PF
 75 71 74,MV 76 75,PN 77 76 true (.call 24 true) [],PF 78 76 77,MV 4 78]).seq
 C.ret)))))))
theorem qAC:qG Tryz.prog 4 79 1 [RV.tmp 4] c4s:=fi Tryz.f4 [2] qoT []
end
section
open Go Go.Proofs AF HY LN
namespace RC
theorem qs1{a:Ap}(hz:qnF a):EqZ (enR a):=by
 have h:=qwL hz;have hn:=qs2 hz;exact⟨by omega,fun i=>Nat.le_trans (h i).s (by decide),fun i=>(h i).v,fun i=>(h i).w,fun i j=>Nat.le_trans ((h i).g j) (by decide)⟩
theorem qA0(a:Ap)(cls:Str)(h:List AObj)(hp:qaz SG h)(hb:ApB a)(hcl:cls.length≤9223372036854775807):ACalls Tryz.prog 4 [.agg (apC a),.str cls] h (.bool true) h:=by
 have c24:=fun l=>qz9 (h++l) (hp.app l)
 have c23:=fun h=>grP a h hb
 obtain⟨g,hg⟩: ∃g,g=qtp a:=⟨_,rfl⟩
 rw[←hg]at c23;cases g with
 |true=>
  refine acO qAC ?_;simp (disch:=omega) only[c4s,apC,go_sem]
  repeat' first
   |((first|refine cA (c23 _) ?_ ?_|refine cA (c24 _) ?_ ?_);exact flk;simp (disch:=omega) only[go_sem])
   |(apply qb;exact rvk;simp only[go_sem];exact qj)
 |false=>
  by_cases gc:30<cls.length
  ·have kc:((30:Int)<cls.length)=True:=eq_true (by omega);refine acO qAC ?_;simp (disch:=omega) only[c4s,apC,go_sem]
   repeat' first
    |((first|refine cA (c23 _) ?_ ?_|refine cA (c24 _) ?_ ?_);exact flk;simp (disch:=omega) only[kc,go_sem])
    |(apply qb;exact rvk;simp only[go_sem];exact qj)
  have kc:((30:Int)<cls.length)=False:=eq_false (by omega);have hz:=qla hg.symm;have c25:=fun l=>qA5 a (h++l) hz (hp.app l)
  have c26:=fun l=>qCO a (h++l) hz (hp.app l)
  have c27:=fun h=>lyP a.lay cls h (by have:=hz.y18;omega) (fun i=>by have:=hz.yl i;omega)
  have c28:=fun h=>qCe a.lay cls h (by have:=hz.y18;omega) (fun i=>by have:=hz.yl i;omega)
  have c29:=fun h=>qCk (enR a) h (qs1 hz)
  obtain⟨E,hE⟩: ∃E,E=enE a:=⟨_,rfl⟩
  obtain⟨L,hL⟩: ∃L,L=enR a:=⟨_,rfl⟩
  obtain⟨n,hn⟩: ∃n,n=lyR a.lay cls:=⟨_,rfl⟩
  obtain⟨m,hm⟩: ∃m,m=lyE a.lay:=⟨_,rfl⟩
  rw[←hE,←hL]at c25 c26;rw[←hn,←hm]at c27 c28;simp only[←hL]at c29;have q1:(E=E)=True:=eq_true rfl;have q2:(n=n)=True:=eq_true rfl;have q3:(m=m)=True:=eq_true rfl;unfold coC at c26;refine acO qAC ?_;simp (disch:=omega) only[c4s,apC,go_sem]
  repeat' first
   |((first|refine cA (c23 _) ?_ ?_|refine cA (c25 _) ?_ ?_|refine cA (c26 _) ?_ ?_|refine cA (c27 _) ?_ ?_|refine cA (c28 _) ?_ ?_|refine cA (c29 _) ?_ ?_|refine cG (fun e=>c24 _) ?_ ?_);exact flk;simp (disch:=omega) only[kc,go_sem])
   |(apply qb;exact rvk;simp only[go_sem];exact qj)
   |with_reducible apply aiA
  all_goals try exact clz
end RC
end
section
open Go Go.Proofs AF HY Go.ChangeShapes Go.RowKit
namespace LN
theorem qAR : Tryz.prog.globalNamed "internal/strconv.uint64pow10" = some 1 := by kernel_rfl
theorem qAT : Tryz.prog.globalNamed "strconv.ErrSyntax" = some 6 := by kernel_rfl
theorem qAS : Tryz.prog.globalNamed "strconv.ErrRange" = some 7 := by kernel_rfl
theorem qpr{w w':World}(h:qqn w)(e:w'.heap[1]? =w.heap[1]?):qqn w':=by
 unfold qqn Lib.TabIs at*;rw[qd2 qAR e];exact h
theorem qfe : "*" ++ "errors.errorString" = "*errors.errorString" := by decide
theorem qrt (u : TypeId) (h : Tryz.prog.typeName? 3 u = some "*errors.errorString") : u = 323 :=
 typeName_ptr_named (nm := "errors.errorString") (by rw [qfe]; kernel_rfl) (by kernel_rfl) (by decide) u (by rw [qfe]; exact h)
def qdT:List Nat:= [1,6,7]
def qz3(w:World):Prop:=qqn w∧qvf w
theorem qy3{W:World}(h:laidMet Tryz.prog YtgoandblgcjleaaGreatDoor.Rows.apparatusSpansRow.laid W):qqn W∧qvf W:=by
 have h2:=laidMet.tail (laidMet.tail h);have h3:=laidMet.tail (laidMet.tail h2);have h4:=laidMet.tail h3;obtain⟨a,s,e1,_⟩:=laid_sentinel (g:=7) (ti:=192) (tp:=323) (te:=325) (ts:=9) h3 qAS (by kernel_rfl) Tryz.underlying192 qrt Tryz.underlying323 Tryz.underlying325 rfl rfl Tryz.underlying9 (by kernel_rfl) (by kernel_rfl);obtain⟨b,t,e2,_⟩:=laid_sentinel (g:=6) (ti:=192) (tp:=323) (te:=325) (ts:=9) h4 qAT (by kernel_rfl) Tryz.underlying192 qrt Tryz.underlying323 Tryz.underlying325 rfl rfl Tryz.underlying9 (by kernel_rfl) (by kernel_rfl);exact⟨Lib.tabIs_of_head (t:=288) (e:=164) (n:=20) qAR (by kernel_rfl) Tryz.underlying288 Tryz.underlying164 (by kernel_rfl) (by kernel_rfl) h2,⟨_,_,e2⟩,_,_,e1⟩
theorem qpN{W:World}(h:laidMet Tryz.prog YtgoandblgcjleaaGreatDoor.Rows.apparatusSpansRow.laid W): ∀b,b∈qdT→ ∃arr T fz,W.heap[b]? =some (.cells arr T fz):=by
 intro b hb;obtain⟨h1,⟨_,_,h2⟩,_,_,h3⟩:=qy3 h;have e:b=1∨b=6∨b=7:=by simpa[qdT] using hb
 rcases e with rfl|rfl|rfl
 ·exact qcM qAR h1
 ·exact qcM qAT h2
 ·exact qcM qAS h3
theorem quk{W:World}(h:laidMet Tryz.prog YtgoandblgcjleaaGreatDoor.Rows.apparatusSpansRow.laid W): ∀w':World,(∀b,b∈qdT→w'.heap[b]? =W.heap[b]?)→qz3 w':=by
 intro w' hs;obtain⟨h1,⟨t1,p1,h2⟩,t2,p2,h3⟩:=qy3 h;refine⟨qpr h1 (hs 1 (by simp[qdT])),⟨t1,p1,?_⟩,t2,p2,?_⟩
 ·rw[qd2 qAT (hs 6 (by simp[qdT]))];exact h2
 ·rw[qd2 qAS (hs 7 (by simp[qdT]))];exact h3
theorem quj:qaz RC.SG [.pin qdT qz3]:=⟨0,_,_,rfl,fun _ h=>h⟩
end LN
end
