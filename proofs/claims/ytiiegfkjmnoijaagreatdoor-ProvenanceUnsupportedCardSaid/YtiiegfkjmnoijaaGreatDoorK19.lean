import Derived.Test.YtiiegfkjmnoijaaGreatDoorK18
import Derived.Test.YtiiegfkjmnoijaaGreatDoorK9
import Derived.Test.YtiiegfkjmnoijaaGreatDoorK3
import Derived.Test.YtiiegfkjmnoijaaGreatDoorK5
import Derived.Test.YtiiegfkjmnoijaaGreatDoorK8
import Derived.Test.YtiiegfkjmnoijaaGreatDoorProg
import Derived.Test.YtiiegfkjmnoijaaGreatDoorK12
import Derived.Test.YtiiegfkjmnoijaaGreatDoorRows
import Derived.LaidLaws
import Derived.OpenShut
set_option linter.all false
set_option maxHeartbeats 256000000
set_option maxRecDepth 100000
section
open Go Go.Proofs AF HY LN
namespace RC
theorem k10:kind 10=0:=by decide
theorem qy1{s:Str}(h:z6 s=0):(10:UInt8)∉s:=by
 intro hm;rw[qbj]at h;split at h
 ·cases h
 ·split at h
  ·cases h
  ·rename_i g;obtain⟨i,hi,e⟩:=List.getElem_of_mem hm;refine g (List.any_eq_true.2 ⟨i,List.mem_range.2 hi,?_⟩);have ec:ch s i=10:=by unfold ch;rw[gdqA,zC hi];exact e
   unfold TJ;rw[ec,k10];rfl
theorem qw2{s:Str}(h:j9 s=true):(10:UInt8)∉s:=by
 unfold j9 at h;simp only[Bool.and_eq_true,decide_eq_true_eq]at h;exact qy1 h.1.1.2
theorem qBv{s:Str}(h:qrX s=true):(10:UInt8)∉s:=by
 unfold qrX at h;rw[Bool.and_eq_true,decide_eq_true_iff]at h;obtain⟨h1,h2⟩:=h
 match s,h1 with
 | [c],_=>
  intro hm;rw[List.mem_singleton]at hm;subst hm;have e:ch [10] 0=10:=rfl;rw[e,k10]at h2;simp at h2
theorem qk9{n:Int}(h0:0<=n):(10:UInt8)∉Lib.itoa n:=by
 obtain⟨u,rfl⟩: ∃u:Nat,n=u:=⟨n.toNat,om⟩
 rw[Lib.itoa_nonneg];intro hm
 have:=qcf u 10 hm
 have e:(10:UInt8).toNat=10:=rfl;omega
theorem qA7{s:Str}(h:qcQ s=true):(10:UInt8)∉s:=by
 unfold qcQ at h;obtain⟨k,_,hk⟩:=List.any_eq_true.1 h;rw[of_decide_eq_true hk];intro hm;rcases List.mem_cons.1 hm with e|hm
 ·revert e;decide
 rcases List.mem_append.1 hm with hm|hm
 ·exact qk9 om hm
 ·rw[List.mem_singleton]at hm;revert hm;decide
theorem qFf{t:Tk}(h:tkE t=0):(10:UInt8)∉t.text:=by
 unfold tkE at h;split at h
 ·cases h
 split at h
 ·cases h
 split at h
 ·cases h
 rename_i g;have g:txB t=true:=by cases hx:txB t with
  |true=>rfl
  |false=>exact absurd hx g
 unfold txB at g;split at g
 ·rw[Bool.and_eq_true]at g;exact qA7 g.1
 split at g
 ·rw[Bool.and_eq_true]at g;exact qBv g.1
 ·rw[Bool.and_eq_true]at g;exact qw2 g.1
theorem qli{s:Str}(h:kp s=true):(10:UInt8)∉s:=by
 unfold kp at h;rw[Bool.and_eq_true,Bool.and_eq_true,decide_eq_true_iff,decide_eq_true_iff,decide_eq_true_iff]at h;intro hm
 have:=List.countP_eq_length.1 h.2.2 10 hm
 revert this;decide
theorem qvg{s:Str}(h:qgK s=true):(10:UInt8)∉s:=by
 unfold qgK at h;split at h
 ·rename_i g;unfold qeP at g;rw[Bool.and_eq_true,decide_eq_true_iff,decide_eq_true_iff]at g;rw[Bool.and_eq_true]at h;intro hm;rw[<-List.take_append_drop (s.length-1) s,g.2]at hm;rcases List.mem_append.1 hm with hm|hm
  ·exact qli h.1 hm
  ·rw[List.mem_singleton]at hm;revert hm;decide
 ·exact qli h
theorem qmu{x:Co}(h:coE x=0){s:Nat}(hs:s<x.sig.length):qgK (x.sig.getD s [])=true:=by
 have h1:srE x=0:=by
  unfold coE at h;split at h
  ·rename_i e;exact absurd h e
  ·rename_i e;exact Classical.not_not.1 e
 have h2:TB (jP x.sig) 0 x.sig.length=0:=by
  unfold srE at h1;split at h1
  ·cases h1
  split at h1
  ·cases h1
  split at h1
  ·cases h1
  split at h1
  ·rename_i e;exact absurd h1 e
  ·rename_i e;exact Classical.not_not.1 e
 have h3:=jF.1 h2 s hs;unfold jP at h3;split at h3
 ·cases h3
 rename_i g;cases hx:qgK (x.sig.getD s [])with
 |true=>rfl
 |false=>exact absurd hx g
theorem qCe{x:Co}(h:coE x=0){s:Nat}(hs:s<x.sig.length):(10:UInt8)∉x.sig.getD s []:=qvg (qmu h hs)
theorem qCd{x:Co}(h:coE x=0){s:Nat}(hs:s<x.sig.length):(x.sig.getD s []).length<=16:=by
 have h1:=qmu h hs;unfold qgK at h1;split at h1
 ·rw[Bool.and_eq_true,decide_eq_true_iff]at h1;exact h1.2
 ·unfold kp at h1;rw[Bool.and_eq_true,Bool.and_eq_true,decide_eq_true_iff]at h1;exact of_decide_eq_true h1.2.1
theorem qvs{s:Str}(h:z6 s=0){t:Tk}(ht:t∈qbM s):(10:UInt8)∉t.text:=by
 intro hm;refine qy1 h ?_;have h1:(10:UInt8)∈((qbM s).map Tk.text).flatten:=List.mem_flatten.2 ⟨t.text,List.mem_map_of_mem ht,hm⟩;rw[qqP]at h1;exact (List.mem_filter.1 h1).1
theorem qEh{x:Co}{l:List Un}{d:List Dc}{s:Nat}(h:Uh x l d s): ∀r∈rwA x l d s,(10:UInt8)∉r.p.t.text:=by
 have hs0: ∀t f n,t<x.sig.length->f+n<=x.col.length-> ∀p∈spk x t f n,(10:UInt8)∉p.t.text:=by
  intro t f n ht hn p hp;obtain⟨c,c1,c2,c3,c4⟩:=qcU.1 hp;rw[c4];exact qFf (qlI h.co ht om c3).1
 have hc: ∀f t,t<=x.col.length-> ∀r∈rwC x s f t,(10:UInt8)∉r.p.t.text:=by
  intro f t ht r hr;unfold rwC at hr;obtain⟨h1,_⟩:=zT.1 hr
  by_cases g:f<=t
  ·exact hs0 s f (t-f) h.sl om _ h1
  ·rw[show t-f=0 by omega]at h1;cases h1
 have hl: ∀k,k<=l.length-> ∀r∈rwL x l d s k,(10:UInt8)∉r.p.t.text:=by
  intro k
  induction k with
  |zero=>intro _ r hr;cases hr
  |succ k ih=>
   intro hk r hr;obtain⟨_,_,u3,u4,_⟩:=kn h.us (k:=k) om;unfold rwL at hr;rcases List.mem_append.1 hr with hr|hr
   ·exact ih om r hr
   rcases List.mem_append.1 hr with hr|hr
   ·exact hc _ _ om r hr
   ·unfold rwU at hr;split at hr
    ·obtain⟨h1,_⟩:=zT.1 hr;exact hs0 s _ _ h.sl om _ h1
    ·rename_i g;obtain⟨h1,_,_⟩:=zT.1 hr;obtain⟨c1,c2,c3⟩:=qff h g;obtain⟨_,_,_,p4,_,p6⟩:=Sv c2;unfold qhV at h1;split at h1
     ·obtain⟨_,t2,_⟩:=qbJ p4;exact hs0 _ _ _ t2 om _ h1
     ·split at h1
      ·rename_i e2;obtain⟨t,t1,e⟩:=List.mem_map.1 h1;rw[<-e];exact qvs (qga p6 e2).1 t1
      ·cases h1
 intro r hr;unfold rwA at hr;rcases List.mem_append.1 hr with hr|hr
 ·exact hl _ (nlr _) r hr
 ·exact hc _ _ (nlr _) r hr
theorem qta{x:Co}{l:List Un}{d:List Dc}{s:Nat}(h:Uh x l d s){j:Nat}(hj:j<d.length):(10:UInt8)∉(d.getD j default).sig:=by
 obtain⟨_,_,_,p4,_⟩:=Sv (h.pl j hj);obtain⟨_,t2,t3,_⟩:=qbJ p4;rw[<-t3];exact qCe h.ca t2
theorem SB{a b:Str}(h1:(10:UInt8)∉a)(h2:(10:UInt8)∉b):(10:UInt8)∉a++b:=λh=>(List.mem_append.1 h).elim h1 h2
theorem quq{L:List Str}(h: ∀s∈L,(10:UInt8)∉s):(10:UInt8)∉Lib.joinTail [32] L:=by
 induction L with
 |nil=>simp[Lib.joinTail]
 |cons a L ih=>
  have e:Lib.joinTail [32] (a::L)=([32]++a)++Lib.joinTail [32] L:=by simp[Lib.joinTail]
  rw[e];exact SB (SB (by decide) (h a (List.mem_cons_self ..))) (ih λs hs=>h s (List.mem_cons_of_mem _ hs))
theorem qup{L:List Str}(h: ∀s∈L,(10:UInt8)∉s):(10:UInt8)∉Lib.join L [32]:=by
 cases L with
 |nil=>simp[Lib.join_nil]
 |cons a L=>
  rw[Lib.join_cons];exact SB (h a (List.mem_cons_self ..)) (quq λs hs=>h s (List.mem_cons_of_mem _ hs))
theorem qFg{d:List Dc}{w:Wd}(hd:0<=w.dec->w.dec.toNat<d.length∧(10:UInt8)∉(d.getD w.dec.toNat default).sig):(10:UInt8)∉(tlL d w).flatten:=by
 unfold tlL;split
 ·decide
 split
 ·decide
 rename_i g;obtain⟨_,h2⟩:=hd om;have h3:=qk9 (n:=w.dec) om;split
 ·simp only[List.flatten_cons,List.flatten_nil,lan];exact SB (by decide) (SB h3 (SB (by decide) h2))
 ·simp only[List.flatten_cons,List.flatten_nil,lan];exact SB (by decide) (SB h3 (by decide))
theorem qCn{d:List Dc}{w:Wd}:(tlL d w).flatten= [99,111,109,109,111,110]↔w.unit<0:=by
 unfold tlL;split
 ·rename_i g;exact⟨λ_=>g,λ_=>by decide⟩
 rename_i g;refine⟨λe=> ?_,λe=>absurd e g⟩;split at e
 ·exact absurd e (by decide)
 split at e<;>simp at e
theorem qvq{d:List Dc}{w:Wd}:(tlL d w).flatten= [108,101,97,100,105,110,103,32,115,111,117,114,99,101]↔0<=w.unit∧w.dec<0:=by
 unfold tlL;split
 ·rename_i g;exact⟨λe=>absurd e (by decide),λe=>by omega⟩
 rename_i g;split
 ·rename_i g2;exact⟨λ_=>⟨om,g2⟩,λ_=>by decide⟩
 rename_i g2;refine⟨λe=> ?_,λe=>absurd e.2 g2⟩;split at e<;>simp at e
end RC
end
section
open Go Go.Proofs AF
def qt2:List Nat:= []
theorem qEv:qP Tryz.prog 63 9 0 [RV.tmp 4] (cCT 120):=fi Tryz.f63 [] qt2 []
end
section
open Go Go.Proofs AF HY LN
namespace RC
theorem qtL(p r:Str)(h:wh):ACalls Tryz.prog 161 [.str (p++r),.str p] h (.bool true) h:=by
 have k1:((p.length:Int)<=((p++r).length:Nat))=True:=eqt (by rw[lap];omega);have k2:List.take (p.length-0) (p++r)=p:=List.take_left' rfl;have k3:(p=p)=True:=eqt rfl;obtain⟨s,hs⟩:=wg (p++r)
 rw[<-hs]at k1 k2 ⊢;refine acO qzM ?_;simp (disch:=omega) only[qxZ,k1,k2,go_sem]
 repeat' first|exact wc|with_reducible apply aiA|exact clz|fail
theorem qD8(p r:Str)(h:wh):ACalls Tryz.prog 119 [.str (p++r),.str p] h (.tup [.str r,.bool true]) h:=by
 have c1:=λh=>qtL p r h
 have k1:((p.length:Int)<=((p++r).length:Nat))=True:=eqt (by rw[lap];omega);have k2:List.take ((p++r).length-p.length) (List.drop p.length (p++r))=r:=by rw[List.drop_left' rfl];exact ltl (by rw[lap];omega)
 obtain⟨s,hs⟩:=wg (p++r)
 rw[<-hs]at k1 k2 c1 ⊢;refine acO qzp ?_;simp (disch:=omega) only[qxG,go_sem]
 repeat' first|(refine cA (c1 _) flk ?_;simp (disch:=omega) only[k1,k2,go_sem])|exact wc|with_reducible apply aiA|exact clz|fail
theorem qGC(p r:Str)(h:wh):ACalls Tryz.prog 62 [.str (p++r),.str p] h (.tup [.str r,.bool true]) h:=by
 have c1:=λh=>qD8 p r h
 refine acO qEu ?_;simp (disch:=omega) only[qFN,go_sem]
 repeat' first|(refine cA (c1 _) flk ?_;simp (disch:=omega) only[go_sem])|exact wc|with_reducible apply aiA|exact clz|fail
theorem ctX(s:Str)(h:wh)(hn:(10:UInt8)∉s):ACalls Tryz.prog 63 [.str s,.str [10]] h (.bool false) h:=by
 have c1:=λh=>qHC s 10 h
 have hi:Go.Lib.indexByte s 10= -1:=by
  rcases Int.lt_or_le (Go.Lib.indexByte s 10) 0 with g|g
  ·have:=Go.Lib.indexByte_ge s 10
   omega
  ·obtain⟨o,ho⟩: ∃o:Nat,Go.Lib.indexByte s 10=o:=⟨(Go.Lib.indexByte s 10).toNat,om⟩
   exact absurd (List.mem_of_getElem? (Go.Lib.indexByte_some ho).1) hn
 rw[hi]at c1;have k1:(0<=(-1:Int))=False:=wm;refine acO qEv ?_;simp (disch:=omega) only[cCT,go_sem]
 repeat' first|(refine cA (c1 _) flk ?_;simp (disch:=omega) only[k1,go_sem])|exact wc|fail
end RC
end
section
open Go Go.Proofs AF
def qtZ:List Nat:= []
def qDH:C:=
 (vU [O1 4 (.box 0 26) 0,MC 8 (.bool false)] (vU [O1 25 (.load (some 4)) 4,MV 26 1,MV 27 2,ON 28 (.call 55 true) [.t 25,.t 26,.t 27],MV 24 28,O1 29 (.ext 0) 24,O1 30 (.ext 1)
 24,O1 31 (.ext 2) 24,O1 32 (.ext 3) 24,MV 9 29,MV 10 30,MV 11 31,MV 12 32] ((vU [MV 33 12,O1 34 (.un UnOp.not) 33] (vV 34 (vX [ON 35 (.call 56 true) [],MV 8 35]))).seq (vU [MV
 36 3,O1 37 (.conv .i64) 36,vN 38 1 4,LD 39 38,O1 40 .len 39,BI 41 .rem 37 40,MV 13 41] (vU [O1 43 (.load (some 4)) 4,MV 44 9,MV 45 10,MV 46 13,ON 47 (.call 38 true) [.t 43,.t
 44,.t 45,.t 46],MV 42 47,O1 48 (.ext 0) 42,O1 49 (.ext 1) 42,O1 50 (.ext 2) 42,MV 14 48,MV 15 49,MV 16 50] ((vU [MV 51 16,vP 52 .neq 51 0,MV 53 52,vS 54 53 15,vS 55 53 9,vQ 56
 53 .len 55,vR 57 53 (.bin .neq) 54 56,PT 58 53 57] (vV 58 (vX [MC 8 (.bool false)]))).seq (vU [vO 17 0] ((vU [MV 59 9,O1 60 .len 59,vO 61 0] (C.block 0 (vU [BI 62 .lss 61 60]
 ((vW 62 0).seq ((C.block 1 (vU [MV 63 61,O2 64 (.idxA 3) 59 61,O1 65 (.load (some 3)) 64,⟨some 19,none,.alloc 1 64 [i6 0,i6 0,.nl],[]⟩,MV 18 63,ST 3 19 65] (vU [O1 67 (.load
 (some 4)) 4,MV 68 9,MV 69 10,MV 70 18,ON 71 (.call 52 true) [.t 67,.t 68,.t 69,.t 70],MV 66 71,O1 72 (.ext 0) 66,O1 73 (.ext 1) 66,MV 20 72,MV 21 73] (vU [O1 75 (.load (some
 3)) 19,MV 76 13,O2 77 (.call 59 true) 75 76,MV 74 77,O1 78 (.ext 0) 74,O1 79 (.ext 1) 74,MV 22 78,MV 23 79] ((vU [MV 80 21,vP 81 .neq 80 0,MV 82 81,vS 83 82 23,vT 84 82 (.bin
 .neq) 83 (i6 0),PT 85 82 84,MV 86 85,vS 87 86 22,vT 88 86 (.bin .lss) 87 (i6 0),PT 89 86 88,MV 90 89,vS 91 90 22,v7 92 90 2 19,v8 93 90 92,vQ 94 90 .len 93,vR 95 90 (.bin .geq)
 91 94,PT 96 90 95] (vV 96 (vX [MC 8 (.bool false)]))).seq (vU [vN 97 2 19,LD 98 97,MV 99 22,O2 100 (.idxA 2) 98 99,vN 101 0 100,LD 102 101,MV 103 20,O2 104 (.call 36 true) 102
 103] (vV 104 (vZ 105 17)))))))).seq (vY [vP 107 .add 61 1,MV 61 107])))).loop)).seq (vX [MV 108 14,MV 109 17,BI 110 .eql 108 109,MV 111 110,MG 112 111 true 13,MG 113 111 true
 11,P2 114 111 true (.bin .neq) 112 113,MG 115 111 true 114,vS 116 115 1,vQ 117 115 .len 116,vT 118 115 (.bin .gtr) 117 (i6 0),QT 119 111 true 115 118,MG 120 111 true 119,vS 121
 120 14,vS 122 120 15,vR 123 120 (.bin .eql) 121 122,QT 124 111 true 120 123,PF 125 111 124,MV 126 125,PN 127 126 true (.call 56 true) [],PF 128 126 127,MV 8 128])))))))))
theorem qzq:qP Tryz.prog 11 129 2 [RV.tmp 8] qDH:=fi Tryz.f11 [4,19] qtZ []
end
section
open Go Go.Proofs AF HY LN
namespace RC
theorem qBp(x:Co)(d:List Dc)(q:Nat)(r:Nat)(h:wh)(hq:q<=255)(hr:r<=255)(hp:kv SG h)(hg:jj h frmN frmC)(h1:CoB x)(h2:d.length<=9223372036854775807):
  ACalls Tryz.prog 11 [.agg (coC x),jO d,.int .u8 (q:Int),.int .u8 (r:Int)] h (.bool true) h:=by
 have c1:=λl'=>qtn x d q (h++l') hq (hp.app l') hg.app h1 h2
 have c2:=λl'=>qsv (h++l') (hp.app l')
 obtain⟨B,hB⟩:=wg (qtb x d q)
 obtain⟨l,hl⟩:=wg (qtc x d)
 obtain⟨b,hb⟩:=wg (qte x d q)
 obtain⟨nn,hnn⟩: ∃n,n=qtd x d q:=⟨_,rfl⟩
 simp only[<-hB,<-hl,<-hb,<-hnn]at c1;unfold coC at c1;cases B with
 |false=>
  refine acO qzq ?_;simp (disch:=omega) only[qDH,coC,go_sem]
  repeat' first|((first|refine cA (c1 _) ?_ ?_|refine cA (c2 _) ?_ ?_);exact flk;simp (disch:=omega) only[go_sem])|exact wa|with_reducible apply aiA|exact clz|fail
 |true=>
 obtain⟨o1,⟨o2,o3⟩,zu,d1,d2,d3,E,e1,e2,e3⟩:=qto hB.symm;rw[<-hl]at e1;rw[<-hb]at e2;rw[<-hnn]at e3;obtain⟨m,hm⟩:=wg (nL x q)
 rw[<-hm]at E e2 e3;rw[<-e1]at E e2 zu;subst e3;have hsl:=E.sl;have ho:=E.co;have hln:=E.ln;have hlen:b.length=(rwA x l d m).length:=by rw[e2,jK]
 have hpv:=qtm E;have F:=λi (hi:i<(rwA x l d m).length)=>qcO E hi rfl
 rw[<-e2]at hpv F;have ht: ∀i,(b.getD i default).text.length<=1000000000:=je b (λw=>w.text.length<=1000000000) (by decide) λi hi=>by have:=(F i om).2.1.2;omega
 have zb0:jd b= .sl b.length λi=>wdC (b.getD i default):=rfl
 have zb1: ∀g,valL g .len [jd b]= .int .i64 b.length:=λ_=>rfl
 have zb2: ∀g,okL g .len [jd b]=True:=λ_=>eqt trivial
 have zl1: ∀g,valL g .len [zn l]= .int .i64 l.length:=λ_=>rfl
 have zl2: ∀g,okL g .len [zn l]=True:=λ_=>eqt trivial
 have zs1: ∀g,valL g .len [strs x.sig]= .int .i64 x.sig.length:=λ_=>rfl
 have zs2: ∀g,okL g .len [strs x.sig]=True:=λ_=>eqt trivial
 have hva:=qBP hpv;have hzn:=zu.n;have huo:=Tq E.us;obtain⟨k,hk0⟩:=wg (r%x.sig.length)
 have hkl:k<x.sig.length:=by rw[hk0];exact Nat.mod_lt _ om
 have hr1:(r:Int)%(x.sig.length:Int)=(k:Int):=by rw[hk0];omega
 have k0:((x.sig.length:Int)=0)=False:=wm;have c3:=λl'=>qxm x l b k (h++l') o1 zu om ht om (hp.app l')
 have a1:agE x l b k=0:=by unfold agE;rw[ine (by simp[hpv]),ine om]
 have a2:agN x l b k=(cP (agB l b k) l.length:Int):=by unfold agN;rw[ipo a1]
 have a3:agM x l b k=(l.length:Int):=by unfold agM;rw[ipo a1]
 simp only[a1,a2,a3]at c3;have hfol:k=m->d= []->cP (agB l b k) l.length=l.length:=λe1 e3=>by
  subst e1;subst e3;rw[e2];exact qAX E hkl qtD
 have k00:((l.length:Int)=l.length)=True:=eqt rfl;have zd1: ∀g,valL g .len [jO d]= .int .i64 d.length:=λ_=>rfl
 have zd2: ∀g,okL g .len [jO d]=True:=λ_=>eqt trivial
 unfold coC at c3;obtain⟨A,hA⟩:=wg (cP (agB l b k) l.length)
 simp only[<-hA]at c3 hfol;refine acO qzq ?_;simp (disch:=omega) only[qDH,coC,go_sem]
 repeat' first|((first|refine cA (c1 _) ?_ ?_|refine cA (c3 _) ?_ ?_);exact flk;simp (disch:=omega) only[zs1,zs2,hr1,zl1,zl2,go_sem])|with_reducible apply aiA|exact clz|fail
 refine qt (T:=λi:Nat×AObj=>zw 129 [(1,jO d),(4,.op h.length 1 0),(9,zn l),(10,jd b),(11,.int .i64 (m:Int)),(13,.int .i64 (k:Int)),(14,.int .i64 (A:Int)),(15,.int .i64 l.length),(17,.int .i64 (cP (agB l b k) i.1:Int)),(59,zn l),(60,.int .i64 l.length),(61,.int .i64 i.1)])
  (H:=λi=>h++ [.mem 1 26 (coC x),i.2])
  (inv:=λi=>i.1<=l.length∧qK [i.2] 0=true) (m:=λi=>l.length-i.1) (0,.emp 0) ⟨nzl _,rfl⟩ (Wk.temps ?_) ?_
 ·(simp only[cP,go_sem,qf,qc,qb,qe];try exact we)
 rintro⟨i,O⟩ ⟨i1,i2⟩ K hK;simp only at i1 i2 hK;have i2': ∀m,qK (O::m) 0=true:=λ_=>i2
 by_cases hi:i<l.length
 case neg=>
  have k1:((i:Int)<l.length)=False:=wm;obtain rfl:i=l.length:=by omega
  rw[<-hA];have k2:((A:Int)=A)=True:=eqt rfl
  by_cases g1:k=m
  ·have m1:((k:Int)=m)=True:=wj
   by_cases g2:d.length=0
   ·have m2:((0:Int)<d.length)=False:=wm;have m3:((A:Int)=l.length)=True:=eqt (by rw[hfol g1 (List.eq_nil_of_length_eq_zero g2)]);simp (disch:=omega) only[k1,m1,m2,m3,zd1,zd2,go_sem]
    repeat' first|(refine cG (λe=>c2 _) flk ?_;simp (disch:=omega) only[go_sem])|exact wa|fail
   ·have m2:((0:Int)<d.length)=True:=wj;simp (disch:=omega) only[k1,m1,m2,zd1,zd2,go_sem]
    repeat' first|(refine cG (λe=>c2 _) flk ?_;simp (disch:=omega) only[go_sem])|exact wa|fail
  ·have m1:((k:Int)=m)=False:=wm;simp (disch:=omega) only[k1,m1,zd1,zd2,go_sem]
   repeat' first|(refine cG (λe=>c2 _) flk ?_;simp (disch:=omega) only[go_sem])|exact wa|fail
 have k1:((i:Int)<l.length)=True:=wj;have k2:(0<=(i:Int))=True:=wj;obtain⟨q1,q2,q3,q4⟩:=qgC huo hi (s:=(k:Int)) om om;have c4:=λl'=>rdD x l b i (h++l') o1 zu om (hp.app l') E.ca hva hi
 have c8:=λh=>qF5 (l.getD i default) (k:Int) h (zu.rd i) (zu.sr i)
 have hE0:qp7 (l.getD i default).rds (k:Int)=0:=by unfold qp7;rw[ine om]
 have hwl:=zu.wd i (qaM (l.getD i default).rds (k:Int)).toNat;have hag:agB l b k i=decide (((l.getD i default).rds.getD (qaM (l.getD i default).rds (k:Int)).toNat default).words=owG b (i:Int) b.length):=rfl;have hst:cP (agB l b k) (i+1)=cP (agB l b k) i+if agB l b k i=true then 1 else 0:=rfl
 have hcl:cP (agB l b k) i<=l.length:=by have:=qyX (agB l b k) i;omega
 have hol:=qlD b (i:Int) b.length;rw[q3]at hag hwl;obtain⟨j,hj⟩: ∃j:Nat,qc5 (l.getD i default).rds (k:Int)=(j:Int):=⟨(qc5 (l.getD i default).rds (k:Int)).toNat,om⟩
 rw[hj]at q1 q2 q3;rw[hj,itn]at hag hwl;simp only[q3,hE0]at c8;obtain⟨W,hW⟩:=wg (owG b (i:Int) b.length)
 rw[<-hW]at hag hol;simp only[<-hW]at c4;obtain⟨un,hun⟩: ∃v,v=l.getD i default:=⟨_,rfl⟩
 have eun:=hun.symm;simp only[eun]at c8;rw[eun]at hag hwl q2;have zu0:zn l= .sl l.length λi=>unC (l.getD i default):=rfl
 have zr0:jX un.rds= .sl un.rds.length λi=>rdC (un.rds.getD i default):=rfl
 have p5:((j:Int)<0)=False:=wm;have p6:((un.rds.length:Int)<=j)=False:=wm;have p7:((j:Int)<un.rds.length)=True:=wj;have p8:(0<=(j:Int))=True:=wj;obtain⟨rd,hrd⟩: ∃r,r=un.rds.getD j default:=⟨_,rfl⟩
 have er:=hrd.symm;rw[er]at hag hwl;have zu1: ∀g,valL g .len [jX un.rds]= .int .i64 un.rds.length:=λ_=>rfl
 have zu2: ∀g,okL g .len [jX un.rds]=True:=λ_=>eqt trivial
 have c10:=λh=>qzg rd.words W h om om
 rw[<-hag]at c10;unfold coC at c4;unfold unC at c8;obtain⟨C,hC⟩:=wg (cP (agB l b k) i)
 rw[<-hC]at hst hcl ⊢;cases hB2:agB l b k i with
 |true=>
  rw[hB2]at c10 hst;rw[ipo rfl]at hst;simp (disch:=omega) only[zu0,unC,coC,k1,k2,eun,i2',go_sem]
  repeat' first|((first|refine cA (c4 _) ?_ ?_|refine cA (c8 _) ?_ ?_|refine cA (c10 _) ?_ ?_);exact flk;simp (disch:=omega) only[rdC,p5,p6,p7,p8,er,zr0,go_sem])|with_reducible apply aiA|exact clz|fail
  refine hK _ _ (i+1,.mem (qn (some O)+1) 64 (unC un)) ⟨hi,rfl⟩ (by simp only;omega) ?_;simp only[coC,unC,hst];refine Wk.temps ?_
  (simp only[go_sem,qf,qc,qb,qe];try exact we)
 |false=>
  rw[hB2]at c10 hst;rw[ine Bool.false_ne_true,Nat.add_zero]at hst;simp (disch:=omega) only[zu0,unC,coC,k1,k2,eun,i2',go_sem]
  repeat' first|((first|refine cA (c4 _) ?_ ?_|refine cA (c8 _) ?_ ?_|refine cA (c10 _) ?_ ?_);exact flk;simp (disch:=omega) only[rdC,p5,p6,p7,p8,er,zr0,go_sem])|with_reducible apply aiA|exact clz|fail
  refine hK _ _ (i+1,.mem (qn (some O)+1) 64 (unC un)) ⟨hi,rfl⟩ (by simp only;omega) ?_;simp only[coC,unC,hst];refine Wk.temps ?_
  (simp only[go_sem,qf,qc,qb,qe];try exact we)
end RC
end
section
open Go Go.Proofs AF HY Go.ChangeShapes Go.RowKit
namespace LN
theorem qEI : Tryz.prog.globalNamed "internal/strconv.uint64pow10" = some 3 := by kernel_rfl
theorem qEK : Tryz.prog.globalNamed "strconv.ErrSyntax" = some 7 := by kernel_rfl
theorem qEJ : Tryz.prog.globalNamed "strconv.ErrRange" = some 8 := by kernel_rfl
theorem qFY : Tryz.prog.globalNamed "apograph/transcript.forms" = some 4 := by kernel_rfl
theorem qpZ{w w':World}(h:qsl w)(e:w'.heap[3]? =w.heap[3]?):qsl w':=by
 unfold qsl Lib.TabIs at*;rw[qdy qEI e];exact h
theorem qeP : "*" ++ "errors.errorString" = "*errors.errorString" := by decide
theorem qr8 (u : TypeId) (h : Tryz.prog.typeName? 3 u = some "*errors.errorString") : u = 348 :=
 typeName_ptr_named (nm := "errors.errorString") (by rw [qeP]; kernel_rfl) (by kernel_rfl) (by decide) u (by rw [qeP]; exact h)
structure Fr where
 s:List UInt8
 a:Bool
 b:Bool
 c:Bool
def Fr.av(r:Fr):wi:= [.str r.s,.bool r.a,.bool r.b,.bool r.c]
def Fr.vl(r:Fr):List Value:= [.string ⟨r.s.toArray⟩,.bool r.a,.bool r.b,.bool r.c]
def Fr.da{H:Type}(r:Fr):DataW H:= .agg [.lit (.string r.s),.lit (.bool r.a),.lit (.bool r.b),.lit (.bool r.c)]
def frL:List Fr:= [⟨[],false,false,false⟩,⟨[],true,false,false⟩,⟨[108,98],false,false,false⟩,⟨[112,98],true,false,false⟩,⟨[115,101,99],true,false,false⟩,⟨[118],false,false,false⟩,
 ⟨[103,97,112],false,true,false⟩,⟨[117,110,99,108,101,97,114],false,false,true⟩,⟨[97,100,100],false,true,true⟩,⟨[100,101,108],false,true,true⟩,⟨[97,98],true,false,true⟩,⟨[110,97,109,101],true,false,true⟩]
theorem qAY:RC.frmC=frL.flatMap Fr.av:=rfl
theorem qAZ:(YtiiegfkjmnoijaaGreatDoor.Rows.laid_apograph_transcript_forms:DataW Unit)= .agg (frL.map Fr.da):=rfl
theorem qEm{α β:Type}{f:α->List β}(hf: ∀a,(f a).length=4): ∀(l:List α) (i j:Nat),j<4->(l.flatMap f)[i*4+j]? =(l[i]?).bind λa=>(f a)[j]? :=by
 intro l
 induction l with
 |nil=>intro i j _;simp
 |cons a l ih=>
  intro i j hj;rw[List.flatMap_cons];cases i with
  |zero=>
   rw[Nat.zero_mul,Nat.zero_add,List.getElem?_append_left (by rw[hf];exact hj)];rfl
  |succ i=>
   rw[List.getElem?_append_right (by rw[hf];omega),hf,show (i+1)*4+j-4=i*4+j by omega,ih i j hj];rfl
theorem qcb:Tryz.prog.cellsOf 324=4:=by kernel_rfl
theorem qeZ:Tryz.prog.cellsOf 325=48:=by kernel_rfl
theorem qoo:Tryz.prog.cellsOf 9=1:=by kernel_rfl
theorem qom:Tryz.prog.cellsOf 4=1:=by kernel_rfl
theorem qBZ{H:Type}{enc:TypeId×Value->H}{w:World}{base fuel:Nat}{spare:Nat->Bool}{held:Bool}{cs:List Value}{x:DataW H×List MemPlace}{r:Fr}
  (h:DataW.trod enc Tryz.prog w base spare held fuel 324 cs=some x) (hx:x.1=r.da):cs=r.vl:=by
 obtain⟨xs,n,_,hxe,hl,hxl,hf⟩:=DataW.trod_struct Tryz.underlying324 h;rw[qcb]at hl
 match cs,hl with
 | [v0,v1,v2,v3],_=>
 match xs,hxl with
 | [y0,y1,y2,y3],_=>
  have h0:DataW.trod enc Tryz.prog w base spare held n 9 (([v0,v1,v2,v3].drop 0).take (Tryz.prog.cellsOf 9))= [y0,y1,y2,y3][0]? :=hf 0 _ rfl;have h1:DataW.trod enc Tryz.prog w base spare held n 4 (([v0,v1,v2,v3].drop 1).take (Tryz.prog.cellsOf 4))= [y0,y1,y2,y3][1]? :=hf 1 _ rfl;have h2:DataW.trod enc Tryz.prog w base spare held n 4 (([v0,v1,v2,v3].drop 2).take (Tryz.prog.cellsOf 4))= [y0,y1,y2,y3][2]? :=hf 2 _ rfl;have h3:DataW.trod enc Tryz.prog w base spare held n 4 (([v0,v1,v2,v3].drop 3).take (Tryz.prog.cellsOf 4))= [y0,y1,y2,y3][3]? :=hf 3 _ rfl;rw[qoo]at h0;rw[qom]at h1 h2 h3;obtain⟨s,e0,x0,_⟩:=DataW.trod_string Tryz.underlying9 h0;obtain⟨b1,e1,x1⟩:=DataW.trod_bool Tryz.underlying4 h1;obtain⟨b2,e2,x2⟩:=DataW.trod_bool Tryz.underlying4 h2;obtain⟨b3,e3,x3⟩:=DataW.trod_bool Tryz.underlying4 h3;have hy:([y0,y1,y2,y3]:List (DataW H×List MemPlace)).map (·.1)= [.lit (.string r.s),.lit (.bool r.a),.lit (.bool r.b),.lit (.bool r.c)]:=by
   have hx:=hxe▸hx;exact DataW.agg.inj hx
  rw[x0,x1,x2,x3]at hy;simp at hy e0 e1 e2 e3;obtain⟨g0,g1,g2,g3⟩:=hy;unfold Fr.vl;subst e0 e1 e2 e3;rw[<-g0,g1,g2,g3]
theorem qEF {W : World} {rest : List (String × DataW Unit)} (h : laidMet Tryz.prog (("apograph/transcript.forms", YtiiegfkjmnoijaaGreatDoor.Rows.laid_apograph_transcript_forms) :: rest) W) : qg3 4 RC.frmC W := by
 obtain⟨ps,⟨g',t',cs,fuel,p,q,hg',ht',hvar,hd,_,_⟩,_⟩:=h;obtain rfl:=Option.some.inj (qFY.symm.trans hg');obtain rfl:325=t':=Option.some.inj ((show (Tryz.prog.globals[4]?).map (·.type)=some 325 by kernel_rfl).symm.trans ht');obtain⟨xs,m,_,hxe,hl,hxl,hr⟩:=DataW.trod_array Tryz.underlying325 hd;rw[qeZ]at hl;have hxm:xs.map (·.1)=frL.map Fr.da:=by
  have:=congrArg Prod.fst hxe
  rw[qAZ]at this;exact (DataW.agg.inj this).symm
 have rows: ∀i r,frL[i]? =some r->(cs.toList.drop (i*4)).take 4=r.vl:=λi r hi=>by
  have hil:i<12:=(lgs.1 hi).1;have e1:(xs.map (·.1))[i]? =some r.da:=by rw[hxm,List.getElem?_map,hi];rfl
  rw[List.getElem?_map,Option.map_eq_some_iff]at e1;obtain⟨y,hy,hy1⟩:=e1;have h1:=hr i hil;rw[hy,qcb]at h1;exact qBZ h1 hy1
 have hv: ∃T fz,W.heap[4]? =some (.cells cs T fz):=by
  unfold World.var? at hvar;rw[qFY]at hvar;simp only[Option.bind_some]at hvar;split at hvar
  ·rename_i c T fz hc;cases hvar;exact⟨_,_,hc⟩
  ·cases hvar
 obtain⟨T,fz,hc⟩:=hv;refine⟨cs,T,fz,hc,?_,?_⟩
 ·have:cs.size=48:=by simpa using hl
  rw[this];exact Nat.le_of_eq rfl
 intro i c x hi hx;have hij:i=i/4*4+i%4:=by omega
 rw[qAY,hij,qEm (λ_=>rfl) frL _ _ (Nat.mod_lt _ (by decide)),Option.bind_eq_some_iff]at hi;obtain⟨r,hr1,hr2⟩:=hi;have h2:=rows _ _ hr1;have h3:r.vl[i%4]? =some x:=by
  rw[<-h2,List.getElem?_take,ipo (Nat.mod_lt _ (by decide)),List.getElem?_drop,<-hij];simpa using hx
 have h4:i%4<4:=Nat.mod_lt _ (by decide);obtain⟨j,hj⟩:=wg (i%4)
 rw[<-hj]at hr2 h3 h4
 match j,h4 with
 |0,_=>cases hr2;cases h3;exact⟨rfl,λ_ _=> .str⟩
 |1,_=>cases hr2;cases h3;exact⟨rfl,λ_ _=> .bool⟩
 |2,_=>cases hr2;cases h3;exact⟨rfl,λ_ _=> .bool⟩
 |3,_=>cases hr2;cases h3;exact⟨rfl,λ_ _=> .bool⟩
theorem qtE{w w':World}(h:qg3 4 RC.frmC w)(e:w'.heap[4]? =w.heap[4]?):qg3 4 RC.frmC w':=by
 obtain⟨arr,T,fz,h1,h2⟩:=h;exact⟨arr,T,fz,e.trans h1,h2⟩
def TM:List Nat:= [4,3,7,8]
def qqr(w:World):Prop:=RC.SG w∧qg3 4 RC.frmC w
theorem qCf{W:World}(h:laidMet Tryz.prog YtiiegfkjmnoijaaGreatDoor.Rows.topBaseWordsRow.laid W):qsl W∧qDl W∧qg3 4 RC.frmC W:=by
 have h2:=laidMet.tail (laidMet.tail h);have h3:=laidMet.tail h2;have h4:=laidMet.tail h3;have h5:=laidMet.tail h4;obtain⟨a,s,e1,_⟩:=laid_sentinel (g:=8) (ti:=166) (tp:=348) (te:=350) (ts:=9) h3 qEJ (by kernel_rfl) Tryz.underlying166 qr8 Tryz.underlying348 Tryz.underlying350 rfl rfl Tryz.underlying9 (by kernel_rfl) (by kernel_rfl);obtain⟨b,t,e2,_⟩:=laid_sentinel (g:=7) (ti:=166) (tp:=348) (te:=350) (ts:=9) h4 qEK (by kernel_rfl) Tryz.underlying166 qr8 Tryz.underlying348 Tryz.underlying350 rfl rfl Tryz.underlying9 (by kernel_rfl) (by kernel_rfl);exact⟨Lib.tabIs_of_head (t:=315) (e:=218) (n:=20) qEI (by kernel_rfl) Tryz.underlying315 Tryz.underlying218 (by kernel_rfl) (by kernel_rfl) h2,⟨⟨_,_,e2⟩,_,_,e1⟩,qEF h5⟩
theorem qde{W:World}(h:laidMet Tryz.prog YtiiegfkjmnoijaaGreatDoor.Rows.topBaseWordsRow.laid W): ∀b,b∈TM-> ∃arr T fz,W.heap[b]? =some (.cells arr T fz):=by
 intro b hb;obtain⟨h1,⟨⟨_,_,h2⟩,_,_,h3⟩,arr,T,fz,h4,_⟩:=qCf h;have e:b=4∨b=3∨b=7∨b=8:=by simpa[TM] using hb
 rcases e with rfl|rfl|rfl|rfl
 ·exact⟨_,_,_,h4⟩
 ·exact qbP qEI h1
 ·exact qbP qEK h2
 ·exact qbP qEJ h3
theorem qfx{W:World}(h:laidMet Tryz.prog YtiiegfkjmnoijaaGreatDoor.Rows.topBaseWordsRow.laid W): ∀w':World,(∀b,b∈TM->w'.heap[b]? =W.heap[b]?)->qqr w':=by
 intro w' hs;obtain⟨h1,⟨⟨t1,p1,h2⟩,t2,p2,h3⟩,h4⟩:=qCf h;refine⟨⟨qpZ h1 (hs 3 (by simp[TM])),⟨t1,p1,?_⟩,t2,p2,?_⟩,qtE h4 (hs 4 (by simp[TM]))⟩
 ·rw[qdy qEK (hs 7 (by simp[TM]))];exact h2
 ·rw[qdy qEJ (hs 8 (by simp[TM]))];exact h3
theorem qfw:kv RC.SG [.pin TM qqr]:=⟨0,_,_,rfl,λ_ h=>h.1⟩
theorem qfv:jj [.pin TM qqr] RC.frmN RC.frmC:=⟨0,_,_,rfl,by simp[TM],λ_ h=>h.2⟩
end LN
end
