import Derived.Test.YtgoandblgcjleaaGreatDoorK15
import Derived.Test.YtgoandblgcjleaaGreatDoorK9
import Derived.Test.YtgoandblgcjleaaGreatDoorRows
import Derived.LaidLaws
set_option linter.all false
set_option linter.unusedSimpArgs false
set_option linter.unusedVariables false
set_option linter.unusedSectionVars false
set_option maxRecDepth 100000
section
open Go Go.Proofs AF HY LN
namespace RC
set_option maxHeartbeats 32000000
def usE (a:Ap) (u:Nat) (L:List En) (i:Nat):Nat:=((L.take i).filter (spB a u)).length
def qs8 (a:Ap) (u s:Nat) (L:List En) (i:Nat):Nat:=(((L.take i).filter (spB a u)).filter (nmS a s)).length
theorem qq0 {a:Ap} {u:Nat} {L:List En} {i:Nat} (hi:i<L.length):usE a u L (i+1)=usE a u L i+if spB a u (L.getD i default)=true then 1 else 0:=by
 unfold usE
 rw [qhy hi,List.filter_append,List.length_append]
 cases h:spB a u (L.getD i default)
 ·rw [List.filter_cons_of_neg (by rw [h];simp),if_neg (by simp)];rfl
 ·rw [List.filter_cons_of_pos h,if_pos rfl];rfl
theorem qkW {a:Ap} {u s:Nat} {L:List En} {i:Nat} (hi:i<L.length):qs8 a u s L (i+1)=qs8 a u s L i+if spB a u (L.getD i default)=true∧nmS a s (L.getD i default)=true then 1 else 0:=by
 unfold qs8
 rw [qhy hi,List.filter_append,List.filter_append,List.length_append]
 cases h:spB a u (L.getD i default)
 ·rw [List.filter_cons_of_neg (by rw [h];simp),if_neg (by simp)];rfl
 ·rw [List.filter_cons_of_pos h]
  cases h2:nmS a s (L.getD i default)
  ·rw [List.filter_cons_of_neg (by rw [h2];simp),if_neg (by simp)];rfl
  ·rw [List.filter_cons_of_pos h2,if_pos ⟨rfl,rfl⟩];rfl
theorem qnH (a:Ap) (u:Nat) (L:List En) (i:Nat):usE a u L i≤i:=by
 unfold usE
 refine Nat.le_trans (List.length_filter_le _ _) ?_
 rw [List.length_take]
 exact Nat.min_le_left _ _
theorem qs9 (a:Ap) (u s:Nat) (L:List En) (i:Nat):qs8 a u s L i≤i:=Nat.le_trans (List.length_filter_le _ _) (qnH a u L i)
theorem qoT (N:List Int) {j:Nat} (hj:j<N.length) (k:Int):(N.take (j+1)).count k=(N.take j).count k+if N.getD j 0=k then 1 else 0:=by
 rw [List.take_add_one,qZ hj,gdqA,qZ hj,List.count_append]
 show _+List.count k [N[j]]=_+if N[j]=k then 1 else 0
 by_cases h:N[j]=k
 ·rw [h,if_pos rfl,List.count_cons_self];rfl
 ·rw [if_neg h,List.count_cons_of_ne h];rfl
theorem qBE (a:Ap) (h:List AObj) (hp:qba SG h) (hb:ApB a):ACalls Tryz.prog 10 [.agg (apC a)] h (.bool true) h:=by
 have c24:=fun l=>qAL (h++l) (hp.app l)
 have c23:=fun h=>grP a h hb
 obtain ⟨g,hg⟩: ∃g,g=qtT a:=⟨_,rfl⟩
 rw [←hg]at c23
 cases g with
 |true=>
  refine acO qtI ?_
  simp (disch:=omega) only [qAw,apC,go_sem]
  repeat' first
   |((first|refine cA (c23 _) ?_ ?_|refine cG (fun e=>c23 _) ?_ ?_|refine cA (c24 _) ?_ ?_|refine cG (fun e=>c24 _) ?_ ?_|refine cU (fun _=>c23 _) ?_ ?_|refine cU (fun _=>c24 _) ?_ ?_);exact flk;simp (disch:=omega) only [apC,go_sem])
   |((first|apply qd|apply qb);exact rvk;simp only [go_sem];first|exact ql|apply qe|apply qa|apply qf|skip)
   |with_reducible first|apply aiA|intro _
  all_goals try exact clz
 |false=>
  have hz:=qlD hg.symm
  have hsz:=qrN hz.g42
  have hn:=qtw hz
  have z12:=hz.l12
  have z14:=hz.b14
  have c25:=fun l=>qBH a (h++l) hz (hp.app l)
  obtain ⟨E,hE⟩: ∃E,E=enE a:=⟨_,rfl⟩
  obtain ⟨L,hL⟩: ∃L,L=enR a:=⟨_,rfl⟩
  have zl: ∀g,valL g .len [qan L]= .int .i64 L.length:=fun _=>rfl
  have zm: ∀g,okL g .len [qan L]=True:=fun _=>eq_true trivial
  have zu: ∀g,valL g .len [qz a.l]= .int .i64 a.l.length:=fun _=>rfl
  have zv: ∀g,okL g .len [qz a.l]=True:=fun _=>eq_true trivial
  rw [←hE,←hL]at c25
  by_cases gE:E=0
  case neg=>
   have kE:(E=0)=False:=eq_false gE
   refine acO qtI ?_
   simp (disch:=omega) only [qAw,apC,go_sem]
   repeat' first
    |((first|refine cA (c23 _) ?_ ?_|refine cG (fun e=>c23 _) ?_ ?_|refine cA (c25 _) ?_ ?_|refine cG (fun e=>c25 _) ?_ ?_|refine cA (c24 _) ?_ ?_|refine cG (fun e=>c24 _) ?_ ?_|refine cU (fun _=>c23 _) ?_ ?_|refine cU (fun _=>c25 _) ?_ ?_|refine cU (fun _=>c24 _) ?_ ?_);exact flk;simp (disch:=omega) only [apC,kE,go_sem])
    |((first|apply qd|apply qb);exact rvk;simp only [go_sem];first|exact ql|apply qe|apply qa|apply qf|skip)
    |with_reducible first|apply aiA|intro _
   all_goals try exact clz
  have kE:(E=0)=True:=eq_true gE
  have hE0:enE a=0:=hE▸gE
  have hpv:=(qb1 hE0).1
  have hused:=qq1 hE0
  obtain ⟨_,hsg0,hly,_,hcl1,hcl2⟩:=qb1 hE0
  rw [←hL]at hn hused
  refine acO qtI ?_
  simp (disch:=omega) only [qAw,apC,go_sem]
  repeat' first
   |((first|refine cA (c23 _) ?_ ?_|refine cG (fun e=>c23 _) ?_ ?_|refine cA (c25 _) ?_ ?_|refine cG (fun e=>c25 _) ?_ ?_|refine cU (fun _=>c23 _) ?_ ?_|refine cU (fun _=>c25 _) ?_ ?_);exact flk;simp (disch:=omega) only [apC,kE,zu,zv,go_sem])
   |((first|apply qd|apply qb);exact rvk;simp only [go_sem];first|exact ql|apply qe|apply qa|apply qf|skip)
   |with_reducible first|apply aiA|intro _
  all_goals try exact clz
  refine qt (T:=fun s:Nat×AObj×AObj×AObj×AObj×AObj=>qT 178 [(1,.op h.length 1 0),(3,qan L),(5,.int .i64 (qa8 a s.1:Nat)),(38,qz a.l),(39,.int .i64 a.l.length),(40,.int .i64 s.1)])
   (H:=fun s=>h++ [.mem 1 47 (apC a),s.2.1,s.2.2.1,s.2.2.2.1,s.2.2.2.2.1,s.2.2.2.2.2])
   (inv:=fun s=>s.1≤a.l.length∧qI [s.2.1] 0=true∧qI [s.2.2.1] 0=true∧qI [s.2.2.2.1] 0=true∧qI [s.2.2.2.2.1] 0=true∧qI [s.2.2.2.2.2] 0=true∧qa8 a s.1≤216*s.1) (m:=fun s=>a.l.length-s.1) (0,.emp 0,.emp 0,.emp 0,.emp 0,.emp 0) ⟨Nat.zero_le _,rfl,rfl,rfl,rfl,rfl,Nat.zero_le _⟩ (Wk.temps ?_) ?_
  ·(simp only [apC,qa8,go_sem,qk,qh,qg,qj];try (repeat' first|(with_reducible apply aiA)|(apply qe;omega)|(apply qa;rfl)|exact ql))
  rintro ⟨u,O1,O2,O3,O4,O5⟩ ⟨i0,i1,i2,i3,i4,i5,i6⟩ K hK
  simp only at i0 i1 i2 i3 i4 i5 i6 hK
  have i1': ∀m,qI (O1::m) 0=true:=fun _=>i1
  have i2': ∀m,qI (O2::m) 0=true:=fun _=>i2
  have i3': ∀m,qI (O3::m) 0=true:=fun _=>i3
  have i4': ∀m,qI (O4::m) 0=true:=fun _=>i4
  have i5': ∀m,qI (O5::m) 0=true:=fun _=>i5
  by_cases hu:u<a.l.length
  case neg=>
   have q0:((u:Int)<a.l.length)=False:=eq_false (by omega)
   obtain rfl:u=a.l.length:=by omega
   rw [hused]
   simp (disch:=omega) only [q0,apC,zl,zm,go_sem]
   repeat' first
    |((first|refine cA (c24 _) ?_ ?_|refine cG (fun e=>c24 _) ?_ ?_|refine cU (fun _=>c24 _) ?_ ?_);exact flk;simp (disch:=omega) only [q0,apC,zl,zm,go_sem])
    |((first|apply qd|apply qb);exact rvk;simp only [go_sem];first|exact ql|apply qe|apply qa|apply qf|skip)
    |with_reducible first|apply aiA|intro _
   all_goals try exact clz
  have q0:((u:Int)<a.l.length)=True:=eq_true (by omega)
  have c58:=fun l=>rdD a.x a.l a.b u (h++l) hz.co hz.un (by omega) (hp.app l) hpv.co (qD1 hE0) hu
  have zz:qz a.l= .sl a.l.length fun i=>unC (a.l.getD i default):=rfl
  have hfr:=qtN hpv hu
  obtain ⟨p,hpu⟩: ∃p,p=a.l.getD u default:=⟨_,rfl⟩
  have ep:=hpu.symm
  rw [ep]at hfr
  have hpr:p.rds.length≤1000000000:=by rw [hpu];exact hz.un.rd u
  have hps: ∀j,(p.rds.getD j default).src.length≤1000000000:=fun j=>by rw [hpu];exact hz.un.sr u j
  have eown:owG a.b u a.b.length=qeC a u:=rfl
  obtain ⟨W,hW⟩: ∃W,W=qeC a u:=⟨_,rfl⟩
  rw [eown,←hW]at c58
  unfold coC at c58
  rw [zz]at c58
  simp (disch:=omega) only [apC,unC,q0,zz,ep,i1',i2',go_sem]
  repeat' first
   |((first|refine cA (c58 _) ?_ ?_|refine cG (fun e=>c58 _) ?_ ?_|refine cU (fun _=>c58 _) ?_ ?_);exact flk;simp (disch:=omega) only [q0,apC,unC,zz,ep,i1',i2',go_sem])
   |((first|apply qd|apply qb);exact rvk;simp only [go_sem];first|exact ql|apply qe|apply qa|apply qf|skip)
   |with_reducible first|apply aiA|intro _
  all_goals try exact clz
  obtain ⟨F,hF⟩: ∃F,F=frK a u:=⟨_,rfl⟩
  obtain ⟨G,hG⟩: ∃G,G=toK a u:=⟨_,rfl⟩
  obtain ⟨f1,f2,_⟩:=qaw hpv hu
  have hWl:F+W.length=G:=by
   rw [hW,qmn hpv hu,qeu f1 (by unfold qfK;rw [List.length_map];exact f2)]
   omega
  rw [←hF]at hfr f1
  rw [←hG]at f1 f2
  have zW: ∀g,valL g .len [strs W]= .int .i64 W.length:=fun _=>rfl
  have zX: ∀g,okL g .len [strs W]=True:=fun _=>eq_true trivial
  have eFG:(F:Int)+(W.length:Int)=(G:Int):=by omega
  obtain ⟨V1,hV1⟩: ∃V1,V1=qu (some O1)+1:=⟨_,rfl⟩
  obtain ⟨V2,hV2⟩: ∃V2,V2=qu (some O2)+1:=⟨_,rfl⟩
  obtain ⟨V3,hV3⟩: ∃V3,V3=qu (some O3)+1:=⟨_,rfl⟩
  simp only [←hV1,←hV2]
  by_cases hb0:a.b= []
  case' pos=>
   have hF0:F=0:=by rw [←hfr,hb0];rfl
   have zb:qK a.b=qK []:=by rw [hb0]
   have zn: ∀g,valL g .len [qK []]= .int .i64 0:=fun _=>rfl
   have zo: ∀g,okL g .len [qK []]=True:=fun _=>eq_true trivial
   have c60:=fun h=>qA2 h
   have c59:=fun cap h=>qA6 61 cap h
   rw [hF0,Int.natCast_zero]at eFG
   simp only [zb]
   repeat' first
    |((first|refine cA (c60 _) ?_ ?_|refine cG (fun e=>c60 _) ?_ ?_|refine cA (c59 _ _) ?_ ?_|refine cG (fun e=>c59 _ _) ?_ ?_|refine cU (fun _=>c60 _) ?_ ?_|refine cU (fun _=>c59 _ _) ?_ ?_);exact flk;simp (disch:=omega) only [zn,zo,zW,zX,eFG,i3',zl,zm,go_sem])
    |((first|apply qd|apply qb);exact rvk;simp only [go_sem];first|exact ql|apply qe|apply qa|apply qf|skip)
    |with_reducible first|apply aiA|intro _
   all_goals try exact clz
   refine qt (T:=fun s:Nat×List (Int×Int)×AObj×AObj=>qT 178 [(1,.op h.length 1 0),(3,qan L),(5,.int .i64 ((qa8 a u+usE a u L s.1:Nat):Int)),(6,.op (h.length+1) V1 0),(7,.op (h.length+2) V2 0),(8,strs W),(10,.int .i64 (F:Int)),(11,.int .i64 (G:Int)),(12,.mp (h.length+3) V3),(38,qz a.l),(39,.int .i64 a.l.length),(40,.int .i64 (u:Int)),(69,qan L),(70,.int .i64 L.length),(71,.int .i64 s.1)])
    (H:=fun s=>h++ [.mem 1 47 (apC a),.mem V1 3 [.int .i64 (u:Int)],.mem V2 83 (unC p),.map V3 (iM s.2.1),s.2.2.1,s.2.2.2])
    (inv:=fun s=>s.1≤L.length∧qI [s.2.2.1] 0=true∧qI [s.2.2.2] 0=true∧ ∀k,k<a.x.sig.length→qdf s.2.1 (k:Int)=(qs8 a u k L s.1:Nat)) (m:=fun s=>L.length-s.1) (0,[],O4,O5) ⟨Nat.zero_le _,i4,i5,fun _ _=>rfl⟩ ?w ?_
   case w=>
    simp only [apC,unC,zz,zb,hF0,Int.natCast_zero,←hV3]
    refine Wk.temps ?_
    (simp only [zz,usE,go_sem,qk,qh,qg,qj];try (repeat' first|(with_reducible apply aiA)|(apply qe;omega)|(apply qa;rfl)|exact ql))
  case' neg=>
   refine qbf (qDb a.b _ (h.length+5) (by simp only [go_sem,i5']) hb0 (by omega)) (by exact flk) ?_
   simp (disch:=omega) only [go_sem]
   repeat' first
    |((first|apply qd|apply qb);exact rvk;simp only [go_sem];first|exact ql|apply qe|apply qa|apply qf|skip)
    |with_reducible first|apply aiA|intro _
   all_goals try exact clz
   refine qbf (qDg a.b (fun w=>decide (w.unit=(u:Int))||decide (p.frm≤w.col)) 61 (u:Int) p (h.length+1) V1 (h.length+2) V2 (h.length+5) (qu (some O5)+1) _ (by simp only [go_sem]) (by simp only [go_sem]) (by simp only [go_sem];rfl) (by omega) (by omega) (by omega) (fun e hh=>cm1 e u p hh)) (by exact flk) ?_
   rw [hfr]
   simp (disch:=omega) only [zl,zm,zW,zX,eFG,i3',go_sem]
   repeat' first
    |((first|apply qd|apply qb);exact rvk;simp only [go_sem];first|exact ql|apply qe|apply qa|apply qf|skip)
    |with_reducible first|apply aiA|intro _
   all_goals try exact clz
   refine qt (T:=fun s:Nat×List (Int×Int)×AObj×AObj=>qT 178 [(1,.op h.length 1 0),(3,qan L),(5,.int .i64 ((qa8 a u+usE a u L s.1:Nat):Int)),(6,.op (h.length+1) V1 0),(7,.op (h.length+2) V2 0),(8,strs W),(10,.int .i64 (F:Int)),(11,.int .i64 (G:Int)),(12,.mp (h.length+3) V3),(38,qz a.l),(39,.int .i64 a.l.length),(40,.int .i64 (u:Int)),(69,qan L),(70,.int .i64 L.length),(71,.int .i64 s.1)])
    (H:=fun s=>h++ [.mem 1 47 (apC a),.mem V1 3 [.int .i64 (u:Int)],.mem V2 83 (unC p),.map V3 (iM s.2.1),s.2.2.1,s.2.2.2])
    (inv:=fun s=>s.1≤L.length∧qI [s.2.2.1] 0=true∧qI [s.2.2.2] 0=true∧ ∀k,k<a.x.sig.length→qdf s.2.1 (k:Int)=(qs8 a u k L s.1:Nat)) (m:=fun s=>L.length-s.1) (0,[],O4,.mem (qu (some O5)+1) 64 (kZ (a.b.filter fun w=> !(decide (w.unit=(u:Int))||decide (p.frm≤w.col)))++q9 zWd (a.b.length-F))) ⟨Nat.zero_le _,i4,rfl,fun _ _=>rfl⟩ ?w ?_
   case w=>
    simp only [apC,unC,zz,←hV3]
    refine Wk.temps ?_
    (simp only [zz,usE,go_sem,qk,qh,qg,qj];try (repeat' first|(with_reducible apply aiA)|(apply qe;omega)|(apply qa;rfl)|exact ql))
  all_goals
   clear i4 i5 i4' i5' O4 O5
   rintro ⟨i,m,O4,O5⟩ ⟨j1,i4,i5,j2⟩ K2 hK2
   simp only at j1 i4 i5 j2 hK2
   have i4': ∀m,qI (O4::m) 0=true:=fun _=>i4
   have i5': ∀m,qI (O5::m) 0=true:=fun _=>i5
   by_cases hi:i<L.length
   ·have q1:((i:Int)<L.length)=True:=eq_true (by omega)
    have hus:usE a u L (i+1)=usE a u L i+if spB a u (L.getD i default)=true then 1 else 0:=qq0 hi
    have hct:=fun k=>qkW (a:=a) (u:=u) (s:=k) hi
    have hub:=qnH a u L i
    have hcb:=fun k=>qs9 a u k L i
    have hmem:L.getD i default∈enR a:=by rw [←hL];exact qcU hi
    have hnf:=fun hs=>qBK hE0 hu hmem hs
    have hez:=hL▸qxs hz i
    have zzL:qan L= .sl L.length fun i=>enC (L.getD i default):=rfl
    obtain ⟨e,he⟩: ∃e,e=L.getD i default:=⟨_,rfl⟩
    have ee:=he.symm
    rw [ee]at hus hnf hez
    simp only [ee]at hct
    have hsp:spB a u e=(decide (e.frm=(F:Int))&&decide (e.to=(G:Int))):=by unfold spB;rw [hF,hG]
    by_cases g1:e.frm=(F:Int)
    case neg=>
     have k1:(e.frm=(F:Int))=False:=eq_false g1
     have hs0:spB a u e=false:=by rw [hsp,decide_eq_false g1,Bool.false_and]
     rw [hs0,if_neg (by simp),Nat.add_zero]at hus
     simp (disch:=omega) only [q1,zzL,enC,ee,i4',k1,go_sem]
     repeat' first
      |((first|apply qd|apply qb);exact rvk;simp only [go_sem];first|exact ql|apply qe|apply qa|apply qf|skip)
      |with_reducible first|apply aiA|intro _
     all_goals try exact clz
     refine hK2 _ _ (i+1,m,.mem (qu (some O4)+1) 58 (enC e),O5) ⟨hi,rfl,i5,fun k hk=>by rw [j2 k hk,hct k,if_neg (by rw [hs0];simp),Nat.add_zero]⟩ (by simp only;omega) ?_
     simp only [hus,enC]
     refine Wk.temps ?_
     (simp only [zzL,enC,go_sem,qk,qh,qg,qj];try (repeat' first|(with_reducible apply aiA)|(apply qe;omega)|(apply qa;rfl)|exact ql))
    by_cases g2:e.to=(G:Int)
    case neg=>
     have k1:(e.frm=(F:Int))=True:=eq_true g1
     have k2:(e.to=(G:Int))=False:=eq_false g2
     have hs0:spB a u e=false:=by rw [hsp,decide_eq_false g2,Bool.and_false]
     rw [hs0,if_neg (by simp),Nat.add_zero]at hus
     simp (disch:=omega) only [q1,zzL,enC,ee,i4',k1,k2,go_sem]
     repeat' first
      |((first|apply qd|apply qb);exact rvk;simp only [go_sem];first|exact ql|apply qe|apply qa|apply qf|skip)
      |with_reducible first|apply aiA|intro _
     all_goals try exact clz
     refine hK2 _ _ (i+1,m,.mem (qu (some O4)+1) 58 (enC e),O5) ⟨hi,rfl,i5,fun k hk=>by rw [j2 k hk,hct k,if_neg (by rw [hs0];simp),Nat.add_zero]⟩ (by simp only;omega) ?_
     simp only [hus,enC]
     refine Wk.temps ?_
     (simp only [zzL,enC,go_sem,qk,qh,qg,qj];try (repeat' first|(with_reducible apply aiA)|(apply qe;omega)|(apply qa;rfl)|exact ql))
    have k1:(e.frm=(F:Int))=True:=eq_true g1
    have k2:(e.to=(G:Int))=True:=eq_true g2
    have hs1:spB a u e=true:=by rw [hsp,decide_eq_true g1,decide_eq_true g2];rfl
    rw [hs1,if_pos rfl]at hus
    obtain ⟨hv0,hvx⟩:=hnf hs1
    have c62:=fun h=>vsP a.x.sig a.gs e h hsz hez.v (fun i=>Nat.le_trans (hez.g i) (by decide))
    have hNl:=qrc a.x.sig a.gs e
    have hNd:=qz2 a.x.sig a.gs e
    have hnm: ∀k,nmS a k e=decide ((k:Int)∈vsL a.x.sig a.gs e):=fun k=>rfl
    obtain ⟨N,hN⟩: ∃N,N=vsL a.x.sig a.gs e:=⟨_,rfl⟩
    simp only [hv0,←hN]at c62
    rw [←hN]at hNl hNd hvx
    simp only [←hN]at hnm
    unfold enC at c62
    have zN: ∀g,valL g .len [qo N]= .int .i64 N.length:=fun _=>rfl
    have zO: ∀g,okL g .len [qo N]=True:=fun _=>eq_true trivial
    simp (disch:=omega) only [q1,zzL,enC,ee,i4',k1,k2,apC,zN,zO,go_sem]
    repeat' first
     |((first|refine cA (c62 _) ?_ ?_|refine cG (fun e=>c62 _) ?_ ?_|refine cU (fun _=>c62 _) ?_ ?_);exact flk;simp (disch:=omega) only [q1,zzL,enC,ee,i4',k1,k2,apC,zN,zO,go_sem])
     |((first|apply qd|apply qb);exact rvk;simp only [go_sem];first|exact ql|apply qe|apply qa|apply qf|skip)
     |with_reducible first|apply aiA|intro _
    all_goals try exact clz
    obtain ⟨V4,hV4⟩: ∃V4,V4=qu (some O4)+1:=⟨_,rfl⟩
    obtain ⟨U,hU⟩: ∃U,U=qa8 a u+usE a u L i:=⟨_,rfl⟩
    rw [←hV4,←hU]
    refine qt (T:=fun s:Nat×List (Int×Int)=>qT 178 [(1,.op h.length 1 0),(3,qan L),(5,.int .i64 ((U:Int)+1)),(6,.op (h.length+1) V1 0),(7,.op (h.length+2) V2 0),(8,strs W),(10,.int .i64 (F:Int)),(11,.int .i64 (G:Int)),(12,.mp (h.length+3) V3),(14,.op (h.length+4) V4 0),(38,qz a.l),(39,.int .i64 a.l.length),(40,.int .i64 (u:Int)),(69,qan L),(70,.int .i64 L.length),(71,.int .i64 (i:Int)),(99,qo N),(100,.int .i64 N.length),(101,.int .i64 s.1)])
     (H:=fun s=>h++ [.mem 1 47 (apC a),.mem V1 3 [.int .i64 (u:Int)],.mem V2 83 (unC p),.map V3 (iM s.2),.mem V4 58 (enC e),O5])
     (inv:=fun s=>s.1≤N.length∧ ∀k,k<a.x.sig.length→qdf s.2 (k:Int)=qdf m (k:Int)+((N.take s.1).count (k:Int):Nat)) (m:=fun s=>N.length-s.1) (0,m) ⟨Nat.zero_le _,fun k _=>by simp⟩ ?w2 ?_
    case w2=>
     simp only [apC,enC]
     refine Wk.temps ?_
     (simp only [zzL,enC,go_sem,qk,qh,qg,qj];try (repeat' first|(with_reducible apply aiA)|(apply qe;omega)|(apply qa;rfl)|exact ql))
    rintro ⟨j,m'⟩ ⟨l1,l2⟩ K3 hK3
    simp only at l1 l2 hK3
    by_cases hj:j<N.length
    ·have r1:((j:Int)<N.length)=True:=eq_true (by omega)
     have hcs:=fun k=>qoT N hj k
     have hcl:=fun k:Int=>Nat.le_trans (List.count_le_length (a:=k) (l:=N.take j)) (by rw [List.length_take];exact Nat.min_le_left _ _)
     have hxN:N.getD j 0∈N:=by rw [gdqA,qZ hj];exact List.getElem_mem hj
     have zzN:qo N= .sl N.length fun j=> [.int .i64 (N.getD j 0)]:=rfl
     obtain ⟨x,hx⟩: ∃x,x=N.getD j 0:=⟨_,rfl⟩
     have exx:=hx.symm
     rw [exx]at hxN
     simp only [exx]at hcs
     obtain ⟨r,s0,hxs,hs0,hr1,hr2,hr3⟩:=hvx x hxN
     rw [ep]at hr1 hr2
     have c63:=fun h=>qCK p x h hpr (fun j=>hps j)
     have er1:qiz p.rds x=(r:Int):=by unfold qiz;rw [hr1,if_neg (by omega)]
     have er2:qiy p.rds x=0:=by unfold qiy;rw [hr1,if_neg (by omega)]
     simp only [er1,er2]at c63
     have zzc:zr a.cls= .sl a.cls.length fun i=> [strs (a.cls.getD i [])]:=rfl
     obtain ⟨C,hC⟩: ∃C,C=a.cls.getD u []:=⟨_,rfl⟩
     have eC:=hC.symm
     have hCl:C.length=p.rds.length:=by rw [hC,←ep];exact hcl2 u hu
     rw [eC]at hr3
     have zzC:strs C= .sl C.length fun j=> [.str (C.getD j [])]:=rfl
     obtain ⟨t,ht⟩: ∃t,t=C.getD r []:=⟨_,rfl⟩
     have et:=ht.symm
     rw [et]at hr3
     have c27:=fun h=>lyP a.lay t h (Nat.le_trans hz.y18 (by decide)) (fun i=>Nat.le_trans (hz.yl i) (by decide))
     have el1:lyR a.lay t=e.layer:=by unfold lyR;rw [if_pos hly,hr3]
     simp only [el1,hly]at c27
     have s1:(0≤(u:Int))=True:=eq_true (by omega)
     have s2:((u:Int)<a.cls.length)=True:=eq_true (by omega)
     have s3:((r:Int)<C.length)=True:=eq_true (by omega)
     have s4:(0≤(r:Int))=True:=eq_true (by omega)
     have s5:(u<a.cls.length)=True:=eq_true (by omega)
     have s6:(r<C.length)=True:=eq_true (by omega)
     have o0:Int.ofNat 0=0:=rfl
     have o1:Int.ofNat 1=1:=rfl
     have m1:=qy4 m' x
     have m2:=qrS m' x
     have m3:=qy5 m' x (qdf m' x+1)
     have hb1:0≤qdf m' x∧qdf m' x≤100000:=by
      have e1:=l2 s0 hs0
      have e2:=j2 s0 hs0
      have e3:=hcb s0
      have e4:=hcl (s0:Int)
      rw [hxs]
      omega
     unfold unC at c63
     simp (disch:=omega) only [r1,zzN,exx,apC,unC,enC,s1,s2,s3,s4,s5,s6,zzc,eC,zzC,et,o0,o1,m1,m2,m3,go_sem]
     repeat' first
      |((first|refine cA (c63 _) ?_ ?_|refine cG (fun e=>c63 _) ?_ ?_|refine cA (c27 _) ?_ ?_|refine cG (fun e=>c27 _) ?_ ?_|refine cU (fun _=>c63 _) ?_ ?_|refine cU (fun _=>c27 _) ?_ ?_);exact flk;simp (disch:=omega) only [r1,zzN,exx,apC,unC,enC,s1,s2,s3,s4,s5,s6,zzc,eC,zzC,et,o0,o1,m1,m2,m3,go_sem])
      |((first|apply qd|apply qb);exact rvk;simp only [go_sem];first|exact ql|apply qe|apply qa|apply qf|skip)
      |with_reducible first|apply aiA|intro _
     all_goals try exact clz
     refine hK3 _ _ (j+1,qjp m' x (qdf m' x+1)) ⟨hj,fun k hk=> ?_⟩ (by simp only;omega) ?_
     ·simp only
      rw [qlJ,hcs (k:Int)]
      by_cases hkx:(k:Int)=x
      ·rw [if_pos hkx,if_pos hkx.symm,←hkx,l2 k hk]
       omega
      ·rw [if_neg hkx,if_neg (fun hc=>hkx hc.symm),l2 k hk]
       omega
     simp only [apC,unC,enC,zzc]
     refine Wk.temps ?_
     (simp only [zzN,enC,go_sem,qk,qh,qg,qj];try (repeat' first|(with_reducible apply aiA)|(apply qe;omega)|(apply qa;rfl)|exact ql))
    have r1:((j:Int)<N.length)=False:=eq_false (by omega)
    obtain rfl:j=N.length:=by omega
    simp (disch:=omega) only [r1,go_sem]
    repeat' first
     |((first|apply qd|apply qb);exact rvk;simp only [go_sem];first|exact ql|apply qe|apply qa|apply qf|skip)
     |with_reducible first|apply aiA|intro _
    all_goals try exact clz
    refine hK2 _ _ (i+1,m',.mem V4 58 (enC e),O5) ⟨hi,rfl,i5,fun k hk=> ?_⟩ (by simp only;omega) ?_
    ·simp only
     rw [l2 k hk,List.take_length,qxf hNd,j2 k hk,hct k,hs1,hnm k]
     by_cases hkN:(k:Int)∈N
     ·rw [if_pos hkN,if_pos ⟨rfl,decide_eq_true hkN⟩]
      omega
     ·rw [if_neg hkN,if_neg (fun hc=>hkN (of_decide_eq_true hc.2))]
      omega
    have hUs:qa8 a u+usE a u L (i+1)=U+1:=by rw [hus,hU];omega
    simp only [hUs,Int.natCast_add,Int.natCast_one]
    refine Wk.temps ?_
    (simp only [go_sem,qk,qh,qg,qj];try (repeat' first|(with_reducible apply aiA)|(apply qe;omega)|(apply qa;rfl)|exact ql))
   have q1:((i:Int)<L.length)=False:=eq_false (by omega)
   obtain rfl:i=L.length:=by omega
   have hcR: ∀k,k<a.x.sig.length→ ∀r:Nat,qix p.rds (k:Int)=(r:Nat)→qdf m (k:Int)=if (p.rds.getD r default).words=W then 0 else 1:=fun k hk r hr=>by
    have h1:=qA3 hE0 hu hk (j:=r) (by rw [ep];exact hr)
    rw [ep,←hW]at h1
    rw [j2 k hk]
    unfold qs8
    rw [List.take_length,hL,h1]
    split<;>rfl
   have hpl:=qmD hpv.un hu
   have hpi:=hpl.inv
   have hph:=hpl.has
   rw [ep]at hpi hph
   have hsl:=(qck hsg0).n32
   have hUs:qa8 a u+usE a u L L.length=qa8 a (u+1):=by
    unfold usE
    rw [List.take_length]
    conv=>lhs;rw [hL]
    rfl
   have hUl:=qnH a u L L.length
   have zg: ∀g,valL g .len [strs a.x.sig]= .int .i64 a.x.sig.length:=fun _=>rfl
   have zh: ∀g,okL g .len [strs a.x.sig]=True:=fun _=>eq_true trivial
   rw [hUs]
   simp (disch:=omega) only [q1,apC,zg,zh,go_sem]
   repeat' first
    |((first|apply qd|apply qb);exact rvk;simp only [go_sem];first|exact ql|apply qe|apply qa|apply qf|skip)
    |with_reducible first|apply aiA|intro _
   all_goals try exact clz
   refine qt (T:=fun k:Nat=>qT 178 [(1,.op h.length 1 0),(3,qan L),(5,.int .i64 (qa8 a (u+1):Nat)),(7,.op (h.length+2) V2 0),(8,strs W),(12,.mp (h.length+3) V3),(38,qz a.l),(39,.int .i64 a.l.length),(40,.int .i64 (u:Int)),(144,.int .i64 a.x.sig.length),(145,.int .i64 k)])
    (H:=fun _=>h++ [.mem 1 47 (apC a),.mem V1 3 [.int .i64 (u:Int)],.mem V2 83 (unC p),.map V3 (iM m),O4,O5])
    (inv:=fun k=>k≤a.x.sig.length) (m:=fun k=>a.x.sig.length-k) 0 (Nat.zero_le _) ?w3 ?_
   case w3=>
    simp only [apC]
    refine Wk.temps ?_
    (simp only [go_sem,qk,qh,qg,qj];try (repeat' first|(with_reducible apply aiA)|(apply qe;omega)|(apply qa;rfl)|exact ql))
   rintro k l1 K4 hK4
   by_cases hk:k<a.x.sig.length
   ·have r1:((k:Int)<a.x.sig.length)=True:=eq_true (by omega)
    obtain ⟨r,t1,t2,_,_,_⟩:=qc7 hph hpi hk
    have hcr:=hcR k hk r t1
    have c63:=fun h=>qCK p (k:Int) h hpr (fun j=>hps j)
    have er1:qiz p.rds (k:Int)=(r:Int):=by unfold qiz;rw [t1,if_neg (by omega)]
    have er2:qiy p.rds (k:Int)=0:=by unfold qiy;rw [t1,if_neg (by omega)]
    simp only [er1,er2]at c63
    have zzR:zD p.rds= .sl p.rds.length fun i=>rdC (p.rds.getD i default):=rfl
    have hwr:(p.rds.getD r default).words.length≤1000000000:=by rw [hpu];exact hz.un.wd u r
    obtain ⟨R,hR⟩: ∃R,R=p.rds.getD r default:=⟨_,rfl⟩
    have eR:=hR.symm
    rw [eR]at hcr hwr
    have c53:=fun h=>qBa R.words W h hwr (by omega)
    have m1:=qy4 m (k:Int)
    have m2:=qrS m (k:Int)
    have s3:((r:Int)<p.rds.length)=True:=eq_true (by omega)
    have s4:(0≤(r:Int))=True:=eq_true (by omega)
    have s6:(r<p.rds.length)=True:=eq_true t2
    unfold unC at c63
    rw [zzR]at c63
    by_cases gR:R.words=W
    ·rw [if_pos gR]at hcr
     simp only [decide_eq_true gR]at c53
     simp (disch:=omega) only [r1,unC,rdC,go_sem]
     repeat' first
      |((first|refine cA (c63 _) ?_ ?_|refine cG (fun e=>c63 _) ?_ ?_|refine cA (c53 _) ?_ ?_|refine cG (fun e=>c53 _) ?_ ?_|refine cU (fun _=>c63 _) ?_ ?_|refine cU (fun _=>c53 _) ?_ ?_);exact flk;simp (disch:=omega) only [r1,unC,rdC,zzR,s3,s4,s6,eR,m1,m2,hcr,go_sem])
      |((first|apply qd|apply qb);exact rvk;simp only [go_sem];first|exact ql|apply qe|apply qa|apply qf|skip)
      |with_reducible first|apply aiA|intro _
     all_goals try exact clz
     refine hK4 _ _ (k+1) hk (by omega) ?_
     simp only [unC,zzR,rdC]
     refine Wk.temps ?_
     (simp only [go_sem,qk,qh,qg,qj];try (repeat' first|(with_reducible apply aiA)|(apply qe;omega)|(apply qa;rfl)|exact ql))
    ·rw [if_neg gR]at hcr
     simp only [decide_eq_false gR]at c53
     simp (disch:=omega) only [r1,unC,rdC,go_sem]
     repeat' first
      |((first|refine cA (c63 _) ?_ ?_|refine cG (fun e=>c63 _) ?_ ?_|refine cA (c53 _) ?_ ?_|refine cG (fun e=>c53 _) ?_ ?_|refine cU (fun _=>c63 _) ?_ ?_|refine cU (fun _=>c53 _) ?_ ?_);exact flk;simp (disch:=omega) only [r1,unC,rdC,zzR,s3,s4,s6,eR,m1,m2,hcr,go_sem])
      |((first|apply qd|apply qb);exact rvk;simp only [go_sem];first|exact ql|apply qe|apply qa|apply qf|skip)
      |with_reducible first|apply aiA|intro _
     all_goals try exact clz
     refine hK4 _ _ (k+1) hk (by omega) ?_
     simp only [unC,zzR,rdC]
     refine Wk.temps ?_
     (simp only [go_sem,qk,qh,qg,qj];try (repeat' first|(with_reducible apply aiA)|(apply qe;omega)|(apply qa;rfl)|exact ql))
   have r1:((k:Int)<a.x.sig.length)=False:=eq_false (by omega)
   simp (disch:=omega) only [r1,go_sem]
   repeat' first
    |((first|apply qd|apply qb);exact rvk;simp only [go_sem];first|exact ql|apply qe|apply qa|apply qf|skip)
    |with_reducible first|apply aiA|intro _
   all_goals try exact clz
   refine hK _ _ (u+1,.mem V1 3 [.int .i64 (u:Int)],.mem V2 83 (unC p),.map V3 (iM m),O4,O5) ⟨hu,rfl,rfl,rfl,i4,i5,by show qa8 a (u+1)≤216*(u+1);rw [←hUs];omega⟩ (by simp only;omega) ?_
   refine Wk.temps ?_
   (simp only [apC,go_sem,qk,qh,qg,qj];try (repeat' first|(with_reducible apply aiA)|(apply qe;omega)|(apply qa;rfl)|exact ql))
end RC
end
section
open Go Go.Proofs AF HY Go.ChangeShapes Go.RowKit
namespace LN
theorem qBy : Tryz.prog.globalNamed "internal/strconv.uint64pow10" = some 1 := by kernel_rfl
theorem qBA : Tryz.prog.globalNamed "strconv.ErrSyntax" = some 6 := by kernel_rfl
theorem qBz : Tryz.prog.globalNamed "strconv.ErrRange" = some 7 := by kernel_rfl
theorem qp6 {w w':World} (h:qrj w) (e:w'.heap[1]? =w.heap[1]?):qrj w':=by
 unfold qrj Lib.TabIs at*
 rw [qew qBy e]
 exact h
theorem qhx : "*" ++ "errors.errorString" = "*errors.errorString" := by decide
theorem qr5 (u : TypeId) (h : Tryz.prog.typeName? 3 u = some "*errors.errorString") : u = 323 :=
 typeName_ptr_named (nm := "errors.errorString") (by rw [qhx]; kernel_rfl) (by kernel_rfl) (by decide) u (by rw [qhx]; exact h)
def qeq:List Nat:= [1,6,7]
def qAC (w:World):Prop:=qrj w∧qvY w
theorem qzO {W:World} (h:laidMet Tryz.prog YtgoandblgcjleaaGreatDoor.Rows.apparatusSpansRow.laid W):qrj W∧qvY W:=by
 have h2:=laidMet.tail (laidMet.tail h)
 have h3:=laidMet.tail (laidMet.tail h2)
 have h4:=laidMet.tail h3
 obtain ⟨a,s,e1,_⟩:=laid_sentinel (g:=7) (ti:=192) (tp:=323) (te:=325) (ts:=9) h3 qBz (by kernel_rfl) Tryz.underlying192 qr5 Tryz.underlying323 Tryz.underlying325 rfl rfl Tryz.underlying9 (by kernel_rfl) (by kernel_rfl)
 obtain ⟨b,t,e2,_⟩:=laid_sentinel (g:=6) (ti:=192) (tp:=323) (te:=325) (ts:=9) h4 qBA (by kernel_rfl) Tryz.underlying192 qr5 Tryz.underlying323 Tryz.underlying325 rfl rfl Tryz.underlying9 (by kernel_rfl) (by kernel_rfl)
 exact ⟨Lib.tabIs_of_head (t:=288) (e:=164) (n:=20) qBy (by kernel_rfl) Tryz.underlying288 Tryz.underlying164 (by kernel_rfl) (by kernel_rfl) h2,⟨_,_,e2⟩,_,_,e1⟩
theorem qqw {W:World} (h:laidMet Tryz.prog YtgoandblgcjleaaGreatDoor.Rows.apparatusSpansRow.laid W): ∀b,b∈qeq→ ∃arr T fz,W.heap[b]? =some (.cells arr T fz):=by
 intro b hb
 obtain ⟨h1,⟨_,_,h2⟩,_,_,h3⟩:=qzO h
 have e:b=1∨b=6∨b=7:=by simpa [qeq] using hb
 rcases e with rfl|rfl|rfl
 ·exact qdd qBy h1
 ·exact qdd qBA h2
 ·exact qdd qBz h3
theorem quO {W:World} (h:laidMet Tryz.prog YtgoandblgcjleaaGreatDoor.Rows.apparatusSpansRow.laid W): ∀w':World,(∀b,b∈qeq→w'.heap[b]? =W.heap[b]?)→qAC w':=by
 intro w' hs
 obtain ⟨h1,⟨t1,p1,h2⟩,t2,p2,h3⟩:=qzO h
 refine ⟨qp6 h1 (hs 1 (by simp [qeq])),⟨t1,p1,?_⟩,t2,p2,?_⟩
 ·rw [qew qBA (hs 6 (by simp [qeq]))];exact h2
 ·rw [qew qBz (hs 7 (by simp [qeq]))];exact h3
theorem quN:qba RC.SG [.pin qeq qAC]:=⟨0,_,_,rfl,fun _ h=>h⟩
end LN
end
