import Derived.Test.YthjkfdakolejgaaGreatDoorK14
import Derived.Test.YthjkfdakolejgaaGreatDoorK3
import Derived.Test.YthjkfdakolejgaaGreatDoorK5
import Derived.Test.YthjkfdakolejgaaGreatDoorK8
import Derived.Test.YthjkfdakolejgaaGreatDoorProg
import Derived.Test.YthjkfdakolejgaaGreatDoorK12
import Derived.Test.YthjkfdakolejgaaGreatDoorK11
import Derived.Test.YthjkfdakolejgaaGreatDoorK9
import Derived.Test.YthjkfdakolejgaaGreatDoorK10
set_option linter.all false
set_option linter.unusedSimpArgs false
set_option linter.unusedVariables false
set_option linter.unusedSectionVars false
set_option maxHeartbeats 256000000
set_option maxRecDepth 100000
section
open Go Go.Proofs AF HY LN
namespace RC
structure qh4 (x:Co) (l:List Un) (d:List Dc) (s:Nat):Prop where
 ca:coE x=0
 us:qcA x l=true
 cv:cvA x l=true
 sl:s<x.sig.length
 dl:d.length≤256
 pl: ∀j,j<d.length→qds x l (d.getD j default)=0
 ln:(rwA x l d s).length≤1024
theorem qfT{x:Co}{l:List Un}(h:vaE x l=0):coE x=0∧qcA x l=true∧cvA x l=true:=by
 unfold vaE at h;split at h
 ·cases h
 rename_i h1;split at h
 ·cases h
 rename_i h2;have h2:rgB x l=true:=by simpa using h2
 unfold rgB at h2;rw[Bool.and_eq_true]at h2;exact⟨Classical.not_not.1 h1,h2.1,h2.2⟩
theorem quU{x:Co}{l:List Un}{d:List Dc}(h:qbY x l d=0):d.length≤256∧ ∀j,j<d.length→qds x l (d.getD j default)=0:=by
 unfold qbY at h;split at h
 ·cases h
 exact⟨om,jO.1 h⟩
theorem qx0{x:Co}{l:List Un}{d:List Dc}{s:Int}(h:esE x l d s=0):0≤s∧qh4 x l d s.toNat:=by
 unfold esE at h;split at h
 ·rename_i h1;exact absurd h h1
 rename_i h1;split at h
 ·cases h
 rename_i h2;split at h
 ·rename_i h3;exact absurd h h3
 rename_i h3;split at h
 ·cases h
 rename_i h4;obtain⟨a1,a2,a3⟩:=qfT (Classical.not_not.1 h1);obtain⟨b1,b2⟩:=quU (Classical.not_not.1 h3);exact⟨om,a1,a2,a3,om,b1,b2,om⟩
theorem qh4.co{x:Co}{l:List Un}{d:List Dc}{s:Nat}(h:qh4 x l d s):CoOk x:=qbh h.ca
theorem qso{x:Co}(h:CoOk x){s k:Nat}(hs:s<x.sig.length)(hk:k<x.col.length)(hb:pcB x s k=true):tkE (pcT x s k).t=0∧((x.col.getD k []).getD s 0).toNat<(x.tok.getD s []).length:=by
 unfold pcB at hb;have hb:=of_decide_eq_true hb;rcases h.ce k hk s hs with e|⟨e1,e2⟩
 ·omega
 ·exact⟨h.te s (by rw[h.tn];exact hs) _ om,om⟩
theorem qnQ{t:Tk}(h:tkE t=0):t.text≠ []∧t.text.length≤64:=by
 have h1:=qAD h;unfold txB at h1;split at h1
 ·rw[Bool.and_eq_true]at h1;have h2:=h1.1;unfold qfj at h2;rw[List.any_eq_true]at h2;obtain⟨k,hk,e⟩:=h2;rw[of_decide_eq_true e];refine⟨List.cons_ne_nil _ _,?_⟩;have h3:((List.range 64).all fun k=>decide ((91::(Lib.itoa ((k+1:Nat):Int)++ [93]):Str).length≤64))=true:=by decide+kernel
  exact of_decide_eq_true (List.all_eq_true.1 h3 k hk)
 ·split at h1
  ·rw[Bool.and_eq_true]at h1;have h2:=h1.1;unfold qv3 at h2;rw[Bool.and_eq_true,decide_eq_true_iff]at h2;refine⟨fun e=> ?_,om⟩;rw[e]at h2;cases h2.1
  ·rw[Bool.and_eq_true]at h1;have h2:=h1.1;rw[qbq]at h2;simp only[Bool.and_eq_true,decide_eq_true_eq]at h2;refine⟨fun e=> ?_,om⟩;rw[e]at h2;simp at h2
structure RwP (x:Co) (l:List Un) (d:List Dc) (s k:Nat) (r:Rw):Prop where
 u:r.u=k
 f:(frN l k:Int)≤r.p.c
 t:r.p.c<toN l k
 dr: -1≤r.d∧r.d<d.length
 tx:r.p.t.text≠ []∧r.p.t.text.length≤64
theorem qum{x:Co}{l:List Un}{d:List Dc}{s:Nat}(h:qh4 x l d s){k:Nat}(hl: ¬qcu x l d k d.length<0):
  (qcu x l d k d.length).toNat<d.length∧qds x l (d.getD (qcu x l d k d.length).toNat default)=0∧qaq x l (d.getD (qcu x l d k d.length).toNat default)=k:=by
 have h1:=qcL x l d k d.length;refine⟨om,h.pl _ om,qma (n:=d.length) om⟩
theorem qsv{x:Co}(h:CoOk x){s f d:Nat}(hs:s<x.sig.length)(hd:f+d≤x.col.length){p:Pc}(hp:p∈spk x s f d):(f:Int)≤p.c∧p.c<((f+d:Nat):Int)∧p.t.text≠ []∧p.t.text.length≤64:=by
 obtain⟨k,h1,h2,h3,rfl⟩:=qmf.1 hp;obtain⟨a1,_⟩:=qso h hs (show k<x.col.length by omega) h3;obtain⟨b1,b2⟩:=qnQ a1;exact⟨by show (f:Int)≤((k:Nat):Int);omega,by show ((k:Nat):Int)<_;omega,b1,b2⟩
theorem quS{x:Co}{l:List Un}{d:List Dc}{s:Nat}(h:qh4 x l d s){k:Nat}(hk:k<l.length){o:Dc}(ho:qds x l o=0){p:Pc}(hp:p∈qoz x l k o):(frN l k:Int)≤p.c∧p.c<toN l k∧p.t.text≠ []∧p.t.text.length≤64:=by
 obtain⟨a1,a2,a3,a4,_⟩:=qar h.us hk;obtain⟨b1,b2,b3,b4,b5,b6⟩:=qbX ho;obtain⟨c1,c2,_⟩:=qhQ b4;unfold qoz at hp;split at hp
 ·obtain⟨e1,e2,e3⟩:=qsv h.co c2 (show frN l k+(toN l k-frN l k)≤x.col.length by omega) hp;exact⟨e1,om,e3⟩
 ·split at hp
  ·rename_i g2;obtain⟨t,ht,rfl⟩:=List.mem_map.1 hp;obtain⟨u,hu,rfl,hu0⟩:=qgP o.txt ht;obtain⟨_,e2,_⟩:=qk8 b6 g2;have e3:=qvx.1 e2 u hu0;refine⟨?_,?_,hu.ne,e3⟩
   ·show (frN l k:Int)≤(l.getD k default).frm;omega
   ·show (l.getD k default).frm<toN l k;omega
  ·cases hp
theorem qAm{x:Co}{l:List Un}{d:List Dc}{s:Nat}(h:qh4 x l d s){k:Nat}(hk:k<l.length){r:Rw}(hr:r∈rwU x l d s k):RwP x l d s k r:=by
 obtain⟨a1,a2,a3,a4,_⟩:=qar h.us hk;have hg:=qcL x l d k d.length;unfold rwU at hr;split at hr
 ·obtain⟨g1,g2,g3⟩:=j8.1 hr;obtain⟨e1,e2,e3⟩:=qsv h.co h.sl (show frN l k+(toN l k-frN l k)≤x.col.length by omega) g1;exact⟨g2,e1,om,om,e3⟩
 ·rename_i hl;obtain⟨g1,g2,g3⟩:=j8.1 hr;obtain⟨c1,c2,_⟩:=qum h hl;obtain⟨e1,e2,e3⟩:=quS h hk c2 g1;exact⟨g2,e1,e2,om,e3⟩
def PcF(p:Pc):Prop:=(∃F:Nat,p.t.flags=F∧F<32)∧p.t.text.length≤64
theorem quP{p:Pc}(h:tkE p.t=0):PcF p:=by
 refine⟨?_,(qnQ h).2⟩;unfold tkE at h;split at h
 ·cases h
 ·rename_i g;exact⟨p.t.flags.toNat,om,om⟩
theorem qaD{x:Co}(ho:CoOk x){s f d:Nat}(hs:s<x.sig.length)(hd:f+d≤x.col.length): ∀p∈spk x s f d,PcF p:=by
 intro p hp;obtain⟨k,k1,k2,k3,rfl⟩:=qmf.1 hp;exact quP (qso ho hs om k3).1
theorem qsn{s:Str}{f:Int}(h:qhT s=0): ∀p∈cjP (qfQ s) f,PcF p:=by
 intro p hp;unfold cjP at hp;obtain⟨t,ht,rfl⟩:=List.mem_map.1 hp;obtain⟨_,g⟩:=qnT ht;refine⟨?_,?_⟩
 ·rcases g with g|g|g|g
  ·exact⟨0,g,om⟩
  ·exact⟨16,g,om⟩
  ·exact⟨8,g,om⟩
  ·exact⟨24,g,om⟩
 ·unfold qhT at h;split at h
  ·cases h
  ·rename_i g2;have g3:=qbV.1 (Bool.eq_false_iff.2 g2);obtain⟨u,_,e,hu⟩:=qgP s ht
   have:=g3 u hu
   rw[e];exact this
theorem qoS{L:List Rw}{n:Nat}(h: ∀r∈L,r.p.t.text.length≤n): ∀w∈bsW L,w.text.length≤n:=by
 intro w hw;unfold bsW at hw;obtain⟨i,hi,rfl⟩:=List.mem_map.1 hw;rw[List.mem_range]at hi;exact h _ (jo hi)
theorem qwf{hh:List AObj}{a b c va vb:Nat}{Z:AObj}(t:T3 hh a b c)(L:List Rw)(p:Pc)(u d:Int)(hX:qr a hh=some (.mem va 29 [.osl b vb 7 0 L.length]))(hY:qr b hh=some (qZ vb 36 (jv (bsW L))))(hZg:qr c hh=some Z)(hZ: ∀n,lowO n Z)(hp:PcF p)(hL:L.length≤1000000000)(hLx: ∀r∈L,PcF r.p):
  ACalls Tryz.prog 79 [.agg (pcC p),.int .i64 u,.int .i64 d,.op a va 0] hh (.tup []) (qo b (qo a hh (.mem va 29 [.osl b (vb+1) 7 0 (L.length+1)])) (qZ (vb+1) 36 (jv (bsW (L++ [⟨p,u,d⟩]))))):=by
 obtain⟨⟨F,f1,f2⟩,f3⟩:=hp;have h1:=qEh (va:=va) t (bsW L) p u d vb F Z hZ f1 f2 om (by rw[qad];exact hL) (fun w hw=>Nat.le_trans (qoS (n:=64) (fun r hr=>(hLx r hr).2) w hw) om);have e1:quK hh a b c va vb (bsW L) Z=hh:=by
  unfold quK;rw[qad];exact qsy hX hY hZg
 have e2:qus (bsW L)=qqy (L++ [⟨p,u,d⟩]) L.length:=by
  rw[qmU];unfold qus;rw[qad]
 rw[e1,e2,←qoR]at h1;have e3:quK hh a b c va (vb+1) (bsW (L++ [⟨p,u,d⟩])) Z=qo b (qo a hh (.mem va 29 [.osl b (vb+1) 7 0 (L.length+1)])) (qZ (vb+1) 36 (jv (bsW (L++ [⟨p,u,d⟩])))):=by
  unfold quK tri;rw[qad,lap,lco,lnl];refine jI ?_;rw[qR (fun e=>t.bc e.symm),qR (fun e=>t.ac e.symm)];exact hZg
 rw[e3]at h1;exact h1
end RC
end
section
open Go Go.Proofs AF
end
section
open Go Go.Proofs AF HY LN
namespace RC
end RC
end
section
open Go Go.Proofs AF
end
section
open Go Go.Proofs AF
end
section
open Go Go.Proofs AF HY LN
namespace RC
theorem qD4(s:Str)(h:List AObj)(hs:s.length≤1000000000):ACalls Tryz.prog 184 [.str s] h (.bool (qmj s)) h:=by
 have c1:=fun h=>t53 s h hs
 unfold qmj
 by_cases g:s= []
 ·subst g;rw[dqt rfl,Bool.true_or];refine acO qrW ?_;simp (disch:=omega) only[qsX,go_sem]
  repeat' first
   |(refine qj ( .bool false) ?_;simp (disch:=omega) only[go_sem])
   |(apply qd;exact rvk;simp only[go_sem];exact qi)
 ·have k1:(s= [])=False:=eqf g;rw[dqf g,Bool.false_or];refine acO qrW ?_;simp (disch:=omega) only[qsX,k1,go_sem]
  repeat' first
   |(refine cG (fun e=>c1 _) flk ?_;simp (disch:=omega) only[go_sem])
   |(apply qd;exact rvk;simp only[go_sem];exact qi)
theorem quh(c:UInt8):qaP c=(decide (kind c=1)||(decide (kind c=2)||(decide (kind c=3)||decide (kind c=4)))):=by
 unfold qaP;cases decide (kind c=1)<;>cases decide (kind c=2)<;>cases decide (kind c=3)<;>rfl
theorem qFr(c:UInt8)(h:List AObj):ACalls Tryz.prog 183 [.int .u8 (c.toNat:Int)] h (.bool (qaP c)) h:=by
 have c5:=fun h=>qdh c h
 rw[quh];obtain⟨k,hk⟩: ∃k,k=kind c:=⟨_,rfl⟩
 rw[←hk]at c5 ⊢
 by_cases g1:k=1
 ·have q1:(k=1)=True:=eqt g1;rw[dqt g1,Bool.true_or];refine acO qhj ?_;simp (disch:=omega) only[qkK,go_sem]
  repeat' first
   |(refine cA (c5 _) flk ?_;simp (disch:=omega) only[q1,go_sem])
   |(apply qd;exact rvk;simp only[go_sem];exact qi)
 have q1:(k=1)=False:=eqf g1;rw[dqf g1,Bool.false_or]
 by_cases g2:k=2
 ·have q2:(k=2)=True:=eqt g2;rw[dqt g2,Bool.true_or];refine acO qhj ?_;simp (disch:=omega) only[qkK,go_sem]
  repeat' first
   |(refine cA (c5 _) flk ?_;simp (disch:=omega) only[q1,q2,go_sem])
   |(apply qd;exact rvk;simp only[go_sem];exact qi)
 have q2:(k=2)=False:=eqf g2;rw[dqf g2,Bool.false_or]
 by_cases g3:k=3
 ·have q3:(k=3)=True:=eqt g3;rw[dqt g3,Bool.true_or];refine acO qhj ?_;simp (disch:=omega) only[qkK,go_sem]
  repeat' first
   |(refine cA (c5 _) flk ?_;simp (disch:=omega) only[q1,q2,q3,go_sem])
   |(apply qd;exact rvk;simp only[go_sem];exact qi)
 have q3:(k=3)=False:=eqf g3;rw[dqf g3,Bool.false_or];refine acO qhj ?_;simp (disch:=omega) only[qkK,go_sem]
 repeat' first
  |(refine cA (c5 _) flk ?_;simp (disch:=omega) only[q1,q2,q3,go_sem])
  |(apply qd;exact rvk;simp only[go_sem];exact qi)
theorem qB9: ∀f:Nat,f<32→decide ((f:Int)/2%2=1)=f.testBit 1:=by decide+kernel
theorem qCa: ∀f:Nat,f<32→decide ((f:Int)/8%2=1)=f.testBit 3:=by decide+kernel
theorem tkR(t:Tk)(h:List AObj)(hz:qrE t)(hp:kR SG h):ACalls Tryz.prog 138 [.agg (tkC t)] h (.int .i64 (tkE t)) h:=by
 obtain⟨R,hR⟩: ∃R,R=tkE t:=⟨_,rfl⟩
 rw[←hR];unfold tkE at hR
 by_cases g1:t.flags<0
 ·have k1:(t.flags<0)=True:=eqt g1;rw[ipo (.inl g1)]at hR;rw[hR];refine acO zW ?_;simp (disch:=omega) only[jS,tkC,go_sem]
  repeat' first
   |(apply qb;exact rvk;simp only[go_sem];exact qi)
   |with_reducible first|intro _|apply aiA
  all_goals try exact clz
 have k1:(t.flags<0)=False:=eqf g1
 by_cases g2:31<t.flags
 ·have k2:((31:Int)<t.flags)=True:=eqt g2;rw[ipo (.inr g2)]at hR;rw[hR];refine acO zW ?_;simp (disch:=omega) only[jS,tkC,go_sem]
  repeat' first
   |(apply qb;exact rvk;simp only[go_sem];exact qi)
   |with_reducible first|intro _|apply aiA
  all_goals try exact clz
 have k2:((31:Int)<t.flags)=False:=eqf g2;rw[ine om]at hR;obtain⟨f,hf⟩: ∃f:Nat,t.flags=(f:Int):=⟨t.flags.toNat,om⟩
 have hf2:f<32:=by omega
 have eg:qiC t.flags=f.testBit 1:=by unfold qiC;rw[hf,itn]
 have ek:mkB t.flags=f.testBit 3:=by unfold mkB;rw[hf,itn]
 have dA:=fun h=>qDY t.text t.norm t.page t.line t.flags 2 t.name h om om (by decide)
 have dB:=fun h=>qDY t.text t.norm t.page t.line t.flags 8 t.name h om om (by decide)
 have cP:=fun l=>qD4 t.page (h++l) hz.pg
 have cM:=fun l=>qD4 t.name (h++l) hz.na
 have hG:=fun l=>qEF t.text (h++l) hz.tx (hp.app l)
 have cW:=fun l=>t93 t.text (h++l) hz.tx
 have cK:=fun h=>qdh (ch t.text 0) h
 have e0:(t.text[0]?).getD 0=ch t.text 0:=by simp[ch,gdqA]
 unfold txB at hR;rw[eg,ek]at hR;rw[hf]at dA dB k1 k2;rw[qB9 f hf2]at dA;rw[qCa f hf2]at dB;obtain⟨bp,hbp⟩: ∃b,b=qmj t.page:=⟨_,rfl⟩
 obtain⟨bm,hbm⟩: ∃b,b=qmj t.name:=⟨_,rfl⟩
 obtain⟨bg,hbg⟩: ∃b,b=qfj t.text:=⟨_,rfl⟩
 obtain⟨bw,hbw⟩: ∃b,b=kA t.text:=⟨_,rfl⟩
 rw[←hbp,←hbm,←hbg,←hbw]at hR;simp only[←hbp]at cP;simp only[←hbm]at cM;simp only[←hbg]at hG;simp only[←hbw]at cW;have eM:qv3 t.text=(decide (t.text.length=1)&&(decide (kind (ch t.text 0)=5)||decide (kind (ch t.text 0)=4))):=rfl;have eN:qv5 t.norm=(decide (t.norm≠ [])&&(decide (t.norm.length≤64)&&(List.range t.norm.length).all fun i=>qaP (ch t.norm i))):=rfl;rw[eM,eN]at hR;obtain⟨kd,hkd⟩: ∃kd,kd=kind (ch t.text 0):=⟨_,rfl⟩
 rw[←hkd]at hR cK;have q2:(t.text.length=1)=True→((0:Int)<t.text.length)=True:=fun e=>eqt (by have:=of_eq_true e;omega)
 cases ga:f.testBit 1<;>cases gb:f.testBit 3<;>rw[ga]at hR dA<;>rw[gb]at hR dB<;>simp only[Bool.false_eq_true,if_true,if_false,and_true,and_false,and_self]at hR
 ·cases bw with
  |false=>
   rw[Bool.false_and,ipo rfl]at hR;rw[hR];refine acO zW ?_;simp (disch:=omega) only[jS,tkC,hf,k1,k2,go_sem]
   repeat' first
    |((first|refine cA (dA _) ?_ ?_|refine cA (dB _) ?_ ?_|refine cA (cW _) ?_ ?_);exact flk;simp (disch:=omega) only[go_sem])
    |(apply qb;exact rvk;simp only[go_sem];exact qi)
  |true=>
  rw[Bool.true_and]at hR
  by_cases g5:t.norm= []
  ·have k5:(t.norm= [])=True:=eqt g5;rw[dqf (fun hc=>hc g5),Bool.false_and,ipo rfl]at hR;rw[hR];refine acO zW ?_;simp (disch:=omega) only[jS,tkC,hf,k1,k2,go_sem]
   repeat' first
    |((first|refine cA (dA _) ?_ ?_|refine cA (dB _) ?_ ?_|refine cA (cW _) ?_ ?_);exact flk;simp (disch:=omega) only[k5,go_sem])
    |(apply qb;exact rvk;simp only[go_sem];exact qi)
  have k5:(t.norm= [])=False:=eqf g5;rw[dqt g5,Bool.true_and]at hR
  by_cases g6:t.norm.length≤64
  case neg=>
   have k6:((64:Int)<t.norm.length)=True:=eqt om;rw[dqf g6,Bool.false_and,ipo rfl]at hR;rw[hR];refine acO zW ?_;simp (disch:=omega) only[jS,tkC,hf,k1,k2,go_sem]
   repeat' first
    |((first|refine cA (dA _) ?_ ?_|refine cA (dB _) ?_ ?_|refine cA (cW _) ?_ ?_);exact flk;simp (disch:=omega) only[k5,k6,go_sem])
    |(apply qb;exact rvk;simp only[go_sem];exact qi)
  have k6:((64:Int)<t.norm.length)=False:=eqf om;rw[dqt g6,Bool.true_and]at hR;refine acO zW ?_;simp (disch:=omega) only[jS,tkC,hf,k1,k2,go_sem]
  repeat' first
   |((first|refine cA (dA _) ?_ ?_|refine cA (dB _) ?_ ?_|refine cA (cW _) ?_ ?_);exact flk;simp (disch:=omega) only[k5,k6,go_sem])
  refine qt (T:=fun i:Nat=>qY 105 [(1,.op h.length 1 0),(5,.int .i64 i)]) (H:=fun _=>h++ [.mem 1 103 [.str t.text,.str t.norm,.str t.page,.int .i64 t.line,.int .i64 (f:Int),.str t.name]]) (inv:=fun i=>i≤t.norm.length∧ ∀j,j<i→qaP (ch t.norm j)=true) (m:=fun i=>t.norm.length-i) 0 ⟨nzl _,fun j hj=>absurd hj (nnz j)⟩ (Wk.temps ?_) ?_
  ·(simp only[go_sem,qh,qc,qa,qg];try (repeat' first|(with_reducible apply aiA)|(apply qf;omega)|(apply qe;rfl)|exact qi))
  rintro i ⟨i1,i2⟩ K hK
  by_cases hi:i<t.norm.length
  ·have r1:((i:Int)<t.norm.length)=True:=eqt om;have r0:(0≤(i:Int))=True:=eqt om;have ei:(t.norm[i]?).getD 0=ch t.norm i:=by unfold ch;exact (gdqA).symm
   have cV:=fun h=>qFr (ch t.norm i) h
   cases gi:qaP (ch t.norm i)with
   |false=>
    rw[gi]at cV;have hall:((List.range t.norm.length).all fun i=>qaP (ch t.norm i))=false:=by
     rw[List.all_eq_false];exact⟨i,by simpa using hi,by rw[gi];simp⟩
    rw[hall,ipo rfl]at hR;rw[hR];simp (disch:=omega) only[r0,r1,ei,go_sem]
    repeat' first
     |(refine cA (cV _) flk ?_;simp (disch:=omega) only[go_sem])
     |(apply qb;exact rvk;simp only[go_sem];exact qi)
   |true=>
    rw[gi]at cV;simp (disch:=omega) only[r0,r1,ei,go_sem]
    repeat' first
     |(refine cA (cV _) flk ?_;simp (disch:=omega) only[go_sem])
    refine hK _ _ (i+1) ⟨hi,fun j hj=> ?_⟩ om (Wk.temps ?_)
    ·by_cases e:j=i
     ·subst e;exact gi
     ·exact i2 j om
    ·(simp only[go_sem,qh,qc,qa,qg];try (repeat' first|(with_reducible apply aiA)|(apply qf;omega)|(apply qe;rfl)|exact qi))
  have r1:((i:Int)<t.norm.length)=False:=eqf om;have hall:((List.range t.norm.length).all fun i=>qaP (ch t.norm i))=true:=by
   rw[List.all_eq_true];exact fun j hj=>i2 j (by have:=List.mem_range.1 hj;omega)
  rw[hall,ine (by simp)]at hR;clear hK
  by_cases g4:t.line<0
  ·have k4:(t.line<0)=True:=eqt g4;rw[ipo g4]at hR;rw[hR];simp (disch:=omega) only[r1,k4,go_sem]
   repeat' first
    |(apply qb;exact rvk;simp only[go_sem];exact qi)
  have k4:(t.line<0)=False:=eqf g4;rw[ine g4]at hR;cases bp with
  |false=>
   rw[ipo (.inl rfl)]at hR;rw[hR];simp (disch:=omega) only[r1,k4,go_sem]
   repeat' first
    |(refine qj ( .bool false) ?_;simp (disch:=omega) only[go_sem])
    |(refine cA (cP _) flk ?_;simp (disch:=omega) only[go_sem])
    |(apply qb;exact rvk;simp only[go_sem];exact qi)
  |true=>
  cases bm with
  |false=>
   rw[ipo (.inr rfl)]at hR;rw[hR];simp (disch:=omega) only[r1,k4,go_sem]
   repeat' first
    |((first|refine cA (cP _) ?_ ?_|refine cG (fun e=>cM _) ?_ ?_);exact flk;simp (disch:=omega) only[go_sem])
    |(apply qb;exact rvk;simp only[go_sem];exact qi)
    |with_reducible apply aiA
   all_goals try exact clz
  |true=>
  rw[ine (by simp)]at hR;rw[hR];simp (disch:=omega) only[r1,k4,go_sem]
  repeat' first
   |((first|refine cA (cP _) ?_ ?_|refine cG (fun e=>cM _) ?_ ?_);exact flk;simp (disch:=omega) only[go_sem])
   |(apply qb;exact rvk;simp only[go_sem];exact qi)
   |with_reducible apply aiA
  all_goals try exact clz
 ·by_cases g5:t.text.length=1
  case neg=>
   have k5:((t.text.length:Int)=1)=False:=eqf om;rw[dqf g5,Bool.false_and,Bool.false_and,ipo rfl]at hR;rw[hR];refine acO zW ?_;simp (disch:=omega) only[jS,tkC,hf,k1,k2,go_sem]
   repeat' first
    |(refine qj ( .int .i64 0) ?_;simp (disch:=omega) only[go_sem])
    |((first|refine cA (dA _) ?_ ?_|refine cA (dB _) ?_ ?_);exact flk;simp (disch:=omega) only[k5,go_sem])
    |(apply qb;exact rvk;simp only[go_sem];exact qi)
    |with_reducible first|intro _|apply aiA
   all_goals try exact clz
  have k5:((t.text.length:Int)=1)=True:=eqt om;have k6:((0:Int)<t.text.length)=True:=eqt om;rw[dqt g5,Bool.true_and]at hR
  by_cases g50:kd=5
  ·have k50:(kd=5)=True:=eqt g50;rw[dqt g50,Bool.true_or,Bool.true_and]at hR
   by_cases g7:t.norm=t.text
   case neg=>
    have k7:(t.norm=t.text)=False:=eqf g7;rw[dqf g7,ipo rfl]at hR;rw[hR];refine acO zW ?_;simp (disch:=omega) only[jS,tkC,hf,k1,k2,false_imp_iff,true_imp_iff,go_sem]
    repeat' first
     |(refine qj ( .int .i64 0) ?_;simp (disch:=omega) only[false_and,false_imp_iff,true_imp_iff,k7,go_sem])
     |((first|refine cA (dA _) ?_ ?_|refine cA (dB _) ?_ ?_|refine cG (fun e=>cK _) ?_ ?_);exact flk;simp (disch:=omega) only[k5,k6,e0,Int.toNat_zero,k50,false_and,false_imp_iff,true_imp_iff,go_sem])
     |(apply qb;exact rvk;simp only[go_sem];exact qi)
     |with_reducible first|intro _|apply aiA
    all_goals try exact clz
   have k7:(t.norm=t.text)=True:=eqt g7;rw[dqt g7,ine (by simp)]at hR
   by_cases g4:t.line<0
   ·have k4:(t.line<0)=True:=eqt g4;rw[ipo g4]at hR;rw[hR];refine acO zW ?_;simp (disch:=omega) only[jS,tkC,hf,k1,k2,false_imp_iff,true_imp_iff,go_sem]
    repeat' first
     |(refine qj ( .int .i64 0) ?_;simp (disch:=omega) only[false_and,false_imp_iff,true_imp_iff,k7,k4,go_sem])
     |((first|refine cA (dA _) ?_ ?_|refine cA (dB _) ?_ ?_|refine cG (fun e=>cK _) ?_ ?_);exact flk;simp (disch:=omega) only[k5,k6,e0,Int.toNat_zero,k50,false_and,false_imp_iff,true_imp_iff,go_sem])
     |(apply qb;exact rvk;simp only[go_sem];exact qi)
     |with_reducible apply aiA
    all_goals try exact clz
   have k4:(t.line<0)=False:=eqf g4;rw[ine g4]at hR;cases bp with
   |false=>
    rw[ipo (.inl rfl)]at hR;rw[hR];refine acO zW ?_;simp (disch:=omega) only[jS,tkC,hf,k1,k2,false_imp_iff,true_imp_iff,go_sem]
    repeat' first
     |(refine qj ( .int .i64 0) ?_;simp (disch:=omega) only[false_and,false_imp_iff,true_imp_iff,k7,k4,go_sem])
     |((first|refine cA (dA _) ?_ ?_|refine cA (dB _) ?_ ?_|refine cG (fun e=>cK _) ?_ ?_|refine cA (cP _) ?_ ?_);exact flk;simp (disch:=omega) only[k5,k6,e0,Int.toNat_zero,k50,false_and,false_imp_iff,true_imp_iff,go_sem])
     |(apply qb;exact rvk;simp only[go_sem];exact qi)
     |with_reducible apply aiA
    all_goals try exact clz
   |true=>
   cases bm with
   |false=>
    rw[ipo (.inr rfl)]at hR;rw[hR];refine acO zW ?_;simp (disch:=omega) only[jS,tkC,hf,k1,k2,false_imp_iff,true_imp_iff,go_sem]
    repeat' first
     |(refine qj ( .int .i64 0) ?_;simp (disch:=omega) only[false_and,false_imp_iff,true_imp_iff,k7,k4,go_sem])
     |((first|refine cA (dA _) ?_ ?_|refine cA (dB _) ?_ ?_|refine cG (fun e=>cK _) ?_ ?_|refine cA (cP _) ?_ ?_|refine cG (fun e=>cM _) ?_ ?_);exact flk;simp (disch:=omega) only[k5,k6,e0,Int.toNat_zero,k50,false_and,false_imp_iff,true_imp_iff,go_sem])
     |(apply qb;exact rvk;simp only[go_sem];exact qi)
     |with_reducible apply aiA
    all_goals try exact clz
   |true=>
   rw[ine (by simp)]at hR;rw[hR];refine acO zW ?_;simp (disch:=omega) only[jS,tkC,hf,k1,k2,false_imp_iff,true_imp_iff,go_sem]
   repeat' first
    |(refine qj ( .int .i64 0) ?_;simp (disch:=omega) only[false_and,false_imp_iff,true_imp_iff,k7,k4,go_sem])
    |((first|refine cA (dA _) ?_ ?_|refine cA (dB _) ?_ ?_|refine cG (fun e=>cK _) ?_ ?_|refine cA (cP _) ?_ ?_|refine cG (fun e=>cM _) ?_ ?_);exact flk;simp (disch:=omega) only[k5,k6,e0,Int.toNat_zero,k50,false_and,false_imp_iff,true_imp_iff,go_sem])
    |(apply qb;exact rvk;simp only[go_sem];exact qi)
    |with_reducible apply aiA
   all_goals try exact clz
  have k50:(kd=5)=False:=eqf g50;rw[dqf g50,Bool.false_or]at hR
  by_cases g40:kd=4
  ·have k40:(kd=4)=True:=eqt g40;rw[dqt g40,Bool.true_and]at hR
   by_cases g7:t.norm=t.text
   case neg=>
    have k7:(t.norm=t.text)=False:=eqf g7;rw[dqf g7,ipo rfl]at hR;rw[hR];refine acO zW ?_;simp (disch:=omega) only[jS,tkC,hf,k1,k2,go_sem]
    repeat' first
     |((first|refine cA (dA _) ?_ ?_|refine cA (dB _) ?_ ?_|refine cG (fun e=>cK _) ?_ ?_);exact flk;simp (disch:=omega) only[k5,k6,e0,Int.toNat_zero,k50,k40,k7,go_sem])
     |(apply qb;exact rvk;simp only[go_sem];exact qi)
     |with_reducible apply aiA
    all_goals try exact clz
   have k7:(t.norm=t.text)=True:=eqt g7;rw[dqt g7,ine (by simp)]at hR
   by_cases g4:t.line<0
   ·have k4:(t.line<0)=True:=eqt g4;rw[ipo g4]at hR;rw[hR];refine acO zW ?_;simp (disch:=omega) only[jS,tkC,hf,k1,k2,go_sem]
    repeat' first
     |((first|refine cA (dA _) ?_ ?_|refine cA (dB _) ?_ ?_|refine cG (fun e=>cK _) ?_ ?_);exact flk;simp (disch:=omega) only[k5,k6,e0,Int.toNat_zero,k50,k40,k7,k4,go_sem])
     |(apply qb;exact rvk;simp only[go_sem];exact qi)
     |with_reducible apply aiA
    all_goals try exact clz
   have k4:(t.line<0)=False:=eqf g4;rw[ine g4]at hR;cases bp with
   |false=>
    rw[ipo (.inl rfl)]at hR;rw[hR];refine acO zW ?_;simp (disch:=omega) only[jS,tkC,hf,k1,k2,go_sem]
    repeat' first
     |(refine qj ( .bool false) ?_;simp (disch:=omega) only[go_sem])
     |((first|refine cA (dA _) ?_ ?_|refine cA (dB _) ?_ ?_|refine cG (fun e=>cK _) ?_ ?_|refine cA (cP _) ?_ ?_);exact flk;simp (disch:=omega) only[k5,k6,e0,Int.toNat_zero,k50,k40,k7,k4,go_sem])
     |(apply qb;exact rvk;simp only[go_sem];exact qi)
     |with_reducible apply aiA
    all_goals try exact clz
   |true=>
   cases bm with
   |false=>
    rw[ipo (.inr rfl)]at hR;rw[hR];refine acO zW ?_;simp (disch:=omega) only[jS,tkC,hf,k1,k2,go_sem]
    repeat' first
     |((first|refine cA (dA _) ?_ ?_|refine cA (dB _) ?_ ?_|refine cG (fun e=>cK _) ?_ ?_|refine cA (cP _) ?_ ?_|refine cG (fun e=>cM _) ?_ ?_);exact flk;simp (disch:=omega) only[k5,k6,e0,Int.toNat_zero,k50,k40,k7,k4,go_sem])
     |(apply qb;exact rvk;simp only[go_sem];exact qi)
     |with_reducible apply aiA
    all_goals try exact clz
   |true=>
   rw[ine (by simp)]at hR;rw[hR];refine acO zW ?_;simp (disch:=omega) only[jS,tkC,hf,k1,k2,go_sem]
   repeat' first
    |((first|refine cA (dA _) ?_ ?_|refine cA (dB _) ?_ ?_|refine cG (fun e=>cK _) ?_ ?_|refine cA (cP _) ?_ ?_|refine cG (fun e=>cM _) ?_ ?_);exact flk;simp (disch:=omega) only[k5,k6,e0,Int.toNat_zero,k50,k40,k7,k4,go_sem])
    |(apply qb;exact rvk;simp only[go_sem];exact qi)
    |with_reducible apply aiA
   all_goals try exact clz
  have k40:(kd=4)=False:=eqf g40;rw[dqf g40,Bool.false_and,ipo rfl]at hR;rw[hR];refine acO zW ?_;simp (disch:=omega) only[jS,tkC,hf,k1,k2,go_sem]
  repeat' first
   |((first|refine cA (dA _) ?_ ?_|refine cA (dB _) ?_ ?_|refine cG (fun e=>cK _) ?_ ?_);exact flk;simp (disch:=omega) only[k5,k6,e0,Int.toNat_zero,k50,k40,go_sem])
   |(apply qb;exact rvk;simp only[go_sem];exact qi)
   |with_reducible apply aiA
  all_goals try exact clz
 ·cases bg with
  |false=>
   rw[Bool.false_and,ipo rfl]at hR;rw[hR];refine acO zW ?_;simp (disch:=omega) only[jS,tkC,hf,k1,k2,go_sem]
   repeat' first
    |((first|refine cA (dA _) ?_ ?_|refine cA (dB _) ?_ ?_|refine cA (hG _) ?_ ?_);exact flk;simp (disch:=omega) only[go_sem])
    |(apply qb;exact rvk;simp only[go_sem];exact qi)
  |true=>
  rw[Bool.true_and]at hR
  by_cases g7:t.norm=t.text
  case neg=>
   have k7:(t.norm=t.text)=False:=eqf g7;rw[dqf g7,ipo rfl]at hR;rw[hR];refine acO zW ?_;simp (disch:=omega) only[jS,tkC,hf,k1,k2,go_sem]
   repeat' first
    |((first|refine cA (dA _) ?_ ?_|refine cA (dB _) ?_ ?_|refine cA (hG _) ?_ ?_);exact flk;simp (disch:=omega) only[k7,go_sem])
    |(apply qb;exact rvk;simp only[go_sem];exact qi)
  have k7:(t.norm=t.text)=True:=eqt g7;rw[dqt g7,ine (by simp)]at hR
  by_cases g4:t.line<0
  ·have k4:(t.line<0)=True:=eqt g4;rw[ipo g4]at hR;rw[hR];refine acO zW ?_;simp (disch:=omega) only[jS,tkC,hf,k1,k2,go_sem]
   repeat' first
    |((first|refine cA (dA _) ?_ ?_|refine cA (dB _) ?_ ?_|refine cA (hG _) ?_ ?_);exact flk;simp (disch:=omega) only[k7,k4,go_sem])
    |(apply qb;exact rvk;simp only[go_sem];exact qi)
  have k4:(t.line<0)=False:=eqf g4;rw[ine g4]at hR;cases bp with
  |false=>
   rw[ipo (.inl rfl)]at hR;rw[hR];refine acO zW ?_;simp (disch:=omega) only[jS,tkC,hf,k1,k2,go_sem]
   repeat' first
    |(refine qj ( .bool false) ?_;simp (disch:=omega) only[go_sem])
    |((first|refine cA (dA _) ?_ ?_|refine cA (dB _) ?_ ?_|refine cA (hG _) ?_ ?_|refine cA (cP _) ?_ ?_);exact flk;simp (disch:=omega) only[k7,k4,go_sem])
    |(apply qb;exact rvk;simp only[go_sem];exact qi)
  |true=>
  cases bm with
  |false=>
   rw[ipo (.inr rfl)]at hR;rw[hR];refine acO zW ?_;simp (disch:=omega) only[jS,tkC,hf,k1,k2,go_sem]
   repeat' first
    |((first|refine cA (dA _) ?_ ?_|refine cA (dB _) ?_ ?_|refine cA (hG _) ?_ ?_|refine cA (cP _) ?_ ?_|refine cG (fun e=>cM _) ?_ ?_);exact flk;simp (disch:=omega) only[k7,k4,go_sem])
    |(apply qb;exact rvk;simp only[go_sem];exact qi)
    |with_reducible apply aiA
   all_goals try exact clz
  |true=>
  rw[ine (by simp)]at hR;rw[hR];refine acO zW ?_;simp (disch:=omega) only[jS,tkC,hf,k1,k2,go_sem]
  repeat' first
   |((first|refine cA (dA _) ?_ ?_|refine cA (dB _) ?_ ?_|refine cA (hG _) ?_ ?_|refine cA (cP _) ?_ ?_|refine cG (fun e=>cM _) ?_ ?_);exact flk;simp (disch:=omega) only[k7,k4,go_sem])
   |(apply qb;exact rvk;simp only[go_sem];exact qi)
   |with_reducible apply aiA
  all_goals try exact clz
 ·rw[hR];refine acO zW ?_;simp (disch:=omega) only[jS,tkC,hf,k1,k2,go_sem]
  repeat' first
   |((first|refine cA (dA _) ?_ ?_|refine cA (dB _) ?_ ?_);exact flk;simp (disch:=omega) only[go_sem])
   |(apply qb;exact rvk;simp only[go_sem];exact qi)
theorem qAy(s:Str)(h:List AObj)(hs:s.length≤1000000000):ACalls Tryz.prog 137 [.str s] h (.bool (qq0 s)) h:=by
 unfold qq0;have c1:=fun h=>t53 s h hs
 by_cases g:1≤s.length
 ·rw[qra s g];have k0:((0:Int)<s.length)=True:=eqt om;have k2:((s.length:Int)-1).toNat=s.length-1:=by omega
  have k3:(0≤(s.length:Int)-1)=True:=eqt om;have k4:((s.length:Int)-1≤s.length)=True:=eqt om;have k5:((s.length:Int)-1<s.length)=True:=eqt om;obtain⟨b,hb⟩: ∃b,b=(s[s.length-1]?).getD 0:=⟨_,rfl⟩
  have eb:=hb.symm;rw[eb];have c2:=fun h=>t53 (s.take (s.length-1)) h (by simp;omega)
  by_cases g2:b.toNat=42
  ·have k6:((b.toNat:Int)=42)=True:=eqt om;rw[ipo (by simpa using g2)]
   by_cases g3:s.length≤16
   ·have k7:((s.length:Int)≤16)=True:=eqt om;rw[dqt g3];refine acO qhg ?_;simp (disch:=omega) only[qkH,k0,k2,k3,k4,k5,eb,k6,k7,go_sem]
    repeat' first
     |(refine cG (fun e=>c2 _) flk ?_;simp (disch:=omega) only[go_sem])
     |(apply qd;exact rvk;simp only[go_sem];exact qi)
     |with_reducible apply aiA
    all_goals try exact clz
   ·have k7:((s.length:Int)≤16)=False:=eqf om;rw[dqf g3];refine acO qhg ?_;simp (disch:=omega) only[qkH,k0,k2,k3,k4,k5,eb,k6,k7,go_sem]
    repeat' first
     |(refine qj ( .bool false) ?_;simp (disch:=omega) only[go_sem])
     |(apply qd;exact rvk;simp only[go_sem];exact qi)
  ·have k6:((b.toNat:Int)=42)=False:=eqf om;rw[ine (by simpa using g2)];refine acO qhg ?_;simp (disch:=omega) only[qkH,k0,k2,k3,k4,k5,eb,k6,go_sem]
   repeat' first
    |(refine cA (c1 _) flk ?_;simp (disch:=omega) only[go_sem])
    |(apply qd;exact rvk;simp only[go_sem];exact qi)
 ·have e:s= []:=List.eq_nil_of_length_eq_zero om;subst e;rw[ine (by decide)];refine acO qhg ?_;simp (disch:=omega) only[qkH,go_sem]
  repeat' first
   |((first|refine cA (c1 _) ?_ ?_|refine cG (fun e=>c1 _) ?_ ?_);exact flk;simp (disch:=omega) only[go_sem])
   |(apply qd;exact rvk;simp only[go_sem];exact qi)
   |with_reducible first|intro _|apply aiA
  all_goals try exact clz
theorem hdR(x:Co)(h:List AObj)(hz:qdA x)(hp:kR SG h):ACalls Tryz.prog 86 [.str x.sec,strs x.sig,qm x.tok] h (.int .i64 (srE x)) h:=by
 obtain⟨R,hR⟩: ∃R,R=srE x:=⟨_,rfl⟩
 rw[←hR];unfold srE at hR;have z1:=hz.sg;have z2:=hz.tk;have cN:=fun h=>t53 x.sec h hz.sc
 cases g0:kU x.sec with
 |false=>
  rw[g0]at cN;rw[ipo g0]at hR;rw[hR];refine acO qpK ?_;simp (disch:=omega) only[qxD,strs,qm,go_sem]
  repeat' first
   |(refine cA (cN _) flk ?_;simp (disch:=omega) only[go_sem])
   |(apply qd;exact rvk;simp only[go_sem];exact qi)
 |true=>
 rw[g0]at cN;rw[ine (by rw[g0];simp)]at hR
 by_cases g1:x.sig.length=0
 ·have k1:((x.sig.length:Int)=0)=True:=eqt om;rw[ipo g1]at hR;rw[hR];refine acO qpK ?_;simp (disch:=omega) only[qxD,strs,qm,go_sem]
  repeat' first
   |(refine cA (cN _) flk ?_;simp (disch:=omega) only[k1,go_sem])
   |(apply qd;exact rvk;simp only[go_sem];exact qi)
 have k1:((x.sig.length:Int)=0)=False:=eqf om;rw[ine g1]at hR
 by_cases g2:32<x.sig.length
 ·have k2:((32:Int)<x.sig.length)=True:=eqt om;rw[ipo g2]at hR;rw[hR];refine acO qpK ?_;simp (disch:=omega) only[qxD,strs,qm,go_sem]
  repeat' first
   |(refine cA (cN _) flk ?_;simp (disch:=omega) only[k1,k2,go_sem])
   |(apply qd;exact rvk;simp only[go_sem];exact qi)
 have k2:((32:Int)<x.sig.length)=False:=eqf om;rw[ine g2]at hR;refine acO qpK ?_;simp (disch:=omega) only[qxD,strs,qm,go_sem]
 repeat' first
  |(refine cA (cN _) flk ?_;simp (disch:=omega) only[k1,k2,go_sem])
 refine qt (T:=fun i:Nat=>qY 81 [(1,strs x.sig),(2,qm x.tok),(7,.int .i64 i)]) (H:=fun _=>h) (inv:=fun i=>i≤x.sig.length∧ ∀j,j<i→jW x.sig j=0) (m:=fun i=>x.sig.length-i) 0 ⟨nzl _,fun j hj=>by omega⟩ (Wk.temps ?_) ?_
 ·(simp only[strs,qm,go_sem,qh,qc,qa,qg];try (repeat' first|(with_reducible apply aiA)|(apply qf;omega)|(apply qe;rfl)|exact qi))
 rintro i ⟨i1,i2⟩ K hK
 by_cases hi:i<x.sig.length
 ·have k3:((i:Int)<x.sig.length)=True:=eqt om;have hE:=qaO (f:=jW x.sig) hi i2;have hs:jW x.sig i=if qq0 (x.sig.getD i [])=false then 14 else if jq (fun j=>decide (x.sig.getD i []=x.sig.getD j [])) i=true then 7 else 0:=rfl
  have c87:=fun h=>qAy (x.sig.getD i []) h (hz.ss i)
  obtain⟨s,hsx⟩: ∃s,s=x.sig.getD i []:=⟨_,rfl⟩
  have es:=hsx.symm;rw[es]at hs c87;cases g3:qq0 s with
  |false=>
   rw[g3]at c87;rw[ipo g3]at hs;have hne:qbm (jW x.sig) 0 x.sig.length≠0:=by rw[hE (by rw[hs];decide),hs];decide
   have hV:R=14:=by rw[hR,ipo hne,hE (by rw[hs];decide),hs]
   rw[hV];simp (disch:=omega) only[strs,qm,k3,es,go_sem]
   repeat' first
    |(refine cA (c87 _) flk ?_;simp (disch:=omega) only[go_sem])
    |(apply qd;exact rvk;simp only[go_sem];exact qi)
    |with_reducible apply aiA
   all_goals try exact clz
  |true=>
  rw[g3]at c87;rw[ine (by rw[g3];simp)]at hs;simp (disch:=omega) only[strs,qm,k3,es,go_sem]
  repeat' first
   |(refine cA (c87 _) flk ?_;simp (disch:=omega) only[go_sem])
   |with_reducible apply aiA
  all_goals try exact clz
  refine qt (T:=fun k:Nat=>qY 81 [(1,strs x.sig),(2,qm x.tok),(7,.int .i64 i),(8,.int .i64 k)]) (H:=fun _=>h) (inv:=fun k=>k≤i∧ ∀j,j<k→ ¬s=x.sig.getD j []) (m:=fun k=>i-k) 0 ⟨nzl _,fun j hj=>by omega⟩ (Wk.temps ?_) ?_
  ·(simp only[strs,qm,go_sem,qh,qc,qa,qg];try (repeat' first|(with_reducible apply aiA)|(apply qf;omega)|(apply qe;rfl)|exact qi))
  rintro k ⟨u1,u2⟩ K2 hK2
  by_cases hk:k<i
  ·have t1:((k:Int)<i)=True:=eqt om;have t2:((k:Int)<x.sig.length)=True:=eqt om;obtain⟨y,hy⟩: ∃y,y=x.sig.getD k []:=⟨_,rfl⟩
   have ey:=hy.symm
   by_cases g4:y=s
   ·have k4:(y=s)=True:=eqt g4;rw[ipo (qO.2 ⟨k,hk,by rw[ey,g4];simp⟩)]at hs;have hne:qbm (jW x.sig) 0 x.sig.length≠0:=by rw[hE (by rw[hs];decide),hs];decide
    have hV:R=7:=by rw[hR,ipo hne,hE (by rw[hs];decide),hs]
    rw[hV];simp (disch:=omega) only[strs,qm,k3,t1,t2,k4,es,ey,go_sem]
    repeat' first
     |(apply qd;exact rvk;simp only[go_sem];exact qi)
     |with_reducible apply aiA
    all_goals try exact clz
   ·have k4:(y=s)=False:=eqf g4;simp (disch:=omega) only[strs,qm,k3,t1,t2,k4,es,ey,go_sem]
    repeat' first
     |with_reducible apply aiA
    all_goals try exact clz
    refine hK2 _ _ (k+1) ⟨hk,fun j hj=> ?_⟩ om (Wk.temps ?_)
    ·by_cases e:j=k
     ·subst e;rw[ey];exact fun e=>g4 e.symm
     ·exact u2 j om
    ·(simp only[strs,qm,go_sem,qh,qc,qa,qg];try (repeat' first|(with_reducible apply aiA)|(apply qf;omega)|(apply qe;rfl)|exact qi))
  ·have t1:((k:Int)<i)=False:=eqf om;obtain rfl:k=i:=by omega
   rw[ine (by rw[qp.2 fun j hj=>dqf (u2 j hj)];simp)]at hs;simp (disch:=omega) only[strs,qm,t1,go_sem];refine hK _ _ (k+1) ⟨hi,fun j hj=> ?_⟩ om (Wk.temps ?_)
   ·by_cases e:j=k
    ·subst e;exact hs
    ·exact i2 j om
   ·(simp only[strs,qm,go_sem,qh,qc,qa,qg];try (repeat' first|(with_reducible apply aiA)|(apply qf;omega)|(apply qe;rfl)|exact qi))
 have k3:((i:Int)<x.sig.length)=False:=eqf om;have hn0:=jT (f:=jW x.sig) (fun j (hj:j<x.sig.length)=>i2 j om);rw[ine (fun hc=>hc hn0)]at hR
 by_cases g5:x.tok.length=x.sig.length
 case neg=>
  have k5:((x.tok.length:Int)=x.sig.length)=False:=eqf om;rw[ipo g5]at hR;rw[hR];simp (disch:=omega) only[strs,qm,k3,k5,go_sem]
  repeat' first
   |(apply qd;exact rvk;simp only[go_sem];exact qi)
 have k5:((x.tok.length:Int)=x.sig.length)=True:=eqt om;rw[ine (fun hc=>hc g5)]at hR;clear hK;simp (disch:=omega) only[strs,qm,k3,k5,go_sem];obtain⟨rw0,hrw⟩: ∃f:Nat→Int,f=fun i=>qeH (x.tok.getD i []):=⟨_,rfl⟩
 have er: ∀i,rw0 i=qeH (x.tok.getD i []):=fun i=>by rw[hrw]
 rw[←hrw]at hR;refine qt (T:=fun i:Nat=>qY 81 [(2,qm x.tok),(9,.int .i64 i)]) (H:=fun _=>h) (inv:=fun i=>i≤x.tok.length∧ ∀j,j<i→rw0 j=0) (m:=fun i=>x.tok.length-i) 0 ⟨nzl _,fun j hj=>by omega⟩ (Wk.temps ?_) ?_
 ·(simp only[qm,go_sem,qh,qc,qa,qg];try (repeat' first|(with_reducible apply aiA)|(apply qf;omega)|(apply qe;rfl)|exact qi))
 rintro i ⟨i1,i2⟩ K hK
 by_cases hi:i<x.tok.length
 ·have k6:((i:Int)<x.tok.length)=True:=eqt om;have hE:=qaO (f:=rw0) hi i2;have hs:=er i;have zl:=hz.tl i;have zt:=hz.te i;obtain⟨l,hl⟩: ∃l,l=x.tok.getD i []:=⟨_,rfl⟩
  have el:=hl.symm;rw[el]at hs zl;simp only[el]at zt;unfold qeH at hs
  by_cases g6:1024<l.length
  ·have k7:((1024:Int)<l.length)=True:=eqt om;rw[ipo g6]at hs;have hV:R=4:=by rw[hR,hE (by rw[hs];decide),hs]
   rw[hV];simp (disch:=omega) only[qm,zO,k6,k7,el,go_sem]
   repeat' first
    |(apply qd;exact rvk;simp only[go_sem];exact qi)
    |with_reducible apply aiA
   all_goals try exact clz
  have k7:((1024:Int)<l.length)=False:=eqf om;rw[ine g6]at hs;simp (disch:=omega) only[qm,zO,k6,k7,el,go_sem]
  repeat' first
   |with_reducible apply aiA
  all_goals try exact clz
  refine qt (T:=fun k:Nat=>qY 81 [(2,qm x.tok),(9,.int .i64 i),(10,.int .i64 k)]) (H:=fun _=>h) (inv:=fun k=>k≤l.length∧ ∀j,j<k→tkE (l.getD j default)=0) (m:=fun k=>l.length-k) 0 ⟨nzl _,fun j hj=>by omega⟩ (Wk.temps ?_) ?_
  ·(simp only[qm,zO,go_sem,qh,qc,qa,qg];try (repeat' first|(with_reducible apply aiA)|(apply qf;omega)|(apply qe;rfl)|exact qi))
  rintro k ⟨u1,u2⟩ K2 hK2
  by_cases hk:k<l.length
  ·have t1:((k:Int)<l.length)=True:=eqt om;have cT:=tkR (l.getD k default) h (zt k) hp;obtain⟨t,ht⟩: ∃t,t=l.getD k default:=⟨_,rfl⟩
   have et:=ht.symm;rw[et]at cT;obtain⟨e,he⟩: ∃e,e=tkE t:=⟨_,rfl⟩
   rw[←he]at cT;unfold tkC at cT
   by_cases g7:e=0
   ·have k8:(e=0)=True:=eqt g7;simp (disch:=omega) only[qm,zO,tkC,k6,t1,el,et,go_sem]
    repeat' first
     |(refine cA (cT) flk ?_;simp (disch:=omega) only[k8,go_sem])
     |with_reducible apply aiA
    all_goals try exact clz
    refine hK2 _ _ (k+1) ⟨hk,fun j hj=> ?_⟩ om (Wk.temps ?_)
    ·by_cases e:j=k
     ·subst e;rw[et,←he];exact g7
     ·exact u2 j om
    ·(simp only[qm,zO,go_sem,qh,qc,qa,qg];try (repeat' first|(with_reducible apply aiA)|(apply qf;omega)|(apply qe;rfl)|exact qi))
   ·have k8:(e=0)=False:=eqf g7;rw[ipo (qO.2 ⟨k,hk,by rw[et,←he];simp[g7]⟩)]at hs;have hV:R=1:=by rw[hR,hE (by rw[hs];decide),hs]
    rw[hV];simp (disch:=omega) only[qm,zO,tkC,k6,t1,el,et,go_sem]
    repeat' first
     |(refine cA (cT) flk ?_;simp (disch:=omega) only[k8,go_sem])
     |(apply qd;exact rvk;simp only[go_sem];exact qi)
     |with_reducible apply aiA
    all_goals try exact clz
  ·have t1:((k:Int)<l.length)=False:=eqf om;rw[ine (by rw[qp.2 fun j (hj:j<l.length)=>by rw[u2 j om];simp];simp)]at hs;simp (disch:=omega) only[qm,zO,k6,t1,el,go_sem]
   repeat' first
    |with_reducible apply aiA
   all_goals try exact clz
   refine hK _ _ (i+1) ⟨hi,fun j hj=> ?_⟩ om (Wk.temps ?_)
   ·by_cases e:j=i
    ·subst e;exact hs
    ·exact i2 j om
   ·(simp only[qm,zO,go_sem,qh,qc,qa,qg];try (repeat' first|(with_reducible apply aiA)|(apply qf;omega)|(apply qe;rfl)|exact qi))
 ·have k6:((i:Int)<x.tok.length)=False:=eqf om;rw[jT (fun j (hj:j<x.tok.length)=>i2 j om)]at hR;rw[hR];simp (disch:=omega) only[qm,k6,go_sem]
  repeat' first
   |(apply qd;exact rvk;simp only[go_sem];exact qi)
theorem coR(x:Co)(h:List AObj)(hz:qdA x)(hp:kR SG h):ACalls Tryz.prog 29 [.agg (coC x)] h (.int .i64 (coE x)) h:=by
 have c1:=fun l=>hdR x (h++l) hz (hp.app l)
 unfold coE
 by_cases g:srE x=0
 case neg=>
  have k1:(srE x=0)=False:=eqf g;rw[ipo g];obtain⟨e,he⟩: ∃e,e=srE x:=⟨_,rfl⟩
  rw[←he]at c1 k1 ⊢;refine acO qza ?_;simp (disch:=omega) only[qBN,coC,go_sem]
  repeat' first
   |(refine cA (c1 _) flk ?_;simp (disch:=omega) only[k1,go_sem])
   |(apply qb;exact rvk;simp only[go_sem];exact qi)
 rw[ine (fun hc=>hc g)];obtain⟨o1,o2,o3,o4⟩:=qsx g;rw[g]at c1;have zg1: ∀g,valL g .len [strs x.sig]= .int .i64 x.tok.length:=fun _=>by rw[o3];rfl
 have zg2: ∀g,okL g .len [strs x.sig]=True:=fun _=>eqt trivial
 have hn:=hz.tk;have hc:=hz.cl;have hl:=hz.tl;have hm:=hz.ce;obtain⟨R,hR⟩: ∃R,R=if alB x.tok x.col=false then (19:Int) else 0:=⟨_,rfl⟩
 rw[←hR];have k0:(0≤(x.tok.length:Int))=True:=eqt om;have k1:((x.tok.length:Int)≤9223372036854775807)=True:=eqt om;have eS:=o3.symm;refine acO qza ?_;simp (disch:=omega) only[qBN,coC,go_sem]
 repeat' first
  |(refine cA (c1 _) flk ?_;simp (disch:=omega) only[k0,zg1,zg2,go_sem])
  |with_reducible apply aiA
 all_goals try exact clz
 all_goals try rw[itn]
 rw[qlQ];obtain⟨tok,htok⟩: ∃tok,tok=x.tok:=⟨_,rfl⟩
 obtain⟨col,hcol⟩: ∃col,col=x.col:=⟨_,rfl⟩
 have eS2:x.sig.length=tok.length:=by rw[htok];exact eS
 rw[←htok,←hcol]at hR;rw[←htok]at k0 k1 hn;simp only[←htok]at hl o4;rw[←hcol]at hc;simp only[←hcol]at hm;have eC:coC x= [.str x.sec,strs x.sig,qm tok,qv col]:=by rw[htok,hcol];rfl
 have zc:qv col= .sl col.length fun i=> [qG (col.getD i [])]:=rfl
 have zt:qm tok= .sl tok.length fun i=> [zO (tok.getD i [])]:=rfl
 try simp only[←htok,←hcol]
 rw[←qwm (col:=col)];refine qt (T:=fun i:Nat=>qY 99 [(1,.op h.length 1 0),(4,.osl (h.length+1) 1 1 0 tok.length),(5,.int .i64 i)])
  (H:=fun i=>h++ [.mem 1 26 [.str x.sec,strs x.sig,qm tok,qv col],.mem 1 3 (gC (atA col i 0) tok.length)])
  (inv:=fun i=>i≤col.length∧ ∀j,j<i→qfd tok col j=true) (m:=fun i=>col.length-i) 0 ⟨nzl _,fun j hj=>absurd hj (nnz j)⟩ (Wk.temps ?_) ?_
 ·(simp only[strs,zt,zc,go_sem,qh,qc,qa,qg];try (repeat' first|(with_reducible apply aiA)|(apply qf;omega)|(apply qe;rfl)|exact qi))
 rintro i ⟨i1,i2⟩ K hK
 by_cases hi:i<col.length
 ·have k2:((i:Int)<col.length)=True:=eqt om;have ki:(0≤(i:Int))=True:=eqt om;have hno:qfd tok col i=false→R=19:=fun hx=>by rw[hR,qwg hi hx,ipo rfl]
  have hlen:= @qlg tok col i;have hen:= @qrR tok col i;have heq:= @qrS tok col i;have hskip:= @qg1 col i;have hstep:= @qg2 col i;have hmi:=hm i;have hE: ∀s,enB tok col i s=(decide ((col.getD i []).getD s 0= -1)||(decide ((col.getD i []).getD s 0=(cnC col s i:Int))&&decide ((col.getD i []).getD s 0<((tok.getD s []).length:Int)))):=fun _=>rfl
  obtain⟨c,hcx⟩: ∃c,c=col.getD i []:=⟨_,rfl⟩
  have ec:=hcx.symm;rw[ec]at hlen heq hmi;simp only[ec]at hskip hstep hE
  by_cases g1:c.length=tok.length
  case neg=>
   have k3:((c.length:Int)=tok.length)=False:=eqf om;rw[hno (hlen g1)];simp (disch:=omega) only[zc,qG,k2,ki,k3,ec,go_sem]
   repeat' first
    |(apply qb;exact rvk;simp only[go_sem];exact qi)
    |with_reducible apply aiA
   all_goals try exact clz
  have k3:((c.length:Int)=tok.length)=True:=eqt om;have heq:=heq g1;simp (disch:=omega) only[zc,qG,k2,ki,k3,ec,go_sem]
  repeat' first
   |with_reducible apply aiA
  all_goals try exact clz
  refine qt (T:=fun s:Nat=>qY 99 [(1,.op h.length 1 0),(4,.osl (h.length+1) 1 1 0 tok.length),(5,.int .i64 i),(6,qG c),(7,.bool (jq (fun s=> !decide (c.getD s 0= -1)) s)),(8,.int .i64 s)])
   (H:=fun s=>h++ [.mem 1 26 [.str x.sec,strs x.sig,qm tok,qv col],.mem 1 3 (gC (atA col i s) tok.length)])
   (inv:=fun s=>s≤c.length∧ ∀j,j<s→enB tok col i j=true) (m:=fun s=>c.length-s) 0 ⟨nzl _,fun j hj=>absurd hj (nnz j)⟩ (Wk.temps ?_) ?_
  ·(simp only[qG,go_sem,qh,qc,qa,qg];try (repeat' first|(with_reducible apply aiA)|(apply qf;omega)|(apply qe;rfl)|exact qi))
  rintro s ⟨s1,s2⟩ K2 hK2
  by_cases hs:s<c.length
  ·have t1:((s:Int)<c.length)=True:=eqt om;have t0:(0≤(s:Int))=True:=eqt om;have hsn:s<tok.length:=by omega
   have t2:((s:Int)<tok.length)=True:=eqt om;have t3:(s<tok.length)=True:=eqt hsn;have t4:(s+1≤tok.length)=True:=eqt hsn;have gl:=kS (atA col i s) tok.length;have gg:=qbn (g:=atA col i s) hsn;rw[qrJ]at gg;have hsk:=hskip (s:=s) (n:=tok.length);have hst:=hstep (s:=s) hsn;have hcn:= @qrQ col s i;have hlt:=hl s;have hEs:=hE s;have hap:=qe0 (fun s=> !decide (c.getD s 0= -1)) s;obtain⟨t,ht⟩: ∃t,t=c.getD s 0:=⟨_,rfl⟩
   obtain⟨l,hlx⟩: ∃l,l=tok.getD s []:=⟨_,rfl⟩
   have et:=ht.symm;have el:=hlx.symm;rw[et]at hsk hst hEs;rw[el]at hEs hlt;simp only[et]at hap;obtain⟨a,ha⟩: ∃a,a=jq (fun s=> !decide (c.getD s 0= -1)) s:=⟨_,rfl⟩
   have ea:=ha.symm;rw[ea]at hap;obtain⟨q,hq⟩: ∃q:Nat,q=cnC col s i:=⟨_,rfl⟩
   have eq:=hq.symm;rw[eq]at hst hEs hcn gg;have b2:((q:Int)+1≤9223372036854775807)=True:=eqt om;have b3:(-9223372036854775808≤(q:Int)+1)=True:=eqt om
   by_cases g2:t= -1
   ·have k4:(t= -1)=True:=eqt g2;rw[dqt g2,Bool.true_or]at hEs;have hap':jq (fun s=> !decide (c.getD s 0= -1)) (s+1)=a:=by rw[hap,dqt g2];simp
    simp (disch:=omega) only[qG,t0,t1,t2,t3,k4,et,ea,gl,gg,Nat.mul_one,Nat.zero_add,go_sem]
    repeat' first
     |with_reducible apply aiA
    all_goals try exact clz
    rw[hsk g2];refine hK2 _ _ (s+1) ⟨hs,fun j hj=> ?_⟩ om (Wk.temps ?_)
    ·by_cases e:j=s
     ·subst e;exact hEs
     ·exact s2 j om
    ·rw[hap']
     (simp only[qG,go_sem,qh,qc,qa,qg];try (repeat' first|(with_reducible apply aiA)|(apply qf;omega)|(apply qe;rfl)|exact qi))
   have k4:(t= -1)=False:=eqf g2;rw[dqf g2,Bool.false_or]at hEs;have hap':jq (fun s=> !decide (c.getD s 0= -1)) (s+1)=true:=by rw[hap,dqf g2];simp
   by_cases g3:t=(q:Int)
   case neg=>
    have k5:(t=(q:Int))=False:=eqf g3;rw[dqf g3,Bool.false_and]at hEs;rw[hno (hen hsn hEs)];simp (disch:=omega) only[zt,qG,t0,t1,t2,t3,t4,k4,k5,et,ea,gl,gg,Nat.mul_one,Nat.zero_add,go_sem]
    repeat' first
     |(apply qb;exact rvk;simp only[go_sem];exact qi)
     |with_reducible apply aiA
    all_goals try exact clz
   have k5:(t=(q:Int))=True:=eqt g3;rw[dqt g3,Bool.true_and]at hEs
   by_cases g4:(l.length:Int)≤t
   ·have k6:((l.length:Int)≤t)=True:=eqt g4;rw[dqf om]at hEs;rw[hno (hen hsn hEs)];simp (disch:=omega) only[zt,zO,qG,t0,t1,t2,t3,t4,k4,k5,k6,et,ea,el,gl,gg,Nat.mul_one,Nat.zero_add,go_sem]
    repeat' first
     |(apply qb;exact rvk;simp only[go_sem];exact qi)
     |with_reducible apply aiA
    all_goals try exact clz
   ·have k6:((l.length:Int)≤t)=False:=eqf g4;rw[dqt om]at hEs;have hst:=hst g2;simp (disch:=omega) only[zt,zO,qG,t0,t1,t2,t3,t4,k4,k5,k6,et,ea,el,gl,gg,hst,Nat.mul_one,Nat.zero_add,Option.isSome_some,go_sem]
    repeat' first
     |with_reducible apply aiA
    all_goals try exact clz
    try rw[hst]
    refine hK2 _ _ (s+1) ⟨hs,fun j hj=> ?_⟩ om (Wk.temps ?_)
    ·by_cases e:j=s
     ·subst e;exact hEs
     ·exact s2 j om
    ·rw[hap']
     (simp only[qG,go_sem,qh,qc,qa,qg];try (repeat' first|(with_reducible apply aiA)|(apply qf;omega)|(apply qe;rfl)|exact qi))
  ·have t1:((s:Int)<c.length)=False:=eqf om;have es:s=tok.length:=by omega
   have heq:=heq fun j hj=>s2 j om
   rw[←es]at heq;cases ga:jq (fun s=> !decide (c.getD s 0= -1)) s with
   |false=>
    rw[ga]at heq;rw[hno heq];simp (disch:=omega) only[qG,t1,go_sem]
    repeat' first
     |(apply qb;exact rvk;simp only[go_sem];exact qi)
   |true=>
    rw[ga]at heq;simp (disch:=omega) only[qG,t1,go_sem];have ege:gC (atA col i s) tok.length=gC (atA col (i+1) 0) tok.length:=by rw[es];exact qjP _
    rw[ege];refine hK _ _ (i+1) ⟨hi,fun j hj=> ?_⟩ om (Wk.temps ?_)
    ·by_cases e:j=i
     ·subst e;exact heq
     ·exact i2 j om
    ·(simp only[go_sem,qh,qc,qa,qg];try (repeat' first|(with_reducible apply aiA)|(apply qf;omega)|(apply qe;rfl)|exact qi))
 have k2:((i:Int)<col.length)=False:=eqf om;obtain rfl:i=col.length:=by omega
 clear hK;simp (disch:=omega) only[zc,k2,go_sem]
 repeat' first
  |with_reducible apply aiA
 all_goals try exact clz
 refine qt (T:=fun s:Nat=>qY 99 [(1,.op h.length 1 0),(4,.osl (h.length+1) 1 1 0 tok.length),(9,.int .i64 s)])
  (H:=fun _=>h++ [.mem 1 26 [.str x.sec,strs x.sig,qm tok,qv col],.mem 1 3 (gC (atA col col.length 0) tok.length)])
  (inv:=fun s=>s≤tok.length∧ ∀j,j<s→cnC col j col.length=(tok.getD j []).length) (m:=fun s=>tok.length-s) 0 ⟨nzl _,fun j hj=>absurd hj (nnz j)⟩ (Wk.temps ?_) ?_
 ·(simp only[go_sem,qh,qc,qa,qg];try (repeat' first|(with_reducible apply aiA)|(apply qf;omega)|(apply qe;rfl)|exact qi))
 rintro s ⟨s1,s2⟩ K hK
 by_cases hs:s<tok.length
 ·have t1:((s:Int)<tok.length)=True:=eqt om;have t0:(0≤(s:Int))=True:=eqt om;have t3:(s<tok.length)=True:=eqt hs;have t4:(s+1≤tok.length)=True:=eqt hs;have gl:=kS (atA col col.length 0) tok.length;have gg:=qbn (g:=atA col col.length 0) hs;have e0:atA col col.length 0 s= .int .i64 (cnC col s col.length:Int):=by unfold atA;rw[ine (nnz _)]
  rw[e0]at gg;have hno:= @qrG tok col s hs;obtain⟨q,hq⟩: ∃q:Nat,q=cnC col s col.length:=⟨_,rfl⟩
  have eq:=hq.symm;have hs2:q=(tok.getD s []).length→cnC col s col.length=(tok.getD s []).length:=fun e=>by rw[←hq];exact e
  rw[eq]at gg hno;obtain⟨l,hlx⟩: ∃l,l=tok.getD s []:=⟨_,rfl⟩
  have el:=hlx.symm;rw[el]at hno hs2
  by_cases g:q=l.length
  ·have k5:((q:Int)=l.length)=True:=eqt om;simp (disch:=omega) only[zt,zO,t0,t1,t3,k5,el,gl,gg,Nat.mul_one,Nat.zero_add,go_sem]
   repeat' first
    |with_reducible apply aiA
   all_goals try exact clz
   refine hK _ _ (s+1) ⟨hs,fun j hj=> ?_⟩ om (Wk.temps ?_)
   ·by_cases e:j=s
    ·subst e;rw[el];exact hs2 g
    ·exact s2 j om
   ·(simp only[go_sem,qh,qc,qa,qg];try (repeat' first|(with_reducible apply aiA)|(apply qf;omega)|(apply qe;rfl)|exact qi))
  ·have k5:((q:Int)=l.length)=False:=eqf om;rw[hR,hno g,ipo rfl];simp (disch:=omega) only[zt,zO,t0,t1,t3,k5,el,gl,gg,Nat.mul_one,Nat.zero_add,go_sem]
   repeat' first
    |(apply qb;exact rvk;simp only[go_sem];exact qi)
    |with_reducible apply aiA
   all_goals try exact clz
 ·have t1:((s:Int)<tok.length)=False:=eqf om;rw[hR,qrH i2 (fun j hj=>s2 j om),ine (by simp)];simp (disch:=omega) only[t1,go_sem]
  repeat' first
   |(apply qb;exact rvk;simp only[go_sem];exact qi)
end RC
end
section
open Go Go.Proofs AF
end
section
open Go Go.Proofs AF HY LN
namespace RC
end RC
end
section
open Go Go.Proofs AF
end
section
open Go Go.Proofs AF HY LN
namespace RC
theorem qhK(h:List AObj)(L:List Int):qk h (qG L)=some (L.length,qT L):=by
 show some (L.length,_)=_;rw[fmI]
end RC
end
section
open Go Go.Proofs AF
def qcK:List Nat:= []
def qBT:C:=
 ((C.ops [ON 4 (.nilo 0 1 3) []]).seq (((C.ops [MV 9 1,BC 10 .lss 9 (i6 0)]).seq (C.cond (.t 10) C.bad C.skip)).seq ((C.ops [MV 13 0,O1 14 .len 13,O1 15 (.conv .u64) 14,MV 16 1,
 O1 17 (.conv .u64) 16,O2 18 (.call 128 true) 15 17,MV 12 18,O1 19 (.ext 0) 12,O1 20 (.ext 1) 12,MV 5 19,MV 6 20]).seq (((C.ops [MV 21 5,BC 22 .gtr 21 (.int .u64 0),MV 23
 22,MG 24 23 false 6,PC 25 23 false (.bin .gtr) 24 (.int .u64 9223372036854775807),PT 26 23 25]).seq (C.cond (.t 26) C.bad C.skip)).seq ((C.ops [MV 28 6,O1 29 (.conv .i64) 28,
 ⟨some 30,none,.mkslc 1 1 3 [i6 0] 8,[.t 29,.t 29]⟩,MV 7 30]).seq ((C.ops [MV 31 7,MV 32 0,O2 33 (.cpy 1) 31 32,MV 8 33]).seq ((C.block 0 (((C.ops [MV 34 8,MV 35 7,O1 36
 .len 35,BI 37 .lss 34 36]).seq (C.cond (.t 37) C.skip (C.exit 0))).seq (C.block 1 (C.ops [MV 38 8,MV 39 7,MV 40 8,O2 41 (.slc 1 true false) 39 40,MV 42 7,MV 43 8,O2 44 (.slc
 1 false true) 42 43,O2 45 (.cpy 1) 41 44,BI 46 .add 38 45,MV 8 46]))).loop).seq ((C.ops [MV 47 7,MV 4 47]).seq
 C.ret))))))))
theorem qzk:qL Tryz.prog 78 48 2 [RV.tmp 4] qBT:=fi Tryz.f78 [4,30] qcK []
def qwx:C:=
 ((C.ops [MC 4 (.int .u64 0),MC 5 (.int .u64 0)]).seq ((C.cond (.c (.bool false)) ((C.ops [MV 11 0,O1 12 (.conv .u32) 11,MV 13 1,O1 14 (.conv .u32) 13,O2 15 (.call 174 true) 12
 14,MV 10 15,O1 16 (.ext 0) 10,O1 17 (.ext 1) 10,MV 6 16,MV 7 17]).seq ((C.ops [MV 18 6,O1 19 (.conv .u64) 18,MV 20 7,O1 21 (.conv .u64) 20,MV 4 19,MV 5 21]).seq C.ret))
 C.skip).seq ((C.ops [MV 23 0,MV 24 1,O2 25 (.call 175 true) 23 24,MV 22 25,O1 26 (.ext 0) 22,O1 27 (.ext 1) 22,MV 8 26,MV 9 27]).seq ((C.ops [MV 28 8,MV 29 9,MV 4 28,MV 5
 29]).seq
 C.ret))))
theorem qx6:qL Tryz.prog 128 30 0 [RV.tmp 4,RV.tmp 5] qwx:=fi Tryz.f128 [] qcK []
def qwS:C:=
 ((C.ops [MC 4 (.int .u64 0),MC 5 (.int .u64 0)]).seq ((C.ops [MV 14 0,BC 15 .and 14 (.int .u64 4294967295),MV 6 15]).seq ((C.ops [MV 16 0,BC 17 .shr 16 (.int .u64 32),MV 7
 17]).seq ((C.ops [MV 18 1,BC 19 .and 18 (.int .u64 4294967295),MV 8 19]).seq ((C.ops [MV 20 1,BC 21 .shr 20 (.int .u64 32),MV 9 21]).seq ((C.ops [MV 22 6,MV 23 8,BI 24 .mul
 22 23,MV 10 24]).seq ((C.ops [MV 25 7,MV 26 8,BI 27 .mul 25 26,MV 28 10,BC 29 .shr 28 (.int .u64 32),BI 30 .add 27 29,MV 11 30]).seq ((C.ops [MV 31 11,BC 32 .and 31 (.int
 .u64 4294967295),MV 12 32]).seq ((C.ops [MV 33 11,BC 34 .shr 33 (.int .u64 32),MV 13 34]).seq ((C.ops [MV 35 12,MV 36 6,MV 37 9,BI 38 .mul 36 37,BI 39 .add 35 38,MV 12
 39]).seq ((C.ops [MV 40 7,MV 41 9,BI 42 .mul 40 41,MV 43 13,BI 44 .add 42 43,MV 45 12,BC 46 .shr 45 (.int .u64 32),BI 47 .add 44 46,MV 4 47]).seq ((C.ops [MV 48 0,MV 49 1,
 BI 50 .mul 48 49,MV 5 50]).seq
 C.ret))))))))))))
theorem qyt:qL Tryz.prog 175 51 0 [RV.tmp 4,RV.tmp 5] qwS:=fi Tryz.f175 [] qcK []
def qBw:C:=
 ((C.ops [ON 2 (.nilo 0 3 64) []]).seq (((C.ops [MV 3 0,O1 4 (.isnil .slice false) 3]).seq (C.cond (.t 4) ((C.ops [ON 2 (.nilo 0 3 64) []]).seq C.ret) C.skip)).seq ((C.ops [⟨some
 5,none,.bslc 1 3 0 64 [i6 0,i6 0,.nl] [],[]⟩,MV 6 0,O2 7 (.app 2 3 64 40) 5 6,MV 2 7]).seq
 C.ret)))
theorem qtY:qL Tryz.prog 81 8 3 [RV.tmp 2] qBw:=fi Tryz.f81 [2,5,7] qcK []
end
section
open Go Go.Proofs AF HY LN
namespace RC
def qaS(L:List Un):List AV:=L.flatMap unC
theorem qnY(u:Un):(unC u).length=3:=rfl
theorem qcR(L:List Un):(qaS L).length=L.length*3:=by
 unfold qaS
 induction L with
 |nil=>rfl
 |cons a L ih=>rw[List.flatMap_cons,lap,ih,lco,qnY];omega
theorem qrp(A B:List Un):qaS (A++B)=qaS A++qaS B:=by simp[qaS]
theorem qrq(a:Un):qaS [a]=unC a:=by simp[qaS]
theorem qnZ(L:List Un): ∀i,(qaS L).drop (i*3)=qaS (L.drop i):=by
 induction L with
 |nil=>intro i;simp[qaS]
 |cons a L ih=>
  intro i;cases i with
  |zero=>simp
  |succ i=>
   rw[show qaS (a::L)=unC a++qaS L from rfl,show (a::L).drop (i+1)=L.drop i from rfl,←ih i];rw[show (i+1)*3=(unC a).length+i*3 by rw[qnY];omega,List.drop_append,List.drop_eq_nil_of_le om,lna,Nat.add_sub_cancel_left]
theorem qhX{L:List Un}{i:Nat}(hi:i<L.length):((qaS L).drop (i*3)).take 3=unC (L.getD i default):=by
 rw[qnZ,List.drop_eq_getElem_cons hi,gdqA,zH hi];rfl
theorem qpG(L:List Un):((List.range L.length).flatMap fun i=>unC (L.getD i default))=qaS L:=by
 unfold qaS;have e:L=(List.range L.length).map fun i=>L.getD i default:=by
  apply List.ext_getElem (by simp);intro i h1 h2;simp[gdqA,h1]
 conv=>rhs;rw[e]
 rw[List.flatMap_map]
theorem qnC(h:List AObj)(L:List Un):qk h (jc L)=some (L.length,qaS L):=by
 show some (L.length,_)=_;rw[qpG]
theorem qeL(L:List Un)(n:Nat): ∀c∈qaS L,qU n c=true:=by
 intro c hc;unfold qaS at hc;obtain⟨x,_,hx⟩:=List.mem_flatMap.1 hc;simp only[unC,List.mem_cons,List.not_mem_nil,or_false]at hx;rcases hx with rfl|rfl|rfl<;>rfl
theorem ql8{L:List Un}(h:L≠ []):valP (.isnil .slice false) [jc L]= .bool false:=by
 unfold jc;rw[qbK,ine (by simpa using h)];rfl
theorem qEu(L:List Un)(h:List AObj)(k:Nat)(hk:qI h k=true)(h0:L≠ [])(hl:L.length≤1000000000):
  ACalls Tryz.prog 81 [jc L] h (.osl k (qq (qr k h)+1) 3 0 L.length) (qo k h (.mem (qq (qr k h)+1) 64 (qaS L))):=by
 have s1:=fun h=>qnC h L
 have eP:=qcR L;have hp:=List.length_pos_iff.2 h0;have z0:=ql8 h0;have z1:okP (.isnil .slice false) [jc L]=True:=eqt trivial;refine qf2 qtY k (by simp) ?_;simp only[lco,lnl,Nat.reduceAdd,Nat.reduceSub,List.replicate,lca,lna];simp (disch:=omega) only[qBw,s1,z0,z1,go_sem]
 repeat' first
  |(with_reducible apply aiA)
 all_goals first
  |omega
  |contradiction
  |skip
 all_goals try rfl
 exact⟨h.length+1,2,3,0,L.length,64,qaS L,_,⟨trivial,trivial⟩,rfl,rfl,om,by simp only[go_sem],qeL L _,hk,rfl,rfl⟩
theorem qeV{n:Int}(h0:0≤n)(h1:n<18446744073709551616):IntKind.u64.wrap n=n:=by
 have e1:(2:Int)^IntKind.bits IntKind.u64=18446744073709551616:=rfl;have e3:IntKind.signed IntKind.u64=false:=rfl;unfold IntKind.wrap;rw[e1,e3];simp only[Bool.false_and,Bool.false_eq_true,if_false];omega
theorem qnl{a:Int}:qwb .u64 a 32=a/4294967296:=by
 have e:(2:Int)^(min (32:Int).toNat IntKind.u64.bits)=4294967296:=rfl;unfold qwb;rw[e,Int.fdiv_eq_ediv_of_nonneg _ om]
theorem qwj{n:Nat}(hn:n≤1000000000):qov .u64 (n:Int) 4294967295=n:=by
 have e:IntKind.u64.bits=64:=rfl;unfold qov;rw[e,BitVec.toNat_and,BitVec.toNat_ofInt,BitVec.toNat_ofInt];have e2:((n:Int)%((2^64:Nat):Int)).toNat=n:=by
  rw[show ((2^64:Nat):Int)=18446744073709551616 by rfl];omega
 have e3:((4294967295:Int)%((2^64:Nat):Int)).toNat=2^32-1:=by rfl
 rw[e2,e3,Nat.and_two_pow_sub_one_eq_mod,qeV om om];omega
theorem qEU(n:Nat)(h:List AObj)(hn:n≤1000000000):ACalls Tryz.prog 175 [.int .u64 1,.int .u64 (n:Int)] h (.tup [.int .u64 0,.int .u64 (n:Int)]) h:=by
 have e0:qwb .u64 1 32=0:=by rw[qnl];rfl
 have e1:qwb .u64 (n:Int) 32=0:=by rw[qnl];omega
 have e2:qwb .u64 0 32=0:=by rw[qnl];rfl
 have e3:qov .u64 1 4294967295=1:=by decide+kernel
 have e4:qov .u64 0 4294967295=0:=by decide+kernel
 have e5:IntKind.u64.wrap 0=0:=by decide
 have e6:IntKind.u64.wrap (n:Int)=n:=qeV om om;refine acO qyt ?_;simp (disch:=omega) only[qwS,go_sem]
 repeat' first
  |(apply qd;exact rvk;simp only[go_sem])
  |with_reducible apply aiA
 all_goals try exact clz
 have e7:=qwj hn;simp only[e0,e1,e2,e3,e4,e5,e6,e7,Int.zero_mul,Int.mul_zero,Int.one_mul,Int.add_zero];exact qi
theorem qD3(n:Nat)(h:List AObj)(hn:n≤1000000000):ACalls Tryz.prog 128 [.int .u64 1,.int .u64 (n:Int)] h (.tup [.int .u64 0,.int .u64 (n:Int)]) h:=by
 have c1:=fun h=>qEU n h hn
 refine acO qx6 ?_;simp (disch:=omega) only[qwx,go_sem]
 repeat' first
  |(refine cA (c1 _) flk ?_;simp (disch:=omega) only[go_sem])
  |(apply qd;exact rvk;simp only[go_sem];exact qi)
  |with_reducible apply aiA
 all_goals try exact clz
def rpC(a:Int)(n i:Nat):List AV:=gC (fun j=> .int .i64 (if j<i then a else 0)) n
theorem qmc(n:Nat):ze [.int .i64 0] n=rpC 0 n 0:=by
 refine List.ext_getElem? fun k=> ?_
 obtain⟨h1,h2⟩:=jV [AV.int .i64 0] n
 by_cases hk:k<n
 ·unfold rpC;rw[qbn hk,ine (nnz _)]
  have:=h2 k (by simp;omega)
  rw[this,List.length_singleton,Nat.mod_one];rfl
 ·rw[List.getElem?_eq_none (by rw[h1];simp;omega),List.getElem?_eq_none (by unfold rpC;rw[kS];omega)]
theorem qa4(a:Int)(n i:Nat):(rpC a n i).length=n:=by unfold rpC;rw[kS]
theorem qa3{a:Int}{n i k:Nat}(hk:k<n):(rpC a n i)[k]? =some (.int .i64 (if k<i then a else 0)):=by unfold rpC;rw[qbn hk]
theorem qqR(a:Int){n i j:Nat}(hj:j≤i)(hi:i+j≤n):(rpC a n i).take i++(rpC a n i).take j++(rpC a n i).drop (i+j)=rpC a n (i+j):=by
 have hl:=qa4 a n i;have l1:((rpC a n i).take i).length=i:=by rw[List.length_take];omega
 have l2:((rpC a n i).take j).length=j:=by rw[List.length_take];omega
 refine List.ext_getElem? fun k=> ?_
 by_cases hk:k<n
 ·rw[qa3 hk]
  by_cases g1:k<i
  ·rw[List.append_assoc,List.getElem?_append_left om,List.getElem?_take,ipo g1,qa3 hk,ipo g1,ipo om]
  ·rw[List.append_assoc,List.getElem?_append_right om,l1]
   by_cases g2:k-i<j
   ·rw[List.getElem?_append_left om,List.getElem?_take,ipo g2,qa3 om,ipo om,ipo om]
   ·rw[List.getElem?_append_right om,l2,List.getElem?_drop,show i+j+(k-i-j)=k by omega,qa3 hk,ine g1,ine om]
 ·rw[List.getElem?_eq_none (by simp only[lap,l1,l2,List.length_drop,hl];omega),List.getElem?_eq_none (by rw[qa4];omega)]
theorem qvc(a:Int){n:Nat}(hn:0<n):List.take 1 (qT [a])++List.drop 1 (rpC 0 n 0)=rpC a n 1:=by
 refine List.ext_getElem? fun k=> ?_
 by_cases hk:k<n
 ·rw[qa3 hk];cases k with
  |zero=>rfl
  |succ k=>
   rw[List.getElem?_append_right (by simp[qT]),List.getElem?_drop];rw[show 1+(k+1-(List.take 1 (qT [a])).length)=k+1 by simp[qT];omega,qa3 hk,ine (nnz _),ine om]
 ·rw[List.getElem?_eq_none (by simp[qT,qa4];omega),List.getElem?_eq_none (by rw[qa4];omega)]
theorem qvb(a:Int)(n:Nat):rpC a n n=qT (List.replicate n a):=by
 refine List.ext_getElem? fun k=> ?_
 by_cases hk:k<n
 ·rw[qa3 hk,ipo hk];unfold qT;rw[List.getElem?_map,List.getElem?_replicate,ipo hk];rfl
 ·rw[List.getElem?_eq_none (by rw[qa4];omega),List.getElem?_eq_none (by simp[qT];omega)]
theorem qE6(a:Int)(n:Nat)(h:List AObj)(k:Nat)(hk:qI h k=true)(h0:0<n)(hl:n≤1000000000):
  ACalls Tryz.prog 78 [qG [a],.int .i64 (n:Int)] h (.osl k (qq (qr k h)+1) 1 0 n) (qo k h (.mem (qq (qr k h)+1) 3 (qT (List.replicate n a)))):=by
 have s1:=fun h=>qhK h [a]
 have c1:=fun h=>qD3 n h hl
 have k1:((n:Int)<0)=False:=eqf om;have k2:((9223372036854775807:Int)<n)=False:=eqf om;have z1: ∀g,valL g .len [qG [a]]= .int .i64 1:=fun _=>rfl
 have z2: ∀g,okL g .len [qG [a]]=True:=fun _=>eqt trivial
 have e5:IntKind.u64.wrap 1=1:=by decide
 have e6:IntKind.u64.wrap (n:Int)=n:=qeV om om;refine qf2 qzk k (by simp) ?_;simp only[lco,lnl,Nat.reduceAdd,Nat.reduceSub,List.replicate,lca,lna];simp (disch:=omega) only[qBT,z1,z2,k1,e5,e6,go_sem]
 repeat' first
  |(refine cA (c1 _) flk ?_;simp (disch:=omega) only[s1,k2,go_sem])
  |with_reducible first|intro _|apply aiA
 all_goals try exact clz
 ·rw[qmc,qa4];exact nlr _
 ·rfl
 have e8:min 1 n=1:=by omega
 rw[e8,qmc,qvc a h0];refine qt (T:=fun i:Nat=>qY 48 [(7,.osl (h.length+1) 1 1 0 n),(8,.int .i64 i)]) (H:=fun i=>h++ [.emp 1,.mem 1 3 (rpC a n i)])
  (inv:=fun i=>0<i∧i≤n) (m:=fun i=>n-i) 1 ⟨Nat.one_pos,h0⟩ (Wk.temps ?_) ?_
 ·(simp only[go_sem,qh,qc,qa,qg];try (repeat' first|(with_reducible apply aiA)|(apply qf;omega)|(apply qe;rfl)|exact qi))
 rintro i ⟨i1,i2⟩ K hK;have hrl:=qa4 a n i
 by_cases hi:i<n
 ·have q1:((i:Int)<n)=True:=eqt om;have q2:(i≤n)=True:=eqt i2;simp (disch:=omega) only[q1,q2,hrl,Nat.sub_zero,Option.isSome_some,Option.getD_some,if_true,go_sem]
  repeat' first
   |with_reducible apply aiA
  all_goals try exact clz
  ·rw[List.length_take,hrl];omega
  have e9:List.take (min i (n-i)) (List.take i (rpC a n i))=List.take (min i (n-i)) (rpC a n i):=by rw[List.take_take,show min (min i (n-i)) i=min i (n-i) by omega]
  rw[e9,qqR a om om];refine hK _ _ (i+min i (n-i)) ⟨om,om⟩ om (Wk.temps ?_)
  (simp only[Int.natCast_add,go_sem,qh,qc,qa,qg];try (repeat' first|(with_reducible apply aiA)|(apply qf;omega)|(apply qe;rfl)|exact qi))
 ·have q1:((i:Int)<n)=False:=eqf om;obtain rfl:i=n:=by omega
  simp (disch:=omega) only[q1,go_sem];rw[qvb];exact⟨h.length+1,1,1,0,i,3,qT (List.replicate i a),_,⟨trivial,trivial⟩,rfl,rfl,om,by simp only[go_sem],fun c hc=>by
   unfold qT at hc;obtain⟨z,_,rfl⟩:=List.mem_map.1 hc
   rfl,hk,rfl,rfl⟩
end RC
end
