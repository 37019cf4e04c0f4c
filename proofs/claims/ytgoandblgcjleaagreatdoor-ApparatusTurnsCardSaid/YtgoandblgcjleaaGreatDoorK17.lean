import Derived.Test.YtgoandblgcjleaaGreatDoorK16
import Derived.Test.YtgoandblgcjleaaGreatDoorK12
import Derived.Test.YtgoandblgcjleaaGreatDoorK9
import Derived.Test.YtgoandblgcjleaaGreatDoorK10
import Derived.Test.YtgoandblgcjleaaGreatDoorRows
import Derived.LaidLaws
set_option linter.all false
set_option linter.unusedSimpArgs false
set_option linter.unusedVariables false
set_option linter.unusedSectionVars false
set_option maxRecDepth 100000
section
open Go Go.Proofs AF HY LN
namespace RC
set_option maxHeartbeats 16000000
theorem qvk{names:List Str}{gs:List Gr}{e:En}{x:Int}(hx:x∈vsL names gs e):0≤x∧x<32:=by
 unfold vsL at hx;split at hx
 ·obtain⟨u,rfl,_,_⟩:=zE hx;omega
 ·cases hx
theorem qre(names:List Str)(gs:List Gr)(e:En):(vsL names gs e).length≤1000:=by
 unfold vsL;split
 ·exact Nat.le_trans (zk _ _) (by omega)
 ·exact nzl _
theorem qCk{a:Ap}(hE:enE a=0){i:Nat}(hi:i<(enR a).length):vsE a.x.sig a.gs ((enR a).getD i default)=0:=by
 obtain⟨k,hk,y,_,_,e⟩:=(qbI hE).1 (qbi hi);rw[e];obtain⟨h,hs,_⟩:=qcR hE;have hp:=qmG h.un hk;exact (qsg (e:=enK a k y) hs (fun j hj=>qxP hp hs hj) (fun i j hij hj x hx=>qg2 hp hs hij hj hx)).1
theorem qAe{a:Ap}(hE:enE a=0){i:Nat}(hi:i<(enR a).length){L:List En}(hl:L.length=(enR a).length)(hv: ∀j,(L.getD j default).vars=((enR a).getD j default).vars):trE a.x.sig a.gs (vsE a.x.sig a.gs) L (i:Int)=0:=by
 unfold trE;rw[ine (fun hc=>hc (qcR hE).2.1),ine (by omega)];refine qI fun j hj=> ?_
 unfold trF;split
 ·rw[(qhN a.x.sig a.gs (hv j)).1];exact qCk hE (by omega)
 ·rfl
theorem qAd(names:List Str)(gs:List Gr)(VL:En→List Int)(l:List En)(o:En):(tnE names gs VL l o).pos= !o.pos:=by
 unfold tnE;split
 ·rename_i h;rw[h];rfl
 ·rename_i h;rw[Bool.not_eq_true]at h;rw[h];rfl
theorem qvb(names:List Str)(gs:List Gr)(VL:En→List Int)(l:List En)(o:En):(tnE names gs VL l o).sup.length≤200:=by
 unfold tnE;split
 ·exact nzl _
 ·exact qgk _ _ _
theorem qz4{l:List En}{k:Nat}{e:En}{p:En→Prop}(h1:p e)(h2: ∀i,p (l.getD i default))(i:Nat):p ((l.set k e).getD i default):=by
 rw[gdqA,List.getElem?_set];split
 ·split
  ·exact h1
  ·rename_i e1 e2
   have:=h2 i
   rwa [gdqA,List.getElem?_eq_none (by omega)]at this
 ·have:=h2 i
  rwa [gdqA]at this
theorem qy9{a:Ap}(h:qoc a=false)(k r j:Nat):((((a.l.getD k default).rds.getD r default).words).getD j []).length≤20:=by
 unfold qoc qrQ at h;simp only[Bool.or_eq_false_iff]at h;have h1:=h.2.1.1;rw[ql]at h1;refine qV a.l (fun u:Un=>(((u.rds.getD r default).words).getD j []).length≤20) (by simp[show (default:Un).rds= []from rfl,show (default:Rd).words= []from rfl]) (fun i hi=> ?_) k
 have:=h1 i hi
 unfold guB at this;rw[Bool.or_eq_false_iff,ql]at this;refine qV (a.l.getD i default).rds (fun u:Rd=>((u.words).getD j []).length≤20) (by simp[show (default:Rd).words= []from rfl]) (fun m hm=> ?_) r;have h3:=this.2 m hm;unfold guR at h3;rw[Bool.or_eq_false_iff]at h3;exact (qlO h3.2).2 j
theorem qBk{a:Ap}(h:qoc a=false)(i j m:Nat):(((((enR a).getD i default).vars.getD j default).words).getD m []).length≤20:=by
 refine qV (enR a) (fun e:En=>(((e.vars.getD j default).words).getD m []).length≤20) (by simp[show (default:En).vars= []from rfl,show (default:Va).words= []from rfl]) (fun i hi=> ?_) i;have hm:=qbi hi
 by_cases hE:enE a=0
 ·obtain⟨k,_,y,_,_,e⟩:=(qbI hE).1 hm;rw[e];show ((((vrK a k y).getD j default).words).getD m []).length≤20
  by_cases hj:j<(vrK a k y).length
  ·obtain⟨r,_,e⟩:=jk hj;rw[e];exact qy9 h k r m
  ·rw[gdqA (l:=vrK a k y),List.getElem?_eq_none (by omega)];exact nzl _
 ·unfold enR at hi;rw[ine hE]at hi;cases hi
theorem qBS(a:Ap)(at0:Int)(h:List AObj)(hp:qai SG h)(hb:ApB a)(ha:0≤at0∧at0≤255):ACalls Tryz.prog 12 [.agg (apC a),.int .u8 at0] h (.bool true) h:=by
 have c24:=fun l=>qA0 (h++l) (hp.app l)
 have c23:=fun h=>grP a h hb
 obtain⟨g,hg⟩: ∃g,g=qoc a:=⟨_,rfl⟩
 rw[←hg]at c23;cases g with
 |true=>
  refine acO qlA ?_;simp (disch:=omega) only[qv6,apC,go_sem]
  repeat' first
   |(refine qk ( .bool false) ?_;simp (disch:=omega) only[go_sem])
   |((first|refine cA (c23 _) ?_ ?_|refine cA (c24 _) ?_ ?_);exact flk;simp (disch:=omega) only[go_sem])
   |(apply qb;exact rvk;simp only[go_sem];exact qj)
 |false=>
  have hz:=qlI hg.symm;have hn:=qtG hz;have z14:=hz.b14;have zbt:=fun i=>Nat.le_trans (hz.bt i) (show 30≤1000000000 by decide)
  have c64:=fun l=>knP a.b (h++l) (by omega) zbt (hp.app l)
  have c48:=fun h=>qCz a.b h (by omega)
  have c25:=fun l=>qBV a (h++l) hz (hp.app l)
  by_cases gw:jf (ki a.b)=0
  case neg=>
   simp only[dqf gw]at c64;refine acO qlA ?_;simp (disch:=omega) only[qv6,apC,go_sem]
   repeat' first
    |((first|refine cA (c23 _) ?_ ?_|refine cG (fun e=>c64 _) ?_ ?_|refine cA (c24 _) ?_ ?_);exact flk;simp (disch:=omega) only[go_sem])
    |(apply qb;exact rvk;simp only[go_sem];exact qj)
  simp only[dqt gw]at c64;have hsz:=qrR hz.g42;obtain⟨E,hE⟩: ∃E,E=enE a:=⟨_,rfl⟩
  obtain⟨L,hL⟩: ∃L,L=enR a:=⟨_,rfl⟩
  have zl: ∀g,valL g .len [jl L]= .int .i64 L.length:=fun _=>rfl
  have zm: ∀g,okL g .len [jl L]=True:=fun _=>eqt trivial
  rw[←hE,←hL]at c25
  by_cases gE:E=0
  case neg=>
   have kE:(E=0)=False:=eqf gE;refine acO qlA ?_;simp (disch:=omega) only[qv6,apC,go_sem]
   repeat' first
    |((first|refine cA (c23 _) ?_ ?_|refine cG (fun e=>c64 _) ?_ ?_|refine cA (c25 _) ?_ ?_|refine cA (c24 _) ?_ ?_);exact flk;simp (disch:=omega) only[kE,zl,zm,go_sem])
    |(apply qb;exact rvk;simp only[go_sem];exact qj)
    |with_reducible apply aiA
   all_goals try exact clz
  have kE:(E=0)=True:=eqt gE
  by_cases gL:L.length=0
  ·have kL:((L.length:Int)=0)=True:=eqt (by omega);refine acO qlA ?_;simp (disch:=omega) only[qv6,apC,go_sem]
   repeat' first
    |((first|refine cA (c23 _) ?_ ?_|refine cG (fun e=>c64 _) ?_ ?_|refine cA (c25 _) ?_ ?_|refine cA (c24 _) ?_ ?_);exact flk;simp (disch:=omega) only[kE,kL,zl,zm,go_sem])
    |(apply qb;exact rvk;simp only[go_sem];exact qj)
    |with_reducible apply aiA
   all_goals try exact clz
  have kL:((L.length:Int)=0)=False:=eqf (by omega);have hE0:enE a=0:=hE▸gE;obtain⟨u,rfl⟩: ∃u:Nat,at0=(u:Int):=⟨at0.toNat,by omega⟩
  have hil:u%L.length<L.length:=Nat.mod_lt _ (by omega);have hmod:(u:Int)%(L.length:Int)=((u%L.length:Nat):Int):=by omega
  obtain⟨k,hk⟩: ∃k,k=u%L.length:=⟨_,rfl⟩
  rw[←hk]at hil hmod;have k1:(0≤(k:Int))=True:=eqt (by omega);have k2:((k:Int)<L.length)=True:=eqt (by omega);rw[hL]at hil;obtain⟨t1,t2⟩:=qCg hE0 gw (by omega) hil;have tE1:=qAe hE0 hil (L:=enR a) rfl (fun _=>rfl);have hsv:=fun i=>(qxN hz i)
  have ev:(tnE a.x.sig a.gs (vsL a.x.sig a.gs) (enR a) ((enR a).getD k default)).vars=((enR a).getD k default).vars:=(qnE _ _ _ _ _).2.2.1;have es:=qvb a.x.sig a.gs (vsL a.x.sig a.gs) (enR a) ((enR a).getD k default);have ep:=qAd a.x.sig a.gs (vsL a.x.sig a.gs) (enR a) ((enR a).getD k default);have eg:((enR a).set k (tnE a.x.sig a.gs (vsL a.x.sig a.gs) (enR a) ((enR a).getD k default))).getD k default=tnE a.x.sig a.gs (vsL a.x.sig a.gs) (enR a) ((enR a).getD k default):=by rw[qcW hil,ipo rfl]
  obtain⟨T,hT⟩: ∃T,T=tnE a.x.sig a.gs (vsL a.x.sig a.gs) (enR a) ((enR a).getD k default):=⟨_,rfl⟩
  rw[←hT]at t1 t2 ev es ep eg;have zT:EnZ T:=⟨es,by rw[ev];exact (hsv k).v,by rw[ev];exact (hsv k).w,by rw[ev];exact (hsv k).g⟩
  have tE2:=qAe hE0 hil (L:=(enR a).set k T) (List.length_set) (fun j=>by
   rw[qcW hil];split
   ·rename_i e;rw[e,ev]
   ·rfl)
  rw[←hL]at t1 tE1 tE2 hsv ev ep eg hil hT hn;have c67:=fun (M:List En) (hM:M.length≤1000000000) (hs: ∀i,EnZ (M.getD i default)) h=>qEj a.x.sig a.gs (vsE a.x.sig a.gs) (vsL a.x.sig a.gs) M (k:Int) h hsz hM (fun e=>qe1 hz.g42 e) (fun e x hx=>qvk hx) (fun e=>qre _ _ e)
   (fun j h=>vsP a.x.sig a.gs (M.getD j default) h hsz (hs j).v (fun i=>Nat.le_trans ((hs j).g i) (by decide)))
  have c67a:=c67 L (by omega) hsv;have c67b:=c67 (L.set k T) (by rw[List.length_set];omega) (fun i=>qz4 (p:=EnZ) zT hsv i);have hR1:trR a.x.sig a.gs (vsE a.x.sig a.gs) (vsL a.x.sig a.gs) L (k:Int)=T:=by
   unfold trR;rw[ipo tE1,Int.toNat_natCast,hT]
  have hR2:trR a.x.sig a.gs (vsE a.x.sig a.gs) (vsL a.x.sig a.gs) (L.set k T) (k:Int)=L.getD k default:=by
   unfold trR;rw[ipo tE2,Int.toNat_natCast,eg,t1]
  simp only[tE1,hR1]at c67a;simp only[tE2,hR2]at c67b;have zO:=hsv k;obtain⟨o,ho⟩: ∃o,o=L.getD k default:=⟨_,rfl⟩
  have eo:=ho.symm;simp only[eo]at c67b ep zO;have hlt:(ki a.b).length=a.b.length:=by unfold ki;rw[List.length_map]
  have htx:TSz (ki a.b):=⟨by rw[hlt];omega,qV (ki a.b) (fun s=>s.length≤1000000000) (nzl _) (fun i hi=>by
   unfold ki;rw[gdqA,List.getElem?_map,qY (by omega)]
   have:=zbt i
   rw[gdqA,qY (by omega)]at this
   exact this)⟩
  have zTE:ESz T:=⟨Nat.le_trans zT.s (by decide),zT.v,fun i=>⟨zT.w i,?wt⟩,fun i=>Nat.le_trans (zT.g i) (by decide)⟩
  case wt=>intro m;rw[ev];exact Nat.le_trans (by rw[hL];exact qBk hg.symm k i m) (show 20≤1000000000 by decide)
  have c65:=fun l=>qDr a.x.sig a.gs (ki a.b) T (h++l) hsz htx zTE (hp.app l)
  simp only[t2]at c65;have c30:=fun h=>qC6 o h (Nat.le_trans zO.s (by decide)) zO.v zO.w (fun j=>Nat.le_trans (zO.g j) (by decide))
  have eC:enC T= [.int .i64 T.layer,.int .i64 T.frm,.int .i64 T.to,.bool T.pos,strs T.sup,zM T.vars]:=rfl;have eCo:enC o= [.int .i64 o.layer,.int .i64 o.frm,.int .i64 o.to,.bool o.pos,strs o.sup,zM o.vars]:=rfl;have l0:L≠ []:=fun e=>gL (by rw[e];rfl)
  rw[eC]at c67a c65;rw[eCo]at c67b c30;refine acO qlA ?_;simp (disch:=omega) only[qv6,apC,go_sem]
  repeat' first
   |((first|refine cA (c23 _) ?_ ?_|refine cG (fun e=>c64 _) ?_ ?_|refine cA (c25 _) ?_ ?_|refine cA (c67a _) ?_ ?_);exact flk;simp (disch:=omega) only[kE,kL,zl,zm,hmod,go_sem])
   |with_reducible apply aiA
  all_goals try exact clz
  refine qcK (qDu L _ (h.length+3) (by simp only[go_sem]) l0 (by omega)) (by exact flk) ?_;have k6:(k*6+6≤(kh L).length)=True:=eqt (by rw[qaH];omega);simp (disch:=omega) only[go_sem]
  repeat' first
   |with_reducible apply aiA
  all_goals try exact clz
  ·rw[qaH];omega
  have hset:=qo7 T hil;rw[eC]at hset
  try rw[hset]
  refine⟨qQ 107 [(2,.op h.length 1 0),(5,jl L),(7,.int .i64 k),(8,.op (h.length+1) 1 0),(9,.int .i64 0),(10,jl (L.set k T))],_,Wk.trans (Wk.freeze [h.length+3] (by simp only[ke,go_sem])) (Wk.temps ?_),?_⟩
  ·(simp only[List.map,go_sem,qi,qe,qa,qh];try (repeat' first|(with_reducible apply aiA)|(apply qg;omega)|(apply qf;rfl)|exact qj))
   ·rw[ine (by simp)];exact qj
   ·rw[ine (by simp)];exact qj
   ·rw[ipo (by simp),ipo (by simp),ipo (by rw[qaH,List.length_set];exact nlr _)];exact qo8 (by rw[List.length_set])
  simp only[qc1,go_sem];have zz:jl L= .sl L.length fun i=>enC (L.getD i default):=rfl
  have k4:(T.pos=o.pos)=False:=eqf (by rw[ep];cases o.pos<;>simp);have k5:(T.pos==o.pos)=false:=by rw[ep];cases o.pos<;>rfl
  simp (disch:=omega) only[go_sem]
  repeat' first
   |((first|refine cA (c67b _) ?_ ?_|refine cG (fun e=>c30 _) ?_ ?_|refine cA (c48 _) ?_ ?_|refine cA (c65 _) ?_ ?_|refine cG (fun e=>c24 _) ?_ ?_);exact flk;simp (disch:=omega) only[zz,eo,eCo,k1,k2,k5,go_sem])
   |(apply qb;exact rvk;simp only[go_sem];exact qj)
   |with_reducible apply aiA
  all_goals try exact clz
  skip
end RC
end
section
open Go Go.Proofs AF HY Go.ChangeShapes Go.RowKit
namespace LN
theorem qBL : Tryz.prog.globalNamed "internal/strconv.uint64pow10" = some 1 := by kernel_rfl
theorem qBN : Tryz.prog.globalNamed "strconv.ErrSyntax" = some 6 := by kernel_rfl
theorem qBM : Tryz.prog.globalNamed "strconv.ErrRange" = some 7 := by kernel_rfl
theorem qp6{w w':World}(h:qri w)(e:w'.heap[1]? =w.heap[1]?):qri w':=by
 unfold qri Lib.TabIs at*;rw[qev qBL e];exact h
theorem qhF : "*" ++ "errors.errorString" = "*errors.errorString" := by decide
theorem qsb (u : TypeId) (h : Tryz.prog.typeName? 3 u = some "*errors.errorString") : u = 323 :=
 typeName_ptr_named (nm := "errors.errorString") (by rw [qhF]; kernel_rfl) (by kernel_rfl) (by decide) u (by rw [qhF]; exact h)
def qeo:List Nat:= [1,6,7]
def qAS(w:World):Prop:=qri w∧qwf w
theorem qz6{W:World}(h:laidMet Tryz.prog YtgoandblgcjleaaGreatDoor.Rows.apparatusSpansRow.laid W):qri W∧qwf W:=by
 have h2:=laidMet.tail (laidMet.tail h);have h3:=laidMet.tail (laidMet.tail h2);have h4:=laidMet.tail h3;obtain⟨a,s,e1,_⟩:=laid_sentinel (g:=7) (ti:=192) (tp:=323) (te:=325) (ts:=9) h3 qBM (by kernel_rfl) Tryz.underlying192 qsb Tryz.underlying323 Tryz.underlying325 rfl rfl Tryz.underlying9 (by kernel_rfl) (by kernel_rfl);obtain⟨b,t,e2,_⟩:=laid_sentinel (g:=6) (ti:=192) (tp:=323) (te:=325) (ts:=9) h4 qBN (by kernel_rfl) Tryz.underlying192 qsb Tryz.underlying323 Tryz.underlying325 rfl rfl Tryz.underlying9 (by kernel_rfl) (by kernel_rfl);exact⟨Lib.tabIs_of_head (t:=288) (e:=164) (n:=20) qBL (by kernel_rfl) Tryz.underlying288 Tryz.underlying164 (by kernel_rfl) (by kernel_rfl) h2,⟨_,_,e2⟩,_,_,e1⟩
theorem qqA{W:World}(h:laidMet Tryz.prog YtgoandblgcjleaaGreatDoor.Rows.apparatusSpansRow.laid W): ∀b,b∈qeo→ ∃arr T fz,W.heap[b]? =some (.cells arr T fz):=by
 intro b hb;obtain⟨h1,⟨_,_,h2⟩,_,_,h3⟩:=qz6 h;have e:b=1∨b=6∨b=7:=by simpa[qeo] using hb
 rcases e with rfl|rfl|rfl
 ·exact qdf qBL h1
 ·exact qdf qBN h2
 ·exact qdf qBM h3
theorem quZ{W:World}(h:laidMet Tryz.prog YtgoandblgcjleaaGreatDoor.Rows.apparatusSpansRow.laid W): ∀w':World,(∀b,b∈qeo→w'.heap[b]? =W.heap[b]?)→qAS w':=by
 intro w' hs;obtain⟨h1,⟨t1,p1,h2⟩,t2,p2,h3⟩:=qz6 h;refine⟨qp6 h1 (hs 1 (by simp[qeo])),⟨t1,p1,?_⟩,t2,p2,?_⟩
 ·rw[qev qBN (hs 6 (by simp[qeo]))];exact h2
 ·rw[qev qBM (hs 7 (by simp[qeo]))];exact h3
theorem quY:qai RC.SG [.pin qeo qAS]:=⟨0,_,_,rfl,fun _ h=>h⟩
end LN
end
