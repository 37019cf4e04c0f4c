import Derived.Test.YtmieflnoheifbaaGreatDoorK19
import Derived.Test.YtmieflnoheifbaaGreatDoorK18
import Derived.Test.YtmieflnoheifbaaGreatDoorK10
import Derived.Test.YtmieflnoheifbaaGreatDoorK9
import Derived.Test.YtmieflnoheifbaaGreatDoorK12
import Derived.Test.YtmieflnoheifbaaGreatDoorRows
import Derived.LaidLaws
import Derived.OpenShut
set_option linter.all false
set_option maxRecDepth 100000
section
open Go Go.Proofs AF HY LN
namespace RC
set_option maxHeartbeats 32000000
def lsI(p:Nat->Bool):Nat->Int
 |0=> -1
 |n+1=>if p n=true then (n:Int) else lsI p n
theorem qAm{p:Nat->Bool}: ∀n,(∀j,j<n->p j=false)->lsI p n= -1:=by
 intro n
 induction n with
 |zero=>intro _;rfl
 |succ n ih=>
  intro h;unfold lsI;rw[h n om,ine (by decide)];exact ih λj hj=>h j om
theorem qtV{p:Nat->Bool}{i:Nat}(hp:p i=true): ∀n,i<n->(∀j,j<n->p j=true->j=i)->lsI p n=i:=by
 intro n
 induction n with
 |zero=>intro h;omega
 |succ n ih=>
  intro h hu;unfold lsI
  by_cases e:i=n
  ·subst e;rw[ipo hp]
  ·rw[ine (λc=>e (hu n om c).symm)];exact ih om λj hj=>hu j om
theorem qAn{L:List Rd}{n:Nat}(h:qfn L n)(own:List Str):lsI (λr=>decide ((L.getD r default).words=own)) L.length=qbK L own:=by
 rcases kA L own with⟨i,h1,h2,h3⟩|⟨h1,h2⟩
 ·rw[h3];refine qtV (dqt h2) _ h1 λj hj hp=> ?_
  have:=(qpU h (w:=own) (j:=j)).2 ⟨hj,of_decide_eq_true hp⟩
  rw[h3]at this;omega
 ·have hr:qbK L own= -1:=by
   unfold qbK at h2 ⊢;rcases zE (λj=>decide (own=(L.getD j default).words)) L.length with⟨i,_,_,_,g4⟩|⟨_,g2⟩
   ·omega
   ·exact g2
  rw[hr];exact qAm _ λj hj=>dqf (h1 j hj)
theorem qxI(x:Co)(l:List Un)(d:List Dc)(s:Int)(h:wh)(hz:qbd x)(hu:qcS l)(hp:cb SG h)(hd:d.length<=1000000)(ht: ∀o∈d,o.txt.length<=1000)(hN0:vaE x l=0->(rwA x l d s.toNat).length<=1000000000):
  ACalls Tryz.prog 28 [.agg (coC x),qZ l,kz d,.int .i64 s] h (.tup [qx (chR x l d s),.int .i64 (esE x l d s)]) h:=by
 have c1:=λl'=>qri x l d s (h++l') hz hu (hp.app l') hd ht hN0
 have hb:=qfF (x:=x) (l:=l) (d:=d) (s:=s);have hl:=hu.n;have hus:=λg:esE x l d s=0=>(qrh g).2.us
 unfold chR;obtain⟨b,hbb⟩:=wg (esR x l d s)
 obtain⟨E,hE⟩:=wg (esE x l d s)
 simp only[<-hbb,<-hE]at c1 hb hus ⊢;unfold coC at c1
 by_cases g:E=0
 case neg=>
  have k1:(E=0)=False:=eqf g;rw[ine g];refine acO qy5 ?_;simp (disch:=omega) only[qCA,coC,go_sem]
  repeat' first|(refine cA (c1 _) flk ?_;simp (disch:=omega) only[k1,go_sem])|(apply qb;exact rvk;simp only[go_sem])|with_reducible apply aiA|exact clz|fail
  exact VLe.tup ⟨qU,qi,trivial⟩
 have husT:=hus g;clear hus;subst g;rw[ipo rfl];have zu1: ∀g,valL g .len [qZ l]= .int .i64 l.length:=λ_=>rfl
 have zu2: ∀g,okL g .len [qZ l]=True:=λ_=>eqt trivial
 have zu:qZ l= .sl l.length λi=>unC (l.getD i default):=rfl
 refine acO qy5 ?_;simp (disch:=omega) only[qCA,coC,go_sem]
 repeat' first|(refine cA (c1 _) flk ?_;simp (disch:=omega) only[go_sem])|with_reducible apply aiA|exact clz|fail
 refine qk (T:=λs:Nat×Nat×AObj=>qP 63 [(1,qZ l),(10,kq b),(12,.osl (h.length+2) s.2.1 1 0 s.1),(13,.int .i64 (s.1:Int))])
  (H:=λs=>h++ [.mem 1 26 (coC x),.emp 1,.mem s.2.1 3 (qM (chP l b s.1)),s.2.2,.emp 0])
  (inv:=λs=>s.1<=l.length∧qz [s.2.2] 0=true) (m:=λs=>l.length-s.1) (0,1,.emp 0) ⟨nzl _,rfl⟩ (Wk.temps ?_) ?_
 ·(simp only[go_sem,qf,qc,qa,qe];try exact we)
 rintro⟨i,v,O1⟩ ⟨i1,i2⟩ K hK;simp only at i1 i2 hK;have i2': ∀m,qz (O1::m) 0=true:=λ_=>i2
 have eL:=qfB l b i
 by_cases hi:i<l.length
 ·have k1:((i:Int)<l.length)=True:=wj;have k2:(0<=(i:Int))=True:=wj;have hS:=qgD l b i;have hK0:chK l b i=qbK (l.getD i default).rds (owG b (i:Int) b.length):=rfl;have hol:=qlQ b (i:Int) b.length;have c2:=λh=>qAL b (i:Int) h om
  have hri:qfn (l.getD i default).rds x.sig.length:=by rw[(UI husT hi).2.2.2.2];exact qpX _ _ _
  have hrd:=hu.rd i;have hwd:=hu.wd i;obtain⟨u,hux⟩:=wg (l.getD i default)
  have eu:=hux.symm;simp only[eu]at hri hK0 hrd hwd;obtain⟨W,hW⟩:=wg (owG b (i:Int) b.length)
  rw[<-hW]at hol hK0;simp only[<-hW]at c2;have hls:=qAn hri W;rw[<-hK0]at hls;have zr:jh u.rds= .sl u.rds.length λi=>rdC (u.rds.getD i default):=rfl
  have zr1: ∀g,valL g .len [jh u.rds]= .int .i64 u.rds.length:=λ_=>rfl
  have zr2: ∀g,okL g .len [jh u.rds]=True:=λ_=>eqt trivial
  obtain⟨L,hL⟩:=wg (chP l b i)
  rw[<-hL]at hS eL ⊢;have eC:=ja L;have eTk:List.take i (qM L)=qM L:=ltl om;obtain⟨p,hpe⟩: ∃p:Nat->Bool,p=λr=>decide ((u.rds.getD r default).words=W):=⟨_,rfl⟩
  have hpi: ∀r,p r=decide ((u.rds.getD r default).words=W):=λr=>by rw[hpe]
  rw[<-hpe]at hls;simp (disch:=omega) only[zu,unC,k1,go_sem];refine qk (T:=λr:Nat=>qP 63 [(1,qZ l),(10,kq b),(12,.osl (h.length+2) v 1 0 i),(13,.int .i64 (i:Int)),(14,.int .i64 (lsI p r)),(15,.int .i64 (r:Int))])
   (H:=λ_=>h++ [.mem 1 26 (coC x),.emp 1,.mem v 3 (qM L),O1,.emp 0])
   (inv:=λr=>r<=u.rds.length) (m:=λr=>u.rds.length-r) 0 (nzl _) (Wk.temps ?_) ?_
  ·(simp only[lsI,go_sem,qf,qc,qa,qe];try exact we)
  rintro r r1 K2 hK2
  by_cases hr:r<u.rds.length
  ·have k3:((r:Int)<u.rds.length)=True:=wj;have k4:(0<=(r:Int))=True:=wj;have hpr:=hpi r;have hSu:lsI p (r+1)=if p r=true then (r:Int) else lsI p r:=rfl
   have hwr:=hwd r;obtain⟨y,hy⟩:=wg (u.rds.getD r default)
   have ey:=hy.symm;rw[ey]at hpr hwr;have c3:=λh=>qD3 y.words W h hwr om
   rw[<-hpr]at c3;obtain⟨Z,hZ⟩:=wg (p r)
   rw[<-hZ]at hSu;simp only[<-hZ]at c3;obtain⟨A,hA⟩:=wg (lsI p r)
   rw[<-hA]at hSu ⊢;cases Z with
   |true=>
    rw[ipo rfl]at hSu;simp (disch:=omega) only[zu,unC,k1,k2,eu,zr,rdC,ey,k3,k4,go_sem]
    repeat' first|((first|refine cA (c2 _) ?_ ?_|refine cA (c3 _) ?_ ?_);exact flk;simp (disch:=omega) only[go_sem])|with_reducible apply aiA|exact clz|fail
    refine hK2 _ _ (r+1) hr om ?_;simp only[hSu];refine Wk.temps ?_
    (simp only[go_sem,qf,qc,qa,qe];try exact we)
   |false=>
    rw[ine (by decide)]at hSu;simp (disch:=omega) only[zu,unC,k1,k2,eu,zr,rdC,ey,k3,k4,go_sem]
    repeat' first|((first|refine cA (c2 _) ?_ ?_|refine cA (c3 _) ?_ ?_);exact flk;simp (disch:=omega) only[go_sem])|with_reducible apply aiA|exact clz|fail
    refine hK2 _ _ (r+1) hr om ?_;simp only[hSu];refine Wk.temps ?_
    (simp only[go_sem,qf,qc,qa,qe];try exact we)
  have k3:((r:Int)<u.rds.length)=False:=wl;obtain rfl:r=u.rds.length:=by omega
  rw[hls];obtain⟨y,hy⟩:=wg (chK l b i)
  rw[<-hy]at hS ⊢;simp (disch:=omega) only[zu,unC,k1,k2,eu,zr1,zr2,k3,i2',eC,eL,eTk,Nat.mul_one,go_sem]
  repeat' first|with_reducible apply aiA|exact clz|fail
  have eA:qM L++ [AV.int .i64 y]=qM (L++ [y]):=by rw[qaP];rfl
  try rw[eA]
  refine hK _ _ (i+1,v+1,.mem (qo (some O1)+1) 3 [.int .i64 y]) ⟨hi,rfl⟩ (by simp only;omega) ?_;simp only[hS,coC];refine Wk.temps ?_
  (simp only[go_sem,qf,qc,qa,qe];try exact we)
 have k1:((i:Int)<l.length)=False:=wl;obtain rfl:i=l.length:=by omega
 simp (disch:=omega) only[k1,zu1,zu2,go_sem]
 repeat' first|(apply qb;exact rvk;simp only[go_sem])
 refine VLe.tup ⟨?_,qi,trivial⟩;rw[ipo (by rw[ja];omega)];exact qct _ (λ_=>rfl) eL.symm
theorem qAh(a:Cq)(h:wh)(hp:cb SG h)(hg:jf h frmN frmC)(hb:CqB a):ACalls Tryz.prog 4 [.agg (cqC a)] h (.bool true) h:=by
 have c1:=λh=>qFL a h hb
 have c0:=λl'=>qCs (h++l') (hp.app l') hg.app
 unfold cqC at c1;cases e1:qzY a with
 |true=>
  rw[e1]at c1;refine acO qEZ ?_;simp (disch:=omega) only[c4s,cqC,go_sem]
  repeat' first|((first|refine cA (c1 _) ?_ ?_|refine cA (c0 _) ?_ ?_);exact flk;simp (disch:=omega) only[go_sem])|exact wa|fail
 |false=>
 have z:=qzZ e1;rw[e1]at c1;have zx:=z.x;have zl:=z.l;have zd:=z.d;have ztx: ∀o∈a.d,o.txt.length<=1000:=λo ho=>by have:=z.t o ho;omega
 have c2:=λl'=>qx1 a.x a.l a.d a.lead (h++l') zx zl (hp.app l') hg.app om ztx (z.lim _)
 have c3:=λl'=>qri a.x a.l a.d a.lead (h++l') zx zl (hp.app l') om ztx (z.lim _)
 have c4:=λl'=>qCP a.x a.l a.d a.lead (h++l') zx zl (hp.app l') hg.app om ztx (z.lim _)
 have c5:=λl'=>qxI a.x a.l a.d a.lead (h++l') zx zl (hp.app l') om ztx (z.lim _)
 have hbl:=qfF (x:=a.x) (l:=a.l) (d:=a.d) (s:=a.lead);have c6:=λh=>qGo (esR a.x a.l a.d a.lead) h om
 have hcl:(chR a.x a.l a.d a.lead).length<=1000000000:=by
  unfold chR;split
  ·rw[qfB];have:=zl.n;omega
  ·exact nzl _
 have c7:=λh=>eqI (chR a.x a.l a.d a.lead) h hcl
 obtain⟨E,hE⟩:=wg (esE a.x a.l a.d a.lead)
 obtain⟨R,hR⟩:=wg (esR a.x a.l a.d a.lead)
 obtain⟨C,hC⟩:=wg (chR a.x a.l a.d a.lead)
 simp only[<-hE,<-hR]at c2 c3;simp only[<-hE,<-hC]at c4 c5;simp only[<-hR]at c6;simp only[<-hC]at c7;clear hE hR hC hbl hcl ztx;unfold coC at c2 c3 c4 c5;refine acO qEZ ?_;simp (disch:=omega) only[c4s,cqC,go_sem]
 repeat' first|((first|refine cA (c1 _) ?_ ?_|refine cA (c2 _) ?_ ?_|refine cA (c3 _) ?_ ?_|refine cA (c4 _) ?_ ?_|refine cA (c5 _) ?_ ?_|refine cA (c6 _) ?_ ?_|refine cG (λe=>c7 _) ?_ ?_|refine cG (λe=>c0 _) ?_ ?_);exact flk;simp (disch:=omega) only[go_sem])|exact wa|with_reducible apply aiA|exact clz|fail
end RC
end
section
open Go Go.Proofs AF HY Go.ChangeShapes Go.RowKit
namespace LN
theorem qDx : Tryz.prog.globalNamed "internal/strconv.uint64pow10" = some 1 := by kernel_rfl
theorem qDz : Tryz.prog.globalNamed "strconv.ErrSyntax" = some 2 := by kernel_rfl
theorem qDy : Tryz.prog.globalNamed "strconv.ErrRange" = some 3 := by kernel_rfl
theorem qE0 : Tryz.prog.globalNamed "apograph/transcript.forms" = some 4 := by kernel_rfl
theorem qpQ{w w':World}(h:qr5 w)(e:w'.heap[1]? =w.heap[1]?):qr5 w':=by
 unfold qr5 Lib.TabIs at*;rw[qea qDx e];exact h
theorem qf6 : "*" ++ "errors.errorString" = "*errors.errorString" := by decide
theorem qrW (u : TypeId) (h : Tryz.prog.typeName? 3 u = some "*errors.errorString") : u = 427 :=
 typeName_ptr_named (nm := "errors.errorString") (by rw [qf6]; kernel_rfl) (by kernel_rfl) (by decide) u (by rw [qf6]; exact h)
structure Fr where
 s:List UInt8
 a:Bool
 b:Bool
 c:Bool
def Fr.av(r:Fr):wi:= [.str r.s,.bool r.a,.bool r.b,.bool r.c]
def Fr.vl(r:Fr):List Value:= [.string ⟨r.s.toArray⟩,.bool r.a,.bool r.b,.bool r.c]
def Fr.da{H:Type}(r:Fr):DataW H:= .agg [.lit (.string r.s),.lit (.bool r.a),.lit (.bool r.b),.lit (.bool r.c)]
def frL:List Fr:= [⟨[],false,false,false⟩,⟨[],true,false,false⟩,⟨[108,98],false,false,false⟩,⟨[112,98],true,false,false⟩,⟨[115,101,99],true,false,false⟩,⟨[118],false,false,false⟩,
 ⟨[103,97,112],false,true,false⟩,⟨[117,110,99,108,101,97,114],false,false,true⟩,⟨[97,100,100],false,true,true⟩,⟨[100,101,108],false,true,true⟩,⟨[97,98],true,false,true⟩,⟨[110,97,109,101],true,false,true⟩]
theorem qzT:RC.frmC=frL.flatMap Fr.av:=rfl
theorem qzU:(YtmieflnoheifbaaGreatDoor.Rows.laid_apograph_transcript_forms:DataW Unit)= .agg (frL.map Fr.da):=rfl
theorem qC8{α β:Type}{f:α->List β}(hf: ∀a,(f a).length=4): ∀(l:List α) (i j:Nat),j<4->(l.flatMap f)[i*4+j]? =(l[i]?).bind λa=>(f a)[j]? :=by
 intro l
 induction l with
 |nil=>intro i j _;simp
 |cons a l ih=>
  intro i j hj;rw[List.flatMap_cons];cases i with
  |zero=>
   rw[Nat.zero_mul,Nat.zero_add,List.getElem?_append_left (by rw[hf];exact hj)];rfl
  |succ i=>
   rw[List.getElem?_append_right (by rw[hf];omega),hf,show (i+1)*4+j-4=i*4+j by omega,ih i j hj];rfl
theorem qcZ:Tryz.prog.cellsOf 414=4:=by kernel_rfl
theorem qfw:Tryz.prog.cellsOf 415=48:=by kernel_rfl
theorem qot:Tryz.prog.cellsOf 9=1:=by kernel_rfl
theorem qor:Tryz.prog.cellsOf 4=1:=by kernel_rfl
theorem qAV{H:Type}{enc:TypeId×Value->H}{w:World}{base fuel:Nat}{spare:Nat->Bool}{held:Bool}{cs:List Value}{x:DataW H×List MemPlace}{r:Fr}
  (h:DataW.trod enc Tryz.prog w base spare held fuel 414 cs=some x) (hx:x.1=r.da):cs=r.vl:=by
 obtain⟨xs,n,_,hxe,hl,hxl,hf⟩:=DataW.trod_struct Tryz.underlying414 h;rw[qcZ]at hl
 match cs,hl with
 | [v0,v1,v2,v3],_=>
 match xs,hxl with
 | [y0,y1,y2,y3],_=>
  have h0:DataW.trod enc Tryz.prog w base spare held n 9 (([v0,v1,v2,v3].drop 0).take (Tryz.prog.cellsOf 9))= [y0,y1,y2,y3][0]? :=hf 0 _ rfl;have h1:DataW.trod enc Tryz.prog w base spare held n 4 (([v0,v1,v2,v3].drop 1).take (Tryz.prog.cellsOf 4))= [y0,y1,y2,y3][1]? :=hf 1 _ rfl;have h2:DataW.trod enc Tryz.prog w base spare held n 4 (([v0,v1,v2,v3].drop 2).take (Tryz.prog.cellsOf 4))= [y0,y1,y2,y3][2]? :=hf 2 _ rfl;have h3:DataW.trod enc Tryz.prog w base spare held n 4 (([v0,v1,v2,v3].drop 3).take (Tryz.prog.cellsOf 4))= [y0,y1,y2,y3][3]? :=hf 3 _ rfl;rw[qot]at h0;rw[qor]at h1 h2 h3;obtain⟨s,e0,x0,_⟩:=DataW.trod_string Tryz.underlying9 h0;obtain⟨b1,e1,x1⟩:=DataW.trod_bool Tryz.underlying4 h1;obtain⟨b2,e2,x2⟩:=DataW.trod_bool Tryz.underlying4 h2;obtain⟨b3,e3,x3⟩:=DataW.trod_bool Tryz.underlying4 h3;have hy:([y0,y1,y2,y3]:List (DataW H×List MemPlace)).map (·.1)= [.lit (.string r.s),.lit (.bool r.a),.lit (.bool r.b),.lit (.bool r.c)]:=by
   have hx:=hxe▸hx;exact DataW.agg.inj hx
  rw[x0,x1,x2,x3]at hy;simp at hy e0 e1 e2 e3;obtain⟨g0,g1,g2,g3⟩:=hy;unfold Fr.vl;subst e0 e1 e2 e3;rw[<-g0,g1,g2,g3]
theorem qDw {W : World} {rest : List (String × DataW Unit)} (h : laidMet Tryz.prog (("apograph/transcript.forms", YtmieflnoheifbaaGreatDoor.Rows.laid_apograph_transcript_forms) :: rest) W) : qhs 4 RC.frmC W := by
 obtain⟨ps,⟨g',t',cs,fuel,p,q,hg',ht',hvar,hd,_,_⟩,_⟩:=h;obtain rfl:=Option.some.inj (qE0.symm.trans hg');obtain rfl:415=t':=Option.some.inj ((show (Tryz.prog.globals[4]?).map (·.type)=some 415 by kernel_rfl).symm.trans ht');obtain⟨xs,m,_,hxe,hl,hxl,hr⟩:=DataW.trod_array Tryz.underlying415 hd;rw[qfw]at hl;have hxm:xs.map (·.1)=frL.map Fr.da:=by
  have:=congrArg Prod.fst hxe
  rw[qzU]at this;exact (DataW.agg.inj this).symm
 have rows: ∀i r,frL[i]? =some r->(cs.toList.drop (i*4)).take 4=r.vl:=λi r hi=>by
  have hil:i<12:=(lgs.1 hi).1;have e1:(xs.map (·.1))[i]? =some r.da:=by rw[hxm,List.getElem?_map,hi];rfl
  rw[List.getElem?_map,Option.map_eq_some_iff]at e1;obtain⟨y,hy,hy1⟩:=e1;have h1:=hr i hil;rw[hy,qcZ]at h1;exact qAV h1 hy1
 have hv: ∃T fz,W.heap[4]? =some (.cells cs T fz):=by
  unfold World.var? at hvar;rw[qE0]at hvar;simp only[Option.bind_some]at hvar;split at hvar
  ·rename_i c T fz hc;cases hvar;exact⟨_,_,hc⟩
  ·cases hvar
 obtain⟨T,fz,hc⟩:=hv;refine⟨cs,T,fz,hc,?_,?_⟩
 ·have:cs.size=48:=by simpa using hl
  rw[this];exact Nat.le_of_eq rfl
 intro i c x hi hx;have hij:i=i/4*4+i%4:=by omega
 rw[qzT,hij,qC8 (λ_=>rfl) frL _ _ (Nat.mod_lt _ (by decide)),Option.bind_eq_some_iff]at hi;obtain⟨r,hr1,hr2⟩:=hi;have h2:=rows _ _ hr1;have h3:r.vl[i%4]? =some x:=by
  rw[<-h2,List.getElem?_take,ipo (Nat.mod_lt _ (by decide)),List.getElem?_drop,<-hij];simpa using hx
 have h4:i%4<4:=Nat.mod_lt _ (by decide);obtain⟨j,hj⟩:=wg (i%4)
 rw[<-hj]at hr2 h3 h4
 match j,h4 with
 |0,_=>cases hr2;cases h3;exact⟨rfl,λ_ _=> .str⟩
 |1,_=>cases hr2;cases h3;exact⟨rfl,λ_ _=> .bool⟩
 |2,_=>cases hr2;cases h3;exact⟨rfl,λ_ _=> .bool⟩
 |3,_=>cases hr2;cases h3;exact⟨rfl,λ_ _=> .bool⟩
theorem qtt{w w':World}(h:qhs 4 RC.frmC w)(e:w'.heap[4]? =w.heap[4]?):qhs 4 RC.frmC w':=by
 obtain⟨arr,T,fz,h1,h2⟩:=h;exact⟨arr,T,fz,e.trans h1,h2⟩
def qbX:List Nat:= [4,1,2,3]
def qA9(w:World):Prop:=RC.SG w∧qhs 4 RC.frmC w
theorem qBa{W:World}(h:laidMet Tryz.prog YtmieflnoheifbaaGreatDoor.Rows.topFollowedRow.laid W):qr5 W∧qB9 W∧qhs 4 RC.frmC W:=by
 have h2:=laidMet.tail (laidMet.tail h);have h3:=laidMet.tail h2;have h4:=laidMet.tail h3;have h5:=laidMet.tail h4;obtain⟨a,s,e1,_⟩:=laid_sentinel (g:=3) (ti:=264) (tp:=427) (te:=429) (ts:=9) h3 qDy (by kernel_rfl) Tryz.underlying264 qrW Tryz.underlying427 Tryz.underlying429 rfl rfl Tryz.underlying9 (by kernel_rfl) (by kernel_rfl);obtain⟨b,t,e2,_⟩:=laid_sentinel (g:=2) (ti:=264) (tp:=427) (te:=429) (ts:=9) h4 qDz (by kernel_rfl) Tryz.underlying264 qrW Tryz.underlying427 Tryz.underlying429 rfl rfl Tryz.underlying9 (by kernel_rfl) (by kernel_rfl);exact⟨Lib.tabIs_of_head (t:=398) (e:=198) (n:=20) qDx (by kernel_rfl) Tryz.underlying398 Tryz.underlying198 (by kernel_rfl) (by kernel_rfl) h2,⟨⟨_,_,e2⟩,_,_,e1⟩,qDw h5⟩
theorem qqk{W:World}(h:laidMet Tryz.prog YtmieflnoheifbaaGreatDoor.Rows.topFollowedRow.laid W): ∀b,b∈qbX-> ∃arr T fz,W.heap[b]? =some (.cells arr T fz):=by
 intro b hb;obtain⟨h1,⟨⟨_,_,h2⟩,_,_,h3⟩,arr,T,fz,h4,_⟩:=qBa h;have e:b=4∨b=1∨b=2∨b=3:=by simpa[qbX] using hb
 rcases e with rfl|rfl|rfl|rfl
 ·exact⟨_,_,_,h4⟩
 ·exact qcD qDx h1
 ·exact qcD qDz h2
 ·exact qcD qDy h3
theorem quT{W:World}(h:laidMet Tryz.prog YtmieflnoheifbaaGreatDoor.Rows.topFollowedRow.laid W): ∀w':World,(∀b,b∈qbX->w'.heap[b]? =W.heap[b]?)->qA9 w':=by
 intro w' hs;obtain⟨h1,⟨⟨t1,p1,h2⟩,t2,p2,h3⟩,h4⟩:=qBa h;refine⟨⟨qpQ h1 (hs 1 (by simp[qbX])),⟨t1,p1,?_⟩,t2,p2,?_⟩,qtt h4 (hs 4 (by simp[qbX]))⟩
 ·rw[qea qDz (hs 2 (by simp[qbX]))];exact h2
 ·rw[qea qDy (hs 3 (by simp[qbX]))];exact h3
theorem quS:cb RC.SG [.pin qbX qA9]:=⟨0,_,_,rfl,λ_ h=>h.1⟩
theorem quR:jf [.pin qbX qA9] RC.frmN RC.frmC:=⟨0,_,_,rfl,by simp[qbX],λ_ h=>h.2⟩
end LN
end
