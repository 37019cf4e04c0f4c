import Derived.Test.YtiiegfkjmnoijaaGreatDoorK11
import Derived.Test.YtiiegfkjmnoijaaGreatDoorK16
import Derived.Test.YtiiegfkjmnoijaaGreatDoorK3
import Derived.Test.YtiiegfkjmnoijaaGreatDoorK5
import Derived.Test.YtiiegfkjmnoijaaGreatDoorK8
import Derived.Test.YtiiegfkjmnoijaaGreatDoorProg
import Derived.Test.YtiiegfkjmnoijaaGreatDoorK12
import Derived.Test.YtiiegfkjmnoijaaGreatDoorK10
import Derived.Shelf.Strings.OnBuilder
import Derived.Test.YtiiegfkjmnoijaaGreatDoorK9
import Derived.Test.YtiiegfkjmnoijaaGreatDoorK15
import Derived.Shelf.Slices.In.SortNone
import Derived.Lib.ItoaLen
import Derived.Test.YtiiegfkjmnoijaaGreatDoorK14
set_option linter.all false
set_option maxHeartbeats 256000000
set_option maxRecDepth 100000
section
open Go Go.Proofs AF HY LN
namespace RC
def utE(x:Co):Int:=if coE x=0 then 0 else 1
def utR(x:Co):List Un:=if coE x=0 then T8 x else []
theorem qoI{v n:Nat}{L:List Un}{ty:TypeId}{fz:Nat->Bool}{h:wh}{d:Nat}(hn:n=L.length):VLe (qec (some (qZ v ty (SO L))) v 3 0 n (rei fz h (d+1))) (zA L):=by
 subst hn;unfold qZ;split
 ·rename_i e
  have:L= []:=by
   cases L with
   |nil=>rfl
   |cons a r=>exact absurd e (by simp[SO,unC])
  subst this;rw[slOf_emp,ipo rfl];exact qW
 ·rw[slOf_mem,ipo ⟨rfl,by rw[qah];omega⟩];refine VLe.sl_eq rfl (λi hi=> ?_);simp only[Nat.zero_add];rw[qfs hi];rfl
theorem qBU(x:Co)(h:wh)(hz:qaN x)(hp:kY SG h):ACalls Tryz.prog 31 [.agg (coC x)] h (.tup [zA (utR x),.int .i64 (utE x)]) h:=by
 have c1:=λl'=>coP x (h++l') hz (hp.app l')
 unfold utE utR
 by_cases g:coE x=0
 case neg=>
  have k1:(coE x=0)=False:=eqf g;rw[ine g,ine g];obtain⟨e,he⟩:=wg (coE x)
  rw[<-he]at c1 k1;unfold coC at c1;refine acO qxS ?_;simp (disch:=omega) only[qAp,coC,go_sem]
  repeat' first|(refine cA (c1 _) flk ?_;simp (disch:=omega) only[k1,go_sem])|(apply qa;exact rvk;simp only[go_sem])
  exact VLe.tup ⟨qW,qi,trivial⟩
 rw[ipo g,ipo g];simp only[g]at c1;have ho:=SU g;have hn:=hz.cl;have c2:=λh=>qCz x h
 have lx: ∀n v ty,lowO n (.mem v ty (coC x)):=λn v ty=>qsc x n v ty
 unfold coC at c1 c2;refine acO qxS ?_;simp (disch:=omega) only[qAp,coC,go_sem]
 repeat' first|(refine cA (c1 _) flk ?_;simp (disch:=omega) only[go_sem])
 refine⟨_,_,Wk.ownNil (j:=h.length+2) (i:=0) (k:=h.length+4) (v:=1) (ty:=28) (cs:= [.nl]) (ve:=0) (sz:=3) ?m1 rfl ?m2,?_⟩
 case m1=>simp only[go_sem]
 case m2=>simp only[go_sem]
 simp (disch:=omega) only[List.set_cons_zero,go_sem]
 repeat' first|(refine cA (c2 _) flk ?_;simp (disch:=omega) only[go_sem])
 have hrl:=qd6 x;have hrg:=λi hi=>qkD (x:=x) (i:=i) hi
 have hul:(T8 x).length=(qbs (cmB x) x.col.length).length:=qcn x;have hue:=λi (hi:i<(qbs (cmB x) x.col.length).length)=>qcm (x:=x) (k:=i) hi
 have hin:=λi (hi:i<(qbs (cmB x) x.col.length).length)=>qkC (x:=x) (k:=i) hi
 have hle:(T8 x).length<=1000000000:=by
  have h1:=qeb (s:=0) (qco x) (d:= []) (by simp) (T8 x).length (nlr _);have h2:=qaF (qco x) (nlr (T8 x).length);omega
 unfold rnL at hue hin;obtain⟨rs,hrs⟩:=wg (qbs (cmB x) x.col.length)
 simp only[<-hrs]at hrl hrg hul hue hin;obtain⟨L,hL⟩:=wg (T8 x)
 simp only[<-hL]at hul hue hle ⊢;obtain⟨X0,hX0⟩:=wg (AObj.mem 1 26 [.str x.sec,strs x.sig,qm x.tok,qp x.col])
 refine zh (xs:=rnX x) (itR x ho hn) (qkE x)
  (S:=λi hh=> ∃w O1,qJ [O1] 0=true∧(∀n,lowO n O1)∧hh=h++ [.mem 1 26 (coC x),.emp 1,.mem 1 28 [.osl (h.length+4) w 3 0 i],O1,qZ w 64 (SO (L.take i))])
  (E:=λ_ _=>False) ?e1 (λ_ _ h=>h.elim) ?e2 ?e3 ?e4 ?e5 (λ_ _ h=>h.elim)
 case e1=>
  rintro i hh ⟨w,O1,_,l1,rfl⟩;refine LowI.app rfl (λo ho=> ?_);simp only[List.mem_cons,List.not_mem_nil,or_false]at ho;rcases ho with rfl|rfl|rfl|rfl|rfl
  ·left;simp[coC]
  ·left;simp
  ·right;constructor<;>(intro c hc;simp only[List.mem_cons,List.not_mem_nil,or_false]at hc;rcases hc with rfl;simp[qS])
  ·right;exact⟨l1 _,l1 _⟩
  ·right;exact⟨ji (qcl _ _),ji (qcl _ _)⟩
 case e2=>exact⟨0,.emp 0,rfl,λ_=>trivial,rfl⟩
 case e3=>
  have lt: ∀n,qS n (qm x.tok)=true:=λ_=>rfl
  have lc: ∀n,qS n (qp x.col)=true:=λ_=>rfl
  simp[qS,qS.lowVs,lt,lc,qe2]
  try omega
 case e4=>
  rintro i hh tl LI TS hi ⟨w,O1,p1,l1,rfl⟩ hlen K4 K5 hK4 hN hR' hX;rw[hrg i hi];rw[hrl]at hi;have e5:=hue i hi;obtain⟨f1,f2,_⟩:=hin i hi;have e6:rs.getD i (0,0)=rs[i]:=by rw[gdqA,zn hi];rfl
  rw[e6];have p1': ∀m,qJ (O1::m) 0=true:=λ_=>p1
  have hTk:L.take (i+1)=L.take i++ [L.getD i default]:=by
   rw[List.take_add_one,zn om,gdqA,zn om];rfl
  rw[e5]at hTk;have hTl:(L.take i).length=i:=by rw[List.length_take];omega
  have eVl:=qah (L.take i);rw[hTl]at eVl;have eVk:List.take (i*3) (SO (L.take i))=SO (L.take i):=ltl om;obtain⟨⟨f,t⟩,hr⟩: ∃r,r=rs[i]:=⟨_,rfl⟩
  rw[<-hr]at hTk f1 f2 ⊢;have eVn:SO (L.take (i+1))=SO (L.take i)++ [.int .i64 (f:Int),.int .i64 (t:Int),kf (qb2 x f t)]:=by rw[hTk,qo5,qo6];rfl
  have c48:=λh=>qCy x f t h ho f2 hn
  unfold coC at c48;have zr: ∀X,(kf X).cells= [kf X]:=λ_=>rfl
  have zm:List.drop 3 (zQ [AV.int .i64 0,.int .i64 0,.nl] 1)= []:=rfl;have hi9:((i:Int)+1)*24<=140737488355328:=by omega
  simp only[kg];simp (disch:=omega) only[List.append_assoc,coC,go_sem];refine hK4 _ _ (h++ [.mem 1 26 (coC x),.emp 1,.mem 1 28 [.osl (h.length+4) w 3 0 i],O1,qZ w 64 (SO (L.take i))]) (by simp[coC]) (by simp) ?_;simp (disch:=omega) only[List.append_assoc,coC,go_sem];refine jV ?T ?H ?h1 ?h2
  case h1=>
   simp (disch:=omega) only[go_sem]
   repeat' first|(refine cU (λ_=>c48 _) flk ?_;simp (disch:=omega) only[p1',eVl,eVk,List.set_cons_zero,zr,zm,go_sem])|with_reducible apply aiA
   all_goals first
    |omega
    |rfl
    |(rw[bne_iff_ne];omega)
    |skip
  case h2=>
  simp (disch:=omega) only[go_sem];refine hN _ _ (h++ [.mem 1 26 (coC x),.emp 1,.mem 1 28 [.osl (h.length+4) (w+1) 3 0 (i+1)],.mem (qn (some O1)+1) 64 [.int .i64 (f:Int),.int .i64 (t:Int),kf (qb2 x f t)],qZ (w+1) 64 (SO (L.take (i+1)))]) (by rw[eVn];simp[coC]) (by simp)
   ⟨w+1,_,rfl,?lw,rfl⟩
  case lw=>
  intro n c hc;simp only[List.mem_cons,List.not_mem_nil,or_false]at hc;rcases hc with rfl|rfl|rfl<;>rfl
 case e5=>
  rintro hh ⟨w,O1,p1,l1,rfl⟩;rw[hrl,<-hul,List.take_length];simp (disch:=omega) only[go_sem]
  repeat' first|(apply qa;exact rvk;simp only[go_sem])|with_reducible apply aiA|exact clz|fail
  exact VLe.tup ⟨qoI rfl,qi,trivial⟩
end RC
end
section
open Go Go.Proofs AF
def qrU:List Nat:= [118,114]
def quQ:C:=
 (vU [MV 6 1,O1 7 .len 6,vO 8 0] (C.block 0 (vU [BI 9 .lss 8 7] ((vW 9 0).seq ((C.block 1 (vU [O2 10 (.idxA 1) 6 8,LD 11 10,MV 5 11] (vY [MV 12 0,O1 13 .nilchk 12,vN 14 0 13,MV
 15 5,O2 16 (.call 118 false) 14 15]))).seq (vY [vP 17 .add 8 1,MV 8 17])))).loop))
theorem qwB:qM Tryz.prog 114 18 0 [] quQ:=fi Tryz.f114 [] qrU []
end
section
open Go Go.Proofs AF HY LN
namespace RC
def wrO(kb vb kj v:Nat)(A:AV)(s:Str)(h:wh):wh:=qq kj (qq kb h (.mem vb 160 [A,.osl kj v 1 0 s.length])) (S7 v s)
theorem quf{kb vb kj v:Nat}{A:AV}{s:Str}{h:wh}(hk:qr kb h=some (.mem vb 160 [A,.osl kj v 1 0 s.length]))(hj:qr kj h=some (S7 v s)):wrO kb vb kj v A s h=h:=by
 unfold wrO;rw[jc hk,jc hj]
theorem qB8{kb vb kj v:Nat}{A:AV}{s:Str}{h:wh}(hne:kj≠kb)(hk:kb<h.length):qr kb (wrO kb vb kj v A s h)=some (.mem vb 160 [A,.osl kj v 1 0 s.length]):=by
 unfold wrO;rw[qH (λe=>hne e.symm),zO hk]
theorem qB9{kb vb kj v:Nat}{A:AV}{s:Str}{h:wh}(hj:kj<h.length):qr kj (wrO kb vb kj v A s h)=some (S7 v s):=by
 unfold wrO;rw[zO (by rw[qK];exact hj)]
theorem qCa{kb vb kj v v':Nat}{A A':AV}{s s':Str}{h:wh}(hne:kj≠kb):qq kj (qq kb (wrO kb vb kj v A s h) (.mem vb 160 [A',.osl kj v' 1 0 s'.length])) (S7 v' s')=wrO kb vb kj v' A' s' h:=by
 unfold wrO;rw[S4 (λe=>hne e.symm),kv]
theorem qzY{kb vb kj v:Nat}{h:wh}{s:Str}(hkl:kb<h.length)(hjl:kj<h.length): ∀o∈wrO kb vb kj v (.op kb vb 0) s h,o∈h∨lowO h.length o:=qbC hkl hjl
end RC
end
section
namespace Go.Proofs
open Go.Shelf
def Tryz.laysJ156_ren:Go.Shelf.Ren:=⟨fun|156=>61|165=>117|166=>118|169=>116|240=>159|241=>160|276=>208|277=>209|n=>n,fun|31=>22|9=>9|3=>3|4=>4|0=>0|20=>20|72=>158|76=>167|70=>155|37=>156|75=>166|127=>202|164=>240|5=>5|80=>163|n=>n,fun|n=>n⟩
theorem Tryz.laysJ156:Go.Proofs.Lays.n156 Tryz.prog Tryz.laysJ156_ren:= {
 mixed:=by kernel_rfl
 f156:=Tryz.func61.trans (congrArg some (by kernel_rfl))
 f165:=Tryz.func117.trans (congrArg some (by kernel_rfl))
 f166:=Tryz.func118.trans (congrArg some (by kernel_rfl))
 f169:=Tryz.func116.trans (congrArg some (by kernel_rfl))
 f240:=Tryz.func159.trans (congrArg some (by kernel_rfl))
 f241:=Tryz.func160.trans (congrArg some (by kernel_rfl))
 f276:=Tryz.func208.trans (congrArg some (by kernel_rfl))
 f277:=Tryz.func209.trans (congrArg some (by kernel_rfl))
 t0:=Tryz.underlying0
 a0:=Tryz.isAgg0
 z0:=Tryz.sizeOf0
 v0:=Tryz.zeroValue0
 t3:=Tryz.underlying3
 a3:=Tryz.isAgg3
 z3:=Tryz.sizeOf3
 v3:=Tryz.zeroValue3
 t4:=Tryz.underlying4
 a4:=Tryz.isAgg4
 z4:=Tryz.sizeOf4
 v4:=Tryz.zeroValue4
 t9:=Tryz.underlying9
 a9:=Tryz.isAgg9
 z9:=Tryz.sizeOf9
 v9:=Tryz.zeroValue9
 t20:=Tryz.underlying20
 a20:=Tryz.isAgg20
 z20:=Tryz.sizeOf20
 v20:=Tryz.zeroValue20
 t31:=Tryz.underlying22
 a31:=Tryz.isAgg22
 z31:=Tryz.sizeOf22
 v31:=Tryz.zeroValue22
 t37:=Tryz.underlying156
 a37:=Tryz.isAgg156
 z37:=Tryz.sizeOf156
 v37:=Tryz.zeroValue156
 t70:=Tryz.underlying155
 a70:=Tryz.isAgg155
 z70:=Tryz.sizeOf155
 v70:=Tryz.zeroValue155
 t72:=Tryz.underlying158
 a72:=Tryz.isAgg158
 z72:=Tryz.sizeOf158
 v72:=Tryz.zeroValue158
 t75:=Tryz.underlying166
 a75:=Tryz.isAgg166
 z75:=Tryz.sizeOf166
 v75:=Tryz.zeroValue166
 t76:=Tryz.underlying167
 a76:=Tryz.isAgg167
 z76:=Tryz.sizeOf167
 v76:=Tryz.zeroValue167
 t127:=Tryz.underlying202
 a127:=Tryz.isAgg202
 z127:=Tryz.sizeOf202
 v127:=Tryz.zeroValue202
 t164:=Tryz.underlying240
 a164:=Tryz.isAgg240
 z164:=Tryz.sizeOf240
 v164:=Tryz.zeroValue240 }
end Go.Proofs
end
section
open Go Go.Proofs AF HY LN
namespace RC
theorem Si(kb vb kj v ka va:Nat)(A:AV)(s:Str)(L:List Str)(h:wh)(hne:kj≠kb)(na:ka≠kb)(nj:ka≠kj)(ha:qr ka h=some (.mem va 9 (jo L)))(hk:qr kb h=some (.mem vb 160 [A,.osl kj v 1 0 s.length]))(hA:A= .nilp∨A= .op kb vb 0)(hj:qr kj h=some (S7 v s))
  (hL:L≠ []) (hLn:L.length<=1000000) (hl:s.length+L.flatten.length<=140737488355328):
  ACalls Tryz.prog 114 [.op kb vb 0,.osl ka va 1 0 L.length] h (.tup []) (wrO kb vb kj (v+L.length) (.op kb vb 0) (s++L.flatten) h):=by
 have hkl:=qV hk;have hjl:=qV hj;obtain⟨Af,hAf⟩: ∃Af:Nat->AV,Af=λi=>if i=0 then A else .op kb vb 0:=⟨_,rfl⟩
 have hA2: ∀i,Af i= .nilp∨Af i= .op kb vb 0:=λi=>by
  rw[hAf];simp only;split
  ·exact hA
  ·exact .inr rfl
 obtain⟨Sf,hSf⟩: ∃Sf:Nat->Str,Sf=λi=>s++(L.take i).flatten:=⟨_,rfl⟩
 have h0:wrO kb vb kj (v+0) (Af 0) (Sf 0) h=h:=by
  rw[hAf,hSf];simp only[if_true,List.take_zero,List.flatten_nil,lan,Nat.add_zero];exact quf hk hj
 have hSl: ∀i,(Sf i).length<=s.length+L.flatten.length:=λi=>by
  rw[hSf];simp only[lap]
  have:(L.take i).flatten.length<=L.flatten.length:=by
   conv=>rhs;rw[<-List.take_append_drop i L,List.flatten_append,lap]
   omega
  omega
 have hSs: ∀i,i<L.length->Sf (i+1)=Sf i++L.getD i []:=λi hi=>by
  rw[hSf];simp only;rw[List.take_add_one,zn hi,List.flatten_append,gdqA,zn hi,List.append_assoc];simp
 have hga: ∀i,qr ka (wrO kb vb kj (v+i) (Af i) (Sf i) h)=some (.mem va 9 (jo L)):=λi=>by
  unfold wrO;rw[qH nj,qH na];exact ha
 have hca:=λi=>qG (hga i)
 have hlv:qF h ka va=true:=by unfold qF;rw[ha];simp
 have hlw: ∀i,qF (wrO kb vb kj (v+i) (Af i) (Sf i) h) ka va=true:=λi=>by unfold qF;rw[hga i];simp
 have hcg: ∀i,i<L.length->(jo L)[i]? =some (.str (L.getD i [])):=λi hi=>by
  unfold jo;rw[List.getElem?_map,zn hi,gdqA,zn hi];rfl
 refine acO qwB ?_;simp (disch:=omega) only[quQ,hlv,go_sem];have hfin:Af L.length= .op kb vb 0:=by
  rw[hAf];simp only;rw[ine (λe=>hL (List.eq_nil_of_length_eq_zero e))]
 have hfs:Sf L.length=s++L.flatten:=by rw[hSf];simp only[List.take_length]
 have hge:wrO kb vb kj (v+L.length) (.op kb vb 0) (s++L.flatten) h=wrO kb vb kj (v+L.length) (Af L.length) (Sf L.length) h:=by rw[hfin,hfs]
 rw[hge];refine qu (T:=λi:Nat=>zf 18 [(0,.op kb vb 0),(6,.osl ka va 1 0 L.length),(7,.int .i64 L.length),(8,.int .i64 i)]) (H:=λi=>wrO kb vb kj (v+i) (Af i) (Sf i) h) (inv:=λi=>i<=L.length) (m:=λi=>L.length-i) 0 (nzl _) ?s0 ?_
 case s0=>
  rw[h0];refine Wk.temps ?_
  (simp only[go_sem,qg,qc,qb,qf];try exact we)
 rintro i i1 K hK;have hsl:=hSl i
 by_cases hi:i<L.length
 ·have k1:((i:Int)<L.length)=True:=wj;have k0:(0<=(i:Int))=True:=wj;have hs1:=hSs i hi;have hsl1:=hSl (i+1);have gk:=qB8 (vb:=vb) (v:=v+i) (A:=Af i) (s:=Sf i) (h:=h) hne hkl;have gj:=qB9 (kb:=kb) (vb:=vb) (v:=v+i) (A:=Af i) (s:=Sf i) (h:=h) hjl;obtain⟨w,hw⟩:=wg (L.getD i [])
  have ew:=hw.symm;rw[ew]at hs1;have hc:=qD8 kb vb kj (v+i) (Af i) (Sf i) w _ hne gk (hA2 i) gj (by rw[hs1,lap]at hsl1;omega);have hAi:Af (i+1)= .op kb vb 0:=by rw[hAf];rfl
  have hlen:((Sf i).length+w.length)=(Sf (i+1)).length:=by rw[hs1,lap]
  have hr:wrO kb vb kj (v+i+1) (.op kb vb 0) (Sf (i+1)) h=wrO kb vb kj (v+(i+1)) (Af (i+1)) (Sf (i+1)) h:=by rw[hAi];rfl
  rw[<-hs1,hlen,qCa hne,hr]at hc;have hcell:=qG gk;have hcA:=hca i;have hcG:=hcg i hi;have hLv:=hlw i;have eCl:=jH L;rw[ew]at hcG;simp (disch:=omega) only[k0,k1,hcA,hcG,hcell,go_sem]
  repeat' first|with_reducible apply aiA|exact clz|fail
  refine qv hc (by exact flk) ?_;simp (disch:=omega) only[go_sem];refine hK _ _ (i+1) hi om (Wk.temps ?_)
  (simp only[go_sem,qg,qc,qb,qf];try exact we)
 have k1:((i:Int)<L.length)=False:=wm;obtain rfl:i=L.length:=by omega
 simp (disch:=omega) only[k1,go_sem];rw[hfin];exact ju trivial (by unfold wrO;simp only[qK]) (qzY hkl hjl) ⟨rfl,rfl⟩ (qi)
theorem Tryz.joinX:Builder.Extra Tryz.prog Tryz.laysJ156_ren:= {
 sizeBuilder:=by kernel_rfl
 liesBuilder:=by kernel_rfl
 t5:=Tryz.underlying5
 a5:=Tryz.isAgg5
 z5:=Tryz.sizeOf5
 v5:=Tryz.zeroValue5
 infoByte:=by kernel_rfl
 cellsByte:=by kernel_rfl
 sizeByte:=by kernel_rfl
 neB5:=by decide }
theorem qwi(l:List UInt8):(ByteArray.mk l.toArray).data.toList=l:=by simp
theorem joP(L:List Str)(sep:Str)(h:wh)(hl:(Lib.join L sep).length<=1000000000)(hn:L.length<=1000000000):ACalls Tryz.prog 61 [strs L,.str sep] h (.str (Lib.join L sep)) h:=by
 refine⟨qjL Tryz.func61 (by kernel_rfl) (by kernel_rfl),λw σ xs H hv=> ?_⟩;obtain⟨x,y,rfl,hx,hy⟩:=hv.two;rw[jx hy];have hm:(L.map λs=>ByteArray.mk s.toArray).map (·.data.toList)=L:=by
  rw[List.map_map];exact (List.map_congr_left (λi _=>qwi i)).trans (List.map_id _)
 have hd:(ByteArray.mk sep.toArray).data.toList=sep:=qwi sep;have key:CallsIn Fence.wide 0 Tryz.prog 61 #[x,.string ⟨sep.toArray⟩] w λe w'=>e= .returned (.string ⟨(Lib.join L sep).toArray⟩)∧Go.RowKit.Below w.heap.size w w':=by
  rcases qtz hx with⟨h0,a,rfl⟩|⟨b,off,cap,rfl,h1,h2,h3⟩
  ·obtain rfl:=List.eq_nil_of_length_eq_zero h0;refine (callsIn_wide.2 (Any.strings_Join_none Tryz.laysJ156 Tryz.joinX a 0 ⟨sep.toArray⟩ w)).mono ?_;rintro e w' ⟨rfl,rfl⟩;exact⟨rfl,Go.RowKit.Below.refl _ _⟩
  ·have hln:(L.map λs=>ByteArray.mk s.toArray).length=L.length:=by simp
   have hc:=Any.strings_Join Tryz.laysJ156 Tryz.joinX b off cap (L.map λs=>ByteArray.mk s.toArray) ⟨sep.toArray⟩ w (λj x hj=>by
    rw[List.getElem?_map,Option.map_eq_some_iff]at hj;obtain⟨i,hi,rfl⟩:=hj;obtain⟨hlt,e⟩:=lgs.1 hi
    have:=h3 j hlt
    rw[this,gdqA,hi]
    rfl) h2 om om (by rw[hm,hd];omega)
   rw[hln,hm,hd]at hc;exact callsIn_wide.2 hc
 refine key.mono ?_;rintro e w' ⟨rfl,hb⟩;obtain⟨H',e'⟩:=Ext.ofBelow H hb;exact⟨_,σ,rfl,H',.imm .str,e'⟩
theorem joB{L:List Str}{sep:Str}{X:AV}{h:wh}(hv:To ([X,.str sep].map (rei (λ_=>true) h 8)) [strs L,.str sep])(hl:(Lib.join L sep).length<=1000000000)(hn:L.length<=1000000000):ACalls Tryz.prog 61 [X,.str sep] h (.str (Lib.join L sep)) h:=
 ACalls.borrow ((joP L sep [] hl hn).le hv (qi)) rfl
def soE(x:Co)(l:List Un)(b:List Wd)(i:Int):Int:=if pvE x l b≠0 then pvE x l b else if i<0∨(b.length:Int)<=i then 2 else 0
def soL(x:Co)(l:List Un)(b:List Wd)(i:Int):List Int:=if soE x l b i=0 then soK x l b i.toNat else []
theorem qd4{x:Co}{l:List Un}{b:List Wd}(h:pvE x l b=0){i:Nat}(hi:i<b.length): -1<=(b.getD i default).unit∧(b.getD i default).unit<(l.length:Int):=by
 have hu:=(qkr h).un2 i hi
 have:=qav l (b.getD i default).col
 omega
theorem qlb(x:Co)(l:List Un)(b:List Wd)(i:Int)(h:wh)(hz:qaN x)(hu:qbx l)(hb:b.length<=1000000)(ht: ∀i,(b.getD i default).text.length<=1000000000)(hn:x.sig.length<=1000000)(hp:kY SG h):
  ACalls Tryz.prog 19 [.agg (coC x),zA l,jD b,.int .i64 i] h (.tup [qy (soL x l b i),.int .i64 (soE x l b i)]) h:=by
 have c38:=λl'=>pvP x l b (h++l') hz hu om ht (hp.app l')
 have z1: ∀g,valL g .len [jD b]= .int .i64 b.length:=λ_=>rfl
 have z2: ∀g,okL g .len [jD b]=True:=λ_=>eqt trivial
 have nl0:VLe AV.nl (qy []):=qW;obtain⟨E,hE⟩:=wg (soE x l b i)
 have hL:soL x l b i=if E=0 then soK x l b i.toNat else []:=by rw[hE];rfl
 rw[hL,<-hE];unfold soE at hE;unfold coC at c38
 by_cases g1:pvE x l b=0
 case neg=>
  rw[ipo g1]at hE;rw[hE,ine g1];have k1:(pvE x l b=0)=False:=eqf g1;refine acO qng ?_;simp (disch:=omega) only[qvs,coC,go_sem]
  repeat' first|(refine cA (c38 _) flk ?_;simp (disch:=omega) only[k1,go_sem])|(apply qa;exact rvk;simp only[go_sem])
  exact qaj ⟨nl0,qi,trivial⟩
 rw[ine (λhc=>hc g1)]at hE;simp only[g1]at c38
 by_cases g2:i<0
 ·have k2:(i<0)=True:=eqt g2;rw[ipo (.inl g2)]at hE;rw[hE,ine (by decide)];refine acO qng ?_;simp (disch:=omega) only[qvs,coC,go_sem]
  repeat' first|(refine cA (c38 _) flk ?_;simp (disch:=omega) only[z1,z2,k2,go_sem])|(apply qa;exact rvk;simp only[go_sem])
  exact qaj ⟨nl0,qi,trivial⟩
 have k2:(i<0)=False:=eqf g2
 by_cases g3:(b.length:Int)<=i
 ·have k3:((b.length:Int)<=i)=True:=eqt g3;rw[ipo (.inr g3)]at hE;rw[hE,ine (by decide)];refine acO qng ?_;simp (disch:=omega) only[qvs,coC,go_sem]
  repeat' first|(refine cA (c38 _) flk ?_;simp (disch:=omega) only[z1,z2,k2,k3,go_sem])|(apply qa;exact rvk;simp only[go_sem])
  exact qaj ⟨nl0,qi,trivial⟩
 have k3:((b.length:Int)<=i)=False:=eqf g3;rw[ine (λhc=>hc.elim g2 g3)]at hE;rw[hE,ipo rfl];obtain⟨j,rfl⟩: ∃j:Nat,i=(j:Int):=⟨i.toNat,om⟩
 rw[itn];have c84:=λh=>qqm x l b j h hu hb om hn (qd4 g1 om).2
 unfold coC at c84;refine acO qng ?_;simp (disch:=omega) only[qvs,coC,go_sem]
 repeat' first|((first|refine cA (c38 _) ?_ ?_|refine cA (c84 _) ?_ ?_);exact flk;simp (disch:=omega) only[z1,z2,k2,k3,go_sem])|exact wa|fail
theorem qpZ{L:List Rd}{r:Nat}(hr:r<L.length):L.getD r default∈L:=by rw[gdqA,zn hr];exact List.getElem_mem hr
theorem qjn{x:Co}{l:List Un}{b:List Wd}(ho:qCc x l){u:Nat}(hul:u<l.length):(hsK l b u).length<=x.sig.length:=by
 have hmem:l.getD u default∈l:=by rw[gdqA,zn hul];exact List.getElem_mem hul
 have hri:qfz (l.getD u default).rds x.sig.length:=by rw[(ho.rg _ hmem).2.2.2];exact qfa _ _ _
 have hlt:=qdH l b u;unfold hsK;split
 ·rename_i h0;have hr:(brK l b u).toNat<(l.getD u default).rds.length:=by omega
  have h1:=hri.src ((l.getD u default).rds.getD (brK l b u).toNat default) (qpZ hr);have h2:=qdF (hi:=((x.sig.length:Nat):Int)) (lo:=0) h1.1 h1.2;omega
 ·exact nzl _
end RC
end
section
open Go Go.Proofs AF
end
section
open Go Go.Proofs AF HY LN
namespace RC
end RC
end
section
open Go Go.Proofs AF
def qrY:List Nat:= [114,116]
def quk:C:=
 (vU [O1 5 (.box 0 26) 0,MC 10 (.str []),vO 11 0] ((vU [O1 19 (.load (some 4)) 5,MV 20 1,MV 21 3,ON 22 (.call 17 true) [.t 19,.t 20,.t 21],MV 12 22] (vU [MV 23 12,vP 24 .neq 23
 0] (vV 24 (vX [MV 25 12,MC 10 (.str []),MV 11 25])))).seq ((vU [MV 26 4,vP 27 .lss 26 0,MV 28 27,vS 29 28 4,vS 30 28 3,vQ 31 28 .len 30,vR 32 28 (.bin .geq) 29 31,PT 33 28 32]
 (vV 33 (vX [MC 10 (.str []),vO 11 2]))).seq (vU [MV 34 3,MV 35 4,O2 36 (.idxA 7) 34 35,O1 37 (.load (some 7)) 36,⟨some 13,none,.alloc 1 36 [.str [],i6 0,i6 0,i6 0,.bool
 false,.bool false,.str []],[]⟩,ST 7 13 37] ((vU [vN 38 3 13,LD 39 38,MV 40 2,O1 41 .len 40,BI 42 .geq 39 41] (vV 42 (vX [MC 10 (.str []),vO 11 6]))).seq (vU [⟨some
 43,none,.build [.nilp,.nl] [],[]⟩,O1 44 (.box 2 160) 43,MV 14 44] ((C.wk.seq (vY [MV 45 14,O1 46 (.mkfn (Fn.func 114) 1) 45,MV 15 46])).seq (vU [MV 47 15,vN 48 0 13,LD 49
 48,⟨some 50,none,.bslc 3 1 2 9 [.str []] [(0,1),(1,1)],[.t 49,.c (.str [58,32])]⟩,O2 51 .callv 47 50] (vU [⟨some 52,none,.bslc 4 1 0 9 [.str []] [],[]⟩,MV 16 52] ((vU [O1 53
 (.load (some 4)) 5,MV 54 1,MV 55 3,MV 56 4,ON 57 (.call 74 true) [.t 53,.t 54,.t 55,.t 56],O1 58 .len 57,vO 59 0] (C.block 0 (vU [BI 60 .lss 59 58] ((vW 60 0).seq ((C.block 1
 (vU [O2 61 (.idxA 1) 57 59,LD 62 61,MV 18 62] (vY [MV 63 16,vN 64 1 5,LD 65 64,MV 66 18,O2 67 (.idxA 1) 65 66,LD 68 67,⟨some 69,none,.bslc 5 1 1 9 [.str []] [(0,1)],[.t 68]⟩,O2
 70 (.app 6 1 9 16) 63 69,MV 16 70]))).seq (vY [vP 71 .add 59 1,MV 59 71])))).loop)).seq ((vU [MV 72 16,O1 73 .len 72,vP 74 .eql 73 0] (vV 74 (vY [MV 75 16,⟨some 76,none,.bslc 7
 1 1 9 [.str []] [(0,1)],[.c (.str [110,111,32,115,111,117,114,99,101])]⟩,O2 77 (.app 8 1 9 16) 75 76,MV 16 77]))).seq (vU [MV 78 15,MV 79 16,OC 80 (.call 61 true) 79 (.str
 [32]),⟨some 81,none,.bslc 9 1 2 9 [.str []] [(0,1),(1,1)],[.t 80,.c (.str [59,32])]⟩,O2 82 .callv 78 81] ((C.block 2 (vU [vN 90 2 13,LD 91 90,vP 92 .lss 91 0,MV 89 92] (C.cond
 (.t 89) (vY [MV 93 15,⟨some 94,none,.bslc 10 1 1 9 [.str []] [(0,1)],[.c (.str [99,111,109,109,111,110])]⟩,O2 95 .callv 93 94]) (vU [vN 97 3 13,LD 98 97,vP 99 .lss 98 0,MV 96
 99] (C.cond (.t 96) (vY [MV 100 15,⟨some 101,none,.bslc 11 1 1 9 [.str []] [(0,1)],[.c (.str [108,101,97,100,105,110,103,32,115,111,117,114,99,101])]⟩,O2 102 .callv 100 101])
 (vU [MV 104 2,vN 105 3 13,LD 106 105,O2 107 (.idxA 4) 104 106,vN 108 0 107,LD 109 108,vP 110 .eql 109 1,MV 103 110] (C.cond (.t 103) (vY [MV 111 15,vN 112 3 13,LD 113 112,O1
 114 (.call 115 true) 113,MV 115 2,vN 116 3 13,LD 117 116,O2 118 (.idxA 4) 115 117,vN 119 1 118,LD 120 119,⟨some 121,none,.bslc 12 1 4 9 [.str []] [(0,1),(1,1),(2,1),(3,1)],[.c
 (.str [100,101,99,105,115,105,111,110,32]),.t 114,.c (.str [44,32,99,104,111,105,99,101,32,111,102,32]),.t 120]⟩,O2 122 .callv 111 121]) (vY [MV 83 15,vN 84 3 13,LD 85 84,O1 86
 (.call 115 true) 85,⟨some 87,none,.bslc 13 1 3 9 [.str []] [(0,1),(1,1),(2,1)],[.c (.str [100,101,99,105,115,105,111,110,32]),.t 86,.c (.str
 [44,32,99,111,110,106,101,99,116,117,114,101])]⟩,O2 88 .callv 83 87])))))))).seq (vX [MV 123 14,O1 124 .nilchk 123,vN 125 0 124,O1 126 (.call 116 false) 125,MV 10 126,vO 11
 0]))))))))))))))
theorem qjd:qM Tryz.prog 60 127 15 [RV.tmp 10,RV.tmp 11] quk:=fi Tryz.f60 [5,13,44,50,52,69,70,76,77,81,94,101,121,87,43] qrY [10]
end
section
open Go Go.Proofs AF HY LN
namespace RC
def exE(x:Co)(l:List Un)(d:List Dc)(b:List Wd)(i:Int):Int:=if pvE x l b≠0 then pvE x l b else if i<0∨(b.length:Int)<=i then 2 else if (d.length:Int)<=(b.getD i.toNat default).dec then 6 else 0
def joN(x:Co)(S:List Int):List Str:=S.map λs=>x.sig.getD s.toNat []
def nmN(x:Co)(S:List Int):List Str:=if S= [] then [[110,111,32,115,111,117,114,99,101]] else joN x S
def tlL(d:List Dc)(w:Wd):List Str:=
 if w.unit<0 then [[99,111,109,109,111,110]] else if w.dec<0 then [[108,101,97,100,105,110,103,32,115,111,117,114,99,101]] else
  if (d.getD w.dec.toNat default).kind=1 then [[100,101,99,105,115,105,111,110,32],Lib.itoa w.dec,[44,32,99,104,111,105,99,101,32,111,102,32],(d.getD w.dec.toNat default).sig]
  else [[100,101,99,105,115,105,111,110,32],Lib.itoa w.dec,[44,32,99,111,110,106,101,99,116,117,114,101]]
def qrv(x:Co)(d:List Dc)(w:Wd)(S:List Int):Str:=(([]++ [w.text,[58,32]].flatten)++ [Lib.join (nmN x S) [32],[59,32]].flatten)++(tlL d w).flatten
def exR(x:Co)(l:List Un)(d:List Dc)(b:List Wd)(i:Int):Str:=if exE x l d b i=0 then qrv x d (b.getD i.toNat default) (soK x l b i.toNat) else []
theorem qtk(sep:Str)(B:Nat): ∀(L:List Str),(∀s∈L,s.length<=B)->(Lib.joinTail sep L).length<=L.length*(sep.length+B):=by
 intro L
 induction L with
 |nil=>intro _;simp[Lib.joinTail]
 |cons a L ih=>
  intro h;have e:Lib.joinTail sep (a::L)=(sep++a)++Lib.joinTail sep L:=by simp[Lib.joinTail]
  rw[e,lap,lap,lco,Nat.succ_mul];have h1:=ih (λs hs=>h s (List.mem_cons_of_mem _ hs));have h2:=h a (List.mem_cons_self ..);omega
theorem qdZ(sep:Str)(B:Nat)(L:List Str)(h: ∀s∈L,s.length<=B):(Lib.join L sep).length<=L.length*(sep.length+B):=by
 cases L with
 |nil=>simp[Lib.join_nil]
 |cons a L=>
  rw[Lib.join_cons,lap,lco,Nat.succ_mul];have h1:=qtk sep B L (λs hs=>h s (List.mem_cons_of_mem _ hs));have h2:=h a (List.mem_cons_self ..);omega
theorem qkV{x:Co}{l:List Un}{b:List Wd}(g:pvE x l b=0){i:Nat}(hi:i<b.length):(soK x l b i).length<=x.sig.length∧ ∀s∈soK x l b i,0<=s∧s<x.sig.length:=by
 have hok:=qkr g;have huo:=qaI hok.un;obtain⟨p1,p2⟩:=qd4 g hi;unfold soK;split
 ·refine⟨Nat.le_of_eq (qbz _),λs hs=> ?_⟩;unfold ql2 at hs;obtain⟨k,hk,rfl⟩:=List.mem_map.1 hs
  have:=List.mem_range.1 hk
  omega
 ·have hul:(b.getD i default).unit.toNat<l.length:=by omega
  refine⟨qjn huo hul,λs hs=> ?_⟩;have hmem:l.getD (b.getD i default).unit.toNat default∈l:=by rw[gdqA,zn hul];exact List.getElem_mem hul
  have hri:qfz (l.getD (b.getD i default).unit.toNat default).rds x.sig.length:=by rw[(huo.rg _ hmem).2.2.2];exact qfa _ _ _
  have hlt:=qdH l b (b.getD i default).unit.toNat;unfold hsK at hs;split at hs
  ·exact (hri.src _ (qpZ om)).2 s hs
  ·cases hs
theorem qbh{n:Int}(h0:0<=n)(h1:n<=1000000000):(Lib.itoa n).length<=1000:=by
 have:=Lib.itoa_length_le n om om
 omega
structure XZ where
 i:Nat
 v:Nat
 O:AObj
theorem qiR(x:Co)(l:List Un)(d:List Dc)(b:List Wd)(i:Int)(h:wh)(hz:qaN x)(hu:qbx l)(hb:b.length<=1000000)(ht: ∀i,(b.getD i default).text.length<=1000000000)(hn:x.sig.length<=1000)
  (hsl: ∀s,(x.sig.getD s []).length<=1000) (hdl:d.length<=1000000) (hds: ∀j,(d.getD j default).sig.length<=1000000) (hp:kY SG h):
  ACalls Tryz.prog 60 [.agg (coC x),zA l,kz d,jD b,.int .i64 i] h (.tup [.str (exR x l d b i),.int .i64 (exE x l d b i)]) h:=by
 have c38:=λl'=>pvP x l b (h++l') hz hu om ht (hp.app l')
 have z1: ∀g,valL g .len [jD b]= .int .i64 b.length:=λ_=>rfl
 have z2: ∀g,okL g .len [jD b]=True:=λ_=>eqt trivial
 have z3: ∀g,valL g .len [kz d]= .int .i64 d.length:=λ_=>rfl
 have z4: ∀g,okL g .len [kz d]=True:=λ_=>eqt trivial
 obtain⟨E,hE⟩:=wg (exE x l d b i)
 have hR:exR x l d b i=if E=0 then qrv x d (b.getD i.toNat default) (soK x l b i.toNat) else []:=by rw[hE];rfl
 rw[hR,<-hE];unfold exE at hE;unfold coC at c38
 by_cases g1:pvE x l b=0
 case neg=>
  rw[ipo g1]at hE;rw[hE,ine g1];have k1:(pvE x l b=0)=False:=eqf g1;refine acO qjd ?_;simp (disch:=omega) only[quk,coC,go_sem]
  repeat' first|(refine cA (c38 _) flk ?_;simp (disch:=omega) only[k1,go_sem])|exact wa|fail
 rw[ine (λhc=>hc g1)]at hE;simp only[g1]at c38
 by_cases g2:i<0
 ·have k2:(i<0)=True:=eqt g2;rw[ipo (.inl g2)]at hE;rw[hE,ine (by decide)];refine acO qjd ?_;simp (disch:=omega) only[quk,coC,go_sem]
  repeat' first|(refine cA (c38 _) flk ?_;simp (disch:=omega) only[z1,z2,k2,go_sem])|exact wa|fail
 have k2:(i<0)=False:=eqf g2
 by_cases g3:(b.length:Int)<=i
 ·have k3:((b.length:Int)<=i)=True:=eqt g3;rw[ipo (.inr g3)]at hE;rw[hE,ine (by decide)];refine acO qjd ?_;simp (disch:=omega) only[quk,coC,go_sem]
  repeat' first|(refine cA (c38 _) flk ?_;simp (disch:=omega) only[z1,z2,k2,k3,go_sem])|exact wa|fail
 have k3:((b.length:Int)<=i)=False:=eqf g3;rw[ine (λhc=>hc.elim g2 g3)]at hE;obtain⟨j,rfl⟩: ∃j:Nat,i=(j:Int):=⟨i.toNat,om⟩
 rw[itn]at hE ⊢;have hjl:j<b.length:=by omega
 have k0:(0<=(j:Int))=True:=wj;have k5:((j:Int)<b.length)=True:=wj;have zb:jD b= .sl b.length λi=>wdC (b.getD i default):=rfl
 have hpu:=qd4 g1 hjl;obtain⟨hSl,hSr⟩:=qkV g1 hjl;have htx:=(qkr g1).tx j hjl;have c84:=λh=>qqm x l b j h hu hb hjl om hpu.2
 obtain⟨S,hS⟩:=wg (soK x l b j)
 rw[<-hS]at hSl hSr;rw[<-hS];simp only[<-hS]at c84;unfold coC at c84;obtain⟨w,hw⟩:=wg (b.getD j default)
 have ew:=hw.symm;rw[ew]at hE hpu htx;rw[ew]
 by_cases g4:(d.length:Int)<=w.dec
 ·have k4:((d.length:Int)<=w.dec)=True:=eqt g4;rw[ipo g4]at hE;rw[hE,ine (by decide)];refine acO qjd ?_;simp (disch:=omega) only[quk,coC,zb,wdC,go_sem]
  repeat' first|(refine cA (c38 _) flk ?_;simp (disch:=omega) only[z3,z4,k2,k3,k0,k5,ew,k4,go_sem])|exact wa|fail
 have k4:((d.length:Int)<=w.dec)=False:=eqf g4;rw[ine g4]at hE;rw[hE,ipo rfl];clear hE hR;refine acO qjd ?_;simp (disch:=omega) only[quk,coC,zb,wdC,go_sem]
 repeat' first|(refine cA (c38 _) flk ?_;simp (disch:=omega) only[z3,z4,k2,k3,k0,k5,ew,k4,go_sem])
 refine⟨_,_,Wk.ownNil (j:=h.length+2) (i:=1) (k:=h.length+14) (v:=1) (ty:=160) (cs:= [.nilp,.nl]) (ve:=0) (sz:=1) ?m1 rfl ?m2,?_⟩
 case m1=>simp only[go_sem]
 case m2=>simp only[go_sem]
 simp (disch:=omega) only[List.set_cons_zero,List.set_cons_succ,go_sem];have hb1:w.text.length<=64:=htx.2;obtain⟨s1,hs1⟩: ∃s,s= []++ [w.text,[58,32]].flatten:=⟨_,rfl⟩
 have hl1:s1.length<=66:=by rw[hs1];simp;omega
 unfold qrv;rw[<-hs1];have hNl:(nmN x S).length<=1001∧ ∀s∈nmN x S,s.length<=1000:=by
  unfold nmN joN;split
  ·exact⟨by simp,λs hs=>by rw[List.mem_singleton.1 hs];simp⟩
  ·refine⟨by rw[List.length_map];omega,λs hs=> ?_⟩;obtain⟨y,_,rfl⟩:=List.mem_map.1 hs;exact hsl _
 have hNM0:nmN x S=if S= [] then [[110,111,32,115,111,117,114,99,101]] else joN x S:=rfl
 obtain⟨NM,hNM⟩: ∃N,N=nmN x S:=⟨_,rfl⟩
 rw[<-hNM]at hNl hNM0 ⊢;have hjn:=qdZ [32] 1000 NM hNl.2;obtain⟨J,hJ⟩:=wg (Lib.join NM [32])
 have hJl:(Lib.join NM [32]).length<=1002001:=by
  have e:NM.length*(([32]:Str).length+1000)<=1001*1001:=Nat.mul_le_mul hNl.1 (nlr _);omega
 have hNl1:=hNl.1;have hJ2:J.length<=1002001:=by rw[hJ];exact hJl
 obtain⟨s2,hs2⟩: ∃s,s=s1++ [J,[59,32]].flatten:=⟨_,rfl⟩
 have hl2:s2.length<=1002100:=by rw[hs2];simp;omega
 rw[<-hJ,<-hs2];refine qO (Si (h.length+2) 1 (h.length+14) 0 (h.length+3) 1 .nilp [] [w.text,[58,32]] _ om om om (by simp only[go_sem];try rfl) (by simp only[go_sem];try rfl) (.inl rfl) (by simp only[go_sem];try rfl) (by simp) (by simp) (by simp;omega)) ?_;rw[<-hs1];simp (disch:=omega) only[wrO,go_sem];have y1: ∀g,valL g .len [qy S]= .int .i64 S.length:=λ_=>rfl
 have y2: ∀g,okL g .len [qy S]=True:=λ_=>eqt trivial
 repeat' first|(refine cA (c84 _) flk ?_;simp (disch:=omega) only[y1,y2,go_sem])
 obtain⟨O3,hO3⟩: ∃O:AObj,O=AObj.mem 1 9 (AV.str w.text::AV.str [58,32]::List.drop 1 (List.drop 1 (zQ [AV.str []] 2))):=⟨_,rfl⟩
 rw[<-hO3];have eM:zQ [AV.str []] 0=jo (joN x (S.take 0)):=rfl;rw[eM];have hjl0: ∀k,k<=S.length->(joN x (S.take k)).length=k:=λk hk=>by unfold joN;rw[List.length_map,List.length_take];omega
 have zS:qy S= .sl S.length λi=> [.int .i64 (S.getD i 0)]:=rfl
 have zG:strs x.sig= .sl x.sig.length λi=> [.str (x.sig.getD i [])]:=rfl
 refine qu (T:=λs:XZ=>zf 127 [(2,kz d),(5,.op h.length 1 0),(13,.op (h.length+1) 1 0),(14,.op (h.length+2) 1 0),(15,.fn (.func 114) [.op (h.length+2) 1 0] []),(16,.osl (h.length+4) s.v 1 0 s.i),(57,qy S),(58,.int .i64 S.length),(59,.int .i64 s.i)])
  (H:=λs=>h++ [.mem 1 26 [.str x.sec,strs x.sig,qm x.tok,qp x.col],.mem 1 36 [AV.str w.text,AV.int .i64 w.col,AV.int .i64 w.unit,AV.int .i64 w.dec,AV.bool w.joined,AV.bool w.verse,AV.str w.name],.mem 1 160 [.op (h.length+2) 1 0,.osl (h.length+14) 2 1 0 s1.length],O3,.mem s.v 9 (jo (joN x (S.take s.i))),s.O,.emp 0,.emp 0,.emp 0,.emp 0,.emp 0,.emp 0,.emp 0,.emp 0,S7 2 s1])
  (inv:=λs=>s.i<=S.length∧qJ [s.O] 0=true) (m:=λs=>S.length-s.i) ⟨0,1,.emp 0⟩ ⟨nzl _,rfl⟩ (Wk.temps ?_) ?_
 ·(simp only[go_sem,qg,qc,qb,qf];try exact we)
 rintro⟨k,v,O⟩ ⟨q1,q2⟩ K hK;simp only at q1 q2 hK;have q2': ∀m,qJ (O::m) 0=true:=λ_=>q2
 have hjk:=hjl0 k q1
 by_cases hk:k<S.length
 ·have r1:((k:Int)<S.length)=True:=wj;have r0:(0<=(k:Int))=True:=wj;have hmm:S.getD k 0∈S:=by rw[gdqA,zn hk];exact List.getElem_mem hk
  obtain⟨y1,y2⟩:=hSr _ hmm;have hst:joN x (S.take (k+1))=joN x (S.take k)++ [x.sig.getD (S.getD k 0).toNat []]:=by
   unfold joN;rw[List.take_add_one,List.map_append,zn hk,gdqA (l:=S),zn hk];rfl
  obtain⟨y,hy⟩: ∃y:Nat,S.getD k 0=(y:Int):=⟨(S.getD k 0).toNat,om⟩
  rw[hy,itn]at hst;rw[hy]at y1 y2;have t1:((y:Int)<x.sig.length)=True:=eqt y2;have t0:(0<=(y:Int))=True:=eqt y1;obtain⟨u,hu'⟩:=wg (x.sig.getD y [])
  have eu:=hu'.symm;rw[eu]at hst;obtain⟨M,hM⟩:=wg (joN x (S.take k))
  rw[<-hM]at hst hjk;rw[<-hM];have eC:=jH M;rw[hjk]at eC;have eT:List.take k (jo M)=jo M:=ltl om;simp (disch:=omega) only[zS,zG,r0,r1,hy,t0,t1,eu,q2',eC,eT,Nat.mul_one,go_sem]
  repeat' first|with_reducible apply aiA|exact clz|fail
  have eA:jo M++ [AV.str u]=jo (joN x (S.take (k+1))):=by rw[hst,qcd];rfl
  have eD:(AV.str u::List.drop 1 (zQ [AV.str []] 1))= [AV.str u]:=rfl
  try rw[eD]
  rw[eA];refine hK _ _ ⟨k+1,v+1,.mem (qn (some O)+1) 9 [.str u]⟩ ⟨hk,rfl⟩ (by simp only;omega) (Wk.temps ?_)
  (simp only[zS,go_sem,qg,qc,qb,qf];try exact we)
 obtain rfl:k=S.length:=by omega
 clear hK;have r1:((S.length:Int)<S.length)=False:=wm;rw[List.take_length]at hjk ⊢
 by_cases h0:S= []
 ·have r2:((S.length:Int)=0)=True:=eqt (by rw[h0];rfl);rw[ipo h0]at hNM0;have hjz:joN x S= []:=by rw[h0];rfl
  have hSz:S.length=0:=by rw[h0];rfl
  rw[hjz,hSz];have eS0:jo ([]:List Str)= []:=rfl;rw[hSz]at r1 r2;have hNL:NM.length=1:=by rw[hNM0];rfl
  have eNM: [AV.str [110,111,32,115,111,117,114,99,101]]=jo NM:=by rw[hNM0];rfl
  simp (disch:=omega) only[r1,r2,eS0,Nat.mul_one,go_sem]
  repeat' first|with_reducible apply aiA|exact clz|fail
  try rw[eNM]
  refine cA (joB (L:=NM) (sep:= [32]) ?v1 om om) ?v2 ?v3
  case v2=>exact flk
  case v1=>
   simp only[List.map,go_sem]
   first
    |exact⟨slM_str (λ_=>rfl) hNL.symm,qi,trivial⟩
    |(rw[ipo (by rw[jH];exact Nat.le_of_eq hNL.symm)];exact⟨qce _ (λ_=>rfl) hNL.symm,qi,trivial⟩)
  case v3=>
  rw[<-hJ];simp (disch:=omega) only[List.set_cons_zero,go_sem];unfold tlL
  by_cases u1:w.unit<0
  ·have e1:(w.unit<0)=True:=eqt u1;rw[ipo u1];refine qO (Si (h.length+2) 1 (h.length+14) 2 (h.length+9) 1 (.op (h.length+2) 1 0) s1 [J,[59,32]] _ om om om (by simp only[go_sem];try rfl) (by simp only[go_sem];try rfl) (.inr rfl) (by simp only[go_sem];try rfl) (by simp) (by simp) (by simp;omega)) ?_;rw[<-hs2];simp (disch:=omega) only[wrO,e1,go_sem];obtain⟨s3,hs3⟩: ∃s,s=s2++([[99,111,109,109,111,110]]:List Str).flatten:=⟨_,rfl⟩
   rw[<-hs3];refine qO (Si (h.length+2) 1 (h.length+14) 4 (h.length+10) 1 (.op (h.length+2) 1 0) s2 [[99,111,109,109,111,110]] _ om om om (by simp only[go_sem];try rfl) (by simp only[go_sem];try rfl) (.inr rfl) (by simp only[go_sem];try rfl) (by simp) (by simp) (by simp;omega)) ?_;rw[<-hs3];simp (disch:=omega) only[wrO,go_sem];refine qv (qqn (h.length+2) 1 (h.length+14) 5 (.op (h.length+2) 1 0) s3 _ om (by simp only[go_sem];try rfl) (by simp only[go_sem];try rfl)) (by exact flk) ?_;simp (disch:=omega) only[go_sem]
   repeat' first|exact wa|fail
  have e1:(w.unit<0)=False:=eqf u1;rw[ine u1]
  by_cases u2:w.dec<0
  ·have e2:(w.dec<0)=True:=eqt u2;rw[ipo u2];refine qO (Si (h.length+2) 1 (h.length+14) 2 (h.length+9) 1 (.op (h.length+2) 1 0) s1 [J,[59,32]] _ om om om (by simp only[go_sem];try rfl) (by simp only[go_sem];try rfl) (.inr rfl) (by simp only[go_sem];try rfl) (by simp) (by simp) (by simp;omega)) ?_;rw[<-hs2];simp (disch:=omega) only[wrO,e1,e2,go_sem];obtain⟨s3,hs3⟩: ∃s,s=s2++([[108,101,97,100,105,110,103,32,115,111,117,114,99,101]]:List Str).flatten:=⟨_,rfl⟩
   rw[<-hs3];refine qO (Si (h.length+2) 1 (h.length+14) 4 (h.length+11) 1 (.op (h.length+2) 1 0) s2 [[108,101,97,100,105,110,103,32,115,111,117,114,99,101]] _ om om om (by simp only[go_sem];try rfl) (by simp only[go_sem];try rfl) (.inr rfl) (by simp only[go_sem];try rfl) (by simp) (by simp) (by simp;omega)) ?_;rw[<-hs3];simp (disch:=omega) only[wrO,go_sem];refine qv (qqn (h.length+2) 1 (h.length+14) 5 (.op (h.length+2) 1 0) s3 _ om (by simp only[go_sem];try rfl) (by simp only[go_sem];try rfl)) (by exact flk) ?_;simp (disch:=omega) only[go_sem]
   repeat' first|exact wa|fail
  have e2:(w.dec<0)=False:=eqf u2;rw[ine u2];have hdc:w.dec<d.length:=by omega
  have c86:=λl'=>t48 w.dec (h++l') (SG.pow (hp.app l')) om om
  have hil:=qbh (n:=w.dec) om om;obtain⟨I,hI⟩:=wg (Lib.itoa w.dec)
  rw[<-hI]at hil;simp only[<-hI]at c86 ⊢;have hsg:=hds w.dec.toNat;obtain⟨D,hD⟩:=wg (d.getD w.dec.toNat default)
  have eD:=hD.symm;rw[eD]at hsg ⊢;have zd:kz d= .sl d.length λi=>dcC (d.getD i default):=rfl
  have e3:(0<=w.dec)=True:=wj;have e4:(w.dec<d.length)=True:=eqt hdc
  by_cases u3:D.kind=1
  ·have e5:(D.kind=1)=True:=eqt u3;rw[ipo u3];refine qO (Si (h.length+2) 1 (h.length+14) 2 (h.length+9) 1 (.op (h.length+2) 1 0) s1 [J,[59,32]] _ om om om (by simp only[go_sem];try rfl) (by simp only[go_sem];try rfl) (.inr rfl) (by simp only[go_sem];try rfl) (by simp) (by simp) (by simp;omega)) ?_;rw[<-hs2];simp (disch:=omega) only[wrO,e1,e2,e3,e4,e5,zd,dcC,eD,go_sem]
   repeat' first|(refine cA (c86 _) flk ?_;simp (disch:=omega) only[e3,e4,eD,List.set_cons_zero,go_sem])
   obtain⟨s3,hs3⟩: ∃s,s=s2++([[100,101,99,105,115,105,111,110,32],I,[44,32,99,104,111,105,99,101,32,111,102,32],D.sig]:List Str).flatten:=⟨_,rfl⟩
   rw[<-hs3];refine qO (Si (h.length+2) 1 (h.length+14) 4 (h.length+12) 1 (.op (h.length+2) 1 0) s2 [[100,101,99,105,115,105,111,110,32],I,[44,32,99,104,111,105,99,101,32,111,102,32],D.sig] _ om om om (by simp only[go_sem];try rfl) (by simp only[go_sem];try rfl) (.inr rfl) (by simp only[go_sem];try rfl) (by simp) (by simp) (by simp;omega)) ?_;rw[<-hs3];simp (disch:=omega) only[wrO,go_sem];refine qv (qqn (h.length+2) 1 (h.length+14) 8 (.op (h.length+2) 1 0) s3 _ om (by simp only[go_sem];try rfl) (by simp only[go_sem];try rfl)) (by exact flk) ?_;simp (disch:=omega) only[go_sem]
   repeat' first|exact wa|fail
  have e5:(D.kind=1)=False:=eqf u3;rw[ine u3];refine qO (Si (h.length+2) 1 (h.length+14) 2 (h.length+9) 1 (.op (h.length+2) 1 0) s1 [J,[59,32]] _ om om om (by simp only[go_sem];try rfl) (by simp only[go_sem];try rfl) (.inr rfl) (by simp only[go_sem];try rfl) (by simp) (by simp) (by simp;omega)) ?_;rw[<-hs2];simp (disch:=omega) only[wrO,e1,e2,e3,e4,e5,zd,dcC,eD,go_sem]
  repeat' first|(refine cA (c86 _) flk ?_;simp (disch:=omega) only[List.set_cons_zero,go_sem])
  obtain⟨s3,hs3⟩: ∃s,s=s2++([[100,101,99,105,115,105,111,110,32],I,[44,32,99,111,110,106,101,99,116,117,114,101]]:List Str).flatten:=⟨_,rfl⟩
  rw[<-hs3];refine qO (Si (h.length+2) 1 (h.length+14) 4 (h.length+13) 1 (.op (h.length+2) 1 0) s2 [[100,101,99,105,115,105,111,110,32],I,[44,32,99,111,110,106,101,99,116,117,114,101]] _ om om om (by simp only[go_sem];try rfl) (by simp only[go_sem];try rfl) (.inr rfl) (by simp only[go_sem];try rfl) (by simp) (by simp) (by simp;omega)) ?_;rw[<-hs3];simp (disch:=omega) only[wrO,go_sem];refine qv (qqn (h.length+2) 1 (h.length+14) 7 (.op (h.length+2) 1 0) s3 _ om (by simp only[go_sem];try rfl) (by simp only[go_sem];try rfl)) (by exact flk) ?_;simp (disch:=omega) only[go_sem]
  repeat' first|exact wa|fail
 ·have r2:((S.length:Int)=0)=False:=eqf (λhc=>h0 (List.length_eq_zero_iff.1 om));rw[ine h0]at hNM0;have hNL:NM.length=S.length:=by rw[hNM0];exact hjk
  rw[<-hNM0];simp (disch:=omega) only[r1,r2,go_sem];refine cA (joB (L:=NM) (sep:= [32]) ?v1 om om) ?v2 ?v3
  case v2=>exact flk
  case v1=>
   simp only[List.map,go_sem]
   first
    |exact⟨slM_str (λ_=>rfl) hNL.symm,qi,trivial⟩
    |(rw[ipo (by rw[jH];exact Nat.le_of_eq hNL.symm)];exact⟨qce _ (λ_=>rfl) hNL.symm,qi,trivial⟩)
  case v3=>
  rw[<-hJ];simp (disch:=omega) only[List.set_cons_zero,go_sem];unfold tlL
  by_cases u1:w.unit<0
  ·have e1:(w.unit<0)=True:=eqt u1;rw[ipo u1];refine qO (Si (h.length+2) 1 (h.length+14) 2 (h.length+9) 1 (.op (h.length+2) 1 0) s1 [J,[59,32]] _ om om om (by simp only[go_sem];try rfl) (by simp only[go_sem];try rfl) (.inr rfl) (by simp only[go_sem];try rfl) (by simp) (by simp) (by simp;omega)) ?_;rw[<-hs2];simp (disch:=omega) only[wrO,e1,go_sem];obtain⟨s3,hs3⟩: ∃s,s=s2++([[99,111,109,109,111,110]]:List Str).flatten:=⟨_,rfl⟩
   rw[<-hs3];refine qO (Si (h.length+2) 1 (h.length+14) 4 (h.length+10) 1 (.op (h.length+2) 1 0) s2 [[99,111,109,109,111,110]] _ om om om (by simp only[go_sem];try rfl) (by simp only[go_sem];try rfl) (.inr rfl) (by simp only[go_sem];try rfl) (by simp) (by simp) (by simp;omega)) ?_;rw[<-hs3];simp (disch:=omega) only[wrO,go_sem];refine qv (qqn (h.length+2) 1 (h.length+14) 5 (.op (h.length+2) 1 0) s3 _ om (by simp only[go_sem];try rfl) (by simp only[go_sem];try rfl)) (by exact flk) ?_;simp (disch:=omega) only[go_sem]
   repeat' first|exact wa|fail
  have e1:(w.unit<0)=False:=eqf u1;rw[ine u1]
  by_cases u2:w.dec<0
  ·have e2:(w.dec<0)=True:=eqt u2;rw[ipo u2];refine qO (Si (h.length+2) 1 (h.length+14) 2 (h.length+9) 1 (.op (h.length+2) 1 0) s1 [J,[59,32]] _ om om om (by simp only[go_sem];try rfl) (by simp only[go_sem];try rfl) (.inr rfl) (by simp only[go_sem];try rfl) (by simp) (by simp) (by simp;omega)) ?_;rw[<-hs2];simp (disch:=omega) only[wrO,e1,e2,go_sem];obtain⟨s3,hs3⟩: ∃s,s=s2++([[108,101,97,100,105,110,103,32,115,111,117,114,99,101]]:List Str).flatten:=⟨_,rfl⟩
   rw[<-hs3];refine qO (Si (h.length+2) 1 (h.length+14) 4 (h.length+11) 1 (.op (h.length+2) 1 0) s2 [[108,101,97,100,105,110,103,32,115,111,117,114,99,101]] _ om om om (by simp only[go_sem];try rfl) (by simp only[go_sem];try rfl) (.inr rfl) (by simp only[go_sem];try rfl) (by simp) (by simp) (by simp;omega)) ?_;rw[<-hs3];simp (disch:=omega) only[wrO,go_sem];refine qv (qqn (h.length+2) 1 (h.length+14) 5 (.op (h.length+2) 1 0) s3 _ om (by simp only[go_sem];try rfl) (by simp only[go_sem];try rfl)) (by exact flk) ?_;simp (disch:=omega) only[go_sem]
   repeat' first|exact wa|fail
  have e2:(w.dec<0)=False:=eqf u2;rw[ine u2];have hdc:w.dec<d.length:=by omega
  have c86:=λl'=>t48 w.dec (h++l') (SG.pow (hp.app l')) om om
  have hil:=qbh (n:=w.dec) om om;obtain⟨I,hI⟩:=wg (Lib.itoa w.dec)
  rw[<-hI]at hil;simp only[<-hI]at c86 ⊢;have hsg:=hds w.dec.toNat;obtain⟨D,hD⟩:=wg (d.getD w.dec.toNat default)
  have eD:=hD.symm;rw[eD]at hsg ⊢;have zd:kz d= .sl d.length λi=>dcC (d.getD i default):=rfl
  have e3:(0<=w.dec)=True:=wj;have e4:(w.dec<d.length)=True:=eqt hdc
  by_cases u3:D.kind=1
  ·have e5:(D.kind=1)=True:=eqt u3;rw[ipo u3];refine qO (Si (h.length+2) 1 (h.length+14) 2 (h.length+9) 1 (.op (h.length+2) 1 0) s1 [J,[59,32]] _ om om om (by simp only[go_sem];try rfl) (by simp only[go_sem];try rfl) (.inr rfl) (by simp only[go_sem];try rfl) (by simp) (by simp) (by simp;omega)) ?_;rw[<-hs2];simp (disch:=omega) only[wrO,e1,e2,e3,e4,e5,zd,dcC,eD,go_sem]
   repeat' first|(refine cA (c86 _) flk ?_;simp (disch:=omega) only[e3,e4,eD,List.set_cons_zero,go_sem])
   obtain⟨s3,hs3⟩: ∃s,s=s2++([[100,101,99,105,115,105,111,110,32],I,[44,32,99,104,111,105,99,101,32,111,102,32],D.sig]:List Str).flatten:=⟨_,rfl⟩
   rw[<-hs3];refine qO (Si (h.length+2) 1 (h.length+14) 4 (h.length+12) 1 (.op (h.length+2) 1 0) s2 [[100,101,99,105,115,105,111,110,32],I,[44,32,99,104,111,105,99,101,32,111,102,32],D.sig] _ om om om (by simp only[go_sem];try rfl) (by simp only[go_sem];try rfl) (.inr rfl) (by simp only[go_sem];try rfl) (by simp) (by simp) (by simp;omega)) ?_;rw[<-hs3];simp (disch:=omega) only[wrO,go_sem];refine qv (qqn (h.length+2) 1 (h.length+14) 8 (.op (h.length+2) 1 0) s3 _ om (by simp only[go_sem];try rfl) (by simp only[go_sem];try rfl)) (by exact flk) ?_;simp (disch:=omega) only[go_sem]
   repeat' first|exact wa|fail
  have e5:(D.kind=1)=False:=eqf u3;rw[ine u3];refine qO (Si (h.length+2) 1 (h.length+14) 2 (h.length+9) 1 (.op (h.length+2) 1 0) s1 [J,[59,32]] _ om om om (by simp only[go_sem];try rfl) (by simp only[go_sem];try rfl) (.inr rfl) (by simp only[go_sem];try rfl) (by simp) (by simp) (by simp;omega)) ?_;rw[<-hs2];simp (disch:=omega) only[wrO,e1,e2,e3,e4,e5,zd,dcC,eD,go_sem]
  repeat' first|(refine cA (c86 _) flk ?_;simp (disch:=omega) only[List.set_cons_zero,go_sem])
  obtain⟨s3,hs3⟩: ∃s,s=s2++([[100,101,99,105,115,105,111,110,32],I,[44,32,99,111,110,106,101,99,116,117,114,101]]:List Str).flatten:=⟨_,rfl⟩
  rw[<-hs3];refine qO (Si (h.length+2) 1 (h.length+14) 4 (h.length+13) 1 (.op (h.length+2) 1 0) s2 [[100,101,99,105,115,105,111,110,32],I,[44,32,99,111,110,106,101,99,116,117,114,101]] _ om om om (by simp only[go_sem];try rfl) (by simp only[go_sem];try rfl) (.inr rfl) (by simp only[go_sem];try rfl) (by simp) (by simp) (by simp;omega)) ?_;rw[<-hs3];simp (disch:=omega) only[wrO,go_sem];refine qv (qqn (h.length+2) 1 (h.length+14) 7 (.op (h.length+2) 1 0) s3 _ om (by simp only[go_sem];try rfl) (by simp only[go_sem];try rfl)) (by exact flk) ?_;simp (disch:=omega) only[go_sem]
  repeat' first|exact wa|fail
def qoD:Str:= [101,114,97,116]
def yC:Co:=⟨[73],[[65],[66]],[[tkS qoC,tkS qBM],[tkS qoC,tkS qoD]],[[0,0],[1,1]]⟩
def yL:List Un:= [⟨1,2,[⟨[qBM],[0]⟩,⟨[qoD],[1]⟩]⟩]
def yD:List Dc:= [⟨1,[66],1,[]⟩]
def yB:List Wd:= [⟨qoC,0,-1,-1,false,false,[]⟩,⟨qoD,1,0,0,false,false,[]⟩]
theorem qCG:soE yC yL yB 1=0∧soL yC yL yB 1= [1]:=by decide+kernel
theorem qCH:exE yC yL yD yB 0=0∧exR yC yL yD yB 0= [100,101,117,115,58,32,65,32,66,59,32,99,111,109,109,111,110]:=by decide+kernel
theorem qCI:exE yC yL yD yB 1=0∧exR yC yL yD yB 1= [101,114,97,116,58,32,66,59,32,100,101,99,105,115,105,111,110,32,48,44,32,99,104,111,105,99,101,32,111,102,32,66]:=by decide+kernel
theorem qBS(s:Str)(h:wh):ACalls Tryz.prog 156 [.str s] h (.agg (tkC (tkS s))) h:=by
 unfold tkS tkC;refine acO qwW ?_;simp (disch:=omega) only[qu9,go_sem]
 repeat' first|exact wa|fail
theorem qC8(h:wh):ACalls Tryz.prog 111 [] h (.tup [.agg (coC yC),zA yL,kz yD,jD yB]) h:=by
 have c1:=λs h=>qBS s h
 unfold tkS tkC at c1;refine acO qwA ?_;simp (disch:=omega) only[quP,go_sem]
 repeat' first|(refine qE (c1 qoC _) ?_;simp (disch:=omega) only[go_sem])|(refine qE (c1 qBM _) ?_;simp (disch:=omega) only[go_sem])|(refine qE (c1 qoD _) ?_;simp (disch:=omega) only[go_sem])|(apply qa;exact rvk;simp only[go_sem])
 refine qaj ⟨VLe.agg ⟨qi,vl2 ⟨ie rfl,trivial⟩ ⟨ie rfl,trivial⟩,vl2 ⟨?a1,trivial⟩ ⟨?a2,trivial⟩,vl2 ⟨?a3,trivial⟩ ⟨?a4,trivial⟩,trivial⟩,vl1 ⟨ie rfl,ie rfl,?b1,trivial⟩,vl1 ⟨ie rfl,ie rfl,ie rfl,ie rfl,trivial⟩,
  vl2 ⟨ie rfl,ie rfl,ie rfl,ie rfl,ie rfl,ie rfl,ie rfl,trivial⟩ ⟨ie rfl,ie rfl,ie rfl,ie rfl,ie rfl,ie rfl,ie rfl,trivial⟩,trivial⟩
 case a1=>simp only[go_sem];exact il2 rfl rfl
 case a2=>simp only[go_sem];exact il2 rfl rfl
 case a3=>simp only[go_sem];exact il2 rfl rfl
 case a4=>simp only[go_sem];exact il2 rfl rfl
 case b1=>
  simp only[go_sem];refine im2 ⟨?u1,?u2,trivial⟩ ⟨?u3,?u4,trivial⟩
  all_goals
   simp only[go_sem];exact il1 rfl
def gWb(b:List Wd)(i:Nat):Bool:=decide (66<(b.getD i default).text.length)||decide (20<(b.getD i default).name.length)
def qCs(b:List Wd):Bool:=jp (gWb b) b.length||decide (12<b.length)
def qBk(x:Co)(l:List Un)(b:List Wd):Bool:=qpX x||(qBj l||qCs b)
theorem qyc{x:Co}{l:List Un}{b:List Wd}(h:qBk x l b=false):qaN x∧qbx l∧b.length<=12∧(∀i,(b.getD i default).text.length<=66)∧x.sig.length<=36:=by
 unfold qBk qCs at h;simp only[Bool.or_eq_false_iff,decide_eq_false_iff_not]at h;obtain⟨h1,h2,h3,h4⟩:=h;obtain⟨o1,_,o3⟩:=qjh h1;obtain⟨u1,_⟩:=qyb h2;refine⟨o1,u1,om,?_,o3⟩;refine jf b (λw=>w.text.length<=66) (by decide) λi hi=> ?_
 have:=qt.1 h3 i hi
 unfold gWb at this;rw[Bool.or_eq_false_iff]at this
 have:=of_decide_eq_false this.1
 omega
theorem qEd:qBk yC yL yB=false:=by decide+kernel
theorem qAh(h:wh)(hp:kY SG h):ACalls Tryz.prog 56 [] h (.bool true) h:=by
 have c1:=λh=>qC8 h
 obtain⟨o1,o2,o3,o4,o5⟩:=qyc qEd;have o4': ∀i,(yB.getD i default).text.length<=1000000000:=λi=>by have:=o4 i;omega
 have ysg: ∀s,(yC.sig.getD s []).length<=1000:=jf yC.sig (λs=>s.length<=1000) (by decide) (by decide);have yds: ∀j,(yD.getD j default).sig.length<=1000000:=jf yD (λd=>d.sig.length<=1000000) (by decide) (by decide);have c2:=λl'=>qlb yC yL yB 1 (h++l') o1 o2 om o4' om (hp.app l')
 have c3:=λl'=>qiR yC yL yD yB 0 (h++l') o1 o2 om o4' om ysg (by decide) yds (hp.app l')
 have c4:=λl'=>qiR yC yL yD yB 1 (h++l') o1 o2 om o4' om ysg (by decide) yds (hp.app l')
 rw[qCG.1,qCG.2]at c2;rw[qCH.1,qCH.2]at c3;rw[qCI.1,qCI.2]at c4;have c5:=λh=>qCq [1] [1] h (by decide) (by decide)
 rw[dqt rfl]at c5;unfold coC at c1 c2 c3 c4;refine acO qA7 ?_;simp (disch:=omega) only[qCf,go_sem]
 repeat' first|((first|refine cA (c1 _) ?_ ?_|refine cA (c2 _) ?_ ?_|refine cA (c3 _) ?_ ?_|refine cA (c4 _) ?_ ?_);exact flk;simp (disch:=omega) only[go_sem])|with_reducible apply aiA|exact clz|fail
 refine cG (λ_=>qC3 (L:= [1]) ?v1 (by decide)) ?v2 ?v3
 case v2=>exact flk
 case v1=>
  simp only[List.map,go_sem];exact⟨qi,VLe.sl_eq rfl (λi hi=>by
   obtain rfl:i=0:=by omega
   rfl),trivial⟩
 case v3=>
 simp (disch:=omega) only[go_sem]
 repeat' first|exact wa|fail
end RC
end
section
open Go Go.Proofs AF
end
section
open Go Go.Proofs AF HY LN
namespace RC
theorem qAE(h:wh):ACalls Tryz.prog 82 [.nl] h .nl h:=by
 refine acO qrH ?_;simp (disch:=omega) only[qz5,go_sem]
 repeat' first|exact wa|fail
theorem qDD(a:Int)(h:wh):ACalls Tryz.prog 79 [qy [a],.int .i64 0] h (qy []) h:=by
 have s1:=λh=>qag h [a]
 have c1:=λh=>qCw 0 h om
 have z1: ∀g,valL g .len [qy [a]]= .int .i64 1:=λ_=>rfl
 have z2: ∀g,okL g .len [qy [a]]=True:=λ_=>eqt trivial
 have e5:IntKind.u64.wrap 1=1:=by decide
 have e6:IntKind.u64.wrap 0=0:=by decide
 rw[show ((0:Nat):Int)=0 from rfl]at c1;refine acO qx2 ?_;simp (disch:=omega) only[qAv,z1,z2,e5,e6,go_sem]
 repeat' first|(refine cA (c1 _) flk ?_;simp (disch:=omega) only[s1,go_sem])|(with_reducible first|intro _|apply aiA)|exact clz|fail
 ·rfl
 refine qu (T:=λ_:Unit=>zf 48 [(7,.osl (h.length+1) 1 1 0 0),(8,.int .i64 0)]) (H:=λ_=>h++ [.emp 1,.mem 1 3 []])
  (inv:=λ_=>True) (m:=λ_=>0) () trivial (Wk.temps ?_) ?_
 ·(simp only[go_sem,qg,qc,qb,qf];try exact we)
 rintro⟨⟩-K hK;have q1:((0:Int)<0)=False:=wm;simp (disch:=omega) only[go_sem]
 repeat' first|(apply qa;exact rvk;simp only[go_sem])|(with_reducible first|intro _|apply aiA)|exact clz|fail
 exact VLe.sl_eq rfl (λi hi=>absurd hi (nnz _))
theorem qy3{hh:wh}{j v:Nat}(a:Int)(cs:wi)(hj:qr j hh=some (.mem v 3 (.int .i64 a::cs))):
  ACalls Tryz.prog 79 [.osl j v 1 0 1,.int .i64 0] hh (qy []) (qq j hh (.emp (v+1))):=by
 have hs:qJ hh j=true:=by unfold qJ;rw[hj]
 have e1:qaU [j] hh=qq j hh (.emp (v+1)):=by show qq j hh (.emp (qn (qr j hh)+1))=_;rw[hj];rfl
 refine ACalls.frzd [j] (by show (qJ hh j&&true)=true;rw[hs];rfl) ?_;rw[e1];refine (qDD a _).le ⟨?_,qi,trivial⟩ (qi);have hc:=qG hj;have e: [j].contains j=true:=by simp
 simp only[go_sem,e,if_true,hc];rw[hj,slOf_mem,ipo ⟨rfl,by simp⟩];refine VLe.sl_eq rfl (λi hi=> ?_);obtain rfl:i=0:=by omega
 rfl
theorem qAX(x:Co)(d:List Dc)(s:Int)(h:wh)(hz:qaN x)(hp:kY SG h)(hg:jh h frmN frmC)(hd:d.length<=1000000)(ht: ∀o∈d,o.txt.length<=1000)(hN0:vaE x []=0->(rwA x [] d s.toNat).length<=1000000000):
  ACalls Tryz.prog 25 [.agg (coC x),.nl,kz d,.int .i64 s] h (.tup [jD (esR x [] d s),.int .i64 (esE x [] d s)]) h:=by
 have hu:qbx []:=⟨by simp,λi=>by simp;exact nzl _,λi j=>by simp;exact nzl _,λi j=>by simp;exact nzl _⟩
 have c1:=λl'=>(qq8 x [] (h++l') hz hu (hp.app l')).le (args:= [.agg (coC x),.nl]) ⟨qi,qW,trivial⟩ (qi)
 have zu: ∀g l,valL g .len [zA l]= .int .i64 l.length:=λ_ _=>rfl
 have zv: ∀g l,okL g .len [zA l]=True:=λ_ _=>eqt trivial
 have zu1: ∀g l,valL g .len [strs l]= .int .i64 l.length:=λ_ _=>rfl
 have zv1: ∀g l,okL g .len [strs l]=True:=λ_ _=>eqt trivial
 have hE:esE x [] d s=(if vaE x []≠0 then vaE x [] else if s<0∨(x.sig.length:Int)<=s then 2 else if Ur x [] d≠0 then Ur x [] d else if 1024<(rwA x [] d s.toNat).length then 4 else 0):=rfl;unfold esR
 by_cases g:vaE x []=0
 case neg=>
  have k1:(vaE x []=0)=False:=eqf g;rw[ipo g]at hE;rw[hE,ine g];unfold coC at c1;refine acO S8 ?_;simp (disch:=omega) only[qdA,coC,go_sem]
  repeat' first|(refine cA (c1 _) flk ?_;simp (disch:=omega) only[k1,go_sem])|(apply qa;exact rvk;simp only[go_sem])
  exact VLe.tup ⟨qW,qi,trivial⟩
 rw[ine (by simpa using g)]at hE;have hN:=hN0 g;simp only[g]at c1;obtain⟨hca,hus,hcv⟩:=qdu g;have ho:=SU hca
 by_cases g2:s<0
 ·have k2:(s<0)=True:=eqt g2;rw[ipo (.inl g2)]at hE;rw[hE,ine (by decide)];unfold coC at c1;refine acO S8 ?_;simp (disch:=omega) only[qdA,coC,go_sem]
  repeat' first|(refine cA (c1 _) flk ?_;simp (disch:=omega) only[k2,go_sem])|(apply qa;exact rvk;simp only[go_sem])
  exact VLe.tup ⟨qW,qi,trivial⟩
 have k2:(s<0)=False:=eqf g2
 by_cases g3:(x.sig.length:Int)<=s
 ·have k3:((x.sig.length:Int)<=s)=True:=eqt g3;rw[ipo (.inr g3)]at hE;rw[hE,ine (by decide)];unfold coC at c1;refine acO S8 ?_;simp (disch:=omega) only[qdA,coC,go_sem]
  repeat' first|(refine cA (c1 _) flk ?_;simp (disch:=omega) only[k2,k3,zu1,zv1,go_sem])|(apply qa;exact rvk;simp only[go_sem])
  exact VLe.tup ⟨qW,qi,trivial⟩
 have k3:((x.sig.length:Int)<=s)=False:=eqf g3;rw[ine (λe=>e.elim g2 g3)]at hE;have c2:=λl'=>(qBG x [] d (h++l') hz hu (hp.app l') hg.app hca hd ht).le (args:= [.agg (coC x),.nl,kz d]) ⟨qi,qW,qi,trivial⟩ (qi)
 unfold qyN at c2
 by_cases g4:Ur x [] d=0
 case neg=>
  have k4:(Ur x [] d=0)=False:=eqf g4;simp only[ine g4]at c2;rw[ipo g4]at hE;rw[hE,ine g4];unfold coC at c1 c2;refine acO S8 ?_;simp (disch:=omega) only[qdA,coC,go_sem]
  repeat' first|((first|refine cA (c1 _) ?_ ?_|refine cA (c2 _) ?_ ?_);exact flk;simp (disch:=omega) only[k2,k3,k4,zu1,zv1,go_sem])|(apply qa;exact rvk;simp only[go_sem])|with_reducible apply aiA|exact clz|fail
  exact VLe.tup ⟨qW,qi,trivial⟩
 rw[ine (by simpa using g4)]at hE;simp only[g4,if_true]at c2;rw[hE];unfold coC at c1 c2;refine acO S8 ?_;simp (disch:=omega) only[qdA,coC,go_sem]
 repeat' first|((first|refine cA (c1 _) ?_ ?_|refine cA (c2 _) ?_ ?_);exact flk;simp (disch:=omega) only[k2,k3,zu1,zv1,go_sem])|with_reducible apply aiA|exact clz|fail
 have hd0:d= []:=by
  cases d with
  |nil=>rfl
  |cons o r=>
   exfalso
   have:=g4
   unfold Ur at this;split at this
   ·cases this
   ·have h0:=jq.1 this 0 (by simp);have h1:=(Sm h0).2.2.2.2.1;have h2:FU x [] ((o::r).getD 0 default)= -1:=rfl;omega
 subst hd0;have zi: ∀g l,valL g .len [qy l]= .int .i64 l.length:=λ_ _=>rfl
 have zj: ∀g l,okL g .len [qy l]=True:=λ_ _=>eqt trivial
 have ePL:(plG x [] [] ([]:List Dc).length).length=0:=rfl;refine qv (qy3 (j:=h.length+2) (-1) (List.drop 1 (zQ [.int .i64 0] 1)) ?j1) (by exact flk) ?_
 case j1=>simp only[go_sem]
 simp (disch:=omega) only[zi,zj,go_sem];refine qu (T:=λ_:Unit=>zf 154 [(1,.nl),(3,.int .i64 s),(4,.op h.length 1 0),(13,qy []),(56,.int .i64 0),(57,.int .i64 0)])
  (H:=λ_=>h++ [.mem 1 26 [.str x.sec,strs x.sig,qm x.tok,qp x.col],.emp 1,.emp 2,.emp 0,.emp 0,.emp 0,.emp 0,.emp 0,.emp 0,.emp 0,.emp 0,.emp 0,.emp 0,.emp 0,.emp 0,.emp 0])
  (inv:=λ_=>True) (m:=λ_=>0) () trivial (Wk.temps ?_) ?_
 ·(simp only[go_sem,qg,qc,qb,qf];try exact we)
 rintro⟨⟩-K hK;have q1:((0:Int)<0)=False:=wm;simp (disch:=omega) only[q1,go_sem];refine⟨_,_,Wk.ownNil (j:=h.length+3) (i:=0) (k:=h.length+15) (v:=1) (ty:=29) (cs:= [.nl]) (ve:=0) (sz:=7) ?m1 rfl ?m2,?_⟩
 case m1=>simp only[go_sem]
 case m2=>simp only[go_sem]
 simp (disch:=omega) only[List.set_cons_zero,go_sem];have bne5:(h.length+6 !=h.length+5)=true:=by simp
 have zc: ∀g l,valL g .len [qp l]= .int .i64 l.length:=λ_ _=>rfl
 have zd: ∀g l,okL g .len [qp l]=True:=λ_ _=>eqt trivial
 refine jV ?T ?H ?h1 ?h2
 case h1=>
  simp (disch:=omega) only[zc,zd,go_sem]
  repeat' first|(with_reducible apply aiA)|(refine qv (qAE _) (by exact flk) ?_;simp (disch:=omega) only[zc,zd,go_sem])
  all_goals first
   |omega
   |rfl
   |exact bne5
 case h2=>
 simp (disch:=omega) only[go_sem];obtain⟨S,hS⟩: ∃S:Nat,s=S:=⟨s.toNat,om⟩
 subst hS;rw[itn]at hN ⊢;have hSl:S<x.sig.length:=by omega
 obtain⟨MC,hMC⟩:=wg ( [AV.int .i64 x.col.length,.int .i64 x.col.length,.nl])
 rw[<-hMC];obtain⟨O5,hO5⟩:=wg (AObj.mem 1 64 (AV.int .i64 x.col.length:: .int .i64 x.col.length:: .nl::List.drop 3 (zQ [.int .i64 0,.int .i64 0,.nl] 1)))
 rw[<-hO5];obtain⟨X0,hX0⟩:=wg (AObj.mem 1 26 [.str x.sec,strs x.sig,qm x.tok,qp x.col])
 have lX0: ∀n,lowO n X0:=by
  intro n;rw[hX0];intro c hc;simp at hc;rcases hc with rfl|rfl|rfl|rfl<;>rfl
 refine qu (T:=λi:EsS=>zf 154 [(1,.nl),(3,.int .i64 (S:Int)),(4,.op h.length 1 0),(13,qy []),(16,.op (h.length+3) 1 0),(17,.op (h.length+4) 1 0),(18,.int .i64 (nxT x [] i.k:Int)),(78,.osl (h.length+6) 1 3 0 1),(79,.int .i64 1),(80,.int .i64 i.k)])
  (H:=λi=>h++ [.mem 1 26 [.str x.sec,strs x.sig,qm x.tok,qp x.col],.emp 1,.emp 2,.mem 1 29 [.osl (h.length+15) i.vb 7 0 (rwK x [] [] S i.k).length],.mem 1 121 [.fn (.func 80) [] [.op (h.length+3) 1 0]],O5,.mem 1 64 MC,i.O7,i.O8,i.O9,i.O10,i.O11,i.O12,.emp 0,.emp 0,qZ i.vb 36 (jB (bsW (rwK x [] [] S i.k)))])
  (inv:=λi=>i.k<=1∧ ∀O∈ [i.O7,i.O8,i.O9,i.O10,i.O11,i.O12],qJ [O] 0=true∧ ∀n,lowO n O) (m:=λi=>1-i.k) ⟨0,0,.emp 0,.emp 0,.emp 0,.emp 0,.emp 0,.emp 0⟩ ⟨nzl _,λO hO=>by
   simp at hO;subst hO;exact⟨rfl,λ_=>trivial⟩⟩ (Wk.temps ?_) ?_
 ·(simp only[go_sem,qg,qc,qb,qf];try (repeat' first|(with_reducible apply aiA)|(apply qh;omega)|(apply qd;rfl)|exact qi))
  done
 rintro⟨k,vb,O7,O8,O9,O10,O11,O12⟩ ⟨i1,i2⟩ K hK;simp only at i1 i2 hK;obtain⟨s7,l7⟩:=i2 O7 (by simp);obtain⟨s8,l8⟩:=i2 O8 (by simp);obtain⟨s9,l9⟩:=i2 O9 (by simp);obtain⟨s10,l10⟩:=i2 O10 (by simp);obtain⟨s11,l11⟩:=i2 O11 (by simp);obtain⟨s12,l12⟩:=i2 O12 (by simp);have s7': ∀m,qJ (O7::m) 0=true:=λ_=>s7
 have s8': ∀m,qJ (O8::m) 0=true:=λ_=>s8
 by_cases hk:k<=0
 case neg=>
  have q1:((k:Int)<(1:Int))=False:=wm;have eR:rwK x [] [] S k=rwA x [] [] S:=by unfold rwK;rw[lnl,ine hk]
  rw[eR]
  by_cases g5:1024<(rwA x [] [] S).length
  ·have q5:((1024:Int)<(rwA x [] [] S).length)=True:=wj;simp only[ipo g5];simp (disch:=omega) only[q1,q5,go_sem]
   repeat' first|(apply qa;exact rvk;simp only[go_sem])|with_reducible apply aiA|exact clz|fail
   exact VLe.tup ⟨qW,qi,trivial⟩
  ·have q5:((1024:Int)<(rwA x [] [] S).length)=False:=wm;simp only[ine g5];simp (disch:=omega) only[q1,q5,go_sem]
   repeat' first|(apply qa;exact rvk;simp only[go_sem])|with_reducible apply aiA|exact clz|fail
   exact VLe.tup ⟨qb8 (km _).symm,qi,trivial⟩
 have q1:((k:Int)<(1:Int))=True:=wj;have q2:(0<=(k:Int))=True:=wj;have hk0:k=0:=by omega
 have hMl:MC.length=3:=by rw[hMC];rfl
 have q3:(k*3+3<=MC.length)=True:=wj;have eR:rwK x [] [] S k=rwL x [] [] S k:=by unfold rwK;rw[lnl,ipo hk]
 have eN:nxT x [] k=jb [] k:=by unfold nxT;rw[lnl,ipo hk]
 rw[eR,eN];obtain⟨f,hf⟩:=wg x.col.length
 obtain⟨t',ht'⟩:=wg x.col.length
 obtain⟨RV,hRV⟩:=wg AV.nl
 have eM:List.take 3 (List.drop (k*3) MC)= [.int .i64 (f:Int),.int .i64 (t':Int),RV]:=by rw[hk0,hMC,hf,ht',hRV];rfl
 have a5:jb [] k<=f:=by rw[hk0];exact nzl _
 have a6:f<=x.col.length:=by omega
 have lRV: ∀n,qS n RV=true:=λn=>by rw[hRV];rfl
 have c3:=λh=>qzn x (jb [] k) f S h
 have hit:=itS x S (jb [] k) f hz ho hSl a6 a5;have hpF:=Sj ho hSl (f:=jb [] k) (d:=f-jb [] k) om;obtain⟨ps,hps⟩:=wg (spk x S (jb [] k) (f-jb [] k))
 have hxl:(spX x S (jb [] k) (f-jb [] k))=ps.map λp=> [.agg (pcC p)]:=by unfold spX;rw[hps]
 rw[hxl]at hit;rw[<-hps]at hpF;unfold coC at c3 hit;simp (disch:=omega) only[q1,q2,q3,eM,s7',s8',go_sem]
 repeat' first|(refine cA (c3 _) flk ?_;simp (disch:=omega) only[go_sem])|with_reducible apply aiA|exact clz|fail
 obtain⟨L0,hL0⟩:=wg (rwL x [] [] S k)
 have hLF: ∀r∈L0,PcF r.p:=by rw[hL0];exact qd2 ho hus hSl (λi hi=>absurd hi (by simp)) hk
 have hLn:(L0++rwM ps (-1) (-1)).length<=1000000000:=by
  refine Nat.le_trans ?_ hN;rw[hL0,hps,hf,hk0];exact nlr _
 rw[<-hL0];obtain⟨P7,hP7⟩:=wg (AObj.mem (qn (some O7)+1) 3 [.int .i64 (k:Int)])
 obtain⟨P8,hP8⟩:=wg (AObj.mem (qn (some O8)+1) 64 [.int .i64 (f:Int),.int .i64 (t':Int),RV])
 have hP7l:qJ [P7] 0=true∧ ∀n,lowO n P7:=by
  rw[hP7];refine⟨rfl,λn c hc=> ?_⟩;rw[List.mem_singleton]at hc;subst hc;rfl
 have hP8l:qJ [P8] 0=true∧ ∀n,lowO n P8:=by
  rw[hP8];refine⟨rfl,λn c hc=> ?_⟩;simp only[List.mem_cons,List.not_mem_nil,or_false]at hc;rcases hc with rfl|rfl|rfl
  ·rfl
  ·rfl
  ·exact lRV n
 have cP7: ∀m,cellsOf (P7::m) 0 (qn (some O7)+1)=some [.int .i64 (k:Int)]:=λm=>by rw[hP7];simp only[go_sem]
 rw[<-hP7,<-hP8];have lP: ∀L:List Rw,∀v n,lowO n (qZ v 36 (jB (bsW L))):=λL v n=>ji (qai _ n)
 have hLow: ∀(L M:List Rw) (v w:Nat) O A,(∀n,lowO n A)->LowI (h++ [.mem 1 26 [.str x.sec,strs x.sig,qm x.tok,qp x.col],.emp 1,.emp 2,.mem 1 29 [.osl (h.length+15) w 7 0 M.length],.mem 1 121 [.fn (.func 80) [] [.op (h.length+3) 1 0]],O5,.mem 1 64 MC,P7,P8,O,O10,O11,O12,.emp 0,.emp 0,qZ w 36 (jB (bsW M))])
   (h++ [.mem 1 26 [.str x.sec,strs x.sig,qm x.tok,qp x.col],.emp 1,.emp 2,.mem 1 29 [.osl (h.length+15) v 7 0 L.length],.mem 1 121 [.fn (.func 80) [] [.op (h.length+3) 1 0]],O5,.mem 1 64 MC,P7,P8,A,O10,O11,O12,.emp 0,.emp 0,qZ v 36 (jB (bsW L))]):=λL M v w O A lA=>by
  refine⟨by simp,λo ho=> ?_⟩;rcases List.mem_append.1 ho with h1|h1
  ·exact .inl (List.mem_append_left _ h1)
  ·simp only[List.mem_cons,List.not_mem_nil,or_false]at h1;rcases h1 with rfl|rfl|rfl|rfl|rfl|rfl|rfl|rfl|rfl|rfl|rfl|rfl|rfl|rfl|rfl|rfl
   ·left;simp
   ·left;simp
   ·left;simp
   ·right;refine⟨λc hc=> ?_,λc hc=> ?_⟩<;>
    ·rw[List.mem_singleton]at hc;subst hc;simp[qS]
     try omega
   ·left;simp
   ·left;simp
   ·left;simp
   ·left;simp
   ·left;simp
   ·right;exact⟨lA _,lA _⟩
   ·left;simp
   ·left;simp
   ·left;simp
   ·left;simp
   ·left;simp
   ·right;exact⟨lP _ _ _,lP _ _ _⟩
 refine zh hit (λa ha=> ?_)
  (S:=λi hh=> ∃A,qJ [A] 0=true∧(∀n,lowO n A)∧hh=h++ [.mem 1 26 [.str x.sec,strs x.sig,qm x.tok,qp x.col],.emp 1,.emp 2,.mem 1 29 [.osl (h.length+15) (vb+i) 7 0 (L0++rwM (ps.take i) (-1) (-1)).length],.mem 1 121 [.fn (.func 80) [] [.op (h.length+3) 1 0]],O5,.mem 1 64 MC,P7,P8,A,O10,O11,O12,.emp 0,.emp 0,qZ (vb+i) 36 (jB (bsW (L0++rwM (ps.take i) (-1) (-1))))]) (E:=λ_ _=>False) ?_ ?_ ?_ ?_ ?_ ?_ ?_
 ·obtain⟨c,_,rfl⟩:=List.mem_map.1 ha;rfl
 ·rintro i hh ⟨A,_,lA,rfl⟩;exact hLow _ _ _ _ _ _ lA
 ·intro s hh hf;exact hf.elim
 ·exact⟨O9,s9,l9,by simp[rwM]⟩
 ·simp[qS,qS.lowVs]
  repeat' apply aiA
  all_goals first|rfl|omega|exact lRV _
 ·rintro i hh tl LI TS hi ⟨A,sA,lA,rfl⟩ hlen K1 K2 hK1 hN1 hR1 hX1;have hi':i<ps.length:=by rw[List.length_map]at hi;exact hi
  rw[List.getElem_map];have sA': ∀m,qJ (A::m) 0=true:=λ_=>sA
  have hS:L0++rwM (ps.take (i+1)) (-1) (-1)=(L0++rwM (ps.take i) (-1) (-1))++ [⟨ps.getD i default,-1,-1⟩]:=by
   unfold rwM;rw[List.take_add_one,zn hi',List.map_append,gdqA,zn hi',List.append_assoc];rfl
  have eG:ps[i]=ps.getD i default:=by rw[gdqA,zn hi'];rfl
  rw[eG];have hpm:ps.getD i default∈ps:=zJ hi';obtain⟨p,hp'⟩:=wg (ps.getD i default)
  rw[<-hp']at hS hpm ⊢;obtain⟨M,hM⟩:=wg (L0++rwM (ps.take i) (-1) (-1))
  have hMF: ∀r∈M,PcF r.p:=λr hr=>by
   rw[hM]at hr;rcases List.mem_append.1 hr with hr|hr
   ·exact hLF r hr
   ·exact hpF _ (List.mem_of_mem_take (zV.1 hr).1)
  have hMn:M.length<=1000000000:=by
   rw[hM,lap,jG,List.length_take];rw[lap,jG]at hLn;omega
  rw[<-hM]at hS ⊢;simp only[kg,List.append_assoc,lca,lna];simp (disch:=omega) only[sA',pcC,tkC,go_sem];refine hK1 _ _ (h++ [.mem 1 26 [.str x.sec,strs x.sig,qm x.tok,qp x.col],.emp 1,.emp 2,.mem 1 29 [.osl (h.length+15) (vb+i) 7 0 M.length],.mem 1 121 [.fn (.func 80) [] [.op (h.length+3) 1 0]],O5,.mem 1 64 MC,P7,P8,(.mem (qn (some A)+1) 120 (pcC p)),O10,O11,O12,.emp 0,.emp 0,qZ (vb+i) 36 (jB (bsW M))]) ?_ ?_ ?_
  ·simp[pcC,tkC]
  ·simp
  ·simp only[List.append_assoc,lca,lna];simp (disch:=omega) only[pcC,tkC,go_sem]
   repeat' first|with_reducible apply aiA|exact clz|fail
   refine qO (quy (a:=h.length+3) (b:=h.length+15) (c:=h.length) (va:=1) (vb:=vb+i) (Z:= .mem 1 26 [.str x.sec,strs x.sig,qm x.tok,qp x.col]) ⟨by simp,by simp,by simp,om,om,om⟩ M p (-1) (-1) (by simp only[go_sem]) (by simp only[go_sem]) (by simp only[go_sem]) (by rw[<-hX0];exact lX0) (hpF p hpm) hMn hMF) ?_;simp (disch:=omega) only[go_sem];refine hN1 _ _ (h++ [.mem 1 26 [.str x.sec,strs x.sig,qm x.tok,qp x.col],.emp 1,.emp 2,.mem 1 29 [.osl (h.length+15) (vb+(i+1)) 7 0 (M++ [(⟨p,-1,-1⟩:Rw)]).length],.mem 1 121 [.fn (.func 80) [] [.op (h.length+3) 1 0]],O5,.mem 1 64 MC,P7,P8,(.mem (qn (some A)+1) 120 (pcC p)),O10,O11,O12,.emp 0,.emp 0,qZ (vb+(i+1)) 36 (jB (bsW (M++ [(⟨p,-1,-1⟩:Rw)])))]) ?_ ?_ ⟨_,rfl,?_,by rw[hS]⟩
   ·simp[pcC,tkC,Nat.add_assoc]
   ·simp
   ·intro n c hc;simp[pcC,tkC]at hc;rcases hc with rfl|rfl|rfl|rfl|rfl|rfl|rfl<;>rfl
 ·rintro hh ⟨A,sA,lA,rfl⟩;rw[List.length_map,List.take_length];obtain⟨L1,hL1⟩:=wg (L0++rwM ps (-1) (-1))
  rw[<-hL1]
  by_cases hkl:k<0
  case neg=>
   have hke:k=0:=by omega
   obtain⟨b1,b2⟩:f=x.col.length∧t'=x.col.length:=⟨hf,ht'⟩
   have q4:((k:Int)=0)=True:=wj;rw[hP7,hP8];simp (disch:=omega) only[q4,go_sem]
   repeat' first|with_reducible apply aiA|exact clz|fail
   rw[<-hP7,<-hP8];have e1:rwK x [] [] S (k+1)=L1:=by
    unfold rwK;rw[ine (by simp),hL1,hL0,hps,b1,hke];rfl
   have e2:nxT x [] (k+1)=t':=by unfold nxT;rw[ine (by simp),b2]
   refine hK _ _ ⟨k+1,vb+ps.length,P7,P8,A,O10,O11,O12⟩ ⟨by simp only;omega,λO hO=> ?_⟩ (by simp only;omega) ?_
   ·simp only[List.mem_cons,List.not_mem_nil,or_false]at hO;rcases hO with rfl|rfl|rfl|rfl|rfl|rfl
    ·exact hP7l
    ·exact hP8l
    ·exact⟨sA,lA⟩
    ·exact⟨s10,l10⟩
    ·exact⟨s11,l11⟩
    ·exact⟨s12,l12⟩
   ·simp only[e1,e2];refine Wk.temps ?_
    (simp only[go_sem,qg,qc,qb,qf];try exact we)
  exact absurd hkl (nnz k)
 ·intro e hh hf;exact hf.elim
theorem qAF(h:wh)(k:Nat)(hk:qJ h k=true):ACalls Tryz.prog 82 [.el] h (.osl k (qn (qr k h)+1) 3 0 0) (qq k h (.mem (qn (qr k h)+1) 64 [])):=by
 refine qby qrH k (by simp) ?_;simp only[lco,lnl,Nat.reduceAdd,Nat.reduceSub,List.replicate,lca,lna];simp (disch:=omega) only[qz5,go_sem]
 repeat' first|(with_reducible apply aiA)
 all_goals first
  |omega
  |contradiction
  |skip
 all_goals try rfl
 exact⟨h.length+1,2,3,0,0,64,[],_,⟨trivial,trivial⟩,rfl,rfl,om,by simp only[go_sem],(λc hc=>by cases hc),hk,rfl,rfl⟩
theorem qAY(x:Co)(d:List Dc)(s:Int)(h:wh)(hz:qaN x)(hp:kY SG h)(hg:jh h frmN frmC)(hd:d.length<=1000000)(ht: ∀o∈d,o.txt.length<=1000)(hN0:vaE x []=0->(rwA x [] d s.toNat).length<=1000000000):
  ACalls Tryz.prog 25 [.agg (coC x),.el,kz d,.int .i64 s] h (.tup [jD (esR x [] d s),.int .i64 (esE x [] d s)]) h:=by
 have hu:qbx []:=⟨by simp,λi=>by simp;exact nzl _,λi j=>by simp;exact nzl _,λi j=>by simp;exact nzl _⟩
 have c1:=λl'=>(qq8 x [] (h++l') hz hu (hp.app l')).le (args:= [.agg (coC x),.el]) ⟨qi,qpn,trivial⟩ (qi)
 have zu: ∀g l,valL g .len [zA l]= .int .i64 l.length:=λ_ _=>rfl
 have zv: ∀g l,okL g .len [zA l]=True:=λ_ _=>eqt trivial
 have zu1: ∀g l,valL g .len [strs l]= .int .i64 l.length:=λ_ _=>rfl
 have zv1: ∀g l,okL g .len [strs l]=True:=λ_ _=>eqt trivial
 have hE:esE x [] d s=(if vaE x []≠0 then vaE x [] else if s<0∨(x.sig.length:Int)<=s then 2 else if Ur x [] d≠0 then Ur x [] d else if 1024<(rwA x [] d s.toNat).length then 4 else 0):=rfl;unfold esR
 by_cases g:vaE x []=0
 case neg=>
  have k1:(vaE x []=0)=False:=eqf g;rw[ipo g]at hE;rw[hE,ine g];unfold coC at c1;refine acO S8 ?_;simp (disch:=omega) only[qdA,coC,go_sem]
  repeat' first|(refine cA (c1 _) flk ?_;simp (disch:=omega) only[k1,go_sem])|(apply qa;exact rvk;simp only[go_sem])
  exact VLe.tup ⟨qW,qi,trivial⟩
 rw[ine (by simpa using g)]at hE;have hN:=hN0 g;simp only[g]at c1;obtain⟨hca,hus,hcv⟩:=qdu g;have ho:=SU hca
 by_cases g2:s<0
 ·have k2:(s<0)=True:=eqt g2;rw[ipo (.inl g2)]at hE;rw[hE,ine (by decide)];unfold coC at c1;refine acO S8 ?_;simp (disch:=omega) only[qdA,coC,go_sem]
  repeat' first|(refine cA (c1 _) flk ?_;simp (disch:=omega) only[k2,go_sem])|(apply qa;exact rvk;simp only[go_sem])
  exact VLe.tup ⟨qW,qi,trivial⟩
 have k2:(s<0)=False:=eqf g2
 by_cases g3:(x.sig.length:Int)<=s
 ·have k3:((x.sig.length:Int)<=s)=True:=eqt g3;rw[ipo (.inr g3)]at hE;rw[hE,ine (by decide)];unfold coC at c1;refine acO S8 ?_;simp (disch:=omega) only[qdA,coC,go_sem]
  repeat' first|(refine cA (c1 _) flk ?_;simp (disch:=omega) only[k2,k3,zu1,zv1,go_sem])|(apply qa;exact rvk;simp only[go_sem])
  exact VLe.tup ⟨qW,qi,trivial⟩
 have k3:((x.sig.length:Int)<=s)=False:=eqf g3;rw[ine (λe=>e.elim g2 g3)]at hE;have c2:=λl'=>(qBG x [] d (h++l') hz hu (hp.app l') hg.app hca hd ht).le (args:= [.agg (coC x),.el,kz d]) ⟨qi,qpn,qi,trivial⟩ (qi)
 unfold qyN at c2
 by_cases g4:Ur x [] d=0
 case neg=>
  have k4:(Ur x [] d=0)=False:=eqf g4;simp only[ine g4]at c2;rw[ipo g4]at hE;rw[hE,ine g4];unfold coC at c1 c2;refine acO S8 ?_;simp (disch:=omega) only[qdA,coC,go_sem]
  repeat' first|((first|refine cA (c1 _) ?_ ?_|refine cA (c2 _) ?_ ?_);exact flk;simp (disch:=omega) only[k2,k3,k4,zu1,zv1,go_sem])|(apply qa;exact rvk;simp only[go_sem])|with_reducible apply aiA|exact clz|fail
  exact VLe.tup ⟨qW,qi,trivial⟩
 rw[ine (by simpa using g4)]at hE;simp only[g4,if_true]at c2;rw[hE];unfold coC at c1 c2;refine acO S8 ?_;simp (disch:=omega) only[qdA,coC,go_sem]
 repeat' first|((first|refine cA (c1 _) ?_ ?_|refine cA (c2 _) ?_ ?_);exact flk;simp (disch:=omega) only[k2,k3,zu1,zv1,go_sem])|with_reducible apply aiA|exact clz|fail
 have hd0:d= []:=by
  cases d with
  |nil=>rfl
  |cons o r=>
   exfalso
   have:=g4
   unfold Ur at this;split at this
   ·cases this
   ·have h0:=jq.1 this 0 (by simp);have h1:=(Sm h0).2.2.2.2.1;have h2:FU x [] ((o::r).getD 0 default)= -1:=rfl;omega
 subst hd0;have zi: ∀g l,valL g .len [qy l]= .int .i64 l.length:=λ_ _=>rfl
 have zj: ∀g l,okL g .len [qy l]=True:=λ_ _=>eqt trivial
 have ePL:(plG x [] [] ([]:List Dc).length).length=0:=rfl;refine qv (qy3 (j:=h.length+2) (-1) (List.drop 1 (zQ [.int .i64 0] 1)) ?j1) (by exact flk) ?_
 case j1=>simp only[go_sem]
 simp (disch:=omega) only[zi,zj,go_sem];refine qu (T:=λ_:Unit=>zf 154 [(1,.el),(3,.int .i64 s),(4,.op h.length 1 0),(13,qy []),(56,.int .i64 0),(57,.int .i64 0)])
  (H:=λ_=>h++ [.mem 1 26 [.str x.sec,strs x.sig,qm x.tok,qp x.col],.emp 1,.emp 2,.emp 0,.emp 0,.emp 0,.emp 0,.emp 0,.emp 0,.emp 0,.emp 0,.emp 0,.emp 0,.emp 0,.emp 0,.emp 0])
  (inv:=λ_=>True) (m:=λ_=>0) () trivial (Wk.temps ?_) ?_
 ·(simp only[go_sem,qg,qc,qb,qf];try exact we)
 rintro⟨⟩-K hK;have q1:((0:Int)<0)=False:=wm;simp (disch:=omega) only[q1,go_sem];refine⟨_,_,Wk.ownNil (j:=h.length+3) (i:=0) (k:=h.length+15) (v:=1) (ty:=29) (cs:= [.nl]) (ve:=0) (sz:=7) ?m1 rfl ?m2,?_⟩
 case m1=>simp only[go_sem]
 case m2=>simp only[go_sem]
 simp (disch:=omega) only[List.set_cons_zero,go_sem];have bne5:(h.length+14 !=h.length+5)=true:=by simp
 have zc: ∀g l,valL g .len [qp l]= .int .i64 l.length:=λ_ _=>rfl
 have zd: ∀g l,okL g .len [qp l]=True:=λ_ _=>eqt trivial
 refine jV ?T ?H ?h1 ?h2
 case h1=>
  simp (disch:=omega) only[zc,zd,go_sem]
  repeat' first|(with_reducible apply aiA)|(refine qv (qAF _ (h.length+14) (by simp only[go_sem])) (by exact flk) ?_;simp (disch:=omega) only[zc,zd,go_sem])
  all_goals first
   |omega
   |rfl
   |exact bne5
 case h2=>
 simp (disch:=omega) only[go_sem];obtain⟨S,hS⟩: ∃S:Nat,s=S:=⟨s.toNat,om⟩
 subst hS;rw[itn]at hN ⊢;have hSl:S<x.sig.length:=by omega
 obtain⟨MC,hMC⟩:=wg ( [AV.int .i64 x.col.length,.int .i64 x.col.length,.nl])
 rw[<-hMC];obtain⟨O5,hO5⟩:=wg (AObj.mem 1 64 (AV.int .i64 x.col.length:: .int .i64 x.col.length:: .nl::List.drop 3 (zQ [.int .i64 0,.int .i64 0,.nl] 1)))
 rw[<-hO5];obtain⟨X0,hX0⟩:=wg (AObj.mem 1 26 [.str x.sec,strs x.sig,qm x.tok,qp x.col])
 have lX0: ∀n,lowO n X0:=by
  intro n;rw[hX0];intro c hc;simp at hc;rcases hc with rfl|rfl|rfl|rfl<;>rfl
 refine qu (T:=λi:EsS=>zf 154 [(1,.el),(3,.int .i64 (S:Int)),(4,.op h.length 1 0),(13,qy []),(16,.op (h.length+3) 1 0),(17,.op (h.length+4) 1 0),(18,.int .i64 (nxT x [] i.k:Int)),(78,.osl (h.length+14) 2 3 0 1),(79,.int .i64 1),(80,.int .i64 i.k)])
  (H:=λi=>h++ [.mem 1 26 [.str x.sec,strs x.sig,qm x.tok,qp x.col],.emp 1,.emp 2,.mem 1 29 [.osl (h.length+15) i.vb 7 0 (rwK x [] [] S i.k).length],.mem 1 121 [.fn (.func 80) [] [.op (h.length+3) 1 0]],O5,.emp 0,i.O7,i.O8,i.O9,i.O10,i.O11,i.O12,.emp 0,.mem 2 64 MC,qZ i.vb 36 (jB (bsW (rwK x [] [] S i.k)))])
  (inv:=λi=>i.k<=1∧ ∀O∈ [i.O7,i.O8,i.O9,i.O10,i.O11,i.O12],qJ [O] 0=true∧ ∀n,lowO n O) (m:=λi=>1-i.k) ⟨0,0,.emp 0,.emp 0,.emp 0,.emp 0,.emp 0,.emp 0⟩ ⟨nzl _,λO hO=>by
   simp at hO;subst hO;exact⟨rfl,λ_=>trivial⟩⟩ (Wk.temps ?_) ?_
 ·(simp only[go_sem,qg,qc,qb,qf];try (repeat' first|(with_reducible apply aiA)|(apply qh;omega)|(apply qd;rfl)|exact qi))
  done
 rintro⟨k,vb,O7,O8,O9,O10,O11,O12⟩ ⟨i1,i2⟩ K hK;simp only at i1 i2 hK;obtain⟨s7,l7⟩:=i2 O7 (by simp);obtain⟨s8,l8⟩:=i2 O8 (by simp);obtain⟨s9,l9⟩:=i2 O9 (by simp);obtain⟨s10,l10⟩:=i2 O10 (by simp);obtain⟨s11,l11⟩:=i2 O11 (by simp);obtain⟨s12,l12⟩:=i2 O12 (by simp);have s7': ∀m,qJ (O7::m) 0=true:=λ_=>s7
 have s8': ∀m,qJ (O8::m) 0=true:=λ_=>s8
 by_cases hk:k<=0
 case neg=>
  have q1:((k:Int)<(1:Int))=False:=wm;have eR:rwK x [] [] S k=rwA x [] [] S:=by unfold rwK;rw[lnl,ine hk]
  rw[eR]
  by_cases g5:1024<(rwA x [] [] S).length
  ·have q5:((1024:Int)<(rwA x [] [] S).length)=True:=wj;simp only[ipo g5];simp (disch:=omega) only[q1,q5,go_sem]
   repeat' first|(apply qa;exact rvk;simp only[go_sem])|with_reducible apply aiA|exact clz|fail
   exact VLe.tup ⟨qW,qi,trivial⟩
  ·have q5:((1024:Int)<(rwA x [] [] S).length)=False:=wm;simp only[ine g5];simp (disch:=omega) only[q1,q5,go_sem]
   repeat' first|(apply qa;exact rvk;simp only[go_sem])|with_reducible apply aiA|exact clz|fail
   exact VLe.tup ⟨qb8 (km _).symm,qi,trivial⟩
 have q1:((k:Int)<(1:Int))=True:=wj;have q2:(0<=(k:Int))=True:=wj;have hk0:k=0:=by omega
 have hMl:MC.length=3:=by rw[hMC];rfl
 have q3:(k*3+3<=MC.length)=True:=wj;have eR:rwK x [] [] S k=rwL x [] [] S k:=by unfold rwK;rw[lnl,ipo hk]
 have eN:nxT x [] k=jb [] k:=by unfold nxT;rw[lnl,ipo hk]
 rw[eR,eN];obtain⟨f,hf⟩:=wg x.col.length
 obtain⟨t',ht'⟩:=wg x.col.length
 obtain⟨RV,hRV⟩:=wg AV.nl
 have eM:List.take 3 (List.drop (k*3) MC)= [.int .i64 (f:Int),.int .i64 (t':Int),RV]:=by rw[hk0,hMC,hf,ht',hRV];rfl
 have a5:jb [] k<=f:=by rw[hk0];exact nzl _
 have a6:f<=x.col.length:=by omega
 have lRV: ∀n,qS n RV=true:=λn=>by rw[hRV];rfl
 have c3:=λh=>qzn x (jb [] k) f S h
 have hit:=itS x S (jb [] k) f hz ho hSl a6 a5;have hpF:=Sj ho hSl (f:=jb [] k) (d:=f-jb [] k) om;obtain⟨ps,hps⟩:=wg (spk x S (jb [] k) (f-jb [] k))
 have hxl:(spX x S (jb [] k) (f-jb [] k))=ps.map λp=> [.agg (pcC p)]:=by unfold spX;rw[hps]
 rw[hxl]at hit;rw[<-hps]at hpF;unfold coC at c3 hit;simp (disch:=omega) only[q1,q2,q3,eM,s7',s8',go_sem]
 repeat' first|(refine cA (c3 _) flk ?_;simp (disch:=omega) only[go_sem])|with_reducible apply aiA|exact clz|fail
 obtain⟨L0,hL0⟩:=wg (rwL x [] [] S k)
 have hLF: ∀r∈L0,PcF r.p:=by rw[hL0];exact qd2 ho hus hSl (λi hi=>absurd hi (by simp)) hk
 have hLn:(L0++rwM ps (-1) (-1)).length<=1000000000:=by
  refine Nat.le_trans ?_ hN;rw[hL0,hps,hf,hk0];exact nlr _
 rw[<-hL0];obtain⟨P7,hP7⟩:=wg (AObj.mem (qn (some O7)+1) 3 [.int .i64 (k:Int)])
 obtain⟨P8,hP8⟩:=wg (AObj.mem (qn (some O8)+1) 64 [.int .i64 (f:Int),.int .i64 (t':Int),RV])
 have hP7l:qJ [P7] 0=true∧ ∀n,lowO n P7:=by
  rw[hP7];refine⟨rfl,λn c hc=> ?_⟩;rw[List.mem_singleton]at hc;subst hc;rfl
 have hP8l:qJ [P8] 0=true∧ ∀n,lowO n P8:=by
  rw[hP8];refine⟨rfl,λn c hc=> ?_⟩;simp only[List.mem_cons,List.not_mem_nil,or_false]at hc;rcases hc with rfl|rfl|rfl
  ·rfl
  ·rfl
  ·exact lRV n
 have cP7: ∀m,cellsOf (P7::m) 0 (qn (some O7)+1)=some [.int .i64 (k:Int)]:=λm=>by rw[hP7];simp only[go_sem]
 rw[<-hP7,<-hP8];have lP: ∀L:List Rw,∀v n,lowO n (qZ v 36 (jB (bsW L))):=λL v n=>ji (qai _ n)
 have hLow: ∀(L M:List Rw) (v w:Nat) O A,(∀n,lowO n A)->LowI (h++ [.mem 1 26 [.str x.sec,strs x.sig,qm x.tok,qp x.col],.emp 1,.emp 2,.mem 1 29 [.osl (h.length+15) w 7 0 M.length],.mem 1 121 [.fn (.func 80) [] [.op (h.length+3) 1 0]],O5,.emp 0,P7,P8,O,O10,O11,O12,.emp 0,.mem 2 64 MC,qZ w 36 (jB (bsW M))])
   (h++ [.mem 1 26 [.str x.sec,strs x.sig,qm x.tok,qp x.col],.emp 1,.emp 2,.mem 1 29 [.osl (h.length+15) v 7 0 L.length],.mem 1 121 [.fn (.func 80) [] [.op (h.length+3) 1 0]],O5,.emp 0,P7,P8,A,O10,O11,O12,.emp 0,.mem 2 64 MC,qZ v 36 (jB (bsW L))]):=λL M v w O A lA=>by
  refine⟨by simp,λo ho=> ?_⟩;rcases List.mem_append.1 ho with h1|h1
  ·exact .inl (List.mem_append_left _ h1)
  ·simp only[List.mem_cons,List.not_mem_nil,or_false]at h1;rcases h1 with rfl|rfl|rfl|rfl|rfl|rfl|rfl|rfl|rfl|rfl|rfl|rfl|rfl|rfl|rfl|rfl
   ·left;simp
   ·left;simp
   ·left;simp
   ·right;refine⟨λc hc=> ?_,λc hc=> ?_⟩<;>
    ·rw[List.mem_singleton]at hc;subst hc;simp[qS]
     try omega
   ·left;simp
   ·left;simp
   ·left;simp
   ·left;simp
   ·left;simp
   ·right;exact⟨lA _,lA _⟩
   ·left;simp
   ·left;simp
   ·left;simp
   ·left;simp
   ·left;simp
   ·right;exact⟨lP _ _ _,lP _ _ _⟩
 refine zh hit (λa ha=> ?_)
  (S:=λi hh=> ∃A,qJ [A] 0=true∧(∀n,lowO n A)∧hh=h++ [.mem 1 26 [.str x.sec,strs x.sig,qm x.tok,qp x.col],.emp 1,.emp 2,.mem 1 29 [.osl (h.length+15) (vb+i) 7 0 (L0++rwM (ps.take i) (-1) (-1)).length],.mem 1 121 [.fn (.func 80) [] [.op (h.length+3) 1 0]],O5,.emp 0,P7,P8,A,O10,O11,O12,.emp 0,.mem 2 64 MC,qZ (vb+i) 36 (jB (bsW (L0++rwM (ps.take i) (-1) (-1))))]) (E:=λ_ _=>False) ?_ ?_ ?_ ?_ ?_ ?_ ?_
 ·obtain⟨c,_,rfl⟩:=List.mem_map.1 ha;rfl
 ·rintro i hh ⟨A,_,lA,rfl⟩;exact hLow _ _ _ _ _ _ lA
 ·intro s hh hf;exact hf.elim
 ·exact⟨O9,s9,l9,by simp[rwM]⟩
 ·simp[qS,qS.lowVs]
  repeat' apply aiA
  all_goals first|rfl|omega|exact lRV _
 ·rintro i hh tl LI TS hi ⟨A,sA,lA,rfl⟩ hlen K1 K2 hK1 hN1 hR1 hX1;have hi':i<ps.length:=by rw[List.length_map]at hi;exact hi
  rw[List.getElem_map];have sA': ∀m,qJ (A::m) 0=true:=λ_=>sA
  have hS:L0++rwM (ps.take (i+1)) (-1) (-1)=(L0++rwM (ps.take i) (-1) (-1))++ [⟨ps.getD i default,-1,-1⟩]:=by
   unfold rwM;rw[List.take_add_one,zn hi',List.map_append,gdqA,zn hi',List.append_assoc];rfl
  have eG:ps[i]=ps.getD i default:=by rw[gdqA,zn hi'];rfl
  rw[eG];have hpm:ps.getD i default∈ps:=zJ hi';obtain⟨p,hp'⟩:=wg (ps.getD i default)
  rw[<-hp']at hS hpm ⊢;obtain⟨M,hM⟩:=wg (L0++rwM (ps.take i) (-1) (-1))
  have hMF: ∀r∈M,PcF r.p:=λr hr=>by
   rw[hM]at hr;rcases List.mem_append.1 hr with hr|hr
   ·exact hLF r hr
   ·exact hpF _ (List.mem_of_mem_take (zV.1 hr).1)
  have hMn:M.length<=1000000000:=by
   rw[hM,lap,jG,List.length_take];rw[lap,jG]at hLn;omega
  rw[<-hM]at hS ⊢;simp only[kg,List.append_assoc,lca,lna];simp (disch:=omega) only[sA',pcC,tkC,go_sem];refine hK1 _ _ (h++ [.mem 1 26 [.str x.sec,strs x.sig,qm x.tok,qp x.col],.emp 1,.emp 2,.mem 1 29 [.osl (h.length+15) (vb+i) 7 0 M.length],.mem 1 121 [.fn (.func 80) [] [.op (h.length+3) 1 0]],O5,.emp 0,P7,P8,(.mem (qn (some A)+1) 120 (pcC p)),O10,O11,O12,.emp 0,.mem 2 64 MC,qZ (vb+i) 36 (jB (bsW M))]) ?_ ?_ ?_
  ·simp[pcC,tkC]
  ·simp
  ·simp only[List.append_assoc,lca,lna];simp (disch:=omega) only[pcC,tkC,go_sem]
   repeat' first|with_reducible apply aiA|exact clz|fail
   refine qO (quy (a:=h.length+3) (b:=h.length+15) (c:=h.length) (va:=1) (vb:=vb+i) (Z:= .mem 1 26 [.str x.sec,strs x.sig,qm x.tok,qp x.col]) ⟨by simp,by simp,by simp,om,om,om⟩ M p (-1) (-1) (by simp only[go_sem]) (by simp only[go_sem]) (by simp only[go_sem]) (by rw[<-hX0];exact lX0) (hpF p hpm) hMn hMF) ?_;simp (disch:=omega) only[go_sem];refine hN1 _ _ (h++ [.mem 1 26 [.str x.sec,strs x.sig,qm x.tok,qp x.col],.emp 1,.emp 2,.mem 1 29 [.osl (h.length+15) (vb+(i+1)) 7 0 (M++ [(⟨p,-1,-1⟩:Rw)]).length],.mem 1 121 [.fn (.func 80) [] [.op (h.length+3) 1 0]],O5,.emp 0,P7,P8,(.mem (qn (some A)+1) 120 (pcC p)),O10,O11,O12,.emp 0,.mem 2 64 MC,qZ (vb+(i+1)) 36 (jB (bsW (M++ [(⟨p,-1,-1⟩:Rw)])))]) ?_ ?_ ⟨_,rfl,?_,by rw[hS]⟩
   ·simp[pcC,tkC,Nat.add_assoc]
   ·simp
   ·intro n c hc;simp[pcC,tkC]at hc;rcases hc with rfl|rfl|rfl|rfl|rfl|rfl|rfl<;>rfl
 ·rintro hh ⟨A,sA,lA,rfl⟩;rw[List.length_map,List.take_length];obtain⟨L1,hL1⟩:=wg (L0++rwM ps (-1) (-1))
  rw[<-hL1]
  by_cases hkl:k<0
  case neg=>
   have hke:k=0:=by omega
   obtain⟨b1,b2⟩:f=x.col.length∧t'=x.col.length:=⟨hf,ht'⟩
   have q4:((k:Int)=0)=True:=wj;rw[hP7,hP8];simp (disch:=omega) only[q4,go_sem]
   repeat' first|with_reducible apply aiA|exact clz|fail
   rw[<-hP7,<-hP8];have e1:rwK x [] [] S (k+1)=L1:=by
    unfold rwK;rw[ine (by simp),hL1,hL0,hps,b1,hke];rfl
   have e2:nxT x [] (k+1)=t':=by unfold nxT;rw[ine (by simp),b2]
   refine hK _ _ ⟨k+1,vb+ps.length,P7,P8,A,O10,O11,O12⟩ ⟨by simp only;omega,λO hO=> ?_⟩ (by simp only;omega) ?_
   ·simp only[List.mem_cons,List.not_mem_nil,or_false]at hO;rcases hO with rfl|rfl|rfl|rfl|rfl|rfl
    ·exact hP7l
    ·exact hP8l
    ·exact⟨sA,lA⟩
    ·exact⟨s10,l10⟩
    ·exact⟨s11,l11⟩
    ·exact⟨s12,l12⟩
   ·simp only[e1,e2];refine Wk.temps ?_
    (simp only[go_sem,qg,qc,qb,qf];try exact we)
  exact absurd hkl (nnz k)
 ·intro e hh hf;exact hf.elim
theorem qC4(x:Co)(l:List Un)(d:List Dc)(s:Int)(h:wh)(hz:qaN x)(hu:qbx l)(hp:kY SG h)(hg:jh h frmN frmC)(hd:d.length<=1000000)(ht: ∀o∈d,o.txt.length<=1000)(hN0:vaE x l=0->(rwA x l d s.toNat).length<=1000000000):
  ACalls Tryz.prog 25 [.agg (coC x),zA l,kz d,.int .i64 s] h (.tup [jD (esR x l d s),.int .i64 (esE x l d s)]) h:=by
 cases l with
 |nil=>exact ACalls.sl0 (pre:= [.agg (coC x)]) (post:= [kz d,.int .i64 s]) (qAX x d s h hz hp hg hd ht hN0) (qAY x d s h hz hp hg hd ht hN0)
 |cons u r=>exact qC5 x (u::r) d s h hz hu hp hg (List.cons_ne_nil _ _) hd ht hN0
end RC
end
section
open Go Go.Proofs AF
end
section
open Go Go.Proofs AF
end
section
open Go Go.Proofs AF HY LN
namespace RC
theorem qqF{L:List Rw}{i:Nat}(hi:i<L.length):((bsW L).getD i default).unit=(L.getD i default).u:=by rw[Tv hi];rfl
theorem quN{L:List Rw}{i:Nat}(hi:i<L.length):((bsW L).getD i default).dec=(L.getD i default).d:=by rw[Tv hi];rfl
theorem qpu{L:List Rw}{i:Nat}(hi:i<L.length):((bsW L).getD i default).col=(L.getD i default).p.c:=by rw[Tv hi];rfl
theorem qdI{L:List Rw}{i:Nat}(hi:i<L.length):((bsW L).getD i default).text=(L.getD i default).p.t.text:=by rw[Tv hi];rfl
theorem qaQ.esE{x:Co}{l:List Un}{d:List Dc}{s:Nat}(h:qaQ x l d s):esE x l d s=0:=by
 have h1:vaE x l=0:=by
  unfold vaE;rw[ine (λhc=>hc h.ca),ine];unfold rgB;rw[h.us,h.cv];simp
 have h2:Ur x l d=0:=by
  unfold Ur;rw[ine (by have:=h.dl;omega)];exact jq.2 h.pl
 have:=h.sl
 have:=h.ln
 unfold RC.esE;rw[h1,h2,ine (by simp),ine om,ine (by simp),ine (by rw[itn];omega)]
theorem qmY{x:Co}{l:List Un}{d:List Dc}{s:Nat}(h:qaQ x l d s){i:Nat}(hi:i<(rwA x l d s).length){w:Wd}(hw:w=(bsW (rwA x l d s)).getD i default):
  (0<=w.col∧w.col<x.col.length)∧(w.text≠ []∧w.text.length<=64)∧(-1<=w.dec∧w.dec<d.length)∧fnU l w.col=w.unit∧(w.unit<0->w.dec= -1)∧(i≠0->((bsW (rwA x l d s)).getD (i-1) default).col<=w.col∧((bsW (rwA x l d s)).getD (i-1) default).text.length<=64):=by
 subst hw;obtain⟨g1,g2⟩:=qqf h;have g:=g1 _ (zJ (a:=default) hi);rw[qdI hi,qpu hi,quN hi,qqF hi];refine⟨g.c,g.tx,g.d,g.u,λe=>(g.n e).2,λh0=> ?_⟩;have hj:i-1<(rwA x l d s).length:=by omega
 rw[qpu hj,qdI hj];refine⟨?_,(g1 _ (zJ (a:=default) hj)).tx.2⟩
 have:=List.pairwise_iff_getElem.1 g2 (i-1) i hj hi om
 rw[gdqA,zn hj,gdqA,zn hi];exact this
end RC
end
section
open Go Go.Proofs AF
def qnz:List Nat:= []
def quj:C:=
 (vU [O1 3 (.box 0 26) 0,ON 6 (.nilo 1 3 64) [],ON 7 (.nilo 2 7 36) [],vO 8 0,MC 9 (.bool false)] ((vU [O1 15 (.load (some 4)) 3,O1 16 (.call 28 true) 15,MV 17 16,vQ 18 17 (.load
 (some 4)) 3,vQ 19 17 (.call 29 true) 18,vT 20 17 (.bin .neq) 19 (i6 0),PT 21 17 20,MV 22 21,vS 23 22 1,vQ 24 22 (.call 110 true) 23,PT 25 22 24,MV 26 25,v7 27 26 1 3,v8 28 26
 27,vQ 29 26 .len 28,vT 30 26 (.bin .eql) 29 (i6 0),PT 31 26 30] (vV 31 (vX [ON 6 (.nilo 1 3 64) [],ON 7 (.nilo 2 7 36) [],vO 8 0,MC 9 (.bool false)]))).seq (vU [MV 32 2,O1 33
 (.conv .i64) 32,vN 34 1 3,LD 35 34,O1 36 .len 35,BI 37 .rem 33 36,MV 10 37] (vU [O1 39 (.load (some 4)) 3,O1 40 (.call 31 true) 39,MV 38 40,O1 41 (.ext 0) 38,O1 42 (.ext 1)
 38,MV 11 41,MV 12 42] (vU [O1 44 (.load (some 4)) 3,MV 45 11,MV 46 1,MV 47 10,ON 48 (.call 25 true) [.t 44,.t 45,.t 46,.t 47],MV 43 48,O1 49 (.ext 0) 43,O1 50 (.ext 1) 43,MV 13
 49,MV 14 50] (vX [MV 51 11,MV 52 13,MV 53 10,MV 54 12,vP 55 .eql 54 0,MV 56 55,MG 57 56 true 14,PC 58 56 true (.bin .eql) 57 (i6 0),PF 59 56 58,MV 6 51,MV 7 52,MV 8 53,MV 9
 59]))))))
theorem qjc:qM Tryz.prog 55 60 3 [RV.tmp 6,RV.tmp 7,RV.tmp 8,RV.tmp 9] quj:=fi Tryz.f55 [3,6,7] qnz []
end
